/- Part 3 of a proof. -/
import Derived.Test.YtgejdfnidjnjcaaGreatN2
import Derived.Test.YtgejdfnidjnjcaaGreatProg
import Derived.TacticsInMore
import Derived.Below
set_option linter.unusedVariables false
set_option linter.unusedSimpArgs false
set_option linter.defProp false
set_option linter.unusedSectionVars false
set_option linter.unnecessarySimpa false
namespace Go.Proofs.YtgejdfnidjnjcaaGreat.Vc
open Go.RowKit
def qoN:Operand := .const (.slice none 0 0)
def qgL (t bt:TypeId):Code:=
 (Code.region 0 #[{ dst:=some 2,op := .assign qoN,type:=t,pos := "slices.go:355", after:=#[],guard:=none }] false).seq
  (((Code.region 1 #[{ dst:=some 3,op := .move (.tmp 0),type:=t,pos := "slices.go:357", after:=#[],guard:=none },
    { dst:=some 4,op := .binOp .eql t (.tmp 3) qoN t,type:=bt,pos := "slices.go:357", after:=#[{ on:=0,ground := .data }],guard:=none }] false).seq
   (Code.cond (.tmp 4) ((Code.region 2 #[{ dst:=some 2,op := .assign qoN,type:=t,pos := "slices.go:358", after:=#[],guard:=none }] false).seq Code.ret) Code.skip)).seq
   ((Code.region 3 #[{ dst:=some 5,op := .buildSlice t 0 #[],type:=t,pos := "slices.go:362", after:=#[],guard:=none },
     { dst:=some 6,op := .move (.tmp 0),type:=t,pos := "slices.go:362", after:=#[],guard:=none },
     { dst:=some 7,op := .call { callee := .builtin .append,args:=#[.tmp 5,.tmp 6],argTypes:=#[t,t] },type:=t,pos := "slices.go:362", after:=#[{ on:=0,ground := .data },{ on:=1,ground := .data }],guard:=none },
     { dst:=some 2,op := .assign (.tmp 7),type:=t,pos := "slices.go:362", after:=#[{ on:=2,ground := .data },{ on:=2,ground := .chain },{ on:=0,ground := .phase },{ on:=1,ground := .phase },{ on:=2,ground := .phase }],guard:=none }] false).seq
    Code.ret))
section
variable {P:Program} {T:Ty} {cx:Cx} {ρ:Pl} {s:S} {a:Act} {w:World}
def po1 (z:Nat) (ro:Bool:=false):Pol:={ q:=fun _=>[z],ow:=fun _=>[],fz:=fun _=>false,kp:=fun _ _=>[],kx:=fun _ _=>[],rw:=fun _ _=>[],ro:=fun _=>ro,dm:=fun _ _=>0,an:=fun _ _=>[],rk:=fun _ _=>[],pr:=fun _=>none }
def E0:Orc:=fun _ _ _ _=>none
theorem qy0:Snd P E0:=⟨fun _ _ _ _ _ _ h=>(by cases h),fun _ _ _ _ _ _ _ _ h=>(by cases h)⟩
theorem qEP {q:Nat→List Oper→Bool} {k:Nat}:qEd P q k (fun _ _ _=>none):=fun _ _ _ _ _ _ _ _ h=>by cases h
def XD0 (P:Program) (T:Ty) (z:Nat) (c:Code) (s:S):XS:=XD P T (po1 z) E0 (fun _ _ _=>none) (iter 0) 0 0 c s
theorem qeF (hA:Ag P T) {z:Nat} {c:Code} {s s':S} {e:Exit} {Q:Exit→S→Prop} (hq:qch (fun _ _=>false) false c=true) (hk:cx.k=0) (h:XD0 P T z c s=some (e,s')) (hQ:Q e s'):J P cx c Q s:=
 qpv (n:=0) hA qy0 qEP c s s' e cx Q hq hk (fun h=>by cases h) h hQ
theorem J.nilTest (hA:Ag P T) {id:Nat} {m o:Oper} {x d:Nat} {t t' e:TypeId} {sz n:Nat} {ds:List D} {Q:Exit→S→Prop} (hm:m.op = .move (.tmp x)) (hmg:m.guard=none) (hmd:m.dst=some d) (ho:o.op = .binOp .eql t (.tmp d) qoN t') (hog:o.guard=none)
  (hk:T.k t = .sl e) (hx:s.get x = .c (.d (.sl sz n ds))) (hd:d<s.n) (hod:∀d',o.dst=some d'→d'<s.n)
  (hQ:∀b:Bool,(b=true→n=0∧ds=[])→Q .normal ((s.put (some d) (.c (.d (.sl sz n ds)))).put o.dst (.c (.d (.bool b))))):J P cx (.region id #[m,o] false) Q s:=by
 intro ρ a w hs
 refine wpIn_region_list ?_
 show wpListIn (FW cx.ro) 0 P #[m,o] _ [m,o] a w
 unfold wpListIn
 rw[if_pos (by unfold Region.wanted;rw[hmg])]
 have h1:ox P T s s.nx m.op (fun r s'=>r=s.get x∧s'=s):=by rw[hm];exact⟨rfl,rfl⟩
 refine qei hA (fun h=>by have:=hs.nx _ h;omega) hs h1 ?_
 rintro r s2 ρ1 v w1 ⟨rfl,rfl⟩ hs1 hv
 have hs2:=hs1.put (dst:=m.dst) (fun d' hd'=>by rw[hmd] at hd';injection hd' with hd';rw[←hd'];exact hd) hv
 rw[hmd,hx] at hs2
 unfold wpListIn
 rw[if_pos (by unfold Region.wanted;rw[hog])]
 obtain⟨d0,i,z,ht⟩:=hA.at_ (t:=t) (by rw[hk];simp)
 have hkd:=q70 (ht.kd.trans hk)
 subst hkd
 rw[hx] at hv
 obtain⟨A,cap,q1,q2,q3,q4,q5,q6⟩:=hv.inv_sl
 refine qFi cx.ro ?_ (fun c hc=>by rw[ho] at hc;cases hc)
 have hev:(a.put m.dst v).eval (.tmp d)=v:=by
  rw[hmd]
  show(a.tmps.setIfInBounds d v).getD d undef=v
  have hlt:d<a.tmps.size:=by rw[hs1.size];exact hd
  simp[Array.getD_eq_getD_getElem?,hlt]
 have he:execOp (a.put m.dst v).eval o=(do pure (.value (←(do eqGuard .eql t (.tmp d) qoN ((a.put m.dst v).eval (.tmp d)) ((a.put m.dst v).eval qoN);binOp .eql t ((a.put m.dst v).eval (.tmp d)) ((a.put m.dst v).eval qoN))))):=by unfold execOp;simp only[ho]
 have hr:(do eqGuard .eql t (.tmp d) qoN ((a.put m.dst v).eval (.tmp d)) ((a.put m.dst v).eval qoN);binOp .eql t ((a.put m.dst v).eval (.tmp d)) ((a.put m.dst v).eval qoN):Sem Value).run P w1 = .ok (.bool A.isNone) w1:=by
  rw[hev,q1,eqGuard_at_slice]
  show(do binOp .eql t (.slice A n cap) (.slice none 0 0):Sem Value).run P w1=_
  simp only[binOp,Sem.run_bind]
  unfold Op.equal Op.maxDepth Op.equalIn
  simp only[Sem.run_bind,run_underlying ht.ud,Result.andThen_ok]
  cases A<;>rfl
 refine QF he hr ?_
 unfold wpListIn
 rw[hmd]
 refine⟨_,ρ1,hQ A.isNone (fun hb=>?_),hs2.put hod (.c _ _ (.d _ _ (.bool _)))⟩
 rcases q6 with q6|⟨b,off,f,q6,-⟩
 ·subst q6
  rw[Nat.zero_mul] at q5
  exact⟨rfl,List.eq_nil_of_length_eq_zero q5⟩
 ·rw[q6] at hb;cases hb
theorem qqz (hA:Ag P T) {f:FuncId} {fn:Func} {t e bt:TypeId} (hf:P.funcs[f]?=some fn) (hb:fn.body=some (qgL t bt)) (hname:(fn.name == "runtime.NumGoroutine")=false) (hn:fn.ntmps=8) (hr:fn.results.toList=[.tmp 2])
  (hk:T.k t = .sl e) (he:T.k e ≠ .other) (hz:0<T.sz e) (hzl:(T.zero e).length=T.sz e) {n:Nat} {ds:List D} (hl:ds.length=n*T.sz e) (hm1:n≤maxLen) (hm2:n*T.by_ e≤140737488355328) :
  AC P f [.c (.d (.sl (T.sz e) n ds))] [] 0 fun r hp=>r = .c (.d (.sl (T.sz e) n ds))∧hp=[]:=by
 refine AC.enter2 hA hf hb hname (by rw[hn];show(1:Nat)≤8;omega) (fun cx hk0 hro=>?_)
 rw[hn,hr]
 have fin:∀(s:S) (r:R),s.get 2=r→qep (po1 (T.sz e)) 0 0 [t] s [r]=some (.c (.d (.sl (T.sz e) n ds)),[])→∃rs,rvs T s [.tmp 2]=some rs∧
   ∀ρ a w,Sim cx ρ s a w→∃rs' hp' nx' ρ',(one rs' = .c (.d (.sl (T.sz e) n ds))∧hp'=[])∧Sim cx ρ' (q3S hp' nx') qeQ w∧rs'.length=rs.length∧∀(j:Nat) (r r':R) (v:Value),rs[j]?=some r→rs'[j]?=some r'→RR w s.live ρ v r→RR w (q3S hp' nx').live ρ' v r':=by
  intro s r hr h
  refine⟨[r],by simp[rvs,qsi,hr],fun ρ a w hs=>?_⟩
  obtain⟨rs',nx',ρ',g1,g2,g3,g4⟩:=qcD hk0 h hs
  exact⟨rs',[],nx',ρ',⟨g1.symm,rfl⟩,g2,g3,g4⟩
 unfold qgL
 refine J.seq (qeF (z:=T.sz e) hA (by rfl) hk0 (s':=⟨[(2,.c .nils),(0,.c (.d (.sl (T.sz e) n ds)))],[],0,8⟩) (e := .normal) (by rfl) ?_)
 refine J.seq (J.seq (J.nilTest hA rfl rfl rfl rfl rfl hk (by rfl) (by show(3:Nat)<8;omega) (fun d' h=>by injection h with h;subst h;show(4:Nat)<8;omega) (fun b hb0=>?_)))
 cases b with
 | true=>
  obtain⟨rfl,rfl⟩:=hb0 rfl
  refine J.cond (by rfl) (fun _=>?_) (fun h=>by cases h)
  refine qeF (z:=T.sz e) hA (by rfl) hk0 (s':=⟨[(2,.c .nils),(4,.c (.d (.bool true))),(3,.c (.d (.sl (T.sz e) 0 []))),(2,.c .nils),(0,.c (.d (.sl (T.sz e) 0 [])))],[],0,8⟩) (e := .ret) (by rfl) ?_
  refine⟨.inr rfl,fin _ _ rfl ?_⟩
  have hz0:T.sz e≠0:=by omega
  simp[qep,qkA,qe8,qi2,po1,q7x,R.rows,C.rows,C.rows0,S.frz,qeb,qk3,dzR,dz,one,q67,rng,R.refs,C.refs,C.ref0,cnR,qoP,cn,cn0,cnH,S.get,lk,hz0,S.blk,B.isBlk,R.ptrs,S.frz1,fzR,qoS,fz,fz0,fzB,vis,q7A,hl,List.eraseDups_cons,pos,B.cells]
 | false=>
  refine J.cond (by rfl) (fun h=>by cases h) (fun _=>?_)
  refine J.skip ?_
  have hall:(ds.map C.d).all C.known=true:=by rw[List.all_map];exact List.all_eq_true.2 fun x _=>rfl
  have hfar:(ds.map C.d).all (C.far 0)=true:=by rw[List.all_map];exact List.all_eq_true.2 fun x _=>rfl
  have hdat:(ds.map C.d).all C.dat=true:=by rw[List.all_map];exact List.all_eq_true.2 fun x _=>rfl
  have hfg:(ds.map C.d).map (C.fg 0)=ds.map C.d:=by rw[List.map_map];rfl
  refine qeF (z:=T.sz e) hA (by rfl) hk0 (s':=⟨[(2,.c (.own 0 (T.sz e) 0 n)),(7,.c (.own 0 (T.sz e) 0 n)),(6,.c (.d (.sl (T.sz e) n ds))),(5,.c .any),(4,.c (.d (.bool false))),(3,.c (.d (.sl (T.sz e) n ds))),(2,.c .nils),(0,.c (.d (.sl (T.sz e) n ds)))],[(0,.row e (T.sz e) (ds.map C.d)),(0,.row e (T.sz e) [])],1,8⟩) (e := .ret) ?_ ?_
  ·simp[XD0,XD,xr,xgd,qiw,qrH,ipX,xst,pre,qBJ,qd3,q7x,R.rows,S.frz,xo,xCl,q3q,bld,q9d,S.seq,S.ev,S.get,lk,S.put,S.up,S.fg,R.fg,C.fg,B.fg,S.blk,hk,he,hz,hzl,hl,hm1,hm2,hall,hfar,qfj,sqD,q5X,tt,C.known,C.far]
  ·refine⟨.inr rfl,fin _ _ rfl ?_⟩
   have hz0:T.sz e≠0:=by omega
   simp[qep,qkA,qe8,qi2,po1,q7x,R.rows,C.rows,C.rows0,S.frz,qeb,qk3,dzR,dz,one,q67,rng,R.refs,C.refs,C.ref0,cnR,qoP,cn,cn0,cnH,S.get,lk,hz0,S.blk,B.isBlk,R.ptrs,S.frz1,fzR,qoS,fz,fz0,fzB,vis,q7A,hl,List.eraseDups_cons,pos,B.cells]
theorem qom (hA:Ag P T) {f:FuncId} {fn:Func} {t e bt:TypeId} (hf:P.funcs[f]?=some fn) (hb:fn.body=some (qgL t bt)) (hname:(fn.name == "runtime.NumGoroutine")=false) (hn:fn.ntmps=8) (hr:fn.results.toList=[.tmp 2])
  (hk:T.k t = .sl e) (he:T.k e ≠ .other) (hz:0<T.sz e) (hzl:(T.zero e).length=T.sz e) {n:Nat} {ds:List D} (hl:ds.length=n*T.sz e) (hm1:n≤maxLen) (hm2:n*T.by_ e≤140737488355328) :
  AC P f [.c (.d (.sl (T.sz e) n ds))] [] 0 fun r hp=>r = .c (.own 0 (T.sz e) 0 n)∧hp=[(0,.row e (T.sz e) (ds.map C.d))]:=by
 refine AC.enter2 hA hf hb hname (by rw[hn];show(1:Nat)≤8;omega) (fun cx hk0 hro=>?_)
 rw[hn,hr]
 have fin:∀(s:S) (r:R),s.get 2=r→qep (po1 (T.sz e) true) 0 0 [t] s [r]=some (.c (.own 0 (T.sz e) 0 n),[(0,.row e (T.sz e) (ds.map C.d))])→∃rs,rvs T s [.tmp 2]=some rs∧
   ∀ρ a w,Sim cx ρ s a w→∃rs' hp' nx' ρ',(one rs' = .c (.own 0 (T.sz e) 0 n)∧hp'=[(0,.row e (T.sz e) (ds.map C.d))])∧Sim cx ρ' (q3S hp' nx') qeQ w∧rs'.length=rs.length∧∀(j:Nat) (r r':R) (v:Value),rs[j]?=some r→rs'[j]?=some r'→RR w s.live ρ v r→RR w (q3S hp' nx').live ρ' v r':=by
  intro s r hr h
  refine⟨[r],by simp[rvs,qsi,hr],fun ρ a w hs=>?_⟩
  obtain⟨rs',nx',ρ',g1,g2,g3,g4⟩:=qcD hk0 h hs
  exact⟨rs',_,nx',ρ',⟨g1.symm,rfl⟩,g2,g3,g4⟩
 unfold qgL
 refine J.seq (qeF (z:=T.sz e) hA (by rfl) hk0 (s':=⟨[(2,.c .nils),(0,.c (.d (.sl (T.sz e) n ds)))],[],0,8⟩) (e := .normal) (by rfl) ?_)
 refine J.seq (J.seq (J.nilTest hA rfl rfl rfl rfl rfl hk (by rfl) (by show(3:Nat)<8;omega) (fun d' h=>by injection h with h;subst h;show(4:Nat)<8;omega) (fun b hb0=>?_)))
 cases b with
 | true=>
  obtain⟨rfl,rfl⟩:=hb0 rfl
  refine J.cond (by rfl) (fun _=>?_) (fun h=>by cases h)
  refine qeF (z:=T.sz e) hA (by rfl) hk0 (s':=⟨[(2,.c .nils),(4,.c (.d (.bool true))),(3,.c (.d (.sl (T.sz e) 0 []))),(2,.c .nils),(0,.c (.d (.sl (T.sz e) 0 [])))],[],0,8⟩) (e := .ret) (by rfl) ?_
  refine⟨.inr rfl,[.c .nils],rfl,fun ρ a w hs=>?_⟩
  obtain⟨ids,nx',ρ',g1,g2,g3⟩:=qjd (rs:=[]) (r' := .tup []) (hp':=[]) hk0 rfl hs
  obtain⟨ρ2,g4,g5⟩:=Sim.rerow (id:=0) (w':=w) (v := .slice none 0 0) (v' := .slice none 0 0) (e:=e) (sz:=T.sz e) (n:=0) (cs:=[]) (us:=[]) g2 (.inr ⟨rfl,fun h=>by unfold S.live S.blk q3S at h;simp[lk,B.live] at h⟩) (World.grownBy.refl w _) (.inl rfl) ⟨by simp,.inl ⟨rfl,rfl⟩⟩ hz (by simp) (by rw[hk0];omega) (fun j c hj=>by simp at hj)
  have hblk:∀i,(q3S [(0,B.row e (T.sz e) [])] 1).blk i=(((q3S [] nx').fg 0).up [(0,B.row e (T.sz e) [])]).blk i:=fun i=>rfl
  have hlive:(q3S [(0,B.row e (T.sz e) [])] 1).live=(((q3S [] nx').fg 0).up [(0,B.row e (T.sz e) [])]).live:=by funext i;unfold S.live;rw[hblk]
  refine⟨[.c (.own 0 (T.sz e) 0 0)],[(0,B.row e (T.sz e) [])],1,ρ2,⟨rfl,rfl⟩,g4.ext (fun i=>rfl) hblk rfl (fun i hi=>?_),rfl,fun j r r' v hj hj' hv=>?_⟩
  ·unfold S.live S.blk q3S at hi
   show i<1
   rcases Nat.lt_or_ge i 1 with h|h
   ·exact h
   ·simp[lk,show ¬ 0=i by omega,B.live] at hi
  ·cases j with
   | zero=>
    simp only[List.getElem?_cons_zero,Option.some.injEq] at hj hj'
    subst hj hj'
    rw[hv.inv_nils,hlive]
    exact g5
   | succ j=>simp at hj
 | false=>
  refine J.cond (by rfl) (fun h=>by cases h) (fun _=>?_)
  refine J.skip ?_
  have hall:(ds.map C.d).all C.known=true:=by rw[List.all_map];exact List.all_eq_true.2 fun x _=>rfl
  have hfar:(ds.map C.d).all (C.far 0)=true:=by rw[List.all_map];exact List.all_eq_true.2 fun x _=>rfl
  have hdat:(ds.map C.d).all C.dat=true:=by rw[List.all_map];exact List.all_eq_true.2 fun x _=>rfl
  have hfg:(ds.map C.d).map (C.fg 0)=ds.map C.d:=by rw[List.map_map];rfl
  refine qeF (z:=T.sz e) hA (by rfl) hk0 (s':=⟨[(2,.c (.own 0 (T.sz e) 0 n)),(7,.c (.own 0 (T.sz e) 0 n)),(6,.c (.d (.sl (T.sz e) n ds))),(5,.c .any),(4,.c (.d (.bool false))),(3,.c (.d (.sl (T.sz e) n ds))),(2,.c .nils),(0,.c (.d (.sl (T.sz e) n ds)))],[(0,.row e (T.sz e) (ds.map C.d)),(0,.row e (T.sz e) [])],1,8⟩) (e := .ret) ?_ ?_
  ·simp[XD0,XD,xr,xgd,qiw,qrH,ipX,xst,pre,qBJ,qd3,q7x,R.rows,S.frz,xo,xCl,q3q,bld,q9d,S.seq,S.ev,S.get,lk,S.put,S.up,S.fg,R.fg,C.fg,B.fg,S.blk,hk,he,hz,hzl,hl,hm1,hm2,hall,hfar,qfj,sqD,q5X,tt,C.known,C.far]
  ·refine⟨.inr rfl,fin _ _ rfl ?_⟩
   have hz0:T.sz e≠0:=by omega
   have hcn:∀ids,(ds.map C.d).map (cn ids)=ds.map C.d:=fun ids=>by rw[List.map_map];rfl
   simp[cnB,B.live,B.refs,hcn,hdat,qep,qkA,qe8,qi2,po1,q7x,R.rows,C.rows,C.rows0,S.frz,qeb,qk3,dzR,dz,one,q67,rng,R.refs,C.refs,C.ref0,cnR,qoP,cn,cn0,cnH,S.get,lk,hz0,S.blk,B.isBlk,R.ptrs,S.frz1,fzR,qoS,fz,fz0,fzB,vis,q7A,hl,List.eraseDups_cons,pos,B.cells]
def q8N (T:Ty) (e:TypeId) (own:Bool):List R→Option (R×List (Nat×B))
 | [.c (.d (.sl z n ds))]=>if z=T.sz e∧ds.length=n*z∧n≤maxLen∧n*T.by_ e≤140737488355328 then(if own=true then some (.c (.own 0 z 0 n),[(0,.row e z (ds.map C.d))]) else some (.c (.d (.sl z n ds)),[])) else none
 | _=>none
theorem qeD (hA:Ag P T) {f:FuncId} {fn:Func} {t e bt:TypeId} (hf:P.funcs[f]?=some fn) (hb:fn.body=some (qgL t bt)) (hname:(fn.name == "runtime.NumGoroutine")=false) (hn:fn.ntmps=8) (hr:fn.results.toList=[.tmp 2])
  (hk:T.k t = .sl e) (he:T.k e ≠ .other) (hz:0<T.sz e) (hzl:(T.zero e).length=T.sz e) {own:Bool} {args:List R} {r:R} {G':List (Nat×B)} (h:q8N T e own args=some (r,G')):AC P f args [] 0 fun r' hp'=>r'=r∧hp'=G':=by
 unfold q8N at h
 split at h
 ·split at h
  ·rename_i hc
   obtain⟨rfl,h1,h2,h3⟩:=hc
   split at h
   ·injection h with h
    injection h with h4 h5
    subst h4 h5
    exact qom hA hf hb hname hn hr hk he hz hzl h1 h2 h3
   ·injection h with h
    injection h with h4 h5
    subst h4 h5
    exact qqz hA hf hb hname hn hr hk he hz hzl h1 h2 h3
  ·cases h
 ·cases h
end
end Go.Proofs.YtgejdfnidjnjcaaGreat.Vc
namespace Go.Proofs.YtgejdfnidjnjcaaGreat.Vc
def tk (t:TypeId):Kd:=bif Nat.blt t 170 then(bif Nat.blt t 85 then(bif Nat.blt t 42 then(bif Nat.blt t 21 then(bif Nat.blt t 10 then(bif Nat.blt t 5 then(bif Nat.blt t 2 then(bif Nat.blt t 1 then .other else .fn) else(bif Nat.blt t 3 then .int .i64 else(bif Nat.blt t 4 then .int .i64 else .bool))) else(bif Nat.blt t 7 then(bif Nat.blt t 6 then .int .u8 else .int .u8) else(bif Nat.blt t 8 then .st [(0,2),(1,3),(2,4),(3,6)] else(bif Nat.blt t 9 then .st [(0,2),(1,3),(2,4),(3,6)] else .str)))) else(bif Nat.blt t 15 then(bif Nat.blt t 12 then(bif Nat.blt t 11 then .str else .str) else(bif Nat.blt t 13 then .int .u64 else(bif Nat.blt t 14 then .st [(0,9),(1,12)] else .st [(0,9),(1,12)]))) else(bif Nat.blt t 18 then(bif Nat.blt t 16 then .ptr 155 else(bif Nat.blt t 17 then .ptr 158 else .ptr 168)) else(bif Nat.blt t 19 then .st [(0,17)] else(bif Nat.blt t 20 then .st [(0,17)] else .other))))) else(bif Nat.blt t 31 then(bif Nat.blt t 26 then(bif Nat.blt t 23 then(bif Nat.blt t 22 then .int .i32 else .sl 3) else(bif Nat.blt t 24 then .arr 3 3 else(bif Nat.blt t 25 then .arr 2 23 else .st [(0,22),(1,22),(2,24)]))) else(bif Nat.blt t 28 then(bif Nat.blt t 27 then .st [(0,22),(1,22),(2,24)] else .sl 51) else(bif Nat.blt t 29 then .sl 30 else(bif Nat.blt t 30 then .st [(0,3),(1,3),(2,3),(3,27),(4,28)] else .st [(0,3),(1,3),(2,3),(3,27),(4,28)])))) else(bif Nat.blt t 36 then(bif Nat.blt t 33 then(bif Nat.blt t 32 then .st [(0,3),(1,3),(2,3)] else .st [(0,3),(1,3),(2,3)]) else(bif Nat.blt t 34 then .sl 53 else(bif Nat.blt t 35 then .st [(0,30),(5,32),(8,33)] else .st [(0,30),(5,32),(8,33)]))) else(bif Nat.blt t 39 then(bif Nat.blt t 37 then .fn else(bif Nat.blt t 38 then .other else .fn)) else(bif Nat.blt t 40 then .fn else(bif Nat.blt t 41 then .fn else .fn)))))) else(bif Nat.blt t 63 then(bif Nat.blt t 52 then(bif Nat.blt t 47 then(bif Nat.blt t 44 then(bif Nat.blt t 43 then .sl 33 else .fn) else(bif Nat.blt t 45 then .sl 32 else(bif Nat.blt t 46 then .sl 4 else .int .i64))) else(bif Nat.blt t 49 then(bif Nat.blt t 48 then .other else .fn) else(bif Nat.blt t 50 then .fn else(bif Nat.blt t 51 then .st [(0,3),(1,9)] else .st [(0,3),(1,9)])))) else(bif Nat.blt t 57 then(bif Nat.blt t 54 then(bif Nat.blt t 53 then .st [(0,51),(2,3),(3,3),(4,3),(5,22),(6,3),(7,22)] else .st [(0,51),(2,3),(3,3),(4,3),(5,22),(6,3),(7,22)]) else(bif Nat.blt t 55 then .fn else(bif Nat.blt t 56 then .fn else .fn))) else(bif Nat.blt t 60 then(bif Nat.blt t 58 then .other else(bif Nat.blt t 59 then .fn else .fn)) else(bif Nat.blt t 61 then .fn else(bif Nat.blt t 62 then .sl 22 else .fn))))) else(bif Nat.blt t 74 then(bif Nat.blt t 68 then(bif Nat.blt t 65 then(bif Nat.blt t 64 then .fn else .fn) else(bif Nat.blt t 66 then .fn else(bif Nat.blt t 67 then .other else .fn))) else(bif Nat.blt t 71 then(bif Nat.blt t 69 then .fn else(bif Nat.blt t 70 then .fn else .fn)) else(bif Nat.blt t 72 then .fn else(bif Nat.blt t 73 then .ptr 30 else .sl 9)))) else(bif Nat.blt t 79 then(bif Nat.blt t 76 then(bif Nat.blt t 75 then .sl 5 else .fn) else(bif Nat.blt t 77 then .fn else(bif Nat.blt t 78 then .sl 4 else .fn))) else(bif Nat.blt t 82 then(bif Nat.blt t 80 then .ptr 81 else(bif Nat.blt t 81 then .st [(0,32),(3,33),(4,22),(5,3)] else .st [(0,32),(3,33),(4,22),(5,3)])) else(bif Nat.blt t 83 then .fn else(bif Nat.blt t 84 then .fn else .fn))))))) else(bif Nat.blt t 127 then(bif Nat.blt t 106 then(bif Nat.blt t 95 then(bif Nat.blt t 90 then(bif Nat.blt t 87 then(bif Nat.blt t 86 then .fn else .fn) else(bif Nat.blt t 88 then .fn else(bif Nat.blt t 89 then .fn else .fn))) else(bif Nat.blt t 92 then(bif Nat.blt t 91 then .st [(0,3),(1,3),(2,4)] else .st [(0,3),(1,3),(2,4)]) else(bif Nat.blt t 93 then .fn else(bif Nat.blt t 94 then .fn else .fn)))) else(bif Nat.blt t 100 then(bif Nat.blt t 97 then(bif Nat.blt t 96 then .other else .ptr 98) else(bif Nat.blt t 98 then .st [(0,32),(3,33),(4,22),(5,3)] else(bif Nat.blt t 99 then .st [(0,32),(3,33),(4,22),(5,3)] else .st [(0,4),(1,4)]))) else(bif Nat.blt t 103 then(bif Nat.blt t 101 then .st [(0,4),(1,4)] else(bif Nat.blt t 102 then .fn else .fn)) else(bif Nat.blt t 104 then .ptr 105 else(bif Nat.blt t 105 then .st [(0,22),(1,3)] else .st [(0,22),(1,3)]))))) else(bif Nat.blt t 116 then(bif Nat.blt t 111 then(bif Nat.blt t 108 then(bif Nat.blt t 107 then .ptr 107 else .st [(0,22),(1,3)]) else(bif Nat.blt t 109 then .fn else(bif Nat.blt t 110 then .fn else .other))) else(bif Nat.blt t 113 then(bif Nat.blt t 112 then .fn else .fn) else(bif Nat.blt t 114 then .mp 3 116 else(bif Nat.blt t 115 then .fn else .st [(0,75)])))) else(bif Nat.blt t 121 then(bif Nat.blt t 118 then(bif Nat.blt t 117 then .st [(0,75)] else .other) else(bif Nat.blt t 119 then .fn else(bif Nat.blt t 120 then .sl 3 else .fn))) else(bif Nat.blt t 124 then(bif Nat.blt t 122 then .fn else(bif Nat.blt t 123 then .sl 126 else .other)) else(bif Nat.blt t 125 then .fn else(bif Nat.blt t 126 then .st [(0,30),(5,3)] else .st [(0,30),(5,3)])))))) else(bif Nat.blt t 148 then(bif Nat.blt t 137 then(bif Nat.blt t 132 then(bif Nat.blt t 129 then(bif Nat.blt t 128 then .fn else .fn) else(bif Nat.blt t 130 then .fn else(bif Nat.blt t 131 then .fn else .fn))) else(bif Nat.blt t 134 then(bif Nat.blt t 133 then .fn else .fn) else(bif Nat.blt t 135 then .fn else(bif Nat.blt t 136 then .fn else .fn)))) else(bif Nat.blt t 142 then(bif Nat.blt t 139 then(bif Nat.blt t 138 then .fn else .fn) else(bif Nat.blt t 140 then .fn else(bif Nat.blt t 141 then .fn else .fn))) else(bif Nat.blt t 145 then(bif Nat.blt t 143 then .fn else(bif Nat.blt t 144 then .fn else .fn)) else(bif Nat.blt t 146 then .fn else(bif Nat.blt t 147 then .fn else .fn))))) else(bif Nat.blt t 159 then(bif Nat.blt t 153 then(bif Nat.blt t 150 then(bif Nat.blt t 149 then .fn else .fn) else(bif Nat.blt t 151 then .fn else(bif Nat.blt t 152 then .fn else .fn))) else(bif Nat.blt t 156 then(bif Nat.blt t 154 then .fn else(bif Nat.blt t 155 then .st [(0,17),(1,17),(2,17),(3,9)] else .st [(0,17),(1,17),(2,17),(3,9)])) else(bif Nat.blt t 157 then .arr 0 16 else(bif Nat.blt t 158 then .st [(0,156)] else .st [(0,156)])))) else(bif Nat.blt t 164 then(bif Nat.blt t 161 then(bif Nat.blt t 160 then .fn else .int .u32) else(bif Nat.blt t 162 then .int .u8 else(bif Nat.blt t 163 then .int .u8 else .fn))) else(bif Nat.blt t 167 then(bif Nat.blt t 165 then .ptr 5 else(bif Nat.blt t 166 then .int .i32 else .int .i32)) else(bif Nat.blt t 168 then .st [(0,12),(1,12),(2,160),(3,161),(4,5),(5,5),(6,162),(7,163),(8,164),(9,165),(10,166)] else(bif Nat.blt t 169 then .st [(0,12),(1,12),(2,160),(3,161),(4,5),(5,5),(6,162),(7,163),(8,164),(9,165),(10,166)] else .other)))))))) else .other
def tz (t:TypeId):Nat:=bif Nat.blt t 170 then(bif Nat.blt t 85 then(bif Nat.blt t 42 then(bif Nat.blt t 21 then(bif Nat.blt t 10 then(bif Nat.blt t 5 then(bif Nat.blt t 2 then(bif Nat.blt t 1 then 0 else 1) else(bif Nat.blt t 3 then 1 else(bif Nat.blt t 4 then 1 else 1))) else(bif Nat.blt t 7 then(bif Nat.blt t 6 then 1 else 1) else(bif Nat.blt t 8 then 4 else(bif Nat.blt t 9 then 4 else 1)))) else(bif Nat.blt t 15 then(bif Nat.blt t 12 then(bif Nat.blt t 11 then 1 else 1) else(bif Nat.blt t 13 then 1 else(bif Nat.blt t 14 then 2 else 2))) else(bif Nat.blt t 18 then(bif Nat.blt t 16 then 1 else(bif Nat.blt t 17 then 1 else 1)) else(bif Nat.blt t 19 then 1 else(bif Nat.blt t 20 then 1 else 0))))) else(bif Nat.blt t 31 then(bif Nat.blt t 26 then(bif Nat.blt t 23 then(bif Nat.blt t 22 then 1 else 1) else(bif Nat.blt t 24 then 3 else(bif Nat.blt t 25 then 6 else 8))) else(bif Nat.blt t 28 then(bif Nat.blt t 27 then 8 else 1) else(bif Nat.blt t 29 then 1 else(bif Nat.blt t 30 then 5 else 5)))) else(bif Nat.blt t 36 then(bif Nat.blt t 33 then(bif Nat.blt t 32 then 3 else 3) else(bif Nat.blt t 34 then 1 else(bif Nat.blt t 35 then 9 else 9))) else(bif Nat.blt t 39 then(bif Nat.blt t 37 then 1 else(bif Nat.blt t 38 then 0 else 1)) else(bif Nat.blt t 40 then 1 else(bif Nat.blt t 41 then 1 else 1)))))) else(bif Nat.blt t 63 then(bif Nat.blt t 52 then(bif Nat.blt t 47 then(bif Nat.blt t 44 then(bif Nat.blt t 43 then 1 else 1) else(bif Nat.blt t 45 then 1 else(bif Nat.blt t 46 then 1 else 1))) else(bif Nat.blt t 49 then(bif Nat.blt t 48 then 0 else 1) else(bif Nat.blt t 50 then 1 else(bif Nat.blt t 51 then 2 else 2)))) else(bif Nat.blt t 57 then(bif Nat.blt t 54 then(bif Nat.blt t 53 then 8 else 8) else(bif Nat.blt t 55 then 1 else(bif Nat.blt t 56 then 1 else 1))) else(bif Nat.blt t 60 then(bif Nat.blt t 58 then 0 else(bif Nat.blt t 59 then 1 else 1)) else(bif Nat.blt t 61 then 1 else(bif Nat.blt t 62 then 1 else 1))))) else(bif Nat.blt t 74 then(bif Nat.blt t 68 then(bif Nat.blt t 65 then(bif Nat.blt t 64 then 1 else 1) else(bif Nat.blt t 66 then 1 else(bif Nat.blt t 67 then 0 else 1))) else(bif Nat.blt t 71 then(bif Nat.blt t 69 then 1 else(bif Nat.blt t 70 then 1 else 1)) else(bif Nat.blt t 72 then 1 else(bif Nat.blt t 73 then 1 else 1)))) else(bif Nat.blt t 79 then(bif Nat.blt t 76 then(bif Nat.blt t 75 then 1 else 1) else(bif Nat.blt t 77 then 1 else(bif Nat.blt t 78 then 1 else 1))) else(bif Nat.blt t 82 then(bif Nat.blt t 80 then 1 else(bif Nat.blt t 81 then 6 else 6)) else(bif Nat.blt t 83 then 1 else(bif Nat.blt t 84 then 1 else 1))))))) else(bif Nat.blt t 127 then(bif Nat.blt t 106 then(bif Nat.blt t 95 then(bif Nat.blt t 90 then(bif Nat.blt t 87 then(bif Nat.blt t 86 then 1 else 1) else(bif Nat.blt t 88 then 1 else(bif Nat.blt t 89 then 1 else 1))) else(bif Nat.blt t 92 then(bif Nat.blt t 91 then 3 else 3) else(bif Nat.blt t 93 then 1 else(bif Nat.blt t 94 then 1 else 1)))) else(bif Nat.blt t 100 then(bif Nat.blt t 97 then(bif Nat.blt t 96 then 0 else 1) else(bif Nat.blt t 98 then 6 else(bif Nat.blt t 99 then 6 else 2))) else(bif Nat.blt t 103 then(bif Nat.blt t 101 then 2 else(bif Nat.blt t 102 then 1 else 1)) else(bif Nat.blt t 104 then 1 else(bif Nat.blt t 105 then 2 else 2))))) else(bif Nat.blt t 116 then(bif Nat.blt t 111 then(bif Nat.blt t 108 then(bif Nat.blt t 107 then 1 else 2) else(bif Nat.blt t 109 then 1 else(bif Nat.blt t 110 then 1 else 0))) else(bif Nat.blt t 113 then(bif Nat.blt t 112 then 1 else 1) else(bif Nat.blt t 114 then 1 else(bif Nat.blt t 115 then 1 else 1)))) else(bif Nat.blt t 121 then(bif Nat.blt t 118 then(bif Nat.blt t 117 then 1 else 0) else(bif Nat.blt t 119 then 1 else(bif Nat.blt t 120 then 1 else 1))) else(bif Nat.blt t 124 then(bif Nat.blt t 122 then 1 else(bif Nat.blt t 123 then 1 else 0)) else(bif Nat.blt t 125 then 1 else(bif Nat.blt t 126 then 6 else 6)))))) else(bif Nat.blt t 148 then(bif Nat.blt t 137 then(bif Nat.blt t 132 then(bif Nat.blt t 129 then(bif Nat.blt t 128 then 1 else 1) else(bif Nat.blt t 130 then 1 else(bif Nat.blt t 131 then 1 else 1))) else(bif Nat.blt t 134 then(bif Nat.blt t 133 then 1 else 1) else(bif Nat.blt t 135 then 1 else(bif Nat.blt t 136 then 1 else 1)))) else(bif Nat.blt t 142 then(bif Nat.blt t 139 then(bif Nat.blt t 138 then 1 else 1) else(bif Nat.blt t 140 then 1 else(bif Nat.blt t 141 then 1 else 1))) else(bif Nat.blt t 145 then(bif Nat.blt t 143 then 1 else(bif Nat.blt t 144 then 1 else 1)) else(bif Nat.blt t 146 then 1 else(bif Nat.blt t 147 then 1 else 1))))) else(bif Nat.blt t 159 then(bif Nat.blt t 153 then(bif Nat.blt t 150 then(bif Nat.blt t 149 then 1 else 1) else(bif Nat.blt t 151 then 1 else(bif Nat.blt t 152 then 1 else 1))) else(bif Nat.blt t 156 then(bif Nat.blt t 154 then 1 else(bif Nat.blt t 155 then 4 else 4)) else(bif Nat.blt t 157 then 0 else(bif Nat.blt t 158 then 0 else 0)))) else(bif Nat.blt t 164 then(bif Nat.blt t 161 then(bif Nat.blt t 160 then 1 else 1) else(bif Nat.blt t 162 then 1 else(bif Nat.blt t 163 then 1 else 1))) else(bif Nat.blt t 167 then(bif Nat.blt t 165 then 1 else(bif Nat.blt t 166 then 1 else 1)) else(bif Nat.blt t 168 then 11 else(bif Nat.blt t 169 then 11 else 0)))))))) else 0
def tb (t:TypeId):Nat:=bif Nat.blt t 170 then(bif Nat.blt t 85 then(bif Nat.blt t 42 then(bif Nat.blt t 21 then(bif Nat.blt t 10 then(bif Nat.blt t 5 then(bif Nat.blt t 2 then(bif Nat.blt t 1 then 0 else 8) else(bif Nat.blt t 3 then 8 else(bif Nat.blt t 4 then 8 else 1))) else(bif Nat.blt t 7 then(bif Nat.blt t 6 then 1 else 1) else(bif Nat.blt t 8 then 24 else(bif Nat.blt t 9 then 24 else 16)))) else(bif Nat.blt t 15 then(bif Nat.blt t 12 then(bif Nat.blt t 11 then 16 else 16) else(bif Nat.blt t 13 then 8 else(bif Nat.blt t 14 then 24 else 24))) else(bif Nat.blt t 18 then(bif Nat.blt t 16 then 8 else(bif Nat.blt t 17 then 8 else 8)) else(bif Nat.blt t 19 then 8 else(bif Nat.blt t 20 then 8 else 0))))) else(bif Nat.blt t 31 then(bif Nat.blt t 26 then(bif Nat.blt t 23 then(bif Nat.blt t 22 then 4 else 24) else(bif Nat.blt t 24 then 24 else(bif Nat.blt t 25 then 48 else 96))) else(bif Nat.blt t 28 then(bif Nat.blt t 27 then 96 else 24) else(bif Nat.blt t 29 then 24 else(bif Nat.blt t 30 then 72 else 72)))) else(bif Nat.blt t 36 then(bif Nat.blt t 33 then(bif Nat.blt t 32 then 24 else 24) else(bif Nat.blt t 34 then 24 else(bif Nat.blt t 35 then 120 else 120))) else(bif Nat.blt t 39 then(bif Nat.blt t 37 then 8 else(bif Nat.blt t 38 then 0 else 8)) else(bif Nat.blt t 40 then 8 else(bif Nat.blt t 41 then 8 else 8)))))) else(bif Nat.blt t 63 then(bif Nat.blt t 52 then(bif Nat.blt t 47 then(bif Nat.blt t 44 then(bif Nat.blt t 43 then 24 else 8) else(bif Nat.blt t 45 then 24 else(bif Nat.blt t 46 then 24 else 8))) else(bif Nat.blt t 49 then(bif Nat.blt t 48 then 0 else 8) else(bif Nat.blt t 50 then 8 else(bif Nat.blt t 51 then 24 else 24)))) else(bif Nat.blt t 57 then(bif Nat.blt t 54 then(bif Nat.blt t 53 then 104 else 104) else(bif Nat.blt t 55 then 8 else(bif Nat.blt t 56 then 8 else 8))) else(bif Nat.blt t 60 then(bif Nat.blt t 58 then 0 else(bif Nat.blt t 59 then 8 else 8)) else(bif Nat.blt t 61 then 8 else(bif Nat.blt t 62 then 24 else 8))))) else(bif Nat.blt t 74 then(bif Nat.blt t 68 then(bif Nat.blt t 65 then(bif Nat.blt t 64 then 8 else 8) else(bif Nat.blt t 66 then 8 else(bif Nat.blt t 67 then 0 else 8))) else(bif Nat.blt t 71 then(bif Nat.blt t 69 then 8 else(bif Nat.blt t 70 then 8 else 8)) else(bif Nat.blt t 72 then 8 else(bif Nat.blt t 73 then 8 else 24)))) else(bif Nat.blt t 79 then(bif Nat.blt t 76 then(bif Nat.blt t 75 then 24 else 8) else(bif Nat.blt t 77 then 8 else(bif Nat.blt t 78 then 24 else 8))) else(bif Nat.blt t 82 then(bif Nat.blt t 80 then 8 else(bif Nat.blt t 81 then 80 else 80)) else(bif Nat.blt t 83 then 8 else(bif Nat.blt t 84 then 8 else 8))))))) else(bif Nat.blt t 127 then(bif Nat.blt t 106 then(bif Nat.blt t 95 then(bif Nat.blt t 90 then(bif Nat.blt t 87 then(bif Nat.blt t 86 then 8 else 8) else(bif Nat.blt t 88 then 8 else(bif Nat.blt t 89 then 8 else 8))) else(bif Nat.blt t 92 then(bif Nat.blt t 91 then 24 else 24) else(bif Nat.blt t 93 then 8 else(bif Nat.blt t 94 then 8 else 8)))) else(bif Nat.blt t 100 then(bif Nat.blt t 97 then(bif Nat.blt t 96 then 0 else 8) else(bif Nat.blt t 98 then 80 else(bif Nat.blt t 99 then 80 else 2))) else(bif Nat.blt t 103 then(bif Nat.blt t 101 then 2 else(bif Nat.blt t 102 then 8 else 8)) else(bif Nat.blt t 104 then 8 else(bif Nat.blt t 105 then 32 else 32))))) else(bif Nat.blt t 116 then(bif Nat.blt t 111 then(bif Nat.blt t 108 then(bif Nat.blt t 107 then 8 else 32) else(bif Nat.blt t 109 then 8 else(bif Nat.blt t 110 then 8 else 0))) else(bif Nat.blt t 113 then(bif Nat.blt t 112 then 8 else 8) else(bif Nat.blt t 114 then 8 else(bif Nat.blt t 115 then 8 else 8)))) else(bif Nat.blt t 121 then(bif Nat.blt t 118 then(bif Nat.blt t 117 then 8 else 0) else(bif Nat.blt t 119 then 8 else(bif Nat.blt t 120 then 24 else 8))) else(bif Nat.blt t 124 then(bif Nat.blt t 122 then 8 else(bif Nat.blt t 123 then 24 else 0)) else(bif Nat.blt t 125 then 8 else(bif Nat.blt t 126 then 80 else 80)))))) else(bif Nat.blt t 148 then(bif Nat.blt t 137 then(bif Nat.blt t 132 then(bif Nat.blt t 129 then(bif Nat.blt t 128 then 8 else 8) else(bif Nat.blt t 130 then 8 else(bif Nat.blt t 131 then 8 else 8))) else(bif Nat.blt t 134 then(bif Nat.blt t 133 then 8 else 8) else(bif Nat.blt t 135 then 8 else(bif Nat.blt t 136 then 8 else 8)))) else(bif Nat.blt t 142 then(bif Nat.blt t 139 then(bif Nat.blt t 138 then 8 else 8) else(bif Nat.blt t 140 then 8 else(bif Nat.blt t 141 then 8 else 8))) else(bif Nat.blt t 145 then(bif Nat.blt t 143 then 8 else(bif Nat.blt t 144 then 8 else 8)) else(bif Nat.blt t 146 then 8 else(bif Nat.blt t 147 then 8 else 8))))) else(bif Nat.blt t 159 then(bif Nat.blt t 153 then(bif Nat.blt t 150 then(bif Nat.blt t 149 then 8 else 8) else(bif Nat.blt t 151 then 8 else(bif Nat.blt t 152 then 8 else 8))) else(bif Nat.blt t 156 then(bif Nat.blt t 154 then 8 else(bif Nat.blt t 155 then 40 else 40)) else(bif Nat.blt t 157 then 0 else(bif Nat.blt t 158 then 0 else 0)))) else(bif Nat.blt t 164 then(bif Nat.blt t 161 then(bif Nat.blt t 160 then 8 else 4) else(bif Nat.blt t 162 then 1 else(bif Nat.blt t 163 then 1 else 8))) else(bif Nat.blt t 167 then(bif Nat.blt t 165 then 8 else(bif Nat.blt t 166 then 4 else 4)) else(bif Nat.blt t 168 then 48 else(bif Nat.blt t 169 then 48 else 0)))))))) else 0
def t0 (t:TypeId):List C:=bif Nat.blt t 170 then(bif Nat.blt t 85 then(bif Nat.blt t 42 then(bif Nat.blt t 21 then(bif Nat.blt t 10 then(bif Nat.blt t 5 then(bif Nat.blt t 2 then(bif Nat.blt t 1 then[] else[.nilf]) else(bif Nat.blt t 3 then[.d (.int .i64 0)] else(bif Nat.blt t 4 then[.d (.int .i64 0)] else[.d (.bool false)]))) else(bif Nat.blt t 7 then(bif Nat.blt t 6 then[.d (.int .u8 0)] else[.d (.int .u8 0)]) else(bif Nat.blt t 8 then[.d (.int .i64 0),.d (.int .i64 0),.d (.bool false),.d (.int .u8 0)] else(bif Nat.blt t 9 then[.d (.int .i64 0),.d (.int .i64 0),.d (.bool false),.d (.int .u8 0)] else[.d (.str ⟨#[]⟩)])))) else(bif Nat.blt t 15 then(bif Nat.blt t 12 then(bif Nat.blt t 11 then[.d (.str ⟨#[]⟩)] else[.d (.str ⟨#[]⟩)]) else(bif Nat.blt t 13 then[.d (.int .u64 0)] else(bif Nat.blt t 14 then[.d (.str ⟨#[]⟩),.d (.int .u64 0)] else[.d (.str ⟨#[]⟩),.d (.int .u64 0)]))) else(bif Nat.blt t 18 then(bif Nat.blt t 16 then[.nilp] else(bif Nat.blt t 17 then[.nilp] else[.nilp])) else(bif Nat.blt t 19 then[.nilp] else(bif Nat.blt t 20 then[.nilp] else[]))))) else(bif Nat.blt t 31 then(bif Nat.blt t 26 then(bif Nat.blt t 23 then(bif Nat.blt t 22 then[.d (.int .i32 0)] else[.nils]) else(bif Nat.blt t 24 then[.d (.int .i64 0),.d (.int .i64 0),.d (.int .i64 0)] else(bif Nat.blt t 25 then[.d (.int .i64 0),.d (.int .i64 0),.d (.int .i64 0),.d (.int .i64 0),.d (.int .i64 0),.d (.int .i64 0)] else[.nils,.nils,.d (.int .i64 0),.d (.int .i64 0),.d (.int .i64 0),.d (.int .i64 0),.d (.int .i64 0),.d (.int .i64 0)]))) else(bif Nat.blt t 28 then(bif Nat.blt t 27 then[.nils,.nils,.d (.int .i64 0),.d (.int .i64 0),.d (.int .i64 0),.d (.int .i64 0),.d (.int .i64 0),.d (.int .i64 0)] else[.nils]) else(bif Nat.blt t 29 then[.nils] else(bif Nat.blt t 30 then[.d (.int .i64 0),.d (.int .i64 0),.d (.int .i64 0),.nils,.nils] else[.d (.int .i64 0),.d (.int .i64 0),.d (.int .i64 0),.nils,.nils])))) else(bif Nat.blt t 36 then(bif Nat.blt t 33 then(bif Nat.blt t 32 then[.d (.int .i64 0),.d (.int .i64 0),.d (.int .i64 0)] else[.d (.int .i64 0),.d (.int .i64 0),.d (.int .i64 0)]) else(bif Nat.blt t 34 then[.nils] else(bif Nat.blt t 35 then[.d (.int .i64 0),.d (.int .i64 0),.d (.int .i64 0),.nils,.nils,.d (.int .i64 0),.d (.int .i64 0),.d (.int .i64 0),.nils] else[.d (.int .i64 0),.d (.int .i64 0),.d (.int .i64 0),.nils,.nils,.d (.int .i64 0),.d (.int .i64 0),.d (.int .i64 0),.nils]))) else(bif Nat.blt t 39 then(bif Nat.blt t 37 then[.nilf] else(bif Nat.blt t 38 then[] else[.nilf])) else(bif Nat.blt t 40 then[.nilf] else(bif Nat.blt t 41 then[.nilf] else[.nilf])))))) else(bif Nat.blt t 63 then(bif Nat.blt t 52 then(bif Nat.blt t 47 then(bif Nat.blt t 44 then(bif Nat.blt t 43 then[.nils] else[.nilf]) else(bif Nat.blt t 45 then[.nils] else(bif Nat.blt t 46 then[.nils] else[.d (.int .i64 0)]))) else(bif Nat.blt t 49 then(bif Nat.blt t 48 then[] else[.nilf]) else(bif Nat.blt t 50 then[.nilf] else(bif Nat.blt t 51 then[.d (.int .i64 0),.d (.str ⟨#[]⟩)] else[.d (.int .i64 0),.d (.str ⟨#[]⟩)])))) else(bif Nat.blt t 57 then(bif Nat.blt t 54 then(bif Nat.blt t 53 then[.d (.int .i64 0),.d (.str ⟨#[]⟩),.d (.int .i64 0),.d (.int .i64 0),.d (.int .i64 0),.nils,.d (.int .i64 0),.nils] else[.d (.int .i64 0),.d (.str ⟨#[]⟩),.d (.int .i64 0),.d (.int .i64 0),.d (.int .i64 0),.nils,.d (.int .i64 0),.nils]) else(bif Nat.blt t 55 then[.nilf] else(bif Nat.blt t 56 then[.nilf] else[.nilf]))) else(bif Nat.blt t 60 then(bif Nat.blt t 58 then[] else(bif Nat.blt t 59 then[.nilf] else[.nilf])) else(bif Nat.blt t 61 then[.nilf] else(bif Nat.blt t 62 then[.nils] else[.nilf]))))) else(bif Nat.blt t 74 then(bif Nat.blt t 68 then(bif Nat.blt t 65 then(bif Nat.blt t 64 then[.nilf] else[.nilf]) else(bif Nat.blt t 66 then[.nilf] else(bif Nat.blt t 67 then[] else[.nilf]))) else(bif Nat.blt t 71 then(bif Nat.blt t 69 then[.nilf] else(bif Nat.blt t 70 then[.nilf] else[.nilf])) else(bif Nat.blt t 72 then[.nilf] else(bif Nat.blt t 73 then[.nilp] else[.nils])))) else(bif Nat.blt t 79 then(bif Nat.blt t 76 then(bif Nat.blt t 75 then[.nils] else[.nilf]) else(bif Nat.blt t 77 then[.nilf] else(bif Nat.blt t 78 then[.nils] else[.nilf]))) else(bif Nat.blt t 82 then(bif Nat.blt t 80 then[.nilp] else(bif Nat.blt t 81 then[.d (.int .i64 0),.d (.int .i64 0),.d (.int .i64 0),.nils,.nils,.d (.int .i64 0)] else[.d (.int .i64 0),.d (.int .i64 0),.d (.int .i64 0),.nils,.nils,.d (.int .i64 0)])) else(bif Nat.blt t 83 then[.nilf] else(bif Nat.blt t 84 then[.nilf] else[.nilf]))))))) else(bif Nat.blt t 127 then(bif Nat.blt t 106 then(bif Nat.blt t 95 then(bif Nat.blt t 90 then(bif Nat.blt t 87 then(bif Nat.blt t 86 then[.nilf] else[.nilf]) else(bif Nat.blt t 88 then[.nilf] else(bif Nat.blt t 89 then[.nilf] else[.nilf]))) else(bif Nat.blt t 92 then(bif Nat.blt t 91 then[.d (.int .i64 0),.d (.int .i64 0),.d (.bool false)] else[.d (.int .i64 0),.d (.int .i64 0),.d (.bool false)]) else(bif Nat.blt t 93 then[.nilf] else(bif Nat.blt t 94 then[.nilf] else[.nilf])))) else(bif Nat.blt t 100 then(bif Nat.blt t 97 then(bif Nat.blt t 96 then[] else[.nilp]) else(bif Nat.blt t 98 then[.d (.int .i64 0),.d (.int .i64 0),.d (.int .i64 0),.nils,.nils,.d (.int .i64 0)] else(bif Nat.blt t 99 then[.d (.int .i64 0),.d (.int .i64 0),.d (.int .i64 0),.nils,.nils,.d (.int .i64 0)] else[.d (.bool false),.d (.bool false)]))) else(bif Nat.blt t 103 then(bif Nat.blt t 101 then[.d (.bool false),.d (.bool false)] else(bif Nat.blt t 102 then[.nilf] else[.nilf])) else(bif Nat.blt t 104 then[.nilp] else(bif Nat.blt t 105 then[.nils,.d (.int .i64 0)] else[.nils,.d (.int .i64 0)]))))) else(bif Nat.blt t 116 then(bif Nat.blt t 111 then(bif Nat.blt t 108 then(bif Nat.blt t 107 then[.nilp] else[.nils,.d (.int .i64 0)]) else(bif Nat.blt t 109 then[.nilf] else(bif Nat.blt t 110 then[.nilf] else[]))) else(bif Nat.blt t 113 then(bif Nat.blt t 112 then[.nilf] else[.nilf]) else(bif Nat.blt t 114 then[.nilm] else(bif Nat.blt t 115 then[.nilf] else[.nilf])))) else(bif Nat.blt t 121 then(bif Nat.blt t 118 then(bif Nat.blt t 117 then[.nilf] else[]) else(bif Nat.blt t 119 then[.nilf] else(bif Nat.blt t 120 then[.nils] else[.nilf]))) else(bif Nat.blt t 124 then(bif Nat.blt t 122 then[.nilf] else(bif Nat.blt t 123 then[.nils] else[])) else(bif Nat.blt t 125 then[.nilf] else(bif Nat.blt t 126 then[.d (.int .i64 0),.d (.int .i64 0),.d (.int .i64 0),.nils,.nils,.d (.int .i64 0)] else[.d (.int .i64 0),.d (.int .i64 0),.d (.int .i64 0),.nils,.nils,.d (.int .i64 0)])))))) else(bif Nat.blt t 148 then(bif Nat.blt t 137 then(bif Nat.blt t 132 then(bif Nat.blt t 129 then(bif Nat.blt t 128 then[.nilf] else[.nilf]) else(bif Nat.blt t 130 then[.nilf] else(bif Nat.blt t 131 then[.nilf] else[.nilf]))) else(bif Nat.blt t 134 then(bif Nat.blt t 133 then[.nilf] else[.nilf]) else(bif Nat.blt t 135 then[.nilf] else(bif Nat.blt t 136 then[.nilf] else[.nilf])))) else(bif Nat.blt t 142 then(bif Nat.blt t 139 then(bif Nat.blt t 138 then[.nilf] else[.nilf]) else(bif Nat.blt t 140 then[.nilf] else(bif Nat.blt t 141 then[.nilf] else[.nilf]))) else(bif Nat.blt t 145 then(bif Nat.blt t 143 then[.nilf] else(bif Nat.blt t 144 then[.nilf] else[.nilf])) else(bif Nat.blt t 146 then[.nilf] else(bif Nat.blt t 147 then[.nilf] else[.nilf]))))) else(bif Nat.blt t 159 then(bif Nat.blt t 153 then(bif Nat.blt t 150 then(bif Nat.blt t 149 then[.nilf] else[.nilf]) else(bif Nat.blt t 151 then[.nilf] else(bif Nat.blt t 152 then[.nilf] else[.nilf]))) else(bif Nat.blt t 156 then(bif Nat.blt t 154 then[.nilf] else(bif Nat.blt t 155 then[.nilp,.nilp,.nilp,.d (.str ⟨#[]⟩)] else[.nilp,.nilp,.nilp,.d (.str ⟨#[]⟩)])) else(bif Nat.blt t 157 then[] else(bif Nat.blt t 158 then[] else[])))) else(bif Nat.blt t 164 then(bif Nat.blt t 161 then(bif Nat.blt t 160 then[.nilf] else[.d (.int .u32 0)]) else(bif Nat.blt t 162 then[.d (.int .u8 0)] else(bif Nat.blt t 163 then[.d (.int .u8 0)] else[.nilf]))) else(bif Nat.blt t 167 then(bif Nat.blt t 165 then[.nilp] else(bif Nat.blt t 166 then[.d (.int .i32 0)] else[.d (.int .i32 0)])) else(bif Nat.blt t 168 then[.d (.int .u64 0),.d (.int .u64 0),.d (.int .u32 0),.d (.int .u8 0),.d (.int .u8 0),.d (.int .u8 0),.d (.int .u8 0),.nilf,.nilp,.d (.int .i32 0),.d (.int .i32 0)] else(bif Nat.blt t 169 then[.d (.int .u64 0),.d (.int .u64 0),.d (.int .u32 0),.d (.int .u8 0),.d (.int .u8 0),.d (.int .u8 0),.d (.int .u8 0),.nilf,.nilp,.d (.int .i32 0),.d (.int .i32 0)] else[])))))))) else[]
def tip:FuncId→Option (List Int→List Int)
 | _=>none
def T:Ty:=⟨tk,tz,tb,t0,tip⟩
theorem qCo:(List.range 170).all (fun t=>decide (T.k t = .other)||Ty.okAt Tryz.prog T t)=true:=by kernel_rfl
theorem qzr (t:Nat) (h:170≤t):T.k t = .other:=by
 have hb:Nat.blt t 170=false:=by
  cases h':Nat.blt t 170 with
  | false=>rfl
  | true=>exact absurd (Nat.le_of_ble_eq_true h') (by omega)
 show tk t = .other
 unfold tk
 rw[hb]
 rfl
theorem qIa:∀t,T.k t = .other∨Ty.okAt Tryz.prog T t=true:=fun t=>by
 rcases Nat.lt_or_ge t 170 with h|h
 ·have:=List.all_eq_true.1 qCo t (List.mem_range.2 h)
  simp only[Bool.or_eq_true,decide_eq_true_eq] at this
  exact this
 ·exact .inl (qzr t h)
theorem qI6:∀g h,T.ip g=some h→qFK Tryz.prog g h:=by
 intro g h hg
 replace hg:tip g=some h:=hg
 unfold tip at hg
 cases hg
theorem qBu:Ag Tryz.prog T:=⟨qIa,qI6⟩
theorem k3:T.k 3 = .int .i64:=rfl
theorem k4:T.k 4 = .bool:=rfl
theorem k9:T.k 9 = .str:=rfl
theorem k22:T.k 22 = .sl 3:=rfl
theorem k26:T.k 26 = .st [(0,22),(1,22),(2,24)]:=rfl
theorem k27:T.k 27 = .sl 51:=rfl
theorem k28:T.k 28 = .sl 30:=rfl
theorem k30:T.k 30 = .st [(0,3),(1,3),(2,3),(3,27),(4,28)]:=rfl
theorem k32:T.k 32 = .st [(0,3),(1,3),(2,3)]:=rfl
theorem k33:T.k 33 = .sl 53:=rfl
theorem k35:T.k 35 = .st [(0,30),(5,32),(8,33)]:=rfl
theorem k45:T.k 45 = .sl 4:=rfl
theorem k51:T.k 51 = .st [(0,3),(1,9)]:=rfl
theorem k53:T.k 53 = .st [(0,51),(2,3),(3,3),(4,3),(5,22),(6,3),(7,22)]:=rfl
theorem k61:T.k 61 = .sl 22:=rfl
theorem k73:T.k 73 = .sl 9:=rfl
theorem k75:T.k 75 = .fn:=rfl
theorem k76:T.k 76 = .fn:=rfl
theorem k77:T.k 77 = .sl 4:=rfl
theorem k81:T.k 81 = .st [(0,32),(3,33),(4,22),(5,3)]:=rfl
theorem k83:T.k 83 = .fn:=rfl
theorem k89:T.k 89 = .fn:=rfl
theorem k91:T.k 91 = .st [(0,3),(1,3),(2,4)]:=rfl
theorem k98:T.k 98 = .st [(0,32),(3,33),(4,22),(5,3)]:=rfl
theorem qIE:T.k 100 = .st [(0,4),(1,4)]:=rfl
theorem qIZ:T.k 105 = .st [(0,22),(1,3)]:=rfl
theorem qI3:T.k 107 = .st [(0,22),(1,3)]:=rfl
theorem qIn:T.k 113 = .mp 3 116:=rfl
theorem qIz:T.k 116 = .st [(0,75)]:=rfl
theorem qIU:T.k 118 = .fn:=rfl
theorem qIr:T.k 119 = .sl 3:=rfl
theorem qJS:T.k 122 = .sl 126:=rfl
theorem qJv:T.k 126 = .st [(0,30),(5,3)]:=rfl
theorem z3:T.sz 3=1:=rfl
theorem z4:T.sz 4=1:=rfl
theorem z9:T.sz 9=1:=rfl
theorem z22:T.sz 22=1:=rfl
theorem z26:T.sz 26=8:=rfl
theorem z27:T.sz 27=1:=rfl
theorem z28:T.sz 28=1:=rfl
theorem z30:T.sz 30=5:=rfl
theorem z32:T.sz 32=3:=rfl
theorem z33:T.sz 33=1:=rfl
theorem z51:T.sz 51=2:=rfl
theorem z53:T.sz 53=8:=rfl
theorem z75:T.sz 75=1:=rfl
theorem z77:T.sz 77=1:=rfl
theorem z83:T.sz 83=1:=rfl
theorem z89:T.sz 89=1:=rfl
theorem z91:T.sz 91=3:=rfl
theorem qIq:T.sz 100=2:=rfl
theorem qKb:T.sz 116=1:=rfl
theorem qKa:T.sz 118=1:=rfl
theorem qJC:T.sz 119=1:=rfl
theorem qJT:T.sz 126=6:=rfl
theorem b3:T.by_ 3=8:=rfl
theorem b4:T.by_ 4=1:=rfl
theorem b10:T.by_ 10=16:=rfl
theorem b12:T.by_ 12=8:=rfl
theorem b30:T.by_ 30=72:=rfl
theorem b51:T.by_ 51=24:=rfl
theorem b53:T.by_ 53=104:=rfl
theorem qHG:T.by_ 126=80:=rfl
theorem o3:T.zero 3=[.d (.int .i64 0)]:=rfl
theorem o4:T.zero 4=[.d (.bool false)]:=rfl
theorem o22:T.zero 22=[.nils]:=rfl
theorem o28:T.zero 28=[.nils]:=rfl
theorem o30:T.zero 30=[.d (.int .i64 0),.d (.int .i64 0),.d (.int .i64 0),.nils,.nils]:=rfl
theorem o32:T.zero 32=[.d (.int .i64 0),.d (.int .i64 0),.d (.int .i64 0)]:=rfl
theorem o51:T.zero 51=[.d (.int .i64 0),.d (.str ⟨#[]⟩)]:=rfl
theorem o53:T.zero 53=[.d (.int .i64 0),.d (.str ⟨#[]⟩),.d (.int .i64 0),.d (.int .i64 0),.d (.int .i64 0),.nils,.d (.int .i64 0),.nils]:=rfl
theorem o77:T.zero 77=[.nils]:=rfl
theorem o81:T.zero 81=[.d (.int .i64 0),.d (.int .i64 0),.d (.int .i64 0),.nils,.nils,.d (.int .i64 0)]:=rfl
theorem o83:T.zero 83=[.nilf]:=rfl
theorem o89:T.zero 89=[.nilf]:=rfl
theorem o91:T.zero 91=[.d (.int .i64 0),.d (.int .i64 0),.d (.bool false)]:=rfl
theorem o98:T.zero 98=[.d (.int .i64 0),.d (.int .i64 0),.d (.int .i64 0),.nils,.nils,.d (.int .i64 0)]:=rfl
theorem qHl:T.zero 100=[.d (.bool false),.d (.bool false)]:=rfl
theorem qJA:T.zero 105=[.nils,.d (.int .i64 0)]:=rfl
theorem qHu:T.zero 107=[.nils,.d (.int .i64 0)]:=rfl
theorem qJ4:T.zero 116=[.nilf]:=rfl
theorem qJ1:T.zero 118=[.nilf]:=rfl
theorem qJU:T.zero 119=[.nils]:=rfl
theorem qIK:T.zero 126=[.d (.int .i64 0),.d (.int .i64 0),.d (.int .i64 0),.nils,.nils,.d (.int .i64 0)]:=rfl
end Go.Proofs.YtgejdfnidjnjcaaGreat.Vc
namespace Go.Proofs.YtgejdfnidjnjcaaGreat.Vc
open Go.RowKit
def pq (t:TypeId):List Nat:=bif Nat.blt t 127 then(bif Nat.blt t 63 then(bif Nat.blt t 31 then(bif Nat.blt t 15 then[] else(bif Nat.blt t 23 then(bif Nat.blt t 19 then[] else(bif Nat.blt t 21 then[] else(bif Nat.blt t 22 then[] else[1]))) else(bif Nat.blt t 27 then(bif Nat.blt t 25 then[] else(bif Nat.blt t 26 then[1,1,0,0,0,0,0,0] else[1,1,0,0,0,0,0,0])) else(bif Nat.blt t 29 then(bif Nat.blt t 28 then[2] else[5]) else(bif Nat.blt t 30 then[0,0,0,2,5] else[0,0,0,2,5]))))) else(bif Nat.blt t 47 then(bif Nat.blt t 39 then(bif Nat.blt t 35 then(bif Nat.blt t 33 then[] else(bif Nat.blt t 34 then[8] else[0,0,0,2,5,0,0,0,8])) else(bif Nat.blt t 37 then(bif Nat.blt t 36 then[0,0,0,2,5,0,0,0,8] else[]) else[])) else(bif Nat.blt t 43 then(bif Nat.blt t 41 then[] else(bif Nat.blt t 42 then[] else[1])) else(bif Nat.blt t 45 then(bif Nat.blt t 44 then[] else[3]) else(bif Nat.blt t 46 then[1] else[])))) else(bif Nat.blt t 55 then(bif Nat.blt t 51 then[] else(bif Nat.blt t 53 then(bif Nat.blt t 52 then[] else[0,0,0,0,0,1,0,1]) else(bif Nat.blt t 54 then[0,0,0,0,0,1,0,1] else[]))) else(bif Nat.blt t 59 then[] else(bif Nat.blt t 61 then[] else(bif Nat.blt t 62 then[1] else[])))))) else(bif Nat.blt t 95 then(bif Nat.blt t 79 then(bif Nat.blt t 71 then[] else(bif Nat.blt t 75 then(bif Nat.blt t 73 then[] else(bif Nat.blt t 74 then[1] else[1])) else(bif Nat.blt t 77 then[] else(bif Nat.blt t 78 then[1] else[])))) else(bif Nat.blt t 87 then(bif Nat.blt t 83 then(bif Nat.blt t 81 then(bif Nat.blt t 80 then[] else[0,0,0,8,1,0]) else(bif Nat.blt t 82 then[0,0,0,8,1,0] else[])) else[]) else[])) else(bif Nat.blt t 111 then(bif Nat.blt t 103 then(bif Nat.blt t 99 then(bif Nat.blt t 97 then[] else(bif Nat.blt t 98 then[0,0,0,8,1,0] else[0,0,0,8,1,0])) else[]) else(bif Nat.blt t 107 then(bif Nat.blt t 105 then(bif Nat.blt t 104 then[] else[1,0]) else(bif Nat.blt t 106 then[1,0] else[])) else(bif Nat.blt t 109 then(bif Nat.blt t 108 then[1,0] else[]) else[]))) else(bif Nat.blt t 119 then[] else(bif Nat.blt t 123 then(bif Nat.blt t 121 then(bif Nat.blt t 120 then[1] else[]) else(bif Nat.blt t 122 then[] else[6])) else(bif Nat.blt t 125 then[] else(bif Nat.blt t 126 then[0,0,0,2,5,0] else[0,0,0,2,5,0]))))))) else[]
def pow (t:FuncId):List Nat:=bif Nat.blt t 63 then(bif Nat.blt t 31 then[] else(bif Nat.blt t 47 then[] else(bif Nat.blt t 55 then[] else(bif Nat.blt t 59 then[] else(bif Nat.blt t 61 then[] else(bif Nat.blt t 62 then[] else[0])))))) else[]
def pfz (f:FuncId):Bool:=([7,8,9,10,12,13,18,19,21,22,25,27,28,29,33,35,44,45,50,52,53,55,57,58,65,72,76,78,102]:List Nat).contains f
def pro (f:FuncId):Bool:=([53,62,92]:List Nat).contains f
def pkp (t:FuncId) (k:Nat):List Nat:=bif Nat.blt t 113 then(bif Nat.blt t 56 then(bif Nat.blt t 28 then(bif Nat.blt t 14 then(bif Nat.blt t 7 then(bif Nat.blt t 3 then[] else(bif Nat.blt t 5 then(bif Nat.blt t 4 then(bif Nat.blt k 20 then(bif Nat.blt k 10 then(bif Nat.blt k 5 then[] else(bif Nat.blt k 7 then(bif Nat.blt k 6 then[] else[3,5,7,9,44,45,46]) else(bif Nat.blt k 8 then[] else(bif Nat.blt k 9 then[] else[3,5,7,9,11,44,45,46,55,56,57])))) else(bif Nat.blt k 15 then(bif Nat.blt k 12 then[] else(bif Nat.blt k 13 then[3,5,7,9,11,13,44,45,46,55,56,57,64,65,66] else[])) else(bif Nat.blt k 17 then[] else(bif Nat.blt k 18 then[] else(bif Nat.blt k 19 then[] else[3,5,7,9,11,13,15,44,45,46,55,56,57,64,65,66,93,94,95]))))) else[]) else(bif Nat.blt k 14 then(bif Nat.blt k 7 then[] else(bif Nat.blt k 10 then(bif Nat.blt k 8 then[2,4,7,8,9,10,12,47,48] else[]) else(bif Nat.blt k 12 then[] else(bif Nat.blt k 13 then[] else[2,4,7,8,9,74,75,76])))) else[])) else(bif Nat.blt t 6 then(bif Nat.blt k 31 then(bif Nat.blt k 15 then(bif Nat.blt k 7 then[] else(bif Nat.blt k 11 then(bif Nat.blt k 9 then(bif Nat.blt k 8 then[2,4,7,8,9,10,11,38,39,40] else[]) else[]) else[])) else(bif Nat.blt k 23 then(bif Nat.blt k 19 then(bif Nat.blt k 17 then(bif Nat.blt k 16 then[2,4,7,8,9,10,14,15,70,71,72] else[]) else[]) else[]) else(bif Nat.blt k 27 then(bif Nat.blt k 25 then(bif Nat.blt k 24 then[4,7,8,9,10,14,15,109,110,111] else[]) else[]) else(bif Nat.blt k 29 then[] else(bif Nat.blt k 30 then[] else[4,7,8,9,10,128,129,130]))))) else[]) else[]))) else(bif Nat.blt t 10 then(bif Nat.blt t 8 then[] else(bif Nat.blt t 9 then(bif Nat.blt k 31 then(bif Nat.blt k 15 then(bif Nat.blt k 7 then(bif Nat.blt k 3 then[] else(bif Nat.blt k 5 then(bif Nat.blt k 4 then[3,4,5,6] else[]) else[])) else(bif Nat.blt k 11 then(bif Nat.blt k 9 then[] else(bif Nat.blt k 10 then[] else[4,5,7,9])) else[])) else(bif Nat.blt k 23 then[] else(bif Nat.blt k 27 then[] else(bif Nat.blt k 29 then[] else(bif Nat.blt k 30 then[] else[4,5,6,7,8]))))) else[]) else(bif Nat.blt k 10 then(bif Nat.blt k 5 then(bif Nat.blt k 2 then[] else(bif Nat.blt k 3 then[] else(bif Nat.blt k 4 then[1,2,4,5,6] else[]))) else(bif Nat.blt k 7 then[] else(bif Nat.blt k 8 then[] else(bif Nat.blt k 9 then[] else[1,2,4,5,8])))) else[]))) else[])) else(bif Nat.blt t 21 then(bif Nat.blt t 17 then(bif Nat.blt t 15 then(bif Nat.blt k 5 then(bif Nat.blt k 2 then[] else(bif Nat.blt k 3 then[] else(bif Nat.blt k 4 then[] else[0,1,12,13]))) else[]) else(bif Nat.blt t 16 then[] else(bif Nat.blt k 4 then(bif Nat.blt k 2 then[] else(bif Nat.blt k 3 then[] else[3,4,5,7,8])) else[]))) else(bif Nat.blt t 19 then(bif Nat.blt t 18 then[] else(bif Nat.blt k 15 then(bif Nat.blt k 7 then[] else(bif Nat.blt k 11 then(bif Nat.blt k 9 then[] else(bif Nat.blt k 10 then[2,3,4,5,12,13,14,15,49,50] else[])) else(bif Nat.blt k 13 then[] else(bif Nat.blt k 14 then[] else[2,3,4,5,12,13,14,15,16,49,50])))) else[])) else(bif Nat.blt t 20 then(bif Nat.blt k 13 then(bif Nat.blt k 6 then[] else(bif Nat.blt k 9 then(bif Nat.blt k 7 then[] else(bif Nat.blt k 8 then[2,3,4,5,12,13,14,15] else[])) else(bif Nat.blt k 11 then[] else(bif Nat.blt k 12 then[] else[2,3,4,5,12,13,14,15,16])))) else[]) else(bif Nat.blt k 5 then(bif Nat.blt k 2 then[] else(bif Nat.blt k 3 then[] else(bif Nat.blt k 4 then[] else[0,1,5]))) else[])))) else(bif Nat.blt t 24 then(bif Nat.blt t 22 then(bif Nat.blt k 5 then(bif Nat.blt k 2 then[] else(bif Nat.blt k 3 then[] else(bif Nat.blt k 4 then[] else[1,2,7,8,11,12]))) else[]) else[]) else(bif Nat.blt t 26 then(bif Nat.blt t 25 then(bif Nat.blt k 6 then(bif Nat.blt k 3 then[] else(bif Nat.blt k 4 then[] else(bif Nat.blt k 5 then[] else[2,3,4,5,9,10]))) else[]) else[]) else(bif Nat.blt t 27 then(bif Nat.blt k 11 then(bif Nat.blt k 5 then[] else(bif Nat.blt k 8 then(bif Nat.blt k 6 then[] else(bif Nat.blt k 7 then[1,34,35,36] else[])) else(bif Nat.blt k 9 then[] else(bif Nat.blt k 10 then[] else[1,10,11,12,34,35,36,41,42,43])))) else[]) else[]))))) else(bif Nat.blt t 42 then(bif Nat.blt t 35 then(bif Nat.blt t 31 then(bif Nat.blt t 29 then(bif Nat.blt k 7 then(bif Nat.blt k 3 then[] else(bif Nat.blt k 5 then[] else(bif Nat.blt k 6 then[] else[5,6,7,8,9]))) else[]) else(bif Nat.blt t 30 then(bif Nat.blt k 6 then(bif Nat.blt k 3 then[] else(bif Nat.blt k 4 then[] else(bif Nat.blt k 5 then[] else[1,2,3,4]))) else[]) else(bif Nat.blt k 7 then(bif Nat.blt k 3 then[] else(bif Nat.blt k 5 then[] else(bif Nat.blt k 6 then[] else[6,37,38,39]))) else[]))) else(bif Nat.blt t 33 then[] else(bif Nat.blt t 34 then[] else(bif Nat.blt k 16 then(bif Nat.blt k 8 then(bif Nat.blt k 4 then[] else(bif Nat.blt k 6 then[] else(bif Nat.blt k 7 then[3,5,6] else[]))) else(bif Nat.blt k 12 then[] else(bif Nat.blt k 14 then[] else(bif Nat.blt k 15 then[] else[3,7])))) else[])))) else(bif Nat.blt t 38 then(bif Nat.blt t 36 then(bif Nat.blt k 33 then(bif Nat.blt k 16 then(bif Nat.blt k 8 then(bif Nat.blt k 4 then[] else(bif Nat.blt k 6 then(bif Nat.blt k 5 then[] else[0,3,5,6]) else[])) else(bif Nat.blt k 12 then(bif Nat.blt k 10 then(bif Nat.blt k 9 then[] else[0,3,5,7]) else[]) else[])) else(bif Nat.blt k 24 then(bif Nat.blt k 20 then(bif Nat.blt k 18 then(bif Nat.blt k 17 then[0,3,5,7,9,10,11,12] else[]) else[]) else(bif Nat.blt k 22 then[] else(bif Nat.blt k 23 then[0,3,5,7,9,10,11,12,13] else[]))) else(bif Nat.blt k 28 then[] else(bif Nat.blt k 30 then[] else(bif Nat.blt k 31 then[] else(bif Nat.blt k 32 then[] else[5,14,15,16])))))) else[]) else[]) else(bif Nat.blt t 40 then[] else(bif Nat.blt t 41 then(bif Nat.blt k 3 then(bif Nat.blt k 1 then[] else(bif Nat.blt k 2 then[] else[0,1,8,9,10])) else[]) else[])))) else(bif Nat.blt t 49 then(bif Nat.blt t 45 then(bif Nat.blt t 43 then[] else(bif Nat.blt t 44 then[] else(bif Nat.blt k 5 then(bif Nat.blt k 2 then[] else(bif Nat.blt k 3 then[] else(bif Nat.blt k 4 then[] else[3,5,6]))) else[]))) else(bif Nat.blt t 47 then(bif Nat.blt t 46 then(bif Nat.blt k 4 then(bif Nat.blt k 2 then[] else(bif Nat.blt k 3 then[] else[2,14,15,16])) else[]) else[]) else(bif Nat.blt t 48 then(bif Nat.blt k 9 then(bif Nat.blt k 4 then[] else(bif Nat.blt k 6 then[] else(bif Nat.blt k 7 then[] else(bif Nat.blt k 8 then[] else[5,6,7,10,11,35,36,37])))) else[]) else(bif Nat.blt k 4 then(bif Nat.blt k 2 then[] else(bif Nat.blt k 3 then[] else[3,4,5,8,9,13,14,15])) else[])))) else(bif Nat.blt t 52 then(bif Nat.blt t 50 then[] else(bif Nat.blt t 51 then[] else(bif Nat.blt k 21 then(bif Nat.blt k 10 then(bif Nat.blt k 5 then[] else(bif Nat.blt k 7 then(bif Nat.blt k 6 then[] else[0,3,4,5,6,7,8]) else[])) else(bif Nat.blt k 15 then[] else(bif Nat.blt k 18 then[] else(bif Nat.blt k 19 then[] else(bif Nat.blt k 20 then[] else[0,3,4,9,10,11,12]))))) else[]))) else(bif Nat.blt t 54 then(bif Nat.blt t 53 then(bif Nat.blt k 10 then(bif Nat.blt k 5 then[] else(bif Nat.blt k 7 then[] else(bif Nat.blt k 8 then[] else(bif Nat.blt k 9 then[] else[0,1,2,6,7,8,9,10])))) else[]) else(bif Nat.blt k 12 then(bif Nat.blt k 6 then(bif Nat.blt k 3 then[] else(bif Nat.blt k 4 then[] else(bif Nat.blt k 5 then[3,5,6] else[]))) else(bif Nat.blt k 9 then(bif Nat.blt k 7 then[] else(bif Nat.blt k 8 then[] else[3,5,6,7,8])) else(bif Nat.blt k 10 then[] else(bif Nat.blt k 11 then[] else[3,5,6,7,8,9])))) else[])) else[]))))) else(bif Nat.blt t 84 then(bif Nat.blt t 70 then(bif Nat.blt t 63 then(bif Nat.blt t 59 then(bif Nat.blt t 57 then[] else(bif Nat.blt t 58 then[] else(bif Nat.blt k 39 then(bif Nat.blt k 19 then(bif Nat.blt k 9 then(bif Nat.blt k 4 then[] else(bif Nat.blt k 6 then(bif Nat.blt k 5 then[] else[1,2,3,4,7,9,10,11]) else[])) else(bif Nat.blt k 14 then[] else(bif Nat.blt k 16 then(bif Nat.blt k 15 then[3,5,6,7,9,12,13] else[]) else(bif Nat.blt k 17 then[] else(bif Nat.blt k 18 then[] else[3,5,6,7,9,12,72,73,74]))))) else(bif Nat.blt k 29 then(bif Nat.blt k 24 then[] else(bif Nat.blt k 26 then(bif Nat.blt k 25 then[] else[3,5,6,7,9,12,17,18,19,72,73,74,96,97]) else[])) else(bif Nat.blt k 34 then[] else(bif Nat.blt k 36 then[] else(bif Nat.blt k 37 then[] else(bif Nat.blt k 38 then[] else[9,12,21,22])))))) else[]))) else(bif Nat.blt t 61 then(bif Nat.blt t 60 then[] else(bif Nat.blt k 2 then(bif Nat.blt k 1 then[] else[1,2,6]) else[])) else(bif Nat.blt t 62 then[] else(bif Nat.blt k 6 then(bif Nat.blt k 3 then[] else(bif Nat.blt k 4 then[] else(bif Nat.blt k 5 then[] else[0,2,4,8]))) else[])))) else(bif Nat.blt t 66 then(bif Nat.blt t 64 then[] else(bif Nat.blt t 65 then(bif Nat.blt k 29 then(bif Nat.blt k 14 then[] else(bif Nat.blt k 21 then[] else(bif Nat.blt k 25 then(bif Nat.blt k 23 then[] else(bif Nat.blt k 24 then[1,3] else[])) else(bif Nat.blt k 27 then[] else(bif Nat.blt k 28 then[] else[1,4]))))) else[]) else(bif Nat.blt k 10 then(bif Nat.blt k 5 then(bif Nat.blt k 2 then[] else(bif Nat.blt k 3 then[] else(bif Nat.blt k 4 then[0,3,5,6] else[]))) else(bif Nat.blt k 7 then[] else(bif Nat.blt k 8 then[] else(bif Nat.blt k 9 then[] else[0,3,5,6,7,8,9,10])))) else[]))) else(bif Nat.blt t 68 then(bif Nat.blt t 67 then(bif Nat.blt k 3 then(bif Nat.blt k 1 then[] else(bif Nat.blt k 2 then[] else[0,1,2,7])) else[]) else(bif Nat.blt k 3 then(bif Nat.blt k 1 then[] else(bif Nat.blt k 2 then[] else[0,3,7,8])) else[])) else[]))) else(bif Nat.blt t 77 then(bif Nat.blt t 73 then(bif Nat.blt t 71 then(bif Nat.blt k 3 then(bif Nat.blt k 1 then[] else(bif Nat.blt k 2 then[] else[0,1,7,8])) else[]) else(bif Nat.blt t 72 then[] else(bif Nat.blt k 4 then(bif Nat.blt k 2 then[] else(bif Nat.blt k 3 then[] else[1,2,14,15,16])) else[]))) else(bif Nat.blt t 75 then[] else(bif Nat.blt t 76 then[] else(bif Nat.blt k 9 then(bif Nat.blt k 4 then[] else(bif Nat.blt k 6 then(bif Nat.blt k 5 then[0,3,4,5] else[]) else(bif Nat.blt k 7 then[] else(bif Nat.blt k 8 then[] else[0,3,4,5,6,7])))) else[])))) else(bif Nat.blt t 80 then[] else(bif Nat.blt t 82 then(bif Nat.blt t 81 then[] else(bif Nat.blt k 8 then(bif Nat.blt k 4 then[] else(bif Nat.blt k 6 then[] else(bif Nat.blt k 7 then[] else[1,22,23,24]))) else[])) else[])))) else(bif Nat.blt t 98 then(bif Nat.blt t 91 then(bif Nat.blt t 87 then[] else(bif Nat.blt t 89 then(bif Nat.blt t 88 then(bif Nat.blt k 3 then(bif Nat.blt k 1 then[] else(bif Nat.blt k 2 then[] else[0,1,2,7])) else[]) else(bif Nat.blt k 3 then(bif Nat.blt k 1 then[] else(bif Nat.blt k 2 then[] else[1,9,10,11])) else[])) else[])) else(bif Nat.blt t 94 then[] else(bif Nat.blt t 96 then(bif Nat.blt t 95 then[] else(bif Nat.blt k 5 then(bif Nat.blt k 2 then[] else(bif Nat.blt k 3 then[] else(bif Nat.blt k 4 then[] else[1,2,15,16,17]))) else[])) else[]))) else(bif Nat.blt t 105 then(bif Nat.blt t 101 then(bif Nat.blt t 99 then[] else(bif Nat.blt t 100 then[] else(bif Nat.blt k 3 then(bif Nat.blt k 1 then[] else(bif Nat.blt k 2 then[] else[0,3])) else[]))) else(bif Nat.blt t 103 then[] else(bif Nat.blt t 104 then(bif Nat.blt k 3 then(bif Nat.blt k 1 then[] else(bif Nat.blt k 2 then[] else[0,1,7,8])) else[]) else[]))) else(bif Nat.blt t 109 then(bif Nat.blt t 107 then(bif Nat.blt t 106 then(bif Nat.blt k 4 then(bif Nat.blt k 2 then[] else(bif Nat.blt k 3 then[] else[3,6,7,8])) else[]) else[]) else[]) else(bif Nat.blt t 111 then[] else(bif Nat.blt t 112 then[] else(bif Nat.blt k 3 then(bif Nat.blt k 1 then[] else(bif Nat.blt k 2 then[] else[1,2,10])) else[])))))))) else[]
def pkx (t:FuncId) (k:Nat):List Nat:=bif Nat.blt t 113 then(bif Nat.blt t 56 then(bif Nat.blt t 28 then(bif Nat.blt t 14 then(bif Nat.blt t 7 then(bif Nat.blt t 3 then[] else(bif Nat.blt t 5 then(bif Nat.blt t 4 then(bif Nat.blt k 20 then(bif Nat.blt k 10 then(bif Nat.blt k 5 then[] else(bif Nat.blt k 7 then(bif Nat.blt k 6 then[] else[4,5]) else(bif Nat.blt k 8 then[] else(bif Nat.blt k 9 then[] else[3,4,5,7,9,44,45,46])))) else(bif Nat.blt k 15 then(bif Nat.blt k 12 then[] else(bif Nat.blt k 13 then[3,4,5,7,9,11,44,45,46,55,56,57] else[])) else(bif Nat.blt k 17 then[] else(bif Nat.blt k 18 then[] else(bif Nat.blt k 19 then[] else[3,4,5,7,9,11,13,44,45,46,55,56,57,64,65,66]))))) else[]) else(bif Nat.blt k 14 then(bif Nat.blt k 7 then[] else(bif Nat.blt k 10 then(bif Nat.blt k 8 then[2,4,7,8,9,12] else[]) else(bif Nat.blt k 12 then[] else(bif Nat.blt k 13 then[] else[2,4,6,7])))) else[])) else(bif Nat.blt t 6 then(bif Nat.blt k 31 then(bif Nat.blt k 15 then(bif Nat.blt k 7 then[] else(bif Nat.blt k 11 then(bif Nat.blt k 9 then(bif Nat.blt k 8 then[2,4,7,8,9,10,11] else[]) else[]) else[])) else(bif Nat.blt k 23 then(bif Nat.blt k 19 then(bif Nat.blt k 17 then(bif Nat.blt k 16 then[4,6,7,8,9,10,14] else[]) else[]) else[]) else(bif Nat.blt k 27 then(bif Nat.blt k 25 then(bif Nat.blt k 24 then[4,6,7,8,9,10,14] else[]) else[]) else(bif Nat.blt k 29 then[] else(bif Nat.blt k 30 then[] else[6,7]))))) else[]) else[]))) else(bif Nat.blt t 10 then(bif Nat.blt t 8 then[] else(bif Nat.blt t 9 then(bif Nat.blt k 31 then(bif Nat.blt k 15 then(bif Nat.blt k 7 then(bif Nat.blt k 3 then[] else(bif Nat.blt k 5 then(bif Nat.blt k 4 then[3,4,5,6] else[]) else[])) else(bif Nat.blt k 11 then(bif Nat.blt k 9 then[] else(bif Nat.blt k 10 then[] else[4,5])) else[])) else(bif Nat.blt k 23 then[] else(bif Nat.blt k 27 then[] else(bif Nat.blt k 29 then[] else(bif Nat.blt k 30 then[] else[4,5]))))) else[]) else(bif Nat.blt k 10 then(bif Nat.blt k 5 then(bif Nat.blt k 2 then[] else(bif Nat.blt k 3 then[] else(bif Nat.blt k 4 then[1,2,4,5] else[]))) else(bif Nat.blt k 7 then[] else(bif Nat.blt k 8 then[] else(bif Nat.blt k 9 then[] else[4,5])))) else[]))) else[])) else(bif Nat.blt t 21 then(bif Nat.blt t 17 then(bif Nat.blt t 15 then(bif Nat.blt k 5 then(bif Nat.blt k 2 then[] else(bif Nat.blt k 3 then[] else(bif Nat.blt k 4 then[] else[4]))) else[]) else(bif Nat.blt t 16 then[] else(bif Nat.blt k 4 then(bif Nat.blt k 2 then[] else(bif Nat.blt k 3 then[] else[3,4,5,7])) else[]))) else(bif Nat.blt t 19 then(bif Nat.blt t 18 then[] else(bif Nat.blt k 15 then(bif Nat.blt k 7 then[] else(bif Nat.blt k 11 then(bif Nat.blt k 9 then[] else(bif Nat.blt k 10 then[15] else[])) else(bif Nat.blt k 13 then[] else(bif Nat.blt k 14 then[] else[2,3,4,5,12,13,14,15,16,49,50])))) else[])) else(bif Nat.blt t 20 then(bif Nat.blt k 13 then(bif Nat.blt k 6 then[] else(bif Nat.blt k 9 then(bif Nat.blt k 7 then[] else(bif Nat.blt k 8 then[14] else[])) else(bif Nat.blt k 11 then[] else(bif Nat.blt k 12 then[] else[2,3,4,5,12,13,14,15])))) else[]) else(bif Nat.blt k 5 then(bif Nat.blt k 2 then[] else(bif Nat.blt k 3 then[] else(bif Nat.blt k 4 then[] else[4]))) else[])))) else(bif Nat.blt t 24 then(bif Nat.blt t 22 then(bif Nat.blt k 5 then(bif Nat.blt k 2 then[] else(bif Nat.blt k 3 then[] else(bif Nat.blt k 4 then[] else[7]))) else[]) else[]) else(bif Nat.blt t 26 then(bif Nat.blt t 25 then(bif Nat.blt k 6 then(bif Nat.blt k 3 then[] else(bif Nat.blt k 4 then[] else(bif Nat.blt k 5 then[] else[2,3,4,5,8]))) else[]) else[]) else(bif Nat.blt t 27 then(bif Nat.blt k 11 then(bif Nat.blt k 5 then[] else(bif Nat.blt k 8 then(bif Nat.blt k 6 then[] else(bif Nat.blt k 7 then[4] else[])) else(bif Nat.blt k 9 then[] else(bif Nat.blt k 10 then[] else[1,11,12,34,35,36])))) else[]) else[]))))) else(bif Nat.blt t 42 then(bif Nat.blt t 35 then(bif Nat.blt t 31 then(bif Nat.blt t 29 then(bif Nat.blt k 7 then(bif Nat.blt k 3 then[] else(bif Nat.blt k 5 then[] else(bif Nat.blt k 6 then[] else[7]))) else[]) else(bif Nat.blt t 30 then(bif Nat.blt k 6 then(bif Nat.blt k 3 then[] else(bif Nat.blt k 4 then[] else(bif Nat.blt k 5 then[] else[2,3]))) else[]) else(bif Nat.blt k 7 then(bif Nat.blt k 3 then[] else(bif Nat.blt k 5 then[] else(bif Nat.blt k 6 then[] else[2]))) else[]))) else(bif Nat.blt t 33 then[] else(bif Nat.blt t 34 then[] else(bif Nat.blt k 16 then(bif Nat.blt k 8 then(bif Nat.blt k 4 then[] else(bif Nat.blt k 6 then[] else(bif Nat.blt k 7 then[2,3,5] else[]))) else(bif Nat.blt k 12 then[] else(bif Nat.blt k 14 then[] else(bif Nat.blt k 15 then[] else[2])))) else[])))) else(bif Nat.blt t 38 then(bif Nat.blt t 36 then(bif Nat.blt k 33 then(bif Nat.blt k 16 then(bif Nat.blt k 8 then(bif Nat.blt k 4 then[] else(bif Nat.blt k 6 then(bif Nat.blt k 5 then[] else[0,3,5]) else[])) else(bif Nat.blt k 12 then(bif Nat.blt k 10 then(bif Nat.blt k 9 then[] else[3,5]) else[]) else[])) else(bif Nat.blt k 24 then(bif Nat.blt k 20 then(bif Nat.blt k 18 then(bif Nat.blt k 17 then[0,3,7,11] else[]) else[]) else(bif Nat.blt k 22 then[] else(bif Nat.blt k 23 then[0,3,5,7,9,10,11,12] else[]))) else(bif Nat.blt k 28 then[] else(bif Nat.blt k 30 then[] else(bif Nat.blt k 31 then[] else(bif Nat.blt k 32 then[] else[15])))))) else[]) else[]) else(bif Nat.blt t 40 then[] else(bif Nat.blt t 41 then(bif Nat.blt k 3 then(bif Nat.blt k 1 then[] else(bif Nat.blt k 2 then[] else[5])) else[]) else[])))) else(bif Nat.blt t 49 then(bif Nat.blt t 45 then(bif Nat.blt t 43 then[] else(bif Nat.blt t 44 then[] else(bif Nat.blt k 5 then(bif Nat.blt k 2 then[] else(bif Nat.blt k 3 then[] else(bif Nat.blt k 4 then[] else[5]))) else[]))) else(bif Nat.blt t 47 then(bif Nat.blt t 46 then(bif Nat.blt k 4 then(bif Nat.blt k 2 then[] else(bif Nat.blt k 3 then[] else[2])) else[]) else[]) else(bif Nat.blt t 48 then(bif Nat.blt k 9 then(bif Nat.blt k 4 then[] else(bif Nat.blt k 6 then[] else(bif Nat.blt k 7 then[] else(bif Nat.blt k 8 then[] else[6,7,10,11])))) else[]) else(bif Nat.blt k 4 then(bif Nat.blt k 2 then[] else(bif Nat.blt k 3 then[] else[8,9])) else[])))) else(bif Nat.blt t 52 then(bif Nat.blt t 50 then[] else(bif Nat.blt t 51 then[] else(bif Nat.blt k 21 then(bif Nat.blt k 10 then(bif Nat.blt k 5 then[] else(bif Nat.blt k 7 then(bif Nat.blt k 6 then[] else[0,3,4,5,6,7]) else[])) else(bif Nat.blt k 15 then[] else(bif Nat.blt k 18 then[] else(bif Nat.blt k 19 then[] else(bif Nat.blt k 20 then[] else[3,4,9,10,11]))))) else[]))) else(bif Nat.blt t 54 then(bif Nat.blt t 53 then(bif Nat.blt k 10 then(bif Nat.blt k 5 then[] else(bif Nat.blt k 7 then[] else(bif Nat.blt k 8 then[] else(bif Nat.blt k 9 then[] else[0,6,7,8,9])))) else[]) else(bif Nat.blt k 12 then(bif Nat.blt k 6 then(bif Nat.blt k 3 then[] else(bif Nat.blt k 4 then[] else(bif Nat.blt k 5 then[5] else[]))) else(bif Nat.blt k 9 then(bif Nat.blt k 7 then[] else(bif Nat.blt k 8 then[] else[3,5,6])) else(bif Nat.blt k 10 then[] else(bif Nat.blt k 11 then[] else[3,5,6,7,8,9])))) else[])) else[]))))) else(bif Nat.blt t 84 then(bif Nat.blt t 70 then(bif Nat.blt t 63 then(bif Nat.blt t 59 then(bif Nat.blt t 57 then[] else(bif Nat.blt t 58 then[] else(bif Nat.blt k 39 then(bif Nat.blt k 19 then(bif Nat.blt k 9 then(bif Nat.blt k 4 then[] else(bif Nat.blt k 6 then(bif Nat.blt k 5 then[] else[3,9]) else[])) else(bif Nat.blt k 14 then[] else(bif Nat.blt k 16 then(bif Nat.blt k 15 then[3,5,6,7,9,12] else[]) else(bif Nat.blt k 17 then[] else(bif Nat.blt k 18 then[] else[7,9,12]))))) else(bif Nat.blt k 29 then(bif Nat.blt k 24 then[] else(bif Nat.blt k 26 then(bif Nat.blt k 25 then[] else[3,5,6,7,9,12,19,72,73,74]) else[])) else(bif Nat.blt k 34 then[] else(bif Nat.blt k 36 then[] else(bif Nat.blt k 37 then[] else(bif Nat.blt k 38 then[] else[9])))))) else[]))) else(bif Nat.blt t 61 then(bif Nat.blt t 60 then[] else(bif Nat.blt k 2 then(bif Nat.blt k 1 then[] else[]) else[])) else(bif Nat.blt t 62 then[] else(bif Nat.blt k 6 then(bif Nat.blt k 3 then[] else(bif Nat.blt k 4 then[] else(bif Nat.blt k 5 then[] else[0,6,7]))) else[])))) else(bif Nat.blt t 66 then(bif Nat.blt t 64 then[] else(bif Nat.blt t 65 then(bif Nat.blt k 29 then(bif Nat.blt k 14 then[] else(bif Nat.blt k 21 then[] else(bif Nat.blt k 25 then(bif Nat.blt k 23 then[] else(bif Nat.blt k 24 then[1,2] else[])) else(bif Nat.blt k 27 then[] else(bif Nat.blt k 28 then[] else[2]))))) else[]) else(bif Nat.blt k 10 then(bif Nat.blt k 5 then(bif Nat.blt k 2 then[] else(bif Nat.blt k 3 then[] else(bif Nat.blt k 4 then[0,5] else[]))) else(bif Nat.blt k 7 then[] else(bif Nat.blt k 8 then[] else(bif Nat.blt k 9 then[] else[0,3,5,6,7,8,9])))) else[]))) else(bif Nat.blt t 68 then(bif Nat.blt t 67 then(bif Nat.blt k 3 then(bif Nat.blt k 1 then[] else(bif Nat.blt k 2 then[] else[6])) else[]) else(bif Nat.blt k 3 then(bif Nat.blt k 1 then[] else(bif Nat.blt k 2 then[] else[4])) else[])) else[]))) else(bif Nat.blt t 77 then(bif Nat.blt t 73 then(bif Nat.blt t 71 then(bif Nat.blt k 3 then(bif Nat.blt k 1 then[] else(bif Nat.blt k 2 then[] else[4])) else[]) else(bif Nat.blt t 72 then[] else(bif Nat.blt k 4 then(bif Nat.blt k 2 then[] else(bif Nat.blt k 3 then[] else[1,2])) else[]))) else(bif Nat.blt t 75 then[] else(bif Nat.blt t 76 then[] else(bif Nat.blt k 9 then(bif Nat.blt k 4 then[] else(bif Nat.blt k 6 then(bif Nat.blt k 5 then[4] else[]) else(bif Nat.blt k 7 then[] else(bif Nat.blt k 8 then[] else[0,3,4,5,6,7])))) else[])))) else(bif Nat.blt t 80 then[] else(bif Nat.blt t 82 then(bif Nat.blt t 81 then[] else(bif Nat.blt k 8 then(bif Nat.blt k 4 then[] else(bif Nat.blt k 6 then[] else(bif Nat.blt k 7 then[] else[2]))) else[])) else[])))) else(bif Nat.blt t 98 then(bif Nat.blt t 91 then(bif Nat.blt t 87 then[] else(bif Nat.blt t 89 then(bif Nat.blt t 88 then(bif Nat.blt k 3 then(bif Nat.blt k 1 then[] else(bif Nat.blt k 2 then[] else[6])) else[]) else(bif Nat.blt k 3 then(bif Nat.blt k 1 then[] else(bif Nat.blt k 2 then[] else[1,2])) else[])) else[])) else(bif Nat.blt t 94 then[] else(bif Nat.blt t 96 then(bif Nat.blt t 95 then[] else(bif Nat.blt k 5 then(bif Nat.blt k 2 then[] else(bif Nat.blt k 3 then[] else(bif Nat.blt k 4 then[] else[6]))) else[])) else[]))) else(bif Nat.blt t 105 then(bif Nat.blt t 101 then(bif Nat.blt t 99 then[] else(bif Nat.blt t 100 then[] else(bif Nat.blt k 3 then(bif Nat.blt k 1 then[] else(bif Nat.blt k 2 then[] else[0,2])) else[]))) else(bif Nat.blt t 103 then[] else(bif Nat.blt t 104 then(bif Nat.blt k 3 then(bif Nat.blt k 1 then[] else(bif Nat.blt k 2 then[] else[4])) else[]) else[]))) else(bif Nat.blt t 109 then(bif Nat.blt t 107 then(bif Nat.blt t 106 then(bif Nat.blt k 4 then(bif Nat.blt k 2 then[] else(bif Nat.blt k 3 then[] else[2,3])) else[]) else[]) else[]) else(bif Nat.blt t 111 then[] else(bif Nat.blt t 112 then[] else(bif Nat.blt k 3 then(bif Nat.blt k 1 then[] else(bif Nat.blt k 2 then[] else[6])) else[])))))))) else[]
def prw (t:FuncId) (k:Nat):List Rw:=bif Nat.blt t 77 then(bif Nat.blt t 38 then(bif Nat.blt t 19 then(bif Nat.blt t 9 then(bif Nat.blt t 4 then[] else(bif Nat.blt t 6 then(bif Nat.blt t 5 then(bif Nat.blt k 8 then(bif Nat.blt k 4 then[] else(bif Nat.blt k 6 then[] else(bif Nat.blt k 7 then[] else[.slot 12 3 1]))) else[]) else(bif Nat.blt k 8 then(bif Nat.blt k 4 then[] else(bif Nat.blt k 6 then[] else(bif Nat.blt k 7 then[] else[.slot 11 3 1]))) else[])) else(bif Nat.blt t 7 then[] else(bif Nat.blt t 8 then[] else(bif Nat.blt k 11 then(bif Nat.blt k 5 then[] else(bif Nat.blt k 8 then[] else(bif Nat.blt k 9 then[] else(bif Nat.blt k 10 then[] else[.cell 5 4 30 5])))) else[]))))) else(bif Nat.blt t 14 then(bif Nat.blt t 11 then(bif Nat.blt t 10 then(bif Nat.blt k 10 then(bif Nat.blt k 5 then(bif Nat.blt k 2 then[] else(bif Nat.blt k 3 then[] else(bif Nat.blt k 4 then[.cell 5 3 51 2] else[]))) else(bif Nat.blt k 7 then[] else(bif Nat.blt k 8 then[] else(bif Nat.blt k 9 then[] else[.cell 5 4 30 5])))) else[]) else[]) else[]) else(bif Nat.blt t 16 then[] else(bif Nat.blt t 17 then[] else(bif Nat.blt t 18 then[] else(bif Nat.blt k 10 then(bif Nat.blt k 5 then[] else(bif Nat.blt k 7 then[] else(bif Nat.blt k 8 then[] else(bif Nat.blt k 9 then[] else[.cell 12 0 3 1,.slot 15 3 1])))) else[])))))) else(bif Nat.blt t 28 then(bif Nat.blt t 23 then(bif Nat.blt t 21 then(bif Nat.blt t 20 then(bif Nat.blt k 13 then(bif Nat.blt k 6 then[] else(bif Nat.blt k 9 then(bif Nat.blt k 7 then[] else(bif Nat.blt k 8 then[.slot 13 3 1,.slot 14 3 1] else[])) else(bif Nat.blt k 11 then[] else(bif Nat.blt k 12 then[] else[.slot 14 3 1])))) else[]) else[]) else(bif Nat.blt t 22 then(bif Nat.blt k 5 then(bif Nat.blt k 2 then[] else(bif Nat.blt k 3 then[] else(bif Nat.blt k 4 then[] else[.slot 7 3 1]))) else[]) else[])) else[]) else(bif Nat.blt t 33 then(bif Nat.blt t 30 then(bif Nat.blt t 29 then(bif Nat.blt k 7 then(bif Nat.blt k 3 then[] else(bif Nat.blt k 5 then[] else(bif Nat.blt k 6 then[] else[.slot 7 53 8]))) else[]) else(bif Nat.blt k 6 then(bif Nat.blt k 3 then[] else(bif Nat.blt k 4 then[] else(bif Nat.blt k 5 then[] else[.cell 3 4 30 5]))) else[])) else[]) else[]))) else(bif Nat.blt t 57 then(bif Nat.blt t 47 then(bif Nat.blt t 42 then[] else(bif Nat.blt t 44 then[] else(bif Nat.blt t 45 then(bif Nat.blt k 5 then(bif Nat.blt k 2 then[] else(bif Nat.blt k 3 then[] else(bif Nat.blt k 4 then[] else[.slot 5 30 5]))) else[]) else(bif Nat.blt t 46 then(bif Nat.blt k 4 then(bif Nat.blt k 2 then[] else(bif Nat.blt k 3 then[] else[.slot 2 30 5])) else[]) else[])))) else(bif Nat.blt t 52 then[] else(bif Nat.blt t 54 then(bif Nat.blt t 53 then(bif Nat.blt k 10 then(bif Nat.blt k 5 then[] else(bif Nat.blt k 7 then[] else(bif Nat.blt k 8 then[] else(bif Nat.blt k 9 then[] else[.cell 9 4 30 5])))) else[]) else(bif Nat.blt k 9 then(bif Nat.blt k 4 then[] else(bif Nat.blt k 6 then(bif Nat.blt k 5 then[.slot 5 51 2] else[]) else(bif Nat.blt k 7 then[] else(bif Nat.blt k 8 then[] else[.slot 5 51 2])))) else[])) else[]))) else(bif Nat.blt t 67 then[] else(bif Nat.blt t 72 then[] else(bif Nat.blt t 74 then[] else(bif Nat.blt t 75 then[] else(bif Nat.blt t 76 then[] else(bif Nat.blt k 5 then(bif Nat.blt k 2 then[] else(bif Nat.blt k 3 then[] else(bif Nat.blt k 4 then[] else[.slot 4 51 2]))) else[])))))))) else[]
def pdm (t:FuncId) (k:Nat):Nat:=bif Nat.blt t 100 then(bif Nat.blt t 50 then(bif Nat.blt t 25 then(bif Nat.blt t 12 then(bif Nat.blt t 6 then(bif Nat.blt t 3 then 0 else(bif Nat.blt t 4 then(bif Nat.blt k 22 then(bif Nat.blt k 11 then(bif Nat.blt k 5 then 0 else(bif Nat.blt k 8 then(bif Nat.blt k 6 then 13 else 0) else 0)) else(bif Nat.blt k 16 then(bif Nat.blt k 13 then(bif Nat.blt k 12 then 6 else 0) else 0) else(bif Nat.blt k 19 then 0 else(bif Nat.blt k 20 then 0 else(bif Nat.blt k 21 then 0 else 7))))) else 0) else(bif Nat.blt t 5 then(bif Nat.blt k 23 then(bif Nat.blt k 11 then(bif Nat.blt k 5 then(bif Nat.blt k 2 then 0 else(bif Nat.blt k 3 then 0 else(bif Nat.blt k 4 then 0 else 8))) else 0) else(bif Nat.blt k 17 then(bif Nat.blt k 14 then 0 else(bif Nat.blt k 15 then 0 else(bif Nat.blt k 16 then 9 else 9))) else(bif Nat.blt k 20 then 0 else(bif Nat.blt k 21 then 0 else(bif Nat.blt k 22 then 13 else 13))))) else 0) else(bif Nat.blt k 33 then(bif Nat.blt k 16 then 0 else(bif Nat.blt k 24 then(bif Nat.blt k 20 then 0 else(bif Nat.blt k 22 then(bif Nat.blt k 21 then 0 else 15) else 0)) else(bif Nat.blt k 28 then(bif Nat.blt k 26 then(bif Nat.blt k 25 then 0 else 9) else 0) else(bif Nat.blt k 30 then 0 else(bif Nat.blt k 31 then 0 else(bif Nat.blt k 32 then 0 else 31)))))) else 0)))) else(bif Nat.blt t 9 then(bif Nat.blt t 7 then(bif Nat.blt k 8 then(bif Nat.blt k 4 then(bif Nat.blt k 2 then 0 else(bif Nat.blt k 3 then 0 else 11)) else(bif Nat.blt k 6 then 0 else(bif Nat.blt k 7 then 0 else 36))) else 0) else(bif Nat.blt t 8 then(bif Nat.blt k 3 then(bif Nat.blt k 1 then 0 else(bif Nat.blt k 2 then 0 else 5)) else 0) else(bif Nat.blt k 33 then(bif Nat.blt k 16 then(bif Nat.blt k 8 then(bif Nat.blt k 4 then 0 else(bif Nat.blt k 6 then(bif Nat.blt k 5 then 0 else 24) else 0)) else(bif Nat.blt k 12 then 0 else(bif Nat.blt k 14 then(bif Nat.blt k 13 then 12 else 0) else 0))) else(bif Nat.blt k 24 then(bif Nat.blt k 20 then 0 else(bif Nat.blt k 22 then 0 else(bif Nat.blt k 23 then 15 else 0))) else(bif Nat.blt k 28 then(bif Nat.blt k 26 then 0 else(bif Nat.blt k 27 then 0 else 8)) else(bif Nat.blt k 30 then 0 else(bif Nat.blt k 31 then 0 else(bif Nat.blt k 32 then 0 else 14)))))) else 0))) else(bif Nat.blt t 10 then(bif Nat.blt k 12 then(bif Nat.blt k 6 then 0 else(bif Nat.blt k 9 then 0 else(bif Nat.blt k 10 then 0 else(bif Nat.blt k 11 then 0 else 11)))) else 0) else 0))) else(bif Nat.blt t 18 then(bif Nat.blt t 15 then(bif Nat.blt t 13 then 0 else(bif Nat.blt t 14 then 0 else(bif Nat.blt k 7 then(bif Nat.blt k 3 then 0 else(bif Nat.blt k 5 then 0 else(bif Nat.blt k 6 then 0 else 8))) else 0))) else(bif Nat.blt t 16 then 0 else(bif Nat.blt t 17 then(bif Nat.blt k 6 then(bif Nat.blt k 3 then 0 else(bif Nat.blt k 4 then 0 else(bif Nat.blt k 5 then 0 else 9))) else 0) else 0))) else(bif Nat.blt t 21 then(bif Nat.blt t 19 then 0 else(bif Nat.blt t 20 then(bif Nat.blt k 15 then(bif Nat.blt k 7 then 0 else(bif Nat.blt k 11 then 0 else(bif Nat.blt k 13 then 0 else(bif Nat.blt k 14 then 0 else 8)))) else 0) else(bif Nat.blt k 7 then(bif Nat.blt k 3 then 0 else(bif Nat.blt k 5 then 0 else(bif Nat.blt k 6 then 0 else 8))) else 0))) else(bif Nat.blt t 23 then(bif Nat.blt t 22 then 0 else(bif Nat.blt k 2 then(bif Nat.blt k 1 then 0 else 9) else 0)) else 0)))) else(bif Nat.blt t 37 then(bif Nat.blt t 31 then(bif Nat.blt t 28 then(bif Nat.blt t 26 then(bif Nat.blt k 4 then(bif Nat.blt k 2 then 0 else(bif Nat.blt k 3 then 0 else 10)) else 0) else(bif Nat.blt t 27 then(bif Nat.blt k 3 then(bif Nat.blt k 1 then 0 else(bif Nat.blt k 2 then 0 else 8)) else 0) else 0)) else(bif Nat.blt t 29 then(bif Nat.blt k 9 then(bif Nat.blt k 4 then 0 else(bif Nat.blt k 6 then 0 else(bif Nat.blt k 7 then 0 else(bif Nat.blt k 8 then 0 else 21)))) else 0) else(bif Nat.blt t 30 then(bif Nat.blt k 8 then(bif Nat.blt k 4 then 0 else(bif Nat.blt k 6 then 0 else(bif Nat.blt k 7 then 0 else 9))) else 0) else 0))) else(bif Nat.blt t 34 then 0 else(bif Nat.blt t 35 then 0 else(bif Nat.blt t 36 then(bif Nat.blt k 26 then(bif Nat.blt k 13 then 0 else(bif Nat.blt k 19 then 0 else(bif Nat.blt k 22 then 0 else(bif Nat.blt k 24 then 0 else(bif Nat.blt k 25 then 0 else 14))))) else 0) else 0)))) else(bif Nat.blt t 43 then 0 else(bif Nat.blt t 46 then 0 else(bif Nat.blt t 48 then(bif Nat.blt t 47 then 0 else(bif Nat.blt k 17 then(bif Nat.blt k 8 then(bif Nat.blt k 4 then 0 else(bif Nat.blt k 6 then(bif Nat.blt k 5 then 9 else 0) else 0)) else(bif Nat.blt k 12 then 0 else(bif Nat.blt k 14 then 0 else(bif Nat.blt k 15 then 0 else(bif Nat.blt k 16 then 0 else 10))))) else 0)) else(bif Nat.blt t 49 then 0 else(bif Nat.blt k 2 then(bif Nat.blt k 1 then 0 else 5) else 0))))))) else(bif Nat.blt t 75 then(bif Nat.blt t 62 then(bif Nat.blt t 56 then(bif Nat.blt t 53 then(bif Nat.blt t 51 then 0 else(bif Nat.blt t 52 then(bif Nat.blt k 12 then(bif Nat.blt k 6 then 0 else(bif Nat.blt k 9 then(bif Nat.blt k 7 then 0 else(bif Nat.blt k 8 then 0 else 11)) else(bif Nat.blt k 10 then 0 else(bif Nat.blt k 11 then 0 else 14)))) else 0) else(bif Nat.blt k 12 then(bif Nat.blt k 6 then(bif Nat.blt k 3 then 0 else(bif Nat.blt k 4 then 0 else(bif Nat.blt k 5 then 10 else 7))) else(bif Nat.blt k 9 then 0 else(bif Nat.blt k 10 then 0 else(bif Nat.blt k 11 then 0 else 10)))) else 0))) else(bif Nat.blt t 54 then(bif Nat.blt k 16 then(bif Nat.blt k 8 then 0 else(bif Nat.blt k 12 then(bif Nat.blt k 10 then 0 else(bif Nat.blt k 11 then 0 else 13)) else(bif Nat.blt k 14 then(bif Nat.blt k 13 then 0 else 13) else(bif Nat.blt k 15 then 0 else 7)))) else 0) else(bif Nat.blt t 55 then(bif Nat.blt k 5 then(bif Nat.blt k 2 then(bif Nat.blt k 1 then 0 else 9) else(bif Nat.blt k 3 then 0 else(bif Nat.blt k 4 then 0 else 12))) else 0) else(bif Nat.blt k 8 then(bif Nat.blt k 4 then 0 else(bif Nat.blt k 6 then 0 else(bif Nat.blt k 7 then 8 else 3))) else 0)))) else(bif Nat.blt t 59 then(bif Nat.blt t 57 then 0 else(bif Nat.blt t 58 then 0 else(bif Nat.blt k 30 then(bif Nat.blt k 15 then(bif Nat.blt k 7 then 0 else(bif Nat.blt k 11 then(bif Nat.blt k 9 then(bif Nat.blt k 8 then 16 else 0) else 0) else 0)) else(bif Nat.blt k 22 then 0 else(bif Nat.blt k 26 then 0 else(bif Nat.blt k 28 then 0 else(bif Nat.blt k 29 then 0 else 6))))) else 0))) else(bif Nat.blt t 60 then 0 else(bif Nat.blt t 61 then 0 else(bif Nat.blt k 2 then(bif Nat.blt k 1 then 0 else 12) else 0))))) else(bif Nat.blt t 68 then(bif Nat.blt t 65 then(bif Nat.blt t 63 then 0 else(bif Nat.blt t 64 then 0 else(bif Nat.blt k 31 then(bif Nat.blt k 15 then 0 else(bif Nat.blt k 23 then 0 else(bif Nat.blt k 27 then 0 else(bif Nat.blt k 29 then 0 else(bif Nat.blt k 30 then 0 else 11))))) else 0))) else(bif Nat.blt t 66 then(bif Nat.blt k 15 then(bif Nat.blt k 7 then 0 else(bif Nat.blt k 11 then 0 else(bif Nat.blt k 13 then 0 else(bif Nat.blt k 14 then 0 else 12)))) else 0) else(bif Nat.blt t 67 then 0 else(bif Nat.blt k 5 then(bif Nat.blt k 2 then 0 else(bif Nat.blt k 3 then 0 else(bif Nat.blt k 4 then 0 else 5))) else 0)))) else(bif Nat.blt t 71 then 0 else(bif Nat.blt t 73 then(bif Nat.blt t 72 then 0 else(bif Nat.blt k 6 then(bif Nat.blt k 3 then(bif Nat.blt k 1 then 0 else(bif Nat.blt k 2 then 7 else 0)) else(bif Nat.blt k 4 then 0 else(bif Nat.blt k 5 then 0 else 5))) else 0)) else 0)))) else(bif Nat.blt t 87 then(bif Nat.blt t 81 then(bif Nat.blt t 78 then(bif Nat.blt t 76 then(bif Nat.blt k 4 then(bif Nat.blt k 2 then(bif Nat.blt k 1 then 0 else 9) else(bif Nat.blt k 3 then 0 else 15)) else 0) else(bif Nat.blt t 77 then(bif Nat.blt k 13 then(bif Nat.blt k 6 then 0 else(bif Nat.blt k 9 then(bif Nat.blt k 7 then 0 else(bif Nat.blt k 8 then 0 else 10)) else(bif Nat.blt k 11 then(bif Nat.blt k 10 then 0 else 10) else(bif Nat.blt k 12 then 0 else 7)))) else 0) else 0)) else 0) else(bif Nat.blt t 84 then(bif Nat.blt t 82 then(bif Nat.blt k 10 then(bif Nat.blt k 5 then 0 else(bif Nat.blt k 7 then 0 else(bif Nat.blt k 8 then 0 else(bif Nat.blt k 9 then 0 else 10)))) else 0) else 0) else 0)) else(bif Nat.blt t 93 then(bif Nat.blt t 90 then(bif Nat.blt t 88 then(bif Nat.blt k 5 then(bif Nat.blt k 2 then 0 else(bif Nat.blt k 3 then 0 else(bif Nat.blt k 4 then 0 else 14))) else 0) else(bif Nat.blt t 89 then(bif Nat.blt k 8 then(bif Nat.blt k 4 then 0 else(bif Nat.blt k 6 then 0 else(bif Nat.blt k 7 then 0 else 15))) else 0) else 0)) else 0) else(bif Nat.blt t 96 then 0 else(bif Nat.blt t 98 then 0 else(bif Nat.blt t 99 then 0 else(bif Nat.blt k 2 then(bif Nat.blt k 1 then 0 else 9) else 0)))))))) else 0
def pan (t:FuncId) (k:Nat):List (List Nat):=bif Nat.blt t 100 then(bif Nat.blt t 50 then(bif Nat.blt t 25 then(bif Nat.blt t 12 then(bif Nat.blt t 6 then(bif Nat.blt t 3 then[] else(bif Nat.blt t 4 then(bif Nat.blt k 22 then(bif Nat.blt k 11 then(bif Nat.blt k 5 then[] else(bif Nat.blt k 8 then(bif Nat.blt k 6 then[[],[],[],[],[],[],[2,5],[],[],[2,5,6,8],[0,1,2,5,6,8,9],[],[]] else[]) else[])) else(bif Nat.blt k 16 then(bif Nat.blt k 13 then(bif Nat.blt k 12 then[[],[],[],[0,2],[],[]] else[]) else[]) else(bif Nat.blt k 19 then[] else(bif Nat.blt k 20 then[] else(bif Nat.blt k 21 then[] else[[],[],[],[0,1,2],[],[],[]]))))) else[]) else(bif Nat.blt t 5 then(bif Nat.blt k 23 then(bif Nat.blt k 11 then(bif Nat.blt k 5 then(bif Nat.blt k 2 then[] else(bif Nat.blt k 3 then[] else(bif Nat.blt k 4 then[] else[[],[],[],[0,1],[],[],[],[]]))) else[]) else(bif Nat.blt k 17 then(bif Nat.blt k 14 then[] else(bif Nat.blt k 15 then[] else(bif Nat.blt k 16 then[[],[],[],[],[0,1],[],[],[],[]] else[[],[],[],[],[0,1],[],[],[],[]]))) else(bif Nat.blt k 20 then[] else(bif Nat.blt k 21 then[] else(bif Nat.blt k 22 then[[],[],[],[],[],[4],[],[],[0,2,4,5],[],[],[],[]] else[[],[],[],[],[],[4],[],[],[0,2,4,5],[],[],[],[]]))))) else[]) else(bif Nat.blt k 33 then(bif Nat.blt k 16 then[] else(bif Nat.blt k 24 then(bif Nat.blt k 20 then[] else(bif Nat.blt k 22 then(bif Nat.blt k 21 then[] else[[],[],[],[],[],[],[3],[],[],[],[],[],[],[3,6,12],[]]) else[])) else(bif Nat.blt k 28 then(bif Nat.blt k 26 then(bif Nat.blt k 25 then[] else[[],[],[],[],[0,1],[],[],[],[]]) else[]) else(bif Nat.blt k 30 then[] else(bif Nat.blt k 31 then[] else(bif Nat.blt k 32 then[] else[[],[],[],[],[0,1],[],[],[],[],[0,1,4,5,6],[],[],[],[0,1,4,5,6,9],[0,1,4,5,6,9,13],[],[0,1,4,5,6,9],[],[0,1,4,5,6,9],[0,1,4,5,6,9,13,14,18],[],[0,1,4,5,6,9,13,14,16,18,19],[],[0,1,4,5,6,9],[0,1,4,5,6,9,13,14,16,18,19,21,23],[],[0,1,4,5,6,9],[],[0,1,4,5,6,9],[0,1,4,5,6,9,13,14,16,18,19,21,23,24,28],[]])))))) else[])))) else(bif Nat.blt t 9 then(bif Nat.blt t 7 then(bif Nat.blt k 8 then(bif Nat.blt k 4 then(bif Nat.blt k 2 then[] else(bif Nat.blt k 3 then[] else[[],[],[0,1],[],[],[],[4,5],[],[],[],[0,1,2,8,9]])) else(bif Nat.blt k 6 then[] else(bif Nat.blt k 7 then[] else[[],[],[],[],[],[0,1,4],[],[0,1,4,5],[0,1,4,5],[],[],[0,1,4,5],[0,1,4,5,7,8,11],[],[],[],[0,1,4,5,7,8,11,12],[0,1,4,5,7,8,11,12],[],[],[0,1,4,5,7,8,11,12],[0,1,4,5,7,8,11,12,16,17,20],[],[],[],[0,1,4,5,7,8,11,12,16,17,20,21],[0,1,4,5,7,8,11,12,16,17,20,21],[],[0,1,4,5,7,8,11,12,16,17,20,21],[0,1,4,5,7,8,11,12,16,17,20,21,25,26,28],[],[],[0,1,4,5,7,8,11,12,16,17,20,21,25,26,28,29],[0,1,4,5,7,8,11,12,16,17,20,21,25,26,28,29],[],[0,1,4,5,7,8,11,12,16,17,20,21,25,26,28,29]]))) else[]) else(bif Nat.blt t 8 then(bif Nat.blt k 3 then(bif Nat.blt k 1 then[] else(bif Nat.blt k 2 then[] else[[],[],[],[],[1,3]])) else[]) else(bif Nat.blt k 33 then(bif Nat.blt k 16 then(bif Nat.blt k 8 then(bif Nat.blt k 4 then[] else(bif Nat.blt k 6 then(bif Nat.blt k 5 then[] else[[],[],[],[],[],[],[],[],[],[],[],[],[],[],[],[],[],[],[],[],[],[],[],[]]) else[])) else(bif Nat.blt k 12 then[] else(bif Nat.blt k 14 then(bif Nat.blt k 13 then[[],[],[],[],[],[],[],[0,1,2,3,4,5,6],[1,3,6,7],[1,3,6,7],[1,3,6,7],[1,3,6,7]] else[]) else[]))) else(bif Nat.blt k 24 then(bif Nat.blt k 20 then[] else(bif Nat.blt k 22 then[] else(bif Nat.blt k 23 then[[],[],[],[],[],[],[],[],[],[0,1,2,3,4,5,6,7,8],[3,5,8,9],[3,5,8,9],[3,5,8,9],[3,5,8,9],[3,5,8,9]] else[]))) else(bif Nat.blt k 28 then(bif Nat.blt k 26 then[] else(bif Nat.blt k 27 then[] else[[],[],[],[],[],[],[],[4]])) else(bif Nat.blt k 30 then[] else(bif Nat.blt k 31 then[] else(bif Nat.blt k 32 then[] else[[],[],[],[],[],[],[],[],[7],[7,8],[],[],[7,8,9],[1,2,3,4,5,6,7,8,9,10,11,12]])))))) else[]))) else(bif Nat.blt t 10 then(bif Nat.blt k 12 then(bif Nat.blt k 6 then[] else(bif Nat.blt k 9 then[] else(bif Nat.blt k 10 then[] else(bif Nat.blt k 11 then[] else[[],[],[],[],[],[],[3],[],[],[3,6],[3,6,9]])))) else[]) else[]))) else(bif Nat.blt t 18 then(bif Nat.blt t 15 then(bif Nat.blt t 13 then[] else(bif Nat.blt t 14 then[] else(bif Nat.blt k 7 then(bif Nat.blt k 3 then[] else(bif Nat.blt k 5 then[] else(bif Nat.blt k 6 then[] else[[],[],[],[],[],[],[],[]]))) else[]))) else(bif Nat.blt t 16 then[] else(bif Nat.blt t 17 then(bif Nat.blt k 6 then(bif Nat.blt k 3 then[] else(bif Nat.blt k 4 then[] else(bif Nat.blt k 5 then[] else[[],[],[],[],[],[],[3],[],[]]))) else[]) else[]))) else(bif Nat.blt t 21 then(bif Nat.blt t 19 then[] else(bif Nat.blt t 20 then(bif Nat.blt k 15 then(bif Nat.blt k 7 then[] else(bif Nat.blt k 11 then[] else(bif Nat.blt k 13 then[] else(bif Nat.blt k 14 then[] else[[],[],[],[],[2,3],[],[],[2,3,4,5,6]])))) else[]) else(bif Nat.blt k 7 then(bif Nat.blt k 3 then[] else(bif Nat.blt k 5 then[] else(bif Nat.blt k 6 then[] else[[],[],[],[],[],[],[],[]]))) else[]))) else(bif Nat.blt t 23 then(bif Nat.blt t 22 then[] else(bif Nat.blt k 2 then(bif Nat.blt k 1 then[] else[[],[],[],[],[0,1],[],[],[],[]]) else[])) else[])))) else(bif Nat.blt t 37 then(bif Nat.blt t 31 then(bif Nat.blt t 28 then(bif Nat.blt t 26 then(bif Nat.blt k 4 then(bif Nat.blt k 2 then[] else(bif Nat.blt k 3 then[] else[[],[],[1],[],[],[],[4,5],[],[],[1,2]])) else[]) else(bif Nat.blt t 27 then(bif Nat.blt k 3 then(bif Nat.blt k 1 then[] else(bif Nat.blt k 2 then[] else[[],[],[],[0,1],[],[],[],[]])) else[]) else[])) else(bif Nat.blt t 29 then(bif Nat.blt k 9 then(bif Nat.blt k 4 then[] else(bif Nat.blt k 6 then[] else(bif Nat.blt k 7 then[] else(bif Nat.blt k 8 then[] else[[],[],[],[],[],[],[4],[],[],[4],[],[4,7,9],[],[],[4,9],[],[4,9,12,14],[],[4,9,14],[],[]])))) else[]) else(bif Nat.blt t 30 then(bif Nat.blt k 8 then(bif Nat.blt k 4 then[] else(bif Nat.blt k 6 then[] else(bif Nat.blt k 7 then[] else[[],[],[],[],[],[],[3],[3,6],[3,6,7]]))) else[]) else[]))) else(bif Nat.blt t 34 then[] else(bif Nat.blt t 35 then[] else(bif Nat.blt t 36 then(bif Nat.blt k 26 then(bif Nat.blt k 13 then[] else(bif Nat.blt k 19 then[] else(bif Nat.blt k 22 then[] else(bif Nat.blt k 24 then[] else(bif Nat.blt k 25 then[] else[[],[],[],[],[],[],[],[],[],[],[],[],[],[]]))))) else[]) else[])))) else(bif Nat.blt t 43 then[] else(bif Nat.blt t 46 then[] else(bif Nat.blt t 48 then(bif Nat.blt t 47 then[] else(bif Nat.blt k 17 then(bif Nat.blt k 8 then(bif Nat.blt k 4 then[] else(bif Nat.blt k 6 then(bif Nat.blt k 5 then[[],[],[],[],[],[4],[],[],[4,5,6,7]] else[]) else[])) else(bif Nat.blt k 12 then[] else(bif Nat.blt k 14 then[] else(bif Nat.blt k 15 then[] else(bif Nat.blt k 16 then[] else[[],[],[],[],[],[],[],[],[],[]]))))) else[])) else(bif Nat.blt t 49 then[] else(bif Nat.blt k 2 then(bif Nat.blt k 1 then[] else[[],[],[],[0],[]]) else[]))))))) else(bif Nat.blt t 75 then(bif Nat.blt t 62 then(bif Nat.blt t 56 then(bif Nat.blt t 53 then(bif Nat.blt t 51 then[] else(bif Nat.blt t 52 then(bif Nat.blt k 12 then(bif Nat.blt k 6 then[] else(bif Nat.blt k 9 then(bif Nat.blt k 7 then[] else(bif Nat.blt k 8 then[] else[[],[],[],[],[],[],[3],[],[],[],[]])) else(bif Nat.blt k 10 then[] else(bif Nat.blt k 11 then[] else[[],[],[],[],[],[],[],[],[],[],[],[],[],[10]])))) else[]) else(bif Nat.blt k 12 then(bif Nat.blt k 6 then(bif Nat.blt k 3 then[] else(bif Nat.blt k 4 then[] else(bif Nat.blt k 5 then[[],[],[],[],[],[1],[],[1,3,5],[],[1,5]] else[[],[],[],[],[0,2],[],[2]]))) else(bif Nat.blt k 9 then[] else(bif Nat.blt k 10 then[] else(bif Nat.blt k 11 then[] else[[],[],[],[],[],[],[],[],[],[8]])))) else[]))) else(bif Nat.blt t 54 then(bif Nat.blt k 16 then(bif Nat.blt k 8 then[] else(bif Nat.blt k 12 then(bif Nat.blt k 10 then[] else(bif Nat.blt k 11 then[] else[[],[],[],[],[],[],[],[],[],[],[],[],[]])) else(bif Nat.blt k 14 then(bif Nat.blt k 13 then[] else[[],[],[],[],[],[],[],[],[],[],[],[],[]]) else(bif Nat.blt k 15 then[] else[[],[],[],[],[],[],[]])))) else[]) else(bif Nat.blt t 55 then(bif Nat.blt k 5 then(bif Nat.blt k 2 then(bif Nat.blt k 1 then[] else[[],[],[],[],[],[],[],[],[]]) else(bif Nat.blt k 3 then[] else(bif Nat.blt k 4 then[] else[[],[],[],[],[],[],[],[],[],[],[3,7],[]]))) else[]) else(bif Nat.blt k 8 then(bif Nat.blt k 4 then[] else(bif Nat.blt k 6 then[] else(bif Nat.blt k 7 then[[],[],[1],[0,1,2],[],[],[],[0,1,2,3]] else[[],[],[0]]))) else[])))) else(bif Nat.blt t 59 then(bif Nat.blt t 57 then[] else(bif Nat.blt t 58 then[] else(bif Nat.blt k 30 then(bif Nat.blt k 15 then(bif Nat.blt k 7 then[] else(bif Nat.blt k 11 then(bif Nat.blt k 9 then(bif Nat.blt k 8 then[[],[],[],[],[],[2,3,4],[],[],[2,3,4,5],[2,3,4,5],[2,3,4,5],[],[2,3,4,5,8,9,10],[2,3,4,5],[2,3,4,5,8,9,10,12,13],[]] else[]) else[]) else[])) else(bif Nat.blt k 22 then[] else(bif Nat.blt k 26 then[] else(bif Nat.blt k 28 then[] else(bif Nat.blt k 29 then[] else[[],[],[],[],[],[2,3]]))))) else[]))) else(bif Nat.blt t 60 then[] else(bif Nat.blt t 61 then[] else(bif Nat.blt k 2 then(bif Nat.blt k 1 then[] else[[],[],[],[],[],[2,3],[],[],[],[6],[],[]]) else[]))))) else(bif Nat.blt t 68 then(bif Nat.blt t 65 then(bif Nat.blt t 63 then[] else(bif Nat.blt t 64 then[] else(bif Nat.blt k 31 then(bif Nat.blt k 15 then[] else(bif Nat.blt k 23 then[] else(bif Nat.blt k 27 then[] else(bif Nat.blt k 29 then[] else(bif Nat.blt k 30 then[] else[[],[],[],[],[],[1],[],[],[],[],[7]]))))) else[]))) else(bif Nat.blt t 66 then(bif Nat.blt k 15 then(bif Nat.blt k 7 then[] else(bif Nat.blt k 11 then[] else(bif Nat.blt k 13 then[] else(bif Nat.blt k 14 then[] else[[],[],[],[],[],[],[],[],[],[],[],[8]])))) else[]) else(bif Nat.blt t 67 then[] else(bif Nat.blt k 5 then(bif Nat.blt k 2 then[] else(bif Nat.blt k 3 then[] else(bif Nat.blt k 4 then[] else[[],[],[],[],[]]))) else[])))) else(bif Nat.blt t 71 then[] else(bif Nat.blt t 73 then(bif Nat.blt t 72 then[] else(bif Nat.blt k 6 then(bif Nat.blt k 3 then(bif Nat.blt k 1 then[] else(bif Nat.blt k 2 then[[],[],[1],[],[],[1,2,4],[]] else[])) else(bif Nat.blt k 4 then[] else(bif Nat.blt k 5 then[] else[[],[],[],[],[3]]))) else[])) else[])))) else(bif Nat.blt t 87 then(bif Nat.blt t 81 then(bif Nat.blt t 78 then(bif Nat.blt t 76 then(bif Nat.blt k 4 then(bif Nat.blt k 2 then(bif Nat.blt k 1 then[] else[[],[],[],[],[],[],[],[],[]]) else(bif Nat.blt k 3 then[] else[[],[],[],[],[],[],[],[],[],[3,7],[],[],[],[],[]])) else[]) else(bif Nat.blt t 77 then(bif Nat.blt k 13 then(bif Nat.blt k 6 then[] else(bif Nat.blt k 9 then(bif Nat.blt k 7 then[] else(bif Nat.blt k 8 then[] else[[],[],[],[],[],[],[],[],[],[]])) else(bif Nat.blt k 11 then(bif Nat.blt k 10 then[] else[[],[],[],[],[],[],[],[],[],[]]) else(bif Nat.blt k 12 then[] else[[],[],[],[],[],[],[]])))) else[]) else[])) else[]) else(bif Nat.blt t 84 then(bif Nat.blt t 82 then(bif Nat.blt k 10 then(bif Nat.blt k 5 then[] else(bif Nat.blt k 7 then[] else(bif Nat.blt k 8 then[] else(bif Nat.blt k 9 then[] else[[],[],[],[],[],[],[],[],[4],[]])))) else[]) else[]) else[])) else(bif Nat.blt t 93 then(bif Nat.blt t 90 then(bif Nat.blt t 88 then(bif Nat.blt k 5 then(bif Nat.blt k 2 then[] else(bif Nat.blt k 3 then[] else(bif Nat.blt k 4 then[] else[[],[],[],[],[],[],[],[],[],[],[],[8],[],[]]))) else[]) else(bif Nat.blt t 89 then(bif Nat.blt k 8 then(bif Nat.blt k 4 then[] else(bif Nat.blt k 6 then[] else(bif Nat.blt k 7 then[] else[[],[],[],[],[],[],[],[1,3],[],[1,3],[],[1,3],[1,3,7,9,11],[],[1,3]]))) else[]) else[])) else[]) else(bif Nat.blt t 96 then[] else(bif Nat.blt t 98 then[] else(bif Nat.blt t 99 then[] else(bif Nat.blt k 2 then(bif Nat.blt k 1 then[] else[[],[],[],[],[1,3],[],[],[],[]]) else[])))))))) else[]
def prk (t:FuncId) (k:Nat):List Nat:=bif Nat.blt t 56 then(bif Nat.blt t 28 then[] else(bif Nat.blt t 42 then[] else(bif Nat.blt t 49 then[] else(bif Nat.blt t 52 then[] else(bif Nat.blt t 54 then[] else(bif Nat.blt t 55 then[] else(bif Nat.blt k 5 then(bif Nat.blt k 2 then[] else(bif Nat.blt k 3 then[] else(bif Nat.blt k 4 then[] else[2,3,4]))) else[]))))))) else[]
def ppr:FuncId→Option (Nat→List R→List (Nat×B)→Option (R×List (Nat×B)))
 | 91=>some (pr0 (q8N T 51 false))
 | 92=>some (pr0 (q8N T 30 true))
 | _=>none
def pol:Pol:=⟨pq,pow,pfz,pkp,pkx,prw,pro,pdm,pan,prk,ppr⟩
theorem qK4:T.ip 7=none:=rfl
theorem qD7:T.ip 10=none:=rfl
theorem qBY:T.ip 11=none:=rfl
theorem qEK:T.ip 27=none:=rfl
theorem qDz:T.ip 29=none:=rfl
theorem qE2:T.ip 30=none:=rfl
theorem qDc:T.ip 34=none:=rfl
theorem qEE:T.ip 36=none:=rfl
theorem qDu:T.ip 44=none:=rfl
theorem qDK:T.ip 45=none:=rfl
theorem qCw:T.ip 50=none:=rfl
theorem qE1:T.ip 53=none:=rfl
theorem qDV:T.ip 55=none:=rfl
theorem qCc:T.ip 63=none:=rfl
theorem qCx:T.ip 64=none:=rfl
theorem qEn:T.ip 71=none:=rfl
theorem qBS:T.ip 72=none:=rfl
theorem qEm:T.ip 78=none:=rfl
theorem qEQ:T.ip 79=none:=rfl
theorem qD8:T.ip 80=none:=rfl
theorem qCK:T.ip 81=none:=rfl
theorem qCY:T.ip 82=none:=rfl
theorem qES:T.ip 86=none:=rfl
theorem qCr:T.ip 88=none:=rfl
theorem qEy:T.ip 90=none:=rfl
theorem qCR:T.ip 93=none:=rfl
theorem qCa:T.ip 97=none:=rfl
theorem qC7:T.ip 98=none:=rfl
theorem qxF:T.ip 100=none:=rfl
theorem qAk:T.ip 105=none:=rfl
theorem qyL:T.ip 108=none:=rfl
theorem qx2:T.ip 110=none:=rfl
theorem qwI:T.ip 111=none:=rfl
theorem qxG:pol.rk 5 21=[]:=rfl
theorem qxH:pol.rk 5 25=[]:=rfl
theorem qxA:pol.rk 5 32=[]:=rfl
theorem qER:pol.rk 6 3=[]:=rfl
theorem qEj:pol.rk 6 7=[]:=rfl
theorem qEs:pol.rk 7 2=[]:=rfl
theorem qzL:pol.rk 9 11=[]:=rfl
theorem qwe:pol.rk 16 5=[]:=rfl
theorem qtY:pol.rk 19 14=[]:=rfl
theorem qzR:pol.rk 20 6=[]:=rfl
theorem qyu:pol.rk 22 1=[]:=rfl
theorem qvS:pol.rk 25 3=[]:=rfl
theorem qwU:pol.rk 26 2=[]:=rfl
theorem qy9:pol.rk 28 8=[]:=rfl
theorem qzf:pol.rk 29 7=[]:=rfl
theorem qtx:pol.rk 35 25=[]:=rfl
theorem qzd:pol.rk 47 4=[]:=rfl
theorem qtX:pol.rk 47 16=[]:=rfl
theorem qzm:pol.rk 49 1=[]:=rfl
theorem qAS:pol.rk 51 8=[]:=rfl
theorem qsz:pol.rk 51 11=[]:=rfl
theorem qzc:pol.rk 52 4=[]:=rfl
theorem qwj:pol.rk 52 5=[]:=rfl
theorem qta:pol.rk 52 11=[]:=rfl
theorem qu1:pol.rk 53 11=[]:=rfl
theorem qsj:pol.rk 53 13=[]:=rfl
theorem qts:pol.rk 53 15=[]:=rfl
theorem qAm:pol.rk 54 1=[]:=rfl
theorem qy1:pol.rk 54 4=[]:=rfl
theorem qyO:pol.rk 55 6=[]:=rfl
theorem qzI:pol.rk 55 7=[]:=rfl
theorem qyG:pol.rk 58 7=[]:=rfl
theorem qtv:pol.rk 58 29=[]:=rfl
theorem qzT:pol.rk 61 1=[]:=rfl
theorem qsD:pol.rk 64 30=[]:=rfl
theorem qss:pol.rk 65 14=[]:=rfl
theorem qAT:pol.rk 67 4=[]:=rfl
theorem qAr:pol.rk 72 1=[]:=rfl
theorem qxD:pol.rk 72 5=[]:=rfl
theorem qxf:pol.rk 75 1=[]:=rfl
theorem qwA:pol.rk 75 3=[]:=rfl
theorem qAB:pol.rk 76 8=[]:=rfl
theorem quL:pol.rk 76 10=[]:=rfl
theorem qur:pol.rk 76 12=[]:=rfl
theorem qxl:pol.rk 81 9=[]:=rfl
theorem qzP:pol.rk 87 4=[]:=rfl
theorem qwG:pol.rk 88 7=[]:=rfl
theorem qz1:pol.rk 99 1=[]:=rfl
theorem qxZ:pol.rk 55 4=[2,3,4]:=rfl
theorem qAj:pol.dm 5 21=15∧pol.an 5 21=[[],[],[],[],[],[],[3],[],[],[],[],[],[],[3,6,12],[]]:=⟨rfl,rfl⟩
theorem qyI:pol.dm 5 25=9∧pol.an 5 25=[[],[],[],[],[0,1],[],[],[],[]]:=⟨rfl,rfl⟩
theorem qyz:pol.dm 5 32=31∧pol.an 5 32=[[],[],[],[],[0,1],[],[],[],[],[0,1,4,5,6],[],[],[],[0,1,4,5,6,9],[0,1,4,5,6,9,13],[],[0,1,4,5,6,9],[],[0,1,4,5,6,9],[0,1,4,5,6,9,13,14,18],[],[0,1,4,5,6,9,13,14,16,18,19],[],[0,1,4,5,6,9],[0,1,4,5,6,9,13,14,16,18,19,21,23],[],[0,1,4,5,6,9],[],[0,1,4,5,6,9],[0,1,4,5,6,9,13,14,16,18,19,21,23,24,28],[]]:=⟨rfl,rfl⟩
theorem qEV:pol.dm 6 3=11∧pol.an 6 3=[[],[],[0,1],[],[],[],[4,5],[],[],[],[0,1,2,8,9]]:=⟨rfl,rfl⟩
theorem qCy:pol.dm 6 7=36∧pol.an 6 7=[[],[],[],[],[],[0,1,4],[],[0,1,4,5],[0,1,4,5],[],[],[0,1,4,5],[0,1,4,5,7,8,11],[],[],[],[0,1,4,5,7,8,11,12],[0,1,4,5,7,8,11,12],[],[],[0,1,4,5,7,8,11,12],[0,1,4,5,7,8,11,12,16,17,20],[],[],[],[0,1,4,5,7,8,11,12,16,17,20,21],[0,1,4,5,7,8,11,12,16,17,20,21],[],[0,1,4,5,7,8,11,12,16,17,20,21],[0,1,4,5,7,8,11,12,16,17,20,21,25,26,28],[],[],[0,1,4,5,7,8,11,12,16,17,20,21,25,26,28,29],[0,1,4,5,7,8,11,12,16,17,20,21,25,26,28,29],[],[0,1,4,5,7,8,11,12,16,17,20,21,25,26,28,29]]:=⟨rfl,rfl⟩
theorem qCW:pol.dm 7 2=5∧pol.an 7 2=[[],[],[],[],[1,3]]:=⟨rfl,rfl⟩
theorem qzS:pol.dm 9 11=11∧pol.an 9 11=[[],[],[],[],[],[],[3],[],[],[3,6],[3,6,9]]:=⟨rfl,rfl⟩
theorem qww:pol.dm 16 5=9∧pol.an 16 5=[[],[],[],[],[],[],[3],[],[]]:=⟨rfl,rfl⟩
theorem qtU:pol.dm 19 14=8∧pol.an 19 14=[[],[],[],[],[2,3],[],[],[2,3,4,5,6]]:=⟨rfl,rfl⟩
theorem qA7:pol.dm 20 6=8∧pol.an 20 6=[[],[],[],[],[],[],[],[]]:=⟨rfl,rfl⟩
theorem qwR:pol.dm 22 1=9∧pol.an 22 1=[[],[],[],[],[0,1],[],[],[],[]]:=⟨rfl,rfl⟩
theorem qzG:pol.dm 25 3=10∧pol.an 25 3=[[],[],[1],[],[],[],[4,5],[],[],[1,2]]:=⟨rfl,rfl⟩
theorem qw6:pol.dm 26 2=8∧pol.an 26 2=[[],[],[],[0,1],[],[],[],[]]:=⟨rfl,rfl⟩
theorem qAl:pol.dm 28 8=21∧pol.an 28 8=[[],[],[],[],[],[],[4],[],[],[4],[],[4,7,9],[],[],[4,9],[],[4,9,12,14],[],[4,9,14],[],[]]:=⟨rfl,rfl⟩
theorem qwx:pol.dm 29 7=9∧pol.an 29 7=[[],[],[],[],[],[],[3],[3,6],[3,6,7]]:=⟨rfl,rfl⟩
theorem qvv:pol.dm 35 25=14∧pol.an 35 25=[[],[],[],[],[],[],[],[],[],[],[],[],[],[]]:=⟨rfl,rfl⟩
theorem qx4:pol.dm 47 4=9∧pol.an 47 4=[[],[],[],[],[],[4],[],[],[4,5,6,7]]:=⟨rfl,rfl⟩
theorem quy:pol.dm 47 16=10∧pol.an 47 16=[[],[],[],[],[],[],[],[],[],[]]:=⟨rfl,rfl⟩
theorem qyb:pol.dm 49 1=5∧pol.an 49 1=[[],[],[],[0],[]]:=⟨rfl,rfl⟩
theorem qzg:pol.dm 51 8=11∧pol.an 51 8=[[],[],[],[],[],[],[3],[],[],[],[]]:=⟨rfl,rfl⟩
theorem qsS:pol.dm 51 11=14∧pol.an 51 11=[[],[],[],[],[],[],[],[],[],[],[],[],[],[10]]:=⟨rfl,rfl⟩
theorem qxi:pol.dm 52 4=10∧pol.an 52 4=[[],[],[],[],[],[1],[],[1,3,5],[],[1,5]]:=⟨rfl,rfl⟩
theorem qxs:pol.dm 52 5=7∧pol.an 52 5=[[],[],[],[],[0,2],[],[2]]:=⟨rfl,rfl⟩
theorem quc:pol.dm 52 11=10∧pol.an 52 11=[[],[],[],[],[],[],[],[],[],[8]]:=⟨rfl,rfl⟩
theorem qsm:pol.dm 53 11=13∧pol.an 53 11=[[],[],[],[],[],[],[],[],[],[],[],[],[]]:=⟨rfl,rfl⟩
theorem quJ:pol.dm 53 13=13∧pol.an 53 13=[[],[],[],[],[],[],[],[],[],[],[],[],[]]:=⟨rfl,rfl⟩
theorem qtM:pol.dm 53 15=7∧pol.an 53 15=[[],[],[],[],[],[],[]]:=⟨rfl,rfl⟩
theorem qxX:pol.dm 54 1=9∧pol.an 54 1=[[],[],[],[],[],[],[],[],[]]:=⟨rfl,rfl⟩
theorem qwL:pol.dm 54 4=12∧pol.an 54 4=[[],[],[],[],[],[],[],[],[],[],[3,7],[]]:=⟨rfl,rfl⟩
theorem qzo:pol.dm 55 6=8∧pol.an 55 6=[[],[],[1],[0,1,2],[],[],[],[0,1,2,3]]:=⟨rfl,rfl⟩
theorem qws:pol.dm 55 7=3∧pol.an 55 7=[[],[],[0]]:=⟨rfl,rfl⟩
theorem qyR:pol.dm 58 7=16∧pol.an 58 7=[[],[],[],[],[],[2,3,4],[],[],[2,3,4,5],[2,3,4,5],[2,3,4,5],[],[2,3,4,5,8,9,10],[2,3,4,5],[2,3,4,5,8,9,10,12,13],[]]:=⟨rfl,rfl⟩
theorem qsN:pol.dm 58 29=6∧pol.an 58 29=[[],[],[],[],[],[2,3]]:=⟨rfl,rfl⟩
theorem qyD:pol.dm 61 1=12∧pol.an 61 1=[[],[],[],[],[],[2,3],[],[],[],[6],[],[]]:=⟨rfl,rfl⟩
theorem qu7:pol.dm 64 30=11∧pol.an 64 30=[[],[],[],[],[],[1],[],[],[],[],[7]]:=⟨rfl,rfl⟩
theorem qv7:pol.dm 65 14=12∧pol.an 65 14=[[],[],[],[],[],[],[],[],[],[],[],[8]]:=⟨rfl,rfl⟩
theorem qzB:pol.dm 67 4=5∧pol.an 67 4=[[],[],[],[],[]]:=⟨rfl,rfl⟩
theorem qyZ:pol.dm 72 1=7∧pol.an 72 1=[[],[],[1],[],[],[1,2,4],[]]:=⟨rfl,rfl⟩
theorem qz0:pol.dm 72 5=5∧pol.an 72 5=[[],[],[],[],[3]]:=⟨rfl,rfl⟩
theorem qxL:pol.dm 75 1=9∧pol.an 75 1=[[],[],[],[],[],[],[],[],[]]:=⟨rfl,rfl⟩
theorem qwJ:pol.dm 75 3=15∧pol.an 75 3=[[],[],[],[],[],[],[],[],[],[3,7],[],[],[],[],[]]:=⟨rfl,rfl⟩
theorem qAw:pol.dm 76 8=10∧pol.an 76 8=[[],[],[],[],[],[],[],[],[],[]]:=⟨rfl,rfl⟩
theorem quh:pol.dm 76 10=10∧pol.an 76 10=[[],[],[],[],[],[],[],[],[],[]]:=⟨rfl,rfl⟩
theorem qud:pol.dm 76 12=7∧pol.an 76 12=[[],[],[],[],[],[],[]]:=⟨rfl,rfl⟩
theorem qxg:pol.dm 81 9=10∧pol.an 81 9=[[],[],[],[],[],[],[],[],[4],[]]:=⟨rfl,rfl⟩
theorem qzq:pol.dm 87 4=14∧pol.an 87 4=[[],[],[],[],[],[],[],[],[],[],[],[8],[],[]]:=⟨rfl,rfl⟩
theorem qyp:pol.dm 88 7=15∧pol.an 88 7=[[],[],[],[],[],[],[],[1,3],[],[1,3],[],[1,3],[1,3,7,9,11],[],[1,3]]:=⟨rfl,rfl⟩
theorem qyH:pol.dm 99 1=9∧pol.an 99 1=[[],[],[],[],[1,3],[],[],[],[]]:=⟨rfl,rfl⟩
theorem q22:pol.q 22=[1]:=rfl
theorem q26:pol.q 26=[1,1,0,0,0,0,0,0]:=rfl
theorem q27:pol.q 27=[2]:=rfl
theorem q28:pol.q 28=[5]:=rfl
theorem q30:pol.q 30=[0,0,0,2,5]:=rfl
theorem q33:pol.q 33=[8]:=rfl
theorem q45:pol.q 45=[1]:=rfl
theorem q53:pol.q 53=[0,0,0,0,0,1,0,1]:=rfl
theorem q73:pol.q 73=[1]:=rfl
theorem q77:pol.q 77=[1]:=rfl
theorem qKh:pol.q 119=[1]:=rfl
theorem qKo:pol.q 122=[6]:=rfl
theorem qIM:pol.q 126=[0,0,0,2,5,0]:=rfl
theorem q3:pol.q 3=[]:=rfl
theorem q4:pol.q 4=[]:=rfl
theorem q9:pol.q 9=[]:=rfl
theorem q10:pol.q 10=[]:=rfl
theorem q21:pol.q 21=[]:=rfl
theorem q32:pol.q 32=[]:=rfl
theorem q46:pol.q 46=[]:=rfl
theorem q51:pol.q 51=[]:=rfl
theorem q76:pol.q 76=[]:=rfl
theorem q79:pol.q 79=[]:=rfl
theorem q87:pol.q 87=[]:=rfl
theorem q91:pol.q 91=[]:=rfl
theorem q93:pol.q 93=[]:=rfl
theorem q96:pol.q 96=[]:=rfl
theorem qK3:pol.q 100=[]:=rfl
theorem qJk:pol.q 103=[]:=rfl
theorem qK9:pol.q 106=[]:=rfl
theorem qIX:pol.q 113=[]:=rfl
theorem qKm:pol.q 121=[]:=rfl
theorem qJq:pol.q 133=[]:=rfl
theorem qJp:pol.q 135=[]:=rfl
theorem qI8:pol.q 141=[]:=rfl
theorem qIl:pol.q 150=[]:=rfl
noncomputable def qhJ:Code:=(Tryz.f5.body).getD .skip
theorem bd5:qW Tryz.prog pol 5=some ⟨qhJ,170,[.tmp 6],[4]⟩:=by kernel_rfl
theorem pw5:pol.ow 5=[]∧pol.fz 5=false∧pol.ro 5=false∧pol.pr 5=none:=⟨rfl,rfl,rfl,rfl⟩
noncomputable def qsC:Code:=(Tryz.f6.body).getD .skip
theorem bd6:qW Tryz.prog pol 6=some ⟨qsC,129,[.tmp 0],[4]⟩:=by kernel_rfl
theorem pw6:pol.ow 6=[]∧pol.fz 6=false∧pol.ro 6=false∧pol.pr 6=none:=⟨rfl,rfl,rfl,rfl⟩
noncomputable def qsr:Code:=(Tryz.f7.body).getD .skip
theorem bd7:qW Tryz.prog pol 7=some ⟨qsr,13,[.cell 2 30,.tmp 3],[30,33]⟩:=by kernel_rfl
theorem pw7:pol.ow 7=[]∧pol.fz 7=true∧pol.ro 7=false∧pol.pr 7=none:=⟨rfl,rfl,rfl,rfl⟩
noncomputable def qmQ:Code:=(Tryz.f9.body).getD .skip
theorem bd9:qW Tryz.prog pol 9=some ⟨qmQ,75,[.cell 4 30],[30]⟩:=by kernel_rfl
theorem pw9:pol.ow 9=[]∧pol.fz 9=true∧pol.ro 9=false∧pol.pr 9=none:=⟨rfl,rfl,rfl,rfl⟩
noncomputable def qlL:Code:=(Tryz.f10.body).getD .skip
theorem qEX:qW Tryz.prog pol 10=some ⟨qlL,8,[.tmp 2],[33]⟩:=by kernel_rfl
theorem qGM:pol.ow 10=[]∧pol.fz 10=true∧pol.ro 10=false∧pol.pr 10=none:=⟨rfl,rfl,rfl,rfl⟩
noncomputable def qmK:Code:=(Tryz.f11.body).getD .skip
theorem qC1:qW Tryz.prog pol 11=some ⟨qmK,11,[.cell 2 32],[32]⟩:=by kernel_rfl
theorem qGe:pol.ow 11=[]∧pol.fz 11=false∧pol.ro 11=false∧pol.pr 11=none:=⟨rfl,rfl,rfl,rfl⟩
noncomputable def qol:Code:=(Tryz.f12.body).getD .skip
theorem qDG:qW Tryz.prog pol 12=some ⟨qol,25,[.tmp 6,.tmp 7],[45,46]⟩:=by kernel_rfl
theorem qGy:pol.ow 12=[]∧pol.fz 12=true∧pol.ro 12=false∧pol.pr 12=none:=⟨rfl,rfl,rfl,rfl⟩
noncomputable def qoG:Code:=(Tryz.f13.body).getD .skip
theorem qEq:qW Tryz.prog pol 13=some ⟨qoG,25,[.tmp 6,.tmp 7],[45,46]⟩:=by kernel_rfl
theorem qGb:pol.ow 13=[]∧pol.fz 13=true∧pol.ro 13=false∧pol.pr 13=none:=⟨rfl,rfl,rfl,rfl⟩
noncomputable def qnB:Code:=(Tryz.f15.body).getD .skip
theorem qEN:qW Tryz.prog pol 15=some ⟨qnB,24,[.tmp 6],[4]⟩:=by kernel_rfl
theorem qGE:pol.ow 15=[]∧pol.fz 15=false∧pol.ro 15=false∧pol.pr 15=none:=⟨rfl,rfl,rfl,rfl⟩
noncomputable def qiR:Code:=(Tryz.f16.body).getD .skip
theorem qB2:qW Tryz.prog pol 16=some ⟨qiR,48,[.tmp 6],[4]⟩:=by kernel_rfl
theorem qH7:pol.ow 16=[]∧pol.fz 16=false∧pol.ro 16=false∧pol.pr 16=none:=⟨rfl,rfl,rfl,rfl⟩
noncomputable def qlz:Code:=(Tryz.f17.body).getD .skip
theorem qDP:qW Tryz.prog pol 17=some ⟨qlz,12,[.tmp 4],[3]⟩:=by kernel_rfl
theorem qGj:pol.ow 17=[]∧pol.fz 17=false∧pol.ro 17=false∧pol.pr 17=none:=⟨rfl,rfl,rfl,rfl⟩
noncomputable def qgl:Code:=(Tryz.f18.body).getD .skip
theorem qyT:qW Tryz.prog pol 18=some ⟨qgl,89,[.tmp 8,.tmp 9],[22,4]⟩:=by kernel_rfl
theorem qGd:pol.ow 18=[]∧pol.fz 18=true∧pol.ro 18=false∧pol.pr 18=none:=⟨rfl,rfl,rfl,rfl⟩
noncomputable def qgG:Code:=(Tryz.f19.body).getD .skip
theorem qyh:qW Tryz.prog pol 19=some ⟨qgG,91,[.tmp 8,.tmp 9],[22,4]⟩:=by kernel_rfl
theorem qH5:pol.ow 19=[]∧pol.fz 19=true∧pol.ro 19=false∧pol.pr 19=none:=⟨rfl,rfl,rfl,rfl⟩
noncomputable def qjH:Code:=(Tryz.f20.body).getD .skip
theorem qBO:qW Tryz.prog pol 20=some ⟨qjH,26,[.tmp 4],[4]⟩:=by kernel_rfl
theorem qGC:pol.ow 20=[]∧pol.fz 20=false∧pol.ro 20=false∧pol.pr 20=none:=⟨rfl,rfl,rfl,rfl⟩
noncomputable def qiH:Code:=(Tryz.f21.body).getD .skip
theorem qBa:qW Tryz.prog pol 21=some ⟨qiH,43,[.tmp 6],[22]⟩:=by kernel_rfl
theorem qFJ:pol.ow 21=[]∧pol.fz 21=true∧pol.ro 21=false∧pol.pr 21=none:=⟨rfl,rfl,rfl,rfl⟩
noncomputable def qmG:Code:=(Tryz.f22.body).getD .skip
theorem qDD:qW Tryz.prog pol 22=some ⟨qmG,18,[.tmp 6],[22]⟩:=by kernel_rfl
theorem qFw:pol.ow 22=[]∧pol.fz 22=true∧pol.ro 22=false∧pol.pr 22=none:=⟨rfl,rfl,rfl,rfl⟩
noncomputable def qn2:Code:=(Tryz.f23.body).getD .skip
theorem qEW:qW Tryz.prog pol 23=some ⟨qn2,40,[.tmp 8],[4]⟩:=by kernel_rfl
theorem qGJ:pol.ow 23=[]∧pol.fz 23=false∧pol.ro 23=false∧pol.pr 23=none:=⟨rfl,rfl,rfl,rfl⟩
noncomputable def qjE:Code:=(Tryz.f24.body).getD .skip
theorem qBB:qW Tryz.prog pol 24=some ⟨qjE,53,[.tmp 8],[4]⟩:=by kernel_rfl
theorem qGk:pol.ow 24=[]∧pol.fz 24=false∧pol.ro 24=false∧pol.pr 24=none:=⟨rfl,rfl,rfl,rfl⟩
noncomputable def qnx:Code:=(Tryz.f25.body).getD .skip
theorem qEO:qW Tryz.prog pol 25=some ⟨qnx,23,[.tmp 0,.cell 1 30,.cell 2 30],[33,30,30]⟩:=by kernel_rfl
theorem qFt:pol.ow 25=[]∧pol.fz 25=true∧pol.ro 25=false∧pol.pr 25=none:=⟨rfl,rfl,rfl,rfl⟩
noncomputable def qg0:Code:=(Tryz.f26.body).getD .skip
theorem qxv:qW Tryz.prog pol 26=some ⟨qg0,58,[.tmp 4],[4]⟩:=by kernel_rfl
theorem qGO:pol.ow 26=[]∧pol.fz 26=false∧pol.ro 26=false∧pol.pr 26=none:=⟨rfl,rfl,rfl,rfl⟩
noncomputable def qnU:Code:=(Tryz.f27.body).getD .skip
theorem qEw:qW Tryz.prog pol 27=some ⟨qnU,7,[.cell 2 30],[30]⟩:=by kernel_rfl
theorem qGF:pol.ow 27=[]∧pol.fz 27=true∧pol.ro 27=false∧pol.pr 27=none:=⟨rfl,rfl,rfl,rfl⟩
noncomputable def qjn:Code:=(Tryz.f28.body).getD .skip
theorem qBK:qW Tryz.prog pol 28=some ⟨qjn,77,[.tmp 4],[33]⟩:=by kernel_rfl
theorem qFN:pol.ow 28=[]∧pol.fz 28=true∧pol.ro 28=false∧pol.pr 28=none:=⟨rfl,rfl,rfl,rfl⟩
noncomputable def qjN:Code:=(Tryz.f29.body).getD .skip
theorem qBd:qW Tryz.prog pol 29=some ⟨qjN,31,[.cell 2 30],[30]⟩:=by kernel_rfl
theorem qF1:pol.ow 29=[]∧pol.fz 29=true∧pol.ro 29=false∧pol.pr 29=none:=⟨rfl,rfl,rfl,rfl⟩
noncomputable def qjQ:Code:=(Tryz.f30.body).getD .skip
theorem qBN:qW Tryz.prog pol 30=some ⟨qjQ,60,[.tmp 2],[46]⟩:=by kernel_rfl
theorem qH1:pol.ow 30=[]∧pol.fz 30=false∧pol.ro 30=false∧pol.pr 30=none:=⟨rfl,rfl,rfl,rfl⟩
noncomputable def qmb:Code:=(Tryz.f31.body).getD .skip
theorem qC3:qW Tryz.prog pol 31=some ⟨qmb,5,[.tmp 4],[4]⟩:=by kernel_rfl
theorem qHb:pol.ow 31=[]∧pol.fz 31=false∧pol.ro 31=false∧pol.pr 31=none:=⟨rfl,rfl,rfl,rfl⟩
noncomputable def qop:Code:=(Tryz.f32.body).getD .skip
theorem qEp:qW Tryz.prog pol 32=some ⟨qop,5,[.tmp 4],[4]⟩:=by kernel_rfl
theorem qGZ:pol.ow 32=[]∧pol.fz 32=false∧pol.ro 32=false∧pol.pr 32=none:=⟨rfl,rfl,rfl,rfl⟩
noncomputable def qlh:Code:=(Tryz.f33.body).getD .skip
theorem qBo:qW Tryz.prog pol 33=some ⟨qlh,17,[.tmp 10],[77]⟩:=by kernel_rfl
theorem qE7:pol.ow 33=[]∧pol.fz 33=true∧pol.ro 33=false∧pol.pr 33=none:=⟨rfl,rfl,rfl,rfl⟩
noncomputable def qgE:Code:=(Tryz.f34.body).getD .skip
theorem qAQ:qW Tryz.prog pol 34=some ⟨qgE,62,[.tmp 2],[46]⟩:=by kernel_rfl
theorem qG7:pol.ow 34=[]∧pol.fz 34=false∧pol.ro 34=false∧pol.pr 34=none:=⟨rfl,rfl,rfl,rfl⟩
noncomputable def qbC:Code:=(Tryz.f35.body).getD .skip
theorem qqv:qW Tryz.prog pol 35=some ⟨qbC,158,[.tmp 4],[45]⟩:=by kernel_rfl
theorem qzp:pol.ow 35=[]∧pol.fz 35=true∧pol.ro 35=false∧pol.pr 35=none:=⟨rfl,rfl,rfl,rfl⟩
noncomputable def qog:Code:=(Tryz.f36.body).getD .skip
theorem qCv:qW Tryz.prog pol 36=some ⟨qog,11,[.tmp 2],[4]⟩:=by kernel_rfl
theorem qGQ:pol.ow 36=[]∧pol.fz 36=false∧pol.ro 36=false∧pol.pr 36=none:=⟨rfl,rfl,rfl,rfl⟩
noncomputable def qli:Code:=(Tryz.f37.body).getD .skip
theorem qCV:qW Tryz.prog pol 37=some ⟨qli,9,[.tmp 4],[4]⟩:=by kernel_rfl
theorem qFe:pol.ow 37=[]∧pol.fz 37=false∧pol.ro 37=false∧pol.pr 37=none:=⟨rfl,rfl,rfl,rfl⟩
noncomputable def qok:Code:=(Tryz.f38.body).getD .skip
theorem qCe:qW Tryz.prog pol 38=some ⟨qok,26,[.tmp 6],[4]⟩:=by kernel_rfl
theorem qG4:pol.ow 38=[]∧pol.fz 38=false∧pol.ro 38=false∧pol.pr 38=none:=⟨rfl,rfl,rfl,rfl⟩
noncomputable def qmM:Code:=(Tryz.f39.body).getD .skip
theorem qCA:qW Tryz.prog pol 39=some ⟨qmM,22,[.tmp 6],[4]⟩:=by kernel_rfl
theorem qFW:pol.ow 39=[]∧pol.fz 39=false∧pol.ro 39=false∧pol.pr 39=none:=⟨rfl,rfl,rfl,rfl⟩
noncomputable def qiL:Code:=(Tryz.f40.body).getD .skip
theorem qBh:qW Tryz.prog pol 40=some ⟨qiL,25,[.tmp 5],[4]⟩:=by kernel_rfl
theorem qFc:pol.ow 40=[]∧pol.fz 40=false∧pol.ro 40=false∧pol.pr 40=none:=⟨rfl,rfl,rfl,rfl⟩
noncomputable def qo5:Code:=(Tryz.f41.body).getD .skip
theorem qEl:qW Tryz.prog pol 41=some ⟨qo5,9,[.tmp 5],[4]⟩:=by kernel_rfl
theorem qFL:pol.ow 41=[]∧pol.fz 41=false∧pol.ro 41=false∧pol.pr 41=none:=⟨rfl,rfl,rfl,rfl⟩
noncomputable def qlk:Code:=(Tryz.f42.body).getD .skip
theorem qBf:qW Tryz.prog pol 42=some ⟨qlk,9,[.tmp 4],[4]⟩:=by kernel_rfl
theorem qDv:pol.ow 42=[]∧pol.fz 42=false∧pol.ro 42=false∧pol.pr 42=none:=⟨rfl,rfl,rfl,rfl⟩
noncomputable def qnA:Code:=(Tryz.f43.body).getD .skip
theorem qCm:qW Tryz.prog pol 43=some ⟨qnA,13,[.tmp 4],[4]⟩:=by kernel_rfl
theorem qFo:pol.ow 43=[]∧pol.fz 43=false∧pol.ro 43=false∧pol.pr 43=none:=⟨rfl,rfl,rfl,rfl⟩
noncomputable def qio:Code:=(Tryz.f44.body).getD .skip
theorem qBm:qW Tryz.prog pol 44=some ⟨qio,34,[.tmp 2],[28]⟩:=by kernel_rfl
theorem qGL:pol.ow 44=[]∧pol.fz 44=true∧pol.ro 44=false∧pol.pr 44=none:=⟨rfl,rfl,rfl,rfl⟩
noncomputable def qiF:Code:=(Tryz.f45.body).getD .skip
theorem qBA:qW Tryz.prog pol 45=some ⟨qiF,29,[.tmp 2],[28]⟩:=by kernel_rfl
theorem qH6:pol.ow 45=[]∧pol.fz 45=true∧pol.ro 45=false∧pol.pr 45=none:=⟨rfl,rfl,rfl,rfl⟩
noncomputable def qof:Code:=(Tryz.f46.body).getD .skip
theorem qCj:qW Tryz.prog pol 46=some ⟨qof,11,[.tmp 3],[4]⟩:=by kernel_rfl
theorem qF9:pol.ow 46=[]∧pol.fz 46=false∧pol.ro 46=false∧pol.pr 46=none:=⟨rfl,rfl,rfl,rfl⟩
noncomputable def qj9:Code:=(Tryz.f47.body).getD .skip
theorem qBx:qW Tryz.prog pol 47=some ⟨qj9,78,[.tmp 7,.tmp 8],[4,4]⟩:=by kernel_rfl
theorem qDf:pol.ow 47=[]∧pol.fz 47=false∧pol.ro 47=false∧pol.pr 47=none:=⟨rfl,rfl,rfl,rfl⟩
noncomputable def qju:Code:=(Tryz.f48.body).getD .skip
theorem qxx:qW Tryz.prog pol 48=some ⟨qju,44,[.cell 8 91],[91]⟩:=by kernel_rfl
theorem qEH:pol.ow 48=[]∧pol.fz 48=false∧pol.ro 48=false∧pol.pr 48=none:=⟨rfl,rfl,rfl,rfl⟩
noncomputable def qlf:Code:=(Tryz.f49.body).getD .skip
theorem qC2:qW Tryz.prog pol 49=some ⟨qlf,11,[.tmp 4],[4]⟩:=by kernel_rfl
theorem qG9:pol.ow 49=[]∧pol.fz 49=false∧pol.ro 49=false∧pol.pr 49=none:=⟨rfl,rfl,rfl,rfl⟩
noncomputable def qmU:Code:=(Tryz.f50.body).getD .skip
theorem qCD:qW Tryz.prog pol 50=some ⟨qmU,5,[.tmp 2],[93]⟩:=by kernel_rfl
theorem qFr:pol.ow 50=[]∧pol.fz 50=true∧pol.ro 50=false∧pol.pr 50=none:=⟨rfl,rfl,rfl,rfl⟩
noncomputable def qgV:Code:=(Tryz.f51.body).getD .skip
theorem qwr:qW Tryz.prog pol 51=some ⟨qgV,147,[.cell 4 100],[100]⟩:=by kernel_rfl
theorem qC5:pol.ow 51=[]∧pol.fz 51=false∧pol.ro 51=false∧pol.pr 51=none:=⟨rfl,rfl,rfl,rfl⟩
noncomputable def qiU:Code:=(Tryz.f52.body).getD .skip
theorem qBq:qW Tryz.prog pol 52=some ⟨qiU,77,[.cell 6 30],[30]⟩:=by kernel_rfl
theorem qBU:pol.ow 52=[]∧pol.fz 52=true∧pol.ro 52=false∧pol.pr 52=none:=⟨rfl,rfl,rfl,rfl⟩
noncomputable def qeI:Code:=(Tryz.f53.body).getD .skip
theorem qvO:qW Tryz.prog pol 53=some ⟨qeI,85,[.tmp 2],[27]⟩:=by kernel_rfl
theorem qFU:pol.ow 53=[]∧pol.fz 53=true∧pol.ro 53=true∧pol.pr 53=none:=⟨rfl,rfl,rfl,rfl⟩
noncomputable def qm1:Code:=(Tryz.f54.body).getD .skip
theorem qDC:qW Tryz.prog pol 54=some ⟨qm1,35,[.tmp 4],[3]⟩:=by kernel_rfl
theorem qGz:pol.ow 54=[]∧pol.fz 54=false∧pol.ro 54=false∧pol.pr 54=none:=⟨rfl,rfl,rfl,rfl⟩
noncomputable def qg9:Code:=(Tryz.f55.body).getD .skip
theorem qzv:qW Tryz.prog pol 55=some ⟨qg9,27,[.cell 2 28,.cell 3 3,.cell 4 4],[28,3,4]⟩:=by kernel_rfl
theorem qH3:pol.ow 55=[]∧pol.fz 55=true∧pol.ro 55=false∧pol.pr 55=none:=⟨rfl,rfl,rfl,rfl⟩
noncomputable def qmL:Code:=(Tryz.f56.body).getD .skip
theorem qEg:qW Tryz.prog pol 56=some ⟨qmL,15,[.tmp 6],[4]⟩:=by kernel_rfl
theorem qFS:pol.ow 56=[]∧pol.fz 56=false∧pol.ro 56=false∧pol.pr 56=none:=⟨rfl,rfl,rfl,rfl⟩
noncomputable def qna:Code:=(Tryz.f57.body).getD .skip
theorem qEG:qW Tryz.prog pol 57=some ⟨qna,10,[.tmp 0],[113]⟩:=by kernel_rfl
theorem qGB:pol.ow 57=[]∧pol.fz 57=true∧pol.ro 57=false∧pol.pr 57=none:=⟨rfl,rfl,rfl,rfl⟩
noncomputable def qbJ:Code:=(Tryz.f58.body).getD .skip
theorem qqr:qW Tryz.prog pol 58=some ⟨qbJ,142,[.tmp 8],[77]⟩:=by kernel_rfl
theorem qwd:pol.ow 58=[]∧pol.fz 58=true∧pol.ro 58=false∧pol.pr 58=none:=⟨rfl,rfl,rfl,rfl⟩
noncomputable def qox:Code:=(Tryz.f59.body).getD .skip
theorem qDI:qW Tryz.prog pol 59=some ⟨qox,9,[.tmp 3],[4]⟩:=by kernel_rfl
theorem qGr:pol.ow 59=[]∧pol.fz 59=false∧pol.ro 59=false∧pol.pr 59=none:=⟨rfl,rfl,rfl,rfl⟩
noncomputable def qjw:Code:=(Tryz.f60.body).getD .skip
theorem qBG:qW Tryz.prog pol 60=some ⟨qjw,20,[],[]⟩:=by kernel_rfl
theorem qG1:pol.ow 60=[]∧pol.fz 60=false∧pol.ro 60=false∧pol.pr 60=none:=⟨rfl,rfl,rfl,rfl⟩
noncomputable def qmX:Code:=(Tryz.f61.body).getD .skip
theorem qDg:qW Tryz.prog pol 61=some ⟨qmX,32,[],[]⟩:=by kernel_rfl
theorem qFH:pol.ow 61=[]∧pol.fz 61=false∧pol.ro 61=false∧pol.pr 61=none:=⟨rfl,rfl,rfl,rfl⟩
noncomputable def qjB:Code:=(Tryz.f62.body).getD .skip
theorem qxW:qW Tryz.prog pol 62=some ⟨qjB,47,[.tmp 6,.tmp 7],[122,4]⟩:=by kernel_rfl
theorem qBH:pol.ow 62=[0]∧pol.fz 62=false∧pol.ro 62=true∧pol.pr 62=none:=⟨rfl,rfl,rfl,rfl⟩
noncomputable def qnH:Code:=(Tryz.f63.body).getD .skip
theorem qEB:qW Tryz.prog pol 63=some ⟨qnH,11,[.tmp 2],[4]⟩:=by kernel_rfl
theorem qG8:pol.ow 63=[]∧pol.fz 63=false∧pol.ro 63=false∧pol.pr 63=none:=⟨rfl,rfl,rfl,rfl⟩
noncomputable def qgr:Code:=(Tryz.f64.body).getD .skip
theorem qz5:qW Tryz.prog pol 64=some ⟨qgr,116,[.tmp 2],[46]⟩:=by kernel_rfl
theorem qGv:pol.ow 64=[]∧pol.fz 64=false∧pol.ro 64=false∧pol.pr 64=none:=⟨rfl,rfl,rfl,rfl⟩
noncomputable def qgH:Code:=(Tryz.f65.body).getD .skip
theorem qvJ:qW Tryz.prog pol 65=some ⟨qgH,102,[.tmp 4],[45]⟩:=by kernel_rfl
theorem qDB:pol.ow 65=[]∧pol.fz 65=true∧pol.ro 65=false∧pol.pr 65=none:=⟨rfl,rfl,rfl,rfl⟩
noncomputable def qjO:Code:=(Tryz.f66.body).getD .skip
theorem qvY:qW Tryz.prog pol 66=some ⟨qjO,37,[.tmp 6],[4]⟩:=by kernel_rfl
theorem qEa:pol.ow 66=[]∧pol.fz 66=false∧pol.ro 66=false∧pol.pr 66=none:=⟨rfl,rfl,rfl,rfl⟩
noncomputable def qiC:Code:=(Tryz.f67.body).getD .skip
theorem qB1:qW Tryz.prog pol 67=some ⟨qiC,19,[.tmp 4],[3]⟩:=by kernel_rfl
theorem qFk:pol.ow 67=[]∧pol.fz 67=false∧pol.ro 67=false∧pol.pr 67=none:=⟨rfl,rfl,rfl,rfl⟩
noncomputable def qne:Code:=(Tryz.f68.body).getD .skip
theorem qBX:qW Tryz.prog pol 68=some ⟨qne,18,[.tmp 4],[4]⟩:=by kernel_rfl
theorem qGK:pol.ow 68=[]∧pol.fz 68=false∧pol.ro 68=false∧pol.pr 68=none:=⟨rfl,rfl,rfl,rfl⟩
noncomputable def qmw:Code:=(Tryz.f69.body).getD .skip
theorem qDJ:qW Tryz.prog pol 69=some ⟨qmw,26,[.tmp 4],[4]⟩:=by kernel_rfl
theorem qFV:pol.ow 69=[]∧pol.fz 69=false∧pol.ro 69=false∧pol.pr 69=none:=⟨rfl,rfl,rfl,rfl⟩
noncomputable def qjf:Code:=(Tryz.f70.body).getD .skip
theorem qAu:qW Tryz.prog pol 70=some ⟨qjf,19,[.tmp 4],[3]⟩:=by kernel_rfl
theorem qDl:pol.ow 70=[]∧pol.fz 70=false∧pol.ro 70=false∧pol.pr 70=none:=⟨rfl,rfl,rfl,rfl⟩
noncomputable def qnL:Code:=(Tryz.f71.body).getD .skip
theorem qEz:qW Tryz.prog pol 71=some ⟨qnL,11,[.tmp 2],[4]⟩:=by kernel_rfl
theorem qGA:pol.ow 71=[]∧pol.fz 71=false∧pol.ro 71=false∧pol.pr 71=none:=⟨rfl,rfl,rfl,rfl⟩
noncomputable def qj4:Code:=(Tryz.f72.body).getD .skip
theorem qBC:qW Tryz.prog pol 72=some ⟨qj4,29,[.cell 2 30],[30]⟩:=by kernel_rfl
theorem qDn:pol.ow 72=[]∧pol.fz 72=true∧pol.ro 72=false∧pol.pr 72=none:=⟨rfl,rfl,rfl,rfl⟩
noncomputable def qnl:Code:=(Tryz.f73.body).getD .skip
theorem qEk:qW Tryz.prog pol 73=some ⟨qnl,12,[.tmp 4],[4]⟩:=by kernel_rfl
theorem qGn:pol.ow 73=[]∧pol.fz 73=false∧pol.ro 73=false∧pol.pr 73=none:=⟨rfl,rfl,rfl,rfl⟩
noncomputable def qn6:Code:=(Tryz.f74.body).getD .skip
theorem qEx:qW Tryz.prog pol 74=some ⟨qn6,19,[.tmp 4],[4]⟩:=by kernel_rfl
theorem qFT:pol.ow 74=[]∧pol.fz 74=false∧pol.ro 74=false∧pol.pr 74=none:=⟨rfl,rfl,rfl,rfl⟩
noncomputable def qm8:Code:=(Tryz.f75.body).getD .skip
theorem qCB:qW Tryz.prog pol 75=some ⟨qm8,40,[.tmp 4],[3]⟩:=by kernel_rfl
theorem qG3:pol.ow 75=[]∧pol.fz 75=false∧pol.ro 75=false∧pol.pr 75=none:=⟨rfl,rfl,rfl,rfl⟩
noncomputable def qgg:Code:=(Tryz.f76.body).getD .skip
theorem qAJ:qW Tryz.prog pol 76=some ⟨qgg,61,[.tmp 2],[27]⟩:=by kernel_rfl
theorem qGa:pol.ow 76=[]∧pol.fz 76=true∧pol.ro 76=false∧pol.pr 76=none:=⟨rfl,rfl,rfl,rfl⟩
noncomputable def qmA:Code:=(Tryz.f77.body).getD .skip
theorem qEC:qW Tryz.prog pol 77=some ⟨qmA,24,[.tmp 4],[4]⟩:=by kernel_rfl
theorem qGp:pol.ow 77=[]∧pol.fz 77=false∧pol.ro 77=false∧pol.pr 77=none:=⟨rfl,rfl,rfl,rfl⟩
noncomputable def qo2:Code:=(Tryz.f78.body).getD .skip
theorem qCJ:qW Tryz.prog pol 78=some ⟨qo2,4,[.tmp 2],[133]⟩:=by kernel_rfl
theorem qGY:pol.ow 78=[]∧pol.fz 78=true∧pol.ro 78=false∧pol.pr 78=none:=⟨rfl,rfl,rfl,rfl⟩
noncomputable def ql0:Code:=(Tryz.f79.body).getD .skip
theorem qCG:qW Tryz.prog pol 79=some ⟨ql0,18,[.tmp 2],[4]⟩:=by kernel_rfl
theorem qGw:pol.ow 79=[]∧pol.fz 79=false∧pol.ro 79=false∧pol.pr 79=none:=⟨rfl,rfl,rfl,rfl⟩
noncomputable def qnh:Code:=(Tryz.f80.body).getD .skip
theorem qDY:qW Tryz.prog pol 80=some ⟨qnh,14,[.tmp 2],[46]⟩:=by kernel_rfl
theorem qFp:pol.ow 80=[]∧pol.fz 80=false∧pol.ro 80=false∧pol.pr 80=none:=⟨rfl,rfl,rfl,rfl⟩
noncomputable def qip:Code:=(Tryz.f81.body).getD .skip
theorem qBp:qW Tryz.prog pol 81=some ⟨qip,43,[.tmp 2],[46]⟩:=by kernel_rfl
theorem qFF:pol.ow 81=[]∧pol.fz 81=false∧pol.ro 81=false∧pol.pr 81=none:=⟨rfl,rfl,rfl,rfl⟩
noncomputable def qm3:Code:=(Tryz.f82.body).getD .skip
theorem qDU:qW Tryz.prog pol 82=some ⟨qm3,13,[.tmp 2],[46]⟩:=by kernel_rfl
theorem qFP:pol.ow 82=[]∧pol.fz 82=false∧pol.ro 82=false∧pol.pr 82=none:=⟨rfl,rfl,rfl,rfl⟩
noncomputable def qmm:Code:=(Tryz.f83.body).getD .skip
theorem qC0:qW Tryz.prog pol 83=some ⟨qmm,13,[.tmp 3],[46]⟩:=by kernel_rfl
theorem qFR:pol.ow 83=[]∧pol.fz 83=false∧pol.ro 83=false∧pol.pr 83=none:=⟨rfl,rfl,rfl,rfl⟩
noncomputable def qkW:Code:=(Tryz.f84.body).getD .skip
theorem qEi:qW Tryz.prog pol 84=some ⟨qkW,15,[.tmp 3],[46]⟩:=by kernel_rfl
theorem qFn:pol.ow 84=[]∧pol.fz 84=false∧pol.ro 84=false∧pol.pr 84=none:=⟨rfl,rfl,rfl,rfl⟩
noncomputable def qnY:Code:=(Tryz.f85.body).getD .skip
theorem qEf:qW Tryz.prog pol 85=some ⟨qnY,15,[.tmp 6],[4]⟩:=by kernel_rfl
theorem qG0:pol.ow 85=[]∧pol.fz 85=false∧pol.ro 85=false∧pol.pr 85=none:=⟨rfl,rfl,rfl,rfl⟩
noncomputable def qmS:Code:=(Tryz.f86.body).getD .skip
theorem qCu:qW Tryz.prog pol 86=some ⟨qmS,18,[.tmp 2],[4]⟩:=by kernel_rfl
theorem qFE:pol.ow 86=[]∧pol.fz 86=false∧pol.ro 86=false∧pol.pr 86=none:=⟨rfl,rfl,rfl,rfl⟩
noncomputable def qiA:Code:=(Tryz.f87.body).getD .skip
theorem qyU:qW Tryz.prog pol 87=some ⟨qiA,32,[.tmp 6],[4]⟩:=by kernel_rfl
theorem qEU:pol.ow 87=[]∧pol.fz 87=false∧pol.ro 87=false∧pol.pr 87=none:=⟨rfl,rfl,rfl,rfl⟩
noncomputable def qjF:Code:=(Tryz.f88.body).getD .skip
theorem qBw:qW Tryz.prog pol 88=some ⟨qjF,37,[.tmp 2],[46]⟩:=by kernel_rfl
theorem qGV:pol.ow 88=[]∧pol.fz 88=false∧pol.ro 88=false∧pol.pr 88=none:=⟨rfl,rfl,rfl,rfl⟩
noncomputable def qo9:Code:=(Tryz.f89.body).getD .skip
theorem qDX:qW Tryz.prog pol 89=some ⟨qo9,16,[.tmp 6],[3]⟩:=by kernel_rfl
theorem qHc:pol.ow 89=[]∧pol.fz 89=false∧pol.ro 89=false∧pol.pr 89=none:=⟨rfl,rfl,rfl,rfl⟩
noncomputable def qkX:Code:=(Tryz.f90.body).getD .skip
theorem qEo:qW Tryz.prog pol 90=some ⟨qkX,40,[.tmp 2],[46]⟩:=by kernel_rfl
theorem qGS:pol.ow 90=[]∧pol.fz 90=false∧pol.ro 90=false∧pol.pr 90=none:=⟨rfl,rfl,rfl,rfl⟩
theorem qH0:pol.ow 91=[]∧pol.fz 91=false∧pol.ro 91=false∧pol.pr 91=some (pr0 (q8N T 51 false)):=⟨rfl,rfl,rfl,rfl⟩
theorem qGm:pol.ow 92=[]∧pol.fz 92=false∧pol.ro 92=true∧pol.pr 92=some (pr0 (q8N T 30 true)):=⟨rfl,rfl,rfl,rfl⟩
noncomputable def qnE:Code:=(Tryz.f93.body).getD .skip
theorem qCs:qW Tryz.prog pol 93=some ⟨qnE,20,[.cell 2 51],[51]⟩:=by kernel_rfl
theorem qGg:pol.ow 93=[]∧pol.fz 93=false∧pol.ro 93=false∧pol.pr 93=none:=⟨rfl,rfl,rfl,rfl⟩
noncomputable def ql6:Code:=(Tryz.f94.body).getD .skip
theorem qEZ:qW Tryz.prog pol 94=some ⟨ql6,6,[],[]⟩:=by kernel_rfl
theorem qGl:pol.ow 94=[]∧pol.fz 94=false∧pol.ro 94=false∧pol.pr 94=none:=⟨rfl,rfl,rfl,rfl⟩
noncomputable def qjr:Code:=(Tryz.f95.body).getD .skip
theorem qxT:qW Tryz.prog pol 95=some ⟨qjr,28,[.tmp 6],[4]⟩:=by kernel_rfl
theorem qBv:pol.ow 95=[]∧pol.fz 95=false∧pol.ro 95=false∧pol.pr 95=none:=⟨rfl,rfl,rfl,rfl⟩
noncomputable def qlx:Code:=(Tryz.f96.body).getD .skip
theorem qEY:qW Tryz.prog pol 96=some ⟨qlx,9,[.tmp 4],[4]⟩:=by kernel_rfl
theorem qGu:pol.ow 96=[]∧pol.fz 96=false∧pol.ro 96=false∧pol.pr 96=none:=⟨rfl,rfl,rfl,rfl⟩
noncomputable def ql4:Code:=(Tryz.f97.body).getD .skip
theorem qCp:qW Tryz.prog pol 97=some ⟨ql4,6,[.tmp 2],[4]⟩:=by kernel_rfl
theorem qGI:pol.ow 97=[]∧pol.fz 97=false∧pol.ro 97=false∧pol.pr 97=none:=⟨rfl,rfl,rfl,rfl⟩
noncomputable def qlT:Code:=(Tryz.f98.body).getD .skip
theorem qD6:qW Tryz.prog pol 98=some ⟨qlT,11,[.tmp 2],[4]⟩:=by kernel_rfl
theorem qGH:pol.ow 98=[]∧pol.fz 98=false∧pol.ro 98=false∧pol.pr 98=none:=⟨rfl,rfl,rfl,rfl⟩
noncomputable def qo6:Code:=(Tryz.f99.body).getD .skip
theorem qDE:qW Tryz.prog pol 99=some ⟨qo6,17,[.tmp 4],[3]⟩:=by kernel_rfl
theorem qGW:pol.ow 99=[]∧pol.fz 99=false∧pol.ro 99=false∧pol.pr 99=none:=⟨rfl,rfl,rfl,rfl⟩
noncomputable def qeY:Code:=(Tryz.f100.body).getD .skip
theorem qqM:qW Tryz.prog pol 100=some ⟨qeY,46,[.tmp 2],[4]⟩:=by kernel_rfl
theorem qzX:pol.ow 100=[]∧pol.fz 100=false∧pol.ro 100=false∧pol.pr 100=none:=⟨rfl,rfl,rfl,rfl⟩
noncomputable def qhj:Code:=(Tryz.f101.body).getD .skip
theorem qsR:qW Tryz.prog pol 101=some ⟨qhj,14,[.tmp 4],[4]⟩:=by kernel_rfl
theorem qz7:pol.ow 101=[]∧pol.fz 101=false∧pol.ro 101=false∧pol.pr 101=none:=⟨rfl,rfl,rfl,rfl⟩
noncomputable def qhG:Code:=(Tryz.f102.body).getD .skip
theorem qva:qW Tryz.prog pol 102=some ⟨qhG,2,[.tmp 0],[73]⟩:=by kernel_rfl
theorem qzU:pol.ow 102=[]∧pol.fz 102=true∧pol.ro 102=false∧pol.pr 102=none:=⟨rfl,rfl,rfl,rfl⟩
noncomputable def qfb:Code:=(Tryz.f103.body).getD .skip
theorem qqj:qW Tryz.prog pol 103=some ⟨qfb,19,[.tmp 4],[3]⟩:=by kernel_rfl
theorem qAE:pol.ow 103=[]∧pol.fz 103=false∧pol.ro 103=false∧pol.pr 103=none:=⟨rfl,rfl,rfl,rfl⟩
noncomputable def qhm:Code:=(Tryz.f104.body).getD .skip
theorem qsE:qW Tryz.prog pol 104=some ⟨qhm,17,[.tmp 2],[4]⟩:=by kernel_rfl
theorem qze:pol.ow 104=[]∧pol.fz 104=false∧pol.ro 104=false∧pol.pr 104=none:=⟨rfl,rfl,rfl,rfl⟩
noncomputable def qfJ:Code:=(Tryz.f105.body).getD .skip
theorem qpY:qW Tryz.prog pol 105=some ⟨qfJ,18,[.tmp 2],[3]⟩:=by kernel_rfl
theorem qx1:pol.ow 105=[]∧pol.fz 105=false∧pol.ro 105=false∧pol.pr 105=none:=⟨rfl,rfl,rfl,rfl⟩
noncomputable def qhs:Code:=(Tryz.f106.body).getD .skip
theorem qsw:qW Tryz.prog pol 106=some ⟨qhs,20,[.tmp 4],[3]⟩:=by kernel_rfl
theorem qxP:pol.ow 106=[]∧pol.fz 106=false∧pol.ro 106=false∧pol.pr 106=none:=⟨rfl,rfl,rfl,rfl⟩
noncomputable def qhY:Code:=(Tryz.f107.body).getD .skip
theorem qvk:qW Tryz.prog pol 107=some ⟨qhY,20,[.tmp 4],[3]⟩:=by kernel_rfl
theorem qAh:pol.ow 107=[]∧pol.fz 107=false∧pol.ro 107=false∧pol.pr 107=none:=⟨rfl,rfl,rfl,rfl⟩
noncomputable def qi0:Code:=(Tryz.f108.body).getD .skip
theorem qtb:qW Tryz.prog pol 108=some ⟨qi0,17,[.tmp 2],[4]⟩:=by kernel_rfl
theorem qz9:pol.ow 108=[]∧pol.fz 108=false∧pol.ro 108=false∧pol.pr 108=none:=⟨rfl,rfl,rfl,rfl⟩
noncomputable def qhf:Code:=(Tryz.f109.body).getD .skip
theorem qtS:qW Tryz.prog pol 109=some ⟨qhf,8,[.tmp 4],[3]⟩:=by kernel_rfl
theorem qyg:pol.ow 109=[]∧pol.fz 109=false∧pol.ro 109=false∧pol.pr 109=none:=⟨rfl,rfl,rfl,rfl⟩
noncomputable def qhy:Code:=(Tryz.f110.body).getD .skip
theorem qsY:qW Tryz.prog pol 110=some ⟨qhy,6,[.tmp 2],[4]⟩:=by kernel_rfl
theorem qwF:pol.ow 110=[]∧pol.fz 110=false∧pol.ro 110=false∧pol.pr 110=none:=⟨rfl,rfl,rfl,rfl⟩
noncomputable def qhd:Code:=(Tryz.f111.body).getD .skip
theorem qtF:qW Tryz.prog pol 111=some ⟨qhd,6,[.tmp 2],[4]⟩:=by kernel_rfl
theorem qvV:pol.ow 111=[]∧pol.fz 111=false∧pol.ro 111=false∧pol.pr 111=none:=⟨rfl,rfl,rfl,rfl⟩
noncomputable def qfN:Code:=(Tryz.f112.body).getD .skip
theorem qpO:qW Tryz.prog pol 112=some ⟨qfN,21,[.tmp 6],[3]⟩:=by kernel_rfl
theorem qx5:pol.ow 112=[]∧pol.fz 112=false∧pol.ro 112=false∧pol.pr 112=none:=⟨rfl,rfl,rfl,rfl⟩
theorem qw7:pol.kp 5 30=[4,7,8,9,10,128,129,130]∧pol.rw 5 30=[]∧pol.kx 5 30=[6,7]:=⟨rfl,rfl,rfl⟩
theorem qwy:pol.kp 5 23=[4,7,8,9,10,14,15,109,110,111]∧pol.rw 5 23=[]∧pol.kx 5 23=[4,6,7,8,9,10,14]:=⟨rfl,rfl,rfl⟩
theorem qwN:pol.kp 5 15=[2,4,7,8,9,10,14,15,70,71,72]∧pol.rw 5 15=[]∧pol.kx 5 15=[4,6,7,8,9,10,14]:=⟨rfl,rfl,rfl⟩
theorem qDb:pol.kp 5 7=[2,4,7,8,9,10,11,38,39,40]∧pol.rw 5 7=[.slot 11 3 1]∧pol.kx 5 7=[2,4,7,8,9,10,11]:=⟨rfl,rfl,rfl⟩
theorem qEA:pol.kp 9 9=[1,2,4,5,8]∧pol.rw 9 9=[.cell 5 4 30 5]∧pol.kx 9 9=[4,5]:=⟨rfl,rfl,rfl⟩
theorem qCZ:pol.kp 9 3=[1,2,4,5,6]∧pol.rw 9 3=[.cell 5 3 51 2]∧pol.kx 9 3=[1,2,4,5]:=⟨rfl,rfl,rfl⟩
theorem qyf:pol.kp 16 3=[3,4,5,7,8]∧pol.rw 16 3=[]∧pol.kx 16 3=[3,4,5,7]:=⟨rfl,rfl,rfl⟩
theorem qvd:pol.kp 18 14=[2,3,4,5,12,13,14,15,16,49,50]∧pol.rw 18 14=[]∧pol.kx 18 14=[2,3,4,5,12,13,14,15,16,49,50]:=⟨rfl,rfl,rfl⟩
theorem qyN:pol.kp 18 9=[2,3,4,5,12,13,14,15,49,50]∧pol.rw 18 9=[.cell 12 0 3 1,.slot 15 3 1]∧pol.kx 18 9=[15]:=⟨rfl,rfl,rfl⟩
theorem qtc:pol.kp 19 12=[2,3,4,5,12,13,14,15,16]∧pol.rw 19 12=[.slot 14 3 1]∧pol.kx 19 12=[2,3,4,5,12,13,14,15]:=⟨rfl,rfl,rfl⟩
theorem qAA:pol.kp 19 7=[2,3,4,5,12,13,14,15]∧pol.rw 19 7=[.slot 13 3 1,.slot 14 3 1]∧pol.kx 19 7=[14]:=⟨rfl,rfl,rfl⟩
theorem qvQ:pol.kp 20 4=[0,1,5]∧pol.rw 20 4=[]∧pol.kx 20 4=[4]:=⟨rfl,rfl,rfl⟩
theorem qwQ:pol.kp 21 4=[1,2,7,8,11,12]∧pol.rw 21 4=[.slot 7 3 1]∧pol.kx 21 4=[7]:=⟨rfl,rfl,rfl⟩
theorem qAt:pol.kp 24 5=[2,3,4,5,9,10]∧pol.rw 24 5=[]∧pol.kx 24 5=[2,3,4,5,8]:=⟨rfl,rfl,rfl⟩
theorem qvo:pol.kp 26 10=[1,10,11,12,34,35,36,41,42,43]∧pol.rw 26 10=[]∧pol.kx 26 10=[1,11,12,34,35,36]:=⟨rfl,rfl,rfl⟩
theorem qAy:pol.kp 26 6=[1,34,35,36]∧pol.rw 26 6=[]∧pol.kx 26 6=[4]:=⟨rfl,rfl,rfl⟩
theorem qxB:pol.kp 28 6=[5,6,7,8,9]∧pol.rw 28 6=[.slot 7 53 8]∧pol.kx 28 6=[7]:=⟨rfl,rfl,rfl⟩
theorem qA8:pol.kp 29 5=[1,2,3,4]∧pol.rw 29 5=[.cell 3 4 30 5]∧pol.kx 29 5=[2,3]:=⟨rfl,rfl,rfl⟩
theorem qwb:pol.kp 30 6=[6,37,38,39]∧pol.rw 30 6=[]∧pol.kx 30 6=[2]:=⟨rfl,rfl,rfl⟩
theorem quF:pol.kp 34 15=[3,7]∧pol.rw 34 15=[]∧pol.kx 34 15=[2]:=⟨rfl,rfl,rfl⟩
theorem qw4:pol.kp 34 6=[3,5,6]∧pol.rw 34 6=[]∧pol.kx 34 6=[2,3,5]:=⟨rfl,rfl,rfl⟩
theorem qt3:pol.kp 35 32=[5,14,15,16]∧pol.rw 35 32=[]∧pol.kx 35 32=[15]:=⟨rfl,rfl,rfl⟩
theorem qut:pol.kp 35 22=[0,3,5,7,9,10,11,12,13]∧pol.rw 35 22=[]∧pol.kx 35 22=[0,3,5,7,9,10,11,12]:=⟨rfl,rfl,rfl⟩
theorem qv1:pol.kp 35 16=[0,3,5,7,9,10,11,12]∧pol.rw 35 16=[]∧pol.kx 35 16=[0,3,7,11]:=⟨rfl,rfl,rfl⟩
theorem qzH:pol.kp 35 9=[0,3,5,7]∧pol.rw 35 9=[]∧pol.kx 35 9=[3,5]:=⟨rfl,rfl,rfl⟩
theorem qAR:pol.kp 35 5=[0,3,5,6]∧pol.rw 35 5=[]∧pol.kx 35 5=[0,3,5]:=⟨rfl,rfl,rfl⟩
theorem qxS:pol.kp 40 2=[0,1,8,9,10]∧pol.rw 40 2=[]∧pol.kx 40 2=[5]:=⟨rfl,rfl,rfl⟩
theorem qA6:pol.kp 44 4=[3,5,6]∧pol.rw 44 4=[.slot 5 30 5]∧pol.kx 44 4=[5]:=⟨rfl,rfl,rfl⟩
theorem qAc:pol.kp 45 3=[2,14,15,16]∧pol.rw 45 3=[.slot 2 30 5]∧pol.kx 45 3=[2]:=⟨rfl,rfl,rfl⟩
theorem qAb:pol.kp 47 8=[5,6,7,10,11,35,36,37]∧pol.rw 47 8=[]∧pol.kx 47 8=[6,7,10,11]:=⟨rfl,rfl,rfl⟩
theorem qy7:pol.kp 48 3=[3,4,5,8,9,13,14,15]∧pol.rw 48 3=[]∧pol.kx 48 3=[8,9]:=⟨rfl,rfl,rfl⟩
theorem qsn:pol.kp 51 20=[0,3,4,9,10,11,12]∧pol.rw 51 20=[]∧pol.kx 51 20=[3,4,9,10,11]:=⟨rfl,rfl,rfl⟩
theorem qAH:pol.kp 51 6=[0,3,4,5,6,7,8]∧pol.rw 51 6=[]∧pol.kx 51 6=[0,3,4,5,6,7]:=⟨rfl,rfl,rfl⟩
theorem qzJ:pol.kp 52 9=[0,1,2,6,7,8,9,10]∧pol.rw 52 9=[.cell 9 4 30 5]∧pol.kx 52 9=[0,6,7,8,9]:=⟨rfl,rfl,rfl⟩
theorem qv4:pol.kp 53 11=[3,5,6,7,8,9]∧pol.rw 53 11=[]∧pol.kx 53 11=[3,5,6,7,8,9]:=⟨rfl,rfl,rfl⟩
theorem qx8:pol.kp 53 8=[3,5,6,7,8]∧pol.rw 53 8=[.slot 5 51 2]∧pol.kx 53 8=[3,5,6]:=⟨rfl,rfl,rfl⟩
theorem qyS:pol.kp 53 4=[3,5,6]∧pol.rw 53 4=[.slot 5 51 2]∧pol.kx 53 4=[5]:=⟨rfl,rfl,rfl⟩
theorem qvC:pol.kp 58 38=[9,12,21,22]∧pol.rw 58 38=[]∧pol.kx 58 38=[9]:=⟨rfl,rfl,rfl⟩
theorem qvj:pol.kp 58 25=[3,5,6,7,9,12,17,18,19,72,73,74,96,97]∧pol.rw 58 25=[]∧pol.kx 58 25=[3,5,6,7,9,12,19,72,73,74]:=⟨rfl,rfl,rfl⟩
theorem quz:pol.kp 58 18=[3,5,6,7,9,12,72,73,74]∧pol.rw 58 18=[]∧pol.kx 58 18=[7,9,12]:=⟨rfl,rfl,rfl⟩
theorem qt6:pol.kp 58 14=[3,5,6,7,9,12,13]∧pol.rw 58 14=[]∧pol.kx 58 14=[3,5,6,7,9,12]:=⟨rfl,rfl,rfl⟩
theorem qwS:pol.kp 58 5=[1,2,3,4,7,9,10,11]∧pol.rw 58 5=[]∧pol.kx 58 5=[3,9]:=⟨rfl,rfl,rfl⟩
theorem qwv:pol.kp 60 1=[1,2,6]∧pol.rw 60 1=[]∧pol.kx 60 1=[]:=⟨rfl,rfl,rfl⟩
theorem qxn:pol.kp 62 5=[0,2,4,8]∧pol.rw 62 5=[]∧pol.kx 62 5=[0,6,7]:=⟨rfl,rfl,rfl⟩
theorem qu2:pol.kp 64 28=[1,4]∧pol.rw 64 28=[]∧pol.kx 64 28=[2]:=⟨rfl,rfl,rfl⟩
theorem qsv:pol.kp 64 23=[1,3]∧pol.rw 64 23=[]∧pol.kx 64 23=[1,2]:=⟨rfl,rfl,rfl⟩
theorem qyn:pol.kp 65 9=[0,3,5,6,7,8,9,10]∧pol.rw 65 9=[]∧pol.kx 65 9=[0,3,5,6,7,8,9]:=⟨rfl,rfl,rfl⟩
theorem qxw:pol.kp 65 3=[0,3,5,6]∧pol.rw 65 3=[]∧pol.kx 65 3=[0,5]:=⟨rfl,rfl,rfl⟩
theorem qAq:pol.kp 66 2=[0,1,2,7]∧pol.rw 66 2=[]∧pol.kx 66 2=[6]:=⟨rfl,rfl,rfl⟩
theorem qwW:pol.kp 67 2=[0,3,7,8]∧pol.rw 67 2=[]∧pol.kx 67 2=[4]:=⟨rfl,rfl,rfl⟩
theorem qwc:pol.kp 70 2=[0,1,7,8]∧pol.rw 70 2=[]∧pol.kx 70 2=[4]:=⟨rfl,rfl,rfl⟩
theorem qyC:pol.kp 72 3=[1,2,14,15,16]∧pol.rw 72 3=[]∧pol.kx 72 3=[1,2]:=⟨rfl,rfl,rfl⟩
theorem qA4:pol.kp 76 8=[0,3,4,5,6,7]∧pol.rw 76 8=[]∧pol.kx 76 8=[0,3,4,5,6,7]:=⟨rfl,rfl,rfl⟩
theorem qwH:pol.kp 76 4=[0,3,4,5]∧pol.rw 76 4=[.slot 4 51 2]∧pol.kx 76 4=[4]:=⟨rfl,rfl,rfl⟩
theorem qAD:pol.kp 81 7=[1,22,23,24]∧pol.rw 81 7=[]∧pol.kx 81 7=[2]:=⟨rfl,rfl,rfl⟩
theorem qAI:pol.kp 87 2=[0,1,2,7]∧pol.rw 87 2=[]∧pol.kx 87 2=[6]:=⟨rfl,rfl,rfl⟩
theorem qy3:pol.kp 88 2=[1,9,10,11]∧pol.rw 88 2=[]∧pol.kx 88 2=[1,2]:=⟨rfl,rfl,rfl⟩
theorem qxu:pol.kp 95 4=[1,2,15,16,17]∧pol.rw 95 4=[]∧pol.kx 95 4=[6]:=⟨rfl,rfl,rfl⟩
theorem quB:pol.kp 100 2=[0,3]∧pol.rw 100 2=[]∧pol.kx 100 2=[0,2]:=⟨rfl,rfl,rfl⟩
theorem qsX:pol.kp 103 2=[0,1,7,8]∧pol.rw 103 2=[]∧pol.kx 103 2=[4]:=⟨rfl,rfl,rfl⟩
theorem qsO:pol.kp 105 3=[3,6,7,8]∧pol.rw 105 3=[]∧pol.kx 105 3=[2,3]:=⟨rfl,rfl,rfl⟩
theorem qsG:pol.kp 112 2=[1,2,10]∧pol.rw 112 2=[]∧pol.kx 112 2=[6]:=⟨rfl,rfl,rfl⟩
noncomputable def qmn:Code:=(zL 30 qhJ).getD .skip
noncomputable def qni:Code:=(zL 23 qhJ).getD .skip
noncomputable def qlS:Code:=(zL 15 qhJ).getD .skip
noncomputable def qt7:Code:=(zL 7 qhJ).getD .skip
noncomputable def qv9:Code:=(zL 9 qmQ).getD .skip
noncomputable def qtJ:Code:=(zL 3 qmQ).getD .skip
noncomputable def qlg:Code:=(zL 3 qiR).getD .skip
noncomputable def qhP:Code:=(zL 14 qgl).getD .skip
noncomputable def qlp:Code:=(zL 9 qgl).getD .skip
noncomputable def qi5:Code:=(zL 12 qgG).getD .skip
noncomputable def qm6:Code:=(zL 7 qgG).getD .skip
noncomputable def qmx:Code:=(zL 4 qjH).getD .skip
noncomputable def qkR:Code:=(zL 4 qiH).getD .skip
noncomputable def qnO:Code:=(zL 5 qjE).getD .skip
noncomputable def qhK:Code:=(zL 10 qg0).getD .skip
noncomputable def qml:Code:=(zL 6 qg0).getD .skip
noncomputable def qo4:Code:=(zL 6 qjn).getD .skip
noncomputable def qlv:Code:=(zL 5 qjN).getD .skip
noncomputable def qn7:Code:=(zL 6 qjQ).getD .skip
noncomputable def qi6:Code:=(zL 15 qgE).getD .skip
noncomputable def qkK:Code:=(zL 6 qgE).getD .skip
noncomputable def qf8:Code:=(zL 32 qbC).getD .skip
noncomputable def qfd:Code:=(zL 22 qbC).getD .skip
noncomputable def qf3:Code:=(zL 16 qbC).getD .skip
noncomputable def qjC:Code:=(zL 9 qbC).getD .skip
noncomputable def qiI:Code:=(zL 5 qbC).getD .skip
noncomputable def qms:Code:=(zL 2 qiL).getD .skip
noncomputable def qiV:Code:=(zL 4 qio).getD .skip
noncomputable def qkT:Code:=(zL 3 qiF).getD .skip
noncomputable def qkU:Code:=(zL 8 qj9).getD .skip
noncomputable def qiQ:Code:=(zL 3 qju).getD .skip
noncomputable def qhD:Code:=(zL 20 qgV).getD .skip
noncomputable def qnK:Code:=(zL 6 qgV).getD .skip
noncomputable def qlc:Code:=(zL 9 qiU).getD .skip
noncomputable def qeW:Code:=(zL 11 qeI).getD .skip
noncomputable def qjG:Code:=(zL 8 qeI).getD .skip
noncomputable def qim:Code:=(zL 4 qeI).getD .skip
noncomputable def qf9:Code:=(zL 38 qbJ).getD .skip
noncomputable def qfK:Code:=(zL 25 qbJ).getD .skip
noncomputable def qeX:Code:=(zL 18 qbJ).getD .skip
noncomputable def qf5:Code:=(zL 14 qbJ).getD .skip
noncomputable def qeG:Code:=(zL 5 qbJ).getD .skip
noncomputable def qot:Code:=(zL 1 qjw).getD .skip
noncomputable def qix:Code:=(zL 5 qjB).getD .skip
noncomputable def qhZ:Code:=(zL 28 qgr).getD .skip
noncomputable def qh1:Code:=(zL 23 qgr).getD .skip
noncomputable def qiD:Code:=(zL 9 qgH).getD .skip
noncomputable def qjL:Code:=(zL 3 qgH).getD .skip
noncomputable def qjs:Code:=(zL 2 qjO).getD .skip
noncomputable def qnv:Code:=(zL 2 qiC).getD .skip
noncomputable def qjM:Code:=(zL 2 qjf).getD .skip
noncomputable def qor:Code:=(zL 3 qj4).getD .skip
noncomputable def qlG:Code:=(zL 8 qgg).getD .skip
noncomputable def ql2:Code:=(zL 4 qgg).getD .skip
noncomputable def qoi:Code:=(zL 7 qip).getD .skip
noncomputable def qjh:Code:=(zL 2 qiA).getD .skip
noncomputable def qlP:Code:=(zL 2 qjF).getD .skip
noncomputable def qiB:Code:=(zL 4 qjr).getD .skip
noncomputable def qi8:Code:=(zL 2 qeY).getD .skip
noncomputable def qho:Code:=(zL 2 qfb).getD .skip
noncomputable def qhc:Code:=(zL 3 qfJ).getD .skip
noncomputable def qh4:Code:=(zL 2 qfN).getD .skip
noncomputable def qdP:Code:=((q2B 4 qg9).getD (.skip,.skip)).1
noncomputable def qbI:Code:=((q2B 4 qg9).getD (.skip,.skip)).2
theorem qwh:Qd qbI=4:=by kernel_rfl
theorem qrF:qch (drq pol 55) false qdP=true∧qch (drq pol 55) false qbI=true:=⟨by kernel_rfl,by kernel_rfl⟩
theorem qCz:qCE Tryz.prog pol:=by
 intro f g k args G r G' hf hg
 unfold pol ppr at hf
 simp only at hf
 split at hf
 ·injection hf with hf;subst hf;refine qrd (fun _ _ _ hg=>?_) hg;exact qeD qBu (fn:=Tryz.f91) (t:=27) (e:=51) (bt:=4) (by kernel_rfl) (by kernel_rfl) (by kernel_rfl) (by kernel_rfl) (by kernel_rfl) k27 (by rw[k51];simp) (by rw[z51];decide) (by kernel_rfl) hg
 ·injection hf with hf;subst hf;refine qrd (fun _ _ _ hg=>?_) hg;exact qeD qBu (fn:=Tryz.f92) (t:=28) (e:=30) (bt:=4) (by kernel_rfl) (by kernel_rfl) (by kernel_rfl) (by kernel_rfl) (by kernel_rfl) k28 (by rw[k30];simp) (by rw[z30];decide) (by kernel_rfl) hg
 ·cases hf
end Go.Proofs.YtgejdfnidjnjcaaGreat.Vc
namespace Go.Proofs.YtgejdfnidjnjcaaGreat.Vc
open Go.RowKit
theorem q2S {α β:Type} {c:Prop} [Decidable c] (a b:Option α) (f:α→Option β):(if c then a else b).bind f=if c then a.bind f else b.bind f:=by split<;>rfl
theorem qCn:(Tryz.prog).follows .mixedOrders=true:=by kernel_rfl
noncomputable def evo:Orc:=EE Tryz.prog T pol (D1 Tryz.prog T pol)
noncomputable def ev (f:FuncId):Nat→List R→List (Nat×B)→Option (R×List (Nat×B)):=evo (.fn f)
noncomputable def evr (f:FuncId) (asg bd:Code):Nat→List R→List (Nat×B)→Option (R×List (Nat×B)):=evo (.rd f asg bd)
theorem qDs {f k:Nat} {args:List R} {G G':List (Nat×B)} {r:R} (h:ev f k args G=some (r,G')):AC Tryz.prog f args G k fun r' hp'=>r'=r∧hp'=G':=(qzZ qBu (qDe qBu qCn) qCz).fn f k args G r G' h
noncomputable def XE (f k:Nat):Code→S→XS:=XD Tryz.prog T pol evo (D1 Tryz.prog T pol evo f k) Lim f k
noncomputable def bkk (id:Nat) (r:XS):XS:=r.bind (bkD id)
def rgn (o:Option S):XS:=o.bind fun s'=>some (.normal,s')
noncomputable def fnn (f k:Nat) (res:List ResultVar) (rt:List TypeId) (r:XS):Option (R×List (Nat×B)):=r.bind (qxC T pol f k ⟨.skip,0,res,rt⟩)
section
variable {f k:Nat} {s:S} {b:Code} {c:Prop} [Decidable c] {x y:XS} {α:Type} {o:Option α} {g:α→XS}
theorem qk9 (i:Nat):bkk i (some (.normal,s))=some (.normal,s):=rfl
theorem qsA (i:Nat):bkk i (some (.ret,s))=some (.ret,s):=rfl
theorem qpW (i j:Nat):bkk i (some (.exit j,s))=if j=i then some (.normal,s) else some (.exit j,s):=rfl
theorem qq9 (i:Nat):bkk i none=none:=rfl
theorem quD (i:Nat):bkk i (if c then x else y)=if c then bkk i x else bkk i y:=q2S _ _ _
theorem qr2 (i:Nat):bkk i (o.bind g)=o.bind fun a=>bkk i (g a):=by cases o<;>rfl
theorem qqH:rgn (some s)=some (.normal,s):=rfl
theorem qq3:rgn none=none:=rfl
theorem qsV (x y:Option S):rgn (if c then x else y)=if c then rgn x else rgn y:=q2S _ _ _
theorem qpf (g:α→Option S):rgn (o.bind g)=o.bind fun a=>rgn (g a):=by cases o<;>rfl
theorem qpm (res:List ResultVar) (rt:List TypeId) (p:Exit×S):fnn f k res rt (some p)=qxC T pol f k ⟨.skip,0,res,rt⟩ p:=rfl
theorem qqE (res:List ResultVar) (rt:List TypeId):fnn f k res rt none=none:=rfl
theorem qsg (res:List ResultVar) (rt:List TypeId):fnn f k res rt (if c then x else y)=if c then fnn f k res rt x else fnn f k res rt y:=q2S _ _ _
theorem qpB (res:List ResultVar) (rt:List TypeId):fnn f k res rt (o.bind g)=o.bind fun a=>fnn f k res rt (g a):=by cases o<;>rfl
end
theorem qtd (f k:Nat) (args:List R) (G:List (Nat×B)):ev f k args G=match pol.pr f with
 | some g=>prx g k args G
 | none=>(qW Tryz.prog pol f).bind fun bd=>qbj Tryz.prog T pol (D1 Tryz.prog T pol) evo Lim f k args G bd:=qE6 qcN qow f k args G
def rfk (n:Nat) (q:RS):XS:=q.bind fun q=>qxK n q.2
noncomputable def rd3 (k:Nat) (r:XS):Option (R×List (Nat×B)):=r.bind (qdb k)
noncomputable def rd2 (f k:Nat) (bd:Code) (s:S) (o:Option B):Option (R×List (Nat×B)):=o.bind fun b=>rd3 k (XE f k bd (s.up [(k-1,b)]))
noncomputable def rd1 (f k:Nat) (bd:Code) (r:XS):Option (R×List (Nat×B)):=r.bind (qdr Tryz.prog T pol (D1 Tryz.prog T pol) evo Lim f k bd)
section
variable {f k n:Nat} {s:S} {asg bd:Code} {c:Prop} [Decidable c] {x y:XS} {α:Type} {o:Option α} {g:α→XS}
theorem qpb (r:R):rfk n (some (r,s))=qxK n s:=rfl
theorem qqx (g:α→RS):rfk n (o.bind g)=o.bind fun a=>rfk n (g a):=by cases o<;>rfl
theorem qph (p:Exit×S):rd3 k (some p)=qdb k p:=rfl
theorem qqU:rd3 k none=none:=rfl
theorem qsb:rd3 k (if c then x else y)=if c then rd3 k x else rd3 k y:=q2S _ _ _
theorem qwV {asg' bd':Code} (ha:asg'=asg) (hb:bd'=bd) (hk:0<k) (hc:qch (drq pol f) false asg=true∧qch (drq pol f) false bd=true) (tm:List R) (G:List (Nat×B)) :
  evr f asg' bd' k tm G=rd1 f k bd (XE f k asg ⟨q5X tm 0,G,G.length,tm.length⟩):=by
 subst ha hb
 refine(qE9 qcN qow f asg' bd' k tm G).trans ?_
 unfold q7s
 rw[if_pos ⟨hk,hc⟩]
 rfl
end
def wst (q:RS) (d:Option Nat):Option S:=q.bind fun q=>if qfj q.2 d=true then some (q.2.put d q.1) else none
def wsF (q:RS) (s:S) (o:Oper):Option (S×Tx):=q.bind fun q=>if qfj q.2 o.dst=true then(qmu pol s q.2 q.1 o.op).bind fun fp=>some ((q.2.kill fp.ks).put o.dst q.1,(q.1,fp.wb.map fun x=>(x,q.2.blk x)),fp) else none
def cll (q:Option (R×List (Nat×B))) (s:S) (bl rw ln:List Nat):RS:=q.bind fun q=>if quW ln q.1 q.2=true then some (q.1.rn (ren (bl++rw) s.nx),s.aft (bl++rw) bl.length q.2) else none
section
variable {s:S} {o:Oper} {c:Prop} [Decidable c] {α:Type} {v:Option α} {ops l:List Oper} {A:List (List Nat)} {s0:S} {m:Nat} {acc:List Tx}
theorem qqe (r:R) (d:Option Nat):wst (some (r,s)) d=if qfj s d=true then some (s.put d r) else none:=rfl
theorem qpI (d:Option Nat):wst none d=none:=rfl
theorem qsu (x y:RS) (d:Option Nat):wst (if c then x else y) d=if c then wst x d else wst y d:=q2S _ _ _
theorem qqL (g:α→RS) (d:Option Nat):wst (v.bind g) d=v.bind fun a=>wst (g a) d:=by cases v<;>rfl
theorem qpK (r:R) (s':S):wsF (some (r,s')) s o=if qfj s' o.dst=true then(qmu pol s s' r o.op).bind fun fp=>some ((s'.kill fp.ks).put o.dst r,(r,fp.wb.map fun x=>(x,s'.blk x)),fp) else none:=rfl
theorem qpF:wsF none s o=none:=rfl
theorem quk (x y:RS):wsF (if c then x else y) s o=if c then wsF x s o else wsF y s o:=q2S _ _ _
theorem qpa (g:α→RS):wsF (v.bind g) s o=v.bind fun a=>wsF (g a) s o:=by cases v<;>rfl
theorem qpA (r:R) (hp:List (Nat×B)) (bl rw ln:List Nat):cll (some (r,hp)) s bl rw ln=if quW ln r hp=true then some (r.rn (ren (bl++rw) s.nx),s.aft (bl++rw) bl.length hp) else none:=rfl
theorem qqQ (g:α→Option (R×List (Nat×B))) (bl rw ln:List Nat):cll (v.bind g) s bl rw ln=v.bind fun a=>cll (g a) s bl rw ln:=by cases v<;>rfl
end
def ldx (T:Ty) (cs:List C) (off:Nat) (t:TypeId):Option R:=
 match T.k t with
 | .st _ | .arr _ _=>if off+T.sz t≤cs.length then some (.agg ((cs.drop off).take (T.sz t))) else none
 | .other=>none
 | _=>(cs[off]?).map .c
theorem qul (c:C) (cs:List C) (off:Nat) (t:TypeId):ld T (c::cs) off t=ldx T (c::cs) off t:=rfl
section
variable {α:Type} {enc:α→List D} {sz:Nat}
theorem q58 (hsz:∀x,(enc x).length=sz):∀l:List α,(l.flatMap enc).length=l.length*sz
 | []=>by simp
 | x::l=>by rw[List.flatMap_cons,List.length_append,hsz,q58 hsz l,List.length_cons,Nat.add_mul];omega
theorem qgt (hsz:∀x,(enc x).length=sz):∀(l:List α) (k:Nat) (x:α),l[k]?=some x→∃post,(l.flatMap enc).drop (k*sz)=enc x++post
 | [],k,x,h=>by simp at h
 | y::l,0,x,h=>by
  simp only[List.getElem?_cons_zero,Option.some.injEq] at h
  subst h
  exact⟨l.flatMap enc,by simp⟩
 | y::l,k+1,x,h=>by
  obtain⟨post,hp⟩:=qgt hsz l k x (by simpa using h)
  refine⟨post,?_⟩
  rw[List.flatMap_cons,show(k+1)*sz=(enc y).length+k*sz by rw[hsz,Nat.add_mul];omega,List.drop_length_add_append]
  exact hp
theorem qaB (hsz:∀x,(enc x).length=sz) (l:List α) (k fo:Nat) (t:TypeId) (h0:0<T.sz t) (hf:fo+T.sz t≤sz):ld T ((l.flatMap enc).map C.d) (k*sz+fo) t=(l[k]?).bind fun x=>ld T ((enc x).map C.d) fo t:=by
 have hl:=q58 hsz l
 cases hk:l[k]? with
 | none=>
  have hle:l.length≤k:=by simpa using hk
  have hle2:l.length*sz≤k*sz:=Nat.mul_le_mul_right _ hle
  show ld T _ _ t=none
  unfold ld
  split
  ·rw[if_neg (by rw[List.length_map,hl];omega)]
  ·rw[if_neg (by rw[List.length_map,hl];omega)]
  ·rfl
  ·rw[List.getElem?_eq_none (by rw[List.length_map,hl];omega)];rfl
 | some x=>
  obtain⟨post,hp⟩:=qgt hsz l k x hk
  have hx:=hsz x
  have hlen:k*sz+sz≤l.length*sz:=by
   have:k<l.length:=(List.getElem?_eq_some_iff.1 hk).1
   have:=Nat.mul_le_mul_right sz (show k+1≤l.length from this)
   rw[Nat.add_mul] at this;omega
  have hd:∀n,n+fo≤sz→(((l.flatMap enc).map C.d).drop (k*sz+fo)).take n=(((enc x).map C.d).drop fo).take n:=fun n hn=>by
   rw[←List.drop_drop,←List.map_drop,hp,List.map_append,List.drop_append_of_le_length (by simp[hx];omega),List.take_append_of_le_length (by simp[hx];omega)]
  show _=ld T _ fo t
  unfold ld
  split
  ·rw[if_pos (by rw[List.length_map,hl];omega),if_pos (by rw[List.length_map,hx];omega),hd _ (by omega)]
  ·rw[if_pos (by rw[List.length_map,hl];omega),if_pos (by rw[List.length_map,hx];omega),hd _ (by omega)]
  ·rfl
  ·have h1:(((l.flatMap enc).map C.d).drop (k*sz))[fo]?=((enc x).map C.d)[fo]?:=by
    rw[←List.map_drop,hp,List.map_append,List.getElem?_append_left (by simp[hx];omega)]
   rw[List.getElem?_drop] at h1
   rw[h1]
theorem qcA (hsz:∀x,(enc x).length=1) (l:List α) (k:Nat) (t:TypeId) (h:T.sz t=1):ld T ((l.flatMap enc).map C.d) k t=(l[k]?).bind fun x=>ld T ((enc x).map C.d) 0 t:=by
 have:=qaB hsz l k 0 t (by omega) (by omega)
 rwa [Nat.add_zero,Nat.mul_one] at this
theorem qcw (hsz:∀x,(enc x).length=sz) (l:List α) (k:Nat) (t:TypeId) (h0:0<T.sz t) (hf:T.sz t≤sz):ld T ((l.flatMap enc).map C.d) (k*sz) t=(l[k]?).bind fun x=>ld T ((enc x).map C.d) 0 t:=by
 have:=qaB hsz l k 0 t h0 (by omega)
 rwa [Nat.add_zero] at this
end
theorem qvi (i:Nat) (ds:List D):(ds.map C.d).all (C.far i)=true:=by rw[List.all_map];exact List.all_eq_true.2 fun _ _=>rfl
theorem ql9 (ds:List D):(ds.map C.d).all C.known=true:=by rw[List.all_map];exact List.all_eq_true.2 fun _ _=>rfl
theorem qpM (X:List Nat) (ds:List D):(ds.map C.d).all (C.farF X)=true:=by rw[List.all_map];exact List.all_eq_true.2 fun _ _=>rfl
theorem quO (n:Nat) (ds:List D):(ds.map C.d).all (C.ltn n)=true:=by rw[List.all_map];exact List.all_eq_true.2 fun _ _=>rfl
theorem qpH (ds:List D):(ds.map C.d).flatMap C.rows=[]:=by rw[List.flatMap_map];exact List.flatMap_eq_nil_iff.2 fun _ _=>rfl
theorem qwO (b:Builtin) (args:Array Operand) (ts:Array TypeId):(Call.operands { callee := .builtin b,args:=args,argTypes:=ts }).toList=args.toList:=by simp[Call.operands]
theorem qAd (f:Operand) (args:Array Operand) (ts:Array TypeId):(Call.operands { callee := .value f,args:=args,argTypes:=ts }).toList=f::args.toList:=by simp[Call.operands]
theorem qAU (i:Nat) (ds:List D):(ds.map C.d).map (C.fg i)=ds.map C.d:=by rw[List.map_map];rfl
theorem qvt (X:List Nat) (ds:List D):(ds.map C.d).map (C.fgL X)=ds.map C.d:=by rw[List.map_map];rfl
end Go.Proofs.YtgejdfnidjnjcaaGreat.Vc
namespace Go.Proofs.YtgejdfnidjnjcaaGreat.Vc
open Go.RowKit
def ρ0:Pl:=⟨fun _=>none,fun _=>False⟩
def L0:Nat→Prop:=(q3S [] 0).live
theorem qKe (b:Nat):¬ Occ L0 ρ0 b:=fun h=>by
 rcases h with h|⟨i,c,h1,h2⟩
 ·exact h
 ·cases h2
theorem rd0 {W:World} {v:Value} {d:D} (h:RD W (fun _=>False) v d):RD W (Occ L0 ρ0) v d:=h.occ fun b hb=>qKe b hb
theorem qzO {W:World} {v:Value} {d:D} (h:PV W [v] [d]):RR W L0 ρ0 v (.c (.d d)) := .c _ _ (.d _ _ (rd0 (h.2 0 v d rfl rfl)))
theorem qrC {W:World} {cs:Array Value} {ds:List D} (h:PV W cs.toList ds):RR W L0 ρ0 (.agg cs) (.agg (ds.map C.d)):=by
 refine .agg _ _ (by simpa using h.1) (fun j c hj=>?_)
 rw[List.getElem?_map] at hj
 obtain⟨d,h1,h2⟩:=Option.map_eq_some_iff.1 hj
 subst h2
 have hj':j<cs.size:=by have:=(List.getElem?_eq_some_iff.1 h1).1;rw[←h.1] at this;simpa using this
 have h3:cs.toList[j]?=some (cs.getD j undef):=by simp[Array.getD_eq_getD_getElem?,hj']
 exact .d _ _ (rd0 (h.2 j _ d h3 h1))
theorem qpX {f:FuncId} {rs:List R} {b:Bool} (h:ev f 0 rs []=some (.c (.d (.bool b)),[])) {W:World} {vs:Array Value} (hr:RRs W L0 ρ0 vs rs) :
  Calls Tryz.prog f vs W fun e W'=>e = .returned (.bool b)∧Below W.heap.size W W':=by
 have hac:=qDs h
 have hnl:∀i,¬ (q3S [] 0).live i:=fun i h=>by cases h
 have hs:Sim ⟨fun _=>False,W,ρ0,0,none⟩ ρ0 (q3S [] 0) qeQ W:=
  ⟨Hd.none,rfl,fun i => .any _,fun i b c h=>absurd h (hnl i),fun i h=>absurd h (hnl i),fun i b c h=>absurd h (hnl i),fun i j b c c' h=>absurd h (hnl i),fun i h=>absurd h (hnl i),qrK.refl _ _,fun b hb=>hb.elim,fun i hi=>absurd hi (Nat.not_lt_zero _),rfl,fun b hb=>hb.elim⟩
 refine(hac.call ⟨fun _=>False,W,ρ0,0,none⟩ ρ0 W vs rfl rfl rfl rfl hs hr).mono ?_
 rintro e W' ⟨v,r,hp',nx',ρ',rfl,⟨rfl,rfl⟩,h3,h4⟩
 rw[h4.inv_bool]
 exact⟨rfl,h3.kept.os,h3.kept.tape,h3.kept.output,h3.kept.size,fun k hk=>h3.kept.block k hk (fun h=>h)⟩
end Go.Proofs.YtgejdfnidjnjcaaGreat.Vc
namespace Go.Proofs.YtgejdfnidjnjcaaGreat.Vc
open Go.RowKit
set_option maxRecDepth 100000
abbrev w64 (n:Int):Int:=IntKind.i64.wrap n
def q0S:Code→List Code
 | .loop c=>c::q0S c
 | .seq a b=>q0S a++q0S b
 | .cond _ a b=>q0S a++q0S b
 | .block _ c=>q0S c
 | .rangeFunc _ _ a b=>q0S a++q0S b
 | _=>[]
def JK:Code→List (Code×Code)
 | .rangeFunc _ _ a b=>(a,b)::(JK a++JK b)
 | .loop c=>JK c
 | .seq a b=>JK a++JK b
 | .cond _ a b=>JK a++JK b
 | .block _ c=>JK c
 | _=>[]
theorem qcO:∀(c b:Code),b∈q0S c→(∀b'∈q0S b,b'∈q0S c)∧∀q∈JK b,q∈JK c:=by
 intro c
 induction c with
 | loop c ih=>
  intro b hb
  rcases List.mem_cons.1 hb with rfl|hb
  ·exact⟨fun b' h=>List.mem_cons_of_mem _ h,fun q h=>h⟩
  ·exact⟨fun b' h=>List.mem_cons_of_mem _ ((ih b hb).1 b' h),fun q h=>(ih b hb).2 q h⟩
 | seq a c iha ihc=>
  intro b hb
  rcases List.mem_append.1 hb with hb|hb
  ·exact⟨fun b' h=>List.mem_append_left _ ((iha b hb).1 b' h),fun q h=>List.mem_append_left _ ((iha b hb).2 q h)⟩
  ·exact⟨fun b' h=>List.mem_append_right _ ((ihc b hb).1 b' h),fun q h=>List.mem_append_right _ ((ihc b hb).2 q h)⟩
 | cond x a c iha ihc=>
  intro b hb
  rcases List.mem_append.1 hb with hb|hb
  ·exact⟨fun b' h=>List.mem_append_left _ ((iha b hb).1 b' h),fun q h=>List.mem_append_left _ ((iha b hb).2 q h)⟩
  ·exact⟨fun b' h=>List.mem_append_right _ ((ihc b hb).1 b' h),fun q h=>List.mem_append_right _ ((ihc b hb).2 q h)⟩
 | rangeFunc g ps a c iha ihc=>
  intro b hb
  rcases List.mem_append.1 hb with hb|hb
  ·exact⟨fun b' h=>List.mem_append_left _ ((iha b hb).1 b' h),fun q h=>List.mem_cons_of_mem _ (List.mem_append_left _ ((iha b hb).2 q h))⟩
  ·exact⟨fun b' h=>List.mem_append_right _ ((ihc b hb).1 b' h),fun q h=>List.mem_cons_of_mem _ (List.mem_append_right _ ((ihc b hb).2 q h))⟩
 | block id c ih=>intro b hb;exact ih b hb
 | _=>intro b hb;cases hb
theorem q57:∀(c:Code) (q:Code×Code),q∈JK c→(∀b'∈q0S q.1++q0S q.2,b'∈q0S c)∧∀q'∈JK q.1++JK q.2,q'∈JK c:=by
 intro c
 induction c with
 | loop c ih=>intro q hq;exact⟨fun b' h=>List.mem_cons_of_mem _ ((ih q hq).1 b' h),(ih q hq).2⟩
 | seq a c iha ihc=>
  intro q hq
  rcases List.mem_append.1 hq with hq|hq
  ·exact⟨fun b' h=>List.mem_append_left _ ((iha q hq).1 b' h),fun q' h=>List.mem_append_left _ ((iha q hq).2 q' h)⟩
  ·exact⟨fun b' h=>List.mem_append_right _ ((ihc q hq).1 b' h),fun q' h=>List.mem_append_right _ ((ihc q hq).2 q' h)⟩
 | cond x a c iha ihc=>
  intro q hq
  rcases List.mem_append.1 hq with hq|hq
  ·exact⟨fun b' h=>List.mem_append_left _ ((iha q hq).1 b' h),fun q' h=>List.mem_append_left _ ((iha q hq).2 q' h)⟩
  ·exact⟨fun b' h=>List.mem_append_right _ ((ihc q hq).1 b' h),fun q' h=>List.mem_append_right _ ((ihc q hq).2 q' h)⟩
 | rangeFunc g ps a c iha ihc=>
  intro q hq
  rcases List.mem_cons.1 hq with rfl|hq
  ·exact⟨fun b' h=>h,fun q' h=>List.mem_cons_of_mem _ h⟩
  ·rcases List.mem_append.1 hq with hq|hq
   ·exact⟨fun b' h=>List.mem_append_left _ ((iha q hq).1 b' h),fun q' h=>List.mem_cons_of_mem _ (List.mem_append_left _ ((iha q hq).2 q' h))⟩
   ·exact⟨fun b' h=>List.mem_append_right _ ((ihc q hq).1 b' h),fun q' h=>List.mem_cons_of_mem _ (List.mem_append_right _ ((ihc q hq).2 q' h))⟩
 | block id c ih=>intro q hq;exact ih q hq
 | _=>intro q hq;cases hq
noncomputable def q9W (f:Nat):Code:=((qW Tryz.prog pol f).map Bd.code).getD .skip
noncomputable def lbO (f key:Nat):Code:=(zL key (q9W f)).getD .skip
noncomputable def raO (f key:Nat):Code:=((q2B key (q9W f)).getD (.skip,.skip)).1
noncomputable def rbO (f key:Nat):Code:=((q2B key (q9W f)).getD (.skip,.skip)).2
structure okL (f:Nat) (c:Code):Prop where
 lo:∀b∈q0S c,lbO f (Qd b)=b
 ro:∀q∈JK c,raO f (Qd q.2)=q.1∧rbO f (Qd q.2)=q.2
theorem zb {f:Nat} {c:Code} (hc:q9W f=c) (h:(q0S c).map (fun b=>(zL (Qd b) c).getD .skip)=q0S c) (h':(JK c).map (fun q=>(q2B (Qd q.2) c).getD (.skip,.skip))=JK c):okL f c:=by
 refine⟨fun b hb=>?_,fun q hq=>?_⟩
 ·unfold lbO
  rw[hc]
  obtain⟨i,hi,rfl⟩:=List.mem_iff_getElem.1 hb
  have h1:((q0S c).map (fun b=>(zL (Qd b) c).getD .skip))[i]?=(q0S c)[i]?:=by rw[h]
  rw[List.getElem?_map,List.getElem?_eq_getElem hi] at h1
  simpa using h1
 ·unfold raO rbO
  rw[hc]
  obtain⟨i,hi,rfl⟩:=List.mem_iff_getElem.1 hq
  have h1:((JK c).map (fun q=>(q2B (Qd q.2) c).getD (.skip,.skip)))[i]?=(JK c)[i]?:=by rw[h']
  rw[List.getElem?_map,List.getElem?_eq_getElem hi] at h1
  simp only[Option.map_some,Option.some.injEq] at h1
  rw[h1]
  exact⟨rfl,rfl⟩
noncomputable def XEo (E:Orc) (f k:Nat):Code→S→XS:=XD Tryz.prog T pol E (D1 Tryz.prog T pol E f k) Lim f k
noncomputable def XL2 (E:Orc) (f k key:Nat) (s:S):XS:=Lim (fun s=>(XEo E f k (lbO f key) s).bind (lpx pol f key k)) s
def cnd (r:R) (x y:XS):XS:=
 match r with
 | .c (.d (.bool b))=>if b=true then x else y
 | _=>none
noncomputable def XE2 (E:Orc) (f k:Nat):Code→S→XS
 | .skip,s=>some (.normal,s)
 | .label _,s=>some (.normal,s)
 | .ret,s=>some (.ret,s)
 | .exit id,s=>some (.exit id,s)
 | .seq a b,s=>(XE2 E f k a s).bind (sqD fun s'=>XE2 E f k b s')
 | .block id c,s=>(XE2 E f k c s).bind (bkD id)
 | .cond c x y,s=>cnd (s.ev c) (XE2 E f k x (s.ly c tt)) (XE2 E f k y (s.ly c ff))
 | .loop c,s=>(nrm pol f (Qd c) k s).bind fun s0=>XL2 E f k (Qd c) s0
 | .rangeFunc g ps _ b,s=>xRF pol E f g ps.toList (raO f (Qd b)) (rbO f (Qd b)) ((s.dzr pol.q).frz (qbF (s.dzr pol.q) (pol.rk f (Qd b))))
 | c,s=>XEo E f k c s
section
variable {E:Orc} {f k:Nat} {s:S}
theorem qEh (a b:Code):XEo E f k (.seq a b) s=(XEo E f k a s).bind (sqD fun s'=>XEo E f k b s'):=rfl
theorem quU (i:Nat) (b:Code):XEo E f k (.block i b) s=(XEo E f k b s).bind (bkD i):=rfl
theorem qAs (p:Operand) (a b:Code):XEo E f k (.cond p a b) s=cnd (s.ev p) (XEo E f k a (s.ly p tt)) (XEo E f k b (s.ly p ff)):=rfl
theorem qwY (b:Code):XEo E f k (.loop b) s=(nrm pol f (Qd b) k s).bind fun s0=>Lim (fun s=>(XEo E f k b s).bind (lpx pol f (Qd b) k)) s0:=rfl
theorem qwk:XEo E f k .skip s=some (.normal,s):=rfl
theorem qtl (l:Nat):XEo E f k (.label l) s=some (.normal,s):=rfl
theorem qDO:XEo E f k .ret s=some (.ret,s):=rfl
theorem qxq (i:Nat):XEo E f k (.exit i) s=some (.exit i,s):=rfl
theorem qsQ (g:Operand) (ps:Array Tmp) (asg bd:Code):XEo E f k (.rangeFunc g ps asg bd) s=xRF pol E f g ps.toList asg bd ((s.dzr pol.q).frz (qbF (s.dzr pol.q) (pol.rk f (Qd bd)))):=rfl
theorem qD9 (a b:Code):XE2 E f k (.seq a b) s=(XE2 E f k a s).bind (sqD fun s'=>XE2 E f k b s'):=rfl
theorem qsf (i:Nat) (b:Code):XE2 E f k (.block i b) s=(XE2 E f k b s).bind (bkD i):=rfl
theorem qwt (p:Operand) (a b:Code):XE2 E f k (.cond p a b) s=cnd (s.ev p) (XE2 E f k a (s.ly p tt)) (XE2 E f k b (s.ly p ff)):=rfl
theorem qvs (g:Operand) (ps:Array Tmp) (asg bd:Code):XE2 E f k (.rangeFunc g ps asg bd) s=xRF pol E f g ps.toList (raO f (Qd bd)) (rbO f (Qd bd)) ((s.dzr pol.q).frz (qbF (s.dzr pol.q) (pol.rk f (Qd bd)))):=rfl
theorem qwE (b:Code):XE2 E f k (.loop b) s=(nrm pol f (Qd b) k s).bind fun s0=>XL2 E f k (Qd b) s0:=rfl
end
theorem qjk {E:Orc} {f k:Nat}:∀(c:Code),okL f c→∀s,XEo E f k c s=XE2 E f k c s:=by
 intro c
 induction c with
 | seq a b iha ihb=>
  intro h s
  have h1:=iha ⟨fun x hx=>h.lo x (List.mem_append_left _ hx),fun x hx=>h.ro x (List.mem_append_left _ hx)⟩
  have h2:=ihb ⟨fun x hx=>h.lo x (List.mem_append_right _ hx),fun x hx=>h.ro x (List.mem_append_right _ hx)⟩
  rw[qEh,qD9,h1,funext h2]
 | block id c ih=>intro h s;rw[quU,qsf,ih ⟨h.lo,h.ro⟩ s]
 | cond x a b iha ihb=>
  intro h s
  have h1:=iha ⟨fun x hx=>h.lo x (List.mem_append_left _ hx),fun x hx=>h.ro x (List.mem_append_left _ hx)⟩
  have h2:=ihb ⟨fun x hx=>h.lo x (List.mem_append_right _ hx),fun x hx=>h.ro x (List.mem_append_right _ hx)⟩
  rw[qAs,qwt,h1,h2]
 | loop c ih=>
  intro h s
  rw[qwY,qwE]
  unfold XL2
  rw[h.lo c List.mem_cons_self]
 | rangeFunc g ps a b _ _=>
  intro h s
  obtain⟨h1,h2⟩:=h.ro (a,b) List.mem_cons_self
  rw[qsQ,qvs]
  rw[h1,h2]
 | skip=>intro _ s;rw[qwk];rfl
 | label=>intro _ s;rw[qtl];rfl
 | ret=>intro _ s;rw[qDO];rfl
 | exit=>intro _ s;rw[qxq];rfl
 | _=>intro _ s;unfold XE2;rfl
noncomputable def th2 (E:Orc) (f k:Nat) (r:XS) (b:Code):XS:=r.bind (sqD fun s'=>XE2 E f k b s')
noncomputable def lp2 (E:Orc) (f k key:Nat) (o:Option S):XS:=o.bind fun s=>XL2 E f k key s
def lz2 (f k key:Nat) (r:XS):XS:=r.bind (lpx pol f key k)
def ly2 (e:Exit) (o:Option S):XS:=o.bind fun s=>some (e,s)
noncomputable def rs2 (E:Orc) (ops:List Oper) (o:Option S) (l:List Oper):Option S:=o.bind fun s=>xr Tryz.prog T pol E ops l s
noncomputable def qkM (E:Orc) (ops:List Oper) (A:List (List Nat)) (s0:S) (m:Nat) (o:Option (S×Tx)) (l:List Oper) (acc:List Tx):Option S:=o.bind fun q=>xdp Tryz.prog T pol E ops A s0 m l q.1 (acc++[q.2])
section
variable {E:Orc} {f k key:Nat} {s:S} {b:Code} {c:Prop} [Decidable c] {x y:XS} {α β:Type} {o:Option α} {g:α→XS} {h:β→XS} {e:α⊕β}
theorem qtK:XE2 E f k .skip s=some (.normal,s):=rfl
theorem qAo:XE2 E f k .ret s=some (.ret,s):=rfl
theorem qu8 (i:Nat):XE2 E f k (.exit i) s=some (.exit i,s):=rfl
theorem qy4 (a:Code):XE2 E f k (.seq a b) s=th2 E f k (XE2 E f k a s) b:=rfl
theorem qpC (i:Nat):XE2 E f k (.block i b) s=bkk i (XE2 E f k b s):=rfl
theorem quH (p:Operand) (a b:Code):XE2 E f k (.cond p a b) s=match s.ev p with | .c (.d (.bool t))=>if t=true then XE2 E f k a (s.ly p tt) else XE2 E f k b (s.ly p ff)|_=>none:=rfl
theorem qoq (i:Nat) (ops:Array Oper):XE2 E f k (.region i ops false) s=rgn (xr Tryz.prog T pol E ops.toList ops.toList s):=rfl
theorem qsP (i:Nat) (ops:Array Oper):XE2 E f k (.region i ops true) s=rgn (D1 Tryz.prog T pol E f k i ops.toList ((s.dzr pol.q).frz (qbF (s.dzr pol.q) (pol.rk f i)))):=rfl
theorem qps (g:Operand) (ps:Array Tmp) (asg bd:Code):XE2 E f k (.rangeFunc g ps asg bd) s=xRF pol E f g ps.toList (raO f (Qd bd)) (rbO f (Qd bd)) ((s.dzr pol.q).frz (qbF (s.dzr pol.q) (pol.rk f (Qd bd)))):=rfl
theorem qu3:XE2 E f k (.loop b) s=lp2 E f k (Qd b) (nrm pol f (Qd b) k s):=rfl
theorem qkG:th2 E f k (some (.normal,s)) b=XE2 E f k b s:=rfl
theorem qsW:th2 E f k (some (.ret,s)) b=some (.ret,s):=rfl
theorem qqP (i:Nat):th2 E f k (some (.exit i,s)) b=some (.exit i,s):=rfl
theorem qpt:th2 E f k none b=none:=rfl
theorem qv5:th2 E f k (if c then x else y) b=if c then th2 E f k x b else th2 E f k y b:=q2S _ _ _
theorem qqn:th2 E f k (o.bind g) b=o.bind fun a=>th2 E f k (g a) b:=by cases o<;>rfl
theorem qtg:th2 E f k (Sum.elim g h e) b=Sum.elim (fun a=>th2 E f k (g a) b) (fun a=>th2 E f k (h a) b) e:=by cases e<;>rfl
theorem qqB:lp2 E f k key (some s)=XL2 E f k key s:=rfl
theorem qkq:lz2 f k key (some (.normal,s))=ly2 .normal (nrm pol f key k s):=rfl
theorem qtW:lz2 f k key (some (.ret,s))=ly2 .ret (qt5 k (pol.kx f key) (s.fin pol.q)):=rfl
theorem qp5 (i:Nat):lz2 f k key (some (.exit i,s))=ly2 (.exit i) (qt5 k (pol.kx f key) (s.fin pol.q)):=rfl
theorem qqV:lz2 f k key none=none:=rfl
theorem quQ:lz2 f k key (if c then x else y)=if c then lz2 f k key x else lz2 f k key y:=q2S _ _ _
theorem qoZ:lz2 f k key (o.bind g)=o.bind fun a=>lz2 f k key (g a):=by cases o<;>rfl
theorem qsJ:lz2 f k key (Sum.elim g h e)=Sum.elim (fun a=>lz2 f k key (g a)) (fun a=>lz2 f k key (h a)) e:=by cases e<;>rfl
theorem qr4 (x:Exit):ly2 x (some s)=some (x,s):=rfl
theorem quS (i:Nat):bkk i (Sum.elim g h e)=Sum.elim (fun a=>bkk i (g a)) (fun a=>bkk i (h a)) e:=by cases e<;>rfl
theorem qtu (res:List ResultVar) (rt:List TypeId):fnn f k res rt (Sum.elim g h e)=Sum.elim (fun a=>fnn f k res rt (g a)) (fun a=>fnn f k res rt (h a)) e:=by cases e<;>rfl
end
section
variable {E:Orc} {α β γ:Type} {e:α⊕β}
theorem qqu {δ:Type} (g:α→Option γ) (h:β→Option γ) (F:γ→Option δ):(Sum.elim g h e).bind F=Sum.elim (fun a=>(g a).bind F) (fun a=>(h a).bind F) e:=by cases e<;>rfl
theorem qth (g:α→RS) (h:β→RS) (d:Option Nat):wst (Sum.elim g h e) d=Sum.elim (fun a=>wst (g a) d) (fun a=>wst (h a) d) e:=by cases e<;>rfl
theorem qse (g:α→RS) (h:β→RS) (s:S) (o:Oper):wsF (Sum.elim g h e) s o=Sum.elim (fun a=>wsF (g a) s o) (fun a=>wsF (h a) s o) e:=by cases e<;>rfl
theorem qtf (g:α→Option S) (h:β→Option S):rgn (Sum.elim g h e)=Sum.elim (fun a=>rgn (g a)) (fun a=>rgn (h a)) e:=by cases e<;>rfl
theorem qsx {s:S} (g:α→Option (R×List (Nat×B))) (h:β→Option (R×List (Nat×B))) (bl rw ln:List Nat):cll (Sum.elim g h e) s bl rw ln=Sum.elim (fun a=>cll (g a) s bl rw ln) (fun a=>cll (h a) s bl rw ln) e:=by cases e<;>rfl
end
section
variable {E:Orc} {s:S} {o:Oper} {c:Prop} [Decidable c] {α β:Type} {v:Option α} {e:α⊕β} {ops l:List Oper} {A:List (List Nat)} {s0:S} {m:Nat} {acc:List Tx}
theorem qJD:xst Tryz.prog T pol E o true s=wst (xo Tryz.prog T pol E (pre pol s o.op) o.op) o.dst:=rfl
theorem qKj:xst Tryz.prog T pol E o false s=if qfj s o.dst=true then some (s.put o.dst (.tup [])) else none:=rfl
theorem qCS:xsF Tryz.prog T pol E o true s=alX E s o (alC pol s o.op) (wsF (xo Tryz.prog T pol E s o.op) s o):=rfl
theorem qEF:xsF Tryz.prog T pol E o false s=if qfj s o.dst=true then some (s.put o.dst (.tup []),(.tup [],[]),⟨[],[],[],[],[]⟩) else none:=rfl
theorem qCd:xr Tryz.prog T pol E ops [] s=some s:=rfl
theorem qy5:xr Tryz.prog T pol E ops (o::l) s=rs2 E ops (xgd Tryz.prog T pol E ops o s) l:=rfl
theorem qAi:rs2 E ops (some s) l=xr Tryz.prog T pol E ops l s:=rfl
theorem qzt:rs2 E ops none l=none:=rfl
theorem qC9 (x y:Option S):rs2 E ops (if c then x else y) l=if c then rs2 E ops x l else rs2 E ops y l:=q2S _ _ _
theorem qz3 (g:α→Option S):rs2 E ops (v.bind g) l=v.bind fun a=>rs2 E ops (g a) l:=by cases v<;>rfl
theorem qCk (g:α→Option S) (h:β→Option S):rs2 E ops (Sum.elim g h e) l=Sum.elim (fun a=>rs2 E ops (g a) l) (fun a=>rs2 E ops (h a) l) e:=by cases e<;>rfl
theorem qzu:xdp Tryz.prog T pol E ops A s0 0 l s acc=if okP A 0 [] acc=true∧okX ops A s0 acc 0 acc=true∧okK ops A acc=true∧okN acc 0 acc=true then xr Tryz.prog T pol E ops l s else none:=by cases l<;>rfl
theorem qw3:xdp Tryz.prog T pol E ops A s0 (m+1) (o::l) s acc=qkM E ops A s0 m (xgF Tryz.prog T pol E ops o s) l acc:=rfl
theorem qto (x:Tx):qkM E ops A s0 m (some (s,x)) l acc=xdp Tryz.prog T pol E ops A s0 m l s (acc++[x]):=rfl
theorem qvc:qkM E ops A s0 m none l acc=none:=rfl
theorem qzW (x y:Option (S×Tx)):qkM E ops A s0 m (if c then x else y) l acc=if c then qkM E ops A s0 m x l acc else qkM E ops A s0 m y l acc:=q2S _ _ _
theorem qsL (g:α→Option (S×Tx)):qkM E ops A s0 m (v.bind g) l acc=v.bind fun a=>qkM E ops A s0 m (g a) l acc:=by cases v<;>rfl
theorem qxI (g:α→Option (S×Tx)) (h:β→Option (S×Tx)):qkM E ops A s0 m (Sum.elim g h e) l acc=Sum.elim (fun a=>qkM E ops A s0 m (g a) l acc) (fun a=>qkM E ops A s0 m (h a) l acc) e:=by cases e<;>rfl
theorem qw9 (g:FuncId) (zs:List (List Nat)) (rs:List R) (bl rw ln:List Nat):q3m E s g zs rs bl rw ln=(qkJ s (bl++rw) ln zs rs).bind fun rs'=>(cvG s (bl++rw) (bl++rw) 0).bind fun G=>
  if(bl++rw).all (fun i=>(s.blk i).live)=true∧(bl++rw).Nodup∧ln.all (fun i=>(s.blk i).live && !(bl++rw).contains i)=true∧bl.length≤G.length∧(List.range G.length).all (fun j=>(lk G j .dead).isBlk==decide (j<bl.length))=true then cll (E (.fn g) bl.length rs' G) s bl rw ln else none:=rfl
theorem qt4 (rid:Nat) (f:FuncId) (asg bd:Code) (rs:List R) (bl rw ln:List Nat):q98 E s rid f asg bd rs bl rw ln=(cvG s (bl++rw) (bl++rw) 0).bind fun G=>
  if(bl++rw).all (fun i=>(s.blk i).live)=true∧(bl++rw).Nodup∧ln.all (fun i=>(s.blk i).live && !(bl++rw).contains i)=true∧bl.length≤G.length∧(List.range G.length).all (fun j=>(lk G j .dead).isBlk==decide (j<bl.length))=true∧0<bl.length∧(bl++rw)[bl.length-1]?=some rid then
   cll (E (.rd f asg bd) bl.length (rs.map (cvT s (bl++rw) ln)) G) s bl rw ln else none:=rfl
theorem qJn (f:Nat) (asg bd:Code) (g:Operand) (ps:List Nat):xRF pol E f g ps asg bd s=match s.ev g with
 | .c (.fn g' fs caps)=>rfk s.n (qde E (s.rf f (qhw s (pol.rk f (Qd bd))) ps asg bd) g' (pol.ow g') [] (fs.map R.c++[.c (.hd .yield s.nx)]++caps.map R.c))
 | _=>none:=rfl
end
theorem qAf (g k:Nat) (a:List R) (G:List (Nat×B)):evo (.fn g) k a G=ev g k a G:=rfl
theorem qwa (g:Nat) (asg bd:Code) (k:Nat) (a:List R) (G:List (Nat×B)):evo (.rd g asg bd) k a G=evr g asg bd k a G:=rfl
noncomputable def q78 (E:Orc) (f k:Nat) (args:List R) (G:List (Nat×B)):Option (R×List (Nat×B)):=(qW Tryz.prog pol f).bind fun bd=>qbj Tryz.prog T pol (D1 Tryz.prog T pol) E Lim f k args G bd
theorem qh {f n:Nat} {c:Code} {res:List ResultVar} {rt:List TypeId} (hb:qW Tryz.prog pol f=some ⟨c,n,res,rt⟩):q9W f=c:=by unfold q9W;rw[hb];rfl
theorem q1R {E:Orc} {f n:Nat} {c:Code} {res:List ResultVar} {rt:List TypeId} (hb:qW Tryz.prog pol f=some ⟨c,n,res,rt⟩) (hl:okL f c) (k:Nat) (args:List R) (G:List (Nat×B)) :
  q78 E f k args G=if args.length≤n then fnn f k res rt (XE2 E f k c ⟨q5X args 0,G,G.length,n⟩) else none:=by
 unfold q78
 rw[hb,Option.bind_some]
 unfold qbj
 split
 ·show Option.bind (XEo E f k c _) _=_
  rw[qjk c hl]
  rfl
 ·rfl
theorem qoo {f k:Nat} (hp:pol.pr f=none) (args:List R) (G:List (Nat×B)):ev f k args G=q78 evo f k args G:=by rw[qtd,hp];rfl
theorem zc {f n:Nat} {c:Code} {res:List ResultVar} {rt:List TypeId} (hb:qW Tryz.prog pol f=some ⟨c,n,res,rt⟩) (hp:pol.pr f=none) (hl:okL f c) (k:Nat) (args:List R) (G:List (Nat×B)) :
  ev f k args G=if args.length≤n then fnn f k res rt (XE2 evo f k c ⟨q5X args 0,G,G.length,n⟩) else none:=by
 rw[qoo hp,q1R hb hl]
section
variable {σ ε:Type}
def itT (step:σ→Option (σ⊕ε)):Nat→σ→Option ε
 | 0,_=>none
 | n+1,x=>(step x).bind (Sum.elim (itT step n) some)
theorem qfy {step:σ→Option (σ⊕ε)}:∀{n m:Nat},n≤m→∀x r,itT step n x=some r→itT step m x=some r
 | 0,_,_,x,r,h=>by cases h
 | n+1,0,h,_,_,_=>by omega
 | n+1,m+1,h,x,r,hx=>by
  unfold itT at hx ⊢
  obtain⟨a,h1,h2⟩:=Option.bind_eq_some_iff.1 hx
  rw[h1,Option.bind_some]
  cases a with
  | inl y=>exact qfy (by omega) y r h2
  | inr e=>exact h2
noncomputable def qX (step:σ→Option (σ⊕ε)) (x:σ):Option ε:=open Classical in if h:∃r n,itT step n x=some r then some (Classical.choose h) else none
theorem qfz {step:σ→Option (σ⊕ε)} {n:Nat} {x:σ} {r:ε} (h:itT step n x=some r):qX step x=some r:=by
 have hex:∃r n,itT step n x=some r:=⟨r,n,h⟩
 unfold qX
 rw[dif_pos hex]
 obtain⟨m,hm⟩:=Classical.choose_spec hex
 have h1:=qfy (Nat.le_max_left n m) _ _ h
 have h2:=qfy (Nat.le_max_right n m) _ _ hm
 rw[h1] at h2
 injection h2 with h2
 rw[←h2]
theorem qcR {step:σ→Option (σ⊕ε)} {x:σ} {r:ε} (h:qX step x=some r):∃n,itT step n x=some r:=by
 unfold qX at h
 split at h
 ·rename_i hex
  injection h with h
  obtain⟨m,hm⟩:=Classical.choose_spec hex
  exact⟨m,h ▸ hm⟩
 ·cases h
theorem qno (step:σ→Option (σ⊕ε)) (x:σ):qX step x=(step x).bind (Sum.elim (qX step) some):=by
 refine qfp (fun r h=>?_) (fun r h=>?_)
 ·obtain⟨n,hn⟩:=qcR h
  cases n with
  | zero=>cases hn
  | succ n=>
   unfold itT at hn
   obtain⟨a,h1,h2⟩:=Option.bind_eq_some_iff.1 hn
   rw[h1,Option.bind_some]
   cases a with
   | inl y=>exact qfz h2
   | inr e=>exact h2
 ·obtain⟨a,h1,h2⟩:=Option.bind_eq_some_iff.1 h
  cases a with
  | inl y=>
   obtain⟨n,hn⟩:=qcR h2
   refine qfz (n:=n+1) ?_
   unfold itT
   rw[h1];exact hn
  | inr e=>
   refine qfz (n:=1) ?_
   unfold itT
   rw[h1];exact h2
end
theorem qvh {F:S→XS} {σ ε:Type} {st:σ→S} {ex:ε→Exit×S} {step:σ→Option (σ⊕ε)} (hne:∀e,(ex e).1 ≠ .normal)
  (h:∀x,F (st x)=(step x).bind (Sum.elim (fun y=>some (.normal,st y)) (fun e=>some (ex e)))) (x:σ):Lim F (st x)=(qX step x).bind fun e=>some (ex e):=by
 have hit:∀(n:Nat) (x:σ),iter n F (st x)=(itT step n x).bind fun e=>some (ex e):=by
  intro n
  induction n with
  | zero=>intro x;rfl
  | succ n ih=>
   intro x
   unfold iter itT
   rw[h x]
   cases step x with
   | none=>rfl
   | some a=>
    cases a with
    | inl y=>exact ih y
    | inr e=>
     show sqD (iter n F) (ex e)=some (ex e)
     have:=hne e
     generalize ex e=q at this
     obtain⟨z,t⟩:=q
     cases z<;>first|exact absurd rfl this|rfl
 refine qfp (fun r hr=>?_) (fun r hr=>?_)
 ·obtain⟨n,hn⟩:=qja hr
  rw[hit n x] at hn
  obtain⟨e,h1,h2⟩:=Option.bind_eq_some_iff.1 hn
  rw[qfz h1];exact h2
 ·obtain⟨e,h1,h2⟩:=Option.bind_eq_some_iff.1 hr
  obtain⟨n,hn⟩:=qcR h1
  refine qs0 (n:=n) ?_
  rw[hit n x,hn];exact h2
theorem q3T {E:Orc} {f k key:Nat} {c:Code} {σ ε:Type} {st:σ→S} {ex:ε→Exit×S} {step:σ→Option (σ⊕ε)} (hc:lbO f key=c) (hl:okL f c) (hne:∀e,(ex e).1 ≠ .normal)
  (h:∀x,lz2 f k key (XE2 E f k c (st x))=(step x).bind (Sum.elim (fun y=>some (.normal,st y)) (fun e=>some (ex e)))) (x:σ):XL2 E f k key (st x)=(qX step x).bind fun e=>some (ex e):=by
 refine qvh hne (fun x=>?_) x
 rw[hc,qjk c hl]
 exact h x
noncomputable def xk (E:Orc) (f k key:Nat) (r:XS):XS:=r.bind fun p=>match p.1 with | .normal=>XL2 E f k key p.2|e=>some (e,p.2)
section
variable {E:Orc} {f k key:Nat} {s:S} {c:Prop} [Decidable c] {α β:Type} {o:Option α} {g:α→XS} {h:β→XS} {e:α⊕β}
end
theorem QZ {α:Type} {c:Prop} [Decidable c] (x y:α):(if c then some x else some y)=some (if c then x else y):=by split<;>rfl
theorem Q9 {f key:Nat} {c b:Code} (hc:q9W f=c) (h:(zL key c).getD .skip=b):lbO f key=b:=by unfold lbO;rw[hc];exact h
theorem zB {f:Nat} {c b:Code} (hl:okL f c) (hb:b∈q0S c):okL f b:=⟨fun x hx=>hl.lo x ((qcO c b hb).1 x hx),fun q hq=>hl.ro q ((qcO c b hb).2 q hq)⟩
theorem qwB {f key:Nat} {c:Code} {q:Code×Code} (hl:okL f c) (hq:q∈JK c):okL f q.1∧okL f q.2:=
 ⟨⟨fun x hx=>hl.lo x ((q57 c q hq).1 x (List.mem_append_left _ hx)),fun x hx=>hl.ro x ((q57 c q hq).2 x (List.mem_append_left _ hx))⟩,
   ⟨fun x hx=>hl.lo x ((q57 c q hq).1 x (List.mem_append_right _ hx)),fun x hx=>hl.ro x ((q57 c q hq).2 x (List.mem_append_right _ hx))⟩⟩
noncomputable def rn2 (f k key:Nat) (o:Option B) (s:S):Option (R×List (Nat×B)):=o.bind fun b=>rd3 k (XE2 evo f k (rbO f key) (s.up [(k-1,b)]))
noncomputable def rn1 (f k key:Nat) (r:XS):Option (R×List (Nat×B)):=r.bind fun p=>match p.1 with | .normal=>rn2 f k key (rdB (p.2.blk (k-1))) p.2|_=>none
section
variable {f k key:Nat} {s:S} {c:Prop} [Decidable c] {α β:Type} {o:Option α} {g:α→XS} {h:β→XS} {e:α⊕β}
theorem qk4:rn1 f k key (some (.normal,s))=rn2 f k key (rdB (s.blk (k-1))) s:=rfl
theorem qpn (b:B):rn2 f k key (some b) s=rd3 k (XE2 evo f k (rbO f key) (s.up [(k-1,b)])):=rfl
theorem quC {n:Nat} (g:α→RS) (h:β→RS):rfk n (Sum.elim g h e)=Sum.elim (fun a=>rfk n (g a)) (fun a=>rfk n (h a)) e:=by cases e<;>rfl
end
theorem qm0 {f key k:Nat} {asg bd:Code} (ha:raO f key=asg) (hb:rbO f key=bd) (hk:0<k) (hc:qch (drq pol f) false asg=true∧qch (drq pol f) false bd=true) (la:okL f asg) (lb:okL f bd) (tm:List R) (G:List (Nat×B)) :
  evr f (raO f key) (rbO f key) k tm G=rn1 f k key (XE2 evo f k (raO f key) ⟨q5X tm 0,G,G.length,tm.length⟩):=by
 rw[qwV ha hb hk hc tm G,ha]
 have e1:∀s,XE f k asg s=XE2 evo f k asg s:=fun s=>qjk asg la s
 have e2:∀s,XE f k bd s=XE2 evo f k bd s:=fun s=>qjk bd lb s
 rw[e1]
 unfold rd1 rn1
 congr 1
 funext p
 obtain⟨x,t⟩:=p
 cases x<;>first
  | rfl
  | (show rd2 f k bd t (rdB (t.blk (k-1)))=rn2 f k key (rdB (t.blk (k-1))) t
     unfold rd2 rn2
     rw[hb]
     congr 1
     funext b
     rw[e2])
theorem qxy {f key:Nat} {c b:Code} (hc:q9W f=c) (h:((q2B key c).getD (.skip,.skip)).1=b):raO f key=b:=by unfold raO;rw[hc];exact h
theorem qyq {f key:Nat} {c b:Code} (hc:q9W f=c) (h:((q2B key c).getD (.skip,.skip)).2=b):rbO f key=b:=by unfold rbO;rw[hc];exact h
section
variable {σ ε:Type} (f k:Nat) (enc:σ→List R×List (Nat×B)) (ex:ε→R×List (Nat×B))
noncomputable def ovr (F:σ→Option ε):Orc:=fun g k' args G=>open Classical in if h:(g = .fn f∧k'=k)∧∃y,enc y=(args,G) then(F (Classical.choose h.2)).bind fun e=>some (ex e) else evo g k' args G
noncomputable def q5W (y:σ):Option ε:=open Classical in if h:∃e,ev f k (enc y).1 (enc y).2=some (ex e) then some (Classical.choose h) else none
variable {f k enc ex}
theorem qtI (hi:∀y z,enc y=enc z→y=z) (F:σ→Option ε) (y:σ):ovr f k enc ex F (.fn f) k (enc y).1 (enc y).2=(F y).bind fun e=>some (ex e):=by
 have h:((Fx.fn f=Fx.fn f)∧k=k)∧∃z,enc z=((enc y).1,(enc y).2):=⟨⟨rfl,rfl⟩,y,rfl⟩
 unfold ovr
 rw[dif_pos h]
 rw[hi _ _ ((Classical.choose_spec h.2).trans rfl)]
theorem qpc (F:σ→Option ε) (g k':Nat) (a:List R) (G:List (Nat×B)) (h:g≠f):ovr f k enc ex F (.fn g) k' a G=ev g k' a G:=by
 unfold ovr
 rw[dif_neg (fun h'=>h (by injection h'.1.1))]
 rfl
theorem qx3 (F:σ→Option ε) (g:Nat) (asg bd:Code) (k':Nat) (a:List R) (G:List (Nat×B)):ovr f k enc ex F (.rd g asg bd) k' a G=evr g asg bd k' a G:=by
 unfold ovr
 rw[dif_neg (fun h'=>by cases h'.1.1)]
 rfl
def q4u (f k:Nat) (enc:σ→List R×List (Nat×B)) (ex:ε→R×List (Nat×B)) (step:(σ→Option ε)→σ→Option ε):Prop:=
 ∀(E:Orc) (F:σ→Option ε),(∀y,E (.fn f) k (enc y).1 (enc y).2=(F y).bind fun e=>some (ex e))→(∀g k' a G,g≠f→E (.fn g) k' a G=ev g k' a G)→(∀g asg bd k' a G,E (.rd g asg bd) k' a G=evr g asg bd k' a G)→
  ∀y,q78 E f k (enc y).1 (enc y).2=(step F y).bind fun e=>some (ex e)
theorem qkl {E E':Orc} (h:OLe E E') (L:(S→XS)→S→XS) (hL:LLe L Lim) {f k:Nat} {args:List R} {G:List (Nat×B)} {bd:Bd} {x:R×List (Nat×B)} (hb:qW Tryz.prog pol f=some bd) (hx:qbj Tryz.prog T pol (D1 Tryz.prog T pol) E L f k args G bd=some x):q78 E' f k args G=some x:=by
 unfold q78
 rw[hb,Option.bind_some]
 exact qeP qcN h hL hx
theorem qvu (hp:pol.pr f=none) (hi:∀y z,enc y=enc z→y=z) {step:(σ→Option ε)→σ→Option ε} (hs:q4u f k enc ex step) :
  ∀(n:Nat) (y:σ) (z:R×List (Nat×B)),xf Tryz.prog T pol (D1 Tryz.prog T pol) n (.fn f) k (enc y).1 (enc y).2=some z→∃e,z=ex e:=by
 intro n
 induction n with
 | zero=>intro y z h;cases h
 | succ n ih=>
  intro y z h
  obtain⟨F,hF⟩:∃F:σ→Option ε,∀y z,xf Tryz.prog T pol (D1 Tryz.prog T pol) n (.fn f) k (enc y).1 (enc y).2=some z→(F y).bind (fun e=>some (ex e))=some z:=by
   refine⟨fun y=>open Classical in if h:∃e,xf Tryz.prog T pol (D1 Tryz.prog T pol) n (.fn f) k (enc y).1 (enc y).2=some (ex e) then some (Classical.choose h) else none,fun y z hz=>?_⟩
   obtain⟨e,rfl⟩:=ih y z hz
   have hex:∃e,xf Tryz.prog T pol (D1 Tryz.prog T pol) n (.fn f) k (enc y).1 (enc y).2=some (ex e):=⟨e,hz⟩
   simp only[dif_pos hex,Option.bind_some]
   rw[←Classical.choose_spec hex,hz]
  have hle:OLe (xf Tryz.prog T pol (D1 Tryz.prog T pol) n) (ovr f k enc ex F):=by
   intro g k' args G x hx
   unfold ovr
   split
   ·rename_i hh
    obtain⟨⟨rfl,rfl⟩,hy⟩:=hh
    have e1:=Classical.choose_spec hy
    refine hF _ _ ?_
    rw[e1];exact hx
   ·exact qjT qcN _ _ _ _ _ hx
  have h2:∃bd,qW Tryz.prog pol f=some bd∧qbj Tryz.prog T pol (D1 Tryz.prog T pol) (xf Tryz.prog T pol (D1 Tryz.prog T pol) n) (iter n) f k (enc y).1 (enc y).2 bd=some z:=by
   have h3:fnx Tryz.prog T pol (D1 Tryz.prog T pol) (xf Tryz.prog T pol (D1 Tryz.prog T pol) n) (iter n) f k (enc y).1 (enc y).2=some z:=h
   unfold fnx at h3
   rw[hp] at h3
   exact Option.bind_eq_some_iff.1 h3
  obtain⟨bd,hb,hx⟩:=h2
  have h4:=qkl hle (iter n) (qh3 n) hb hx
  rw[hs _ F (qtI hi F) (qpc F) (qx3 F) y] at h4
  obtain⟨e,-,h5⟩:=Option.bind_eq_some_iff.1 h4
  injection h5 with h5
  exact⟨e,h5.symm⟩
theorem q56 (hp:pol.pr f=none) (hi:∀y z,enc y=enc z→y=z) {step:(σ→Option ε)→σ→Option ε} (hs:q4u f k enc ex step) (y:σ):ev f k (enc y).1 (enc y).2=(q5W f k enc ex y).bind fun e=>some (ex e):=by
 unfold q5W
 split
 ·rename_i h
  rw[Option.bind_some]
  exact Classical.choose_spec h
 ·rename_i h
  cases hv:ev f k (enc y).1 (enc y).2 with
  | none=>rfl
  | some z=>
   obtain⟨n,hn⟩:=qb0 (show EE Tryz.prog T pol (D1 Tryz.prog T pol) (.fn f) k (enc y).1 (enc y).2=some z from hv)
   obtain⟨e,rfl⟩:=qvu hp hi hs n y z hn
   exact absurd ⟨e,hv⟩ h
theorem q6D (hp:pol.pr f=none) (hi:∀y z,enc y=enc z→y=z) (hj:∀d e,ex d=ex e→d=e) {step:(σ→Option ε)→σ→Option ε} (hs:q4u f k enc ex step) (y:σ):q5W f k enc ex y=step (q5W f k enc ex) y:=by
 have h1:=hs evo (q5W f k enc ex) (q56 hp hi hs) (fun _ _ _ _ _=>rfl) (fun _ _ _ _ _ _=>rfl) y
 rw[←qoo hp,q56 hp hi hs y] at h1
 cases h2:q5W f k enc ex y with
 | none=>
  rw[h2] at h1
  cases h3:step (q5W f k enc ex) y with
  | none=>rfl
  | some e=>rw[h3] at h1;cases h1
 | some d=>
  rw[h2] at h1
  cases h3:step (q5W f k enc ex) y with
  | none=>rw[h3] at h1;cases h1
  | some e=>
   rw[h3] at h1
   injection h1 with h1
   rw[hj _ _ h1]
end
end Go.Proofs.YtgejdfnidjnjcaaGreat.Vc
namespace Go.Proofs.YtgejdfnidjnjcaaGreat.Vc
open Go.RowKit
section
variable {α:Type} {E:α→List D} {n:Nat}
theorem qi7 (h:∀x,(E x).length=n):∀(v:List α) (a:Nat),(v.flatMap E).drop (a*n)=(v.drop a).flatMap E
 | [],a=>by simp
 | x::v,0=>by simp
 | x::v,a+1=>by
  rw[List.flatMap_cons,show(a+1)*n=(E x).length+a*n by rw[h,Nat.add_mul];omega,List.drop_length_add_append]
  exact qi7 h v a
theorem qfe (h:∀x,(E x).length=n):∀(v:List α) (a:Nat),(v.flatMap E).take (a*n)=(v.take a).flatMap E
 | [],a=>by simp
 | x::v,0=>by simp
 | x::v,a+1=>by
  rw[List.flatMap_cons,show(a+1)*n=(E x).length+a*n by rw[h,Nat.add_mul];omega,List.take_length_add_append,List.take_succ_cons,List.flatMap_cons,qfe h v a]
theorem qfv (v:List α) (x:α):(v.flatMap E).map C.d++(E x).map C.d=((v++[x]).flatMap E).map C.d:=by simp
theorem qoz {β:Type}:∀(ys p q:List β) (o:Nat),o+ys.length≤p.length→spl (p++q) o ys=spl p o ys++q
 | [],p,q,o,_=>rfl
 | y::ys,p,q,o,h=>by
  rw[List.length_cons] at h
  rw[spl,spl,List.set_append_left _ _ (by omega),qoz ys _ q (o+1) (by rw[List.length_set];omega)]
theorem qj6 {β:Type}:∀(ys p q:List β) (o:Nat),spl (p++q) (p.length+o) ys=p++spl q o ys
 | [],p,q,o=>rfl
 | y::ys,p,q,o=>by
  rw[spl,spl,List.set_append_right _ _ (by omega),show p.length+o-p.length=o by omega,show p.length+o+1=p.length+(o+1) by omega,qj6 ys]
theorem qjR {β:Type}:∀(ys p pre:List β),p.length=ys.length→spl (pre++p) pre.length ys=pre++ys
 | [],p,pre,h=>by rw[List.eq_nil_of_length_eq_zero h];rfl
 | y::ys,[],pre,h=>by cases h
 | y::ys,x::p,pre,h=>by
  have e:(pre++x::p).set pre.length y=(pre++[y])++p:=by rw[List.set_append_right _ _ (Nat.le_refl _),Nat.sub_self];simp
  rw[spl,e,show pre.length+1=(pre++[y]).length by simp,qjR ys p _ (by simpa using h)]
  simp
theorem qlF {β:Type}:∀(ys:List β) (o:Nat),spl [] o ys=[]
 | [],o=>rfl
 | y::ys,o=>by rw[spl,List.set_nil,qlF ys]
theorem qnX (h:∀x,(E x).length=n):∀(v:List α) (i:Nat) (x:α),spl (v.flatMap E) (i*n) (E x)=(v.set i x).flatMap E
 | [],i,x=>by rw[List.flatMap_nil,qlF];rfl
 | y::v,0,x=>by
  rw[List.flatMap_cons,Nat.zero_mul,qoz _ _ _ _ (by rw[h,h];omega)]
  have:=qjR (E x) (E y) [] (by rw[h,h])
  simp only[List.nil_append,List.length_nil] at this
  rw[this];rfl
 | y::v,i+1,x=>by
  rw[List.flatMap_cons,show(i+1)*n=(E y).length+i*n by rw[h,Nat.add_mul];omega,qj6,qnX h v i x]
  rfl
theorem qhB {β γ:Type} (f:β→γ):∀(ys cs:List β) (o:Nat),spl (cs.map f) o (ys.map f)=(spl cs o ys).map f
 | [],cs,o=>rfl
 | y::ys,cs,o=>by rw[List.map_cons,spl,spl,←List.map_set,qhB f ys]
theorem qff (h:∀x,(E x).length=n) (v:List α) (i:Nat) (x:α):spl ((v.flatMap E).map C.d) (i*n) ((E x).map C.d)=((v.set i x).flatMap E).map C.d:=by rw[qhB,qnX h]
theorem qlN {β:Type}:∀(ys zs cs:List β) (o:Nat),spl cs o (ys++zs)=spl (spl cs o ys) (o+ys.length) zs
 | [],zs,cs,o=>rfl
 | y::ys,zs,cs,o=>by rw[List.cons_append,spl,spl,qlN ys,List.length_cons,show o+1+ys.length=o+(ys.length+1) by omega]
theorem qnN (h:∀x,(E x).length=n):∀(w v:List α) (i:Nat),spl (v.flatMap E) (i*n) (w.flatMap E)=(spl v i w).flatMap E
 | [],v,i=>rfl
 | x::w,v,i=>by rw[List.flatMap_cons,qlN,qnX h,h,spl,show i*n+n=(i+1)*n by rw[Nat.add_mul];omega,qnN h w]
theorem qwg (m:Nat) (x:α):(List.replicate m (E x)).flatten=(List.replicate m x).flatMap E:=by
 rw[List.flatMap_def,List.map_replicate]
theorem qnm {cs:List C} (x:α) (hx:cs=(E x).map C.d) (m:Nat):(List.replicate m cs).flatten=((List.replicate m x).flatMap E).map C.d:=by
 subst hx
 rw[←qwg,List.map_flatten,List.map_replicate]
end
theorem q1t {α:Type} {E:α→List D} {n:Nat} (h:∀x,(E x).length=n) (hn:0<n) (hi:∀x y,E x=E y→x=y):∀(v w:List α),v.flatMap E=w.flatMap E→v=w
 | [],[],_=>rfl
 | [],y::w,e=>by
  have:=congrArg List.length e
  rw[List.flatMap_cons,List.length_append,h] at this
  simp at this;omega
 | x::v,[],e=>by
  have:=congrArg List.length e
  rw[List.flatMap_cons,List.length_append,h] at this
  simp at this;omega
 | x::v,y::w,e=>by
  rw[List.flatMap_cons,List.flatMap_cons] at e
  obtain⟨h1,h2⟩:=List.append_inj e (by rw[h,h])
  rw[hi x y h1,q1t h hn hi v w h2]
theorem ZR (a b:List D):(a.map C.d=b.map C.d)=(a=b):=by
 refine propext ⟨fun h=>?_,fun h=>by rw[h]⟩
 induction a generalizing b with
 | nil=>cases b with|nil=>rfl|cons=>cases h
 | cons x a ih=>
  cases b with
  | nil=>cases h
  | cons y b=>
   rw[List.map_cons,List.map_cons] at h
   injection h with h1 h2
   injection h1 with h1
   rw[h1,ih b h2]
def eI (x:Int):List D:=[.int .i64 x]
def eB (x:Bool):List D:=[.bool x]
def eS (x:ByteArray):List D:=[.str x]
def eU8 (x:Int):List D:=[.int .u8 x]
def eL {α:Type} (n:Nat) (E:α→List D) (v:List α):List D:=[.sl n v.length (v.flatMap E)]
theorem qn1 {α β γ:Type} (f:β→γ) (o:Option α) (g:α→Option β):(o.bind g).map f=o.bind fun x=>(g x).map f:=by cases o<;>rfl
theorem qqZ {α β:Type} {c:Prop} [Decidable c] (f:α→β) (x y:Option α):(if c then x else y).map f=if c then x.map f else y.map f:=by split<;>rfl
theorem qvg (P:Program) (T:Ty) (d:Nat) (t:TypeId) (x y:R):eqR P T (d+1) t x y =
  match T.k t,x,y with
  | .int _,.c (.d (.int k a)),.c (.d (.int k' b))=>if k=k' then some (a==b) else none
  | .bool,.c (.d (.bool a)),.c (.d (.bool b))=>some (a==b)
  | .str,.c (.d (.str a)),.c (.d (.str b))=>some (a.toList==b.toList)
  | .st fs,.agg xs,.agg ys=>if qgU P t=true then qt8 T (eqR P T d) xs ys fs else none
  | _,_,_=>none:=by
 generalize hk:T.k t=kd
 unfold eqR
 rw[hk]
 cases kd<;>first
  | rfl
  | (rcases x with (c|_|_|_)<;>first
    | rfl
    | (rcases y with (c' | _|_|_)<;>first
      | rfl
      | (cases c<;>first
        | rfl
        | (cases c'<;>first
          | rfl
          | (rename_i d1 d2;cases d1<;>first
            | rfl
            | (cases d2<;>rfl))))))
section
variable {α β:Type} {c:Prop} [Decidable c] (a b:List α)
theorem qsU (f:α→Bool):(if c then a else b).any f=if c then a.any f else b.any f:=by split<;>rfl
theorem qt2 (f:α→β):(if c then a else b).map f=if c then a.map f else b.map f:=by split<;>rfl
theorem qhA:(if c then a else b).isEmpty=if c then a.isEmpty else b.isEmpty:=by split<;>rfl
theorem qgm [BEq α] (x:α):(if c then a else b).contains x=if c then a.contains x else b.contains x:=by split<;>rfl
end
def qB4 (op:UnOp) (r:R) (s:S):RS:=
 match op,r with
 | .not,.c (.d (.bool b))=>some (.c (.d (.bool (!b))),s)
 | .neg,.c (.d (.int k n))=>some (.c (.d (.int k (k.wrap (0-n)))),s)
 | _,_=>none
theorem qyy (s:S) (op:UnOp) (x:Operand):xUn s op x=qB4 op (s.ev x) s:=by
 unfold xUn qB4
 generalize s.ev x=r
 cases op<;>first
  | rfl
  | (cases r with
     | c c=>cases c with
      | d d=>cases d<;>rfl
      | _=>rfl
     | _=>rfl)
def lkq (ok:Bool) (z:R):Option (Nat×R×Nat)→Option R
 | some q=>some (tt2 q.2.1 ok true)
 | none=>some (tt2 z ok false)
theorem qtL {c:Prop} [Decidable c] (ok:Bool) (z:R) (x y:Option (Nat×R×Nat)):lkq ok z (if c then x else y)=if c then lkq ok z x else lkq ok z y:=by split<;>rfl
theorem qkw (T:Ty) (s:S) (t:TypeId) (x y:Operand) (ok:Bool):q7c T s t x y ok =
  match T.k t,qa1 s x,(s.ev y).key with
  | .mp k e,some es,some kv=>if plK (T.k k) kv=true∧es.all (fun q=>plK (T.k k) q.1)=true then(zR T e).bind fun z=>lkq ok z (fnd kv es 0) else none
  | _,_,_=>none:=by
 unfold q7c
 generalize T.k t=kd
 generalize qa1 s x=m
 generalize (s.ev y).key=v
 cases kd<;>first
  | rfl
  | (cases m<;>first
    | rfl
    | (cases v<;>first
      | rfl
      | (simp only
         split
         ·congr 1
          funext z
          cases fnd _ _ _<;>rfl
         ·rfl)))
theorem qmV (xs ys:List C):(xs++ys).flatMap C.rows=xs.flatMap C.rows++ys.flatMap C.rows:=List.flatMap_append
theorem qqK (f:C→C) (ds:List D) (ys:List C):(ds.map C.d++ys).map f=(ds.map C.d).map f++ys.map f:=List.map_append
theorem qnS (zs0:List Nat):∀(zs:List Nat) (ds:List D) (ys:List C),zs.length=ds.length→dzc zs0 zs (ds.map C.d++ys)=ds.map C.d++dzc zs0 [] ys
 | [],[],ys,_=>rfl
 | [],d::ds,ys,h=>by cases h
 | z::zs,[],ys,h=>by cases h
 | z::zs,d::ds,ys,h=>by
  rw[List.map_cons,List.cons_append,dzc,qnS zs0 zs ds ys (by simpa using h)]
  rfl
theorem qrv {α:Type} {E:α→List D} {n:Nat} (h:∀x,(E x).length=n+1) (zs0:List Nat) (h0:zs0.length=n+1):∀(v:List α) (ys:List C),dzc zs0 [] ((v.flatMap E).map C.d++ys)=(v.flatMap E).map C.d++dzc zs0 [] ys
 | [],ys=>rfl
 | x::v,ys=>by
  have hx:=h x
  rw[List.flatMap_cons,List.map_append,List.append_assoc,List.append_assoc,←qrv h zs0 h0 v ys]
  cases hE:E x with
  | nil=>rw[hE] at hx;cases hx
  | cons d ds=>
   rw[hE] at hx
   rw[List.map_cons,List.cons_append,dzc,qnS zs0 zs0.tail ds _ (by rw[List.length_tail];simp at hx;omega)]
   rfl
def qBb {α:Type} (a b:Option α):Prop:=∀r,a=some r→b=some r
theorem qBb.bind {α β:Type} {a b:Option α} {f g:α→Option β} (h:qBb a b) (hf:∀x,qBb (f x) (g x)):qBb (a.bind f) (b.bind g):=fun r hr=>by
 obtain⟨x,h1,h2⟩:=Option.bind_eq_some_iff.1 hr
 rw[h x h1]
 exact hf x r h2
def spr (cs:List C) (o:Nat) (ys:List C):List C:=spl cs o ys
theorem qmJ (t:TypeId) (cs ys:List C) (o:Nat):(B.blk t cs).set o ys = .blk t (spl cs o ys):=rfl
theorem ql7 (e:TypeId) (sz:Nat) (cs ys:List C) (o:Nat):(B.row e sz cs).set o ys = .row e sz (spr cs o ys):=rfl
def xsl (T:Ty) (s:S) (t:TypeId) (x:R) (lo hi:Option Operand):RS:=
 match x,T.k t with
 | .c (.d (.str b)),.str=>
  match s.bd lo 0,s.bd hi b.size with
  | some l,some h=>if 0≤l∧l≤h∧h≤b.size then some (.c (.d (.str (b.extract l.toNat h.toNat))),s) else none
  | _,_=>none
 | .c (.d (.sl sz n cs)),.sl e=>
  if T.k e ≠ .other∧T.sz e=sz then
   match s.bd lo 0,s.bd hi n with
   | some l,some h=>if 0≤l∧l≤h∧h≤n then some (.c (.d (.sl sz (h.toNat-l.toNat) ((cs.drop (l.toNat*sz)).take ((h.toNat-l.toNat)*sz)))),s) else none
   | _,_=>none
  else none
 | .c (.own id sz off n),.sl e=>
  if T.k e ≠ .other∧T.sz e=sz then
   match s.bd lo 0,s.bd hi n with
   | some l,some h=>if 0≤l∧l≤h∧h≤n then(if l=0∨l<n then some (.c (.own id sz (off+l.toNat) (h.toNat-l.toNat)),s) else some (.c (.d (.sl sz 0 [])),s)) else none
   | _,_=>none
  else none
 | .c .nils,.sl e=>
  if T.k e ≠ .other then
   match s.bd lo 0,s.bd hi 0 with
   | some l,some h=>if l=0∧h=0 then some (.c .nils,s) else none
   | _,_=>none
  else none
 | _,_=>none
theorem qmd (T:Ty) (s:S) (t:TypeId) (x:Operand) (lo hi:Option Operand):qgy T s t x lo hi none=xsl T s t (s.ev x) lo hi:=by
 unfold qgy xsl
 generalize s.ev x=r
 generalize T.k t=kd
 cases r with
 | c c=>
  cases c with
  | d d=>cases d<;>cases kd<;>rfl
  | _=>cases kd<;>rfl
 | _=>rfl
section
variable {T:Ty} {s:S} {t:TypeId} {lo hi:Option Operand}
theorem qtw {b:ByteArray} (hk:T.k t = .str):xsl T s t (.c (.d (.str b))) lo hi =
  match s.bd lo 0,s.bd hi b.size with
  | some l,some h=>if 0≤l∧l≤h∧h≤b.size then some (.c (.d (.str (b.extract l.toNat h.toNat))),s) else none
  | _,_=>none:=by unfold xsl;rw[hk]
theorem quV {id sz off n:Nat}:xsl T s t (.c (.own id sz off n)) none hi =
  match T.k t with
  | .sl e=>if T.k e ≠ .other∧T.sz e=sz then
   match s.bd hi n with
   | some h=>if 0≤h∧h≤n then some (.c (.own id sz off (min h.toNat n)),s) else none
   | _=>none
   else none
  | _=>none:=by
 unfold xsl
 cases T.k t<;>try rfl
 dsimp only[S.bd]
 split
 ·split
  ·rename_i l h h1 h2
   injection h1 with h1
   subst h1
   rw[h2]
   dsimp only
   by_cases hc:0≤h∧h≤n
   ·rw[if_pos ⟨Int.le_refl _,hc⟩,if_pos (.inl rfl),if_pos hc,show min h.toNat n=h.toNat by omega]
    rfl
   ·rw[if_neg (fun q=>hc q.2),if_neg hc]
  ·rename_i h1
   split
   ·rename_i h h2
    exact absurd h2 (h1 0 h rfl)
   ·rfl
 ·rfl
theorem qvz {id sz off n:Nat} {lo:Operand}:xsl T s t (.c (.own id sz off n)) (some lo) hi =
  match T.k t with
  | .sl e=>if T.k e ≠ .other∧T.sz e=sz then
   match s.bd (some lo) 0,s.bd hi n with
   | some l,some h=>if 0≤l∧l≤h∧h≤n then(if l=0∨l<n then some (.c (.own id sz (off+l.toNat) (h.toNat-l.toNat)),s) else some (.c (.d (.sl sz 0 [])),s)) else none
   | _,_=>none
   else none
  | _=>none:=by unfold xsl;cases T.k t<;>rfl
end
def qz2 {α:Type} (s:S) (E:α→List D) (n:Nat) (v:List α) (l h:Option Int):RS:=
 match l,h with
 | some l,some h=>if 0≤l∧l≤h∧h≤v.length then some (.c (.d (.sl n ((v.drop l.toNat).take (h.toNat-l.toNat)).length (((v.drop l.toNat).take (h.toNat-l.toNat)).flatMap E))),s) else none
 | _,_=>none
theorem qs5 {α:Type} {E:α→List D} {n:Nat} (h:∀x,(E x).length=n) {T:Ty} {s:S} {t e:TypeId} (v:List α) (lo hi:Option Operand) (hk:T.k t = .sl e) (hz:T.sz e=n) (ho:T.k e ≠ .other) :
  xsl T s t (.c (.d (.sl n v.length (v.flatMap E)))) lo hi=qz2 s E n v (s.bd lo 0) (s.bd hi v.length):=by
 unfold xsl
 simp only[hk]
 rw[if_pos ⟨ho,hz⟩]
 unfold qz2
 cases s.bd lo 0 with
 | none=>rfl
 | some l=>
  cases s.bd hi v.length with
  | none=>rfl
  | some h'=>
   simp only
   split
   ·rename_i hc
    rw[qi7 h,qfe h,List.length_take,List.length_drop,Nat.min_eq_left (by omega)]
   ·rfl
abbrev dI (n:Int):C:=C.d (D.int .i64 n)
abbrev dS (s:ByteArray):C:=C.d (D.str s)
abbrev dB (b:Bool):C:=C.d (D.bool b)
abbrev dL {α:Type} (n:Nat) (E:α→List D) (v:List α):C:=C.d (D.sl n v.length (v.flatMap E))
abbrev dO (i sz n:Nat):C:=C.own i sz 0 n
abbrev dP (i:Nat):C:=C.ptr i 0
abbrev rI (n:Int):R:=R.c (C.d (D.int .i64 n))
abbrev rS (s:ByteArray):R:=R.c (C.d (D.str s))
abbrev rB (b:Bool):R:=R.c (C.d (D.bool b))
abbrev rL {α:Type} (n:Nat) (E:α→List D) (v:List α):R:=R.c (C.d (D.sl n v.length (v.flatMap E)))
abbrev rO (i sz n:Nat):R:=R.c (C.own i sz 0 n)
abbrev rP (i:Nat):R:=R.c (C.ptr i 0)
abbrev bR {α:Type} (e sz:Nat) (E:α→List D) (v:List α):B:=B.row e sz ((v.flatMap E).map C.d)
theorem XLs {E:Orc} {f k key:Nat} {c:Code} {σ ε:Type} {st:σ→S} {ex:ε→XS} {step:σ→Option (σ⊕ε)} (hc:lbO f key=c) (hl:okL f c) (hne:∀e,∃p,ex e=some p∧p.1 ≠ .normal)
  (h:∀x,lz2 f k key (XE2 E f k c (st x))=(step x).bind (Sum.elim (fun y=>some (.normal,st y)) ex)) (x:σ):XL2 E f k key (st x)=(qX step x).bind ex:=by
 obtain⟨g,hg⟩:∃g:ε→Exit×S,∀e,ex e=some (g e)∧(g e).1 ≠ .normal:=⟨fun e=>Classical.choose (hne e),fun e=>Classical.choose_spec (hne e)⟩
 obtain rfl:ex=fun e=>some (g e):=funext fun e=>(hg e).1
 exact q3T (ex:=g) hc hl (fun e=>(hg e).2) h x
theorem qaQ {E:Orc} {f k key:Nat} {c:Code} {A1 ε:Type} {st:A1→S} {ex:ε→XS} {step:A1→Option ((A1)⊕ε)} (hc:lbO f key=c) (hl:okL f c) (hne:∀e,∃p,ex e=some p∧p.1 ≠ .normal)
  (h:∀a1,lz2 f k key (XE2 E f k c (st a1))=(step a1).bind (Sum.elim (fun y=>some (.normal,st y)) ex)) (a1:A1):XL2 E f k key (st a1)=(qX step a1).bind ex:=
 XLs (st:=fun y=>st y) hc hl hne (fun a1=>h a1) a1
theorem q6v {E:Orc} {f k key:Nat} {c:Code} {A1 A2 ε:Type} {st:A1→A2→S} {ex:ε→XS} {step:(A1×A2)→Option ((A1×A2)⊕ε)} (hc:lbO f key=c) (hl:okL f c) (hne:∀e,∃p,ex e=some p∧p.1 ≠ .normal)
  (h:∀a1 a2,lz2 f k key (XE2 E f k c (st a1 a2))=(step (a1,a2)).bind (Sum.elim (fun y=>some (.normal,st y.1 y.2)) ex)) (a1:A1) (a2:A2):XL2 E f k key (st a1 a2)=(qX step (a1,a2)).bind ex:=
 XLs (st:=fun y=>st y.1 y.2) hc hl hne (fun⟨a1,a2⟩=>h a1 a2) (a1,a2)
theorem qEu {E:Orc} {f k key:Nat} {c:Code} {A1 A2 A3 ε:Type} {st:A1→A2→A3→S} {ex:ε→XS} {step:(A1×A2×A3)→Option ((A1×A2×A3)⊕ε)} (hc:lbO f key=c) (hl:okL f c) (hne:∀e,∃p,ex e=some p∧p.1 ≠ .normal)
  (h:∀a1 a2 a3,lz2 f k key (XE2 E f k c (st a1 a2 a3))=(step (a1,a2,a3)).bind (Sum.elim (fun y=>some (.normal,st y.1 y.2.1 y.2.2)) ex)) (a1:A1) (a2:A2) (a3:A3):XL2 E f k key (st a1 a2 a3)=(qX step (a1,a2,a3)).bind ex:=
 XLs (st:=fun y=>st y.1 y.2.1 y.2.2) hc hl hne (fun⟨a1,a2,a3⟩=>h a1 a2 a3) (a1,a2,a3)
theorem qAK {E:Orc} {f k key:Nat} {c:Code} {A1 A2 A3 A4 ε:Type} {st:A1→A2→A3→A4→S} {ex:ε→XS} {step:(A1×A2×A3×A4)→Option ((A1×A2×A3×A4)⊕ε)} (hc:lbO f key=c) (hl:okL f c) (hne:∀e,∃p,ex e=some p∧p.1 ≠ .normal)
  (h:∀a1 a2 a3 a4,lz2 f k key (XE2 E f k c (st a1 a2 a3 a4))=(step (a1,a2,a3,a4)).bind (Sum.elim (fun y=>some (.normal,st y.1 y.2.1 y.2.2.1 y.2.2.2)) ex)) (a1:A1) (a2:A2) (a3:A3) (a4:A4):XL2 E f k key (st a1 a2 a3 a4)=(qX step (a1,a2,a3,a4)).bind ex:=
 XLs (st:=fun y=>st y.1 y.2.1 y.2.2.1 y.2.2.2) hc hl hne (fun⟨a1,a2,a3,a4⟩=>h a1 a2 a3 a4) (a1,a2,a3,a4)
theorem qJf {E:Orc} {f k key:Nat} {c:Code} {A1 A2 A3 A4 A5 A6 A7 ε:Type} {st:A1→A2→A3→A4→A5→A6→A7→S} {ex:ε→XS} {step:(A1×A2×A3×A4×A5×A6×A7)→Option ((A1×A2×A3×A4×A5×A6×A7)⊕ε)} (hc:lbO f key=c) (hl:okL f c) (hne:∀e,∃p,ex e=some p∧p.1 ≠ .normal)
  (h:∀a1 a2 a3 a4 a5 a6 a7,lz2 f k key (XE2 E f k c (st a1 a2 a3 a4 a5 a6 a7))=(step (a1,a2,a3,a4,a5,a6,a7)).bind (Sum.elim (fun y=>some (.normal,st y.1 y.2.1 y.2.2.1 y.2.2.2.1 y.2.2.2.2.1 y.2.2.2.2.2.1 y.2.2.2.2.2.2)) ex)) (a1:A1) (a2:A2) (a3:A3) (a4:A4) (a5:A5) (a6:A6) (a7:A7):XL2 E f k key (st a1 a2 a3 a4 a5 a6 a7)=(qX step (a1,a2,a3,a4,a5,a6,a7)).bind ex:=
 XLs (st:=fun y=>st y.1 y.2.1 y.2.2.1 y.2.2.2.1 y.2.2.2.2.1 y.2.2.2.2.2.1 y.2.2.2.2.2.2) hc hl hne (fun⟨a1,a2,a3,a4,a5,a6,a7⟩=>h a1 a2 a3 a4 a5 a6 a7) (a1,a2,a3,a4,a5,a6,a7)
theorem qHk {E:Orc} {f k key:Nat} {c:Code} {A1 A2 A3 A4 A5 A6 A7 A8 ε:Type} {st:A1→A2→A3→A4→A5→A6→A7→A8→S} {ex:ε→XS} {step:(A1×A2×A3×A4×A5×A6×A7×A8)→Option ((A1×A2×A3×A4×A5×A6×A7×A8)⊕ε)} (hc:lbO f key=c) (hl:okL f c) (hne:∀e,∃p,ex e=some p∧p.1 ≠ .normal)
  (h:∀a1 a2 a3 a4 a5 a6 a7 a8,lz2 f k key (XE2 E f k c (st a1 a2 a3 a4 a5 a6 a7 a8))=(step (a1,a2,a3,a4,a5,a6,a7,a8)).bind (Sum.elim (fun y=>some (.normal,st y.1 y.2.1 y.2.2.1 y.2.2.2.1 y.2.2.2.2.1 y.2.2.2.2.2.1 y.2.2.2.2.2.2.1 y.2.2.2.2.2.2.2)) ex)) (a1:A1) (a2:A2) (a3:A3) (a4:A4) (a5:A5) (a6:A6) (a7:A7) (a8:A8):XL2 E f k key (st a1 a2 a3 a4 a5 a6 a7 a8)=(qX step (a1,a2,a3,a4,a5,a6,a7,a8)).bind ex:=
 XLs (st:=fun y=>st y.1 y.2.1 y.2.2.1 y.2.2.2.1 y.2.2.2.2.1 y.2.2.2.2.2.1 y.2.2.2.2.2.2.1 y.2.2.2.2.2.2.2) hc hl hne (fun⟨a1,a2,a3,a4,a5,a6,a7,a8⟩=>h a1 a2 a3 a4 a5 a6 a7 a8) (a1,a2,a3,a4,a5,a6,a7,a8)
abbrev aY6:List R:=[R.any,R.any,R.any,R.any,R.any,R.any]
abbrev qJW:List R:=R.any::R.any::R.any::R.any::aY6
abbrev qJ0:List R:=R.any::R.any::R.any::R.any::qJW
abbrev qJF:List R:=R.any::R.any::R.any::R.any::qJ0
abbrev q8U:List R:=R.any::R.any::R.any::R.any::qJF
def dzU (Q:TypeId→List Nat):B→B
 | .row e sz cs => .row e sz (dzc (Q e) [] cs)
 | b=>b
theorem qxz (z:Nat) {c:C} (h:c.isNils=false):dz z c=c:=by
 cases c<;>first|rfl|cases h
theorem qfZ (zs0:List Nat):∀{cs:List C} (zs:List Nat),cs.any C.isNils=false→dzc zs0 zs cs=cs
 | [],zs,_=>by cases zs<;>rfl
 | c::cs,zs,h=>by
  rw[List.any_cons,Bool.or_eq_false_iff] at h
  cases zs with
  | nil=>rw[dzc,qxz _ h.1,qfZ zs0 _ h.2]
  | cons z zs=>rw[dzc,qxz _ h.1,qfZ zs0 _ h.2]
theorem qCi (Q:TypeId→List Nat) (b:B):dzB Q b=dzU Q b:=by
 cases b with
 | row e sz cs=>
  unfold dzB dzU
  simp only
  split
  ·rfl
  ·rename_i h
   rw[qfZ _ _ (by simpa using h)]
 | _=>rfl
theorem qxt (Q:TypeId→List Nat) (b:B) (h:b.nilr=false):dzU Q b=b:=by
 cases b with
 | row e sz cs=>unfold dzU;simp only;rw[qfZ _ _ h]
 | _=>rfl
theorem qzC (tm:List (Nat×R)) (hp:List (Nat×B)) (nx n:Nat) (Q:TypeId→List Nat):S.dzr (S.mk tm hp nx n) Q=S.mk tm (hp.map fun x=>(x.1,dzU Q x.2)) nx n:=by
 unfold S.dzr
 split
 ·simp only[qCi]
 ·rename_i h
  congr 1
  have h2:∀x∈hp,x.2.nilr=false:=fun x hx=>by
   cases hb:x.2.nilr with
   | false=>rfl
   | true=>exact absurd (List.any_eq_true.2 ⟨x,hx,hb⟩) h
  refine(List.map_id' hp).symm.trans (List.map_congr_left fun x hx=>?_)
  rw[qxt Q x.2 (h2 x hx)]
theorem qtk (Q:TypeId→List Nat) (e sz:Nat) (cs:List C):dzU Q (.row e sz cs) = .row e sz (dzc (Q e) [] cs):=rfl
theorem qtQ (Q:TypeId→List Nat) (t:Nat) (cs:List C):dzU Q (.blk t cs) = .blk t cs:=rfl
theorem qys (Q:TypeId→List Nat) (o:AO):dzU Q (.ob o) = .ob o:=rfl
theorem qqA (Q:TypeId→List Nat):dzU Q .dead = .dead:=rfl
theorem qtD {α:Type} (x:α):Option.toArray (some x)=[x].toArray:=rfl
theorem quM {α:Type}:Option.toArray (none:Option α)=([]:List α).toArray:=rfl
theorem qAP {α:Type} (l m:List α):l.toArray++m.toArray=(l++m).toArray:=by simp
theorem qv6 {α:Type} (l:List α):Array.toList l.toArray=l:=rfl
end Go.Proofs.YtgejdfnidjnjcaaGreat.Vc
namespace Go.Proofs.YtgejdfnidjnjcaaGreat.Vc
open Go.RowKit
section
variable {κ ν:Type} [DecidableEq κ]
end
section
variable {κ ν:Type} {kE:κ→Value} {vE:ν→R}
variable [DecidableEq κ] (hk:∀a b,kq (kE a) (kE b)=decide (a=b))
include hk
end
section
variable {κ ν:Type} {kE:κ→Value} {vE:ν→R} [DecidableEq κ]
end
def mpq:B→Option (List (Value×R×Nat))
 | .ob (.mp es _)=>some es
 | _=>none
def mpo (s:S):R→Option (List (Value×R×Nat))
 | .c .nilm=>some []
 | .c (.hd .map id)=>mpq (s.blk id)
 | _=>none
theorem qpL (s:S) (x:Operand):qa1 s x=mpo s (s.ev x):=by
 unfold qa1 mpo mpq
 generalize s.ev x=r
 cases r with
 | c c=>
  cases c with
  | hd k id=>cases k<;>rfl
  | _=>rfl
 | _=>rfl
theorem qvX (es:List (Value×R×Nat)) (ck:Nat):mpq (.ob (.mp es ck))=some es:=rfl
def mup (kt:Kd) (kv:Value) (r:R):B→Option B
 | .ob (.mp es ck)=>if plK kt kv=true∧es.all (fun q=>plK kt q.1)=true then
   (match fnd kv es 0 with
    | some q=>some (.ob (.mp (es.set q.1 (kv,r,q.2.2)) ck))
    | none=>some (.ob (.mp (es++[(kv,r,ck)]) (ck+1)))) else none
 | _=>none
def xmu (T:Ty) (s:S) (t:TypeId) (m:R) (kv:Option Value) (r:R):Option (R×S):=
 match T.k t,m,kv with
 | .mp kt _,.c (.hd .map id),some kv=>(mup (T.k kt) kv r (s.blk id)).bind fun b=>some (.any,s.up [(id,b)])
 | _,_,_=>none
theorem qw5 (T:Ty) (s:S) (t:TypeId) (m:R) (kv:Option Value) (r:R):xmu T s t m kv r =
 match T.k t,m,kv with
 | .mp kt _,.c (.hd .map id),some kv=>(mup (T.k kt) kv r (s.blk id)).bind fun b=>some (.any,s.up [(id,b)])
 | _,_,_=>none:=rfl
theorem qko (T:Ty) (s:S) (t:TypeId) (m k x:Operand):q7z T s t m k x=xmu T s t (s.ev m) (s.ev k).key (s.ev x):=by
 unfold q7z xmu mup
 generalize T.k t=kd
 generalize s.ev m=r
 generalize (s.ev k).key=kv
 cases kd with
 | mp kt e=>
  cases r with
  | c c=>
   cases c with
   | hd h id=>
    cases h with
    | map=>
     cases kv with
     | none=>rfl
     | some kv=>
      simp only
      generalize s.blk id=b
      cases b with
      | ob o=>
       cases o with
       | mp es ck=>
        simp only
        split
        ·cases fnd kv es 0<;>rfl
        ·rfl
       | _=>rfl
      | _=>rfl
    | _=>rfl
   | _=>rfl
  | _=>rfl
 | _=>rfl
section
variable {κ ν:Type} {kE:κ→Value} {vE:ν→R} [DecidableEq κ] (hk:∀a b,kq (kE a) (kE b)=decide (a=b)) {kt:Kd} (hp:∀a,plK kt (kE a)=true)
include hk hp
end
end Go.Proofs.YtgejdfnidjnjcaaGreat.Vc
namespace Go.Proofs.YtgejdfnidjnjcaaGreat.Vc
open Go.RowKit
def bx0:=JA_ @S.strip.eq_1 (JA_ @q8G.eq_1 (JA_ @q8G.eq_2 (JA_ @qvH.eq_1 (JA_ @qvH.eq_2 (JA_ @R.isA.eq_1 (JA_ @R.isA.eq_2 (JA_ @qG5.eq_1 (JA_ @qBJ.eq_1 (JA_ @qlM.eq_1 (JA_ @qnw.eq_1 (JA_ @S.ly.eq_1 (JA_ @alC.eq_1 (JA_ @alC.eq_2 (JA_ @alX.eq_1 (JA_ @alX.eq_2 (JA_ @qH8.eq_1 (JA_ @qzh.eq_1 (JA_ @qBI.eq_1 (JA_ @ipX.eq_1 (JA_ @qBL.eq_1 (JA_ @qBL.eq_2 (JA_ @qiw.eq_1 (JA_ @qrH.eq_2 (JA_ @zmk.eq_1 (JA_ @zmk.eq_2 (JA_ @S.fin.eq_1 (JA_ @S.fn1.eq_1 (JA_ @S.inr.eq_1 (JA_ @prx.eq_1 (JA_ @pr0.eq_1 (JA_ @List.isEmpty_nil.{0} (JA_ @List.isEmpty_cons.{0} (@wbC.eq_1)))))))))))))))))))))))))))))))))
def bx1:=JA_ @wbC.eq_2 (JA_ @B.beq.eq_1 (JA_ @C.beqL.eq_1 (JA_ @C.beqL.eq_2 (JA_ @C.beq0.eq_1 (JA_ @D.beq.eq_1 (JA_ @D.beq.eq_4 (JA_ @D.beq_self (JA_ @qE3.eq_1 (JA_ @dzc.eq_2 (JA_ @dzc.eq_3 (JA_ @C.isNils.eq_2 (JA_ @qpo (JA_ @q8N.eq_1 (@qbB.eq_1))))))))))))))
def bx2:=JA_ @qbB.eq_2 (JA_ @qp9.eq_1 (JA_ @fpA.eq_1 (JA_ @qkz.eq_1 (JA_ @S.kill.eq_1 (JA_ @qst.eq_1 (JA_ @qst.eq_2 (JA_ @qle.eq_1 (JA_ @qAM.eq_1 (JA_ @okX.eq_1 (JA_ @okX.eq_2 (JA_ @okK.eq_1 (JA_ @okN.eq_1 (JA_ @okN.eq_2 (JA_ @qbn.eq_1 (JA_ @qui.eq_1 (JA_ @qui.eq_2 (JA_ @qvI.eq_1 (JA_ @qvI.eq_2 (JA_ @q9B.eq_1 (JA_ @qkS.eq_1 (JA_ @q6z.eq_1 (JA_ @qmh.eq_1 (JA_ @q9V.eq_1 (JA_ @q7e.eq_1 (JA_ @qeR.eq_1 (JA_ @qbY.eq_1 (JA_ @qbY.eq_2 (JA_ @cvT.eq_1 (JA_ @qhw.eq_1 (JA_ @qbF.eq_1 (JA_ @qxK.eq_1 (JA_ @qq7.eq_1 (JA_ @qq7.eq_2 (@S.rf.eq_1))))))))))))))))))))))))))))))))))
def bx3:=JA_ @S.rfx.eq_1 (JA_ @qyx.eq_1 (JA_ @rdB.eq_1 (JA_ @qm7.eq_1 (JA_ @qm7.eq_2 (JA_ @qdb.eq_1 (JA_ @qpb (JA_ @qqx (JA_ @qph (JA_ @qqU (JA_ @qsb (JA_ @qcS.eq_1 (JA_ @qmW.eq_1 (JA_ @qoc.eq_1 (JA_ @D.key.eq_1 (JA_ @R.key.eq_1 (JA_ @plK.eq_1 (JA_ @zR.eq_1 (@tt2.eq_1))))))))))))))))))
def bx4:=JA_ @fnd.eq_1 (JA_ @fnd.eq_2 (JA_ @kq.eq_1 (JA_ @B.isOb.eq_2 (JA_ @AO.mapR.eq_1 (JA_ @AO.mapR.eq_2 (JA_ @AO.mapR.eq_3 (JA_ @AO.Rs.eq_1 (JA_ @AO.Rs.eq_2 (JA_ @AO.Rs.eq_3 (JA_ @R.refs0.eq_1 (JA_ @R.refs0.eq_2 (JA_ @R.refs0.eq_3 (JA_ @cvA.eq_2 (JA_ @qs3.eq_1 (JA_ @xgd.eq_1 (JA_ @xgF.eq_1 (JA_ @xo.eq_1 (JA_ @xo.eq_2 (JA_ @xo.eq_3 (JA_ @xo.eq_4 (JA_ @xo.eq_5 (JA_ @xo.eq_6 (JA_ @xo.eq_7 (JA_ @xo.eq_8 (JA_ @xo.eq_9 (JA_ @xo.eq_10 (JA_ @xo.eq_11 (JA_ @xo.eq_12 (@xo.eq_14)))))))))))))))))))))))))))))
def bx5:=JA_ @xo.eq_15 (JA_ @xo.eq_16 (JA_ @xo.eq_17 (JA_ @xo.eq_18 (JA_ @xo.eq_19 (JA_ @xo.eq_20 (JA_ @xo.eq_21 (JA_ @xo.eq_22 (JA_ @xo.eq_23 (JA_ @xo.eq_24 (JA_ @xo.eq_26 (JA_ @xo.eq_29 (JA_ @xo.eq_30 (JA_ @xCl.eq_1 (JA_ @pre.eq_1 (JA_ @pre.eq_2 (JA_ @pre.eq_3 (JA_ @qd3.eq_1 (JA_ @q55.eq_1 (JA_ @qde.eq_1 (JA_ @qir.eq_1 (JA_ @qhn.eq_1 (JA_ @q7x.eq_1 (JA_ @q67.eq_2 (JA_ @q67.eq_3 (JA_ @qDp.eq_1 (JA_ @qkJ.eq_1 (JA_ @qkJ.eq_2 (JA_ @cvR.eq_1 (JA_ @cvR.eq_2 (JA_ @cvR.eq_3 (JA_ @cvL.eq_1 (JA_ @cvL.eq_2 (@qoM.eq_1)))))))))))))))))))))))))))))))))
def bx6:=JA_ @qoM.eq_2 (JA_ @cv.eq_1 (JA_ @cv.eq_2 (JA_ @cv0.eq_1 (JA_ @cv0.eq_5 (JA_ @cv0.eq_8 (JA_ @cv0.eq_9 (JA_ @cv0.eq_10 (JA_ @cvG.eq_1 (JA_ @cvG.eq_2 (JA_ @cvB.eq_1 (JA_ @cvB.eq_2 (JA_ @cvB.eq_3 (JA_ @vis.eq_1 (JA_ @qft.eq_1 (JA_ @qft.eq_2 (JA_ @q7A (JA_ @quW.eq_1 (JA_ @pos.eq_1 (JA_ @pos.eq_2 (JA_ @qqR.eq_1 (JA_ @qpg.eq_1 (JA_ @qj3.eq_1 (JA_ @qBe.eq_1 (JA_ @q8B.eq_1 (JA_ @q80.eq_1 (JA_ @q88.eq_1 (JA_ @qcG.eq_1 (JA_ @qak.eq_1 (JA_ @qfX.eq_1 (@qfX.eq_2))))))))))))))))))))))))))))))
def bx7:=JA_ @qfX.eq_3 (JA_ @qfX.eq_4 (JA_ @qfX.eq_5 (JA_ @qfX.eq_6 (JA_ @qfX.eq_9 (JA_ @qfX.eq_10 (JA_ @qfX.eq_11 (JA_ @qfX.eq_12 (JA_ @qfX.eq_13 (JA_ @qfX.eq_14 (JA_ @qfX.eq_15 (JA_ @qfX.eq_16 (JA_ @qfX.eq_17 (JA_ @qvM.eq_3 (JA_ @qvM.eq_4 (JA_ @qvM.eq_6 (JA_ @qwC.eq_1 (JA_ @qwC.eq_2 (JA_ @qBr.eq_1 (JA_ @qBc.eq_1 (JA_ @qBM.eq_1 (JA_ @qB5.eq_1 (@qBF.eq_1))))))))))))))))))))))
def bx8:=JA_ @qji.eq_1 (JA_ @qis.eq_1 (JA_ @qiP.eq_1 (JA_ @q3q.eq_1 (JA_ @qa2.eq_1 (JA_ @qhL.eq_1 (JA_ @q9d.eq_1 (JA_ @Kd.isSl.eq_1 (JA_ @nrm.eq_1 (JA_ @qt5.eq_1 (JA_ @qE5.eq_1 (JA_ @rng.eq_1 (JA_ @rng.eq_2 (JA_ @rwAll.eq_1 (JA_ @rwAll.eq_2 (JA_ @rw1.eq_1 (JA_ @rw1.eq_2 (JA_ @cn.eq_1 (JA_ @cn.eq_2 (JA_ @cn0.eq_1 (JA_ @cn0.eq_2 (JA_ @cn0.eq_3 (JA_ @cn0.eq_5 (JA_ @cnR.eq_2 (JA_ @qoP.eq_1 (JA_ @qoP.eq_2 (JA_ @qoP.eq_3 (JA_ @cnB.eq_1 (JA_ @cnB.eq_2 (JA_ @cnB.eq_3 (JA_ @cnH.eq_1 (JA_ @cnH.eq_2 (@qy6))))))))))))))))))))))))))))))))
def bx9:=JA_ @Qd.eq_1 (JA_ @Qd.eq_2 (JA_ @Qd.eq_3 (JA_ @qxC.eq_1 (JA_ @qky.eq_1 (JA_ @qep.eq_1 (JA_ @qkA.eq_1 (JA_ @qe8.eq_1 (JA_ @qi2.eq_1 (JA_ @qeb.eq_1 (JA_ @qeb.eq_2 (JA_ @S.frz.eq_1 (JA_ @S.frz.eq_2 (JA_ @S.frz1.eq_1 (JA_ @fz.eq_1 (JA_ @fz.eq_2 (JA_ @fz0.eq_1 (JA_ @fz0.eq_2 (JA_ @fz0.eq_3 (JA_ @fz0.eq_5 (JA_ @fzR.eq_1 (JA_ @fzR.eq_2 (JA_ @qoS.eq_1 (JA_ @qoS.eq_2 (JA_ @qoS.eq_3 (JA_ @fzB.eq_1 (JA_ @fzB.eq_2 (JA_ @fzB.eq_3 (JA_ @fzB.eq_4 (JA_ @qzM (JA_ @dz.eq_1 (JA_ @dz.eq_2 (JA_ @dzL.eq_1 (JA_ @dzL.eq_2 (JA_ @dzR.eq_1 (@dzR.eq_2)))))))))))))))))))))))))))))))))))
def qJj:=JA_ @qk3.eq_1 (JA_ @qk3.eq_2 (JA_ @one.eq_1 (JA_ @one.eq_2 (JA_ @rvs.eq_1 (JA_ @rvs.eq_2 (JA_ @qsi.eq_1 (JA_ @qsi.eq_2 (JA_ @tt.eq_1 (JA_ @ff.eq_1 (JA_ @qfj.eq_1 (JA_ @qfj.eq_2 (JA_ @C.ref0.eq_1 (JA_ @C.ref0.eq_2 (JA_ @C.ref0.eq_3 (JA_ @C.ref0.eq_4 (JA_ @C.refs.eq_1 (JA_ @C.refs.eq_2 (JA_ @B.refs.eq_1 (JA_ @B.refs.eq_2 (JA_ @B.refs.eq_3 (JA_ @B.refs.eq_4 (JA_ @R.refs.eq_1 (JA_ @R.refs.eq_2 (JA_ @R.refs.eq_4 (JA_ @C.rows0.eq_1 (JA_ @C.rows0.eq_2 (JA_ @C.rows.eq_1 (JA_ @C.rows.eq_2 (JA_ @R.rows.eq_1 (JA_ @R.rows.eq_2 (JA_ @R.rows.eq_3 (JA_ @C.ptrs0.eq_1 (JA_ @C.ptrs0.eq_2 (JA_ @C.ptrs0.eq_3 (JA_ @C.ptrs.eq_1 (JA_ @C.ptrs.eq_2 (JA_ @R.ptrs.eq_1 (@R.ptrs.eq_2))))))))))))))))))))))))))))))))))))))
def qIu:=JA_ @R.ptrs.eq_3 (JA_ @B.isBlk.eq_1 (JA_ @B.isBlk.eq_2 (JA_ @B.isBlk.eq_3 (JA_ @R.scl.eq_1 (JA_ @R.scl.eq_2 (JA_ @R.scl0.eq_1 (JA_ @R.scl0.eq_2 (JA_ @R.scl0.eq_3 (JA_ @C.scl.eq_1 (JA_ @C.scl.eq_2 (JA_ @C.scl0.eq_1 (JA_ @C.scl0.eq_4 (JA_ @B.scl.eq_1 (JA_ @B.scl.eq_2 (JA_ @B.scl.eq_3 (JA_ @C.dat.eq_1 (JA_ @C.dat.eq_2 (JA_ @C.dat0.eq_1 (JA_ @C.dat0.eq_5 (JA_ @C.dat0.eq_8 (JA_ @ren.eq_1 (JA_ @R.rn.eq_1 (JA_ @R.rn.eq_2 (JA_ @R.rn0.eq_1 (JA_ @R.rn0.eq_2 (JA_ @R.rn0.eq_3 (JA_ @C.rn.eq_1 (JA_ @C.rn.eq_2 (JA_ @C.rn0.eq_1 (JA_ @C.rn0.eq_2 (@C.rn0.eq_3)))))))))))))))))))))))))))))))
def qIp:=JA_ @C.rn0.eq_5 (JA_ @B.rn.eq_1 (JA_ @B.rn.eq_2 (JA_ @B.rn.eq_3 (JA_ @qAp (JA_ @S.aft.eq_1 (JA_ @S.fgL.eq_1 (JA_ @S.fgL.eq_2 (JA_ @C.fgL.eq_1 (JA_ @C.fgL.eq_2 (JA_ @C.fgL.eq_3 (JA_ @C.fgL.eq_4 (JA_ @C.fgL.eq_5 (JA_ @R.fgL.eq_1 (JA_ @R.fgL.eq_2 (JA_ @R.fgL.eq_3 (JA_ @R.fgL.eq_4 (JA_ @B.fgL.eq_1 (JA_ @B.fgL.eq_2 (JA_ @B.fgL.eq_3 (JA_ @B.fgL.eq_4 (JA_ @C.farL.eq_1 (JA_ @C.farL.eq_3 (JA_ @C.farL.eq_5 (JA_ @R.farL.eq_1 (JA_ @R.farL.eq_2 (JA_ @R.farL.eq_3 (JA_ @R.farL.eq_4 (JA_ @B.farL.eq_1 (JA_ @B.farL.eq_2 (JA_ @B.farL.eq_3 (JA_ @qvN.eq_1 (JA_ @qvN.eq_2 (JA_ @qvN.eq_3 (@qt8.eq_1))))))))))))))))))))))))))))))))))
def qJO:=JA_ @qt8.eq_2 (JA_ @S.ev.eq_1 (JA_ @S.ev.eq_2 (JA_ @S.ev.eq_3 (JA_ @S.get.eq_1 (JA_ @S.blk.eq_1 (JA_ @S.put.eq_1 (JA_ @S.put.eq_2 (JA_ @S.up.eq_1 (JA_ @S.bd.eq_1 (JA_ @S.bd.eq_2 (JA_ @S.seq.eq_1 (JA_ @S.cell1.eq_1 (JA_ @lk.eq_1 (JA_ @lk.eq_2 (JA_ @q62.eq_1 (JA_ @q62.eq_2 (JA_ @q62.eq_3 (JA_ @q62.eq_5 (JA_ @q62.eq_6 (JA_ @q62.eq_7 (JA_ @q5X.eq_1 (JA_ @q5X.eq_2 (JA_ @qul (JA_ @ldx.eq_1 (JA_ @bld.eq_1 (JA_ @bld.eq_2 (JA_ @spl.eq_1 (JA_ @spl.eq_2 (JA_ @q3p.eq_1 (JA_ @Ty.foff.eq_1 (JA_ @R.cells.eq_1 (JA_ @R.cells.eq_2 (JA_ @R.parts.eq_1 (@R.parts.eq_2))))))))))))))))))))))))))))))))))
def qIk:=JA_ @B.cells.eq_1 (JA_ @B.cells.eq_2 (JA_ @B.live.eq_1 (JA_ @B.live.eq_2 (JA_ @C.known.eq_2 (JA_ @C.far.eq_1 (JA_ @C.far.eq_5 (JA_ @S.fg.eq_1 (JA_ @R.fg.eq_1 (JA_ @R.fg.eq_2 (JA_ @R.fg.eq_3 (JA_ @R.fg.eq_4 (JA_ @B.fg.eq_1 (JA_ @B.fg.eq_2 (JA_ @B.fg.eq_3 (JA_ @B.fg.eq_4 (JA_ @C.fg.eq_1 (JA_ @C.fg.eq_3 (JA_ @C.fg.eq_4 (JA_ @C.fg.eq_5 (JA_ @D1.eq_1 (JA_ @q5s.eq_1 (JA_ @q5s.eq_2 (JA_ @q5s.eq_3 (JA_ @q5s.eq_4 (JA_ @q5s.eq_6 (JA_ @q5s.eq_7 (JA_ @q5s.eq_8 (JA_ @q5s.eq_9 (JA_ @q5s.eq_10 (@q5s.eq_11))))))))))))))))))))))))))))))
def qI1:=JA_ @q5s.eq_13 (JA_ @q5s.eq_14 (JA_ @q5s.eq_15 (JA_ @q5s.eq_17 (JA_ @q5s.eq_19 (JA_ @q5s.eq_23 (JA_ @q5s.eq_24 (JA_ @qoO.eq_1 (JA_ @qoO.eq_4 (JA_ @qoO.eq_5 (JA_ @qdA.eq_3 (JA_ @qdA.eq_5 (JA_ @qdA.eq_6 (JA_ @qmu.eq_1 (JA_ @qmu.eq_3 (JA_ @qmu.eq_4 (JA_ @qmu.eq_5 (JA_ @fpC.eq_1 (JA_ @qxQ.eq_1 (JA_ @qwT.eq_1 (JA_ @qBE.eq_1 (JA_ @C.lt0.eq_3 (JA_ @C.lt0.eq_4 (JA_ @C.ltn.eq_1 (JA_ @C.ltn.eq_2 (JA_ @R.lt0.eq_1 (@R.lt0.eq_2))))))))))))))))))))))))))
def qHC:=JA_ @R.ltn.eq_1 (JA_ @R.ltn.eq_2 (JA_ @B.ltn.eq_1 (JA_ @B.ltn.eq_2 (JA_ @q7H.eq_1 (JA_ @Fp.none?.eq_1 (JA_ @okP.eq_1 (JA_ @okP.eq_2 (JA_ @qqe (JA_ @qpI (JA_ @qsu (JA_ @qqL (JA_ @qpK (JA_ @qpF (JA_ @quk (JA_ @qpa (JA_ @qpA (JA_ @qqQ (JA_ @qk9 (JA_ @qsA (JA_ @qpW (JA_ @qq9 (JA_ @quD (JA_ @qr2 (JA_ @qqH (JA_ @qq3 (JA_ @qsV (JA_ @qpf (JA_ @qpm (JA_ @qqE (JA_ @qsg (JA_ @qpB (JA_ @qvi (@ql9)))))))))))))))))))))))))))))))))
def qIy:=JA_ @qsK (JA_ @qpM (JA_ @quO (JA_ @qpH (JA_ @qAU (JA_ @qvt (JA_ @C.farF.eq_1 (JA_ @C.farF.eq_2 (JA_ @Go.Op.operands.eq_1 (JA_ @Go.Op.operands.eq_4 (JA_ @Go.Op.operands.eq_5 (JA_ @Go.Op.operands.eq_7 (JA_ @Go.Op.operands.eq_8 (JA_ @Go.Op.operands.eq_9 (JA_ @Go.Op.operands.eq_14 (JA_ @Go.Op.operands.eq_20 (JA_ @Go.Op.operands.eq_23 (JA_ @Go.Op.operands.eq_24 (JA_ @Go.Op.operands.eq_25 (JA_ @Go.Op.operands.eq_26 (JA_ @Go.Op.operands.eq_27 (@Go.Op.operands.eq_29)))))))))))))))))))))
def qJZ:=JA_ @Go.Op.operands.eq_34 (JA_ @Go.Op.operands.eq_36 (JA_ @Go.Op.operands.eq_40 (JA_ @qwO (JA_ @qAd (JA_ @Option.isNone_none.{0} (JA_ @Option.isNone_some.{0} (JA_ @qyX.eq_1 (JA_ @qyX.eq_2 (JA_ @Option.toList_some.{0} (JA_ @Option.toList_none.{0} (JA_ @List.all_append.{0} (JA_ @List.getElem?_nil.{0} (JA_ @List.drop_zero.{0} (JA_ @Int.cast_ofNat_Int (JA_ @Int.le_refl (JA_ @Nat.le_refl (JA_ @Option.bind_assoc.{0,0,0} (JA_ @List.any_nil.{0} (JA_ @List.any_cons.{0} (JA_ @List.getD_cons_zero.{0} (JA_ @List.getD_cons_succ.{0} (JA_ @true_and (JA_ @and_true (JA_ @and_false (JA_ @Option.some.injEq.{0} (@Prod.mk.injEq.{0,0}))))))))))))))))))))))))))
def qHS:=JA_ @Option.bind_some.{0,0} (JA_ @Option.bind_none.{0,0} (JA_ @Option.map_some.{0,0} (JA_ @Option.map_none.{0,0} (JA_ @Option.getD_some.{0} (JA_ @Option.getD_none.{0} (JA_ @ne_eq.{1} (JA_ @not_false_eq_true (JA_ @or_false (JA_ @Bool.false_eq_true (JA_ @List.map_cons.{0,0} (JA_ @List.map_nil.{0,0} (JA_ @List.all_cons.{0} (JA_ @List.all_nil.{0} (JA_ @Bool.and_true (JA_ @Bool.true_and (JA_ @Bool.and_false (JA_ @Bool.false_and (JA_ @Bool.and_eq_true (JA_ @Bool.or_true (JA_ @Bool.true_or (JA_ @Bool.or_false (JA_ @Bool.false_or (JA_ @List.length_cons.{0} (JA_ @List.length_nil.{0} (JA_ @List.length_map.{0,0} (JA_ @List.getElem?_cons_zero.{0} (JA_ @List.getElem?_cons_succ.{0} (JA_ @List.foldl_cons.{0,0} (JA_ @List.foldl_nil.{0,0} (JA_ @List.cons_append.{0} (JA_ @List.nil_append.{0} (JA_ @List.append_nil.{0} (JA_ @Nat.max_def (JA_ @decide_true (@decide_false)))))))))))))))))))))))))))))))))))
def qKf:=JA_ @decide_not (JA_ @decide_eq_true_eq (JA_ @Nat.zero_le (JA_ @Nat.zero_mul (JA_ @Nat.mul_one (JA_ @Nat.one_mul (JA_ @Nat.add_zero (JA_ @Nat.zero_add (JA_ @Int.toNat_natCast (JA_ @List.mapM_cons.{0,0,0} (JA_ @List.mapM_nil.{0,0,0} (JA_ @List.drop_succ_cons.{0} (JA_ @List.drop_nil.{0} (JA_ @List.take_succ_cons.{0} (JA_ @List.take_zero.{0} (JA_ @List.replicate_succ.{0} (JA_ @List.replicate_zero.{0} (JA_ @List.set_cons_zero.{0} (JA_ @List.set_cons_succ.{0} (JA_ @and_self (JA_ @Bool.not_true (JA_ @Bool.not_false (JA_ @List.contains_cons.{0} (JA_ @List.contains_nil.{0} (JA_ @List.flatMap_cons.{0,0} (JA_ @List.flatMap_nil.{0,0} (JA_ @List.filter_cons.{0} (JA_ @List.filter_nil.{0} (JA_ @List.eraseDups_cons.{0} (JA_ @List.eraseDups_nil.{0} (JA_ @List.nodup_cons.{0} (JA_ @List.nodup_nil.{0} (JA_ @List.mem_cons.{0} (JA_ @List.not_mem_nil.{0} (JA_ @List.headD_cons.{0} (JA_ @List.headD_nil.{0} (JA_ @List.tail_cons.{0} (JA_ @List.tail_nil.{0} (JA_ @beq_self_eq_true.{0} (@q2S)))))))))))))))))))))))))))))))))))))))
def qIR:=JA_ @List.range_succ (JA_ @List.range_zero (JA_ @ite_self.{1} (JA_ @R.dat.eq_1 (JA_ @R.dat.eq_2 (JA_ @qtD (JA_ @quM (JA_ @qAP (JA_ @qv6 (JA_ @qzC (JA_ @qtk (JA_ @qtQ (JA_ @qys (JA_ @qqA (JA_ @qfZ (JA_ @List.take_length.{0} (JA_ @qpL (JA_ @mpo.eq_2 (JA_ @qvX (JA_ @qko (@qw5))))))))))))))))))))
def qIs:=JA_ @mup.eq_1 (JA_ @qtK (JA_ @qAo (JA_ @qu8 (JA_ @qy4 (JA_ @qpC (JA_ @quH (JA_ @qoq (JA_ @qsP (JA_ @qps (JA_ @qu3 (JA_ @qkG (JA_ @qsW (JA_ @qqP (JA_ @qpt (JA_ @qv5 (JA_ @qqn (JA_ @qtg (JA_ @qqB (JA_ @qkq (JA_ @qtW (JA_ @qp5 (JA_ @qqV (JA_ @quQ (JA_ @qoZ (JA_ @qsJ (@qr4))))))))))))))))))))))))))
def qIF:=JA_ @quS (JA_ @qtu (JA_ @qqu (JA_ @qth (JA_ @qse (JA_ @qJD (JA_ @qKj (JA_ @qCS (JA_ @qEF (JA_ @qCd (JA_ @qy5 (JA_ @qAi (JA_ @qzt (JA_ @qC9 (JA_ @qz3 (JA_ @qCk (JA_ @qzu (JA_ @qw3 (JA_ @qto (JA_ @qvc (JA_ @qzW (JA_ @qsL (JA_ @qxI (JA_ @qw9 (JA_ @qt4 (JA_ @qJn (JA_ @qk4 (JA_ @qpn (JA_ @quC (JA_ @qAf (JA_ @qwa (JA_ @qtf (JA_ @qsx (JA_ @Sum.elim_inl.{0,1,0} (@Sum.elim_inr.{0,1,0}))))))))))))))))))))))))))))))))))
def qIA:=JA_ @qhB (JA_ @qmJ (JA_ @ql7 (JA_ @qz2.eq_1 (JA_ @qmd (JA_ @qtw (JA_ @quV (JA_ @qvz (JA_ @qvg (JA_ @qsU (JA_ @qt2 (JA_ @qhA (JA_ @qgm (JA_ @qyy (JA_ @qB4.eq_1 (JA_ @qB4.eq_2 (JA_ @List.length_append.{0} (JA_ @List.length_set.{0} (JA_ @List.length_replicate.{0} (JA_ @qkw (JA_ @lkq.eq_1 (JA_ @lkq.eq_2 (JA_ @qtL (JA_ @qn1 (JA_ @qqZ (JA_ @List.take_nil.{0} (@List.flatten_nil.{0}))))))))))))))))))))))))))
def qIJ:=JA_ @qmV (JA_ @qqK (@q7K))
theorem qJY (a0 a1 a2:Int) (i:Nat):([C.d (D.int .i64 a0),C.d (D.int .i64 a1),C.d (D.int .i64 a2)]:List C)[i]?=([a0,a1,a2][i]?).bind fun x=>some (C.d (D.int .i64 x)):=by rw[show([C.d (D.int .i64 a0),C.d (D.int .i64 a1),C.d (D.int .i64 a2)]:List C)=[a0,a1,a2].map (fun x=>C.d (D.int .i64 x)) from rfl,List.getElem?_map];cases([a0,a1,a2]:List Int)[i]? <;> rfl
theorem qJN (a0 a1 a2 a3:Int) (i:Nat):([C.d (D.int .i64 a0),C.d (D.int .i64 a1),C.d (D.int .i64 a2),C.d (D.int .i64 a3)]:List C)[i]?=([a0,a1,a2,a3][i]?).bind fun x=>some (C.d (D.int .i64 x)):=by rw[show([C.d (D.int .i64 a0),C.d (D.int .i64 a1),C.d (D.int .i64 a2),C.d (D.int .i64 a3)]:List C)=[a0,a1,a2,a3].map (fun x=>C.d (D.int .i64 x)) from rfl,List.getElem?_map];cases([a0,a1,a2,a3]:List Int)[i]? <;> rfl
theorem qJX (a0 a1 a2 a3 a4 a5:Int) (i:Nat):([C.d (D.int .i64 a0),C.d (D.int .i64 a1),C.d (D.int .i64 a2),C.d (D.int .i64 a3),C.d (D.int .i64 a4),C.d (D.int .i64 a5)]:List C)[i]?=([a0,a1,a2,a3,a4,a5][i]?).bind fun x=>some (C.d (D.int .i64 x)):=by rw[show([C.d (D.int .i64 a0),C.d (D.int .i64 a1),C.d (D.int .i64 a2),C.d (D.int .i64 a3),C.d (D.int .i64 a4),C.d (D.int .i64 a5)]:List C)=[a0,a1,a2,a3,a4,a5].map (fun x=>C.d (D.int .i64 x)) from rfl,List.getElem?_map];cases([a0,a1,a2,a3,a4,a5]:List Int)[i]? <;> rfl
theorem qHj (a0 a1 a2 a3 a4 a5 a6:Int) (i:Nat):([C.d (D.int .i64 a0),C.d (D.int .i64 a1),C.d (D.int .i64 a2),C.d (D.int .i64 a3),C.d (D.int .i64 a4),C.d (D.int .i64 a5),C.d (D.int .i64 a6)]:List C)[i]?=([a0,a1,a2,a3,a4,a5,a6][i]?).bind fun x=>some (C.d (D.int .i64 x)):=by rw[show([C.d (D.int .i64 a0),C.d (D.int .i64 a1),C.d (D.int .i64 a2),C.d (D.int .i64 a3),C.d (D.int .i64 a4),C.d (D.int .i64 a5),C.d (D.int .i64 a6)]:List C)=[a0,a1,a2,a3,a4,a5,a6].map (fun x=>C.d (D.int .i64 x)) from rfl,List.getElem?_map];cases([a0,a1,a2,a3,a4,a5,a6]:List Int)[i]? <;> rfl
theorem qDo {α:Type} (l:List α) (k:Nat):(l.length=min k l.length)=(l.length≤k):=by apply propext;omega
theorem qED {α:Type} (l:List α) (k:Nat):(min k l.length≤l.length)=True:=eq_true (Nat.min_le_right ..)
theorem qEc {α:Type} (e:α→List D) (l:List α) (k:Nat):(if l.length≤k then some (l.flatMap e) else some ((l.take (min k l.length)).flatMap e))=some ((l.take k).flatMap e):=by
 split
 ·rename_i h;rw[List.take_of_length_le h]
 ·rename_i h;rw[show min k l.length=k by omega]
theorem qBW {α:Type} (e:α→List D) (sz:Nat) (l:List α) (k:Nat):D.sl sz (min k l.length) ((l.take k).flatMap e)=D.sl sz (l.take k).length ((l.take k).flatMap e):=by rw[List.length_take]
def bz0:=JA_ @qJY (JA_ @qJN (JA_ @qJX (@qHj)))
def bz1:=JA_ @qDo (JA_ @qED (JA_ @qEc (@qBW)))
end Go.Proofs.YtgejdfnidjnjcaaGreat.Vc
namespace Go.Proofs.YtgejdfnidjnjcaaGreat.Vc
open Go.RowKit
structure qBD (α:Type) where
 a0:α
 a1:α
structure qti (α:Type) where
 a0:α
 a1:α
 a2:α
structure q1W where
 Need:List Int
 L:List Int
 Odd:qBD (qti Int)
structure qc where
 School:Int
 Code:ByteArray
def qe (x:qc):List D:=[D.int .i64 x.School,D.str x.Code]
theorem q1F (x:qc):qe x=[D.int .i64 x.School,D.str x.Code]:=rfl
theorem qbO (x:qc):(qe x).length=2:=rfl
theorem qbU (x:qc):qc.mk x.School x.Code=x:=rfl
structure qb where
 Kind:Int
 N:Int
 Min:Int
 Set:List qc
 L:List qb
mutual
def qg:qb→List D
 | ⟨a0,a1,a2,a3,a4⟩=>[D.int .i64 a0,D.int .i64 a1,D.int .i64 a2,D.sl 2 a3.length (a3.flatMap qe),D.sl 5 a4.length (JR a4)]
def JR:List qb→List D
 | []=>[]
 | x::l=>qg x++JR l
end
theorem q6E:∀l:List qb,JR l=l.flatMap qg
 | []=>rfl
 | x::l=>by rw[List.flatMap_cons,←q6E l,JR]
theorem q1Y (x:qb):qg x=[D.int .i64 x.Kind,D.int .i64 x.N,D.int .i64 x.Min,D.sl 2 x.Set.length (x.Set.flatMap qe),D.sl 5 x.L.length (x.L.flatMap qg)]:=by cases x;rw[qg,q6E]
theorem q2q (x:qb):(qg x).length=5:=by rw[q1Y];rfl
theorem qej (x:qb):qb.mk x.Kind x.N x.Min x.Set x.L=x:=by cases x;rfl
structure qf where
 Worst:Int
 Best:Int
 Pass:Int
def q2E (x:qf):List D:=[D.int .i64 x.Worst,D.int .i64 x.Best,D.int .i64 x.Pass]
theorem qeo (x:qf):q2E x=[D.int .i64 x.Worst,D.int .i64 x.Best,D.int .i64 x.Pass]:=rfl
theorem qdk (x:qf):(q2E x).length=3:=rfl
theorem qdf (x:qf):qf.mk x.Worst x.Best x.Pass=x:=rfl
structure qa where
 Course:qc
 Credits:Int
 Grade:Int
 Day:Int
 Sources:List Int
 Bundle:Int
 Path:List Int
def qd (x:qa):List D:=[D.int .i64 x.Course.School,D.str x.Course.Code,D.int .i64 x.Credits,D.int .i64 x.Grade,D.int .i64 x.Day,D.sl 1 x.Sources.length (x.Sources.flatMap eI),D.int .i64 x.Bundle,D.sl 1 x.Path.length (x.Path.flatMap eI)]
theorem J9 (x:qa):qd x=[D.int .i64 x.Course.School,D.str x.Course.Code,D.int .i64 x.Credits,D.int .i64 x.Grade,D.int .i64 x.Day,D.sl 1 x.Sources.length (x.Sources.flatMap eI),D.int .i64 x.Bundle,D.sl 1 x.Path.length (x.Path.flatMap eI)]:=rfl
theorem q7O (x:qa):(qd x).length=8:=rfl
theorem q7r (x:qa):qa.mk x.Course x.Credits x.Grade x.Day x.Sources x.Bundle x.Path=x:=rfl
structure qV where
 Need:qb
 Scale:qf
 L:List qa
structure qJ where
 many:Int
 credits:Int
 fine:Bool
theorem qee (x:qJ):qJ.mk x.many x.credits x.fine=x:=rfl
structure qy where
 S:qf
 L:List qa
 Leaf:List Int
 Next:Int
theorem qaE (x:qy):qy.mk x.S x.L x.Leaf x.Next=x:=rfl
structure z7 where
 Empty:Bool
 Met:Bool
structure qj where
 L:List Int
 At:Int
theorem qbL (x:qj):qj.mk x.L x.At=x:=rfl
structure ql where
 Need:qb
 Deep:Int
def qE (x:ql):List D:=[D.int .i64 x.Need.Kind,D.int .i64 x.Need.N,D.int .i64 x.Need.Min,D.sl 2 x.Need.Set.length (x.Need.Set.flatMap qe),D.sl 5 x.Need.L.length (x.Need.L.flatMap qg),D.int .i64 x.Deep]
theorem q1A (x:ql):qE x=[D.int .i64 x.Need.Kind,D.int .i64 x.Need.N,D.int .i64 x.Need.Min,D.sl 2 x.Need.Set.length (x.Need.Set.flatMap qe),D.sl 5 x.Need.L.length (x.Need.L.flatMap qg),D.int .i64 x.Deep]:=rfl
theorem qc9 (x:ql):(qE x).length=6:=rfl
theorem qcP:∀x:Int,(eI x).length=1:=fun _=>rfl
theorem qC4 (v:List Int):(v.flatMap eI).length=v.length:=by rw[q58 qcP,Nat.mul_one]
theorem qqo (v:List Int) (i:Nat):ld T ((v.flatMap eI).map C.d) (i) 3=(v[i]?).bind fun x=>some (.c (.d (D.int .i64 x))):=by rw[qcA qcP v i _ (by decide)];cases v[i]? with|none=>rfl|some x=>rfl
theorem qD0 (v:List Int) (a:Int):(v.flatMap eI).map C.d++[C.d (D.int .i64 a)]=((v++[a]).flatMap eI).map C.d:=by have h:=qfv (E:=eI) v a;exact h
theorem qxj (v:List Int) (i:Nat) (a:Int):spr ((v.flatMap eI).map C.d) (i) [C.d (D.int .i64 a)]=((v.set i a).flatMap eI).map C.d:=by have h:=qff qcP v i a;rw[Nat.mul_one] at h;exact h
theorem qDS (v:List Int) (a:Nat):(v.flatMap eI).take (a)=(v.take a).flatMap eI:=by have h:=qfe qcP v a;rwa [Nat.mul_one] at h
theorem qyJ (v:List Int) (a:Nat):((v.flatMap eI).map C.d).take (a)=((v.take a).flatMap eI).map C.d:=by rw[←List.map_take,qDS]
theorem qsT (s:S) (v:List Int) (lo hi:Option Operand):xsl T s 22 (.c (.d (.sl 1 v.length (v.flatMap eI)))) lo hi=qz2 s eI 1 v (s.bd lo 0) (s.bd hi v.length):=qs5 qcP v lo hi (by rfl) (by rfl) (by decide)
theorem qwi (m:Nat):(List.replicate m [C.d (D.int .i64 0)]).flatten=((List.replicate m 0).flatMap eI).map C.d:=qnm (E:=eI) 0 (by rfl) m
theorem q97:∀x:qc,(qe x).length=2:=qbO
theorem qw1 (v:List qc):(v.flatMap qe).length=v.length*2:=by rw[q58 q97]
theorem qk0 (v:List qc) (i:Nat):ld T ((v.flatMap qe).map C.d) (i*2) 51=(v[i]?).bind fun x=>some (.agg [.d (D.int .i64 x.School),.d (D.str x.Code)]):=by rw[qcw q97 v i _ (by decide) (by decide)];cases v[i]? with|none=>rfl|some x=>rw[Option.bind_some,Option.bind_some,q1F];rfl
theorem qyv (v:List qc) (q0B:Int) (q3P:ByteArray):(v.flatMap qe).map C.d++[C.d (D.int .i64 q0B),C.d (D.str q3P)]=((v++[(qc.mk q0B q3P)]).flatMap qe).map C.d:=by have h:=qfv (E:=qe) v (qc.mk q0B q3P);rw[q1F] at h;exact h
theorem qvA (v:List qc) (i:Nat) (q0B:Int) (q3P:ByteArray):spr ((v.flatMap qe).map C.d) (i*2) [C.d (D.int .i64 q0B),C.d (D.str q3P)]=((v.set i (qc.mk q0B q3P)).flatMap qe).map C.d:=by have h:=qff q97 v i (qc.mk q0B q3P);rw[q1F] at h;exact h
theorem qzj (v:List qc) (a:Nat):(v.flatMap qe).drop (a*2)=(v.drop a).flatMap qe:=by have h:=qi7 q97 v a;exact h
theorem qxa (v:List qc) (a:Nat):(v.flatMap qe).take (a*2)=(v.take a).flatMap qe:=by have h:=qfe q97 v a;exact h
theorem qus (v:List qc) (a:Nat):((v.flatMap qe).map C.d).drop (a*2)=((v.drop a).flatMap qe).map C.d:=by rw[←List.map_drop,qzj]
theorem qtV (v:List qc) (a:Nat):((v.flatMap qe).map C.d).take (a*2)=((v.take a).flatMap qe).map C.d:=by rw[←List.map_take,qxa]
theorem qvr (v w:List qc) (i:Nat):spl (v.flatMap qe) (i*2) (w.flatMap qe)=(spl v i w).flatMap qe:=by have h:=qnN q97 w v i;exact h
theorem qfP:∀x:qb,(qg x).length=5:=q2q
theorem qxh (v:List qb):(v.flatMap qg).length=v.length*5:=by rw[q58 qfP]
theorem qjV (v:List qb) (i:Nat):ld T ((v.flatMap qg).map C.d) (i*5) 30=(v[i]?).bind fun x=>some (.agg [.d (D.int .i64 x.Kind),.d (D.int .i64 x.N),.d (D.int .i64 x.Min),.d (D.sl 2 x.Set.length (x.Set.flatMap qe)),.d (D.sl 5 x.L.length (x.L.flatMap qg))]):=by rw[qcw qfP v i _ (by decide) (by decide)];cases v[i]? with|none=>rfl|some x=>rw[Option.bind_some,Option.bind_some,q1Y];rfl
theorem qzz (v:List qb) (qdV:Int) (a_N:Int) (qie:Int) (qfQ:List qc) (a_L:List qb):(v.flatMap qg).map C.d++[C.d (D.int .i64 qdV),C.d (D.int .i64 a_N),C.d (D.int .i64 qie),C.d (D.sl 2 qfQ.length (qfQ.flatMap qe)),C.d (D.sl 5 a_L.length (a_L.flatMap qg))]=((v++[(qb.mk qdV a_N qie qfQ a_L)]).flatMap qg).map C.d:=by have h:=qfv (E:=qg) v (qb.mk qdV a_N qie qfQ a_L);rw[q1Y] at h;exact h
theorem qso (v:List qb) (i:Nat) (qdV:Int) (a_N:Int) (qie:Int) (qfQ:List qc) (a_L:List qb):spr ((v.flatMap qg).map C.d) (i*5) [C.d (D.int .i64 qdV),C.d (D.int .i64 a_N),C.d (D.int .i64 qie),C.d (D.sl 2 qfQ.length (qfQ.flatMap qe)),C.d (D.sl 5 a_L.length (a_L.flatMap qg))]=((v.set i (qb.mk qdV a_N qie qfQ a_L)).flatMap qg).map C.d:=by have h:=qff qfP v i (qb.mk qdV a_N qie qfQ a_L);rw[q1Y] at h;exact h
theorem q7y:∀x:qa,(qd x).length=8:=q7O
theorem qxN (v:List qa):(v.flatMap qd).length=v.length*8:=by rw[q58 q7y]
theorem qkb (v:List qa) (i:Nat):ld T ((v.flatMap qd).map C.d) (i*8) 53=(v[i]?).bind fun x=>some (.agg [.d (D.int .i64 x.Course.School),.d (D.str x.Course.Code),.d (D.int .i64 x.Credits),.d (D.int .i64 x.Grade),.d (D.int .i64 x.Day),.d (D.sl 1 x.Sources.length (x.Sources.flatMap eI)),.d (D.int .i64 x.Bundle),.d (D.sl 1 x.Path.length (x.Path.flatMap eI))]):=by rw[qcw q7y v i _ (by decide) (by decide)];cases v[i]? with|none=>rfl|some x=>rw[Option.bind_some,Option.bind_some,J9];rfl
theorem qmI (v:List qa) (i:Nat):ld T ((v.flatMap qd).map C.d) (i*8+2) 3=(v[i]?).bind fun x=>some (.c (.d (D.int .i64 x.Credits))):=by rw[qaB q7y v i 2 _ (by decide) (by decide)];cases v[i]? with|none=>rfl|some x=>rw[Option.bind_some,Option.bind_some,J9];rfl
theorem qki (v:List qa) (i:Nat):ld T ((v.flatMap qd).map C.d) (i*8+5) 22=(v[i]?).bind fun x=>some (.c (.d (D.sl 1 x.Sources.length (x.Sources.flatMap eI)))):=by rw[qaB q7y v i 5 _ (by decide) (by decide)];cases v[i]? with|none=>rfl|some x=>rw[Option.bind_some,Option.bind_some,J9];rfl
theorem qzY (v:List qa) (ys:List C):dzc [0,0,0,0,0,1,0,1] [] ((v.flatMap qd).map C.d++ys)=(v.flatMap qd).map C.d++dzc [0,0,0,0,0,1,0,1] [] ys:=qrv q7y [0,0,0,0,0,1,0,1] rfl v ys
theorem qqD (s:S) (v:List qa) (lo hi:Option Operand):xsl T s 33 (.c (.d (.sl 8 v.length (v.flatMap qd)))) lo hi=qz2 s qd 8 v (s.bd lo 0) (s.bd hi v.length):=qs5 q7y v lo hi (by rfl) (by rfl) (by decide)
theorem qsM:∀x:(List qa),((eL 8 qd) x).length=1:=fun _=>rfl
theorem quK:∀x:qf,(q2E x).length=3:=qdk
theorem qit:∀x:Bool,(eB x).length=1:=fun _=>rfl
theorem qD2 (v:List Bool):(v.flatMap eB).length=v.length:=by rw[q58 qit,Nat.mul_one]
theorem qp8 (v:List Bool) (i:Nat):ld T ((v.flatMap eB).map C.d) (i) 4=(v[i]?).bind fun x=>some (.c (.d (D.bool x))):=by rw[qcA qit v i _ (by decide)];cases v[i]? with|none=>rfl|some x=>rfl
theorem qxU (v:List Bool) (i:Nat) (a:Bool):spr ((v.flatMap eB).map C.d) (i) [C.d (D.bool a)]=((v.set i a).flatMap eB).map C.d:=by have h:=qff qit v i a;rw[Nat.mul_one] at h;exact h
theorem qAN (m:Nat):(List.replicate m [C.d (D.bool false)]).flatten=((List.replicate m false).flatMap eB).map C.d:=qnm (E:=eB) false (by rfl) m
theorem qmZ:∀x:(List Int),((eL 1 eI) x).length=1:=fun _=>rfl
theorem qk6 (v:List (List Int)) (i:Nat):ld T ((v.flatMap (eL 1 eI)).map C.d) (i) 22=(v[i]?).bind fun x=>some (.c (.d (D.sl 1 x.length (x.flatMap eI)))):=by rw[qcA qmZ v i _ (by decide)];cases v[i]? with|none=>rfl|some x=>rfl
theorem qrz:∀x:ByteArray,(eS x).length=1:=fun _=>rfl
theorem qpp (v:List ByteArray) (i:Nat):ld T ((v.flatMap eS).map C.d) (i) 9=(v[i]?).bind fun x=>some (.c (.d (D.str x))):=by rw[qcA qrz v i _ (by decide)];cases v[i]? with|none=>rfl|some x=>rfl
theorem qxV:∀x:Int,(eU8 x).length=1:=fun _=>rfl
theorem qa4:∀x:ql,(qE x).length=6:=qc9
theorem qtO (v:List ql):(v.flatMap qE).length=v.length*6:=by rw[q58 qa4]
theorem qia (v:List ql) (i:Nat):ld T ((v.flatMap qE).map C.d) (i*6) 30=(v[i]?).bind fun x=>some (.agg [.d (D.int .i64 x.Need.Kind),.d (D.int .i64 x.Need.N),.d (D.int .i64 x.Need.Min),.d (D.sl 2 x.Need.Set.length (x.Need.Set.flatMap qe)),.d (D.sl 5 x.Need.L.length (x.Need.L.flatMap qg))]):=by rw[qcw qa4 v i _ (by decide) (by decide)];cases v[i]? with|none=>rfl|some x=>rw[Option.bind_some,Option.bind_some,q1A];rfl
theorem qhN (v:List ql) (i:Nat):ld T ((v.flatMap qE).map C.d) (i*6+3) 27=(v[i]?).bind fun x=>some (.c (.d (D.sl 2 x.Need.Set.length (x.Need.Set.flatMap qe)))):=by rw[qaB qa4 v i 3 _ (by decide) (by decide)];cases v[i]? with|none=>rfl|some x=>rw[Option.bind_some,Option.bind_some,q1A];rfl
theorem qku (v:List ql) (i:Nat):ld T ((v.flatMap qE).map C.d) (i*6+5) 3=(v[i]?).bind fun x=>some (.c (.d (D.int .i64 x.Deep))):=by rw[qaB qa4 v i 5 _ (by decide) (by decide)];cases v[i]? with|none=>rfl|some x=>rw[Option.bind_some,Option.bind_some,q1A];rfl
theorem qsZ (v:List ql) (q9o:Int) (qfR:Int) (qbt:Int) (q8d:List qc) (qcL:List qb) (qoH:Int):(v.flatMap qE).map C.d++[C.d (D.int .i64 q9o),C.d (D.int .i64 qfR),C.d (D.int .i64 qbt),C.d (D.sl 2 q8d.length (q8d.flatMap qe)),C.d (D.sl 5 qcL.length (qcL.flatMap qg)),C.d (D.int .i64 qoH)]=((v++[(ql.mk (qb.mk q9o qfR qbt q8d qcL) qoH)]).flatMap qE).map C.d:=by have h:=qfv (E:=qE) v (ql.mk (qb.mk q9o qfR qbt q8d qcL) qoH);rw[q1A] at h;exact h
theorem q0x (v w:List Int):(v.flatMap eI=w.flatMap eI)=(v=w):=propext ⟨fun h=>(q1t qcP (by decide) (fun x y h=>by injection h with h;injection h) _ _) h,fun h=>by rw[h]⟩
theorem qci:∀x y:qc,qe x=qe y→x=y:=by
 rintro⟨a_0,a_1⟩ ⟨b_0,b_1⟩ h
 simp only[q1F,List.cons.injEq,D.int.injEq,D.bool.injEq,D.str.injEq,D.sl.injEq,true_and,and_true,q0x] at h
 simp only[h]
theorem Je (v w:List qc):(v.flatMap qe=w.flatMap qe)=(v=w):=propext ⟨fun h=>(q1t q97 (by decide) qci _ _) h,fun h=>by rw[h]⟩
mutual
theorem q8F:∀x y:qb,qg x=qg y→x=y
 | ⟨a0,a1,a2,a3,a4⟩,⟨b0,b1,b2,b3,b4⟩,h=>by
  rw[qg,qg] at h
  simp only[List.cons.injEq,D.int.injEq,D.bool.injEq,D.str.injEq,D.sl.injEq,true_and,and_true,q0x,Je] at h
  have hl:a4=b4:=q7J a4 b4 (by simp only[h])
  subst hl
  simp only[h]
theorem q7J:∀v w:List qb,JR v=JR w→v=w
 | [],[],_=>rfl
 | [],y::w,e=>by
  have:=congrArg List.length e
  rw[JR,JR,List.length_append,q2q] at this
  first|omega|(simp at this;done)|(simp at this;omega)
 | x::v,[],e=>by
  have:=congrArg List.length e
  rw[JR,JR,List.length_append,q2q] at this
  first|omega|(simp at this;done)|(simp at this;omega)
 | x::v,y::w,e=>by
  rw[JR,JR] at e
  obtain⟨h1,h2⟩:=List.append_inj e (by rw[q2q,q2q])
  rw[q8F x y h1,q7J v w h2]
end
theorem Jm (v w:List qb):(v.flatMap qg=w.flatMap qg)=(v=w):=propext ⟨fun h=>(q1t qfP (by decide) q8F _ _) h,fun h=>by rw[h]⟩
theorem qdC:∀x y:qf,q2E x=q2E y→x=y:=by
 rintro⟨a_0,a_1,a_2⟩ ⟨b_0,b_1,b_2⟩ h
 simp only[qeo,List.cons.injEq,D.int.injEq,D.bool.injEq,D.str.injEq,D.sl.injEq,true_and,and_true,q0x,Je,Jm] at h
 simp only[h]
theorem q3I:∀x y:qa,qd x=qd y→x=y:=by
 rintro⟨⟨qF2,qF3⟩,a_1,a_2,a_3,a_4,a_5,a_6⟩ ⟨⟨qF4,qF5⟩,b_1,b_2,b_3,b_4,b_5,b_6⟩ h
 simp only[J9,List.cons.injEq,D.int.injEq,D.bool.injEq,D.str.injEq,D.sl.injEq,true_and,and_true,q0x,Je,Jm] at h
 simp only[h]
theorem q01 (v w:List qa):(v.flatMap qd=w.flatMap qd)=(v=w):=propext ⟨fun h=>(q1t q7y (by decide) q3I _ _) h,fun h=>by rw[h]⟩
theorem JX (v w:List (List qa)):(v.flatMap (eL 8 qd)=w.flatMap (eL 8 qd))=(v=w):=propext ⟨fun h=>(q1t qsM (by decide) (fun x y h=>by injection h with h;injection h with _ _ h;exact(q1t q7y (by decide) q3I _ _) h) _ _) h,fun h=>by rw[h]⟩
theorem JY (v w:List qf):(v.flatMap q2E=w.flatMap q2E)=(v=w):=propext ⟨fun h=>(q1t quK (by decide) qdC _ _) h,fun h=>by rw[h]⟩
theorem q1b (v w:List Bool):(v.flatMap eB=w.flatMap eB)=(v=w):=propext ⟨fun h=>(q1t qit (by decide) (fun x y h=>by injection h with h;injection h) _ _) h,fun h=>by rw[h]⟩
theorem JV (v w:List (List Int)):(v.flatMap (eL 1 eI)=w.flatMap (eL 1 eI))=(v=w):=propext ⟨fun h=>(q1t qmZ (by decide) (fun x y h=>by injection h with h;injection h with _ _ h;exact(q1t qcP (by decide) (fun x y h=>by injection h with h;injection h) _ _) h) _ _) h,fun h=>by rw[h]⟩
theorem q16 (v w:List ByteArray):(v.flatMap eS=w.flatMap eS)=(v=w):=propext ⟨fun h=>(q1t qrz (by decide) (fun x y h=>by injection h with h;injection h) _ _) h,fun h=>by rw[h]⟩
theorem q18 (v w:List Int):(v.flatMap eU8=w.flatMap eU8)=(v=w):=propext ⟨fun h=>(q1t qxV (by decide) (fun x y h=>by injection h with h;injection h) _ _) h,fun h=>by rw[h]⟩
theorem qbT:∀x y:ql,qE x=qE y→x=y:=by
 rintro⟨⟨qF2,qF3,a_0_2,a_0_3,a_0_4⟩,a_1⟩ ⟨⟨qF4,qF5,b_0_2,b_0_3,b_0_4⟩,b_1⟩ h
 simp only[q1A,List.cons.injEq,D.int.injEq,D.bool.injEq,D.str.injEq,D.sl.injEq,true_and,and_true,q0x,Je,Jm,q01,JX,JY,q1b,JV,q16,q18] at h
 simp only[h]
theorem ZS (v w:List ql):(v.flatMap qE=w.flatMap qE)=(v=w):=propext ⟨fun h=>(q1t qa4 (by decide) qbT _ _) h,fun h=>by rw[h]⟩
theorem qvD (s:S) (p:Nat):q6c T s p 113 none=some (.c (.hd .map p),s.up [(p,.ob (.mp [] 0))]):=rfl
end Go.Proofs.YtgejdfnidjnjcaaGreat.Vc
namespace Go.Proofs.YtgejdfnidjnjcaaGreat.Vc
open Go.RowKit
theorem qCP:qgU Tryz.prog 51=true:=by kernel_rfl
def by0:=JA_ @k3 (JA_ @z3 (JA_ @b3 (JA_ @o3 (JA_ @q3 (JA_ @k4 (JA_ @z4 (JA_ @b4 (JA_ @o4 (@q4)))))))))
def by1:=JA_ @k9 (JA_ @z9 (@q9))
def by2:=JA_ @q21 (JA_ @k22 (JA_ @z22 (JA_ @o22 (@q22))))
def by3:=JA_ @k26 (JA_ @z26 (JA_ @q26 (JA_ @k27 (JA_ @z27 (JA_ @q27 (JA_ @k28 (JA_ @z28 (JA_ @o28 (JA_ @q28 (JA_ @k30 (JA_ @z30 (JA_ @b30 (JA_ @o30 (JA_ @q30 (JA_ @k32 (JA_ @z32 (JA_ @o32 (JA_ @q32 (JA_ @k33 (@z33))))))))))))))))))))
def by4:=JA_ @q33 (@k35)
def by5:=JA_ @k45 (JA_ @q45 (JA_ @q46 (@k51)))
def by6:=JA_ @z51 (JA_ @b51 (JA_ @o51 (JA_ @q51 (JA_ @k53 (JA_ @z53 (JA_ @b53 (JA_ @o53 (@q53))))))))
def by7:=@k61
def by8:=JA_ @k73 (JA_ @q73 (JA_ @k75 (JA_ @z75 (@k76))))
def by9:=JA_ @q76 (JA_ @k77 (JA_ @z77 (JA_ @o77 (JA_ @q77 (JA_ @q79 (JA_ @k81 (JA_ @o81 (JA_ @k83 (JA_ @z83 (@o83))))))))))
def qIw:=JA_ @q87 (JA_ @k89 (JA_ @z89 (JA_ @o89 (JA_ @k91 (JA_ @z91 (JA_ @o91 (@q91)))))))
def qHh:=JA_ @q93 (JA_ @q96 (JA_ @k98 (JA_ @o98 (JA_ @qIE (JA_ @qIq (JA_ @qHl (@qK3)))))))
def qHQ:=JA_ @qJk (JA_ @qIZ (JA_ @qJA (JA_ @qK9 (JA_ @qI3 (@qHu)))))
def qJ6:=JA_ @qIn (JA_ @qIX (JA_ @qIz (JA_ @qKb (JA_ @qJ4 (JA_ @qIU (JA_ @qKa (JA_ @qJ1 (@qIr))))))))
def qKi:=JA_ @qJC (JA_ @qJU (JA_ @qKh (JA_ @qKm (JA_ @qJS (JA_ @qKo (JA_ @qJv (JA_ @qJT (JA_ @qHG (JA_ @qIK (@qIM))))))))))
def qHv:=JA_ @qJq (@qJp)
def qHP:=@qI8
def qIY:=@qIl
def qHq:=JA_ @qCP (JA_ @pw5 (JA_ @pw6 (JA_ @pw7 (JA_ @pw9 (JA_ @qGM (JA_ @qGe (JA_ @qGy (JA_ @qGb (JA_ @qGE (JA_ @qH7 (JA_ @qGj (JA_ @qGd (JA_ @qH5 (JA_ @qGC (JA_ @qFJ (JA_ @qFw (@qGJ)))))))))))))))))
def qJ7:=JA_ @qGk (JA_ @qFt (JA_ @qGO (JA_ @qGF (JA_ @qFN (JA_ @qF1 (JA_ @qH1 (JA_ @qHb (JA_ @qGZ (JA_ @qE7 (JA_ @qG7 (JA_ @qzp (JA_ @qGQ (JA_ @qFe (JA_ @qG4 (JA_ @qFW (JA_ @qFc (JA_ @qFL (JA_ @qDv (JA_ @qFo (JA_ @qGL (JA_ @qH6 (JA_ @qF9 (JA_ @qDf (JA_ @qEH (JA_ @qG9 (JA_ @qFr (JA_ @qC5 (JA_ @qBU (JA_ @qFU (JA_ @qGz (JA_ @qH3 (JA_ @qFS (JA_ @qGB (JA_ @qwd (JA_ @qGr (JA_ @qG1 (JA_ @qFH (JA_ @qBH (@qG8)))))))))))))))))))))))))))))))))))))))
def qK5:=JA_ @qGv (JA_ @qDB (JA_ @qEa (JA_ @qFk (JA_ @qGK (JA_ @qFV (JA_ @qDl (JA_ @qGA (JA_ @qDn (JA_ @qGn (JA_ @qFT (JA_ @qG3 (JA_ @qGa (JA_ @qGp (JA_ @qGY (JA_ @qGw (JA_ @qFp (JA_ @qFF (JA_ @qFP (JA_ @qFR (JA_ @qFn (JA_ @qG0 (JA_ @qFE (JA_ @qEU (JA_ @qGV (JA_ @qHc (JA_ @qGS (JA_ @qH0 (JA_ @qGm (JA_ @qGg (JA_ @qGl (JA_ @qBv (JA_ @qGu (JA_ @qGI (JA_ @qGH (JA_ @qGW (JA_ @qzX (JA_ @qz7 (JA_ @qzU (@qAE)))))))))))))))))))))))))))))))))))))))
def qIP:=JA_ @qze (JA_ @qx1 (JA_ @qxP (JA_ @qAh (JA_ @qz9 (JA_ @qyg (JA_ @qwF (JA_ @qvV (JA_ @qx5 (JA_ @qK4 (JA_ @qD7 (JA_ @qBY (JA_ @qEK (JA_ @qDz (@qE2))))))))))))))
def qIg:=JA_ @qDc (JA_ @qEE (JA_ @qDu (JA_ @qDK (JA_ @qCw (JA_ @qE1 (JA_ @qDV (JA_ @qCc (JA_ @qCx (JA_ @qEn (@qBS))))))))))
def qIv:=JA_ @qEm (JA_ @qEQ (JA_ @qD8 (JA_ @qCK (JA_ @qCY (JA_ @qES (JA_ @qCr (JA_ @qEy (JA_ @qCR (JA_ @qCa (JA_ @qC7 (JA_ @qxF (JA_ @qAk (JA_ @qyL (JA_ @qx2 (@qwI)))))))))))))))
def qHH:=JA_ @qw7 (JA_ @qwy (JA_ @qwN (JA_ @qDb (JA_ @qEA (JA_ @qCZ (JA_ @qyf (JA_ @qvd (JA_ @qyN (JA_ @qtc (JA_ @qAA (JA_ @qvQ (JA_ @qwQ (JA_ @qAt (JA_ @qvo (JA_ @qAy (JA_ @qxB (JA_ @qA8 (JA_ @qwb (JA_ @quF (JA_ @qw4 (JA_ @qt3 (JA_ @qut (JA_ @qv1 (JA_ @qzH (JA_ @qAR (JA_ @qxS (JA_ @qA6 (JA_ @qAc (@qAb)))))))))))))))))))))))))))))
def qHy:=JA_ @qy7 (JA_ @qsn (JA_ @qAH (JA_ @qzJ (JA_ @qv4 (JA_ @qx8 (JA_ @qyS (JA_ @qvC (JA_ @qvj (JA_ @quz (JA_ @qt6 (JA_ @qwS (JA_ @qwv (JA_ @qxn (JA_ @qu2 (JA_ @qsv (JA_ @qyn (JA_ @qxw (JA_ @qAq (JA_ @qwW (JA_ @qwc (JA_ @qyC (JA_ @qA4 (JA_ @qwH (JA_ @qAD (JA_ @qAI (JA_ @qy3 (JA_ @qxu (JA_ @quB (JA_ @qsX (JA_ @qsO (@qsG)))))))))))))))))))))))))))))))
def qHE:=JA_ @qAj (JA_ @qyI (JA_ @qyz (JA_ @qEV (JA_ @qCy (@qCW)))))
def qJ9:=JA_ @qzS (JA_ @qww (JA_ @qtU (JA_ @qA7 (JA_ @qwR (JA_ @qzG (JA_ @qw6 (JA_ @qAl (JA_ @qwx (JA_ @qvv (JA_ @qx4 (JA_ @quy (JA_ @qyb (JA_ @qzg (JA_ @qsS (JA_ @qxi (JA_ @qxs (JA_ @quc (JA_ @qsm (JA_ @quJ (JA_ @qtM (JA_ @qxX (JA_ @qwL (JA_ @qzo (JA_ @qws (JA_ @qyR (JA_ @qsN (JA_ @qyD (JA_ @qu7 (JA_ @qv7 (JA_ @qzB (JA_ @qyZ (JA_ @qz0 (JA_ @qxL (JA_ @qwJ (@qAw)))))))))))))))))))))))))))))))))))
def qJo:=JA_ @quh (JA_ @qud (JA_ @qxg (JA_ @qzq (JA_ @qyp (JA_ @qyH (JA_ @qxZ (JA_ @qxG (JA_ @qxH (JA_ @qxA (JA_ @qER (JA_ @qEj (JA_ @qEs (JA_ @qzL (JA_ @qwe (JA_ @qtY (JA_ @qzR (JA_ @qyu (JA_ @qvS (JA_ @qwU (JA_ @qy9 (JA_ @qzf (JA_ @qtx (JA_ @qzd (JA_ @qtX (@qzm)))))))))))))))))))))))))
def qKc:=JA_ @qAS (JA_ @qsz (JA_ @qzc (JA_ @qwj (JA_ @qta (JA_ @qu1 (JA_ @qsj (JA_ @qts (JA_ @qAm (JA_ @qy1 (JA_ @qyO (JA_ @qzI (JA_ @qyG (JA_ @qtv (JA_ @qzT (JA_ @qsD (JA_ @qss (JA_ @qAT (JA_ @qAr (JA_ @qxD (JA_ @qxf (JA_ @qwA (JA_ @qAB (JA_ @quL (JA_ @qur (JA_ @qxl (JA_ @qzP (JA_ @qwG (@qz1))))))))))))))))))))))))))))
def bt0:=JA_ @qC4 (JA_ @qqo (JA_ @qD0 (JA_ @qxj (JA_ @qyJ (JA_ @qsT (JA_ @qwi (JA_ @qw1 (JA_ @qk0 (JA_ @qyv (JA_ @qvA (JA_ @qus (JA_ @qtV (@qvr)))))))))))))
def bt1:=JA_ @qxh (JA_ @qjV (JA_ @qzz (@qso)))
def bt2:=JA_ @qxN (JA_ @qkb (JA_ @qmI (JA_ @qki (@qzY))))
def bt3:=@qqD
def bt4:=JA_ @qD2 (JA_ @qp8 (JA_ @qxU (JA_ @qAN (@qk6))))
def bt5:=@qpp
def bt6:=JA_ @qtO (JA_ @qia (JA_ @qhN (JA_ @qku (@qsZ))))
def bt7:=JA_ @qvD (JA_ @qej (JA_ @qdf (JA_ @qbU (JA_ @q7r (JA_ @qee (JA_ @qaE (@qbL)))))))
def bA:=JA_ @bx0 (JA_ @bx1 (JA_ @bx2 (JA_ @bx3 (JA_ @bx4 (JA_ @bx5 (JA_ @bx6 (JA_ @bx7 (JA_ @bx8 (JA_ @bx9 (JA_ @qJj (JA_ @qIu (JA_ @qIp (JA_ @qJO (JA_ @qIk (JA_ @qI1 (JA_ @qHC (JA_ @qIy (JA_ @qJZ (JA_ @qHS (JA_ @qKf (JA_ @qIR (JA_ @qIs (JA_ @qIF (JA_ @qIA (JA_ @qIJ (JA_ @bz0 (JA_ @bz1 (JA_ @by0 (JA_ @by1 (JA_ @by2 (JA_ @by3 (JA_ @by4 (JA_ @by5 (JA_ @by6 (JA_ @by7 (JA_ @by8 (JA_ @by9 (JA_ @qIw (JA_ @qHh (JA_ @qHQ (JA_ @qJ6 (JA_ @qKi (JA_ @qHv (JA_ @qHP (JA_ @qIY (JA_ @qHq (JA_ @qJ7 (JA_ @qK5 (JA_ @qIP (JA_ @qIg (JA_ @qIv (JA_ @qHH (JA_ @qHy (JA_ @qHE (JA_ @qJ9 (JA_ @qJo (JA_ @qKc (JA_ @bt0 (JA_ @bt1 (JA_ @bt2 (JA_ @bt3 (JA_ @bt4 (JA_ @bt5 (JA_ @bt6 (@bt7)))))))))))))))))))))))))))))))))))))))))))))))))))))))))))))))))
def bZ:=JA_ @List.length_append.{0} (JA_ @List.length_set.{0} (JA_ @q7K (JA_ @List.length_replicate.{0} (JA_ @List.length_cons.{0} (JA_ @List.length_nil.{0} (JA_ @Nat.zero_add (JA_ @List.flatMap_cons.{0,0} (JA_ @List.flatMap_nil.{0,0} (JA_ @List.map_cons.{0,0} (JA_ @List.map_nil.{0,0} (JA_ @eI.eq_1 (JA_ @eS.eq_1 (JA_ @List.cons_append.{0} (JA_ @List.nil_append.{0} (JA_ @List.append_nil.{0} (JA_ @List.flatMap_append.{0,0} (JA_ @List.map_append.{0,0} (JA_ @q1Y (@J9)))))))))))))))))))
theorem gA {P:Prop} (h:P:=by simp -implicitDefEqProofs (maxSteps:=10000000) only[bA,Int.reduceToNat,Int.reduceLT,Int.reduceLE,Int.reduceAdd,Int.reduceSub,Int.reduceMul,Int.reduceNeg,Int.reduceEq,Int.reduceNe,Int.reduceBEq,Int.reduceBNe,Nat.reduceLT,Nat.reduceAdd,Nat.reduceMul,Nat.reduceSub,Nat.reduceEqDiff,Nat.reduceLeDiff,Nat.reduceBEq,Nat.reduceBNe,↓reduceIte,reduceCtorEq,pure,bind,w64,zL,q2B,Option.or_some,Option.or_none,Option.none_or,Option.some_or, *]<;>simp only[rL,dL,bR,bZ,Nat.reduceAdd]):P:=h
end Go.Proofs.YtgejdfnidjnjcaaGreat.Vc
