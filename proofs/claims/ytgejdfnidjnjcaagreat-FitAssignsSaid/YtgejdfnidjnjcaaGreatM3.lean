/- Part 3 of a proof. -/
import Derived.Test.YtgejdfnidjnjcaaGreatM2
import Derived.Test.YtgejdfnidjnjcaaGreatProg
import Derived.TacticsInMore
import Derived.Below
set_option linter.unusedVariables false
set_option linter.unusedSimpArgs false
set_option linter.defProp false
set_option linter.unusedSectionVars false
set_option linter.unnecessarySimpa false
namespace Go.Proofs.YtgejdfnidjnjcaaGreat.Vc
open Go.RowKit
set_option linter.unusedSimpArgs false
def qjY:Operand := .const (.slice none 0 0)
def qbS (t bt:TypeId):Code :=
 (Code.region 0 #[{ dst:=some 2,op := .assign qjY,type:=t,pos := "slices.go:355", after:=#[],guard:=none }] false).seq
  (((Code.region 1 #[{ dst:=some 3,op := .move (.tmp 0),type:=t,pos := "slices.go:357", after:=#[],guard:=none },
    { dst:=some 4,op := .binOp .eql t (.tmp 3) qjY t,type:=bt,pos := "slices.go:357", after:=#[{ on:=0,ground := .data }],guard:=none }] false).seq
   (Code.cond (.tmp 4) ((Code.region 2 #[{ dst:=some 2,op := .assign qjY,type:=t,pos := "slices.go:358", after:=#[],guard:=none }] false).seq Code.ret) Code.skip)).seq
   ((Code.region 3 #[{ dst:=some 5,op := .buildSlice t 0 #[],type:=t,pos := "slices.go:362", after:=#[],guard:=none },
     { dst:=some 6,op := .move (.tmp 0),type:=t,pos := "slices.go:362", after:=#[],guard:=none },
     { dst:=some 7,op := .call { callee := .builtin .append,args:=#[.tmp 5,.tmp 6],argTypes:=#[t,t] },type:=t,pos := "slices.go:362", after:=#[{ on:=0,ground := .data },{ on:=1,ground := .data }],guard:=none },
     { dst:=some 2,op := .assign (.tmp 7),type:=t,pos := "slices.go:362", after:=#[{ on:=2,ground := .data },{ on:=2,ground := .chain },{ on:=0,ground := .phase },{ on:=1,ground := .phase },{ on:=2,ground := .phase }],guard:=none }] false).seq
    Code.ret))
section
variable {P:Program} {T:Ty} {cx:Cx} {ρ:Pl} {s:S} {a:Act} {w:World}
def po1 (z:Nat) (ro:Bool:=false):Pol:={ q:=fun _=>[z],ow:=fun _=>[],fz:=fun _=>false,kp:=fun _ _=>[],kx:=fun _ _=>[],rw:=fun _ _=>[],ro:=fun _=>ro,dm:=fun _ _=>0,an:=fun _ _=>[],rk:=fun _ _=>[],pr:=fun _=>none }
def E0:Orc:=fun _ _ _ _=>none
theorem qus:Snd P E0:=⟨fun _ _ _ _ _ _ h=>(by cases h),fun _ _ _ _ _ _ _ _ h=>(by cases h)⟩
theorem qyE {q:Nat→List Oper→Bool} {k:Nat}:qz7 P q k (fun _ _ _=>none):=fun _ _ _ _ _ _ _ _ h=>by cases h
def XD0 (P:Program) (T:Ty) (z:Nat) (c:Code) (s:S):XS:=XD P T (po1 z) E0 (fun _ _ _=>none) (iter 0) 0 0 c s
theorem qaw (hA:Ag P T) {z:Nat} {c:Code} {s s':S} {e:Exit} {Q:Exit→S→Prop} (hq:q8g (fun _ _=>false) false c=true) (hk:cx.k=0) (h:XD0 P T z c s=some (e,s')) (hQ:Q e s'):J P cx c Q s :=
 qkC (n:=0) hA qus qyE c s s' e cx Q hq hk (fun h=>by cases h) h hQ
theorem J.nilTest (hA:Ag P T) {id:Nat} {m o:Oper} {x d:Nat} {t t' e:TypeId} {sz n:Nat} {ds:List D} {Q:Exit→S→Prop} (hm:m.op = .move (.tmp x)) (hmg:m.guard=none) (hmd:m.dst=some d) (ho:o.op = .binOp .eql t (.tmp d) qjY t') (hog:o.guard=none)
  (hk:T.k t = .sl e) (hx:s.get x = .c (.d (.sl sz n ds))) (hd:d<s.n) (hod:∀d',o.dst=some d'→d'<s.n)
  (hQ:∀b:Bool,(b=true→n=0∧ds=[])→Q .normal ((s.put (some d) (.c (.d (.sl sz n ds)))).put o.dst (.c (.d (.bool b))))):J P cx (.region id #[m,o] false) Q s:=by
 intro ρ a w hs
 refine wpIn_region_list ?_
 show wpListIn (FW cx.ro) 0 P #[m,o] _ [m,o] a w
 unfold wpListIn
 rw[if_pos (by unfold Region.wanted;rw[hmg])]
 have h1:ox P T s s.nx m.op (fun r s'=>r=s.get x∧s'=s):=by rw[hm];exact⟨rfl,rfl⟩
 refine q9Y hA (fun h=>by have:=hs.nx _ h;omega) hs h1 ?_
 rintro r s2 ρ1 v w1 ⟨rfl,rfl⟩ hs1 hv
 have hs2:=hs1.put (dst:=m.dst) (fun d' hd'=>by rw[hmd] at hd';injection hd' with hd';rw[←hd'];exact hd) hv
 rw[hmd,hx] at hs2
 unfold wpListIn
 rw[if_pos (by unfold Region.wanted;rw[hog])]
 obtain⟨d0,i,z,ht⟩:=hA.at_ (t:=t) (by rw[hk];simp)
 have hkd:=q3s (ht.kd.trans hk)
 subst hkd
 rw[hx] at hv
 obtain⟨A,cap,q1,q2,q3,q4,q5,q6⟩:=hv.inv_sl
 refine qzp cx.ro ?_ (fun c hc=>by rw[ho] at hc;cases hc)
 have hev:(a.put m.dst v).eval (.tmp d)=v:=by
  rw[hmd]
  show(a.tmps.setIfInBounds d v).getD d undef=v
  have hlt:d<a.tmps.size:=by rw[hs1.size];exact hd
  simp[Array.getD_eq_getD_getElem?,hlt]
 have he:execOp (a.put m.dst v).eval o=(do pure (.value (←(do eqGuard .eql t (.tmp d) qjY ((a.put m.dst v).eval (.tmp d)) ((a.put m.dst v).eval qjY);binOp .eql t ((a.put m.dst v).eval (.tmp d)) ((a.put m.dst v).eval qjY))))):=by unfold execOp;simp only[ho]
 have hr:(do eqGuard .eql t (.tmp d) qjY ((a.put m.dst v).eval (.tmp d)) ((a.put m.dst v).eval qjY);binOp .eql t ((a.put m.dst v).eval (.tmp d)) ((a.put m.dst v).eval qjY):Sem Value).run P w1 = .ok (.bool A.isNone) w1:=by
  rw[hev,q1,eqGuard_at_slice]
  show(do binOp .eql t (.slice A n cap) (.slice none 0 0):Sem Value).run P w1=_
  simp only[binOp,Sem.run_bind]
  unfold Op.equal Op.maxDepth Op.equalIn
  simp only[Sem.run_bind,run_underlying ht.ud,Result.andThen_ok]
  cases A<;>rfl
 refine zq he hr ?_
 unfold wpListIn
 rw[hmd]
 refine⟨_,ρ1,hQ A.isNone (fun hb=>?_),hs2.put hod (.c _ _ (.d _ _ (.bool _)))⟩
 rcases q6 with q6|⟨b,off,f,q6,-⟩
 ·subst q6
  rw[Nat.zero_mul] at q5
  exact⟨rfl,List.eq_nil_of_length_eq_zero q5⟩
 ·rw[q6] at hb;cases hb
theorem qkX (hA:Ag P T) {f:FuncId} {fn:Func} {t e bt:TypeId} (hf:P.funcs[f]?=some fn) (hb:fn.body=some (qbS t bt)) (hname:(fn.name == "runtime.NumGoroutine")=false) (hn:fn.ntmps=8) (hr:fn.results.toList=[.tmp 2])
  (hk:T.k t = .sl e) (he:T.k e ≠ .other) (hz:0<T.sz e) (hzl:(T.zero e).length=T.sz e) {n:Nat} {ds:List D} (hl:ds.length=n*T.sz e) (hm1:n≤maxLen) (hm2:n*T.by_ e≤140737488355328) :
  AC P f [.c (.d (.sl (T.sz e) n ds))] [] 0 fun r hp=>r = .c (.d (.sl (T.sz e) n ds))∧hp=[]:=by
 refine AC.enter2 hA hf hb hname (by rw[hn];show(1:Nat)≤8;omega) (fun cx hk0 hro=>?_)
 rw[hn,hr]
 have fin:∀(s:S) (r:R),s.get 2=r→q9S (po1 (T.sz e)) 0 0 [t] s [r]=some (.c (.d (.sl (T.sz e) n ds)),[])→∃rs,rvs T s [.tmp 2]=some rs ∧
   ∀ρ a w,Sim cx ρ s a w→∃rs' hp' nx' ρ',(one rs' = .c (.d (.sl (T.sz e) n ds))∧hp'=[])∧Sim cx ρ' (q17 hp' nx') qah w∧rs'.length=rs.length∧∀(j:Nat) (r r':R) (v:Value),rs[j]?=some r→rs'[j]?=some r'→RR w s.live ρ v r→RR w (q17 hp' nx').live ρ' v r':=by
  intro s r hr h
  refine⟨[r],by simp[rvs,qpO,hr],fun ρ a w hs=>?_⟩
  obtain⟨rs',nx',ρ',g1,g2,g3,g4⟩:=q8u hk0 h hs
  exact⟨rs',[],nx',ρ',⟨g1.symm,rfl⟩,g2,g3,g4⟩
 unfold qbS
 refine J.seq (qaw (z:=T.sz e) hA (by rfl) hk0 (s':=⟨[(2,.c .nils),(0,.c (.d (.sl (T.sz e) n ds)))],[],0,8⟩) (e := .normal) (by rfl) ?_)
 refine J.seq (J.seq (J.nilTest hA rfl rfl rfl rfl rfl hk (by rfl) (by show(3:Nat)<8;omega) (fun d' h=>by injection h with h;subst h;show(4:Nat)<8;omega) (fun b hb0=>?_)))
 cases b with
 | true =>
  obtain⟨rfl,rfl⟩:=hb0 rfl
  refine J.cond (by rfl) (fun _=>?_) (fun h=>by cases h)
  refine qaw (z:=T.sz e) hA (by rfl) hk0 (s':=⟨[(2,.c .nils),(4,.c (.d (.bool true))),(3,.c (.d (.sl (T.sz e) 0 []))),(2,.c .nils),(0,.c (.d (.sl (T.sz e) 0 [])))],[],0,8⟩) (e := .ret) (by rfl) ?_
  refine⟨.inr rfl,fin _ _ rfl ?_⟩
  have hz0:T.sz e≠0:=by omega
  simp[q9S,qfS,qa6,qdm,po1,q4i,R.rows,C.rows,C.rows0,S.frz,qa7,qfg,dzR,dz,one,q3g,rng,R.refs,C.refs,C.ref0,cnR,qjV,cn,cn0,cnH,S.get,lk,hz0,S.blk,B.isBlk,R.ptrs,S.frz1,fzR,qjT,fz,fz0,fzB,vis,q4a,hl,List.eraseDups_cons,pos,B.cells]
 | false =>
  refine J.cond (by rfl) (fun h=>by cases h) (fun _=>?_)
  refine J.skip ?_
  have hall:(ds.map C.d).all C.known=true:=by rw[List.all_map];exact List.all_eq_true.2 fun x _=>rfl
  have hfar:(ds.map C.d).all (C.far 0)=true:=by rw[List.all_map];exact List.all_eq_true.2 fun x _=>rfl
  have hdat:(ds.map C.d).all C.dat=true:=by rw[List.all_map];exact List.all_eq_true.2 fun x _=>rfl
  have hfg:(ds.map C.d).map (C.fg 0)=ds.map C.d:=by rw[List.map_map];rfl
  refine qaw (z:=T.sz e) hA (by rfl) hk0 (s':=⟨[(2,.c (.own 0 (T.sz e) 0 n)),(7,.c (.own 0 (T.sz e) 0 n)),(6,.c (.d (.sl (T.sz e) n ds))),(5,.c .any),(4,.c (.d (.bool false))),(3,.c (.d (.sl (T.sz e) n ds))),(2,.c .nils),(0,.c (.d (.sl (T.sz e) n ds)))],[(0,.row e (T.sz e) (ds.map C.d)),(0,.row e (T.sz e) [])],1,8⟩) (e := .ret) ?_ ?_
  ·simp[XD0,XD,xr,xgd,qeh,qmI,ipX,xst,pre,qw4,q8L,q4i,R.rows,S.frz,xo,xCl,q0N,bld,q5o,S.seq,S.ev,S.get,lk,S.put,S.up,S.fg,R.fg,C.fg,B.fg,S.blk,hk,he,hz,hzl,hl,hm1,hm2,hall,hfar,qbi,sqD,q31,tt,C.known,C.far]
  ·refine⟨.inr rfl,fin _ _ rfl ?_⟩
   have hz0:T.sz e≠0:=by omega
   simp[q9S,qfS,qa6,qdm,po1,q4i,R.rows,C.rows,C.rows0,S.frz,qa7,qfg,dzR,dz,one,q3g,rng,R.refs,C.refs,C.ref0,cnR,qjV,cn,cn0,cnH,S.get,lk,hz0,S.blk,B.isBlk,R.ptrs,S.frz1,fzR,qjT,fz,fz0,fzB,vis,q4a,hl,List.eraseDups_cons,pos,B.cells]
theorem qiq (hA:Ag P T) {f:FuncId} {fn:Func} {t e bt:TypeId} (hf:P.funcs[f]?=some fn) (hb:fn.body=some (qbS t bt)) (hname:(fn.name == "runtime.NumGoroutine")=false) (hn:fn.ntmps=8) (hr:fn.results.toList=[.tmp 2])
  (hk:T.k t = .sl e) (he:T.k e ≠ .other) (hz:0<T.sz e) (hzl:(T.zero e).length=T.sz e) {n:Nat} {ds:List D} (hl:ds.length=n*T.sz e) (hm1:n≤maxLen) (hm2:n*T.by_ e≤140737488355328) :
  AC P f [.c (.d (.sl (T.sz e) n ds))] [] 0 fun r hp=>r = .c (.own 0 (T.sz e) 0 n)∧hp=[(0,.row e (T.sz e) (ds.map C.d))]:=by
 refine AC.enter2 hA hf hb hname (by rw[hn];show(1:Nat)≤8;omega) (fun cx hk0 hro=>?_)
 rw[hn,hr]
 have fin:∀(s:S) (r:R),s.get 2=r→q9S (po1 (T.sz e) true) 0 0 [t] s [r]=some (.c (.own 0 (T.sz e) 0 n),[(0,.row e (T.sz e) (ds.map C.d))])→∃rs,rvs T s [.tmp 2]=some rs ∧
   ∀ρ a w,Sim cx ρ s a w→∃rs' hp' nx' ρ',(one rs' = .c (.own 0 (T.sz e) 0 n)∧hp'=[(0,.row e (T.sz e) (ds.map C.d))])∧Sim cx ρ' (q17 hp' nx') qah w∧rs'.length=rs.length∧∀(j:Nat) (r r':R) (v:Value),rs[j]?=some r→rs'[j]?=some r'→RR w s.live ρ v r→RR w (q17 hp' nx').live ρ' v r':=by
  intro s r hr h
  refine⟨[r],by simp[rvs,qpO,hr],fun ρ a w hs=>?_⟩
  obtain⟨rs',nx',ρ',g1,g2,g3,g4⟩:=q8u hk0 h hs
  exact⟨rs',_,nx',ρ',⟨g1.symm,rfl⟩,g2,g3,g4⟩
 unfold qbS
 refine J.seq (qaw (z:=T.sz e) hA (by rfl) hk0 (s':=⟨[(2,.c .nils),(0,.c (.d (.sl (T.sz e) n ds)))],[],0,8⟩) (e := .normal) (by rfl) ?_)
 refine J.seq (J.seq (J.nilTest hA rfl rfl rfl rfl rfl hk (by rfl) (by show(3:Nat)<8;omega) (fun d' h=>by injection h with h;subst h;show(4:Nat)<8;omega) (fun b hb0=>?_)))
 cases b with
 | true =>
  obtain⟨rfl,rfl⟩:=hb0 rfl
  refine J.cond (by rfl) (fun _=>?_) (fun h=>by cases h)
  refine qaw (z:=T.sz e) hA (by rfl) hk0 (s':=⟨[(2,.c .nils),(4,.c (.d (.bool true))),(3,.c (.d (.sl (T.sz e) 0 []))),(2,.c .nils),(0,.c (.d (.sl (T.sz e) 0 [])))],[],0,8⟩) (e := .ret) (by rfl) ?_
  refine⟨.inr rfl,[.c .nils],rfl,fun ρ a w hs=>?_⟩
  obtain⟨ids,nx',ρ',g1,g2,g3⟩:=qei (rs:=[]) (r' := .tup []) (hp':=[]) hk0 rfl hs
  obtain⟨ρ2,g4,g5⟩:=Sim.rerow (id:=0) (w':=w) (v := .slice none 0 0) (v' := .slice none 0 0) (e:=e) (sz:=T.sz e) (n:=0) (cs:=[]) (us:=[]) g2 (.inr ⟨rfl,fun h=>by unfold S.live S.blk q17 at h;simp[lk,B.live] at h⟩) (World.grownBy.refl w _) (.inl rfl) ⟨by simp,.inl ⟨rfl,rfl⟩⟩ hz (by simp) (by rw[hk0];omega) (fun j c hj=>by simp at hj)
  have hblk:∀i,(q17 [(0,B.row e (T.sz e) [])] 1).blk i=(((q17 [] nx').fg 0).up [(0,B.row e (T.sz e) [])]).blk i:=fun i=>rfl
  have hlive:(q17 [(0,B.row e (T.sz e) [])] 1).live=(((q17 [] nx').fg 0).up [(0,B.row e (T.sz e) [])]).live:=by funext i;unfold S.live;rw[hblk]
  refine⟨[.c (.own 0 (T.sz e) 0 0)],[(0,B.row e (T.sz e) [])],1,ρ2,⟨rfl,rfl⟩,g4.ext (fun i=>rfl) hblk rfl (fun i hi=>?_),rfl,fun j r r' v hj hj' hv=>?_⟩
  ·unfold S.live S.blk q17 at hi
   show i<1
   rcases Nat.lt_or_ge i 1 with h|h
   ·exact h
   ·simp[lk,show ¬ 0=i by omega,B.live] at hi
  ·cases j with
   | zero =>
    simp only[List.getElem?_cons_zero,Option.some.injEq] at hj hj'
    subst hj hj'
    rw[hv.inv_nils,hlive]
    exact g5
   | succ j=>simp at hj
 | false =>
  refine J.cond (by rfl) (fun h=>by cases h) (fun _=>?_)
  refine J.skip ?_
  have hall:(ds.map C.d).all C.known=true:=by rw[List.all_map];exact List.all_eq_true.2 fun x _=>rfl
  have hfar:(ds.map C.d).all (C.far 0)=true:=by rw[List.all_map];exact List.all_eq_true.2 fun x _=>rfl
  have hdat:(ds.map C.d).all C.dat=true:=by rw[List.all_map];exact List.all_eq_true.2 fun x _=>rfl
  have hfg:(ds.map C.d).map (C.fg 0)=ds.map C.d:=by rw[List.map_map];rfl
  refine qaw (z:=T.sz e) hA (by rfl) hk0 (s':=⟨[(2,.c (.own 0 (T.sz e) 0 n)),(7,.c (.own 0 (T.sz e) 0 n)),(6,.c (.d (.sl (T.sz e) n ds))),(5,.c .any),(4,.c (.d (.bool false))),(3,.c (.d (.sl (T.sz e) n ds))),(2,.c .nils),(0,.c (.d (.sl (T.sz e) n ds)))],[(0,.row e (T.sz e) (ds.map C.d)),(0,.row e (T.sz e) [])],1,8⟩) (e := .ret) ?_ ?_
  ·simp[XD0,XD,xr,xgd,qeh,qmI,ipX,xst,pre,qw4,q8L,q4i,R.rows,S.frz,xo,xCl,q0N,bld,q5o,S.seq,S.ev,S.get,lk,S.put,S.up,S.fg,R.fg,C.fg,B.fg,S.blk,hk,he,hz,hzl,hl,hm1,hm2,hall,hfar,qbi,sqD,q31,tt,C.known,C.far]
  ·refine⟨.inr rfl,fin _ _ rfl ?_⟩
   have hz0:T.sz e≠0:=by omega
   have hcn:∀ids,(ds.map C.d).map (cn ids)=ds.map C.d:=fun ids=>by rw[List.map_map];rfl
   simp[cnB,B.live,B.refs,hcn,hdat,q9S,qfS,qa6,qdm,po1,q4i,R.rows,C.rows,C.rows0,S.frz,qa7,qfg,dzR,dz,one,q3g,rng,R.refs,C.refs,C.ref0,cnR,qjV,cn,cn0,cnH,S.get,lk,hz0,S.blk,B.isBlk,R.ptrs,S.frz1,fzR,qjT,fz,fz0,fzB,vis,q4a,hl,List.eraseDups_cons,pos,B.cells]
def q5u (T:Ty) (e:TypeId) (own:Bool):List R→Option (R×List (Nat×B))
 | [.c (.d (.sl z n ds))]=>if z=T.sz e∧ds.length=n*z∧n≤maxLen∧n*T.by_ e≤140737488355328 then(if own=true then some (.c (.own 0 z 0 n),[(0,.row e z (ds.map C.d))]) else some (.c (.d (.sl z n ds)),[])) else none
 | _=>none
theorem qaf (hA:Ag P T) {f:FuncId} {fn:Func} {t e bt:TypeId} (hf:P.funcs[f]?=some fn) (hb:fn.body=some (qbS t bt)) (hname:(fn.name == "runtime.NumGoroutine")=false) (hn:fn.ntmps=8) (hr:fn.results.toList=[.tmp 2])
  (hk:T.k t = .sl e) (he:T.k e ≠ .other) (hz:0<T.sz e) (hzl:(T.zero e).length=T.sz e) {own:Bool} {args:List R} {r:R} {G':List (Nat×B)} (h:q5u T e own args=some (r,G')):AC P f args [] 0 fun r' hp'=>r'=r∧hp'=G':=by
 unfold q5u at h
 split at h
 ·split at h
  ·rename_i hc
   obtain⟨rfl,h1,h2,h3⟩:=hc
   split at h
   ·injection h with h
    injection h with h4 h5
    subst h4 h5
    exact qiq hA hf hb hname hn hr hk he hz hzl h1 h2 h3
   ·injection h with h
    injection h with h4 h5
    subst h4 h5
    exact qkX hA hf hb hname hn hr hk he hz hzl h1 h2 h3
  ·cases h
 ·cases h
end
end Go.Proofs.YtgejdfnidjnjcaaGreat.Vc
namespace Go.Proofs.YtgejdfnidjnjcaaGreat.Vc
def tk (t:TypeId):Kd:=bif Nat.blt t 170 then(bif Nat.blt t 85 then(bif Nat.blt t 42 then(bif Nat.blt t 21 then(bif Nat.blt t 10 then(bif Nat.blt t 5 then(bif Nat.blt t 2 then(bif Nat.blt t 1 then .other else .fn) else(bif Nat.blt t 3 then .int .i64 else(bif Nat.blt t 4 then .int .i64 else .bool))) else(bif Nat.blt t 7 then(bif Nat.blt t 6 then .int .u8 else .int .u8) else(bif Nat.blt t 8 then .st [(0,2),(1,3),(2,4),(3,6)] else(bif Nat.blt t 9 then .st [(0,2),(1,3),(2,4),(3,6)] else .str)))) else(bif Nat.blt t 15 then(bif Nat.blt t 12 then(bif Nat.blt t 11 then .str else .str) else(bif Nat.blt t 13 then .int .u64 else(bif Nat.blt t 14 then .st [(0,9),(1,12)] else .st [(0,9),(1,12)]))) else(bif Nat.blt t 18 then(bif Nat.blt t 16 then .ptr 155 else(bif Nat.blt t 17 then .ptr 158 else .ptr 168)) else(bif Nat.blt t 19 then .st [(0,17)] else(bif Nat.blt t 20 then .st [(0,17)] else .other))))) else(bif Nat.blt t 31 then(bif Nat.blt t 26 then(bif Nat.blt t 23 then(bif Nat.blt t 22 then .int .i32 else .sl 3) else(bif Nat.blt t 24 then .arr 3 3 else(bif Nat.blt t 25 then .arr 2 23 else .st [(0,22),(1,22),(2,24)]))) else(bif Nat.blt t 28 then(bif Nat.blt t 27 then .st [(0,22),(1,22),(2,24)] else .sl 51) else(bif Nat.blt t 29 then .sl 30 else(bif Nat.blt t 30 then .st [(0,3),(1,3),(2,3),(3,27),(4,28)] else .st [(0,3),(1,3),(2,3),(3,27),(4,28)])))) else(bif Nat.blt t 36 then(bif Nat.blt t 33 then(bif Nat.blt t 32 then .st [(0,3),(1,3),(2,3)] else .st [(0,3),(1,3),(2,3)]) else(bif Nat.blt t 34 then .sl 53 else(bif Nat.blt t 35 then .st [(0,30),(5,32),(8,33)] else .st [(0,30),(5,32),(8,33)]))) else(bif Nat.blt t 39 then(bif Nat.blt t 37 then .fn else(bif Nat.blt t 38 then .other else .fn)) else(bif Nat.blt t 40 then .fn else(bif Nat.blt t 41 then .fn else .fn)))))) else(bif Nat.blt t 63 then(bif Nat.blt t 52 then(bif Nat.blt t 47 then(bif Nat.blt t 44 then(bif Nat.blt t 43 then .sl 33 else .fn) else(bif Nat.blt t 45 then .sl 32 else(bif Nat.blt t 46 then .sl 4 else .int .i64))) else(bif Nat.blt t 49 then(bif Nat.blt t 48 then .other else .fn) else(bif Nat.blt t 50 then .fn else(bif Nat.blt t 51 then .st [(0,3),(1,9)] else .st [(0,3),(1,9)])))) else(bif Nat.blt t 57 then(bif Nat.blt t 54 then(bif Nat.blt t 53 then .st [(0,51),(2,3),(3,3),(4,3),(5,22),(6,3),(7,22)] else .st [(0,51),(2,3),(3,3),(4,3),(5,22),(6,3),(7,22)]) else(bif Nat.blt t 55 then .fn else(bif Nat.blt t 56 then .fn else .fn))) else(bif Nat.blt t 60 then(bif Nat.blt t 58 then .other else(bif Nat.blt t 59 then .fn else .fn)) else(bif Nat.blt t 61 then .fn else(bif Nat.blt t 62 then .sl 22 else .fn))))) else(bif Nat.blt t 74 then(bif Nat.blt t 68 then(bif Nat.blt t 65 then(bif Nat.blt t 64 then .fn else .fn) else(bif Nat.blt t 66 then .fn else(bif Nat.blt t 67 then .other else .fn))) else(bif Nat.blt t 71 then(bif Nat.blt t 69 then .fn else(bif Nat.blt t 70 then .fn else .fn)) else(bif Nat.blt t 72 then .fn else(bif Nat.blt t 73 then .ptr 30 else .sl 9)))) else(bif Nat.blt t 79 then(bif Nat.blt t 76 then(bif Nat.blt t 75 then .sl 5 else .fn) else(bif Nat.blt t 77 then .fn else(bif Nat.blt t 78 then .sl 4 else .fn))) else(bif Nat.blt t 82 then(bif Nat.blt t 80 then .ptr 81 else(bif Nat.blt t 81 then .st [(0,32),(3,33),(4,22),(5,3)] else .st [(0,32),(3,33),(4,22),(5,3)])) else(bif Nat.blt t 83 then .fn else(bif Nat.blt t 84 then .fn else .fn))))))) else(bif Nat.blt t 127 then(bif Nat.blt t 106 then(bif Nat.blt t 95 then(bif Nat.blt t 90 then(bif Nat.blt t 87 then(bif Nat.blt t 86 then .fn else .fn) else(bif Nat.blt t 88 then .fn else(bif Nat.blt t 89 then .fn else .fn))) else(bif Nat.blt t 92 then(bif Nat.blt t 91 then .st [(0,3),(1,3),(2,4)] else .st [(0,3),(1,3),(2,4)]) else(bif Nat.blt t 93 then .fn else(bif Nat.blt t 94 then .fn else .fn)))) else(bif Nat.blt t 100 then(bif Nat.blt t 97 then(bif Nat.blt t 96 then .other else .ptr 98) else(bif Nat.blt t 98 then .st [(0,32),(3,33),(4,22),(5,3)] else(bif Nat.blt t 99 then .st [(0,32),(3,33),(4,22),(5,3)] else .st [(0,4),(1,4)]))) else(bif Nat.blt t 103 then(bif Nat.blt t 101 then .st [(0,4),(1,4)] else(bif Nat.blt t 102 then .fn else .fn)) else(bif Nat.blt t 104 then .ptr 105 else(bif Nat.blt t 105 then .st [(0,22),(1,3)] else .st [(0,22),(1,3)]))))) else(bif Nat.blt t 116 then(bif Nat.blt t 111 then(bif Nat.blt t 108 then(bif Nat.blt t 107 then .ptr 107 else .st [(0,22),(1,3)]) else(bif Nat.blt t 109 then .fn else(bif Nat.blt t 110 then .fn else .other))) else(bif Nat.blt t 113 then(bif Nat.blt t 112 then .fn else .fn) else(bif Nat.blt t 114 then .mp 3 116 else(bif Nat.blt t 115 then .fn else .st [(0,75)])))) else(bif Nat.blt t 121 then(bif Nat.blt t 118 then(bif Nat.blt t 117 then .st [(0,75)] else .other) else(bif Nat.blt t 119 then .fn else(bif Nat.blt t 120 then .sl 3 else .fn))) else(bif Nat.blt t 124 then(bif Nat.blt t 122 then .fn else(bif Nat.blt t 123 then .sl 126 else .other)) else(bif Nat.blt t 125 then .fn else(bif Nat.blt t 126 then .st [(0,30),(5,3)] else .st [(0,30),(5,3)])))))) else(bif Nat.blt t 148 then(bif Nat.blt t 137 then(bif Nat.blt t 132 then(bif Nat.blt t 129 then(bif Nat.blt t 128 then .fn else .fn) else(bif Nat.blt t 130 then .fn else(bif Nat.blt t 131 then .fn else .fn))) else(bif Nat.blt t 134 then(bif Nat.blt t 133 then .fn else .fn) else(bif Nat.blt t 135 then .fn else(bif Nat.blt t 136 then .fn else .fn)))) else(bif Nat.blt t 142 then(bif Nat.blt t 139 then(bif Nat.blt t 138 then .fn else .fn) else(bif Nat.blt t 140 then .fn else(bif Nat.blt t 141 then .fn else .fn))) else(bif Nat.blt t 145 then(bif Nat.blt t 143 then .fn else(bif Nat.blt t 144 then .fn else .fn)) else(bif Nat.blt t 146 then .fn else(bif Nat.blt t 147 then .fn else .fn))))) else(bif Nat.blt t 159 then(bif Nat.blt t 153 then(bif Nat.blt t 150 then(bif Nat.blt t 149 then .fn else .fn) else(bif Nat.blt t 151 then .fn else(bif Nat.blt t 152 then .fn else .fn))) else(bif Nat.blt t 156 then(bif Nat.blt t 154 then .fn else(bif Nat.blt t 155 then .st [(0,17),(1,17),(2,17),(3,9)] else .st [(0,17),(1,17),(2,17),(3,9)])) else(bif Nat.blt t 157 then .arr 0 16 else(bif Nat.blt t 158 then .st [(0,156)] else .st [(0,156)])))) else(bif Nat.blt t 164 then(bif Nat.blt t 161 then(bif Nat.blt t 160 then .fn else .int .u32) else(bif Nat.blt t 162 then .int .u8 else(bif Nat.blt t 163 then .int .u8 else .fn))) else(bif Nat.blt t 167 then(bif Nat.blt t 165 then .ptr 5 else(bif Nat.blt t 166 then .int .i32 else .int .i32)) else(bif Nat.blt t 168 then .st [(0,12),(1,12),(2,160),(3,161),(4,5),(5,5),(6,162),(7,163),(8,164),(9,165),(10,166)] else(bif Nat.blt t 169 then .st [(0,12),(1,12),(2,160),(3,161),(4,5),(5,5),(6,162),(7,163),(8,164),(9,165),(10,166)] else .other)))))))) else .other
def tz (t:TypeId):Nat:=bif Nat.blt t 170 then(bif Nat.blt t 85 then(bif Nat.blt t 42 then(bif Nat.blt t 21 then(bif Nat.blt t 10 then(bif Nat.blt t 5 then(bif Nat.blt t 2 then(bif Nat.blt t 1 then 0 else 1) else(bif Nat.blt t 3 then 1 else(bif Nat.blt t 4 then 1 else 1))) else(bif Nat.blt t 7 then(bif Nat.blt t 6 then 1 else 1) else(bif Nat.blt t 8 then 4 else(bif Nat.blt t 9 then 4 else 1)))) else(bif Nat.blt t 15 then(bif Nat.blt t 12 then(bif Nat.blt t 11 then 1 else 1) else(bif Nat.blt t 13 then 1 else(bif Nat.blt t 14 then 2 else 2))) else(bif Nat.blt t 18 then(bif Nat.blt t 16 then 1 else(bif Nat.blt t 17 then 1 else 1)) else(bif Nat.blt t 19 then 1 else(bif Nat.blt t 20 then 1 else 0))))) else(bif Nat.blt t 31 then(bif Nat.blt t 26 then(bif Nat.blt t 23 then(bif Nat.blt t 22 then 1 else 1) else(bif Nat.blt t 24 then 3 else(bif Nat.blt t 25 then 6 else 8))) else(bif Nat.blt t 28 then(bif Nat.blt t 27 then 8 else 1) else(bif Nat.blt t 29 then 1 else(bif Nat.blt t 30 then 5 else 5)))) else(bif Nat.blt t 36 then(bif Nat.blt t 33 then(bif Nat.blt t 32 then 3 else 3) else(bif Nat.blt t 34 then 1 else(bif Nat.blt t 35 then 9 else 9))) else(bif Nat.blt t 39 then(bif Nat.blt t 37 then 1 else(bif Nat.blt t 38 then 0 else 1)) else(bif Nat.blt t 40 then 1 else(bif Nat.blt t 41 then 1 else 1)))))) else(bif Nat.blt t 63 then(bif Nat.blt t 52 then(bif Nat.blt t 47 then(bif Nat.blt t 44 then(bif Nat.blt t 43 then 1 else 1) else(bif Nat.blt t 45 then 1 else(bif Nat.blt t 46 then 1 else 1))) else(bif Nat.blt t 49 then(bif Nat.blt t 48 then 0 else 1) else(bif Nat.blt t 50 then 1 else(bif Nat.blt t 51 then 2 else 2)))) else(bif Nat.blt t 57 then(bif Nat.blt t 54 then(bif Nat.blt t 53 then 8 else 8) else(bif Nat.blt t 55 then 1 else(bif Nat.blt t 56 then 1 else 1))) else(bif Nat.blt t 60 then(bif Nat.blt t 58 then 0 else(bif Nat.blt t 59 then 1 else 1)) else(bif Nat.blt t 61 then 1 else(bif Nat.blt t 62 then 1 else 1))))) else(bif Nat.blt t 74 then(bif Nat.blt t 68 then(bif Nat.blt t 65 then(bif Nat.blt t 64 then 1 else 1) else(bif Nat.blt t 66 then 1 else(bif Nat.blt t 67 then 0 else 1))) else(bif Nat.blt t 71 then(bif Nat.blt t 69 then 1 else(bif Nat.blt t 70 then 1 else 1)) else(bif Nat.blt t 72 then 1 else(bif Nat.blt t 73 then 1 else 1)))) else(bif Nat.blt t 79 then(bif Nat.blt t 76 then(bif Nat.blt t 75 then 1 else 1) else(bif Nat.blt t 77 then 1 else(bif Nat.blt t 78 then 1 else 1))) else(bif Nat.blt t 82 then(bif Nat.blt t 80 then 1 else(bif Nat.blt t 81 then 6 else 6)) else(bif Nat.blt t 83 then 1 else(bif Nat.blt t 84 then 1 else 1))))))) else(bif Nat.blt t 127 then(bif Nat.blt t 106 then(bif Nat.blt t 95 then(bif Nat.blt t 90 then(bif Nat.blt t 87 then(bif Nat.blt t 86 then 1 else 1) else(bif Nat.blt t 88 then 1 else(bif Nat.blt t 89 then 1 else 1))) else(bif Nat.blt t 92 then(bif Nat.blt t 91 then 3 else 3) else(bif Nat.blt t 93 then 1 else(bif Nat.blt t 94 then 1 else 1)))) else(bif Nat.blt t 100 then(bif Nat.blt t 97 then(bif Nat.blt t 96 then 0 else 1) else(bif Nat.blt t 98 then 6 else(bif Nat.blt t 99 then 6 else 2))) else(bif Nat.blt t 103 then(bif Nat.blt t 101 then 2 else(bif Nat.blt t 102 then 1 else 1)) else(bif Nat.blt t 104 then 1 else(bif Nat.blt t 105 then 2 else 2))))) else(bif Nat.blt t 116 then(bif Nat.blt t 111 then(bif Nat.blt t 108 then(bif Nat.blt t 107 then 1 else 2) else(bif Nat.blt t 109 then 1 else(bif Nat.blt t 110 then 1 else 0))) else(bif Nat.blt t 113 then(bif Nat.blt t 112 then 1 else 1) else(bif Nat.blt t 114 then 1 else(bif Nat.blt t 115 then 1 else 1)))) else(bif Nat.blt t 121 then(bif Nat.blt t 118 then(bif Nat.blt t 117 then 1 else 0) else(bif Nat.blt t 119 then 1 else(bif Nat.blt t 120 then 1 else 1))) else(bif Nat.blt t 124 then(bif Nat.blt t 122 then 1 else(bif Nat.blt t 123 then 1 else 0)) else(bif Nat.blt t 125 then 1 else(bif Nat.blt t 126 then 6 else 6)))))) else(bif Nat.blt t 148 then(bif Nat.blt t 137 then(bif Nat.blt t 132 then(bif Nat.blt t 129 then(bif Nat.blt t 128 then 1 else 1) else(bif Nat.blt t 130 then 1 else(bif Nat.blt t 131 then 1 else 1))) else(bif Nat.blt t 134 then(bif Nat.blt t 133 then 1 else 1) else(bif Nat.blt t 135 then 1 else(bif Nat.blt t 136 then 1 else 1)))) else(bif Nat.blt t 142 then(bif Nat.blt t 139 then(bif Nat.blt t 138 then 1 else 1) else(bif Nat.blt t 140 then 1 else(bif Nat.blt t 141 then 1 else 1))) else(bif Nat.blt t 145 then(bif Nat.blt t 143 then 1 else(bif Nat.blt t 144 then 1 else 1)) else(bif Nat.blt t 146 then 1 else(bif Nat.blt t 147 then 1 else 1))))) else(bif Nat.blt t 159 then(bif Nat.blt t 153 then(bif Nat.blt t 150 then(bif Nat.blt t 149 then 1 else 1) else(bif Nat.blt t 151 then 1 else(bif Nat.blt t 152 then 1 else 1))) else(bif Nat.blt t 156 then(bif Nat.blt t 154 then 1 else(bif Nat.blt t 155 then 4 else 4)) else(bif Nat.blt t 157 then 0 else(bif Nat.blt t 158 then 0 else 0)))) else(bif Nat.blt t 164 then(bif Nat.blt t 161 then(bif Nat.blt t 160 then 1 else 1) else(bif Nat.blt t 162 then 1 else(bif Nat.blt t 163 then 1 else 1))) else(bif Nat.blt t 167 then(bif Nat.blt t 165 then 1 else(bif Nat.blt t 166 then 1 else 1)) else(bif Nat.blt t 168 then 11 else(bif Nat.blt t 169 then 11 else 0)))))))) else 0
def tb (t:TypeId):Nat:=bif Nat.blt t 170 then(bif Nat.blt t 85 then(bif Nat.blt t 42 then(bif Nat.blt t 21 then(bif Nat.blt t 10 then(bif Nat.blt t 5 then(bif Nat.blt t 2 then(bif Nat.blt t 1 then 0 else 8) else(bif Nat.blt t 3 then 8 else(bif Nat.blt t 4 then 8 else 1))) else(bif Nat.blt t 7 then(bif Nat.blt t 6 then 1 else 1) else(bif Nat.blt t 8 then 24 else(bif Nat.blt t 9 then 24 else 16)))) else(bif Nat.blt t 15 then(bif Nat.blt t 12 then(bif Nat.blt t 11 then 16 else 16) else(bif Nat.blt t 13 then 8 else(bif Nat.blt t 14 then 24 else 24))) else(bif Nat.blt t 18 then(bif Nat.blt t 16 then 8 else(bif Nat.blt t 17 then 8 else 8)) else(bif Nat.blt t 19 then 8 else(bif Nat.blt t 20 then 8 else 0))))) else(bif Nat.blt t 31 then(bif Nat.blt t 26 then(bif Nat.blt t 23 then(bif Nat.blt t 22 then 4 else 24) else(bif Nat.blt t 24 then 24 else(bif Nat.blt t 25 then 48 else 96))) else(bif Nat.blt t 28 then(bif Nat.blt t 27 then 96 else 24) else(bif Nat.blt t 29 then 24 else(bif Nat.blt t 30 then 72 else 72)))) else(bif Nat.blt t 36 then(bif Nat.blt t 33 then(bif Nat.blt t 32 then 24 else 24) else(bif Nat.blt t 34 then 24 else(bif Nat.blt t 35 then 120 else 120))) else(bif Nat.blt t 39 then(bif Nat.blt t 37 then 8 else(bif Nat.blt t 38 then 0 else 8)) else(bif Nat.blt t 40 then 8 else(bif Nat.blt t 41 then 8 else 8)))))) else(bif Nat.blt t 63 then(bif Nat.blt t 52 then(bif Nat.blt t 47 then(bif Nat.blt t 44 then(bif Nat.blt t 43 then 24 else 8) else(bif Nat.blt t 45 then 24 else(bif Nat.blt t 46 then 24 else 8))) else(bif Nat.blt t 49 then(bif Nat.blt t 48 then 0 else 8) else(bif Nat.blt t 50 then 8 else(bif Nat.blt t 51 then 24 else 24)))) else(bif Nat.blt t 57 then(bif Nat.blt t 54 then(bif Nat.blt t 53 then 104 else 104) else(bif Nat.blt t 55 then 8 else(bif Nat.blt t 56 then 8 else 8))) else(bif Nat.blt t 60 then(bif Nat.blt t 58 then 0 else(bif Nat.blt t 59 then 8 else 8)) else(bif Nat.blt t 61 then 8 else(bif Nat.blt t 62 then 24 else 8))))) else(bif Nat.blt t 74 then(bif Nat.blt t 68 then(bif Nat.blt t 65 then(bif Nat.blt t 64 then 8 else 8) else(bif Nat.blt t 66 then 8 else(bif Nat.blt t 67 then 0 else 8))) else(bif Nat.blt t 71 then(bif Nat.blt t 69 then 8 else(bif Nat.blt t 70 then 8 else 8)) else(bif Nat.blt t 72 then 8 else(bif Nat.blt t 73 then 8 else 24)))) else(bif Nat.blt t 79 then(bif Nat.blt t 76 then(bif Nat.blt t 75 then 24 else 8) else(bif Nat.blt t 77 then 8 else(bif Nat.blt t 78 then 24 else 8))) else(bif Nat.blt t 82 then(bif Nat.blt t 80 then 8 else(bif Nat.blt t 81 then 80 else 80)) else(bif Nat.blt t 83 then 8 else(bif Nat.blt t 84 then 8 else 8))))))) else(bif Nat.blt t 127 then(bif Nat.blt t 106 then(bif Nat.blt t 95 then(bif Nat.blt t 90 then(bif Nat.blt t 87 then(bif Nat.blt t 86 then 8 else 8) else(bif Nat.blt t 88 then 8 else(bif Nat.blt t 89 then 8 else 8))) else(bif Nat.blt t 92 then(bif Nat.blt t 91 then 24 else 24) else(bif Nat.blt t 93 then 8 else(bif Nat.blt t 94 then 8 else 8)))) else(bif Nat.blt t 100 then(bif Nat.blt t 97 then(bif Nat.blt t 96 then 0 else 8) else(bif Nat.blt t 98 then 80 else(bif Nat.blt t 99 then 80 else 2))) else(bif Nat.blt t 103 then(bif Nat.blt t 101 then 2 else(bif Nat.blt t 102 then 8 else 8)) else(bif Nat.blt t 104 then 8 else(bif Nat.blt t 105 then 32 else 32))))) else(bif Nat.blt t 116 then(bif Nat.blt t 111 then(bif Nat.blt t 108 then(bif Nat.blt t 107 then 8 else 32) else(bif Nat.blt t 109 then 8 else(bif Nat.blt t 110 then 8 else 0))) else(bif Nat.blt t 113 then(bif Nat.blt t 112 then 8 else 8) else(bif Nat.blt t 114 then 8 else(bif Nat.blt t 115 then 8 else 8)))) else(bif Nat.blt t 121 then(bif Nat.blt t 118 then(bif Nat.blt t 117 then 8 else 0) else(bif Nat.blt t 119 then 8 else(bif Nat.blt t 120 then 24 else 8))) else(bif Nat.blt t 124 then(bif Nat.blt t 122 then 8 else(bif Nat.blt t 123 then 24 else 0)) else(bif Nat.blt t 125 then 8 else(bif Nat.blt t 126 then 80 else 80)))))) else(bif Nat.blt t 148 then(bif Nat.blt t 137 then(bif Nat.blt t 132 then(bif Nat.blt t 129 then(bif Nat.blt t 128 then 8 else 8) else(bif Nat.blt t 130 then 8 else(bif Nat.blt t 131 then 8 else 8))) else(bif Nat.blt t 134 then(bif Nat.blt t 133 then 8 else 8) else(bif Nat.blt t 135 then 8 else(bif Nat.blt t 136 then 8 else 8)))) else(bif Nat.blt t 142 then(bif Nat.blt t 139 then(bif Nat.blt t 138 then 8 else 8) else(bif Nat.blt t 140 then 8 else(bif Nat.blt t 141 then 8 else 8))) else(bif Nat.blt t 145 then(bif Nat.blt t 143 then 8 else(bif Nat.blt t 144 then 8 else 8)) else(bif Nat.blt t 146 then 8 else(bif Nat.blt t 147 then 8 else 8))))) else(bif Nat.blt t 159 then(bif Nat.blt t 153 then(bif Nat.blt t 150 then(bif Nat.blt t 149 then 8 else 8) else(bif Nat.blt t 151 then 8 else(bif Nat.blt t 152 then 8 else 8))) else(bif Nat.blt t 156 then(bif Nat.blt t 154 then 8 else(bif Nat.blt t 155 then 40 else 40)) else(bif Nat.blt t 157 then 0 else(bif Nat.blt t 158 then 0 else 0)))) else(bif Nat.blt t 164 then(bif Nat.blt t 161 then(bif Nat.blt t 160 then 8 else 4) else(bif Nat.blt t 162 then 1 else(bif Nat.blt t 163 then 1 else 8))) else(bif Nat.blt t 167 then(bif Nat.blt t 165 then 8 else(bif Nat.blt t 166 then 4 else 4)) else(bif Nat.blt t 168 then 48 else(bif Nat.blt t 169 then 48 else 0)))))))) else 0
def t0 (t:TypeId):List C:=bif Nat.blt t 170 then(bif Nat.blt t 85 then(bif Nat.blt t 42 then(bif Nat.blt t 21 then(bif Nat.blt t 10 then(bif Nat.blt t 5 then(bif Nat.blt t 2 then(bif Nat.blt t 1 then[] else[.nilf]) else(bif Nat.blt t 3 then[.d (.int .i64 0)] else(bif Nat.blt t 4 then[.d (.int .i64 0)] else[.d (.bool false)]))) else(bif Nat.blt t 7 then(bif Nat.blt t 6 then[.d (.int .u8 0)] else[.d (.int .u8 0)]) else(bif Nat.blt t 8 then[.d (.int .i64 0),.d (.int .i64 0),.d (.bool false),.d (.int .u8 0)] else(bif Nat.blt t 9 then[.d (.int .i64 0),.d (.int .i64 0),.d (.bool false),.d (.int .u8 0)] else[.d (.str ⟨#[]⟩)])))) else(bif Nat.blt t 15 then(bif Nat.blt t 12 then(bif Nat.blt t 11 then[.d (.str ⟨#[]⟩)] else[.d (.str ⟨#[]⟩)]) else(bif Nat.blt t 13 then[.d (.int .u64 0)] else(bif Nat.blt t 14 then[.d (.str ⟨#[]⟩),.d (.int .u64 0)] else[.d (.str ⟨#[]⟩),.d (.int .u64 0)]))) else(bif Nat.blt t 18 then(bif Nat.blt t 16 then[.nilp] else(bif Nat.blt t 17 then[.nilp] else[.nilp])) else(bif Nat.blt t 19 then[.nilp] else(bif Nat.blt t 20 then[.nilp] else[]))))) else(bif Nat.blt t 31 then(bif Nat.blt t 26 then(bif Nat.blt t 23 then(bif Nat.blt t 22 then[.d (.int .i32 0)] else[.nils]) else(bif Nat.blt t 24 then[.d (.int .i64 0),.d (.int .i64 0),.d (.int .i64 0)] else(bif Nat.blt t 25 then[.d (.int .i64 0),.d (.int .i64 0),.d (.int .i64 0),.d (.int .i64 0),.d (.int .i64 0),.d (.int .i64 0)] else[.nils,.nils,.d (.int .i64 0),.d (.int .i64 0),.d (.int .i64 0),.d (.int .i64 0),.d (.int .i64 0),.d (.int .i64 0)]))) else(bif Nat.blt t 28 then(bif Nat.blt t 27 then[.nils,.nils,.d (.int .i64 0),.d (.int .i64 0),.d (.int .i64 0),.d (.int .i64 0),.d (.int .i64 0),.d (.int .i64 0)] else[.nils]) else(bif Nat.blt t 29 then[.nils] else(bif Nat.blt t 30 then[.d (.int .i64 0),.d (.int .i64 0),.d (.int .i64 0),.nils,.nils] else[.d (.int .i64 0),.d (.int .i64 0),.d (.int .i64 0),.nils,.nils])))) else(bif Nat.blt t 36 then(bif Nat.blt t 33 then(bif Nat.blt t 32 then[.d (.int .i64 0),.d (.int .i64 0),.d (.int .i64 0)] else[.d (.int .i64 0),.d (.int .i64 0),.d (.int .i64 0)]) else(bif Nat.blt t 34 then[.nils] else(bif Nat.blt t 35 then[.d (.int .i64 0),.d (.int .i64 0),.d (.int .i64 0),.nils,.nils,.d (.int .i64 0),.d (.int .i64 0),.d (.int .i64 0),.nils] else[.d (.int .i64 0),.d (.int .i64 0),.d (.int .i64 0),.nils,.nils,.d (.int .i64 0),.d (.int .i64 0),.d (.int .i64 0),.nils]))) else(bif Nat.blt t 39 then(bif Nat.blt t 37 then[.nilf] else(bif Nat.blt t 38 then[] else[.nilf])) else(bif Nat.blt t 40 then[.nilf] else(bif Nat.blt t 41 then[.nilf] else[.nilf])))))) else(bif Nat.blt t 63 then(bif Nat.blt t 52 then(bif Nat.blt t 47 then(bif Nat.blt t 44 then(bif Nat.blt t 43 then[.nils] else[.nilf]) else(bif Nat.blt t 45 then[.nils] else(bif Nat.blt t 46 then[.nils] else[.d (.int .i64 0)]))) else(bif Nat.blt t 49 then(bif Nat.blt t 48 then[] else[.nilf]) else(bif Nat.blt t 50 then[.nilf] else(bif Nat.blt t 51 then[.d (.int .i64 0),.d (.str ⟨#[]⟩)] else[.d (.int .i64 0),.d (.str ⟨#[]⟩)])))) else(bif Nat.blt t 57 then(bif Nat.blt t 54 then(bif Nat.blt t 53 then[.d (.int .i64 0),.d (.str ⟨#[]⟩),.d (.int .i64 0),.d (.int .i64 0),.d (.int .i64 0),.nils,.d (.int .i64 0),.nils] else[.d (.int .i64 0),.d (.str ⟨#[]⟩),.d (.int .i64 0),.d (.int .i64 0),.d (.int .i64 0),.nils,.d (.int .i64 0),.nils]) else(bif Nat.blt t 55 then[.nilf] else(bif Nat.blt t 56 then[.nilf] else[.nilf]))) else(bif Nat.blt t 60 then(bif Nat.blt t 58 then[] else(bif Nat.blt t 59 then[.nilf] else[.nilf])) else(bif Nat.blt t 61 then[.nilf] else(bif Nat.blt t 62 then[.nils] else[.nilf]))))) else(bif Nat.blt t 74 then(bif Nat.blt t 68 then(bif Nat.blt t 65 then(bif Nat.blt t 64 then[.nilf] else[.nilf]) else(bif Nat.blt t 66 then[.nilf] else(bif Nat.blt t 67 then[] else[.nilf]))) else(bif Nat.blt t 71 then(bif Nat.blt t 69 then[.nilf] else(bif Nat.blt t 70 then[.nilf] else[.nilf])) else(bif Nat.blt t 72 then[.nilf] else(bif Nat.blt t 73 then[.nilp] else[.nils])))) else(bif Nat.blt t 79 then(bif Nat.blt t 76 then(bif Nat.blt t 75 then[.nils] else[.nilf]) else(bif Nat.blt t 77 then[.nilf] else(bif Nat.blt t 78 then[.nils] else[.nilf]))) else(bif Nat.blt t 82 then(bif Nat.blt t 80 then[.nilp] else(bif Nat.blt t 81 then[.d (.int .i64 0),.d (.int .i64 0),.d (.int .i64 0),.nils,.nils,.d (.int .i64 0)] else[.d (.int .i64 0),.d (.int .i64 0),.d (.int .i64 0),.nils,.nils,.d (.int .i64 0)])) else(bif Nat.blt t 83 then[.nilf] else(bif Nat.blt t 84 then[.nilf] else[.nilf]))))))) else(bif Nat.blt t 127 then(bif Nat.blt t 106 then(bif Nat.blt t 95 then(bif Nat.blt t 90 then(bif Nat.blt t 87 then(bif Nat.blt t 86 then[.nilf] else[.nilf]) else(bif Nat.blt t 88 then[.nilf] else(bif Nat.blt t 89 then[.nilf] else[.nilf]))) else(bif Nat.blt t 92 then(bif Nat.blt t 91 then[.d (.int .i64 0),.d (.int .i64 0),.d (.bool false)] else[.d (.int .i64 0),.d (.int .i64 0),.d (.bool false)]) else(bif Nat.blt t 93 then[.nilf] else(bif Nat.blt t 94 then[.nilf] else[.nilf])))) else(bif Nat.blt t 100 then(bif Nat.blt t 97 then(bif Nat.blt t 96 then[] else[.nilp]) else(bif Nat.blt t 98 then[.d (.int .i64 0),.d (.int .i64 0),.d (.int .i64 0),.nils,.nils,.d (.int .i64 0)] else(bif Nat.blt t 99 then[.d (.int .i64 0),.d (.int .i64 0),.d (.int .i64 0),.nils,.nils,.d (.int .i64 0)] else[.d (.bool false),.d (.bool false)]))) else(bif Nat.blt t 103 then(bif Nat.blt t 101 then[.d (.bool false),.d (.bool false)] else(bif Nat.blt t 102 then[.nilf] else[.nilf])) else(bif Nat.blt t 104 then[.nilp] else(bif Nat.blt t 105 then[.nils,.d (.int .i64 0)] else[.nils,.d (.int .i64 0)]))))) else(bif Nat.blt t 116 then(bif Nat.blt t 111 then(bif Nat.blt t 108 then(bif Nat.blt t 107 then[.nilp] else[.nils,.d (.int .i64 0)]) else(bif Nat.blt t 109 then[.nilf] else(bif Nat.blt t 110 then[.nilf] else[]))) else(bif Nat.blt t 113 then(bif Nat.blt t 112 then[.nilf] else[.nilf]) else(bif Nat.blt t 114 then[.nilm] else(bif Nat.blt t 115 then[.nilf] else[.nilf])))) else(bif Nat.blt t 121 then(bif Nat.blt t 118 then(bif Nat.blt t 117 then[.nilf] else[]) else(bif Nat.blt t 119 then[.nilf] else(bif Nat.blt t 120 then[.nils] else[.nilf]))) else(bif Nat.blt t 124 then(bif Nat.blt t 122 then[.nilf] else(bif Nat.blt t 123 then[.nils] else[])) else(bif Nat.blt t 125 then[.nilf] else(bif Nat.blt t 126 then[.d (.int .i64 0),.d (.int .i64 0),.d (.int .i64 0),.nils,.nils,.d (.int .i64 0)] else[.d (.int .i64 0),.d (.int .i64 0),.d (.int .i64 0),.nils,.nils,.d (.int .i64 0)])))))) else(bif Nat.blt t 148 then(bif Nat.blt t 137 then(bif Nat.blt t 132 then(bif Nat.blt t 129 then(bif Nat.blt t 128 then[.nilf] else[.nilf]) else(bif Nat.blt t 130 then[.nilf] else(bif Nat.blt t 131 then[.nilf] else[.nilf]))) else(bif Nat.blt t 134 then(bif Nat.blt t 133 then[.nilf] else[.nilf]) else(bif Nat.blt t 135 then[.nilf] else(bif Nat.blt t 136 then[.nilf] else[.nilf])))) else(bif Nat.blt t 142 then(bif Nat.blt t 139 then(bif Nat.blt t 138 then[.nilf] else[.nilf]) else(bif Nat.blt t 140 then[.nilf] else(bif Nat.blt t 141 then[.nilf] else[.nilf]))) else(bif Nat.blt t 145 then(bif Nat.blt t 143 then[.nilf] else(bif Nat.blt t 144 then[.nilf] else[.nilf])) else(bif Nat.blt t 146 then[.nilf] else(bif Nat.blt t 147 then[.nilf] else[.nilf]))))) else(bif Nat.blt t 159 then(bif Nat.blt t 153 then(bif Nat.blt t 150 then(bif Nat.blt t 149 then[.nilf] else[.nilf]) else(bif Nat.blt t 151 then[.nilf] else(bif Nat.blt t 152 then[.nilf] else[.nilf]))) else(bif Nat.blt t 156 then(bif Nat.blt t 154 then[.nilf] else(bif Nat.blt t 155 then[.nilp,.nilp,.nilp,.d (.str ⟨#[]⟩)] else[.nilp,.nilp,.nilp,.d (.str ⟨#[]⟩)])) else(bif Nat.blt t 157 then[] else(bif Nat.blt t 158 then[] else[])))) else(bif Nat.blt t 164 then(bif Nat.blt t 161 then(bif Nat.blt t 160 then[.nilf] else[.d (.int .u32 0)]) else(bif Nat.blt t 162 then[.d (.int .u8 0)] else(bif Nat.blt t 163 then[.d (.int .u8 0)] else[.nilf]))) else(bif Nat.blt t 167 then(bif Nat.blt t 165 then[.nilp] else(bif Nat.blt t 166 then[.d (.int .i32 0)] else[.d (.int .i32 0)])) else(bif Nat.blt t 168 then[.d (.int .u64 0),.d (.int .u64 0),.d (.int .u32 0),.d (.int .u8 0),.d (.int .u8 0),.d (.int .u8 0),.d (.int .u8 0),.nilf,.nilp,.d (.int .i32 0),.d (.int .i32 0)] else(bif Nat.blt t 169 then[.d (.int .u64 0),.d (.int .u64 0),.d (.int .u32 0),.d (.int .u8 0),.d (.int .u8 0),.d (.int .u8 0),.d (.int .u8 0),.nilf,.nilp,.d (.int .i32 0),.d (.int .i32 0)] else[])))))))) else[]
def tip:FuncId→Option (List Int→List Int)
 | _=>none
def T:Ty:=⟨tk,tz,tb,t0,tip⟩
theorem qyL:(List.range 170).all (fun t=>decide (T.k t = .other)||Ty.okAt Tryz.prog T t)=true:=by kernel_rfl
theorem qvj (t:Nat) (h:170≤t):T.k t = .other:=by
 have hb:Nat.blt t 170=false:=by
  cases h':Nat.blt t 170 with
  | false=>rfl
  | true=>exact absurd (Nat.le_of_ble_eq_true h') (by omega)
 show tk t = .other
 unfold tk
 rw[hb]
 rfl
theorem qBP:∀t,T.k t = .other∨Ty.okAt Tryz.prog T t=true:=fun t=>by
 rcases Nat.lt_or_ge t 170 with h|h
 ·have:=List.all_eq_true.1 qyL t (List.mem_range.2 h)
  simp only[Bool.or_eq_true,decide_eq_true_eq] at this
  exact this
 ·exact .inl (qvj t h)
theorem qE9:∀g h,T.ip g=some h→qzM Tryz.prog g h:=by
 intro g h hg
 replace hg:tip g=some h:=hg
 unfold tip at hg
 cases hg
theorem qvn:Ag Tryz.prog T:=⟨qBP,qE9⟩
theorem k3:T.k 3 = .int .i64:=rfl
theorem k4:T.k 4 = .bool:=rfl
theorem k9:T.k 9 = .str:=rfl
theorem k22:T.k 22 = .sl 3:=rfl
theorem k26:T.k 26 = .st [(0,22),(1,22),(2,24)]:=rfl
theorem k27:T.k 27 = .sl 51:=rfl
theorem k28:T.k 28 = .sl 30:=rfl
theorem k30:T.k 30 = .st [(0,3),(1,3),(2,3),(3,27),(4,28)]:=rfl
theorem k32:T.k 32 = .st [(0,3),(1,3),(2,3)]:=rfl
theorem k33:T.k 33 = .sl 53:=rfl
theorem k35:T.k 35 = .st [(0,30),(5,32),(8,33)]:=rfl
theorem k45:T.k 45 = .sl 4:=rfl
theorem k51:T.k 51 = .st [(0,3),(1,9)]:=rfl
theorem k53:T.k 53 = .st [(0,51),(2,3),(3,3),(4,3),(5,22),(6,3),(7,22)]:=rfl
theorem k73:T.k 73 = .sl 9:=rfl
theorem k75:T.k 75 = .fn:=rfl
theorem k76:T.k 76 = .fn:=rfl
theorem k77:T.k 77 = .sl 4:=rfl
theorem k81:T.k 81 = .st [(0,32),(3,33),(4,22),(5,3)]:=rfl
theorem k83:T.k 83 = .fn:=rfl
theorem k89:T.k 89 = .fn:=rfl
theorem k91:T.k 91 = .st [(0,3),(1,3),(2,4)]:=rfl
theorem qDD:T.k 105 = .st [(0,22),(1,3)]:=rfl
theorem qCN:T.k 107 = .st [(0,22),(1,3)]:=rfl
theorem qDl:T.k 113 = .mp 3 116:=rfl
theorem qCr:T.k 116 = .st [(0,75)]:=rfl
theorem qBU:T.k 118 = .fn:=rfl
theorem qDp:T.k 119 = .sl 3:=rfl
theorem qDc:T.k 122 = .sl 126:=rfl
theorem qDx:T.k 126 = .st [(0,30),(5,3)]:=rfl
theorem z3:T.sz 3=1:=rfl
theorem z4:T.sz 4=1:=rfl
theorem z9:T.sz 9=1:=rfl
theorem z22:T.sz 22=1:=rfl
theorem z26:T.sz 26=8:=rfl
theorem z27:T.sz 27=1:=rfl
theorem z28:T.sz 28=1:=rfl
theorem z30:T.sz 30=5:=rfl
theorem z32:T.sz 32=3:=rfl
theorem z33:T.sz 33=1:=rfl
theorem z51:T.sz 51=2:=rfl
theorem z53:T.sz 53=8:=rfl
theorem z75:T.sz 75=1:=rfl
theorem z77:T.sz 77=1:=rfl
theorem z83:T.sz 83=1:=rfl
theorem z89:T.sz 89=1:=rfl
theorem z91:T.sz 91=3:=rfl
theorem qBo:T.sz 116=1:=rfl
theorem qDC:T.sz 118=1:=rfl
theorem qDg:T.sz 119=1:=rfl
theorem qCx:T.sz 126=6:=rfl
theorem b3:T.by_ 3=8:=rfl
theorem b4:T.by_ 4=1:=rfl
theorem b10:T.by_ 10=16:=rfl
theorem b12:T.by_ 12=8:=rfl
theorem b30:T.by_ 30=72:=rfl
theorem b51:T.by_ 51=24:=rfl
theorem b53:T.by_ 53=104:=rfl
theorem qDv:T.by_ 126=80:=rfl
theorem o3:T.zero 3=[.d (.int .i64 0)]:=rfl
theorem o4:T.zero 4=[.d (.bool false)]:=rfl
theorem o22:T.zero 22=[.nils]:=rfl
theorem o28:T.zero 28=[.nils]:=rfl
theorem o30:T.zero 30=[.d (.int .i64 0),.d (.int .i64 0),.d (.int .i64 0),.nils,.nils]:=rfl
theorem o32:T.zero 32=[.d (.int .i64 0),.d (.int .i64 0),.d (.int .i64 0)]:=rfl
theorem o51:T.zero 51=[.d (.int .i64 0),.d (.str ⟨#[]⟩)]:=rfl
theorem o53:T.zero 53=[.d (.int .i64 0),.d (.str ⟨#[]⟩),.d (.int .i64 0),.d (.int .i64 0),.d (.int .i64 0),.nils,.d (.int .i64 0),.nils]:=rfl
theorem o77:T.zero 77=[.nils]:=rfl
theorem o81:T.zero 81=[.d (.int .i64 0),.d (.int .i64 0),.d (.int .i64 0),.nils,.nils,.d (.int .i64 0)]:=rfl
theorem o83:T.zero 83=[.nilf]:=rfl
theorem o89:T.zero 89=[.nilf]:=rfl
theorem o91:T.zero 91=[.d (.int .i64 0),.d (.int .i64 0),.d (.bool false)]:=rfl
theorem qBg:T.zero 105=[.nils,.d (.int .i64 0)]:=rfl
theorem qCL:T.zero 107=[.nils,.d (.int .i64 0)]:=rfl
theorem qCo:T.zero 116=[.nilf]:=rfl
theorem qBz:T.zero 118=[.nilf]:=rfl
theorem qCy:T.zero 119=[.nils]:=rfl
theorem qCM:T.zero 126=[.d (.int .i64 0),.d (.int .i64 0),.d (.int .i64 0),.nils,.nils,.d (.int .i64 0)]:=rfl
end Go.Proofs.YtgejdfnidjnjcaaGreat.Vc
namespace Go.Proofs.YtgejdfnidjnjcaaGreat.Vc
open Go.RowKit
set_option linter.unusedVariables false
def pq (t:TypeId):List Nat:=bif Nat.blt t 127 then(bif Nat.blt t 63 then(bif Nat.blt t 31 then(bif Nat.blt t 15 then[] else(bif Nat.blt t 23 then(bif Nat.blt t 19 then[] else(bif Nat.blt t 21 then[] else(bif Nat.blt t 22 then[] else[1]))) else(bif Nat.blt t 27 then(bif Nat.blt t 25 then[] else(bif Nat.blt t 26 then[1,1,0,0,0,0,0,0] else[1,1,0,0,0,0,0,0])) else(bif Nat.blt t 29 then(bif Nat.blt t 28 then[2] else[5]) else(bif Nat.blt t 30 then[0,0,0,2,5] else[0,0,0,2,5]))))) else(bif Nat.blt t 47 then(bif Nat.blt t 39 then(bif Nat.blt t 35 then(bif Nat.blt t 33 then[] else(bif Nat.blt t 34 then[8] else[0,0,0,2,5,0,0,0,8])) else(bif Nat.blt t 37 then(bif Nat.blt t 36 then[0,0,0,2,5,0,0,0,8] else[]) else[])) else(bif Nat.blt t 43 then(bif Nat.blt t 41 then[] else(bif Nat.blt t 42 then[] else[1])) else(bif Nat.blt t 45 then(bif Nat.blt t 44 then[] else[3]) else(bif Nat.blt t 46 then[1] else[])))) else(bif Nat.blt t 55 then(bif Nat.blt t 51 then[] else(bif Nat.blt t 53 then(bif Nat.blt t 52 then[] else[0,0,0,0,0,1,0,1]) else(bif Nat.blt t 54 then[0,0,0,0,0,1,0,1] else[]))) else(bif Nat.blt t 59 then[] else(bif Nat.blt t 61 then[] else(bif Nat.blt t 62 then[1] else[])))))) else(bif Nat.blt t 95 then(bif Nat.blt t 79 then(bif Nat.blt t 71 then[] else(bif Nat.blt t 75 then(bif Nat.blt t 73 then[] else(bif Nat.blt t 74 then[1] else[1])) else(bif Nat.blt t 77 then[] else(bif Nat.blt t 78 then[1] else[])))) else(bif Nat.blt t 87 then(bif Nat.blt t 83 then(bif Nat.blt t 81 then(bif Nat.blt t 80 then[] else[0,0,0,8,1,0]) else(bif Nat.blt t 82 then[0,0,0,8,1,0] else[])) else[]) else[])) else(bif Nat.blt t 111 then(bif Nat.blt t 103 then(bif Nat.blt t 99 then(bif Nat.blt t 97 then[] else(bif Nat.blt t 98 then[0,0,0,8,1,0] else[0,0,0,8,1,0])) else[]) else(bif Nat.blt t 107 then(bif Nat.blt t 105 then(bif Nat.blt t 104 then[] else[1,0]) else(bif Nat.blt t 106 then[1,0] else[])) else(bif Nat.blt t 109 then(bif Nat.blt t 108 then[1,0] else[]) else[]))) else(bif Nat.blt t 119 then[] else(bif Nat.blt t 123 then(bif Nat.blt t 121 then(bif Nat.blt t 120 then[1] else[]) else(bif Nat.blt t 122 then[] else[6])) else(bif Nat.blt t 125 then[] else(bif Nat.blt t 126 then[0,0,0,2,5,0] else[0,0,0,2,5,0]))))))) else[]
def pow (t:FuncId):List Nat:=bif Nat.blt t 63 then(bif Nat.blt t 31 then[] else(bif Nat.blt t 47 then[] else(bif Nat.blt t 55 then[] else(bif Nat.blt t 59 then[] else(bif Nat.blt t 61 then[] else(bif Nat.blt t 62 then[] else[0])))))) else[]
def pfz (f:FuncId):Bool:=([7,8,9,10,12,13,18,19,21,22,25,27,28,29,33,35,44,45,50,52,53,55,57,58,65,72,76,78,102]:List Nat).contains f
def pro (f:FuncId):Bool:=([53,62,92]:List Nat).contains f
def pkp (t:FuncId) (k:Nat):List Nat:=bif Nat.blt t 113 then(bif Nat.blt t 56 then(bif Nat.blt t 28 then(bif Nat.blt t 14 then(bif Nat.blt t 7 then(bif Nat.blt t 3 then[] else(bif Nat.blt t 5 then(bif Nat.blt t 4 then(bif Nat.blt k 20 then(bif Nat.blt k 10 then(bif Nat.blt k 5 then[] else(bif Nat.blt k 7 then(bif Nat.blt k 6 then[] else[3,5,7,9,44,45,46]) else(bif Nat.blt k 8 then[] else(bif Nat.blt k 9 then[] else[3,5,7,9,11,44,45,46,55,56,57])))) else(bif Nat.blt k 15 then(bif Nat.blt k 12 then[] else(bif Nat.blt k 13 then[3,5,7,9,11,13,44,45,46,55,56,57,64,65,66] else[])) else(bif Nat.blt k 17 then[] else(bif Nat.blt k 18 then[] else(bif Nat.blt k 19 then[] else[3,5,7,9,11,13,15,44,45,46,55,56,57,64,65,66,93,94,95]))))) else[]) else(bif Nat.blt k 14 then(bif Nat.blt k 7 then[] else(bif Nat.blt k 10 then(bif Nat.blt k 8 then[2,4,7,8,9,10,12,47,48] else[]) else(bif Nat.blt k 12 then[] else(bif Nat.blt k 13 then[] else[2,4,7,8,9,74,75,76])))) else[])) else(bif Nat.blt t 6 then(bif Nat.blt k 31 then(bif Nat.blt k 15 then(bif Nat.blt k 7 then[] else(bif Nat.blt k 11 then(bif Nat.blt k 9 then(bif Nat.blt k 8 then[2,4,7,8,9,10,11,38,39,40] else[]) else[]) else[])) else(bif Nat.blt k 23 then(bif Nat.blt k 19 then(bif Nat.blt k 17 then(bif Nat.blt k 16 then[2,4,7,8,9,10,14,15,70,71,72] else[]) else[]) else[]) else(bif Nat.blt k 27 then(bif Nat.blt k 25 then(bif Nat.blt k 24 then[4,7,8,9,10,14,15,109,110,111] else[]) else[]) else(bif Nat.blt k 29 then[] else(bif Nat.blt k 30 then[] else[4,7,8,9,10,128,129,130]))))) else[]) else[]))) else(bif Nat.blt t 10 then(bif Nat.blt t 8 then[] else(bif Nat.blt t 9 then(bif Nat.blt k 31 then(bif Nat.blt k 15 then(bif Nat.blt k 7 then(bif Nat.blt k 3 then[] else(bif Nat.blt k 5 then(bif Nat.blt k 4 then[3,4,5,6] else[]) else[])) else(bif Nat.blt k 11 then(bif Nat.blt k 9 then[] else(bif Nat.blt k 10 then[] else[4,5,7,9])) else[])) else(bif Nat.blt k 23 then[] else(bif Nat.blt k 27 then[] else(bif Nat.blt k 29 then[] else(bif Nat.blt k 30 then[] else[4,5,6,7,8]))))) else[]) else(bif Nat.blt k 10 then(bif Nat.blt k 5 then(bif Nat.blt k 2 then[] else(bif Nat.blt k 3 then[] else(bif Nat.blt k 4 then[1,2,4,5,6] else[]))) else(bif Nat.blt k 7 then[] else(bif Nat.blt k 8 then[] else(bif Nat.blt k 9 then[] else[1,2,4,5,8])))) else[]))) else[])) else(bif Nat.blt t 21 then(bif Nat.blt t 17 then(bif Nat.blt t 15 then(bif Nat.blt k 5 then(bif Nat.blt k 2 then[] else(bif Nat.blt k 3 then[] else(bif Nat.blt k 4 then[] else[0,1,12,13]))) else[]) else(bif Nat.blt t 16 then[] else(bif Nat.blt k 4 then(bif Nat.blt k 2 then[] else(bif Nat.blt k 3 then[] else[3,4,5,7,8])) else[]))) else(bif Nat.blt t 19 then(bif Nat.blt t 18 then[] else(bif Nat.blt k 15 then(bif Nat.blt k 7 then[] else(bif Nat.blt k 11 then(bif Nat.blt k 9 then[] else(bif Nat.blt k 10 then[2,3,4,5,12,13,14,15,49,50] else[])) else(bif Nat.blt k 13 then[] else(bif Nat.blt k 14 then[] else[2,3,4,5,12,13,14,15,16,49,50])))) else[])) else(bif Nat.blt t 20 then(bif Nat.blt k 13 then(bif Nat.blt k 6 then[] else(bif Nat.blt k 9 then(bif Nat.blt k 7 then[] else(bif Nat.blt k 8 then[2,3,4,5,12,13,14,15] else[])) else(bif Nat.blt k 11 then[] else(bif Nat.blt k 12 then[] else[2,3,4,5,12,13,14,15,16])))) else[]) else(bif Nat.blt k 5 then(bif Nat.blt k 2 then[] else(bif Nat.blt k 3 then[] else(bif Nat.blt k 4 then[] else[0,1,5]))) else[])))) else(bif Nat.blt t 24 then(bif Nat.blt t 22 then(bif Nat.blt k 5 then(bif Nat.blt k 2 then[] else(bif Nat.blt k 3 then[] else(bif Nat.blt k 4 then[] else[1,2,7,8,11,12]))) else[]) else[]) else(bif Nat.blt t 26 then(bif Nat.blt t 25 then(bif Nat.blt k 6 then(bif Nat.blt k 3 then[] else(bif Nat.blt k 4 then[] else(bif Nat.blt k 5 then[] else[2,3,4,5,9,10]))) else[]) else[]) else(bif Nat.blt t 27 then(bif Nat.blt k 11 then(bif Nat.blt k 5 then[] else(bif Nat.blt k 8 then(bif Nat.blt k 6 then[] else(bif Nat.blt k 7 then[1,34,35,36] else[])) else(bif Nat.blt k 9 then[] else(bif Nat.blt k 10 then[] else[1,10,11,12,34,35,36,41,42,43])))) else[]) else[]))))) else(bif Nat.blt t 42 then(bif Nat.blt t 35 then(bif Nat.blt t 31 then(bif Nat.blt t 29 then(bif Nat.blt k 7 then(bif Nat.blt k 3 then[] else(bif Nat.blt k 5 then[] else(bif Nat.blt k 6 then[] else[5,6,7,8,9]))) else[]) else(bif Nat.blt t 30 then(bif Nat.blt k 6 then(bif Nat.blt k 3 then[] else(bif Nat.blt k 4 then[] else(bif Nat.blt k 5 then[] else[1,2,3,4]))) else[]) else(bif Nat.blt k 7 then(bif Nat.blt k 3 then[] else(bif Nat.blt k 5 then[] else(bif Nat.blt k 6 then[] else[6,37,38,39]))) else[]))) else(bif Nat.blt t 33 then[] else(bif Nat.blt t 34 then[] else(bif Nat.blt k 16 then(bif Nat.blt k 8 then(bif Nat.blt k 4 then[] else(bif Nat.blt k 6 then[] else(bif Nat.blt k 7 then[3,5,6] else[]))) else(bif Nat.blt k 12 then[] else(bif Nat.blt k 14 then[] else(bif Nat.blt k 15 then[] else[3,7])))) else[])))) else(bif Nat.blt t 38 then(bif Nat.blt t 36 then(bif Nat.blt k 33 then(bif Nat.blt k 16 then(bif Nat.blt k 8 then(bif Nat.blt k 4 then[] else(bif Nat.blt k 6 then(bif Nat.blt k 5 then[] else[0,3,5,6]) else[])) else(bif Nat.blt k 12 then(bif Nat.blt k 10 then(bif Nat.blt k 9 then[] else[0,3,5,7]) else[]) else[])) else(bif Nat.blt k 24 then(bif Nat.blt k 20 then(bif Nat.blt k 18 then(bif Nat.blt k 17 then[0,3,5,7,9,10,11,12] else[]) else[]) else(bif Nat.blt k 22 then[] else(bif Nat.blt k 23 then[0,3,5,7,9,10,11,12,13] else[]))) else(bif Nat.blt k 28 then[] else(bif Nat.blt k 30 then[] else(bif Nat.blt k 31 then[] else(bif Nat.blt k 32 then[] else[5,14,15,16])))))) else[]) else[]) else(bif Nat.blt t 40 then[] else(bif Nat.blt t 41 then(bif Nat.blt k 3 then(bif Nat.blt k 1 then[] else(bif Nat.blt k 2 then[] else[0,1,8,9,10])) else[]) else[])))) else(bif Nat.blt t 49 then(bif Nat.blt t 45 then(bif Nat.blt t 43 then[] else(bif Nat.blt t 44 then[] else(bif Nat.blt k 5 then(bif Nat.blt k 2 then[] else(bif Nat.blt k 3 then[] else(bif Nat.blt k 4 then[] else[3,5,6]))) else[]))) else(bif Nat.blt t 47 then(bif Nat.blt t 46 then(bif Nat.blt k 4 then(bif Nat.blt k 2 then[] else(bif Nat.blt k 3 then[] else[2,14,15,16])) else[]) else[]) else(bif Nat.blt t 48 then(bif Nat.blt k 9 then(bif Nat.blt k 4 then[] else(bif Nat.blt k 6 then[] else(bif Nat.blt k 7 then[] else(bif Nat.blt k 8 then[] else[5,6,7,10,11,35,36,37])))) else[]) else(bif Nat.blt k 4 then(bif Nat.blt k 2 then[] else(bif Nat.blt k 3 then[] else[3,4,5,8,9,13,14,15])) else[])))) else(bif Nat.blt t 52 then(bif Nat.blt t 50 then[] else(bif Nat.blt t 51 then[] else(bif Nat.blt k 21 then(bif Nat.blt k 10 then(bif Nat.blt k 5 then[] else(bif Nat.blt k 7 then(bif Nat.blt k 6 then[] else[0,3,4,5,6,7,8]) else[])) else(bif Nat.blt k 15 then[] else(bif Nat.blt k 18 then[] else(bif Nat.blt k 19 then[] else(bif Nat.blt k 20 then[] else[0,3,4,9,10,11,12]))))) else[]))) else(bif Nat.blt t 54 then(bif Nat.blt t 53 then(bif Nat.blt k 10 then(bif Nat.blt k 5 then[] else(bif Nat.blt k 7 then[] else(bif Nat.blt k 8 then[] else(bif Nat.blt k 9 then[] else[0,1,2,6,7,8,9,10])))) else[]) else(bif Nat.blt k 12 then(bif Nat.blt k 6 then(bif Nat.blt k 3 then[] else(bif Nat.blt k 4 then[] else(bif Nat.blt k 5 then[3,5,6] else[]))) else(bif Nat.blt k 9 then(bif Nat.blt k 7 then[] else(bif Nat.blt k 8 then[] else[3,5,6,7,8])) else(bif Nat.blt k 10 then[] else(bif Nat.blt k 11 then[] else[3,5,6,7,8,9])))) else[])) else[]))))) else(bif Nat.blt t 84 then(bif Nat.blt t 70 then(bif Nat.blt t 63 then(bif Nat.blt t 59 then(bif Nat.blt t 57 then[] else(bif Nat.blt t 58 then[] else(bif Nat.blt k 39 then(bif Nat.blt k 19 then(bif Nat.blt k 9 then(bif Nat.blt k 4 then[] else(bif Nat.blt k 6 then(bif Nat.blt k 5 then[] else[1,2,3,4,7,9,10,11]) else[])) else(bif Nat.blt k 14 then[] else(bif Nat.blt k 16 then(bif Nat.blt k 15 then[3,5,6,7,9,12,13] else[]) else(bif Nat.blt k 17 then[] else(bif Nat.blt k 18 then[] else[3,5,6,7,9,12,72,73,74]))))) else(bif Nat.blt k 29 then(bif Nat.blt k 24 then[] else(bif Nat.blt k 26 then(bif Nat.blt k 25 then[] else[3,5,6,7,9,12,17,18,19,72,73,74,96,97]) else[])) else(bif Nat.blt k 34 then[] else(bif Nat.blt k 36 then[] else(bif Nat.blt k 37 then[] else(bif Nat.blt k 38 then[] else[9,12,21,22])))))) else[]))) else(bif Nat.blt t 61 then(bif Nat.blt t 60 then[] else(bif Nat.blt k 2 then(bif Nat.blt k 1 then[] else[1,2,6]) else[])) else(bif Nat.blt t 62 then[] else(bif Nat.blt k 6 then(bif Nat.blt k 3 then[] else(bif Nat.blt k 4 then[] else(bif Nat.blt k 5 then[] else[0,2,4,8]))) else[])))) else(bif Nat.blt t 66 then(bif Nat.blt t 64 then[] else(bif Nat.blt t 65 then(bif Nat.blt k 29 then(bif Nat.blt k 14 then[] else(bif Nat.blt k 21 then[] else(bif Nat.blt k 25 then(bif Nat.blt k 23 then[] else(bif Nat.blt k 24 then[1,3] else[])) else(bif Nat.blt k 27 then[] else(bif Nat.blt k 28 then[] else[1,4]))))) else[]) else(bif Nat.blt k 10 then(bif Nat.blt k 5 then(bif Nat.blt k 2 then[] else(bif Nat.blt k 3 then[] else(bif Nat.blt k 4 then[0,3,5,6] else[]))) else(bif Nat.blt k 7 then[] else(bif Nat.blt k 8 then[] else(bif Nat.blt k 9 then[] else[0,3,5,6,7,8,9,10])))) else[]))) else(bif Nat.blt t 68 then(bif Nat.blt t 67 then(bif Nat.blt k 3 then(bif Nat.blt k 1 then[] else(bif Nat.blt k 2 then[] else[0,1,2,7])) else[]) else(bif Nat.blt k 3 then(bif Nat.blt k 1 then[] else(bif Nat.blt k 2 then[] else[0,3,7,8])) else[])) else[]))) else(bif Nat.blt t 77 then(bif Nat.blt t 73 then(bif Nat.blt t 71 then(bif Nat.blt k 3 then(bif Nat.blt k 1 then[] else(bif Nat.blt k 2 then[] else[0,1,7,8])) else[]) else(bif Nat.blt t 72 then[] else(bif Nat.blt k 4 then(bif Nat.blt k 2 then[] else(bif Nat.blt k 3 then[] else[1,2,14,15,16])) else[]))) else(bif Nat.blt t 75 then[] else(bif Nat.blt t 76 then[] else(bif Nat.blt k 9 then(bif Nat.blt k 4 then[] else(bif Nat.blt k 6 then(bif Nat.blt k 5 then[0,3,4,5] else[]) else(bif Nat.blt k 7 then[] else(bif Nat.blt k 8 then[] else[0,3,4,5,6,7])))) else[])))) else(bif Nat.blt t 80 then[] else(bif Nat.blt t 82 then(bif Nat.blt t 81 then[] else(bif Nat.blt k 8 then(bif Nat.blt k 4 then[] else(bif Nat.blt k 6 then[] else(bif Nat.blt k 7 then[] else[1,22,23,24]))) else[])) else[])))) else(bif Nat.blt t 98 then(bif Nat.blt t 91 then(bif Nat.blt t 87 then[] else(bif Nat.blt t 89 then(bif Nat.blt t 88 then(bif Nat.blt k 3 then(bif Nat.blt k 1 then[] else(bif Nat.blt k 2 then[] else[0,1,2,7])) else[]) else(bif Nat.blt k 3 then(bif Nat.blt k 1 then[] else(bif Nat.blt k 2 then[] else[1,9,10,11])) else[])) else[])) else(bif Nat.blt t 94 then[] else(bif Nat.blt t 96 then(bif Nat.blt t 95 then[] else(bif Nat.blt k 5 then(bif Nat.blt k 2 then[] else(bif Nat.blt k 3 then[] else(bif Nat.blt k 4 then[] else[1,2,15,16,17]))) else[])) else[]))) else(bif Nat.blt t 105 then(bif Nat.blt t 101 then(bif Nat.blt t 99 then[] else(bif Nat.blt t 100 then[] else(bif Nat.blt k 3 then(bif Nat.blt k 1 then[] else(bif Nat.blt k 2 then[] else[0,3])) else[]))) else(bif Nat.blt t 103 then[] else(bif Nat.blt t 104 then(bif Nat.blt k 3 then(bif Nat.blt k 1 then[] else(bif Nat.blt k 2 then[] else[0,1,7,8])) else[]) else[]))) else(bif Nat.blt t 109 then(bif Nat.blt t 107 then(bif Nat.blt t 106 then(bif Nat.blt k 4 then(bif Nat.blt k 2 then[] else(bif Nat.blt k 3 then[] else[3,6,7,8])) else[]) else[]) else[]) else(bif Nat.blt t 111 then[] else(bif Nat.blt t 112 then[] else(bif Nat.blt k 3 then(bif Nat.blt k 1 then[] else(bif Nat.blt k 2 then[] else[1,2,10])) else[])))))))) else[]
def pkx (t:FuncId) (k:Nat):List Nat:=bif Nat.blt t 113 then(bif Nat.blt t 56 then(bif Nat.blt t 28 then(bif Nat.blt t 14 then(bif Nat.blt t 7 then(bif Nat.blt t 3 then[] else(bif Nat.blt t 5 then(bif Nat.blt t 4 then(bif Nat.blt k 20 then(bif Nat.blt k 10 then(bif Nat.blt k 5 then[] else(bif Nat.blt k 7 then(bif Nat.blt k 6 then[] else[4,5]) else(bif Nat.blt k 8 then[] else(bif Nat.blt k 9 then[] else[3,4,5,7,9,44,45,46])))) else(bif Nat.blt k 15 then(bif Nat.blt k 12 then[] else(bif Nat.blt k 13 then[3,4,5,7,9,11,44,45,46,55,56,57] else[])) else(bif Nat.blt k 17 then[] else(bif Nat.blt k 18 then[] else(bif Nat.blt k 19 then[] else[3,4,5,7,9,11,13,44,45,46,55,56,57,64,65,66]))))) else[]) else(bif Nat.blt k 14 then(bif Nat.blt k 7 then[] else(bif Nat.blt k 10 then(bif Nat.blt k 8 then[2,4,7,8,9,12] else[]) else(bif Nat.blt k 12 then[] else(bif Nat.blt k 13 then[] else[2,4,6,7])))) else[])) else(bif Nat.blt t 6 then(bif Nat.blt k 31 then(bif Nat.blt k 15 then(bif Nat.blt k 7 then[] else(bif Nat.blt k 11 then(bif Nat.blt k 9 then(bif Nat.blt k 8 then[2,4,7,8,9,10,11] else[]) else[]) else[])) else(bif Nat.blt k 23 then(bif Nat.blt k 19 then(bif Nat.blt k 17 then(bif Nat.blt k 16 then[4,6,7,8,9,10,14] else[]) else[]) else[]) else(bif Nat.blt k 27 then(bif Nat.blt k 25 then(bif Nat.blt k 24 then[4,6,7,8,9,10,14] else[]) else[]) else(bif Nat.blt k 29 then[] else(bif Nat.blt k 30 then[] else[6,7]))))) else[]) else[]))) else(bif Nat.blt t 10 then(bif Nat.blt t 8 then[] else(bif Nat.blt t 9 then(bif Nat.blt k 31 then(bif Nat.blt k 15 then(bif Nat.blt k 7 then(bif Nat.blt k 3 then[] else(bif Nat.blt k 5 then(bif Nat.blt k 4 then[3,4,5,6] else[]) else[])) else(bif Nat.blt k 11 then(bif Nat.blt k 9 then[] else(bif Nat.blt k 10 then[] else[4,5])) else[])) else(bif Nat.blt k 23 then[] else(bif Nat.blt k 27 then[] else(bif Nat.blt k 29 then[] else(bif Nat.blt k 30 then[] else[4,5]))))) else[]) else(bif Nat.blt k 10 then(bif Nat.blt k 5 then(bif Nat.blt k 2 then[] else(bif Nat.blt k 3 then[] else(bif Nat.blt k 4 then[1,2,4,5] else[]))) else(bif Nat.blt k 7 then[] else(bif Nat.blt k 8 then[] else(bif Nat.blt k 9 then[] else[4,5])))) else[]))) else[])) else(bif Nat.blt t 21 then(bif Nat.blt t 17 then(bif Nat.blt t 15 then(bif Nat.blt k 5 then(bif Nat.blt k 2 then[] else(bif Nat.blt k 3 then[] else(bif Nat.blt k 4 then[] else[4]))) else[]) else(bif Nat.blt t 16 then[] else(bif Nat.blt k 4 then(bif Nat.blt k 2 then[] else(bif Nat.blt k 3 then[] else[3,4,5,7])) else[]))) else(bif Nat.blt t 19 then(bif Nat.blt t 18 then[] else(bif Nat.blt k 15 then(bif Nat.blt k 7 then[] else(bif Nat.blt k 11 then(bif Nat.blt k 9 then[] else(bif Nat.blt k 10 then[15] else[])) else(bif Nat.blt k 13 then[] else(bif Nat.blt k 14 then[] else[2,3,4,5,12,13,14,15,16,49,50])))) else[])) else(bif Nat.blt t 20 then(bif Nat.blt k 13 then(bif Nat.blt k 6 then[] else(bif Nat.blt k 9 then(bif Nat.blt k 7 then[] else(bif Nat.blt k 8 then[14] else[])) else(bif Nat.blt k 11 then[] else(bif Nat.blt k 12 then[] else[2,3,4,5,12,13,14,15])))) else[]) else(bif Nat.blt k 5 then(bif Nat.blt k 2 then[] else(bif Nat.blt k 3 then[] else(bif Nat.blt k 4 then[] else[4]))) else[])))) else(bif Nat.blt t 24 then(bif Nat.blt t 22 then(bif Nat.blt k 5 then(bif Nat.blt k 2 then[] else(bif Nat.blt k 3 then[] else(bif Nat.blt k 4 then[] else[7]))) else[]) else[]) else(bif Nat.blt t 26 then(bif Nat.blt t 25 then(bif Nat.blt k 6 then(bif Nat.blt k 3 then[] else(bif Nat.blt k 4 then[] else(bif Nat.blt k 5 then[] else[2,3,4,5,8]))) else[]) else[]) else(bif Nat.blt t 27 then(bif Nat.blt k 11 then(bif Nat.blt k 5 then[] else(bif Nat.blt k 8 then(bif Nat.blt k 6 then[] else(bif Nat.blt k 7 then[4] else[])) else(bif Nat.blt k 9 then[] else(bif Nat.blt k 10 then[] else[1,11,12,34,35,36])))) else[]) else[]))))) else(bif Nat.blt t 42 then(bif Nat.blt t 35 then(bif Nat.blt t 31 then(bif Nat.blt t 29 then(bif Nat.blt k 7 then(bif Nat.blt k 3 then[] else(bif Nat.blt k 5 then[] else(bif Nat.blt k 6 then[] else[7]))) else[]) else(bif Nat.blt t 30 then(bif Nat.blt k 6 then(bif Nat.blt k 3 then[] else(bif Nat.blt k 4 then[] else(bif Nat.blt k 5 then[] else[2,3]))) else[]) else(bif Nat.blt k 7 then(bif Nat.blt k 3 then[] else(bif Nat.blt k 5 then[] else(bif Nat.blt k 6 then[] else[2]))) else[]))) else(bif Nat.blt t 33 then[] else(bif Nat.blt t 34 then[] else(bif Nat.blt k 16 then(bif Nat.blt k 8 then(bif Nat.blt k 4 then[] else(bif Nat.blt k 6 then[] else(bif Nat.blt k 7 then[2,3,5] else[]))) else(bif Nat.blt k 12 then[] else(bif Nat.blt k 14 then[] else(bif Nat.blt k 15 then[] else[2])))) else[])))) else(bif Nat.blt t 38 then(bif Nat.blt t 36 then(bif Nat.blt k 33 then(bif Nat.blt k 16 then(bif Nat.blt k 8 then(bif Nat.blt k 4 then[] else(bif Nat.blt k 6 then(bif Nat.blt k 5 then[] else[0,3,5]) else[])) else(bif Nat.blt k 12 then(bif Nat.blt k 10 then(bif Nat.blt k 9 then[] else[3,5]) else[]) else[])) else(bif Nat.blt k 24 then(bif Nat.blt k 20 then(bif Nat.blt k 18 then(bif Nat.blt k 17 then[0,3,7,11] else[]) else[]) else(bif Nat.blt k 22 then[] else(bif Nat.blt k 23 then[0,3,5,7,9,10,11,12] else[]))) else(bif Nat.blt k 28 then[] else(bif Nat.blt k 30 then[] else(bif Nat.blt k 31 then[] else(bif Nat.blt k 32 then[] else[15])))))) else[]) else[]) else(bif Nat.blt t 40 then[] else(bif Nat.blt t 41 then(bif Nat.blt k 3 then(bif Nat.blt k 1 then[] else(bif Nat.blt k 2 then[] else[5])) else[]) else[])))) else(bif Nat.blt t 49 then(bif Nat.blt t 45 then(bif Nat.blt t 43 then[] else(bif Nat.blt t 44 then[] else(bif Nat.blt k 5 then(bif Nat.blt k 2 then[] else(bif Nat.blt k 3 then[] else(bif Nat.blt k 4 then[] else[5]))) else[]))) else(bif Nat.blt t 47 then(bif Nat.blt t 46 then(bif Nat.blt k 4 then(bif Nat.blt k 2 then[] else(bif Nat.blt k 3 then[] else[2])) else[]) else[]) else(bif Nat.blt t 48 then(bif Nat.blt k 9 then(bif Nat.blt k 4 then[] else(bif Nat.blt k 6 then[] else(bif Nat.blt k 7 then[] else(bif Nat.blt k 8 then[] else[6,7,10,11])))) else[]) else(bif Nat.blt k 4 then(bif Nat.blt k 2 then[] else(bif Nat.blt k 3 then[] else[8,9])) else[])))) else(bif Nat.blt t 52 then(bif Nat.blt t 50 then[] else(bif Nat.blt t 51 then[] else(bif Nat.blt k 21 then(bif Nat.blt k 10 then(bif Nat.blt k 5 then[] else(bif Nat.blt k 7 then(bif Nat.blt k 6 then[] else[0,3,4,5,6,7]) else[])) else(bif Nat.blt k 15 then[] else(bif Nat.blt k 18 then[] else(bif Nat.blt k 19 then[] else(bif Nat.blt k 20 then[] else[3,4,9,10,11]))))) else[]))) else(bif Nat.blt t 54 then(bif Nat.blt t 53 then(bif Nat.blt k 10 then(bif Nat.blt k 5 then[] else(bif Nat.blt k 7 then[] else(bif Nat.blt k 8 then[] else(bif Nat.blt k 9 then[] else[0,6,7,8,9])))) else[]) else(bif Nat.blt k 12 then(bif Nat.blt k 6 then(bif Nat.blt k 3 then[] else(bif Nat.blt k 4 then[] else(bif Nat.blt k 5 then[5] else[]))) else(bif Nat.blt k 9 then(bif Nat.blt k 7 then[] else(bif Nat.blt k 8 then[] else[3,5,6])) else(bif Nat.blt k 10 then[] else(bif Nat.blt k 11 then[] else[3,5,6,7,8,9])))) else[])) else[]))))) else(bif Nat.blt t 84 then(bif Nat.blt t 70 then(bif Nat.blt t 63 then(bif Nat.blt t 59 then(bif Nat.blt t 57 then[] else(bif Nat.blt t 58 then[] else(bif Nat.blt k 39 then(bif Nat.blt k 19 then(bif Nat.blt k 9 then(bif Nat.blt k 4 then[] else(bif Nat.blt k 6 then(bif Nat.blt k 5 then[] else[3,9]) else[])) else(bif Nat.blt k 14 then[] else(bif Nat.blt k 16 then(bif Nat.blt k 15 then[3,5,6,7,9,12] else[]) else(bif Nat.blt k 17 then[] else(bif Nat.blt k 18 then[] else[7,9,12]))))) else(bif Nat.blt k 29 then(bif Nat.blt k 24 then[] else(bif Nat.blt k 26 then(bif Nat.blt k 25 then[] else[3,5,6,7,9,12,19,72,73,74]) else[])) else(bif Nat.blt k 34 then[] else(bif Nat.blt k 36 then[] else(bif Nat.blt k 37 then[] else(bif Nat.blt k 38 then[] else[9])))))) else[]))) else(bif Nat.blt t 61 then(bif Nat.blt t 60 then[] else(bif Nat.blt k 2 then(bif Nat.blt k 1 then[] else[]) else[])) else(bif Nat.blt t 62 then[] else(bif Nat.blt k 6 then(bif Nat.blt k 3 then[] else(bif Nat.blt k 4 then[] else(bif Nat.blt k 5 then[] else[0,6,7]))) else[])))) else(bif Nat.blt t 66 then(bif Nat.blt t 64 then[] else(bif Nat.blt t 65 then(bif Nat.blt k 29 then(bif Nat.blt k 14 then[] else(bif Nat.blt k 21 then[] else(bif Nat.blt k 25 then(bif Nat.blt k 23 then[] else(bif Nat.blt k 24 then[1,2] else[])) else(bif Nat.blt k 27 then[] else(bif Nat.blt k 28 then[] else[2]))))) else[]) else(bif Nat.blt k 10 then(bif Nat.blt k 5 then(bif Nat.blt k 2 then[] else(bif Nat.blt k 3 then[] else(bif Nat.blt k 4 then[0,5] else[]))) else(bif Nat.blt k 7 then[] else(bif Nat.blt k 8 then[] else(bif Nat.blt k 9 then[] else[0,3,5,6,7,8,9])))) else[]))) else(bif Nat.blt t 68 then(bif Nat.blt t 67 then(bif Nat.blt k 3 then(bif Nat.blt k 1 then[] else(bif Nat.blt k 2 then[] else[6])) else[]) else(bif Nat.blt k 3 then(bif Nat.blt k 1 then[] else(bif Nat.blt k 2 then[] else[4])) else[])) else[]))) else(bif Nat.blt t 77 then(bif Nat.blt t 73 then(bif Nat.blt t 71 then(bif Nat.blt k 3 then(bif Nat.blt k 1 then[] else(bif Nat.blt k 2 then[] else[4])) else[]) else(bif Nat.blt t 72 then[] else(bif Nat.blt k 4 then(bif Nat.blt k 2 then[] else(bif Nat.blt k 3 then[] else[1,2])) else[]))) else(bif Nat.blt t 75 then[] else(bif Nat.blt t 76 then[] else(bif Nat.blt k 9 then(bif Nat.blt k 4 then[] else(bif Nat.blt k 6 then(bif Nat.blt k 5 then[4] else[]) else(bif Nat.blt k 7 then[] else(bif Nat.blt k 8 then[] else[0,3,4,5,6,7])))) else[])))) else(bif Nat.blt t 80 then[] else(bif Nat.blt t 82 then(bif Nat.blt t 81 then[] else(bif Nat.blt k 8 then(bif Nat.blt k 4 then[] else(bif Nat.blt k 6 then[] else(bif Nat.blt k 7 then[] else[2]))) else[])) else[])))) else(bif Nat.blt t 98 then(bif Nat.blt t 91 then(bif Nat.blt t 87 then[] else(bif Nat.blt t 89 then(bif Nat.blt t 88 then(bif Nat.blt k 3 then(bif Nat.blt k 1 then[] else(bif Nat.blt k 2 then[] else[6])) else[]) else(bif Nat.blt k 3 then(bif Nat.blt k 1 then[] else(bif Nat.blt k 2 then[] else[1,2])) else[])) else[])) else(bif Nat.blt t 94 then[] else(bif Nat.blt t 96 then(bif Nat.blt t 95 then[] else(bif Nat.blt k 5 then(bif Nat.blt k 2 then[] else(bif Nat.blt k 3 then[] else(bif Nat.blt k 4 then[] else[6]))) else[])) else[]))) else(bif Nat.blt t 105 then(bif Nat.blt t 101 then(bif Nat.blt t 99 then[] else(bif Nat.blt t 100 then[] else(bif Nat.blt k 3 then(bif Nat.blt k 1 then[] else(bif Nat.blt k 2 then[] else[0,2])) else[]))) else(bif Nat.blt t 103 then[] else(bif Nat.blt t 104 then(bif Nat.blt k 3 then(bif Nat.blt k 1 then[] else(bif Nat.blt k 2 then[] else[4])) else[]) else[]))) else(bif Nat.blt t 109 then(bif Nat.blt t 107 then(bif Nat.blt t 106 then(bif Nat.blt k 4 then(bif Nat.blt k 2 then[] else(bif Nat.blt k 3 then[] else[2,3])) else[]) else[]) else[]) else(bif Nat.blt t 111 then[] else(bif Nat.blt t 112 then[] else(bif Nat.blt k 3 then(bif Nat.blt k 1 then[] else(bif Nat.blt k 2 then[] else[6])) else[])))))))) else[]
def prw (t:FuncId) (k:Nat):List Rw:=bif Nat.blt t 77 then(bif Nat.blt t 38 then(bif Nat.blt t 19 then(bif Nat.blt t 9 then(bif Nat.blt t 4 then[] else(bif Nat.blt t 6 then(bif Nat.blt t 5 then(bif Nat.blt k 8 then(bif Nat.blt k 4 then[] else(bif Nat.blt k 6 then[] else(bif Nat.blt k 7 then[] else[.slot 12 3 1]))) else[]) else(bif Nat.blt k 8 then(bif Nat.blt k 4 then[] else(bif Nat.blt k 6 then[] else(bif Nat.blt k 7 then[] else[.slot 11 3 1]))) else[])) else(bif Nat.blt t 7 then[] else(bif Nat.blt t 8 then[] else(bif Nat.blt k 11 then(bif Nat.blt k 5 then[] else(bif Nat.blt k 8 then[] else(bif Nat.blt k 9 then[] else(bif Nat.blt k 10 then[] else[.cell 5 4 30 5])))) else[]))))) else(bif Nat.blt t 14 then(bif Nat.blt t 11 then(bif Nat.blt t 10 then(bif Nat.blt k 10 then(bif Nat.blt k 5 then(bif Nat.blt k 2 then[] else(bif Nat.blt k 3 then[] else(bif Nat.blt k 4 then[.cell 5 3 51 2] else[]))) else(bif Nat.blt k 7 then[] else(bif Nat.blt k 8 then[] else(bif Nat.blt k 9 then[] else[.cell 5 4 30 5])))) else[]) else[]) else[]) else(bif Nat.blt t 16 then[] else(bif Nat.blt t 17 then[] else(bif Nat.blt t 18 then[] else(bif Nat.blt k 10 then(bif Nat.blt k 5 then[] else(bif Nat.blt k 7 then[] else(bif Nat.blt k 8 then[] else(bif Nat.blt k 9 then[] else[.cell 12 0 3 1,.slot 15 3 1])))) else[])))))) else(bif Nat.blt t 28 then(bif Nat.blt t 23 then(bif Nat.blt t 21 then(bif Nat.blt t 20 then(bif Nat.blt k 13 then(bif Nat.blt k 6 then[] else(bif Nat.blt k 9 then(bif Nat.blt k 7 then[] else(bif Nat.blt k 8 then[.slot 13 3 1,.slot 14 3 1] else[])) else(bif Nat.blt k 11 then[] else(bif Nat.blt k 12 then[] else[.slot 14 3 1])))) else[]) else[]) else(bif Nat.blt t 22 then(bif Nat.blt k 5 then(bif Nat.blt k 2 then[] else(bif Nat.blt k 3 then[] else(bif Nat.blt k 4 then[] else[.slot 7 3 1]))) else[]) else[])) else[]) else(bif Nat.blt t 33 then(bif Nat.blt t 30 then(bif Nat.blt t 29 then(bif Nat.blt k 7 then(bif Nat.blt k 3 then[] else(bif Nat.blt k 5 then[] else(bif Nat.blt k 6 then[] else[.slot 7 53 8]))) else[]) else(bif Nat.blt k 6 then(bif Nat.blt k 3 then[] else(bif Nat.blt k 4 then[] else(bif Nat.blt k 5 then[] else[.cell 3 4 30 5]))) else[])) else[]) else[]))) else(bif Nat.blt t 57 then(bif Nat.blt t 47 then(bif Nat.blt t 42 then[] else(bif Nat.blt t 44 then[] else(bif Nat.blt t 45 then(bif Nat.blt k 5 then(bif Nat.blt k 2 then[] else(bif Nat.blt k 3 then[] else(bif Nat.blt k 4 then[] else[.slot 5 30 5]))) else[]) else(bif Nat.blt t 46 then(bif Nat.blt k 4 then(bif Nat.blt k 2 then[] else(bif Nat.blt k 3 then[] else[.slot 2 30 5])) else[]) else[])))) else(bif Nat.blt t 52 then[] else(bif Nat.blt t 54 then(bif Nat.blt t 53 then(bif Nat.blt k 10 then(bif Nat.blt k 5 then[] else(bif Nat.blt k 7 then[] else(bif Nat.blt k 8 then[] else(bif Nat.blt k 9 then[] else[.cell 9 4 30 5])))) else[]) else(bif Nat.blt k 9 then(bif Nat.blt k 4 then[] else(bif Nat.blt k 6 then(bif Nat.blt k 5 then[.slot 5 51 2] else[]) else(bif Nat.blt k 7 then[] else(bif Nat.blt k 8 then[] else[.slot 5 51 2])))) else[])) else[]))) else(bif Nat.blt t 67 then[] else(bif Nat.blt t 72 then[] else(bif Nat.blt t 74 then[] else(bif Nat.blt t 75 then[] else(bif Nat.blt t 76 then[] else(bif Nat.blt k 5 then(bif Nat.blt k 2 then[] else(bif Nat.blt k 3 then[] else(bif Nat.blt k 4 then[] else[.slot 4 51 2]))) else[])))))))) else[]
def pdm (t:FuncId) (k:Nat):Nat:=bif Nat.blt t 100 then(bif Nat.blt t 50 then(bif Nat.blt t 25 then(bif Nat.blt t 12 then(bif Nat.blt t 6 then(bif Nat.blt t 3 then 0 else(bif Nat.blt t 4 then(bif Nat.blt k 22 then(bif Nat.blt k 11 then(bif Nat.blt k 5 then 0 else(bif Nat.blt k 8 then(bif Nat.blt k 6 then 13 else 0) else 0)) else(bif Nat.blt k 16 then(bif Nat.blt k 13 then(bif Nat.blt k 12 then 6 else 0) else 0) else(bif Nat.blt k 19 then 0 else(bif Nat.blt k 20 then 0 else(bif Nat.blt k 21 then 0 else 7))))) else 0) else(bif Nat.blt t 5 then(bif Nat.blt k 23 then(bif Nat.blt k 11 then(bif Nat.blt k 5 then(bif Nat.blt k 2 then 0 else(bif Nat.blt k 3 then 0 else(bif Nat.blt k 4 then 0 else 8))) else 0) else(bif Nat.blt k 17 then(bif Nat.blt k 14 then 0 else(bif Nat.blt k 15 then 0 else(bif Nat.blt k 16 then 9 else 9))) else(bif Nat.blt k 20 then 0 else(bif Nat.blt k 21 then 0 else(bif Nat.blt k 22 then 13 else 13))))) else 0) else(bif Nat.blt k 33 then(bif Nat.blt k 16 then 0 else(bif Nat.blt k 24 then(bif Nat.blt k 20 then 0 else(bif Nat.blt k 22 then(bif Nat.blt k 21 then 0 else 15) else 0)) else(bif Nat.blt k 28 then(bif Nat.blt k 26 then(bif Nat.blt k 25 then 0 else 9) else 0) else(bif Nat.blt k 30 then 0 else(bif Nat.blt k 31 then 0 else(bif Nat.blt k 32 then 0 else 31)))))) else 0)))) else(bif Nat.blt t 9 then(bif Nat.blt t 7 then(bif Nat.blt k 8 then(bif Nat.blt k 4 then(bif Nat.blt k 2 then 0 else(bif Nat.blt k 3 then 0 else 11)) else(bif Nat.blt k 6 then 0 else(bif Nat.blt k 7 then 0 else 36))) else 0) else(bif Nat.blt t 8 then(bif Nat.blt k 3 then(bif Nat.blt k 1 then 0 else(bif Nat.blt k 2 then 0 else 5)) else 0) else(bif Nat.blt k 33 then(bif Nat.blt k 16 then(bif Nat.blt k 8 then(bif Nat.blt k 4 then 0 else(bif Nat.blt k 6 then(bif Nat.blt k 5 then 0 else 24) else 0)) else(bif Nat.blt k 12 then 0 else(bif Nat.blt k 14 then(bif Nat.blt k 13 then 12 else 0) else 0))) else(bif Nat.blt k 24 then(bif Nat.blt k 20 then 0 else(bif Nat.blt k 22 then 0 else(bif Nat.blt k 23 then 15 else 0))) else(bif Nat.blt k 28 then(bif Nat.blt k 26 then 0 else(bif Nat.blt k 27 then 0 else 8)) else(bif Nat.blt k 30 then 0 else(bif Nat.blt k 31 then 0 else(bif Nat.blt k 32 then 0 else 14)))))) else 0))) else(bif Nat.blt t 10 then(bif Nat.blt k 12 then(bif Nat.blt k 6 then 0 else(bif Nat.blt k 9 then 0 else(bif Nat.blt k 10 then 0 else(bif Nat.blt k 11 then 0 else 11)))) else 0) else 0))) else(bif Nat.blt t 18 then(bif Nat.blt t 15 then(bif Nat.blt t 13 then 0 else(bif Nat.blt t 14 then 0 else(bif Nat.blt k 7 then(bif Nat.blt k 3 then 0 else(bif Nat.blt k 5 then 0 else(bif Nat.blt k 6 then 0 else 8))) else 0))) else(bif Nat.blt t 16 then 0 else(bif Nat.blt t 17 then(bif Nat.blt k 6 then(bif Nat.blt k 3 then 0 else(bif Nat.blt k 4 then 0 else(bif Nat.blt k 5 then 0 else 9))) else 0) else 0))) else(bif Nat.blt t 21 then(bif Nat.blt t 19 then 0 else(bif Nat.blt t 20 then(bif Nat.blt k 15 then(bif Nat.blt k 7 then 0 else(bif Nat.blt k 11 then 0 else(bif Nat.blt k 13 then 0 else(bif Nat.blt k 14 then 0 else 8)))) else 0) else(bif Nat.blt k 7 then(bif Nat.blt k 3 then 0 else(bif Nat.blt k 5 then 0 else(bif Nat.blt k 6 then 0 else 8))) else 0))) else(bif Nat.blt t 23 then(bif Nat.blt t 22 then 0 else(bif Nat.blt k 2 then(bif Nat.blt k 1 then 0 else 9) else 0)) else 0)))) else(bif Nat.blt t 37 then(bif Nat.blt t 31 then(bif Nat.blt t 28 then(bif Nat.blt t 26 then(bif Nat.blt k 4 then(bif Nat.blt k 2 then 0 else(bif Nat.blt k 3 then 0 else 10)) else 0) else(bif Nat.blt t 27 then(bif Nat.blt k 3 then(bif Nat.blt k 1 then 0 else(bif Nat.blt k 2 then 0 else 8)) else 0) else 0)) else(bif Nat.blt t 29 then(bif Nat.blt k 9 then(bif Nat.blt k 4 then 0 else(bif Nat.blt k 6 then 0 else(bif Nat.blt k 7 then 0 else(bif Nat.blt k 8 then 0 else 21)))) else 0) else(bif Nat.blt t 30 then(bif Nat.blt k 8 then(bif Nat.blt k 4 then 0 else(bif Nat.blt k 6 then 0 else(bif Nat.blt k 7 then 0 else 9))) else 0) else 0))) else(bif Nat.blt t 34 then 0 else(bif Nat.blt t 35 then 0 else(bif Nat.blt t 36 then(bif Nat.blt k 26 then(bif Nat.blt k 13 then 0 else(bif Nat.blt k 19 then 0 else(bif Nat.blt k 22 then 0 else(bif Nat.blt k 24 then 0 else(bif Nat.blt k 25 then 0 else 14))))) else 0) else 0)))) else(bif Nat.blt t 43 then 0 else(bif Nat.blt t 46 then 0 else(bif Nat.blt t 48 then(bif Nat.blt t 47 then 0 else(bif Nat.blt k 17 then(bif Nat.blt k 8 then(bif Nat.blt k 4 then 0 else(bif Nat.blt k 6 then(bif Nat.blt k 5 then 9 else 0) else 0)) else(bif Nat.blt k 12 then 0 else(bif Nat.blt k 14 then 0 else(bif Nat.blt k 15 then 0 else(bif Nat.blt k 16 then 0 else 10))))) else 0)) else(bif Nat.blt t 49 then 0 else(bif Nat.blt k 2 then(bif Nat.blt k 1 then 0 else 5) else 0))))))) else(bif Nat.blt t 75 then(bif Nat.blt t 62 then(bif Nat.blt t 56 then(bif Nat.blt t 53 then(bif Nat.blt t 51 then 0 else(bif Nat.blt t 52 then(bif Nat.blt k 12 then(bif Nat.blt k 6 then 0 else(bif Nat.blt k 9 then(bif Nat.blt k 7 then 0 else(bif Nat.blt k 8 then 0 else 11)) else(bif Nat.blt k 10 then 0 else(bif Nat.blt k 11 then 0 else 14)))) else 0) else(bif Nat.blt k 12 then(bif Nat.blt k 6 then(bif Nat.blt k 3 then 0 else(bif Nat.blt k 4 then 0 else(bif Nat.blt k 5 then 10 else 7))) else(bif Nat.blt k 9 then 0 else(bif Nat.blt k 10 then 0 else(bif Nat.blt k 11 then 0 else 10)))) else 0))) else(bif Nat.blt t 54 then(bif Nat.blt k 16 then(bif Nat.blt k 8 then 0 else(bif Nat.blt k 12 then(bif Nat.blt k 10 then 0 else(bif Nat.blt k 11 then 0 else 13)) else(bif Nat.blt k 14 then(bif Nat.blt k 13 then 0 else 13) else(bif Nat.blt k 15 then 0 else 7)))) else 0) else(bif Nat.blt t 55 then(bif Nat.blt k 5 then(bif Nat.blt k 2 then(bif Nat.blt k 1 then 0 else 9) else(bif Nat.blt k 3 then 0 else(bif Nat.blt k 4 then 0 else 12))) else 0) else(bif Nat.blt k 8 then(bif Nat.blt k 4 then 0 else(bif Nat.blt k 6 then 0 else(bif Nat.blt k 7 then 8 else 3))) else 0)))) else(bif Nat.blt t 59 then(bif Nat.blt t 57 then 0 else(bif Nat.blt t 58 then 0 else(bif Nat.blt k 30 then(bif Nat.blt k 15 then(bif Nat.blt k 7 then 0 else(bif Nat.blt k 11 then(bif Nat.blt k 9 then(bif Nat.blt k 8 then 16 else 0) else 0) else 0)) else(bif Nat.blt k 22 then 0 else(bif Nat.blt k 26 then 0 else(bif Nat.blt k 28 then 0 else(bif Nat.blt k 29 then 0 else 6))))) else 0))) else(bif Nat.blt t 60 then 0 else(bif Nat.blt t 61 then 0 else(bif Nat.blt k 2 then(bif Nat.blt k 1 then 0 else 12) else 0))))) else(bif Nat.blt t 68 then(bif Nat.blt t 65 then(bif Nat.blt t 63 then 0 else(bif Nat.blt t 64 then 0 else(bif Nat.blt k 31 then(bif Nat.blt k 15 then 0 else(bif Nat.blt k 23 then 0 else(bif Nat.blt k 27 then 0 else(bif Nat.blt k 29 then 0 else(bif Nat.blt k 30 then 0 else 11))))) else 0))) else(bif Nat.blt t 66 then(bif Nat.blt k 15 then(bif Nat.blt k 7 then 0 else(bif Nat.blt k 11 then 0 else(bif Nat.blt k 13 then 0 else(bif Nat.blt k 14 then 0 else 12)))) else 0) else(bif Nat.blt t 67 then 0 else(bif Nat.blt k 5 then(bif Nat.blt k 2 then 0 else(bif Nat.blt k 3 then 0 else(bif Nat.blt k 4 then 0 else 5))) else 0)))) else(bif Nat.blt t 71 then 0 else(bif Nat.blt t 73 then(bif Nat.blt t 72 then 0 else(bif Nat.blt k 6 then(bif Nat.blt k 3 then(bif Nat.blt k 1 then 0 else(bif Nat.blt k 2 then 7 else 0)) else(bif Nat.blt k 4 then 0 else(bif Nat.blt k 5 then 0 else 5))) else 0)) else 0)))) else(bif Nat.blt t 87 then(bif Nat.blt t 81 then(bif Nat.blt t 78 then(bif Nat.blt t 76 then(bif Nat.blt k 4 then(bif Nat.blt k 2 then(bif Nat.blt k 1 then 0 else 9) else(bif Nat.blt k 3 then 0 else 15)) else 0) else(bif Nat.blt t 77 then(bif Nat.blt k 13 then(bif Nat.blt k 6 then 0 else(bif Nat.blt k 9 then(bif Nat.blt k 7 then 0 else(bif Nat.blt k 8 then 0 else 10)) else(bif Nat.blt k 11 then(bif Nat.blt k 10 then 0 else 10) else(bif Nat.blt k 12 then 0 else 7)))) else 0) else 0)) else 0) else(bif Nat.blt t 84 then(bif Nat.blt t 82 then(bif Nat.blt k 10 then(bif Nat.blt k 5 then 0 else(bif Nat.blt k 7 then 0 else(bif Nat.blt k 8 then 0 else(bif Nat.blt k 9 then 0 else 10)))) else 0) else 0) else 0)) else(bif Nat.blt t 93 then(bif Nat.blt t 90 then(bif Nat.blt t 88 then(bif Nat.blt k 5 then(bif Nat.blt k 2 then 0 else(bif Nat.blt k 3 then 0 else(bif Nat.blt k 4 then 0 else 14))) else 0) else(bif Nat.blt t 89 then(bif Nat.blt k 8 then(bif Nat.blt k 4 then 0 else(bif Nat.blt k 6 then 0 else(bif Nat.blt k 7 then 0 else 15))) else 0) else 0)) else 0) else(bif Nat.blt t 96 then 0 else(bif Nat.blt t 98 then 0 else(bif Nat.blt t 99 then 0 else(bif Nat.blt k 2 then(bif Nat.blt k 1 then 0 else 9) else 0)))))))) else 0
def pan (t:FuncId) (k:Nat):List (List Nat):=bif Nat.blt t 100 then(bif Nat.blt t 50 then(bif Nat.blt t 25 then(bif Nat.blt t 12 then(bif Nat.blt t 6 then(bif Nat.blt t 3 then[] else(bif Nat.blt t 4 then(bif Nat.blt k 22 then(bif Nat.blt k 11 then(bif Nat.blt k 5 then[] else(bif Nat.blt k 8 then(bif Nat.blt k 6 then[[],[],[],[],[],[],[2,5],[],[],[2,5,6,8],[0,1,2,5,6,8,9],[],[]] else[]) else[])) else(bif Nat.blt k 16 then(bif Nat.blt k 13 then(bif Nat.blt k 12 then[[],[],[],[0,2],[],[]] else[]) else[]) else(bif Nat.blt k 19 then[] else(bif Nat.blt k 20 then[] else(bif Nat.blt k 21 then[] else[[],[],[],[0,1,2],[],[],[]]))))) else[]) else(bif Nat.blt t 5 then(bif Nat.blt k 23 then(bif Nat.blt k 11 then(bif Nat.blt k 5 then(bif Nat.blt k 2 then[] else(bif Nat.blt k 3 then[] else(bif Nat.blt k 4 then[] else[[],[],[],[0,1],[],[],[],[]]))) else[]) else(bif Nat.blt k 17 then(bif Nat.blt k 14 then[] else(bif Nat.blt k 15 then[] else(bif Nat.blt k 16 then[[],[],[],[],[0,1],[],[],[],[]] else[[],[],[],[],[0,1],[],[],[],[]]))) else(bif Nat.blt k 20 then[] else(bif Nat.blt k 21 then[] else(bif Nat.blt k 22 then[[],[],[],[],[],[4],[],[],[0,2,4,5],[],[],[],[]] else[[],[],[],[],[],[4],[],[],[0,2,4,5],[],[],[],[]]))))) else[]) else(bif Nat.blt k 33 then(bif Nat.blt k 16 then[] else(bif Nat.blt k 24 then(bif Nat.blt k 20 then[] else(bif Nat.blt k 22 then(bif Nat.blt k 21 then[] else[[],[],[],[],[],[],[3],[],[],[],[],[],[],[3,6,12],[]]) else[])) else(bif Nat.blt k 28 then(bif Nat.blt k 26 then(bif Nat.blt k 25 then[] else[[],[],[],[],[0,1],[],[],[],[]]) else[]) else(bif Nat.blt k 30 then[] else(bif Nat.blt k 31 then[] else(bif Nat.blt k 32 then[] else[[],[],[],[],[0,1],[],[],[],[],[0,1,4,5,6],[],[],[],[0,1,4,5,6,9],[0,1,4,5,6,9,13],[],[0,1,4,5,6,9],[],[0,1,4,5,6,9],[0,1,4,5,6,9,13,14,18],[],[0,1,4,5,6,9,13,14,16,18,19],[],[0,1,4,5,6,9],[0,1,4,5,6,9,13,14,16,18,19,21,23],[],[0,1,4,5,6,9],[],[0,1,4,5,6,9],[0,1,4,5,6,9,13,14,16,18,19,21,23,24,28],[]])))))) else[])))) else(bif Nat.blt t 9 then(bif Nat.blt t 7 then(bif Nat.blt k 8 then(bif Nat.blt k 4 then(bif Nat.blt k 2 then[] else(bif Nat.blt k 3 then[] else[[],[],[0,1],[],[],[],[4,5],[],[],[],[0,1,2,8,9]])) else(bif Nat.blt k 6 then[] else(bif Nat.blt k 7 then[] else[[],[],[],[],[],[0,1,4],[],[0,1,4,5],[0,1,4,5],[],[],[0,1,4,5],[0,1,4,5,7,8,11],[],[],[],[0,1,4,5,7,8,11,12],[0,1,4,5,7,8,11,12],[],[],[0,1,4,5,7,8,11,12],[0,1,4,5,7,8,11,12,16,17,20],[],[],[],[0,1,4,5,7,8,11,12,16,17,20,21],[0,1,4,5,7,8,11,12,16,17,20,21],[],[0,1,4,5,7,8,11,12,16,17,20,21],[0,1,4,5,7,8,11,12,16,17,20,21,25,26,28],[],[],[0,1,4,5,7,8,11,12,16,17,20,21,25,26,28,29],[0,1,4,5,7,8,11,12,16,17,20,21,25,26,28,29],[],[0,1,4,5,7,8,11,12,16,17,20,21,25,26,28,29]]))) else[]) else(bif Nat.blt t 8 then(bif Nat.blt k 3 then(bif Nat.blt k 1 then[] else(bif Nat.blt k 2 then[] else[[],[],[],[],[1,3]])) else[]) else(bif Nat.blt k 33 then(bif Nat.blt k 16 then(bif Nat.blt k 8 then(bif Nat.blt k 4 then[] else(bif Nat.blt k 6 then(bif Nat.blt k 5 then[] else[[],[],[],[],[],[],[],[],[],[],[],[],[],[],[],[],[],[],[],[],[],[],[],[]]) else[])) else(bif Nat.blt k 12 then[] else(bif Nat.blt k 14 then(bif Nat.blt k 13 then[[],[],[],[],[],[],[],[0,1,2,3,4,5,6],[1,3,6,7],[1,3,6,7],[1,3,6,7],[1,3,6,7]] else[]) else[]))) else(bif Nat.blt k 24 then(bif Nat.blt k 20 then[] else(bif Nat.blt k 22 then[] else(bif Nat.blt k 23 then[[],[],[],[],[],[],[],[],[],[0,1,2,3,4,5,6,7,8],[3,5,8,9],[3,5,8,9],[3,5,8,9],[3,5,8,9],[3,5,8,9]] else[]))) else(bif Nat.blt k 28 then(bif Nat.blt k 26 then[] else(bif Nat.blt k 27 then[] else[[],[],[],[],[],[],[],[4]])) else(bif Nat.blt k 30 then[] else(bif Nat.blt k 31 then[] else(bif Nat.blt k 32 then[] else[[],[],[],[],[],[],[],[],[7],[7,8],[],[],[7,8,9],[1,2,3,4,5,6,7,8,9,10,11,12]])))))) else[]))) else(bif Nat.blt t 10 then(bif Nat.blt k 12 then(bif Nat.blt k 6 then[] else(bif Nat.blt k 9 then[] else(bif Nat.blt k 10 then[] else(bif Nat.blt k 11 then[] else[[],[],[],[],[],[],[3],[],[],[3,6],[3,6,9]])))) else[]) else[]))) else(bif Nat.blt t 18 then(bif Nat.blt t 15 then(bif Nat.blt t 13 then[] else(bif Nat.blt t 14 then[] else(bif Nat.blt k 7 then(bif Nat.blt k 3 then[] else(bif Nat.blt k 5 then[] else(bif Nat.blt k 6 then[] else[[],[],[],[],[],[],[],[]]))) else[]))) else(bif Nat.blt t 16 then[] else(bif Nat.blt t 17 then(bif Nat.blt k 6 then(bif Nat.blt k 3 then[] else(bif Nat.blt k 4 then[] else(bif Nat.blt k 5 then[] else[[],[],[],[],[],[],[3],[],[]]))) else[]) else[]))) else(bif Nat.blt t 21 then(bif Nat.blt t 19 then[] else(bif Nat.blt t 20 then(bif Nat.blt k 15 then(bif Nat.blt k 7 then[] else(bif Nat.blt k 11 then[] else(bif Nat.blt k 13 then[] else(bif Nat.blt k 14 then[] else[[],[],[],[],[2,3],[],[],[2,3,4,5,6]])))) else[]) else(bif Nat.blt k 7 then(bif Nat.blt k 3 then[] else(bif Nat.blt k 5 then[] else(bif Nat.blt k 6 then[] else[[],[],[],[],[],[],[],[]]))) else[]))) else(bif Nat.blt t 23 then(bif Nat.blt t 22 then[] else(bif Nat.blt k 2 then(bif Nat.blt k 1 then[] else[[],[],[],[],[0,1],[],[],[],[]]) else[])) else[])))) else(bif Nat.blt t 37 then(bif Nat.blt t 31 then(bif Nat.blt t 28 then(bif Nat.blt t 26 then(bif Nat.blt k 4 then(bif Nat.blt k 2 then[] else(bif Nat.blt k 3 then[] else[[],[],[1],[],[],[],[4,5],[],[],[1,2]])) else[]) else(bif Nat.blt t 27 then(bif Nat.blt k 3 then(bif Nat.blt k 1 then[] else(bif Nat.blt k 2 then[] else[[],[],[],[0,1],[],[],[],[]])) else[]) else[])) else(bif Nat.blt t 29 then(bif Nat.blt k 9 then(bif Nat.blt k 4 then[] else(bif Nat.blt k 6 then[] else(bif Nat.blt k 7 then[] else(bif Nat.blt k 8 then[] else[[],[],[],[],[],[],[4],[],[],[4],[],[4,7,9],[],[],[4,9],[],[4,9,12,14],[],[4,9,14],[],[]])))) else[]) else(bif Nat.blt t 30 then(bif Nat.blt k 8 then(bif Nat.blt k 4 then[] else(bif Nat.blt k 6 then[] else(bif Nat.blt k 7 then[] else[[],[],[],[],[],[],[3],[3,6],[3,6,7]]))) else[]) else[]))) else(bif Nat.blt t 34 then[] else(bif Nat.blt t 35 then[] else(bif Nat.blt t 36 then(bif Nat.blt k 26 then(bif Nat.blt k 13 then[] else(bif Nat.blt k 19 then[] else(bif Nat.blt k 22 then[] else(bif Nat.blt k 24 then[] else(bif Nat.blt k 25 then[] else[[],[],[],[],[],[],[],[],[],[],[],[],[],[]]))))) else[]) else[])))) else(bif Nat.blt t 43 then[] else(bif Nat.blt t 46 then[] else(bif Nat.blt t 48 then(bif Nat.blt t 47 then[] else(bif Nat.blt k 17 then(bif Nat.blt k 8 then(bif Nat.blt k 4 then[] else(bif Nat.blt k 6 then(bif Nat.blt k 5 then[[],[],[],[],[],[4],[],[],[4,5,6,7]] else[]) else[])) else(bif Nat.blt k 12 then[] else(bif Nat.blt k 14 then[] else(bif Nat.blt k 15 then[] else(bif Nat.blt k 16 then[] else[[],[],[],[],[],[],[],[],[],[]]))))) else[])) else(bif Nat.blt t 49 then[] else(bif Nat.blt k 2 then(bif Nat.blt k 1 then[] else[[],[],[],[0],[]]) else[]))))))) else(bif Nat.blt t 75 then(bif Nat.blt t 62 then(bif Nat.blt t 56 then(bif Nat.blt t 53 then(bif Nat.blt t 51 then[] else(bif Nat.blt t 52 then(bif Nat.blt k 12 then(bif Nat.blt k 6 then[] else(bif Nat.blt k 9 then(bif Nat.blt k 7 then[] else(bif Nat.blt k 8 then[] else[[],[],[],[],[],[],[3],[],[],[],[]])) else(bif Nat.blt k 10 then[] else(bif Nat.blt k 11 then[] else[[],[],[],[],[],[],[],[],[],[],[],[],[],[10]])))) else[]) else(bif Nat.blt k 12 then(bif Nat.blt k 6 then(bif Nat.blt k 3 then[] else(bif Nat.blt k 4 then[] else(bif Nat.blt k 5 then[[],[],[],[],[],[1],[],[1,3,5],[],[1,5]] else[[],[],[],[],[0,2],[],[2]]))) else(bif Nat.blt k 9 then[] else(bif Nat.blt k 10 then[] else(bif Nat.blt k 11 then[] else[[],[],[],[],[],[],[],[],[],[8]])))) else[]))) else(bif Nat.blt t 54 then(bif Nat.blt k 16 then(bif Nat.blt k 8 then[] else(bif Nat.blt k 12 then(bif Nat.blt k 10 then[] else(bif Nat.blt k 11 then[] else[[],[],[],[],[],[],[],[],[],[],[],[],[]])) else(bif Nat.blt k 14 then(bif Nat.blt k 13 then[] else[[],[],[],[],[],[],[],[],[],[],[],[],[]]) else(bif Nat.blt k 15 then[] else[[],[],[],[],[],[],[]])))) else[]) else(bif Nat.blt t 55 then(bif Nat.blt k 5 then(bif Nat.blt k 2 then(bif Nat.blt k 1 then[] else[[],[],[],[],[],[],[],[],[]]) else(bif Nat.blt k 3 then[] else(bif Nat.blt k 4 then[] else[[],[],[],[],[],[],[],[],[],[],[3,7],[]]))) else[]) else(bif Nat.blt k 8 then(bif Nat.blt k 4 then[] else(bif Nat.blt k 6 then[] else(bif Nat.blt k 7 then[[],[],[1],[0,1,2],[],[],[],[0,1,2,3]] else[[],[],[0]]))) else[])))) else(bif Nat.blt t 59 then(bif Nat.blt t 57 then[] else(bif Nat.blt t 58 then[] else(bif Nat.blt k 30 then(bif Nat.blt k 15 then(bif Nat.blt k 7 then[] else(bif Nat.blt k 11 then(bif Nat.blt k 9 then(bif Nat.blt k 8 then[[],[],[],[],[],[2,3,4],[],[],[2,3,4,5],[2,3,4,5],[2,3,4,5],[],[2,3,4,5,8,9,10],[2,3,4,5],[2,3,4,5,8,9,10,12,13],[]] else[]) else[]) else[])) else(bif Nat.blt k 22 then[] else(bif Nat.blt k 26 then[] else(bif Nat.blt k 28 then[] else(bif Nat.blt k 29 then[] else[[],[],[],[],[],[2,3]]))))) else[]))) else(bif Nat.blt t 60 then[] else(bif Nat.blt t 61 then[] else(bif Nat.blt k 2 then(bif Nat.blt k 1 then[] else[[],[],[],[],[],[2,3],[],[],[],[6],[],[]]) else[]))))) else(bif Nat.blt t 68 then(bif Nat.blt t 65 then(bif Nat.blt t 63 then[] else(bif Nat.blt t 64 then[] else(bif Nat.blt k 31 then(bif Nat.blt k 15 then[] else(bif Nat.blt k 23 then[] else(bif Nat.blt k 27 then[] else(bif Nat.blt k 29 then[] else(bif Nat.blt k 30 then[] else[[],[],[],[],[],[1],[],[],[],[],[7]]))))) else[]))) else(bif Nat.blt t 66 then(bif Nat.blt k 15 then(bif Nat.blt k 7 then[] else(bif Nat.blt k 11 then[] else(bif Nat.blt k 13 then[] else(bif Nat.blt k 14 then[] else[[],[],[],[],[],[],[],[],[],[],[],[8]])))) else[]) else(bif Nat.blt t 67 then[] else(bif Nat.blt k 5 then(bif Nat.blt k 2 then[] else(bif Nat.blt k 3 then[] else(bif Nat.blt k 4 then[] else[[],[],[],[],[]]))) else[])))) else(bif Nat.blt t 71 then[] else(bif Nat.blt t 73 then(bif Nat.blt t 72 then[] else(bif Nat.blt k 6 then(bif Nat.blt k 3 then(bif Nat.blt k 1 then[] else(bif Nat.blt k 2 then[[],[],[1],[],[],[1,2,4],[]] else[])) else(bif Nat.blt k 4 then[] else(bif Nat.blt k 5 then[] else[[],[],[],[],[3]]))) else[])) else[])))) else(bif Nat.blt t 87 then(bif Nat.blt t 81 then(bif Nat.blt t 78 then(bif Nat.blt t 76 then(bif Nat.blt k 4 then(bif Nat.blt k 2 then(bif Nat.blt k 1 then[] else[[],[],[],[],[],[],[],[],[]]) else(bif Nat.blt k 3 then[] else[[],[],[],[],[],[],[],[],[],[3,7],[],[],[],[],[]])) else[]) else(bif Nat.blt t 77 then(bif Nat.blt k 13 then(bif Nat.blt k 6 then[] else(bif Nat.blt k 9 then(bif Nat.blt k 7 then[] else(bif Nat.blt k 8 then[] else[[],[],[],[],[],[],[],[],[],[]])) else(bif Nat.blt k 11 then(bif Nat.blt k 10 then[] else[[],[],[],[],[],[],[],[],[],[]]) else(bif Nat.blt k 12 then[] else[[],[],[],[],[],[],[]])))) else[]) else[])) else[]) else(bif Nat.blt t 84 then(bif Nat.blt t 82 then(bif Nat.blt k 10 then(bif Nat.blt k 5 then[] else(bif Nat.blt k 7 then[] else(bif Nat.blt k 8 then[] else(bif Nat.blt k 9 then[] else[[],[],[],[],[],[],[],[],[4],[]])))) else[]) else[]) else[])) else(bif Nat.blt t 93 then(bif Nat.blt t 90 then(bif Nat.blt t 88 then(bif Nat.blt k 5 then(bif Nat.blt k 2 then[] else(bif Nat.blt k 3 then[] else(bif Nat.blt k 4 then[] else[[],[],[],[],[],[],[],[],[],[],[],[8],[],[]]))) else[]) else(bif Nat.blt t 89 then(bif Nat.blt k 8 then(bif Nat.blt k 4 then[] else(bif Nat.blt k 6 then[] else(bif Nat.blt k 7 then[] else[[],[],[],[],[],[],[],[1,3],[],[1,3],[],[1,3],[1,3,7,9,11],[],[1,3]]))) else[]) else[])) else[]) else(bif Nat.blt t 96 then[] else(bif Nat.blt t 98 then[] else(bif Nat.blt t 99 then[] else(bif Nat.blt k 2 then(bif Nat.blt k 1 then[] else[[],[],[],[],[1,3],[],[],[],[]]) else[])))))))) else[]
def prk (t:FuncId) (k:Nat):List Nat:=bif Nat.blt t 56 then(bif Nat.blt t 28 then[] else(bif Nat.blt t 42 then[] else(bif Nat.blt t 49 then[] else(bif Nat.blt t 52 then[] else(bif Nat.blt t 54 then[] else(bif Nat.blt t 55 then[] else(bif Nat.blt k 5 then(bif Nat.blt k 2 then[] else(bif Nat.blt k 3 then[] else(bif Nat.blt k 4 then[] else[2,3,4]))) else[]))))))) else[]
def ppr:FuncId→Option (Nat→List R→List (Nat×B)→Option (R×List (Nat×B)))
 | 91=>some (pr0 (q5u T 51 false))
 | 92=>some (pr0 (q5u T 30 true))
 | _=>none
def pol:Pol:=⟨pq,pow,pfz,pkp,pkx,prw,pro,pdm,pan,prk,ppr⟩
theorem qCC:T.ip 7=none:=rfl
theorem qxp:T.ip 10=none:=rfl
theorem qwj:T.ip 11=none:=rfl
theorem qxN:T.ip 27=none:=rfl
theorem qwc:T.ip 29=none:=rfl
theorem qyR:T.ip 30=none:=rfl
theorem qyb:T.ip 34=none:=rfl
theorem qyK:T.ip 36=none:=rfl
theorem qyQ:T.ip 44=none:=rfl
theorem qy8:T.ip 45=none:=rfl
theorem qxm:T.ip 50=none:=rfl
theorem qye:T.ip 53=none:=rfl
theorem qys:T.ip 55=none:=rfl
theorem qwq:T.ip 63=none:=rfl
theorem qwF:T.ip 64=none:=rfl
theorem qxh:T.ip 71=none:=rfl
theorem qyD:T.ip 72=none:=rfl
theorem qxI:T.ip 78=none:=rfl
theorem qxk:T.ip 79=none:=rfl
theorem qxg:T.ip 80=none:=rfl
theorem qxB:T.ip 81=none:=rfl
theorem qwO:T.ip 82=none:=rfl
theorem qwE:T.ip 86=none:=rfl
theorem qwB:T.ip 88=none:=rfl
theorem qxJ:T.ip 90=none:=rfl
theorem qwT:T.ip 93=none:=rfl
theorem qz5:T.ip 97=none:=rfl
theorem qyg:T.ip 98=none:=rfl
theorem qvc:T.ip 100=none:=rfl
theorem qs2:T.ip 105=none:=rfl
theorem qqC:T.ip 108=none:=rfl
theorem qt8:T.ip 110=none:=rfl
theorem qtH:T.ip 111=none:=rfl
theorem qxy:pol.rk 4 4=[]:=rfl
theorem qrh:pol.rk 4 15=[]:=rfl
theorem qqQ:pol.rk 4 16=[]:=rfl
theorem qtk:pol.rk 4 21=[]:=rfl
theorem qu1:pol.rk 4 22=[]:=rfl
theorem qwY:pol.rk 6 3=[]:=rfl
theorem qya:pol.rk 6 7=[]:=rfl
theorem qwK:pol.rk 7 2=[]:=rfl
theorem qsa:pol.rk 9 11=[]:=rfl
theorem qu6:pol.rk 16 5=[]:=rfl
theorem qpJ:pol.rk 19 14=[]:=rfl
theorem qum:pol.rk 20 6=[]:=rfl
theorem qrQ:pol.rk 25 3=[]:=rfl
theorem qrB:pol.rk 26 2=[]:=rfl
theorem quS:pol.rk 28 8=[]:=rfl
theorem qu7:pol.rk 29 7=[]:=rfl
theorem qoz:pol.rk 35 25=[]:=rfl
theorem qsd:pol.rk 47 4=[]:=rfl
theorem qn1:pol.rk 47 16=[]:=rfl
theorem qrR:pol.rk 49 1=[]:=rfl
theorem qqY:pol.rk 52 4=[]:=rfl
theorem qsB:pol.rk 52 5=[]:=rfl
theorem qoS:pol.rk 52 11=[]:=rfl
theorem qpk:pol.rk 53 11=[]:=rfl
theorem qpW:pol.rk 53 13=[]:=rfl
theorem qnI:pol.rk 53 15=[]:=rfl
theorem quV:pol.rk 54 1=[]:=rfl
theorem qrA:pol.rk 54 4=[]:=rfl
theorem qti:pol.rk 55 6=[]:=rfl
theorem qu4:pol.rk 55 7=[]:=rfl
theorem qv9:pol.rk 58 7=[]:=rfl
theorem qp8:pol.rk 58 29=[]:=rfl
theorem qqE:pol.rk 61 1=[]:=rfl
theorem qne:pol.rk 64 30=[]:=rfl
theorem qp0:pol.rk 65 14=[]:=rfl
theorem qsf:pol.rk 67 4=[]:=rfl
theorem quw:pol.rk 72 1=[]:=rfl
theorem qtG:pol.rk 72 5=[]:=rfl
theorem qrY:pol.rk 75 1=[]:=rfl
theorem qtB:pol.rk 75 3=[]:=rfl
theorem quQ:pol.rk 76 8=[]:=rfl
theorem qoM:pol.rk 76 10=[]:=rfl
theorem qnV:pol.rk 76 12=[]:=rfl
theorem qr6:pol.rk 81 9=[]:=rfl
theorem quu:pol.rk 87 4=[]:=rfl
theorem qvf:pol.rk 88 7=[]:=rfl
theorem qs1:pol.rk 99 1=[]:=rfl
theorem qru:pol.rk 55 4=[2,3,4]:=rfl
theorem qy7:pol.dm 4 4=8∧pol.an 4 4=[[],[],[],[0,1],[],[],[],[]]:=⟨rfl,rfl⟩
theorem qsq:pol.dm 4 15=9∧pol.an 4 15=[[],[],[],[],[0,1],[],[],[],[]]:=⟨rfl,rfl⟩
theorem qqP:pol.dm 4 16=9∧pol.an 4 16=[[],[],[],[],[0,1],[],[],[],[]]:=⟨rfl,rfl⟩
theorem qsr:pol.dm 4 21=13∧pol.an 4 21=[[],[],[],[],[],[4],[],[],[0,2,4,5],[],[],[],[]]:=⟨rfl,rfl⟩
theorem quL:pol.dm 4 22=13∧pol.an 4 22=[[],[],[],[],[],[4],[],[],[0,2,4,5],[],[],[],[]]:=⟨rfl,rfl⟩
theorem qxe:pol.dm 6 3=11∧pol.an 6 3=[[],[],[0,1],[],[],[],[4,5],[],[],[],[0,1,2,8,9]]:=⟨rfl,rfl⟩
theorem qx3:pol.dm 6 7=36∧pol.an 6 7=[[],[],[],[],[],[0,1,4],[],[0,1,4,5],[0,1,4,5],[],[],[0,1,4,5],[0,1,4,5,7,8,11],[],[],[],[0,1,4,5,7,8,11,12],[0,1,4,5,7,8,11,12],[],[],[0,1,4,5,7,8,11,12],[0,1,4,5,7,8,11,12,16,17,20],[],[],[],[0,1,4,5,7,8,11,12,16,17,20,21],[0,1,4,5,7,8,11,12,16,17,20,21],[],[0,1,4,5,7,8,11,12,16,17,20,21],[0,1,4,5,7,8,11,12,16,17,20,21,25,26,28],[],[],[0,1,4,5,7,8,11,12,16,17,20,21,25,26,28,29],[0,1,4,5,7,8,11,12,16,17,20,21,25,26,28,29],[],[0,1,4,5,7,8,11,12,16,17,20,21,25,26,28,29]]:=⟨rfl,rfl⟩
theorem qwA:pol.dm 7 2=5∧pol.an 7 2=[[],[],[],[],[1,3]]:=⟨rfl,rfl⟩
theorem qul:pol.dm 9 11=11∧pol.an 9 11=[[],[],[],[],[],[],[3],[],[],[3,6],[3,6,9]]:=⟨rfl,rfl⟩
theorem qrZ:pol.dm 16 5=9∧pol.an 16 5=[[],[],[],[],[],[],[3],[],[]]:=⟨rfl,rfl⟩
theorem qpE:pol.dm 19 14=8∧pol.an 19 14=[[],[],[],[],[2,3],[],[],[2,3,4,5,6]]:=⟨rfl,rfl⟩
theorem qu5:pol.dm 20 6=8∧pol.an 20 6=[[],[],[],[],[],[],[],[]]:=⟨rfl,rfl⟩
theorem qqL:pol.dm 25 3=10∧pol.an 25 3=[[],[],[1],[],[],[],[4,5],[],[],[1,2]]:=⟨rfl,rfl⟩
theorem qrG:pol.dm 26 2=8∧pol.an 26 2=[[],[],[],[0,1],[],[],[],[]]:=⟨rfl,rfl⟩
theorem qsg:pol.dm 28 8=21∧pol.an 28 8=[[],[],[],[],[],[],[4],[],[],[4],[],[4,7,9],[],[],[4,9],[],[4,9,12,14],[],[4,9,14],[],[]]:=⟨rfl,rfl⟩
theorem qsp:pol.dm 29 7=9∧pol.an 29 7=[[],[],[],[],[],[],[3],[3,6],[3,6,7]]:=⟨rfl,rfl⟩
theorem qpv:pol.dm 35 25=14∧pol.an 35 25=[[],[],[],[],[],[],[],[],[],[],[],[],[],[]]:=⟨rfl,rfl⟩
theorem qsQ:pol.dm 47 4=9∧pol.an 47 4=[[],[],[],[],[],[4],[],[],[4,5,6,7]]:=⟨rfl,rfl⟩
theorem qno:pol.dm 47 16=10∧pol.an 47 16=[[],[],[],[],[],[],[],[],[],[]]:=⟨rfl,rfl⟩
theorem qry:pol.dm 49 1=5∧pol.an 49 1=[[],[],[],[0],[]]:=⟨rfl,rfl⟩
theorem qrT:pol.dm 52 4=10∧pol.an 52 4=[[],[],[],[],[],[1],[],[1,3,5],[],[1,5]]:=⟨rfl,rfl⟩
theorem quX:pol.dm 52 5=7∧pol.an 52 5=[[],[],[],[],[0,2],[],[2]]:=⟨rfl,rfl⟩
theorem qqp:pol.dm 52 11=10∧pol.an 52 11=[[],[],[],[],[],[],[],[],[],[8]]:=⟨rfl,rfl⟩
theorem qog:pol.dm 53 11=13∧pol.an 53 11=[[],[],[],[],[],[],[],[],[],[],[],[],[]]:=⟨rfl,rfl⟩
theorem qnh:pol.dm 53 13=13∧pol.an 53 13=[[],[],[],[],[],[],[],[],[],[],[],[],[]]:=⟨rfl,rfl⟩
theorem qn9:pol.dm 53 15=7∧pol.an 53 15=[[],[],[],[],[],[],[]]:=⟨rfl,rfl⟩
theorem qv1:pol.dm 54 1=9∧pol.an 54 1=[[],[],[],[],[],[],[],[],[]]:=⟨rfl,rfl⟩
theorem qqM:pol.dm 54 4=12∧pol.an 54 4=[[],[],[],[],[],[],[],[],[],[],[3,7],[]]:=⟨rfl,rfl⟩
theorem quY:pol.dm 55 6=8∧pol.an 55 6=[[],[],[1],[0,1,2],[],[],[],[0,1,2,3]]:=⟨rfl,rfl⟩
theorem qqD:pol.dm 55 7=3∧pol.an 55 7=[[],[],[0]]:=⟨rfl,rfl⟩
theorem qtm:pol.dm 58 7=16∧pol.an 58 7=[[],[],[],[],[],[2,3,4],[],[],[2,3,4,5],[2,3,4,5],[2,3,4,5],[],[2,3,4,5,8,9,10],[2,3,4,5],[2,3,4,5,8,9,10,12,13],[]]:=⟨rfl,rfl⟩
theorem qpg:pol.dm 58 29=6∧pol.an 58 29=[[],[],[],[],[],[2,3]]:=⟨rfl,rfl⟩
theorem qv3:pol.dm 61 1=12∧pol.an 61 1=[[],[],[],[],[],[2,3],[],[],[],[6],[],[]]:=⟨rfl,rfl⟩
theorem qo0:pol.dm 64 30=11∧pol.an 64 30=[[],[],[],[],[],[1],[],[],[],[],[7]]:=⟨rfl,rfl⟩
theorem qpM:pol.dm 65 14=12∧pol.an 65 14=[[],[],[],[],[],[],[],[],[],[],[],[8]]:=⟨rfl,rfl⟩
theorem qqU:pol.dm 67 4=5∧pol.an 67 4=[[],[],[],[],[]]:=⟨rfl,rfl⟩
theorem quG:pol.dm 72 1=7∧pol.an 72 1=[[],[],[1],[],[],[1,2,4],[]]:=⟨rfl,rfl⟩
theorem qtV:pol.dm 72 5=5∧pol.an 72 5=[[],[],[],[],[3]]:=⟨rfl,rfl⟩
theorem qt9:pol.dm 75 1=9∧pol.an 75 1=[[],[],[],[],[],[],[],[],[]]:=⟨rfl,rfl⟩
theorem qsR:pol.dm 75 3=15∧pol.an 75 3=[[],[],[],[],[],[],[],[],[],[3,7],[],[],[],[],[]]:=⟨rfl,rfl⟩
theorem qrj:pol.dm 76 8=10∧pol.an 76 8=[[],[],[],[],[],[],[],[],[],[]]:=⟨rfl,rfl⟩
theorem qpb:pol.dm 76 10=10∧pol.an 76 10=[[],[],[],[],[],[],[],[],[],[]]:=⟨rfl,rfl⟩
theorem qnF:pol.dm 76 12=7∧pol.an 76 12=[[],[],[],[],[],[],[]]:=⟨rfl,rfl⟩
theorem qte:pol.dm 81 9=10∧pol.an 81 9=[[],[],[],[],[],[],[],[],[4],[]]:=⟨rfl,rfl⟩
theorem qrJ:pol.dm 87 4=14∧pol.an 87 4=[[],[],[],[],[],[],[],[],[],[],[],[8],[],[]]:=⟨rfl,rfl⟩
theorem qr7:pol.dm 88 7=15∧pol.an 88 7=[[],[],[],[],[],[],[],[1,3],[],[1,3],[],[1,3],[1,3,7,9,11],[],[1,3]]:=⟨rfl,rfl⟩
theorem qs9:pol.dm 99 1=9∧pol.an 99 1=[[],[],[],[],[1,3],[],[],[],[]]:=⟨rfl,rfl⟩
theorem q22:pol.q 22=[1]:=rfl
theorem q26:pol.q 26=[1,1,0,0,0,0,0,0]:=rfl
theorem q27:pol.q 27=[2]:=rfl
theorem q28:pol.q 28=[5]:=rfl
theorem q30:pol.q 30=[0,0,0,2,5]:=rfl
theorem q33:pol.q 33=[8]:=rfl
theorem q45:pol.q 45=[1]:=rfl
theorem q53:pol.q 53=[0,0,0,0,0,1,0,1]:=rfl
theorem q73:pol.q 73=[1]:=rfl
theorem q77:pol.q 77=[1]:=rfl
theorem qCl:pol.q 119=[1]:=rfl
theorem qBA:pol.q 122=[6]:=rfl
theorem qE1:pol.q 126=[0,0,0,2,5,0]:=rfl
theorem q3:pol.q 3=[]:=rfl
theorem q4:pol.q 4=[]:=rfl
theorem q9:pol.q 9=[]:=rfl
theorem q10:pol.q 10=[]:=rfl
theorem q21:pol.q 21=[]:=rfl
theorem q32:pol.q 32=[]:=rfl
theorem q46:pol.q 46=[]:=rfl
theorem q51:pol.q 51=[]:=rfl
theorem q76:pol.q 76=[]:=rfl
theorem q79:pol.q 79=[]:=rfl
theorem q87:pol.q 87=[]:=rfl
theorem q91:pol.q 91=[]:=rfl
theorem q93:pol.q 93=[]:=rfl
theorem qC1:pol.q 103=[]:=rfl
theorem qCV:pol.q 106=[]:=rfl
theorem qBm:pol.q 113=[]:=rfl
theorem qBV:pol.q 121=[]:=rfl
theorem qBv:pol.q 133=[]:=rfl
theorem qE2:pol.q 135=[]:=rfl
theorem qDH:pol.q 141=[]:=rfl
theorem qDq:pol.q 150=[]:=rfl
noncomputable def qhw:Code:=(Tryz.f4.body).getD .skip
theorem bd4:qo Tryz.prog pol 4=some ⟨qhw,144,[.tmp 6],[4]⟩:=by kernel_rfl
theorem pw4:pol.ow 4=[]∧pol.fz 4=false∧pol.ro 4=false∧pol.pr 4=none:=⟨rfl,rfl,rfl,rfl⟩
noncomputable def qnK:Code:=(Tryz.f6.body).getD .skip
theorem bd6:qo Tryz.prog pol 6=some ⟨qnK,129,[.tmp 0],[4]⟩:=by kernel_rfl
theorem pw6:pol.ow 6=[]∧pol.fz 6=false∧pol.ro 6=false∧pol.pr 6=none:=⟨rfl,rfl,rfl,rfl⟩
noncomputable def qnz:Code:=(Tryz.f7.body).getD .skip
theorem bd7:qo Tryz.prog pol 7=some ⟨qnz,13,[.cell 2 30,.tmp 3],[30,33]⟩:=by kernel_rfl
theorem pw7:pol.ow 7=[]∧pol.fz 7=true∧pol.ro 7=false∧pol.pr 7=none:=⟨rfl,rfl,rfl,rfl⟩
noncomputable def qi0:Code:=(Tryz.f9.body).getD .skip
theorem bd9:qo Tryz.prog pol 9=some ⟨qi0,75,[.cell 4 30],[30]⟩:=by kernel_rfl
theorem pw9:pol.ow 9=[]∧pol.fz 9=true∧pol.ro 9=false∧pol.pr 9=none:=⟨rfl,rfl,rfl,rfl⟩
noncomputable def qhi:Code:=(Tryz.f10.body).getD .skip
theorem qx8:qo Tryz.prog pol 10=some ⟨qhi,8,[.tmp 2],[33]⟩:=by kernel_rfl
theorem qAJ:pol.ow 10=[]∧pol.fz 10=true∧pol.ro 10=false∧pol.pr 10=none:=⟨rfl,rfl,rfl,rfl⟩
noncomputable def qi1:Code:=(Tryz.f11.body).getD .skip
theorem qxc:qo Tryz.prog pol 11=some ⟨qi1,11,[.cell 2 32],[32]⟩:=by kernel_rfl
theorem qA4:pol.ow 11=[]∧pol.fz 11=false∧pol.ro 11=false∧pol.pr 11=none:=⟨rfl,rfl,rfl,rfl⟩
noncomputable def qjf:Code:=(Tryz.f12.body).getD .skip
theorem qwW:qo Tryz.prog pol 12=some ⟨qjf,25,[.tmp 6,.tmp 7],[45,46]⟩:=by kernel_rfl
theorem qB6:pol.ow 12=[]∧pol.fz 12=true∧pol.ro 12=false∧pol.pr 12=none:=⟨rfl,rfl,rfl,rfl⟩
noncomputable def qh3:Code:=(Tryz.f13.body).getD .skip
theorem qyn:qo Tryz.prog pol 13=some ⟨qh3,25,[.tmp 6,.tmp 7],[45,46]⟩:=by kernel_rfl
theorem qAv:pol.ow 13=[]∧pol.fz 13=true∧pol.ro 13=false∧pol.pr 13=none:=⟨rfl,rfl,rfl,rfl⟩
noncomputable def qg7:Code:=(Tryz.f15.body).getD .skip
theorem qxo:qo Tryz.prog pol 15=some ⟨qg7,24,[.tmp 6],[4]⟩:=by kernel_rfl
theorem qzF:pol.ow 15=[]∧pol.fz 15=false∧pol.ro 15=false∧pol.pr 15=none:=⟨rfl,rfl,rfl,rfl⟩
noncomputable def qeA:Code:=(Tryz.f16.body).getD .skip
theorem qvT:qo Tryz.prog pol 16=some ⟨qeA,48,[.tmp 6],[4]⟩:=by kernel_rfl
theorem qAm:pol.ow 16=[]∧pol.fz 16=false∧pol.ro 16=false∧pol.pr 16=none:=⟨rfl,rfl,rfl,rfl⟩
noncomputable def qgG:Code:=(Tryz.f17.body).getD .skip
theorem qze:qo Tryz.prog pol 17=some ⟨qgG,12,[.tmp 4],[3]⟩:=by kernel_rfl
theorem qA1:pol.ow 17=[]∧pol.fz 17=false∧pol.ro 17=false∧pol.pr 17=none:=⟨rfl,rfl,rfl,rfl⟩
noncomputable def qc7:Code:=(Tryz.f18.body).getD .skip
theorem qrl:qo Tryz.prog pol 18=some ⟨qc7,89,[.tmp 8,.tmp 9],[22,4]⟩:=by kernel_rfl
theorem qAg:pol.ow 18=[]∧pol.fz 18=true∧pol.ro 18=false∧pol.pr 18=none:=⟨rfl,rfl,rfl,rfl⟩
noncomputable def qcl:Code:=(Tryz.f19.body).getD .skip
theorem qsl:qo Tryz.prog pol 19=some ⟨qcl,91,[.tmp 8,.tmp 9],[22,4]⟩:=by kernel_rfl
theorem qzT:pol.ow 19=[]∧pol.fz 19=true∧pol.ro 19=false∧pol.pr 19=none:=⟨rfl,rfl,rfl,rfl⟩
noncomputable def qf2:Code:=(Tryz.f20.body).getD .skip
theorem qw6:qo Tryz.prog pol 20=some ⟨qf2,26,[.tmp 4],[4]⟩:=by kernel_rfl
theorem qA2:pol.ow 20=[]∧pol.fz 20=false∧pol.ro 20=false∧pol.pr 20=none:=⟨rfl,rfl,rfl,rfl⟩
noncomputable def qhZ:Code:=(Tryz.f23.body).getD .skip
theorem qzc:qo Tryz.prog pol 23=some ⟨qhZ,40,[.tmp 8],[4]⟩:=by kernel_rfl
theorem qAr:pol.ow 23=[]∧pol.fz 23=false∧pol.ro 23=false∧pol.pr 23=none:=⟨rfl,rfl,rfl,rfl⟩
noncomputable def qgv:Code:=(Tryz.f25.body).getD .skip
theorem qyl:qo Tryz.prog pol 25=some ⟨qgv,23,[.tmp 0,.cell 1 30,.cell 2 30],[33,30,30]⟩:=by kernel_rfl
theorem qB4:pol.ow 25=[]∧pol.fz 25=true∧pol.ro 25=false∧pol.pr 25=none:=⟨rfl,rfl,rfl,rfl⟩
noncomputable def qcs:Code:=(Tryz.f26.body).getD .skip
theorem qv6:qo Tryz.prog pol 26=some ⟨qcs,58,[.tmp 4],[4]⟩:=by kernel_rfl
theorem qAL:pol.ow 26=[]∧pol.fz 26=false∧pol.ro 26=false∧pol.pr 26=none:=⟨rfl,rfl,rfl,rfl⟩
noncomputable def qgA:Code:=(Tryz.f27.body).getD .skip
theorem qxt:qo Tryz.prog pol 27=some ⟨qgA,7,[.cell 2 30],[30]⟩:=by kernel_rfl
theorem qAF:pol.ow 27=[]∧pol.fz 27=true∧pol.ro 27=false∧pol.pr 27=none:=⟨rfl,rfl,rfl,rfl⟩
noncomputable def qf3:Code:=(Tryz.f28.body).getD .skip
theorem qvR:qo Tryz.prog pol 28=some ⟨qf3,77,[.tmp 4],[33]⟩:=by kernel_rfl
theorem qA7:pol.ow 28=[]∧pol.fz 28=true∧pol.ro 28=false∧pol.pr 28=none:=⟨rfl,rfl,rfl,rfl⟩
noncomputable def qdY:Code:=(Tryz.f29.body).getD .skip
theorem qvE:qo Tryz.prog pol 29=some ⟨qdY,31,[.cell 2 30],[30]⟩:=by kernel_rfl
theorem qy1:pol.ow 29=[]∧pol.fz 29=true∧pol.ro 29=false∧pol.pr 29=none:=⟨rfl,rfl,rfl,rfl⟩
noncomputable def qdX:Code:=(Tryz.f30.body).getD .skip
theorem qw8:qo Tryz.prog pol 30=some ⟨qdX,60,[.tmp 2],[46]⟩:=by kernel_rfl
theorem qzx:pol.ow 30=[]∧pol.fz 30=false∧pol.ro 30=false∧pol.pr 30=none:=⟨rfl,rfl,rfl,rfl⟩
noncomputable def qi6:Code:=(Tryz.f31.body).getD .skip
theorem qyv:qo Tryz.prog pol 31=some ⟨qi6,5,[.tmp 4],[4]⟩:=by kernel_rfl
theorem qAQ:pol.ow 31=[]∧pol.fz 31=false∧pol.ro 31=false∧pol.pr 31=none:=⟨rfl,rfl,rfl,rfl⟩
noncomputable def qgM:Code:=(Tryz.f32.body).getD .skip
theorem qyk:qo Tryz.prog pol 32=some ⟨qgM,5,[.tmp 4],[4]⟩:=by kernel_rfl
theorem qzh:pol.ow 32=[]∧pol.fz 32=false∧pol.ro 32=false∧pol.pr 32=none:=⟨rfl,rfl,rfl,rfl⟩
noncomputable def qhx:Code:=(Tryz.f33.body).getD .skip
theorem qvM:qo Tryz.prog pol 33=some ⟨qhx,17,[.tmp 10],[77]⟩:=by kernel_rfl
theorem qxz:pol.ow 33=[]∧pol.fz 33=true∧pol.ro 33=false∧pol.pr 33=none:=⟨rfl,rfl,rfl,rfl⟩
noncomputable def qbD:Code:=(Tryz.f34.body).getD .skip
theorem qsU:qo Tryz.prog pol 34=some ⟨qbD,62,[.tmp 2],[46]⟩:=by kernel_rfl
theorem qAu:pol.ow 34=[]∧pol.fz 34=false∧pol.ro 34=false∧pol.pr 34=none:=⟨rfl,rfl,rfl,rfl⟩
noncomputable def q7J:Code:=(Tryz.f35.body).getD .skip
theorem qkY:qo Tryz.prog pol 35=some ⟨q7J,158,[.tmp 4],[45]⟩:=by kernel_rfl
theorem quj:pol.ow 35=[]∧pol.fz 35=true∧pol.ro 35=false∧pol.pr 35=none:=⟨rfl,rfl,rfl,rfl⟩
noncomputable def qie:Code:=(Tryz.f36.body).getD .skip
theorem qwi:qo Tryz.prog pol 36=some ⟨qie,11,[.tmp 2],[4]⟩:=by kernel_rfl
theorem qAo:pol.ow 36=[]∧pol.fz 36=false∧pol.ro 36=false∧pol.pr 36=none:=⟨rfl,rfl,rfl,rfl⟩
noncomputable def qhc:Code:=(Tryz.f37.body).getD .skip
theorem qyW:qo Tryz.prog pol 37=some ⟨qhc,9,[.tmp 4],[4]⟩:=by kernel_rfl
theorem qA3:pol.ow 37=[]∧pol.fz 37=false∧pol.ro 37=false∧pol.pr 37=none:=⟨rfl,rfl,rfl,rfl⟩
noncomputable def qgF:Code:=(Tryz.f38.body).getD .skip
theorem qyr:qo Tryz.prog pol 38=some ⟨qgF,26,[.tmp 6],[4]⟩:=by kernel_rfl
theorem qzP:pol.ow 38=[]∧pol.fz 38=false∧pol.ro 38=false∧pol.pr 38=none:=⟨rfl,rfl,rfl,rfl⟩
noncomputable def qgl:Code:=(Tryz.f39.body).getD .skip
theorem qwV:qo Tryz.prog pol 39=some ⟨qgl,22,[.tmp 6],[4]⟩:=by kernel_rfl
theorem qzi:pol.ow 39=[]∧pol.fz 39=false∧pol.ro 39=false∧pol.pr 39=none:=⟨rfl,rfl,rfl,rfl⟩
noncomputable def qdR:Code:=(Tryz.f40.body).getD .skip
theorem qvq:qo Tryz.prog pol 40=some ⟨qdR,25,[.tmp 5],[4]⟩:=by kernel_rfl
theorem qBf:pol.ow 40=[]∧pol.fz 40=false∧pol.ro 40=false∧pol.pr 40=none:=⟨rfl,rfl,rfl,rfl⟩
noncomputable def qip:Code:=(Tryz.f41.body).getD .skip
theorem qz6:qo Tryz.prog pol 41=some ⟨qip,9,[.tmp 5],[4]⟩:=by kernel_rfl
theorem qAe:pol.ow 41=[]∧pol.fz 41=false∧pol.ro 41=false∧pol.pr 41=none:=⟨rfl,rfl,rfl,rfl⟩
noncomputable def qgC:Code:=(Tryz.f42.body).getD .skip
theorem qvA:qo Tryz.prog pol 42=some ⟨qgC,9,[.tmp 4],[4]⟩:=by kernel_rfl
theorem qwM:pol.ow 42=[]∧pol.fz 42=false∧pol.ro 42=false∧pol.pr 42=none:=⟨rfl,rfl,rfl,rfl⟩
noncomputable def qiD:Code:=(Tryz.f43.body).getD .skip
theorem qwl:qo Tryz.prog pol 43=some ⟨qiD,13,[.tmp 4],[4]⟩:=by kernel_rfl
theorem qzk:pol.ow 43=[]∧pol.fz 43=false∧pol.ro 43=false∧pol.pr 43=none:=⟨rfl,rfl,rfl,rfl⟩
noncomputable def qdS:Code:=(Tryz.f44.body).getD .skip
theorem qvt:qo Tryz.prog pol 44=some ⟨qdS,34,[.tmp 2],[28]⟩:=by kernel_rfl
theorem qB0:pol.ow 44=[]∧pol.fz 44=true∧pol.ro 44=false∧pol.pr 44=none:=⟨rfl,rfl,rfl,rfl⟩
noncomputable def qew:Code:=(Tryz.f45.body).getD .skip
theorem qvm:qo Tryz.prog pol 45=some ⟨qew,29,[.tmp 2],[28]⟩:=by kernel_rfl
theorem qA8:pol.ow 45=[]∧pol.fz 45=true∧pol.ro 45=false∧pol.pr 45=none:=⟨rfl,rfl,rfl,rfl⟩
noncomputable def qjd:Code:=(Tryz.f46.body).getD .skip
theorem qym:qo Tryz.prog pol 46=some ⟨qjd,11,[.tmp 3],[4]⟩:=by kernel_rfl
theorem qzQ:pol.ow 46=[]∧pol.fz 46=false∧pol.ro 46=false∧pol.pr 46=none:=⟨rfl,rfl,rfl,rfl⟩
noncomputable def qeJ:Code:=(Tryz.f47.body).getD .skip
theorem qvp:qo Tryz.prog pol 47=some ⟨qeJ,78,[.tmp 7,.tmp 8],[4,4]⟩:=by kernel_rfl
theorem qwX:pol.ow 47=[]∧pol.fz 47=false∧pol.ro 47=false∧pol.pr 47=none:=⟨rfl,rfl,rfl,rfl⟩
noncomputable def qeo:Code:=(Tryz.f48.body).getD .skip
theorem qrv:qo Tryz.prog pol 48=some ⟨qeo,44,[.cell 8 91],[91]⟩:=by kernel_rfl
theorem qwR:pol.ow 48=[]∧pol.fz 48=false∧pol.ro 48=false∧pol.pr 48=none:=⟨rfl,rfl,rfl,rfl⟩
noncomputable def qiF:Code:=(Tryz.f49.body).getD .skip
theorem qxj:qo Tryz.prog pol 49=some ⟨qiF,11,[.tmp 4],[4]⟩:=by kernel_rfl
theorem qzj:pol.ow 49=[]∧pol.fz 49=false∧pol.ro 49=false∧pol.pr 49=none:=⟨rfl,rfl,rfl,rfl⟩
noncomputable def qhp:Code:=(Tryz.f50.body).getD .skip
theorem qwb:qo Tryz.prog pol 50=some ⟨qhp,5,[.tmp 2],[93]⟩:=by kernel_rfl
theorem qBa:pol.ow 50=[]∧pol.fz 50=true∧pol.ro 50=false∧pol.pr 50=none:=⟨rfl,rfl,rfl,rfl⟩
noncomputable def qeZ:Code:=(Tryz.f52.body).getD .skip
theorem qvG:qo Tryz.prog pol 52=some ⟨qeZ,77,[.cell 6 30],[30]⟩:=by kernel_rfl
theorem qwg:pol.ow 52=[]∧pol.fz 52=true∧pol.ro 52=false∧pol.pr 52=none:=⟨rfl,rfl,rfl,rfl⟩
noncomputable def qas:Code:=(Tryz.f53.body).getD .skip
theorem qqv:qo Tryz.prog pol 53=some ⟨qas,85,[.tmp 2],[27]⟩:=by kernel_rfl
theorem qAN:pol.ow 53=[]∧pol.fz 53=true∧pol.ro 53=true∧pol.pr 53=none:=⟨rfl,rfl,rfl,rfl⟩
noncomputable def qjv:Code:=(Tryz.f54.body).getD .skip
theorem qyd:qo Tryz.prog pol 54=some ⟨qjv,35,[.tmp 4],[3]⟩:=by kernel_rfl
theorem qB8:pol.ow 54=[]∧pol.fz 54=false∧pol.ro 54=false∧pol.pr 54=none:=⟨rfl,rfl,rfl,rfl⟩
noncomputable def qcc:Code:=(Tryz.f55.body).getD .skip
theorem qt1:qo Tryz.prog pol 55=some ⟨qcc,27,[.cell 2 28,.cell 3 3,.cell 4 4],[28,3,4]⟩:=by kernel_rfl
theorem qA6:pol.ow 55=[]∧pol.fz 55=true∧pol.ro 55=false∧pol.pr 55=none:=⟨rfl,rfl,rfl,rfl⟩
noncomputable def qg9:Code:=(Tryz.f56.body).getD .skip
theorem qyG:qo Tryz.prog pol 56=some ⟨qg9,15,[.tmp 6],[4]⟩:=by kernel_rfl
theorem qzs:pol.ow 56=[]∧pol.fz 56=false∧pol.ro 56=false∧pol.pr 56=none:=⟨rfl,rfl,rfl,rfl⟩
noncomputable def qhu:Code:=(Tryz.f57.body).getD .skip
theorem qx2:qo Tryz.prog pol 57=some ⟨qhu,10,[.tmp 0],[113]⟩:=by kernel_rfl
theorem qzA:pol.ow 57=[]∧pol.fz 57=true∧pol.ro 57=false∧pol.pr 57=none:=⟨rfl,rfl,rfl,rfl⟩
noncomputable def q7F:Code:=(Tryz.f58.body).getD .skip
theorem qkD:qo Tryz.prog pol 58=some ⟨q7F,142,[.tmp 8],[77]⟩:=by kernel_rfl
theorem qqF:pol.ow 58=[]∧pol.fz 58=true∧pol.ro 58=false∧pol.pr 58=none:=⟨rfl,rfl,rfl,rfl⟩
noncomputable def qjl:Code:=(Tryz.f59.body).getD .skip
theorem qwv:qo Tryz.prog pol 59=some ⟨qjl,9,[.tmp 3],[4]⟩:=by kernel_rfl
theorem qzU:pol.ow 59=[]∧pol.fz 59=false∧pol.ro 59=false∧pol.pr 59=none:=⟨rfl,rfl,rfl,rfl⟩
noncomputable def qeg:Code:=(Tryz.f60.body).getD .skip
theorem qvI:qo Tryz.prog pol 60=some ⟨qeg,20,[],[]⟩:=by kernel_rfl
theorem qAO:pol.ow 60=[]∧pol.fz 60=false∧pol.ro 60=false∧pol.pr 60=none:=⟨rfl,rfl,rfl,rfl⟩
noncomputable def qhV:Code:=(Tryz.f61.body).getD .skip
theorem qyq:qo Tryz.prog pol 61=some ⟨qhV,32,[],[]⟩:=by kernel_rfl
theorem qzm:pol.ow 61=[]∧pol.fz 61=false∧pol.ro 61=false∧pol.pr 61=none:=⟨rfl,rfl,rfl,rfl⟩
noncomputable def qes:Code:=(Tryz.f62.body).getD .skip
theorem qqI:qo Tryz.prog pol 62=some ⟨qes,47,[.tmp 6,.tmp 7],[122,4]⟩:=by kernel_rfl
theorem qvu:pol.ow 62=[0]∧pol.fz 62=false∧pol.ro 62=true∧pol.pr 62=none:=⟨rfl,rfl,rfl,rfl⟩
noncomputable def qhO:Code:=(Tryz.f63.body).getD .skip
theorem qyw:qo Tryz.prog pol 63=some ⟨qhO,11,[.tmp 2],[4]⟩:=by kernel_rfl
theorem qzt:pol.ow 63=[]∧pol.fz 63=false∧pol.ro 63=false∧pol.pr 63=none:=⟨rfl,rfl,rfl,rfl⟩
noncomputable def qbB:Code:=(Tryz.f64.body).getD .skip
theorem qsT:qo Tryz.prog pol 64=some ⟨qbB,116,[.tmp 2],[46]⟩:=by kernel_rfl
theorem qBc:pol.ow 64=[]∧pol.fz 64=false∧pol.ro 64=false∧pol.pr 64=none:=⟨rfl,rfl,rfl,rfl⟩
noncomputable def qc9:Code:=(Tryz.f65.body).getD .skip
theorem qqy:qo Tryz.prog pol 65=some ⟨qc9,102,[.tmp 4],[45]⟩:=by kernel_rfl
theorem qxv:pol.ow 65=[]∧pol.fz 65=true∧pol.ro 65=false∧pol.pr 65=none:=⟨rfl,rfl,rfl,rfl⟩
noncomputable def qeT:Code:=(Tryz.f66.body).getD .skip
theorem qsZ:qo Tryz.prog pol 66=some ⟨qeT,37,[.tmp 6],[4]⟩:=by kernel_rfl
theorem qwy:pol.ow 66=[]∧pol.fz 66=false∧pol.ro 66=false∧pol.pr 66=none:=⟨rfl,rfl,rfl,rfl⟩
noncomputable def qeI:Code:=(Tryz.f67.body).getD .skip
theorem qw2:qo Tryz.prog pol 67=some ⟨qeI,19,[.tmp 4],[3]⟩:=by kernel_rfl
theorem qA0:pol.ow 67=[]∧pol.fz 67=false∧pol.ro 67=false∧pol.pr 67=none:=⟨rfl,rfl,rfl,rfl⟩
noncomputable def qg4:Code:=(Tryz.f68.body).getD .skip
theorem qwd:qo Tryz.prog pol 68=some ⟨qg4,18,[.tmp 4],[4]⟩:=by kernel_rfl
theorem qAw:pol.ow 68=[]∧pol.fz 68=false∧pol.ro 68=false∧pol.pr 68=none:=⟨rfl,rfl,rfl,rfl⟩
noncomputable def qis:Code:=(Tryz.f69.body).getD .skip
theorem qwZ:qo Tryz.prog pol 69=some ⟨qis,26,[.tmp 4],[4]⟩:=by kernel_rfl
theorem qAb:pol.ow 69=[]∧pol.fz 69=false∧pol.ro 69=false∧pol.pr 69=none:=⟨rfl,rfl,rfl,rfl⟩
noncomputable def qet:Code:=(Tryz.f70.body).getD .skip
theorem quT:qo Tryz.prog pol 70=some ⟨qet,19,[.tmp 4],[3]⟩:=by kernel_rfl
theorem qyp:pol.ow 70=[]∧pol.fz 70=false∧pol.ro 70=false∧pol.pr 70=none:=⟨rfl,rfl,rfl,rfl⟩
noncomputable def qgL:Code:=(Tryz.f71.body).getD .skip
theorem qxH:qo Tryz.prog pol 71=some ⟨qgL,11,[.tmp 2],[4]⟩:=by kernel_rfl
theorem qAs:pol.ow 71=[]∧pol.fz 71=false∧pol.ro 71=false∧pol.pr 71=none:=⟨rfl,rfl,rfl,rfl⟩
noncomputable def qe1:Code:=(Tryz.f72.body).getD .skip
theorem qvO:qo Tryz.prog pol 72=some ⟨qe1,29,[.cell 2 30],[30]⟩:=by kernel_rfl
theorem qyA:pol.ow 72=[]∧pol.fz 72=true∧pol.ro 72=false∧pol.pr 72=none:=⟨rfl,rfl,rfl,rfl⟩
noncomputable def qi8:Code:=(Tryz.f73.body).getD .skip
theorem qyC:qo Tryz.prog pol 73=some ⟨qi8,12,[.tmp 4],[4]⟩:=by kernel_rfl
theorem qzE:pol.ow 73=[]∧pol.fz 73=false∧pol.ro 73=false∧pol.pr 73=none:=⟨rfl,rfl,rfl,rfl⟩
noncomputable def qjF:Code:=(Tryz.f74.body).getD .skip
theorem qwU:qo Tryz.prog pol 74=some ⟨qjF,19,[.tmp 4],[4]⟩:=by kernel_rfl
theorem qAE:pol.ow 74=[]∧pol.fz 74=false∧pol.ro 74=false∧pol.pr 74=none:=⟨rfl,rfl,rfl,rfl⟩
noncomputable def qjJ:Code:=(Tryz.f75.body).getD .skip
theorem qxs:qo Tryz.prog pol 75=some ⟨qjJ,40,[.tmp 4],[3]⟩:=by kernel_rfl
theorem qAt:pol.ow 75=[]∧pol.fz 75=false∧pol.ro 75=false∧pol.pr 75=none:=⟨rfl,rfl,rfl,rfl⟩
noncomputable def qcn:Code:=(Tryz.f76.body).getD .skip
theorem qtx:qo Tryz.prog pol 76=some ⟨qcn,61,[.tmp 2],[27]⟩:=by kernel_rfl
theorem qAl:pol.ow 76=[]∧pol.fz 76=true∧pol.ro 76=false∧pol.pr 76=none:=⟨rfl,rfl,rfl,rfl⟩
noncomputable def qg8:Code:=(Tryz.f77.body).getD .skip
theorem qxa:qo Tryz.prog pol 77=some ⟨qg8,24,[.tmp 4],[4]⟩:=by kernel_rfl
theorem qAZ:pol.ow 77=[]∧pol.fz 77=false∧pol.ro 77=false∧pol.pr 77=none:=⟨rfl,rfl,rfl,rfl⟩
noncomputable def qiI:Code:=(Tryz.f78.body).getD .skip
theorem qyI:qo Tryz.prog pol 78=some ⟨qiI,4,[.tmp 2],[133]⟩:=by kernel_rfl
theorem qAD:pol.ow 78=[]∧pol.fz 78=true∧pol.ro 78=false∧pol.pr 78=none:=⟨rfl,rfl,rfl,rfl⟩
noncomputable def qh1:Code:=(Tryz.f79.body).getD .skip
theorem qwf:qo Tryz.prog pol 79=some ⟨qh1,18,[.tmp 2],[4]⟩:=by kernel_rfl
theorem qAx:pol.ow 79=[]∧pol.fz 79=false∧pol.ro 79=false∧pol.pr 79=none:=⟨rfl,rfl,rfl,rfl⟩
noncomputable def qgQ:Code:=(Tryz.f80.body).getD .skip
theorem qyH:qo Tryz.prog pol 80=some ⟨qgQ,14,[.tmp 2],[46]⟩:=by kernel_rfl
theorem qzK:pol.ow 80=[]∧pol.fz 80=false∧pol.ro 80=false∧pol.pr 80=none:=⟨rfl,rfl,rfl,rfl⟩
noncomputable def qe4:Code:=(Tryz.f81.body).getD .skip
theorem qvW:qo Tryz.prog pol 81=some ⟨qe4,43,[.tmp 2],[46]⟩:=by kernel_rfl
theorem qAz:pol.ow 81=[]∧pol.fz 81=false∧pol.ro 81=false∧pol.pr 81=none:=⟨rfl,rfl,rfl,rfl⟩
noncomputable def qja:Code:=(Tryz.f82.body).getD .skip
theorem qy4:qo Tryz.prog pol 82=some ⟨qja,13,[.tmp 2],[46]⟩:=by kernel_rfl
theorem qAi:pol.ow 82=[]∧pol.fz 82=false∧pol.ro 82=false∧pol.pr 82=none:=⟨rfl,rfl,rfl,rfl⟩
noncomputable def qgO:Code:=(Tryz.f83.body).getD .skip
theorem qxC:qo Tryz.prog pol 83=some ⟨qgO,13,[.tmp 3],[46]⟩:=by kernel_rfl
theorem qAY:pol.ow 83=[]∧pol.fz 83=false∧pol.ro 83=false∧pol.pr 83=none:=⟨rfl,rfl,rfl,rfl⟩
noncomputable def qj2:Code:=(Tryz.f84.body).getD .skip
theorem qxU:qo Tryz.prog pol 84=some ⟨qj2,15,[.tmp 3],[46]⟩:=by kernel_rfl
theorem qA5:pol.ow 84=[]∧pol.fz 84=false∧pol.ro 84=false∧pol.pr 84=none:=⟨rfl,rfl,rfl,rfl⟩
noncomputable def qhk:Code:=(Tryz.f85.body).getD .skip
theorem qxi:qo Tryz.prog pol 85=some ⟨qhk,15,[.tmp 6],[4]⟩:=by kernel_rfl
theorem qzw:pol.ow 85=[]∧pol.fz 85=false∧pol.ro 85=false∧pol.pr 85=none:=⟨rfl,rfl,rfl,rfl⟩
noncomputable def qjh:Code:=(Tryz.f86.body).getD .skip
theorem qyF:qo Tryz.prog pol 86=some ⟨qjh,18,[.tmp 2],[4]⟩:=by kernel_rfl
theorem qB1:pol.ow 86=[]∧pol.fz 86=false∧pol.ro 86=false∧pol.pr 86=none:=⟨rfl,rfl,rfl,rfl⟩
noncomputable def qe5:Code:=(Tryz.f87.body).getD .skip
theorem qsV:qo Tryz.prog pol 87=some ⟨qe5,32,[.tmp 6],[4]⟩:=by kernel_rfl
theorem qxL:pol.ow 87=[]∧pol.fz 87=false∧pol.ro 87=false∧pol.pr 87=none:=⟨rfl,rfl,rfl,rfl⟩
noncomputable def qe6:Code:=(Tryz.f88.body).getD .skip
theorem qvo:qo Tryz.prog pol 88=some ⟨qe6,37,[.tmp 2],[46]⟩:=by kernel_rfl
theorem qzJ:pol.ow 88=[]∧pol.fz 88=false∧pol.ro 88=false∧pol.pr 88=none:=⟨rfl,rfl,rfl,rfl⟩
noncomputable def qh2:Code:=(Tryz.f89.body).getD .skip
theorem qzf:qo Tryz.prog pol 89=some ⟨qh2,16,[.tmp 6],[3]⟩:=by kernel_rfl
theorem qzG:pol.ow 89=[]∧pol.fz 89=false∧pol.ro 89=false∧pol.pr 89=none:=⟨rfl,rfl,rfl,rfl⟩
noncomputable def qi2:Code:=(Tryz.f90.body).getD .skip
theorem qxD:qo Tryz.prog pol 90=some ⟨qi2,40,[.tmp 2],[46]⟩:=by kernel_rfl
theorem qzX:pol.ow 90=[]∧pol.fz 90=false∧pol.ro 90=false∧pol.pr 90=none:=⟨rfl,rfl,rfl,rfl⟩
theorem qAT:pol.ow 91=[]∧pol.fz 91=false∧pol.ro 91=false∧pol.pr 91=some (pr0 (q5u T 51 false)):=⟨rfl,rfl,rfl,rfl⟩
theorem qzl:pol.ow 92=[]∧pol.fz 92=false∧pol.ro 92=true∧pol.pr 92=some (pr0 (q5u T 30 true)):=⟨rfl,rfl,rfl,rfl⟩
noncomputable def qj0:Code:=(Tryz.f93.body).getD .skip
theorem qyt:qo Tryz.prog pol 93=some ⟨qj0,20,[.cell 2 51],[51]⟩:=by kernel_rfl
theorem qB2:pol.ow 93=[]∧pol.fz 93=false∧pol.ro 93=false∧pol.pr 93=none:=⟨rfl,rfl,rfl,rfl⟩
noncomputable def qiX:Code:=(Tryz.f94.body).getD .skip
theorem qyf:qo Tryz.prog pol 94=some ⟨qiX,6,[],[]⟩:=by kernel_rfl
theorem qzD:pol.ow 94=[]∧pol.fz 94=false∧pol.ro 94=false∧pol.pr 94=none:=⟨rfl,rfl,rfl,rfl⟩
noncomputable def qeB:Code:=(Tryz.f95.body).getD .skip
theorem qsG:qo Tryz.prog pol 95=some ⟨qeB,28,[.tmp 6],[4]⟩:=by kernel_rfl
theorem qw1:pol.ow 95=[]∧pol.fz 95=false∧pol.ro 95=false∧pol.pr 95=none:=⟨rfl,rfl,rfl,rfl⟩
noncomputable def qhH:Code:=(Tryz.f96.body).getD .skip
theorem qxQ:qo Tryz.prog pol 96=some ⟨qhH,9,[.tmp 4],[4]⟩:=by kernel_rfl
theorem qzq:pol.ow 96=[]∧pol.fz 96=false∧pol.ro 96=false∧pol.pr 96=none:=⟨rfl,rfl,rfl,rfl⟩
noncomputable def qiQ:Code:=(Tryz.f97.body).getD .skip
theorem qxX:qo Tryz.prog pol 97=some ⟨qiQ,6,[.tmp 2],[4]⟩:=by kernel_rfl
theorem qzL:pol.ow 97=[]∧pol.fz 97=false∧pol.ro 97=false∧pol.pr 97=none:=⟨rfl,rfl,rfl,rfl⟩
noncomputable def qgg:Code:=(Tryz.f98.body).getD .skip
theorem qyy:qo Tryz.prog pol 98=some ⟨qgg,11,[.tmp 2],[4]⟩:=by kernel_rfl
theorem qAq:pol.ow 98=[]∧pol.fz 98=false∧pol.ro 98=false∧pol.pr 98=none:=⟨rfl,rfl,rfl,rfl⟩
noncomputable def qjk:Code:=(Tryz.f99.body).getD .skip
theorem qxr:qo Tryz.prog pol 99=some ⟨qjk,17,[.tmp 4],[3]⟩:=by kernel_rfl
theorem qzn:pol.ow 99=[]∧pol.fz 99=false∧pol.ro 99=false∧pol.pr 99=none:=⟨rfl,rfl,rfl,rfl⟩
noncomputable def qb4:Code:=(Tryz.f100.body).getD .skip
theorem qlx:qo Tryz.prog pol 100=some ⟨qb4,46,[.tmp 2],[4]⟩:=by kernel_rfl
theorem quC:pol.ow 100=[]∧pol.fz 100=false∧pol.ro 100=false∧pol.pr 100=none:=⟨rfl,rfl,rfl,rfl⟩
noncomputable def qcD:Code:=(Tryz.f101.body).getD .skip
theorem qnv:qo Tryz.prog pol 101=some ⟨qcD,14,[.tmp 4],[4]⟩:=by kernel_rfl
theorem qto:pol.ow 101=[]∧pol.fz 101=false∧pol.ro 101=false∧pol.pr 101=none:=⟨rfl,rfl,rfl,rfl⟩
noncomputable def qcQ:Code:=(Tryz.f102.body).getD .skip
theorem qpC:qo Tryz.prog pol 102=some ⟨qcQ,2,[.tmp 0],[73]⟩:=by kernel_rfl
theorem quD:pol.ow 102=[]∧pol.fz 102=true∧pol.ro 102=false∧pol.pr 102=none:=⟨rfl,rfl,rfl,rfl⟩
noncomputable def qaX:Code:=(Tryz.f103.body).getD .skip
theorem qlr:qo Tryz.prog pol 103=some ⟨qaX,19,[.tmp 4],[3]⟩:=by kernel_rfl
theorem qs6:pol.ow 103=[]∧pol.fz 103=false∧pol.ro 103=false∧pol.pr 103=none:=⟨rfl,rfl,rfl,rfl⟩
noncomputable def qd4:Code:=(Tryz.f104.body).getD .skip
theorem qoi:qo Tryz.prog pol 104=some ⟨qd4,17,[.tmp 2],[4]⟩:=by kernel_rfl
theorem qs4:pol.ow 104=[]∧pol.fz 104=false∧pol.ro 104=false∧pol.pr 104=none:=⟨rfl,rfl,rfl,rfl⟩
noncomputable def qbc:Code:=(Tryz.f105.body).getD .skip
theorem qlp:qo Tryz.prog pol 105=some ⟨qbc,18,[.tmp 2],[3]⟩:=by kernel_rfl
theorem qsC:pol.ow 105=[]∧pol.fz 105=false∧pol.ro 105=false∧pol.pr 105=none:=⟨rfl,rfl,rfl,rfl⟩
noncomputable def qcR:Code:=(Tryz.f106.body).getD .skip
theorem qq7:qo Tryz.prog pol 106=some ⟨qcR,20,[.tmp 4],[3]⟩:=by kernel_rfl
theorem qsc:pol.ow 106=[]∧pol.fz 106=false∧pol.ro 106=false∧pol.pr 106=none:=⟨rfl,rfl,rfl,rfl⟩
noncomputable def qcG:Code:=(Tryz.f107.body).getD .skip
theorem qp2:qo Tryz.prog pol 107=some ⟨qcG,20,[.tmp 4],[3]⟩:=by kernel_rfl
theorem qtE:pol.ow 107=[]∧pol.fz 107=false∧pol.ro 107=false∧pol.pr 107=none:=⟨rfl,rfl,rfl,rfl⟩
noncomputable def qdl:Code:=(Tryz.f108.body).getD .skip
theorem qpX:qo Tryz.prog pol 108=some ⟨qdl,17,[.tmp 2],[4]⟩:=by kernel_rfl
theorem qqT:pol.ow 108=[]∧pol.fz 108=false∧pol.ro 108=false∧pol.pr 108=none:=⟨rfl,rfl,rfl,rfl⟩
noncomputable def qdb:Code:=(Tryz.f109.body).getD .skip
theorem qnZ:qo Tryz.prog pol 109=some ⟨qdb,8,[.tmp 4],[3]⟩:=by kernel_rfl
theorem qri:pol.ow 109=[]∧pol.fz 109=false∧pol.ro 109=false∧pol.pr 109=none:=⟨rfl,rfl,rfl,rfl⟩
noncomputable def qdn:Code:=(Tryz.f110.body).getD .skip
theorem qo3:qo Tryz.prog pol 110=some ⟨qdn,6,[.tmp 2],[4]⟩:=by kernel_rfl
theorem qtK:pol.ow 110=[]∧pol.fz 110=false∧pol.ro 110=false∧pol.pr 110=none:=⟨rfl,rfl,rfl,rfl⟩
noncomputable def qdF:Code:=(Tryz.f111.body).getD .skip
theorem qon:qo Tryz.prog pol 111=some ⟨qdF,6,[.tmp 2],[4]⟩:=by kernel_rfl
theorem qqX:pol.ow 111=[]∧pol.fz 111=false∧pol.ro 111=false∧pol.pr 111=none:=⟨rfl,rfl,rfl,rfl⟩
noncomputable def qb1:Code:=(Tryz.f112.body).getD .skip
theorem qk7:qo Tryz.prog pol 112=some ⟨qb1,21,[.tmp 6],[3]⟩:=by kernel_rfl
theorem quO:pol.ow 112=[]∧pol.fz 112=false∧pol.ro 112=false∧pol.pr 112=none:=⟨rfl,rfl,rfl,rfl⟩
theorem qrc:pol.kp 4 13=[2,4,7,8,9,74,75,76]∧pol.rw 4 13=[]∧pol.kx 4 13=[2,4,6,7]:=⟨rfl,rfl,rfl⟩
theorem qwC:pol.kp 4 7=[2,4,7,8,9,10,12,47,48]∧pol.rw 4 7=[.slot 12 3 1]∧pol.kx 4 7=[2,4,7,8,9,12]:=⟨rfl,rfl,rfl⟩
theorem qxd:pol.kp 9 9=[1,2,4,5,8]∧pol.rw 9 9=[.cell 5 4 30 5]∧pol.kx 9 9=[4,5]:=⟨rfl,rfl,rfl⟩
theorem qxS:pol.kp 9 3=[1,2,4,5,6]∧pol.rw 9 3=[.cell 5 3 51 2]∧pol.kx 9 3=[1,2,4,5]:=⟨rfl,rfl,rfl⟩
theorem qse:pol.kp 16 3=[3,4,5,7,8]∧pol.rw 16 3=[]∧pol.kx 16 3=[3,4,5,7]:=⟨rfl,rfl,rfl⟩
theorem qo5:pol.kp 18 14=[2,3,4,5,12,13,14,15,16,49,50]∧pol.rw 18 14=[]∧pol.kx 18 14=[2,3,4,5,12,13,14,15,16,49,50]:=⟨rfl,rfl,rfl⟩
theorem quk:pol.kp 18 9=[2,3,4,5,12,13,14,15,49,50]∧pol.rw 18 9=[.cell 12 0 3 1,.slot 15 3 1]∧pol.kx 18 9=[15]:=⟨rfl,rfl,rfl⟩
theorem qqd:pol.kp 19 12=[2,3,4,5,12,13,14,15,16]∧pol.rw 19 12=[.slot 14 3 1]∧pol.kx 19 12=[2,3,4,5,12,13,14,15]:=⟨rfl,rfl,rfl⟩
theorem qsD:pol.kp 19 7=[2,3,4,5,12,13,14,15]∧pol.rw 19 7=[.slot 13 3 1,.slot 14 3 1]∧pol.kx 19 7=[14]:=⟨rfl,rfl,rfl⟩
theorem qqG:pol.kp 20 4=[0,1,5]∧pol.rw 20 4=[]∧pol.kx 20 4=[4]:=⟨rfl,rfl,rfl⟩
theorem qpz:pol.kp 26 10=[1,10,11,12,34,35,36,41,42,43]∧pol.rw 26 10=[]∧pol.kx 26 10=[1,11,12,34,35,36]:=⟨rfl,rfl,rfl⟩
theorem qtS:pol.kp 26 6=[1,34,35,36]∧pol.rw 26 6=[]∧pol.kx 26 6=[4]:=⟨rfl,rfl,rfl⟩
theorem qtL:pol.kp 28 6=[5,6,7,8,9]∧pol.rw 28 6=[.slot 7 53 8]∧pol.kx 28 6=[7]:=⟨rfl,rfl,rfl⟩
theorem qrP:pol.kp 29 5=[1,2,3,4]∧pol.rw 29 5=[.cell 3 4 30 5]∧pol.kx 29 5=[2,3]:=⟨rfl,rfl,rfl⟩
theorem qtR:pol.kp 30 6=[6,37,38,39]∧pol.rw 30 6=[]∧pol.kx 30 6=[2]:=⟨rfl,rfl,rfl⟩
theorem qnW:pol.kp 34 15=[3,7]∧pol.rw 34 15=[]∧pol.kx 34 15=[2]:=⟨rfl,rfl,rfl⟩
theorem qtY:pol.kp 34 6=[3,5,6]∧pol.rw 34 6=[]∧pol.kx 34 6=[2,3,5]:=⟨rfl,rfl,rfl⟩
theorem qn3:pol.kp 35 32=[5,14,15,16]∧pol.rw 35 32=[]∧pol.kx 35 32=[15]:=⟨rfl,rfl,rfl⟩
theorem qow:pol.kp 35 22=[0,3,5,7,9,10,11,12,13]∧pol.rw 35 22=[]∧pol.kx 35 22=[0,3,5,7,9,10,11,12]:=⟨rfl,rfl,rfl⟩
theorem qpQ:pol.kp 35 16=[0,3,5,7,9,10,11,12]∧pol.rw 35 16=[]∧pol.kx 35 16=[0,3,7,11]:=⟨rfl,rfl,rfl⟩
theorem qsN:pol.kp 35 9=[0,3,5,7]∧pol.rw 35 9=[]∧pol.kx 35 9=[3,5]:=⟨rfl,rfl,rfl⟩
theorem qv2:pol.kp 35 5=[0,3,5,6]∧pol.rw 35 5=[]∧pol.kx 35 5=[0,3,5]:=⟨rfl,rfl,rfl⟩
theorem qre:pol.kp 40 2=[0,1,8,9,10]∧pol.rw 40 2=[]∧pol.kx 40 2=[5]:=⟨rfl,rfl,rfl⟩
theorem qtZ:pol.kp 44 4=[3,5,6]∧pol.rw 44 4=[.slot 5 30 5]∧pol.kx 44 4=[5]:=⟨rfl,rfl,rfl⟩
theorem qsJ:pol.kp 45 3=[2,14,15,16]∧pol.rw 45 3=[.slot 2 30 5]∧pol.kx 45 3=[2]:=⟨rfl,rfl,rfl⟩
theorem qug:pol.kp 47 8=[5,6,7,10,11,35,36,37]∧pol.rw 47 8=[]∧pol.kx 47 8=[6,7,10,11]:=⟨rfl,rfl,rfl⟩
theorem qsX:pol.kp 48 3=[3,4,5,8,9,13,14,15]∧pol.rw 48 3=[]∧pol.kx 48 3=[8,9]:=⟨rfl,rfl,rfl⟩
theorem qve:pol.kp 52 9=[0,1,2,6,7,8,9,10]∧pol.rw 52 9=[.cell 9 4 30 5]∧pol.kx 52 9=[0,6,7,8,9]:=⟨rfl,rfl,rfl⟩
theorem qpU:pol.kp 53 11=[3,5,6,7,8,9]∧pol.rw 53 11=[]∧pol.kx 53 11=[3,5,6,7,8,9]:=⟨rfl,rfl,rfl⟩
theorem qut:pol.kp 53 8=[3,5,6,7,8]∧pol.rw 53 8=[.slot 5 51 2]∧pol.kx 53 8=[3,5,6]:=⟨rfl,rfl,rfl⟩
theorem qtp:pol.kp 53 4=[3,5,6]∧pol.rw 53 4=[.slot 5 51 2]∧pol.kx 53 4=[5]:=⟨rfl,rfl,rfl⟩
theorem qnq:pol.kp 58 38=[9,12,21,22]∧pol.rw 58 38=[]∧pol.kx 58 38=[9]:=⟨rfl,rfl,rfl⟩
theorem qo9:pol.kp 58 25=[3,5,6,7,9,12,17,18,19,72,73,74,96,97]∧pol.rw 58 25=[]∧pol.kx 58 25=[3,5,6,7,9,12,19,72,73,74]:=⟨rfl,rfl,rfl⟩
theorem qpe:pol.kp 58 18=[3,5,6,7,9,12,72,73,74]∧pol.rw 58 18=[]∧pol.kx 58 18=[7,9,12]:=⟨rfl,rfl,rfl⟩
theorem qo6:pol.kp 58 14=[3,5,6,7,9,12,13]∧pol.rw 58 14=[]∧pol.kx 58 14=[3,5,6,7,9,12]:=⟨rfl,rfl,rfl⟩
theorem qqV:pol.kp 58 5=[1,2,3,4,7,9,10,11]∧pol.rw 58 5=[]∧pol.kx 58 5=[3,9]:=⟨rfl,rfl,rfl⟩
theorem qsk:pol.kp 60 1=[1,2,6]∧pol.rw 60 1=[]∧pol.kx 60 1=[]:=⟨rfl,rfl,rfl⟩
theorem qt5:pol.kp 62 5=[0,2,4,8]∧pol.rw 62 5=[]∧pol.kx 62 5=[0,6,7]:=⟨rfl,rfl,rfl⟩
theorem qpp:pol.kp 64 28=[1,4]∧pol.rw 64 28=[]∧pol.kx 64 28=[2]:=⟨rfl,rfl,rfl⟩
theorem qpA:pol.kp 64 23=[1,3]∧pol.rw 64 23=[]∧pol.kx 64 23=[1,2]:=⟨rfl,rfl,rfl⟩
theorem qrH:pol.kp 65 9=[0,3,5,6,7,8,9,10]∧pol.rw 65 9=[]∧pol.kx 65 9=[0,3,5,6,7,8,9]:=⟨rfl,rfl,rfl⟩
theorem qsn:pol.kp 65 3=[0,3,5,6]∧pol.rw 65 3=[]∧pol.kx 65 3=[0,5]:=⟨rfl,rfl,rfl⟩
theorem qv4:pol.kp 66 2=[0,1,2,7]∧pol.rw 66 2=[]∧pol.kx 66 2=[6]:=⟨rfl,rfl,rfl⟩
theorem qud:pol.kp 67 2=[0,3,7,8]∧pol.rw 67 2=[]∧pol.kx 67 2=[4]:=⟨rfl,rfl,rfl⟩
theorem qrt:pol.kp 70 2=[0,1,7,8]∧pol.rw 70 2=[]∧pol.kx 70 2=[4]:=⟨rfl,rfl,rfl⟩
theorem quZ:pol.kp 72 3=[1,2,14,15,16]∧pol.rw 72 3=[]∧pol.kx 72 3=[1,2]:=⟨rfl,rfl,rfl⟩
theorem qsY:pol.kp 76 8=[0,3,4,5,6,7]∧pol.rw 76 8=[]∧pol.kx 76 8=[0,3,4,5,6,7]:=⟨rfl,rfl,rfl⟩
theorem que:pol.kp 76 4=[0,3,4,5]∧pol.rw 76 4=[.slot 4 51 2]∧pol.kx 76 4=[4]:=⟨rfl,rfl,rfl⟩
theorem qsL:pol.kp 81 7=[1,22,23,24]∧pol.rw 81 7=[]∧pol.kx 81 7=[2]:=⟨rfl,rfl,rfl⟩
theorem qsK:pol.kp 87 2=[0,1,2,7]∧pol.rw 87 2=[]∧pol.kx 87 2=[6]:=⟨rfl,rfl,rfl⟩
theorem qqO:pol.kp 88 2=[1,9,10,11]∧pol.rw 88 2=[]∧pol.kx 88 2=[1,2]:=⟨rfl,rfl,rfl⟩
theorem qro:pol.kp 95 4=[1,2,15,16,17]∧pol.rw 95 4=[]∧pol.kx 95 4=[6]:=⟨rfl,rfl,rfl⟩
theorem qnR:pol.kp 100 2=[0,3]∧pol.rw 100 2=[]∧pol.kx 100 2=[0,2]:=⟨rfl,rfl,rfl⟩
theorem qqo:pol.kp 103 2=[0,1,7,8]∧pol.rw 103 2=[]∧pol.kx 103 2=[4]:=⟨rfl,rfl,rfl⟩
theorem qny:pol.kp 105 3=[3,6,7,8]∧pol.rw 105 3=[]∧pol.kx 105 3=[2,3]:=⟨rfl,rfl,rfl⟩
theorem qph:pol.kp 112 2=[1,2,10]∧pol.rw 112 2=[]∧pol.kx 112 2=[6]:=⟨rfl,rfl,rfl⟩
noncomputable def qgu:Code:=(qK 13 qhw).getD .skip
noncomputable def qoK:Code:=(qK 7 qhw).getD .skip
noncomputable def qof:Code:=(qK 9 qi0).getD .skip
noncomputable def qnm:Code:=(qK 3 qi0).getD .skip
noncomputable def qiE:Code:=(qK 3 qeA).getD .skip
noncomputable def qdj:Code:=(qK 14 qc7).getD .skip
noncomputable def qj7:Code:=(qK 9 qc7).getD .skip
noncomputable def qdG:Code:=(qK 12 qcl).getD .skip
noncomputable def qih:Code:=(qK 7 qcl).getD .skip
noncomputable def qjn:Code:=(qK 4 qf2).getD .skip
noncomputable def qdA:Code:=(qK 10 qcs).getD .skip
noncomputable def qhM:Code:=(qK 6 qcs).getD .skip
noncomputable def qiz:Code:=(qK 6 qf3).getD .skip
noncomputable def qgR:Code:=(qK 5 qdY).getD .skip
noncomputable def qg6:Code:=(qK 6 qdX).getD .skip
noncomputable def qcX:Code:=(qK 15 qbD).getD .skip
noncomputable def qiu:Code:=(qK 6 qbD).getD .skip
noncomputable def qbl:Code:=(qK 32 q7J).getD .skip
noncomputable def qaE:Code:=(qK 22 q7J).getD .skip
noncomputable def qbp:Code:=(qK 16 q7J).getD .skip
noncomputable def qem:Code:=(qK 9 q7J).getD .skip
noncomputable def qeq:Code:=(qK 5 q7J).getD .skip
noncomputable def qhv:Code:=(qK 2 qdR).getD .skip
noncomputable def qeY:Code:=(qK 4 qdS).getD .skip
noncomputable def qi4:Code:=(qK 3 qew).getD .skip
noncomputable def qim:Code:=(qK 8 qeJ).getD .skip
noncomputable def qf4:Code:=(qK 3 qeo).getD .skip
noncomputable def qgK:Code:=(qK 9 qeZ).getD .skip
noncomputable def qaL:Code:=(qK 11 qas).getD .skip
noncomputable def qdO:Code:=(qK 8 qas).getD .skip
noncomputable def qdQ:Code:=(qK 4 qas).getD .skip
noncomputable def qbx:Code:=(qK 38 q7F).getD .skip
noncomputable def qaD:Code:=(qK 25 q7F).getD .skip
noncomputable def qaR:Code:=(qK 18 q7F).getD .skip
noncomputable def qbt:Code:=(qK 14 q7F).getD .skip
noncomputable def qam:Code:=(qK 5 q7F).getD .skip
noncomputable def qhG:Code:=(qK 1 qeg).getD .skip
noncomputable def qe2:Code:=(qK 5 qes).getD .skip
noncomputable def qda:Code:=(qK 28 qbB).getD .skip
noncomputable def qdy:Code:=(qK 23 qbB).getD .skip
noncomputable def qeP:Code:=(qK 9 qc9).getD .skip
noncomputable def qez:Code:=(qK 3 qc9).getD .skip
noncomputable def qf5:Code:=(qK 2 qeT).getD .skip
noncomputable def qij:Code:=(qK 2 qeI).getD .skip
noncomputable def qeC:Code:=(qK 2 qet).getD .skip
noncomputable def qhB:Code:=(qK 3 qe1).getD .skip
noncomputable def qhf:Code:=(qK 8 qcn).getD .skip
noncomputable def qjI:Code:=(qK 4 qcn).getD .skip
noncomputable def qia:Code:=(qK 7 qe4).getD .skip
noncomputable def qee:Code:=(qK 2 qe5).getD .skip
noncomputable def qjr:Code:=(qK 2 qe6).getD .skip
noncomputable def qeN:Code:=(qK 4 qeB).getD .skip
noncomputable def qcP:Code:=(qK 2 qb4).getD .skip
noncomputable def qdk:Code:=(qK 2 qaX).getD .skip
noncomputable def qcL:Code:=(qK 3 qbc).getD .skip
noncomputable def qd8:Code:=(qK 2 qb1).getD .skip
noncomputable def q9F:Code:=((q0b 4 qcc).getD (.skip,.skip)).1
noncomputable def q7K:Code:=((q0b 4 qcc).getD (.skip,.skip)).2
theorem quU:qZ q7K=4:=by kernel_rfl
theorem qmC:q8g (drq pol 55) false q9F=true∧q8g (drq pol 55) false q7K=true:=⟨by kernel_rfl,by kernel_rfl⟩
theorem qy9:qwJ Tryz.prog pol:=by
 intro f g k args G r G' hf hg
 unfold pol ppr at hf
 simp only at hf
 split at hf
 ·injection hf with hf;subst hf;refine qmm (fun _ _ _ hg=>?_) hg;exact qaf qvn (fn:=Tryz.f91) (t:=27) (e:=51) (bt:=4) (by kernel_rfl) (by kernel_rfl) (by kernel_rfl) (by kernel_rfl) (by kernel_rfl) k27 (by rw[k51];simp) (by rw[z51];decide) (by kernel_rfl) hg
 ·injection hf with hf;subst hf;refine qmm (fun _ _ _ hg=>?_) hg;exact qaf qvn (fn:=Tryz.f92) (t:=28) (e:=30) (bt:=4) (by kernel_rfl) (by kernel_rfl) (by kernel_rfl) (by kernel_rfl) (by kernel_rfl) k28 (by rw[k30];simp) (by rw[z30];decide) (by kernel_rfl) hg
 ·cases hf
end Go.Proofs.YtgejdfnidjnjcaaGreat.Vc
namespace Go.Proofs.YtgejdfnidjnjcaaGreat.Vc
open Go.RowKit
theorem q0w {α β:Type} {c:Prop} [Decidable c] (a b:Option α) (f:α→Option β):(if c then a else b).bind f=if c then a.bind f else b.bind f:=by split<;>rfl
theorem qxb:(Tryz.prog).follows .mixedOrders=true:=by kernel_rfl
noncomputable def evo:Orc:=EE Tryz.prog T pol (D1 Tryz.prog T pol)
noncomputable def ev (f:FuncId):Nat→List R→List (Nat×B)→Option (R×List (Nat×B)):=evo (.fn f)
noncomputable def evr (f:FuncId) (asg bd:Code):Nat→List R→List (Nat×B)→Option (R×List (Nat×B)):=evo (.rd f asg bd)
theorem qxG {f k:Nat} {args:List R} {G G':List (Nat×B)} {r:R} (h:ev f k args G=some (r,G')):AC Tryz.prog f args G k fun r' hp'=>r'=r∧hp'=G':=(quH qvn (qwe qvn qxb) qy9).fn f k args G r G' h
noncomputable def XE (f k:Nat):Code→S→XS:=XD Tryz.prog T pol evo (D1 Tryz.prog T pol evo f k) Lim f k
noncomputable def bkk (id:Nat) (r:XS):XS:=r.bind (bkD id)
def rgn (o:Option S):XS:=o.bind fun s'=>some (.normal,s')
noncomputable def fnn (f k:Nat) (res:List ResultVar) (rt:List TypeId) (r:XS):Option (R×List (Nat×B)):=r.bind (qqN T pol f k ⟨.skip,0,res,rt⟩)
section
variable {f k:Nat} {s:S} {b:Code} {c:Prop} [Decidable c] {x y:XS} {α:Type} {o:Option α} {g:α→XS}
theorem qfF (i:Nat):bkk i (some (.normal,s))=some (.normal,s):=rfl
theorem qpa (i:Nat):bkk i (some (.ret,s))=some (.ret,s):=rfl
theorem qkV (i j:Nat):bkk i (some (.exit j,s))=if j=i then some (.normal,s) else some (.exit j,s):=rfl
theorem qkz (i:Nat):bkk i none=none:=rfl
theorem qpG (i:Nat):bkk i (if c then x else y)=if c then bkk i x else bkk i y:=q0w _ _ _
theorem qkg (i:Nat):bkk i (o.bind g)=o.bind fun a=>bkk i (g a):=by cases o<;>rfl
theorem qkM:rgn (some s)=some (.normal,s):=rfl
theorem qkU:rgn none=none:=rfl
theorem qoA (x y:Option S):rgn (if c then x else y)=if c then rgn x else rgn y:=q0w _ _ _
theorem qkw (g:α→Option S):rgn (o.bind g)=o.bind fun a=>rgn (g a):=by cases o<;>rfl
theorem qkn (res:List ResultVar) (rt:List TypeId) (p:Exit×S):fnn f k res rt (some p)=qqN T pol f k ⟨.skip,0,res,rt⟩ p:=rfl
theorem qlP (res:List ResultVar) (rt:List TypeId):fnn f k res rt none=none:=rfl
theorem qpS (res:List ResultVar) (rt:List TypeId):fnn f k res rt (if c then x else y)=if c then fnn f k res rt x else fnn f k res rt y:=q0w _ _ _
theorem qkj (res:List ResultVar) (rt:List TypeId):fnn f k res rt (o.bind g)=o.bind fun a=>fnn f k res rt (g a):=by cases o<;>rfl
end
theorem qoy (f k:Nat) (args:List R) (G:List (Nat×B)):ev f k args G=match pol.pr f with
 | some g=>prx g k args G
 | none=>(qo Tryz.prog pol f).bind fun bd=>q6N Tryz.prog T pol (D1 Tryz.prog T pol) evo Lim f k args G bd:=qy3 q9l qj3 f k args G
def rfk (n:Nat) (q:RS):XS:=q.bind fun q=>qrk n q.2
noncomputable def rd3 (k:Nat) (r:XS):Option (R×List (Nat×B)):=r.bind (q92 k)
noncomputable def rd2 (f k:Nat) (bd:Code) (s:S) (o:Option B):Option (R×List (Nat×B)):=o.bind fun b=>rd3 k (XE f k bd (s.up [(k-1,b)]))
noncomputable def rd1 (f k:Nat) (bd:Code) (r:XS):Option (R×List (Nat×B)):=r.bind (q9K Tryz.prog T pol (D1 Tryz.prog T pol) evo Lim f k bd)
section
variable {f k n:Nat} {s:S} {asg bd:Code} {c:Prop} [Decidable c] {x y:XS} {α:Type} {o:Option α} {g:α→XS}
theorem qky (r:R):rfk n (some (r,s))=qrk n s:=rfl
theorem qk2 (g:α→RS):rfk n (o.bind g)=o.bind fun a=>rfk n (g a):=by cases o<;>rfl
theorem qlh (p:Exit×S):rd3 k (some p)=q92 k p:=rfl
theorem qkF:rd3 k none=none:=rfl
theorem qp5:rd3 k (if c then x else y)=if c then rd3 k x else rd3 k y:=q0w _ _ _
theorem qqZ {asg' bd':Code} (ha:asg'=asg) (hb:bd'=bd) (hk:0<k) (hc:q8g (drq pol f) false asg=true∧q8g (drq pol f) false bd=true) (tm:List R) (G:List (Nat×B)) :
  evr f asg' bd' k tm G=rd1 f k bd (XE f k asg ⟨q31 tm 0,G,G.length,tm.length⟩):=by
 subst ha hb
 refine(qz9 q9l qj3 f asg' bd' k tm G).trans ?_
 unfold q48
 rw[if_pos ⟨hk,hc⟩]
 rfl
end
def wst (q:RS) (d:Option Nat):Option S:=q.bind fun q=>if qbi q.2 d=true then some (q.2.put d q.1) else none
def wsF (q:RS) (s:S) (o:Oper):Option (S×Tx):=q.bind fun q=>if qbi q.2 o.dst=true then(qjO pol s q.2 q.1 o.op).bind fun fp=>some ((q.2.kill fp.ks).put o.dst q.1,(q.1,fp.wb.map fun x=>(x,q.2.blk x)),fp) else none
def cll (q:Option (R×List (Nat×B))) (s:S) (bl rw ln:List Nat):RS:=q.bind fun q=>if qnO ln q.1 q.2=true then some (q.1.rn (ren (bl++rw) s.nx),s.aft (bl++rw) bl.length q.2) else none
section
variable {s:S} {o:Oper} {c:Prop} [Decidable c] {α:Type} {v:Option α} {ops l:List Oper} {A:List (List Nat)} {s0:S} {m:Nat} {acc:List Tx}
theorem qlb (r:R) (d:Option Nat):wst (some (r,s)) d=if qbi s d=true then some (s.put d r) else none:=rfl
theorem ql4 (d:Option Nat):wst none d=none:=rfl
theorem qqi (x y:RS) (d:Option Nat):wst (if c then x else y) d=if c then wst x d else wst y d:=q0w _ _ _
theorem qkh (g:α→RS) (d:Option Nat):wst (v.bind g) d=v.bind fun a=>wst (g a) d:=by cases v<;>rfl
theorem qkc (r:R) (s':S):wsF (some (r,s')) s o=if qbi s' o.dst=true then(qjO pol s s' r o.op).bind fun fp=>some ((s'.kill fp.ks).put o.dst r,(r,fp.wb.map fun x=>(x,s'.blk x)),fp) else none:=rfl
theorem qkO:wsF none s o=none:=rfl
theorem qot (x y:RS):wsF (if c then x else y) s o=if c then wsF x s o else wsF y s o:=q0w _ _ _
theorem qki (g:α→RS):wsF (v.bind g) s o=v.bind fun a=>wsF (g a) s o:=by cases v<;>rfl
theorem qko (r:R) (hp:List (Nat×B)) (bl rw ln:List Nat):cll (some (r,hp)) s bl rw ln=if qnO ln r hp=true then some (r.rn (ren (bl++rw) s.nx),s.aft (bl++rw) bl.length hp) else none:=rfl
theorem qlJ (g:α→Option (R×List (Nat×B))) (bl rw ln:List Nat):cll (v.bind g) s bl rw ln=v.bind fun a=>cll (g a) s bl rw ln:=by cases v<;>rfl
end
def ldx (T:Ty) (cs:List C) (off:Nat) (t:TypeId):Option R :=
 match T.k t with
 | .st _ | .arr _ _=>if off+T.sz t≤cs.length then some (.agg ((cs.drop off).take (T.sz t))) else none
 | .other=>none
 | _=>(cs[off]?).map .c
theorem qou (c:C) (cs:List C) (off:Nat) (t:TypeId):ld T (c::cs) off t=ldx T (c::cs) off t:=rfl
section
variable {α:Type} {enc:α→List D} {sz:Nat}
theorem q1S (hsz:∀x,(enc x).length=sz):∀l:List α,(l.flatMap enc).length=l.length*sz
 | []=>by simp
 | x::l=>by rw[List.flatMap_cons,List.length_append,hsz,q1S hsz l,List.length_cons,Nat.add_mul];omega
theorem qbM (hsz:∀x,(enc x).length=sz):∀(l:List α) (k:Nat) (x:α),l[k]?=some x→∃post,(l.flatMap enc).drop (k*sz)=enc x++post
 | [],k,x,h=>by simp at h
 | y::l,0,x,h=>by
  simp only[List.getElem?_cons_zero,Option.some.injEq] at h
  subst h
  exact⟨l.flatMap enc,by simp⟩
 | y::l,k+1,x,h=>by
  obtain⟨post,hp⟩:=qbM hsz l k x (by simpa using h)
  refine⟨post,?_⟩
  rw[List.flatMap_cons,show(k+1)*sz=(enc y).length+k*sz by rw[hsz,Nat.add_mul];omega,List.drop_length_add_append]
  exact hp
theorem q7n (hsz:∀x,(enc x).length=sz) (l:List α) (k fo:Nat) (t:TypeId) (h0:0<T.sz t) (hf:fo+T.sz t≤sz):ld T ((l.flatMap enc).map C.d) (k*sz+fo) t=(l[k]?).bind fun x=>ld T ((enc x).map C.d) fo t:=by
 have hl:=q1S hsz l
 cases hk:l[k]? with
 | none =>
  have hle:l.length≤k:=by simpa using hk
  have hle2:l.length*sz≤k*sz:=Nat.mul_le_mul_right _ hle
  show ld T _ _ t=none
  unfold ld
  split
  ·rw[if_neg (by rw[List.length_map,hl];omega)]
  ·rw[if_neg (by rw[List.length_map,hl];omega)]
  ·rfl
  ·rw[List.getElem?_eq_none (by rw[List.length_map,hl];omega)];rfl
 | some x =>
  obtain⟨post,hp⟩:=qbM hsz l k x hk
  have hx:=hsz x
  have hlen:k*sz+sz≤l.length*sz:=by
   have:k<l.length:=(List.getElem?_eq_some_iff.1 hk).1
   have:=Nat.mul_le_mul_right sz (show k+1≤l.length from this)
   rw[Nat.add_mul] at this;omega
  have hd:∀n,n+fo≤sz→(((l.flatMap enc).map C.d).drop (k*sz+fo)).take n=(((enc x).map C.d).drop fo).take n:=fun n hn=>by
   rw[←List.drop_drop,←List.map_drop,hp,List.map_append,List.drop_append_of_le_length (by simp[hx];omega),List.take_append_of_le_length (by simp[hx];omega)]
  show _=ld T _ fo t
  unfold ld
  split
  ·rw[if_pos (by rw[List.length_map,hl];omega),if_pos (by rw[List.length_map,hx];omega),hd _ (by omega)]
  ·rw[if_pos (by rw[List.length_map,hl];omega),if_pos (by rw[List.length_map,hx];omega),hd _ (by omega)]
  ·rfl
  ·have h1:(((l.flatMap enc).map C.d).drop (k*sz))[fo]?=((enc x).map C.d)[fo]?:=by
    rw[←List.map_drop,hp,List.map_append,List.getElem?_append_left (by simp[hx];omega)]
   rw[List.getElem?_drop] at h1
   rw[h1]
theorem qaZ (hsz:∀x,(enc x).length=1) (l:List α) (k:Nat) (t:TypeId) (h:T.sz t=1):ld T ((l.flatMap enc).map C.d) k t=(l[k]?).bind fun x=>ld T ((enc x).map C.d) 0 t:=by
 have:=q7n hsz l k 0 t (by omega) (by omega)
 rwa [Nat.add_zero,Nat.mul_one] at this
theorem q8I (hsz:∀x,(enc x).length=sz) (l:List α) (k:Nat) (t:TypeId) (h0:0<T.sz t) (hf:T.sz t≤sz):ld T ((l.flatMap enc).map C.d) (k*sz) t=(l[k]?).bind fun x=>ld T ((enc x).map C.d) 0 t:=by
 have:=q7n hsz l k 0 t h0 (by omega)
 rwa [Nat.add_zero] at this
end
theorem qnP (i:Nat) (ds:List D):(ds.map C.d).all (C.far i)=true:=by rw[List.all_map];exact List.all_eq_true.2 fun _ _=>rfl
theorem qiY (ds:List D):(ds.map C.d).all C.known=true:=by rw[List.all_map];exact List.all_eq_true.2 fun _ _=>rfl
theorem qlW (X:List Nat) (ds:List D):(ds.map C.d).all (C.farF X)=true:=by rw[List.all_map];exact List.all_eq_true.2 fun _ _=>rfl
theorem qoX (n:Nat) (ds:List D):(ds.map C.d).all (C.ltn n)=true:=by rw[List.all_map];exact List.all_eq_true.2 fun _ _=>rfl
theorem qlX (ds:List D):(ds.map C.d).flatMap C.rows=[]:=by rw[List.flatMap_map];exact List.flatMap_eq_nil_iff.2 fun _ _=>rfl
theorem qtr (b:Builtin) (args:Array Operand) (ts:Array TypeId):(Call.operands { callee := .builtin b,args:=args,argTypes:=ts }).toList=args.toList:=by simp[Call.operands]
theorem qrN (f:Operand) (args:Array Operand) (ts:Array TypeId):(Call.operands { callee := .value f,args:=args,argTypes:=ts }).toList=f::args.toList:=by simp[Call.operands]
theorem qsP (i:Nat) (ds:List D):(ds.map C.d).map (C.fg i)=ds.map C.d:=by rw[List.map_map];rfl
theorem qoP (X:List Nat) (ds:List D):(ds.map C.d).map (C.fgL X)=ds.map C.d:=by rw[List.map_map];rfl
end Go.Proofs.YtgejdfnidjnjcaaGreat.Vc
namespace Go.Proofs.YtgejdfnidjnjcaaGreat.Vc
open Go.RowKit
def ρ0:Pl:=⟨fun _=>none,fun _=>False⟩
def L0:Nat→Prop:=(q17 [] 0).live
theorem qCT (b:Nat):¬ Occ L0 ρ0 b:=fun h=>by
 rcases h with h|⟨i,c,h1,h2⟩
 ·exact h
 ·cases h2
theorem rd0 {W:World} {v:Value} {d:D} (h:RD W (fun _=>False) v d):RD W (Occ L0 ρ0) v d:=h.occ fun b hb=>qCT b hb
theorem qvi {W:World} {v:Value} {d:D} (h:PV W [v] [d]):RR W L0 ρ0 v (.c (.d d)) := .c _ _ (.d _ _ (rd0 (h.2 0 v d rfl rfl)))
theorem qmj {W:World} {cs:Array Value} {ds:List D} (h:PV W cs.toList ds):RR W L0 ρ0 (.agg cs) (.agg (ds.map C.d)):=by
 refine .agg _ _ (by simpa using h.1) (fun j c hj=>?_)
 rw[List.getElem?_map] at hj
 obtain⟨d,h1,h2⟩:=Option.map_eq_some_iff.1 hj
 subst h2
 have hj':j<cs.size:=by have:=(List.getElem?_eq_some_iff.1 h1).1;rw[←h.1] at this;simpa using this
 have h3:cs.toList[j]?=some (cs.getD j undef):=by simp[Array.getD_eq_getD_getElem?,hj']
 exact .d _ _ (rd0 (h.2 j _ d h3 h1))
theorem ql0 {f:FuncId} {rs:List R} {b:Bool} (h:ev f 0 rs []=some (.c (.d (.bool b)),[])) {W:World} {vs:Array Value} (hr:RRs W L0 ρ0 vs rs) :
  Calls Tryz.prog f vs W fun e W'=>e = .returned (.bool b)∧Below W.heap.size W W':=by
 have hac:=qxG h
 have hnl:∀i,¬ (q17 [] 0).live i:=fun i h=>by cases h
 have hs:Sim ⟨fun _=>False,W,ρ0,0,none⟩ ρ0 (q17 [] 0) qah W :=
  ⟨Hd.none,rfl,fun i => .any _,fun i b c h=>absurd h (hnl i),fun i h=>absurd h (hnl i),fun i b c h=>absurd h (hnl i),fun i j b c c' h=>absurd h (hnl i),fun i h=>absurd h (hnl i),qmc.refl _ _,fun b hb=>hb.elim,fun i hi=>absurd hi (Nat.not_lt_zero _),rfl,fun b hb=>hb.elim⟩
 refine(hac.call ⟨fun _=>False,W,ρ0,0,none⟩ ρ0 W vs rfl rfl rfl rfl hs hr).mono ?_
 rintro e W' ⟨v,r,hp',nx',ρ',rfl,⟨rfl,rfl⟩,h3,h4⟩
 rw[h4.inv_bool]
 exact⟨rfl,h3.kept.os,h3.kept.tape,h3.kept.output,h3.kept.size,fun k hk=>h3.kept.block k hk (fun h=>h)⟩
end Go.Proofs.YtgejdfnidjnjcaaGreat.Vc
namespace Go.Proofs.YtgejdfnidjnjcaaGreat.Vc
open Go.RowKit
set_option linter.unusedVariables false
set_option maxRecDepth 100000
abbrev w64 (n:Int):Int:=IntKind.i64.wrap n
def ZR:Code→List Code
 | .loop c=>c::ZR c
 | .seq a b=>ZR a++ZR b
 | .cond _ a b=>ZR a++ZR b
 | .block _ c=>ZR c
 | .rangeFunc _ _ a b=>ZR a++ZR b
 | _=>[]
def QY:Code→List (Code×Code)
 | .rangeFunc _ _ a b=>(a,b)::(QY a++QY b)
 | .loop c=>QY c
 | .seq a b=>QY a++QY b
 | .cond _ a b=>QY a++QY b
 | .block _ c=>QY c
 | _=>[]
theorem q8V:∀(c b:Code),b∈ZR c→(∀b'∈ZR b,b'∈ZR c)∧∀q∈QY b,q∈QY c:=by
 intro c
 induction c with
 | loop c ih =>
  intro b hb
  rcases List.mem_cons.1 hb with rfl|hb
  ·exact⟨fun b' h=>List.mem_cons_of_mem _ h,fun q h=>h⟩
  ·exact⟨fun b' h=>List.mem_cons_of_mem _ ((ih b hb).1 b' h),fun q h=>(ih b hb).2 q h⟩
 | seq a c iha ihc =>
  intro b hb
  rcases List.mem_append.1 hb with hb|hb
  ·exact⟨fun b' h=>List.mem_append_left _ ((iha b hb).1 b' h),fun q h=>List.mem_append_left _ ((iha b hb).2 q h)⟩
  ·exact⟨fun b' h=>List.mem_append_right _ ((ihc b hb).1 b' h),fun q h=>List.mem_append_right _ ((ihc b hb).2 q h)⟩
 | cond x a c iha ihc =>
  intro b hb
  rcases List.mem_append.1 hb with hb|hb
  ·exact⟨fun b' h=>List.mem_append_left _ ((iha b hb).1 b' h),fun q h=>List.mem_append_left _ ((iha b hb).2 q h)⟩
  ·exact⟨fun b' h=>List.mem_append_right _ ((ihc b hb).1 b' h),fun q h=>List.mem_append_right _ ((ihc b hb).2 q h)⟩
 | rangeFunc g ps a c iha ihc =>
  intro b hb
  rcases List.mem_append.1 hb with hb|hb
  ·exact⟨fun b' h=>List.mem_append_left _ ((iha b hb).1 b' h),fun q h=>List.mem_cons_of_mem _ (List.mem_append_left _ ((iha b hb).2 q h))⟩
  ·exact⟨fun b' h=>List.mem_append_right _ ((ihc b hb).1 b' h),fun q h=>List.mem_cons_of_mem _ (List.mem_append_right _ ((ihc b hb).2 q h))⟩
 | block id c ih=>intro b hb;exact ih b hb
 | _=>intro b hb;cases hb
theorem q23:∀(c:Code) (q:Code×Code),q∈QY c→(∀b'∈ZR q.1++ZR q.2,b'∈ZR c)∧∀q'∈QY q.1++QY q.2,q'∈QY c:=by
 intro c
 induction c with
 | loop c ih=>intro q hq;exact⟨fun b' h=>List.mem_cons_of_mem _ ((ih q hq).1 b' h),(ih q hq).2⟩
 | seq a c iha ihc =>
  intro q hq
  rcases List.mem_append.1 hq with hq|hq
  ·exact⟨fun b' h=>List.mem_append_left _ ((iha q hq).1 b' h),fun q' h=>List.mem_append_left _ ((iha q hq).2 q' h)⟩
  ·exact⟨fun b' h=>List.mem_append_right _ ((ihc q hq).1 b' h),fun q' h=>List.mem_append_right _ ((ihc q hq).2 q' h)⟩
 | cond x a c iha ihc =>
  intro q hq
  rcases List.mem_append.1 hq with hq|hq
  ·exact⟨fun b' h=>List.mem_append_left _ ((iha q hq).1 b' h),fun q' h=>List.mem_append_left _ ((iha q hq).2 q' h)⟩
  ·exact⟨fun b' h=>List.mem_append_right _ ((ihc q hq).1 b' h),fun q' h=>List.mem_append_right _ ((ihc q hq).2 q' h)⟩
 | rangeFunc g ps a c iha ihc =>
  intro q hq
  rcases List.mem_cons.1 hq with rfl|hq
  ·exact⟨fun b' h=>h,fun q' h=>List.mem_cons_of_mem _ h⟩
  ·rcases List.mem_append.1 hq with hq|hq
   ·exact⟨fun b' h=>List.mem_append_left _ ((iha q hq).1 b' h),fun q' h=>List.mem_cons_of_mem _ (List.mem_append_left _ ((iha q hq).2 q' h))⟩
   ·exact⟨fun b' h=>List.mem_append_right _ ((ihc q hq).1 b' h),fun q' h=>List.mem_cons_of_mem _ (List.mem_append_right _ ((ihc q hq).2 q' h))⟩
 | block id c ih=>intro q hq;exact ih q hq
 | _=>intro q hq;cases hq
noncomputable def q6t (f:Nat):Code:=((qo Tryz.prog pol f).map Bd.code).getD .skip
noncomputable def lbO (f key:Nat):Code:=(qK key (q6t f)).getD .skip
noncomputable def raO (f key:Nat):Code:=((q0b key (q6t f)).getD (.skip,.skip)).1
noncomputable def rbO (f key:Nat):Code:=((q0b key (q6t f)).getD (.skip,.skip)).2
structure okL (f:Nat) (c:Code):Prop where
 lo:∀b∈ZR c,lbO f (qZ b)=b
 ro:∀q∈QY c,raO f (qZ q.2)=q.1∧rbO f (qZ q.2)=q.2
theorem qu {f:Nat} {c:Code} (hc:q6t f=c) (h:(ZR c).map (fun b=>(qK (qZ b) c).getD .skip)=ZR c) (h':(QY c).map (fun q=>(q0b (qZ q.2) c).getD (.skip,.skip))=QY c):okL f c:=by
 refine⟨fun b hb=>?_,fun q hq=>?_⟩
 ·unfold lbO
  rw[hc]
  obtain⟨i,hi,rfl⟩:=List.mem_iff_getElem.1 hb
  have h1:((ZR c).map (fun b=>(qK (qZ b) c).getD .skip))[i]?=(ZR c)[i]?:=by rw[h]
  rw[List.getElem?_map,List.getElem?_eq_getElem hi] at h1
  simpa using h1
 ·unfold raO rbO
  rw[hc]
  obtain⟨i,hi,rfl⟩:=List.mem_iff_getElem.1 hq
  have h1:((QY c).map (fun q=>(q0b (qZ q.2) c).getD (.skip,.skip)))[i]?=(QY c)[i]?:=by rw[h']
  rw[List.getElem?_map,List.getElem?_eq_getElem hi] at h1
  simp only[Option.map_some,Option.some.injEq] at h1
  rw[h1]
  exact⟨rfl,rfl⟩
noncomputable def XEo (E:Orc) (f k:Nat):Code→S→XS:=XD Tryz.prog T pol E (D1 Tryz.prog T pol E f k) Lim f k
noncomputable def XL2 (E:Orc) (f k key:Nat) (s:S):XS:=Lim (fun s=>(XEo E f k (lbO f key) s).bind (lpx pol f key k)) s
def cnd (r:R) (x y:XS):XS :=
 match r with
 | .c (.d (.bool b))=>if b=true then x else y
 | _=>none
noncomputable def XE2 (E:Orc) (f k:Nat):Code→S→XS
 | .skip,s=>some (.normal,s)
 | .label _,s=>some (.normal,s)
 | .ret,s=>some (.ret,s)
 | .exit id,s=>some (.exit id,s)
 | .seq a b,s=>(XE2 E f k a s).bind (sqD fun s'=>XE2 E f k b s')
 | .block id c,s=>(XE2 E f k c s).bind (bkD id)
 | .cond c x y,s=>cnd (s.ev c) (XE2 E f k x (s.ly c tt)) (XE2 E f k y (s.ly c ff))
 | .loop c,s=>(nrm pol f (qZ c) k s).bind fun s0=>XL2 E f k (qZ c) s0
 | .rangeFunc g ps _ b,s=>xRF pol E f g ps.toList (raO f (qZ b)) (rbO f (qZ b)) ((s.dzr pol.q).frz (q7G (s.dzr pol.q) (pol.rk f (qZ b))))
 | c,s=>XEo E f k c s
section
variable {E:Orc} {f k:Nat} {s:S}
theorem qxV (a b:Code):XEo E f k (.seq a b) s=(XEo E f k a s).bind (sqD fun s'=>XEo E f k b s'):=rfl
theorem qoH (i:Nat) (b:Code):XEo E f k (.block i b) s=(XEo E f k b s).bind (bkD i):=rfl
theorem qth (p:Operand) (a b:Code):XEo E f k (.cond p a b) s=cnd (s.ev p) (XEo E f k a (s.ly p tt)) (XEo E f k b (s.ly p ff)):=rfl
theorem qrI (b:Code):XEo E f k (.loop b) s=(nrm pol f (qZ b) k s).bind fun s0=>Lim (fun s=>(XEo E f k b s).bind (lpx pol f (qZ b) k)) s0:=rfl
theorem qtj:XEo E f k .skip s=some (.normal,s):=rfl
theorem qp1 (l:Nat):XEo E f k (.label l) s=some (.normal,s):=rfl
theorem qyU:XEo E f k .ret s=some (.ret,s):=rfl
theorem qvl (i:Nat):XEo E f k (.exit i) s=some (.exit i,s):=rfl
theorem qpu (g:Operand) (ps:Array Tmp) (asg bd:Code):XEo E f k (.rangeFunc g ps asg bd) s=xRF pol E f g ps.toList asg bd ((s.dzr pol.q).frz (q7G (s.dzr pol.q) (pol.rk f (qZ bd)))):=rfl
theorem qwL (a b:Code):XE2 E f k (.seq a b) s=(XE2 E f k a s).bind (sqD fun s'=>XE2 E f k b s'):=rfl
theorem qp9 (i:Nat) (b:Code):XE2 E f k (.block i b) s=(XE2 E f k b s).bind (bkD i):=rfl
theorem qua (p:Operand) (a b:Code):XE2 E f k (.cond p a b) s=cnd (s.ev p) (XE2 E f k a (s.ly p tt)) (XE2 E f k b (s.ly p ff)):=rfl
theorem qpR (g:Operand) (ps:Array Tmp) (asg bd:Code):XE2 E f k (.rangeFunc g ps asg bd) s=xRF pol E f g ps.toList (raO f (qZ bd)) (rbO f (qZ bd)) ((s.dzr pol.q).frz (q7G (s.dzr pol.q) (pol.rk f (qZ bd)))):=rfl
theorem qrO (b:Code):XE2 E f k (.loop b) s=(nrm pol f (qZ b) k s).bind fun s0=>XL2 E f k (qZ b) s0:=rfl
end
theorem qeG {E:Orc} {f k:Nat}:∀(c:Code),okL f c→∀s,XEo E f k c s=XE2 E f k c s:=by
 intro c
 induction c with
 | seq a b iha ihb =>
  intro h s
  have h1:=iha ⟨fun x hx=>h.lo x (List.mem_append_left _ hx),fun x hx=>h.ro x (List.mem_append_left _ hx)⟩
  have h2:=ihb ⟨fun x hx=>h.lo x (List.mem_append_right _ hx),fun x hx=>h.ro x (List.mem_append_right _ hx)⟩
  rw[qxV,qwL,h1,funext h2]
 | block id c ih=>intro h s;rw[qoH,qp9,ih ⟨h.lo,h.ro⟩ s]
 | cond x a b iha ihb =>
  intro h s
  have h1:=iha ⟨fun x hx=>h.lo x (List.mem_append_left _ hx),fun x hx=>h.ro x (List.mem_append_left _ hx)⟩
  have h2:=ihb ⟨fun x hx=>h.lo x (List.mem_append_right _ hx),fun x hx=>h.ro x (List.mem_append_right _ hx)⟩
  rw[qth,qua,h1,h2]
 | loop c ih =>
  intro h s
  rw[qrI,qrO]
  unfold XL2
  rw[h.lo c List.mem_cons_self]
 | rangeFunc g ps a b _ _ =>
  intro h s
  obtain⟨h1,h2⟩:=h.ro (a,b) List.mem_cons_self
  rw[qpu,qpR]
  rw[h1,h2]
 | skip=>intro _ s;rw[qtj];rfl
 | label=>intro _ s;rw[qp1];rfl
 | ret=>intro _ s;rw[qyU];rfl
 | exit=>intro _ s;rw[qvl];rfl
 | _=>intro _ s;unfold XE2;rfl
noncomputable def th2 (E:Orc) (f k:Nat) (r:XS) (b:Code):XS:=r.bind (sqD fun s'=>XE2 E f k b s')
noncomputable def lp2 (E:Orc) (f k key:Nat) (o:Option S):XS:=o.bind fun s=>XL2 E f k key s
def lz2 (f k key:Nat) (r:XS):XS:=r.bind (lpx pol f key k)
def ly2 (e:Exit) (o:Option S):XS:=o.bind fun s=>some (e,s)
noncomputable def rs2 (E:Orc) (ops:List Oper) (o:Option S) (l:List Oper):Option S:=o.bind fun s=>xr Tryz.prog T pol E ops l s
noncomputable def qgU (E:Orc) (ops:List Oper) (A:List (List Nat)) (s0:S) (m:Nat) (o:Option (S×Tx)) (l:List Oper) (acc:List Tx):Option S:=o.bind fun q=>xdp Tryz.prog T pol E ops A s0 m l q.1 (acc++[q.2])
section
variable {E:Orc} {f k key:Nat} {s:S} {b:Code} {c:Prop} [Decidable c] {x y:XS} {α β:Type} {o:Option α} {g:α→XS} {h:β→XS} {e:α⊕β}
theorem qqa:XE2 E f k .skip s=some (.normal,s):=rfl
theorem qs8:XE2 E f k .ret s=some (.ret,s):=rfl
theorem qpH (i:Nat):XE2 E f k (.exit i) s=some (.exit i,s):=rfl
theorem qrq (a:Code):XE2 E f k (.seq a b) s=th2 E f k (XE2 E f k a s) b:=rfl
theorem qkx (i:Nat):XE2 E f k (.block i b) s=bkk i (XE2 E f k b s):=rfl
theorem qok (p:Operand) (a b:Code):XE2 E f k (.cond p a b) s=match s.ev p with | .c (.d (.bool t))=>if t=true then XE2 E f k a (s.ly p tt) else XE2 E f k b (s.ly p ff)|_=>none:=rfl
theorem qiH (i:Nat) (ops:Array Oper):XE2 E f k (.region i ops false) s=rgn (xr Tryz.prog T pol E ops.toList ops.toList s):=rfl
theorem qoL (i:Nat) (ops:Array Oper):XE2 E f k (.region i ops true) s=rgn (D1 Tryz.prog T pol E f k i ops.toList ((s.dzr pol.q).frz (q7G (s.dzr pol.q) (pol.rk f i)))):=rfl
theorem ql3 (g:Operand) (ps:Array Tmp) (asg bd:Code):XE2 E f k (.rangeFunc g ps asg bd) s=xRF pol E f g ps.toList (raO f (qZ bd)) (rbO f (qZ bd)) ((s.dzr pol.q).frz (q7G (s.dzr pol.q) (pol.rk f (qZ bd)))):=rfl
theorem qoc:XE2 E f k (.loop b) s=lp2 E f k (qZ b) (nrm pol f (qZ b) k s):=rfl
theorem qfJ:th2 E f k (some (.normal,s)) b=XE2 E f k b s:=rfl
theorem qo2:th2 E f k (some (.ret,s)) b=some (.ret,s):=rfl
theorem ql9 (i:Nat):th2 E f k (some (.exit i,s)) b=some (.exit i,s):=rfl
theorem qku:th2 E f k none b=none:=rfl
theorem qn7:th2 E f k (if c then x else y) b=if c then th2 E f k x b else th2 E f k y b:=q0w _ _ _
theorem qlT:th2 E f k (o.bind g) b=o.bind fun a=>th2 E f k (g a) b:=by cases o<;>rfl
theorem qnc:th2 E f k (Sum.elim g h e) b=Sum.elim (fun a=>th2 E f k (g a) b) (fun a=>th2 E f k (h a) b) e:=by cases e<;>rfl
theorem qkN:lp2 E f k key (some s)=XL2 E f k key s:=rfl
theorem qfz:lz2 f k key (some (.normal,s))=ly2 .normal (nrm pol f key k s):=rfl
theorem qoa:lz2 f k key (some (.ret,s))=ly2 .ret (qq4 k (pol.kx f key) (s.fin pol.q)):=rfl
theorem qkJ (i:Nat):lz2 f k key (some (.exit i,s))=ly2 (.exit i) (qq4 k (pol.kx f key) (s.fin pol.q)):=rfl
theorem qll:lz2 f k key none=none:=rfl
theorem qqf:lz2 f k key (if c then x else y)=if c then lz2 f k key x else lz2 f k key y:=q0w _ _ _
theorem qk1:lz2 f k key (o.bind g)=o.bind fun a=>lz2 f k key (g a):=by cases o<;>rfl
theorem qqh:lz2 f k key (Sum.elim g h e)=Sum.elim (fun a=>lz2 f k key (g a)) (fun a=>lz2 f k key (h a)) e:=by cases e<;>rfl
theorem qkQ (x:Exit):ly2 x (some s)=some (x,s):=rfl
theorem qpD (i:Nat):bkk i (Sum.elim g h e)=Sum.elim (fun a=>bkk i (g a)) (fun a=>bkk i (h a)) e:=by cases e<;>rfl
theorem qoj (res:List ResultVar) (rt:List TypeId):fnn f k res rt (Sum.elim g h e)=Sum.elim (fun a=>fnn f k res rt (g a)) (fun a=>fnn f k res rt (h a)) e:=by cases e<;>rfl
end
section
variable {E:Orc} {α β γ:Type} {e:α⊕β}
theorem ql2 {δ:Type} (g:α→Option γ) (h:β→Option γ) (F:γ→Option δ):(Sum.elim g h e).bind F=Sum.elim (fun a=>(g a).bind F) (fun a=>(h a).bind F) e:=by cases e<;>rfl
theorem qnJ (g:α→RS) (h:β→RS) (d:Option Nat):wst (Sum.elim g h e) d=Sum.elim (fun a=>wst (g a) d) (fun a=>wst (h a) d) e:=by cases e<;>rfl
theorem qoG (g:α→RS) (h:β→RS) (s:S) (o:Oper):wsF (Sum.elim g h e) s o=Sum.elim (fun a=>wsF (g a) s o) (fun a=>wsF (h a) s o) e:=by cases e<;>rfl
theorem qor (g:α→Option S) (h:β→Option S):rgn (Sum.elim g h e)=Sum.elim (fun a=>rgn (g a)) (fun a=>rgn (h a)) e:=by cases e<;>rfl
theorem qoJ {s:S} (g:α→Option (R×List (Nat×B))) (h:β→Option (R×List (Nat×B))) (bl rw ln:List Nat):cll (Sum.elim g h e) s bl rw ln=Sum.elim (fun a=>cll (g a) s bl rw ln) (fun a=>cll (h a) s bl rw ln) e:=by cases e<;>rfl
end
section
variable {E:Orc} {s:S} {o:Oper} {c:Prop} [Decidable c] {α β:Type} {v:Option α} {e:α⊕β} {ops l:List Oper} {A:List (List Nat)} {s0:S} {m:Nat} {acc:List Tx}
theorem qBE:xst Tryz.prog T pol E o true s=wst (xo Tryz.prog T pol E (pre pol s o.op) o.op) o.dst:=rfl
theorem qBT:xst Tryz.prog T pol E o false s=if qbi s o.dst=true then some (s.put o.dst (.tup [])) else none:=rfl
theorem qxM:xsF Tryz.prog T pol E o true s=alX E s o (alC pol s o.op) (wsF (xo Tryz.prog T pol E s o.op) s o):=rfl
theorem qwo:xsF Tryz.prog T pol E o false s=if qbi s o.dst=true then some (s.put o.dst (.tup []),(.tup [],[]),⟨[],[],[],[],[]⟩) else none:=rfl
theorem qwH:xr Tryz.prog T pol E ops [] s=some s:=rfl
theorem qsb:xr Tryz.prog T pol E ops (o::l) s=rs2 E ops (xgd Tryz.prog T pol E ops o s) l:=rfl
theorem qsm:rs2 E ops (some s) l=xr Tryz.prog T pol E ops l s:=rfl
theorem qu3:rs2 E ops none l=none:=rfl
theorem qza (x y:Option S):rs2 E ops (if c then x else y) l=if c then rs2 E ops x l else rs2 E ops y l:=q0w _ _ _
theorem qup (g:α→Option S):rs2 E ops (v.bind g) l=v.bind fun a=>rs2 E ops (g a) l:=by cases v<;>rfl
theorem qyJ (g:α→Option S) (h:β→Option S):rs2 E ops (Sum.elim g h e) l=Sum.elim (fun a=>rs2 E ops (g a) l) (fun a=>rs2 E ops (h a) l) e:=by cases e<;>rfl
theorem qub:xdp Tryz.prog T pol E ops A s0 0 l s acc=if okP A 0 [] acc=true∧okX ops A s0 acc 0 acc=true∧okK ops A acc=true∧okN acc 0 acc=true then xr Tryz.prog T pol E ops l s else none:=by cases l<;>rfl
theorem qrS:xdp Tryz.prog T pol E ops A s0 (m+1) (o::l) s acc=qgU E ops A s0 m (xgF Tryz.prog T pol E ops o s) l acc:=rfl
theorem qn2 (x:Tx):qgU E ops A s0 m (some (s,x)) l acc=xdp Tryz.prog T pol E ops A s0 m l s (acc++[x]):=rfl
theorem qnY:qgU E ops A s0 m none l acc=none:=rfl
theorem qqK (x y:Option (S×Tx)):qgU E ops A s0 m (if c then x else y) l acc=if c then qgU E ops A s0 m x l acc else qgU E ops A s0 m y l acc:=q0w _ _ _
theorem qqm (g:α→Option (S×Tx)):qgU E ops A s0 m (v.bind g) l acc=v.bind fun a=>qgU E ops A s0 m (g a) l acc:=by cases v<;>rfl
theorem qrD (g:α→Option (S×Tx)) (h:β→Option (S×Tx)):qgU E ops A s0 m (Sum.elim g h e) l acc=Sum.elim (fun a=>qgU E ops A s0 m (g a) l acc) (fun a=>qgU E ops A s0 m (h a) l acc) e:=by cases e<;>rfl
theorem quM (g:FuncId) (zs:List (List Nat)) (rs:List R) (bl rw ln:List Nat):q0D E s g zs rs bl rw ln=(qg2 s (bl++rw) ln zs rs).bind fun rs'=>(cvG s (bl++rw) (bl++rw) 0).bind fun G =>
  if(bl++rw).all (fun i=>(s.blk i).live)=true∧(bl++rw).Nodup∧ln.all (fun i=>(s.blk i).live && !(bl++rw).contains i)=true∧bl.length≤G.length∧(List.range G.length).all (fun j=>(lk G j .dead).isBlk==decide (j<bl.length))=true then cll (E (.fn g) bl.length rs' G) s bl rw ln else none:=rfl
theorem qpT (rid:Nat) (f:FuncId) (asg bd:Code) (rs:List R) (bl rw ln:List Nat):q5l E s rid f asg bd rs bl rw ln=(cvG s (bl++rw) (bl++rw) 0).bind fun G =>
  if(bl++rw).all (fun i=>(s.blk i).live)=true∧(bl++rw).Nodup∧ln.all (fun i=>(s.blk i).live && !(bl++rw).contains i)=true∧bl.length≤G.length∧(List.range G.length).all (fun j=>(lk G j .dead).isBlk==decide (j<bl.length))=true∧0<bl.length∧(bl++rw)[bl.length-1]?=some rid then
   cll (E (.rd f asg bd) bl.length (rs.map (cvT s (bl++rw) ln)) G) s bl rw ln else none:=rfl
theorem qCD (f:Nat) (asg bd:Code) (g:Operand) (ps:List Nat):xRF pol E f g ps asg bd s=match s.ev g with
 | .c (.fn g' fs caps)=>rfk s.n (q9L E (s.rf f (qdD s (pol.rk f (qZ bd))) ps asg bd) g' (pol.ow g') [] (fs.map R.c++[.c (.hd .yield s.nx)]++caps.map R.c))
 | _=>none:=rfl
end
theorem qs7 (g k:Nat) (a:List R) (G:List (Nat×B)):evo (.fn g) k a G=ev g k a G:=rfl
theorem qs0 (g:Nat) (asg bd:Code) (k:Nat) (a:List R) (G:List (Nat×B)):evo (.rd g asg bd) k a G=evr g asg bd k a G:=rfl
noncomputable def q3L (E:Orc) (f k:Nat) (args:List R) (G:List (Nat×B)):Option (R×List (Nat×B)):=(qo Tryz.prog pol f).bind fun bd=>q6N Tryz.prog T pol (D1 Tryz.prog T pol) E Lim f k args G bd
theorem qh {f n:Nat} {c:Code} {res:List ResultVar} {rt:List TypeId} (hb:qo Tryz.prog pol f=some ⟨c,n,res,rt⟩):q6t f=c:=by unfold q6t;rw[hb];rfl
theorem q04 {E:Orc} {f n:Nat} {c:Code} {res:List ResultVar} {rt:List TypeId} (hb:qo Tryz.prog pol f=some ⟨c,n,res,rt⟩) (hl:okL f c) (k:Nat) (args:List R) (G:List (Nat×B)) :
  q3L E f k args G=if args.length≤n then fnn f k res rt (XE2 E f k c ⟨q31 args 0,G,G.length,n⟩) else none:=by
 unfold q3L
 rw[hb,Option.bind_some]
 unfold q6N
 split
 ·show Option.bind (XEo E f k c _) _=_
  rw[qeG c hl]
  rfl
 ·rfl
theorem qiN {f k:Nat} (hp:pol.pr f=none) (args:List R) (G:List (Nat×B)):ev f k args G=q3L evo f k args G:=by rw[qoy,hp];rfl
theorem qt {f n:Nat} {c:Code} {res:List ResultVar} {rt:List TypeId} (hb:qo Tryz.prog pol f=some ⟨c,n,res,rt⟩) (hp:pol.pr f=none) (hl:okL f c) (k:Nat) (args:List R) (G:List (Nat×B)) :
  ev f k args G=if args.length≤n then fnn f k res rt (XE2 evo f k c ⟨q31 args 0,G,G.length,n⟩) else none:=by
 rw[qiN hp,q04 hb hl]
section
variable {σ ε:Type}
def itT (step:σ→Option (σ⊕ε)):Nat→σ→Option ε
 | 0,_=>none
 | n+1,x=>(step x).bind (Sum.elim (itT step n) some)
theorem qbs {step:σ→Option (σ⊕ε)}:∀{n m:Nat},n≤m→∀x r,itT step n x=some r→itT step m x=some r
 | 0,_,_,x,r,h=>by cases h
 | n+1,0,h,_,_,_=>by omega
 | n+1,m+1,h,x,r,hx=>by
  unfold itT at hx ⊢
  obtain⟨a,h1,h2⟩:=Option.bind_eq_some_iff.1 hx
  rw[h1,Option.bind_some]
  cases a with
  | inl y=>exact qbs (by omega) y r h2
  | inr e=>exact h2
noncomputable def qq (step:σ→Option (σ⊕ε)) (x:σ):Option ε:=open Classical in if h:∃r n,itT step n x=some r then some (Classical.choose h) else none
theorem qaN {step:σ→Option (σ⊕ε)} {n:Nat} {x:σ} {r:ε} (h:itT step n x=some r):qq step x=some r:=by
 have hex:∃r n,itT step n x=some r:=⟨r,n,h⟩
 unfold qq
 rw[dif_pos hex]
 obtain⟨m,hm⟩:=Classical.choose_spec hex
 have h1:=qbs (Nat.le_max_left n m) _ _ h
 have h2:=qbs (Nat.le_max_right n m) _ _ hm
 rw[h1] at h2
 injection h2 with h2
 rw[←h2]
theorem q9b {step:σ→Option (σ⊕ε)} {x:σ} {r:ε} (h:qq step x=some r):∃n,itT step n x=some r:=by
 unfold qq at h
 split at h
 ·rename_i hex
  injection h with h
  obtain⟨m,hm⟩:=Classical.choose_spec hex
  exact⟨m,h ▸ hm⟩
 ·cases h
theorem qgs (step:σ→Option (σ⊕ε)) (x:σ):qq step x=(step x).bind (Sum.elim (qq step) some):=by
 refine qbj (fun r h=>?_) (fun r h=>?_)
 ·obtain⟨n,hn⟩:=q9b h
  cases n with
  | zero=>cases hn
  | succ n =>
   unfold itT at hn
   obtain⟨a,h1,h2⟩:=Option.bind_eq_some_iff.1 hn
   rw[h1,Option.bind_some]
   cases a with
   | inl y=>exact qaN h2
   | inr e=>exact h2
 ·obtain⟨a,h1,h2⟩:=Option.bind_eq_some_iff.1 h
  cases a with
  | inl y =>
   obtain⟨n,hn⟩:=q9b h2
   refine qaN (n:=n+1) ?_
   unfold itT
   rw[h1];exact hn
  | inr e =>
   refine qaN (n:=1) ?_
   unfold itT
   rw[h1];exact h2
end
theorem qp7 {F:S→XS} {σ ε:Type} {st:σ→S} {ex:ε→Exit×S} {step:σ→Option (σ⊕ε)} (hne:∀e,(ex e).1 ≠ .normal)
  (h:∀x,F (st x)=(step x).bind (Sum.elim (fun y=>some (.normal,st y)) (fun e=>some (ex e)))) (x:σ):Lim F (st x)=(qq step x).bind fun e=>some (ex e):=by
 have hit:∀(n:Nat) (x:σ),iter n F (st x)=(itT step n x).bind fun e=>some (ex e):=by
  intro n
  induction n with
  | zero=>intro x;rfl
  | succ n ih =>
   intro x
   unfold iter itT
   rw[h x]
   cases step x with
   | none=>rfl
   | some a =>
    cases a with
    | inl y=>exact ih y
    | inr e =>
     show sqD (iter n F) (ex e)=some (ex e)
     have:=hne e
     generalize ex e=q at this
     obtain⟨z,t⟩:=q
     cases z<;>first|exact absurd rfl this|rfl
 refine qbj (fun r hr=>?_) (fun r hr=>?_)
 ·obtain⟨n,hn⟩:=qe9 hr
  rw[hit n x] at hn
  obtain⟨e,h1,h2⟩:=Option.bind_eq_some_iff.1 hn
  rw[qaN h1];exact h2
 ·obtain⟨e,h1,h2⟩:=Option.bind_eq_some_iff.1 hr
  obtain⟨n,hn⟩:=q9b h1
  refine qmU (n:=n) ?_
  rw[hit n x,hn];exact h2
theorem q1A {E:Orc} {f k key:Nat} {c:Code} {σ ε:Type} {st:σ→S} {ex:ε→Exit×S} {step:σ→Option (σ⊕ε)} (hc:lbO f key=c) (hl:okL f c) (hne:∀e,(ex e).1 ≠ .normal)
  (h:∀x,lz2 f k key (XE2 E f k c (st x))=(step x).bind (Sum.elim (fun y=>some (.normal,st y)) (fun e=>some (ex e)))) (x:σ):XL2 E f k key (st x)=(qq step x).bind fun e=>some (ex e):=by
 refine qp7 hne (fun x=>?_) x
 rw[hc,qeG c hl]
 exact h x
noncomputable def xk (E:Orc) (f k key:Nat) (r:XS):XS:=r.bind fun p=>match p.1 with | .normal=>XL2 E f k key p.2|e=>some (e,p.2)
section
variable {E:Orc} {f k key:Nat} {s:S} {c:Prop} [Decidable c] {α β:Type} {o:Option α} {g:α→XS} {h:β→XS} {e:α⊕β}
end
theorem zG {α:Type} {c:Prop} [Decidable c] (x y:α):(if c then some x else some y)=some (if c then x else y):=by split<;>rfl
theorem zf {f key:Nat} {c b:Code} (hc:q6t f=c) (h:(qK key c).getD .skip=b):lbO f key=b:=by unfold lbO;rw[hc];exact h
theorem qH {f:Nat} {c b:Code} (hl:okL f c) (hb:b∈ZR c):okL f b:=⟨fun x hx=>hl.lo x ((q8V c b hb).1 x hx),fun q hq=>hl.ro q ((q8V c b hb).2 q hq)⟩
theorem qv0 {f key:Nat} {c:Code} {q:Code×Code} (hl:okL f c) (hq:q∈QY c):okL f q.1∧okL f q.2 :=
 ⟨⟨fun x hx=>hl.lo x ((q23 c q hq).1 x (List.mem_append_left _ hx)),fun x hx=>hl.ro x ((q23 c q hq).2 x (List.mem_append_left _ hx))⟩,
   ⟨fun x hx=>hl.lo x ((q23 c q hq).1 x (List.mem_append_right _ hx)),fun x hx=>hl.ro x ((q23 c q hq).2 x (List.mem_append_right _ hx))⟩⟩
noncomputable def rn2 (f k key:Nat) (o:Option B) (s:S):Option (R×List (Nat×B)):=o.bind fun b=>rd3 k (XE2 evo f k (rbO f key) (s.up [(k-1,b)]))
noncomputable def rn1 (f k key:Nat) (r:XS):Option (R×List (Nat×B)):=r.bind fun p=>match p.1 with | .normal=>rn2 f k key (rdB (p.2.blk (k-1))) p.2|_=>none
section
variable {f k key:Nat} {s:S} {c:Prop} [Decidable c] {α β:Type} {o:Option α} {g:α→XS} {h:β→XS} {e:α⊕β}
theorem qfG:rn1 f k key (some (.normal,s))=rn2 f k key (rdB (s.blk (k-1))) s:=rfl
theorem ql6 (b:B):rn2 f k key (some b) s=rd3 k (XE2 evo f k (rbO f key) (s.up [(k-1,b)])):=rfl
theorem qnU {n:Nat} (g:α→RS) (h:β→RS):rfk n (Sum.elim g h e)=Sum.elim (fun a=>rfk n (g a)) (fun a=>rfk n (h a)) e:=by cases e<;>rfl
end
theorem qgz {f key k:Nat} {asg bd:Code} (ha:raO f key=asg) (hb:rbO f key=bd) (hk:0<k) (hc:q8g (drq pol f) false asg=true∧q8g (drq pol f) false bd=true) (la:okL f asg) (lb:okL f bd) (tm:List R) (G:List (Nat×B)) :
  evr f (raO f key) (rbO f key) k tm G=rn1 f k key (XE2 evo f k (raO f key) ⟨q31 tm 0,G,G.length,tm.length⟩):=by
 rw[qqZ ha hb hk hc tm G,ha]
 have e1:∀s,XE f k asg s=XE2 evo f k asg s:=fun s=>qeG asg la s
 have e2:∀s,XE f k bd s=XE2 evo f k bd s:=fun s=>qeG bd lb s
 rw[e1]
 unfold rd1 rn1
 congr 1
 funext p
 obtain⟨x,t⟩:=p
 cases x<;>first
  | rfl
  | (show rd2 f k bd t (rdB (t.blk (k-1)))=rn2 f k key (rdB (t.blk (k-1))) t
     unfold rd2 rn2
     rw[hb]
     congr 1
     funext b
     rw[e2])
theorem qtD {f key:Nat} {c b:Code} (hc:q6t f=c) (h:((q0b key c).getD (.skip,.skip)).1=b):raO f key=b:=by unfold raO;rw[hc];exact h
theorem quf {f key:Nat} {c b:Code} (hc:q6t f=c) (h:((q0b key c).getD (.skip,.skip)).2=b):rbO f key=b:=by unfold rbO;rw[hc];exact h
section
variable {σ ε:Type} (f k:Nat) (enc:σ→List R×List (Nat×B)) (ex:ε→R×List (Nat×B))
noncomputable def ovr (F:σ→Option ε):Orc:=fun g k' args G=>open Classical in if h:(g = .fn f∧k'=k)∧∃y,enc y=(args,G) then(F (Classical.choose h.2)).bind fun e=>some (ex e) else evo g k' args G
noncomputable def q3b (y:σ):Option ε:=open Classical in if h:∃e,ev f k (enc y).1 (enc y).2=some (ex e) then some (Classical.choose h) else none
variable {f k enc ex}
theorem qpl (hi:∀y z,enc y=enc z→y=z) (F:σ→Option ε) (y:σ):ovr f k enc ex F (.fn f) k (enc y).1 (enc y).2=(F y).bind fun e=>some (ex e):=by
 have h:((Fx.fn f=Fx.fn f)∧k=k)∧∃z,enc z=((enc y).1,(enc y).2):=⟨⟨rfl,rfl⟩,y,rfl⟩
 unfold ovr
 rw[dif_pos h]
 rw[hi _ _ ((Classical.choose_spec h.2).trans rfl)]
theorem qlk (F:σ→Option ε) (g k':Nat) (a:List R) (G:List (Nat×B)) (h:g≠f):ovr f k enc ex F (.fn g) k' a G=ev g k' a G:=by
 unfold ovr
 rw[dif_neg (fun h'=>h (by injection h'.1.1))]
 rfl
theorem qsz (F:σ→Option ε) (g:Nat) (asg bd:Code) (k':Nat) (a:List R) (G:List (Nat×B)):ovr f k enc ex F (.rd g asg bd) k' a G=evr g asg bd k' a G:=by
 unfold ovr
 rw[dif_neg (fun h'=>by cases h'.1.1)]
 rfl
def q1T (f k:Nat) (enc:σ→List R×List (Nat×B)) (ex:ε→R×List (Nat×B)) (step:(σ→Option ε)→σ→Option ε):Prop :=
 ∀(E:Orc) (F:σ→Option ε),(∀y,E (.fn f) k (enc y).1 (enc y).2=(F y).bind fun e=>some (ex e))→(∀g k' a G,g≠f→E (.fn g) k' a G=ev g k' a G)→(∀g asg bd k' a G,E (.rd g asg bd) k' a G=evr g asg bd k' a G) →
  ∀y,q3L E f k (enc y).1 (enc y).2=(step F y).bind fun e=>some (ex e)
theorem qfK {E E':Orc} (h:OLe E E') (L:(S→XS)→S→XS) (hL:LLe L Lim) {f k:Nat} {args:List R} {G:List (Nat×B)} {bd:Bd} {x:R×List (Nat×B)} (hb:qo Tryz.prog pol f=some bd) (hx:q6N Tryz.prog T pol (D1 Tryz.prog T pol) E L f k args G bd=some x):q3L E' f k args G=some x:=by
 unfold q3L
 rw[hb,Option.bind_some]
 exact qag q9l h hL hx
theorem qpj (hp:pol.pr f=none) (hi:∀y z,enc y=enc z→y=z) {step:(σ→Option ε)→σ→Option ε} (hs:q1T f k enc ex step) :
  ∀(n:Nat) (y:σ) (z:R×List (Nat×B)),xf Tryz.prog T pol (D1 Tryz.prog T pol) n (.fn f) k (enc y).1 (enc y).2=some z→∃e,z=ex e:=by
 intro n
 induction n with
 | zero=>intro y z h;cases h
 | succ n ih =>
  intro y z h
  obtain⟨F,hF⟩:∃F:σ→Option ε,∀y z,xf Tryz.prog T pol (D1 Tryz.prog T pol) n (.fn f) k (enc y).1 (enc y).2=some z→(F y).bind (fun e=>some (ex e))=some z:=by
   refine⟨fun y=>open Classical in if h:∃e,xf Tryz.prog T pol (D1 Tryz.prog T pol) n (.fn f) k (enc y).1 (enc y).2=some (ex e) then some (Classical.choose h) else none,fun y z hz=>?_⟩
   obtain⟨e,rfl⟩:=ih y z hz
   have hex:∃e,xf Tryz.prog T pol (D1 Tryz.prog T pol) n (.fn f) k (enc y).1 (enc y).2=some (ex e):=⟨e,hz⟩
   simp only[dif_pos hex,Option.bind_some]
   rw[←Classical.choose_spec hex,hz]
  have hle:OLe (xf Tryz.prog T pol (D1 Tryz.prog T pol) n) (ovr f k enc ex F):=by
   intro g k' args G x hx
   unfold ovr
   split
   ·rename_i hh
    obtain⟨⟨rfl,rfl⟩,hy⟩:=hh
    have e1:=Classical.choose_spec hy
    refine hF _ _ ?_
    rw[e1];exact hx
   ·exact qfi q9l _ _ _ _ _ hx
  have h2:∃bd,qo Tryz.prog pol f=some bd∧q6N Tryz.prog T pol (D1 Tryz.prog T pol) (xf Tryz.prog T pol (D1 Tryz.prog T pol) n) (iter n) f k (enc y).1 (enc y).2 bd=some z:=by
   have h3:fnx Tryz.prog T pol (D1 Tryz.prog T pol) (xf Tryz.prog T pol (D1 Tryz.prog T pol) n) (iter n) f k (enc y).1 (enc y).2=some z:=h
   unfold fnx at h3
   rw[hp] at h3
   exact Option.bind_eq_some_iff.1 h3
  obtain⟨bd,hb,hx⟩:=h2
  have h4:=qfK hle (iter n) (qd5 n) hb hx
  rw[hs _ F (qpl hi F) (qlk F) (qsz F) y] at h4
  obtain⟨e,-,h5⟩:=Option.bind_eq_some_iff.1 h4
  injection h5 with h5
  exact⟨e,h5.symm⟩
theorem q2M (hp:pol.pr f=none) (hi:∀y z,enc y=enc z→y=z) {step:(σ→Option ε)→σ→Option ε} (hs:q1T f k enc ex step) (y:σ):ev f k (enc y).1 (enc y).2=(q3b f k enc ex y).bind fun e=>some (ex e):=by
 unfold q3b
 split
 ·rename_i h
  rw[Option.bind_some]
  exact Classical.choose_spec h
 ·rename_i h
  cases hv:ev f k (enc y).1 (enc y).2 with
  | none=>rfl
  | some z =>
   obtain⟨n,hn⟩:=q7z (show EE Tryz.prog T pol (D1 Tryz.prog T pol) (.fn f) k (enc y).1 (enc y).2=some z from hv)
   obtain⟨e,rfl⟩:=qpj hp hi hs n y z hn
   exact absurd ⟨e,hv⟩ h
theorem q4x (hp:pol.pr f=none) (hi:∀y z,enc y=enc z→y=z) (hj:∀d e,ex d=ex e→d=e) {step:(σ→Option ε)→σ→Option ε} (hs:q1T f k enc ex step) (y:σ):q3b f k enc ex y=step (q3b f k enc ex) y:=by
 have h1:=hs evo (q3b f k enc ex) (q2M hp hi hs) (fun _ _ _ _ _=>rfl) (fun _ _ _ _ _ _=>rfl) y
 rw[←qiN hp,q2M hp hi hs y] at h1
 cases h2:q3b f k enc ex y with
 | none =>
  rw[h2] at h1
  cases h3:step (q3b f k enc ex) y with
  | none=>rfl
  | some e=>rw[h3] at h1;cases h1
 | some d =>
  rw[h2] at h1
  cases h3:step (q3b f k enc ex) y with
  | none=>rw[h3] at h1;cases h1
  | some e =>
   rw[h3] at h1
   injection h1 with h1
   rw[hj _ _ h1]
end
end Go.Proofs.YtgejdfnidjnjcaaGreat.Vc
namespace Go.Proofs.YtgejdfnidjnjcaaGreat.Vc
open Go.RowKit
set_option linter.unusedVariables false
set_option linter.unusedSectionVars false
section
variable {α:Type} {E:α→List D} {n:Nat}
theorem qcM (h:∀x,(E x).length=n):∀(v:List α) (a:Nat),(v.flatMap E).drop (a*n)=(v.drop a).flatMap E
 | [],a=>by simp
 | x::v,0=>by simp
 | x::v,a+1=>by
  rw[List.flatMap_cons,show(a+1)*n=(E x).length+a*n by rw[h,Nat.add_mul];omega,List.drop_length_add_append]
  exact qcM h v a
theorem qaB (h:∀x,(E x).length=n):∀(v:List α) (a:Nat),(v.flatMap E).take (a*n)=(v.take a).flatMap E
 | [],a=>by simp
 | x::v,0=>by simp
 | x::v,a+1=>by
  rw[List.flatMap_cons,show(a+1)*n=(E x).length+a*n by rw[h,Nat.add_mul];omega,List.take_length_add_append,List.take_succ_cons,List.flatMap_cons,qaB h v a]
theorem qbd (v:List α) (x:α):(v.flatMap E).map C.d++(E x).map C.d=((v++[x]).flatMap E).map C.d:=by simp
theorem qju {β:Type}:∀(ys p q:List β) (o:Nat),o+ys.length≤p.length→spl (p++q) o ys=spl p o ys++q
 | [],p,q,o,_=>rfl
 | y::ys,p,q,o,h=>by
  rw[List.length_cons] at h
  rw[spl,spl,List.set_append_left _ _ (by omega),qju ys _ q (o+1) (by rw[List.length_set];omega)]
theorem qea {β:Type}:∀(ys p q:List β) (o:Nat),spl (p++q) (p.length+o) ys=p++spl q o ys
 | [],p,q,o=>rfl
 | y::ys,p,q,o=>by
  rw[spl,spl,List.set_append_right _ _ (by omega),show p.length+o-p.length=o by omega,show p.length+o+1=p.length+(o+1) by omega,qea ys]
theorem qdK {β:Type}:∀(ys p pre:List β),p.length=ys.length→spl (pre++p) pre.length ys=pre++ys
 | [],p,pre,h=>by rw[List.eq_nil_of_length_eq_zero h];rfl
 | y::ys,[],pre,h=>by cases h
 | y::ys,x::p,pre,h=>by
  have e:(pre++x::p).set pre.length y=(pre++[y])++p:=by rw[List.set_append_right _ _ (Nat.le_refl _),Nat.sub_self];simp
  rw[spl,e,show pre.length+1=(pre++[y]).length by simp,qdK ys p _ (by simpa using h)]
  simp
theorem qjb {β:Type}:∀(ys:List β) (o:Nat),spl [] o ys=[]
 | [],o=>rfl
 | y::ys,o=>by rw[spl,List.set_nil,qjb ys]
theorem qgV (h:∀x,(E x).length=n):∀(v:List α) (i:Nat) (x:α),spl (v.flatMap E) (i*n) (E x)=(v.set i x).flatMap E
 | [],i,x=>by rw[List.flatMap_nil,qjb];rfl
 | y::v,0,x=>by
  rw[List.flatMap_cons,Nat.zero_mul,qju _ _ _ _ (by rw[h,h];omega)]
  have:=qdK (E x) (E y) [] (by rw[h,h])
  simp only[List.nil_append,List.length_nil] at this
  rw[this];rfl
 | y::v,i+1,x=>by
  rw[List.flatMap_cons,show(i+1)*n=(E y).length+i*n by rw[h,Nat.add_mul];omega,qea,qgV h v i x]
  rfl
theorem qcV {β γ:Type} (f:β→γ):∀(ys cs:List β) (o:Nat),spl (cs.map f) o (ys.map f)=(spl cs o ys).map f
 | [],cs,o=>rfl
 | y::ys,cs,o=>by rw[List.map_cons,spl,spl,←List.map_set,qcV f ys]
theorem qbe (h:∀x,(E x).length=n) (v:List α) (i:Nat) (x:α):spl ((v.flatMap E).map C.d) (i*n) ((E x).map C.d)=((v.set i x).flatMap E).map C.d:=by rw[qcV,qgV h]
theorem qgc {β:Type}:∀(ys zs cs:List β) (o:Nat),spl cs o (ys++zs)=spl (spl cs o ys) (o+ys.length) zs
 | [],zs,cs,o=>rfl
 | y::ys,zs,cs,o=>by rw[List.cons_append,spl,spl,qgc ys,List.length_cons,show o+1+ys.length=o+(ys.length+1) by omega]
theorem qiy (h:∀x,(E x).length=n):∀(w v:List α) (i:Nat),spl (v.flatMap E) (i*n) (w.flatMap E)=(spl v i w).flatMap E
 | [],v,i=>rfl
 | x::w,v,i=>by rw[List.flatMap_cons,qgc,qgV h,h,spl,show i*n+n=(i+1)*n by rw[Nat.add_mul];omega,qiy h w]
theorem qr1 (m:Nat) (x:α):(List.replicate m (E x)).flatten=(List.replicate m x).flatMap E:=by
 rw[List.flatMap_def,List.map_replicate]
theorem qjj {cs:List C} (x:α) (hx:cs=(E x).map C.d) (m:Nat):(List.replicate m cs).flatten=((List.replicate m x).flatMap E).map C.d:=by
 subst hx
 rw[←qr1,List.map_flatten,List.map_replicate]
end
theorem Jh {α:Type} {E:α→List D} {n:Nat} (h:∀x,(E x).length=n) (hn:0<n) (hi:∀x y,E x=E y→x=y):∀(v w:List α),v.flatMap E=w.flatMap E→v=w
 | [],[],_=>rfl
 | [],y::w,e=>by
  have:=congrArg List.length e
  rw[List.flatMap_cons,List.length_append,h] at this
  simp at this;omega
 | x::v,[],e=>by
  have:=congrArg List.length e
  rw[List.flatMap_cons,List.length_append,h] at this
  simp at this;omega
 | x::v,y::w,e=>by
  rw[List.flatMap_cons,List.flatMap_cons] at e
  obtain⟨h1,h2⟩:=List.append_inj e (by rw[h,h])
  rw[hi x y h1,Jh h hn hi v w h2]
theorem QB (a b:List D):(a.map C.d=b.map C.d)=(a=b):=by
 refine propext ⟨fun h=>?_,fun h=>by rw[h]⟩
 induction a generalizing b with
 | nil=>cases b with|nil=>rfl|cons=>cases h
 | cons x a ih =>
  cases b with
  | nil=>cases h
  | cons y b =>
   rw[List.map_cons,List.map_cons] at h
   injection h with h1 h2
   injection h1 with h1
   rw[h1,ih b h2]
def eI (x:Int):List D:=[.int .i64 x]
def eB (x:Bool):List D:=[.bool x]
def eS (x:ByteArray):List D:=[.str x]
def eU8 (x:Int):List D:=[.int .u8 x]
def eL {α:Type} (n:Nat) (E:α→List D) (v:List α):List D:=[.sl n v.length (v.flatMap E)]
theorem qio {α β γ:Type} (f:β→γ) (o:Option α) (g:α→Option β):(o.bind g).map f=o.bind fun x=>(g x).map f:=by cases o<;>rfl
theorem qkt {α β:Type} {c:Prop} [Decidable c] (f:α→β) (x y:Option α):(if c then x else y).map f=if c then x.map f else y.map f:=by split<;>rfl
theorem qni (P:Program) (T:Ty) (d:Nat) (t:TypeId) (x y:R):eqR P T (d+1) t x y =
  match T.k t,x,y with
  | .int _,.c (.d (.int k a)),.c (.d (.int k' b))=>if k=k' then some (a==b) else none
  | .bool,.c (.d (.bool a)),.c (.d (.bool b))=>some (a==b)
  | .str,.c (.d (.str a)),.c (.d (.str b))=>some (a.toList==b.toList)
  | .st fs,.agg xs,.agg ys=>if qc8 P t=true then qp4 T (eqR P T d) xs ys fs else none
  | _,_,_=>none:=by
 generalize hk:T.k t=kd
 unfold eqR
 rw[hk]
 cases kd<;>first
  | rfl
  | (rcases x with (c|_|_|_)<;>first
    | rfl
    | (rcases y with (c' | _|_|_)<;>first
      | rfl
      | (cases c<;>first
        | rfl
        | (cases c'<;>first
          | rfl
          | (rename_i d1 d2;cases d1<;>first
            | rfl
            | (cases d2<;>rfl))))))
section
variable {α β:Type} {c:Prop} [Decidable c] (a b:List α)
theorem qoh (f:α→Bool):(if c then a else b).any f=if c then a.any f else b.any f:=by split<;>rfl
theorem qq9 (f:α→β):(if c then a else b).map f=if c then a.map f else b.map f:=by split<;>rfl
theorem qcC:(if c then a else b).isEmpty=if c then a.isEmpty else b.isEmpty:=by split<;>rfl
theorem qcv [BEq α] (x:α):(if c then a else b).contains x=if c then a.contains x else b.contains x:=by split<;>rfl
end
def qvZ (op:UnOp) (r:R) (s:S):RS :=
 match op,r with
 | .not,.c (.d (.bool b))=>some (.c (.d (.bool (!b))),s)
 | .neg,.c (.d (.int k n))=>some (.c (.d (.int k (k.wrap (0-n)))),s)
 | _,_=>none
theorem qrE (s:S) (op:UnOp) (x:Operand):xUn s op x=qvZ op (s.ev x) s:=by
 unfold xUn qvZ
 generalize s.ev x=r
 cases op<;>first
  | rfl
  | (cases r with
     | c c=>cases c with
      | d d=>cases d<;>rfl
      | _=>rfl
     | _=>rfl)
def lkq (ok:Bool) (z:R):Option (Nat×R×Nat)→Option R
 | some q=>some (tt2 q.2.1 ok true)
 | none=>some (tt2 z ok false)
theorem qnr {c:Prop} [Decidable c] (ok:Bool) (z:R) (x y:Option (Nat×R×Nat)):lkq ok z (if c then x else y)=if c then lkq ok z x else lkq ok z y:=by split<;>rfl
theorem qfl (T:Ty) (s:S) (t:TypeId) (x y:Operand) (ok:Bool):q4k T s t x y ok =
  match T.k t,q6H s x,(s.ev y).key with
  | .mp k e,some es,some kv=>if plK (T.k k) kv=true∧es.all (fun q=>plK (T.k k) q.1)=true then(zR T e).bind fun z=>lkq ok z (fnd kv es 0) else none
  | _,_,_=>none:=by
 unfold q4k
 generalize T.k t=kd
 generalize q6H s x=m
 generalize (s.ev y).key=v
 cases kd<;>first
  | rfl
  | (cases m<;>first
    | rfl
    | (cases v<;>first
      | rfl
      | (simp only
         split
         ·congr 1
          funext z
          cases fnd _ _ _<;>rfl
         ·rfl)))
theorem qh6 (xs ys:List C):(xs++ys).flatMap C.rows=xs.flatMap C.rows++ys.flatMap C.rows:=List.flatMap_append
theorem qlZ (f:C→C) (ds:List D) (ys:List C):(ds.map C.d++ys).map f=(ds.map C.d).map f++ys.map f:=List.map_append
theorem qiA (zs0:List Nat):∀(zs:List Nat) (ds:List D) (ys:List C),zs.length=ds.length→dzc zs0 zs (ds.map C.d++ys)=ds.map C.d++dzc zs0 [] ys
 | [],[],ys,_=>rfl
 | [],d::ds,ys,h=>by cases h
 | z::zs,[],ys,h=>by cases h
 | z::zs,d::ds,ys,h=>by
  rw[List.map_cons,List.cons_append,dzc,qiA zs0 zs ds ys (by simpa using h)]
  rfl
theorem qmf {α:Type} {E:α→List D} {n:Nat} (h:∀x,(E x).length=n+1) (zs0:List Nat) (h0:zs0.length=n+1):∀(v:List α) (ys:List C),dzc zs0 [] ((v.flatMap E).map C.d++ys)=(v.flatMap E).map C.d++dzc zs0 [] ys
 | [],ys=>rfl
 | x::v,ys=>by
  have hx:=h x
  rw[List.flatMap_cons,List.map_append,List.append_assoc,List.append_assoc,←qmf h zs0 h0 v ys]
  cases hE:E x with
  | nil=>rw[hE] at hx;cases hx
  | cons d ds =>
   rw[hE] at hx
   rw[List.map_cons,List.cons_append,dzc,qiA zs0 zs0.tail ds _ (by rw[List.length_tail];simp at hx;omega)]
   rfl
def qvV {α:Type} (a b:Option α):Prop:=∀r,a=some r→b=some r
theorem qvV.bind {α β:Type} {a b:Option α} {f g:α→Option β} (h:qvV a b) (hf:∀x,qvV (f x) (g x)):qvV (a.bind f) (b.bind g):=fun r hr=>by
 obtain⟨x,h1,h2⟩:=Option.bind_eq_some_iff.1 hr
 rw[h x h1]
 exact hf x r h2
def spr (cs:List C) (o:Nat) (ys:List C):List C:=spl cs o ys
theorem qir (t:TypeId) (cs ys:List C) (o:Nat):(B.blk t cs).set o ys = .blk t (spl cs o ys):=rfl
theorem qiT (e:TypeId) (sz:Nat) (cs ys:List C) (o:Nat):(B.row e sz cs).set o ys = .row e sz (spr cs o ys):=rfl
def xsl (T:Ty) (s:S) (t:TypeId) (x:R) (lo hi:Option Operand):RS :=
 match x,T.k t with
 | .c (.d (.str b)),.str =>
  match s.bd lo 0,s.bd hi b.size with
  | some l,some h=>if 0≤l∧l≤h∧h≤b.size then some (.c (.d (.str (b.extract l.toNat h.toNat))),s) else none
  | _,_=>none
 | .c (.d (.sl sz n cs)),.sl e =>
  if T.k e ≠ .other∧T.sz e=sz then
   match s.bd lo 0,s.bd hi n with
   | some l,some h=>if 0≤l∧l≤h∧h≤n then some (.c (.d (.sl sz (h.toNat-l.toNat) ((cs.drop (l.toNat*sz)).take ((h.toNat-l.toNat)*sz)))),s) else none
   | _,_=>none
  else none
 | .c (.own id sz off n),.sl e =>
  if T.k e ≠ .other∧T.sz e=sz then
   match s.bd lo 0,s.bd hi n with
   | some l,some h=>if 0≤l∧l≤h∧h≤n then(if l=0∨l<n then some (.c (.own id sz (off+l.toNat) (h.toNat-l.toNat)),s) else some (.c (.d (.sl sz 0 [])),s)) else none
   | _,_=>none
  else none
 | .c .nils,.sl e =>
  if T.k e ≠ .other then
   match s.bd lo 0,s.bd hi 0 with
   | some l,some h=>if l=0∧h=0 then some (.c .nils,s) else none
   | _,_=>none
  else none
 | _,_=>none
theorem qhN (T:Ty) (s:S) (t:TypeId) (x:Operand) (lo hi:Option Operand):qcu T s t x lo hi none=xsl T s t (s.ev x) lo hi:=by
 unfold qcu xsl
 generalize s.ev x=r
 generalize T.k t=kd
 cases r with
 | c c =>
  cases c with
  | d d=>cases d<;>cases kd<;>rfl
  | _=>cases kd<;>rfl
 | _=>rfl
section
variable {T:Ty} {s:S} {t:TypeId} {lo hi:Option Operand}
theorem qo4 {b:ByteArray} (hk:T.k t = .str):xsl T s t (.c (.d (.str b))) lo hi =
  match s.bd lo 0,s.bd hi b.size with
  | some l,some h=>if 0≤l∧l≤h∧h≤b.size then some (.c (.d (.str (b.extract l.toNat h.toNat))),s) else none
  | _,_=>none:=by unfold xsl;rw[hk]
theorem qxY {id sz off n:Nat}:xsl T s t (.c (.own id sz off n)) none hi =
  match T.k t with
  | .sl e=>if T.k e ≠ .other∧T.sz e=sz then
   match s.bd hi n with
   | some h=>if 0≤h∧h≤n then some (.c (.own id sz off (min h.toNat n)),s) else none
   | _=>none
   else none
  | _=>none:=by
 unfold xsl
 cases T.k t<;>try rfl
 dsimp only[S.bd]
 split
 ·split
  ·rename_i l h h1 h2
   injection h1 with h1
   subst h1
   rw[h2]
   dsimp only
   by_cases hc:0≤h∧h≤n
   ·rw[if_pos ⟨Int.le_refl _,hc⟩,if_pos (.inl rfl),if_pos hc,show min h.toNat n=h.toNat by omega]
    rfl
   ·rw[if_neg (fun q=>hc q.2),if_neg hc]
  ·rename_i h1
   split
   ·rename_i h h2
    exact absurd h2 (h1 0 h rfl)
   ·rfl
 ·rfl
theorem qnS {id sz off n:Nat} {lo:Operand}:xsl T s t (.c (.own id sz off n)) (some lo) hi =
  match T.k t with
  | .sl e=>if T.k e ≠ .other∧T.sz e=sz then
   match s.bd (some lo) 0,s.bd hi n with
   | some l,some h=>if 0≤l∧l≤h∧h≤n then(if l=0∨l<n then some (.c (.own id sz (off+l.toNat) (h.toNat-l.toNat)),s) else some (.c (.d (.sl sz 0 [])),s)) else none
   | _,_=>none
   else none
  | _=>none:=by unfold xsl;cases T.k t<;>rfl
end
def qvJ {α:Type} (s:S) (E:α→List D) (n:Nat) (v:List α) (l h:Option Int):RS :=
 match l,h with
 | some l,some h=>if 0≤l∧l≤h∧h≤v.length then some (.c (.d (.sl n ((v.drop l.toNat).take (h.toNat-l.toNat)).length (((v.drop l.toNat).take (h.toNat-l.toNat)).flatMap E))),s) else none
 | _,_=>none
theorem quI {α:Type} {E:α→List D} {n:Nat} (h:∀x,(E x).length=n) {T:Ty} {s:S} {t e:TypeId} (v:List α) (lo hi:Option Operand) (hk:T.k t = .sl e) (hz:T.sz e=n) (ho:T.k e ≠ .other) :
  xsl T s t (.c (.d (.sl n v.length (v.flatMap E)))) lo hi=qvJ s E n v (s.bd lo 0) (s.bd hi v.length):=by
 unfold xsl
 simp only[hk]
 rw[if_pos ⟨ho,hz⟩]
 unfold qvJ
 cases s.bd lo 0 with
 | none=>rfl
 | some l =>
  cases s.bd hi v.length with
  | none=>rfl
  | some h' =>
   simp only
   split
   ·rename_i hc
    rw[qcM h,qaB h,List.length_take,List.length_drop,Nat.min_eq_left (by omega)]
   ·rfl
abbrev dI (n:Int):C:=C.d (D.int .i64 n)
abbrev dS (s:ByteArray):C:=C.d (D.str s)
abbrev dB (b:Bool):C:=C.d (D.bool b)
abbrev dL {α:Type} (n:Nat) (E:α→List D) (v:List α):C:=C.d (D.sl n v.length (v.flatMap E))
abbrev dO (i sz n:Nat):C:=C.own i sz 0 n
abbrev dP (i:Nat):C:=C.ptr i 0
abbrev rI (n:Int):R:=R.c (C.d (D.int .i64 n))
abbrev rS (s:ByteArray):R:=R.c (C.d (D.str s))
abbrev rB (b:Bool):R:=R.c (C.d (D.bool b))
abbrev rL {α:Type} (n:Nat) (E:α→List D) (v:List α):R:=R.c (C.d (D.sl n v.length (v.flatMap E)))
abbrev rO (i sz n:Nat):R:=R.c (C.own i sz 0 n)
abbrev rP (i:Nat):R:=R.c (C.ptr i 0)
abbrev bR {α:Type} (e sz:Nat) (E:α→List D) (v:List α):B:=B.row e sz ((v.flatMap E).map C.d)
theorem XLs {E:Orc} {f k key:Nat} {c:Code} {σ ε:Type} {st:σ→S} {ex:ε→XS} {step:σ→Option (σ⊕ε)} (hc:lbO f key=c) (hl:okL f c) (hne:∀e,∃p,ex e=some p∧p.1 ≠ .normal)
  (h:∀x,lz2 f k key (XE2 E f k c (st x))=(step x).bind (Sum.elim (fun y=>some (.normal,st y)) ex)) (x:σ):XL2 E f k key (st x)=(qq step x).bind ex:=by
 obtain⟨g,hg⟩:∃g:ε→Exit×S,∀e,ex e=some (g e)∧(g e).1 ≠ .normal:=⟨fun e=>Classical.choose (hne e),fun e=>Classical.choose_spec (hne e)⟩
 obtain rfl:ex=fun e=>some (g e):=funext fun e=>(hg e).1
 exact q1A (ex:=g) hc hl (fun e=>(hg e).2) h x
theorem q89 {E:Orc} {f k key:Nat} {c:Code} {A1 ε:Type} {st:A1→S} {ex:ε→XS} {step:A1→Option ((A1)⊕ε)} (hc:lbO f key=c) (hl:okL f c) (hne:∀e,∃p,ex e=some p∧p.1 ≠ .normal)
  (h:∀a1,lz2 f k key (XE2 E f k c (st a1))=(step a1).bind (Sum.elim (fun y=>some (.normal,st y)) ex)) (a1:A1):XL2 E f k key (st a1)=(qq step a1).bind ex :=
 XLs (st:=fun y=>st y) hc hl hne (fun a1=>h a1) a1
theorem q3v {E:Orc} {f k key:Nat} {c:Code} {A1 A2 ε:Type} {st:A1→A2→S} {ex:ε→XS} {step:(A1×A2)→Option ((A1×A2)⊕ε)} (hc:lbO f key=c) (hl:okL f c) (hne:∀e,∃p,ex e=some p∧p.1 ≠ .normal)
  (h:∀a1 a2,lz2 f k key (XE2 E f k c (st a1 a2))=(step (a1,a2)).bind (Sum.elim (fun y=>some (.normal,st y.1 y.2)) ex)) (a1:A1) (a2:A2):XL2 E f k key (st a1 a2)=(qq step (a1,a2)).bind ex :=
 XLs (st:=fun y=>st y.1 y.2) hc hl hne (fun⟨a1,a2⟩=>h a1 a2) (a1,a2)
theorem qzR {E:Orc} {f k key:Nat} {c:Code} {A1 A2 A3 ε:Type} {st:A1→A2→A3→S} {ex:ε→XS} {step:(A1×A2×A3)→Option ((A1×A2×A3)⊕ε)} (hc:lbO f key=c) (hl:okL f c) (hne:∀e,∃p,ex e=some p∧p.1 ≠ .normal)
  (h:∀a1 a2 a3,lz2 f k key (XE2 E f k c (st a1 a2 a3))=(step (a1,a2,a3)).bind (Sum.elim (fun y=>some (.normal,st y.1 y.2.1 y.2.2)) ex)) (a1:A1) (a2:A2) (a3:A3):XL2 E f k key (st a1 a2 a3)=(qq step (a1,a2,a3)).bind ex :=
 XLs (st:=fun y=>st y.1 y.2.1 y.2.2) hc hl hne (fun⟨a1,a2,a3⟩=>h a1 a2 a3) (a1,a2,a3)
theorem qvx {E:Orc} {f k key:Nat} {c:Code} {A1 A2 A3 A4 ε:Type} {st:A1→A2→A3→A4→S} {ex:ε→XS} {step:(A1×A2×A3×A4)→Option ((A1×A2×A3×A4)⊕ε)} (hc:lbO f key=c) (hl:okL f c) (hne:∀e,∃p,ex e=some p∧p.1 ≠ .normal)
  (h:∀a1 a2 a3 a4,lz2 f k key (XE2 E f k c (st a1 a2 a3 a4))=(step (a1,a2,a3,a4)).bind (Sum.elim (fun y=>some (.normal,st y.1 y.2.1 y.2.2.1 y.2.2.2)) ex)) (a1:A1) (a2:A2) (a3:A3) (a4:A4):XL2 E f k key (st a1 a2 a3 a4)=(qq step (a1,a2,a3,a4)).bind ex :=
 XLs (st:=fun y=>st y.1 y.2.1 y.2.2.1 y.2.2.2) hc hl hne (fun⟨a1,a2,a3,a4⟩=>h a1 a2 a3 a4) (a1,a2,a3,a4)
theorem qE7 {E:Orc} {f k key:Nat} {c:Code} {A1 A2 A3 A4 A5 A6 A7 ε:Type} {st:A1→A2→A3→A4→A5→A6→A7→S} {ex:ε→XS} {step:(A1×A2×A3×A4×A5×A6×A7)→Option ((A1×A2×A3×A4×A5×A6×A7)⊕ε)} (hc:lbO f key=c) (hl:okL f c) (hne:∀e,∃p,ex e=some p∧p.1 ≠ .normal)
  (h:∀a1 a2 a3 a4 a5 a6 a7,lz2 f k key (XE2 E f k c (st a1 a2 a3 a4 a5 a6 a7))=(step (a1,a2,a3,a4,a5,a6,a7)).bind (Sum.elim (fun y=>some (.normal,st y.1 y.2.1 y.2.2.1 y.2.2.2.1 y.2.2.2.2.1 y.2.2.2.2.2.1 y.2.2.2.2.2.2)) ex)) (a1:A1) (a2:A2) (a3:A3) (a4:A4) (a5:A5) (a6:A6) (a7:A7):XL2 E f k key (st a1 a2 a3 a4 a5 a6 a7)=(qq step (a1,a2,a3,a4,a5,a6,a7)).bind ex :=
 XLs (st:=fun y=>st y.1 y.2.1 y.2.2.1 y.2.2.2.1 y.2.2.2.2.1 y.2.2.2.2.2.1 y.2.2.2.2.2.2) hc hl hne (fun⟨a1,a2,a3,a4,a5,a6,a7⟩=>h a1 a2 a3 a4 a5 a6 a7) (a1,a2,a3,a4,a5,a6,a7)
theorem qCE {E:Orc} {f k key:Nat} {c:Code} {A1 A2 A3 A4 A5 A6 A7 A8 ε:Type} {st:A1→A2→A3→A4→A5→A6→A7→A8→S} {ex:ε→XS} {step:(A1×A2×A3×A4×A5×A6×A7×A8)→Option ((A1×A2×A3×A4×A5×A6×A7×A8)⊕ε)} (hc:lbO f key=c) (hl:okL f c) (hne:∀e,∃p,ex e=some p∧p.1 ≠ .normal)
  (h:∀a1 a2 a3 a4 a5 a6 a7 a8,lz2 f k key (XE2 E f k c (st a1 a2 a3 a4 a5 a6 a7 a8))=(step (a1,a2,a3,a4,a5,a6,a7,a8)).bind (Sum.elim (fun y=>some (.normal,st y.1 y.2.1 y.2.2.1 y.2.2.2.1 y.2.2.2.2.1 y.2.2.2.2.2.1 y.2.2.2.2.2.2.1 y.2.2.2.2.2.2.2)) ex)) (a1:A1) (a2:A2) (a3:A3) (a4:A4) (a5:A5) (a6:A6) (a7:A7) (a8:A8):XL2 E f k key (st a1 a2 a3 a4 a5 a6 a7 a8)=(qq step (a1,a2,a3,a4,a5,a6,a7,a8)).bind ex :=
 XLs (st:=fun y=>st y.1 y.2.1 y.2.2.1 y.2.2.2.1 y.2.2.2.2.1 y.2.2.2.2.2.1 y.2.2.2.2.2.2.1 y.2.2.2.2.2.2.2) hc hl hne (fun⟨a1,a2,a3,a4,a5,a6,a7,a8⟩=>h a1 a2 a3 a4 a5 a6 a7 a8) (a1,a2,a3,a4,a5,a6,a7,a8)
abbrev aY6:List R:=[R.any,R.any,R.any,R.any,R.any,R.any]
abbrev qCq:List R:=R.any::R.any::R.any::R.any::aY6
abbrev qCj:List R:=R.any::R.any::R.any::R.any::qCq
abbrev qEl:List R:=R.any::R.any::R.any::R.any::qCj
abbrev q5H:List R:=R.any::R.any::R.any::R.any::qEl
def dzU (Q:TypeId→List Nat):B→B
 | .row e sz cs => .row e sz (dzc (Q e) [] cs)
 | b=>b
theorem qvb (z:Nat) {c:C} (h:c.isNils=false):dz z c=c:=by
 cases c<;>first|rfl|cases h
theorem qcw (zs0:List Nat):∀{cs:List C} (zs:List Nat),cs.any C.isNils=false→dzc zs0 zs cs=cs
 | [],zs,_=>by cases zs<;>rfl
 | c::cs,zs,h=>by
  rw[List.any_cons,Bool.or_eq_false_iff] at h
  cases zs with
  | nil=>rw[dzc,qvb _ h.1,qcw zs0 _ h.2]
  | cons z zs=>rw[dzc,qvb _ h.1,qcw zs0 _ h.2]
theorem qzb (Q:TypeId→List Nat) (b:B):dzB Q b=dzU Q b:=by
 cases b with
 | row e sz cs =>
  unfold dzB dzU
  simp only
  split
  ·rfl
  ·rename_i h
   rw[qcw _ _ (by simpa using h)]
 | _=>rfl
theorem quh (Q:TypeId→List Nat) (b:B) (h:b.nilr=false):dzU Q b=b:=by
 cases b with
 | row e sz cs=>unfold dzU;simp only;rw[qcw _ _ h]
 | _=>rfl
theorem qsF (tm:List (Nat×R)) (hp:List (Nat×B)) (nx n:Nat) (Q:TypeId→List Nat):S.dzr (S.mk tm hp nx n) Q=S.mk tm (hp.map fun x=>(x.1,dzU Q x.2)) nx n:=by
 unfold S.dzr
 split
 ·simp only[qzb]
 ·rename_i h
  congr 1
  have h2:∀x∈hp,x.2.nilr=false:=fun x hx=>by
   cases hb:x.2.nilr with
   | false=>rfl
   | true=>exact absurd (List.any_eq_true.2 ⟨x,hx,hb⟩) h
  refine(List.map_id' hp).symm.trans (List.map_congr_left fun x hx=>?_)
  rw[quh Q x.2 (h2 x hx)]
theorem qps (Q:TypeId→List Nat) (e sz:Nat) (cs:List C):dzU Q (.row e sz cs) = .row e sz (dzc (Q e) [] cs):=rfl
theorem qpB (Q:TypeId→List Nat) (t:Nat) (cs:List C):dzU Q (.blk t cs) = .blk t cs:=rfl
theorem qsO (Q:TypeId→List Nat) (o:AO):dzU Q (.ob o) = .ob o:=rfl
theorem qlz (Q:TypeId→List Nat):dzU Q .dead = .dead:=rfl
theorem qnj {α:Type} (x:α):Option.toArray (some x)=[x].toArray:=rfl
theorem qpr {α:Type}:Option.toArray (none:Option α)=([]:List α).toArray:=rfl
theorem qrp {α:Type} (l m:List α):l.toArray++m.toArray=(l++m).toArray:=by simp
theorem qqn {α:Type} (l:List α):Array.toList l.toArray=l:=rfl
end Go.Proofs.YtgejdfnidjnjcaaGreat.Vc
namespace Go.Proofs.YtgejdfnidjnjcaaGreat.Vc
open Go.RowKit
set_option linter.unusedVariables false
set_option linter.unusedSimpArgs false
section
variable {κ ν:Type} [DecidableEq κ]
end
section
variable {κ ν:Type} {kE:κ→Value} {vE:ν→R}
variable [DecidableEq κ] (hk:∀a b,kq (kE a) (kE b)=decide (a=b))
include hk
end
section
variable {κ ν:Type} {kE:κ→Value} {vE:ν→R} [DecidableEq κ]
end
def mpq:B→Option (List (Value×R×Nat))
 | .ob (.mp es _)=>some es
 | _=>none
def mpo (s:S):R→Option (List (Value×R×Nat))
 | .c .nilm=>some []
 | .c (.hd .map id)=>mpq (s.blk id)
 | _=>none
theorem qkK (s:S) (x:Operand):q6H s x=mpo s (s.ev x):=by
 unfold q6H mpo mpq
 generalize s.ev x=r
 cases r with
 | c c =>
  cases c with
  | hd k id=>cases k<;>rfl
  | _=>rfl
 | _=>rfl
theorem qvd (es:List (Value×R×Nat)) (ck:Nat):mpq (.ob (.mp es ck))=some es:=rfl
def mup (kt:Kd) (kv:Value) (r:R):B→Option B
 | .ob (.mp es ck)=>if plK kt kv=true∧es.all (fun q=>plK kt q.1)=true then
   (match fnd kv es 0 with
    | some q=>some (.ob (.mp (es.set q.1 (kv,r,q.2.2)) ck))
    | none=>some (.ob (.mp (es++[(kv,r,ck)]) (ck+1)))) else none
 | _=>none
def xmu (T:Ty) (s:S) (t:TypeId) (m:R) (kv:Option Value) (r:R):Option (R×S) :=
 match T.k t,m,kv with
 | .mp kt _,.c (.hd .map id),some kv=>(mup (T.k kt) kv r (s.blk id)).bind fun b=>some (.any,s.up [(id,b)])
 | _,_,_=>none
theorem qtW (T:Ty) (s:S) (t:TypeId) (m:R) (kv:Option Value) (r:R):xmu T s t m kv r =
 match T.k t,m,kv with
 | .mp kt _,.c (.hd .map id),some kv=>(mup (T.k kt) kv r (s.blk id)).bind fun b=>some (.any,s.up [(id,b)])
 | _,_,_=>none:=rfl
theorem qfe (T:Ty) (s:S) (t:TypeId) (m k x:Operand):q3Q T s t m k x=xmu T s t (s.ev m) (s.ev k).key (s.ev x):=by
 unfold q3Q xmu mup
 generalize T.k t=kd
 generalize s.ev m=r
 generalize (s.ev k).key=kv
 cases kd with
 | mp kt e =>
  cases r with
  | c c =>
   cases c with
   | hd h id =>
    cases h with
    | map =>
     cases kv with
     | none=>rfl
     | some kv =>
      simp only
      generalize s.blk id=b
      cases b with
      | ob o =>
       cases o with
       | mp es ck =>
        simp only
        split
        ·cases fnd kv es 0<;>rfl
        ·rfl
       | _=>rfl
      | _=>rfl
    | _=>rfl
   | _=>rfl
  | _=>rfl
 | _=>rfl
section
variable {κ ν:Type} {kE:κ→Value} {vE:ν→R} [DecidableEq κ] (hk:∀a b,kq (kE a) (kE b)=decide (a=b)) {kt:Kd} (hp:∀a,plK kt (kE a)=true)
include hk hp
end
end Go.Proofs.YtgejdfnidjnjcaaGreat.Vc
namespace Go.Proofs.YtgejdfnidjnjcaaGreat.Vc
open Go.RowKit
set_option linter.defProp false
set_option linter.unusedVariables false
def bx0:=JA_ @S.strip.eq_1 (JA_ @q5c.eq_1 (JA_ @q5c.eq_2 (JA_ @qqr.eq_1 (JA_ @qqr.eq_2 (JA_ @R.isA.eq_1 (JA_ @R.isA.eq_2 (JA_ @qAV.eq_1 (JA_ @qw4.eq_1 (JA_ @qik.eq_1 (JA_ @qiL.eq_1 (JA_ @S.ly.eq_1 (JA_ @alC.eq_1 (JA_ @alC.eq_2 (JA_ @alX.eq_1 (JA_ @alX.eq_2 (JA_ @qB9.eq_1 (JA_ @qtF.eq_1 (JA_ @qwa.eq_1 (JA_ @ipX.eq_1 (JA_ @qvL.eq_1 (JA_ @qvL.eq_2 (JA_ @qeh.eq_1 (JA_ @qmI.eq_2 (JA_ @zmk.eq_1 (JA_ @zmk.eq_2 (JA_ @S.fin.eq_1 (JA_ @S.fn1.eq_1 (JA_ @S.inr.eq_1 (JA_ @prx.eq_1 (JA_ @pr0.eq_1 (JA_ @List.isEmpty_nil.{0} (JA_ @List.isEmpty_cons.{0} (@wbC.eq_1)))))))))))))))))))))))))))))))))
def bx1:=JA_ @wbC.eq_2 (JA_ @B.beq.eq_1 (JA_ @C.beqL.eq_1 (JA_ @C.beqL.eq_2 (JA_ @C.beq0.eq_1 (JA_ @D.beq.eq_1 (JA_ @D.beq.eq_4 (JA_ @D.beq_self (JA_ @qwS.eq_1 (JA_ @dzc.eq_2 (JA_ @dzc.eq_3 (JA_ @C.isNils.eq_2 (JA_ @qlB (JA_ @q5u.eq_1 (@q7D.eq_1))))))))))))))
def bx2:=JA_ @q7D.eq_2 (JA_ @qle.eq_1 (JA_ @fpA.eq_1 (JA_ @qfp.eq_1 (JA_ @S.kill.eq_1 (JA_ @qnQ.eq_1 (JA_ @qnQ.eq_2 (JA_ @qj9.eq_1 (JA_ @qts.eq_1 (JA_ @okX.eq_1 (JA_ @okX.eq_2 (JA_ @okK.eq_1 (JA_ @okN.eq_1 (JA_ @okN.eq_2 (JA_ @q7v.eq_1 (JA_ @qnd.eq_1 (JA_ @qnd.eq_2 (JA_ @qqu.eq_1 (JA_ @qqu.eq_2 (JA_ @q6f.eq_1 (JA_ @qi7.eq_1 (JA_ @q3i.eq_1 (JA_ @qii.eq_1 (JA_ @q67.eq_1 (JA_ @q4t.eq_1 (JA_ @qb6.eq_1 (JA_ @q8m.eq_1 (JA_ @q8m.eq_2 (JA_ @cvT.eq_1 (JA_ @qdD.eq_1 (JA_ @q7G.eq_1 (JA_ @qrk.eq_1 (JA_ @qls.eq_1 (JA_ @qls.eq_2 (@S.rf.eq_1))))))))))))))))))))))))))))))))))
def bx3:=JA_ @S.rfx.eq_1 (JA_ @qr3.eq_1 (JA_ @rdB.eq_1 (JA_ @qgE.eq_1 (JA_ @qgE.eq_2 (JA_ @q92.eq_1 (JA_ @qky (JA_ @qk2 (JA_ @qlh (JA_ @qkF (JA_ @qp5 (JA_ @q9k.eq_1 (JA_ @qjz.eq_1 (JA_ @qiV.eq_1 (JA_ @D.key.eq_1 (JA_ @R.key.eq_1 (JA_ @plK.eq_1 (JA_ @zR.eq_1 (@tt2.eq_1))))))))))))))))))
def bx4:=JA_ @fnd.eq_1 (JA_ @fnd.eq_2 (JA_ @kq.eq_1 (JA_ @B.isOb.eq_2 (JA_ @AO.mapR.eq_1 (JA_ @AO.mapR.eq_2 (JA_ @AO.mapR.eq_3 (JA_ @AO.Rs.eq_1 (JA_ @AO.Rs.eq_2 (JA_ @AO.Rs.eq_3 (JA_ @R.refs0.eq_1 (JA_ @R.refs0.eq_2 (JA_ @R.refs0.eq_3 (JA_ @cvA.eq_2 (JA_ @qm9.eq_1 (JA_ @xgd.eq_1 (JA_ @xgF.eq_1 (JA_ @xo.eq_1 (JA_ @xo.eq_2 (JA_ @xo.eq_3 (JA_ @xo.eq_4 (JA_ @xo.eq_5 (JA_ @xo.eq_6 (JA_ @xo.eq_7 (JA_ @xo.eq_8 (JA_ @xo.eq_9 (JA_ @xo.eq_10 (JA_ @xo.eq_11 (JA_ @xo.eq_12 (@xo.eq_14)))))))))))))))))))))))))))))
def bx5:=JA_ @xo.eq_15 (JA_ @xo.eq_16 (JA_ @xo.eq_17 (JA_ @xo.eq_19 (JA_ @xo.eq_20 (JA_ @xo.eq_21 (JA_ @xo.eq_22 (JA_ @xo.eq_23 (JA_ @xo.eq_24 (JA_ @xo.eq_26 (JA_ @xo.eq_29 (JA_ @xo.eq_30 (JA_ @xCl.eq_1 (JA_ @pre.eq_1 (JA_ @pre.eq_2 (JA_ @pre.eq_3 (JA_ @q8L.eq_1 (JA_ @q1Q.eq_1 (JA_ @q9L.eq_1 (JA_ @qdZ.eq_1 (JA_ @qcA.eq_1 (JA_ @q4i.eq_1 (JA_ @q3g.eq_2 (JA_ @q3g.eq_3 (JA_ @qwr.eq_1 (JA_ @qg2.eq_1 (JA_ @qg2.eq_2 (JA_ @cvR.eq_1 (JA_ @cvR.eq_2 (JA_ @cvR.eq_3 (JA_ @cvL.eq_1 (JA_ @cvL.eq_2 (@qjU.eq_1))))))))))))))))))))))))))))))))
def bx6:=JA_ @qjU.eq_2 (JA_ @cv.eq_1 (JA_ @cv.eq_2 (JA_ @cv0.eq_1 (JA_ @cv0.eq_5 (JA_ @cv0.eq_8 (JA_ @cv0.eq_9 (JA_ @cv0.eq_10 (JA_ @cvG.eq_1 (JA_ @cvG.eq_2 (JA_ @cvB.eq_1 (JA_ @cvB.eq_2 (JA_ @cvB.eq_3 (JA_ @vis.eq_1 (JA_ @qaK.eq_1 (JA_ @qaK.eq_2 (JA_ @q4a (JA_ @qnO.eq_1 (JA_ @pos.eq_1 (JA_ @pos.eq_2 (JA_ @qln.eq_1 (JA_ @qlw.eq_1 (JA_ @qdJ.eq_1 (JA_ @qvz.eq_1 (JA_ @q58.eq_1 (JA_ @q4B.eq_1 (JA_ @q4A.eq_1 (JA_ @q8B.eq_1 (JA_ @q6k.eq_1 (JA_ @qbA.eq_1 (@qbA.eq_2))))))))))))))))))))))))))))))
def bx7:=JA_ @qbA.eq_3 (JA_ @qbA.eq_4 (JA_ @qbA.eq_5 (JA_ @qbA.eq_6 (JA_ @qbA.eq_9 (JA_ @qbA.eq_10 (JA_ @qbA.eq_11 (JA_ @qbA.eq_12 (JA_ @qbA.eq_13 (JA_ @qbA.eq_14 (JA_ @qbA.eq_15 (JA_ @qbA.eq_16 (JA_ @qbA.eq_17 (JA_ @qqs.eq_3 (JA_ @qqs.eq_4 (JA_ @qqs.eq_6 (JA_ @quJ.eq_1 (JA_ @quJ.eq_2 (JA_ @qvy.eq_1 (JA_ @qvU.eq_1 (JA_ @qvv.eq_1 (JA_ @qw9.eq_1 (@qvP.eq_1))))))))))))))))))))))
def bx8:=JA_ @qdU.eq_1 (JA_ @qeS.eq_1 (JA_ @q0N.eq_1 (JA_ @q6v.eq_1 (JA_ @qdf.eq_1 (JA_ @q5o.eq_1 (JA_ @Kd.isSl.eq_1 (JA_ @nrm.eq_1 (JA_ @qq4.eq_1 (JA_ @qxF.eq_1 (JA_ @rng.eq_1 (JA_ @rng.eq_2 (JA_ @rwAll.eq_1 (JA_ @rwAll.eq_2 (JA_ @rw1.eq_1 (JA_ @rw1.eq_2 (JA_ @cn.eq_1 (JA_ @cn.eq_2 (JA_ @cn0.eq_1 (JA_ @cn0.eq_2 (JA_ @cn0.eq_3 (JA_ @cn0.eq_5 (JA_ @cnR.eq_2 (JA_ @qjV.eq_1 (JA_ @qjV.eq_2 (JA_ @qjV.eq_3 (JA_ @cnB.eq_1 (JA_ @cnB.eq_2 (JA_ @cnB.eq_3 (JA_ @cnH.eq_1 (JA_ @cnH.eq_2 (@qs5)))))))))))))))))))))))))))))))
def bx9:=JA_ @qZ.eq_1 (JA_ @qZ.eq_2 (JA_ @qZ.eq_3 (JA_ @qqN.eq_1 (JA_ @qfw.eq_1 (JA_ @q9S.eq_1 (JA_ @qfS.eq_1 (JA_ @qa6.eq_1 (JA_ @qdm.eq_1 (JA_ @qa7.eq_1 (JA_ @qa7.eq_2 (JA_ @S.frz.eq_1 (JA_ @S.frz.eq_2 (JA_ @S.frz1.eq_1 (JA_ @fz.eq_1 (JA_ @fz.eq_2 (JA_ @fz0.eq_1 (JA_ @fz0.eq_2 (JA_ @fz0.eq_3 (JA_ @fz0.eq_5 (JA_ @fzR.eq_1 (JA_ @fzR.eq_2 (JA_ @qjT.eq_1 (JA_ @qjT.eq_2 (JA_ @qjT.eq_3 (JA_ @fzB.eq_1 (JA_ @fzB.eq_2 (JA_ @fzB.eq_3 (JA_ @fzB.eq_4 (JA_ @qt7 (JA_ @dz.eq_1 (JA_ @dz.eq_2 (JA_ @dzL.eq_1 (JA_ @dzL.eq_2 (JA_ @dzR.eq_1 (@dzR.eq_2)))))))))))))))))))))))))))))))))))
def qDV:=JA_ @qfg.eq_1 (JA_ @qfg.eq_2 (JA_ @one.eq_1 (JA_ @one.eq_2 (JA_ @rvs.eq_1 (JA_ @rvs.eq_2 (JA_ @qpO.eq_1 (JA_ @qpO.eq_2 (JA_ @tt.eq_1 (JA_ @ff.eq_1 (JA_ @qbi.eq_1 (JA_ @qbi.eq_2 (JA_ @C.ref0.eq_1 (JA_ @C.ref0.eq_2 (JA_ @C.ref0.eq_3 (JA_ @C.ref0.eq_4 (JA_ @C.refs.eq_1 (JA_ @C.refs.eq_2 (JA_ @B.refs.eq_1 (JA_ @B.refs.eq_2 (JA_ @B.refs.eq_3 (JA_ @B.refs.eq_4 (JA_ @R.refs.eq_1 (JA_ @R.refs.eq_2 (JA_ @R.refs.eq_4 (JA_ @C.rows0.eq_1 (JA_ @C.rows0.eq_2 (JA_ @C.rows.eq_1 (JA_ @C.rows.eq_2 (JA_ @R.rows.eq_1 (JA_ @R.rows.eq_2 (JA_ @R.rows.eq_3 (JA_ @C.ptrs0.eq_1 (JA_ @C.ptrs0.eq_2 (JA_ @C.ptrs0.eq_3 (JA_ @C.ptrs.eq_1 (JA_ @C.ptrs.eq_2 (JA_ @R.ptrs.eq_1 (@R.ptrs.eq_2))))))))))))))))))))))))))))))))))))))
def qE4:=JA_ @R.ptrs.eq_3 (JA_ @B.isBlk.eq_1 (JA_ @B.isBlk.eq_2 (JA_ @B.isBlk.eq_3 (JA_ @R.scl.eq_1 (JA_ @R.scl.eq_2 (JA_ @R.scl0.eq_1 (JA_ @R.scl0.eq_2 (JA_ @R.scl0.eq_3 (JA_ @C.scl.eq_1 (JA_ @C.scl.eq_2 (JA_ @C.scl0.eq_1 (JA_ @C.scl0.eq_4 (JA_ @B.scl.eq_1 (JA_ @B.scl.eq_2 (JA_ @B.scl.eq_3 (JA_ @C.dat.eq_1 (JA_ @C.dat.eq_2 (JA_ @C.dat0.eq_1 (JA_ @C.dat0.eq_5 (JA_ @C.dat0.eq_8 (JA_ @ren.eq_1 (JA_ @R.rn.eq_1 (JA_ @R.rn.eq_2 (JA_ @R.rn0.eq_1 (JA_ @R.rn0.eq_2 (JA_ @R.rn0.eq_3 (JA_ @C.rn.eq_1 (JA_ @C.rn.eq_2 (JA_ @C.rn0.eq_1 (JA_ @C.rn0.eq_2 (@C.rn0.eq_3)))))))))))))))))))))))))))))))
def qDF:=JA_ @C.rn0.eq_5 (JA_ @B.rn.eq_1 (JA_ @B.rn.eq_2 (JA_ @B.rn.eq_3 (JA_ @qv7 (JA_ @S.aft.eq_1 (JA_ @S.fgL.eq_1 (JA_ @S.fgL.eq_2 (JA_ @C.fgL.eq_1 (JA_ @C.fgL.eq_2 (JA_ @C.fgL.eq_3 (JA_ @C.fgL.eq_4 (JA_ @C.fgL.eq_5 (JA_ @R.fgL.eq_1 (JA_ @R.fgL.eq_2 (JA_ @R.fgL.eq_3 (JA_ @R.fgL.eq_4 (JA_ @B.fgL.eq_1 (JA_ @B.fgL.eq_2 (JA_ @B.fgL.eq_3 (JA_ @B.fgL.eq_4 (JA_ @C.farL.eq_1 (JA_ @C.farL.eq_3 (JA_ @C.farL.eq_5 (JA_ @R.farL.eq_1 (JA_ @R.farL.eq_2 (JA_ @R.farL.eq_3 (JA_ @R.farL.eq_4 (JA_ @B.farL.eq_1 (JA_ @B.farL.eq_2 (JA_ @B.farL.eq_3 (JA_ @qqx.eq_1 (JA_ @qqx.eq_2 (JA_ @qqx.eq_3 (@qp4.eq_1))))))))))))))))))))))))))))))))))
def qEk:=JA_ @qp4.eq_2 (JA_ @S.ev.eq_1 (JA_ @S.ev.eq_2 (JA_ @S.ev.eq_3 (JA_ @S.get.eq_1 (JA_ @S.blk.eq_1 (JA_ @S.put.eq_1 (JA_ @S.put.eq_2 (JA_ @S.up.eq_1 (JA_ @S.bd.eq_1 (JA_ @S.bd.eq_2 (JA_ @S.seq.eq_1 (JA_ @S.cell1.eq_1 (JA_ @lk.eq_1 (JA_ @lk.eq_2 (JA_ @q38.eq_1 (JA_ @q38.eq_2 (JA_ @q38.eq_3 (JA_ @q38.eq_5 (JA_ @q38.eq_6 (JA_ @q38.eq_7 (JA_ @q31.eq_1 (JA_ @q31.eq_2 (JA_ @qou (JA_ @ldx.eq_1 (JA_ @bld.eq_1 (JA_ @bld.eq_2 (JA_ @spl.eq_1 (JA_ @spl.eq_2 (JA_ @q0J.eq_1 (JA_ @Ty.foff.eq_1 (JA_ @R.cells.eq_1 (JA_ @R.cells.eq_2 (JA_ @R.parts.eq_1 (@R.parts.eq_2))))))))))))))))))))))))))))))))))
def qBi:=JA_ @B.cells.eq_1 (JA_ @B.cells.eq_2 (JA_ @B.live.eq_1 (JA_ @B.live.eq_2 (JA_ @C.known.eq_2 (JA_ @C.far.eq_1 (JA_ @C.far.eq_5 (JA_ @S.fg.eq_1 (JA_ @R.fg.eq_1 (JA_ @R.fg.eq_2 (JA_ @R.fg.eq_3 (JA_ @R.fg.eq_4 (JA_ @B.fg.eq_1 (JA_ @B.fg.eq_2 (JA_ @B.fg.eq_3 (JA_ @B.fg.eq_4 (JA_ @C.fg.eq_1 (JA_ @C.fg.eq_3 (JA_ @C.fg.eq_4 (JA_ @C.fg.eq_5 (JA_ @D1.eq_1 (JA_ @q2i.eq_1 (JA_ @q2i.eq_2 (JA_ @q2i.eq_3 (JA_ @q2i.eq_4 (JA_ @q2i.eq_6 (JA_ @q2i.eq_7 (JA_ @q2i.eq_8 (JA_ @q2i.eq_9 (JA_ @q2i.eq_10 (@q2i.eq_11))))))))))))))))))))))))))))))
def qBk:=JA_ @q2i.eq_13 (JA_ @q2i.eq_14 (JA_ @q2i.eq_15 (JA_ @q2i.eq_17 (JA_ @q2i.eq_19 (JA_ @q2i.eq_23 (JA_ @q2i.eq_24 (JA_ @qjX.eq_1 (JA_ @qjX.eq_4 (JA_ @qjX.eq_5 (JA_ @q9A.eq_3 (JA_ @q9A.eq_5 (JA_ @q9A.eq_6 (JA_ @qjO.eq_1 (JA_ @qjO.eq_3 (JA_ @qjO.eq_4 (JA_ @qjO.eq_5 (JA_ @fpC.eq_1 (JA_ @qrW.eq_1 (JA_ @qsH.eq_1 (JA_ @qvB.eq_1 (JA_ @C.lt0.eq_3 (JA_ @C.lt0.eq_4 (JA_ @C.ltn.eq_1 (JA_ @C.ltn.eq_2 (JA_ @R.lt0.eq_1 (@R.lt0.eq_2))))))))))))))))))))))))))
def qEc:=JA_ @R.ltn.eq_1 (JA_ @R.ltn.eq_2 (JA_ @B.ltn.eq_1 (JA_ @B.ltn.eq_2 (JA_ @q4d.eq_1 (JA_ @Fp.none?.eq_1 (JA_ @okP.eq_1 (JA_ @okP.eq_2 (JA_ @qlb (JA_ @ql4 (JA_ @qqi (JA_ @qkh (JA_ @qkc (JA_ @qkO (JA_ @qot (JA_ @qki (JA_ @qko (JA_ @qlJ (JA_ @qfF (JA_ @qpa (JA_ @qkV (JA_ @qkz (JA_ @qpG (JA_ @qkg (JA_ @qkM (JA_ @qkU (JA_ @qoA (JA_ @qkw (JA_ @qkn (JA_ @qlP (JA_ @qpS (JA_ @qkj (JA_ @qnP (@qiY)))))))))))))))))))))))))))))))))
def qDj:=JA_ @qpL (JA_ @qlW (JA_ @qoX (JA_ @qlX (JA_ @qsP (JA_ @qoP (JA_ @C.farF.eq_1 (JA_ @C.farF.eq_2 (JA_ @Go.Op.operands.eq_1 (JA_ @Go.Op.operands.eq_4 (JA_ @Go.Op.operands.eq_5 (JA_ @Go.Op.operands.eq_7 (JA_ @Go.Op.operands.eq_8 (JA_ @Go.Op.operands.eq_9 (JA_ @Go.Op.operands.eq_14 (JA_ @Go.Op.operands.eq_20 (JA_ @Go.Op.operands.eq_23 (JA_ @Go.Op.operands.eq_24 (JA_ @Go.Op.operands.eq_25 (JA_ @Go.Op.operands.eq_26 (JA_ @Go.Op.operands.eq_27 (@Go.Op.operands.eq_29)))))))))))))))))))))
def qBZ:=JA_ @Go.Op.operands.eq_34 (JA_ @Go.Op.operands.eq_36 (JA_ @Go.Op.operands.eq_40 (JA_ @qtr (JA_ @qrN (JA_ @Option.isNone_none.{0} (JA_ @Option.isNone_some.{0} (JA_ @quq.eq_1 (JA_ @quq.eq_2 (JA_ @Option.toList_some.{0} (JA_ @Option.toList_none.{0} (JA_ @List.all_append.{0} (JA_ @List.getElem?_nil.{0} (JA_ @List.drop_zero.{0} (JA_ @Int.cast_ofNat_Int (JA_ @Int.le_refl (JA_ @Nat.le_refl (JA_ @Option.bind_assoc.{0,0,0} (JA_ @List.any_nil.{0} (JA_ @List.any_cons.{0} (JA_ @List.getD_cons_zero.{0} (JA_ @List.getD_cons_succ.{0} (JA_ @true_and (JA_ @and_true (JA_ @and_false (JA_ @Option.some.injEq.{0} (@Prod.mk.injEq.{0,0}))))))))))))))))))))))))))
def qCn:=JA_ @Option.bind_some.{0,0} (JA_ @Option.bind_none.{0,0} (JA_ @Option.map_some.{0,0} (JA_ @Option.map_none.{0,0} (JA_ @Option.getD_some.{0} (JA_ @Option.getD_none.{0} (JA_ @ne_eq.{1} (JA_ @not_false_eq_true (JA_ @or_false (JA_ @Bool.false_eq_true (JA_ @List.map_cons.{0,0} (JA_ @List.map_nil.{0,0} (JA_ @List.all_cons.{0} (JA_ @List.all_nil.{0} (JA_ @Bool.and_true (JA_ @Bool.true_and (JA_ @Bool.and_false (JA_ @Bool.false_and (JA_ @Bool.and_eq_true (JA_ @Bool.or_true (JA_ @Bool.true_or (JA_ @Bool.or_false (JA_ @Bool.false_or (JA_ @List.length_cons.{0} (JA_ @List.length_nil.{0} (JA_ @List.length_map.{0,0} (JA_ @List.getElem?_cons_zero.{0} (JA_ @List.getElem?_cons_succ.{0} (JA_ @List.foldl_cons.{0,0} (JA_ @List.foldl_nil.{0,0} (JA_ @List.cons_append.{0} (JA_ @List.nil_append.{0} (JA_ @List.append_nil.{0} (JA_ @Nat.max_def (JA_ @decide_true (@decide_false)))))))))))))))))))))))))))))))))))
def qD4:=JA_ @decide_not (JA_ @decide_eq_true_eq (JA_ @Nat.zero_le (JA_ @Nat.zero_mul (JA_ @Nat.mul_one (JA_ @Nat.one_mul (JA_ @Nat.add_zero (JA_ @Nat.zero_add (JA_ @Int.toNat_natCast (JA_ @List.mapM_cons.{0,0,0} (JA_ @List.mapM_nil.{0,0,0} (JA_ @List.drop_succ_cons.{0} (JA_ @List.drop_nil.{0} (JA_ @List.take_succ_cons.{0} (JA_ @List.take_zero.{0} (JA_ @List.replicate_succ.{0} (JA_ @List.replicate_zero.{0} (JA_ @List.set_cons_zero.{0} (JA_ @List.set_cons_succ.{0} (JA_ @and_self (JA_ @Bool.not_true (JA_ @Bool.not_false (JA_ @List.contains_cons.{0} (JA_ @List.contains_nil.{0} (JA_ @List.flatMap_cons.{0,0} (JA_ @List.flatMap_nil.{0,0} (JA_ @List.filter_cons.{0} (JA_ @List.filter_nil.{0} (JA_ @List.eraseDups_cons.{0} (JA_ @List.eraseDups_nil.{0} (JA_ @List.nodup_cons.{0} (JA_ @List.nodup_nil.{0} (JA_ @List.mem_cons.{0} (JA_ @List.not_mem_nil.{0} (JA_ @List.headD_cons.{0} (JA_ @List.headD_nil.{0} (JA_ @List.tail_cons.{0} (JA_ @List.tail_nil.{0} (JA_ @beq_self_eq_true.{0} (@q0w)))))))))))))))))))))))))))))))))))))))
def qBS:=JA_ @List.range_succ (JA_ @List.range_zero (JA_ @ite_self.{1} (JA_ @R.dat.eq_1 (JA_ @R.dat.eq_2 (JA_ @qnj (JA_ @qpr (JA_ @qrp (JA_ @qqn (JA_ @qsF (JA_ @qps (JA_ @qpB (JA_ @qsO (JA_ @qlz (JA_ @qcw (JA_ @List.take_length.{0} (JA_ @qkK (JA_ @mpo.eq_2 (JA_ @qvd (JA_ @qfe (@qtW))))))))))))))))))))
def qDT:=JA_ @mup.eq_1 (JA_ @qqa (JA_ @qs8 (JA_ @qpH (JA_ @qrq (JA_ @qkx (JA_ @qok (JA_ @qiH (JA_ @qoL (JA_ @ql3 (JA_ @qoc (JA_ @qfJ (JA_ @qo2 (JA_ @ql9 (JA_ @qku (JA_ @qn7 (JA_ @qlT (JA_ @qnc (JA_ @qkN (JA_ @qfz (JA_ @qoa (JA_ @qkJ (JA_ @qll (JA_ @qqf (JA_ @qk1 (JA_ @qqh (@qkQ))))))))))))))))))))))))))
def qCQ:=JA_ @qpD (JA_ @qoj (JA_ @ql2 (JA_ @qnJ (JA_ @qoG (JA_ @qBE (JA_ @qBT (JA_ @qxM (JA_ @qwo (JA_ @qwH (JA_ @qsb (JA_ @qsm (JA_ @qu3 (JA_ @qza (JA_ @qup (JA_ @qyJ (JA_ @qub (JA_ @qrS (JA_ @qn2 (JA_ @qnY (JA_ @qqK (JA_ @qqm (JA_ @qrD (JA_ @quM (JA_ @qpT (JA_ @qCD (JA_ @qfG (JA_ @ql6 (JA_ @qnU (JA_ @qs7 (JA_ @qs0 (JA_ @qor (JA_ @qoJ (JA_ @Sum.elim_inl.{0,1,0} (@Sum.elim_inr.{0,1,0}))))))))))))))))))))))))))))))))))
def qCB:=JA_ @qcV (JA_ @qir (JA_ @qiT (JA_ @qvJ.eq_1 (JA_ @qhN (JA_ @qo4 (JA_ @qnS (JA_ @qni (JA_ @qoh (JA_ @qq9 (JA_ @qcC (JA_ @qcv (JA_ @qrE (JA_ @qvZ.eq_1 (JA_ @qvZ.eq_2 (JA_ @List.length_append.{0} (JA_ @List.length_set.{0} (JA_ @List.length_replicate.{0} (JA_ @qfl (JA_ @lkq.eq_1 (JA_ @lkq.eq_2 (JA_ @qnr (JA_ @qio (JA_ @qkt (JA_ @List.take_nil.{0} (@List.flatten_nil.{0})))))))))))))))))))))))))
def qDm:=JA_ @qh6 (JA_ @qlZ (@q3O))
theorem qDA (a0 a1 a2:Int) (i:Nat):([C.d (D.int .i64 a0),C.d (D.int .i64 a1),C.d (D.int .i64 a2)]:List C)[i]?=([a0,a1,a2][i]?).bind fun x=>some (C.d (D.int .i64 x)):=by rw[show([C.d (D.int .i64 a0),C.d (D.int .i64 a1),C.d (D.int .i64 a2)]:List C)=[a0,a1,a2].map (fun x=>C.d (D.int .i64 x)) from rfl,List.getElem?_map];cases([a0,a1,a2]:List Int)[i]? <;> rfl
theorem qD8 (a0 a1 a2 a3:Int) (i:Nat):([C.d (D.int .i64 a0),C.d (D.int .i64 a1),C.d (D.int .i64 a2),C.d (D.int .i64 a3)]:List C)[i]?=([a0,a1,a2,a3][i]?).bind fun x=>some (C.d (D.int .i64 x)):=by rw[show([C.d (D.int .i64 a0),C.d (D.int .i64 a1),C.d (D.int .i64 a2),C.d (D.int .i64 a3)]:List C)=[a0,a1,a2,a3].map (fun x=>C.d (D.int .i64 x)) from rfl,List.getElem?_map];cases([a0,a1,a2,a3]:List Int)[i]? <;> rfl
theorem qC3 (a0 a1 a2 a3 a4 a5:Int) (i:Nat):([C.d (D.int .i64 a0),C.d (D.int .i64 a1),C.d (D.int .i64 a2),C.d (D.int .i64 a3),C.d (D.int .i64 a4),C.d (D.int .i64 a5)]:List C)[i]?=([a0,a1,a2,a3,a4,a5][i]?).bind fun x=>some (C.d (D.int .i64 x)):=by rw[show([C.d (D.int .i64 a0),C.d (D.int .i64 a1),C.d (D.int .i64 a2),C.d (D.int .i64 a3),C.d (D.int .i64 a4),C.d (D.int .i64 a5)]:List C)=[a0,a1,a2,a3,a4,a5].map (fun x=>C.d (D.int .i64 x)) from rfl,List.getElem?_map];cases([a0,a1,a2,a3,a4,a5]:List Int)[i]? <;> rfl
theorem qC4 (a0 a1 a2 a3 a4 a5 a6:Int) (i:Nat):([C.d (D.int .i64 a0),C.d (D.int .i64 a1),C.d (D.int .i64 a2),C.d (D.int .i64 a3),C.d (D.int .i64 a4),C.d (D.int .i64 a5),C.d (D.int .i64 a6)]:List C)[i]?=([a0,a1,a2,a3,a4,a5,a6][i]?).bind fun x=>some (C.d (D.int .i64 x)):=by rw[show([C.d (D.int .i64 a0),C.d (D.int .i64 a1),C.d (D.int .i64 a2),C.d (D.int .i64 a3),C.d (D.int .i64 a4),C.d (D.int .i64 a5),C.d (D.int .i64 a6)]:List C)=[a0,a1,a2,a3,a4,a5,a6].map (fun x=>C.d (D.int .i64 x)) from rfl,List.getElem?_map];cases([a0,a1,a2,a3,a4,a5,a6]:List Int)[i]? <;> rfl
def bz0:=JA_ @qDA (JA_ @qD8 (JA_ @qC3 (@qC4)))
end Go.Proofs.YtgejdfnidjnjcaaGreat.Vc
namespace Go.Proofs.YtgejdfnidjnjcaaGreat.Vc
open Go.RowKit
set_option linter.unusedVariables false
set_option linter.unusedSimpArgs false
structure qvD (α:Type) where
 a0:α
 a1:α
structure qos (α:Type) where
 a0:α
 a1:α
 a2:α
structure JL where
 Need:List Int
 L:List Int
 Odd:qvD (qos Int)
structure qc where
 School:Int
 Code:ByteArray
def qe (x:qc):List D:=[D.int .i64 x.School,D.str x.Code]
theorem Jr (x:qc):qe x=[D.int .i64 x.School,D.str x.Code]:=rfl
theorem q83 (x:qc):(qe x).length=2:=rfl
theorem q81 (x:qc):qc.mk x.School x.Code=x:=rfl
structure qb where
 Kind:Int
 N:Int
 Min:Int
 Set:List qc
 L:List qb
mutual
def qg:qb→List D
 | ⟨a0,a1,a2,a3,a4⟩=>[D.int .i64 a0,D.int .i64 a1,D.int .i64 a2,D.sl 2 a3.length (a3.flatMap qe),D.sl 5 a4.length (Z9 a4)]
def Z9:List qb→List D
 | []=>[]
 | x::l=>qg x++Z9 l
end
theorem q3k:∀l:List qb,Z9 l=l.flatMap qg
 | []=>rfl
 | x::l=>by rw[List.flatMap_cons,←q3k l,Z9]
theorem JM (x:qb):qg x=[D.int .i64 x.Kind,D.int .i64 x.N,D.int .i64 x.Min,D.sl 2 x.Set.length (x.Set.flatMap qe),D.sl 5 x.L.length (x.L.flatMap qg)]:=by cases x;rw[qg,q3k]
theorem JV (x:qb):(qg x).length=5:=by rw[JM];rfl
theorem q9V (x:qb):qb.mk x.Kind x.N x.Min x.Set x.L=x:=by cases x;rfl
structure qf where
 Worst:Int
 Best:Int
 Pass:Int
def q0c (x:qf):List D:=[D.int .i64 x.Worst,D.int .i64 x.Best,D.int .i64 x.Pass]
theorem qa8 (x:qf):q0c x=[D.int .i64 x.Worst,D.int .i64 x.Best,D.int .i64 x.Pass]:=rfl
theorem q9m (x:qf):(q0c x).length=3:=rfl
theorem q9z (x:qf):qf.mk x.Worst x.Best x.Pass=x:=rfl
structure qa where
 Course:qc
 Credits:Int
 Grade:Int
 Day:Int
 Sources:List Int
 Bundle:Int
 Path:List Int
def qd (x:qa):List D:=[D.int .i64 x.Course.School,D.str x.Course.Code,D.int .i64 x.Credits,D.int .i64 x.Grade,D.int .i64 x.Day,D.sl 1 x.Sources.length (x.Sources.flatMap eI),D.int .i64 x.Bundle,D.sl 1 x.Path.length (x.Path.flatMap eI)]
theorem Qv (x:qa):qd x=[D.int .i64 x.Course.School,D.str x.Course.Code,D.int .i64 x.Credits,D.int .i64 x.Grade,D.int .i64 x.Day,D.sl 1 x.Sources.length (x.Sources.flatMap eI),D.int .i64 x.Bundle,D.sl 1 x.Path.length (x.Path.flatMap eI)]:=rfl
theorem q4o (x:qa):(qd x).length=8:=rfl
theorem q4v (x:qa):qa.mk x.Course x.Credits x.Grade x.Day x.Sources x.Bundle x.Path=x:=rfl
structure Q1 where
 Need:qb
 Scale:qf
 L:List qa
structure qn where
 many:Int
 credits:Int
 fine:Bool
theorem q9Q (x:qn):qn.mk x.many x.credits x.fine=x:=rfl
structure qi where
 L:List Int
 At:Int
theorem q8n (x:qi):qi.mk x.L x.At=x:=rfl
structure qj where
 Need:qb
 Deep:Int
def qk (x:qj):List D:=[D.int .i64 x.Need.Kind,D.int .i64 x.Need.N,D.int .i64 x.Need.Min,D.sl 2 x.Need.Set.length (x.Need.Set.flatMap qe),D.sl 5 x.Need.L.length (x.Need.L.flatMap qg),D.int .i64 x.Deep]
theorem Jp (x:qj):qk x=[D.int .i64 x.Need.Kind,D.int .i64 x.Need.N,D.int .i64 x.Need.Min,D.sl 2 x.Need.Set.length (x.Need.Set.flatMap qe),D.sl 5 x.Need.L.length (x.Need.L.flatMap qg),D.int .i64 x.Deep]:=rfl
theorem q7Z (x:qj):(qk x).length=6:=rfl
theorem qap:∀x:Int,(eI x).length=1:=fun _=>rfl
theorem qy5 (v:List Int):(v.flatMap eI).length=v.length:=by rw[q1S qap,Nat.mul_one]
theorem qli (v:List Int) (i:Nat):ld T ((v.flatMap eI).map C.d) (i) 3=(v[i]?).bind fun x=>some (.c (.d (D.int .i64 x))):=by rw[qaZ qap v i _ (by decide)];cases v[i]? with|none=>rfl|some x=>rfl
theorem qws (v:List Int) (a:Int):(v.flatMap eI).map C.d++[C.d (D.int .i64 a)]=((v++[a]).flatMap eI).map C.d:=by have h:=qbd (E:=eI) v a;exact h
theorem qqH (v:List Int) (i:Nat) (a:Int):spr ((v.flatMap eI).map C.d) (i) [C.d (D.int .i64 a)]=((v.set i a).flatMap eI).map C.d:=by have h:=qbe qap v i a;rw[Nat.mul_one] at h;exact h
theorem qyo (v:List Int) (a:Nat):(v.flatMap eI).take (a)=(v.take a).flatMap eI:=by have h:=qaB qap v a;rwa [Nat.mul_one] at h
theorem qtq (v:List Int) (a:Nat):((v.flatMap eI).map C.d).take (a)=((v.take a).flatMap eI).map C.d:=by rw[←List.map_take,qyo]
theorem qrU (m:Nat):(List.replicate m [C.d (D.int .i64 0)]).flatten=((List.replicate m 0).flatMap eI).map C.d:=qjj (E:=eI) 0 (by rfl) m
theorem q5i:∀x:qc,(qe x).length=2:=q83
theorem qrM (v:List qc):(v.flatMap qe).length=v.length*2:=by rw[q1S q5i]
theorem qfj (v:List qc) (i:Nat):ld T ((v.flatMap qe).map C.d) (i*2) 51=(v[i]?).bind fun x=>some (.agg [.d (D.int .i64 x.School),.d (D.str x.Code)]):=by rw[q8I q5i v i _ (by decide) (by decide)];cases v[i]? with|none=>rfl|some x=>rw[Option.bind_some,Option.bind_some,Jr];rfl
theorem qun (v:List qc) (a_School:Int) (a_Code:ByteArray):(v.flatMap qe).map C.d++[C.d (D.int .i64 a_School),C.d (D.str a_Code)]=((v++[(qc.mk a_School a_Code)]).flatMap qe).map C.d:=by have h:=qbd (E:=qe) v (qc.mk a_School a_Code);rw[Jr] at h;exact h
theorem qoB (v:List qc) (i:Nat) (a_School:Int) (a_Code:ByteArray):spr ((v.flatMap qe).map C.d) (i*2) [C.d (D.int .i64 a_School),C.d (D.str a_Code)]=((v.set i (qc.mk a_School a_Code)).flatMap qe).map C.d:=by have h:=qbe q5i v i (qc.mk a_School a_Code);rw[Jr] at h;exact h
theorem qtI (v:List qc) (a:Nat):(v.flatMap qe).drop (a*2)=(v.drop a).flatMap qe:=by have h:=qcM q5i v a;exact h
theorem qtA (v:List qc) (a:Nat):(v.flatMap qe).take (a*2)=(v.take a).flatMap qe:=by have h:=qaB q5i v a;exact h
theorem qpo (v:List qc) (a:Nat):((v.flatMap qe).map C.d).drop (a*2)=((v.drop a).flatMap qe).map C.d:=by rw[←List.map_drop,qtI]
theorem qnf (v:List qc) (a:Nat):((v.flatMap qe).map C.d).take (a*2)=((v.take a).flatMap qe).map C.d:=by rw[←List.map_take,qtA]
theorem qox (v w:List qc) (i:Nat):spl (v.flatMap qe) (i*2) (w.flatMap qe)=(spl v i w).flatMap qe:=by have h:=qiy q5i w v i;exact h
theorem qb2:∀x:qb,(qg x).length=5:=JV
theorem qrF (v:List qb):(v.flatMap qg).length=v.length*5:=by rw[q1S qb2]
theorem qfV (v:List qb) (i:Nat):ld T ((v.flatMap qg).map C.d) (i*5) 30=(v[i]?).bind fun x=>some (.agg [.d (D.int .i64 x.Kind),.d (D.int .i64 x.N),.d (D.int .i64 x.Min),.d (D.sl 2 x.Set.length (x.Set.flatMap qe)),.d (D.sl 5 x.L.length (x.L.flatMap qg))]):=by rw[q8I qb2 v i _ (by decide) (by decide)];cases v[i]? with|none=>rfl|some x=>rw[Option.bind_some,Option.bind_some,JM];rfl
theorem qtt (v:List qb) (a_Kind:Int) (a_N:Int) (a_Min:Int) (a_Set:List qc) (a_L:List qb):(v.flatMap qg).map C.d++[C.d (D.int .i64 a_Kind),C.d (D.int .i64 a_N),C.d (D.int .i64 a_Min),C.d (D.sl 2 a_Set.length (a_Set.flatMap qe)),C.d (D.sl 5 a_L.length (a_L.flatMap qg))]=((v++[(qb.mk a_Kind a_N a_Min a_Set a_L)]).flatMap qg).map C.d:=by have h:=qbd (E:=qg) v (qb.mk a_Kind a_N a_Min a_Set a_L);rw[JM] at h;exact h
theorem qqg (v:List qb) (i:Nat) (a_Kind:Int) (a_N:Int) (a_Min:Int) (a_Set:List qc) (a_L:List qb):spr ((v.flatMap qg).map C.d) (i*5) [C.d (D.int .i64 a_Kind),C.d (D.int .i64 a_N),C.d (D.int .i64 a_Min),C.d (D.sl 2 a_Set.length (a_Set.flatMap qe)),C.d (D.sl 5 a_L.length (a_L.flatMap qg))]=((v.set i (qb.mk a_Kind a_N a_Min a_Set a_L)).flatMap qg).map C.d:=by have h:=qbe qb2 v i (qb.mk a_Kind a_N a_Min a_Set a_L);rw[JM] at h;exact h
theorem q4g:∀x:qa,(qd x).length=8:=q4o
theorem qrs (v:List qa):(v.flatMap qd).length=v.length*8:=by rw[q1S q4g]
theorem qfU (v:List qa) (i:Nat):ld T ((v.flatMap qd).map C.d) (i*8) 53=(v[i]?).bind fun x=>some (.agg [.d (D.int .i64 x.Course.School),.d (D.str x.Course.Code),.d (D.int .i64 x.Credits),.d (D.int .i64 x.Grade),.d (D.int .i64 x.Day),.d (D.sl 1 x.Sources.length (x.Sources.flatMap eI)),.d (D.int .i64 x.Bundle),.d (D.sl 1 x.Path.length (x.Path.flatMap eI))]):=by rw[q8I q4g v i _ (by decide) (by decide)];cases v[i]? with|none=>rfl|some x=>rw[Option.bind_some,Option.bind_some,Qv];rfl
theorem qhJ (v:List qa) (i:Nat):ld T ((v.flatMap qd).map C.d) (i*8+2) 3=(v[i]?).bind fun x=>some (.c (.d (D.int .i64 x.Credits))):=by rw[q7n q4g v i 2 _ (by decide) (by decide)];cases v[i]? with|none=>rfl|some x=>rw[Option.bind_some,Option.bind_some,Qv];rfl
theorem qfH (v:List qa) (i:Nat):ld T ((v.flatMap qd).map C.d) (i*8+5) 22=(v[i]?).bind fun x=>some (.c (.d (D.sl 1 x.Sources.length (x.Sources.flatMap eI)))):=by rw[q7n q4g v i 5 _ (by decide) (by decide)];cases v[i]? with|none=>rfl|some x=>rw[Option.bind_some,Option.bind_some,Qv];rfl
theorem qsy (v:List qa) (ys:List C):dzc [0,0,0,0,0,1,0,1] [] ((v.flatMap qd).map C.d++ys)=(v.flatMap qd).map C.d++dzc [0,0,0,0,0,1,0,1] [] ys:=qmf q4g [0,0,0,0,0,1,0,1] rfl v ys
theorem qkp (s:S) (v:List qa) (lo hi:Option Operand):xsl T s 33 (.c (.d (.sl 8 v.length (v.flatMap qd)))) lo hi=qvJ s qd 8 v (s.bd lo 0) (s.bd hi v.length):=quI q4g v lo hi (by rfl) (by rfl) (by decide)
theorem qqj:∀x:(List qa),((eL 8 qd) x).length=1:=fun _=>rfl
theorem qp3:∀x:qf,(q0c x).length=3:=q9m
theorem qek:∀x:Bool,(eB x).length=1:=fun _=>rfl
theorem qxP (v:List Bool):(v.flatMap eB).length=v.length:=by rw[q1S qek,Nat.mul_one]
theorem qlM (v:List Bool) (i:Nat):ld T ((v.flatMap eB).map C.d) (i) 4=(v[i]?).bind fun x=>some (.c (.d (D.bool x))):=by rw[qaZ qek v i _ (by decide)];cases v[i]? with|none=>rfl|some x=>rfl
theorem qrV (v:List Bool) (i:Nat) (a:Bool):spr ((v.flatMap eB).map C.d) (i) [C.d (D.bool a)]=((v.set i a).flatMap eB).map C.d:=by have h:=qbe qek v i a;rw[Nat.mul_one] at h;exact h
theorem quz (m:Nat):(List.replicate m [C.d (D.bool false)]).flatten=((List.replicate m false).flatMap eB).map C.d:=qjj (E:=eB) false (by rfl) m
theorem qoU:∀x:(List Int),((eL 1 eI) x).length=1:=fun _=>rfl
theorem qml:∀x:ByteArray,(eS x).length=1:=fun _=>rfl
theorem qk6 (v:List ByteArray) (i:Nat):ld T ((v.flatMap eS).map C.d) (i) 9=(v[i]?).bind fun x=>some (.c (.d (D.str x))):=by rw[qaZ qml v i _ (by decide)];cases v[i]? with|none=>rfl|some x=>rfl
theorem qtl:∀x:Int,(eU8 x).length=1:=fun _=>rfl
theorem q6n:∀x:qj,(qk x).length=6:=q7Z
theorem qoq (v:List qj):(v.flatMap qk).length=v.length*6:=by rw[q1S q6n]
theorem qd7 (v:List qj) (i:Nat):ld T ((v.flatMap qk).map C.d) (i*6) 30=(v[i]?).bind fun x=>some (.agg [.d (D.int .i64 x.Need.Kind),.d (D.int .i64 x.Need.N),.d (D.int .i64 x.Need.Min),.d (D.sl 2 x.Need.Set.length (x.Need.Set.flatMap qe)),.d (D.sl 5 x.Need.L.length (x.Need.L.flatMap qg))]):=by rw[q8I q6n v i _ (by decide) (by decide)];cases v[i]? with|none=>rfl|some x=>rw[Option.bind_some,Option.bind_some,Jp];rfl
theorem qdq (v:List qj) (i:Nat):ld T ((v.flatMap qk).map C.d) (i*6+3) 27=(v[i]?).bind fun x=>some (.c (.d (D.sl 2 x.Need.Set.length (x.Need.Set.flatMap qe)))):=by rw[q7n q6n v i 3 _ (by decide) (by decide)];cases v[i]? with|none=>rfl|some x=>rw[Option.bind_some,Option.bind_some,Jp];rfl
theorem qfn (v:List qj) (i:Nat):ld T ((v.flatMap qk).map C.d) (i*6+5) 3=(v[i]?).bind fun x=>some (.c (.d (D.int .i64 x.Deep))):=by rw[q7n q6n v i 5 _ (by decide) (by decide)];cases v[i]? with|none=>rfl|some x=>rw[Option.bind_some,Option.bind_some,Jp];rfl
theorem qo8 (v:List qj) (a_Need_Kind:Int) (a_Need_N:Int) (a_Need_Min:Int) (a_Need_Set:List qc) (a_Need_L:List qb) (a_Deep:Int):(v.flatMap qk).map C.d++[C.d (D.int .i64 a_Need_Kind),C.d (D.int .i64 a_Need_N),C.d (D.int .i64 a_Need_Min),C.d (D.sl 2 a_Need_Set.length (a_Need_Set.flatMap qe)),C.d (D.sl 5 a_Need_L.length (a_Need_L.flatMap qg)),C.d (D.int .i64 a_Deep)]=((v++[(qj.mk (qb.mk a_Need_Kind a_Need_N a_Need_Min a_Need_Set a_Need_L) a_Deep)]).flatMap qk).map C.d:=by have h:=qbd (E:=qk) v (qj.mk (qb.mk a_Need_Kind a_Need_N a_Need_Min a_Need_Set a_Need_L) a_Deep);rw[Jp] at h;exact h
theorem ZV (v w:List Int):(v.flatMap eI=w.flatMap eI)=(v=w):=propext ⟨fun h=>(Jh qap (by decide) (fun x y h=>by injection h with h;injection h) _ _) h,fun h=>by rw[h]⟩
theorem q7O:∀x y:qc,qe x=qe y→x=y:=by
 rintro⟨a_0,a_1⟩ ⟨b_0,b_1⟩ h
 simp only[Jr,List.cons.injEq,D.int.injEq,D.bool.injEq,D.str.injEq,D.sl.injEq,true_and,and_true,ZV] at h
 simp only[h]
theorem QW (v w:List qc):(v.flatMap qe=w.flatMap qe)=(v=w):=propext ⟨fun h=>(Jh q5i (by decide) q7O _ _) h,fun h=>by rw[h]⟩
mutual
theorem q55:∀x y:qb,qg x=qg y→x=y
 | ⟨a0,a1,a2,a3,a4⟩,⟨b0,b1,b2,b3,b4⟩,h=>by
  rw[qg,qg] at h
  simp only[List.cons.injEq,D.int.injEq,D.bool.injEq,D.str.injEq,D.sl.injEq,true_and,and_true,ZV,QW] at h
  have hl:a4=b4:=q42 a4 b4 (by simp only[h])
  subst hl
  simp only[h]
theorem q42:∀v w:List qb,Z9 v=Z9 w→v=w
 | [],[],_=>rfl
 | [],y::w,e=>by
  have:=congrArg List.length e
  rw[Z9,Z9,List.length_append,JV] at this
  first|omega|(simp at this;done)|(simp at this;omega)
 | x::v,[],e=>by
  have:=congrArg List.length e
  rw[Z9,Z9,List.length_append,JV] at this
  first|omega|(simp at this;done)|(simp at this;omega)
 | x::v,y::w,e=>by
  rw[Z9,Z9] at e
  obtain⟨h1,h2⟩:=List.append_inj e (by rw[JV,JV])
  rw[q55 x y h1,q42 v w h2]
end
theorem Zc (v w:List qb):(v.flatMap qg=w.flatMap qg)=(v=w):=propext ⟨fun h=>(Jh qb2 (by decide) q55 _ _) h,fun h=>by rw[h]⟩
theorem q9u:∀x y:qf,q0c x=q0c y→x=y:=by
 rintro⟨a_0,a_1,a_2⟩ ⟨b_0,b_1,b_2⟩ h
 simp only[qa8,List.cons.injEq,D.int.injEq,D.bool.injEq,D.str.injEq,D.sl.injEq,true_and,and_true,ZV,QW,Zc] at h
 simp only[h]
theorem q12:∀x y:qa,qd x=qd y→x=y:=by
 rintro⟨⟨a_0_0,a_0_1⟩,a_1,a_2,a_3,a_4,a_5,a_6⟩ ⟨⟨b_0_0,b_0_1⟩,b_1,b_2,b_3,b_4,b_5,b_6⟩ h
 simp only[Qv,List.cons.injEq,D.int.injEq,D.bool.injEq,D.str.injEq,D.sl.injEq,true_and,and_true,ZV,QW,Zc] at h
 simp only[h]
theorem Zy (v w:List qa):(v.flatMap qd=w.flatMap qd)=(v=w):=propext ⟨fun h=>(Jh q4g (by decide) q12 _ _) h,fun h=>by rw[h]⟩
theorem Zw (v w:List (List qa)):(v.flatMap (eL 8 qd)=w.flatMap (eL 8 qd))=(v=w):=propext ⟨fun h=>(Jh qqj (by decide) (fun x y h=>by injection h with h;injection h with _ _ h;exact(Jh q4g (by decide) q12 _ _) h) _ _) h,fun h=>by rw[h]⟩
theorem Zr (v w:List qf):(v.flatMap q0c=w.flatMap q0c)=(v=w):=propext ⟨fun h=>(Jh qp3 (by decide) q9u _ _) h,fun h=>by rw[h]⟩
theorem Jq (v w:List Bool):(v.flatMap eB=w.flatMap eB)=(v=w):=propext ⟨fun h=>(Jh qek (by decide) (fun x y h=>by injection h with h;injection h) _ _) h,fun h=>by rw[h]⟩
theorem Zx (v w:List (List Int)):(v.flatMap (eL 1 eI)=w.flatMap (eL 1 eI))=(v=w):=propext ⟨fun h=>(Jh qoU (by decide) (fun x y h=>by injection h with h;injection h with _ _ h;exact(Jh qap (by decide) (fun x y h=>by injection h with h;injection h) _ _) h) _ _) h,fun h=>by rw[h]⟩
theorem Jt (v w:List ByteArray):(v.flatMap eS=w.flatMap eS)=(v=w):=propext ⟨fun h=>(Jh qml (by decide) (fun x y h=>by injection h with h;injection h) _ _) h,fun h=>by rw[h]⟩
theorem Jz (v w:List Int):(v.flatMap eU8=w.flatMap eU8)=(v=w):=propext ⟨fun h=>(Jh qtl (by decide) (fun x y h=>by injection h with h;injection h) _ _) h,fun h=>by rw[h]⟩
theorem q86:∀x y:qj,qk x=qk y→x=y:=by
 rintro⟨⟨a_0_0,a_0_1,a_0_2,a_0_3,a_0_4⟩,a_1⟩ ⟨⟨b_0_0,b_0_1,b_0_2,b_0_3,b_0_4⟩,b_1⟩ h
 simp only[Jp,List.cons.injEq,D.int.injEq,D.bool.injEq,D.str.injEq,D.sl.injEq,true_and,and_true,ZV,QW,Zc,Zy,Zw,Zr,Jq,Zx,Jt,Jz] at h
 simp only[h]
theorem QA (v w:List qj):(v.flatMap qk=w.flatMap qk)=(v=w):=propext ⟨fun h=>(Jh q6n (by decide) q86 _ _) h,fun h=>by rw[h]⟩
theorem qoI (s:S) (p:Nat):q39 T s p 113 none=some (.c (.hd .map p),s.up [(p,.ob (.mp [] 0))]):=rfl
end Go.Proofs.YtgejdfnidjnjcaaGreat.Vc
namespace Go.Proofs.YtgejdfnidjnjcaaGreat.Vc
open Go.RowKit
set_option linter.defProp false
set_option linter.unusedVariables false
theorem qyP:qc8 Tryz.prog 51=true:=by kernel_rfl
def by0:=JA_ @k3 (JA_ @z3 (JA_ @b3 (JA_ @o3 (JA_ @q3 (JA_ @k4 (JA_ @z4 (JA_ @b4 (JA_ @o4 (@q4)))))))))
def by1:=JA_ @k9 (JA_ @z9 (@q9))
def by2:=JA_ @q21 (JA_ @k22 (JA_ @z22 (JA_ @o22 (@q22))))
def by3:=JA_ @k26 (JA_ @z26 (JA_ @q26 (JA_ @k27 (JA_ @z27 (JA_ @q27 (JA_ @k28 (JA_ @z28 (JA_ @o28 (JA_ @q28 (JA_ @k30 (JA_ @z30 (JA_ @b30 (JA_ @o30 (JA_ @q30 (JA_ @k32 (JA_ @z32 (JA_ @o32 (JA_ @q32 (JA_ @k33 (@z33))))))))))))))))))))
def by4:=JA_ @q33 (@k35)
def by5:=JA_ @k45 (JA_ @q45 (JA_ @q46 (@k51)))
def by6:=JA_ @z51 (JA_ @b51 (JA_ @o51 (JA_ @q51 (JA_ @k53 (JA_ @z53 (JA_ @b53 (JA_ @o53 (@q53))))))))
def by8:=JA_ @k73 (JA_ @q73 (JA_ @k75 (JA_ @z75 (@k76))))
def by9:=JA_ @q76 (JA_ @k77 (JA_ @z77 (JA_ @o77 (JA_ @q77 (JA_ @q79 (JA_ @k81 (JA_ @o81 (JA_ @k83 (JA_ @z83 (@o83))))))))))
def qDy:=JA_ @q87 (JA_ @k89 (JA_ @z89 (JA_ @o89 (JA_ @k91 (JA_ @z91 (JA_ @o91 (@q91)))))))
def qEi:=@q93
def qBQ:=JA_ @qC1 (JA_ @qDD (JA_ @qBg (JA_ @qCV (JA_ @qCN (@qCL)))))
def qDd:=JA_ @qDl (JA_ @qBm (JA_ @qCr (JA_ @qBo (JA_ @qCo (JA_ @qBU (JA_ @qDC (JA_ @qBz (@qDp))))))))
def qBY:=JA_ @qDg (JA_ @qCy (JA_ @qCl (JA_ @qBV (JA_ @qDc (JA_ @qBA (JA_ @qDx (JA_ @qCx (JA_ @qDv (JA_ @qCM (@qE1))))))))))
def qBO:=JA_ @qBv (@qE2)
def qDW:=@qDH
def qBq:=@qDq
def qCv:=JA_ @qyP (JA_ @pw4 (JA_ @pw6 (JA_ @pw7 (JA_ @pw9 (JA_ @qAJ (JA_ @qA4 (JA_ @qB6 (JA_ @qAv (JA_ @qzF (JA_ @qAm (JA_ @qA1 (JA_ @qAg (JA_ @qzT (JA_ @qA2 (@qAr)))))))))))))))
def qDt:=JA_ @qB4 (JA_ @qAL (JA_ @qAF (JA_ @qA7 (JA_ @qy1 (JA_ @qzx (JA_ @qAQ (JA_ @qzh (JA_ @qxz (JA_ @qAu (JA_ @quj (JA_ @qAo (JA_ @qA3 (JA_ @qzP (JA_ @qzi (JA_ @qBf (JA_ @qAe (JA_ @qwM (JA_ @qzk (JA_ @qB0 (JA_ @qA8 (JA_ @qzQ (JA_ @qwX (JA_ @qwR (JA_ @qzj (JA_ @qBa (JA_ @qwg (JA_ @qAN (JA_ @qB8 (JA_ @qA6 (JA_ @qzs (JA_ @qzA (JA_ @qqF (JA_ @qzU (JA_ @qAO (JA_ @qzm (JA_ @qvu (@qzt)))))))))))))))))))))))))))))))))))))
def qEd:=JA_ @qBc (JA_ @qxv (JA_ @qwy (JA_ @qA0 (JA_ @qAw (JA_ @qAb (JA_ @qyp (JA_ @qAs (JA_ @qyA (JA_ @qzE (JA_ @qAE (JA_ @qAt (JA_ @qAl (JA_ @qAZ (JA_ @qAD (JA_ @qAx (JA_ @qzK (JA_ @qAz (JA_ @qAi (JA_ @qAY (JA_ @qA5 (JA_ @qzw (JA_ @qB1 (JA_ @qxL (JA_ @qzJ (JA_ @qzG (JA_ @qzX (JA_ @qAT (JA_ @qzl (JA_ @qB2 (JA_ @qzD (JA_ @qw1 (JA_ @qzq (JA_ @qzL (JA_ @qAq (JA_ @qzn (JA_ @quC (JA_ @qto (JA_ @quD (@qs6)))))))))))))))))))))))))))))))))))))))
def qCh:=JA_ @qs4 (JA_ @qsC (JA_ @qsc (JA_ @qtE (JA_ @qqT (JA_ @qri (JA_ @qtK (JA_ @qqX (JA_ @quO (JA_ @qCC (JA_ @qxp (JA_ @qwj (JA_ @qxN (JA_ @qwc (@qyR))))))))))))))
def qBh:=JA_ @qyb (JA_ @qyK (JA_ @qyQ (JA_ @qy8 (JA_ @qxm (JA_ @qye (JA_ @qys (JA_ @qwq (JA_ @qwF (JA_ @qxh (@qyD))))))))))
def qEa:=JA_ @qxI (JA_ @qxk (JA_ @qxg (JA_ @qxB (JA_ @qwO (JA_ @qwE (JA_ @qwB (JA_ @qxJ (JA_ @qwT (JA_ @qz5 (JA_ @qyg (JA_ @qvc (JA_ @qs2 (JA_ @qqC (JA_ @qt8 (@qtH)))))))))))))))
def qEf:=JA_ @qrc (JA_ @qwC (JA_ @qxd (JA_ @qxS (JA_ @qse (JA_ @qo5 (JA_ @quk (JA_ @qqd (JA_ @qsD (JA_ @qqG (JA_ @qpz (JA_ @qtS (JA_ @qtL (JA_ @qrP (JA_ @qtR (JA_ @qnW (JA_ @qtY (JA_ @qn3 (JA_ @qow (JA_ @qpQ (JA_ @qsN (JA_ @qv2 (JA_ @qre (JA_ @qtZ (JA_ @qsJ (@qug)))))))))))))))))))))))))
def qBJ:=JA_ @qsX (JA_ @qve (JA_ @qpU (JA_ @qut (JA_ @qtp (JA_ @qnq (JA_ @qo9 (JA_ @qpe (JA_ @qo6 (JA_ @qqV (JA_ @qsk (JA_ @qt5 (JA_ @qpp (JA_ @qpA (JA_ @qrH (JA_ @qsn (JA_ @qv4 (JA_ @qud (JA_ @qrt (JA_ @quZ (JA_ @qsY (JA_ @que (JA_ @qsL (JA_ @qsK (JA_ @qqO (JA_ @qro (JA_ @qnR (JA_ @qqo (JA_ @qny (@qph)))))))))))))))))))))))))))))
def qDK:=JA_ @qy7 (JA_ @qsq (JA_ @qqP (JA_ @qsr (JA_ @quL (JA_ @qxe (JA_ @qx3 (@qwA)))))))
def qDn:=JA_ @qul (JA_ @qrZ (JA_ @qpE (JA_ @qu5 (JA_ @qqL (JA_ @qrG (JA_ @qsg (JA_ @qsp (JA_ @qpv (JA_ @qsQ (JA_ @qno (JA_ @qry (JA_ @qrT (JA_ @quX (JA_ @qqp (JA_ @qog (JA_ @qnh (JA_ @qn9 (JA_ @qv1 (JA_ @qqM (JA_ @quY (JA_ @qqD (JA_ @qtm (JA_ @qpg (JA_ @qv3 (JA_ @qo0 (JA_ @qpM (JA_ @qqU (JA_ @quG (JA_ @qtV (JA_ @qt9 (JA_ @qsR (@qrj))))))))))))))))))))))))))))))))
def qD6:=JA_ @qpb (JA_ @qnF (JA_ @qte (JA_ @qrJ (JA_ @qr7 (JA_ @qs9 (JA_ @qru (JA_ @qxy (JA_ @qrh (JA_ @qqQ (JA_ @qtk (JA_ @qu1 (JA_ @qwY (JA_ @qya (JA_ @qwK (JA_ @qsa (JA_ @qu6 (JA_ @qpJ (JA_ @qum (JA_ @qrQ (JA_ @qrB (JA_ @quS (JA_ @qu7 (JA_ @qoz (JA_ @qsd (JA_ @qn1 (@qrR))))))))))))))))))))))))))
def qEg:=JA_ @qqY (JA_ @qsB (JA_ @qoS (JA_ @qpk (JA_ @qpW (JA_ @qnI (JA_ @quV (JA_ @qrA (JA_ @qti (JA_ @qu4 (JA_ @qv9 (JA_ @qp8 (JA_ @qqE (JA_ @qne (JA_ @qp0 (JA_ @qsf (JA_ @quw (JA_ @qtG (JA_ @qrY (JA_ @qtB (JA_ @quQ (JA_ @qoM (JA_ @qnV (JA_ @qr6 (JA_ @quu (JA_ @qvf (@qs1))))))))))))))))))))))))))
def bt0:=JA_ @qy5 (JA_ @qli (JA_ @qws (JA_ @qqH (JA_ @qtq (JA_ @qrU (JA_ @qrM (JA_ @qfj (JA_ @qun (JA_ @qoB (JA_ @qpo (JA_ @qnf (@qox))))))))))))
def bt1:=JA_ @qrF (JA_ @qfV (JA_ @qtt (@qqg)))
def bt2:=JA_ @qrs (JA_ @qfU (JA_ @qhJ (JA_ @qfH (@qsy))))
def bt3:=@qkp
def bt4:=JA_ @qxP (JA_ @qlM (JA_ @qrV (@quz)))
def bt5:=@qk6
def bt6:=JA_ @qoq (JA_ @qd7 (JA_ @qdq (JA_ @qfn (@qo8))))
def bt7:=JA_ @qoI (JA_ @q9V (JA_ @q9z (JA_ @q81 (JA_ @q4v (JA_ @q9Q (@q8n))))))
def bA:=JA_ @bx0 (JA_ @bx1 (JA_ @bx2 (JA_ @bx3 (JA_ @bx4 (JA_ @bx5 (JA_ @bx6 (JA_ @bx7 (JA_ @bx8 (JA_ @bx9 (JA_ @qDV (JA_ @qE4 (JA_ @qDF (JA_ @qEk (JA_ @qBi (JA_ @qBk (JA_ @qEc (JA_ @qDj (JA_ @qBZ (JA_ @qCn (JA_ @qD4 (JA_ @qBS (JA_ @qDT (JA_ @qCQ (JA_ @qCB (JA_ @qDm (JA_ @bz0 (JA_ @by0 (JA_ @by1 (JA_ @by2 (JA_ @by3 (JA_ @by4 (JA_ @by5 (JA_ @by6 (JA_ @by8 (JA_ @by9 (JA_ @qDy (JA_ @qEi (JA_ @qBQ (JA_ @qDd (JA_ @qBY (JA_ @qBO (JA_ @qDW (JA_ @qBq (JA_ @qCv (JA_ @qDt (JA_ @qEd (JA_ @qCh (JA_ @qBh (JA_ @qEa (JA_ @qEf (JA_ @qBJ (JA_ @qDK (JA_ @qDn (JA_ @qD6 (JA_ @qEg (JA_ @bt0 (JA_ @bt1 (JA_ @bt2 (JA_ @bt3 (JA_ @bt4 (JA_ @bt5 (JA_ @bt6 (@bt7)))))))))))))))))))))))))))))))))))))))))))))))))))))))))))))))
def bZ:=JA_ @List.length_append.{0} (JA_ @List.length_set.{0} (JA_ @q3O (JA_ @List.length_replicate.{0} (JA_ @List.length_cons.{0} (JA_ @List.length_nil.{0} (JA_ @Nat.zero_add (JA_ @List.flatMap_cons.{0,0} (JA_ @List.flatMap_nil.{0,0} (JA_ @List.map_cons.{0,0} (JA_ @List.map_nil.{0,0} (JA_ @eI.eq_1 (JA_ @eS.eq_1 (JA_ @List.cons_append.{0} (JA_ @List.nil_append.{0} (JA_ @List.append_nil.{0} (JA_ @List.flatMap_append.{0,0} (JA_ @List.map_append.{0,0} (JA_ @JM (@Qv)))))))))))))))))))
theorem gA {P:Prop} (h:P:=by simp -implicitDefEqProofs (maxSteps:=10000000) only[bA,Int.reduceToNat,Int.reduceLT,Int.reduceLE,Int.reduceAdd,Int.reduceSub,Int.reduceMul,Int.reduceNeg,Int.reduceEq,Int.reduceNe,Int.reduceBEq,Int.reduceBNe,Nat.reduceLT,Nat.reduceAdd,Nat.reduceMul,Nat.reduceSub,Nat.reduceEqDiff,Nat.reduceLeDiff,Nat.reduceBEq,Nat.reduceBNe,↓reduceIte,reduceCtorEq,pure,bind,w64,qK,q0b,Option.or_some,Option.or_none,Option.none_or,Option.some_or, *]<;>simp only[rL,dL,bR,bZ,Nat.reduceAdd]):P:=h
end Go.Proofs.YtgejdfnidjnjcaaGreat.Vc
