/- Part 2 of a proof. -/
import Derived.Test.YtojflbfdcpkedaaGreatT1
import Derived.RangeFuncIn
import Derived.ChangeSlices
import Derived.OpenShut
import Derived.ChangeSame
import Derived.WideShapes
set_option linter.unusedVariables false
set_option linter.unusedSimpArgs false
set_option linter.defProp false
set_option linter.unusedSectionVars false
set_option linter.unnecessarySimpa false
namespace Go.Proofs.YtojflbfdcpkedaaGreat.Vc
noncomputable section
open Go.RowKit
def RA (P:Program) (as bd:Code) (tm:List R) (G:List (Nat×B)) (k:Nat) (Q:R→List (Nat×B)→Prop):Prop:=
 ∀cx ρ w l cap fn vs,cx.w=w→cx.k=k→cx.ρ=ρ→cx.ro=some l→0<k→ρ (k-1)=some (l,cap)→Sim cx ρ (q2j G G.length) qcs w→RRs w (q2j G G.length).live ρ vs tm→
  RoundIn Fence.wide 0 P l fn vs as bd w fun e w'=>∃v r hp' nx' ρ',e = .returned v∧Q r hp'∧Sim cx ρ' (q2j hp' nx') qcs w'∧RR w' (q2j hp' nx').live ρ' v r
def qa4:List R→List Nat→List R→List R
 | tm,t::ps,r::rs=>qa4 (tm.set t r) ps rs
 | tm,_,_=>tm
section
variable {P:Program} {cx:Cx} {ρ:Pl} {s:S} {a:Act} {w:World} {o:Oper} {K:KK} {next:Act→World→Prop} {Q':Exit→Act→World→Prop}
theorem qj2 {L:Nat→Prop}:∀(ps:List Nat) (rs tm:List R) (us:List Value) (vs:Array Value),RRs w L ρ vs tm→us.length=rs.length→(∀j r,rs[j]?=some r→RR w L ρ (us.getD j undef) r)→
  RRs w L ρ ((ps.zip us).foldl (fun tmps x=>tmps.setIfInBounds x.1 x.2) vs) (qa4 tm ps rs)
 | [],rs,tm,us,vs,h,_,_=>by simpa [qa4] using h
 | t::ps,[],tm,us,vs,h,hl,_=>by
  have:us=[]:=qLw (by simpa using hl)
  subst this
  simpa [qa4] using h
 | t::ps,r::rs,tm,us,vs,h,hl,hr=>by
  cases us with
  | nil=>cases hl
  | cons u us=>
   rw[List.zip_cons_cons,qMi]
   refine qj2 ps rs (tm.set t r) us _ ⟨by simpa using h.1,fun j x hj=>?_⟩ (by simpa using hl) (fun j x hj=>by have:=hr (j+1) x (by simpa using hj);simpa using this)
   by_cases hjt:t=j
   ·subst hjt
    have hlt:t<tm.length:=by have:=(qLh.1 hj).1;simpa using this
    rw[qMb hlt] at hj
    injection hj with hj
    subst hj
    have h0:=hr 0 _ rfl
    have hv:t<vs.size:=by rw[h.1];exact hlt
    simpa [qLj,hv] using h0
   ·rw[qMc hjt] at hj
    have:=h.2 j x hj
    simpa [qLj,Array.getElem?_setIfInBounds,hjt] using this
theorem qpr (hs:Sim cx ρ s a w) {y:Operand} {args:Array Operand} {ts:Array TypeId} {rid f:Nat} {tm:List R} {ps:List Nat} {as bd:Code} (ho:o.op = .call { callee := .value y,args,argTypes:=ts }) (hy:s.ev y = .c (.hd .yield rid))
  (hb:s.blk rid = .ob (.lp f tm ps as bd .ready none)) (hlen:args.toList.length=ps.length) {rs':List R} {G:List (Nat×B)} {k:Nat} {Q:R→List (Nat×B)→Prop} (sel ln:List Nat) (h:RA P as bd rs' G k Q) (ha:ARs s sel ln (qa4 tm ps (args.toList.map s.ev)) rs') (hG:GR s sel sel 0 G)
  (hsel:sel.all (fun i=>(s.blk i).live)=true) (hnd:sel.Nodup) (hln:ln.all (fun i=>(s.blk i).live && !sel.contains i)=true) (hk:k≤G.length) (hpk:∀j,j<G.length→(lk G j .dead).isBlk=decide (j<k)) (hk0:0<k) (hrid:sel[k-1]?=some rid)
  (hK:∀r hp,Q r hp→okr ln r hp∧K (r.rn (ren sel s.nx)) (s.aft sel k hp)) (hn:q0b cx K o a next):o.wpIn (FW cx.ro) 0 P a w next Q':=by
 have hyv:=hs.ev y
 rw[hy] at hyv
 obtain⟨l,cap,h1,h2,h3⟩:=hyv.inv_hd
 have hB:=(hs.hp rid l cap h1 h2).2
 rw[hb] at hB
 obtain⟨rec,e1,e2,e3,e4,e5,e6,e7,e8⟩:=hB
 have hps:(args.map a.eval).size=rec.params.size:=by
  have:rec.params.size=ps.length:=by rw[←e4];simp
  rw[this,←hlen];simp
 obtain⟨vs,hvs⟩:∃vs,vs=(rec.params.zip (args.map a.eval)).foldl (fun tmps (t,a)=>tmps.setIfInBounds t a) rec.tmps:=⟨_,rfl⟩
 have hrun:(execOp a.eval o).run P w = .ok (.round l rec.fn vs as bd) w:=by
  have hy3:a.eval y = .func (.yield l) #[] #[]:=h3
  have hr:=run_yield (P:=P) e1 hps
  unfold execOp
  simp only[ho,resolve,hy3,Deferred.ofValue,Sem.run_bind,Sem.run_pure,Result.andThen_ok,invoke]
  rw[show(#[]:Array Value)++Array.map a.eval args=args.map a.eval by simp,hr,hvs,e5,e6]
 have hrr:RRs w s.live ρ vs (qa4 tm ps (args.toList.map s.ev)):=by
  have:=qj2 (w:=w) (L:=s.live) (ρ:=ρ) ps (args.toList.map s.ev) tm (args.toList.map a.eval) rec.tmps ⟨e7,e8⟩ (by simp) (fun j r hj=>by
   rw[qLr] at hj
   obtain⟨x,g1,g2⟩:=qLq.1 hj
   subst g2
   rw[List.getD,qLr,g1]
   exact hs.ev x)
  rw[hvs]
  have hz:(rec.params.zip (args.map a.eval)).foldl (fun tmps (t,a)=>tmps.setIfInBounds t a) rec.tmps=(ps.zip (args.toList.map a.eval)).foldl (fun tmps x=>tmps.setIfInBounds x.1 x.2) rec.tmps:=by
   rw[←Array.foldl_toList,Array.toList_zip,e4,Array.toList_map]
  rw[hz];exact this
 refine⟨fun _ _=>trivial,?_⟩
 rw[Oper.semAt_eq _ _ _ (fun c hc=>by rw[ho] at hc;cases hc),hrun,Oper.uponIn_round]
 obtain⟨O,ρc,hsc,hargs,hρ,hback⟩:=hs.hand sel ln (some l) hG hsel hnd hln hk hpk
 have hround:=h _ ρc w l cap rec.fn vs rfl rfl rfl rfl hk0 ((hρ _ _ hrid).trans h2) hsc (hargs _ _ _ hrr ha)
 refine⟨fun h=>(by cases h),RoundIn.mono (F:=FW cx.ro) (show RoundIn (FW cx.ro) (0-1) P l rec.fn vs as bd w _ from hround) ?_⟩
 rintro e w' ⟨v,r,hp',nx',ρ',rfl,hQ,h4,h5⟩
 obtain⟨hok,hKs⟩:=hK r hp' hQ
 obtain⟨ρ2,g1,g2⟩:=hback w' r hp' nx' ρ' v h4 hok h5
 exact hn _ _ ρ2 v w' hKs g1 g2
def S.rf (s:S) (f:Nat) (tm:List R) (ps:List Nat) (as bd:Code):S:=
 { s.up [(s.nx,.ob (.lp f tm ps as bd .ready none))] with tm:=(s.n,.c (.hd .yield s.nx))::s.tm,n:=s.n+1 }
theorem S.rf_blk (s:S) (f:Nat) (tm:List R) (ps:List Nat) (as bd:Code) (i:Nat):(s.rf f tm ps as bd).blk i=if s.nx=i then .ob (.lp f tm ps as bd .ready none) else s.blk i:=rfl
def qbg (a:Act) (D l:Nat):Act:={ tmps:=a.tmps.push (HK.yield.val l),defers:=mark D::a.defers }
theorem Sim.rf (hs:Sim cx ρ s a w) {f:Nat} {tm:List R} {ps:Array Tmp} {as bd:Code} {fn:FuncId} (htm:tm.length=s.n∧∀i r,tm[i]?=some r→r = .any∨r=s.get i) {w1:World}
  (hw1:w1=(w.alloc (.deferred (some []))).alloc (.loop { state := .ready,pending:=none,fn,tmps:=a.tmps,params:=ps,assign:=as,body:=bd,defers:=w.heap.size })) :
  ∃ρ1,Sim cx ρ1 (s.rf f tm ps.toList as bd) (qbg a w.heap.size (w.heap.size+1)) w1:=by
 have hs0:=hs.other (.deferred (some []))
 have hno:¬ Occ s.live ρ w.heap.size:=hs.not_occ (qLt _)
 have hnl:¬ s.live s.nx:=fun h=>by have:=hs.nx _ h;omega
 have hst:=q6H (w:=w.alloc (.deferred (some []))) (ρ:=ρ) (x := .ob (.lp f tm ps.toList as bd .ready none)) hnl (.loop { state := .ready,pending:=none,fn,tmps:=a.tmps,params:=ps,assign:=as,body:=bd,defers:=w.heap.size }) 0
 rw[←hw1] at hst
 have hsz0:(w.alloc (.deferred (some []))).heap.size=w.heap.size+1:=by simp
 have hnew:=hs0.new (cap:=0) hnl (x := .ob (.lp f tm ps.toList as bd .ready none)) (o := .loop { state := .ready,pending:=none,fn,tmps:=a.tmps,params:=ps,assign:=as,body:=bd,defers:=w.heap.size })
  ⟨_,heap_alloc_new _ _,rfl,rfl,rfl,rfl,rfl,by rw[htm.1];exact hs.size,fun j x hj=>by
   rcases htm.2 j x hj with h|h
   ·rw[h];exact .any _
   ·rw[h,←hw1];exact(hs0.tm j).stay hst⟩
 rw[←hw1,hsz0] at hnew
 rw[hsz0] at hst
 refine⟨_,⟨?_,by simp[qbg,hnew.size,S.rf,S.up],fun i=>?_,hnew.hp,hnew.hp0,hnew.out,hnew.inj,hnew.nx,hnew.kept,hnew.oldF,hnew.pin,hnew.sameF,hnew.sep⟩⟩
 ·obtain⟨⟨Ds,d1,d2,d3⟩⟩:=hs.hd
  obtain⟨⟨Ds',d1',d2',d3'⟩⟩:=hnew.hd
  have hds:Ds'=Ds:=by
   rw[d1] at d1'
   have hm:∀(l l':List Nat),l.map mark=l'.map mark→l'=l:=by
    intro l
    induction l with
    | nil=>intro l' hl;cases l' with|nil=>rfl|cons x l'=>cases hl
    | cons y l ih=>
     intro l' hl
     cases l' with
     | nil=>cases hl
     | cons x l'=>
      simp only[qLA,List.cons.injEq,mark,Deferred.mk.injEq,Target.collected.injEq,and_true] at hl
      rw[ih l' hl.2,hl.1]
   exact hm _ _ d1'
  subst hds
  refine⟨⟨w.heap.size::Ds',by simp[qbg,d1],List.nodup_cons.2 ⟨fun h=>by have:=(d3 _ h).2.1;omega,d2⟩,fun D hD=>?_⟩⟩
  rcases qLz.1 hD with rfl|hD
  ·refine⟨hs.kept.size,by rw[hw1];simp only[World.size_alloc];omega,fun h=>hno (hst.occ _ (by simp) h),?_⟩
   rw[hw1]
   exact(Below.heap_alloc _ _ _ (by simp)).trans (heap_alloc_new w _)
  ·exact d3' D hD
 ·show RR w1 _ _ ((a.tmps.push (HK.yield.val (w.heap.size+1))).getD i undef) (lk ((s.n,R.c (.hd .yield s.nx))::s.tm) i .any)
  unfold lk
  by_cases hi:s.n=i
  ·subst hi
   rw[if_pos rfl]
   have:(a.tmps.push (HK.yield.val (w.heap.size+1))).getD s.n undef=HK.yield.val (w.heap.size+1):=by rw[←hs.size];simp[qLj]
   rw[this]
   exact .c _ _ (.hd .yield s.nx (w.heap.size+1) 0 (by unfold S.live;rw[S.rf_blk,if_pos rfl];rfl) (if_pos rfl))
  ·rw[if_neg hi]
   have:(a.tmps.push (HK.yield.val (w.heap.size+1))).getD i undef=a.tmps.getD i undef:=by
    simp only[qLj,Array.getElem?_push]
    rw[if_neg (by rw[hs.size];exact fun h=>hi h.symm)]
   rw[this]
   exact hnew.tm i
def S.rfx (s:S) (n rid:Nat) (o:AO):S:={ s.up [(rid,.ob o)] with tm:=(n,.any)::s.tm,n:=n }
theorem qwY (l:List (Nat×R)) (n i:Nat) (h:i≠n):lk ((n,R.any)::l) i .any=lk l i .any:=by
 show(if n=i then R.any else lk l i .any)=_
 rw[if_neg (Ne.symm h)]
theorem Sim.rfx {D l:Nat} (hs:Sim cx ρ s (qbg a D l) w) {n rid b cap:Nat} (hn:a.tmps.size=n) (h1:s.live rid) (h2:ρ rid=some (b,cap)) {o:AO} {O:Obj}
  (hO:q9M w s.live ρ (w.putObj b O) (s.up [(rid,.ob o)]).live ρ→(w.putObj b O).heap[b]?=some O→HO (w.putObj b O) (s.up [(rid,.ob o)]).live ρ b o):Sim cx ρ (s.rfx n rid o) { a with defers:=mark D::a.defers } (w.putObj b O):=by
 have h:=hs.overO h1 h2 hO
 refine⟨h.hd,by simp[S.rfx,hn],fun i=>?_,h.hp,h.hp0,h.out,h.inj,h.nx,h.kept,h.oldF,h.pin,h.sameF,h.sep⟩
 show RR _ _ ρ (a.tmps.getD i undef) (lk ((n,R.any)::s.tm) i .any)
 by_cases hi:i=n
 ·subst hi
  unfold lk
  rw[if_pos rfl]
  exact .any _
 ·rw[qwY _ _ _ hi]
  have h3:=h.tm i
  have:(qbg a D l).tmps.getD i undef=a.tmps.getD i undef:=by
   simp only[qbg,qLj,Array.getElem?_push]
   rw[if_neg (by rw[hn];exact hi)]
  rw[this] at h3
  exact h3
def qAM (Q:Exit→S→Prop) (s:S):Option Code→Prop
 | none=>Q .normal s
 | some .ret=>Q .ret s
 | some (.exit i)=>Q (.exit i) s
 | _=>False
theorem J.rangeFunc {g:Operand} {ps:Array Tmp} {as bd:Code} {f:Nat} {tm:List R} {g':FuncId} {fs caps:List C} {Q:Exit→S→Prop} (hro:cx.ro=none) (hg:s.ev g = .c (.fn g' fs caps)) (htm:tm.length=s.n∧∀i r,tm[i]?=some r→r = .any∨r=s.get i)
  (hc:q3A P (s.rf f tm ps.toList as bd) g' (fs.map R.c++[.c (.hd .yield s.nx)]++caps.map R.c) K)
  (hK:∀r s2,K r s2→∃rid f' tm' ps' as' bd' st pd,s2.get s.n = .c (.hd .yield rid)∧s2.blk rid = .ob (.lp f' tm' ps' as' bd' st pd)∧st ≠ .busy∧qAM Q (s2.rfx s.n rid (.lp f' tm' ps' as' bd' .exhausted pd)) pd):J P cx (.rangeFunc g ps as bd) Q s:=fun ρ a w hs=>by
 refine wpIn_rangeFunc (F:=FW cx.ro) fun fn _=>?_
 obtain⟨w1,hw1⟩:∃w1,w1=(w.alloc (.deferred (some []))).alloc (.loop { state := .ready,pending:=none,fn,tmps:=a.tmps,params:=ps,assign:=as,body:=bd,defers:=w.heap.size }):=⟨_,rfl⟩
 obtain⟨ρ1,hs1⟩:=hs.rf (f:=f) htm hw1
 obtain⟨⟨fnc,e1,e2,e3⟩,hcall⟩:=hc
 have hgv:=hs.ev g
 rw[hg] at hgv
 obtain⟨us,vs,q1,q2,q3,q4,q5⟩:=hgv.inv_fn
 -- the function's value, in the new state
 have hst1:∀{L L':Nat→Prop} {ρ':Pl} {x:C} {v:Value},q9M w s.live ρ w1 L' ρ'→RC w s.live ρ v x→RC w1 L' ρ' v x:=fun h hx=>hx.stay h
 have hg1:=hs1.ev g
 have hev:(qbg a w.heap.size (w.heap.size+1)).eval g=a.eval g∧(s.rf f tm ps.toList as bd).ev g=s.ev g:=by
  cases g with
  | tmp t=>
   have hlt:t≠s.n:=fun h=>by
    subst h
    have h0:=hgv
    have:a.eval (.tmp s.n)=undef:=by
     show a.tmps.getD s.n undef=undef
     rw[←hs.size];simp[qLj]
    rw[this] at q1
    cases q1
   refine⟨?_,?_⟩
   ·show(a.tmps.push _).getD t undef=a.tmps.getD t undef
    simp only[qLj,Array.getElem?_push]
    rw[if_neg (by rw[hs.size];exact hlt)]
   ·show lk ((s.n,_)::s.tm) t .any=lk s.tm t .any
    show(if s.n=t then _ else lk s.tm t .any)=_
    rw[if_neg (Ne.symm hlt)]
  | _=>exact⟨rfl,rfl⟩
 rw[hev.1,hev.2,hg] at hg1
 obtain⟨us',vs',p1,p2,p3,p4,p5⟩:=hg1.inv_fn
 have huv:us'=us∧vs'=vs:=by rw[q1] at p1;injection p1 with _ p1 p2;exact⟨p1.symm,p2.symm⟩
 obtain⟨rfl,rfl⟩:=huv
 have hy:RRs w1 (s.rf f tm ps.toList as bd).live ρ1 #[.func (.yield (w.heap.size+1)) #[] #[]] [.c (.hd .yield s.nx)]:=by
  refine⟨rfl,fun j r hj=>?_⟩
  match j,hj with
  | 0,hj=>
   simp only[qLn,qM3] at hj
   subst hj
   have h0:=hs1.tm s.n
   have h3:(s.rf f tm ps.toList as bd).get s.n = .c (.hd .yield s.nx):=by
    show lk ((s.n,_)::s.tm) s.n .any=_
    unfold lk;rw[if_pos rfl]
   have h4:(qbg a w.heap.size (w.heap.size+1)).tmps.getD s.n undef = .func (.yield (w.heap.size+1)) #[] #[]:=by
    rw[←hs.size];simp[qbg,qLj,HK.val]
   rw[h3,h4] at h0
   exact h0
  | j+1,hj=>simp at hj
 have hargs:=q6N (q6N (q7S p2 p3) hy) (q7S p4 p5)
 have hcl:=hcall cx ρ1 _ w1 _ hs1 hargs
 refine⟨w.heap.size+1,[mark w.heap.size],w1,{ target := .fn (.func g') vs',args:=us' ++ #[.func (.yield (w.heap.size+1)) #[] #[]] },w1,g',us' ++ #[.func (.yield (w.heap.size+1)) #[] #[]]++vs',w1,?_,?_,fun _ _=>trivial,?_,fun h=>(by cases h),?_⟩
 ·rw[hw1]
  show(Instr.enterLoop fn a.tmps ps as bd cx.ro).run P w=_
  rw[hro]
  exact run_enterLoop_outer fn a.tmps ps as bd
 ·simp only[resolve,q1,Deferred.ofValue,Sem.run_pure,List.map_toArray,qLA,List.map_nil]
  rfl
 ·simp only[invoke,callFunc,program,Sem.run_bind,Sem.run,Result.andThen_ok,e1,e2,e3,Bool.false_eq_true,if_false,Sem.run_pure]
 ·refine callsIn_wide.2 (hcl.mono fun e w' ⟨v,r,s2,ρ2,h3,h4,h5,h6⟩=>?_)
  subst h3
  obtain⟨rid,f',tm',ps',as',bd',st,pd,k1,k2,k3,k4⟩:=hK r s2 h4
  have hsl:=h5.tm s.n
  rw[k1] at hsl
  have hv4:(qbg a w.heap.size (w.heap.size+1)).tmps.getD s.n undef = .func (.yield (w.heap.size+1)) #[] #[]:=by
   rw[←hs.size];simp[qbg,qLj,HK.val]
  rw[hv4] at hsl
  obtain⟨b,cap,m1,m2,m3⟩:=hsl.inv_hd
  have hbl:b=w.heap.size+1:=by
   simp only[HK.val,Value.func.injEq,Fn.yield.injEq] at m3
   exact m3.1.symm
  subst hbl
  have hB:=(h5.hp rid _ cap m1 m2).2
  rw[k2] at hB
  obtain⟨rec,t1,t2,t3,t4,t5,t6,t7,t8⟩:=hB
  have hS:=h5.rfx (o := .lp f' tm' ps' as' bd' .exhausted pd) (O := .loop { rec with state := .exhausted,pending:=pd }) hs.size m1 m2 (fun hst hO=>⟨_,hO,rfl,rfl,t4,t5,t6,t7,fun j x hj=>(t8 j x hj).stay hst⟩)
  refine⟨rec.pending,_,run_endLoop t1 (by rw[t2];exact k3),?_⟩
  rw[t3]
  unfold qAM at k4
  split at k4
  ·exact⟨_,ρ2,k4,hS⟩
  ·exact wpIn_ret ⟨_,ρ2,k4,hS⟩
  ·exact wpIn_exit ⟨_,ρ2,k4,hS⟩
  ·cases k4
end
end
noncomputable section
open Go.RowKit Go.WideShapes Go.ChangeShapes
def q6W (P:Program):Nat→TypeId→List D→Prop
 | 0,_,_=>False
 | n+1,t,ds=>
  match P.underlying t with
  | some (.int k)=>∃z,ds=[.int k z]∧(Lit.int k z).wf=true
  | some .bool=>∃b,ds=[.bool b]
  | some .string=>∃s,ds=[.str s]∧s.size≤maxLen
  | some (.slice e)=>∃m es,ds=[.sl (P.cellsOf e) m es]∧m≤maxLen∧es.length=m*P.cellsOf e∧∀i,i<m→q6W P n e ((es.drop (i*P.cellsOf e)).take (P.cellsOf e))
  | some (.array k e)=>ds.length=P.cellsOf t∧∀i,i<k→q6W P n e ((ds.drop (i*P.cellsOf e)).take (P.cellsOf e))
  | some (.struct fs)=>ds.length=P.cellsOf t∧∀f∈fs.toList,q6W P n f.type ((ds.drop f.offset).take (P.cellsOf f.type))
  | _=>False
def tl (P:Program):Nat→List (Nat×TypeId)→Nat→Bool
 | o,[],e=>o==e
 | o,(f,t)::l,e=>f==o&&tl P (o+P.cellsOf t) l e
def qH8 (P:Program) (l:List TypeId):Bool:=l.all fun t=>
 match P.underlying t with
 | some (.int _)|some .bool|some .string=>true
 | some (.slice e)=>l.contains e&&decide (0<P.cellsOf e)
 | some (.array k e)=>l.contains e&&tl P 0 ((List.range k).map fun i=>(i*P.cellsOf e,e)) (P.cellsOf t)
 | some (.struct fs)=>fs.toList.all (fun f=>l.contains f.type)&&tl P 0 (fs.toList.map fun f=>(f.offset,f.type)) (P.cellsOf t)
 | _=>false
def PV (w:World) (cs:List Value) (ds:List D):Prop:=cs.length=ds.length∧∀(j:Nat) (v:Value) (d:D),cs[j]?=some v→ds[j]?=some d→RD w (fun _=>False) v d
theorem qA1 {P:Program}:∀{l:List (Nat×TypeId)} {o e:Nat},tl P o l e=true→o≤e
 | [],o,e,h=>by have:o=e:=eq_of_beq h;omega
 | (f,t)::l,o,e,h=>by
  have:=qA1 ((qLJ _ _).mp h).2
  omega
theorem qBO {P:Program} {w:World} {Tt:TypeId→List D→Prop}:∀(l:List (Nat×TypeId)) (o e:Nat) (cs:List Value),tl P o l e=true→cs.length=e→
  (∀f∈l,∃ds,PV w ((cs.drop f.1).take (P.cellsOf f.2)) ds∧Tt f.2 ds)→∃ds:List D,PV w (cs.drop o) ds∧∀f∈l,o≤f.1∧Tt f.2 ((ds.drop (f.1-o)).take (P.cellsOf f.2))
 | [],o,e,cs,h,hl,_=>by
  have:o=e:=eq_of_beq h
  exact⟨[],⟨by simp;omega,fun j v d _ h=>by simp at h⟩,fun f hf=>by simp at hf⟩
 | (f,t)::l,o,e,cs,h,hl,hf=>by
  obtain⟨h1,h2⟩:=(qLJ _ _).mp h
  have h1':f=o:=eq_of_beq h1
  subst h1'
  obtain⟨ds0,⟨g1,g2⟩,g3⟩:=hf (f,t) qLs
  obtain⟨ds1,⟨g4,g5⟩,g6⟩:=qBO l (f+P.cellsOf t) e cs h2 hl (fun x hx=>hf x (qLl _ hx))
  have hle:=qA1 h2
  have hc:ds0.length=P.cellsOf t:=by rw[←g1,qLG,qM0];simp only;omega
  refine⟨ds0++ds1,⟨?_,fun j v d hv hd=>?_⟩,fun x hx=>?_⟩
  ·rw[qLk,hc,←g4,qM0,qM0];omega
  ·by_cases hj:j<P.cellsOf t
   ·rw[qLR (by omega)] at hd
    refine g2 j v d ?_ hd
    rw[qLM hj];exact hv
   ·rw[qLQ (by omega),hc] at hd
    refine g5 (j-P.cellsOf t) v d ?_ hd
    rw[List.getElem?_drop] at hv ⊢
    rw[show f+P.cellsOf t+(j-P.cellsOf t)=f+j by omega];exact hv
  ·rcases qLz.1 hx with rfl|hx
   ·refine⟨qLt _,?_⟩
    rw[Nat.sub_self,List.drop_zero,←hc,List.take_left']
    ·exact g3
    ·rfl
   ·obtain⟨g7,g8⟩:=g6 x hx
    refine⟨by omega,?_⟩
    rw[show x.1-f=ds0.length+(x.1-(f+P.cellsOf t)) by omega,List.drop_length_add_append]
    exact g8
section
variable {H:Type} {enc:TypeId×Value→H} {P:Program} {w:World} {base:Nat} {spare:Nat→Bool} {held:Bool}
theorem qcL {l:List TypeId} (hl:qH8 P l=true):∀(n:Nat) (t:TypeId) (cs:List Value) (x:DataW H×List MemPlace),t∈l→DataW.trod enc P w base spare held n t cs=some x→∃ds,PV w cs ds∧q6W P n t ds
 | 0,t,cs,x,_,h=>by simp[DataW.trod] at h
 | n+1,t,cs,x,hm,h=>by
  have h0:=qLu.1 hl t hm
  have hone:∀(v:Value) (d:D),RD w (fun _=>False) v d→PV w [v] [d]:=fun v d hd=>⟨rfl,fun j v' d' h1 h2=>by
   cases j with
   | zero=>simp only[qLn,qM3] at h1 h2;subst h1 h2;exact hd
   | succ j=>simp at h1⟩
  unfold q6W
  split at h0
  ·rename_i k hu
   obtain⟨z,rfl,-,hw⟩:=DataW.trod_int hu h
   exact⟨_,hone _ _ (.int k z),z,rfl,hw⟩
  ·rename_i hu
   obtain⟨b,rfl,-⟩:=DataW.trod_bool hu h
   exact⟨_,hone _ _ (.bool b),b,rfl⟩
  ·rename_i hu
   obtain⟨s,rfl,-,hw⟩:=DataW.trod_string hu h
   exact⟨_,hone _ _ (.str s),s,rfl,hw⟩
  ·rename_i e hu
   simp only[qLJ,List.contains_eq_mem,qMd] at h0
   obtain⟨he,hc⟩:=h0
   rcases DataW.trod_slice hu h with ⟨rfl,-⟩|⟨a,len,cap,elems,rest,n',hn,rfl,-,hb,hlc,hcm,hlen,hel,-,-⟩
   ·exact⟨_,hone _ _ (.nil none 0 (P.cellsOf e) (qLD _) (fun _=>rfl)),0,[],rfl,qLD _,by simp,fun i hi=>by omega⟩
   ·have hn':n'=n:=by omega
    subst hn'
    have hcell:∀i,i<len→∃cs' y,w.cells? base (a.add (i*P.cellsOf e)) (P.cellsOf e)=some cs'∧DataW.trod enc P w base spare held n' e cs'=some y:=fun i hi=>by
     have h1:=hel i hi
     rw[qLf (by omega)] at h1
     obtain⟨cs',h2,h3⟩:=qLi.1 h1
     exact⟨cs',_,h2,h3⟩
    by_cases hlen0:len=0
    ·subst hlen0
     exact⟨_,hone _ _ (.nil (some a) cap (P.cellsOf e) hcm (fun h=>by cases h)),0,[],rfl,qLD _,by simp,fun i hi=>by omega⟩
    ·obtain⟨b,off,spot⟩:=a
     have hspot:spot=none:=by
      obtain⟨cs',y,h2,-⟩:=hcell 0 (by omega)
      obtain⟨-,h4,h5⟩:=World.cells?_some h2
      have h6:=h5 0 hc
      rw[qLf (by omega)] at h6
      simpa [Addr.add] using World.cell?_spot h6
     subst hspot
     obtain⟨all,hall⟩:∃all:List Value,all=(List.range (len*P.cellsOf e)).map fun j=>(w.cell? ⟨b,off+j,none⟩).getD undef:=⟨_,rfl⟩
     have hal:all.length=len*P.cellsOf e:=by rw[hall];simp
     have hsub:∀i,i<len→∀cs',w.cells? base ((⟨b,off,none⟩:Addr).add (i*P.cellsOf e)) (P.cellsOf e)=some cs'→(all.drop (i*P.cellsOf e)).take (P.cellsOf e)=cs'∧∀j,j<P.cellsOf e→w.cell? ⟨b,off+(i*P.cellsOf e+j),none⟩=cs'[j]?:=fun i hi cs' h2=>by
      obtain⟨-,h4,h5⟩:=World.cells?_some h2
      have hib:(i+1)*P.cellsOf e≤len*P.cellsOf e:=Nat.mul_le_mul_right _ hi
      rw[Nat.add_mul,Nat.one_mul] at hib
      have hcj:∀j,j<P.cellsOf e→w.cell? ⟨b,off+(i*P.cellsOf e+j),none⟩=cs'[j]?:=fun j hj=>by
       have:=h5 j hj
       rw[q12,q12,qM7] at this
       exact this
      refine⟨List.ext_getElem? fun j=>?_,hcj⟩
      by_cases hj:j<P.cellsOf e
      ·rw[qLM hj,List.getElem?_drop,hall,qLr,List.getElem?_range (by omega)]
       simp only[Option.map_some]
       rw[hcj j hj,qLf (by omega)]
       rfl
      ·rw[qLL (by rw[qLG];omega),qLL (by omega)]
     have htl:∀m,m≤len→tl P ((len-m)*P.cellsOf e) (((List.range len).drop (len-m)).map fun i=>(i*P.cellsOf e,e)) (len*P.cellsOf e)=true:=by
      intro m
      induction m with
      | zero=>intro _;rw[qM6,List.drop_of_length_le (by simp)];simp[tl]
      | succ m ih=>
       intro hm'
       rw[List.drop_eq_getElem_cons (by simp;omega)]
       simp only[List.getElem_range,qLA,tl,beq_self_eq_true,qLK]
       have:=ih (by omega)
       rw[show len-m=len-(m+1)+1 by omega] at this
       rw[Nat.add_mul,Nat.one_mul] at this
       exact this
     have htl0:=htl len (qLt _)
     rw[Nat.sub_self,Nat.zero_mul,List.drop_zero] at htl0
     obtain⟨es,hes1,hes2⟩:=qBO (w:=w) (Tt:=q6W P n') _ 0 (len*P.cellsOf e) all htl0 hal (fun f hf=>by
      obtain⟨i,hi,rfl⟩:=qLY.1 hf
      have hi':i<len:=by simpa using hi
      obtain⟨cs',y,h2,h3⟩:=hcell i hi'
      obtain⟨ds,g1,g2⟩:=qcL hl n' e cs' y he h3
      exact⟨ds,by simp only;rw[(hsub i hi' cs' h2).1];exact g1,g2⟩)
     rw[List.drop_zero] at hes1
     have hel':es.length=len*P.cellsOf e:=by rw[←hes1.1,hal]
     have hsome:∀j,j<len*P.cellsOf e→∃v,w.cell? ⟨b,off+j,none⟩=some v∧all[j]?=some v:=fun j hj=>by
      have hdiv:j / P.cellsOf e<len:=Nat.div_lt_of_lt_mul (by rw[Nat.mul_comm];exact hj)
      obtain⟨cs',y,h2,-⟩:=hcell _ hdiv
      obtain⟨-,h4,-⟩:=World.cells?_some h2
      have h5:=(hsub _ hdiv cs' h2).2 (j % P.cellsOf e) (Nat.mod_lt _ hc)
      rw[show j / P.cellsOf e*P.cellsOf e+j % P.cellsOf e=j by rw[Nat.mul_comm];exact Nat.div_add_mod j _] at h5
      rw[qLf (by rw[h4];exact Nat.mod_lt _ hc)] at h5
      refine⟨_,h5,?_⟩
      rw[hall,qLr,List.getElem?_range hj]
      simp only[Option.map_some]
      rw[h5];rfl
     refine⟨[.sl (P.cellsOf e) len es],hone _ _ ?_,len,es,rfl,by omega,hel',fun i hi=>?_⟩
     ·refine .sl b off len cap (P.cellsOf e) es (fun j=>all.getD j undef) hel' hlc hcm ?_ (fun h=>h) (fun j c hj=>?_) (fun j c hj=>?_)
      ·obtain⟨v,hv,-⟩:=hsome 0 (Nat.mul_pos (by omega) hc)
       rcases Nat.lt_or_ge b w.heap.size with hb' | hb'
       ·exact hb'
       ·simp[World.cell?,Array.getElem?_eq_none hb'] at hv
      ·have hj':j<len*P.cellsOf e:=by rw[←hel'];exact(qLh.1 hj).1
       obtain⟨v,h5,h6⟩:=hsome j hj'
       rw[h5,List.getD,h6];rfl
      ·have hj':j<len*P.cellsOf e:=by rw[←hel'];exact(qLh.1 hj).1
       obtain⟨v,h5,h6⟩:=hsome j hj'
       rw[List.getD,h6]
       exact hes1.2 j v c h6 hj
     ·have:=(hes2 (i*P.cellsOf e,e) (qLY.2 ⟨i,by simpa using hi,rfl⟩)).2
      rw[qM6] at this
      exact this
  ·rename_i k e hu
   simp only[qLJ,List.contains_eq_mem,qMd] at h0
   obtain⟨he,ht⟩:=h0
   obtain⟨xs,m,hn,-,h1,h2,h3⟩:=DataW.trod_array hu h
   have hn':m=n:=by omega
   subst hn'
   obtain⟨ds,g1,g2⟩:=qBO (w:=w) (Tt:=q6W P m) _ 0 (P.cellsOf t) cs ht h1 (fun f hf=>by
    obtain⟨i,hi,rfl⟩:=qLY.1 hf
    have hi':i<k:=by simpa using hi
    have h4:=h3 i hi'
    rw[qLf (by omega)] at h4
    exact qcL hl m e _ _ he h4)
   rw[List.drop_zero] at g1
   refine⟨ds,g1,by rw[←g1.1,h1],fun i hi=>?_⟩
   have:=(g2 (i*P.cellsOf e,e) (qLY.2 ⟨i,by simpa using hi,rfl⟩)).2
   rw[qM6] at this
   exact this
  ·rename_i fs hu
   simp only[qLJ] at h0
   obtain⟨he,ht⟩:=h0
   obtain⟨xs,m,hn,-,h1,h2,h3⟩:=DataW.trod_struct hu h
   have hn':m=n:=by omega
   subst hn'
   obtain⟨ds,g1,g2⟩:=qBO (w:=w) (Tt:=q6W P m) _ 0 (P.cellsOf t) cs ht h1 (fun f hf=>by
    obtain⟨f',hf',rfl⟩:=qLY.1 hf
    have hm':f'.type∈l:=by have:=qLu.1 he f' hf';simpa using this
    obtain⟨i,hi⟩:=List.getElem?_of_mem hf'
    have hi2:fs[i]?=some f':=by simpa using hi
    have h4:=h3 i f' hi2
    have hlt:i<xs.length:=by rw[h2];exact(Array.getElem?_eq_some_iff.1 hi2).1
    rw[qLf hlt] at h4
    exact qcL hl m f'.type _ _ hm' h4)
   rw[List.drop_zero] at g1
   refine⟨ds,g1,by rw[←g1.1,h1],fun f hf=>?_⟩
   have:=(g2 (f.offset,f.type) (qLY.2 ⟨f,hf,rfl⟩)).2
   rw[qM6] at this
   exact this
  ·cases h0
end
end
noncomputable section
open Go.RowKit
section
variable {P:Program} {T:Ty} {cx:Cx} {s:S} {l:List Oper} {Q:Exit→S→Prop}
theorem wi (n:Int) (h0 : -9223372036854775808≤n) (h1:n≤9223372036854775807):IntKind.i64.wrap n=n:=by
 have:IntKind.i64.min = -9223372036854775808:=by decide
 have:IntKind.i64.max=9223372036854775807:=by decide
 simp only[IntKind.wrap,IntKind.bits,IntKind.signed]
 simp
 omega
end
end
noncomputable section
open Go.RowKit
abbrev RS:=Option (R×S)
inductive Fx where
 | fn (f:FuncId)
 | rd (f:FuncId) (as bd:Code)
abbrev Orc:=Fx→Nat→List R→List (Nat×B)→Option (R×List (Nat×B))
def qoA (s:S) (c x y:Operand):RS:=
 match s.ev c with
 | .c (.d (.bool t))=>if t=true then some (s.ev x,s) else some (s.ev y,s)
 | _=>none
def qqc (T:Ty) (s:S) (t:TypeId) (x:Operand):RS:=
 match s.ev x with
 | .c (.ptr id off)=>(ld T (s.blk id).cells off t).bind fun r=>some (r,s)
 | .c (.eptr cs off)=>(ld T (cs.map C.d) off t).bind fun r=>some (r,s)
 | _=>none
def qj1 (T:Ty) (s:S) (t:TypeId):RS:=
 match T.k t with
 | .other=>none
 | _=>some (.c (.ptr s.nx 0),s.up [(s.nx,.blk t (T.zero t))])
def qBW (s:S) (t:TypeId) (x:Operand):RS:=
 match (s.ev x).cells with
 | some cs=>if cs.all C.known=true then some (.c (.ptr s.nx 0),s.up [(s.nx,.blk t cs)]) else none
 | none=>none
def q75 (T:Ty) (s:S) (t:TypeId) (x y:Operand):RS:=
 match s.ev x with
 | .c (.ptr id off)=>
  match (s.ev y).cells with
  | some ys=>if ys.all C.known=true∧T.k t ≠ .other∧ys.length=T.sz t∧off+ys.length≤(s.blk id).cells.length∧(s.blk id).isOb=false then some (.any,s.up [(id,(s.blk id).set off ys)]) else none
  | none=>none
 | _=>none
def q6I (T:Ty) (s:S) (t:TypeId) (x:Operand) (f:Nat):RS:=
 match T.foff t f with
 | some (fo,ft)=>
  if T.k ft ≠ .other∧T.sz ft≠0 then
   match s.ev x with
   | .c (.ptr id off)=>some (.c (.ptr id (off+fo)),s)
   | .c (.eptr cs off)=>some (.c (.eptr cs (off+fo)),s)
   | _=>none
  else none
 | none=>none
def q6K (T:Ty) (s:S) (t:TypeId) (x y:Operand):RS:=
 match s.ev y,s.ev x,T.k t with
 | .c (.d (.int _ i)),.c (.d (.sl sz n cs)),.sl e=>if T.k e ≠ .other∧T.sz e=sz then(if 0≤i∧i<n then some (.c (.eptr cs (i.toNat*sz)),s) else none) else none
 | .c (.d (.int _ i)),.c (.own id sz off n),.sl e=>if T.k e ≠ .other∧T.sz e=sz then(if 0≤i∧i<n then some (.c (.ptr id ((off+i.toNat)*sz)),s) else none) else none
 | .c (.d (.int _ i)),.c (.ptr id off),.arr n e=>if T.k e ≠ .other then(if 0≤i∧i<n then some (.c (.ptr id (off+i.toNat*T.sz e)),s) else none) else none
 | _,_,_=>none
def qaG (s:S) (x:Operand) (i:Nat):RS:=
 match s.ev x with
 | .tup rs=>(rs[i]?).bind fun r=>some (r,s)
 | _=>none
def q8c (s:S) (x:Operand):RS:=
 match s.ev x with
 | .c (.ptr id off)=>some (.c (.ptr id off),s)
 | .c (.eptr cs off)=>some (.c (.eptr cs off),s)
 | .c (.fn f fs caps)=>some (.c (.fn f fs caps),s)
 | _=>none
def qen (op:BinOp) (k:IntKind) (a b:Int):Option D:=
 match op with
 | .add=>some (.int k (k.wrap (a+b)))
 | .sub=>some (.int k (k.wrap (a-b)))
 | .mul=>some (.int k (k.wrap (a*b)))
 | .quo=>if b=0 then none else some (.int k (k.wrap (a.tdiv b)))
 | .rem=>if b=0 then none else some (.int k (a.tmod b))
 | .and=>some (.int k (ZG .and k a b))
 | .or=>some (.int k (ZG .or k a b))
 | .xor=>some (.int k (ZG .xor k a b))
 | .andNot=>some (.int k (ZG .andNot k a b))
 | .eql=>some (.bool (a==b))
 | .neq=>some (.bool (a != b))
 | .lss=>some (.bool (decide (a<b)))
 | .leq=>some (.bool (decide (a≤b)))
 | .gtr=>some (.bool (decide (b<a)))
 | .geq=>some (.bool (decide (b≤a)))
 | .shl=>if 0≤b then some (.int k (k.wrap (a*2 ^ min b.toNat k.bits))) else none
 | .shr=>if 0≤b then some (.int k (a.fdiv (2 ^ min b.toNat k.bits))) else none
def qsN (op:BinOp) (a b:ByteArray):Option D:=
 match op with
 | .add=>if a.size+b.size≤9223372036854775807 then some (.str (a++b)) else none
 | .eql=>some (.bool (a.toList==b.toList))
 | .neq=>some (.bool (!(a.toList==b.toList)))
 | .lss=>some (.bool (Op.bytesLess a.toList b.toList))
 | .leq=>some (.bool (Op.bytesLess a.toList b.toList||a.toList==b.toList))
 | .gtr=>some (.bool (!(Op.bytesLess a.toList b.toList||a.toList==b.toList)))
 | .geq=>some (.bool (!Op.bytesLess a.toList b.toList))
 | _=>none
def Kd.isPtr:Kd→Bool
 | .ptr _=>true
 | _=>false
def qwg (T:Ty) (op:BinOp) (t:TypeId) (x y:R):Option D:=
 match op,x,y with
 | .eql,.c (.d (.bool a)),.c (.d (.bool b))=>if T.k t = .bool then some (.bool (a==b)) else none
 | .neq,.c (.d (.bool a)),.c (.d (.bool b))=>if T.k t = .bool then some (.bool (!(a==b))) else none
 | .eql,.c .nilp,.c .nilp=>if(T.k t).isPtr=true then some (.bool true) else none
 | .neq,.c .nilp,.c .nilp=>if(T.k t).isPtr=true then some (.bool false) else none
 | .eql,.c (.ptr _ _),.c .nilp=>if(T.k t).isPtr=true then some (.bool false) else none
 | .neq,.c (.ptr _ _),.c .nilp=>if(T.k t).isPtr=true then some (.bool true) else none
 | .eql,.c (.eptr _ _),.c .nilp=>if(T.k t).isPtr=true then some (.bool false) else none
 | .neq,.c (.eptr _ _),.c .nilp=>if(T.k t).isPtr=true then some (.bool true) else none
 | _,_,_=>none
def qBy (P:Program) (T:Ty) (op:BinOp) (t:TypeId) (xs ys:List C):Option D:=
 match op with
 | .eql=>(eqR P T 5 t (.agg xs) (.agg ys)).bind fun b=>some (.bool b)
 | .neq=>(eqR P T 5 t (.agg xs) (.agg ys)).bind fun b=>some (.bool (!b))
 | _=>none
def qBx (P:Program) (T:Ty) (s:S) (op:BinOp) (t:TypeId) (x y:Operand):RS:=
 match s.ev x,s.ev y with
 | .c (.d (.int k a)),.c (.d (.int k' b))=>if(qw2 op||decide (k=k'))=true then(qen op k a b).bind fun d=>some (.c (.d d),s) else none
 | .c (.d (.str a)),.c (.d (.str b))=>(qsN op a b).bind fun d=>some (.c (.d d),s)
 | .agg xs,.agg ys=>(qBy P T op t xs ys).bind fun d=>some (.c (.d d),s)
 | u,v=>(qwg T op t u v).bind fun d=>some (.c (.d d),s)
def xUn (s:S) (op:UnOp) (x:Operand):RS:=
 match op,s.ev x with
 | .not,.c (.d (.bool b))=>some (.c (.d (.bool (!b))),s)
 | .neg,.c (.d (.int k n))=>some (.c (.d (.int k (k.wrap (0-n)))),s)
 | _,_=>none
def Kd.isSl:Kd→Bool
 | .sl _=>true
 | _=>false
def qBR (T:Ty) (s:S) (t:TypeId) (x:Operand):RS:=
 match s.ev x with
 | .c (.d (.str b))=>if T.k t = .str then some (.c (.d (.int .i64 b.size)),s) else none
 | .c (.d (.sl _ n _))=>if(T.k t).isSl=true then some (.c (.d (.int .i64 n)),s) else none
 | .c (.own _ _ _ n)=>if(T.k t).isSl=true then some (.c (.d (.int .i64 n)),s) else none
 | .c .nils=>if(T.k t).isSl=true then some (.c (.d (.int .i64 0)),s) else none
 | .agg _=>match T.k t with | .arr n _=>some (.c (.d (.int .i64 n)),s)|_=>none
 | _=>none
def qBP (s:S) (x y:Operand):RS:=
 match s.ev x,s.ev y with
 | .c (.d (.int k m)),.c (.d (.int _ n))=>some (.c (.d (.int k (min m n))),s)
 | _,_=>none
def qBM (s:S) (x y:Operand):RS:=
 match s.ev x,s.ev y with
 | .c (.d (.int k m)),.c (.d (.int _ n))=>some (.c (.d (.int k (max m n))),s)
 | _,_=>none
def qol (T:Ty) (s:S) (t t':TypeId) (x:Operand):RS:=
 match T.k t,T.k t',s.ev x with
 | .int _,.int k,.c (.d (.int _ n))=>some (.c (.d (.int k (k.wrap n))),s)
 | .str,.str,.c (.d (.str b))=>some (.c (.d (.str b)),s)
 | .str,.sl e,.c (.d (.str b))=>if T.k e = .int .u8 then(if b.size≤4611686018427387903 then some (.c (.d (.sl 1 b.size (u8s b.data.toList))),s) else none) else none
 | .sl e,.str,.c (.own id sz off n)=>if T.k e = .int .u8∧sz=1 then(qp7 (((s.blk id).cells.drop off).take n)).bind fun ns=>if ns.length=n then some (.c (.d (.str (q8D ns))),s) else none else none
 | .sl e,.str,.c (.d (.sl sz _ cs))=>if T.k e = .int .u8∧sz=1 then(qmf cs).bind fun ns=>some (.c (.d (.str (q8D ns))),s) else none
 | .sl e,.str,.c .nils=>if T.k e = .int .u8 then some (.c (.d (.str ⟨#[]⟩)),s) else none
 | _,_,_=>none
def qfe (T:Ty) (s:S) (t:TypeId) (x:Operand) (lo hi mx:Option Operand):RS:=
 match mx,s.ev x,T.k t with
 | none,.c (.d (.str b)),.str=>
  match s.bd lo 0,s.bd hi b.size with
  | some l,some h=>if 0≤l∧l≤h∧h≤b.size then some (.c (.d (.str (b.extract l.toNat h.toNat))),s) else none
  | _,_=>none
 | none,.c (.d (.sl sz n cs)),.sl e=>
  if T.k e ≠ .other∧T.sz e=sz then
   match s.bd lo 0,s.bd hi n with
   | some l,some h=>if 0≤l∧l≤h∧h≤n then some (.c (.d (.sl sz (h.toNat-l.toNat) ((cs.drop (l.toNat*sz)).take ((h.toNat-l.toNat)*sz)))),s) else none
   | _,_=>none
  else none
 | none,.c (.own id sz off n),.sl e=>
  if T.k e ≠ .other∧T.sz e=sz then
   match s.bd lo 0,s.bd hi n with
   | some l,some h=>if 0≤l∧l≤h∧h≤n then(if l=0∨l<n then some (.c (.own id sz (off+l.toNat) (h.toNat-l.toNat)),s) else some (.c (.d (.sl sz 0 [])),s)) else none
   | _,_=>none
  else none
 | none,.c .nils,.sl e=>
  if T.k e ≠ .other then
   match s.bd lo 0,s.bd hi 0 with
   | some l,some h=>if l=0∧h=0 then some (.c .nils,s) else none
   | _,_=>none
  else none
 | _,_,_=>none
def qkd (T:Ty) (s:S) (t:TypeId) (x:Operand) (f:Nat):RS:=
 match s.ev x with
 | .agg xs=>match T.foff t f with|some (fo,ft)=>(ld T xs fo ft).bind fun r=>some (r,s)|none=>none
 | _=>none
def ql0 (T:Ty) (s:S) (t:TypeId) (x y:Operand):RS:=
 match s.ev y,s.ev x,T.k t with
 | .c (.d (.int _ i)),.agg xs,.arr n e=>if T.k e ≠ .other then(if 0≤i∧i<n then(ld T xs (i.toNat*T.sz e) e).bind fun r=>some (r,s) else none) else none
 | .c (.d (.int _ i)),.c (.d (.str b)),.str=>if 0≤i then(b.data.toList[i.toNat]?).bind fun c=>some (.c (.d (.int .u8 c.toNat)),s) else none
 | _,_,_=>none
def qhV (T:Ty) (s:S) (t:TypeId) (parts:List (Nat×Operand)):RS:=
 match T.k t with
 | .st fs=>if fs.all (fun f=>decide (T.k f.2 ≠ .other))=true then(bld s (q2g T t) parts (T.zero t)).bind fun cs=>some (.agg cs,s) else none
 | .arr _ e=>if T.k e ≠ .other then(bld s (fun i=>some (i*T.sz e,T.sz e)) parts (T.zero t)).bind fun cs=>some (.agg cs,s) else none
 | _=>none
def q2l (T:Ty) (s:S) (t:TypeId) (len:Nat) (parts:List (Nat×Operand)):RS:=
 match T.k t with
 | .sl e=>if T.k e ≠ .other∧0<T.sz e∧len*T.sz e≤16777216 then(bld s (fun i=>some (i*T.sz e,T.sz e)) parts (List.replicate (len*T.sz e) .any)).bind fun cs=>some (.c (.own s.nx (T.sz e) 0 len),s.up [(s.nx,.row e (T.sz e) cs)]) else none
 | _=>none
def q8O (s:S) (f:Fn) (first captured:List Operand):RS:=
 match f with
 | .func g=>(first.mapM s.cell1).bind fun fs=>(captured.mapM s.cell1).bind fun caps=>some (.c (.fn g fs caps),s)
 | _=>none
def qhb (T:Ty) (s:S) (t:TypeId) (x y:Operand):RS:=
 match s.ev x,s.ev y,T.k t with
 | .c (.d (.int _ l)),.c (.d (.int _ c)),.sl e=>
  if T.k e ≠ .other∧0<T.sz e∧(T.zero e).length=T.sz e then
   (if 0≤l∧l≤c∧(T.by_ e:Int)*c≤281474976710656∧c≤9223372036854775807 then some (.c (.own s.nx (T.sz e) 0 l.toNat),s.up [(s.nx,.row e (T.sz e) (List.replicate l.toNat (T.zero e)).flatten)]) else none)
  else none
 | _,_,_=>none
def q7g (T:Ty) (s:S) (t:TypeId) (x y:Operand):RS:=
 match T.k t,s.seq y with
 | .sl e,some (m,ys)=>
  if T.k e ≠ .other∧0<T.sz e∧(T.zero e).length=T.sz e∧ys.all C.known=true∧ys.length=m*T.sz e then
   match s.ev x with
   | .c (.own id sz off n)=>
    match s.blk id with
    | .row e' sz' cs=>
     if e'=e∧sz'=sz∧sz=T.sz e∧off=0∧cs.length=n*sz∧cs.all (C.far id)=true∧ys.all (C.far id)=true then
      (if n+m≤maxLen∧(n+m)*T.by_ e≤140737488355328 then some (.c (.own id sz 0 (n+m)),(s.fg id).up [(id,.row e sz (cs++ys))]) else none)
     else none
    | _=>none
   | .c .nils=>if ys.all (C.far s.nx)=true then(if m≤maxLen∧m*T.by_ e≤140737488355328 then some (.c (.own s.nx (T.sz e) 0 m),(s.fg s.nx).up [(s.nx,.row e (T.sz e) ys)]) else none) else none
   | _=>none
  else none
 | _,_=>none
section
variable {P:Program} {T:Ty} {s s':S} {r:R} {K:KK}
theorem qoe {c x y:Operand} (h:qoA s c x y=some (r,s')) (hK:K r s'):qcV s c x y K:=by
 unfold qoA at h;unfold qcV
 split at h
 ·rename_i t ht
  simp only[ht]
  split at h
  ·rename_i hb;subst hb;injection h with h;injection h with h1 h2;subst h1 h2;exact hK
  ·rename_i hb;cases t
   ·injection h with h;injection h with h1 h2;subst h1 h2;exact hK
   ·exact absurd rfl hb
 ·cases h
theorem QX {α β:Type} {o:Option α} {f:α→Option β} {b:β} (h:o.bind f=some b):∃a,o=some a∧f a=some b:=qLi.1 h
theorem Zz {a c:R} {b d:S} (h:some (a,b)=some (c,d)):a=c∧b=d:=by injection h with h;injection h with h1 h2;exact⟨h1,h2⟩
theorem qou {t:TypeId} {x:Operand} (h:qqc T s t x=some (r,s')) (hK:K r s'):qd1 T s t x K:=by
 unfold qqc at h;unfold qd1
 split at h
 ·rename_i hx;simp only[hx];obtain⟨a,h1,h2⟩:=QX h;obtain⟨rfl,rfl⟩:=Zz h2;exact⟨_,h1,hK⟩
 ·rename_i hx;simp only[hx];obtain⟨a,h1,h2⟩:=QX h;obtain⟨rfl,rfl⟩:=Zz h2;exact⟨_,h1,hK⟩
 ·cases h
theorem qlx {t:TypeId} (h:qj1 T s t=some (r,s')) (hK:K r s'):qe9 T s s.nx t K:=by
 unfold qj1 at h
 split at h
 ·cases h
 ·rename_i hn;obtain⟨rfl,rfl⟩:=Zz h;exact⟨hn,hK⟩
theorem qs3 {t:TypeId} {x:Operand} (h:qBW s t x=some (r,s')) (hK:K r s'):qoW s s.nx t x K:=by
 unfold qBW at h
 split at h
 ·rename_i cs hcs
  split at h
  ·rename_i hk;obtain⟨rfl,rfl⟩:=Zz h;exact⟨cs,hcs,hk,hK⟩
  ·cases h
 ·cases h
theorem qfn {t:TypeId} {x y:Operand} (h:q75 T s t x y=some (r,s')) (hK:K r s'):qbH T s t x y K:=by
 unfold q75 at h;unfold qbH
 split at h
 ·rename_i hx;simp only[hx];split at h
  ·rename_i ys hys
   split at h
   ·rename_i hc;obtain⟨rfl,rfl⟩:=Zz h;exact⟨ys,hys,hc.1,hc.2.1,hc.2.2.1,hc.2.2.2.1,hc.2.2.2.2,hK⟩
   ·cases h
  ·cases h
 ·cases h
theorem qdW {t:TypeId} {x:Operand} {f:Nat} (h:q6I T s t x f=some (r,s')) (hK:K r s'):q3z T s t x f K:=by
 unfold q6I at h;unfold q3z
 split at h
 ·rename_i fo ft hf
  split at h
  ·rename_i hc
   refine⟨fo,ft,hf,hc.1,hc.2,?_⟩
   split at h
   ·rename_i hx;simp only[hx];obtain⟨rfl,rfl⟩:=Zz h;exact hK
   ·rename_i hx;simp only[hx];obtain⟨rfl,rfl⟩:=Zz h;exact hK
   ·cases h
  ·cases h
 ·cases h
theorem qdV {t:TypeId} {x y:Operand} (h:q6K T s t x y=some (r,s')) (hK:K r s'):q2m T s t x y K:=by
 unfold q6K at h;unfold q2m
 split at h
 ·rename_i h1 h2 h3
  split at h
  ·rename_i hc
   split at h
   ·rename_i hb;obtain⟨rfl,rfl⟩:=Zz h;simp only[h1,h2];exact⟨_,h3,hc.1,hc.2,hb.1,hb.2,hK⟩
   ·cases h
  ·cases h
 ·rename_i h1 h2 h3
  split at h
  ·rename_i hc
   split at h
   ·rename_i hb;obtain⟨rfl,rfl⟩:=Zz h;simp only[h1,h2];exact⟨_,h3,hc.1,hc.2,hb.1,hb.2,hK⟩
   ·cases h
  ·cases h
 ·rename_i h1 h2 h3
  split at h
  ·rename_i hc
   split at h
   ·rename_i hb;obtain⟨rfl,rfl⟩:=Zz h;simp only[h1,h2];exact⟨_,_,h3,hc,hb.1,hb.2,hK⟩
   ·cases h
  ·cases h
 ·cases h
theorem qgk {x:Operand} {i:Nat} (h:qaG s x i=some (r,s')) (hK:K r s'):q4y s x i K:=by
 unfold qaG at h;unfold q4y
 split at h
 ·rename_i hx;simp only[hx];obtain⟨a,h1,h2⟩:=QX h;obtain⟨rfl,rfl⟩:=Zz h2;exact⟨_,h1,hK⟩
 ·cases h
theorem qfp {x:Operand} (h:q8c s x=some (r,s')) (hK:K r s'):q3l s x K:=by
 unfold q8c at h;unfold q3l
 split at h
 ·rename_i hx;simp only[hx];obtain⟨rfl,rfl⟩:=Zz h;exact hK
 ·rename_i hx;simp only[hx];obtain⟨rfl,rfl⟩:=Zz h;exact hK
 ·rename_i hx;simp only[hx];obtain⟨rfl,rfl⟩:=Zz h;exact hK
 ·cases h
theorem qsZ {op:BinOp} {k:IntKind} {a b:Int} {d:D} {K:R→Prop} (h:qen op k a b=some d) (hK:K (.c (.d d))):qex op k a b K:=by
 unfold qen at h;unfold qex
 cases op<;>simp only at h ⊢ <;> first
  | (injection h with h;subst h;exact hK)
  | (split at h<;>first|(cases h;done)|(injection h with h;subst h;exact⟨by assumption,hK⟩))
theorem qvF {op:BinOp} {a b:ByteArray} {d:D} {K:R→Prop} (h:qsN op a b=some d) (hK:K (.c (.d d))):qf5 op a b K:=by
 unfold qsN at h;unfold qf5
 cases op<;>simp only at h ⊢ <;> first
  | (injection h with h;subst h;exact hK)
  | (split at h<;>first|(cases h;done)|(injection h with h;subst h;exact⟨by assumption,hK⟩))
  | cases h
theorem qqr {k:Kd} (h:k.isPtr=true):∃e,k = .ptr e:=by cases k<;>simp[Kd.isPtr] at h;exact⟨_,rfl⟩
theorem qg6 {k:Kd} (h:k.isSl=true):∃e,k = .sl e:=by cases k<;>simp[Kd.isSl] at h;exact⟨_,rfl⟩
theorem qrD {op:BinOp} {t:TypeId} {x y:R} {d:D} {K:R→Prop} (h:qwg T op t x y=some d) (hK:K (.c (.d d))):qf6 T op t x y K:=by
 unfold qwg at h;unfold qf6
 split at h<;>first
  | (cases h;done)
  | (split at h
     ·injection h with h;subst h;first|exact⟨by assumption,hK⟩|exact⟨qqr (by assumption),hK⟩
     ·cases h)
theorem qsq {op:BinOp} {t:TypeId} {xs ys:List C} {d:D} {K:R→Prop} (h:qBy P T op t xs ys=some d) (hK:K (.c (.d d))):qez P T op t xs ys K:=by
 unfold qBy at h;unfold qez
 split at h
 ·obtain⟨b,h1,h2⟩:=QX h;injection h2 with h2;subst h2;exact⟨b,h1,hK⟩
 ·obtain⟨b,h1,h2⟩:=QX h;injection h2 with h2;subst h2;exact⟨b,h1,hK⟩
 ·cases h
theorem qsv {op:BinOp} {t:TypeId} {x y:Operand} (h:qBx P T s op t x y=some (r,s')) (hK:K r s'):qjf P T s op t x y K:=by
 unfold qBx at h;unfold qjf
 split at h
 ·rename_i h1 h2
  simp only[h1,h2]
  split at h
  ·rename_i hc
   obtain⟨d,h3,h4⟩:=QX h;obtain⟨rfl,rfl⟩:=Zz h4
   exact⟨by simpa using hc,qsZ (K:=fun r=>K r s) h3 hK⟩
  ·cases h
 ·rename_i h1 h2
  simp only[h1,h2]
  obtain⟨d,h3,h4⟩:=QX h;obtain⟨rfl,rfl⟩:=Zz h4
  exact qvF (K:=fun r=>K r s) h3 hK
 ·rename_i h1 h2
  simp only[h1,h2]
  obtain⟨d,h3,h4⟩:=QX h;obtain⟨rfl,rfl⟩:=Zz h4
  exact qsq (K:=fun r=>K r s) h3 hK
 ·rename_i n1 n2 n3
  obtain⟨d,h3,h4⟩:=QX h;obtain⟨rfl,rfl⟩:=Zz h4
  have:=qrD (K:=fun r=>K r s) h3 hK
  split
  ·rename_i h1 h2;exact(n1 _ _ _ _ h1 h2).elim
  ·rename_i h1 h2;exact(n2 _ _ h1 h2).elim
  ·rename_i h1 h2;exact(n3 _ _ h1 h2).elim
  ·exact this
theorem qAa {op:UnOp} {x:Operand} (h:xUn s op x=some (r,s')) (hK:K r s'):qw6 s op x K:=by
 unfold xUn at h;unfold qw6
 split at h
 ·rename_i h1;obtain⟨rfl,rfl⟩:=Zz h;simp only[h1];exact hK
 ·rename_i h1;obtain⟨rfl,rfl⟩:=Zz h;simp only[h1];exact hK
 ·cases h
theorem qtY {t:TypeId} {x:Operand} (h:qBR T s t x=some (r,s')) (hK:K r s'):qjP T s t x K:=by
 unfold qBR at h;unfold qjP
 split at h
 ·rename_i hx;simp only[hx];split at h
  ·rename_i hc;obtain⟨rfl,rfl⟩:=Zz h;exact⟨hc,hK⟩
  ·cases h
 ·rename_i hx;simp only[hx];split at h
  ·rename_i hc;obtain⟨rfl,rfl⟩:=Zz h;exact⟨qg6 hc,hK⟩
  ·cases h
 ·rename_i hx;simp only[hx];split at h
  ·rename_i hc;obtain⟨rfl,rfl⟩:=Zz h;exact⟨qg6 hc,hK⟩
  ·cases h
 ·rename_i hx;simp only[hx];split at h
  ·rename_i hc;obtain⟨rfl,rfl⟩:=Zz h;exact⟨qg6 hc,hK⟩
  ·cases h
 ·rename_i hx;simp only[hx];split at h
  ·rename_i n e hc;obtain⟨rfl,rfl⟩:=Zz h;exact⟨n,e,hc,hK⟩
  ·cases h
 ·cases h
theorem qs0 {x y:Operand} (h:qBP s x y=some (r,s')) (hK:K r s'):qjx s x y K:=by
 unfold qBP at h;unfold qjx
 split at h
 ·rename_i h1 h2;obtain⟨rfl,rfl⟩:=Zz h;simp only[h1,h2];exact hK
 ·cases h
theorem quq {x y:Operand} (h:qBM s x y=some (r,s')) (hK:K r s'):qjE s x y K:=by
 unfold qBM at h;unfold qjE
 split at h
 ·rename_i h1 h2;obtain⟨rfl,rfl⟩:=Zz h;simp only[h1,h2];exact hK
 ·cases h
theorem qqw {t t':TypeId} {x:Operand} (h:qol T s t t' x=some (r,s')) (hK:K r s'):qcU T s t t' x K:=by
 unfold qol at h;unfold qcU
 split at h
 ·rename_i h1 h2 h3;obtain⟨rfl,rfl⟩:=Zz h;simp only[h1,h2,h3];exact hK
 ·rename_i h1 h2 h3;obtain⟨rfl,rfl⟩:=Zz h;simp only[h1,h2,h3];exact hK
 ·rename_i h1 h2 h3
  simp only[h1,h2,h3]
  split at h
  ·rename_i hc
   split at h
   ·rename_i hb;obtain⟨rfl,rfl⟩:=Zz h;exact⟨hc,hb,hK⟩
   ·cases h
  ·cases h
 ·rename_i h1 h2 h3
  simp only[h1,h2,h3]
  split at h
  ·rename_i hc
   obtain⟨ns,h4,h5⟩:=QX h
   split at h5
   ·rename_i hb;obtain⟨rfl,rfl⟩:=Zz h5;exact⟨hc.1,hc.2,ns,h4,hb,hK⟩
   ·cases h5
  ·cases h
 ·rename_i h1 h2 h3
  simp only[h1,h2,h3]
  split at h
  ·rename_i hc
   obtain⟨ns,h4,h5⟩:=QX h
   obtain⟨rfl,rfl⟩:=Zz h5;exact⟨hc.1,hc.2,ns,h4,hK⟩
  ·cases h
 ·rename_i h1 h2 h3
  simp only[h1,h2,h3]
  split at h
  ·rename_i hc;obtain⟨rfl,rfl⟩:=Zz h;exact⟨hc,hK⟩
  ·cases h
 ·cases h
theorem qnq {t:TypeId} {x:Operand} {lo hi mx:Option Operand} (h:qfe T s t x lo hi mx=some (r,s')) (hK:K r s'):q9d T s t x lo hi mx K:=by
 unfold qfe at h;unfold q9d
 split at h
 ·rename_i h1 h2
  simp only[h1]
  split at h
  ·rename_i l u h3 h4
   split at h
   ·rename_i hc;obtain⟨rfl,rfl⟩:=Zz h;exact⟨h2,trivial,l,u,h3,h4,hc.1,hc.2.1,hc.2.2,hK⟩
   ·cases h
  ·cases h
 ·rename_i h1 h2
  simp only[h1]
  split at h
  ·rename_i hq
   split at h
   ·rename_i l u h3 h4
    split at h
    ·rename_i hc;obtain⟨rfl,rfl⟩:=Zz h;exact⟨_,h2,hq.1,hq.2,trivial,l,u,h3,h4,hc.1,hc.2.1,hc.2.2,hK⟩
    ·cases h
   ·cases h
  ·cases h
 ·rename_i h1 h2
  simp only[h1]
  split at h
  ·rename_i hq
   split at h
   ·rename_i l u h3 h4
    split at h
    ·rename_i hc
     refine⟨_,h2,hq.1,hq.2,trivial,l,u,h3,h4,hc.1,hc.2.1,hc.2.2,fun hx=>?_,fun hx=>?_⟩
     ·rw[if_pos hx] at h;obtain⟨rfl,rfl⟩:=Zz h;exact hK
     ·rw[if_neg hx] at h;obtain⟨rfl,rfl⟩:=Zz h;exact hK
    ·cases h
   ·cases h
  ·cases h
 ·rename_i h1 h2
  simp only[h1]
  split at h
  ·rename_i hq
   split at h
   ·rename_i l u h3 h4
    split at h
    ·rename_i hc;obtain⟨rfl,rfl⟩:=Zz h;exact⟨_,h2,hq,trivial,hc.1 ▸ h3,hc.2 ▸ h4,hK⟩
    ·cases h
   ·cases h
  ·cases h
 ·cases h
theorem qm2 {t:TypeId} {x:Operand} {f:Nat} (h:qkd T s t x f=some (r,s')) (hK:K r s'):q9j T s t x f K:=by
 unfold qkd at h;unfold q9j
 split at h
 ·rename_i hx;simp only[hx];split at h
  ·rename_i fo ft hf
   obtain⟨q,h1,h2⟩:=QX h;obtain⟨rfl,rfl⟩:=Zz h2;exact⟨fo,ft,_,hf,h1,hK⟩
  ·cases h
 ·cases h
theorem qn4 {t:TypeId} {x y:Operand} (h:ql0 T s t x y=some (r,s')) (hK:K r s'):q9z T s t x y K:=by
 unfold ql0 at h;unfold q9z
 split at h
 ·rename_i h1 h2 h3
  simp only[h1,h2]
  split at h
  ·rename_i hq
   split at h
   ·rename_i hb
    obtain⟨q,h4,h5⟩:=QX h;obtain⟨rfl,rfl⟩:=Zz h5;exact⟨_,_,_,h3,hq,hb.1,hb.2,h4,hK⟩
   ·cases h
  ·cases h
 ·rename_i h1 h2 h3
  simp only[h1,h2]
  split at h
  ·rename_i hb
   obtain⟨q,h4,h5⟩:=QX h;obtain⟨rfl,rfl⟩:=Zz h5;exact⟨h3,hb,q,h4,hK⟩
  ·cases h
 ·cases h
theorem qk3 {t:TypeId} {parts:List (Nat×Operand)} (h:qhV T s t parts=some (r,s')) (hK:K r s'):q99 T s t parts K:=by
 unfold qhV at h;unfold q99
 split at h
 ·rename_i fs hk
  simp only[hk]
  split at h
  ·rename_i hc
   obtain⟨q,h4,h5⟩:=QX h;obtain⟨rfl,rfl⟩:=Zz h5;exact⟨hc,q,h4,hK⟩
  ·cases h
 ·rename_i fs hk
  simp only[hk]
  split at h
  ·rename_i hc
   obtain⟨q,h4,h5⟩:=QX h;obtain⟨rfl,rfl⟩:=Zz h5;exact⟨hc,q,h4,hK⟩
  ·cases h
 ·cases h
theorem qch {t:TypeId} {len:Nat} {parts:List (Nat×Operand)} (h:q2l T s t len parts=some (r,s')) (hK:K r s'):q2K T s s.nx t len parts K:=by
 unfold q2l at h;unfold q2K
 split at h
 ·rename_i e hk
  split at h
  ·rename_i hc
   obtain⟨q,h4,h5⟩:=QX h;obtain⟨rfl,rfl⟩:=Zz h5;exact⟨e,hk,hc.1,hc.2.1,hc.2.2,q,h4,hK⟩
  ·cases h
 ·cases h
theorem qew {f:Fn} {first captured:List Operand} (h:q8O s f first captured=some (r,s')) (hK:K r s'):q3k s f first captured K:=by
 unfold q8O at h;unfold q3k
 split at h
 ·obtain⟨q,h4,h5⟩:=QX h
  obtain⟨q',h6,h7⟩:=QX h5
  obtain⟨rfl,rfl⟩:=Zz h7;exact⟨q,q',h4,h6,hK⟩
 ·cases h
theorem qiQ {t:TypeId} {x y:Operand} (h:qhb T s t x y=some (r,s')) (hK:K r s'):qcK T s s.nx t x y K:=by
 unfold qhb at h;unfold qcK
 split at h
 ·rename_i h1 h2 h3
  simp only[h1,h2]
  split at h
  ·rename_i hc
   split at h
   ·rename_i hb;obtain⟨rfl,rfl⟩:=Zz h;exact⟨_,h3,hc.1,hc.2.1,hc.2.2,hb.1,hb.2.1,hb.2.2.1,hb.2.2.2,hK⟩
   ·cases h
  ·cases h
 ·cases h
theorem q97 {t:TypeId} {x y:Operand} (h:q7g T s t x y=some (r,s')) (hK:K r s'):q8d T s s.nx t x y K:=by
 unfold q7g at h;unfold q8d
 split at h
 ·rename_i e m ys h1 h2
  split at h
  ·rename_i hc
   refine⟨e,m,ys,h1,hc.1,hc.2.1,hc.2.2.1,h2,hc.2.2.2.1,hc.2.2.2.2,?_⟩
   split at h
   ·rename_i id sz off n hx
    simp only[hx]
    split at h
    ·rename_i e' sz' cs hb
     split at h
     ·rename_i hq
      obtain⟨rfl,rfl,q1,q2,q3,q4,q5⟩:=hq
      split at h
      ·rename_i hz;obtain⟨rfl,rfl⟩:=Zz h;exact⟨q1,q2,cs,hb,q3,q4,q5,hz.1,hz.2,hK⟩
      ·cases h
     ·cases h
    ·cases h
   ·rename_i hx
    simp only[hx]
    split at h
    ·rename_i hq
     split at h
     ·rename_i hz;obtain⟨rfl,rfl⟩:=Zz h;exact⟨hq,hz.1,hz.2,hK⟩
     ·cases h
    ·cases h
   ·cases h
  ·cases h
 ·cases h
end
end
noncomputable section
open Go.RowKit
def qdw:List C→Option (List D)
 | []=>some []
 | .d x::r=>(qdw r).bind fun l=>some (x::l)
 | _::_=>none
theorem qdg:∀{cs:List C} {ds:List D},qdw cs=some ds→cs=ds.map C.d
 | [],ds,h=>by injection h with h;subst h;rfl
 | c::r,ds,h=>by
  unfold qdw at h
  split at h
  ·rename_i heq;cases heq
  ·rename_i x r' heq
   injection heq with h1 h2
   subst h1 h2
   obtain⟨l,h3,h4⟩:=qLi.1 h
   injection h4 with h4
   subst h4
   rw[qdg h3];rfl
  ·cases h
theorem q6h:∀(ds:List D),qdw (ds.map C.d)=some ds
 | []=>rfl
 | x::l=>by simp only[qLA,qdw,q6h l,qLd]
def pos (i:Nat):List Nat→Option Nat
 | []=>none
 | j::r=>if j=i then some 0 else(pos i r).bind fun k=>some (k+1)
theorem qb7 {i:Nat}:∀{l:List Nat} {j:Nat},pos i l=some j→l[j]?=some i
 | [],j,h=>by cases h
 | x::r,j,h=>by
  unfold pos at h
  split at h
  ·rename_i hx;injection h with h;subst h hx;rfl
  ·obtain⟨k,h1,h2⟩:=qLi.1 h
   injection h2 with h2
   subst h2
   rw[qLC]
   exact qb7 h1
def vis (cs:List C) (sz o n:Nat):Option (List C):=if o=0∧cs.length=n*sz then some cs else if o*sz+n*sz≤cs.length then some ((cs.drop (o*sz)).take (n*sz)) else none
theorem qrg {cs:List C} {sz o n:Nat} {l:List C} (h:vis cs sz o n=some l):(cs.drop (o*sz)).take (n*sz)=l∧l.length=n*sz:=by
 unfold vis at h
 split at h
 ·rename_i hc
  injection h with h
  obtain⟨rfl,h2⟩:=hc
  subst h
  simp[←h2]
 ·split at h
  ·rename_i hc
   injection h with h
   subst h
   refine⟨rfl,?_⟩
   simp;omega
  ·cases h
def cv0 (s:S) (sel ln:List Nat) (z:Nat):C→Option C
 | .d x=>some (.d x)
 | .nilp=>some .nilp
 | .nilf=>some .nilf
 | .nilm=>some .nilm
 | .nils=>if z=0 then some .nils else some (.d (.sl z 0 []))
 | .eptr cs o=>some (.eptr cs o)
 | .any=>some .any
 | .ptr i o=>(pos i sel).bind fun j=>some (.ptr j o)
 | .hd k i=>(pos i sel).bind fun j=>some (.hd k j)
 | .own i sz o n=>
  match pos i sel with
  | some j=>some (.own j sz o n)
  | none=>if ln.contains i=true then(vis (s.blk i).cells sz o n).bind fun v=>(qdw v).bind fun ds=>some (.d (.sl sz n ds)) else none
 | .fn _ _ _=>none
def qo5 (s:S) (sel ln:List Nat):List C→Option (List C)
 | []=>some []
 | x::r=>(cv0 s sel ln 0 x).bind fun y=>(qo5 s sel ln r).bind fun l=>some (y::l)
def cv (s:S) (sel ln:List Nat) (z:Nat):C→Option C
 | .fn f fs caps=>(qo5 s sel ln fs).bind fun fs'=>(qo5 s sel ln caps).bind fun caps'=>some (.fn f fs' caps')
 | c=>cv0 s sel ln z c
def cvL (s:S) (sel ln:List Nat):List Nat→List C→Option (List C)
 | _,[]=>some []
 | zs,x::r=>(cv s sel ln (zs.headD 0) x).bind fun y=>(cvL s sel ln zs.tail r).bind fun l=>some (y::l)
def cvR (s:S) (sel ln:List Nat) (zs:List Nat):R→Option R
 | .c x=>(cv s sel ln (zs.headD 0) x).bind fun y=>some (.c y)
 | .agg xs=>(cvL s sel ln zs xs).bind fun ys=>some (.agg ys)
 | .any=>some .any
 | .tup _=>none
def qk2 (s:S) (sel ln:List Nat):List (List Nat)→List R→Option (List R)
 | _,[]=>some []
 | zs,x::r=>(cvR s sel ln (zs.headD []) x).bind fun y=>(qk2 s sel ln zs.tail r).bind fun l=>some (y::l)
def qqO (s:S) (sel:List Nat) (r:R):R:=(cvR s sel [] [] r).getD .any
def cvA (s:S) (sel:List Nat):AO→Option AO
 | .mp es ck=>some (.mp (es.map fun e=>(e.1,qqO s sel e.2.1,e.2.2)) ck)
 | .lp f tm ps a b st p=>some (.lp f (tm.map (qqO s sel)) ps a b st p)
 | .si t p=>some (.si t p)
 | .df=>some .df
 | .mi m c l=>some (.mi (qqO s sel m) c l)
 | .m1 _ _ _ _=>none
def cvB (s:S) (sel:List Nat):B→Option B
 | .blk t cs=>(cvL s sel [] [] cs).bind fun ys=>some (.blk t ys)
 | .row e sz cs=>if cs.all C.dat=true then some (.row e sz cs) else none
 | .ob o=>(cvA s sel o).bind fun o'=>some (.ob o')
 | .dead=>none
def cvG (s:S) (sel:List Nat):List Nat→Nat→Option (List (Nat×B))
 | [],_=>some []
 | i::l,j=>(cvB s sel (s.blk i)).bind fun b=>(cvG s sel l (j+1)).bind fun G=>some ((j,b)::G)
section
variable {s:S} {sel ln:List Nat}
theorem qrw {z:Nat} {x y:C} (h:cv0 s sel ln z x=some y):CR s sel ln x y:=by
 unfold cv0 at h
 split at h
 ·injection h with h;subst h;exact .dat _ rfl
 ·injection h with h;subst h;exact .dat _ rfl
 ·injection h with h;subst h;exact .dat _ rfl
 ·injection h with h;subst h;exact .dat _ rfl
 ·split at h
  ·injection h with h;subst h;exact .dat _ rfl
  ·injection h with h;subst h;exact .nils _
 ·injection h with h;subst h;exact .dat _ rfl
 ·injection h with h;subst h;exact .any _
 ·obtain⟨j,h1,h2⟩:=qLi.1 h
  injection h2 with h2;subst h2
  exact .ptr _ _ _ (qb7 h1)
 ·obtain⟨j,h1,h2⟩:=qLi.1 h
  injection h2 with h2;subst h2
  exact .hd _ _ _ (qb7 h1)
 ·split at h
  ·rename_i j hj
   injection h with h;subst h
   exact .own _ _ _ _ _ (qb7 hj)
  ·split at h
   ·rename_i hc
    obtain⟨v,h1,h2⟩:=qLi.1 h
    obtain⟨ds,h3,h4⟩:=qLi.1 h2
    injection h4 with h4;subst h4
    obtain⟨h5,h6⟩:=qrg h1
    have h7:=qdg h3
    refine .lend _ _ _ _ _ (by simpa using hc) (h5.trans h7) ?_
    rw[h7] at h6;simpa using h6
   ·cases h
 ·cases h
theorem qgF:∀{xs ys:List C},qo5 s sel ln xs=some ys→PW (CR s sel ln) xs ys
 | [],ys,h=>by injection h with h;subst h;exact PW.nil
 | x::r,ys,h=>by
  unfold qo5 at h
  obtain⟨y,h1,h2⟩:=qLi.1 h
  obtain⟨l,h3,h4⟩:=qLi.1 h2
  injection h4 with h4;subst h4
  exact PW.cons (qrw h1) (qgF h3)
theorem qxR {z:Nat} {x y:C} (h:cv s sel ln z x=some y):CR s sel ln x y:=by
 unfold cv at h
 split at h
 ·obtain⟨fs',h1,h2⟩:=qLi.1 h
  obtain⟨caps',h3,h4⟩:=qLi.1 h2
  injection h4 with h4;subst h4
  exact CR.fn' (qgF h1) (qgF h3)
 ·exact qrw h
theorem qmG:∀{zs:List Nat} {xs ys:List C},cvL s sel ln zs xs=some ys→PW (CR s sel ln) xs ys
 | zs,[],ys,h=>by unfold cvL at h;injection h with h;subst h;exact PW.nil
 | zs,x::r,ys,h=>by
  unfold cvL at h
  obtain⟨y,h1,h2⟩:=qLi.1 h
  obtain⟨l,h3,h4⟩:=qLi.1 h2
  injection h4 with h4;subst h4
  exact PW.cons (qxR h1) (qmG h3)
theorem qlA {zs:List Nat} {x y:R} (h:cvR s sel ln zs x=some y):AR s sel ln x y:=by
 unfold cvR at h
 split at h
 ·obtain⟨y',h1,h2⟩:=qLi.1 h
  injection h2 with h2;subst h2;exact .c _ _ (qxR h1)
 ·obtain⟨y',h1,h2⟩:=qLi.1 h
  injection h2 with h2;subst h2;exact AR.agg' (qmG h1)
 ·injection h with h;subst h;exact .any _
 ·cases h
theorem qk5:∀{zs:List (List Nat)} {xs ys:List R},qk2 s sel ln zs xs=some ys→ARs s sel ln xs ys
 | zs,[],ys,h=>by unfold qk2 at h;injection h with h;subst h;exact .nil
 | zs,x::r,ys,h=>by
  unfold qk2 at h
  obtain⟨y,h1,h2⟩:=qLi.1 h
  obtain⟨l,h3,h4⟩:=qLi.1 h2
  injection h4 with h4;subst h4
  exact .cons _ _ _ _ (qlA h1) (qk5 h3)
theorem qgM {r:R}:AR s sel [] r (qqO s sel r):=by
 unfold qqO
 cases h:cvR s sel [] [] r with
 | none=>exact .any _
 | some r'=>exact qlA h
theorem qzX {o o':AO} (h:cvA s sel o=some o'):AOR s sel o o':=by
 cases o with
 | mp es ck=>
  injection h with h
  subst h
  refine .mp _ _ _ (by simp) (fun j e e' h1 h2=>?_)
  rw[qLr,h1] at h2
  injection h2 with h2
  subst h2
  exact⟨rfl,rfl,qgM⟩
 | lp f tm ps a b st p=>
  injection h with h
  subst h
  refine .lp _ _ _ _ _ _ _ _ (by simp) (fun j x y h1 h2=>?_)
  rw[qLr,h1] at h2
  injection h2 with h2
  subst h2
  exact qgM
 | si t p=>injection h with h;subst h;exact .si _ _
 | df=>injection h with h;subst h;exact .df
 | mi m c l=>injection h with h;subst h;exact .mi _ _ _ _ qgM
 | m1 e m c l=>cases h
theorem qzp {x y:B} (h:cvB s sel x=some y):BR s sel x y:=by
 unfold cvB at h
 split at h
 ·obtain⟨y',h1,h2⟩:=qLi.1 h
  injection h2 with h2;subst h2;exact .blk _ _ _ (qmG h1)
 ·split at h
  ·rename_i hc;injection h with h;subst h;exact .row _ _ _ _ (PW.dat hc)
  ·cases h
 ·obtain⟨o',h1,h2⟩:=qLi.1 h
  injection h2 with h2;subst h2;exact .ob _ _ (qzX h1)
 ·cases h
theorem qku:∀{l:List Nat} {j:Nat} {G:List (Nat×B)},cvG s sel l j=some G→GR s sel l j G
 | [],j,G,h=>by unfold cvG at h;injection h with h;subst h;trivial
 | i::l,j,G,h=>by
  unfold cvG at h
  obtain⟨y,h1,h2⟩:=qLi.1 h
  obtain⟨l',h3,h4⟩:=qLi.1 h2
  injection h4 with h4;subst h4
  exact⟨rfl,qzp h1,qku h3⟩
end
def C.ref0:C→List Nat
 | .ptr i _=>[i]
 | .hd _ i=>[i]
 | .own i _ _ _=>[i]
 | _=>[]
def C.refs:C→List Nat
 | .fn _ fs caps=>(fs++caps).flatMap C.ref0
 | c=>c.ref0
def R.refs0:R→List Nat
 | .c x=>x.refs
 | .agg xs=>xs.flatMap C.refs
 | _=>[]
def B.refs:B→List Nat
 | .blk _ cs=>cs.flatMap C.refs
 | .row _ _ cs=>if cs.all C.dat=true then[] else cs.flatMap C.refs
 | .ob o=>o.Rs.flatMap R.refs0
 | .dead=>[]
def R.refs:R→List Nat
 | .c x=>x.refs
 | .agg xs=>xs.flatMap C.refs
 | .tup rs=>rs.flatMap fun r=>match r with | .c x=>x.refs | .agg xs=>xs.flatMap C.refs|_=>[]
 | .any=>[]
def C.rows0:C→List Nat
 | .own i _ _ _=>[i]
 | _=>[]
def C.rows:C→List Nat
 | .fn _ fs caps=>(fs++caps).flatMap C.rows0
 | c=>c.rows0
def R.rows:R→List Nat
 | .c x=>x.rows
 | .agg xs=>xs.flatMap C.rows
 | _=>[]
def C.ptrs0:C→List Nat
 | .ptr i _=>[i]
 | .hd _ i=>[i]
 | _=>[]
def C.ptrs:C→List Nat
 | .fn _ fs caps=>(fs++caps).flatMap C.ptrs0
 | c=>c.ptrs0
def R.ptrs:R→List Nat
 | .c x=>x.ptrs
 | .agg xs=>xs.flatMap C.ptrs
 | _=>[]
def q4Z (s:S):Nat→List Nat→List Nat→List Nat
 | 0,_,acc=>acc
 | _+1,[],acc=>acc
 | n+1,i::todo,acc=>if acc.contains i=true then q4Z s n todo acc else q4Z s n ((s.blk i).refs++todo) (acc++[i])
def qhm (s:S) (l:List Nat):List Nat:=l.filter fun i=>(s.blk i).isBlk
def q6s (s:S) (l:List Nat):List Nat:=l.filter fun i => !(s.blk i).isBlk
def qv1 (ln:List Nat) (r:R) (hp:List (Nat×B)):Bool:=ln.isEmpty||(r.scl&&hp.all fun x=>x.2.scl)
def q2a (E:Orc) (s:S) (g:FuncId) (zs:List (List Nat)) (rs:List R) (bl rw ln:List Nat):RS:=
 (qk2 s (bl++rw) ln zs rs).bind fun rs'=>(cvG s (bl++rw) (bl++rw) 0).bind fun G=>
  if(bl++rw).all (fun i=>(s.blk i).live)=true∧(bl++rw).Nodup∧ln.all (fun i=>(s.blk i).live && !(bl++rw).contains i)=true∧bl.length≤G.length∧(List.range G.length).all (fun j=>(lk G j .dead).isBlk==decide (j<bl.length))=true then
   (E (.fn g) bl.length rs' G).bind fun q=>if qv1 ln q.1 q.2=true then some (q.1.rn (ren (bl++rw) s.nx),s.aft (bl++rw) bl.length q.2) else none
  else none
def qik (E:Orc) (s:S) (g:FuncId) (zs:List (List Nat)) (rs:List R) (l:List Nat):RS:=
 q2a E s g zs rs (qhm s l) (q6s s l) (((rs.flatMap R.rows).eraseDups).filter fun i => !l.contains i)
def qCK (ow:List Nat) (rs:List R):List Nat:=ow.flatMap fun i=>((rs[i]?).map R.rows).getD []
def qbj (E:Orc) (s:S) (g:FuncId) (ow:List Nat) (zs:List (List Nat)) (rs:List R):RS:=qik E s g zs rs (q4Z s 60 (rs.flatMap R.ptrs++qCK ow rs) [])
def cvT (s:S) (sel ln:List Nat) (r:R):R:=(cvR s sel ln [] r).getD .any
def q7m (E:Orc) (s:S) (rid:Nat) (f:FuncId) (as bd:Code) (rs:List R) (bl rw ln:List Nat):RS:=
 (cvG s (bl++rw) (bl++rw) 0).bind fun G=>
  if(bl++rw).all (fun i=>(s.blk i).live)=true∧(bl++rw).Nodup∧ln.all (fun i=>(s.blk i).live && !(bl++rw).contains i)=true∧bl.length≤G.length∧(List.range G.length).all (fun j=>(lk G j .dead).isBlk==decide (j<bl.length))=true∧0<bl.length∧(bl++rw)[bl.length-1]?=some rid then
   (E (.rd f as bd) bl.length (rs.map (cvT s (bl++rw) ln)) G).bind fun q=>if qv1 ln q.1 q.2=true then some (q.1.rn (ren (bl++rw) s.nx),s.aft (bl++rw) bl.length q.2) else none
  else none
def qdC (E:Orc) (s:S) (rid:Nat) (f:FuncId) (as bd:Code) (rs:List R) (l:List Nat):RS:=
 q7m E s rid f as bd rs (qhm s l++[rid]) (q6s s l) (((rs.flatMap R.rows).eraseDups).filter fun i => !l.contains i)
def q5O (E:Orc) (s:S) (rid:Nat) (args:List R):RS:=
 match s.blk rid with
 | .ob (.lp f tm ps as bd .ready none)=>if args.length=ps.length then qdC E s rid f as bd (qa4 tm ps args) (q4Z s 60 ((qa4 tm ps args).flatMap R.ptrs) []) else none
 | _=>none
structure Snd (P:Program) (E:Orc):Prop where
 fn:∀g k args G r G',E (.fn g) k args G=some (r,G')→AC P g args G k fun r' hp'=>r'=r∧hp'=G'
 rd:∀f as bd k tm G r G',E (.rd f as bd) k tm G=some (r,G')→RA P as bd tm G k fun r' hp'=>r'=r∧hp'=G'
section
variable {P:Program} {E:Orc} {s s':S} {r:R} {K:KK}
theorem qbJ (hE:Snd P E) {g:FuncId} {zs:List (List Nat)} {rs:List R} {bl rw ln:List Nat} (h:q2a E s g zs rs bl rw ln=some (r,s')) (hK:K r s'):q3A P s g rs K:=by
 unfold q2a at h
 obtain⟨rs',h1,h2⟩:=qLi.1 h
 obtain⟨G,h3,h4⟩:=qLi.1 h2
 split at h4
 ·rename_i hc
  obtain⟨c1,c2,c3,c4,c5⟩:=hc
  obtain⟨q,h5,h6⟩:=qLi.1 h4
  split at h6
  ·rename_i hok
   obtain⟨rfl,rfl⟩:=Zz h6
   have hb:∀j,j<G.length→(lk G j .dead).isBlk=decide (j<bl.length):=fun j hj=>by
    have:=qLu.1 c5 j (qMa.2 hj)
    simpa using this
   refine q3A.sel (bl++rw) ln (hE.fn g bl.length rs' G q.1 q.2 h5) (qk5 h1) (qku h3) c1 c2 c3 c4 hb ?_
   rintro r hp ⟨rfl,rfl⟩
   refine⟨?_,hK⟩
   unfold qv1 at hok
   simp only[qLI,qLJ,List.isEmpty_iff] at hok
   exact hok
  ·cases h6
 ·cases h4
theorem qAG {sel ln:List Nat} {r:R}:AR s sel ln r (cvT s sel ln r):=by
 unfold cvT
 cases h:cvR s sel ln [] r with
 | none=>exact .any _
 | some r'=>exact qlA h
theorem qno {sel ln:List Nat}:∀(rs:List R),ARs s sel ln rs (rs.map (cvT s sel ln))
 | [] => .nil
 | r::rs => .cons _ _ _ _ qAG (qno rs)
theorem qly (hE:Snd P E) {cx:Cx} {ρ:Pl} {a:Act} {w:World} {o:Oper} {next:Act→World→Prop} {Q':Exit→Act→World→Prop} (hs:Sim cx ρ s a w) {y:Operand} {args:Array Operand} {ts:Array TypeId} {rid:Nat} (ho:o.op = .call { callee := .value y,args,argTypes:=ts }) (hy:s.ev y = .c (.hd .yield rid))
  (h:q5O E s rid (args.toList.map s.ev)=some (r,s')) (hn:q0b cx (fun r' s''=>r'=r∧s''=s') o a next):o.wpIn (FW cx.ro) 0 P a w next Q':=by
 unfold q5O at h
 split at h
 ·rename_i f tm ps as bd hb
  split at h
  ·rename_i hlen
   unfold qdC at h
   generalize qhm s (q4Z s 60 ((qa4 tm ps (args.toList.map s.ev)).flatMap R.ptrs) [])++[rid]=bl at h
   generalize q6s s (q4Z s 60 ((qa4 tm ps (args.toList.map s.ev)).flatMap R.ptrs) [])=rw at h
   generalize List.filter _ _=ln at h
   unfold q7m at h
   obtain⟨G,h3,h4⟩:=qLi.1 h
   split at h4
   ·rename_i hc
    obtain⟨c1,c2,c3,c4,c5,c6,c7⟩:=hc
    obtain⟨q,h5,h6⟩:=qLi.1 h4
    split at h6
    ·rename_i hok
     obtain⟨rfl,rfl⟩:=Zz h6
     have hb':∀j,j<G.length→(lk G j .dead).isBlk=decide (j<bl.length):=fun j hj=>by
      have:=qLu.1 c5 j (qMa.2 hj)
      simpa using this
     refine qpr hs ho hy hb (by simpa using hlen) (bl++rw) ln (hE.rd f as bd bl.length _ G q.1 q.2 h5) (qno _) (qku h3) c1 c2 c3 c4 hb' c6 c7 ?_ hn
     rintro r hp ⟨rfl,rfl⟩
     refine⟨?_,rfl,rfl⟩
     unfold qv1 at hok
     simp only[qLI,qLJ,List.isEmpty_iff] at hok
     exact hok
    ·cases h6
   ·cases h4
  ·cases h
 ·cases h
theorem qeF (hE:Snd P E) {g:FuncId} {ow:List Nat} {zs:List (List Nat)} {rs:List R} (h:qbj E s g ow zs rs=some (r,s')) (hK:K r s'):q3A P s g rs K:=
 qbJ hE h hK
end
def fz0 (s:S) (X:List Nat):C→C
 | .own i sz o n=>if X.contains i=true then(match (vis (s.blk i).cells sz o n).bind qdw with|some ds => .d (.sl sz n ds)|none => .any) else .own i sz o n
 | .ptr i o=>if X.contains i=true then .any else .ptr i o
 | .hd k i=>if X.contains i=true then .any else .hd k i
 | .fn _ _ _ => .any
 | c=>c
def fz (s:S) (X:List Nat):C→C
 | .fn f fs caps => .fn f (fs.map (fz0 s X)) (caps.map (fz0 s X))
 | c=>fz0 s X c
def qo2 (s:S) (X:List Nat):R→R
 | .c x => .c (fz s X x)
 | .agg xs => .agg (xs.map (fz s X))
 | _ => .any
def fzR (s:S) (X:List Nat):R→R
 | .tup rs => .tup (rs.map (qo2 s X))
 | r=>qo2 s X r
def fzB (s:S) (X:List Nat):B→B
 | .blk t cs => .blk t (cs.map (fz s X))
 | .row e sz cs => .row e sz (cs.map (fz s X))
 | .ob o => .ob (o.mapR (qo2 s X))
 | .dead => .dead
def S.frz1 (s:S) (X:List Nat):S:={ s with tm:=s.tm.map (fun x=>(x.1,fzR s X x.2)),hp:=X.map (fun i=>(i,B.dead))++s.hp.map (fun x=>(x.1,fzB s X x.2)) }
def S.frz (s:S) (X:List Nat):S:=match X with | []=>s|X=>s.frz1 X
theorem qAN (s:S) (X:List Nat) (ds:List D):(ds.map C.d).map (fz s X)=ds.map C.d:=by rw[List.map_map];rfl
theorem qm3 (s:S) (X:List Nat) (x:B):(fzB s X x).isBlk=x.isBlk:=by cases x<;>rfl
theorem qoH (s:S) (X:List Nat) (x:B):(fzB s X x).live=x.live:=by cases x<;>rfl
section
variable {cx:Cx} {ρ:Pl} {s:S} {a:Act} {w:World} {X:List Nat}
theorem S.frz1_get (i:Nat):(s.frz1 X).get i=fzR s X (s.get i):=qbS (fzR s X) s.tm i .any rfl
theorem S.frz1_blk (i:Nat):(s.frz1 X).blk i=if i∈X then .dead else fzB s X (s.blk i):=by
 show lk (X.map (fun i=>(i,B.dead))++s.hp.map (fun x=>(x.1,fzB s X x.2))) i .dead=_
 rw[qd5,qbS (fzB s X) s.hp i .dead rfl]
 rfl
theorem Sim.frz1 (hs:Sim cx ρ s a w) (hX:∀i∈X,(s.blk i).isBlk=false):Sim cx ρ (s.frz1 X) a w∧∀v r,RR w s.live ρ v r→RR w (s.frz1 X).live ρ v (fzR s X r):=by
 have hlive:∀i,(s.frz1 X).live i↔s.live i∧i ∉ X:=fun i=>by
  unfold S.live
  rw[S.frz1_blk]
  by_cases hi:i∈X
  ·rw[if_pos hi];exact⟨fun h=>(by cases h),fun h=>absurd hi h.2⟩
  ·rw[if_neg hi,qoH];exact⟨fun h=>⟨h,hi⟩,fun h=>h.1⟩
 have hocc:∀b,Occ (s.frz1 X).live ρ b→Occ s.live ρ b:=fun b h=>by
  rcases h with h|⟨i,c,h1,h2⟩
  ·exact .inl h
  ·exact .inr ⟨i,c,((hlive i).1 h1).1,h2⟩
 have hno:∀id,s.live id→id∈X→∀b cap,ρ id=some (b,cap)→¬ Occ (s.frz1 X).live ρ b:=fun id hl hid b cap hr hO=>by
  rcases hO with h|⟨i,c,h1,h2⟩
  ·rcases hs.out id b cap hl hr with h3|h3
   ·exact hs.sep b h3 h
   ·have:=hs.oldF b h;omega
  ·have h3:=(hlive i).1 h1
   have:=hs.inj i id b c cap h3.1 hl h2 hr
   subst this
   exact h3.2 hid
 have c0:∀v x,RC w s.live ρ v x→RC w (s.frz1 X).live ρ v (fz0 s X x):=by
  intro v x h
  cases x with
  | own i sz o n=>
   show RC w _ ρ v (if X.contains i=true then _ else _)
   split
   ·rename_i hc
    split
    ·rename_i ds hds
     obtain⟨l,h1,h2⟩:=qLi.1 hds
     obtain⟨h3,h4⟩:=qrg h1
     have h5:=qdg h2
     have hl:s.live i:=by cases h with|own _ _ _ _ b cap q1 q2 q3 q4=>exact q1|own0 _ _ q1 q2=>exact q1
     exact .d _ _ (qkL hs h (h3.trans h5) (by rw[h5] at h4;simpa using h4) hocc (hno i hl (by simpa using hc)))
    ·exact .any _
   ·rename_i hc
    have hi:i ∉ X:=by simpa using hc
    cases h with
    | own _ _ _ _ b cap q1 q2 q3 q4=>exact .own i sz o n b cap ((hlive i).2 ⟨q1,hi⟩) q2 q3 q4
    | own0 _ _ q1 q2=>exact .own0 i sz ((hlive i).2 ⟨q1,hi⟩) q2
  | ptr i o=>
   show RC w _ ρ v (if X.contains i=true then _ else _)
   split
   ·exact .any _
   ·rename_i hc
    have hi:i ∉ X:=by simpa using hc
    cases h with|ptr _ _ b cap q1 q2=>exact .ptr i o b cap ((hlive i).2 ⟨q1,hi⟩) q2
  | hd k i=>
   show RC w _ ρ v (if X.contains i=true then _ else _)
   split
   ·exact .any _
   ·rename_i hc
    have hi:i ∉ X:=by simpa using hc
    cases h with|hd _ _ b cap q1 q2=>exact .hd k i b cap ((hlive i).2 ⟨q1,hi⟩) q2
  | fn f fs caps=>exact .any _
  | d x=>exact h.dat' rfl hocc
  | nilp=>exact h.dat' rfl hocc
  | nilf=>exact h.dat' rfl hocc
  | nilm=>exact h.dat' rfl hocc
  | nils=>exact h.dat' rfl hocc
  | eptr cs o=>exact h.dat' rfl hocc
  | any=>exact .any _
 have c1:∀v x,RC w s.live ρ v x→RC w (s.frz1 X).live ρ v (fz s X x):=by
  intro v x h
  cases x with
  | fn f fs caps=>
   cases h with
   | fn _ _ _ us vs h1 h2 h3 h4=>
    refine .fn f _ _ us vs (by simpa using h1) (fun j c hj=>?_) (by simpa using h3) (fun j c hj=>?_)
    ·rw[qLr] at hj
     obtain⟨y,g1,g2⟩:=qLq.1 hj
     exact g2 ▸ c0 _ _ (h2 j y g1)
    ·rw[qLr] at hj
     obtain⟨y,g1,g2⟩:=qLq.1 hj
     exact g2 ▸ c0 _ _ (h4 j y g1)
  | _=>exact c0 _ _ h
 have cm:∀{vs:Nat→Value} {cs:List C},(∀j c,cs[j]?=some c→RC w s.live ρ (vs j) c)→∀j c,(cs.map (fz s X))[j]?=some c→RC w (s.frz1 X).live ρ (vs j) c:=fun h j c hj=>by
  rw[qLr] at hj
  obtain⟨y,g1,g2⟩:=qLq.1 hj
  exact g2 ▸ c1 _ _ (h j y g1)
 have r0:∀v r,RR w s.live ρ v r→RR w (s.frz1 X).live ρ v (qo2 s X r):=by
  intro v r h
  cases h with
  | c v x h=>exact .c _ _ (c1 _ _ h)
  | agg vs xs h1 h2=>exact .agg _ _ (by simpa using h1) (cm h2)
  | tup vs xs h1 h2=>exact .any _
  | any v=>exact .any _
 have r1:∀v r,RR w s.live ρ v r→RR w (s.frz1 X).live ρ v (fzR s X r):=by
  intro v r h
  cases r with
  | tup rs=>
   cases h with
   | tup vs _ h1 h2=>
    refine .tup _ _ (by simpa using h1) (fun j c hj=>?_)
    rw[qLr] at hj
    obtain⟨y,g1,g2⟩:=qLq.1 hj
    exact g2 ▸ r0 _ _ (h2 j y g1)
  | _=>exact r0 _ _ h
 refine⟨⟨hs.hd.mono (qLt _) (fun _ _ _=>rfl) (fun b _ h=>hocc b h),hs.size,fun i=>by rw[S.frz1_get];exact r1 _ _ (hs.tm i),fun i b c hi hr=>?_,fun i hi hr=>?_,fun i b c hi hr=>hs.out i b c ((hlive i).1 hi).1 hr,
  fun i j b c c' hi hj hri hrj=>hs.inj i j b c c' ((hlive i).1 hi).1 ((hlive j).1 hj).1 hri hrj,fun i hi=>hs.nx i ((hlive i).1 hi).1,hs.kept,hs.oldF,fun i hi=>?_,hs.sameF,hs.sep⟩,r1⟩
 ·obtain⟨h1,h2⟩:=(hlive i).1 hi
  obtain⟨h3,h4⟩:=hs.hp i b c h1 hr
  refine⟨h3,?_⟩
  rw[S.frz1_blk,if_neg h2]
  generalize s.blk i=x at h4
  cases x with
  | blk t cs=>obtain⟨vs,g1,g2,g3⟩:=h4;exact⟨vs,g1,by simpa using g2,cm g3⟩
  | row e sz cs=>obtain⟨vs,g1,g2,g3,g4,g5,g6⟩:=h4;exact⟨vs,g1,by simpa using g2,g3,g4,g5,cm g6⟩
  | ob o=>exact HO.map rfl (fun v x _ hx=>r0 v x hx) h4
  | dead=>trivial
 ·obtain⟨h1,h2⟩:=(hlive i).1 hi
  obtain⟨e,sz,h3⟩:=hs.hp0 i h1 hr
  exact⟨e,sz,by rw[S.frz1_blk,if_neg h2,h3];rfl⟩
 ·obtain⟨h1,h2⟩:=hs.pin i hi
  have hn:i ∉ X:=fun h=>by have:=hX i h;rw[h2] at this;cases this
  exact⟨h1,by rw[S.frz1_blk,if_neg hn,qm3,h2]⟩
theorem Sim.frz (hs:Sim cx ρ s a w) (hX:X.all (fun i => !(s.blk i).isBlk)=true):Sim cx ρ (s.frz X) a w:=by
 cases X with
 | nil=>exact hs
 | cons x X=>exact(hs.frz1 fun i hi=>by have:=qLu.1 hX i hi;simpa using this).1
end
def dz (z:Nat):C→C
 | .nils=>if z=0 then .nils else .d (.sl z 0 [])
 | c=>c
def C.isNils:C→Bool
 | .nils=>true
 | _=>false
def dzc (zs0:List Nat):List Nat→List C→List C
 | _,[]=>[]
 | [],x::r=>dz (zs0.headD 0) x::dzc zs0 zs0.tail r
 | z::zs,x::r=>dz z x::dzc zs0 zs r
def B.nilr:B→Bool
 | .row _ _ cs=>cs.any C.isNils
 | _=>false
def dzB (Q:TypeId→List Nat):B→B
 | .row e sz cs=>if cs.any C.isNils=true then .row e sz (dzc (Q e) [] cs) else .row e sz cs
 | b=>b
def S.dzr (s:S) (Q:TypeId→List Nat):S:=if s.hp.any (fun x=>x.2.nilr)=true then { s with hp:=s.hp.map fun x=>(x.1,dzB Q x.2) } else s
theorem qqP (ds:List D):(ds.map C.d).any C.isNils=false:=by rw[List.any_map];exact List.any_eq_false.2 fun x _=>by simp[C.isNils]
section
variable {cx:Cx} {ρ:Pl} {s:S} {a:Act} {w:World} {Q:TypeId→List Nat}
theorem qsF {L:Nat→Prop} {v:Value} {x:C} (z:Nat) (h:RC w L ρ v x):RC w L ρ v (dz z x):=by
 unfold dz
 split
 ·split
  ·exact h
  ·rw[(RR.c _ _ h).inv_nils];exact .d _ _ (.nil _ _ _ (qLD _) (fun _=>rfl))
 ·exact h
theorem qkT (zs0:List Nat):∀(zs:List Nat) (cs:List C),(dzc zs0 zs cs).length=cs.length∧∀(j:Nat) (y:C),(dzc zs0 zs cs)[j]?=some y→∃x z,cs[j]?=some x∧y=dz z x
 | zs,[]=>by cases zs<;>exact⟨rfl,fun j y h=>by simp[dzc] at h⟩
 | [],x::r=>by
  obtain⟨h1,h2⟩:=qkT zs0 zs0.tail r
  refine⟨by simp[dzc,h1],fun j y hj=>?_⟩
  cases j with
  | zero=>simp only[dzc,qLn,qM3] at hj;exact⟨x,_,rfl,hj.symm⟩
  | succ j=>simp only[dzc,qLC] at hj ⊢;exact h2 j y hj
 | z::zs,x::r=>by
  obtain⟨h1,h2⟩:=qkT zs0 zs r
  refine⟨by simp[dzc,h1],fun j y hj=>?_⟩
  cases j with
  | zero=>simp only[dzc,qLn,qM3] at hj;exact⟨x,_,rfl,hj.symm⟩
  | succ j=>simp only[dzc,qLC] at hj ⊢;exact h2 j y hj
theorem qgG (e:TypeId) (sz:Nat) (cs:List C):dzB Q (.row e sz cs)=if cs.any C.isNils=true then .row e sz (dzc (Q e) [] cs) else .row e sz cs:=rfl
theorem qpY (b:B):(dzB Q b).live=b.live:=by
 cases b with
 | row e sz cs=>rw[qgG];split<;>rfl
 | _=>rfl
theorem qkR (b:B):(dzB Q b).isBlk=b.isBlk:=by
 cases b with
 | row e sz cs=>rw[qgG];split<;>rfl
 | _=>rfl
theorem S.dzr_blk (s:S) (i:Nat):(s.dzr Q).blk i=dzB Q (s.blk i)∨(s.dzr Q).blk i=s.blk i:=by
 unfold S.dzr
 split
 ·exact .inl (qbS (dzB Q) s.hp i .dead rfl)
 ·exact .inr rfl
theorem S.dzr_live (s:S):(s.dzr Q).live=s.live:=by
 funext i
 unfold S.live
 rcases S.dzr_blk (Q:=Q) s i with h|h
 ·rw[h,qpY]
 ·rw[h]
theorem Sim.dzr (h:Sim cx ρ s a w) (Q:TypeId→List Nat):Sim cx ρ (s.dzr Q) a w:=by
 have hl:=S.dzr_live (Q:=Q) s
 have hg:∀i,(s.dzr Q).get i=s.get i:=fun i=>by unfold S.dzr;split<;>rfl
 have hn:(s.dzr Q).n=s.n:=by unfold S.dzr;split<;>rfl
 have hnx:(s.dzr Q).nx=s.nx:=by unfold S.dzr;split<;>rfl
 refine⟨by rw[hl];exact h.hd,by rw[hn];exact h.size,fun i=>by rw[hl,hg];exact h.tm i,fun i b cap hi hr=>?_,fun i hi hr=>?_,by rw[hl];exact h.out,by rw[hl];exact h.inj,by rw[hl,hnx];exact h.nx,h.kept,h.oldF,fun i hi=>?_,h.sameF,h.sep⟩
 ·rw[hl] at hi ⊢
  obtain⟨h1,h2⟩:=h.hp i b cap hi hr
  refine⟨h1,?_⟩
  rcases S.dzr_blk (Q:=Q) s i with e|e
  ·rw[e]
   cases hb:s.blk i with
   | row e' sz cs=>
    rw[hb] at h2
    rw[qgG]
    split
    ·obtain⟨vs,g1,g2,g3,g4,g5,g6⟩:=h2
     obtain⟨q1,q2⟩:=qkT (Q e') [] cs
     refine⟨vs,g1,by rw[q1];exact g2,g3,g4,g5,fun j c hj=>?_⟩
     obtain⟨x,z,r1,r2⟩:=q2 j c hj
     rw[r2];exact qsF z (g6 j x r1)
    ·exact h2
   | blk t cs=>rw[hb] at h2;exact h2
   | ob o=>rw[hb] at h2;exact h2
   | dead=>rw[hb] at h2;exact h2
  ·rw[e];exact h2
 ·rw[hl] at hi
  obtain⟨e,sz,g⟩:=h.hp0 i hi hr
  rcases S.dzr_blk (Q:=Q) s i with e' | e'
  ·exact⟨e,sz,by rw[e',g];rfl⟩
  ·exact⟨e,sz,by rw[e',g]⟩
 ·obtain⟨h1,h2⟩:=h.pin i hi
  refine⟨h1,?_⟩
  rcases S.dzr_blk (Q:=Q) s i with e|e
  ·rw[e,qkR];exact h2
  ·rw[e];exact h2
end
end
noncomputable section
open Go.RowKit
def cn0 (ids:List Nat):C→C
 | .ptr i o=>match pos i ids with|some j => .ptr j o|none => .any
 | .hd k i=>match pos i ids with|some j => .hd k j|none => .any
 | .own i sz o n=>match pos i ids with|some j => .own j sz o n|none => .any
 | .fn _ _ _ => .any
 | c=>c
def cn (ids:List Nat):C→C
 | .fn f fs caps => .fn f (fs.map (cn0 ids)) (caps.map (cn0 ids))
 | c=>cn0 ids c
def qo6 (ids:List Nat):R→R
 | .c x => .c (cn ids x)
 | .agg xs => .agg (xs.map (cn ids))
 | _ => .any
def cnR (ids:List Nat):R→R
 | .tup rs => .tup (rs.map (qo6 ids))
 | r=>qo6 ids r
def cnB (ids:List Nat):B→B
 | .blk t cs => .blk t (cs.map (cn ids))
 | .row e sz cs => .row e sz (cs.map (cn ids))
 | .ob o => .ob (o.mapR (qo6 ids))
 | .dead => .dead
def cnH (s:S) (ids:List Nat):List Nat→Nat→List (Nat×B)
 | [],_=>[]
 | i::l,j=>(j,cnB ids (s.blk i))::cnH s ids l (j+1)
theorem qyZ (ids:List Nat) (ds:List D):(ds.map C.d).map (cn ids)=ds.map C.d:=by rw[List.map_map];rfl
theorem qn3 (ids:List Nat) (x:B):(cnB ids x).isBlk=x.isBlk:=by cases x<;>rfl
theorem qq3 (ids:List Nat) (x:B):(cnB ids x).live=x.live:=by cases x<;>rfl
theorem qru (s:S) (ids:List Nat):∀(l:List Nat) (k j:Nat),lk (cnH s ids l k) j .dead=if k≤j then(match l[j-k]? with|some i=>cnB ids (s.blk i)|none => .dead) else .dead
 | [],k,j=>by simp[cnH,lk]
 | i::l,k,j=>by
  unfold cnH lk
  by_cases h:k=j
  ·subst h;simp
  ·rw[if_neg h,qru s ids l (k+1) j]
   by_cases h2:k≤j
   ·rw[if_pos h2,if_pos (by omega),show j-k=(j-(k+1))+1 by omega,qLC]
   ·rw[if_neg h2,if_neg (by omega)]
section
variable {cx:Cx} {ρ:Pl} {s:S} {a a':Act} {w:World} {ids:List Nat}
theorem Sim.canon (hs:Sim cx ρ s a w) (hnd:ids.Nodup) (hl:ids.all (fun i=>(s.blk i).live)=true) (hpin:∀i,i<cx.k→ids[i]?=some i) {tm:List (Nat×R)} {n:Nat}
  (hd:Hd cx a'.defers w (Occ s.live ρ)) (hz:a'.tmps.size=n) (htm:∀i,lk tm i .any = .any∨∃r,RR w s.live ρ (a'.tmps.getD i undef) r∧lk tm i .any=cnR ids r) :
  ∃ρ',Sim cx ρ' ⟨tm,cnH s ids ids 0,ids.length,n⟩ a' w∧∀v r,RR w s.live ρ v r→RR w (S.live ⟨tm,cnH s ids ids 0,ids.length,n⟩) ρ' v (cnR ids r):=by
 obtain⟨s',hs'⟩:∃s':S,s'=⟨tm,cnH s ids ids 0,ids.length,n⟩:=⟨_,rfl⟩
 rw[←hs']
 have hblk:∀j,s'.blk j=match ids[j]? with|some i=>cnB ids (s.blk i)|none => .dead:=fun j=>by
  rw[hs']
  show lk (cnH s ids ids 0) j .dead=_
  rw[qru,if_pos (qLD _),qM6]
 have hli:∀{i j:Nat},ids[j]?=some i→s.live i:=fun {i j} hj=>qLu.1 hl i (qLe hj)
 have hlive:∀{i j:Nat},ids[j]?=some i→s'.live j:=fun {i j} hj=>by
  unfold S.live
  rw[hblk,hj]
  simp only
  rw[qq3]
  exact hli hj
 have hlive':∀j,s'.live j→∃i,ids[j]?=some i:=fun j hj=>by
  unfold S.live at hj
  rw[hblk] at hj
  cases h:ids[j]? with
  | none=>rw[h] at hj;cases hj
  | some i=>exact⟨i,rfl⟩
 obtain⟨ρ',hρ⟩:∃ρ':Pl,ρ'=⟨fun j=>(ids[j]?).bind ρ.at_,ρ.F⟩:=⟨_,rfl⟩
 have hρF:ρ'.F=ρ.F:=by rw[hρ]
 have hρi:∀{i j:Nat},ids[j]?=some i→ρ' j=ρ i:=fun {i j} hj=>by rw[hρ];show(ids[j]?).bind ρ.at_=_;rw[hj];rfl
 have hocc:∀b,Occ s'.live ρ' b→Occ s.live ρ b:=fun b h=>by
  rcases h with h|⟨j,c,h1,h2⟩
  ·exact .inl (hρF ▸ h)
  ·obtain⟨i,hi⟩:=hlive' j h1
   exact .inr ⟨i,c,hli hi,(hρi hi).symm.trans h2⟩
 have c0:∀v x,RC w s.live ρ v x→RC w s'.live ρ' v (cn0 ids x):=by
  intro v x h
  cases x with
  | ptr i o=>
   simp only[cn0]
   split
   ·rename_i j hj
    have hj:=qb7 hj
    cases h with|ptr _ _ b cap q1 q2=>exact .ptr j o b cap (hlive hj) ((hρi hj).trans q2)
   ·exact .any _
  | hd k i=>
   simp only[cn0]
   split
   ·rename_i j hj
    have hj:=qb7 hj
    cases h with|hd _ _ b cap q1 q2=>exact .hd k j b cap (hlive hj) ((hρi hj).trans q2)
   ·exact .any _
  | own i sz o n=>
   simp only[cn0]
   split
   ·rename_i j hj
    have hj:=qb7 hj
    cases h with
    | own _ _ _ _ b cap q1 q2 q3 q4=>exact .own j sz o n b cap (hlive hj) ((hρi hj).trans q2) q3 q4
    | own0 _ _ q1 q2=>exact .own0 j sz (hlive hj) ((hρi hj).trans q2)
   ·exact .any _
  | fn f fs caps=>exact .any _
  | d x=>exact h.dat' rfl hocc
  | nilp=>exact h.dat' rfl hocc
  | nilf=>exact h.dat' rfl hocc
  | nilm=>exact h.dat' rfl hocc
  | nils=>exact h.dat' rfl hocc
  | eptr cs o=>exact h.dat' rfl hocc
  | any=>exact .any _
 have c1:∀v x,RC w s.live ρ v x→RC w s'.live ρ' v (cn ids x):=by
  intro v x h
  cases x with
  | fn f fs caps=>
   cases h with
   | fn _ _ _ us vs h1 h2 h3 h4=>
    refine .fn f _ _ us vs (by simpa using h1) (fun j c hj=>?_) (by simpa using h3) (fun j c hj=>?_)
    ·rw[qLr] at hj
     obtain⟨y,g1,g2⟩:=qLq.1 hj
     exact g2 ▸ c0 _ _ (h2 j y g1)
    ·rw[qLr] at hj
     obtain⟨y,g1,g2⟩:=qLq.1 hj
     exact g2 ▸ c0 _ _ (h4 j y g1)
  | _=>exact c0 _ _ h
 have cm:∀{vs:Nat→Value} {cs:List C},(∀j c,cs[j]?=some c→RC w s.live ρ (vs j) c)→∀j c,(cs.map (cn ids))[j]?=some c→RC w s'.live ρ' (vs j) c:=fun h j c hj=>by
  rw[qLr] at hj
  obtain⟨y,g1,g2⟩:=qLq.1 hj
  exact g2 ▸ c1 _ _ (h j y g1)
 have r0:∀v r,RR w s.live ρ v r→RR w s'.live ρ' v (qo6 ids r):=by
  intro v r h
  cases h with
  | c v x h=>exact .c _ _ (c1 _ _ h)
  | agg vs xs h1 h2=>exact .agg _ _ (by simpa using h1) (cm h2)
  | tup vs xs h1 h2=>exact .any _
  | any v=>exact .any _
 have r1:∀v r,RR w s.live ρ v r→RR w s'.live ρ' v (cnR ids r):=by
  intro v r h
  cases r with
  | tup rs=>
   cases h with
   | tup vs _ h1 h2=>
    refine .tup _ _ (by simpa using h1) (fun j c hj=>?_)
    rw[qLr] at hj
    obtain⟨y,g1,g2⟩:=qLq.1 hj
    exact g2 ▸ r0 _ _ (h2 j y g1)
  | _=>exact r0 _ _ h
 refine⟨ρ',⟨hd.mono (qLt _) (fun _ _ _=>rfl) (fun b _ h=>hocc b h),by rw[hz,hs'],fun i=>?_,fun j b c hj hr=>?_,fun j hj hr=>?_,fun j b c hj hr=>?_,fun j j' b c c' hj hj' hrj hrj'=>?_,fun j hj=>?_,hs.kept,fun b hb=>hs.oldF b (hρF ▸ hb),fun i hi=>?_,hρF.trans hs.sameF,fun b hb=>hρF ▸ hs.sep b hb⟩,r1⟩
 ·have:s'.get i=lk tm i .any:=by rw[hs'];rfl
  rw[this]
  rcases htm i with h|⟨r,h1,h2⟩
  ·rw[h];exact .any _
  ·rw[h2];exact r1 _ _ h1
 ·obtain⟨i,hi⟩:=hlive' j hj
  rw[hρi hi] at hr
  obtain⟨h3,h4⟩:=hs.hp i b c (hli hi) hr
  refine⟨h3,?_⟩
  rw[hblk,hi]
  simp only
  generalize s.blk i=x at h4
  cases x with
  | blk t cs=>obtain⟨vs,g1,g2,g3⟩:=h4;exact⟨vs,g1,by simpa using g2,cm g3⟩
  | row e sz cs=>obtain⟨vs,g1,g2,g3,g4,g5,g6⟩:=h4;exact⟨vs,g1,by simpa using g2,g3,g4,g5,cm g6⟩
  | ob o=>exact HO.map rfl (fun v x _ hx=>r0 v x hx) h4
  | dead=>trivial
 ·obtain⟨i,hi⟩:=hlive' j hj
  rw[hρi hi] at hr
  obtain⟨e,sz,h3⟩:=hs.hp0 i (hli hi) hr
  exact⟨e,sz,by rw[hblk,hi];simp only;rw[h3];rfl⟩
 ·obtain⟨i,hi⟩:=hlive' j hj
  rw[hρi hi] at hr
  exact hs.out i b c (hli hi) hr
 ·obtain⟨i,hi⟩:=hlive' j hj
  obtain⟨i',hi'⟩:=hlive' j' hj'
  rw[hρi hi] at hrj
  rw[hρi hi'] at hrj'
  have:=hs.inj i i' b c c' (hli hi) (hli hi') hrj hrj'
  subst this
  obtain⟨l1,e1⟩:=qLh.1 hi
  obtain⟨l2,e2⟩:=qLh.1 hi'
  exact(List.getElem_inj hnd).1 (e1.trans e2.symm)
 ·obtain⟨i,hi⟩:=hlive' j hj
  have:=(qLh.1 hi).1
  rw[hs'];exact this
 ·obtain⟨h1,h2⟩:=hs.pin i hi
  have hii:=hpin i hi
  exact⟨(hρi hii).trans h1,by rw[hblk,hii];simp only;rw[qn3,h2]⟩
theorem Sim.row0 (h:Sim cx ρ s a w) {p:Nat} (hp:¬ s.live p) (e:TypeId) (sz:Nat):∃ρ':Pl,Sim cx ρ' (s.up [(p,.row e sz [])]) a w∧ρ' p=none∧(∀v r,RR w s.live ρ v r→RR w (s.up [(p,.row e sz [])]).live ρ' v r)∧∀i,s.live i→ρ' i=ρ i:=by
 obtain⟨ρ',hρ⟩:∃ρ':Pl,ρ'=⟨fun i=>if i=p then none else ρ i,ρ.F⟩:=⟨_,rfl⟩
 have hρp:ρ' p=none:=by rw[hρ];exact if_pos rfl
 have hρi:∀i,i≠p→ρ' i=ρ i:=fun i hi=>by rw[hρ];exact if_neg hi
 have hne:∀i,s.live i→i≠p:=fun i hi e=>hp (e ▸ hi)
 have hl1:∀i,s.live i→(s.up [(p,.row e sz [])]).live i:=fun i hi=>by
  unfold S.live at hi ⊢
  rw[S.blk_up,if_neg (Ne.symm (hne i hi))];exact hi
 have hl2:∀i,(s.up [(p,.row e sz [])]).live i→i≠p→s.live i:=fun i hi hn=>by
  unfold S.live at hi ⊢
  rw[S.blk_up,if_neg (Ne.symm hn)] at hi;exact hi
 have hst:q9M w s.live ρ w (s.up [(p,.row e sz [])]).live ρ':=by
  refine⟨qLt _,fun _ _ _=>rfl,fun b _ hO=>?_,fun i hi=>⟨hl1 i hi,hρi i (hne i hi)⟩⟩
  rcases hO with h|⟨i,c,h1,h2⟩
  ·exact .inl (by rw[hρ] at h;exact h)
  ·have hn:i≠p:=fun e=>by rw[e,hρp] at h2;cases h2
   exact .inr ⟨i,c,hl2 i h1 hn,(hρi i hn).symm.trans h2⟩
 have hsome:∀i b c,ρ' i=some (b,c)→i≠p∧ρ i=some (b,c):=fun i b c hr=>by
  have hn:i≠p:=fun e=>by rw[e,hρp] at hr;cases hr
  exact⟨hn,(hρi i hn).symm.trans hr⟩
 refine⟨ρ',⟨h.hd.stay hst,h.size,fun i=>(h.tm i).stay hst,fun i b c hi hr=>?_,fun i hi hr=>?_,fun i b c hi hr=>?_,fun i j b c c' hi hj hri hrj=>?_,fun i hi=>?_,h.kept,fun b hb=>h.oldF b (by rw[hρ] at hb;exact hb),fun i hi=>?_,by rw[hρ];exact h.sameF,fun b hb=>by rw[hρ];exact h.sep b hb⟩,hρp,fun v r hr=>hr.stay hst,fun i hi=>hρi i (hne i hi)⟩
 ·obtain⟨h1,h2⟩:=hsome i b c hr
  obtain⟨h3,h4⟩:=h.hp i b c (hl2 i hi h1) h2
  rw[S.blk_up,if_neg (Ne.symm h1)]
  exact⟨h3,h4.stay hst rfl⟩
 ·by_cases hn:i=p
  ·subst hn;exact⟨e,sz,by rw[S.blk_up,if_pos rfl]⟩
  ·rw[S.blk_up,if_neg (Ne.symm hn)]
   exact h.hp0 i (hl2 i hi hn) ((hρi i hn).symm.trans hr)
 ·obtain⟨h1,h2⟩:=hsome i b c hr
  exact h.out i b c (hl2 i hi h1) h2
 ·obtain⟨h1,h2⟩:=hsome i b c hri
  obtain⟨h3,h4⟩:=hsome j b c' hrj
  exact h.inj i j b c c' (hl2 i hi h1) (hl2 j hj h3) h2 h4
 ·show i<max s.nx (p+1)
  by_cases hn:i=p
  ·omega
  ·have:=h.nx i (hl2 i hi hn);omega
 ·obtain⟨h1,h2⟩:=h.pin i hi
  have hn:i≠p:=fun e=>hp (by rw[←e];exact B.live_of h2)
  exact⟨(hρi i hn).trans h1,by rw[S.blk_up,if_neg (Ne.symm hn)];exact h2⟩
inductive Rw where
 | slot (i:Nat) (e:TypeId) (sz:Nat)
 | cell (i off:Nat) (e:TypeId) (sz:Nat)
 | dcell (i off sz:Nat)
 deriving Inhabited
def rw1 (s:S):Rw→S
 | .slot i e sz=>match s.get i with
  | .c .nils=>(s.up [(s.nx,.row e sz [])]).put (some i) (.c (.own s.nx sz 0 0))
  | _=>s
 | .cell i off e sz=>match s.get i with
  | .c (.ptr id o)=>match s.blk id with
   | .blk t cs=>match cs[o+off]? with
    | some .nils=>(s.up [(s.nx,.row e sz [])]).up [(id,.blk t (cs.set (o+off) (.own s.nx sz 0 0)))]
    | _=>s
   | _=>s
  | _=>s
 | .dcell i off sz=>match s.get i with
  | .c (.ptr id o)=>match s.blk id with
   | .blk t cs=>match cs[o+off]? with
    | some .nils=>s.up [(id,.blk t (cs.set (o+off) (.d (.sl sz 0 []))))]
    | _=>s
   | _=>s
  | _=>s
theorem Sim.rw1 (hs:Sim cx ρ s a w) (x:Rw):∃ρ',Sim cx ρ' (rw1 s x) a w:=by
 have hnl:¬ s.live s.nx:=fun h=>by have:=hs.nx _ h;omega
 cases x with
 | slot i e sz=>
  simp only[Vc.rw1]
  split
  ·rename_i hi
   obtain⟨ρ',h1,h2,h3,-⟩:=hs.row0 hnl e sz
   have hlive:(s.up [(s.nx,.row e sz [])]).live s.nx:=by unfold S.live;rw[S.blk_up,if_pos rfl];rfl
   refine⟨ρ',⟨h1.hd,h1.size,fun j=>?_,h1.hp,h1.hp0,h1.out,h1.inj,h1.nx,h1.kept,h1.oldF,h1.pin,h1.sameF,h1.sep⟩⟩
   show RR w _ ρ' _ (lk ((i,R.c (.own s.nx sz 0 0))::s.tm) j .any)
   unfold lk
   split
   ·rename_i hij
    subst hij
    have:=hs.tm i
    rw[hi] at this
    rw[this.inv_nils]
    exact .c _ _ (.own0 _ _ hlive h2)
   ·exact h3 _ _ (hs.tm j)
  ·exact⟨ρ,hs⟩
 | cell i off e sz=>
  simp only[Vc.rw1]
  split
  ·rename_i id o hi
   split
   ·rename_i t cs hb
    split
    ·rename_i hc
     obtain⟨ρ',h1,h2,h3,h4⟩:=hs.row0 hnl e sz
     have hid:s.live id:=by unfold S.live;rw[hb];rfl
     have hne:id≠s.nx:=fun e=>hnl (e ▸ hid)
     have hlive:(s.up [(s.nx,.row e sz [])]).live s.nx:=by unfold S.live;rw[S.blk_up,if_pos rfl];rfl
     have hlid:(s.up [(s.nx,.row e sz [])]).live id:=by unfold S.live;rw[S.blk_up,if_neg (Ne.symm hne)];exact hid
     cases hρ:ρ' id with
     | none=>
      obtain⟨e',sz',h5⟩:=h1.hp0 id hlid hρ
      rw[S.blk_up,if_neg (Ne.symm hne),hb] at h5
      cases h5
     | some bc=>
      obtain⟨b,cap⟩:=bc
      have hx:∀k,(s.up [(s.nx,.row e sz [])]).blk k=if s.nx=k then .row e sz [] else s.blk k:=fun k=>S.blk_up _ _ _ _
      have hB:=(h1.hp id b cap hlid hρ).2
      rw[hx,if_neg (Ne.symm hne),hb] at hB
      obtain⟨vs,g1,g2,g3⟩:=hB
      have hcx:id<cx.k→(B.blk t (cs.set (o+off) (.own s.nx sz 0 0))).isBlk=true:=fun _=>rfl
      have hl':∀j,((s.up [(s.nx,.row e sz [])]).up [(id,.blk t (cs.set (o+off) (.own s.nx sz 0 0)))]).live j↔(s.up [(s.nx,.row e sz [])]).live j:=fun j=>by
       unfold S.live
       rw[S.blk_up]
       by_cases hj:id=j
       ·subst hj;rw[if_pos rfl];exact⟨fun _=>hlid,fun _=>rfl⟩
       ·rw[if_neg hj]
      have hst:q9M w (s.up [(s.nx,.row e sz [])]).live ρ' w ((s.up [(s.nx,.row e sz [])]).up [(id,.blk t (cs.set (o+off) (.own s.nx sz 0 0)))]).live ρ':=by
       refine⟨qLt _,fun _ _ _=>rfl,fun b' _ hO=>?_,fun j hj=>⟨(hl' j).2 hj,rfl⟩⟩
       rcases hO with h|⟨j,c,q1,q2⟩
       ·exact .inl h
       ·exact .inr ⟨j,c,(hl' j).1 q1,q2⟩
      refine⟨ρ',(h1.over hlid hρ rfl hcx rfl (fun _ _=>rfl) rfl rfl rfl ⟨vs,g1,by simpa using g2,fun j c hj=>?_⟩).1⟩
      by_cases hoj:o+off=j
      ·subst hoj
       have hlt:o+off<cs.length:=(qLh.1 hc).1
       rw[qMb hlt] at hj
       injection hj with hj
       subst hj
       have h6:=g3 _ _ hc
       have h7:=(RR.c _ _ h6).inv_nils
       rw[h7]
       exact .own0 _ _ ((hl' _).2 hlive) h2
      ·rw[qMc hoj] at hj
       exact(g3 j c hj).stay hst
    ·exact⟨ρ,hs⟩
   ·exact⟨ρ,hs⟩
  ·exact⟨ρ,hs⟩
 | dcell i off sz=>
  simp only[Vc.rw1]
  split
  ·rename_i id o hi
   split
   ·rename_i t cs hb
    split
    ·rename_i hc
     have hid:s.live id:=by unfold S.live;rw[hb];rfl
     cases hρ:ρ id with
     | none=>
      obtain⟨e',sz',h5⟩:=hs.hp0 id hid hρ
      rw[hb] at h5
      cases h5
     | some bc=>
      obtain⟨b,cap⟩:=bc
      have hB:=(hs.hp id b cap hid hρ).2
      rw[hb] at hB
      obtain⟨vs,g1,g2,g3⟩:=hB
      have hcx:id<cx.k→(B.blk t (cs.set (o+off) (.d (.sl sz 0 [])))).isBlk=true:=fun _=>rfl
      have hl':∀j,(s.up [(id,.blk t (cs.set (o+off) (.d (.sl sz 0 []))))]).live j↔s.live j:=fun j=>by
       unfold S.live
       rw[S.blk_up]
       by_cases hj:id=j
       ·subst hj;rw[if_pos rfl];exact⟨fun _=>hid,fun _=>rfl⟩
       ·rw[if_neg hj]
      have hst:q9M w s.live ρ w (s.up [(id,.blk t (cs.set (o+off) (.d (.sl sz 0 []))))]).live ρ:=by
       refine⟨qLt _,fun _ _ _=>rfl,fun b' _ hO=>?_,fun j hj=>⟨(hl' j).2 hj,rfl⟩⟩
       rcases hO with h|⟨j,c,q1,q2⟩
       ·exact .inl h
       ·exact .inr ⟨j,c,(hl' j).1 q1,q2⟩
      refine⟨ρ,(hs.over hid hρ rfl hcx rfl (fun _ _=>rfl) rfl rfl rfl ⟨vs,g1,by simpa using g2,fun j c hj=>?_⟩).1⟩
      by_cases hoj:o+off=j
      ·subst hoj
       have hlt:o+off<cs.length:=(qLh.1 hc).1
       rw[qMb hlt] at hj
       injection hj with hj
       subst hj
       have h6:=g3 _ _ hc
       have h7:=(RR.c _ _ h6).inv_nils
       rw[h7]
       exact .d _ _ (.nil none 0 sz (qLD _) fun _=>rfl)
      ·rw[qMc hoj] at hj
       exact(g3 j c hj).stay hst
    ·exact⟨ρ,hs⟩
   ·exact⟨ρ,hs⟩
  ·exact⟨ρ,hs⟩
end
def rwAll:S→List Rw→S
 | s,[]=>s
 | s,x::l=>rwAll (rw1 s x) l
theorem Sim.rwAll {cx:Cx} {a:Act} {w:World}:∀(l:List Rw) {s:S} {ρ:Pl},Sim cx ρ s a w→∃ρ',Sim cx ρ' (rwAll s l) a w
 | [],_,ρ,hs=>⟨ρ,hs⟩
 | x::l,_,_,hs=>by
  obtain⟨ρ',h⟩:=hs.rw1 x
  exact Sim.rwAll l h
end
end Go.Proofs.YtojflbfdcpkedaaGreat.Vc
namespace Go
open Go
section
variable {P:Program} {F:Fence} {n:Nat} {a:Act} {w:World} {Q:Exit→Act→World→Prop}
theorem q2h {b:Frame} {k:List Item} {cs:List Frame} {c:Code}:step P (lone (b.atR a (.code (.scope c)::k)) cs w) = .next (lone (b.atR a (.code c :: .inScope c::k)) cs w):=
 step_lone_go (by simp[stepG,stepG.exec,Frame.atR])
theorem qec {b:Frame} {k:List Item} {cs:List Frame} {c:Code}:step P (lone (b.atR a (.inScope c::k)) cs w) = .next (lone (b.atR a k) cs w):=
 step_lone_go (by simp[stepG,stepG.exec,Frame.atR])
theorem qjS {c:Code} (h:c.wpIn F n P (fun e a w=>Q e a w∧∀l,e ≠ .goto l) a w):(Code.scope c).wpIn F n P Q a w:=by
 intro b k cs hro hb hr
 have h0:(lone (b.atR a (.code (.scope c)::k)) cs w).fenced P F:=fenced_calm hb hr rfl
 obtain⟨e,a₁,w₁,⟨hq,hg⟩,harr⟩:=h b (.inScope c::k) cs hro hb hr
 cases e with
 | normal=>exact⟨.normal,a₁,w₁,hq,.head h0 q2h (StepsIn.trans harr (.one (fenced_calm hb hr rfl) qec))⟩
 | exit id'=>
  have hx:exitTo id' (.inScope c::k)=exitTo id' k:=by simp[exitTo]
  exact⟨.exit id',a₁,w₁,hq,fun k' hk => .head h0 q2h (harr.1 k' (by rw[hx];exact hk)),
   fun hr' hk=>let ⟨k₁,h1,h2⟩:=harr.2 hr' (by rw[hx];exact hk);⟨k₁,h1,.head h0 q2h h2⟩⟩
 | goto l=>exact absurd rfl (hg l)
 | ret=>exact⟨_,a₁,w₁,hq,.of_steps (.one h0 q2h) harr⟩
 | panic ch=>exact⟨_,a₁,w₁,hq,.of_steps (.one h0 q2h) harr⟩
 | outgrown=>exact⟨_,a₁,w₁,hq,.of_steps (.one h0 q2h) harr⟩
end
end Go
namespace Go.Proofs.YtojflbfdcpkedaaGreat.Vc
noncomputable section
open Go.RowKit
theorem J.scope {P:Program} {cx:Cx} {c:Code} {Q:Exit→S→Prop} {s:S} (h:J P cx c (fun e s'=>Q e s'∧∀l,e ≠ .goto l) s):J P cx (.scope c) Q s:=fun ρ a w hs=>
 qjS (wpIn_mono (h ρ a w hs) fun e a' w' ⟨s',ρ',⟨h1,h3⟩,h2⟩=>⟨⟨s',ρ',h1,h2⟩,h3⟩)
end
noncomputable section
open Go.RowKit
def agB (f f':Int→Int→Option Int) (zs:List Int):Prop:=∀x∈zs,∀y∈zs,f x y=f' x y
theorem qbI {f f':Int→Int→Option Int} {zs:List Int} (h:agB f f' zs) {x y:Int} (hx:x∈zs) (hy:y∈zs):ltB f x y=ltB f' x y:=by unfold ltB;rw[h x hx y hy]
theorem q2N {α:Type} {l:List α} {p q:α→Bool} (h:∀x∈l,p x=q x):l.all p=l.all q:=by
 induction l with
 | nil=>rfl
 | cons x l ih=>rw[List.all_cons,List.all_cons,h x qLs,ih fun y hy=>h y (qLl _ hy)]
theorem qro {f f':Int→Int→Option Int} {zs:List Int} (h:agB f f' zs):okB f zs=okB f' zs:=by
 unfold okB
 congr 1
 ·congr 1
  ·congr 1
   ·exact q2N fun x hx=>q2N fun y hy=>by rw[h x hx y hy]
   ·exact q2N fun x hx=>by rw[qbI h hx hx]
  ·exact q2N fun x hx=>q2N fun y hy=>by rw[qbI h hx hy,qbI h hy hx]
 ·exact q2N fun x hx=>q2N fun y hy=>q2N fun z hz=>by rw[qbI h hx hy,qbI h hy hz,qbI h hx hz]
theorem qay (f:Int→Int→Option Int) (x:Int):∀(l:List Int) (z:Int),z∈qeo f x l↔z=x∨z∈l
 | [],z=>by simp[qeo]
 | y::l,z=>by
  unfold qeo
  split
  ·rw[qLz,qay f x l z,qLz]
   constructor
   ·rintro(h|h|h)
    ·exact .inr (.inl h)
    ·exact .inl h
    ·exact .inr (.inr h)
   ·rintro(h|h|h)
    ·exact .inr (.inl h)
    ·exact .inl h
    ·exact .inr (.inr h)
  ·rw[qLz]
theorem q2I (f:Int→Int→Option Int):∀(l:List Int) (z:Int),z∈q0C f l↔z∈l
 | [],z=>by simp[q0C]
 | x::l,z=>by unfold q0C;rw[qay,q2I f l z,qLz]
theorem qnT {f f':Int→Int→Option Int} {zs:List Int} (h:agB f f' zs) {x:Int} (hx:x∈zs):∀{l:List Int},(∀y∈l,y∈zs)→qeo f x l=qeo f' x l
 | [],_=>rfl
 | y::l,hl=>by
  unfold qeo
  rw[qbI h (hl y qLs) hx,qnT h hx fun z hz=>hl z (qLl _ hz)]
theorem qdT {f f':Int→Int→Option Int} {zs:List Int} (h:agB f f' zs):∀{l:List Int},(∀y∈l,y∈zs)→q0C f l=q0C f' l
 | [],_=>rfl
 | x::l,hl=>by
  have h1:=qdT h (l:=l) fun z hz=>hl z (qLl _ hz)
  unfold q0C
  rw[h1]
  exact qnT h (hl x qLs) fun z hz=>hl z (qLl _ ((q2I f' l z).1 hz))
theorem qhH (f:Int→Int→Option Int) (x:Int):∀l:List Int,(qeo f x l).length=l.length+1
 | []=>rfl
 | y::l=>by
  unfold qeo
  split
  ·rw[qLo,qhH f x l];rfl
  ·rfl
theorem q4L (f:Int→Int→Option Int):∀l:List Int,(q0C f l).length=l.length
 | []=>rfl
 | x::l=>by unfold q0C;rw[qhH,q4L f l];rfl
theorem q8n {f:Int→Int→Option Int} {zs:List Int} (h:okB f zs=true):∀x∈zs,∀y∈zs,∃c,f x y=some c:=fun x hx y hy=>by
 unfold okB at h
 rw[qLJ,qLJ,qLJ] at h
 have:=qLu.1 (qLu.1 h.1.1.1 x hx) y hy
 exact Option.isSome_iff_exists.1 this
end
noncomputable section
open Go.RowKit
def OLe (E E':Orc):Prop:=∀f k args G x,E f k args G=some x→E' f k args G=some x
structure APr where
 run:Orc→Nat→List R→List (Nat×B)→Option (R×List (Nat×B))
 mono:∀E E',OLe E E'→∀k a G x,run E k a G=some x→run E' k a G=some x
 cont:∀(E:Nat→Orc) (E':Orc),(∀n m,n≤m→OLe (E n) (E m))→(∀g k a G x,E' g k a G=some x→∃n,∀m,n≤m→E m g k a G=some x)→∀k a G x,run E' k a G=some x→∃n,∀m,n≤m→run (E m) k a G=some x
def APr.of (p:Nat→List R→List (Nat×B)→Option (R×List (Nat×B))):APr:=⟨fun _=>p,fun _ _ _ _ _ _ _ h=>h,fun _ _ _ _ _ _ _ _ h=>⟨0,fun _ _=>h⟩⟩
theorem APr.of_run (p:Nat→List R→List (Nat×B)→Option (R×List (Nat×B))) (E:Orc):(APr.of p).run E=p:=rfl
structure Pol where
 q:TypeId→List Nat
 ow:FuncId→List Nat
 fz:FuncId→Bool
 kp:FuncId→Nat→List Nat
 kx:FuncId→Nat→List Nat
 rw:FuncId→Nat→List Rw
 ro:FuncId→Bool
 dm:FuncId→Nat→Nat
 an:FuncId→Nat→List (List Nat)
 rk:FuncId→Nat→List Nat
 pr:FuncId→Option APr
def zmk (ow:List Nat):Nat→List (List Nat)→List (List Nat)
 | _,[]=>[]
 | i,z::r=>(if ow.contains i=true then[] else z)::zmk ow (i+1) r
def q3V (po:Pol) (E:Orc) (s:S) (f:Operand) (args:List Operand) (ts:List TypeId):RS:=
 match s.ev f with
 | .c (.fn g fs caps)=>qbj E s g (po.ow g) (zmk (po.ow g) 0 (fs.map (fun _=>[])++ts.map po.q)) (fs.map R.c++args.map s.ev++caps.map R.c)
 | .c (.hd .yield rid)=>q5O E s rid (args.map s.ev)
 | _=>none
def xCl (T:Ty) (po:Pol) (E:Orc) (s:S) (c:Call):RS:=
 match c.callee,c.args.toList,c.argTypes.toList with
 | .builtin .len,[x],[t]=>match T.k t with | .mp _ _=>(qb8 T s t x).map fun r=>(r,s)|_=>qBR T s t x
 | .builtin .min,[x,y],_=>qBP s x y
 | .builtin .max,[x,y],_=>qBM s x y
 | .builtin .append,[x,y],[t,t']=>if t'=t then q7g T s t x y else none
 | .builtin .copy,[x,y],[t,_]=>qnv T s t x y
 | .value f,args,ts=>q3V po E s f args ts
 | _,_,_=>none
def xo (P:Program) (T:Ty) (po:Pol) (E:Orc) (s:S) (op:Op):RS:=
 match op with
 | .move x=>some (s.ev x,s)
 | .assign x=>some (s.ev x,s)
 | .pick c x y=>qoA s c x y
 | .alloc t=>qj1 T s t
 | .box t x=>qBW s t x
 | .build t parts=>qhV T s t parts.toList
 | .buildSlice t len parts=>q2l T s t len parts.toList
 | .load t x=>qqc T s t x
 | .store t x y=>q75 T s t x y
 | .nilCheck x=>q8c s x
 | .binOp op t x y _=>qBx P T s op t x y
 | .unOp op _ x=>xUn s op x
 | .convert t t' x=>qol T s t t' x
 | .makeFunc f first captured=>q8O s f first.toList captured.toList
 | .makeSlice t l c=>qhb T s t l c
 | .slice t x lo hi mx=>qfe T s t x lo hi mx
 | .fieldAddr t x f=>q6I T s t x f
 | .field t x f=>qkd T s t x f
 | .indexAddr t x y=>q6K T s t x y
 | .index t x y=>ql0 T s t x y
 | .extract x i=>qaG s x i
 | .call c=>xCl T po E s c
 | .makeMap t r=>q4X T s s.nx t r
 | .lookup t x y ok=>(q5P T s t x y ok).map fun r=>(r,s)
 | .mapUpdate t m k x=>q67 T s t m k x
 | .insert t m k x=>q67 T s t m k x
 | .mapEntry t m k=>qe4 T s t m k
 | .entryStore _ m st x=>qiw s m st x
 | .range t x=>q7a T s s.nx t x
 | .entry it=>qiB s it
 | .next it str=>if str=true then qkg s it else q9O s it
 | _=>none
def isY (s:S):Op→Bool
 | .call { callee := .value f,.. }=>(match s.ev f with | .c (.hd .yield _)=>true|_=>false)
 | _=>false
def qbq (s:S) (args:List Operand):List Nat:=q6s s (((args.map s.ev).flatMap R.rows).eraseDups)
def qkb (s:S) (i:Nat):List Nat:=match s.blk i with | .row _ _ cs=>cs.flatMap C.rows|_=>[]
def qnn (s:S) (i:Nat):Bool:=match s.blk i with | .row _ _ cs=>cs.all C.dat|_=>false
def S.inr (s:S):List Nat:=((((s.hp.map Prod.fst).eraseDups.flatMap (qkb s)).eraseDups).filter (qnn s))
def S.fn1 (s:S):S:=s.frz s.inr
def frA (s:S) (args:List Operand):S:=s.frz (qbq s args)
def qDm (po:Pol) (s:S) (f:Operand) (args:List Operand):S:=
 match s.ev f with
 | .c (.fn g _ _)=>if po.fz g=true then frA s.fn1.fn1 args else s
 | _=>s
def qBp (s:S) (args:List Operand):S:=s.frz ((qbq s args).filter (qnn s))
def pre (po:Pol) (s:S) (op:Op):S:=
 match op with
 | .buildSlice _ _ parts=>qBp s (parts.toList.map Prod.snd)
 | .call { callee := .value f,args,.. }=>qDm po (s.dzr po.q) f args.toList
 | _=>s
def qcS (s:S):Option Nat→Bool
 | some d=>decide (d<s.n)
 | none=>true
def tt:R := .c (.d (.bool true))
def ff:R := .c (.d (.bool false))
def S.ly (s:S) (c:Operand) (r:R):S:=match c with | .tmp d=>s.put (some d) r|_=>s
def xst (P:Program) (T:Ty) (po:Pol) (E:Orc) (o:Oper) (act:Bool) (s:S):Option S:=
 if act=true then(xo P T po E (pre po s o.op) o.op).bind fun q=>if qcS q.2 o.dst=true then some (q.2.put o.dst q.1) else none
 else if qcS s o.dst=true then some (s.put o.dst (.tup [])) else none
def qcg:List C→Option (List Int)
 | []=>some []
 | c::l=>match c with
  | .d (.int .i64 z)=>(qcg l).map (z :: ·)
  | _=>none
def qFJ (s:S) (dst:Option Nat) (h:List Int→List Int) (id n:Nat):Option S:=
 match s.blk id with
 | .row e 1 cs=>(qcg cs).bind fun zs=>if n=zs.length∧zs.length<4611686018427387904∧qcS s dst=true then some (((s.up [(id,.row e 1 ((h zs).map fun z => .d (.int .i64 z)))]).put dst (.tup [])).frz [id]) else none
 | _=>none
def qG1 (s:S) (dst:Option Nat) (h:List Int→List Int):R→Option S
 | .c (.own id 1 0 n)=>qFJ s dst h id n
 | _=>none
def qBo (T:Ty) (s:S) (dst:Option Nat) (g:FuncId) (args:List Operand):Option (Option S):=
 match args with
 | [x]=>match T.ip g with
  | some h=>some (qG1 s dst h (s.ev x))
  | none=>none
 | _=>none
def ipX (T:Ty) (s:S) (o:Oper):Option (Option S):=
 match o.guard,o.op with
 | none,.call { callee := .value f,args,.. }=>match s.ev f with
  | .c (.fn g [] [])=>qBo T s o.dst g args.toList
  | _=>none
 | _,_=>none
def cfO (E:Orc) (g:FuncId) (x y:Int):Option Int:=
 match E (.fn g) 0 [.c (.d (.int .i64 x)),.c (.d (.int .i64 y))] [] with
 | some (.c (.d (.int .i64 c)),[])=>some c
 | _=>none
def qhR (s:S) (dst:Option Nat) (f:Int→Int→Option Int) (e id n:Nat):Option S:=
 match s.blk id with
 | .row e' 1 cs=>(qcg cs).bind fun zs=>if e'=e∧n=zs.length∧0<zs.length∧zs.length<4611686018427387904∧okB f zs=true∧qcS s dst=true then some (((s.up [(id,.row e 1 ((q0C f zs).map fun z => .d (.int .i64 z)))]).put dst (.tup [])).frz [id]) else none
 | _=>none
def qBJ (E:Orc) (s:S) (dst:Option Nat) (e:TypeId):R→R→Option S
 | .c (.own id 1 0 n),.c (.fn c [] [])=>qhR s dst (cfO E c) e id n
 | _,_=>none
def qyl (T:Ty) (E:Orc) (s:S) (dst:Option Nat) (g:FuncId) (args:List Operand):Option (Option S):=
 match args with
 | [x,y]=>match T.sf g with
  | some e=>some (qBJ E s dst e (s.ev x) (s.ev y))
  | none=>none
 | _=>none
def ipF (T:Ty) (E:Orc) (s:S) (o:Oper):Option (Option S):=
 match o.guard,o.op with
 | none,.call { callee := .value f,args,.. }=>match s.ev f with
  | .c (.fn g [] [])=>qyl T E s o.dst g args.toList
  | _=>none
 | _,_=>none
def ipS (x y:Option (Option S)):Option (Option S):=match x with|some z=>some z|none=>y
def ipA (T:Ty) (E:Orc) (s:S) (o:Oper):Option (Option S):=ipS (ipX T s o) (ipF T E s o)
def qfO (P:Program) (T:Ty) (po:Pol) (E:Orc) (ops:List Oper) (o:Oper) (s:S):Option S:=
 match o.guard with
 | none=>xst P T po E o true s
 | some (j,want)=>match (ops[j]?).bind (·.dst) with
  | some d=>match s.get d with
   | .c (.d (.bool b))=>if b=true then xst P T po E o want (s.put (some d) tt) else xst P T po E o (!want) (s.put (some d) ff)
   | .tup []=>xst P T po E o false s
   | _=>none
  | none=>none
def qpy (x:Option (Option S)) (y:Option S):Option S:=match x with|some s=>s|none=>y
def xgd (P:Program) (T:Ty) (po:Pol) (E:Orc) (ops:List Oper) (o:Oper) (s:S):Option S:=qpy (ipA T E s o) (qfO P T po E ops o s)
def xr (P:Program) (T:Ty) (po:Pol) (E:Orc) (ops:List Oper):List Oper→S→Option S
 | [],s=>some s
 | o::l,s=>(xgd P T po E ops o s).bind fun s'=>xr P T po E ops l s'
def rng:Nat→List Nat→List Nat
 | 0,acc=>acc
 | n+1,acc=>rng n (n::acc)
def qDg (k:Nat) (kp:List Nat) (s:S) (ids:List Nat):Option S:=
 if ids.Nodup∧ids.all (fun i=>(s.blk i).live)=true∧(rng k []).all (fun i=>ids[i]? == some i)=true then some ⟨kp.map (fun i=>(i,cnR ids (s.get i))),cnH s ids ids 0,ids.length,s.n⟩ else none
def qr2 (k:Nat) (kp:List Nat) (s:S):Option S:=qDg k kp s (q4Z s 60 ((rng k []).flatMap (fun i=>(s.blk i).refs)++(kp.map s.get).flatMap R.refs) (rng k []))
def S.fin (s:S) (Q:TypeId→List Nat):S:=((s.dzr Q).fn1).fn1
def nrm (po:Pol) (f key k:Nat) (s:S):Option S:=qr2 k (po.kp f key) (rwAll (s.fin po.q) (po.rw f key))
def zX:Code→Nat
 | .region id _ _=>id
 | .seq a _=>zX a
 | .block _ b=>zX b
 | .scope b=>zX b
 | .loop b=>zX b
 | _=>0
def qhZ (ops:List Oper) (i j:Nat):Bool:=
 match ops[i]?,ops[j]? with
 | some a,some b=>(match a.dst with|some d=>(q5l ops b).contains d||decide (b.dst=some d)|none=>false)||(match b.dst with|some d=>(q5l ops a).contains d|none=>false)
 | _,_=>true
def qvt (ops:List Oper) (m:Nat) (A:List (List Nat)):Bool:=
 let An:=qGj ops
 let n:=ops.length
 (List.range n).all (fun i=>(match ops[i]? with|some o=>(q1g o).all (fun k=>decide (k<i))&&(An.getD i []).all (fun k=>(q1g o).contains k||(q1g o).any fun d=>(An.getD d []).contains k)|none=>false)) &&
 decide (m≤n) &&
 (List.range m).all (fun j=>(List.range j).all fun i => !qhZ ops i j||(An.getD j []).contains i) &&
 (List.range n).all (fun i=>decide (i<m)||(List.range i).all fun j=>(An.getD i []).contains j) &&
 (List.range m).all (fun i=>(A.getD i []).all fun k=>(An.getD i []).contains k)
def drq (po:Pol) (f id:Nat) (ops:List Oper):Bool:=qvt ops (po.dm f id) (po.an f id)
def q7d (q:Nat→List Oper→Bool) (rf:Bool):Code→Bool
 | .region id ops draw => !draw||q id ops.toList
 | .seq a b=>q7d q rf a&&q7d q rf b
 | .cond _ a b=>q7d q rf a&&q7d q rf b
 | .block _ c=>q7d q rf c
 | .scope c=>q7d q rf c
 | .loop c=>q7d q rf c
 | .rangeFunc _ _ a b=>rf&&q7d q false a&&q7d q false b
 | _=>true
abbrev XS:=Option (Exit×S)
def sqD (k:S→XS) (p:Exit×S):XS:=
 match p.1 with
 | .normal=>k p.2
 | e=>some (e,p.2)
def bkD (id:Nat) (p:Exit×S):XS:=
 match p.1 with
 | .exit i=>if i=id then some (.normal,p.2) else some (.exit i,p.2)
 | e=>some (e,p.2)
def scD (p:Exit×S):XS:=
 match p.1 with
 | .goto _=>none
 | e=>some (e,p.2)
def iter:Nat→(S→XS)→S→XS
 | 0,_,_=>none
 | n+1,F,s=>(F s).bind (sqD (iter n F))
def lpx (po:Pol) (f key k:Nat) (p:Exit×S):XS:=
 match p.1 with
 | .normal=>(nrm po f key k p.2).bind fun s2=>some (.normal,s2)
 | e=>(qr2 k (po.kx f key) (p.2.fin po.q)).bind fun s2=>some (e,s2)
def qgP (s:S) (l:List Nat):List R:=(List.range s.n).map fun i=>if l.contains i=true then s.get i else .any
def q9P (s:S) (l:List Nat):List Nat:=q6s s (((l.map s.get).flatMap R.rows).eraseDups)
def qoU (s:S):Option Code→XS
 | none=>some (.normal,s)
 | some .ret=>some (.ret,s)
 | some (.exit i)=>some (.exit i,s)
 | _=>none
def qzc (n:Nat) (s:S):XS:=
 match s.get n with
 | .c (.hd .yield rid)=>match s.blk rid with
  | .ob (.lp f tm ps as bd st pd)=>if st = .busy then none else qoU (s.rfx n rid (.lp f tm ps as bd .exhausted pd)) pd
  | _=>none
 | _=>none
def xRF (po:Pol) (E:Orc) (f:Nat) (g:Operand) (ps:List Nat) (as bd:Code) (s:S):XS:=
 match s.ev g with
 | .c (.fn g' fs caps)=>(qbj E (s.rf f (qgP s (po.rk f (zX bd))) ps as bd) g' (po.ow g') [] (fs.map R.c++[.c (.hd .yield s.nx)]++caps.map R.c)).bind fun q=>qzc s.n q.2
 | _=>none
def qAQ:Op→Option Operand
 | .next it str=>if str=true then none else some it
 | _=>none
def hdG (g:Option (Nat×Bool)) (r:Option Operand):Option Operand:=match g with|none=>r|some _=>none
def qt8:List Oper→Option Operand
 | []=>none
 | o::_=>hdG o.guard (qAQ o.op)
def q3B:Code→Option Operand
 | .region _ ops draw=>if draw=true then none else qt8 ops.toList
 | .seq a _=>q3B a
 | .block _ c=>q3B c
 | .skip=>none
 | .cond _ _ _=>none
 | .loop _=>none
 | .rangeFunc _ _ _ _=>none
 | .exit _=>none
 | .scope _=>none
 | .label _=>none
 | .goto _=>none
 | .ret=>none
 | .refuse _=>none
def S.gh (s:S) (id:Nat) (b:B):S:={ s with hp:=s.hp.map fun p=>if p.1=id then(id,b) else p }
def qzb (bs:List Nat):Nat→List (List Nat)
 | 0=>[[]]
 | n+1=>qzb bs n++(qzb bs n).flatMap fun l=>bs.map (· :: l)
abbrev Me:=List (Value×R×Nat)
def q5y (es:Me):List (List Nat):=qzb (es.map (·.2.2)) es.length
def S.mi (s:S) (id:Nat) (m:R) (ck:Nat) (l:List Nat):S:=s.gh id (.ob (.mi m ck l))
def S.m1 (s:S) (id:Nat) (m:R) (ck:Nat) (e:Option (Value×R×Nat)) (l:List Nat):S:=s.gh id (.ob (.m1 e m ck l))
structure MOk (F:S→XS) (s:S) (id:Nat) (m:R) (ck:Nat) (es:Me) (x:Exit×S):Prop where
 ne:x.1 ≠ .normal
 ent:∀e∈es,(∀l∈q5y es,F (s.m1 id m ck (some e) l)=some (.normal,s.mi id m ck (e.2.2::l)))∨∀l∈q5y es,F (s.m1 id m ck (some e) l)=some x
 fin:(∃e∈es,∀l∈q5y es,F (s.m1 id m ck (some e) l)=some x)∨∀l∈q5y es,F (s.m1 id m ck none l)=some x
def mOf (s:S) (id:Nat) (m:R) (ck:Nat):Option Me:=
 match m with
 | .c .nilm=>some []
 | .c (.hd .map mid)=>if mid=id then none else match s.blk mid with
  | .ob (.mp es c)=>if c=ck then some es else none
  | _=>none
 | _=>none
def kOk:Value→Bool
 | .int _ _=>true
 | .bool _=>true
 | .string _=>true
 | _=>false
def mHd (it:Operand) (s:S):Option (Nat×R×Nat×Me):=
 match s.ev it with
 | .c (.hd .iter id)=>match s.blk id with
  | .ob (.mi m ck [])=>(mOf s id m ck).bind fun es=>if(es.map (·.2.2)).Nodup∧es.all (fun e=>decide (e.2.2<ck)&&kOk e.1)=true then some (id,m,ck,es) else none
  | _=>none
 | _=>none
def mlp (it:Operand) (F:S→XS) (s:S):XS:=open Classical in (mHd it s).bind fun q=>if h:∃x,MOk F s q.1 q.2.1 q.2.2.1 q.2.2.2 x then some (Classical.choose h) else none
def lpM (LO:(S→XS)→S→XS) (o:Option Operand) (F:S→XS) (s:S):XS:=
 match o with
 | none=>LO F s
 | some it=>mlp it F s
theorem q86 (bs:List Nat):∀n,[]∈qzb bs n
 | 0=>qM4.2 rfl
 | n+1=>qLp _ (q86 bs n)
theorem qiV (bs:List Nat):∀(n:Nat) (l:List Nat),l.length≤n→(∀x∈l,x∈bs)→l∈qzb bs n
 | 0,l,h,_=>by
  have:l=[]:=qLw (by omega)
  subst this
  exact q86 bs 0
 | n+1,[],_,_=>q86 bs (n+1)
 | n+1,x::l,h,hx=>by
  refine qLm _ (List.mem_flatMap.2 ⟨l,qiV bs n l (by simpa using h) (fun y hy=>hx y (qLl _ hy)),qLY.2 ⟨x,hx x qLs,rfl⟩⟩)
theorem MOk.one {F:S→XS} {s:S} {id:Nat} {m:R} {ck:Nat} {es:Me} {x y:Exit×S} (hx:MOk F s id m ck es x) (hy:MOk F s id m ck es y):x=y:=by
 have hn:[]∈q5y es:=q86 _ _
 have key:∀{x y:Exit×S},MOk F s id m ck es y→x.1 ≠ .normal→(∃e∈es,∀l∈q5y es,F (s.m1 id m ck (some e) l)=some x)→x=y:=by
  rintro x y hy hx ⟨e,he,h⟩
  rcases hy.ent e he with h2|h2
  ·have:=(h [] hn).symm.trans (h2 [] hn)
   injection this with this
   rw[this] at hx
   exact absurd rfl hx
  ·have:=(h [] hn).symm.trans (h2 [] hn)
   injection this
 rcases hx.fin with h|h
 ·exact key hy hx.ne h
 ·rcases hy.fin with h2|h2
  ·exact(key hx hy.ne h2).symm
  ·have:=(h [] hn).symm.trans (h2 [] hn)
   injection this
theorem qrj {it:Operand} {F:S→XS} {s:S} {id:Nat} {m:R} {ck:Nat} {es:Me} {x:Exit×S} (hm:mHd it s=some (id,m,ck,es)) (h:MOk F s id m ck es x):mlp it F s=some x:=by
 unfold mlp
 rw[hm,qLd,dif_pos ⟨x,h⟩]
 exact congrArg some ((Classical.choose_spec (⟨x,h⟩:∃x,MOk F s id m ck es x)).one h)
theorem qd9 {it:Operand} {F:S→XS} {s:S} {x:Exit×S} (h:mlp it F s=some x):∃id m ck es,mHd it s=some (id,m,ck,es)∧MOk F s id m ck es x:=by
 unfold mlp at h
 obtain⟨⟨id,m,ck,es⟩,h1,h2⟩:=qLi.1 h
 split at h2
 ·rename_i hx
  injection h2 with h2
  exact⟨id,m,ck,es,h1,h2 ▸ Classical.choose_spec hx⟩
 ·cases h2
def XD (P:Program) (T:Ty) (po:Pol) (E:Orc) (DR:Nat→List Oper→S→Option S) (LO:(S→XS)→S→XS) (f k:Nat):Code→S→XS
 | .skip,s=>some (.normal,s)
 | .label _,s=>some (.normal,s)
 | .ret,s=>some (.ret,s)
 | .exit id,s=>some (.exit id,s)
 | .seq a b,s=>(XD P T po E DR LO f k a s).bind (sqD fun s'=>XD P T po E DR LO f k b s')
 | .block id c,s=>(XD P T po E DR LO f k c s).bind (bkD id)
 | .scope c,s=>(XD P T po E DR LO f k c s).bind scD
 | .cond c x y,s=>match s.ev c with
  | .c (.d (.bool b))=>if b=true then XD P T po E DR LO f k x (s.ly c tt) else XD P T po E DR LO f k y (s.ly c ff)
  | _=>none
 | .region id ops draw,s=>if draw=true then(DR id ops.toList ((s.dzr po.q).frz (q9P (s.dzr po.q) (po.rk f id)))).bind fun s'=>some (.normal,s') else(xr P T po E ops.toList ops.toList s).bind fun s'=>some (.normal,s')
 | .rangeFunc g ps as bd,s=>xRF po E f g ps.toList as bd ((s.dzr po.q).frz (q9P (s.dzr po.q) (po.rk f (zX bd))))
 | .loop c,s=>(nrm po f (zX c) k s).bind fun s0=>lpM LO (q3B c) (fun s=>(XD P T po E DR LO f k c s).bind (lpx po f (zX c) k)) s0
 | _,_=>none
section
variable {P:Program} {T:Ty} {po:Pol} {E:Orc} {s s':S} {r:R} {cx:Cx}
theorem qyE (hE:Snd P E) {c:Call} {K:KK} (hny:∀f,c.callee = .value f→∀rid,s.ev f ≠ .c (.hd .yield rid)) (h:xCl T po E s c=some (r,s')) (hK:K r s'):qkS P T s s.nx c K:=by
 unfold xCl at h;unfold qkS
 split at h
 ·rename_i h1 h2 h3
  simp only[h1,h2,h3]
  split at h
  ·rename_i hk
   simp only[hk]
   obtain⟨r',h4,h5⟩:=qLq.1 h
   injection h5 with h5 h6
   subst h5 h6
   exact⟨_,h4,hK⟩
  ·rename_i hk
   split
   ·rename_i hk';exact absurd hk' (hk _ _)
   ·exact qtY h hK
 ·rename_i h1 h2;simp only[h1,h2];exact qs0 h hK
 ·rename_i h1 h2;simp only[h1,h2];exact quq h hK
 ·rename_i h1 h2 h3
  simp only[h1,h2,h3]
  split at h
  ·rename_i ht;exact⟨ht,q97 h hK⟩
  ·cases h
 ·rename_i h1 h2 h3;simp only[h1,h2,h3];exact⟨_,_,h,hK⟩
 ·rename_i f h1
  simp only[h1]
  unfold q3V at h
  split at h
  ·rename_i g fs caps hf
   exact⟨g,fs,caps,hf,qeF hE h hK⟩
  ·rename_i rid hf;exact absurd hf (hny f h1 rid)
  ·cases h
 ·cases h
theorem quE (hE:Snd P E) {op:Op} {K:KK} (hy:isY s op=false) (h:xo P T po E s op=some (r,s')) (hK:K r s'):ox P T s s.nx op K:=by
 cases op with
 | move x=>obtain⟨rfl,rfl⟩:=Zz h;exact hK
 | assign x=>obtain⟨rfl,rfl⟩:=Zz h;exact hK
 | pick c x y=>exact qoe h hK
 | alloc t=>exact qlx h hK
 | box t x=>exact qs3 h hK
 | build t parts=>exact qk3 h hK
 | buildSlice t len parts=>exact qch h hK
 | load t x=>exact qou h hK
 | store t x y=>exact qfn h hK
 | nilCheck x=>exact qfp h hK
 | binOp op t x y t'=>exact qsv h hK
 | unOp op t x=>exact qAa h hK
 | convert t t' x=>exact qqw h hK
 | makeFunc f first captured=>exact qew h hK
 | makeSlice t l c=>exact qiQ h hK
 | slice t x lo hi mx=>exact qnq h hK
 | fieldAddr t x f=>exact qdW h hK
 | field t x f=>exact qm2 h hK
 | indexAddr t x y=>exact qdV h hK
 | index t x y=>exact qn4 h hK
 | extract x i=>exact qgk h hK
 | call c=>
  refine qyE hE (fun f hf rid he=>?_) h hK
  obtain⟨callee,args,ts⟩:=c
  simp only at hf
  subst hf
  simp only[isY,he] at hy
  cases hy
 | makeMap t r=>exact⟨_,_,h,hK⟩
 | lookup t x y ok=>
  obtain⟨r',h4,h5⟩:=qLq.1 (show(q5P T s t x y ok).map (fun r=>(r,s))=some (r,s') from h)
  injection h5 with h5 h6
  subst h5 h6
  exact⟨_,h4,hK⟩
 | mapUpdate t m k x=>exact⟨_,_,h,hK⟩
 | insert t m k x=>exact⟨_,_,h,hK⟩
 | mapEntry t m k=>exact⟨_,_,h,hK⟩
 | entryStore t m st x=>exact⟨_,_,h,hK⟩
 | range t x=>exact⟨_,_,h,hK⟩
 | entry it=>exact⟨_,_,h,hK⟩
 | next it str=>
  cases str
  ·exact⟨_,_,h,hK⟩
  ·exact⟨_,_,h,hK⟩
 | _=>cases h
theorem q5J (s:S) (l:List Nat):(q6s s l).all (fun i => !(s.blk i).isBlk)=true:=by
 rw[qLu];intro i hi
 exact(qM9.1 hi).2
theorem Sim.fn1 {ρ:Pl} {a:Act} {w:World} (hs:Sim cx ρ s a w):Sim cx ρ s.fn1 a w:=hs.frz (by
 rw[qLu]
 intro i hi
 have h:=(qM9.1 hi).2
 unfold qnn at h
 split at h
 ·rename_i hb;rw[hb];rfl
 ·cases h)
theorem qzO (po:Pol) (op:Op) {ρ:Pl} {a:Act} {w:World} (hs:Sim cx ρ s a w):Sim cx ρ (pre po s op) a w:=by
 unfold pre
 split
 ·exact hs.frz (qLu.2 fun i hi=>qLu.1 (q5J _ _) i (qM9.1 hi).1)
 ·have hs:=hs.dzr po.q
  unfold qDm
  split
  ·split
   ·exact hs.fn1.fn1.frz (q5J _ _)
   ·exact hs
  ·exact hs
 ·exact hs
theorem Sim.lit {ρ:Pl} {a:Act} {w:World} (hs:Sim cx ρ s a w) {d:Nat} {b:Bool} (h:s.get d = .c (.d (.bool b))):Sim cx ρ (s.put (some d) (.c (.d (.bool b)))) a w:=by
 refine⟨hs.hd,hs.size,fun i=>?_,hs.hp,hs.hp0,hs.out,hs.inj,hs.nx,hs.kept,hs.oldF,hs.pin,hs.sameF,hs.sep⟩
 show RR w s.live ρ _ (lk ((d,R.c (.d (.bool b)))::s.tm) i .any)
 unfold lk
 split
 ·rename_i hd;subst hd;rw[←h];exact hs.tm d
 ·exact hs.tm i
theorem Sim.ly {ρ:Pl} {a:Act} {w:World} (hs:Sim cx ρ s a w) {c:Operand} {b:Bool} (h:s.ev c = .c (.d (.bool b))):Sim cx ρ (s.ly c (.c (.d (.bool b)))) a w:=by
 cases c with
 | tmp d=>exact hs.lit h
 | _=>exact hs
theorem RR.un {w:World} {L:Nat→Prop} {ρ:Pl}:RR w L ρ undef (.tup []) := .tup _ _ rfl (fun j c h=>by simp at h)
theorem q4R {s:S} {dst:Option Nat} (h:qcS s dst=true):∀d,dst=some d→d<s.n:=fun d hd=>by subst hd;simpa [qcS] using h
theorem qr6 (hA:Ag P T) (hE:Snd P E) {o:Oper} {act:Bool} {ρ:Pl} {a:Act} {w:World} (hs:Sim cx ρ s a w) (h:xst P T po E o act s=some s') {next:Act→World→Prop} {Q:Exit→Act→World→Prop}
  (hn:∀ρ' a' w',Sim cx ρ' s' a' w'→next a' w'):if act=true then o.wpIn (FW cx.ro) 0 P a w next Q else next (a.put o.dst undef) w:=by
 unfold xst at h
 split
 ·rename_i ha
  rw[if_pos ha] at h
  obtain⟨⟨r,s1⟩,h1,h2⟩:=qLi.1 h
  simp only at h2
  split at h2
  ·rename_i hd
   injection h2 with h2
   subst h2
   have hp:=qzO po o.op hs
   by_cases hy:isY (Vc.pre po s o.op) o.op=true
   ·have hny:∃y args ts rid,o.op = .call { callee := .value y,args,argTypes:=ts }∧(Vc.pre po s o.op).ev y = .c (.hd .yield rid):=by
     generalize Vc.pre po s o.op=t at hy
     unfold isY at hy
     split at hy
     ·rename_i y args ts ho
      split at hy
      ·rename_i rid he;exact⟨_,_,_,rid,ho,he⟩
      ·cases hy
     ·cases hy
    obtain⟨y,args,ts,rid,ho,hye⟩:=hny
    have h3:q5O E (Vc.pre po s o.op) rid (args.toList.map (Vc.pre po s o.op).ev)=some (r,s1):=by
     generalize Vc.pre po s o.op=t at h1 hye
     rw[ho] at h1
     simp only[xo,xCl,q3V,hye] at h1
     exact h1
    refine qly hE hp ho hye h3 ?_
    rintro r' s2 ρ' v w' ⟨rfl,rfl⟩ h3 h4
    exact hn ρ' _ w' (h3.put (q4R hd) h4)
   have hox:ox P T (Vc.pre po s o.op) (Vc.pre po s o.op).nx o.op (fun r' s'=>r'=r∧s'=s1):=quE hE (by simpa using hy) h1 ⟨rfl,rfl⟩
   refine qbl (K:=fun r' s'=>r'=r∧s'=s1) hA (fun h=>by have:=hp.nx _ h;omega) hp hox ?_
   rintro r' s2 ρ' v w' ⟨rfl,rfl⟩ h3 h4
   exact hn ρ' _ w' (h3.put (q4R hd) h4)
  ·cases h2
 ·rename_i ha
  rw[if_neg ha] at h
  split at h
  ·rename_i hd
   injection h with h
   subst h
   exact hn ρ _ w (hs.put (q4R hd) RR.un)
  ·cases h
theorem qdX:∀{cs:List C} {zs:List Int},qcg cs=some zs→cs=zs.map fun z => .d (.int .i64 z)
 | [],zs,h=>by injection h with h;subst h;rfl
 | c::l,zs,h=>by
  unfold qcg at h
  split at h
  ·obtain⟨ys,h1,h2⟩:=qLq.1 h
   subst h2
   rw[qdX h1];rfl
  ·cases h
theorem qtX (hA:Ag P T) {g:FuncId} {h:List Int→List Int} (hg:T.ip g=some h) {id n:Nat} {e:TypeId} {cs:List C} (hb:s.blk id = .row e 1 cs) {zs:List Int} (hz:qcg cs=some zs) (hn:n=zs.length) (hlt:zs.length<4611686018427387904) :
  q3A P s g [.c (.own id 1 0 n)] fun r s1=>r = .tup []∧s1=s.up [(id,.row e 1 ((h zs).map fun z => .d (.int .i64 z)))]:=by
 have hI:=hA.ip g h hg
 refine⟨⟨hI.ent⟩,fun cx ρ a w vs hs hv=>?_⟩
 obtain⟨hvs,hvr⟩:=hv
 have hv0:=hvr 0 _ rfl
 obtain⟨v0,hv1⟩:∃v0,vs=#[v0]:=by
  have:vs.size=1:=by simpa using hvs
  exact⟨vs[0],by
   apply Array.ext
   ·simpa using hvs
   ·intro i hi hi'
    have:i=0:=by simp at hi';exact hi'
    subst this;rfl⟩
 subst hv1
 have hv0:RR w _ ρ v0 _:=hv0
 obtain⟨hl,hcase⟩:=hv0.inv_own
 have hcs:=qdX hz
 subst hn
 have hpin:id<cx.k→(B.row e 1 ((h zs).map fun z=>C.d (.int .i64 z))).isBlk=true:=fun hk=>by
  have:=(hs.pin id hk).2
  rw[hb] at this
  cases this
 rcases hcase with ⟨b,cap,e1,e2,e3,e4⟩|⟨e1,e2,-,e5⟩
 ·rw[Nat.zero_mul,qM6] at e4
  rw[qLB] at e2
  obtain⟨hbz,hB⟩:=hs.hp id b cap hl e1
  rw[hb] at hB
  obtain⟨cur,c1,c2,c3,c4,c5,c6⟩:HB w _ ρ b cap (.row e 1 cs):=hB
  have hcl:cs.length=zs.length:=by rw[hcs,qLW]
  have htk:cur.toList.take zs.length=zs.map (Value.int .i64):=by
   apply List.ext_getElem?
   intro j
   by_cases hj:j<zs.length
   ·rw[qLM hj,Array.getElem?_toList,qLr,qLf hj,Option.map_some]
    have:=c6 j (.d (.int .i64 zs[j])) (by rw[hcs,qLr,qLf hj];rfl)
    have hj2:j<cur.size:=by omega
    rw[qLj,qLE hj2,Option.getD_some] at this
    rw[qLE hj2]
    have:=(RR.c _ _ this).inv_int
    rw[this]
   ·rw[List.getElem?_take_eq_none (by omega),qLL (by simp;omega)]
  rw[e4]
  refine(hI.row b cap zs w cur e c1 htk hlt).mono fun e' w'=>?_
  rintro⟨rfl,hgr,cur',d1,d2,d3⟩
  have hHB:HB w' (s.up [(id,B.row e 1 ((h zs).map fun z=>C.d (.int .i64 z)))]).live ρ b cap (.row e 1 ((h zs).map fun z=>C.d (.int .i64 z))):=by
   refine⟨cur',d1,by have:=hI.len zs;simp only[qLW];omega,d2.trans c3,c4,c5,fun j c hj=>?_⟩
   rw[qLr] at hj
   obtain⟨z,q1,q2⟩:=qLq.1 hj
   subst q2
   have hjl:j<zs.length:=by have:=(qLh.1 q1).1;rw[hI.len] at this;exact this
   have h3:(cur'.toList.take zs.length)[j]?=some (.int .i64 z):=by rw[d3,qLr,q1];rfl
   rw[qLM hjl,Array.getElem?_toList] at h3
   rw[qLj,h3]
   exact .d _ _ (.int _ _)
  have hnew:=(hs.overG (id:=id) (x := .row e 1 ((h zs).map fun z=>C.d (.int .i64 z))) hl e1 rfl hpin hgr.size (fun k hk hne=>hgr.block k hk (fun e=>hne (Option.some.inj e))) hgr.os hgr.tape hgr.output hHB).1
  exact⟨_,_,_,ρ,rfl,⟨rfl,rfl⟩,hnew,.tup _ _ rfl (fun j r hj=>by simp at hj)⟩
 ·subst e2
  have hz0:zs=[]:=qLw e5
  subst hz0
  have hh0:h []=[]:=qLw (hI.len [])
  refine(hI.none_ w).mono fun e' w'=>?_
  rintro⟨rfl,rfl⟩
  have hcs0:cs=[]:=by rw[hcs];rfl
  subst hcs0
  refine⟨_,_,_,ρ,rfl,⟨rfl,rfl⟩,?_,.tup _ _ rfl (fun j r hj=>by simp at hj)⟩
  rw[hh0]
  refine hs.ext (fun i=>rfl) (fun i=>?_) rfl (fun i hi=>?_)
  ·rw[S.blk_up]
   by_cases hi:id=i
   ·subst hi;rw[if_pos rfl,hb];rfl
   ·rw[if_neg hi]
  ·have:s.live i:=by
    unfold S.live at hi ⊢
    rw[S.blk_up] at hi
    by_cases hii:id=i
    ·subst hii;rw[hb];rfl
    ·rw[if_neg hii] at hi;exact hi
   have h1:=hs.nx i this
   show i<max s.nx (id+1)
   omega
theorem qyU (hA:Ag P T) {o:Oper} {ρ:Pl} {a:Act} {w:World} (hs:Sim cx ρ s a w) (h:ipX T s o=some (some s')) {next:Act→World→Prop} {Q:Exit→Act→World→Prop}
  (hn:∀ρ' a' w',Sim cx ρ' s' a' w'→next a' w'):o.guard=none∧o.wpIn (FW cx.ro) 0 P a w next Q:=by
 unfold ipX at h
 split at h
 ·rename_i f args ts hg ho
  split at h
  ·rename_i g hf
   unfold qBo at h
   split at h
   ·rename_i x hargs
    split at h
    ·rename_i h0 hip
     injection h with h
     unfold qG1 at h
     split at h
     ·rename_i id n hx
      unfold qFJ at h
      split at h
      ·rename_i e cs hb
       obtain⟨zs,hz,h2⟩:=qLi.1 h
       split at h2
       ·rename_i hc
        obtain⟨c1,c2,c3⟩:=hc
        injection h2 with h2
        have hcall:=qtX (s:=s) hA hip hb hz c1 c2
        have hox:ox P T s s.nx o.op (fun r s1=>r = .tup []∧s1=s.up [(id,.row e 1 ((h0 zs).map fun z => .d (.int .i64 z)))]):=by
         rw[ho]
         unfold ox qkS
         simp only[hargs]
         exact⟨g,[],[],hf,by rw[List.map_nil,qLx,qLy,qLA,List.map_nil,hx];exact hcall⟩
        refine⟨hg,qbl (K:=fun r' s1=>r' = .tup []∧s1=s.up [(id,.row e 1 ((h0 zs).map fun z => .d (.int .i64 z)))]) hA (fun h=>by have:=hs.nx _ h;omega) hs hox ?_⟩
        rintro r' s2 ρ' v w' ⟨rfl,rfl⟩ h3 h4
        refine hn ρ' _ w' ?_
        rw[←h2]
        refine(h3.put (fun d hd=>by have:=q4R c3 d hd;exact this) h4).frz ?_
        rw[List.all_cons,List.all_nil,qMg]
        have e1:(((s.up [(id,.row e 1 ((h0 zs).map fun z => .d (.int .i64 z)))]).put o.dst (.tup [])).blk id)=(s.up [(id,.row e 1 ((h0 zs).map fun z => .d (.int .i64 z)))]).blk id:=by cases o.dst<;>rfl
        rw[e1,S.blk_up]
        simp[B.isBlk]
       ·cases h2
      ·cases h
     ·cases h
    ·cases h
   ·cases h
  ·cases h
 ·cases h
def pl0:Pl:=⟨fun _=>none,fun _=>False⟩
theorem qmA (hE:Snd P E) {g:FuncId} {zs:List Int} (h:okB (cfO E g) zs=true):∀x∈zs,∀y∈zs,∀W:World,Calls P g #[.int .i64 x,.int .i64 y] W fun e' W'=>(∃v,cfO E g x y=some v∧e' = .returned (.int .i64 v))∧W.grownBy W' none:=by
 intro x hx y hy W
 obtain⟨c,hc⟩:=q8n h x hx y hy
 have hc2:E (.fn g) 0 [.c (.d (.int .i64 x)),.c (.d (.int .i64 y))] []=some (.c (.d (.int .i64 c)),[]):=by
  unfold cfO at hc
  split at hc
  ·rename_i d hd;injection hc with hc;subst hc;exact hd
  ·cases hc
 have hac:=hE.fn g 0 _ [] _ _ hc2
 have hnl:∀i,¬ (q2j [] 0).live i:=fun i h=>by cases h
 have hS:Sim ⟨fun _=>False,W,pl0,0,none⟩ pl0 (q2j [] 0) qcs W:=
  ⟨Hd.none,rfl,fun i => .any _,fun i b c h=>absurd h (hnl i),fun i h=>absurd h (hnl i),fun i b c h=>absurd h (hnl i),fun i j b c c' h=>absurd h (hnl i),fun i h=>absurd h (hnl i),qj9.refl _ _,fun b hb=>hb.elim,fun i hi=>absurd hi (Nat.not_lt_zero _),rfl,fun b hb=>hb.elim⟩
 have hr:RRs W (q2j [] 0).live pl0 (#[.int .i64 x,.int .i64 y]:Array Value) [.c (.d (.int .i64 x)),.c (.d (.int .i64 y))]:=by
  refine⟨rfl,fun j r hj=>?_⟩
  cases j with
  | zero=>injection hj with hj;subst hj;exact .c _ _ (.d _ _ (.int .i64 x))
  | succ j=>cases j with
   | zero=>injection hj with hj;subst hj;exact .c _ _ (.d _ _ (.int .i64 y))
   | succ j=>simp at hj
 refine(hac.call ⟨fun _=>False,W,pl0,0,none⟩ pl0 W _ rfl rfl rfl rfl hS hr).mono ?_
 rintro e W' ⟨v,r,hp',nx',ρ',rfl,⟨rfl,rfl⟩,h3,h4⟩
 rw[h4.inv_int]
 exact⟨⟨c,hc,rfl⟩,⟨h3.kept.os,h3.kept.tape,h3.kept.output,h3.kept.size,fun k hk _=>h3.kept.block k hk (fun h=>h)⟩⟩
theorem qv6 (hA:Ag P T) (hE:Snd P E) {g:FuncId} {e:TypeId} (hg:T.sf g=some e) {id n:Nat} {c:FuncId} {cs:List C} (hb:s.blk id = .row e 1 cs) {zs:List Int} (hz:qcg cs=some zs) (hn:n=zs.length) (h0:0<zs.length) (hlt:zs.length<4611686018427387904) (hok:okB (cfO E c) zs=true) :
  q3A P s g [.c (.own id 1 0 n),.c (.fn c [] [])] fun r s1=>r = .tup []∧s1=s.up [(id,.row e 1 ((q0C (cfO E c) zs).map fun z => .d (.int .i64 z)))]:=by
 have hI:=hA.sf g e hg
 refine⟨⟨hI.ent⟩,fun cx ρ a w vs hs hv=>?_⟩
 obtain⟨hvs,hvr⟩:=hv
 have hv0:=hvr 0 _ rfl
 have hv1:=hvr 1 _ rfl
 obtain⟨hl,hcase⟩:=hv0.inv_own
 have hcs:=qdX hz
 subst hn
 have hpin:id<cx.k→(B.row e 1 ((q0C (cfO E c) zs).map fun z=>C.d (.int .i64 z))).isBlk=true:=fun hk=>by
  have:=(hs.pin id hk).2
  rw[hb] at this
  cases this
 rcases hcase with ⟨b,cap,e1,e2,e3,e4⟩|⟨-,-,-,e5⟩
 ·rw[Nat.zero_mul,qM6] at e4
  rw[qLB] at e2
  obtain⟨us,vs2,g1,g2,-,g4,-⟩:=hv1.inv_fn
  obtain rfl:us=#[]:=Array.eq_empty_of_size_eq_zero (by simpa using g2)
  obtain rfl:vs2=#[]:=Array.eq_empty_of_size_eq_zero (by simpa using g4)
  have hvs1:vs=#[.slice (some ⟨b,0,none⟩) zs.length cap,.func (.func c) #[] #[]]:=by
   apply Array.ext
   ·simpa using hvs
   ·intro i hi hi'
    have hg:vs.getD i undef=vs[i]:=by simp[qLj,hi]
    have:i=0∨i=1:=by simp at hi';omega
    rcases this with rfl|rfl
    ·rw[←hg,e4];simp
    ·rw[←hg,g1];rfl
  subst hvs1
  obtain⟨hbz,hB⟩:=hs.hp id b cap hl e1
  rw[hb] at hB
  obtain⟨cur,c1,c2,c3,c4,c5,c6⟩:HB w _ ρ b cap (.row e 1 cs):=hB
  have hcl:cs.length=zs.length:=by rw[hcs,qLW]
  have htk:cur.toList.take zs.length=zs.map (Value.int .i64):=by
   apply List.ext_getElem?
   intro j
   by_cases hj:j<zs.length
   ·rw[qLM hj,Array.getElem?_toList,qLr,qLf hj,Option.map_some]
    have:=c6 j (.d (.int .i64 zs[j])) (by rw[hcs,qLr,qLf hj];rfl)
    have hj2:j<cur.size:=by omega
    rw[qLj,qLE hj2,Option.getD_some] at this
    rw[qLE hj2]
    have:=(RR.c _ _ this).inv_int
    rw[this]
   ·rw[List.getElem?_take_eq_none (by omega),qLL (by simp;omega)]
  have heg:∀args w,(callFunc c args).run P w = .ok (.enter c args) w:=by
   obtain⟨cc,hcc⟩:=q8n hok (zs[0]'(by omega)) (qM5 _) (zs[0]'(by omega)) (qM5 _)
   have hent:qma P c:=by
    unfold cfO at hcc
    split at hcc
    ·rename_i d hd
     exact(hE.fn c 0 _ [] _ _ hd).ent
    ·cases hcc
   obtain⟨fn',f1,f2,f3⟩:=hent.ok
   cases hbd:fn'.body with
   | none=>rw[hbd] at f3;cases f3
   | some c'=>
    intro args w
    have f4:fn'.name ≠ "runtime.NumGoroutine" := by simpa using f2
    simp[callFunc,f1,f4,hbd,mark]
  refine(hI.row c (cfO E c) b cap zs w cur c1 htk h0 hlt hok heg (qmA hE hok)).mono fun e' w'=>?_
  rintro⟨rfl,hgr,cur',d1,d2,d3⟩
  have hHB:HB w' (s.up [(id,B.row e 1 ((q0C (cfO E c) zs).map fun z=>C.d (.int .i64 z)))]).live ρ b cap (.row e 1 ((q0C (cfO E c) zs).map fun z=>C.d (.int .i64 z))):=by
   refine⟨cur',d1,by have:=q4L (cfO E c) zs;simp only[qLW];omega,d2.trans c3,c4,c5,fun j c' hj=>?_⟩
   rw[qLr] at hj
   obtain⟨z,q1,q2⟩:=qLq.1 hj
   subst q2
   have hjl:j<zs.length:=by have:=(qLh.1 q1).1;rw[q4L] at this;exact this
   have h3:(cur'.toList.take zs.length)[j]?=some (.int .i64 z):=by rw[d3,qLr,q1];rfl
   rw[qLM hjl,Array.getElem?_toList] at h3
   rw[qLj,h3]
   exact .d _ _ (.int _ _)
  have hnew:=(hs.overG (id:=id) (x := .row e 1 ((q0C (cfO E c) zs).map fun z=>C.d (.int .i64 z))) hl e1 rfl hpin hgr.size (fun k hk hne=>hgr.block k hk (fun e=>hne (Option.some.inj e))) hgr.os hgr.tape hgr.output hHB).1
  exact⟨_,_,_,ρ,rfl,⟨rfl,rfl⟩,hnew,.tup _ _ rfl (fun j r hj=>by simp at hj)⟩
 ·omega
theorem qxP (hA:Ag P T) (hE:Snd P E) {o:Oper} {ρ:Pl} {a:Act} {w:World} (hs:Sim cx ρ s a w) (h:ipF T E s o=some (some s')) {next:Act→World→Prop} {Q:Exit→Act→World→Prop}
  (hn:∀ρ' a' w',Sim cx ρ' s' a' w'→next a' w'):o.guard=none∧o.wpIn (FW cx.ro) 0 P a w next Q:=by
 unfold ipF at h
 split at h
 ·rename_i f args ts hg ho
  split at h
  ·rename_i g hf
   unfold qyl at h
   split at h
   ·rename_i x y hargs
    split at h
    ·rename_i e hip
     injection h with h
     unfold qBJ at h
     split at h
     ·rename_i id n c hx hy
      unfold qhR at h
      split at h
      ·rename_i e' cs hb
       obtain⟨zs,hz,h2⟩:=qLi.1 h
       split at h2
       ·rename_i hc
        obtain⟨rfl,c1,c0,c2,c4,c3⟩:=hc
        injection h2 with h2
        have hcall:=qv6 (s:=s) hA hE hip hb hz c1 c0 c2 c4
        have hox:ox P T s s.nx o.op (fun r s1=>r = .tup []∧s1=s.up [(id,.row e' 1 ((q0C (cfO E c) zs).map fun z => .d (.int .i64 z)))]):=by
         rw[ho]
         unfold ox qkS
         simp only[hargs]
         exact⟨g,[],[],hf,by rw[List.map_nil,qLx,qLy,qLA,qLA,List.map_nil,hx,hy];exact hcall⟩
        refine⟨hg,qbl (K:=fun r' s1=>r' = .tup []∧s1=s.up [(id,.row e' 1 ((q0C (cfO E c) zs).map fun z => .d (.int .i64 z)))]) hA (fun h=>by have:=hs.nx _ h;omega) hs hox ?_⟩
        rintro r' s2 ρ' v w' ⟨rfl,rfl⟩ h3 h4
        refine hn ρ' _ w' ?_
        rw[←h2]
        refine(h3.put (fun d hd=>by have:=q4R c3 d hd;exact this) h4).frz ?_
        rw[List.all_cons,List.all_nil,qMg]
        have e1:(((s.up [(id,.row e' 1 ((q0C (cfO E c) zs).map fun z => .d (.int .i64 z)))]).put o.dst (.tup [])).blk id)=(s.up [(id,.row e' 1 ((q0C (cfO E c) zs).map fun z => .d (.int .i64 z)))]).blk id:=by cases o.dst<;>rfl
        rw[e1,S.blk_up]
        simp[B.isBlk]
       ·cases h2
      ·cases h
     ·cases h
    ·cases h
   ·cases h
  ·cases h
 ·cases h
theorem qrf (hA:Ag P T) (hE:Snd P E) {o:Oper} {ρ:Pl} {a:Act} {w:World} (hs:Sim cx ρ s a w) (h:ipA T E s o=some (some s')) {next:Act→World→Prop} {Q:Exit→Act→World→Prop}
  (hn:∀ρ' a' w',Sim cx ρ' s' a' w'→next a' w'):o.guard=none∧o.wpIn (FW cx.ro) 0 P a w next Q:=by
 unfold ipA at h
 cases hi:ipX T s o with
 | some y=>rw[hi] at h;injection h with h;subst h;exact qyU hA hs hi hn
 | none=>rw[hi] at h;exact qxP hA hE hs h hn
theorem qpj (hA:Ag P T) (hE:Snd P E) {ops:Array Oper} {Q':Exit→Act→World→Prop}:∀(l:List Oper) (s s':S) (ρ:Pl) (a:Act) (w:World),Sim cx ρ s a w→xr P T po E ops.toList l s=some s'→
  (∀ρ' a' w',Sim cx ρ' s' a' w'→Q' .normal a' w')→wpListIn (FW cx.ro) 0 P ops Q' l a w
 | [],s,s',ρ,a,w,hs,h,hQ=>by injection h with h;subst h;exact hQ ρ a w hs
 | o::l,s,s',ρ,a,w,hs,h,hQ=>by
  unfold xr at h
  obtain⟨s1,h1,h2⟩:=qLi.1 h
  unfold wpListIn
  have key:∀(s0:S) (act:Bool),Sim cx ρ s0 a w→Region.wanted o (yielded ops a.tmps)=act→xst P T po E o act s0=some s1→
    if Region.wanted o (yielded ops a.tmps)=true then o.wpIn (FW cx.ro) 0 P a w (fun a' w'=>wpListIn (FW cx.ro) 0 P ops Q' l a' w') Q' else(∀f,o.about P w a.eval=some f→(FW cx.ro).fn f)∧wpListIn (FW cx.ro) 0 P ops Q' l (a.put o.dst undef) w:=by
   intro s0 act h3 h4 h5
   have:=qr6 (next:=fun a' w'=>wpListIn (FW cx.ro) 0 P ops Q' l a' w') (Q:=Q') hA hE h3 h5 (fun ρ' a' w' h6=>qpj hA hE l s1 s' ρ' a' w' h6 h2 hQ)
   rw[h4]
   split
   ·rename_i ha;rw[if_pos ha] at this;exact this
   ·rename_i ha;rw[if_neg ha] at this;exact⟨qdS,this⟩
  unfold xgd at h1
  cases hi:ipA T E s o with
  | some y=>
   rw[hi] at h1
   replace h1:y=some s1:=h1
   subst h1
   obtain⟨i1,i2⟩:=qrf (next:=fun a' w'=>wpListIn (FW cx.ro) 0 P ops Q' l a' w') (Q:=Q') hA hE hs hi (fun ρ' a' w' h6=>qpj hA hE l s1 s' ρ' a' w' h6 h2 hQ)
   rw[if_pos (by unfold Region.wanted;rw[i1])]
   exact i2
  | none=>
  rw[hi] at h1
  replace h1:qfO P T po E ops.toList o s=some s1:=h1
  unfold qfO at h1
  split at h1
  ·rename_i hg
   exact key s true hs (by unfold Region.wanted;rw[hg]) h1
  ·rename_i j want hg
   split at h1
   ·rename_i d hd
    split at h1
    ·rename_i b hb
     have hgd:gd ops.toList s o.guard=some (b==want):=by unfold gd;rw[hg];simp only[hd,hb]
     have hw:=q4v hs hgd
     split at h1
     ·rename_i hbt
      subst hbt
      exact key _ want (hs.lit hb) (by rw[hw];cases want<;>rfl) h1
     ·rename_i hbf
      have hbf:b=false:=by cases b<;>simp at hbf ⊢
      subst hbf
      exact key _ (!want) (hs.lit hb) (by rw[hw];cases want<;>rfl) h1
    ·rename_i hb
     have hgd:gd ops.toList s o.guard=some false:=by unfold gd;rw[hg];simp only[hd,hb]
     exact key s false hs (q4v hs hgd) h1
    ·cases h1
   ·cases h1
theorem qgB {k:Nat} {kp:List Nat} {s1:S} (hk:cx.k=k) (h:qr2 k kp s1=some s'):Le cx s1 s':=fun ρ1 a w h1=>by
 unfold qr2 at h
 unfold qDg at h
 split at h
 ·rename_i hc
  injection h with h
  generalize q4Z s1 60 _ _=ids at h hc
  obtain⟨c1,c2,c3⟩:=hc
  have hr:∀(n:Nat) (acc:List Nat) (i:Nat),i<n→i∈rng n acc:=by
   intro n
   induction n with
   | zero=>intro acc i hi;omega
   | succ n ih=>
    intro acc i hi
    unfold rng
    by_cases hn:i=n
    ·subst hn
     have:∀(m:Nat) (acc:List Nat) (x:Nat),x∈acc→x∈rng m acc:=by
      intro m
      induction m with
      | zero=>intro acc x hx;exact hx
      | succ m ih2=>intro acc x hx;exact ih2 _ x (qLl _ hx)
     exact this _ _ _ qLs
    ·exact ih _ i (by omega)
  obtain⟨ρ2,h2,-⟩:=h1.canon (ids:=ids) (tm:=kp.map (fun i=>(i,cnR ids (s1.get i)))) (n:=s1.n) (a':=a) c1 c2 (fun i hi=>by
   have:=qLu.1 c3 i (hr k [] i (by omega))
   simpa using this) h1.hd h1.size (fun i=>by
   have:∀l:List Nat,lk (l.map (fun i=>(i,cnR ids (s1.get i)))) i .any = .any∨lk (l.map (fun i=>(i,cnR ids (s1.get i)))) i .any=cnR ids (s1.get i):=by
    intro l
    induction l with
    | nil=>exact .inl rfl
    | cons x l ih=>
     simp only[qLA,lk]
     split
     ·rename_i hx;subst hx;exact .inr rfl
     ·exact ih
   rcases this kp with h|h
   ·exact .inl h
   ·exact .inr ⟨_,h1.tm i,h⟩)
  subst h
  exact⟨ρ2,h2⟩
 ·cases h
theorem Sim.fin {ρ:Pl} {a:Act} {w:World} (hs:Sim cx ρ s a w) (Q:TypeId→List Nat):Sim cx ρ (s.fin Q) a w:=((hs.dzr Q).fn1).fn1
theorem qrz (s:S) (Q:TypeId→List Nat):Le cx s (s.fin Q):=fun ρ _ _ hs=>⟨ρ,hs.fin Q⟩
theorem qiG {f key k:Nat} (hk:cx.k=k) (h:nrm po f key k s=some s'):Le cx s s':=fun _ _ _ hs=>by
 obtain⟨ρ1,h1⟩:=(hs.fin po.q).rwAll (po.rw f key)
 exact qgB hk h ρ1 _ _ h1
theorem J.weak {c:Code} {Q Q':Exit→S→Prop} (h:J P cx c Q s) (hq:∀e s,Q e s→∃s',Le cx s s'∧Q' e s'):J P cx c Q' s:=fun ρ a w hs=>
 wpIn_mono (h ρ a w hs) fun _ _ _ ⟨s',ρ',h1,h2⟩=>by
  obtain⟨s'',h3,h4⟩:=hq _ _ h1
  obtain⟨ρ'',h5⟩:=h3 ρ' _ _ h2
  exact⟨s'',ρ'',h4,h5⟩
def qBn (P:Program) (q:Nat→List Oper→Bool) (k:Nat) (DR:Nat→List Oper→S→Option S):Prop:=
 ∀(cx:Cx) (id:Nat) (ops:Array Oper) (s s':S) (Q:Exit→S→Prop),cx.k=k→q id ops.toList=true→DR id ops.toList s=some s'→Q .normal s'→J P cx (.region id ops true) Q s
theorem qqf (s:S) (l:List Nat):(qgP s l).length=s.n∧∀i r,(qgP s l)[i]?=some r→r = .any∨r=s.get i:=by
 refine⟨by simp[qgP],fun i r h=>?_⟩
 unfold qgP at h
 rw[qLr] at h
 obtain⟨j,h1,h2⟩:=qLq.1 h
 have hj:j=i:=by
  have:=(qLh.1 h1).2
  rw[List.getElem_range] at this
  exact this.symm
 subst hj
 split at h2
 ·exact .inr h2.symm
 ·exact .inl h2.symm
theorem qzn (hE:Snd P E) {f:Nat} {g:Operand} {ps:Array Tmp} {as bd:Code} {e:Exit} {Q:Exit→S→Prop} (hro:cx.ro=none) (h:xRF po E f g ps.toList as bd s=some (e,s')) (hQ:Q e s'):J P cx (.rangeFunc g ps as bd) Q s:=by
 unfold xRF at h
 split at h
 ·rename_i g' fs caps hg
  obtain⟨⟨r,s2⟩,h1,h2⟩:=qLi.1 h
  refine J.rangeFunc (K:=fun r' s2'=>r'=r∧s2'=s2) hro hg (qqf s _) (qeF hE h1 ⟨rfl,rfl⟩) ?_
  rintro r' s2' ⟨rfl,rfl⟩
  unfold qzc at h2
  simp only at h2
  split at h2
  ·rename_i rid hr
   split at h2
   ·rename_i f' tm' ps' as' bd' st pd hb
    split at h2
    ·cases h2
    ·rename_i hst
     refine⟨rid,f',tm',ps',as',bd',st,pd,hr,hb,hst,?_⟩
     unfold qoU at h2
     split at h2
     ·injection h2 with h2;injection h2 with h3 h4;subst h3 h4;exact hQ
     ·injection h2 with h2;injection h2 with h3 h4;subst h3 h4;exact hQ
     ·injection h2 with h2;injection h2 with h3 h4;subst h3 h4;exact hQ
     ·cases h2
   ·cases h2
  ·cases h2
 ·cases h
theorem qdb {id j:Nat} (b:B) (h:id≠j):∀l:List (Nat×B),lk (l.map fun p=>if p.1=id then(id,b) else p) j .dead=lk l j .dead
 | []=>rfl
 | (i,x)::l=>by
  simp only[qLA,lk]
  by_cases hi:i=id
  ·subst hi
   simp only[if_true,if_neg h]
   exact qdb b h l
  ·simp only[if_neg hi]
   split
   ·rfl
   ·exact qdb b h l
theorem qhY {id:Nat} (b:B):∀l:List (Nat×B),lk l id .dead ≠ .dead→lk (l.map fun p=>if p.1=id then(id,b) else p) id .dead=b
 | [],h=>absurd rfl h
 | (i,x)::l,h=>by
  simp only[qLA,lk]
  by_cases hi:i=id
  ·simp only[if_pos hi,if_true]
  ·simp only[if_neg hi]
   refine qhY b l ?_
   simpa only[lk,if_neg hi] using h
theorem qfd {id:Nat} (b:B) (h:s.blk id ≠ .dead) (j:Nat):(s.gh id b).blk j=if id=j then b else s.blk j:=by
 unfold S.gh S.blk
 split
 ·rename_i hj;subst hj;exact qhY b _ h
 ·rename_i hj;exact qdb b hj _
theorem qDV (id:Nat) (b c:B):(s.gh id b).gh id c=s.gh id c:=by
 unfold S.gh
 simp only[List.map_map]
 congr 1
 apply List.map_congr_left
 intro p _
 simp only[Function.comp]
 by_cases hp:p.1=id
 ·simp[hp]
 ·simp[hp]
theorem qj9.drew (w:World):qj9 (fun _=>False) w w.drew:=⟨rfl,rfl,rfl,qLt _,fun _ _ _=>rfl⟩
theorem qfH (w:World) (ty:TypeId) (b bm since c0:Nat) (seen:Array Nat) (es:Array MapEntry) (clock:Nat) (hb:w.heap[b]?=some (.mapIter (some bm) since seen c0)) (hm:w.heap[bm]?=some (.map es clock)) (hold:∀x∈es.toList,x.born<since) (hsc:since≤c0) :
  ((leftOf es seen).size=0∧(Instr.next (.pointer (some ⟨b,0,none⟩)) false ty).run P w = .ok (.tuple #[.bool false]) w)∨
  ∃e∈(leftOf es seen).toList,∃w1:World,(w1=w∨w1=w.drew)∧(Instr.next (.pointer (some ⟨b,0,none⟩)) false ty).run P w = .ok (.tuple #[.bool true,e.key,e.val]) (w1.putObj b (.mapIter (some bm) since (seen.push e.born) clock)):=by
 simp only[Instr.next,Sem.run_bind,q09 hb rfl,q09 hm rfl,Result.andThen,next_test_false seen es since c0 hold hsc,Bool.false_eq_true,if_false]
 unfold leftOf
 have hmem:∀x∈(Array.filter (fun e => !seen.contains e.born) es).toList,x.born<since:=fun x hx=>hold x (by simp at hx ⊢;exact hx.1)
 generalize Array.filter (fun e => !seen.contains e.born) es=L at hmem ⊢
 have e1:L.filter (fun x=>decide (x.born<since))=L:=Array.filter_eq_self.2 (fun x hx=>by simpa using hmem x (by simpa using hx))
 have e2:L.filter (fun x=>decide (x.born ≥ since))=#[]:=by
  rw[Array.filter_eq_empty_iff]
  intro x hx
  have:=hmem x (by simpa using hx)
  simp
  omega
 simp only[e1,e2,Array.append_empty]
 by_cases h0:L.size=0
 ·left
  have:L=#[]:=Array.eq_empty_of_size_eq_zero h0
  subst this
  refine⟨rfl,?_⟩
  simp[choose,Sem.run,Question.forced]
 ·right
  have hne:L.isEmpty=false:=by simp[Array.isEmpty,h0]
  simp only[hne,Bool.false_eq_true,if_false,Array.empty_append,Array.size_map]
  have hch:∃(j:Nat) (w1:World),j<L.size∧(w1=w∨w1=w.drew)∧(choose (Question.mapNext L.size)).run P w = .ok j w1:=by
   by_cases hf:L.size≤1
   ·exact⟨0,w,by omega,.inl rfl,by simp[choose,Sem.run,Question.forced,hf]⟩
   ·exact⟨_,w.drew,Nat.mod_lt _ (by omega),.inr rfl,by
     simp only[choose,Sem.run,Question.forced,qMd,hf,if_false,Question.cut]
     rfl⟩
  obtain⟨j,w1,hj,hal,hrun⟩:=hch
  refine⟨L[j],by simp,w1,hal,?_⟩
  have hb1:w1.heap[b]?=some (.mapIter (some bm) since seen c0):=by rcases hal with rfl|rfl<;>exact hb
  simp only[hrun,Array.getElem?_map,qLE hj,Option.map_some,Sem.run_bind,q53 hb1 rfl,Result.andThen]
  rfl
def NX (P:Program) (T:Ty) (po:Pol) (E:Orc) (cx:Cx) (it:Operand) (s:S) (G:Option (Value×R×Nat)→Prop) (mk:Option (Value×R×Nat)→S):Prop:=
 ∀(o:Oper) (ρ:Pl) (a:Act) (w:World) (next:Act→World→Prop) (Q:Exit→Act→World→Prop),o.op = .next it false→Sim cx ρ s a w→(∀g ρ' a' w',G g→(∀s1,xst P T po E o true (mk g)=some s1→Sim cx ρ' s1 a' w')→next a' w')→o.wp P a w next Q
theorem qFr {it:Operand} {id:Nat} {m:R} {ck:Nat} {es:Me} {l:List Nat} (hx:s.ev it = .c (.hd .iter id)) (hb:s.blk id = .ob (.mi m ck l)) (hm:mOf s id m ck=some es) (hck:es.all (fun e=>decide (e.2.2<ck)&&kOk e.1)=true) :
  NX P T po E cx it s (fun g=>(g=none∧∀e∈es,e.2.2∈l)∨∃e∈es,g=some e∧e.2.2 ∉ l) (fun g=>s.m1 id m ck g l):=by
 intro o ρ a w next Q ho hs hn
 have he:execOp a.eval o=(do pure (.value (←Instr.next (a.eval it) false o.type))):=by unfold execOp;simp only[ho]
 have hxv:=hs.ev it
 rw[hx] at hxv
 obtain⟨b,cap,h1,h2,h3⟩:=hxv.inv_hd
 have hB:=(hs.hp id b cap h1 h2).2
 rw[hb] at hB
 obtain⟨mb,q1,q2⟩:HO w s.live ρ b (.mi m ck l):=hB
 have q4:∀x,(l.reverse.toArray).contains x=l.contains x:=fun x=>by simp
 have hnd:s.blk id ≠ .dead:=by rw[hb];simp
 have hgb:∀(x y:B) (j:Nat),((s.gh id x).up [(id,y)]).blk j=(s.up [(id,y)]).blk j:=fun x y j=>by
  rw[S.blk_up,S.blk_up,qfd x hnd]
  split<;>rfl
 have fin:∀(g:Option (Value×R×Nat)) (r:R) (x:B) (v:Value) (w1:World),((g=none∧∀e∈es,e.2.2∈l)∨∃e∈es,g=some e∧e.2.2 ∉ l)→q9O (s.m1 id m ck g l) it=some (r,(s.m1 id m ck g l).up [(id,x)])→
   Sim cx ρ (s.up [(id,x)]) a w1→RR w1 (s.up [(id,x)]).live ρ v r→next (a.put o.dst v) w1:=by
  intro g r x v w1 hG hN hs1 hr
  refine hn g ρ _ w1 hG (fun s1 h=>?_)
  unfold xst at h
  rw[if_pos rfl,ho] at h
  change (q9O (s.m1 id m ck g l) it).bind _=_ at h
  rw[hN,qLd] at h
  simp only at h
  split at h
  ·rename_i hd
   injection h with h
   subst h
   have hp:=hs1.put (dst:=o.dst) (q4R hd) hr
   refine hp.ext (fun i=>?_) (fun i=>?_) ?_ (fun i hi=>?_)
   ·cases o.dst<;>rfl
   ·have e1:(((s.m1 id m ck g l).up [(id,x)]).put o.dst r).blk i=((s.m1 id m ck g l).up [(id,x)]).blk i:=by cases o.dst<;>rfl
    have e2:((s.up [(id,x)]).put o.dst r).blk i=(s.up [(id,x)]).blk i:=by cases o.dst<;>rfl
    rw[e1,e2]
    exact hgb _ _ _
   ·cases o.dst<;>rfl
   ·have e1:(((s.m1 id m ck g l).up [(id,x)]).put o.dst r).live i→(s.up [(id,x)]).live i:=by
     unfold S.live
     have e1:(((s.m1 id m ck g l).up [(id,x)]).put o.dst r).blk i=((s.m1 id m ck g l).up [(id,x)]).blk i:=by cases o.dst<;>rfl
     rw[e1]
     intro h
     have:=hgb (.ob (.m1 g m ck l)) x i
     rw[←this];exact h
    have h5:=hs1.nx i (e1 hi)
    have e2:(((s.m1 id m ck g l).up [(id,x)]).put o.dst r).nx=(s.up [(id,x)]).nx:=by cases o.dst<;>rfl
    rw[e2];exact h5
  ·cases h
 have hev:(s.gh id (.ob (.m1 none m ck l))).ev it=s.ev it:=rfl
 have hnm:∀g,q9O (s.m1 id m ck g l) it=match g with
   | some e=>some (.tup [.c (.d (.bool true)),kR e.1,e.2.1],(s.m1 id m ck g l).up [(id,.ob (.mi m ck (e.2.2::l)))])
   | none=>some (.tup [.c (.d (.bool false))],(s.m1 id m ck g l).up [(id,.ob (.mi m ck l))]):=fun g=>by
  unfold q9O
  have e1:(s.m1 id m ck g l).ev it = .c (.hd .iter id):=hx
  have e2:(s.m1 id m ck g l).blk id = .ob (.m1 g m ck l):=by unfold S.m1;rw[qfd _ hnd,if_pos rfl]
  rw[e1]
  simp only[e2]
  cases g<;>rfl
 have hsame:Sim cx ρ (s.up [(id,.ob (.mi m ck l))]) a w:=by
  have hbk:∀i,(s.up [(id,.ob (.mi m ck l))]).blk i=s.blk i:=fun i=>by
   rw[S.blk_up]
   split
   ·rename_i hi;subst hi;exact hb.symm
   ·rfl
  refine hs.ext (fun _=>rfl) hbk rfl (fun i hi=>?_)
  have:s.live i:=by unfold S.live at hi ⊢;rw[←hbk];exact hi
  have:=hs.nx i this
  show i<max s.nx (id+1)
  omega
 have tupF:RR w (s.up [(id,.ob (.mi m ck l))]).live ρ (.tuple #[.bool false]) (.tup [.c (.d (.bool false))]):=by
  refine .tup _ _ rfl (fun j c hj=>?_)
  match j,hj with
  | 0,hj=>simp only[qLn,qM3] at hj;subst hj;exact .c _ _ (.d _ _ (.bool _))
  | j+1,hj=>simp at hj
 unfold mOf at hm
 split at hm
 ·injection hm with hm
  subst hm
  obtain rfl:mb=none:=by have:=q1.inv_nilm;injection this
  refine Ql he (w':=w) (v := .tuple #[.bool false]) ?_ (fin none _ _ _ _ (.inl ⟨rfl,fun e he=>by simp at he⟩) (hnm none) hsame tupF)
  rw[h3]
  simp[Instr.next,HK.val,q09 q2 rfl]
 ·rename_i mid
  split at hm
  ·cases hm
  ·rename_i hne
   split at hm
   ·rename_i es' c' hmb
    split at hm
    ·rename_i hc
     injection hm with hm
     subst hc hm
     obtain⟨bm,capm,g1,g2,g3⟩:=q1.inv_hd
     obtain rfl:mb=some bm:=by have g3:Value.map mb=Value.map (some bm):=g3;injection g3
     have hMB:=(hs.hp mid bm capm g1 g2).2
     rw[hmb] at hMB
     obtain⟨mes,m1,m2,m3,m4⟩:=HO.keys (show HO w s.live ρ bm (.mp es' c') from hMB)
     have hmem:∀x∈mes.toList,∃e∈es',e.1=x.key∧RR w s.live ρ x.val e.2.1∧e.2.2=x.born:=fun x hx=>by
      obtain⟨j,hj,rfl⟩:=List.mem_iff_getElem.1 hx
      have hj':j<es'.length:=by rw[←m2];simpa using hj
      obtain⟨y,p1,p2,p3,p4,p5⟩:=m4 j _ (qLf hj')
      rw[qLf hj] at p2
      injection p2 with p2
      subst p2
      exact⟨_,qM5 hj',p3.symm,p4,p5.symm⟩
     have hold:∀x∈mes.toList,x.born<c':=fun x hx=>by
      obtain⟨e,p1,-,-,p2⟩:=hmem x hx
      have:=qLu.1 hck e p1
      simp only[qLJ,qMd] at this
      omega
     rcases qfH (P:=P) w o.type b bm c' c' l.reverse.toArray mes c' q2 m1 hold (qLt _) with ⟨r1,r2⟩|⟨x,hx,w1,hw1,r2⟩
     ·refine Ql he (w':=w) (v := .tuple #[.bool false]) ?_ (fin none _ _ _ _ (.inl ⟨rfl,fun e he=>?_⟩) (hnm none) hsame tupF)
      ·rw[h3];exact r2
      ·obtain⟨j,hj,rfl⟩:=List.mem_iff_getElem.1 he
       obtain⟨y,p1,p2,p3,p4,p5⟩:=m4 j _ (qLf hj)
       have:=all_seen mes l.reverse.toArray r1 y (qLe p2)
       rw[q4,p5] at this
       exact qLS.1 this
     ·obtain⟨x1,x2⟩:=mem_left hx
      obtain⟨e,e1,e2,e3,e4⟩:=hmem x x1
      have hs1:Sim cx ρ s a w1:=by rcases hw1 with rfl|rfl;exact hs;exact hs.grow (qj9.drew w)
      have hq1:RR w1 s.live ρ (.map (some bm)) (.c (.hd .map mid)):=by rcases hw1 with rfl|rfl;exact q1;exact .c _ _ (.hd .map mid bm capm g1 g2)
      have he3:RR w1 s.live ρ x.val e.2.1:=by
       rcases hw1 with rfl|rfl
       ·exact e3
       ·exact RR.stay (w:=w) (w':=w.drew) (L:=s.live) (ρ:=ρ) (L':=s.live) (ρ':=ρ) ⟨qLt _,fun _ _ _=>rfl,fun _ _ h=>h,fun _ h=>⟨h,rfl⟩⟩ e3
      have hkk:∀k,k≠b→(w1.putObj b (.mapIter (some bm) c' (l.reverse.toArray.push x.born) c')).heap[k]?=w1.heap[k]?:=fun k hk=>World.putObj_heap_other hk
      have hst:=q87 (s:=s) (w:=w1) (x := .ob (.mi (.c (.hd .map mid)) c' (e.2.2::l))) h1 h2 rfl (w':=w1.putObj b (.mapIter (some bm) c' (l.reverse.toArray.push x.born) c')) (by simp) hkk
      refine Ql he (w':=w1.putObj b (.mapIter (some bm) c' (l.reverse.toArray.push x.born) c')) (v := .tuple #[.bool true,x.key,x.val]) ?_ (fin (some e) _ _ _ _ (.inr ⟨e,e1,rfl,fun hm=>?_⟩) (hnm (some e)) (hs1.overO h1 h2 fun hst hO=>?_) ?_)
      ·rw[h3];exact r2
      ·rw[q4,←e4] at x2
       rw[qLS.2 hm] at x2
       cases x2
      ·exact⟨some bm,hq1.stay hst,by rw[hO,List.reverse_cons,e4];simp⟩
      ·refine .tup _ _ rfl (fun j c hj=>?_)
       match j,hj with
       | 0,hj=>simp only[qLn,qM3] at hj;subst hj;exact .c _ _ (.d _ _ (.bool _))
       | 1,hj=>simp only[qLC,qLn,qM3] at hj;subst hj;rw[e2];exact qzh _
       | 2,hj=>simp only[qLC,qLn,qM3] at hj;subst hj;exact he3.stay hst
       | j+3,hj=>simp at hj
    ·cases hm
   ·cases hm
 ·cases hm
theorem qwo {id:Nat} (b:B) (h:s.blk id ≠ .dead) (m:R) (ck:Nat):mOf (s.gh id b) id m ck=mOf s id m ck:=by
 unfold mOf
 split
 ·rfl
 ·split
  ·rfl
  ·rename_i hne
   rw[qfd b h,if_neg (Ne.symm hne)]
 ·rfl
theorem qb2 {f key k:Nat} {e0 e1:Exit} {t0 t1:S} (h:lpx po f key k (e0,t0)=some (e1,t1)):(e0 = .normal∧e1 = .normal∧nrm po f key k t0=some t1)∨(e0=e1∧e1 ≠ .normal∧qr2 k (po.kx f key) (t0.fin po.q)=some t1):=by
 unfold lpx at h
 split at h
 ·rename_i he
  simp only at he h
  subst he
  obtain⟨t3,h6,h7⟩:=qLi.1 h
  injection h7 with h7;injection h7 with h8 h9
  subst h8 h9
  exact .inl ⟨rfl,rfl,h6⟩
 ·rename_i he
  simp only at he h
  obtain⟨t3,h6,h7⟩:=qLi.1 h
  injection h7 with h7;injection h7 with h8 h9
  subst h8 h9
  exact .inr ⟨rfl,fun h=>he h,h6⟩
theorem qjK {L:List Oper} {it:Operand} (h:qt8 L=some it):∃o l,L=o::l∧o.guard=none∧o.op = .next it false:=by
 cases L with
 | nil=>cases h
 | cons o l=>
  refine⟨o,l,rfl,?_⟩
  have h:hdG o.guard (qAQ o.op)=some it:=h
  cases hg:o.guard with
  | some x=>rw[hg] at h;cases h
  | none=>
   rw[hg] at h
   refine⟨rfl,?_⟩
   have h:qAQ o.op=some it:=h
   cases ho:o.op with
   | next it' str=>
    rw[ho] at h
    have h:(if str=true then none else some it')=some it:=h
    cases str
    ·injection h with h;rw[h]
    ·cases h
   | _=>rw[ho] at h;cases h
theorem qAg (hA:Ag P T) (hE:Snd P E) {DR:Nat→List Oper→S→Option S} {f k n:Nat} {q:Nat→List Oper→Bool} {rf:Bool} (hD:qBn P q k DR):∀(c:Code),
  (∀(s s':S) (e:Exit) (cx:Cx) (Q:Exit→S→Prop),q7d q rf c=true→cx.k=k→(rf=true→cx.ro=none)→XD P T po E DR (iter n) f k c s=some (e,s')→Q e s'→J P cx c Q s)∧
  ∀(it:Operand) (s:S) (cx:Cx) (G:Option (Value×R×Nat)→Prop) (mk:Option (Value×R×Nat)→S),q3B c=some it→q7d q rf c=true→cx.k=k→(rf=true→cx.ro=none)→NX P T po E cx it s G mk→
   (∀g,G g→∃p,XD P T po E DR (iter n) f k c (mk g)=some p)→J P cx c (fun e t=>∃g,G g∧XD P T po E DR (iter n) f k c (mk g)=some (e,t)) s:=by
 intro c
 induction c with
 | skip=>exact⟨fun s s' e cx Q hq hk hro h hQ=>by injection h with h;injection h with h1 h2;subst h1 h2;exact J.skip hQ,fun it s cx G mk h=>by cases h⟩
 | label l=>exact⟨fun s s' e cx Q hq hk hro h hQ=>by injection h with h;injection h with h1 h2;subst h1 h2;exact J.label hQ,fun it s cx G mk h=>by cases h⟩
 | ret=>exact⟨fun s s' e cx Q hq hk hro h hQ=>by injection h with h;injection h with h1 h2;subst h1 h2;exact J.ret hQ,fun it s cx G mk h=>by cases h⟩
 | exit id=>exact⟨fun s s' e cx Q hq hk hro h hQ=>by injection h with h;injection h with h1 h2;subst h1 h2;exact J.exit hQ,fun it s cx G mk h=>by cases h⟩
 | seq x y ihx ihy=>
  refine⟨fun s s' e cx Q hq hk hro h hQ=>?_,fun it s cx G mk hh hq hk hro hN hx=>?_⟩
  ·unfold XD at h
   obtain⟨⟨e1,s1⟩,h1,h2⟩:=qLi.1 h
   have hq:q7d q rf x=true∧q7d q rf y=true:=(qLJ _ _).mp hq
   refine J.seq (ihx.1 s s1 e1 cx _ hq.1 hk hro h1 ?_)
   unfold sqD at h2
   split at h2
   ·rename_i he
    simp only at he
    subst he
    exact ihy.1 _ s' e cx Q hq.2 hk hro h2 hQ
   ·rename_i he
    simp only at he
    injection h2 with h2;injection h2 with h3 h4
    simp only at h3 h4
    subst h3 h4
    cases e1 with
    | normal=>exact absurd rfl he
    | _=>exact hQ
  ·have hq:q7d q rf x=true∧q7d q rf y=true:=(qLJ _ _).mp hq
   refine J.seq (J.weak (ihx.2 it s cx G mk hh hq.1 hk hro hN (fun g hg=>?_)) ?_)
   ·obtain⟨p,hp⟩:=hx g hg
    unfold XD at hp
    obtain⟨p1,h1,-⟩:=qLi.1 hp
    exact⟨p1,h1⟩
   ·rintro e1 t1 ⟨g,hg,h1⟩
    refine⟨t1,Le.refl _,?_⟩
    obtain⟨⟨e2,t2⟩,hp⟩:=hx g hg
    have hp0:=hp
    unfold XD at hp
    rw[h1,qLd] at hp
    unfold sqD at hp
    cases e1 with
    | normal=>exact ihy.1 _ t2 e2 cx _ hq.2 hk hro hp ⟨g,hg,hp0⟩
    | _=>injection hp with hp;injection hp with h3 h4;subst h3 h4;exact⟨g,hg,hp0⟩
 | block id x ih=>
  refine⟨fun s s' e cx Q hq hk hro h hQ=>?_,fun it s cx G mk hh hq hk hro hN hx=>?_⟩
  ·unfold XD at h
   obtain⟨⟨e1,s1⟩,h1,h2⟩:=qLi.1 h
   refine J.block (ih.1 s s1 e1 cx _ hq hk hro h1 ?_)
   unfold bkD at h2
   split at h2
   ·rename_i i he
    simp only at he
    subst he
    split at h2
    ·rename_i hi
     injection h2 with h2;injection h2 with h3 h4
     simp only at h4
     subst h3 h4
     simp only[Bk,if_pos hi];exact hQ
    ·rename_i hi
     injection h2 with h2;injection h2 with h3 h4
     simp only at h4
     subst h3 h4
     simp only[Bk,if_neg hi];exact hQ
   ·rename_i he
    simp only at he
    injection h2 with h2;injection h2 with h3 h4
    simp only at h3 h4
    subst h3 h4
    cases e1 with
    | exit i=>exact absurd rfl (he i)
    | _=>exact hQ
  ·refine J.block (J.weak (ih.2 it s cx G mk hh hq hk hro hN (fun g hg=>?_)) ?_)
   ·obtain⟨p,hp⟩:=hx g hg
    unfold XD at hp
    obtain⟨p1,h1,-⟩:=qLi.1 hp
    exact⟨p1,h1⟩
   ·rintro e1 t1 ⟨g,hg,h1⟩
    refine⟨t1,Le.refl _,?_⟩
    obtain⟨⟨e2,t2⟩,hp⟩:=hx g hg
    have hp0:=hp
    unfold XD at hp
    rw[h1,qLd] at hp
    unfold bkD at hp
    cases e1 with
    | exit i=>
     simp only at hp
     split at hp
     ·rename_i hi
      injection hp with hp;injection hp with h3 h4;subst h3 h4
      simp only[Bk,if_pos hi];exact⟨g,hg,hp0⟩
     ·rename_i hi
      injection hp with hp;injection hp with h3 h4;subst h3 h4
      simp only[Bk,if_neg hi];exact⟨g,hg,hp0⟩
    | _=>injection hp with hp;injection hp with h3 h4;subst h3 h4;exact⟨g,hg,hp0⟩
 | scope x ih=>
  refine⟨fun s s' e cx Q hq hk hro h hQ=>?_,fun it s cx G mk h=>by cases h⟩
  unfold XD at h
  obtain⟨⟨e1,s1⟩,h1,h2⟩:=qLi.1 h
  unfold scD at h2
  cases e1 with
  | goto l=>cases h2
  | _=>
   injection h2 with h2;injection h2 with h3 h4
   subst h3 h4
   exact J.scope (ih.1 _ _ _ _ _ hq hk hro h1 ⟨hQ,fun l hl=>by cases hl⟩)
 | cond c x y ihx ihy=>
  refine⟨fun s s' e cx Q hq hk hro h hQ=>?_,fun it s cx G mk h=>by cases h⟩
  have hq:q7d q rf x=true∧q7d q rf y=true:=(qLJ _ _).mp hq
  unfold XD at h
  split at h
  ·rename_i b hb
   split at h
   ·rename_i hbt;subst hbt;exact J.cond hb (fun _ ρ a w hs=>ihx.1 _ _ _ _ _ hq.1 hk hro h hQ ρ a w (hs.ly hb)) (fun h=>by cases h)
   ·rename_i hbt
    have:b=false:=by cases b<;>simp at hbt ⊢
    subst this;exact J.cond hb (fun h=>by cases h) (fun _ ρ a w hs=>ihy.1 _ _ _ _ _ hq.2 hk hro h hQ ρ a w (hs.ly hb))
  ·cases h
 | region id ops draw=>
  refine⟨fun s s' e cx Q hq hk hro h hQ=>?_,fun it s cx G mk hh hq hk hro hN hx=>?_⟩
  ·unfold XD at h
   split at h
   ·rename_i hd
    obtain⟨s1,h1,h2⟩:=qLi.1 h
    injection h2 with h2;injection h2 with h3 h4
    subst h3 h4
    subst hd
    exact fun ρ a w hs=>hD cx id ops _ s1 Q hk (by simpa [q7d] using hq) h1 hQ ρ a w ((hs.dzr po.q).frz (q5J _ _))
   ·rename_i hd
    obtain⟨s1,h1,h2⟩:=qLi.1 h
    injection h2 with h2;injection h2 with h3 h4
    subst h3 h4
    have hd:draw=false:=by cases draw<;>simp at hd ⊢
    subst hd
    intro ρ a w hs
    exact wpIn_region_list (qpj hA hE ops.toList s s1 ρ a w hs h1 (fun ρ' a' w' h=>⟨s1,ρ',hQ,h⟩))
  ·unfold q3B at hh
   split at hh
   ·cases hh
   ·rename_i hd
    have hd:draw=false:=by cases draw<;>simp at hd ⊢
    subst hd
    obtain⟨o,l,hL,hg0,ho⟩:=qjK hh
    intro ρ a w hs
    refine wpIn_region_list ?_
    rw[hL]
    unfold wpListIn
    rw[if_pos (by unfold Region.wanted;rw[hg0])]
    refine qCz cx.ro (hN o ρ a w _ _ ho hs (fun g ρ' a' w' hg h=>?_)) (fun c hc=>by rw[ho] at hc;cases hc)
    obtain⟨⟨e2,t2⟩,hp⟩:=hx g hg
    have hp0:=hp
    unfold XD at hp
    rw[if_neg (by simp)] at hp
    obtain⟨t1,h1,h2⟩:=qLi.1 hp
    injection h2 with h2;injection h2 with h3 h4
    subst h3 h4
    have h1':xr P T po E ops.toList (o::l) (mk g)=some t1:=by rw[←h1,hL]
    unfold xr at h1'
    obtain⟨s1,h5,h6⟩:=qLi.1 h1'
    have h7:xst P T po E o true (mk g)=some s1:=by
     unfold xgd ipA ipX ipF qfO at h5
     rw[hg0,ho] at h5
     exact h5
    exact qpj hA hE l s1 t1 ρ' a' w' (h s1 h7) h6 (fun ρ2 a2 w2 h8=>⟨t1,ρ2,⟨g,hg,hp0⟩,h8⟩)
 | rangeFunc g ps as bd iha ihb=>
  refine⟨fun s s' e cx Q hq hk hro h hQ=>?_,fun it s cx G mk h=>by cases h⟩
  unfold XD at h
  have hrf:rf=true:=by simp only[q7d,qLJ] at hq;exact hq.1.1
  intro ρ a w hs
  exact qzn hE (hro hrf) h hQ ρ a w ((hs.dzr po.q).frz (q5J _ _))
 | loop c ih=>
  refine⟨fun s s' e cx Q hq hk hro h hQ=>?_,fun it s cx G mk h=>by cases h⟩
  unfold XD at h
  obtain⟨s0,h0,h1⟩:=qLi.1 h
  generalize hF:(fun s=>(XD P T po E DR (iter n) f k c s).bind (lpx po f (zX c) k))=F at h1
  cases hn:q3B c with
  | none=>
   rw[hn] at h1
   replace h1:iter n F s0=some (e,s'):=h1
   refine J.loop (ι:=Nat×S) (fun i=>i.2) (fun i=>iter i.1 F i.2=some (e,s')) (fun i=>i.1) (n,s0) h1 (qiG hk h0) ?_
   rintro⟨m,t⟩ hm
   cases m with
   | zero=>cases hm
   | succ m=>
    simp only[iter] at hm
    obtain⟨⟨e1,t1⟩,h2,h3⟩:=qLi.1 hm
    rw[←hF] at h2
    simp only at h2
    obtain⟨⟨e2,t2⟩,h4,h5⟩:=qLi.1 h2
    refine J.weak (ih.1 t t2 e2 cx (fun e0 s0=>e0=e2∧s0=t2) hq hk hro h4 ⟨rfl,rfl⟩) ?_
    rintro e0 s0 ⟨rfl,rfl⟩
    rcases qb2 h5 with ⟨rfl,rfl,h6⟩|⟨rfl,h6,h7⟩
    ·unfold sqD at h3
     simp only at h3
     exact⟨t1,qiG hk h6,(m,t1),h3,Le.refl _,Nat.lt_succ_self m⟩
    ·unfold sqD at h3
     cases e0 with
     | normal=>exact absurd rfl h6
     | _=>
      simp only at h3
      injection h3 with h3;injection h3 with h8 h9
      subst h8 h9
      exact⟨_,(qrz _ _).trans (qgB hk h7),hQ⟩
  | some it=>
   rw[hn] at h1
   obtain⟨id,m,ck,es,hm,hM⟩:=qd9 h1
   unfold mHd at hm
   split at hm
   ·rename_i id' hit
    split at hm
    ·rename_i m' ck' hb
     obtain⟨es',hmo,hm⟩:=qLi.1 hm
     split at hm
     ·rename_i hc
      injection hm with hm
      injection hm with e1 hm
      injection hm with e2 hm
      injection hm with e3 e4
      subst e1 e2 e3 e4
      obtain⟨hnd,hck⟩:=hc
      have hd0:s0.blk id' ≠ .dead:=by rw[hb];simp
      have hnil:[]∈q5y es':=q86 _ _
      have hgg:∀g l l',(s0.mi id' m' ck' l).m1 id' m' ck' g l'=s0.m1 id' m' ck' g l':=fun g l l'=>qDV _ _ _
      have hle0:Le cx s0 (s0.mi id' m' ck' []):=fun ρ a w hs=>by
       have hbk:∀i,(s0.mi id' m' ck' []).blk i=s0.blk i:=fun i=>by
        unfold S.mi
        rw[qfd _ hd0]
        split
        ·rename_i hi;subst hi;exact hb.symm
        ·rfl
       refine⟨ρ,hs.ext (fun _=>rfl) hbk rfl (fun i hi=>hs.nx i ?_)⟩
       unfold S.live at hi ⊢
       rw[←hbk];exact hi
      refine J.loop (ι:=List Nat) (fun l=>s0.mi id' m' ck' l)
       (fun l=>(∀x∈l,∃e∈es',e.2.2=x∧∀l'∈q5y es',F (s0.m1 id' m' ck' (some e) l')=some (.normal,s0.mi id' m' ck' (e.2.2::l')))∧l.length+(es'.filter fun e => !l.contains e.2.2).length≤es'.length)
       (fun l=>(es'.filter fun e => !l.contains e.2.2).length) [] ⟨fun x hx=>by simp at hx,by simpa using List.length_filter_le _ _⟩ ((qiG hk h0).trans hle0) ?_
      rintro l ⟨hl1,hl2⟩
      have hlm:l∈q5y es':=qiV _ _ l (by omega) (fun x hx=>by
       obtain⟨e,h1,h2,-⟩:=hl1 x hx
       exact qLY.2 ⟨e,h1,h2⟩)
      have hFX:∀g p,F (s0.m1 id' m' ck' g l)=some p→∃p0,XD P T po E DR (iter n) f k c (s0.m1 id' m' ck' g l)=some p0∧lpx po f (zX c) k p0=some p:=fun g p hp=>by
       rw[←hF] at hp
       exact qLi.1 hp
      have hgo:∀g,((g=none∧∀e∈es',e.2.2∈l)∨∃e∈es',g=some e∧e.2.2 ∉ l)→(F (s0.m1 id' m' ck' g l)=some (e,s'))∨∃e1∈es',g=some e1∧e1.2.2 ∉ l∧∀l'∈q5y es',F (s0.m1 id' m' ck' (some e1) l')=some (.normal,s0.mi id' m' ck' (e1.2.2::l')):=by
       rintro g (⟨rfl,ha⟩|⟨e1,he1,rfl,hnl⟩)
       ·left
        rcases hM.fin with ⟨e1,he1,h5⟩|h5
        ·exfalso
         obtain⟨e2,he2,h6,h7⟩:=hl1 _ (ha e1 he1)
         have:e2=e1:=by
          obtain⟨i,hi,rfl⟩:=List.mem_iff_getElem.1 he1
          obtain⟨j,hj,rfl⟩:=List.mem_iff_getElem.1 he2
          have hi':i<(es'.map (·.2.2)).length:=by simpa using hi
          have hj':j<(es'.map (·.2.2)).length:=by simpa using hj
          have:j=i:=(List.getElem_inj (h₀:=hj') (h₁:=hi') hnd).1 (by simpa using h6)
          subst this;rfl
         subst this
         have:=(h5 [] hnil).symm.trans (h7 [] hnil)
         injection this with this
         exact hM.ne (by rw[this])
        ·exact h5 l hlm
       ·rcases hM.ent e1 he1 with h5|h5
        ·exact .inr ⟨e1,he1,rfl,hnl,h5⟩
        ·exact .inl (h5 l hlm)
      refine J.weak (ih.2 it (s0.mi id' m' ck' l) cx _ _ hn hq hk hro (qFr (id:=id') (m:=m') (ck:=ck') (es:=es') (l:=l) hit (by unfold S.mi;rw[qfd _ hd0,if_pos rfl]) (by unfold S.mi;rw[qwo _ hd0];exact hmo) hck) (fun g hg=>?_)) ?_
      ·rw[hgg]
       rcases hgo g hg with h5|⟨e1,he1,rfl,-,h5⟩
       ·obtain⟨p0,h6,-⟩:=hFX _ _ h5;exact⟨p0,h6⟩
       ·obtain⟨p0,h6,-⟩:=hFX _ _ (h5 l hlm);exact⟨p0,h6⟩
      ·rintro e0 t0 ⟨g,hg,hx⟩
       rw[hgg] at hx
       rcases hgo g hg with h5|⟨e1,he1,rfl,hnl,h5⟩
       ·obtain⟨p0,h6,h7⟩:=hFX _ _ h5
        rw[hx] at h6
        injection h6 with h6
        subst h6
        rcases qb2 h7 with ⟨-,h8,-⟩|⟨rfl,h8,h9⟩
        ·exact absurd h8 hM.ne
        ·cases e0 with
         | normal=>exact absurd rfl h8
         | _=>exact⟨_,(qrz _ _).trans (qgB hk h9),hQ⟩
       ·obtain⟨p0,h6,h7⟩:=hFX _ _ (h5 l hlm)
        rw[hx] at h6
        injection h6 with h6
        subst h6
        rcases qb2 h7 with ⟨rfl,-,h8⟩|⟨-,h8,-⟩
        ·have hlt:(es'.filter fun e => !(e1.2.2::l).contains e.2.2).length<(es'.filter fun e => !l.contains e.2.2).length:=by
          refine filter_lt (fun e:Value×R×Nat => !l.contains e.2.2) (fun e => !(e1.2.2::l).contains e.2.2) (fun y hy=>?_) e1 (by simpa using hnl) (by simp) es' he1
          simp only[List.contains_cons,Bool.not_or,qLJ] at hy
          exact hy.2
         refine⟨_,qiG hk h8,e1.2.2::l,⟨fun x hx=>?_,?_⟩,Le.refl _,hlt⟩
         ·rcases qLz.1 hx with rfl|hx
          ·exact⟨e1,he1,rfl,h5⟩
          ·exact hl1 x hx
         ·simp only[qLo] at *
          omega
        ·exact absurd rfl h8
     ·cases hm
    ·cases hm
   ·cases hm
 | _=>exact⟨fun s s' e cx Q hq hk hro h hQ=>(by cases h),fun it s cx G mk h=>by cases h⟩
theorem qqq (hA:Ag P T) (hE:Snd P E) {DR:Nat→List Oper→S→Option S} {f k n:Nat} {q:Nat→List Oper→Bool} {rf:Bool} (hD:qBn P q k DR) (c:Code):∀(s s':S) (e:Exit) (cx:Cx) (Q:Exit→S→Prop),q7d q rf c=true→cx.k=k→(rf=true→cx.ro=none)→XD P T po E DR (iter n) f k c s=some (e,s')→Q e s'→J P cx c Q s:=
 (qAg hA hE hD c).1
end
end
noncomputable section
open Go.RowKit
structure Bd where
 code:Code
 n:Nat
 res:List ResultVar
 rt:List TypeId
def qL (P:Program) (po:Pol) (f:FuncId):Option Bd:=
 match P.funcs[f]? with
 | some fn=>match fn.body with
  | some c=>if((fn.name == "runtime.NumGoroutine") || !q7d (drq po f) true c)=true then none else some ⟨c,fn.ntmps,fn.results.toList,fn.resultTypes.toList⟩
  | none=>none
 | none=>none
def dzL:List Nat→List C→List C
 | _,[]=>[]
 | zs,x::r=>dz (zs.headD 0) x::dzL zs.tail r
def dzR (zs:List Nat):R→R
 | .c x => .c (dz (zs.headD 0) x)
 | .agg xs => .agg (dzL zs xs)
 | r=>r
def qjJ:List (List Nat)→List R→List R
 | _,[]=>[]
 | zs,x::r=>dzR (zs.headD []) x::qjJ zs.tail r
def qcj (s:S) (X:List Nat) (rs:List R):List R:=match X with | []=>rs|X=>rs.map (fzR s X)
def one:List R→R
 | [r]=>r
 | rs => .tup rs
def qgO (k:Nat) (s:S) (rs:List R) (ids:List Nat):Option (R×List (Nat×B)):=
 if ids.Nodup∧ids.all (fun i=>(s.blk i).live)=true∧(rng k []).all (fun i=>ids[i]? == some i)=true then some (one (rs.map (cnR ids)),cnH s ids ids 0) else none
def qcl (k:Nat) (s:S) (rs:List R):Option (R×List (Nat×B)):=qgO k s rs (q4Z s 60 ((rng k []).flatMap (fun i=>(s.blk i).refs)++rs.flatMap R.refs) (rng k []))
def qjL (po:Pol) (k:Nat) (rt:List TypeId) (s:S) (rs:List R) (X:List Nat):Option (R×List (Nat×B)):=qcl k (s.frz X) (qjJ (rt.map po.q) (qcj s X rs))
def qct (po:Pol) (f k:Nat) (rt:List TypeId) (s:S) (rs:List R):Option (R×List (Nat×B)):=qjL po k rt s rs (if po.ro f=true then[] else q6s s ((rs.flatMap R.rows).eraseDups))
def qjG (po:Pol) (f k:Nat) (rt:List TypeId) (s:S) (rs:List R):Option (R×List (Nat×B)):=
 if((rs.flatMap R.rows).flatMap (qkb s)).isEmpty=true then qct po f k rt s rs
 else qct po f k rt s.fn1.fn1 (qcj s.fn1 s.fn1.inr (qcj s s.inr rs))
def qzr (T:Ty) (po:Pol) (f k:Nat) (bd:Bd) (p:Exit×S):Option (R×List (Nat×B)):=
 match p.1 with
 | .normal=>(rvs T p.2 bd.res).bind fun rs=>qjG po f k bd.rt (p.2.dzr po.q) rs
 | .ret=>(rvs T p.2 bd.res).bind fun rs=>qjG po f k bd.rt (p.2.dzr po.q) rs
 | _=>none
abbrev DRs:=Orc→FuncId→Nat→Nat→List Oper→S→Option S
def q98 (P:Program) (T:Ty) (po:Pol) (D:DRs) (E:Orc) (LO:(S→XS)→S→XS) (f k:Nat) (args:List R) (G:List (Nat×B)) (bd:Bd):Option (R×List (Nat×B)):=if args.length≤bd.n then(XD P T po E (D E f k) LO f k bd.code ⟨q50 args 0,G,G.length,bd.n⟩).bind (qzr T po f k bd) else none
section
variable {P:Program} {T:Ty} {po:Pol} {cx:Cx} {ρ:Pl} {s:S} {a:Act} {w:World}
theorem qfF:∀(n:Nat) (acc:List Nat) (i:Nat),i<n∨i∈acc→i∈rng n acc
 | 0,acc,i,h=>by rcases h with h|h;omega;exact h
 | n+1,acc,i,h=>by
  unfold rng
  refine qfF n _ i ?_
  rcases h with h|h
  ·by_cases hn:i=n
   ·exact .inr (by rw[hn];exact qLs)
   ·exact .inl (by omega)
  ·exact .inr (qLl _ h)
theorem qfa (hA:Ag P T) (hs:Sim cx ρ s a w) {fn:Func} {rs:List R} (h:rvs T s fn.results.toList=some rs) :
  ∃vs:List Value,(results fn a.tmps).run P w = .ok (if h:vs.toArray.size=1 then vs.toArray[0] else .tuple vs.toArray) w∧vs.length=rs.length∧∀j r,rs[j]?=some r→RR w s.live ρ (vs.getD j undef) r:=by
 obtain⟨vs,h1,h2,h3⟩:=qkx (P:=P) hA hs _ rs h
 refine⟨vs,?_,h2,h3⟩
 rw[qjq,Array.mapM_eq_mapM_toList]
 simp only[map_eq_pure_bind,Sem.run_bind,h1,Result.andThen_ok]
 rfl
theorem qAS {L:Nat→Prop} {vs:List Value} {rs:List R} (hl:vs.length=rs.length) (h:∀j r,rs[j]?=some r→RR w L ρ (vs.getD j undef) r):RR w L ρ (if h:vs.toArray.size=1 then vs.toArray[0] else .tuple vs.toArray) (one rs):=by
 by_cases h1:rs.length=1
 ·obtain⟨r,rfl⟩:=List.length_eq_one_iff.1 h1
  obtain⟨v,rfl⟩:=List.length_eq_one_iff.1 (hl.trans h1)
  exact h 0 r rfl
 ·have h2:¬ vs.toArray.size=1:=by simpa [hl] using h1
  rw[dif_neg h2]
  have h3:one rs = .tup rs:=by
   cases rs with
   | nil=>rfl
   | cons x l=>cases l with|nil=>exact absurd rfl h1|cons y l=>rfl
  rw[h3]
  exact .tup _ _ (by simpa using hl) (fun j r hj=>by have:=h j r hj;simpa [qLj,List.getD] using this)
theorem AC.enter2 (hA:Ag P T) {f:FuncId} {fn:Func} {c:Code} {args:List R} {G:List (Nat×B)} {k:Nat} {Q:R→List (Nat×B)→Prop} (hf:P.funcs[f]?=some fn) (hb:fn.body=some c) (hname:(fn.name == "runtime.NumGoroutine")=false)
  (hle:args.length≤fn.ntmps) (h:∀cx,cx.k=k→cx.ro=none→J P cx c (fun e s=>(e = .normal∨e = .ret)∧∃rs,rvs T s fn.results.toList=some rs∧
   ∀ρ a w,Sim cx ρ s a w→∃rs' hp' nx' ρ',Q (one rs') hp'∧Sim cx ρ' (q2j hp' nx') qcs w∧rs'.length=rs.length∧∀(j:Nat) (r r':R) (v:Value),rs[j]?=some r→rs'[j]?=some r'→RR w s.live ρ v r→RR w (q2j hp' nx').live ρ' v r') ⟨q50 args 0,G,G.length,fn.ntmps⟩):AC P f args G k Q:=by
 refine⟨⟨fn,hf,hname,by rw[hb];rfl⟩,fun cx ρ w vs hw hk hρ hro hs hv=>?_⟩
 refine callsIn_wide.1 (callsIn_of_wp_marks (n:=0) hf hb trivial ?_)
 obtain⟨hvs,hvr⟩:=hv
 have hs1:Sim cx ρ ⟨q50 args 0,G,G.length,fn.ntmps⟩ { tmps:=vs++Array.replicate (fn.ntmps-vs.size) undef,defers:=[] } w:=by
  refine⟨hs.hd,by simp;omega,fun i=>?_,hs.hp,hs.hp0,hs.out,hs.inj,hs.nx,hs.kept,hs.oldF,hs.pin,hs.sameF,hs.sep⟩
  show RR w _ ρ _ (lk (q50 args 0) i .any)
  rw[qdJ,if_pos (qLD _),qM6]
  by_cases hi:i<args.length
  ·have h1:=hvr i args[i] (qLf hi)
   have h2:(vs++Array.replicate (fn.ntmps-vs.size) undef).getD i undef=vs.getD i undef:=by
    have:i<vs.size:=by omega
    simp[qLj,Array.getElem?_append,this]
   rw[h2,List.getD,qLf hi]
   exact h1
  ·rw[List.getD,qLL (by omega)]
   exact .any _
 have hj:=h cx hk hro ρ _ w hs1
 rw[hro] at hj
 refine wpIn_mono hj (fun e a' w' ⟨s',ρ',h1,h2⟩=>?_)
 obtain⟨he,rs,h3,h4⟩:=h1
 have key:LeavesInM Fence.wide 0 P fn a'.tmps (fun e w'=>∃v' r hp' nx' ρ',e = .returned v'∧Q r hp'∧Sim cx ρ' (q2j hp' nx') qcs w'∧RR w' (q2j hp' nx').live ρ' v' r) a'.defers .returning w':=by
  obtain⟨Ds,hDs,-⟩:=h2.hd.ms
  rw[hDs]
  refine q9R Ds a' w' hDs h2 (fun a2 w2 ht hd2 hs2=>?_) rfl
  obtain⟨us,g1,g2,g3⟩:=qfa hA hs2 h3
  obtain⟨rs',hp',nx',ρ'',g4,g5,g6,g7⟩:=h4 ρ' a2 w2 hs2
  refine⟨_,g1,_,one rs',hp',nx',ρ'',rfl,g4,g5,qAS (g2.trans g6.symm) (fun j r' hj=>?_)⟩
  have hj':j<rs.length:=by rw[←g6];exact(qLh.1 hj).1
  exact g7 j _ r' _ (qLf hj') hj (g3 j _ (qLf hj'))
 rcases he with rfl|rfl
 ·exact key
 ·exact key
theorem qre:∀(zs:List Nat) (xs:List C),(dzL zs xs).length=xs.length∧∀(j:Nat) (y:C),(dzL zs xs)[j]?=some y→∃x z,xs[j]?=some x∧y=dz z x
 | _,[]=>⟨rfl,fun j y h=>by simp[dzL] at h⟩
 | zs,x::r=>by
  obtain⟨h1,h2⟩:=qre zs.tail r
  refine⟨by simp[dzL,h1],fun j y hj=>?_⟩
  cases j with
  | zero=>simp only[dzL,qLn,qM3] at hj;exact⟨x,_,rfl,hj.symm⟩
  | succ j=>simp only[dzL,qLC] at hj ⊢;exact h2 j y hj
theorem qwe {L:Nat→Prop} {v:Value} {r:R} (zs:List Nat) (h:RR w L ρ v r):RR w L ρ v (dzR zs r):=by
 cases h with
 | c v x h=>exact .c _ _ (qsF _ h)
 | agg vs xs h1 h2=>
  obtain⟨g1,g2⟩:=qre zs xs
  refine .agg _ _ (h1.trans g1.symm) (fun j y hj=>?_)
  obtain⟨x,z,h3,h4⟩:=g2 j y hj
  rw[h4];exact qsF z (h2 j x h3)
 | tup vs xs h1 h2=>exact .tup _ _ h1 h2
 | any v=>exact .any _
theorem qkv:∀(zs:List (List Nat)) (xs:List R),(qjJ zs xs).length=xs.length∧∀(j:Nat) (x y:R),xs[j]?=some x→(qjJ zs xs)[j]?=some y→∃z,y=dzR z x
 | _,[]=>⟨rfl,fun j x y h=>by simp at h⟩
 | zs,x::r=>by
  obtain⟨h1,h2⟩:=qkv zs.tail r
  refine⟨by simp[qjJ,h1],fun j x' y hj hy=>?_⟩
  cases j with
  | zero=>simp only[qjJ,qLn,qM3] at hj hy;subst hj;exact⟨_,hy.symm⟩
  | succ j=>simp only[qjJ,qLC] at hj hy;exact h2 j x' y hj hy
theorem qfQ {X:List Nat} {rs:List R} (hX:X.all (fun i => !(s.blk i).isBlk)=true) (hs:Sim cx ρ s a w):∀(j:Nat) (r r1:R) (v:Value),rs[j]?=some r→(qcj s X rs)[j]?=some r1→RR w s.live ρ v r→RR w (s.frz X).live ρ v r1:=by
 intro j r r1 v h1 h2 h3
 cases X with
 | nil=>rw[show qcj s [] rs=rs from rfl,h1] at h2;injection h2 with h2;subst h2;exact h3
 | cons x X=>
  rw[show qcj s (x::X) rs=rs.map (fzR s (x::X)) from rfl,qLr,h1] at h2
  injection h2 with h2
  subst h2
  exact(hs.frz1 fun i hi=>by have:=qLu.1 hX i hi;simpa using this).2 v r h3
theorem qaD {f k:Nat} {rt:List TypeId} {rs:List R} {r':R} {hp':List (Nat×B)} (hk:cx.k=k) (h:qct po f k rt s rs=some (r',hp')) (hs:Sim cx ρ s a w) :
  ∃rs' nx' ρ',r'=one rs'∧Sim cx ρ' (q2j hp' nx') qcs w∧rs'.length=rs.length∧∀(j:Nat) (r r':R) (v:Value),rs[j]?=some r→rs'[j]?=some r'→RR w s.live ρ v r→RR w (q2j hp' nx').live ρ' v r':=by
 unfold qct qjL qcl at h
 obtain⟨X,hX,hXe⟩:∃X,X.all (fun i => !(s.blk i).isBlk)=true∧X=(if po.ro f=true then[] else q6s s ((rs.flatMap R.rows).eraseDups)):=by
  refine⟨_,?_,rfl⟩
  split
  ·rfl
  ·exact q5J _ _
 rw[←hXe] at h
 have hs1:=hs.frz hX
 have hfz:=qfQ (rs:=rs) hX hs
 have hfl:(qcj s X rs).length=rs.length:=by cases X<;>simp[qcj]
 generalize s.frz X=s1 at h hs1 hfz
 obtain⟨q1,q2⟩:=qkv (rt.map po.q) (qcj s X rs)
 generalize qjJ (rt.map po.q) (qcj s X rs)=rs1 at h q1 q2
 unfold qgO at h
 split at h
 ·rename_i hc
  injection h with h
  generalize q4Z s1 60 _ _=ids at h hc
  obtain⟨c1,c2,c3⟩:=hc
  injection h with h1 h2
  obtain⟨ρ2,h3,h4⟩:=hs1.canon (ids:=ids) (tm:=[]) (n:=0) (a':=qcs) c1 c2 (fun i hi=>by
   have:=qLu.1 c3 i (qfF k [] i (.inl (by omega)))
   simpa using this) Hd.none rfl (fun i => .inl rfl)
  subst h2
  refine⟨rs1.map (cnR ids),ids.length,ρ2,h1.symm,h3,by simp[q1,hfl],fun j r r2 v hj hr2 hv=>?_⟩
  rw[qLr] at hr2
  obtain⟨r1,g1,g2⟩:=qLq.1 hr2
  have hjl:j<(qcj s X rs).length:=by rw[hfl];exact(qLh.1 hj).1
  obtain⟨z,hz⟩:=q2 j _ r1 (qLf hjl) g1
  subst hz
  rw[←g2]
  exact h4 v _ (qwe z (hfz j r _ v hj (qLf hjl) hv))
 ·cases h
theorem qi1 (s:S):s.inr.all (fun i => !(s.blk i).isBlk)=true:=by
 rw[qLu]
 intro i hi
 have h:=(qM9.1 hi).2
 unfold qnn at h
 split at h
 ·rename_i hb;rw[hb];rfl
 ·cases h
theorem qaI (s:S) (X:List Nat) (rs:List R):(qcj s X rs).length=rs.length:=by cases X<;>simp[qcj]
theorem qqu {f k:Nat} {rt:List TypeId} {rs:List R} {r':R} {hp':List (Nat×B)} (hk:cx.k=k) (h:qjG po f k rt s rs=some (r',hp')) (hs:Sim cx ρ s a w) :
  ∃rs' nx' ρ',r'=one rs'∧Sim cx ρ' (q2j hp' nx') qcs w∧rs'.length=rs.length∧∀(j:Nat) (r r':R) (v:Value),rs[j]?=some r→rs'[j]?=some r'→RR w s.live ρ v r→RR w (q2j hp' nx').live ρ' v r':=by
 unfold qjG at h
 split at h
 ·exact qaD hk h hs
 ·obtain⟨rs',nx',ρ',g1,g2,g3,g4⟩:=qaD hk h hs.fn1.fn1
  refine⟨rs',nx',ρ',g1,g2,by rw[g3,qaI,qaI],fun j r r2 v hj hr2 hv=>?_⟩
  have hj1:j<(qcj s s.inr rs).length:=by rw[qaI];exact(qLh.1 hj).1
  have hj2:j<(qcj s.fn1 s.fn1.inr (qcj s s.inr rs)).length:=by rw[qaI];exact hj1
  have a1:=qfQ (qi1 s) hs j r _ v hj (qLf hj1) hv
  have a2:=qfQ (qi1 s.fn1) hs.fn1 j _ _ v (qLf hj1) (qLf hj2) a1
  exact g4 j _ _ v (qLf hj2) hr2 a2
def DOk (P:Program) (po:Pol) (D:DRs):Prop:=∀(E:Orc) (f k:Nat),Snd P E→qBn P (drq po f) k (D E f k)
theorem qpq (hA:Ag P T) {D:DRs} (hD:DOk P po D) {E:Orc} (hE:Snd P E) {n f k:Nat} {args:List R} {G G':List (Nat×B)} {r:R} {bd:Bd} (hb:qL P po f=some bd) (h:q98 P T po D E (iter n) f k args G bd=some (r,G')):AC P f args G k fun r' hp'=>r'=r∧hp'=G':=by
 unfold qL at hb
 split at hb
 ·rename_i fn hf
  split at hb
  ·rename_i c hc
   split at hb
   ·cases hb
   ·rename_i hname
    simp only[qLI,Bool.not_eq_true',not_or,Bool.not_eq_true,Bool.not_eq_false] at hname
    injection hb with hb
    subst hb
    unfold q98 at h
    split at h
    ·rename_i hle
     obtain⟨⟨e,s1⟩,h1,h2⟩:=qLi.1 h
     refine AC.enter2 hA hf hc hname.1 hle (fun cx hk hro=>?_)
     refine qqq hA hE (hD E f k hE) _ _ _ _ cx _ hname.2 hk (fun _=>hro) h1 ?_
     have key:(rvs T s1 fn.results.toList).bind (fun rs=>qjG po f k fn.resultTypes.toList (s1.dzr po.q) rs)=some (r,G')→∃rs,rvs T s1 fn.results.toList=some rs∧
       ∀ρ a w,Sim cx ρ s1 a w→∃rs' hp' nx' ρ',(one rs'=r∧hp'=G')∧Sim cx ρ' (q2j hp' nx') qcs w∧rs'.length=rs.length∧∀(j:Nat) (r r':R) (v:Value),rs[j]?=some r→rs'[j]?=some r'→RR w s1.live ρ v r→RR w (q2j hp' nx').live ρ' v r':=by
      intro h3
      obtain⟨rs,h4,h5⟩:=qLi.1 h3
      refine⟨rs,h4,fun ρ a w hs=>?_⟩
      obtain⟨rs',nx',ρ',g1,g2,g3,g4⟩:=qqu hk h5 (hs.dzr po.q)
      rw[S.dzr_live] at g4
      exact⟨rs',G',nx',ρ',⟨g1.symm,rfl⟩,g2,g3,g4⟩
     unfold qzr at h2
     split at h2
     ·rename_i he;simp only at he;exact⟨.inl he,key h2⟩
     ·rename_i he;simp only at he;exact⟨.inr he,key h2⟩
     ·cases h2
    ·cases h
  ·cases hb
 ·cases hb
def qxs (st0:LoopState) (st:LoopState) (pd:Option Code):B→Option B
 | .ob (.lp f tm ps as bd s0 _)=>if s0=st0 then some (.ob (.lp f tm ps as bd st pd)) else none
 | _=>none
def rdB:B→Option B
 | .ob (.lp f tm ps as bd .ready none)=>some (.ob (.lp f tm ps as bd .busy none))
 | _=>none
def qkt:Exit→Option (Option Code)
 | .normal=>some none
 | .ret=>some (some .ret)
 | .exit i=>some (some (.exit i))
 | _=>none
def qbD (k:Nat) (p:Exit×S):Option (R×List (Nat×B)):=
 (qkt p.1).bind fun pd=>(qxs .busy (if pd.isNone then .ready else .done) pd (p.2.blk (k-1))).bind fun b=>qcl k (p.2.up [(k-1,b)]) [.c (.d (.bool pd.isNone))]
def qaZ (P:Program) (T:Ty) (po:Pol) (D:DRs) (E:Orc) (LO:(S→XS)→S→XS) (f k:Nat) (bd:Code) (p:Exit×S):Option (R×List (Nat×B)):=
 match p.1 with
 | .normal=>(rdB (p.2.blk (k-1))).bind fun b=>(XD P T po E (D E f k) LO f k bd (p.2.up [(k-1,b)])).bind (qbD k)
 | _=>none
def q6r (P:Program) (T:Ty) (po:Pol) (D:DRs) (E:Orc) (LO:(S→XS)→S→XS) (f k:Nat) (as bd:Code) (tm:List R) (G:List (Nat×B)):Option (R×List (Nat×B)):=if 0<k∧q7d (drq po f) false as=true∧q7d (drq po f) false bd=true then(XD P T po E (D E f k) LO f k as ⟨q50 tm 0,G,G.length,tm.length⟩).bind (qaZ P T po D E LO f k bd) else none
def prx (g:Nat→List R→List (Nat×B)→Option (R×List (Nat×B))) (k:Nat) (args:List R) (G:List (Nat×B)):Option (R×List (Nat×B)):=g k args G
def pr0 (g:List R→Option (R×List (Nat×B))) (k:Nat) (args:List R) (G:List (Nat×B)):Option (R×List (Nat×B)):=if k=0∧G.isEmpty=true then g args else none
def qD9 (P:Program) (po:Pol):Prop:=∀E,Snd P E→∀f g k args G r G',po.pr f=some g→g.run E k args G=some (r,G')→AC P f args G k fun r' hp'=>r'=r∧hp'=G'
theorem qr0 {P:Program} {f:FuncId} {g:List R→Option (R×List (Nat×B))} (h:∀args r G',g args=some (r,G')→AC P f args [] 0 fun r' hp'=>r'=r∧hp'=G') {k:Nat} {args:List R} {G G':List (Nat×B)} {r:R} (hg:pr0 g k args G=some (r,G')):AC P f args G k fun r' hp'=>r'=r∧hp'=G':=by
 unfold pr0 at hg
 split at hg
 ·rename_i hc
  obtain⟨rfl,hG⟩:=hc
  rw[List.isEmpty_iff] at hG
  subst hG
  exact h _ _ _ hg
 ·cases hg
def fnx (P:Program) (T:Ty) (po:Pol) (D:DRs) (E:Orc) (LO:(S→XS)→S→XS) (f k:Nat) (args:List R) (G:List (Nat×B)):Option (R×List (Nat×B)):=
 match po.pr f with
 | some g=>prx (g.run E) k args G
 | none=>(qL P po f).bind fun bd=>q98 P T po D E LO f k args G bd
def xf (P:Program) (T:Ty) (po:Pol) (D:DRs):Nat→Orc
 | 0=>fun _ _ _ _=>none
 | n+1=>fun g k args G=>match g with
  | .fn f=>fnx P T po D (xf P T po D n) (iter n) f k args G
  | .rd f as bd=>q6r P T po D (xf P T po D n) (iter n) f k as bd args G
theorem qvj {st0 st:LoopState} {pd:Option Code} {x y:B} (h:qxs st0 st pd x=some y):∃f tm ps as bd p0,x = .ob (.lp f tm ps as bd st0 p0)∧y = .ob (.lp f tm ps as bd st pd):=by
 unfold qxs at h
 split at h
 ·split at h
  ·rename_i hst;subst hst;injection h with h;exact⟨_,_,_,_,_,_,rfl,h.symm⟩
  ·cases h
 ·cases h
theorem Sim.lrec (hs:Sim cx ρ s a w) {l cap:Nat} (hl:cx.ρ (cx.k-1)=some (l,cap)) (hk:0<cx.k) {f:FuncId} {tm:List R} {ps:List Nat} {as bd:Code} {st:LoopState} {p0:Option Code} (hb:s.blk (cx.k-1) = .ob (.lp f tm ps as bd st p0)) :
  ∃rec:Loop,w.heap[l]?=some (.loop rec)∧rec.state=st∧rec.pending=p0∧∀(st':LoopState) (pd:Option Code),Sim cx ρ (s.up [(cx.k-1,.ob (.lp f tm ps as bd st' pd))]) a (w.putObj l (.loop { rec with state:=st',pending:=pd })):=by
 have hlive:s.live (cx.k-1):=by unfold S.live;rw[hb];rfl
 have hρ:ρ (cx.k-1)=some (l,cap):=(hs.pin _ (by omega)).1.trans hl
 have hB:=(hs.hp _ l cap hlive hρ).2
 rw[hb] at hB
 obtain⟨rec,t1,t2,t3,t4,t5,t6,t7,t8⟩:=hB
 exact⟨rec,t1,t2,t3,fun st' pd=>hs.overO hlive hρ fun hst hO=>⟨_,hO,rfl,rfl,t4,t5,t6,t7,fun j x hj=>(t8 j x hj).stay hst⟩⟩
theorem qyH {x y:B} (h:rdB x=some y):∃f tm ps as bd,x = .ob (.lp f tm ps as bd .ready none)∧y = .ob (.lp f tm ps as bd .busy none):=by
 unfold rdB at h
 split at h
 ·injection h with h;exact⟨_,_,_,_,_,rfl,h.symm⟩
 ·cases h
theorem qi3 {k:Nat} {rs:List R} {r':R} {hp':List (Nat×B)} (hk:cx.k=k) (h:qcl k s rs=some (r',hp')) (hs:Sim cx ρ s a w) :
  ∃ids nx' ρ',r'=one (rs.map (cnR ids))∧Sim cx ρ' (q2j hp' nx') qcs w∧∀v r,RR w s.live ρ v r→RR w (q2j hp' nx').live ρ' v (cnR ids r):=by
 unfold qcl qgO at h
 split at h
 ·rename_i hc
  injection h with h
  generalize q4Z s 60 _ _=ids at h hc
  obtain⟨c1,c2,c3⟩:=hc
  injection h with h1 h2
  obtain⟨ρ2,h3,h4⟩:=hs.canon (ids:=ids) (tm:=[]) (n:=0) (a':=qcs) c1 c2 (fun i hi=>by
   have:=qLu.1 c3 i (qfF k [] i (.inl (by omega)))
   simpa using this) Hd.none rfl (fun i => .inl rfl)
  subst h2
  exact⟨ids,ids.length,ρ2,h1.symm,h3,h4⟩
 ·cases h
theorem q9H {r:R} {G':List (Nat×B)} {l cap:Nat} (hl:cx.ρ (cx.k-1)=some (l,cap)) (hk0:0<cx.k) {pd:Option Code} (hs:Sim cx ρ s a w)
  (h:((qxs .busy (if pd.isNone then .ready else .done) pd (s.blk (cx.k-1))).bind fun b=>qcl cx.k (s.up [(cx.k-1,b)]) [.c (.d (.bool pd.isNone))])=some (r,G')) :
  ∃v w',(Instr.endRound l pd).run P w = .ok v w'∧∃v' r' hp' nx' ρ',Ending.returned v = .returned v'∧(r'=r∧hp'=G')∧Sim cx ρ' (q2j hp' nx') qcs w'∧RR w' (q2j hp' nx').live ρ' v' r':=by
 obtain⟨b,h1,h2⟩:=qLi.1 h
 obtain⟨f0,tm0,ps0,as0,bd0,p0,g1,g2⟩:=qvj h1
 obtain⟨rec,t1,t2,t3,t4⟩:=hs.lrec hl hk0 g1
 have hs2:=t4 (if pd.isNone then .ready else .done) pd
 subst g2
 obtain⟨ids,nx',ρ',e1,e2,e3⟩:=qi3 rfl h2 hs2
 refine⟨_,_,run_endRound pd t1,_,r,G',nx',ρ',rfl,⟨rfl,rfl⟩,e2,?_⟩
 rw[e1]
 exact e3 _ _ (.c _ _ (.d _ _ (.bool _)))
theorem qmy (hA:Ag P T) {D:DRs} (hD:DOk P po D) {E:Orc} (hE:Snd P E) {n f k:Nat} {as bd:Code} {tm:List R} {G G':List (Nat×B)} {r:R} (h:q6r P T po D E (iter n) f k as bd tm G=some (r,G')):RA P as bd tm G k fun r' hp'=>r'=r∧hp'=G':=by
 unfold q6r at h
 split at h
 ·rename_i hc
  obtain⟨hk0,hca,hcb⟩:=hc
  obtain⟨⟨e1,s1⟩,h1,h2⟩:=qLi.1 h
  intro cx ρ w l cap fn vs hw hk hρ hro _ hρk hs hv
  subst hk hρ
  have hs1:Sim cx cx.ρ ⟨q50 tm 0,G,G.length,tm.length⟩ { tmps:=vs,defers:=[] } w:=by
   refine⟨hs.hd,hv.1,fun i=>?_,hs.hp,hs.hp0,hs.out,hs.inj,hs.nx,hs.kept,hs.oldF,hs.pin,hs.sameF,hs.sep⟩
   show RR w _ _ _ (lk (q50 tm 0) i .any)
   rw[qdJ,if_pos (qLD _),qM6]
   by_cases hi:i<tm.length
   ·rw[List.getD,qLf hi]
    exact hv.2 i tm[i] (qLf hi)
   ·rw[List.getD,qLL (by omega)]
    exact .any _
  refine roundIn_of_wpIn (F:=Fence.wide) (n:=0) trivial ?_
  have ja:=qqq (rf:=false) hA hE (hD E f cx.k hE) as _ _ _ cx (fun e s=>e=e1∧s=s1) hca rfl (fun h=>by cases h) h1 ⟨rfl,rfl⟩ cx.ρ _ w hs1
  rw[hro] at ja
  refine wpIn_mono ja ?_
  rintro e a1 w1 ⟨s1',ρ1,⟨rfl,rfl⟩,hsim⟩
  unfold qaZ at h2
  simp only at h2
  cases e with
  | normal=>
   obtain⟨b,h3,h4⟩:=qLi.1 h2
   obtain⟨⟨e2,s2⟩,h5,h6⟩:=qLi.1 h4
   obtain⟨f0,tm0,ps0,as0,bd0,g1,g2⟩:=qyH h3
   obtain⟨rec,t1,t2,t3,t4⟩:=hsim.lrec hρk hk0 g1
   refine⟨_,run_beginRound t1 t2,?_⟩
   have hs2:=t4 .busy none
   have hrec:({ rec with state := .busy,pending:=none }:Loop)={ rec with state := .busy }:=by rw[←t3]
   rw[hrec,←g2] at hs2
   have jb:=qqq (rf:=false) hA hE (hD E f cx.k hE) bd _ _ _ cx (fun e s=>e=e2∧s=s2) hcb rfl (fun h=>by cases h) h5 ⟨rfl,rfl⟩ ρ1 _ _ hs2
   rw[hro] at jb
   refine wpIn_mono jb ?_
   rintro e a3 w3 ⟨s3',ρ3,⟨rfl,rfl⟩,hsim3⟩
   unfold qbD at h6
   cases e with
   | normal=>exact q9H hρk hk0 hsim3 h6
   | ret=>exact q9H hρk hk0 hsim3 h6
   | exit i=>exact q9H hρk hk0 hsim3 h6
   | _=>cases h6
  | _=>cases h2
 ·cases h
theorem qnU (hA:Ag P T) {D:DRs} (hD:DOk P po D) (hP:qD9 P po):∀n,Snd P (xf P T po D n)
 | 0=>⟨fun _ _ _ _ _ _ h=>(by cases h),fun _ _ _ _ _ _ _ _ h=>(by cases h)⟩
 | n+1=>by
  have ih:=qnU hA hD hP n
  refine⟨fun f k args G r G' h=>?_,fun f as bd k tm G r G' h=>?_⟩
  ·replace h:fnx P T po D (xf P T po D n) (iter n) f k args G=some (r,G'):=h
   unfold fnx at h
   split at h
   ·rename_i g hg
    exact hP _ ih f g k args G r G' hg h
   ·obtain⟨bd,h1,h2⟩:=qLi.1 h
    exact qpq hA hD ih h1 h2
  ·exact qmy hA hD ih h
end
end
noncomputable section
open Go.RowKit
def FLe (F F':S→XS):Prop:=∀s x,F s=some x→F' s=some x
def LLe (L L':(S→XS)→S→XS):Prop:=∀F F',FLe F F'→FLe (L F) (L' F')
def Lim (F:S→XS) (s:S):XS:=open Classical in if h:∃x n,iter n F s=some x then some (Classical.choose h) else none
theorem qid {k k':S→XS} (h:FLe k k') {p:Exit×S} {x:Exit×S} (hx:sqD k p=some x):sqD k' p=some x:=by
 obtain⟨e,s⟩:=p
 cases e with
 | normal=>exact h _ _ hx
 | _=>exact hx
theorem QC {α β:Type} {o o':Option α} {f f':α→Option β} (ho:∀a,o=some a→o'=some a) (hf:∀a b,f a=some b→f' a=some b) {b:β} (h:o.bind f=some b):o'.bind f'=some b:=by
 obtain⟨a,h1,h2⟩:=qLi.1 h
 rw[ho a h1];exact hf a b h2
theorem q5N {n n':Nat} {F F':S→XS} (hn:n≤n') (hF:FLe F F'):FLe (iter n F) (iter n' F'):=by
 induction n generalizing n' with
 | zero=>intro s x h;cases h
 | succ n ih=>
  intro s x h
  cases n' with
  | zero=>omega
  | succ n'=>
   exact QC (fun a ha=>hF s a ha) (fun a b hb=>qid (ih (by omega)) hb) h
theorem qr1 {n:Nat} {F:S→XS} {s:S} {x:Exit×S} (h:iter n F s=some x):Lim F s=some x:=by
 have hex:∃x n,iter n F s=some x:=⟨x,n,h⟩
 unfold Lim
 rw[dif_pos hex]
 obtain⟨m,hm⟩:=Classical.choose_spec hex
 have h1:=q5N (Nat.le_max_left n m) (F:=F) (fun _ _ h=>h) s _ h
 have h2:=q5N (Nat.le_max_right n m) (F:=F) (fun _ _ h=>h) s _ hm
 rw[h1] at h2
 injection h2 with h2
 rw[←h2]
theorem qi8 {F:S→XS} {s:S} {x:Exit×S} (h:Lim F s=some x):∃n,iter n F s=some x:=by
 unfold Lim at h
 split at h
 ·rename_i hex
  injection h with h
  obtain⟨m,hm⟩:=Classical.choose_spec hex
  exact⟨m,h ▸ hm⟩
 ·cases h
theorem qdA {α:Type} {a b:Option α} (h1:∀x,a=some x→b=some x) (h2:∀x,b=some x→a=some x):a=b:=by
 cases ha:a with
 | none=>
  cases hb:b with
  | none=>rfl
  | some y=>have:=h2 y hb;rw[ha] at this;cases this
 | some x=>exact(h1 x ha).symm
theorem qhI {n n':Nat} (h:n≤n'):LLe (iter n) (iter n'):=fun _ _ hF=>q5N h hF
theorem qfN (n:Nat):LLe (iter n) Lim:=fun _ F' hF s x h=>qr1 (n:=n) (q5N (F':=F') (qLt n) hF s x h)
theorem MOk.mono {F F':S→XS} (hF:FLe F F') {s:S} {id:Nat} {m:R} {ck:Nat} {es:Me} {x:Exit×S} (h:MOk F s id m ck es x):MOk F' s id m ck es x:=
 ⟨h.ne,fun e he=>(h.ent e he).imp (fun h l hl=>hF _ _ (h l hl)) (fun h l hl=>hF _ _ (h l hl)),h.fin.imp (fun⟨e,he,h⟩=>⟨e,he,fun l hl=>hF _ _ (h l hl)⟩) (fun h l hl=>hF _ _ (h l hl))⟩
theorem qqx {F F':S→XS} (hF:FLe F F') (it:Operand):FLe (mlp it F) (mlp it F'):=fun s x h=>by
 obtain⟨id,m,ck,es,h1,h2⟩:=qd9 h
 exact qrj h1 (h2.mono hF)
theorem qo9 {L L':(S→XS)→S→XS} (hL:LLe L L') (o:Option Operand):LLe (lpM L o) (lpM L' o):=fun F F' hF=>by
 cases o with
 | none=>exact hL F F' hF
 | some it=>exact qqx hF it
theorem q6F {α:Type} {p:α→Nat→Prop}:∀(L:List α),(∀a∈L,∃n:Nat,∀m,n≤m→p a m)→∃n:Nat,∀m,n≤m→∀a∈L,p a m
 | [],_=>⟨0,fun m _ a h=>by simp at h⟩
 | x::L,h=>by
  obtain⟨n1,h1⟩:=h x qLs
  obtain⟨n2,h2⟩:=q6F L (fun a ha=>h a (qLl _ ha))
  refine⟨max n1 n2,fun m hm a ha=>?_⟩
  rcases qLz.1 ha with rfl|ha
  ·exact h1 m (by omega)
  ·exact h2 m (by omega) a ha
theorem qq4 {F:Nat→S→XS} {F':S→XS} (hF:∀s x,F' s=some x→∃n,∀m,n≤m→F m s=some x) {it:Operand} {s:S} {x:Exit×S} (h:mlp it F' s=some x):∃n,∀m,n≤m→mlp it (F m) s=some x:=by
 obtain⟨id,mm,ck,es,h1,h2⟩:=qd9 h
 have hent:∃n,∀m,n≤m→∀e∈es,(∀l∈q5y es,F m (s.m1 id mm ck (some e) l)=some (.normal,s.mi id mm ck (e.2.2::l)))∨∀l∈q5y es,F m (s.m1 id mm ck (some e) l)=some x:=
  q6F es fun e he=>by
   rcases h2.ent e he with h3|h3
   ·obtain⟨n,hn⟩:=q6F (p:=fun l m=>F m (s.m1 id mm ck (some e) l)=some (.normal,s.mi id mm ck (e.2.2::l))) (q5y es) fun l hl=>hF _ _ (h3 l hl)
    exact⟨n,fun m hm => .inl (hn m hm)⟩
   ·obtain⟨n,hn⟩:=q6F (p:=fun l m=>F m (s.m1 id mm ck (some e) l)=some x) (q5y es) fun l hl=>hF _ _ (h3 l hl)
    exact⟨n,fun m hm => .inr (hn m hm)⟩
 have hfin:∃n,∀m,n≤m→(∃e∈es,∀l∈q5y es,F m (s.m1 id mm ck (some e) l)=some x)∨∀l∈q5y es,F m (s.m1 id mm ck none l)=some x:=by
  rcases h2.fin with ⟨e,he,h3⟩|h3
  ·obtain⟨n,hn⟩:=q6F (p:=fun l m=>F m (s.m1 id mm ck (some e) l)=some x) (q5y es) fun l hl=>hF _ _ (h3 l hl)
   exact⟨n,fun m hm => .inl ⟨e,he,hn m hm⟩⟩
  ·obtain⟨n,hn⟩:=q6F (p:=fun l m=>F m (s.m1 id mm ck none l)=some x) (q5y es) fun l hl=>hF _ _ (h3 l hl)
   exact⟨n,fun m hm => .inr (hn m hm)⟩
 obtain⟨n1,h3⟩:=hent
 obtain⟨n2,h4⟩:=hfin
 exact⟨max n1 n2,fun m hm=>qrj h1 ⟨h2.ne,h3 m (by omega),h4 m (by omega)⟩⟩
section
variable {P:Program} {T:Ty} {po:Pol}
theorem qaX {E E':Orc} (hE:OLe E E') {s:S} {g:FuncId} {zs:List (List Nat)} {rs:List R} {bl rw ln:List Nat} {x:R×S} (h:q2a E s g zs rs bl rw ln=some x):q2a E' s g zs rs bl rw ln=some x:=by
 unfold q2a at h ⊢
 refine QC (fun _ h=>h) (fun a b h=>QC (fun _ h=>h) (fun a b h=>?_) h) h
 split at h
 ·rename_i hc;simp only[if_pos hc];exact QC (fun a h=>hE _ _ _ _ _ h) (fun _ _ h=>h) h
 ·cases h
theorem qeZ {E E':Orc} (hE:OLe E E') {s:S} {rid:Nat} {f:FuncId} {as bd:Code} {rs:List R} {bl rw ln:List Nat} {x:R×S} (h:q7m E s rid f as bd rs bl rw ln=some x):q7m E' s rid f as bd rs bl rw ln=some x:=by
 unfold q7m at h ⊢
 refine QC (fun _ h=>h) (fun a b h=>?_) h
 split at h
 ·rename_i hc;simp only[if_pos hc];exact QC (fun a h=>hE _ _ _ _ _ h) (fun _ _ h=>h) h
 ·cases h
theorem qhj {E E':Orc} (hE:OLe E E') {s:S} {rid:Nat} {args:List R} {x:R×S} (h:q5O E s rid args=some x):q5O E' s rid args=some x:=by
 unfold q5O at h ⊢
 split at h
 ·split at h
  ·rename_i hc;rw[if_pos hc];exact qeZ hE h
  ·cases h
 ·cases h
theorem qh6 {E E':Orc} (hE:OLe E E') {s:S} {f:Operand} {args:List Operand} {ts:List TypeId} {x:R×S} (h:q3V po E s f args ts=some x):q3V po E' s f args ts=some x:=by
 unfold q3V at h ⊢
 split at h
 ·exact qaX hE h
 ·exact qhj hE h
 ·cases h
theorem qnA {E E':Orc} (hE:OLe E E') {s:S} {op:Op} {x:R×S} (h:xo P T po E s op=some x):xo P T po E' s op=some x:=by
 cases op with
 | call c=>
  simp only[xo,xCl] at h ⊢
  split at h<;>first
   | exact h
   | exact qh6 hE h
 | _=>exact h
theorem qqj {E E':Orc} (hE:OLe E E') {f:Nat} {g:Operand} {ps:List Nat} {as bd:Code} {s:S} {x:Exit×S} (h:xRF po E f g ps as bd s=some x):xRF po E' f g ps as bd s=some x:=by
 unfold xRF at h ⊢
 split at h
 ·exact QC (fun a h=>qaX hE h) (fun _ _ h=>h) h
 ·cases h
theorem qaB {E E':Orc} (hE:OLe E E') {o:Oper} {act:Bool} {s s':S} (h:xst P T po E o act s=some s'):xst P T po E' o act s=some s':=by
 unfold xst at h ⊢
 by_cases hc:act=true
 ·rw[if_pos hc] at h ⊢;exact QC (fun _ h=>qnA hE h) (fun _ _ h=>h) h
 ·rw[if_neg hc] at h ⊢;exact h
theorem qnH {E E':Orc} (hE:OLe E E') {ops:List Oper} {o:Oper} {s s':S} (h:qfO P T po E ops o s=some s'):qfO P T po E' ops o s=some s':=by
 unfold qfO at h ⊢
 split at h
 ·exact qaB hE h
 ·split at h
  ·split at h
   ·split at h
    ·rename_i hb;rw[if_pos hb];exact qaB hE h
    ·rename_i hb;rw[if_neg hb];exact qaB hE h
   ·exact qaB hE h
   ·cases h
  ·cases h
theorem qB8 {E E':Orc} (h:OLe E E') {g:FuncId} {x y c:Int} (hc:cfO E g x y=some c):cfO E' g x y=some c:=by
 unfold cfO at hc ⊢
 split at hc
 ·rename_i d hd
  rw[h _ _ _ _ _ hd];exact hc
 ·cases hc
theorem qul {f f':Int→Int→Option Int} {dst:Option Nat} {e id n:Nat} {s s':S} (h:∀zs,okB f zs=true→agB f f' zs) (hx:qhR s dst f e id n=some s'):qhR s dst f' e id n=some s':=by
 unfold qhR at hx ⊢
 split at hx
 ·obtain⟨zs,h1,hx⟩:=qLi.1 hx
  rw[h1,qLd]
  split at hx
  ·rename_i hc
   have hag:=h zs hc.2.2.2.2.1
   rw[if_pos ⟨hc.1,hc.2.1,hc.2.2.1,hc.2.2.2.1,by rw[←qro hag];exact hc.2.2.2.2.1,hc.2.2.2.2.2⟩,←qdT hag fun y hy=>hy]
   exact hx
  ·cases hx
 ·cases hx
theorem qey {E:Orc} (s:S) (o:Oper):(∀E':Orc,ipF T E' s o=none)∨(∀E':Orc,ipF T E' s o=some none)∨∃dst e id n c,∀E':Orc,ipF T E' s o=some (qhR s dst (cfO E' c) e id n):=by
 unfold ipF
 split
 ·split
  ·unfold qyl
   split
   ·split
    ·unfold qBJ
     split
     ·exact .inr (.inr ⟨_,_,_,_,_,fun _=>rfl⟩)
     ·exact .inr (.inl fun _=>rfl)
    ·exact .inl fun _=>rfl
   ·exact .inl fun _=>rfl
  ·exact .inl fun _=>rfl
 ·exact .inl fun _=>rfl
theorem qqR {E E':Orc} (hE:OLe E E') {o:Oper} {s:S}:(ipA T E s o=none∧ipA T E' s o=none)∨∃y y',ipA T E s o=some y∧ipA T E' s o=some y'∧∀s',y=some s'→y'=some s':=by
 unfold ipA
 cases hi:ipX T s o with
 | some y=>exact .inr ⟨y,y,rfl,rfl,fun _ h=>h⟩
 | none=>
  rcases qey (T:=T) (E:=E) s o with h|h|⟨dst,e,id,n,c,h⟩
  ·exact .inl ⟨h E,h E'⟩
  ·exact .inr ⟨none,none,h E,h E',fun _ h=>h⟩
  ·refine .inr ⟨_,_,h E,h E',fun s' h1=>qul (fun zs hz x hx y hy=>?_) h1⟩
   obtain⟨v,hv⟩:=q8n hz x hx y hy
   rw[hv,qB8 hE hv]
theorem qqe {E E':Orc} (hE:OLe E E') {ops:List Oper} {o:Oper} {s s':S} (h:xgd P T po E ops o s=some s'):xgd P T po E' ops o s=some s':=by
 unfold xgd at h ⊢
 rcases qqR (T:=T) hE (s:=s) (o:=o) with ⟨h1,h2⟩|⟨y,y',h1,h2,h3⟩
 ·rw[h1] at h;rw[h2];exact qnH hE h
 ·rw[h1] at h;rw[h2];exact h3 _ h
theorem qhf {E E':Orc} (hE:OLe E E') {ops:List Oper}:∀(l:List Oper) {s s':S},xr P T po E ops l s=some s'→xr P T po E' ops l s=some s'
 | [],_,_,h=>h
 | o::l,_,_,h=>QC (fun _ h=>qqe hE h) (fun _ _ h=>qhf hE l h) h
def qdr (D:DRs):Prop:=∀E E',OLe E E'→∀f k id ops s s',D E f k id ops s=some s'→D E' f k id ops s=some s'
theorem qfZ {D:DRs} (hD:qdr D) {E E':Orc} (hE:OLe E E') {L L':(S→XS)→S→XS} (hL:LLe L L') {f k:Nat}:∀(c:Code),FLe (XD P T po E (D E f k) L f k c) (XD P T po E' (D E' f k) L' f k c):=by
 intro c
 induction c with
 | seq a b iha ihb=>intro s x h;exact QC (fun _ h=>iha _ _ h) (fun _ _ h=>qid ihb h) h
 | block id c ih=>intro s x h;exact QC (fun _ h=>ih _ _ h) (fun _ _ h=>h) h
 | scope c ih=>intro s x h;exact QC (fun _ h=>ih _ _ h) (fun _ _ h=>h) h
 | cond c x y ihx ihy=>
  intro s z h
  unfold XD at h ⊢
  split at h
  ·split at h
   ·rename_i hb;rw[if_pos hb];exact ihx _ _ h
   ·rename_i hb;rw[if_neg hb];exact ihy _ _ h
  ·cases h
 | region id ops draw=>
  intro s z h
  unfold XD at h ⊢
  split at h
  ·rename_i hb;rw[if_pos hb];exact QC (fun _ h=>hD E E' hE f k id _ _ _ h) (fun _ _ h=>h) h
  ·rename_i hb;rw[if_neg hb];exact QC (fun _ h=>qhf hE _ h) (fun _ _ h=>h) h
 | loop c ih=>
  intro s z h
  exact QC (fun _ h=>h) (fun a b h=>qo9 hL (q3B c) _ _ (fun s x h=>QC (fun _ h=>ih _ _ h) (fun _ _ h=>h) h) a b h) h
 | rangeFunc g ps as bd _ _=>
  intro s z h
  unfold XD at h ⊢
  exact qqj hE h
 | _=>intro s x h;exact h
theorem qcw {D:DRs} (hD:qdr D) {E E':Orc} (hE:OLe E E') {L L':(S→XS)→S→XS} (hL:LLe L L') {f k:Nat} {args:List R} {G:List (Nat×B)} {bd:Bd} {x:R×List (Nat×B)} (h:q98 P T po D E L f k args G bd=some x):q98 P T po D E' L' f k args G bd=some x:=by
 unfold q98 at h ⊢
 split at h
 ·rename_i hc;rw[if_pos hc];exact QC (fun a h=>qfZ hD hE hL bd.code _ _ h) (fun _ _ h=>h) h
 ·cases h
theorem qbR {D:DRs} (hD:qdr D) {E E':Orc} (hE:OLe E E') {L L':(S→XS)→S→XS} (hL:LLe L L') {f k:Nat} {as bd:Code} {tm:List R} {G:List (Nat×B)} {x:R×List (Nat×B)} (h:q6r P T po D E L f k as bd tm G=some x):q6r P T po D E' L' f k as bd tm G=some x:=by
 unfold q6r at h ⊢
 split at h
 ·rename_i hc
  rw[if_pos hc]
  refine QC (fun a h=>qfZ hD hE hL as _ _ h) (fun p b h=>?_) h
  unfold qaZ at h ⊢
  split at h
  ·exact QC (fun _ h=>h) (fun b c h=>QC (fun a h=>qfZ hD hE hL bd _ _ h) (fun _ _ h=>h) h) h
  ·cases h
 ·cases h
theorem qii {D:DRs} (hD:qdr D) {E E':Orc} (hE:OLe E E') {L L':(S→XS)→S→XS} (hL:LLe L L') {f k:Nat} {args:List R} {G:List (Nat×B)} {x:R×List (Nat×B)} (h:fnx P T po D E L f k args G=some x):fnx P T po D E' L' f k args G=some x:=by
 unfold fnx at h ⊢
 split at h
 ·rename_i g hg;exact g.mono E E' hE _ _ _ _ h
 ·exact QC (fun _ h=>h) (fun bd b hb=>qcw hD hE hL hb) h
theorem q7o {D:DRs} (hD:qdr D):∀{n m:Nat},n≤m→OLe (xf P T po D n) (xf P T po D m)
 | 0,_,_=>fun _ _ _ _ _ h=>by cases h
 | n+1,0,h=>by omega
 | n+1,m+1,h=>fun g k args G x hx=>by
  unfold xf at hx ⊢
  cases g with
  | fn f=>exact qii hD (q7o hD (by omega)) (qhI (by omega)) hx
  | rd f as bd=>exact qbR hD (q7o hD (by omega)) (qhI (by omega)) hx
def EE (P:Program) (T:Ty) (po:Pol) (D:DRs):Orc:=fun f k args G=>open Classical in if h:∃x n,xf P T po D n f k args G=some x then some (Classical.choose h) else none
theorem qjm {D:DRs} (hD:qdr D) {n:Nat}:OLe (xf P T po D n) (EE P T po D):=fun f k args G x h=>by
 have hex:∃x n,xf P T po D n f k args G=some x:=⟨x,n,h⟩
 unfold EE
 rw[dif_pos hex]
 obtain⟨m,hm⟩:=Classical.choose_spec hex
 have h1:=q7o hD (Nat.le_max_left n m) _ _ _ _ _ h
 have h2:=q7o hD (Nat.le_max_right n m) _ _ _ _ _ hm
 rw[h1] at h2
 injection h2 with h2
 rw[←h2]
theorem q9e {D:DRs} {f:Fx} {k:Nat} {args:List R} {G:List (Nat×B)} {x:R×List (Nat×B)} (h:EE P T po D f k args G=some x):∃n,xf P T po D n f k args G=some x:=by
 unfold EE at h
 split at h
 ·rename_i hex
  injection h with h
  obtain⟨m,hm⟩:=Classical.choose_spec hex
  exact⟨m,h ▸ hm⟩
 ·cases h
theorem qA7 (hA:Ag P T) {D:DRs} (hD:DOk P po D) (hP:qD9 P po):Snd P (EE P T po D):=by
 refine⟨fun f k args G r G' h=>?_,fun f as bd k tm G r G' h=>?_⟩
 ·obtain⟨n,hn⟩:=q9e h
  exact(qnU hA hD hP n).fn f k args G r G' hn
 ·obtain⟨n,hn⟩:=q9e h
  exact(qnU hA hD hP n).rd f as bd k tm G r G' hn
def qxH (P:Program) (T:Ty) (po:Pol) (D:DRs):Prop:=∀f k id ops s s',D (EE P T po D) f k id ops s=some s'→∃n,D (xf P T po D n) f k id ops s=some s'
theorem QI {α β:Type} {o:Nat→Option α} {o':Option α} {g:Nat→α→Option β} {g':α→Option β} (ho:∀a,o'=some a→∃n,∀m,n≤m→o m=some a) (hg:∀a b,g' a=some b→∃n,∀m,n≤m→g m a=some b) {b:β} (h:o'.bind g'=some b):∃n,∀m,n≤m→(o m).bind (g m)=some b:=by
 obtain⟨a,h1,h2⟩:=qLi.1 h
 obtain⟨n1,h3⟩:=ho a h1
 obtain⟨n2,h4⟩:=hg a b h2
 exact⟨max n1 n2,fun m hm=>by rw[h3 m (by omega)];exact h4 m (by omega)⟩
theorem QZ {α:Type} {o:Option α}:∀a,o=some a→∃n:Nat,∀m,n≤m→o=some a:=fun _ h=>⟨0,fun _ _=>h⟩
theorem qi2 {k:Nat→S→XS} {k':S→XS} (h:∀s x,k' s=some x→∃n,∀m,n≤m→k m s=some x):∀p x,sqD k' p=some x→∃n,∀m,n≤m→sqD (k m) p=some x:=fun p x hx=>by
 obtain⟨e,t⟩:=p
 cases e with
 | normal=>exact h _ _ hx
 | _=>exact⟨0,fun m _=>hx⟩
theorem qm6 {E:Nat→Orc} {E':Orc} (hE:∀g k a G x,E' g k a G=some x→∃n,∀m,n≤m→E m g k a G=some x) (g:FuncId):∀(l:List (Int×Int)),(∀p∈l,∃c,cfO E' g p.1 p.2=some c)→∃n,∀m,n≤m→∀p∈l,cfO E' g p.1 p.2=cfO (E m) g p.1 p.2
 | [],_=>⟨0,fun _ _ p hp=>by cases hp⟩
 | p::l,h=>by
  obtain⟨n1,h1⟩:=qm6 hE g l fun q hq=>h q (qLl _ hq)
  obtain⟨c,hc⟩:=h p qLs
  have h2:∃n,∀m,n≤m→cfO (E m) g p.1 p.2=some c:=by
   unfold cfO at hc ⊢
   split at hc
   ·rename_i d hd
    obtain⟨n,hn⟩:=hE _ _ _ _ _ hd
    exact⟨n,fun m hm=>by rw[hn m hm];exact hc⟩
   ·cases hc
  obtain⟨n2,h2⟩:=h2
  refine⟨max n1 n2,fun m hm q hq=>?_⟩
  rcases qLz.1 hq with rfl|hq
  ·rw[hc,h2 m (by omega)]
  ·exact h1 m (by omega) q hq
theorem qkY {E:Nat→Orc} {E':Orc} (hE:∀g k a G x,E' g k a G=some x→∃n,∀m,n≤m→E m g k a G=some x) {s s':S} {dst:Option Nat} {e id n c:Nat} (h:qhR s dst (cfO E' c) e id n=some s'):∃N,∀m,N≤m→qhR s dst (cfO (E m) c) e id n=some s':=by
 cases hb:s.blk id with
 | row e' sz cs=>
  by_cases hsz:sz=1
  ·subst hsz
   cases hz:qcg cs with
   | none=>unfold qhR at h;rw[hb] at h;simp only[hz,Option.bind_none] at h;cases h
   | some zs=>
    have hok:okB (cfO E' c) zs=true:=by
     unfold qhR at h
     rw[hb] at h
     simp only[hz,qLd] at h
     split at h
     ·rename_i hc;exact hc.2.2.2.2.1
     ·cases h
    obtain⟨N,hN⟩:=qm6 hE c (zs.flatMap fun x=>zs.map fun y=>(x,y)) (fun p hp=>by
     obtain⟨x,hx,hp⟩:=List.mem_flatMap.1 hp
     obtain⟨y,hy,rfl⟩:=qLY.1 hp
     exact q8n hok x hx y hy)
    refine⟨N,fun m hm=>?_⟩
    have hag:agB (cfO E' c) (cfO (E m) c) zs:=fun x hx y hy=>hN m hm (x,y) (List.mem_flatMap.2 ⟨x,hx,qLY.2 ⟨y,hy,rfl⟩⟩)
    unfold qhR at h ⊢
    rw[hb] at h ⊢
    simp only[hz,qLd] at h ⊢
    split at h
    ·rename_i hc
     rw[if_pos ⟨hc.1,hc.2.1,hc.2.2.1,hc.2.2.2.1,by rw[←qro hag];exact hc.2.2.2.2.1,hc.2.2.2.2.2⟩,←qdT hag fun y hy=>hy]
     exact h
    ·cases h
  ·unfold qhR at h;rw[hb] at h
   split at h
   ·rename_i q;injection q with _ q2 _;exact absurd q2 hsz
   ·cases h
 | _=>unfold qhR at h;rw[hb] at h;cases h
section
variable {D:DRs} (hM:qdr D) (hC:qxH P T po D)
include hM
theorem qby {f:Fx} {k:Nat} {args:List R} {G:List (Nat×B)}:∀x,EE P T po D f k args G=some x→∃n,∀m,n≤m→xf P T po D m f k args G=some x:=fun x h=>by
 obtain⟨n,hn⟩:=q9e h
 exact⟨n,fun m hm=>q7o hM hm _ _ _ _ _ hn⟩
theorem qbn {s:S} {g:FuncId} {zs:List (List Nat)} {rs:List R} {bl rw ln:List Nat}:∀x,q2a (EE P T po D) s g zs rs bl rw ln=some x→∃n,∀m,n≤m→q2a (xf P T po D m) s g zs rs bl rw ln=some x:=fun x h=>by
 unfold q2a at h ⊢
 refine QI QZ (fun a b h=>QI QZ (fun a b h=>?_) h) h
 split at h
 ·rename_i hc
  simp only[if_pos hc]
  exact QI (qby hM) (fun _=>QZ) h
 ·cases h
theorem qgf {s:S} {rid:Nat} {args:List R}:∀x,q5O (EE P T po D) s rid args=some x→∃n,∀m,n≤m→q5O (xf P T po D m) s rid args=some x:=fun x h=>by
 unfold q5O at h ⊢
 split at h
 ·split at h
  ·rename_i hc
   simp only[if_pos hc]
   unfold qdC q7m at h ⊢
   refine QI QZ (fun a b h=>?_) h
   split at h
   ·rename_i hc
    simp only[if_pos hc]
    exact QI (qby hM) (fun _=>QZ) h
   ·cases h
  ·cases h
 ·cases h
theorem qgn {s:S} {f:Operand} {args:List Operand} {ts:List TypeId}:∀x,q3V po (EE P T po D) s f args ts=some x→∃n,∀m,n≤m→q3V po (xf P T po D m) s f args ts=some x:=fun x h=>by
 unfold q3V at h ⊢
 split at h
 ·exact qbn hM _ h
 ·exact qgf hM _ h
 ·cases h
theorem qlT {s:S} {op:Op}:∀x,xo P T po (EE P T po D) s op=some x→∃n,∀m,n≤m→xo P T po (xf P T po D m) s op=some x:=fun x h=>by
 cases op with
 | call c=>
  simp only[xo,xCl] at h ⊢
  split at h<;>first
   | exact⟨0,fun _ _=>h⟩
   | exact qgn hM _ h
 | _=>exact⟨0,fun _ _=>h⟩
theorem qps {f:Nat} {g:Operand} {ps:List Nat} {as bd:Code} {s:S}:∀x,xRF po (EE P T po D) f g ps as bd s=some x→∃n,∀m,n≤m→xRF po (xf P T po D m) f g ps as bd s=some x:=fun x h=>by
 unfold xRF at h ⊢
 split at h
 ·exact QI (qbn hM) (fun _=>QZ) h
 ·cases h
theorem qaF {o:Oper} {act:Bool} {s:S}:∀x,xst P T po (EE P T po D) o act s=some x→∃n,∀m,n≤m→xst P T po (xf P T po D m) o act s=some x:=fun x h=>by
 unfold xst at h ⊢
 by_cases hc:act=true
 ·simp only[if_pos hc] at h ⊢;exact QI (qlT hM) (fun _=>QZ) h
 ·simp only[if_neg hc] at h ⊢;exact⟨0,fun _ _=>h⟩
theorem qmj {ops:List Oper} {o:Oper} {s:S}:∀x,qfO P T po (EE P T po D) ops o s=some x→∃n,∀m,n≤m→qfO P T po (xf P T po D m) ops o s=some x:=fun x h=>by
 unfold qfO at h ⊢
 split at h
 ·exact qaF hM _ h
 ·split at h
  ·split at h
   ·split at h
    ·rename_i hb;simp only[if_pos hb];exact qaF hM _ h
    ·rename_i hb;simp only[if_neg hb];exact qaF hM _ h
   ·exact qaF hM _ h
   ·cases h
  ·cases h
theorem qp5 {ops:List Oper} {o:Oper} {s:S}:∀x,xgd P T po (EE P T po D) ops o s=some x→∃n,∀m,n≤m→xgd P T po (xf P T po D m) ops o s=some x:=fun x h=>by
 unfold xgd ipA at h ⊢
 cases hi:ipX T s o with
 | some y=>simp only[hi,ipS,qpy] at h ⊢;exact⟨0,fun _ _=>h⟩
 | none=>
  simp only[hi,ipS] at h ⊢
  rcases qey (T:=T) (E:=EE P T po D) s o with q|q|⟨dst,e,id,n,c,q⟩
  ·simp only[q,qpy] at h ⊢;exact qmj hM x h
  ·simp only[q,qpy] at h;cases h
  ·simp only[q,qpy] at h ⊢;exact qkY (E:=fun m=>xf P T po D m) (fun g k a G x hx=>qby hM x hx) h
theorem qhc {ops:List Oper}:∀(l:List Oper) (s:S) (x:S),xr P T po (EE P T po D) ops l s=some x→∃n,∀m,n≤m→xr P T po (xf P T po D m) ops l s=some x
 | [],_,_,h=>⟨0,fun _ _=>h⟩
 | o::l,_,_,h=>QI (qp5 hM) (fun s x h=>qhc l s x h) h
include hC
theorem qgZ {f k:Nat}:∀(c:Code) (s:S) (x:Exit×S),XD P T po (EE P T po D) (D (EE P T po D) f k) Lim f k c s=some x→∃n,∀m,n≤m→XD P T po (xf P T po D m) (D (xf P T po D m) f k) (iter m) f k c s=some x:=by
 intro c
 induction c with
 | seq a b iha ihb=>intro s x h;exact QI (iha s) (qi2 ihb) h
 | block id c ih=>intro s x h;exact QI (ih s) (fun _=>QZ) h
 | scope c ih=>intro s x h;exact QI (ih s) (fun _=>QZ) h
 | cond c x y ihx ihy=>
  intro s z h
  unfold XD at h ⊢
  split at h
  ·split at h
   ·rename_i hb;simp only[if_pos hb];exact ihx _ _ h
   ·rename_i hb;simp only[if_neg hb];exact ihy _ _ h
  ·cases h
 | region id ops draw=>
  intro s z h
  unfold XD at h ⊢
  split at h
  ·rename_i hb
   simp only[if_pos hb]
   refine QI (fun a ha=>?_) (fun _=>QZ) h
   obtain⟨n,hn⟩:=hC _ _ _ _ _ _ ha
   exact⟨n,fun m hm=>hM _ _ (q7o hM hm) _ _ _ _ _ _ hn⟩
  ·rename_i hb;simp only[if_neg hb];exact QI (qhc hM _ _) (fun _=>QZ) h
 | loop c ih=>
  intro s z h
  unfold XD at h ⊢
  refine QI QZ (fun a b h=>?_) h
  have hbody:∀s x,(XD P T po (EE P T po D) (D (EE P T po D) f k) Lim f k c s).bind (lpx po f (zX c) k)=some x→
    ∃n,∀m,n≤m→(XD P T po (xf P T po D m) (D (xf P T po D m) f k) (iter m) f k c s).bind (lpx po f (zX c) k)=some x:=fun s x h=>QI (ih s) (fun _=>QZ) h
  cases hd:q3B c with
  | some it=>rw[hd] at h;exact qq4 (F:=fun m s=>(XD P T po (xf P T po D m) (D (xf P T po D m) f k) (iter m) f k c s).bind (lpx po f (zX c) k)) hbody h
  | none=>
  rw[hd] at h
  replace h:Lim _ a=some b:=h
  obtain⟨N,hN⟩:=qi8 h
  have hit:∀(N:Nat) (s:S) (x:Exit×S),iter N (fun s=>(XD P T po (EE P T po D) (D (EE P T po D) f k) Lim f k c s).bind (lpx po f (zX c) k)) s=some x→
    ∃n,∀m,n≤m→iter N (fun s=>(XD P T po (xf P T po D m) (D (xf P T po D m) f k) (iter m) f k c s).bind (lpx po f (zX c) k)) s=some x:=by
   intro N
   induction N with
   | zero=>intro s x h;cases h
   | succ N ihN=>intro s x h;exact QI (hbody s) (qi2 ihN) h
  obtain⟨n,hn⟩:=hit N a b hN
  exact⟨max n N,fun m hm=>q5N (by omega) (fun _ _ h=>h) _ _ (hn m (by omega))⟩
 | rangeFunc g ps as bd _ _=>
  intro s z h
  unfold XD at h ⊢
  exact qps hM _ h
 | _=>intro s x h;exact⟨0,fun _ _=>h⟩
theorem qg5 {f k:Nat} {as bd:Code} {tm:List R} {G:List (Nat×B)}:∀x,q6r P T po D (EE P T po D) Lim f k as bd tm G=some x→∃n,∀m,n≤m→q6r P T po D (xf P T po D m) (iter m) f k as bd tm G=some x:=fun x h=>by
 unfold q6r at h ⊢
 split at h
 ·rename_i hc
  simp only[if_pos hc]
  refine QI (qgZ hM hC as _) (fun p b h=>?_) h
  unfold qaZ at h ⊢
  split at h
  ·exact QI QZ (fun b c h=>QI (qgZ hM hC bd _) (fun _=>QZ) h) h
  ·cases h
 ·cases h
theorem qD3 (f:FuncId) (as bd:Code) (k:Nat) (tm:List R) (G:List (Nat×B)):EE P T po D (.rd f as bd) k tm G=q6r P T po D (EE P T po D) Lim f k as bd tm G:=by
 refine qdA (fun x h=>?_) (fun x h=>?_)
 ·obtain⟨n,hn⟩:=q9e h
  cases n with
  | zero=>cases hn
  | succ n=>exact qbR hM (qjm hM) (qfN n) hn
 ·obtain⟨n,hn⟩:=qg5 hM hC x h
  exact qjm hM (n:=n+1) _ _ _ _ _ (hn n (qLt n))
theorem qF8 (f k:Nat) (args:List R) (G:List (Nat×B)):EE P T po D (.fn f) k args G=fnx P T po D (EE P T po D) Lim f k args G:=by
 refine qdA (fun x h=>?_) (fun x h=>?_)
 ·obtain⟨n,hn⟩:=q9e h
  cases n with
  | zero=>cases hn
  | succ n=>exact qii hM (qjm hM) (qfN n) hn
 ·cases hp:po.pr f with
  | some g=>
   unfold fnx at h
   rw[hp] at h
   obtain⟨n,hn⟩:=g.cont (fun n=>xf P T po D n) _ (fun _ _ h=>q7o hM h) (fun g k a G x h=>qby hM x h) _ _ _ _ h
   refine qjm hM (n:=n+1) _ _ _ _ _ ?_
   show fnx P T po D _ _ f k args G=_
   unfold fnx
   rw[hp];exact hn n (qLt n)
  | none=>
  unfold fnx at h
  rw[hp] at h
  obtain⟨bd,h1,h2⟩:=qLi.1 h
  have:∃n,q98 P T po D (xf P T po D n) (iter n) f k args G bd=some x:=by
   unfold q98 at h2 ⊢
   split at h2
   ·rename_i hc
    simp only[if_pos hc]
    obtain⟨n,hn⟩:=QI (qgZ hM hC bd.code _) (fun _=>QZ) h2
    exact⟨n,hn n (qLt n)⟩
   ·cases h2
  obtain⟨n,hn⟩:=this
  refine qjm hM (n:=n+1) _ _ _ _ _ ?_
  show fnx P T po D _ _ f k args G=_
  unfold fnx
  rw[hp]
  simp only
  rw[h1]
  exact hn
end
end
end
noncomputable section
open Go.RowKit
def qke (s:S):Op→List Nat
 | .load _ x=>match s.ev x with | .c (.ptr id _)=>[id]|_=>[]
 | .convert _ _ x=>match s.ev x with | .c (.own id _ _ _)=>[id]|_=>[]
 | .lookup _ x _ _=>match s.ev x with | .c (.hd _ id)=>[id]|_=>[]
 | .range _ x=>match s.ev x with | .c (.hd _ id)=>[id]|_=>[]
 | .call c=>match c.callee,c.args.toList with | .builtin .len,[x]=>(match s.ev x with | .c (.hd _ id)=>[id]|_=>[])|_,_=>[]
 | _=>[]
def qbc:Op→Bool
 | .makeMap _ _=>true
 | .range _ _=>true
 | .alloc _=>true
 | .box _ _=>true
 | .buildSlice _ _ _=>true
 | _=>false
section
variable {P:Program} {T:Ty} {s t:S} {p:Nat} {K:KK}
theorem qmI {op:Op} (hop:q46 op=true) (hev:∀x∈op.operands.toList,t.ev x=s.ev x) (hblk:∀id,id∈qke s op→t.blk id=s.blk id) (h:ox P T s p op K) :
  ∃r us,K r (s.up us)∧(us=[]∨(qbc op=true∧∃b,us=[(p,b)]))∧∀(q:Nat) (K':KK),(us=[]∨q=p)→K' r (t.up us)→ox P T t q op K':=by
 have e1:∀x,x∈op.operands.toList→t.ev x=s.ev x:=hev
 cases op with
 | move x=>have h1:=e1 x (by simp[Op.operands]);exact⟨_,[],h,.inl rfl,fun q K' hq' hK=>by show K' (t.ev x) t;rw[h1];exact hK⟩
 | assign x=>have h1:=e1 x (by simp[Op.operands]);exact⟨_,[],h,.inl rfl,fun q K' hq' hK=>by show K' (t.ev x) t;rw[h1];exact hK⟩
 | pick c x y=>
  have h1:=e1 c (by simp[Op.operands]);have h2:=e1 x (by simp[Op.operands]);have h3:=e1 y (by simp[Op.operands])
  simp only[ox,qcV] at h ⊢
  split at h
  ·rename_i b hb
   exact⟨_,[],h,.inl rfl,fun q K' hq' hK=>by rw[h1,h2,h3,hb];exact hK⟩
  ·cases h
 | alloc ty=>
  simp only[ox,qe9] at h ⊢
  exact⟨_,_,h.2,.inr ⟨rfl,_,rfl⟩,fun q K' hq' hK=>by obtain rfl:=hq'.resolve_left (by simp);exact⟨h.1,hK⟩⟩
 | box ty x=>
  have h1:=e1 x (by simp[Op.operands])
  simp only[ox,qoW] at h ⊢
  obtain⟨cs,g1,g2,g3⟩:=h
  exact⟨_,_,g3,.inr ⟨rfl,_,rfl⟩,fun q K' hq' hK=>by obtain rfl:=hq'.resolve_left (by simp);exact⟨cs,by rw[h1];exact g1,g2,hK⟩⟩
 | build ty parts=>
  have hq:∀q∈parts.toList,t.ev q.2=s.ev q.2:=fun q hq=>e1 q.2 (by simp only[Op.operands];exact List.mem_map_of_mem (f:=fun q:Nat×Operand=>q.2) hq)
  simp only[ox,q99] at h ⊢
  split at h
  ·rename_i fs hk
   obtain⟨g1,cs,g2,g3⟩:=h
   exact⟨_,[],g3,.inl rfl,fun q K' hq' hK=>⟨g1,cs,by rw[qaQ _ _ hq];exact g2,hK⟩⟩
  ·rename_i n e hk
   obtain⟨g1,cs,g2,g3⟩:=h
   exact⟨_,[],g3,.inl rfl,fun q K' hq' hK=>⟨g1,cs,by rw[qaQ _ _ hq];exact g2,hK⟩⟩
  ·cases h
 | buildSlice ty len parts=>
  have hq:∀q∈parts.toList,t.ev q.2=s.ev q.2:=fun q hq=>e1 q.2 (by simp only[Op.operands];exact List.mem_map_of_mem (f:=fun q:Nat×Operand=>q.2) hq)
  simp only[ox,q2K] at h ⊢
  obtain⟨e,g1,g2,g3,g4,cs,g5,g6⟩:=h
  exact⟨_,_,g6,.inr ⟨rfl,_,rfl⟩,fun q K' hq' hK=>by obtain rfl:=hq'.resolve_left (by simp);exact⟨e,g1,g2,g3,g4,cs,by rw[qaQ _ _ hq];exact g5,hK⟩⟩
 | load ty x=>
  have h1:=e1 x (by simp[Op.operands])
  simp only[ox,qd1] at h ⊢
  rw[h1]
  split at h
  ·rename_i id off he
   obtain⟨r,g1,g2⟩:=h
   exact⟨r,[],g2,.inl rfl,fun q K' hq' hK=>⟨r,by rw[hblk id (by simp[qke,he])];exact g1,hK⟩⟩
  ·obtain⟨r,g1,g2⟩:=h
   exact⟨r,[],g2,.inl rfl,fun q K' hq' hK=>⟨r,g1,hK⟩⟩
  ·cases h
 | nilCheck x=>
  have h1:=e1 x (by simp[Op.operands])
  simp only[ox,q3l] at h ⊢
  rw[h1]
  split at h
  ·exact⟨_,[],h,.inl rfl,fun q K' hq' hK=>hK⟩
  ·exact⟨_,[],h,.inl rfl,fun q K' hq' hK=>hK⟩
  ·exact⟨_,[],h,.inl rfl,fun q K' hq' hK=>hK⟩
  ·cases h
 | extract x i=>
  have h1:=e1 x (by simp[Op.operands])
  simp only[ox,q4y] at h ⊢
  rw[h1]
  split at h
  ·obtain⟨r,g1,g2⟩:=h
   exact⟨r,[],g2,.inl rfl,fun q K' hq' hK=>⟨r,g1,hK⟩⟩
  ·cases h
 | fieldAddr ty x f=>
  have h1:=e1 x (by simp[Op.operands])
  simp only[ox,q3z] at h ⊢
  rw[h1]
  obtain⟨fo,ft,g1,g2,g3,h⟩:=h
  split at h
  ·exact⟨_,[],h,.inl rfl,fun q K' hq' hK=>⟨fo,ft,g1,g2,g3,hK⟩⟩
  ·exact⟨_,[],h,.inl rfl,fun q K' hq' hK=>⟨fo,ft,g1,g2,g3,hK⟩⟩
  ·cases h
 | field ty x f=>
  have h1:=e1 x (by simp[Op.operands])
  simp only[ox,q9j] at h ⊢
  rw[h1]
  split at h
  ·obtain⟨fo,ft,r,g1,g2,g3⟩:=h
   exact⟨r,[],g3,.inl rfl,fun q K' hq' hK=>⟨fo,ft,r,g1,g2,hK⟩⟩
  ·cases h
 | indexAddr ty x y=>
  have h1:=e1 x (by simp[Op.operands]);have h2:=e1 y (by simp[Op.operands])
  simp only[ox,q2m] at h ⊢
  rw[h1,h2]
  split at h
  ·obtain⟨e,g1,g2,g3,g4,g5,g6⟩:=h
   exact⟨_,[],g6,.inl rfl,fun q K' hq' hK=>⟨e,g1,g2,g3,g4,g5,hK⟩⟩
  ·obtain⟨e,g1,g2,g3,g4,g5,g6⟩:=h
   exact⟨_,[],g6,.inl rfl,fun q K' hq' hK=>⟨e,g1,g2,g3,g4,g5,hK⟩⟩
  ·obtain⟨n,e,g1,g2,g4,g5,g6⟩:=h
   exact⟨_,[],g6,.inl rfl,fun q K' hq' hK=>⟨n,e,g1,g2,g4,g5,hK⟩⟩
  ·cases h
 | index ty x y=>
  have h1:=e1 x (by simp[Op.operands]);have h2:=e1 y (by simp[Op.operands])
  simp only[ox,q9z] at h ⊢
  rw[h1,h2]
  split at h
  ·obtain⟨n,e,r,g1,g2,g3,g4,g5,g6⟩:=h
   exact⟨r,[],g6,.inl rfl,fun q K' hq' hK=>⟨n,e,r,g1,g2,g3,g4,g5,hK⟩⟩
  ·obtain⟨g1,g2,c,g3,g4⟩:=h
   exact⟨_,[],g4,.inl rfl,fun q K' hq' hK=>⟨g1,g2,c,g3,hK⟩⟩
  ·cases h
 | unOp op ty x=>
  have h1:=e1 x (by simp[Op.operands])
  simp only[ox,qw6] at h ⊢
  rw[h1]
  split at h
  ·rename_i b hb;exact⟨_,[],h,.inl rfl,fun q K' hq' hK=>hK⟩
  ·rename_i k n hb;exact⟨_,[],h,.inl rfl,fun q K' hq' hK=>hK⟩
  ·cases h
 | binOp op ty x y ty'=>
  have h1:=e1 x (by simp[Op.operands]);have h2:=e1 y (by simp[Op.operands])
  simp only[ox,qjf] at h ⊢
  rw[h1,h2]
  split at h
  ·obtain⟨g1,g2⟩:=h
   cases op
   all_goals simp only[qex] at g2 ⊢
   case quo=>exact⟨_,[],g2.2,.inl rfl,fun q K' hq' hK=>⟨g1,g2.1,hK⟩⟩
   case rem=>exact⟨_,[],g2.2,.inl rfl,fun q K' hq' hK=>⟨g1,g2.1,hK⟩⟩
   case shl=>exact⟨_,[],g2.2,.inl rfl,fun q K' hq' hK=>⟨g1,g2.1,hK⟩⟩
   case shr=>exact⟨_,[],g2.2,.inl rfl,fun q K' hq' hK=>⟨g1,g2.1,hK⟩⟩
   all_goals exact⟨_,[],g2,.inl rfl,fun q K' hq' hK=>⟨g1,hK⟩⟩
  ·cases op
   all_goals simp only[qf5] at h ⊢
   case add=>exact⟨_,[],h.2,.inl rfl,fun q K' hq' hK=>⟨h.1,hK⟩⟩
   all_goals first|exact h.elim|exact⟨_,[],h,.inl rfl,fun q K' hq' hK=>hK⟩
  ·unfold qez at h ⊢
   cases op
   all_goals first|exact h.elim|(obtain⟨b,h1,h2⟩:=h;exact⟨_,[],h2,.inl rfl,fun q K' hq' hK=>⟨b,h1,hK⟩⟩)
  ·unfold qf6 at h ⊢
   split at h
   all_goals first|exact h.elim|exact⟨_,[],h.2,.inl rfl,fun q K' hq' hK=>⟨h.1,hK⟩⟩
 | convert ty ty' x=>
  have h1:=e1 x (by simp[Op.operands])
  simp only[ox,qcU] at h ⊢
  rw[h1]
  split at h
  ·exact⟨_,[],h,.inl rfl,fun q K' hq' hK=>hK⟩
  ·exact⟨_,[],h,.inl rfl,fun q K' hq' hK=>hK⟩
  ·exact⟨_,[],h.2.2,.inl rfl,fun q K' hq' hK=>⟨h.1,h.2.1,hK⟩⟩
  ·rename_i e id sz off n g1 g2 he
   obtain⟨q1,q2,ns,q3,q4,q5⟩:=h
   exact⟨_,[],q5,.inl rfl,fun q K' hq' hK=>⟨q1,q2,ns,by rw[hblk id (by simp[qke,he])];exact q3,q4,hK⟩⟩
  ·obtain⟨q1,q2,ns,q3,q5⟩:=h
   exact⟨_,[],q5,.inl rfl,fun q K' hq' hK=>⟨q1,q2,ns,q3,hK⟩⟩
  ·exact⟨_,[],h.2,.inl rfl,fun q K' hq' hK=>⟨h.1,hK⟩⟩
  ·cases h
 | makeFunc f first captured=>
  have h1:∀x∈first.toList,t.ev x=s.ev x:=fun x hx=>e1 x (by simp only[Op.operands];simp only[Array.toList_append,qLH];exact .inl hx)
  have h2:∀x∈captured.toList,t.ev x=s.ev x:=fun x hx=>e1 x (by simp only[Op.operands];simp only[Array.toList_append,qLH];exact .inr hx)
  simp only[ox,q3k] at h ⊢
  split at h
  ·obtain⟨fs,caps,q1,q2,q3⟩:=h
   exact⟨_,[],q3,.inl rfl,fun q K' hq' hK=>⟨fs,caps,by rw[qdo _ h1];exact q1,by rw[qdo _ h2];exact q2,hK⟩⟩
  ·cases h
 | slice ty x lo hi mx=>
  have h1:=e1 x (by simp[Op.operands])
  have bd:∀(y:Option Operand) (z:Int),(∀u,y=some u→t.ev u=s.ev u)→t.bd y z=s.bd y z:=fun y z hy=>by
   cases y with
   | none=>rfl
   | some u=>simp only[S.bd,hy u rfl]
  have b1:=fun z=>bd lo z (fun u hu=>e1 u (by subst hu;simp[Op.operands]))
  have b2:=fun z=>bd hi z (fun u hu=>e1 u (by subst hu;simp[Op.operands]))
  simp only[ox,q9d] at h ⊢
  rw[h1]
  split at h
  ·obtain⟨q1,q2,l,r,q3,q4,q5,q6,q7,q8⟩:=h
   exact⟨_,[],q8,.inl rfl,fun q K' hq' hK=>⟨q1,q2,l,r,by rw[b1];exact q3,by rw[b2];exact q4,q5,q6,q7,hK⟩⟩
  ·obtain⟨e,q0,q1,q1',q2,l,r,q3,q4,q5,q6,q7,q8⟩:=h
   exact⟨_,[],q8,.inl rfl,fun q K' hq' hK=>⟨e,q0,q1,q1',q2,l,r,by rw[b1];exact q3,by rw[b2];exact q4,q5,q6,q7,hK⟩⟩
  ·rename_i id sz off n he
   obtain⟨e,q0,q1,q1',q2,l,r,q3,q4,q5,q6,q7,q8,q9⟩:=h
   by_cases hl:l=0∨l<n
   ·exact⟨_,[],q8 hl,.inl rfl,fun q K' hq' hK=>⟨e,q0,q1,q1',q2,l,r,by rw[b1];exact q3,by rw[b2];exact q4,q5,q6,q7,fun _=>hK,fun hn=>absurd hl hn⟩⟩
   ·exact⟨_,[],q9 hl,.inl rfl,fun q K' hq' hK=>⟨e,q0,q1,q1',q2,l,r,by rw[b1];exact q3,by rw[b2];exact q4,q5,q6,q7,fun hn=>absurd hn hl,fun _=>hK⟩⟩
  ·obtain⟨e,q0,q1,q2,q3,q4,q5⟩:=h
   exact⟨_,[],q5,.inl rfl,fun q K' hq' hK=>⟨e,q0,q1,q2,by rw[b1];exact q3,by rw[b2];exact q4,hK⟩⟩
  ·cases h
 | call c=>
  obtain⟨callee,args,ts⟩:=c
  simp only[ox,qkS] at h ⊢
  have e2:∀x∈args.toList,t.ev x=s.ev x:=fun x hx=>e1 x (by simp only[Op.operands,Call.operands];simp only[Array.toList_append,qLH];exact .inr hx)
  split at h
  ·rename_i x ty q1 q2
   have h1:=e2 x (by rw[q1];simp)
   split at h
   ·obtain⟨r,g1,g2⟩:=h
    refine⟨_,[],g2,.inl rfl,fun q K' hq' hK=>⟨r,?_,hK⟩⟩
    have:q8G t x=q8G s x:=by
     unfold q8G
     rw[h1]
     split
     ·rfl
     ·rename_i id he
      rw[hblk id (by simp only[qke,q1,he];simp)]
     ·rfl
    unfold qb8 at g1 ⊢
    rw[this];exact g1
   simp only[qjP] at h ⊢
   simp only[h1]
   split at h
   ·exact⟨_,[],h.2,.inl rfl,fun q K' hq' hK=>⟨h.1,hK⟩⟩
   ·exact⟨_,[],h.2,.inl rfl,fun q K' hq' hK=>⟨h.1,hK⟩⟩
   ·exact⟨_,[],h.2,.inl rfl,fun q K' hq' hK=>⟨h.1,hK⟩⟩
   ·exact⟨_,[],h.2,.inl rfl,fun q K' hq' hK=>⟨h.1,hK⟩⟩
   ·obtain⟨n,e,g1,g2⟩:=h
    exact⟨_,[],g2,.inl rfl,fun q K' hq' hK=>⟨n,e,g1,hK⟩⟩
   ·cases h
  ·rename_i x y q1
   have h1:=e2 x (by rw[q1];simp)
   have h2:=e2 y (by rw[q1];simp)
   simp only[qjx] at h ⊢
   simp only[h1,h2]
   split at h
   ·exact⟨_,[],h,.inl rfl,fun q K' hq' hK=>hK⟩
   ·cases h
  ·rename_i x y q1
   have h1:=e2 x (by rw[q1];simp)
   have h2:=e2 y (by rw[q1];simp)
   simp only[qjE] at h ⊢
   simp only[h1,h2]
   split at h
   ·exact⟨_,[],h,.inl rfl,fun q K' hq' hK=>hK⟩
   ·cases h
  ·cases hop
  ·cases hop
  ·cases hop
  ·cases h
 | makeMap ty r=>
  simp only[ox] at h ⊢
  obtain⟨x,s',g1,g2⟩:=h
  cases r with
  | none=>
   injection g1 with g1
   injection g1 with g3 g4
   subst g3 g4
   exact⟨_,_,g2,.inr ⟨rfl,_,rfl⟩,fun q K' hq' hK=>by obtain rfl:=hq'.resolve_left (by simp);exact⟨_,_,rfl,hK⟩⟩
  | some y=>
   have h1:=e1 y (by simp[Op.operands])
   simp only[q4X] at g1
   split at g1
   ·rename_i q1 q2
    injection g1 with g1
    injection g1 with g3 g4
    subst g3 g4
    exact⟨_,_,g2,.inr ⟨rfl,_,rfl⟩,fun q K' hq' hK=>by obtain rfl:=hq'.resolve_left (by simp);exact⟨_,_,by simp only[q4X,q1,h1,q2],hK⟩⟩
   ·cases g1
 | lookup ty x y ok=>
  have h1:=e1 x (by simp[Op.operands]);have h2:=e1 y (by simp[Op.operands])
  simp only[ox] at h ⊢
  obtain⟨r,g1,g2⟩:=h
  refine⟨_,[],g2,.inl rfl,fun q K' hq' hK=>⟨r,?_,hK⟩⟩
  have:q8G t x=q8G s x:=by
   unfold q8G
   rw[h1]
   split
   ·rfl
   ·rename_i id he
    rw[hblk id (by simp only[qke,he];simp)]
   ·rfl
  unfold q5P at g1 ⊢
  rw[this,h2];exact g1
 | range ty x=>
  have h1:=e1 x (by simp[Op.operands])
  simp only[ox] at h ⊢
  obtain⟨r,s',g1,g2⟩:=h
  unfold q7a at g1
  split at g1
  ·rename_i q1 q2
   injection g1 with g1
   injection g1 with g3 g4
   subst g3 g4
   exact⟨_,_,g2,.inr ⟨rfl,_,rfl⟩,fun q K' hq' hK=>by obtain rfl:=hq'.resolve_left (by simp);exact⟨_,_,by simp only[q7a,q1,h1,q2],hK⟩⟩
  ·rename_i q1 q2
   injection g1 with g1
   injection g1 with g3 g4
   subst g3 g4
   exact⟨_,_,g2,.inr ⟨rfl,_,rfl⟩,fun q K' hq' hK=>by obtain rfl:=hq'.resolve_left (by simp);exact⟨_,_,by simp only[q7a,q1,h1,q2],hK⟩⟩
  ·rename_i id q1 q2
   split at g1
   ·rename_i es ck q3
    injection g1 with g1
    injection g1 with g3 g4
    subst g3 g4
    have q4:=hblk id (by simp only[qke,q2];simp)
    exact⟨_,_,g2,.inr ⟨rfl,_,rfl⟩,fun q K' hq' hK=>by obtain rfl:=hq'.resolve_left (by simp);exact⟨_,_,by simp only[q7a,q1,h1,q2,q4,q3],hK⟩⟩
   ·cases g1
  ·cases g1
 | _=>cases hop
end
structure Fp where
 rb:List Nat
 wb:List Nat
 X:List Nat
 ks:List Nat
 nw:List Nat
def C.lt0 (n:Nat):C→Bool
 | .ptr i _=>decide (i<n)
 | .hd _ i=>decide (i<n)
 | .own i _ _ _=>decide (i<n)
 | _=>true
def C.ltn (n:Nat):C→Bool
 | .fn _ fs caps=>fs.all (C.lt0 n)&&caps.all (C.lt0 n)
 | c=>c.lt0 n
def R.lt0 (n:Nat):R→Bool
 | .c x=>x.ltn n
 | .agg xs=>xs.all (C.ltn n)
 | _=>true
def R.ltn (n:Nat):R→Bool
 | .tup rs=>rs.all (R.lt0 n)
 | r=>r.lt0 n
def B.ltn (n:Nat):B→Bool
 | .blk _ cs=>cs.all (C.ltn n)
 | .row _ _ cs=>cs.all (C.ltn n)
 | .ob o=>o.Rs.all (R.lt0 n)
 | .dead=>true
def C.farF (X:List Nat):C→Bool
 | .fn _ fs caps=>(fs++caps).all (C.farL X)
 | x=>x.farL X
def R.farL (X:List Nat):R→Bool
 | .c x=>x.farF X
 | .agg xs=>xs.all (C.farF X)
 | .tup rs=>rs.isEmpty
 | .any=>true
def B.farL (X:List Nat):B→Bool
 | .blk _ cs=>cs.all (C.farF X)
 | .row _ _ cs=>cs.all (C.farF X)
 | .ob o=>o.Rs.all (R.farL X)
 | .dead=>true
def q9Y (s:S) (X:List Nat):List Nat:=match X with | []=>[]|X=>((s.tm.map (·.1)).eraseDups).filter fun d => !(s.get d).farL X
def qqm (s:S) (id:Nat):List Nat:=((s.hp.map (·.1)).eraseDups).filter fun i => !(i==id) && !(s.blk i).farL [id]
def R.isA:R→Bool
 | .any=>true
 | _=>false
def qGX (s:S):List Nat:=((s.tm.map (·.1)).eraseDups).filter fun d=>(s.get d).isA
def fpA (s:S) (id:Nat) (y:Operand):Fp:=⟨(s.ev y).rows,id::qqm s id,[id],q9Y s [id]++qGX s,[]⟩
def qjd (s:S):List Operand→Option Fp
 | [x,y]=>match s.ev x with
  | .c (.own id _ _ _)=>some (fpA s id y)
  | .c .nils=>some (fpA s s.nx y)
  | _=>none
 | _=>none
def S.kill (s:S) (ks:List Nat):S:={ s with tm:=ks.map (fun d=>(d,R.any))++s.tm }
mutual
def D.beq:D→D→Bool
 | .int k a,.int k' b=>decide (k=k')&&decide (a=b)
 | .bool a,.bool b=>a==b
 | .str a,.str b=>decide (a.data=b.data)
 | .sl z n cs,.sl z' n' cs'=>decide (z=z')&&decide (n=n')&&D.beqL cs cs'
 | _,_=>false
def D.beqL:List D→List D→Bool
 | [],[]=>true
 | x::l,y::r=>D.beq x y&&D.beqL l r
 | _,_=>false
end
mutual
theorem D.beq_eq:∀{a b:D},D.beq a b=true→a=b
 | .int k a,.int k' b,h=>by simp only[D.beq,qLJ,qMd] at h;rw[h.1,h.2]
 | .bool a,.bool b,h=>by simp only[D.beq,beq_iff_eq] at h;rw[h]
 | .str ⟨a⟩,.str ⟨b⟩,h=>by simp only[D.beq,qMd] at h;rw[h]
 | .sl z n cs,.sl z' n' cs',h=>by simp only[D.beq,qLJ,qMd] at h;rw[h.1.1,h.1.2,D.beqL_eq h.2]
 | .int _ _,.bool _,h | .int _ _,.str _,h | .int _ _,.sl _ _ _,h | .bool _,.int _ _,h | .bool _,.str _,h | .bool _,.sl _ _ _,h | .str _,.int _ _,h | .str _,.bool _,h | .str _,.sl _ _ _,h | .sl _ _ _,.int _ _,h | .sl _ _ _,.bool _,h | .sl _ _ _,.str _,h=>by simp[D.beq] at h
theorem D.beqL_eq:∀{a b:List D},D.beqL a b=true→a=b
 | [],[],_=>rfl
 | x::l,y::r,h=>by simp only[D.beqL,qLJ] at h;rw[D.beq_eq h.1,D.beqL_eq h.2]
 | [],_::_,h|_::_,[],h=>by simp[D.beqL] at h
end
mutual
theorem D.beq_self:∀(a:D),D.beq a a=true
 | .int _ _=>by simp[D.beq]
 | .bool _=>by simp[D.beq]
 | .str _=>by simp[D.beq]
 | .sl _ _ cs=>by simp[D.beq,D.beqL_self cs]
theorem D.beqL_self:∀(a:List D),D.beqL a a=true
 | []=>rfl
 | x::l=>by simp[D.beqL,D.beq_self x,D.beqL_self l]
end
def C.beq0:C→C→Bool
 | .d x,.d y=>D.beq x y
 | .ptr i o,.ptr i' o'=>decide (i=i')&&decide (o=o')
 | .hd k i,.hd k' i'=>decide (k=k')&&decide (i=i')
 | .own i sz o n,.own i' sz' o' n'=>decide (i=i')&&decide (sz=sz')&&decide (o=o')&&decide (n=n')
 | .nilp,.nilp | .nilf,.nilf | .nilm,.nilm | .nils,.nils | .any,.any=>true
 | _,_=>false
def C.beqL:List C→List C→Bool
 | [],[]=>true
 | x::l,y::r=>C.beq0 x y&&C.beqL l r
 | _,_=>false
theorem C.beq0_eq {a b:C} (h:C.beq0 a b=true):a=b:=by
 unfold C.beq0 at h
 split at h
 ·rw[D.beq_eq h]
 ·simp only[qLJ,qMd] at h;rw[h.1,h.2]
 ·simp only[qLJ,qMd] at h;rw[h.1,h.2]
 ·simp only[qLJ,qMd] at h;rw[h.1.1.1,h.1.1.2,h.1.2,h.2]
 ·rfl
 ·rfl
 ·rfl
 ·rfl
 ·rfl
 ·cases h
theorem C.beqL_eq:∀{a b:List C},C.beqL a b=true→a=b
 | [],[],_=>rfl
 | x::l,y::r,h=>by simp only[C.beqL,qLJ] at h;rw[C.beq0_eq h.1,C.beqL_eq h.2]
 | [],_::_,h|_::_,[],h=>by simp[C.beqL] at h
def B.beq:B→B→Bool
 | .blk t cs,.blk t' cs'=>decide (t=t')&&C.beqL cs cs'
 | .row e sz cs,.row e' sz' cs'=>decide (e=e')&&decide (sz=sz')&&C.beqL cs cs'
 | .dead,.dead=>true
 | _,_=>false
theorem B.beq_eq {a b:B} (h:B.beq a b=true):a=b:=by
 unfold B.beq at h
 split at h
 ·simp only[qLJ,qMd] at h;rw[h.1,C.beqL_eq h.2]
 ·simp only[qLJ,qMd] at h;rw[h.1.1,h.1.2,C.beqL_eq h.2]
 ·rfl
 ·cases h
def wbC (s s1:S) (bl rw:List Nat):List Nat:=match rw with | []=>bl.filter fun i => !B.beq (s1.blk i) (s.blk i)|rw=>bl++rw
def q9p (n m:Nat):List Nat:=(List.range (m-n)).map (n+·)
def qBS (s s1:S) (r:R) (bl rw ln:List Nat):Option Fp:=
 if s1.nx=s.nx∧(bl++rw).all (fun i=>(s1.blk i).ltn s.nx)=true∧r.ltn s.nx=true then some ⟨bl++rw++ln,wbC s s1 bl rw,rw,q9Y s rw,[]⟩ else some ⟨bl++rw++ln,wbC s s1 bl rw++q9p s.nx s1.nx,rw,q9Y s rw,[s.nx]⟩
def qwV (s s1:S) (r:R) (rs:List R) (l:List Nat):Option Fp:=qBS s s1 r (qhm s l) (q6s s l) (((rs.flatMap R.rows).eraseDups).filter fun i => !l.contains i)
def qBd (s s1:S) (r:R) (ow:List Nat) (rs:List R):Option Fp:=qwV s s1 r rs (q4Z s 60 (rs.flatMap R.ptrs++qCK ow rs) [])
def fpC (po:Pol) (s s1:S) (r:R) (f:Operand) (args:List Operand):Option Fp:=
 match s.ev f with
 | .c (.fn g fs caps)=>qBd s s1 r (po.ow g) (fs.map R.c++args.map s.ev++caps.map R.c)
 | _=>none
def qnG (po:Pol) (s s1:S) (r:R) (op:Op):Option Fp:=
 if q46 op=true then some ⟨qke s op,if qbc op=true then[s.nx] else[],[],[],[]⟩ else
 match op with
 | .store _ x _=>match s.ev x with | .c (.ptr id _)=>some ⟨[],[id],[],[],[]⟩|_=>none
 | .makeSlice _ _ _=>some ⟨[],[s.nx],[],[],[]⟩
 | .call { callee := .builtin .append,args,.. }=>qjd s args.toList
 | .call { callee := .value f,args,.. }=>fpC po s s1 r f args.toList
 | _=>none
abbrev Tx:=(R×List (Nat×B))×Fp
def alC (po:Pol) (s:S):Op→Option (FuncId×List R)
 | .call { callee := .value f,args,.. }=>match s.ev f with
  | .c (.fn g [] [])=>if po.ro g=true∧(args.toList.map s.ev).all R.dat=true then some (g,args.toList.map s.ev) else none
  | _=>none
 | _=>none
def qwI (q:R×List (Nat×B)):Option (Nat×Nat×Nat×List C):=match q with
 | (.c (.own 0 z 0 n),[(0,.row e z' cs)])=>if z'=z∧cs.all C.dat=true then some (z,n,e,cs) else none
 | _=>none
def qBE (s:S) (o:Oper) (q:Option (Nat×Nat×Nat×List C)):Option (S×Tx):=
 q.bind fun q=>if qcS s o.dst=true then some ((s.up [(s.nx,.row q.2.2.1 q.1 q.2.2.2)]).put o.dst (.c (.own s.nx q.1 0 q.2.1)),(.c (.own s.nx q.1 0 q.2.1),[(s.nx,.row q.2.2.1 q.1 q.2.2.2)]),⟨[],[s.nx],[],[],[]⟩) else none
def qGk (E:Orc) (s:S) (o:Oper) (g:FuncId) (args:List R):Option (S×Tx):=qBE s o ((E (.fn g) 0 args []).bind qwI)
def alX (E:Orc) (s:S) (o:Oper) (x:Option (FuncId×List R)) (y:Option (S×Tx)):Option (S×Tx):=match x with
 | some q=>qGk E s o q.1 q.2
 | none=>y
def xsF (P:Program) (T:Ty) (po:Pol) (E:Orc) (o:Oper) (act:Bool) (s:S):Option (S×Tx):=
 if act=true then alX E s o (alC po s o.op) <| (xo P T po E s o.op).bind fun q=>if qcS q.2 o.dst=true then(qnG po s q.2 q.1 o.op).bind fun fp=>some ((q.2.kill fp.ks).put o.dst q.1,(q.1,fp.wb.map fun x=>(x,q.2.blk x)),fp) else none
 else if qcS s o.dst=true then some (s.put o.dst (.tup []),(.tup [],[]),⟨[],[],[],[],[]⟩) else none
def xgF (P:Program) (T:Ty) (po:Pol) (E:Orc) (ops:List Oper) (o:Oper) (s:S):Option (S×Tx):=
 match o.guard with
 | none=>xsF P T po E o true s
 | some (j,want)=>match (ops[j]?).bind (·.dst) with
  | some d=>match s.get d with
   | .c (.d (.bool b))=>if b=true then xsF P T po E o want (s.put (some d) tt) else xsF P T po E o (!want) (s.put (some d) ff)
   | .tup []=>xsF P T po E o false s
   | _=>none
  | none=>none
def q63 (a b:Fp):Bool:=a.wb.any (fun x=>b.rb.contains x||b.wb.contains x)||a.rb.any (fun x=>b.wb.contains x)
def Fp.none? (a:Fp):Bool:=a.rb.isEmpty&&a.wb.isEmpty
def okP (A:List (List Nat)):Nat→List (Nat×Fp)→List Tx→Bool
 | _,_,[]=>true
 | j,prev,x::l=>prev.all (fun q=>if q63 q.2 x.2=true then(A.getD j []).contains q.1 else true)&&okP A (j+1) (if x.2.none?=true then prev else(j,x.2)::prev) l
def qkH (ops:List Oper) (fp:Fp) (i:Nat) (x:Tx):Bool:=(x.1.1.farL fp.X||(match q8p ops i with|some d=>fp.ks.contains d|none=>true))&&x.1.2.all fun u=>fp.wb.contains u.1||u.2.farL fp.X
def qxC (fp:Fp) (s:S):Bool:=s.tm.all (fun x=>fp.ks.contains x.1||x.2.farL fp.X)&&s.hp.all fun u=>fp.wb.contains u.1||u.2.farL fp.X
def qv8 (ops:List Oper) (A:List (List Nat)) (fp:Fp) (j:Nat):Nat→List Tx→Bool
 | _,[]=>true
 | i,x::l=>(i==j||(A.getD i []).contains j||qkH ops fp i x)&&qv8 ops A fp j (i+1) l
def okX (ops:List Oper) (A:List (List Nat)) (s0:S) (l:List Tx):Nat→List Tx→Bool
 | _,[]=>true
 | j,x::r=>(if x.2.X.isEmpty=true then true else qxC x.2 s0&&qv8 ops A x.2 j 0 l)&&okX ops A s0 l (j+1) r
def qmc (ops:List Oper) (i:Nat):List Nat:=match ops[i]? with|some o=>q5l ops o++o.dst.toList|none=>[]
def q8h (ops:List Oper) (i j:Nat) (x y:Tx):Bool:=x.2.ks.any (fun d=>(qmc ops j).contains d||y.2.ks.contains d)||y.2.ks.any fun d=>(qmc ops i).contains d
def qsS (ops:List Oper) (A:List (List Nat)) (j:Nat) (y:Tx):Nat→List Tx→Bool
 | _,[]=>true
 | i,x::l=>(!decide (i<j) || !q8h ops i j x y||(A.getD j []).contains i)&&qsS ops A j y (i+1) l
def qw5 (ops:List Oper) (A:List (List Nat)) (l:List Tx):Nat→List Tx→Bool
 | _,[]=>true
 | j,y::r=>qsS ops A j y 0 l&&qw5 ops A l (j+1) r
def okK (ops:List Oper) (A:List (List Nat)) (l:List Tx):Bool:=l.all (fun x=>x.2.ks.isEmpty)||qw5 ops A l 0 l
def qxk (lim i:Nat):Nat→List Tx→Bool
 | _,[]=>true
 | j,x::l=>(i==j||x.1.2.all fun u=>Nat.blt u.1 lim)&&qxk lim i (j+1) l
def okN (l:List Tx):Nat→List Tx→Bool
 | _,[]=>true
 | j,x::r=>(match x.2.nw with | []=>true|n::_=>qxk n j 0 l)&&okN l (j+1) r
def xdp (P:Program) (T:Ty) (po:Pol) (E:Orc) (ops:List Oper) (A:List (List Nat)) (s0:S):Nat→List Oper→S→List Tx→Option S
 | 0,l,s,acc=>if okP A 0 [] acc=true∧okX ops A s0 acc 0 acc=true∧okK ops A acc=true∧okN acc 0 acc=true then xr P T po E ops l s else none
 | m+1,o::l,s,acc=>(xgF P T po E ops o s).bind fun q=>xdp P T po E ops A s0 m l q.1 (acc++[q.2])
 | _+1,[],_,_=>none
def qw8:List (Nat×R)→Bool
 | []=>true
 | x::l=>if x.2.isA=true then qw8 l else false
def q7c:List (Nat×R)→List (Nat×R)
 | []=>[]
 | x::l=>if x.2.isA=true then(if qw8 l=true then[] else x::q7c l) else x::q7c l
def S.strip (s:S):S:=⟨q7c s.tm,s.hp,s.nx,s.n⟩
def D1 (P:Program) (T:Ty) (po:Pol):DRs:=fun E f _ id ops s=>xdp P T po E ops (po.an f id) s.strip (po.dm f id) ops s.strip []
end
noncomputable section
open Go.RowKit
def qo4 (fp:Fp) (t:S):Prop:=fp.X=[]∨((∀d,d ∉ fp.ks→(t.get d).fgL fp.X=t.get d)∧∀x,x ∉ fp.wb→(t.blk x).fgL fp.X=t.blk x)
def Loc (P:Program) (o:Oper) (s:S) (r:R) (us:List (Nat×B)) (fp:Fp):Prop:=
 ∀(cx:Cx) (ρ:Pl) (t:S) (a:Act) (w:World) (next:Act→World→Prop) (Q:Exit→Act→World→Prop),(∀y∈o.op.operands.toList,t.ev y=s.ev y)→(∀x,x∈fp.rb∨x∈fp.wb→t.blk x=s.blk x)→qo4 fp t→(fp.nw≠[]→∀x,t.live x→x<s.nx)→Sim cx ρ t a w→
  (∀ρ' t' v w',(∀d,d ∉ fp.ks→t'.get d=t.get d)→(∀x,t'.blk x=lk us x (t.blk x))→t'.n=t.n→Sim cx ρ' t' a w'→RR w' t'.live ρ' v r→next (a.put o.dst v) w')→o.wpIn (FW cx.ro) 0 P a w next Q
theorem qH7 {X:List Nat} {x:C} (h:x.farF X=true):x.fgL X=x:=by
 cases x with
 | ptr i o=>simp only[C.farF,C.farL,Bool.not_eq_true'] at h;simp only[C.fgL,h];rfl
 | hd k i=>simp only[C.farF,C.farL,Bool.not_eq_true'] at h;simp only[C.fgL,h];rfl
 | own i sz o n=>simp only[C.farF,C.farL,Bool.not_eq_true'] at h;simp only[C.fgL,h];rfl
 | fn f fs caps=>simp only[C.farF] at h;simp only[C.fgL,h,if_true]
 | _=>rfl
theorem qvm {X:List Nat} {xs:List C} (h:xs.all (C.farF X)=true):xs.map (C.fgL X)=xs:=by
 induction xs with
 | nil=>rfl
 | cons x xs ih=>
  simp only[List.all_cons,qLJ] at h
  rw[qLA,qH7 h.1,ih h.2]
theorem qDP {X:List Nat} {r:R} (h:r.farL X=true):r.fgL X=r:=by
 cases r with
 | c x=>simp only[R.farL] at h;simp only[R.fgL];rw[qH7 h]
 | agg xs=>simp only[R.farL] at h;simp only[R.fgL];rw[qvm h]
 | tup rs=>
  simp only[R.farL] at h
  simp only[R.fgL,h,if_true]
  rw[List.isEmpty_iff] at h
  rw[h]
 | any=>rfl
theorem qG0 {X:List Nat} {b:B} (h:b.farL X=true):b.fgL X=b:=by
 cases b with
 | blk t cs=>simp only[B.farL] at h;simp only[B.fgL];rw[qvm h]
 | row e sz cs=>simp only[B.farL] at h;simp only[B.fgL];rw[qvm h]
 | ob o=>
  simp only[B.farL] at h
  simp only[B.fgL]
  rw[AO.mapR_congr (f:=fun x=>x) fun x hx=>qDP (qLu.1 h x hx),AO.mapR_id]
 | dead=>rfl
section
variable {P:Program} {T:Ty} {po:Pol} {E:Orc} {s s1:S} {r:R} {o:Oper}
theorem qrx {α:Type} (i x:Nat) (b z:α):lk [(i,b)] x z=if i=x then b else z:=rfl
theorem qm4 {s:S} {op:Op} (h:q46 op=true):isY s op=false:=by
 unfold isY
 split
 ·cases h
 ·rfl
theorem qvR (hA:Ag P T) (hE:Snd P E) (hop:q46 o.op=true) (h:xo P T po E s o.op=some (r,s1)) (hnx:s.blk s.nx = .dead) {X:List Nat} :
  Loc P o s r ((if qbc o.op=true then[s.nx] else[]).map fun x=>(x,s1.blk x)) ⟨qke s o.op,if qbc o.op=true then[s.nx] else[],X,[],[]⟩:=by
 intro cx ρ t a w next Q hev hblk _ _ hs hn
 have hox:=quE hE (K:=fun r' s''=>r'=r∧s''=s1) (qm4 hop) h ⟨rfl,rfl⟩
 obtain⟨r',us',⟨rfl,h2⟩,h3,h4⟩:=qmI (t:=t) hop hev (fun id hid=>hblk id (.inl hid)) hox
 have fin:∀q,¬ t.live q→(us'=[]∨q=s.nx)→o.wpIn (FW cx.ro) 0 P a w next Q:=by
  intro q hq hq2
  refine qbl hA hq hs (h4 q (fun r'' s''=>r''=r'∧s''=t.up us') hq2 ⟨rfl,rfl⟩) ?_
  rintro r'' s'' ρ' v w' ⟨rfl,rfl⟩ g1 g2
  refine hn ρ' (t.up us') v w' (fun d _=>rfl) (fun x=>?_) rfl g1 g2
  rcases h3 with rfl|⟨ha,b,rfl⟩
  ·have:s1=s:=h2.symm
   subst this
   split
   ·rename_i ha
    show t.blk x=lk [(s1.nx,s1.blk s1.nx)] x (t.blk x)
    rw[qrx]
    split
    ·rename_i hx;subst hx;exact hblk _ (.inr (by rw[if_pos ha];exact qLs))
    ·rfl
   ·rfl
  ·rw[if_pos ha,S.blk_up]
   show _=lk [(s.nx,s1.blk s.nx)] x (t.blk x)
   rw[qrx,←h2,S.blk_up,if_pos rfl]
 by_cases hu:us'=[]
 ·exact fin t.nx (fun h=>by have:=hs.nx _ h;omega) (.inl hu)
 ·obtain⟨ha,-⟩:=h3.resolve_left hu
  refine fin s.nx (fun h=>?_) (.inr rfl)
  unfold S.live at h
  rw[hblk s.nx (.inr (by simp[ha])),hnx] at h
  cases h
theorem qqS (hA:Ag P T) {ty:TypeId} {x y:Operand} {id off:Nat} (ho:o.op = .store ty x y) (hx:s.ev x = .c (.ptr id off)) (h:q75 T s ty x y=some (r,s1)) {X:List Nat}:Loc P o s r ([id].map fun x=>(x,s1.blk x)) ⟨[],[id],X,[],[]⟩:=by
 intro cx ρ t a w next Q hev hblk _ _ hs hn
 have e1:=hev x (by rw[ho];simp[Op.operands])
 have e2:=hev y (by rw[ho];simp[Op.operands])
 have hb:=hblk id (.inr qLs)
 have hl:s.live id:=by
  unfold q75 at h
  rw[hx] at h
  simp only at h
  split at h
  ·rename_i ys hys
   split at h
   ·rename_i hc
    have hq:=hs.ev x
    rw[e1,hx] at hq
    obtain⟨b,cap,q1,-,-⟩:=hq.inv_ptr
    unfold S.live at q1 ⊢
    rw[hb] at q1
    exact q1
   ·cases h
  ·cases h
 have ht:q75 T t ty x y=some (r,t.up [(id,s1.blk id)]):=by
  unfold q75 at h ⊢
  rw[e1,e2,hx] at *
  simp only at h ⊢
  rw[hb]
  split at h
  ·split at h
   ·rename_i hc
    obtain⟨rfl,rfl⟩:=Zz h
    rw[if_pos hc,S.blk_up,if_pos rfl]
   ·cases h
  ·cases h
 have hox:ox P T t t.nx o.op (fun r' s''=>r'=r∧s''=t.up [(id,s1.blk id)]):=by
  rw[ho]
  simp only[ox]
  exact qfn (K:=fun r' s''=>r'=r∧s''=t.up [(id,s1.blk id)]) ht ⟨rfl,rfl⟩
 refine qbl hA (fun h=>by have:=hs.nx _ h;omega) hs hox ?_
 rintro r'' s'' ρ' v w' ⟨rfl,rfl⟩ g1 g2
 exact hn ρ' (t.up [(id,s1.blk id)]) v w' (fun d _=>rfl) (fun x=>S.blk_up t id x _) rfl g1 g2
theorem qvI (hA:Ag P T) {ty:TypeId} {x y:Operand} (ho:o.op = .makeSlice ty x y) (h:qhb T s ty x y=some (r,s1)) (hnx:s.blk s.nx = .dead) {X:List Nat}:Loc P o s r ([s.nx].map fun x=>(x,s1.blk x)) ⟨[],[s.nx],X,[],[]⟩:=by
 intro cx ρ t a w next Q hev hblk _ _ hs hn
 have e1:=hev x (by rw[ho];simp[Op.operands])
 have e2:=hev y (by rw[ho];simp[Op.operands])
 have hb:=hblk s.nx (.inr qLs)
 have hl:¬ t.live s.nx:=fun h=>by unfold S.live at h;rw[hb,hnx] at h;cases h
 have hk:=qiQ (K:=fun r' s''=>r'=r∧s''=s1) h ⟨rfl,rfl⟩
 have hox:ox P T t s.nx o.op (fun r' s''=>r'=r∧s''=t.up [(s.nx,s1.blk s.nx)]):=by
  rw[ho]
  simp only[ox]
  unfold qcK at hk ⊢
  rw[e1,e2]
  split at hk
  ·obtain⟨e,q1,q2,q3,q4,q5,q6,q7,q8,rfl,rfl⟩:=hk
   exact⟨e,q1,q2,q3,q4,q5,q6,q7,q8,rfl,by rw[S.blk_up,if_pos rfl]⟩
  ·cases hk
 refine qbl hA hl hs hox ?_
 rintro r'' s'' ρ' v w' ⟨rfl,rfl⟩ g1 g2
 exact hn ρ' (t.up [(s.nx,s1.blk s.nx)]) v w' (fun d _=>rfl) (fun x=>S.blk_up t s.nx x _) rfl g1 g2
theorem q9m {α:Type} (f:Nat→α):∀(l:List Nat) (x:Nat) (z:α),lk (l.map fun i=>(i,f i)) x z=if x∈l then f x else z
 | [],_,_=>by simp[lk]
 | i::l,x,z=>by
  simp only[qLA,lk,q9m f l x z,qLz]
  by_cases hx:i=x
  ·subst hx;simp
  ·rw[if_neg hx]
   by_cases h2:x∈l
   ·rw[if_pos h2,if_pos (.inr h2)]
   ·rw[if_neg h2,if_neg (by rintro(h|h);exact hx h.symm;exact h2 h)]
theorem qDf {id:Nat} {x:C}:x.fgL [id]=x.fg id:=by
 have e0:∀i:Nat,[id].contains i=decide (i=id):=fun i=>by simp
 have e1:∀x:C,x.farL [id]=x.far id:=fun x=>by
  cases x with
  | ptr i o=>simp only[C.farL,C.far,e0];by_cases h:i=id<;>simp[h]
  | hd k i=>simp only[C.farL,C.far,e0];by_cases h:i=id<;>simp[h]
  | own i sz o n=>simp only[C.farL,C.far,e0];by_cases h:i=id<;>simp[h]
  | _=>rfl
 cases x with
 | ptr i o=>simp only[C.fgL,C.fg,e0,qMd]
 | hd k i=>simp only[C.fgL,C.fg,e0,qMd]
 | own i sz o n=>simp only[C.fgL,C.fg,e0,qMd]
 | fn f fs caps=>simp only[C.fgL,C.fg,funext e1]
 | _=>rfl
theorem qEf {id:Nat} {x:R}:x.fgL [id]=x.fg id:=by
 cases x with
 | c x=>simp only[R.fgL,R.fg,qDf]
 | agg xs=>simp only[R.fgL,R.fg];congr 1;exact List.map_congr_left fun x _=>qDf
 | _=>rfl
theorem qFV {id:Nat} {x:B}:x.fgL [id]=x.fg id:=by
 have e:C.fgL [id]=C.fg id:=funext fun _=>qDf
 have e2:R.fgL [id]=R.fg id:=funext fun _=>qEf
 cases x with
 | blk t cs=>simp only[B.fgL,B.fg,e]
 | row a sz cs=>simp only[B.fgL,B.fg,e]
 | ob o=>simp only[B.fgL,B.fg,e2]
 | dead=>rfl
theorem qnp {t:S} {y:Operand} (h1:t.ev y=s.ev y) (h2:∀i∈(s.ev y).rows,t.blk i=s.blk i):t.seq y=s.seq y:=by
 unfold S.seq
 rw[h1]
 cases he:s.ev y with
 | c x=>
  cases x with
  | own id sz off n=>simp only;rw[h2 id (by rw[he];simp[R.rows,C.rows,C.rows0])]
  | d x=>cases x<;>rfl
  | _=>rfl
 | _=>rfl
theorem qwy (hA:Ag P T) {x y:Operand} {t1 t2:TypeId} {fp:Fp} (ho:o.op = .call { callee := .builtin .append,args:=#[x,y],argTypes:=#[t1,t2] }) (he:t2=t1) (h:q7g T s t1 x y=some (r,s1)) (hf:qjd s [x,y]=some fp) (hnx:s.blk s.nx = .dead) :
  Loc P o s r (fp.wb.map fun x=>(x,s1.blk x)) fp:=by
 intro cx ρ t a w next Q hev hblk hfar hltn hs hn
 have e1:=hev x (by rw[ho];simp[Op.operands,Call.operands])
 have e2:=hev y (by rw[ho];simp[Op.operands,Call.operands])
 have main:∀(id:Nat) (row:B) (p:Nat),fp=fpA s id y→(∀K:KK,K r ((t.fg id).up [(id,row)])→q8d T t p t1 x y K)→¬ t.live p→s1=(s.fg id).up [(id,row)]→o.wpIn (FW cx.ro) 0 P a w next Q:=by
  intro id row p hfp hk hp hs1
  subst hfp
  have hox:ox P T t p o.op (fun r' s''=>r'=r∧s''=(t.fg id).up [(id,row)]):=by
   rw[ho]
   simp only[ox,qkS]
   exact⟨he,hk _ ⟨rfl,rfl⟩⟩
  refine qbl hA hp hs hox ?_
  rintro r'' s'' ρ' v w' ⟨rfl,rfl⟩ g1 g2
  have hX:(fpA s id y).X=[id]:=rfl
  have hfar':=hfar.resolve_left (by rw[hX];simp)
  rw[hX] at hfar'
  refine hn ρ' ((t.fg id).up [(id,row)]) v w' (fun d hd=>?_) (fun i=>?_) rfl g1 g2
  ·show(t.fg id).get d=t.get d
   rw[S.get_fg,←qEf];exact hfar'.1 d hd
  ·show _=lk ((id::qqm s id).map fun x=>(x,s1.blk x)) i (t.blk i)
   have L1:((t.fg id).up [(id,row)]).blk i=if id=i then row else(t.blk i).fg id:=by rw[S.blk_up,S.blk_fg]
   have R1:s1.blk i=if id=i then row else(s.blk i).fg id:=by rw[hs1,S.blk_up,S.blk_fg]
   rw[q9m (fun x=>s1.blk x),L1,R1]
   by_cases hi:i∈id::qqm s id
   ·rw[if_pos hi,hblk i (.inr hi)]
   ·have hii:id≠i:=fun h=>hi (h ▸ qLs)
    rw[if_neg hi,if_neg hii,←qFV]
    exact hfar'.2 i hi
 have hseq:∀id,fp=fpA s id y→t.seq y=s.seq y:=fun id hfp=>qnp e2 fun i hi=>hblk i (.inl (by rw[hfp];exact hi))
 have hk:=q97 (K:=fun r' s''=>r'=r∧s''=s1) h ⟨rfl,rfl⟩
 obtain⟨e,m,ys,q1,q2,q3,q4,q5,q6,q7,q8⟩:=hk
 simp only[qjd] at hf
 split at hf
 ·rename_i id sz off n hx
  injection hf with hf
  rw[hx] at q8
  simp only at q8
  obtain⟨p1,p2,cs,p3,p4,p5,p6,p7,p8,p9,p10⟩:=q8
  refine main id (.row e sz (cs++ys)) t.nx hf.symm (fun K hK=>?_) (fun h=>by have:=hs.nx _ h;omega) p10.symm
  refine⟨e,m,ys,q1,q2,q3,q4,(hseq id hf.symm).trans q5,q6,q7,?_⟩
  rw[e1,hx]
  simp only
  refine⟨p1,p2,cs,(hblk id (.inr (by rw[←hf];exact qLs))).trans p3,p4,p5,p6,p7,p8,?_⟩
  rw[p9];exact hK
 ·rename_i hx
  injection hf with hf
  rw[hx] at q8
  simp only at q8
  obtain⟨p1,p2,p3,p4,p5⟩:=q8
  refine main s.nx (.row e (T.sz e) ys) s.nx hf.symm (fun K hK=>?_) (fun h=>?_) p5.symm
  ·refine⟨e,m,ys,q1,q2,q3,q4,(hseq _ hf.symm).trans q5,q6,q7,?_⟩
   rw[e1,hx]
   simp only
   refine⟨p1,p2,p3,?_⟩
   rw[p4];exact hK
  ·unfold S.live at h
   rw[hblk s.nx (.inr (by rw[←hf];exact qLs)),hnx] at h
   cases h
 ·cases hf
theorem qeP {t:S} {sel ln:List Nat} (h:∀i∈ln,t.blk i=s.blk i) (z:Nat) (x:C):cv0 t sel ln z x=cv0 s sel ln z x:=by
 cases x with
 | own i sz o n=>
  simp only[cv0]
  cases pos i sel with
  | some j=>rfl
  | none=>
   simp only
   split
   ·rename_i hc;rw[h i (by simpa using hc)]
   ·rfl
 | _=>rfl
theorem qd2 {t:S} {sel ln:List Nat} (h:∀i∈ln,t.blk i=s.blk i):∀(xs:List C),qo5 t sel ln xs=qo5 s sel ln xs
 | []=>rfl
 | x::r=>by simp only[qo5,qeP h,qd2 h r]
theorem qeb {t:S} {sel ln:List Nat} (h:∀i∈ln,t.blk i=s.blk i) (z:Nat) (x:C):cv t sel ln z x=cv s sel ln z x:=by
 cases x with
 | fn f fs caps=>simp only[cv,qd2 h]
 | _=>simp only[cv,qeP h]
theorem q89 {t:S} {sel ln:List Nat} (h:∀i∈ln,t.blk i=s.blk i):∀(zs:List Nat) (xs:List C),cvL t sel ln zs xs=cvL s sel ln zs xs
 | zs,[]=>by simp only[cvL]
 | zs,x::r=>by simp only[cvL,qeb h,q89 h _ r]
theorem q9c {t:S} {sel ln:List Nat} (h:∀i∈ln,t.blk i=s.blk i):∀(zs:List (List Nat)) (xs:List R),qk2 t sel ln zs xs=qk2 s sel ln zs xs
 | zs,[]=>by simp only[qk2]
 | zs,x::r=>by
  have:∀z,cvR t sel ln z x=cvR s sel ln z x:=fun z=>by cases x<;>simp only[cvR,qeb h,q89 h]
  simp only[qk2,this,q9c h _ r]
theorem ql1 {t:S} {sel:List Nat} (o:AO):cvA t sel o=cvA s sel o:=by
 have:qqO t sel=qqO s sel:=funext fun r=>by
  have hn:∀i∈([]:List Nat),t.blk i=s.blk i:=fun i hi=>by simp at hi
  unfold qqO
  congr 1
  cases r<;>simp only[cvR,qeb hn,q89 hn]
 cases o<;>simp only[cvA,this]
theorem qbe {t:S} {sel:List Nat}:∀(l:List Nat) (j:Nat),(∀i∈l,t.blk i=s.blk i)→cvG t sel l j=cvG s sel l j
 | [],_,_=>rfl
 | i::l,j,h=>by
  have:∀x,cvB t sel x=cvB s sel x:=fun x=>by
   cases x with
   | blk ty cs=>simp only[cvB];rw[q89 (s:=s) (t:=t) (sel:=sel) (ln:=[]) (fun i hi=>by simp at hi)]
   | ob o=>simp only[cvB];rw[ql1 (s:=s) (t:=t)]
   | _=>rfl
  simp only[cvG,this,h i qLs,qbe l (j+1) (fun i hi=>h i (qLl _ hi))]
section ren
variable {sel:List Nat} {n n':Nat}
theorem qfr {j:Nat} (h:ren sel n j<n):∃i,sel[j]?=some i∧∀m,ren sel m j=i:=by
 unfold ren at h
 cases hs:sel[j]? with
 | none=>rw[hs] at h;simp only at h;omega
 | some i=>exact⟨i,rfl,fun m=>by unfold ren;rw[hs]⟩
theorem qaO {j:Nat} (h:ren sel n j<n):ren sel n' j=ren sel n j:=by
 obtain⟨i,-,h2⟩:=qfr h
 rw[h2 n',h2 n]
theorem q8E {x:C} (h:(x.rn0 (ren sel n)).lt0 n=true):x.rn0 (ren sel n')=x.rn0 (ren sel n):=by
 cases x with
 | ptr i o=>simp only[C.rn0,C.lt0,qMd] at h ⊢;rw[qaO h]
 | hd k i=>simp only[C.rn0,C.lt0,qMd] at h ⊢;rw[qaO h]
 | own i sz o m=>simp only[C.rn0,C.lt0,qMd] at h ⊢;rw[qaO h]
 | _=>rfl
theorem q4z {f g:C→C} {p:C→Bool} (hfg:∀x,p (f x)=true→g x=f x):∀(xs:List C),(xs.map f).all p=true→xs.map g=xs.map f
 | [],_=>rfl
 | x::r,h=>by
  simp only[qLA,List.all_cons,qLJ] at h ⊢
  rw[hfg x h.1,q4z hfg r h.2]
theorem qdK {x:C} (h:(x.rn (ren sel n)).ltn n=true):x.rn (ren sel n')=x.rn (ren sel n):=by
 cases x with
 | fn f fs caps=>
  simp only[C.rn,C.ltn,qLJ] at h ⊢
  rw[q4z (p:=C.lt0 n) (fun _ h=>q8E h) fs h.1,q4z (p:=C.lt0 n) (fun _ h=>q8E h) caps h.2]
 | ptr i o=>exact q8E (x := .ptr i o) h
 | hd k i=>exact q8E (x := .hd k i) h
 | own i sz o m=>exact q8E (x := .own i sz o m) h
 | _=>rfl
theorem q84 {x:R} (h:(x.rn0 (ren sel n)).lt0 n=true):x.rn0 (ren sel n')=x.rn0 (ren sel n):=by
 cases x with
 | c x=>simp only[R.rn0,R.lt0] at h ⊢;rw[qdK h]
 | agg xs=>simp only[R.rn0,R.lt0] at h ⊢;rw[q4z (p:=C.ltn n) (fun _ h=>qdK h) xs h]
 | _=>rfl
theorem qqE {x:B} (h:(x.rn (ren sel n)).ltn n=true):x.rn (ren sel n')=x.rn (ren sel n):=by
 cases x with
 | blk t cs=>simp only[B.rn,B.ltn] at h ⊢;rw[q4z (p:=C.ltn n) (fun _ h=>qdK h) cs h]
 | row e sz cs=>simp only[B.rn,B.ltn] at h ⊢;rw[q4z (p:=C.ltn n) (fun _ h=>qdK h) cs h]
 | ob o=>
  simp only[B.rn,B.ltn,AO.Rs_mapR] at h ⊢
  rw[AO.mapR_congr fun x hx=>q84 (qLu.1 h _ (qLY.2 ⟨x,hx,rfl⟩))]
 | dead=>rfl
theorem qpw {x:R} (h:(x.rn (ren sel n)).ltn n=true):x.rn (ren sel n')=x.rn (ren sel n):=by
 cases x with
 | tup rs=>
  simp only[R.rn,R.ltn] at h ⊢
  congr 1
  induction rs with
  | nil=>rfl
  | cons y l ih=>
   simp only[qLA,List.all_cons,qLJ] at h ⊢
   rw[q84 h.1,ih h.2]
 | c x=>exact q84 (x := .c x) h
 | agg xs=>exact q84 (x := .agg xs) h
 | any=>rfl
end ren
theorem qcD {us:List (Nat×B)} {n:Nat} (h:us.foldl (fun m u=>max m (u.1+1)) n=n):∀u∈us,u.1<n:=fun u hu=>by
 have:=(q7R us n).2 u hu
 omega
theorem qep (s:S) (X:List Nat):(s.fgL X).nx=s.nx:=by cases X<;>rfl
theorem qqK (s:S) (X:List Nat):(s.fgL X).n=s.n:=by cases X<;>rfl
theorem q4J {α:Type}:∀(l l':List (Nat×α)) (x:Nat) (z:α),lk (l++l') x z=lk l x (lk l' x z)
 | [],_,_,_=>rfl
 | (i,b)::l,l',x,z=>by
  simp only[qMk,lk]
  split
  ·rfl
  ·exact q4J l l' x z
theorem qaf (s:S) (us:List (Nat×B)) (x:Nat):(s.up us).blk x=lk us x (s.blk x):=q4J us s.hp x .dead
theorem qfc {α:Type}:∀(l:List (Nat×α)) (x:Nat) (z z':α),(∃b,(x,b)∈l)→lk l x z=lk l x z'
 | [],x,_,_,h=>by obtain⟨b,hb⟩:=h;simp at hb
 | (i,c)::l,x,z,z',h=>by
  simp only[lk]
  split
  ·rfl
  ·rename_i hn
   refine qfc l x z z' ?_
   obtain⟨b,hb⟩:=h
   rcases qLz.1 hb with hb|hb
   ·injection hb with h1 h2;exact absurd h1.symm hn
   ·exact⟨b,hb⟩
theorem q3P {α:Type}:∀(l:List (Nat×α)) (x:Nat) (z:α),(∀b,(x,b) ∉ l)→lk l x z=z
 | [],_,_,_=>rfl
 | (i,c)::l,x,z,h=>by
  simp only[lk]
  split
  ·rename_i hx;subst hx;exact absurd qLs (h c)
  ·exact q3P l x z (fun b hb=>h b (qLl _ hb))
theorem qef {bl rw:List Nat} {i:Nat} (h:i∈wbC s s1 bl rw):i∈bl++rw:=by
 cases rw with
 | nil=>exact qLp _ (qM9.1 h).1
 | cons x l=>exact h
theorem qdB {bl rw:List Nat} {i:Nat} (h:i ∉ wbC s s1 bl rw) (hi:i∈bl++rw):rw=[]∧s1.blk i=s.blk i:=by
 cases rw with
 | nil=>
  rw[qLy] at hi
  refine⟨rfl,B.beq_eq ?_⟩
  cases hb:B.beq (s1.blk i) (s.blk i) with
  | true=>rfl
  | false=>exact absurd (qM9.2 ⟨hi,by rw[hb];rfl⟩) h
 | cons x l=>exact absurd hi h
theorem qbF {bl rw ln:List Nat} {fp:Fp} (h:qBS s s1 r bl rw ln=some fp):((s1.nx=s.nx∧(bl++rw).all (fun i=>(s1.blk i).ltn s.nx)=true∧r.ltn s.nx=true)∧fp=⟨bl++rw++ln,wbC s s1 bl rw,rw,q9Y s rw,[]⟩)∨fp=⟨bl++rw++ln,wbC s s1 bl rw++q9p s.nx s1.nx,rw,q9Y s rw,[s.nx]⟩:=by
 unfold qBS at h
 split at h
 ·rename_i hc;injection h with h;exact .inl ⟨hc,h.symm⟩
 ·injection h with h;exact .inr h.symm
theorem qi4 (s:S) (sel:List Nat) (k:Nat) (hp:List (Nat×B)):s.nx≤(s.aft sel k hp).nx∧∀u∈hp.map (fun x=>(ren sel s.nx x.1,x.2.rn (ren sel s.nx)))++sel.map (fun i=>(i,B.dead)),u.1<(s.aft sel k hp).nx:=by
 have h:=q7R (hp.map (fun x=>(ren sel s.nx x.1,x.2.rn (ren sel s.nx)))++sel.map fun i=>(i,B.dead)) (s.fgL (sel.drop k)).nx
 rw[qep] at h
 have e:(s.aft sel k hp).nx=(hp.map (fun x=>(ren sel s.nx x.1,x.2.rn (ren sel s.nx)))++sel.map fun i=>(i,B.dead)).foldl (fun m u=>max m (u.1+1)) s.nx:=by
  show List.foldl _ (s.fgL (sel.drop k)).nx _=_
  rw[qep]
 rw[e];exact h
theorem qfi {n m x:Nat} (h1:n≤x) (h2:x<m):x∈q9p n m:=qLY.2 ⟨x-n,qMa.2 (by omega),by omega⟩
theorem qqH {n m x:Nat} (h:x∈q9p n m):n≤x:=by
 obtain⟨y,_,rfl⟩:=qLY.1 h
 omega
theorem qqQ (hA:Ag P T) (hE:Snd P E) {f:Operand} {args:Array Operand} {ts:Array TypeId} (ho:o.op = .call { callee := .value f,args:=args,argTypes:=ts }) {g:FuncId} {fs caps:List C} (hfe:s.ev f = .c (.fn g fs caps))
  {rs:List R} (hrs:fs.map R.c++args.toList.map s.ev++caps.map R.c=rs) {zs:List (List Nat)} {bl rw' ln:List Nat} (h:q2a E s g zs rs bl rw' ln=some (r,s1)) :
  Loc P o s r ((wbC s s1 bl rw'++q9p s.nx s1.nx).map fun x=>(x,s1.blk x)) ⟨bl++rw'++ln,wbC s s1 bl rw'++q9p s.nx s1.nx,rw',q9Y s rw',[s.nx]⟩:=by
 intro cx ρ t a w next Q hev hblk hfar hltn hs hn
 have hlt2:∀x,t.live x→x<s.nx:=hltn (by simp)
 simp only at hblk hfar hn
 obtain⟨sel,hsel⟩:∃sel,sel=bl++rw':=⟨_,rfl⟩
 have hbs:∀i∈sel,t.blk i=s.blk i:=fun i hi=>hblk i (.inl (qLp _ (hsel ▸ hi)))
 have hbl:∀i∈ln,t.blk i=s.blk i:=fun i hi=>hblk i (.inl (qLm _ hi))
 have hwb:∀x,x∈wbC s s1 bl rw'++q9p s.nx s1.nx→t.blk x=s.blk x:=fun x hx=>hblk x (.inr hx)
 unfold q2a at h
 rw[←hsel] at h
 obtain⟨rs',g1,h⟩:=qLi.1 h
 obtain⟨G,g2,h⟩:=qLi.1 h
 split at h
 ·rename_i hc
  obtain⟨q,g3,h⟩:=qLi.1 h
  split at h
  ·rename_i hok
   obtain⟨rfl,rfl⟩:=Zz h
   have hX:sel.drop bl.length=rw':=by rw[hsel,List.drop_left]
   obtain⟨t0,ht0⟩:∃t0:S,t0={ t with nx:=s.nx }:=⟨_,rfl⟩
   have tb:∀i,t0.blk i=t.blk i:=fun i=>by rw[ht0];rfl
   have tg:∀i,t0.get i=t.get i:=fun i=>by rw[ht0];rfl
   have te:∀y,t0.ev y=t.ev y:=fun y=>by rw[ht0];rfl
   have tn:t0.nx=s.nx:=by rw[ht0]
   have hs0:Sim cx ρ t0 a w:=by
    rw[ht0]
    exact⟨hs.hd,hs.size,hs.tm,hs.hp,hs.hp0,hs.out,hs.inj,fun i hi=>hlt2 i hi,hs.kept,hs.oldF,hs.pin,hs.sameF,hs.sep⟩
   have ht:q2a E t0 g zs rs bl rw' ln=some (q.1.rn (ren sel s.nx),t0.aft sel bl.length q.2):=by
    unfold q2a
    rw[←hsel,q9c (fun i hi=>(tb i).trans (hbl i hi)),qbe sel 0 (fun i hi=>(tb i).trans (hbs i hi)),g1,qLd,g2,qLd]
    have hall:∀(p:Nat→B→Bool) (l:List Nat),(∀i∈l,t0.blk i=s.blk i)→l.all (fun i=>p i (t0.blk i))=l.all (fun i=>p i (s.blk i)):=fun p l hl=>by
     induction l with
     | nil=>rfl
     | cons i l ih=>simp only[List.all_cons,hl i qLs,ih (fun i hi=>hl i (qLl _ hi))]
    have e1:=hall (fun _ b=>b.live) sel (fun i hi=>(tb i).trans (hbs i hi))
    have e2:=hall (fun i b=>b.live && !sel.contains i) ln (fun i hi=>(tb i).trans (hbl i hi))
    rw[e1,e2,if_pos hc,g3,qLd,if_pos hok,tn]
   have hoc:q3A P t0 g rs (fun r' s''=>r'=q.1.rn (ren sel s.nx)∧s''=t0.aft sel bl.length q.2):=qbJ hE ht ⟨rfl,rfl⟩
   have hargs:∀y∈args.toList,t0.ev y=s.ev y:=fun y hy=>(te y).trans (hev y (by
    rw[ho]
    simp only[Op.operands,Call.operands,Array.toList_append,qLH]
    exact .inr hy))
   have hft:t0.ev f=s.ev f:=(te f).trans (hev f (by
    rw[ho]
    simp only[Op.operands,Call.operands,Array.toList_append,qLH]
    exact .inl (by simp)))
   have hmap:args.toList.map t0.ev=args.toList.map s.ev:=List.map_congr_left hargs
   have hox:ox P T t0 t0.nx o.op (fun r' s''=>r'=q.1.rn (ren sel s.nx)∧s''=t0.aft sel bl.length q.2):=by
    rw[ho]
    simp only[ox,qkS,qhO]
    exact⟨g,fs,caps,hft.trans hfe,by rw[hmap,hrs];exact hoc⟩
   refine qbl hA (fun h=>by have:=hs0.nx _ h;omega) hs0 hox ?_
   rintro r'' s'' ρ' v w' ⟨rfl,rfl⟩ k1 k2
   have hfg:∀x,x ∉ sel→x ∉ q9p s.nx (s.aft sel bl.length q.2).nx→(t0.fgL rw').blk x=t.blk x:=fun x hx hx2=>by
    rw[S.fgL_blk,tb]
    rcases hfar with h|h
    ·rw[if_pos h]
    ·split
     ·rfl
     ·refine h.2 x (fun h=>?_)
      rcases qLH.1 h with h|h
      ·exact hx (by rw[hsel];exact qef h)
      ·exact hx2 h
   refine hn ρ' (t0.aft sel bl.length q.2) v w' (fun d hd=>?_) (fun x=>?_) ?_ k1 k2
   ·show(t0.fgL (sel.drop bl.length)).get d=t.get d
    rw[hX,S.fgL_get,tg]
    rcases hfar with h|h
    ·rw[if_pos h]
    ·split
     ·rfl
     ·exact h.1 d hd
   ·obtain⟨L,hL⟩:∃L,L=q.2.map (fun x=>(ren sel s.nx x.1,x.2.rn (ren sel s.nx)))++sel.map (fun i=>(i,B.dead)):=⟨_,rfl⟩
    have e1:(t0.aft sel bl.length q.2).blk x=lk L x ((t0.fgL rw').blk x):=by
     have:(t0.aft sel bl.length q.2).blk x=lk (q.2.map (fun x=>(ren sel t0.nx x.1,x.2.rn (ren sel t0.nx)))++sel.map (fun i=>(i,B.dead))) x ((t0.fgL (sel.drop bl.length)).blk x):=qaf _ _ x
     rw[this,tn,hX,hL]
    have e2:(s.aft sel bl.length q.2).blk x=lk L x ((s.fgL rw').blk x):=by
     have:(s.aft sel bl.length q.2).blk x=lk (q.2.map (fun x=>(ren sel s.nx x.1,x.2.rn (ren sel s.nx)))++sel.map (fun i=>(i,B.dead))) x ((s.fgL (sel.drop bl.length)).blk x):=qaf _ _ x
     rw[this,hX,hL]
    obtain⟨_,hkeys⟩:=qi4 s sel bl.length q.2
    rw[←hL] at hkeys
    rw[e1,q9m]
    by_cases hk:∃b,(x,b)∈L
    ·have e3:=qfc L x ((t0.fgL rw').blk x) ((s.fgL rw').blk x) hk
     rw[e3,←e2]
     by_cases hxw:x∈wbC s (s.aft sel bl.length q.2) bl rw'++q9p s.nx (s.aft sel bl.length q.2).nx
     ·rw[if_pos hxw]
     ·rw[if_neg hxw]
      have h1:x ∉ wbC s (s.aft sel bl.length q.2) bl rw':=fun h=>hxw (qLp _ h)
      have h2:x ∉ q9p s.nx (s.aft sel bl.length q.2).nx:=fun h=>hxw (qLm _ h)
      obtain⟨b,hb⟩:=hk
      have hlt:x<s.nx:=by
       rcases Nat.lt_or_ge x s.nx with h|h
       ·exact h
       ·exact absurd (qfi h (hkeys _ hb)) h2
      have hxs:x∈sel:=by
       rw[hL] at hb
       rcases qLH.1 hb with hb|hb
       ·obtain⟨y,_,he⟩:=qLY.1 hb
        injection he with he _
        obtain⟨i,q1,q2⟩:=qfr (by rw[he];exact hlt)
        rw[←he,q2];exact qLe q1
       ·obtain⟨y,hy,he⟩:=qLY.1 hb
        injection he with he _
        exact he ▸ hy
      rw[(qdB h1 (hsel ▸ hxs)).2,hbs x hxs]
    ·have hnk:∀b,(x,b) ∉ L:=fun b hb=>hk ⟨b,hb⟩
     have hxs:x ∉ sel:=fun h=>hnk .dead (by rw[hL];exact qLm _ (qLY.2 ⟨x,h,rfl⟩))
     rw[q3P L x _ hnk]
     by_cases hxn:x∈q9p s.nx (s.aft sel bl.length q.2).nx
     ·rw[if_pos (qLm _ hxn),e2,q3P L x _ hnk,S.fgL_blk,S.fgL_blk,tb]
      have hge:=qqH hxn
      have hd:t.blk x = .dead:=by
       by_cases hl:t.live x
       ·have:=hlt2 x hl;omega
       ·exact B.dead_of hl
      rw[hd,←hwb x (qLm _ hxn),hd]
     ·rw[hfg x hxs hxn,if_neg (fun h=>by
       rcases qLH.1 h with h|h
       ·exact hxs (by rw[hsel];exact qef h)
       ·exact hxn h)]
   ·show(t0.fgL (sel.drop bl.length)).n=t.n
    rw[qqK,ht0]
  ·cases h
 ·cases h
theorem qty (hA:Ag P T) (hE:Snd P E) {f:Operand} {args:Array Operand} {ts:Array TypeId} (ho:o.op = .call { callee := .value f,args:=args,argTypes:=ts }) {fp:Fp} (h:q3V po E s f args.toList ts.toList=some (r,s1)) (hf:fpC po s s1 r f args.toList=some fp)
  : Loc P o s r (fp.wb.map fun x=>(x,s1.blk x)) fp:=by
 intro cx ρ t a w next Q hev hblk hfar hltn hs hn
 unfold q3V at h
 unfold fpC at hf
 split at h
 ·rename_i g fs caps hfe
  rw[hfe] at hf
  simp only at hf
  by_cases hno:False
  ·exact hno.elim
  ·generalize hrs:fs.map R.c++args.toList.map s.ev++caps.map R.c=rs at h hf
   generalize zmk (po.ow g) 0 (fs.map (fun _=>[])++ts.toList.map po.q)=zs at h
   unfold qbj qik at h
   unfold qBd qwV at hf
   generalize q4Z s 60 _ _=l at h hf
   generalize List.filter _ _=ln at h hf
   generalize qhm s l=bl at h hf
   generalize q6s s l=rw' at h hf
   rcases qbF hf with ⟨⟨c1,c2,c3⟩,rfl⟩|rfl
   case inr=>exact qqQ hA hE ho hfe hrs h cx ρ t a w next Q hev hblk hfar hltn hs hn
   simp only at hblk hfar hn
   obtain⟨sel,hsel⟩:∃sel,sel=bl++rw':=⟨_,rfl⟩
   have hbs:∀i∈sel,t.blk i=s.blk i:=fun i hi=>hblk i (.inl (qLp _ (hsel ▸ hi)))
   have hbl:∀i∈ln,t.blk i=s.blk i:=fun i hi=>hblk i (.inl (qLm _ hi))
   have h0:=h
   unfold q2a at h
   rw[←hsel] at h c2
   obtain⟨rs',g1,h⟩:=qLi.1 h
   obtain⟨G,g2,h⟩:=qLi.1 h
   split at h
   ·rename_i hc
    obtain⟨q,g3,h⟩:=qLi.1 h
    split at h
    ·rename_i hok
     obtain⟨rfl,rfl⟩:=Zz h
     -- the blocks behind the call, by the text and here
     have hus:∀u∈q.2.map (fun x=>(ren sel s.nx x.1,x.2.rn (ren sel s.nx)))++sel.map (fun i=>(i,B.dead)),u.1<s.nx:=by
      refine qcD ?_
      have:(s.aft sel bl.length q.2).nx=(q.2.map (fun x=>(ren sel s.nx x.1,x.2.rn (ren sel s.nx)))++sel.map (fun i=>(i,B.dead))).foldl (fun m u=>max m (u.1+1)) (s.fgL (sel.drop bl.length)).nx:=rfl
      rw[qep] at this
      rw[←this];exact c1
     have hX:sel.drop bl.length=rw':=by rw[hsel,List.drop_left]
     have hin:∀x∈q.2,ren sel s.nx x.1∈sel:=fun x hx=>by
      obtain⟨i,h1,h2⟩:=qfr (hus _ (qLp _ (qLY.2 ⟨x,hx,rfl⟩)))
      rw[h2];exact qLe h1
     have hlk:∀x z,lk (q.2.map (fun x=>(ren sel t.nx x.1,x.2.rn (ren sel t.nx)))++sel.map (fun i=>(i,B.dead))) x z=lk (q.2.map (fun x=>(ren sel s.nx x.1,x.2.rn (ren sel s.nx)))++sel.map (fun i=>(i,B.dead))) x z:=by
      intro x z
      have hfirst:x∈sel→(lk (q.2.map (fun x=>(ren sel s.nx x.1,x.2.rn (ren sel s.nx)))++sel.map (fun i=>(i,B.dead))) x z).ltn s.nx=true:=fun hx=>by
       have h1:=qLu.1 c2 x hx
       have h2:(s.aft sel bl.length q.2).blk x=lk (q.2.map (fun x=>(ren sel s.nx x.1,x.2.rn (ren sel s.nx)))++sel.map (fun i=>(i,B.dead))) x ((s.fgL (sel.drop bl.length)).blk x):=qaf _ _ x
       rw[h2] at h1
       rw[qfc _ x z _ ⟨.dead,qLm _ (qLY.2 ⟨x,hx,rfl⟩)⟩];exact h1
      rw[q4J,q4J]
      have key:∀(l:List (Nat×B)) (z:B),(∀x∈l,ren sel s.nx x.1<s.nx)→(x∈sel→(lk (l.map (fun x=>(ren sel s.nx x.1,x.2.rn (ren sel s.nx)))) x z).ltn s.nx=true)→(∀y∈l,ren sel s.nx y.1∈sel)→
        lk (l.map (fun x=>(ren sel t.nx x.1,x.2.rn (ren sel t.nx)))) x z=lk (l.map (fun x=>(ren sel s.nx x.1,x.2.rn (ren sel s.nx)))) x z:=by
       intro l
       induction l with
       | nil=>intro z _ _ _;rfl
       | cons y l ih=>
        intro z hl hlt hm
        have h1:=hl y qLs
        simp only[qLA,lk,qaO (n':=t.nx) h1] at hlt ⊢
        split
        ·rename_i hx
         rw[if_pos hx] at hlt
         exact qqE (hlt (hx ▸ hm y qLs))
        ·rename_i hx
         rw[if_neg hx] at hlt
         exact ih z (fun x hx=>hl x (qLl _ hx)) hlt (fun y hy=>hm y (qLl _ hy))
      refine key q.2 _ (fun x hx=>hus _ (qLp _ (qLY.2 ⟨x,hx,rfl⟩))) (fun hx=>?_) hin
      have:=hfirst hx
      rw[q4J] at this
      exact this
     have ht:q2a E t g zs rs bl rw' ln=some (q.1.rn (ren sel s.nx),t.aft sel bl.length q.2):=by
      unfold q2a
      rw[←hsel,q9c hbl,qbe sel 0 hbs,g1,qLd,g2,qLd]
      have hall:∀(p:Nat→B→Bool) (l:List Nat),(∀i∈l,t.blk i=s.blk i)→l.all (fun i=>p i (t.blk i))=l.all (fun i=>p i (s.blk i)):=fun p l hl=>by
       induction l with
       | nil=>rfl
       | cons i l ih=>simp only[List.all_cons,hl i qLs,ih (fun i hi=>hl i (qLl _ hi))]
      have e1:=hall (fun _ b=>b.live) sel hbs
      have e2:=hall (fun i b=>b.live && !sel.contains i) ln hbl
      rw[e1,e2,if_pos hc,g3,qLd,if_pos hok]
      rw[qpw c3]
     have hoc:q3A P t g rs (fun r' s''=>r'=q.1.rn (ren sel s.nx)∧s''=t.aft sel bl.length q.2):=qbJ hE ht ⟨rfl,rfl⟩
     have hargs:∀y∈args.toList,t.ev y=s.ev y:=fun y hy=>hev y (by
      rw[ho]
      simp only[Op.operands,Call.operands,Array.toList_append,qLH]
      exact .inr hy)
     have hft:t.ev f=s.ev f:=hev f (by
      rw[ho]
      simp only[Op.operands,Call.operands,Array.toList_append,qLH]
      exact .inl (by simp))
     have hmap:args.toList.map t.ev=args.toList.map s.ev:=List.map_congr_left hargs
     have hox:ox P T t t.nx o.op (fun r' s''=>r'=q.1.rn (ren sel s.nx)∧s''=t.aft sel bl.length q.2):=by
      rw[ho]
      simp only[ox,qkS,qhO]
      exact⟨g,fs,caps,hft.trans hfe,by rw[hmap,hrs];exact hoc⟩
     refine qbl hA (fun h=>by have:=hs.nx _ h;omega) hs hox ?_
     rintro r'' s'' ρ' v w' ⟨rfl,rfl⟩ k1 k2
     have hfg:∀x,x ∉ sel→(t.fgL rw').blk x=t.blk x:=fun x hx=>by
      rw[S.fgL_blk]
      rcases hfar with h|h
      ·rw[if_pos h]
      ·split
       ·rfl
       ·exact h.2 x (fun h=>hx (by rw[hsel];exact qef h))
     refine hn ρ' (t.aft sel bl.length q.2) v w' (fun d hd=>?_) (fun x=>?_) ?_ k1 k2
     ·show(t.fgL (sel.drop bl.length)).get d=t.get d
      rw[hX,S.fgL_get]
      rcases hfar with h|h
      ·rw[if_pos h]
      ·split
       ·rfl
       ·exact h.1 d hd
     ·have e1:(t.aft sel bl.length q.2).blk x=lk (q.2.map (fun x=>(ren sel t.nx x.1,x.2.rn (ren sel t.nx)))++sel.map (fun i=>(i,B.dead))) x ((t.fgL (sel.drop bl.length)).blk x):=qaf _ _ x
      have e2:(s.aft sel bl.length q.2).blk x=lk (q.2.map (fun x=>(ren sel s.nx x.1,x.2.rn (ren sel s.nx)))++sel.map (fun i=>(i,B.dead))) x ((s.fgL (sel.drop bl.length)).blk x):=qaf _ _ x
      rw[e1,hlk,q9m,hX]
      by_cases hx:x∈sel
      ·have e3:=qfc (q.2.map (fun x=>(ren sel s.nx x.1,x.2.rn (ren sel s.nx)))++sel.map (fun i=>(i,B.dead))) x ((t.fgL rw').blk x) ((s.fgL (sel.drop bl.length)).blk x) ⟨.dead,qLm _ (qLY.2 ⟨x,hx,rfl⟩)⟩
       by_cases hxw:x∈wbC s (s.aft sel bl.length q.2) bl rw'
       ·rw[if_pos hxw,e2];exact e3
       ·rw[if_neg hxw,e3,←e2,(qdB hxw (hsel ▸ hx)).2,hbs x hx]
      ·have hxw:x ∉ wbC s (s.aft sel bl.length q.2) bl rw':=fun h=>hx (by rw[hsel];exact qef h)
       rw[if_neg hxw,hfg x hx]
       refine q3P _ x _ (fun b hb=>?_)
       rcases qLH.1 hb with hb|hb
       ·obtain⟨y,hy,he⟩:=qLY.1 hb
        injection he with he1 he2
        exact hx (he1 ▸ hin y hy)
       ·obtain⟨y,hy,he⟩:=qLY.1 hb
        injection he with he1 he2
        exact hx (he1 ▸ hy)
     ·show(t.fgL (sel.drop bl.length)).n=t.n
      exact qqK _ _
    ·cases h
   ·cases h
 ·rename_i rid hfe
  rw[hfe] at hf
  cases hf
 ·cases h
end
end
noncomputable section
open Go.RowKit
def Nb (s:S):Prop:=∀i,s.live i→i<s.nx
structure Stp (P:Program) (ops:List Oper) (o:Oper) (s s':S) (x:Tx):Prop where
 run:∃b,gd ops s o.guard=some b∧(b=false→x=((.tup [],[]),⟨[],[],[],[],[]⟩))∧(b=true→Nb s→Loc P o s x.1.1 x.1.2 x.2)
 eff:qo4 x.2 s→(∀d,s'.get d=if o.dst=some d then x.1.1 else if d∈x.2.ks then .any else s.get d)∧∀i,s'.blk i=lk x.1.2 i (s.blk i)
 n:s'.n=s.n
 dst:∀d,o.dst=some d→d<s.n
 us:∀u∈x.1.2,u.1∈x.2.wb
 nb:Nb s→Nb s'
 nwp:x.2.nw=[]∨x.2.nw=[s.nx]
section
variable {P:Program} {T:Ty} {po:Pol} {E:Orc} {ops:List Oper} {o:Oper} {s s':S} {x:Tx}
theorem Nb.put (h:Nb s) (d:Option Nat) (r:R):Nb (s.put d r):=fun i hi=>by
 rw[S.put_nx];refine h i ?_;unfold S.live at hi ⊢;rwa [S.put_blk] at hi
theorem qtp {us:List (Nat×B)} {i:Nat} {z:B} (h:(lk us i z).live=true):(∃u∈us,u.1=i)∨z.live=true:=by
 induction us with
 | nil=>exact .inr h
 | cons y us ih=>
  obtain⟨j,b⟩:=y
  simp only[lk] at h
  split at h
  ·rename_i hj;exact .inl ⟨_,qLs,hj⟩
  ·rcases ih h with ⟨u,hu,he⟩|h
   ·exact .inl ⟨u,qLl _ hu,he⟩
   ·exact .inr h
theorem Nb.up (h:Nb s) (us:List (Nat×B)):Nb (s.up us):=fun i hi=>by
 unfold S.live at hi
 rw[qaf] at hi
 have hx:=q7R us s.nx
 rcases qtp hi with ⟨u,hu,rfl⟩|h1
 ·exact hx.2 u hu
 ·exact qLN (h i h1) hx.1
theorem Nb.fgL (h:Nb s) (X:List Nat):Nb (s.fgL X):=fun i hi=>by rw[qep];exact h i ((S.fgL_live s X i).1 hi)
theorem Nb.dead (h:Nb s):s.blk s.nx = .dead:=B.dead_of fun hl=>by have:=h s.nx hl;omega
theorem qp0 {s1:S} (wb:List Nat) (i:Nat) (h:i ∉ wb→s1.blk i=s.blk i):s1.blk i=lk (wb.map fun x=>(x,s1.blk x)) i (s.blk i):=by
 rw[q9m (fun x=>s1.blk x)]
 split
 ·rfl
 ·rename_i hn;exact h hn
theorem qsA {sel:List Nat} {k:Nat} {hp:List (Nat×B)} (hnx:(s.aft sel k hp).nx=s.nx) {i:Nat} (hi:i ∉ sel):(s.aft sel k hp).blk i=(s.fgL (sel.drop k)).blk i:=by
 have hus:∀u∈hp.map (fun x=>(ren sel s.nx x.1,x.2.rn (ren sel s.nx)))++sel.map (fun i=>(i,B.dead)),u.1<s.nx:=by
  refine qcD ?_
  have:(s.aft sel k hp).nx=(hp.map (fun x=>(ren sel s.nx x.1,x.2.rn (ren sel s.nx)))++sel.map (fun i=>(i,B.dead))).foldl (fun m u=>max m (u.1+1)) (s.fgL (sel.drop k)).nx:=rfl
  rw[qep] at this
  rw[←this];exact hnx
 have e1:(s.aft sel k hp).blk i=lk (hp.map (fun x=>(ren sel s.nx x.1,x.2.rn (ren sel s.nx)))++sel.map (fun i=>(i,B.dead))) i ((s.fgL (sel.drop k)).blk i):=qaf _ _ i
 rw[e1]
 refine q3P _ i _ (fun b hb=>?_)
 rcases qLH.1 hb with hb|hb
 ·obtain⟨y,hy,he⟩:=qLY.1 hb
  injection he with he1 he2
  obtain⟨j,h1,h2⟩:=qfr (hus _ (qLp _ (qLY.2 ⟨y,hy,rfl⟩)))
  rw[h2] at he1
  exact hi (he1 ▸ qLe h1)
 ·obtain⟨y,hy,he⟩:=qLY.1 hb
  injection he with he1 he2
  exact hi (he1 ▸ hy)
theorem qqy {sel:List Nat} {k:Nat} {hp:List (Nat×B)} {i:Nat} (hi:i ∉ sel) (hn:i ∉ q9p s.nx (s.aft sel k hp).nx):(s.aft sel k hp).blk i=(s.fgL (sel.drop k)).blk i:=by
 obtain⟨_,hkeys⟩:=qi4 s sel k hp
 have e1:(s.aft sel k hp).blk i=lk (hp.map (fun x=>(ren sel s.nx x.1,x.2.rn (ren sel s.nx)))++sel.map (fun i=>(i,B.dead))) i ((s.fgL (sel.drop k)).blk i):=qaf _ _ i
 rw[e1]
 refine q3P _ i _ (fun b hb=>?_)
 have hlt:i<s.nx:=by
  rcases Nat.lt_or_ge i s.nx with h|h
  ·exact h
  ·exact absurd (qfi h (hkeys _ hb)) hn
 rcases qLH.1 hb with hb|hb
 ·obtain⟨y,hy,he⟩:=qLY.1 hb
  injection he with he1 he2
  obtain⟨j,h1,h2⟩:=qfr (by rw[he1];exact hlt)
  rw[h2] at he1
  exact hi (he1 ▸ qLe h1)
 ·obtain⟨y,hy,he⟩:=qLY.1 hb
  injection he with he1 he2
  exact hi (he1 ▸ hy)
theorem qtR {s s1:S} {r:R} {op:Op} {fp:Fp} (h:qnG po s s1 r op=some fp):fp.nw=[]∨fp.nw=[s.nx]:=by
 unfold qnG at h
 split at h
 ·injection h with h;subst h;exact .inl rfl
 ·split at h
  ·split at h
   ·injection h with h;subst h;exact .inl rfl
   ·cases h
  ·injection h with h;subst h;exact .inl rfl
  ·unfold qjd at h
   split at h
   ·split at h
    ·injection h with h;subst h;exact .inl rfl
    ·injection h with h;subst h;exact .inl rfl
    ·cases h
   ·cases h
  ·unfold fpC at h
   split at h
   ·unfold qBd qwV at h
    rcases qbF h with ⟨_,rfl⟩|rfl
    ·exact .inl rfl
    ·exact .inr rfl
   ·cases h
  ·cases h
theorem S.kill_get (s:S) (ks:List Nat) (d:Nat):(s.kill ks).get d=if d∈ks then .any else s.get d:=by
 show lk (ks.map (fun d=>(d,R.any))++s.tm) d .any=_
 rw[q4J,q9m (fun _=>R.any)]
 rfl
theorem S.kill_blk (s:S) (ks:List Nat) (i:Nat):(s.kill ks).blk i=s.blk i:=rfl
theorem Sim.kill {cx:Cx} {ρ:Pl} {a:Act} {w:World} (h:Sim cx ρ s a w) (ks:List Nat):Sim cx ρ (s.kill ks) a w:=by
 refine⟨h.hd,h.size,fun i=>?_,h.hp,h.hp0,h.out,h.inj,h.nx,h.kept,h.oldF,h.pin,h.sameF,h.sep⟩
 show RR w _ ρ _ ((s.kill ks).get i)
 rw[S.kill_get]
 split
 ·exact .any _
 ·exact h.tm i
theorem qmS {fp:Fp} (h:qo4 fp s) (d:Nat) (hd:d ∉ fp.ks):(s.fgL fp.X).get d=s.get d:=by
 rw[S.fgL_get]
 rcases h with h|h
 ·rw[if_pos h]
 ·split
  ·rfl
  ·exact h.1 d hd
theorem qmz {fp:Fp} (h:qo4 fp s) {i:Nat} (hi:i ∉ fp.wb):(s.fgL fp.X).blk i=s.blk i:=by
 rw[S.fgL_blk]
 rcases h with h|h
 ·rw[if_pos h]
 ·split
  ·rfl
  ·exact h.2 i hi
theorem qwT {op:Op} {g:FuncId} {rs:List R} (h:alC po s op=some (g,rs)):∃f args ts,op = .call { callee := .value f,args:=args,argTypes:=ts }∧s.ev f = .c (.fn g [] [])∧rs=args.toList.map s.ev∧rs.all R.dat=true:=by
 unfold alC at h
 split at h
 ·rename_i f args ts
  split at h
  ·rename_i g' hf
   split at h
   ·rename_i hc
    injection h with h
    injection h with h1 h2
    subst h1 h2
    exact⟨f,args,ts,rfl,hf,rfl,hc.2⟩
   ·cases h
  ·cases h
 ·cases h
theorem qEF (hA:Ag P T) (hE:Snd P E) {g:FuncId} {rs:List R} (hc:alC po s o.op=some (g,rs)) {z n e:Nat} {cs:List C} {q:R×List (Nat×B)} (hq:E (.fn g) 0 rs []=some q) (h2:qwI q=some (z,n,e,cs)) (hnx:s.blk s.nx = .dead) :
  Loc P o s (.c (.own s.nx z 0 n)) [(s.nx,.row e z cs)] ⟨[],[s.nx],[],[],[]⟩:=by
 obtain⟨f,args,ts,ho,hf,hrs,hd⟩:=qwT hc
 intro cx ρ t a w next Q hev hblk _ _ hs hn
 have e1:t.ev f=s.ev f:=hev f (by rw[ho];simp[Op.operands,Call.operands])
 have e2:args.toList.map t.ev=args.toList.map s.ev:=List.map_congr_left fun y hy=>hev y (by rw[ho];simp only[Op.operands,Call.operands,Array.toList_append];exact qLm _ hy)
 have hb:=hblk s.nx (.inr qLs)
 have hl:¬ t.live s.nx:=fun h=>by unfold S.live at h;rw[hb,hnx] at h;cases h
 unfold qwI at h2
 split at h2
 ·rename_i z0 n0 e0 z1 cs0
  split at h2
  ·rename_i hcc
   obtain⟨rfl,hcs⟩:=hcc
   injection h2 with h2
   injection h2 with i1 i2;injection i2 with i2 i3;injection i3 with i3 i4
   subst i1 i2 i3 i4
   have hac:=hE.fn g 0 rs [] _ _ hq
   have hcall:q3A P t g rs (fun r' s''=>r' = .c (.own s.nx z1 0 n0)∧s''=t.up [(s.nx,.row e0 z1 cs0)]):=q3A.fresh hac hd hcs hl ⟨rfl,rfl⟩
   have hox:ox P T t s.nx o.op (fun r' s''=>r' = .c (.own s.nx z1 0 n0)∧s''=t.up [(s.nx,.row e0 z1 cs0)]):=by
    rw[ho]
    unfold ox qkS
    exact⟨g,[],[],e1.trans hf,by rw[List.map_nil,qLx,qLy,e2,←hrs];exact hcall⟩
   refine qbl hA hl hs hox ?_
   rintro r'' s'' ρ' v w' ⟨rfl,rfl⟩ g1 g2
   exact hn ρ' (t.up [(s.nx,.row e0 z1 cs0)]) v w' (fun d _=>rfl) (fun x=>S.blk_up t s.nx x _) rfl g1 g2
  ·cases h2
 ·cases h2
theorem qlU (hA:Ag P T) (hE:Snd P E) {act:Bool} (h:xsF P T po E o act s=some (s',x)) :
  (act=false→x=((.tup [],[]),⟨[],[],[],[],[]⟩))∧(act=true→Nb s→Loc P o s x.1.1 x.1.2 x.2)∧(Nb s→Nb s')∧(qo4 x.2 s→(∀d,s'.get d=if o.dst=some d then x.1.1 else if d∈x.2.ks then .any else s.get d)∧∀i,s'.blk i=lk x.1.2 i (s.blk i))∧s'.n=s.n∧(∀d,o.dst=some d→d<s.n)∧(∀u∈x.1.2,u.1∈x.2.wb)∧(x.2.nw=[]∨x.2.nw=[s.nx]):=by
 unfold xsF at h
 split at h
 ·rename_i ha
  subst ha
  cases hal:alC po s o.op with
  | some gr=>
   obtain⟨g,rs⟩:=gr
   rw[hal] at h
   have h:qBE s o ((E (.fn g) 0 rs []).bind qwI)=some (s',x):=h
   unfold qBE at h
   obtain⟨⟨z,n,e,cs⟩,h1,h2⟩:=qLi.1 h
   obtain⟨q,h3,h4⟩:=qLi.1 h1
   split at h2
   ·rename_i hd
    injection h2 with h2
    injection h2 with h5 h6
    subst h5 h6
    refine⟨(fun h=>by cases h),fun _ hb=>qEF hA hE hal h3 h4 hb.dead,fun hb=>(hb.up _).put _ _,fun hf=>⟨fun d=>?_,fun i=>?_⟩,S.put_n _ _ _,q4R hd,fun u hu=>?_,.inl rfl⟩
    ·rw[S.put_get];simp only[List.not_mem_nil,if_false];rfl
    ·rw[S.put_blk,S.blk_up];rfl
    ·simp only[qM4] at hu;subst hu;exact qLs
   ·cases h2
  | none=>
  rw[hal] at h
  replace h:((xo P T po E s o.op).bind fun q=>if qcS q.2 o.dst=true then(qnG po s q.2 q.1 o.op).bind fun fp=>some ((q.2.kill fp.ks).put o.dst q.1,(q.1,fp.wb.map fun x=>(x,q.2.blk x)),fp) else none)=some (s',x):=h
  obtain⟨⟨r,s1⟩,h1,h2⟩:=qLi.1 h
  simp only at h2
  split at h2
  ·rename_i hd
   obtain⟨fp,h3,h4⟩:=qLi.1 h2
   injection h4 with h4
   injection h4 with h4 h5
   subst h4 h5
   have hcore:(Nb s→Loc P o s r (fp.wb.map fun x=>(x,s1.blk x)) fp)∧(Nb s→Nb s1)∧(qo4 fp s→(∀d,d ∉ fp.ks→s1.get d=s.get d)∧∀i,i ∉ fp.wb→s1.blk i=s.blk i)∧s1.n=s.n:=by
    unfold qnG at h3
    split at h3
    ·rename_i hop
     injection h3 with h3
     subst h3
     have hox:=quE hE (K:=fun r' s''=>r'=r∧s''=s1) (qm4 hop) h1 ⟨rfl,rfl⟩
     obtain⟨r',us',⟨rfl,h6⟩,h7,-⟩:=qmI (t:=s) hop (fun _ _=>rfl) (fun _ _=>rfl) hox
     refine⟨fun hb=>qvR hA hE hop h1 hb.dead,fun hb=>h6 ▸ hb.up us',fun _=>⟨fun d _=>by rw[←h6];rfl,fun i hi=>?_⟩,by rw[←h6];rfl⟩
     rcases h7 with rfl|⟨hal,b,rfl⟩
     ·rw[←h6];rfl
     ·rw[←h6,S.blk_up,if_neg]
      rintro rfl
      exact hi (by simp[hal])
    ·split at h3
     ·rename_i ty y z ho
      split at h3
      ·rename_i id off hx
       injection h3 with h3
       subst h3
       rw[ho] at h1
       have h1:q75 T s ty y z=some (r,s1):=h1
       have hloc:=qqS (P:=P) hA ho hx h1 (X:=[])
       unfold q75 at h1
       rw[hx] at h1
       simp only at h1
       split at h1
       ·split at h1
        ·obtain⟨rfl,rfl⟩:=Zz h1
         refine⟨fun _=>hloc,fun hb=>hb.up _,fun _=>⟨fun d _=>rfl,fun i hi=>?_⟩,rfl⟩
         rw[S.blk_up,if_neg]
         rintro rfl
         exact hi qLs
        ·cases h1
       ·cases h1
      ·cases h3
     ·rename_i ty y z ho
      injection h3 with h3
      subst h3
      rw[ho] at h1
      have h1:qhb T s ty y z=some (r,s1):=h1
      have hloc:=fun hb:Nb s=>qvI (P:=P) hA ho h1 hb.dead (X:=[])
      unfold qhb at h1
      split at h1
      ·split at h1
       ·split at h1
        ·obtain⟨rfl,rfl⟩:=Zz h1
         refine⟨hloc,fun hb=>hb.up _,fun _=>⟨fun d _=>rfl,fun i hi=>?_⟩,rfl⟩
         rw[S.blk_up,if_neg]
         rintro rfl
         exact hi qLs
        ·cases h1
       ·cases h1
      ·cases h1
     ·rename_i args ts ho
      obtain⟨args⟩:=args
      obtain⟨ts⟩:=ts
      rw[ho] at h1
      have h1:xCl T po E s { callee := .builtin .append,args:=⟨args⟩,argTypes:=⟨ts⟩ }=some (r,s1):=h1
      match args,ts,h1,h3,ho with
      | [y,z],[t1,t2],h1,h3,ho=>
       simp only[xCl] at h1
       split at h1
       ·rename_i ht
        have hloc:=fun hb:Nb s=>qwy (P:=P) hA ho ht h1 h3 hb.dead
        obtain⟨id,row,hfp,hs1⟩:∃id row,fp=fpA s id z∧s1=(s.fg id).up [(id,row)]:=by
         have hk:=q97 (K:=fun r' s''=>r'=r∧s''=s1) h1 ⟨rfl,rfl⟩
         obtain⟨e,m,ys,q1,q2,q3,q4,q5,q6,q7,q8⟩:=hk
         simp only[qjd] at h3
         split at h3
         ·rename_i id sz off n hx
          injection h3 with h3
          rw[hx] at q8
          simp only at q8
          obtain⟨p1,p2,cs,p3,p4,p5,p6,p7,p8,p9,p10⟩:=q8
          exact⟨_,_,h3.symm,p10.symm⟩
         ·rename_i hx
          injection h3 with h3
          rw[hx] at q8
          simp only at q8
          obtain⟨p1,p2,p3,p4,p5⟩:=q8
          exact⟨_,_,h3.symm,p5.symm⟩
         ·cases h3
        subst hs1
        have hX:fp.X=[id]:=by rw[hfp];rfl
        refine⟨hloc,fun hb=>Nb.up (s:=s.fg id) (fun i hi=>hb i ((S.live_fg s id i).1 hi)) _,fun hf=>?_,rfl⟩
        have hf':=hf.resolve_left (by rw[hX];simp)
        rw[hX] at hf'
        refine⟨fun d hd=>?_,fun i hi=>?_⟩
        ·show(s.fg id).get d=s.get d
         rw[S.get_fg,←qEf];exact hf'.1 d hd
        ·rw[S.blk_up,if_neg (fun h=>hi (by rw[hfp,←h];exact qLs)),S.blk_fg,←qFV]
         exact hf'.2 i hi
       ·cases h1
     ·rename_i f args ts ho
      rw[ho] at h1
      have h1:q3V po E s f args.toList ts.toList=some (r,s1):=h1
      have hloc:=qty (P:=P) hA hE ho h1 h3
      unfold q3V at h1
      unfold fpC at h3
      split at h1
      ·rename_i g fs caps hfe
       rw[hfe] at h3
       simp only at h3
       by_cases hno:False
       ·exact hno.elim
       ·unfold qbj qik q2a at h1
        unfold qBd qwV at h3
        generalize q4Z s 60 _ _=l at h1 h3
        generalize List.filter _ _=ln at h1 h3
        generalize qhm s l=bl at h1 h3
        generalize q6s s l=rw' at h1 h3
        have hfc:=qbF h3
        obtain⟨rs',g1,h1⟩:=qLi.1 h1
        obtain⟨G,g2,h1⟩:=qLi.1 h1
        split at h1
        ·obtain⟨q,g3,h1⟩:=qLi.1 h1
         split at h1
         ·obtain⟨rfl,rfl⟩:=Zz h1
          have hX:(bl++rw').drop bl.length=rw':=List.drop_left
          rcases hfc with ⟨⟨c1,c2,c3⟩,rfl⟩|rfl
          ·refine⟨fun _=>hloc,fun hb=>(hb.fgL _).up _,fun hf=>⟨fun d hd=>?_,fun i hi=>?_⟩,qqK _ _⟩
           ·show(s.fgL ((bl++rw').drop bl.length)).get d=s.get d
            rw[hX];exact qmS hf d hd
           ·by_cases his:i∈bl++rw'
            ·exact(qdB hi his).2
            ·rw[qsA c1 his,hX];exact qmz hf hi
          ·refine⟨fun _=>hloc,fun hb=>(hb.fgL _).up _,fun hf=>⟨fun d hd=>?_,fun i hi=>?_⟩,qqK _ _⟩
           ·show(s.fgL ((bl++rw').drop bl.length)).get d=s.get d
            rw[hX];exact qmS hf d hd
           ·have hi1:i ∉ wbC s (s.aft (bl++rw') bl.length q.2) bl rw':=fun h=>hi (qLp _ h)
            by_cases his:i∈bl++rw'
            ·exact(qdB hi1 his).2
            ·rw[qqy his (fun h=>hi (qLm _ h)),hX];exact qmz hf hi
         ·cases h1
        ·cases h1
      ·rename_i rid hfe
       rw[hfe] at h3
       cases h3
      ·cases h1
     ·cases h3
   obtain⟨k1,k2,k3,k4⟩:=hcore
   have k5:=qtR h3
   refine⟨(fun h=>by cases h),fun _=>k1,fun hb=>Nb.put (s:=s1.kill fp.ks) (fun i hi=>k2 hb i hi) _ _,fun hf=>⟨fun d=>?_,fun i=>?_⟩,by rw[S.put_n];exact k4,fun d hdd=>?_,fun u hu=>?_,k5⟩
   ·rw[S.put_get,S.kill_get]
    by_cases hk:d∈fp.ks
    ·simp only[if_pos hk]
    ·simp only[if_neg hk,(k3 hf).1 d hk]
   ·rw[S.put_blk,S.kill_blk];exact qp0 fp.wb i ((k3 hf).2 i)
   ·have:=q4R hd d hdd;rw[k4] at this;exact this
   ·obtain⟨y,hy,he⟩:=qLY.1 hu;rw[←he];exact hy
  ·cases h2
 ·rename_i ha
  have ha:act=false:=by cases act<;>simp at ha ⊢
  subst ha
  split at h
  ·rename_i hd
   injection h with h
   injection h with h1 h2
   subst h1 h2
   refine⟨fun _=>rfl,(fun h=>by cases h),fun hb=>hb.put _ _,fun _=>⟨fun d=>by rw[S.put_get];simp,fun i=>by rw[S.put_blk];rfl⟩,S.put_n _ _ _,q4R hd,fun u hu=>by simp at hu,.inl rfl⟩
  ·cases h
theorem qzE (hA:Ag P T) (hE:Snd P E) (h:xgF P T po E ops o s=some (s',x)):Stp P ops o s s' x:=by
 unfold xgF at h
 split at h
 ·rename_i hg
  obtain⟨h1,h2,h3,h4,h5,h6,h7,h8⟩:=qlU hA hE h
  exact⟨⟨true,by unfold gd;rw[hg],(fun h=>by cases h),fun _ hb=>h2 rfl hb⟩,h4,h5,h6,h7,h3,h8⟩
 ·rename_i j want hg
  split at h
  ·rename_i d hd
   split at h
   ·rename_i b hb
    -- a slot laid down anew with what it holds
    have key:∀(v:Bool) (act:Bool),s.get d = .c (.d (.bool v))→(v==want)=act→xsF P T po E o act (s.put (some d) (.c (.d (.bool v))))=some (s',x)→Stp P ops o s s' x:=by
     intro v act hv hact hx
     obtain⟨h1,h2,h3,h4,h5,h6,h7,h8⟩:=qlU hA hE hx
     have hget:∀i,(s.put (some d) (.c (.d (.bool v)))).get i=s.get i:=fun i=>by
      rw[S.put_get]
      split
      ·rename_i hi;injection hi with hi;subst hi;exact hv.symm
      ·rfl
     have hev:∀y,(s.put (some d) (.c (.d (.bool v)))).ev y=s.ev y:=fun y=>by
      cases y with
      | tmp i=>exact hget i
      | _=>rfl
     have hnb:Nb s→Nb (s.put (some d) (.c (.d (.bool v)))):=fun hb=>hb.put _ _
     refine⟨⟨act,by unfold gd;rw[hg];simp only[hd,hv,hact],h1,fun ha hb=>?_⟩,fun hf=>?_,h5,h6,h7,fun hb=>h3 (hnb hb),by rw[S.put_nx] at h8;exact h8⟩
     ·have hl:=h2 ha (hnb hb)
      intro cx ρ t a w next Q q1 q2 q3 q6 q4 q5
      exact hl cx ρ t a w next Q (fun y hy=>(q1 y hy).trans (hev y).symm) (fun i hi=>q2 i hi) q3 (fun h x hx=>by rw[S.put_nx];exact q6 h x hx) q4 q5
     ·have hf':qo4 x.2 (s.put (some d) (.c (.d (.bool v)))):=by
       rcases hf with hf|hf
       ·exact .inl hf
       ·exact .inr ⟨fun i hi=>by rw[hget];exact hf.1 i hi,fun i hi=>hf.2 i hi⟩
      obtain⟨e1,e2⟩:=h4 hf'
      exact⟨fun i=>by rw[e1,hget],fun i=>e2 i⟩
    split at h
    ·rename_i hbt
     subst hbt
     exact key true want hb (by cases want<;>rfl) h
    ·rename_i hbt
     have hbf:b=false:=by cases b<;>simp at hbt ⊢
     subst hbf
     exact key false (!want) hb (by cases want<;>rfl) h
   ·rename_i hb
    obtain⟨h1,h2,h3,h4,h5,h6,h7,h8⟩:=qlU hA hE h
    exact⟨⟨false,by unfold gd;rw[hg];simp only[hd,hb],h1,fun h=>by cases h⟩,h4,h5,h6,h7,h3,h8⟩
   ·cases h
  ·cases h
theorem qkV (hA:Ag P T) (hE:Snd P E) {A:List (List Nat)} {s0:S}:∀(m k:Nat) (l:List Oper) (s s':S) (acc:List Tx),ops.drop k=l→xdp P T po E ops A s0 m l s acc=some s'→
  ∃(Sq:Nat→S) (tx:Nat→Tx),Sq 0=s∧(∀j,j<m→∃o,ops[k+j]?=some o∧Stp P ops o (Sq j) (Sq (j+1)) (tx j))∧(okP A 0 [] (acc++(List.range m).map tx)=true∧okX ops A s0 (acc++(List.range m).map tx) 0 (acc++(List.range m).map tx)=true∧okK ops A (acc++(List.range m).map tx)=true∧okN (acc++(List.range m).map tx) 0 (acc++(List.range m).map tx)=true)∧xr P T po E ops (ops.drop (k+m)) (Sq m)=some s'
 | 0,k,l,s,s',acc,hl,h=>by
  unfold xdp at h
  split at h
  ·rename_i hc
   exact⟨fun _=>s,fun _=>((.any,[]),⟨[],[],[],[],[]⟩),rfl,fun j hj=>by omega,by simpa using hc,by rw[Nat.add_zero,hl];exact h⟩
  ·cases h
 | m+1,k,[],s,s',acc,hl,h=>by cases h
 | m+1,k,o::l,s,s',acc,hl,h=>by
  unfold xdp at h
  obtain⟨⟨s1,x⟩,h1,h2⟩:=qLi.1 h
  have hk:ops[k]?=some o:=by
   have:=List.getElem?_drop (xs:=ops) (i:=k) (j:=0)
   rw[hl] at this
   simpa using this.symm
  have hl':ops.drop (k+1)=l:=by
   have:=qM1 (l:=ops) (i:=1) (j:=k)
   rw[hl] at this
   simpa using this.symm
  obtain⟨Sq,tx,g1,g2,g3,g4⟩:=qkV hA hE m (k+1) l s1 s' _ hl' h2
  refine⟨fun j=>if j=0 then s else Sq (j-1),fun j=>if j=0 then x else tx (j-1),rfl,fun j hj=>?_,?_,?_⟩
  ·cases j with
   | zero=>
    refine⟨o,hk,?_⟩
    have:=qzE hA hE h1
    simp only[if_true]
    rw[if_neg (by omega),show 0+1-1=0 from rfl,g1]
    exact this
   | succ j=>
    obtain⟨o',q1,q2⟩:=g2 j (by omega)
    refine⟨o',by rw[←q1];congr 1;omega,?_⟩
    simpa using q2
  ·have:acc++(List.range (m+1)).map (fun j=>if j=0 then x else tx (j-1))=acc++[x]++(List.range m).map tx:=by
    rw[List.range_succ_eq_map,qLA,List.map_map,qLT]
    rfl
   rw[this];exact g3
  ·rw[show k+(m+1)=k+1+m by omega]
   simpa using g4
end
end
end Go.Proofs.YtojflbfdcpkedaaGreat.Vc
