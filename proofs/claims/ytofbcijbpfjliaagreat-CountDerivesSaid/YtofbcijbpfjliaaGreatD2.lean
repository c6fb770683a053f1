/- Part 2 of a proof. -/
import Derived.Test.YtofbcijbpfjliaaGreatD1
import Derived.RangeFuncIn
import Derived.ChangeSlices
import Derived.OpenShut
import Derived.ChangeSame
import Derived.WideShapes
set_option linter.unusedVariables false
set_option linter.unusedSimpArgs false
set_option linter.defProp false
set_option linter.unusedSectionVars false
set_option linter.unnecessarySimpa false
namespace Go.Proofs.YtofbcijbpfjliaaGreat.Vc
noncomputable section
open Go.RowKit
def C.scl0:C→Bool
 | .d (.sl _ _ _)=>false
 | .eptr _ _=>false
 | .clp _ _ _=>false
 | .fn _ _ _=>false
 | _=>true
def C.scl:C→Bool
 | .fn _ fs caps=>fs.all C.scl0&&caps.all C.scl0
 | c=>c.scl0
def R.scl0:R→Bool
 | .c x=>x.scl
 | .agg xs=>xs.all C.scl
 | _=>true
def R.scl:R→Bool
 | .tup rs=>rs.all R.scl0
 | r=>r.scl0
def B.scl:B→Bool
 | .blk _ cs=>cs.all C.scl
 | .row _ _ cs=>cs.all C.scl
 | .ob o=>o.Rs.all R.scl0
 | .dead=>true
def okr (ln:List Nat) (r:R) (hp:List (Nat×B)):Prop:=ln=[]∨(r.scl=true∧hp.all (fun x=>x.2.scl)=true)
section
variable {w:World} {L L':Nat→Prop} {ρ ρ':Pl} {f:Nat→Nat} {p:Prop}
theorem RD.scl {v:Value} {x:D} (h:RD w (Occ L ρ) v x) (hx:(C.d x).scl0=true):RD w (Occ L' ρ') v x:=by
 cases h with
 | int k n=>exact .int k n
 | bool b=>exact .bool b
 | str s=>exact .str s
 | _=>cases hx
theorem RC.rn0 (hid:∀j,L j→L' (f j)∧ρ' (f j)=ρ j) (ho:p→∀b,Occ L' ρ' b→Occ L ρ b) {v:Value} {x:C} (h:RC w L ρ v x) (hx:p∨x.scl0=true):RC w L' ρ' v (x.rn0 f):=by
 cases h with
 | d v x h=>
  rcases hx with t|hx
  ·exact .d _ _ (h.occ (ho t))
  ·exact .d _ _ (h.scl hx)
 | ptr i o b m e q=>exact .ptr (f i) o b m (hid i e).1 ((hid i e).2.trans q)
 | hd k i b m e q=>exact .hd k (f i) b m (hid i e).1 ((hid i e).2.trans q)
 | nilp=>exact .nilp
 | nilf=>exact .nilf
 | nilm=>exact .nilm
 | nils=>exact .nils
 | eptr b o I G g e q z y=>
  rcases hx with t|hx
  ·exact .eptr b o I G g e (fun h=>q (ho t b h)) z (fun j c N=>(y j c N).occ (ho t))
  ·cases hx
 | clp A u n G h=>
  rcases hx with t|hx
  ·exact .clp A u n G (h.occ (ho t))
  ·cases hx
 | own i u o n b m e q z y=>exact .own (f i) u o n b m (hid i e).1 ((hid i e).2.trans q) z y
 | own0 i u e q=>exact .own0 (f i) u (hid i e).1 ((hid i e).2.trans q)
 | fn g O M V U e q z y=>exact .any _
 | ow=>exact .any _
 | ow0=>exact .any _
 | any v=>exact .any _
theorem RC.rn (hid:∀j,L j→L' (f j)∧ρ' (f j)=ρ j) (ho:p→∀b,Occ L' ρ' b→Occ L ρ b) {v:Value} {x:C} (h:RC w L ρ v x) (hx:p∨x.scl=true):RC w L' ρ' v (x.rn f):=by
 cases x with
 | fn g q k=>
  cases h with
  | fn _ _ _ A u I z G t=>
   have i:p∨(q.all C.scl0=true∧k.all C.scl0=true):=hx.imp id fun h=>(qR3 _ _).mp h;refine .fn g _ _ A u (by simp_all) (fun j c d=>?_) (by simp_all) (fun j c d=>?_)
   ·rw[qQL] at d;obtain⟨y,e,m⟩:=qQK.1 d;exact m ▸ (z j y e).rn0 hid ho (i.imp id fun h=>qQO.1 h.1 y (qQy e))
   ·rw[qQL] at d;obtain⟨y,e,m⟩:=qQK.1 d;exact m ▸ (t j y e).rn0 hid ho (i.imp id fun h=>qQO.1 h.2 y (qQy e))
 | _=>exact h.rn0 hid ho hx
theorem qp7 (hid:∀j,L j→L' (f j)∧ρ' (f j)=ρ j) (ho:p→∀b,Occ L' ρ' b→Occ L ρ b) {vs:Nat→Value} {cs:List C} (h:∀j c,cs[j]?=some c→RC w L ρ (vs j) c) (hx:p∨cs.all C.scl=true):∀j c,(cs.map (C.rn f))[j]?=some c→RC w L' ρ' (vs j) c:=fun j c d=>by rw[qQL] at d;obtain⟨y,e,g⟩:=qQK.1 d;exact g ▸ (h j y e).rn hid ho (hx.imp id fun h=>qQO.1 h y (qQy e))
theorem RR.rn0 (hid:∀j,L j→L' (f j)∧ρ' (f j)=ρ j) (ho:p→∀b,Occ L' ρ' b→Occ L ρ b) {v:Value} {x:R} (h:RR w L ρ v x) (hx:p∨x.scl0=true):RR w L' ρ' v (x.rn0 f):=by
 cases h with
 | c v x h=>exact .c _ _ (h.rn hid ho hx)
 | agg g i e d=>exact .agg _ _ (by simp_all) (qp7 hid ho d hx)
 | tup g i e d=>exact .any _
 | any v=>exact .any _
theorem RR.rn (hid:∀j,L j→L' (f j)∧ρ' (f j)=ρ j) (ho:p→∀b,Occ L' ρ' b→Occ L ρ b) {v:Value} {x:R} (h:RR w L ρ v x) (hx:p∨x.scl=true):RR w L' ρ' v (x.rn f):=by
 cases x with
 | tup k=>
  cases h with
  | tup q _ m i=>
   refine .tup _ _ (by simp_all) (fun j c d=>?_)
   rw[qQL] at d;obtain⟨y,e,g⟩:=qQK.1 d;exact g ▸ (i j y e).rn0 hid ho (hx.imp id fun h=>qQO.1 (show k.all R.scl0=true from h) y (qQy e))
 | _=>exact h.rn0 hid ho hx
theorem HB.rn (hid:∀j,L j→L' (f j)∧ρ' (f j)=ρ j) (ho:p→∀b,Occ L' ρ' b→Occ L ρ b) {b cap:Nat} {x:B} (h:HB w L ρ b cap x) (hx:p∨x.scl=true):HB w L' ρ' b cap (x.rn f):=by
 cases x with
 | blk t k=>obtain⟨g,d,y,c⟩:=h;exact⟨g,d,by simp_all,qp7 hid ho c hx⟩
 | row e A k=>obtain⟨g,d,y,c,i,q,u⟩:=h;exact⟨g,d,by simp_all,c,i,q,qp7 hid ho u hx⟩
 | ob o=>exact HO.map rfl (fun v x m z=>z.rn0 hid ho (hx.imp id fun h=>qQO.1 h x m)) h
 | dead=>trivial
end
section
variable {P:Program} {cx:Cx} {ρ:Pl} {s:S} {a:Act} {w:World} {K:KK}
theorem HB.sel (hs:Sim cx ρ s a w) {sel:List Nat} {L':Nat→Prop} {ρ':Pl} (hsel:∀i j,sel[j]?=some i→s.live i→L' j∧ρ' j=ρ i) (ho:∀b,Occ L' ρ' b→Occ s.live ρ b) {b cap:Nat} {x y:B} (h:HB w s.live ρ b cap x) (hx:BR s sel x y):HB w L' ρ' b cap y:=by
 have u:∀v x y,RC w s.live ρ v x→CR s sel [] x y→RC w L' ρ' v y:=fun v x y h A=>A.rc hs hsel ho (fun id k=>by simp at k) h
 cases hx with
 | blk t I q c=>obtain⟨z,d,g,m⟩:=h;exact⟨z,d,g.trans c.1,c.rc u m⟩
 | row e O I q c=>obtain⟨z,d,g,m,G,M,N⟩:=h;exact⟨z,d,c.1 ▸ g,m,G,M,c.rc u N⟩
 | ob o U c=>exact HO.rel u h c
theorem Sim.hand (hs:Sim cx ρ s a w) {G:List (Nat×B)} {k:Nat} (sel ln:List Nat) (ro:Option Nat) (hG:GR s sel sel 0 G)
  (hsel:sel.all (fun i=>(s.blk i).live)=true) (hnd:sel.Nodup) (hln:ln.all (fun i=>(s.blk i).live && !sel.contains i)=true) (hk:k≤G.length) (hpk:∀j,j<G.length→(lk G j .dead).isBlk=decide (j<k)) :
  ∃(O:Nat→Prop) (ρc:Pl),Sim ⟨O,w,ρc,k,ro⟩ ρc (q0x G G.length) qcH w∧(∀vs rs rs',RRs w s.live ρ vs rs→ARs s sel ln rs rs'→RRs w (q0x G G.length).live ρc vs rs')∧(∀i j,sel[j]?=some i→ρc j=ρ i)∧
   ∀w' r hp' nx' ρ' v,Sim ⟨O,w,ρc,k,ro⟩ ρ' (q0x hp' nx') qcH w'→okr ln r hp'→RR w' (q0x hp' nx').live ρ' v r→∃ρ2,Sim cx ρ2 (s.aft sel k hp') a w'∧RR w' (s.aft sel k hp').live ρ2 v (r.rn (ren sel s.nx)):=by
 obtain⟨bk,ai⟩:=hG.at_;have W:∀i,i∈sel→s.live i:=fun i t=>qQO.1 hsel i t;have aI:∀i,i∈ln→s.live i∧i ∉ sel:=fun i t=>by have:=qQO.1 hln i t;simp only[qR3,Bool.not_eq_true',List.contains_eq_mem,decide_eq_false_iff_not] at this;exact this
 have ah:∀{i j:Nat},sel[j]?=some i→i∈sel:=fun A=>qQy A;obtain⟨F,hF⟩:∃F:Nat→Prop,F=fun b=>ρ.F b∨∃i aa,s.live i∧i ∉ ln∧i ∉ sel∧ρ i=some (b,aa):=⟨_,rfl⟩;have aM:∀b,F b→Occ s.live ρ b:=fun b N=>by
  rw[hF] at N;rcases N with N|⟨i,aa,h1,-,-,h2⟩
  ·exact .inl N
  ·exact .inr ⟨i,aa,h1,h2⟩
 have a2:∀b i aa,s.live i→ρ i=some (b,aa)→(i∈sel∨i∈ln)→¬ F b:=fun b i aa h1 h2 Z N=>by
  rw[hF] at N;rcases N with N|⟨U,c,h4,h5,h6,h7⟩
  ·exact hs.disj i b aa h1 h2 N
  ·have:=hs.inj U i b c aa h4 h1 h7 h2;subst this;rcases Z with Z|Z
   ·exact h6 Z
   ·exact h5 Z
 obtain⟨ρc,aE⟩:∃ρc:Pl,ρc=⟨fun j=>(sel[j]?).bind ρ.at_,F⟩:=⟨_,rfl⟩;have ac:ρc.F=F:=by rw[aE]
 have I:∀{i j:Nat},sel[j]?=some i→ρc j=ρ i:=fun {i j} A=>by rw[aE];show(sel[j]?).bind ρ.at_=ρ i;rw[A];rfl
 obtain⟨O,hO⟩:∃O:Nat→Prop,O=fun b=>∃i aa,i∈sel∧ρ i=some (b,aa):=⟨_,rfl⟩;let Lc:Nat→Prop:=(q0x G G.length).live;have bj:∀{i j:Nat},sel[j]?=some i→Lc j:=fun {i j} A=>by
  have h1:=(ai j).1 (qQX _) i (by rw[qRq];exact A)
  have h2:=W i (ah A);unfold S.live at h2;show(lk G j .dead).live=true;revert h1 h2;generalize s.blk i=x;generalize lk G j .dead=y;intro h1 h2;cases h1<;>rfl
 have V:∀j,Lc j→∃i,sel[j]?=some i:=fun j A=>by
  rcases Nat.lt_or_ge j sel.length with h1|h1
  ·exact⟨_,qQz h1⟩
  ·have h2:=(ai j).2 (.inr (by omega))
   have Z:(lk G j .dead).live=true:=A;rw[h2] at Z;cases Z
 have aH:∀b,Occ Lc ρc b→Occ s.live ρ b:=fun b N=>by
  rcases N with N|⟨j,c,h1,h2⟩
  ·exact aM b (ac ▸ N)
  ·obtain⟨i,t⟩:=V j h1;exact .inr ⟨i,c,W i (ah t),(I t).symm.trans h2⟩
 have az:∀i j,sel[j]?=some i→s.live i→Lc j∧ρc j=ρ i:=fun i j A _=>⟨bj A,I A⟩;have bm:∀id,id∈ln→∀b aa,ρ id=some (b,aa)→¬ Occ Lc ρc b:=fun id aq b aa hr N=>by
  rcases N with N|⟨j,c,h1,h2⟩
  ·exact a2 b id aa (aI id aq).1 hr (.inr aq) (ac ▸ N)
  ·obtain⟨i,t⟩:=V j h1;rw[I t] at h2;have:=hs.inj i id b c aa (W i (ah t)) (aI id aq).1 h2 hr;subst this;exact(aI _ aq).2 (ah t)
 let bc:Cx:=⟨O,w,ρc,k,ro⟩;have aG:∀i j d,¬ qeA (q0x G G.length) ρc w i j d:=fun j0 j d hw=>by
  obtain⟨b,c,y,n,c',l1,l2,l3,l4,l5⟩:=hw;obtain⟨i,t⟩:=V j0 l1;have h1:=(ai j0).1 (qQX _) i (by rw[qRq];exact t)
  have h2:(lk G j0 .dead).cells.all C.noow=true:=h1.noow;have:=C.noow_is (qQO.1 h2 y (qQy l3));rw[l4] at this;cases this
 have aW:Ows bc.mine (q0x G G.length) ρc w:=⟨fun b N=>hs.occ_lt (aM b (ac ▸ N)),fun i j _ _ d h=>absurd h (aG i j d),fun i j d h=>absurd h (aG i j d)⟩;have bg:Sim bc ρc (q0x G G.length) qcH w:=by
  refine⟨Hd.none,rfl,fun i => .any _,fun j b c A hr=>?_,fun j A hr=>?_,fun j b c A hr=>?_,fun j j' b c c' A bf a3 aF=>?_,fun j A=>?_,ql2.refl _ _,fun b N=>⟨N,?_⟩,fun j A=>⟨rfl,?_⟩,fun j b c A hr=>?_,aW⟩
  ·obtain⟨i,t⟩:=V j A;rw[I t] at hr;obtain⟨h1,h2⟩:=hs.hp i b c (W i (ah t)) hr;exact⟨h1,h2.sel hs az aH ((ai j).1 (qQX _) i (by rw[qRq];exact t))⟩
  ·obtain⟨i,t⟩:=V j A;rw[I t] at hr;obtain⟨e,sz,h1⟩:=hs.hp0 i (W i (ah t)) hr;have h2:=(ai j).1 (qQX _) i (by rw[qRq];exact t)
   rw[h1] at h2;show ∃e sz,lk G j .dead=_;generalize lk G j .dead=y at h2;cases h2 with
   | row _ _ _ a9 hp=>
    have:a9=[]:=qQQ (by rw[←hp.1];rfl)
    exact⟨e,sz,by rw[this]⟩
  ·obtain⟨i,t⟩:=V j A;rw[I t] at hr;exact .inl (by show O b;rw[hO];exact⟨i,c,ah t,hr⟩)
  ·obtain⟨i,t⟩:=V j A;obtain⟨U,al⟩:=V j' bf;rw[I t] at a3;rw[I al] at aF;have:=hs.inj i U b c c' (W i (ah t)) (W U (ah al)) a3 aF;subst this;obtain⟨l1,e1⟩:=qQB.1 t;obtain⟨l2,e2⟩:=qQB.1 al;exact(List.getElem_inj hnd).1 (e1.trans e2.symm)
  ·obtain⟨i,t⟩:=V j A;have:=(qQB.1 t).1;show j<G.length;omega
  ·exact hs.occ_lt (aM b (ac ▸ N))
  ·have h1:=hpk j (by have:j<k:=A;omega)
   rw[qRy (show j<k from A)] at h1;exact h1
  ·obtain⟨i,t⟩:=V j A;rw[I t] at hr;rw[ac];exact a2 b i c (W i (ah t)) hr (.inl (ah t))
 have aJ:∀vs rs rs',RRs w s.live ρ vs rs→ARs s sel ln rs rs'→RRs w Lc ρc vs rs':=fun vs rs rs' hv ha=>by
  obtain⟨be,bl⟩:=ha.at_;refine⟨by rw[hv.1,be],fun j r' A=>?_⟩
  obtain⟨r,h1,h2⟩:=bl j r' A;have Z:=hv.2 j r h1;have hR:∀v x y,RC w s.live ρ v x→CR s sel ln x y→RC w Lc ρc v y:=fun v x y h hc=>hc.rc hs az aH bm h;exact h2.rr hR Z
 refine⟨O,ρc,bg,aJ,fun i j A=>I A,fun w' r hp' nx' ρ' v Z aZ h4=>?_⟩
 -- the ids
 obtain⟨f,hf⟩:∃f,f=ren sel s.nx:=⟨_,rfl⟩;have ap:∀{i j:Nat},sel[j]?=some i→f j=i:=fun A=>by rw[hf];unfold ren;rw[A]
 have an:∀j,sel.length≤j→f j=s.nx+(j-sel.length):=fun j A=>by rw[hf];unfold ren;rw[qR5 A]
 have au:∀i,i∈sel→i<s.nx:=fun i t=>hs.nx i (W i t);have a1:∀j j',f j=f j'→j=j':=fun j j' he=>by
  rcases Nat.lt_or_ge j sel.length with q|q<;>rcases Nat.lt_or_ge j' sel.length with q' | q'
  ·rw[ap (qQz q),ap (qQz q')] at he;exact(List.getElem_inj hnd).1 he
  ·rw[ap (qQz q),an j' q'] at he;have:=au _ (qRp q);omega
  ·rw[ap (qQz q'),an j q] at he;have:=au _ (qRp q');omega
  ·rw[an j q,an j' q'] at he;omega
 have a0:∀i,i ∉ sel→i<s.nx→∀j,f j≠i:=fun i t hn j he=>by
  rcases Nat.lt_or_ge j sel.length with q|q
  ·rw[ap (qQz q)] at he;exact t (he ▸ qRp q)
  ·rw[an j q] at he;omega
 have aQ:∀i,i∈sel→∃j,sel[j]?=some i∧f j=i:=fun i t=>by obtain⟨j,A⟩:=List.getElem?_of_mem t;exact⟨j,A,ap A⟩
 obtain⟨X,hX⟩:∃X,X=sel.drop k:=⟨_,rfl⟩;obtain⟨s',av⟩:∃s',s'=s.aft sel k hp':=⟨_,rfl⟩;have ay:∀j,s'.blk (f j)=(lk hp' j .dead).rn f:=fun j=>by
  rw[av,hf];show lk ((hp'.map _++_)++(s.fgL (sel.drop k)).hp) _ .dead=_;rw[qRd];rw[←hf];refine qtx a1 _ j ?_ hp';rw[qes];split
  ·rfl
  ·rename_i hn;show(s.fgL (sel.drop k)).blk (f j) = .dead;refine B.dead_of fun hl=>?_;have bd:=(S.fgL_live s (sel.drop k) (f j)).1 hl;rcases Nat.lt_or_ge j sel.length with q|q
   ·exact hn (by rw[ap (qQz q)];exact qRp q)
   ·have:=hs.nx _ bd;rw[an j q] at this;omega
 have aB:∀i,i ∉ sel→i<s.nx→s'.blk i=(s.fgL X).blk i:=fun i t hn=>by rw[av,hX];show lk ((hp'.map _++_)++(s.fgL (sel.drop k)).hp) _ .dead=_;rw[qRd,qt7 (f:=ren sel s.nx) (g:=B.rn (ren sel s.nx)) _ i (hf ▸ a0 i t hn),qes,if_neg t];rfl
 let Lc':Nat→Prop:=(q0x hp' nx').live;have ad:∀j,s'.live (f j)↔Lc' j:=fun j=>by unfold S.live;rw[ay,B.rn_live];exact Iff.rfl
 have ag:∀i,i ∉ sel→i<s.nx→(s'.live i↔s.live i):=fun i t hn=>by unfold S.live;rw[aB i t hn];exact S.fgL_live s X i
 have M:∀i,(∃j,f j=i)∨(i ∉ sel∧i<s.nx):=fun i=>by
  by_cases t:i∈sel
  ·obtain⟨j,-,A⟩:=aQ i t;exact .inl ⟨j,A⟩
  ·rcases Nat.lt_or_ge i s.nx with q|q
   ·exact .inr ⟨t,q⟩
   ·exact .inl ⟨i-s.nx+sel.length,by rw[an _ (by omega)];omega⟩
 obtain⟨ρ2,aA⟩:∃ρ2:Pl,ρ2=⟨fun i=>open Classical in if h:∃j,f j=i then ρ' (Classical.choose h) else ρ i,ρ.F⟩:=⟨_,rfl⟩;have aj:ρ2.F=ρ.F:=by rw[aA]
 have ab:∀j,ρ2 (f j)=ρ' j:=fun j=>by have bb:∃j',f j'=f j:=⟨j,rfl⟩;rw[aA];show(open Classical in if h:∃j',f j'=f j then ρ' (Classical.choose h) else ρ (f j))=_;rw[dif_pos bb,a1 _ _ (Classical.choose_spec bb)]
 have ae:∀i,i ∉ sel→i<s.nx→ρ2 i=ρ i:=fun i t hn=>by rw[aA];exact dif_neg fun⟨j,A⟩=>a0 i t hn j A
 have aq:∀j,Lc' j→s'.live (f j)∧ρ2 (f j)=ρ' j:=fun j A=>⟨(ad j).2 A,ab j⟩;have ao:∀b,F b→ρ'.F b:=fun b N=>(Z.oldF b (ac ▸ N)).1;have aU:ln=[]→∀b,Occ s'.live ρ2 b→Occ Lc' ρ' b:=fun hn b N=>by
  rcases N with N|⟨i,c,q1,q2⟩
  ·refine .inl (ao b ?_);rw[hF];exact .inl (aj ▸ N)
  ·rcases M i with ⟨j,rfl⟩|⟨q3,q4⟩
   ·exact .inr ⟨j,c,(ad j).1 q1,(ab j).symm.trans q2⟩
   ·refine .inl (ao b ?_);rw[hF];exact .inr ⟨i,c,(ag i q3 q4).1 q1,by rw[hn];simp,q3,(ae i q3 q4).symm.trans q2⟩
 have ba:ln=[]∨r.scl=true:=aZ.imp id fun h=>h.1;have aV:∀j,ln=[]∨(lk hp' j .dead).scl=true:=fun j=>aZ.imp id fun h=>
  qoo (Pr:=fun _ x=>x.scl=true) (z:=B.dead) (fun _=>rfl) (fun i x hx=>qQO.1 h.2 (i,x) hx) j
 have aO:w.heap.size≤w'.heap.size:=Z.kept.size;have Y:q9Y X w s.live ρ w' s'.live ρ2:=by
  refine⟨aO,fun b N hn=>Z.kept.block b N (fun ax=>?_),fun b N aR=>?_,fun i t aw=>?_,fun b N=>⟨aj ▸ N,fun bo=>Z.kept.block b bo (fun ax=>?_)⟩⟩
  ·have af:O b:=ax;rw[hO] at af;obtain⟨i,c,q1,q2⟩:=af;exact hn (.inr ⟨i,c,W i q1,q2⟩)
  ·rcases aR with q|⟨i,c,q1,q2⟩
   ·exact .inl (aj ▸ q)
   ·rcases M i with ⟨j,rfl⟩|⟨q3,q4⟩
    ·rcases Z.out j b c ((ad j).1 q1) ((ab j).symm.trans q2) with q5|q5
     ·have aC:O b:=q5;rw[hO] at aC;obtain⟨U,c',q6,q7⟩:=aC;exact .inr ⟨U,c',W U q6,q7⟩
     ·have:w.heap.size≤b:=q5;omega
    ·exact .inr ⟨i,c,(ag i q3 q4).1 q1,(ae i q3 q4).symm.trans q2⟩
  ·by_cases am:i∈sel
   ·obtain⟨j,A,rfl⟩:=aQ i am;have aT:j<k:=by
     rcases Nat.lt_or_ge j k with q|q
     ·exact q
     ·refine absurd ?_ t;rw[hX];have:(sel.drop k)[j-k]?=some (f j):=by rw[List.getElem?_drop,show k+(j-k)=j by omega];exact A
      exact qQy this
    obtain⟨q1,q2⟩:=Z.pin j aT;refine⟨(ad j).2 ?_,?_⟩
    ·exact B.live_of q2
    ·rw[ab,q1];exact I A
   ·exact⟨(ag i am (hs.nx i aw)).2 aw,ae i am (hs.nx i aw)⟩
  ·have af:O b:=ax;rw[hO] at af;obtain⟨i,c,q1,q2⟩:=af;exact hs.disj i b c (W i q1) q2 N
 have ak:∀i b c,s.live i→i ∉ sel→ρ i=some (b,c)→¬ O b:=fun i b c q1 q2 q3 q4=>by rw[hO] at q4;obtain⟨U,c',q5,q6⟩:=q4;have:=hs.inj i U b c c' q1 (W U q5) q3 q6;subst this;exact q2 q5
 have a6:∀i b c,s'.live i→ρ2 i=some (b,c)→cx.O b∨cx.w.heap.size≤b:=fun i b c q1 q2=>by
  rcases M i with ⟨j,rfl⟩|⟨q3,q4⟩
  ·rcases Z.out j b c ((ad j).1 q1) ((ab j).symm.trans q2) with q5|q5
   ·have aC:O b:=q5;rw[hO] at aC;obtain⟨U,c',q6,q7⟩:=aC;exact hs.out U b c' (W U q6) q7
   ·have q6:w.heap.size≤b:=q5;have:=hs.kept.size;exact .inr (by omega)
  ·exact hs.out i b c ((ag i q3 q4).1 q1) ((ae i q3 q4).symm.trans q2)
 have a7:∀i,s'.get i=(s.fgL X).get i:=fun i=>by rw[av,hX];rfl
 rw[←av,←hf];refine⟨ρ2,⟨hs.hd.mono Y.size Y.block Y.occ,?_,fun i=>?_,fun i b c t hr=>?_,fun i t hr=>?_,a6,fun i U b c c' t al aD ar=>?_,fun i t=>?_,?_,fun b N=>⟨aj ▸ (hs.oldF b N).1,(hs.oldF b N).2⟩,fun i t=>?_,fun i b c t hr=>?_,?_⟩,h4.rn aq aU ba⟩
 ·rw[hs.size,av];show s.n=(s.fgL (sel.drop k)).n;cases sel.drop k<;>rfl
 ·rw[a7,S.fgL_get];split
  ·rename_i aL;have:=(hs.tm i).stay (w':=w') (L':=s'.live) (ρ':=ρ2) ⟨Y.size,Y.block,Y.occ,fun i t=>Y.ids i (by rw[aL];simp) t,Y.frm⟩
   exact this
  ·exact(hs.tm i).stayL Y
 ·rcases M i with ⟨j,rfl⟩|⟨q3,q4⟩
  ·obtain⟨q5,q6⟩:=Z.hp j b c ((ad j).1 t) ((ab j).symm.trans hr);rw[ay];exact⟨q5,HB.rn aq aU q6 (aV j)⟩
  ·have q5:=(ag i q3 q4).1 t;have q6:=(ae i q3 q4).symm.trans hr;obtain⟨q7,q8⟩:=hs.hp i b c q5 q6;refine⟨by omega,?_⟩
   have a5:=Z.kept.block b q7 (ak i b c q5 q3 q6);rw[aB i q3 q4,S.fgL_blk];split
   ·rename_i aL;exact q8.stay (w':=w') (L':=s'.live) (ρ':=ρ2) ⟨Y.size,Y.block,Y.occ,fun i t=>Y.ids i (by rw[aL];simp) t,Y.frm⟩ a5
   ·exact q8.stayL Y a5
 ·rcases M i with ⟨j,rfl⟩|⟨q3,q4⟩
  ·obtain⟨e,sz,q5⟩:=Z.hp0 j ((ad j).1 t) ((ab j).symm.trans hr);have:lk hp' j .dead = .row e sz []:=q5;exact⟨e,sz,by rw[ay,this];rfl⟩
  ·obtain⟨e,sz,q5⟩:=hs.hp0 i ((ag i q3 q4).1 t) ((ae i q3 q4).symm.trans hr);refine⟨e,sz,?_⟩;rw[aB i q3 q4,S.fgL_blk,q5];split<;>rfl
 ·have a8:∀j U,U ∉ sel→U<s.nx→s'.live (f j)→s'.live U→ρ2 (f j)=some (b,c)→∀c',ρ2 U=some (b,c')→False:=fun j U q3 q4 q5 q6 q7 c' q8=>by
   have q9:=(ag U q3 q4).1 q6;have q10:=(ae U q3 q4).symm.trans q8;rcases Z.out j b c ((ad j).1 q5) ((ab j).symm.trans q7) with q|q
   ·exact ak U b c' q9 q3 q10 q
   ·have q':w.heap.size≤b:=q;have:=(hs.hp U b c' q9 q10).1;omega
  have aK:∀j U,U ∉ sel→U<s.nx→s'.live (f j)→s'.live U→∀c',ρ2 (f j)=some (b,c')→ρ2 U=some (b,c)→False:=fun j U q3 q4 q5 q6 c' q7 q8=>by
   have q9:=(ag U q3 q4).1 q6;have q10:=(ae U q3 q4).symm.trans q8;rcases Z.out j b c' ((ad j).1 q5) ((ab j).symm.trans q7) with q|q
   ·exact ak U b c q9 q3 q10 q
   ·have q':w.heap.size≤b:=q;have:=(hs.hp U b c q9 q10).1;omega
  rcases M i with ⟨j,rfl⟩|⟨q3,q4⟩<;>rcases M U with ⟨j',rfl⟩|⟨aP,aN⟩
  ·have:=Z.inj j j' b c c' ((ad j).1 t) ((ad j').1 al) ((ab j).symm.trans aD) ((ab j').symm.trans ar);rw[this]
  ·exact(a8 j U aP aN t al aD c' ar).elim
  ·exact(aK j' i q3 q4 al t c' ar aD).elim
  ·exact hs.inj i U b c c' ((ag i q3 q4).1 t) ((ag U aP aN).1 al) ((ae i q3 q4).symm.trans aD) ((ae U aP aN).symm.trans ar)
 ·have aX:=q8A (hp'.map (fun x=>(ren sel s.nx x.1,x.2.rn (ren sel s.nx)))++sel.map fun i=>(i,B.dead)) s.nx;have aS:s'.nx=(hp'.map (fun x=>(ren sel s.nx x.1,x.2.rn (ren sel s.nx)))++sel.map fun i=>(i,B.dead)).foldl (fun m u=>max m (u.1+1)) s.nx:=by
   rw[av];show List.foldl _ (s.fgL (sel.drop k)).nx _=_;have:(s.fgL (sel.drop k)).nx=s.nx:=by cases sel.drop k<;>rfl
   rw[this]
  rw[aS];rcases M i with ⟨j,rfl⟩|⟨q3,q4⟩
  ·have A:(lk hp' j .dead).live=true:=(ad j).1 t;have a4:∀hp:List (Nat×B),(lk hp j .dead).live=true→∃x,(j,x)∈hp:=by
    intro hp
    induction hp with
    | nil=>intro h;cases h
    | cons y hp ih=>
     obtain⟨j',x⟩:=y;intro h;unfold lk at h;split at h
     ·rename_i he;subst he;exact⟨x,qQM⟩
     ·obtain⟨x',bi⟩:=ih h;exact⟨x',qQF _ bi⟩
   obtain⟨x,hx⟩:=a4 hp' A;refine aX.2 (f j,x.rn f) (qQJ _ ?_);rw[←hf];exact qRi.2 ⟨(j,x),hx,rfl⟩
  ·exact qR7 q4 aX.1
 ·refine⟨Z.kept.os.trans hs.kept.os,Z.kept.tape.trans hs.kept.tape,Z.kept.output.trans hs.kept.output,qR8 hs.kept.size aO,fun b N aY=>?_⟩;refine(Z.kept.block b (qR7 N hs.kept.size) (fun ax=>?_)).trans (hs.kept.block b N aY);have af:O b:=ax;rw[hO] at af;obtain⟨i,c,q1,q2⟩:=af;rcases hs.out i b c (W i q1) q2 with q|q
  ·exact aY q
  ·omega
 ·obtain⟨q1,q2⟩:=hs.pin i t;have aw:s.live i:=B.live_of q2;by_cases am:i∈sel
  ·obtain⟨j,A,rfl⟩:=aQ i am;have bn:j<G.length:=by rw[bk];exact(qQB.1 A).1
   have aT:j<k:=by
    have h5:=(ai j).1 (qQX _) (f j) (by rw[qRq];exact A)
    have h6:=hpk j bn;generalize lk G j .dead=y at h5 h6;generalize s.blk (f j)=x at h5 q2;cases h5 with
    | blk _ _ a9 _=>exact of_decide_eq_true h6.symm
    | ob _ _ _=>exact of_decide_eq_true h6.symm
    | row=>cases q2
   obtain⟨q3,q4⟩:=Z.pin j aT;refine⟨?_,?_⟩
   ·rw[ab,q3];exact(I A).trans q1
   ·rw[ay,B.rn_isBlk];exact q4
  ·refine⟨(ae i am (hs.nx i aw)).trans q1,?_⟩;rw[aB i am (hs.nx i aw),S.fgL_blk];split
   ·exact q2
   ·rw[B.fgL_isBlk];exact q2
 ·rw[aj];rcases M i with ⟨j,rfl⟩|⟨q3,q4⟩
  ·intro bh;refine Z.disj j b c ((ad j).1 t) ((ab j).symm.trans hr) (ao b ?_);rw[hF];exact .inl bh
  ·exact hs.disj i b c ((ag i q3 q4).1 t) ((ae i q3 q4).symm.trans hr)
 ·refine hs.ows.sub (fun b h=>qR7 (hs.ows.lt b (aj ▸ h)) aO) fun i j d hw=>?_;obtain⟨b,c,y,n,c',l1,l2,l3,l4,l5⟩:=hw;rcases M i with ⟨j',rfl⟩|⟨q3,q4⟩
  ·rw[ay] at l3;have:=C.noow_is (qQO.1 (B.rn_noow _ f) y (qQy l3));rw[l4] at this;cases this
  ·have q5:=(ag i q3 q4).1 l1;have q6:=(ae i q3 q4).symm.trans l2;have q7:=(hs.hp i b c q5 q6).1;rw[aB i q3 q4,S.fgL_blk] at l3;obtain⟨z,e1,e2⟩:∃z,(s.blk i).cells[j]?=some z∧z.isOw=true:=by
    split at l3
    ·exact⟨y,l3,l4⟩
    ·exact B.fgL_ow l3 l4
   exact⟨b,c,z,n,c',q5,q6,e1,e2,by rw[←l5];exact(World.cell?_of_block (w:=w) (Z.kept.block b q7 (ak i b c q5 q3 q6))).symm⟩
theorem q3l.sel {g:FuncId} {rs rs':List R} {G:List (Nat×B)} {k:Nat} {Q:R→List (Nat×B)→Prop} (sel ln:List Nat) (h:AC P g rs' G k Q) (ha:ARs s sel ln rs rs') (hG:GR s sel sel 0 G)
  (hsel:sel.all (fun i=>(s.blk i).live)=true) (hnd:sel.Nodup) (hln:ln.all (fun i=>(s.blk i).live && !sel.contains i)=true) (hk:k≤G.length) (hpk:∀j,j<G.length→(lk G j .dead).isBlk=decide (j<k))
  (hK:∀r hp,Q r hp→okr ln r hp∧K (r.rn (ren sel s.nx)) (s.aft sel k hp)):q3l P s g rs K:=by
 refine⟨h.ent,fun cx ρ a w A V hv=>?_⟩;obtain⟨O,u,z,d,-,b⟩:=V.hand sel ln none hG hsel hnd hln hk hpk;refine(h.call _ u w A rfl rfl rfl rfl z (d A rs rs' hv ha)).mono fun e Z ⟨v,r,m,q,ρ',I,W,Y,M⟩=>?_;obtain⟨x,y⟩:=hK r m W;obtain⟨t,U,N⟩:=b Z r m q ρ' v Y x M;exact⟨v,_,_,t,I,y,U,N⟩
end
end
noncomputable section
open Go.RowKit
def RA (P:Program) (aq0 bd:Code) (tm:List R) (G:List (Nat×B)) (k:Nat) (Q:R→List (Nat×B)→Prop):Prop:=
 ∀cx ρ w l cap fn vs,cx.w=w→cx.k=k→cx.ρ=ρ→cx.ro=some l→0<k→ρ (k-1)=some (l,cap)→Sim cx ρ (q0x G G.length) qcH w→RRs w (q0x G G.length).live ρ vs tm→
  RoundIn Fence.wide 0 P l fn vs aq0 bd w fun e w'=>∃v r hp' nx' ρ',e = .returned v∧Q r hp'∧Sim cx ρ' (q0x hp' nx') qcH w'∧RR w' (q0x hp' nx').live ρ' v r
def qb1:List R→List Nat→List R→List R
 | tm,t::ps,r::rs=>qb1 (tm.set t r) ps rs
 | tm,_,_=>tm
section
variable {P:Program} {cx:Cx} {ρ:Pl} {s:S} {a:Act} {w:World} {o:Oper} {K:KK} {next:Act→World→Prop} {Q':Exit→Act→World→Prop}
theorem qjd {L:Nat→Prop}:∀(ps:List Nat) (rs tm:List R) (us:List Value) (vs:Array Value),RRs w L ρ vs tm→us.length=rs.length→(∀j r,rs[j]?=some r→RR w L ρ (us.getD j undef) r)→
  RRs w L ρ ((ps.zip us).foldl (fun tmps x=>tmps.setIfInBounds x.1 x.2) vs) (qb1 tm ps rs)
 | [],rs,tm,us,vs,h,_,_=>by simpa [qb1] using h
 | t::ps,[],tm,us,vs,h,hl,_=>by
  have:us=[]:=qQQ (by assumption)
  subst this;assumption
 | t::ps,r::rs,tm,us,vs,h,hl,hr=>by
  cases us with
  | nil=>cases hl
  | cons u us=>
   rw[List.zip_cons_cons,qRB];refine qjd ps rs (tm.set t r) us _ ⟨by simpa using h.1,fun j x hj=>?_⟩ (by simp_all) (fun j x hj=>by have:=hr (j+1) x (by assumption);assumption)
   by_cases hjt:t=j
   ·subst hjt;have hlt:t<tm.length:=by grind
    rw[qRv hlt] at hj;injection hj with hj;subst hj;have b:=hr 0 _ rfl;have c:t<vs.size:=by rw[h.1];exact hlt
    simp_all
   ·rw[qRw hjt] at hj;have:=h.2 j x hj;simp_all
theorem qrT (hs:Sim cx ρ s a w) {y:Operand} {args:Array Operand} {ts:Array TypeId} {rid f:Nat} {tm:List R} {ps:List Nat} {aq0 bd:Code} (ho:o.op = .call { callee := .value y,args,argTypes:=ts }) (hy:s.ev y = .c (.hd .yield rid))
  (hb:s.blk rid = .ob (.lp f tm ps aq0 bd .ready none)) (hlen:args.toList.length=ps.length) {rs':List R} {G:List (Nat×B)} {k:Nat} {Q:R→List (Nat×B)→Prop} (sel ln:List Nat) (h:RA P aq0 bd rs' G k Q) (ha:ARs s sel ln (qb1 tm ps (args.toList.map s.ev)) rs') (hG:GR s sel sel 0 G)
  (hsel:sel.all (fun i=>(s.blk i).live)=true) (hnd:sel.Nodup) (hln:ln.all (fun i=>(s.blk i).live && !sel.contains i)=true) (hk:k≤G.length) (hpk:∀j,j<G.length→(lk G j .dead).isBlk=decide (j<k)) (hk0:0<k) (hrid:sel[k-1]?=some rid)
  (hK:∀r hp,Q r hp→okr ln r hp∧K (r.rn (ren sel s.nx)) (s.aft sel k hp)) (hn:JN cx K o a next):o.wpIn (FW cx.ro) 0 P a w next Q':=by
 have I:=hs.ev y;rw[hy] at I;obtain⟨l,u,h1,h2,h3⟩:=I.inv_hd;have hB:=(hs.hp rid l u h1 h2).2;rw[hb] at hB;obtain⟨b,e1,e2,e3,e4,e5,e6,e7,e8⟩:=hB;have ad:(args.map a.eval).size=b.params.size:=by grind
 obtain⟨q,ab⟩:∃q,q=(b.params.zip (args.map a.eval)).foldl (fun tmps (t,a)=>tmps.setIfInBounds t a) b.tmps:=⟨_,rfl⟩;have z:(execOp a.eval o).run P w = .ok (.round l b.fn q aq0 bd) w:=by have V:a.eval y = .func (.yield l) #[] #[]:=h3;have hr:=run_yield (P:=P) e1 ad;unfold execOp;simp only[ho,resolve,V,Deferred.ofValue,Sem.run_bind,Sem.run_pure,Result.andThen_ok,invoke];simp_all
 have aa:RRs w s.live ρ q (qb1 tm ps (args.toList.map s.ev)):=by
  have:=qjd (w:=w) (L:=s.live) (ρ:=ρ) ps (args.toList.map s.ev) tm (args.toList.map a.eval) b.tmps ⟨e7,e8⟩ (by simp) (fun j r hj=>by rw[qQL] at hj;obtain⟨x,g1,M⟩:=qQK.1 hj;subst M;rw[List.getD,qQL,g1];exact hs.ev x)
  rw[ab];have hz:(b.params.zip (args.map a.eval)).foldl (fun tmps (t,a)=>tmps.setIfInBounds t a) b.tmps=(ps.zip (args.toList.map a.eval)).foldl (fun tmps x=>tmps.setIfInBounds x.1 x.2) b.tmps:=by rw[←Array.foldl_toList,Array.toList_zip,e4,Array.toList_map]
  simp_all
 refine⟨fun _ _=>trivial,?_⟩;rw[Oper.semAt_eq _ _ _ (fun c hc=>by simp_all),z,Oper.uponIn_round]
 obtain⟨O,W,ae,g,ac,m⟩:=hs.hand sel ln (some l) hG hsel hnd hln hk hpk;have d:=h _ W w l u b.fn q rfl rfl rfl rfl hk0 ((ac _ _ hrid).trans h2) ae (g _ _ _ aa ha);refine⟨fun h=>(by cases h),RoundIn.mono (F:=FW cx.ro) (show RoundIn (FW cx.ro) (0-1) P l b.fn q aq0 bd w _ from d) ?_⟩
 rintro e w' ⟨v,r,A,U,ρ',rfl,hQ,h4,h5⟩;obtain⟨Y,Z⟩:=hK r A hQ;obtain⟨N,g1,M⟩:=m w' r A U ρ' v h4 Y h5;exact hn _ _ N v w' Z g1 M
def S.rf (s:S) (f:Nat) (tm:List R) (ps:List Nat) (aq0 bd:Code):S:=
 { s.up [(s.nx,.ob (.lp f tm ps aq0 bd .ready none))] with tm:=(s.n,.c (.hd .yield s.nx))::s.tm,n:=s.n+1 }
theorem S.rf_blk (s:S) (f:Nat) (tm:List R) (ps:List Nat) (aq0 bd:Code) (i:Nat):(s.rf f tm ps aq0 bd).blk i=if s.nx=i then .ob (.lp f tm ps aq0 bd .ready none) else s.blk i:=rfl
def qbB (a:Act) (D l:Nat):Act:={ tmps:=a.tmps.push (HK.yield.val l),defers:=mark D::a.defers }
theorem Sim.rf (hs:Sim cx ρ s a w) {f:Nat} {tm:List R} {ps:Array Tmp} {aq0 bd:Code} {fn:FuncId} (htm:tm.length=s.n∧∀i r,tm[i]?=some r→r = .any∨r=s.get i) {w1:World}
  (hw1:w1=(w.alloc (.deferred (some []))).alloc (.loop { state := .ready,pending:=none,fn,tmps:=a.tmps,params:=ps,assign:=aq0,body:=bd,defers:=w.heap.size })) :
  ∃ρ1,Sim cx ρ1 (s.rf f tm ps.toList aq0 bd) (qbB a w.heap.size (w.heap.size+1)) w1:=by
 have g:=hs.other (.deferred (some []));have q:¬ Occ s.live ρ w.heap.size:=hs.not_occ (qQN _);have k:¬ s.live s.nx:=fun h=>by have:=hs.nx _ h;omega
 have d:=q4X (w:=w.alloc (.deferred (some []))) (ρ:=ρ) (x := .ob (.lp f tm ps.toList aq0 bd .ready none)) k (.loop { state := .ready,pending:=none,fn,tmps:=a.tmps,params:=ps,assign:=aq0,body:=bd,defers:=w.heap.size }) 0;rw[←hw1] at d;have e:(w.alloc (.deferred (some []))).heap.size=w.heap.size+1:=by simp
 have b:=g.new (cap:=0) k (x := .ob (.lp f tm ps.toList aq0 bd .ready none)) (o := .loop { state := .ready,pending:=none,fn,tmps:=a.tmps,params:=ps,assign:=aq0,body:=bd,defers:=w.heap.size })
  ⟨_,heap_alloc_new _ _,rfl,rfl,rfl,rfl,rfl,by rw[htm.1];exact hs.size,fun j x N=>by
   rcases htm.2 j x N with h|h
   ·rw[h];exact .any _
   ·rw[h,←hw1];exact(g.tm j).stay d⟩
 rw[←hw1,e] at b;rw[e] at d;refine⟨_,⟨?_,by simp[qbB,b.size,S.rf,S.up],fun i=>?_,b.hp,b.hp0,b.out,b.inj,b.nx,b.kept,b.oldF,b.pin,b.disj,⟨b.ows.lt,b.ows.one,b.ows.new⟩⟩⟩
 ·obtain⟨⟨Ds,I,M,V⟩⟩:=hs.hd;obtain⟨⟨Ds',u,O,v⟩⟩:=b.hd;have z:Ds'=Ds:=by
   rw[I] at u;have U:∀(l m:List Nat),l.map mark=m.map mark→m=l:=by
    intro l
    induction l with
    | nil=>simp_all
    | cons y l W=>
     intro m A;cases m with
     | nil=>cases A
     | cons x m=>
      simp only[qQU,List.cons.injEq,mark,Deferred.mk.injEq,Target.collected.injEq,and_true] at A;simp_all
   grind
  subst z;refine⟨⟨w.heap.size::Ds',by simp[qbB,I],List.nodup_cons.2 ⟨fun h=>by grind,M⟩,fun D t=>?_⟩⟩
  rcases qQT.1 t with rfl|t
  ·refine⟨hs.kept.size,by rw[hw1];simp only[World.size_alloc];omega,fun h=>q (d.occ _ (by simp) h),?_⟩
   rw[hw1];exact(Below.heap_alloc _ _ _ (by simp)).trans (heap_alloc_new w _)
  ·exact v D t
 ·show RR w1 _ _ ((a.tmps.push (HK.yield.val (w.heap.size+1))).getD i undef) (lk ((s.n,R.c (.hd .yield s.nx))::s.tm) i .any);unfold lk;by_cases G:s.n=i
  ·subst G;rw[if_pos rfl];have:(a.tmps.push (HK.yield.val (w.heap.size+1))).getD s.n undef=HK.yield.val (w.heap.size+1):=by rw[←hs.size];simp_all
   rw[this];exact .c _ _ (.hd .yield s.nx (w.heap.size+1) 0 (by unfold S.live;rw[S.rf_blk,if_pos rfl];rfl) (if_pos rfl))
  ·rw[if_neg G];have:(a.tmps.push (HK.yield.val (w.heap.size+1))).getD i undef=a.tmps.getD i undef:=by simp only[qQD,Array.getElem?_push];rw[if_neg (by rw[hs.size];omega)]
   rw[this];exact b.tm i
def S.rfx (s:S) (n rid:Nat) (o:AO):S:={ s.up [(rid,.ob o)] with tm:=(n,.any)::s.tm,n:=n }
theorem qAX (l:List (Nat×R)) (n i:Nat) (h:i≠n):lk ((n,R.any)::l) i .any=lk l i .any:=by show(if n=i then R.any else lk l i .any)=_;grind
theorem Sim.rfx {D l:Nat} (hs:Sim cx ρ s (qbB a D l) w) {n rid b cap:Nat} (hn:a.tmps.size=n) (h1:s.live rid) (h2:ρ rid=some (b,cap)) {o:AO} {O:Obj}
  (hO:q8Y w s.live ρ (w.putObj b O) (s.up [(rid,.ob o)]).live ρ→(w.putObj b O).heap[b]?=some O→HO (w.putObj b O) (s.up [(rid,.ob o)]).live ρ b o):Sim cx ρ (s.rfx n rid o) { a with defers:=mark D::a.defers } (w.putObj b O):=by
 have h:=hs.overO h1 h2 hO;refine⟨h.hd,by assumption,fun i=>?_,h.hp,h.hp0,h.out,h.inj,h.nx,h.kept,h.oldF,h.pin,h.disj,⟨h.ows.lt,h.ows.one,h.ows.new⟩⟩
 show RR _ _ ρ (a.tmps.getD i undef) (lk ((n,R.any)::s.tm) i .any);by_cases c:i=n
 ·subst c;unfold lk;rw[if_pos rfl];exact .any _
 ·rw[qAX _ _ _ c];have d:=h.tm i;have:(qbB a D l).tmps.getD i undef=a.tmps.getD i undef:=by simp only[qbB,qQD,Array.getElem?_push];simp_all
  rw[this] at d;exact d
def qAs (Q:Exit→S→Prop) (s:S):Option Code→Prop
 | none=>Q .normal s
 | some .ret=>Q .ret s
 | some (.exit i)=>Q (.exit i) s
 | _=>False
theorem J.rangeFunc {g:Operand} {ps:Array Tmp} {aq0 bd:Code} {f:Nat} {tm:List R} {g':FuncId} {fs caps:List C} {Q:Exit→S→Prop} (hro:cx.ro=none) (hg:s.ev g = .c (.fn g' fs caps)) (htm:tm.length=s.n∧∀i r,tm[i]?=some r→r = .any∨r=s.get i)
  (hc:q3l P (s.rf f tm ps.toList aq0 bd) g' (fs.map R.c++[.c (.hd .yield s.nx)]++caps.map R.c) K)
  (hK:∀r s2,K r s2→∃rid f' tm' ps' aq0' bd' st pd,s2.get s.n = .c (.hd .yield rid)∧s2.blk rid = .ob (.lp f' tm' ps' aq0' bd' st pd)∧st ≠ .busy∧qAs Q (s2.rfx s.n rid (.lp f' tm' ps' aq0' bd' .exhausted pd)) pd):J P cx (.rangeFunc g ps aq0 bd) Q s:=fun ρ a w hs=>by
 refine wpIn_rangeFunc (F:=FW cx.ro) fun fn _=>?_;obtain⟨w1,hw1⟩:∃w1,w1=(w.alloc (.deferred (some []))).alloc (.loop { state := .ready,pending:=none,fn,tmps:=a.tmps,params:=ps,assign:=aq0,body:=bd,defers:=w.heap.size }):=⟨_,rfl⟩;obtain⟨ρ1,hs1⟩:=hs.rf (f:=f) htm hw1;obtain⟨⟨fnc,e1,e2,e3⟩,hcall⟩:=hc;have hgv:=hs.ev g;rw[hg] at hgv;obtain⟨us,vs,q1,q2,q3,q4,q5⟩:=hgv.inv_fn
 -- the function's value, in the new state
 have hst1:∀{L L':Nat→Prop} {ρ':Pl} {x:C} {v:Value},q8Y w s.live ρ w1 L' ρ'→RC w s.live ρ v x→RC w1 L' ρ' v x:=fun h hx=>hx.stay h;have hg1:=hs1.ev g;have hev:(qbB a w.heap.size (w.heap.size+1)).eval g=a.eval g∧(s.rf f tm ps.toList aq0 bd).ev g=s.ev g:=by
  cases g with
  | tmp t=>
   have N:t≠s.n:=fun h=>by
    subst h;have h0:=hgv;have:a.eval (.tmp s.n)=undef:=by show a.tmps.getD s.n undef=undef;rw[←hs.size];simp_all
    rw[this] at q1;cases q1
   refine⟨?_,?_⟩
   ·show(a.tmps.push _).getD t undef=a.tmps.getD t undef;simp only[qQD,Array.getElem?_push];rw[if_neg (by rw[hs.size];exact N)]
   ·show lk ((s.n,_)::s.tm) t .any=lk s.tm t .any;show(if s.n=t then _ else lk s.tm t .any)=_;grind
  | _=>exact⟨rfl,rfl⟩
 rw[hev.1,hev.2,hg] at hg1;obtain⟨u,q,p1,p2,p3,p4,p5⟩:=hg1.inv_fn;have V:u=us∧q=vs:=by simp_all
 obtain⟨rfl,rfl⟩:=V;have hy:RRs w1 (s.rf f tm ps.toList aq0 bd).live ρ1 #[.func (.yield (w.heap.size+1)) #[] #[]] [.c (.hd .yield s.nx)]:=by
  refine⟨rfl,fun j r d=>?_⟩
  match j,d with
  | 0,d=>
   simp only[qQH,qRn] at d;subst d;have h0:=hs1.tm s.n;have h3:(s.rf f tm ps.toList aq0 bd).get s.n = .c (.hd .yield s.nx):=by show lk ((s.n,_)::s.tm) s.n .any=_;unfold lk;simp_all
   have h4:(qbB a w.heap.size (w.heap.size+1)).tmps.getD s.n undef = .func (.yield (w.heap.size+1)) #[] #[]:=by rw[←hs.size];simp[qbB,qQD,HK.val]
   simp_all
  | j+1,d=>simp at d
 have k:=q6G (q6G (q8n p2 p3) hy) (q8n p4 p5);have I:=hcall cx ρ1 _ w1 _ hs1 k;refine⟨w.heap.size+1,[mark w.heap.size],w1,{ target := .fn (.func g') q,args:=u ++ #[.func (.yield (w.heap.size+1)) #[] #[]] },w1,g',u ++ #[.func (.yield (w.heap.size+1)) #[] #[]]++q,w1,?_,?_,fun _ _=>trivial,?_,fun h=>(by cases h),?_⟩
 ·rw[hw1];show(Instr.enterLoop fn a.tmps ps aq0 bd cx.ro).run P w=_;rw[hro];exact run_enterLoop_outer fn a.tmps ps aq0 bd
 ·simp only[resolve,q1,Deferred.ofValue,Sem.run_pure,List.map_toArray,qQU,List.map_nil];rfl
 ·simp only[invoke,callFunc,program,Sem.run_bind,Sem.run,Result.andThen_ok,e1,e2,e3,Bool.false_eq_true,if_false,Sem.run_pure]
 ·refine callsIn_wide.2 (I.mono fun e w' ⟨v,r,s2,y,h3,h4,W,h6⟩=>?_);subst h3;obtain⟨rid,f',tm',ps',aq0',bd',st,pd,k1,k2,k3,k4⟩:=hK r s2 h4;have m:=W.tm s.n;rw[k1] at m;have U:(qbB a w.heap.size (w.heap.size+1)).tmps.getD s.n undef = .func (.yield (w.heap.size+1)) #[] #[]:=by rw[←hs.size];simp[qbB,qQD,HK.val]
  rw[U] at m;obtain⟨b,A,m1,Y,m3⟩:=m.inv_hd;have M:b=w.heap.size+1:=by simp only[HK.val,Value.func.injEq,Fn.yield.injEq] at m3;omega
  subst M;have hB:=(W.hp rid _ A m1 Y).2;rw[k2] at hB;obtain⟨z,t1,t2,t3,t4,t5,t6,t7,t8⟩:=hB;have Z:=W.rfx (o := .lp f' tm' ps' aq0' bd' .exhausted pd) (O := .loop { z with state := .exhausted,pending:=pd }) hs.size m1 Y (fun G hO=>⟨_,hO,rfl,rfl,t4,t5,t6,t7,fun j x d=>(t8 j x d).stay G⟩);refine⟨z.pending,_,run_endLoop t1 (by simp_all),?_⟩
  rw[t3];unfold qAs at k4;split at k4
  ·grind
  ·exact wpIn_ret ⟨_,y,k4,Z⟩
  ·exact wpIn_exit ⟨_,y,k4,Z⟩
  ·cases k4
end
end
noncomputable section
open Go.RowKit Go.WideShapes Go.ChangeShapes
def q1p (P:Program):Nat→TypeId→List D→Prop
 | 0,_,_=>False
 | n+1,t,ds=>
  match P.underlying t with
  | some (.int k)=>∃z,ds=[.int k z]∧(Lit.int k z).wf=true
  | some .bool=>∃b,ds=[.bool b]
  | some .string=>∃s,ds=[.str s]∧s.size≤maxLen
  | some (.slice e)=>∃m es,ds=[.sl (P.cellsOf e) m es]∧m≤maxLen∧es.length=m*P.cellsOf e∧∀i,i<m→q1p P n e ((es.drop (i*P.cellsOf e)).take (P.cellsOf e))
  | some (.array k e)=>ds.length=P.cellsOf t∧∀i,i<k→q1p P n e ((ds.drop (i*P.cellsOf e)).take (P.cellsOf e))
  | some (.struct fs)=>ds.length=P.cellsOf t∧∀f∈fs.toList,q1p P n f.type ((ds.drop f.offset).take (P.cellsOf f.type))
  | _=>False
def tl (P:Program):Nat→List (Nat×TypeId)→Nat→Bool
 | o,[],e=>o==e
 | o,(f,t)::l,e=>f==o&&tl P (o+P.cellsOf t) l e
def qLt (P:Program) (l:List TypeId):Bool:=l.all fun t=>
 match P.underlying t with
 | some (.int _)|some .bool|some .string=>true
 | some (.slice e)=>l.contains e&&decide (0<P.cellsOf e)
 | some (.array k e)=>l.contains e&&tl P 0 ((List.range k).map fun i=>(i*P.cellsOf e,e)) (P.cellsOf t)
 | some (.struct fs)=>fs.toList.all (fun f=>l.contains f.type)&&tl P 0 (fs.toList.map fun f=>(f.offset,f.type)) (P.cellsOf t)
 | _=>false
def PV (w:World) (cs:List Value) (ds:List D):Prop:=cs.length=ds.length∧∀(j:Nat) (v:Value) (d:D),cs[j]?=some v→ds[j]?=some d→RD w (fun _=>False) v d
theorem qD8 {P:Program}:∀{l:List (Nat×TypeId)} {o e:Nat},tl P o l e=true→o≤e
 | [],o,e,h=>by have:o=e:=eq_of_beq h;omega
 | (f,t)::l,o,e,h=>by have:=qD8 ((qR3 _ _).mp h).2;omega
theorem qFb {P:Program} {w:World} {Tt:TypeId→List D→Prop}:∀(l:List (Nat×TypeId)) (o e:Nat) (cs:List Value),tl P o l e=true→cs.length=e→
  (∀f∈l,∃ds,PV w ((cs.drop f.1).take (P.cellsOf f.2)) ds∧Tt f.2 ds)→∃ds:List D,PV w (cs.drop o) ds∧∀f∈l,o≤f.1∧Tt f.2 ((ds.drop (f.1-o)).take (P.cellsOf f.2))
 | [],o,e,cs,h,hl,_=>by
  have:o=e:=eq_of_beq h;exact⟨[],⟨by simp;omega,fun j v d _ h=>by simp at h⟩,fun f hf=>by simp at hf⟩
 | (f,t)::l,o,e,cs,h,hl,hf=>by
  obtain⟨h1,h2⟩:=(qR3 _ _).mp h;have h1':f=o:=eq_of_beq h1;subst h1';obtain⟨ds0,⟨g1,g2⟩,g3⟩:=hf (f,t) qQM;obtain⟨ds1,⟨g4,g5⟩,g6⟩:=qFb l (f+P.cellsOf t) e cs h2 hl (fun x hx=>hf x (qQF _ hx));have hle:=qD8 h2;have hc:ds0.length=P.cellsOf t:=by grind
  refine⟨ds0++ds1,⟨?_,fun j v d i c=>?_⟩,fun x hx=>?_⟩
  ·grind
  ·grind
  ·rcases qQT.1 hx with rfl|hx
   ·simp_all
   ·obtain⟨g,b⟩:=g6 x hx;refine⟨by omega,?_⟩
    rw[show x.1-f=ds0.length+(x.1-(f+P.cellsOf t)) by omega,List.drop_length_add_append]
    exact b
section
variable {H:Type} {enc:TypeId×Value→H} {P:Program} {w:World} {base:Nat} {spare:Nat→Bool} {held:Bool}
theorem qja {l:List TypeId} (hl:qLt P l=true):∀(n:Nat) (t:TypeId) (cs:List Value) (x:DataW H×List MemPlace),t∈l→DataW.trod enc P w base spare held n t cs=some x→∃ds,PV w cs ds∧q1p P n t ds
 | 0,t,cs,x,_,h=>by simp[DataW.trod] at h
 | n+1,t,cs,x,hm,h=>by
  have h0:=qQO.1 hl t hm;have hone:∀(v:Value) (d:D),RD w (fun _=>False) v d→PV w [v] [d]:=fun v d hd=>⟨rfl,fun j v' d' h1 h2=>by grind⟩
  unfold q1p;split at h0
  ·rename_i k hu;obtain⟨z,rfl,-,hw⟩:=DataW.trod_int hu h;exact⟨_,hone _ _ (.int k z),z,rfl,hw⟩
  ·rename_i hu;obtain⟨b,rfl,-⟩:=DataW.trod_bool hu h;exact⟨_,hone _ _ (.bool b),b,rfl⟩
  ·rename_i hu;obtain⟨s,rfl,-,hw⟩:=DataW.trod_string hu h;exact⟨_,hone _ _ (.str s),s,rfl,hw⟩
  ·rename_i e hu;simp only[qR3,List.contains_eq_mem,qRx] at h0;obtain⟨he,hc⟩:=h0;rcases DataW.trod_slice hu h with ⟨rfl,-⟩|⟨a,len,cap,elems,rest,n',hn,rfl,-,hb,hlc,hcm,hlen,hel,-,-⟩
   ·exact⟨_,hone _ _ (.nil none 0 (P.cellsOf e) (qQX _) (fun _=>rfl)),0,[],rfl,qQX _,by simp,fun i hi=>by omega⟩
   ·have hn':n'=n:=by omega
    subst hn';have q:∀i,i<len→∃g y,w.cells? base (a.add (i*P.cellsOf e)) (P.cellsOf e)=some g∧DataW.trod enc P w base spare held n' e g=some y:=fun i hi=>by
     have h1:=hel i hi;rw[qQz (by omega)] at h1
     obtain⟨g,h2,h3⟩:=qQC.1 h1;grind
    by_cases Z:len=0
    ·subst Z;exact⟨_,hone _ _ (.nil (some a) cap (P.cellsOf e) hcm (fun h=>by cases h)),0,[],rfl,qQX _,by simp,fun i hi=>by omega⟩
    ·obtain⟨b,A,ab⟩:=a;have aa:ab=none:=by
      obtain⟨g,y,h2,-⟩:=q 0 (by omega)
      obtain⟨-,M,h5⟩:=World.cells?_some h2;have h6:=h5 0 hc;rw[qQz (by omega)] at h6
      simpa [Addr.add] using World.cell?_spot h6
     subst aa;obtain⟨u,an⟩:∃u:List Value,u=(List.range (len*P.cellsOf e)).map fun j=>(w.cell? ⟨b,A+j,none⟩).getD undef:=⟨_,rfl⟩;have ad:u.length=len*P.cellsOf e:=by simp_all
     have ae:∀i,i<len→∀g,w.cells? base ((⟨b,A,none⟩:Addr).add (i*P.cellsOf e)) (P.cellsOf e)=some g→(u.drop (i*P.cellsOf e)).take (P.cellsOf e)=g∧∀j,j<P.cellsOf e→w.cell? ⟨b,A+(i*P.cellsOf e+j),none⟩=g[j]?:=fun i hi g h2=>by
      obtain⟨-,M,h5⟩:=World.cells?_some h2;have aj:(i+1)*P.cellsOf e≤len*P.cellsOf e:=Nat.mul_le_mul_right _ hi;rw[Nat.add_mul,Nat.one_mul] at aj;have ak:∀j,j<P.cellsOf e→w.cell? ⟨b,A+(i*P.cellsOf e+j),none⟩=g[j]?:=fun j hj=>by have:=h5 j hj;rw[q02,q02,qRr] at this;exact this
      refine⟨List.ext_getElem? fun j=>?_,ak⟩;grind
     have ai:∀m,m≤len→tl P ((len-m)*P.cellsOf e) (((List.range len).drop (len-m)).map fun i=>(i*P.cellsOf e,e)) (len*P.cellsOf e)=true:=by
      intro m
      induction m with
      | zero=>intro _;rw[qRq,List.drop_of_length_le (by simp)];simp[tl]
      | succ m ih=>
       intro ac;rw[List.drop_eq_getElem_cons (by simp;omega)]
       simp only[List.getElem_range,qQU,tl,beq_self_eq_true,qR4];have:=ih (by omega)
       rw[show len-m=len-(m+1)+1 by omega] at this
       grind
     have N:=ai len (qQN _);rw[Nat.sub_self,Nat.zero_mul,List.drop_zero] at N;obtain⟨es,I,am⟩:=qFb (w:=w) (Tt:=q1p P n') _ 0 (len*P.cellsOf e) u N ad (fun f hf=>by
      obtain⟨i,hi,rfl⟩:=qRi.1 hf;have Y:i<len:=by simp_all
      obtain⟨g,y,h2,h3⟩:=q i Y;obtain⟨ds,O,g2⟩:=qja hl n' e g y he h3;grind)
     rw[List.drop_zero] at I;have U:es.length=len*P.cellsOf e:=by rw[←I.1,ad]
     have G:∀j,j<len*P.cellsOf e→∃v,w.cell? ⟨b,A+j,none⟩=some v∧u[j]?=some v:=fun j hj=>by
      have V:j / P.cellsOf e<len:=Nat.div_lt_of_lt_mul (by grind)
      obtain⟨g,y,h2,-⟩:=q _ V;obtain⟨-,M,-⟩:=World.cells?_some h2;have h5:=(ae _ V g h2).2 (j % P.cellsOf e) (Nat.mod_lt _ hc);rw[show j / P.cellsOf e*P.cellsOf e+j % P.cellsOf e=j by rw[Nat.mul_comm];exact Nat.div_add_mod j _] at h5
      rw[qQz (by rw[M];exact Nat.mod_lt _ hc)] at h5
      simp_all
     refine⟨[.sl (P.cellsOf e) len es],hone _ _ ?_,len,es,rfl,by omega,U,fun i hi=>?_⟩
     ·refine .sl b A len cap (P.cellsOf e) es (fun j=>u.getD j undef) U hlc hcm ?_ (fun h=>h) (fun j c hj=>?_) (fun j c hj=>?_)
      ·obtain⟨v,hv,-⟩:=G 0 (Nat.mul_pos (by omega) hc)
       rcases Nat.lt_or_ge b w.heap.size with W | W
       ·exact W
       ·simp[World.cell?,Array.getElem?_eq_none W] at hv
      ·grind
      ·have al:j<len*P.cellsOf e:=by grind
       obtain⟨v,h5,h6⟩:=G j al;rw[List.getD,h6];exact I.2 j v c h6 hj
     simp_all
  ·rename_i k e hu;simp only[qR3,List.contains_eq_mem,qRx] at h0;obtain⟨he,ht⟩:=h0;obtain⟨xs,m,hn,-,h1,h2,h3⟩:=DataW.trod_array hu h;have hn':m=n:=by omega
   subst hn';obtain⟨ds,O,g2⟩:=qFb (w:=w) (Tt:=q1p P m) _ 0 (P.cellsOf t) cs ht h1 (fun f hf=>by
    obtain⟨i,hi,rfl⟩:=qRi.1 hf;have Y:i<k:=by simp_all
    have M:=h3 i Y;rw[qQz (by omega)] at M
    exact qja hl m e _ _ he M)
   rw[List.drop_zero] at O;refine⟨ds,O,by rw[←O.1,h1],fun i hi=>?_⟩
   simp_all
  ·rename_i fs hu;simp only[qR3] at h0;obtain⟨he,ht⟩:=h0;obtain⟨xs,m,hn,-,h1,h2,h3⟩:=DataW.trod_struct hu h;have hn':m=n:=by omega
   subst hn';obtain⟨ds,O,g2⟩:=qFb (w:=w) (Tt:=q1p P m) _ 0 (P.cellsOf t) cs ht h1 (fun f hf=>by
    obtain⟨f',ag,rfl⟩:=qRi.1 hf;have ac:f'.type∈l:=by grind
    obtain⟨i,hi⟩:=List.getElem?_of_mem ag;have af:fs[i]?=some f':=by simp_all
    have M:=h3 i f' af;have ah:i<xs.length:=by grind
    rw[qQz ah] at M;exact qja hl m f'.type _ _ ac M)
   rw[List.drop_zero] at O;refine⟨ds,O,by rw[←O.1,h1],fun f hf=>?_⟩
   simp_all
  ·cases h0
end
end
noncomputable section
open Go.RowKit
section
variable {P:Program} {T:Ty} {cx:Cx} {s:S} {l:List Oper} {Q:Exit→S→Prop}
theorem wi (n:Int) (h0 : -9223372036854775808≤n) (h1:n≤9223372036854775807):IntKind.i64.wrap n=n:=by
 have:IntKind.i64.min = -9223372036854775808:=by decide
 have:IntKind.i64.max=9223372036854775807:=by decide
 simp only[IntKind.wrap,IntKind.bits,IntKind.signed];simp;omega
end
end
noncomputable section
open Go.RowKit
abbrev RS:=Option (R×S)
inductive Fx where
 | fn (f:FuncId)
 | rd (f:FuncId) (aq0 bd:Code)
abbrev Orc:=Fx→Nat→List R→List (Nat×B)→Option (R×List (Nat×B))
def qrS (s:S) (c x y:Operand):RS:=
 match s.ev c with
 | .c (.d (.bool t))=>if t=true then some (s.ev x,s) else some (s.ev y,s)
 | _=>none
def qem (T:Ty) (s:S) (t:TypeId) (x:Operand):RS:=
 match s.ev x with
 | .c (.ptr id off)=>(ld T (s.blk id).cells off t).bind fun r=>some (r,s)
 | .c (.eptr cs off)=>(ld T (cs.map C.d) off t).bind fun r=>some (r,s)
 | _=>none
def qid (T:Ty) (s:S) (t:TypeId):RS:=
 match T.k t with
 | .other=>none
 | _=>some (.c (.ptr s.nx 0),s.up [(s.nx,.blk t (T.zero t))])
def qFC (s:S) (t:TypeId) (x:Operand):RS:=
 match (s.ev x).cells with
 | some cs=>if cs.all C.known=true then some (.c (.ptr s.nx 0),s.up [(s.nx,.blk t cs)]) else none
 | none=>none
def q5c (T:Ty) (s:S) (t:TypeId) (x y:Operand):RS:=
 match s.ev x with
 | .c (.ptr id off)=>
  match (s.ev y).cells with
  | some ys=>if ys.all C.known=true∧T.k t ≠ .other∧ys.length=T.sz t∧off+ys.length≤(s.blk id).cells.length∧(s.blk id).isOb=false then some (.any,s.up [(id,(s.blk id).set off ys)]) else none
  | none=>none
 | _=>none
def q4x (T:Ty) (s:S) (t:TypeId) (x:Operand) (f:Nat):RS:=
 match T.foff t f with
 | some (fo,ft)=>
  if T.k ft ≠ .other∧T.sz ft≠0 then
   match s.ev x with
   | .c (.ptr id off)=>some (.c (.ptr id (off+fo)),s)
   | .c (.eptr cs off)=>some (.c (.eptr cs (off+fo)),s)
   | _=>none
  else none
 | none=>none
def q6K (T:Ty) (s:S) (t:TypeId) (x y:Operand):RS:=
 match s.ev y,s.ev x,T.k t with
 | .c (.d (.int _ i)),.c (.d (.sl sz n cs)),.sl e=>if T.k e ≠ .other∧T.sz e=sz then(if 0≤i∧i<n then some (.c (.eptr cs (i.toNat*sz)),s) else none) else none
 | .c (.d (.int _ i)),.c (.own id sz off n),.sl e=>if T.k e ≠ .other∧T.sz e=sz then(if 0≤i∧i<n then some (.c (.ptr id ((off+i.toNat)*sz)),s) else none) else none
 | .c (.d (.int _ i)),.c (.ptr id off),.arr n e=>if T.k e ≠ .other then(if 0≤i∧i<n then some (.c (.ptr id (off+i.toNat*T.sz e)),s) else none) else none
 | _,_,_=>none
def qaS (s:S) (x:Operand) (i:Nat):RS:=
 match s.ev x with
 | .tup rs=>(rs[i]?).bind fun r=>some (r,s)
 | _=>none
def q6j (s:S) (x:Operand):RS:=
 match s.ev x with
 | .c (.ptr id off)=>some (.c (.ptr id off),s)
 | .c (.eptr cs off)=>some (.c (.eptr cs off),s)
 | .c (.fn f fs caps)=>some (.c (.fn f fs caps),s)
 | _=>none
def qeS (op:BinOp) (k:IntKind) (a b:Int):Option D:=
 match op with
 | .add=>some (.int k (k.wrap (a+b)))
 | .sub=>some (.int k (k.wrap (a-b)))
 | .mul=>some (.int k (k.wrap (a*b)))
 | .quo=>if b=0 then none else some (.int k (k.wrap (a.tdiv b)))
 | .rem=>if b=0 then none else some (.int k (a.tmod b))
 | .and=>some (.int k (Zq .and k a b))
 | .or=>some (.int k (Zq .or k a b))
 | .xor=>some (.int k (Zq .xor k a b))
 | .andNot=>some (.int k (Zq .andNot k a b))
 | .eql=>some (.bool (a==b))
 | .neq=>some (.bool (a != b))
 | .lss=>some (.bool (decide (a<b)))
 | .leq=>some (.bool (decide (a≤b)))
 | .gtr=>some (.bool (decide (b<a)))
 | .geq=>some (.bool (decide (b≤a)))
 | .shl=>if 0≤b then some (.int k (k.wrap (a*2 ^ min b.toNat k.bits))) else none
 | .shr=>if 0≤b then some (.int k (a.fdiv (2 ^ min b.toNat k.bits))) else none
def qyd (op:BinOp) (a b:ByteArray):Option D:=
 match op with
 | .add=>if a.size+b.size≤9223372036854775807 then some (.str (a++b)) else none
 | .eql=>some (.bool (a.toList==b.toList))
 | .neq=>some (.bool (!(a.toList==b.toList)))
 | .lss=>some (.bool (Op.bytesLess a.toList b.toList))
 | .leq=>some (.bool (Op.bytesLess a.toList b.toList||a.toList==b.toList))
 | .gtr=>some (.bool (!(Op.bytesLess a.toList b.toList||a.toList==b.toList)))
 | .geq=>some (.bool (!Op.bytesLess a.toList b.toList))
 | _=>none
def Kd.isPtr:Kd→Bool
 | .ptr _=>true
 | _=>false
def qEu (T:Ty) (op:BinOp) (t:TypeId) (x y:R):Option D:=
 match op,x,y with
 | .eql,.c (.d (.bool a)),.c (.d (.bool b))=>if T.k t = .bool then some (.bool (a==b)) else none
 | .neq,.c (.d (.bool a)),.c (.d (.bool b))=>if T.k t = .bool then some (.bool (!(a==b))) else none
 | .eql,.c .nilp,.c .nilp=>if(T.k t).isPtr=true then some (.bool true) else none
 | .neq,.c .nilp,.c .nilp=>if(T.k t).isPtr=true then some (.bool false) else none
 | .eql,.c (.ptr _ _),.c .nilp=>if(T.k t).isPtr=true then some (.bool false) else none
 | .neq,.c (.ptr _ _),.c .nilp=>if(T.k t).isPtr=true then some (.bool true) else none
 | .eql,.c (.eptr _ _),.c .nilp=>if(T.k t).isPtr=true then some (.bool false) else none
 | .neq,.c (.eptr _ _),.c .nilp=>if(T.k t).isPtr=true then some (.bool true) else none
 | _,_,_=>none
def qFv (P:Program) (T:Ty) (op:BinOp) (t:TypeId) (xs ys:List C):Option D:=
 match op with
 | .eql=>(eqR P T 5 t (.agg xs) (.agg ys)).bind fun b=>some (.bool b)
 | .neq=>(eqR P T 5 t (.agg xs) (.agg ys)).bind fun b=>some (.bool (!b))
 | _=>none
def qF3 (P:Program) (T:Ty) (s:S) (op:BinOp) (t:TypeId) (x y:Operand):RS:=
 match s.ev x,s.ev y with
 | .c (.d (.int k a)),.c (.d (.int k' b))=>if(qyc op||decide (k=k'))=true then(qeS op k a b).bind fun d=>some (.c (.d d),s) else none
 | .c (.d (.str a)),.c (.d (.str b))=>(qyd op a b).bind fun d=>some (.c (.d d),s)
 | .agg xs,.agg ys=>(qFv P T op t xs ys).bind fun d=>some (.c (.d d),s)
 | u,v=>(qEu T op t u v).bind fun d=>some (.c (.d d),s)
def xUn (s:S) (op:UnOp) (x:Operand):RS:=
 match op,s.ev x with
 | .not,.c (.d (.bool b))=>some (.c (.d (.bool (!b))),s)
 | .neg,.c (.d (.int k n))=>some (.c (.d (.int k (k.wrap (0-n)))),s)
 | _,_=>none
def Kd.isSl:Kd→Bool
 | .sl _=>true
 | _=>false
def qF9 (T:Ty) (s:S) (t:TypeId) (x:Operand):RS:=
 match s.ev x with
 | .c (.d (.str b))=>if T.k t = .str then some (.c (.d (.int .i64 b.size)),s) else none
 | .c (.d (.sl _ n _))=>if(T.k t).isSl=true then some (.c (.d (.int .i64 n)),s) else none
 | .c (.own _ _ _ n)=>if(T.k t).isSl=true then some (.c (.d (.int .i64 n)),s) else none
 | .c .nils=>if(T.k t).isSl=true then some (.c (.d (.int .i64 0)),s) else none
 | .agg _=>match T.k t with | .arr n _=>some (.c (.d (.int .i64 n)),s)|_=>none
 | _=>none
def qFE (s:S) (x y:Operand):RS:=
 match s.ev x,s.ev y with
 | .c (.d (.int k m)),.c (.d (.int _ n))=>some (.c (.d (.int k (min m n))),s)
 | _,_=>none
def qF2 (s:S) (x y:Operand):RS:=
 match s.ev x,s.ev y with
 | .c (.d (.int k m)),.c (.d (.int _ n))=>some (.c (.d (.int k (max m n))),s)
 | _,_=>none
def qqQ (T:Ty) (s:S) (t t':TypeId) (x:Operand):RS:=
 match T.k t,T.k t',s.ev x with
 | .int _,.int k,.c (.d (.int _ n))=>some (.c (.d (.int k (k.wrap n))),s)
 | .str,.str,.c (.d (.str b))=>some (.c (.d (.str b)),s)
 | .str,.sl e,.c (.d (.str b))=>if T.k e = .int .u8 then(if b.size≤4611686018427387903 then some (.c (.d (.sl 1 b.size (u8s b.data.toList))),s) else none) else none
 | .sl e,.str,.c (.own id sz off n)=>if T.k e = .int .u8∧sz=1 then(qxx (((s.blk id).cells.drop off).take n)).bind fun ns=>if ns.length=n then some (.c (.d (.str (qlc ns))),s) else none else none
 | .sl e,.str,.c (.d (.sl sz _ cs))=>if T.k e = .int .u8∧sz=1 then(qnf cs).bind fun ns=>some (.c (.d (.str (qlc ns))),s) else none
 | .sl e,.str,.c .nils=>if T.k e = .int .u8 then some (.c (.d (.str ⟨#[]⟩)),s) else none
 | _,_,_=>none
def qfX (T:Ty) (s:S) (t:TypeId) (x:Operand) (lo hi mx:Option Operand):RS:=
 match mx,s.ev x,T.k t with
 | none,.c (.d (.str b)),.str=>
  match s.bd lo 0,s.bd hi b.size with
  | some l,some h=>if 0≤l∧l≤h∧h≤b.size then some (.c (.d (.str (b.extract l.toNat h.toNat))),s) else none
  | _,_=>none
 | none,.c (.d (.sl sz n cs)),.sl e=>
  if T.k e ≠ .other∧T.sz e=sz then
   match s.bd lo 0,s.bd hi n with
   | some l,some h=>if 0≤l∧l≤h∧h≤n then some (.c (.d (.sl sz (h.toNat-l.toNat) ((cs.drop (l.toNat*sz)).take ((h.toNat-l.toNat)*sz)))),s) else none
   | _,_=>none
  else none
 | none,.c (.own id sz off n),.sl e=>
  if T.k e ≠ .other∧T.sz e=sz then
   match s.bd lo 0,s.bd hi n with
   | some l,some h=>if 0≤l∧l≤h∧h≤n then(if l=0∨l<n then some (.c (.own id sz (off+l.toNat) (h.toNat-l.toNat)),s) else some (.c (.d (.sl sz 0 [])),s)) else none
   | _,_=>none
  else none
 | none,.c .nils,.sl e=>
  if T.k e ≠ .other then
   match s.bd lo 0,s.bd hi 0 with
   | some l,some h=>if l=0∧h=0 then some (.c .nils,s) else none
   | _,_=>none
  else none
 | _,_,_=>none
def quu (T:Ty) (s:S) (t:TypeId) (x:Operand) (lo hi mx:Option Operand):RS:=
 match lo,T.k t,s.ev x with
 | none,.sl e,.c (.d (.sl sz n cs))=>if T.k e ≠ .other∧T.sz e=sz∧hi.isSome=true∧s.bd hi 0=some (n:Int)∧s.bd mx 0=some (n:Int) then some (.c (.clp sz n cs),s) else none
 | none,.sl e,.c .nils=>if T.k e ≠ .other∧hi.isSome=true∧s.bd hi 0=some 0∧s.bd mx 0=some 0 then some (.c (.clp (T.sz e) 0 []),s) else none
 | _,_,_=>none
def qJf (T:Ty) (s:S) (t:TypeId) (x:Operand) (lo hi:Option Operand):Option Operand→RS
 | none=>qfX T s t x lo hi none
 | some m=>quu T s t x lo hi (some m)
def qnq (T:Ty) (s:S) (t:TypeId) (x:Operand) (f:Nat):RS:=
 match s.ev x with
 | .agg xs=>match T.foff t f with|some (fo,ft)=>(ld T xs fo ft).bind fun r=>some (r,s)|none=>none
 | _=>none
def qix (T:Ty) (s:S) (t:TypeId) (x y:Operand):RS:=
 match s.ev y,s.ev x,T.k t with
 | .c (.d (.int _ i)),.agg xs,.arr n e=>if T.k e ≠ .other then(if 0≤i∧i<n then(ld T xs (i.toNat*T.sz e) e).bind fun r=>some (r,s) else none) else none
 | .c (.d (.int _ i)),.c (.d (.str b)),.str=>if 0≤i then(b.data.toList[i.toNat]?).bind fun c=>some (.c (.d (.int .u8 c.toNat)),s) else none
 | _,_,_=>none
def qk3 (T:Ty) (s:S) (t:TypeId) (parts:List (Nat×Operand)):RS:=
 match T.k t with
 | .st fs=>if fs.all (fun f=>decide (T.k f.2 ≠ .other))=true then(bld s (q27 T t) parts (T.zero t)).bind fun cs=>some (.agg cs,s) else none
 | .arr _ e=>if T.k e ≠ .other then(bld s (fun i=>some (i*T.sz e,T.sz e)) parts (T.zero t)).bind fun cs=>some (.agg cs,s) else none
 | _=>none
def q1Y (T:Ty) (s:S) (t:TypeId) (len:Nat) (parts:List (Nat×Operand)):RS:=
 match T.k t with
 | .sl e=>if T.k e ≠ .other∧0<T.sz e∧len*T.sz e≤16777216 then(bld s (fun i=>some (i*T.sz e,T.sz e)) parts (List.replicate (len*T.sz e) .any)).bind fun cs=>some (.c (.own s.nx (T.sz e) 0 len),s.up [(s.nx,if 0<len∧T.bk t len=true then .blk e cs else .row e (T.sz e) cs)]) else none
 | _=>none
def q8E (s:S) (f:Fn) (first captured:List Operand):RS:=
 match f with
 | .func g=>(first.mapM s.cell1).bind fun fs=>(captured.mapM s.cell1).bind fun caps=>some (.c (.fn g fs caps),s)
 | _=>none
def qh1 (T:Ty) (s:S) (t:TypeId) (x y:Operand):RS:=
 match s.ev x,s.ev y,T.k t with
 | .c (.d (.int _ l)),.c (.d (.int _ c)),.sl e=>
  if T.k e ≠ .other∧0<T.sz e∧(T.zero e).length=T.sz e then
   (if 0≤l∧l≤c∧(T.by_ e:Int)*c≤281474976710656∧c≤9223372036854775807 then some (.c (.own s.nx (T.sz e) 0 l.toNat),s.up [(s.nx,.row e (T.sz e) (List.replicate l.toNat (T.zero e)).flatten)]) else none)
  else none
 | _,_,_=>none
def tkw (cs:List C) (m:Nat):List C:=if cs.length=m then cs else cs.take m
theorem qxO {cs:List C} {m:Nat} (h:cs.length=m):tkw cs m=cs:=if_pos h
theorem qjs (cs:List C) (m:Nat):tkw cs m=cs.take m:=by unfold tkw;grind
def q7n (T:Ty) (s:S) (t:TypeId) (x y:Operand):RS:=
 match T.k t,s.seq y with
 | .sl e,some (m,ys)=>
  if T.k e ≠ .other∧0<T.sz e∧(T.zero e).length=T.sz e∧ys.all C.known=true∧ys.length=m*T.sz e then
   match s.ev x with
   | .c (.own id sz off n)=>
    match s.blk id with
    | .row e' sz' cs=>
     if e'=e∧sz'=sz∧sz=T.sz e∧off=0∧(cs.length=n*sz∨n*sz≤cs.length)∧(tkw cs (n*sz)).all (C.far id)=true∧ys.all (C.far id)=true then
      (if n+m≤maxLen∧(n+m)*T.by_ e≤140737488355328 then some (.c (.own id sz 0 (n+m)),(s.fg id).up [(id,.row e sz (tkw cs (n*sz)++ys))]) else none)
     else none
    | _=>none
   | .c .nils=>if ys.all (C.far s.nx)=true then(if m≤maxLen∧m*T.by_ e≤140737488355328 then some (.c (.own s.nx (T.sz e) 0 m),(s.fg s.nx).up [(s.nx,.row e (T.sz e) ys)]) else none) else none
   | .c (.clp sz n cs)=>if sz=T.sz e∧0<m∧ys.all (C.far s.nx)=true∧cs.length=n*sz then(if n+m≤maxLen∧(n+m)*T.by_ e≤140737488355328 then some (.c (.own s.nx (T.sz e) 0 (n+m)),(s.fg s.nx).up [(s.nx,.row e (T.sz e) (cs.map C.d++ys))]) else none) else none
   | _=>none
  else none
 | _,_=>none
section
variable {P:Program} {T:Ty} {s s':S} {r:R} {K:KK}
theorem qse {c x y:Operand} (h:qrS s c x y=some (r,s')) (hK:K r s'):qcU s c x y K:=by unfold qrS at h;unfold qcU;grind
theorem Z7 {α β:Type} {o:Option α} {f:α→Option β} {b:β} (h:o.bind f=some b):∃a,o=some a∧f a=some b:=qQC.1 h
theorem q4A {a c:R} {b d:S} (h:some (a,b)=some (c,d)):a=c∧b=d:=by simp_all
theorem qsK {t:TypeId} {x:Operand} (h:qem T s t x=some (r,s')) (hK:K r s'):qd0 T s t x K:=by
 unfold qem at h;unfold qd0;split at h
 ·rename_i b;simp only[b];obtain⟨a,c,d⟩:=Z7 h;simp_all
 ·rename_i b;simp only[b];obtain⟨a,c,d⟩:=Z7 h;simp_all
 ·cases h
theorem qnl {t:TypeId} (h:qid T s t=some (r,s')) (hK:K r s'):qdr T s s.nx t K:=by
 unfold qid at h;split at h
 ·cases h
 ·rename_i b;obtain⟨rfl,rfl⟩:=q4A h;exact⟨b,hK⟩
theorem qvL {t:TypeId} {x:Operand} (h:qFC s t x=some (r,s')) (hK:K r s'):qsH s s.nx t x K:=by
 unfold qFC at h;split at h
 ·rename_i c b;split at h
  ·rename_i d;obtain⟨rfl,rfl⟩:=q4A h;exact⟨c,b,d,hK⟩
  ·cases h
 ·cases h
theorem qfL {t:TypeId} {x y:Operand} (h:q5c T s t x y=some (r,s')) (hK:K r s'):qb5 T s t x y K:=by unfold q5c at h;unfold qb5;grind
theorem qdU {t:TypeId} {x:Operand} {f:Nat} (h:q4x T s t x f=some (r,s')) (hK:K r s'):q3k T s t x f K:=by unfold q4x at h;unfold q3k;grind
theorem qew {t:TypeId} {x y:Operand} (h:q6K T s t x y=some (r,s')) (hK:K r s'):q29 T s t x y K:=by unfold q6K at h;unfold q29;grind
theorem qhT {x:Operand} {i:Nat} (h:qaS s x i=some (r,s')) (hK:K r s'):q4z s x i K:=by unfold qaS at h;unfold q4z;grind
theorem qfW {x:Operand} (h:q6j s x=some (r,s')) (hK:K r s'):q38 s x K:=by unfold q6j at h;unfold q38;grind
theorem qw8 {op:BinOp} {k:IntKind} {a b:Int} {d:D} {K:R→Prop} (h:qeS op k a b=some d) (hK:K (.c (.d d))):qf6 op k a b K:=by unfold qeS at h;unfold qf6;grind
theorem quQ {op:BinOp} {a b:ByteArray} {d:D} {K:R→Prop} (h:qyd op a b=some d) (hK:K (.c (.d d))):qfq op a b K:=by unfold qyd at h;unfold qfq;grind
theorem qsf {k:Kd} (h:k.isPtr=true):∃e,k = .ptr e:=by cases k<;>simp[Kd.isPtr] at h;simp_all
theorem qgW {k:Kd} (h:k.isSl=true):∃e,k = .sl e:=by cases k<;>simp[Kd.isSl] at h;simp_all
theorem qv0 {op:BinOp} {t:TypeId} {x y:R} {d:D} {K:R→Prop} (h:qEu T op t x y=some d) (hK:K (.c (.d d))):qgg T op t x y K:=by
 unfold qEu at h;unfold qgg;split at h<;>first
  | (cases h;done)
  | (split at h
     ·injection h with h;subst h;first|exact⟨by assumption,hK⟩|exact⟨qsf (by assumption),hK⟩
     ·cases h)
theorem qvk {op:BinOp} {t:TypeId} {xs ys:List C} {d:D} {K:R→Prop} (h:qFv P T op t xs ys=some d) (hK:K (.c (.d d))):qfi P T op t xs ys K:=by
 unfold qFv at h;unfold qfi;split at h
 ·obtain⟨b,e,g⟩:=Z7 h;simp_all
 ·obtain⟨b,e,g⟩:=Z7 h;simp_all
 ·cases h
theorem qwv {op:BinOp} {t:TypeId} {x y:Operand} (h:qF3 P T s op t x y=some (r,s')) (hK:K r s'):qkX P T s op t x y K:=by
 unfold qF3 at h;unfold qkX;split at h
 ·rename_i e g;simp only[e,g];split at h
  ·rename_i j;obtain⟨d,b,c⟩:=Z7 h;obtain⟨rfl,rfl⟩:=q4A c;exact⟨by simp_all,qw8 (K:=fun r=>K r s) b hK⟩
  ·cases h
 ·rename_i e g;simp only[e,g];obtain⟨d,b,c⟩:=Z7 h;obtain⟨rfl,rfl⟩:=q4A c;exact quQ (K:=fun r=>K r s) b hK
 ·rename_i e g;simp only[e,g];obtain⟨d,b,c⟩:=Z7 h;obtain⟨rfl,rfl⟩:=q4A c;exact qvk (K:=fun r=>K r s) b hK
 ·rename_i i m k;obtain⟨d,b,c⟩:=Z7 h;obtain⟨rfl,rfl⟩:=q4A c;have:=qv0 (K:=fun r=>K r s) b hK;simp_all
theorem qB7 {op:UnOp} {x:Operand} (h:xUn s op x=some (r,s')) (hK:K r s'):qy0 s op x K:=by unfold xUn at h;unfold qy0;grind
theorem qwY {t:TypeId} {x:Operand} (h:qF9 T s t x=some (r,s')) (hK:K r s'):qkx T s t x K:=by
 unfold qF9 at h;unfold qkx;split at h
 ·simp_all
 ·rename_i c;simp only[c];split at h
  ·rename_i b;obtain⟨rfl,rfl⟩:=q4A h;exact⟨qgW b,hK⟩
  ·cases h
 ·rename_i c;simp only[c];split at h
  ·rename_i b;obtain⟨rfl,rfl⟩:=q4A h;exact⟨qgW b,hK⟩
  ·cases h
 ·rename_i c;simp only[c];split at h
  ·rename_i b;obtain⟨rfl,rfl⟩:=q4A h;exact⟨qgW b,hK⟩
  ·cases h
 ·grind
 ·cases h
theorem qva {x y:Operand} (h:qFE s x y=some (r,s')) (hK:K r s'):qkq s x y K:=by unfold qFE at h;unfold qkq;grind
theorem qwP {x y:Operand} (h:qF2 s x y=some (r,s')) (hK:K r s'):ql8 s x y K:=by unfold qF2 at h;unfold ql8;grind
theorem qqS {t t':TypeId} {x:Operand} (h:qqQ T s t t' x=some (r,s')) (hK:K r s'):qcX T s t t' x K:=by
 unfold qqQ at h;unfold qcX;split at h
 ·simp_all
 ·grind
 ·simp_all
 ·rename_i c d b;simp only[c,d,b];split at h
  ·rename_i e;obtain⟨j,g,i⟩:=Z7 h;simp_all
  ·cases h
 ·rename_i c d b;simp only[c,d,b];split at h
  ·rename_i e;obtain⟨j,g,i⟩:=Z7 h;simp_all
  ·cases h
 ·simp_all
 ·cases h
theorem qoZ {t:TypeId} {x:Operand} {lo hi mx:Option Operand} (h:qfX T s t x lo hi mx=some (r,s')) (hK:K r s'):q8U T s t x lo hi mx K:=by
 unfold qfX at h;unfold q8U;split at h
 ·grind
 ·grind
 ·rename_i b c;simp only[b];grind
 ·grind
 ·cases h
theorem qpq {t:TypeId} {x:Operand} {f:Nat} (h:qnq T s t x f=some (r,s')) (hK:K r s'):q9v T s t x f K:=by
 unfold qnq at h;unfold q9v;split at h
 ·rename_i b;simp only[b];split at h
  ·rename_i c d g;obtain⟨q,e,i⟩:=Z7 h;grind
  ·cases h
 ·cases h
theorem qpd {t:TypeId} {x y:Operand} (h:qix T s t x y=some (r,s')) (hK:K r s'):q9j T s t x y K:=by
 unfold qix at h;unfold q9j;split at h
 ·rename_i b c i;simp only[b,c];split at h
  ·rename_i d;split at h
   ·rename_i e;obtain⟨q,j,g⟩:=Z7 h;grind
   ·cases h
  ·cases h
 ·grind
 ·cases h
theorem qpb {t:TypeId} {parts:List (Nat×Operand)} (h:qk3 T s t parts=some (r,s')) (hK:K r s'):q9e T s t parts K:=by
 unfold qk3 at h;unfold q9e;split at h
 ·rename_i c b;simp only[b];split at h
  ·rename_i e;obtain⟨q,g,d⟩:=Z7 h;grind
  ·cases h
 ·rename_i c b;simp only[b];split at h
  ·rename_i e;obtain⟨q,g,d⟩:=Z7 h;simp_all
  ·cases h
 ·cases h
theorem qcD {t:TypeId} {len:Nat} {parts:List (Nat×Operand)} (h:q1Y T s t len parts=some (r,s')) (hK:K r s'):q2y T s s.nx t len parts K:=by
 unfold q1Y at h;unfold q2y;split at h
 ·rename_i e g;split at h
  ·rename_i c;obtain⟨q,d,b⟩:=Z7 h;simp_all
  ·cases h
 ·cases h
theorem qfH {f:Fn} {first captured:List Operand} (h:q8E s f first captured=some (r,s')) (hK:K r s'):q36 s f first captured K:=by
 unfold q8E at h;unfold q36;split at h
 ·obtain⟨q,c,b⟩:=Z7 h;obtain⟨g,d,e⟩:=Z7 b;simp_all
 ·cases h
theorem qig {t:TypeId} {x y:Operand} (h:qh1 T s t x y=some (r,s')) (hK:K r s'):qd5 T s s.nx t x y K:=by unfold qh1 at h;unfold qd5;grind
theorem qrD {t:TypeId} {x:Operand} {lo hi:Option Operand} {m:Operand} (h:quu T s t x lo hi (some m)=some (r,s')) (hK:K r s'):qeV T s t x lo hi (some m) K:=by unfold quu at h;unfold qeV;grind
theorem qwA {t:TypeId} {x:Operand} {lo hi mx:Option Operand} (h:qJf T s t x lo hi mx=some (r,s')) (hK:K r s'):qlG T s t x lo hi mx K:=by
 cases mx with
 | none=>exact qoZ h hK
 | some m=>exact qrD h hK
theorem q9f {t:TypeId} {x y:Operand} (h:q7n T s t x y=some (r,s')) (hK:K r s'):q8a T s s.nx t x y K:=by
 unfold q7n at h;unfold q8a;split at h
 ·rename_i e m k g u;split at h
  ·rename_i b;refine⟨e,m,k,g,b.1,b.2.1,b.2.2.1,u,b.2.2.2.1,b.2.2.2.2,?_⟩;split at h
   ·rename_i id M v n G;simp only[G];split at h
    ·rename_i N z i d;split at h
     ·rename_i A;obtain⟨rfl,rfl,q,I,q3,q4,j⟩:=A;split at h
      ·rename_i c;obtain⟨rfl,rfl⟩:=q4A h;exact⟨q,I,i,_,d,(qjs ..).symm,by rw[qjs,qR0];omega,q4,j,c.1,c.2,hK⟩
      ·cases h
     ·cases h
    ·cases h
   ·simp_all
   ·simp_all
   ·cases h
  ·cases h
 ·cases h
end
end
noncomputable section
open Go.RowKit
def qac:List C→Option (List D)
 | []=>some []
 | .d x::r=>(qac r).bind fun l=>some (x::l)
 | _::_=>none
theorem q8f:∀{cs:List C} {ds:List D},qac cs=some ds→cs=ds.map C.d
 | [],ds,h=>by injection h with h;subst h;rfl
 | c::r,ds,h=>by
  unfold qac at h;split at h
  ·simp_all
  ·rename_i x r' heq;injection heq with h1 h2;subst h1 h2;obtain⟨l,h3,h4⟩:=qQC.1 h;injection h4 with h4;subst h4;rw[q8f h3];rfl
  ·cases h
theorem q5J:∀(ds:List D),qac (ds.map C.d)=some ds
 | []=>rfl
 | x::l=>by simp only[qQU,qac,q5J l,qQx]
def pos (i:Nat):List Nat→Option Nat
 | []=>none
 | j::r=>if j=i then some 0 else(pos i r).bind fun k=>some (k+1)
theorem qbk {i:Nat}:∀{l:List Nat} {j:Nat},pos i l=some j→l[j]?=some i
 | [],j,h=>by cases h
 | x::r,j,h=>by
  unfold pos at h;split at h
  ·grind
  ·obtain⟨k,h1,h2⟩:=qQC.1 h;injection h2 with h2;subst h2;rw[qQW];exact qbk h1
def vis (cs:List C) (sz o n:Nat):Option (List C):=if o=0∧cs.length=n*sz then some cs else if o*sz+n*sz≤cs.length then some ((cs.drop (o*sz)).take (n*sz)) else none
theorem qtD {cs:List C} {sz o n:Nat} {l:List C} (h:vis cs sz o n=some l):(cs.drop (o*sz)).take (n*sz)=l∧l.length=n*sz:=by
 unfold vis at h;split at h
 ·rename_i b;injection h with h;obtain⟨rfl,c⟩:=b;grind
 grind
def cv0 (s:S) (sel ln:List Nat) (z:Nat):C→Option C
 | .d x=>some (.d x)
 | .nilp=>some .nilp
 | .nilf=>some .nilf
 | .nilm=>some .nilm
 | .nils=>if z=0 then some .nils else some (.d (.sl z 0 []))
 | .eptr cs o=>some (.eptr cs o)
 | .clp sz n cs=>some (.clp sz n cs)
 | .any=>some .any
 | .ptr i o=>(pos i sel).bind fun j=>some (.ptr j o)
 | .hd k i=>(pos i sel).bind fun j=>some (.hd k j)
 | .own i sz o n=>
  match pos i sel with
  | some j=>some (.own j sz o n)
  | none=>if ln.contains i=true then(vis (s.blk i).cells sz o n).bind fun v=>(qac v).bind fun ds=>some (.d (.sl sz n ds)) else none
 | .fn _ _ _=>none
 | .ow _ _ _ _=>none
def qq6 (s:S) (sel ln:List Nat):List C→Option (List C)
 | []=>some []
 | x::r=>(cv0 s sel ln 0 x).bind fun y=>(qq6 s sel ln r).bind fun l=>some (y::l)
def cv (s:S) (sel ln:List Nat) (z:Nat):C→Option C
 | .fn f fs caps=>(qq6 s sel ln fs).bind fun fs'=>(qq6 s sel ln caps).bind fun caps'=>some (.fn f fs' caps')
 | c=>cv0 s sel ln z c
def cvL (s:S) (sel ln:List Nat):List Nat→List C→Option (List C)
 | _,[]=>some []
 | zs,x::r=>(cv s sel ln (zs.headD 0) x).bind fun y=>(cvL s sel ln zs.tail r).bind fun l=>some (y::l)
def cvR (s:S) (sel ln:List Nat) (zs:List Nat):R→Option R
 | .c x=>(cv s sel ln (zs.headD 0) x).bind fun y=>some (.c y)
 | .agg xs=>(cvL s sel ln zs xs).bind fun ys=>some (.agg ys)
 | .any=>some .any
 | .tup _=>none
def qng (s:S) (sel ln:List Nat):List (List Nat)→List R→Option (List R)
 | _,[]=>some []
 | zs,x::r=>(cvR s sel ln (zs.headD []) x).bind fun y=>(qng s sel ln zs.tail r).bind fun l=>some (y::l)
def qlj (s:S) (sel:List Nat) (r:R):R:=(cvR s sel [] [] r).getD .any
def cvA (s:S) (sel:List Nat):AO→Option AO
 | .mp es ck=>some (.mp (es.map fun e=>(e.1,qlj s sel e.2.1,e.2.2)) ck)
 | .lp f tm ps a b st p=>some (.lp f (tm.map (qlj s sel)) ps a b st p)
 | .si t p=>some (.si t p)
 | .df=>some .df
 | .mi m c l=>some (.mi (qlj s sel m) c l)
 | .m1 _ _ _ _=>none
def cvB (s:S) (sel:List Nat):B→Option B
 | .blk t cs=>(cvL s sel [] [] cs).bind fun ys=>some (.blk t ys)
 | .row e sz cs=>if cs.all C.dat=true then some (.row e sz cs) else none
 | .ob o=>(cvA s sel o).bind fun o'=>some (.ob o')
 | .dead=>none
def cvG (s:S) (sel:List Nat):List Nat→Nat→Option (List (Nat×B))
 | [],_=>some []
 | i::l,j=>(cvB s sel (s.blk i)).bind fun b=>(cvG s sel l (j+1)).bind fun G=>some ((j,b)::G)
section
variable {s:S} {sel ln:List Nat}
theorem qts {z:Nat} {x y:C} (h:cv0 s sel ln z x=some y):CR s sel ln x y:=by
 unfold cv0 at h;split at h
 ·injection h with h;subst h;exact .dat _ rfl
 ·injection h with h;subst h;exact .dat _ rfl
 ·injection h with h;subst h;exact .dat _ rfl
 ·injection h with h;subst h;exact .dat _ rfl
 ·split at h
  ·injection h with h;subst h;exact .dat _ rfl
  ·injection h with h;subst h;exact .nils _
 ·injection h with h;subst h;exact .dat _ rfl
 ·injection h with h;subst h;exact .dat _ rfl
 ·injection h with h;subst h;exact .any _
 ·obtain⟨j,c,b⟩:=qQC.1 h;injection b with b;subst b;exact .ptr _ _ _ (qbk c)
 ·obtain⟨j,c,b⟩:=qQC.1 h;injection b with b;subst b;exact .hd _ _ _ (qbk c)
 ·split at h
  ·rename_i j i;injection h with h;subst h;exact .own _ _ _ _ _ (qbk i)
  ·split at h
   ·rename_i m;obtain⟨v,c,b⟩:=qQC.1 h;obtain⟨q,e,d⟩:=qQC.1 b;injection d with d;subst d;obtain⟨k,t⟩:=qtD c;have g:=q8f e;refine .lend _ _ _ _ _ (by simp_all) (k.trans g) ?_
    simp_all
   ·cases h
 ·cases h
 ·cases h
theorem qmK:∀{xs ys:List C},qq6 s sel ln xs=some ys→PW (CR s sel ln) xs ys
 | [],ys,h=>by injection h with h;subst h;exact PW.nil
 | x::r,ys,h=>by unfold qq6 at h;obtain⟨y,h1,h2⟩:=qQC.1 h;obtain⟨l,c,b⟩:=qQC.1 h2;injection b with b;subst b;exact PW.cons (qts h1) (qmK c)
theorem qE8 {z:Nat} {x y:C} (h:cv s sel ln z x=some y):CR s sel ln x y:=by unfold cv at h;grind [Option.bind_eq_some_iff,CR.fn',qmK,qts]
theorem qnb:∀{zs:List Nat} {xs ys:List C},cvL s sel ln zs xs=some ys→PW (CR s sel ln) xs ys
 | zs,[],ys,h=>by unfold cvL at h;injection h with h;subst h;exact PW.nil
 | zs,x::r,ys,h=>by unfold cvL at h;obtain⟨y,h1,h2⟩:=qQC.1 h;obtain⟨l,c,b⟩:=qQC.1 h2;injection b with b;subst b;exact PW.cons (qE8 h1) (qnb c)
theorem qol {zs:List Nat} {x y:R} (h:cvR s sel ln zs x=some y):AR s sel ln x y:=by
 unfold cvR at h;split at h
 ·obtain⟨e,d,b⟩:=qQC.1 h;injection b with b;subst b;exact .c _ _ (qE8 d)
 ·grind [Option.bind_eq_some_iff,AR.agg',qnb]
 ·injection h with h;subst h;exact .any _
 ·cases h
theorem qnp:∀{zs:List (List Nat)} {xs ys:List R},qng s sel ln zs xs=some ys→ARs s sel ln xs ys
 | zs,[],ys,h=>by unfold qng at h;injection h with h;subst h;exact .nil
 | zs,x::r,ys,h=>by unfold qng at h;obtain⟨y,h1,h2⟩:=qQC.1 h;obtain⟨l,c,b⟩:=qQC.1 h2;injection b with b;subst b;exact .cons _ _ _ _ (qol h1) (qnp c)
theorem qhc {r:R}:AR s sel [] r (qlj s sel r):=by
 unfold qlj;cases h:cvR s sel [] [] r with
 | none=>exact .any _
 | some b=>exact qol h
theorem qyJ {o o':AO} (h:cvA s sel o=some o'):AOR s sel o o':=by
 cases o with
 | mp v k=>
  injection h with h;subst h;refine .mp _ _ _ (by simp) (fun j e u g d=>?_)
  rw[qQL,g] at d;injection d with d;subst d;exact⟨rfl,rfl,qhc⟩
 | lp f q z a b i p=>
  injection h with h;subst h;refine .lp _ _ _ _ _ _ _ _ (by simp) (fun j x y g d=>?_)
  grind [qhc]
 | si t p=>injection h with h;subst h;exact .si _ _
 | df=>injection h with h;subst h;exact .df
 | mi m c l=>injection h with h;subst h;exact .mi _ _ _ _ qhc
 | m1 e m c l=>cases h
theorem qEb {x y:B} (h:cvB s sel x=some y):BR s sel x y:=by
 unfold cvB at h;split at h
 ·obtain⟨g,c,b⟩:=qQC.1 h;injection b with b;subst b;exact .blk _ _ _ (qnb c)
 ·split at h
  ·rename_i d;injection h with h;subst h;exact .row _ _ _ _ (PW.dat d)
  ·cases h
 ·obtain⟨e,c,b⟩:=qQC.1 h;injection b with b;subst b;exact .ob _ _ (qyJ c)
 ·cases h
theorem qlZ:∀{l:List Nat} {j:Nat} {G:List (Nat×B)},cvG s sel l j=some G→GR s sel l j G
 | [],j,G,h=>by unfold cvG at h;injection h with h;subst h;trivial
 | i::l,j,G,h=>by unfold cvG at h;obtain⟨y,h1,h2⟩:=qQC.1 h;obtain⟨d,c,b⟩:=qQC.1 h2;injection b with b;subst b;exact⟨rfl,qEb h1,qlZ c⟩
end
def C.ref0:C→List Nat
 | .ptr i _=>[i]
 | .hd _ i=>[i]
 | .own i _ _ _=>[i]
 | _=>[]
def C.refs:C→List Nat
 | .fn _ fs caps=>(fs++caps).flatMap C.ref0
 | c=>c.ref0
def R.refs0:R→List Nat
 | .c x=>x.refs
 | .agg xs=>xs.flatMap C.refs
 | _=>[]
def B.refs:B→List Nat
 | .blk _ cs=>cs.flatMap C.refs
 | .row _ _ cs=>if cs.all C.dat=true then[] else cs.flatMap C.refs
 | .ob o=>o.Rs.flatMap R.refs0
 | .dead=>[]
def R.refs:R→List Nat
 | .c x=>x.refs
 | .agg xs=>xs.flatMap C.refs
 | .tup rs=>rs.flatMap fun r=>match r with | .c x=>x.refs | .agg xs=>xs.flatMap C.refs|_=>[]
 | .any=>[]
def C.rows0:C→List Nat
 | .own i _ _ _=>[i]
 | _=>[]
def C.rows:C→List Nat
 | .fn _ fs caps=>(fs++caps).flatMap C.rows0
 | c=>c.rows0
def R.rows:R→List Nat
 | .c x=>x.rows
 | .agg xs=>xs.flatMap C.rows
 | _=>[]
def C.ptrs0:C→List Nat
 | .ptr i _=>[i]
 | .hd _ i=>[i]
 | _=>[]
def C.ptrs:C→List Nat
 | .fn _ fs caps=>(fs++caps).flatMap C.ptrs0
 | c=>c.ptrs0
def R.ptrs:R→List Nat
 | .c x=>x.ptrs
 | .agg xs=>xs.flatMap C.ptrs
 | _=>[]
def q4Q (s:S):Nat→List Nat→List Nat→List Nat
 | 0,_,acc=>acc
 | _+1,[],acc=>acc
 | n+1,i::todo,acc=>if acc.contains i=true then q4Q s n todo acc else q4Q s n ((s.blk i).refs++todo) (acc++[i])
def qhp (s:S) (l:List Nat):List Nat:=l.filter fun i=>(s.blk i).isBlk
def q5T (s:S) (l:List Nat):List Nat:=l.filter fun i => !(s.blk i).isBlk
def quX (ln:List Nat) (r:R) (hp:List (Nat×B)):Bool:=ln.isEmpty||(r.scl&&hp.all fun x=>x.2.scl)
def q1T (E:Orc) (s:S) (g:FuncId) (zs:List (List Nat)) (rs:List R) (bl rw ln:List Nat):RS:=
 (qng s (bl++rw) ln zs rs).bind fun rs'=>(cvG s (bl++rw) (bl++rw) 0).bind fun G=>
  if(bl++rw).all (fun i=>(s.blk i).live)=true∧(bl++rw).Nodup∧ln.all (fun i=>(s.blk i).live && !(bl++rw).contains i)=true∧bl.length≤G.length∧(List.range G.length).all (fun j=>(lk G j .dead).isBlk==decide (j<bl.length))=true then
   (E (.fn g) bl.length rs' G).bind fun q=>if quX ln q.1 q.2=true then some (q.1.rn (ren (bl++rw) s.nx),s.aft (bl++rw) bl.length q.2) else none
  else none
def qjO (E:Orc) (s:S) (g:FuncId) (zs:List (List Nat)) (rs:List R) (l:List Nat):RS:=
 q1T E s g zs rs (qhp s l) (q5T s l) (((rs.flatMap R.rows).eraseDups).filter fun i => !l.contains i)
def qGX (ow:List Nat) (rs:List R):List Nat:=ow.flatMap fun i=>((rs[i]?).map R.rows).getD []
def qb3 (E:Orc) (s:S) (g:FuncId) (ow:List Nat) (zs:List (List Nat)) (rs:List R):RS:=qjO E s g zs rs (q4Q s 60 (rs.flatMap R.ptrs++qGX ow rs) [])
def cvT (s:S) (sel ln:List Nat) (r:R):R:=(cvR s sel ln [] r).getD .any
def q7q (E:Orc) (s:S) (rid:Nat) (f:FuncId) (aq0 bd:Code) (rs:List R) (bl rw ln:List Nat):RS:=
 (cvG s (bl++rw) (bl++rw) 0).bind fun G=>
  if(bl++rw).all (fun i=>(s.blk i).live)=true∧(bl++rw).Nodup∧ln.all (fun i=>(s.blk i).live && !(bl++rw).contains i)=true∧bl.length≤G.length∧(List.range G.length).all (fun j=>(lk G j .dead).isBlk==decide (j<bl.length))=true∧0<bl.length∧(bl++rw)[bl.length-1]?=some rid then
   (E (.rd f aq0 bd) bl.length (rs.map (cvT s (bl++rw) ln)) G).bind fun q=>if quX ln q.1 q.2=true then some (q.1.rn (ren (bl++rw) s.nx),s.aft (bl++rw) bl.length q.2) else none
  else none
def qdy (E:Orc) (s:S) (rid:Nat) (f:FuncId) (aq0 bd:Code) (rs:List R) (l:List Nat):RS:=
 q7q E s rid f aq0 bd rs (qhp s l++[rid]) (q5T s l) (((rs.flatMap R.rows).eraseDups).filter fun i => !l.contains i)
def q6a (E:Orc) (s:S) (rid:Nat) (args:List R):RS:=
 match s.blk rid with
 | .ob (.lp f tm ps aq0 bd .ready none)=>if args.length=ps.length then qdy E s rid f aq0 bd (qb1 tm ps args) (q4Q s 60 ((qb1 tm ps args).flatMap R.ptrs) []) else none
 | _=>none
structure Snd (P:Program) (E:Orc):Prop where
 fn:∀g k args G r G',E (.fn g) k args G=some (r,G')→AC P g args G k fun r' hp'=>r'=r∧hp'=G'
 rd:∀f aq0 bd k tm G r G',E (.rd f aq0 bd) k tm G=some (r,G')→RA P aq0 bd tm G k fun r' hp'=>r'=r∧hp'=G'
section
variable {P:Program} {E:Orc} {s s':S} {r:R} {K:KK}
theorem qbH (hE:Snd P E) {g:FuncId} {zs:List (List Nat)} {rs:List R} {bl rw ln:List Nat} (h:q1T E s g zs rs bl rw ln=some (r,s')) (hK:K r s'):q3l P s g rs K:=by
 unfold q1T at h;obtain⟨d,t,x⟩:=qQC.1 h;obtain⟨G,z,c⟩:=qQC.1 x;split at c
 ·rename_i k;obtain⟨y,v,u,m,N⟩:=k;obtain⟨q,A,e⟩:=qQC.1 c;split at e
  ·rename_i b;obtain⟨rfl,rfl⟩:=q4A e;have i:∀j,j<G.length→(lk G j .dead).isBlk=decide (j<bl.length):=fun j I=>by simp_all
   refine q3l.sel (bl++rw) ln (hE.fn g bl.length d G q.1 q.2 A) (qnp t) (qlZ z) y v u m i ?_;rintro r M ⟨rfl,rfl⟩;refine⟨?_,hK⟩;unfold quX at b;simp only[qR2,qR3,List.isEmpty_iff] at b;exact b
  ·cases e
 ·cases c
theorem qAV {sel ln:List Nat} {r:R}:AR s sel ln r (cvT s sel ln r):=by
 unfold cvT;cases h:cvR s sel ln [] r with
 | none=>exact .any _
 | some b=>exact qol h
theorem qp3 {sel ln:List Nat}:∀(rs:List R),ARs s sel ln rs (rs.map (cvT s sel ln))
 | [] => .nil
 | r::rs => .cons _ _ _ _ qAV (qp3 rs)
theorem qpn (hE:Snd P E) {cx:Cx} {ρ:Pl} {a:Act} {w:World} {o:Oper} {next:Act→World→Prop} {Q':Exit→Act→World→Prop} (hs:Sim cx ρ s a w) {y:Operand} {args:Array Operand} {ts:Array TypeId} {rid:Nat} (ho:o.op = .call { callee := .value y,args,argTypes:=ts }) (hy:s.ev y = .c (.hd .yield rid))
  (h:q6a E s rid (args.toList.map s.ev)=some (r,s')) (hn:JN cx (fun r' s''=>r'=r∧s''=s') o a next):o.wpIn (FW cx.ro) 0 P a w next Q':=by
 unfold q6a at h;split at h
 ·rename_i f m u k I v;split at h
  ·rename_i t;unfold qdy at h;generalize qhp s (q4Q s 60 ((qb1 m u (args.toList.map s.ev)).flatMap R.ptrs) [])++[rid]=g at h;generalize q5T s (q4Q s 60 ((qb1 m u (args.toList.map s.ev)).flatMap R.ptrs) [])=rw at h;generalize List.filter _ _=ln at h;unfold q7q at h;obtain⟨G,U,d⟩:=qQC.1 h;split at d
   ·rename_i x;obtain⟨N,M,A,z,c5,V,O⟩:=x;obtain⟨q,W,i⟩:=qQC.1 d;split at i
    ·rename_i b;obtain⟨rfl,rfl⟩:=q4A i;have e:∀j,j<G.length→(lk G j .dead).isBlk=decide (j<g.length):=fun j Y=>by simp_all
     refine qrT hs ho hy v (by simp_all) (g++rw) ln (hE.rd f k I g.length _ G q.1 q.2 W) (qp3 _) (qlZ U) N M A z e V O ?_ hn
     rintro r Z ⟨rfl,rfl⟩;refine⟨?_,rfl,rfl⟩;unfold quX at b;simp only[qR2,qR3,List.isEmpty_iff] at b;exact b
    ·cases i
   ·cases d
  ·cases h
 ·cases h
theorem qf0 (hE:Snd P E) {g:FuncId} {ow:List Nat} {zs:List (List Nat)} {rs:List R} (h:qb3 E s g ow zs rs=some (r,s')) (hK:K r s'):q3l P s g rs K:=
 qbH hE h hK
end
def fz0 (s:S) (X:List Nat):C→C
 | .own i sz o n=>if X.contains i=true then(match (vis (s.blk i).cells sz o n).bind qac with|some ds => .d (.sl sz n ds)|none => .any) else .own i sz o n
 | .ptr i o=>if X.contains i=true then .any else .ptr i o
 | .hd k i=>if X.contains i=true then .any else .hd k i
 | .fn _ _ _ => .any
 | c=>c
def fz (s:S) (X:List Nat):C→C
 | .fn f fs caps => .fn f (fs.map (fz0 s X)) (caps.map (fz0 s X))
 | c=>fz0 s X c
def qq5 (s:S) (X:List Nat):R→R
 | .c x => .c (fz s X x)
 | .agg xs => .agg (xs.map (fz s X))
 | _ => .any
def fzR (s:S) (X:List Nat):R→R
 | .tup rs => .tup (rs.map (qq5 s X))
 | r=>qq5 s X r
def fzB (s:S) (X:List Nat):B→B
 | .blk t cs => .blk t (cs.map (fz s X))
 | .row e sz cs => .row e sz (cs.map (fz s X))
 | .ob o => .ob (o.mapR (qq5 s X))
 | .dead => .dead
def S.frz1 (s:S) (X:List Nat):S:={ s with tm:=s.tm.map (fun x=>(x.1,fzR s X x.2)),hp:=X.map (fun i=>(i,B.dead))++s.hp.map (fun x=>(x.1,fzB s X x.2)) }
def S.frz (s:S) (X:List Nat):S:=match X with | []=>s|X=>s.frz1 X
theorem qD1 (s:S) (X:List Nat) (ds:List D):(ds.map C.d).map (fz s X)=ds.map C.d:=by rw[List.map_map];rfl
theorem qn0 (s:S) (X:List Nat) (x:B):(fzB s X x).isBlk=x.isBlk:=by cases x<;>rfl
theorem qrA (s:S) (X:List Nat) (x:B):(fzB s X x).live=x.live:=by cases x<;>rfl
theorem RC.ow_to {w:World} {L L':Nat→Prop} {ρ ρ':Pl} {v:Value} {e:TypeId} {sz n:Nat} {cs:List D} (h:RC w L ρ v (.ow e sz n cs)) (hF:∀b,ρ.F b→ρ'.F b) (ho:∀b,Occ L' ρ' b→Occ L ρ b):RC w L' ρ' v (.ow e sz n cs):=by
 cases h with
 | ow e sz n b g cs z d t u i x y k q=>exact .ow e sz n b g cs z (hF b d) t u i x y k (fun j c m=>(q j c m).occ ho)
 | ow0 e sz d=>exact .ow0 e sz d
theorem qJ5 {s:S} {X:List Nat} {c:C} (h:(fz s X c).isOw=true):c.isOw=true:=by
 cases c with
 | ow e b n d=>rfl
 | ptr i o=>simp only[fz,fz0] at h;split at h<;>cases h
 | hd k i=>simp only[fz,fz0] at h;split at h<;>cases h
 | own i b o n=>
  simp only[fz,fz0] at h;split at h
  ·split at h<;>cases h
  ·cases h
 | _=>cases h
theorem qCy {s:S} {X:List Nat} {x:B} {j:Nat} {y:C} (h:(fzB s X x).cells[j]?=some y) (ho:y.isOw=true):∃z,x.cells[j]?=some z∧z.isOw=true:=by
 have e:(fzB s X x).cells=x.cells.map (fz s X):=by cases x<;>rfl
 grind [Option.map_eq_some_iff,qJ5]
section
variable {cx:Cx} {ρ:Pl} {s:S} {a:Act} {w:World} {X:List Nat}
theorem S.frz1_get (i:Nat):(s.frz1 X).get i=fzR s X (s.get i):=q1S (fzR s X) s.tm i .any rfl
theorem S.frz1_blk (i:Nat):(s.frz1 X).blk i=if i∈X then .dead else fzB s X (s.blk i):=by show lk (X.map (fun i=>(i,B.dead))++s.hp.map (fun x=>(x.1,fzB s X x.2))) i .dead=_;rw[qes,q1S (fzB s X) s.hp i .dead rfl];rfl
theorem Sim.frz1 (hs:Sim cx ρ s a w) (hX:∀i∈X,(s.blk i).isBlk=false):Sim cx ρ (s.frz1 X) a w∧∀v r,RR w s.live ρ v r→RR w (s.frz1 X).live ρ v (fzR s X r):=by
 have g:∀i,(s.frz1 X).live i↔s.live i∧i ∉ X:=fun i=>by
  unfold S.live;rw[S.frz1_blk];by_cases u:i∈X
  ·rw[if_pos u];exact⟨fun h=>(by cases h),fun h=>absurd u h.2⟩
  simp_all [if_neg,qrA]
 have m:∀b,Occ (s.frz1 X).live ρ b→Occ s.live ρ b:=fun b h=>by
  rcases h with h|⟨i,c,G,A⟩
  ·exact .inl h
  ·exact .inr ⟨i,c,((g i).1 G).1,A⟩
 have ad:∀id,s.live id→id∈X→∀b q,ρ id=some (b,q)→¬ Occ (s.frz1 X).live ρ b:=fun id hl af b q N hO=>by
  rcases hO with h|⟨i,c,G,A⟩
  ·exact hs.disj id b q hl N h
  ·have U:=(g i).1 G;have:=hs.inj i id b c q U.1 hl A N;simp_all
 have c0:∀v x,RC w s.live ρ v x→RC w (s.frz1 X).live ρ v (fz0 s X x):=by
  intro v x h;cases x with
  | own i W o n=>
   show RC w _ ρ v (if X.contains i=true then _ else _);split
   ·rename_i hc;split
    ·rename_i ds ab;obtain⟨l,G,A⟩:=qQC.1 ab;obtain⟨U,Y⟩:=qtD G;have h5:=q8f A;have hl:s.live i:=by cases h with|own _ _ _ _ b q I O q3 q4=>exact I|own0 _ _ I O=>exact I
     exact .d _ _ (qnH hs h (U.trans h5) (by simp_all) m (ad i hl (by simp_all)))
    ·exact .any _
   ·rename_i hc;have u:i ∉ X:=by simp_all
    cases h with
    | own _ _ _ _ b q I O q3 q4=>exact .own i W o n b q ((g i).2 ⟨I,u⟩) O q3 q4
    | own0 _ _ I O=>exact .own0 i W ((g i).2 ⟨I,u⟩) O
  | ptr i o=>
   show RC w _ ρ v (if X.contains i=true then _ else _);split
   ·exact .any _
   ·rename_i hc;have u:i ∉ X:=by simp_all
    cases h with|ptr _ _ b q I O=>exact .ptr i o b q ((g i).2 ⟨I,u⟩) O
  | hd k i=>
   show RC w _ ρ v (if X.contains i=true then _ else _);split
   ·exact .any _
   ·rename_i hc;have u:i ∉ X:=by simp_all
    cases h with|hd _ _ b q I O=>exact .hd k i b q ((g i).2 ⟨I,u⟩) O
  | fn f fs aa=>exact .any _
  | d x=>exact h.dat' rfl m
  | nilp=>exact h.dat' rfl m
  | nilf=>exact h.dat' rfl m
  | nilm=>exact h.dat' rfl m
  | nils=>exact h.dat' rfl m
  | eptr V o=>exact h.dat' rfl m
  | clp W n V=>exact h.dat' rfl m
  | ow e W n V=>exact h.ow_to (fun b hb=>hb) m
  | any=>exact .any _
 have c1:∀v x,RC w s.live ρ v x→RC w (s.frz1 X).live ρ v (fz s X x):=by
  intro v x h;cases x with
  | fn f fs aa=>
   cases h with
   | fn _ _ _ us M G A U Y=>
    refine .fn f _ _ us M (by simp_all) (fun j c Z=>?_) (by simp_all) (fun j c Z=>?_)
    ·grind
    grind
  | _=>exact c0 _ _ h
 have cm:∀{M:Nat→Value} {V:List C},(∀j c,V[j]?=some c→RC w s.live ρ (M j) c)→∀j c,(V.map (fz s X))[j]?=some c→RC w (s.frz1 X).live ρ (M j) c:=fun h j c Z=>by grind
 have r0:∀v r,RR w s.live ρ v r→RR w (s.frz1 X).live ρ v (qq5 s X r):=by
  intro v r h;cases h with
  | c v x h=>exact .c _ _ (c1 _ _ h)
  | agg M xs G A=>exact .agg _ _ (by simp_all) (cm A)
  | tup M xs G A=>exact .any _
  | any v=>exact .any _
 have r1:∀v r,RR w s.live ρ v r→RR w (s.frz1 X).live ρ v (fzR s X r):=by
  intro v r h;cases r with
  | tup rs=>
   cases h with
   | tup M _ G A=>
    refine .tup _ _ (by simp_all) (fun j c Z=>?_)
    grind
  | _=>exact r0 _ _ h
 refine⟨⟨hs.hd.mono (qQN _) (fun _ _ _=>rfl) (fun b _ h=>m b h),hs.size,fun i=>by rw[S.frz1_get];exact r1 _ _ (hs.tm i),fun i b c u N=>?_,fun i u N=>?_,fun i b c u N=>hs.out i b c ((g i).1 u).1 N,
  fun i j b c c' u Z ae ac=>hs.inj i j b c c' ((g i).1 u).1 ((g j).1 Z).1 ae ac,fun i u=>hs.nx i ((g i).1 u).1,hs.kept,hs.oldF,fun i u=>?_,fun i b c u N=>hs.disj i b c ((g i).1 u).1 N,?_⟩,r1⟩
 ·obtain⟨G,A⟩:=(g i).1 u;obtain⟨U,Y⟩:=hs.hp i b c G N;refine⟨U,?_⟩;rw[S.frz1_blk,if_neg A];generalize s.blk i=x at Y;cases x with
  | blk t V=>obtain⟨M,g1,g2,g3⟩:=Y;exact⟨M,g1,by simp_all,cm g3⟩
  | row e W V=>obtain⟨M,g1,g2,g3,g4,g5,g6⟩:=Y;exact⟨M,g1,by simp_all,g3,g4,g5,cm g6⟩
  | ob o=>exact HO.map rfl (fun v x _ hx=>r0 v x hx) Y
  | dead=>trivial
 ·obtain⟨G,A⟩:=(g i).1 u;obtain⟨e,W,U⟩:=hs.hp0 i G N;exact⟨e,W,by rw[S.frz1_blk,if_neg A,U];rfl⟩
 ·obtain⟨G,A⟩:=hs.pin i u;have hn:i ∉ X:=fun h=>by simp_all
  simp_all [S.frz1_blk,if_neg,qn0]
 ·refine hs.ows.sub hs.ows.lt fun i j d hw=>?_;obtain⟨b,c,y,n,c',l1,l2,l3,l4,l5⟩:=hw;obtain⟨G,A⟩:=(g i).1 l1;rw[S.frz1_blk,if_neg A] at l3;obtain⟨z,e1,e2⟩:=qCy l3 l4;exact⟨b,c,z,n,c',G,l2,e1,e2,l5⟩
theorem Sim.frz (hs:Sim cx ρ s a w) (hX:X.all (fun i => !(s.blk i).isBlk)=true):Sim cx ρ (s.frz X) a w:=by
 cases X with
 | nil=>exact hs
 | cons x X=>exact(hs.frz1 fun i b=>by grind).1
end
def dz (z:Nat):C→C
 | .nils=>if z=0 then .nils else .d (.sl z 0 [])
 | c=>c
def C.isNils:C→Bool
 | .nils=>true
 | _=>false
def dzc (zs0:List Nat):List Nat→List C→List C
 | _,[]=>[]
 | [],x::r=>dz (zs0.headD 0) x::dzc zs0 zs0.tail r
 | z::zs,x::r=>dz z x::dzc zs0 zs r
def B.nilr:B→Bool
 | .row _ _ cs=>cs.any C.isNils
 | _=>false
def dzB (Q:TypeId→List Nat):B→B
 | .row e sz cs=>if cs.any C.isNils=true then .row e sz (dzc (Q e) [] cs) else .row e sz cs
 | b=>b
def S.dzr (s:S) (Q:TypeId→List Nat):S:=if s.hp.any (fun x=>x.2.nilr)=true then { s with hp:=s.hp.map fun x=>(x.1,dzB Q x.2) } else s
theorem qro (ds:List D):(ds.map C.d).any C.isNils=false:=by grind [List.any_map,List.any_eq_false,C.isNils]
section
variable {cx:Cx} {ρ:Pl} {s:S} {a:Act} {w:World} {Q:TypeId→List Nat}
theorem quF {L:Nat→Prop} {v:Value} {x:C} (z:Nat) (h:RC w L ρ v x):RC w L ρ v (dz z x):=by
 unfold dz;split
 ·split
  ·exact h
  ·rw[(RR.c _ _ h).inv_nils];exact .d _ _ (.nil _ _ _ (qQX _) (fun _=>rfl))
 ·exact h
theorem qjj (zs0:List Nat):∀(zs:List Nat) (cs:List C),(dzc zs0 zs cs).length=cs.length∧∀(j:Nat) (y:C),(dzc zs0 zs cs)[j]?=some y→∃x z,cs[j]?=some x∧y=dz z x
 | zs,[]=>by cases zs<;>exact⟨rfl,fun j y h=>by simp[dzc] at h⟩
 | [],x::r=>by
  obtain⟨h1,h2⟩:=qjj zs0 zs0.tail r;refine⟨by simp[dzc,h1],fun j y b=>?_⟩
  cases j with
  | zero=>simp only[dzc,qQH,qRn] at b;grind
  | succ j=>simp only[dzc,qQW] at b ⊢;simp_all
 | z::zs,x::r=>by
  obtain⟨h1,h2⟩:=qjj zs0 zs r;refine⟨by simp[dzc,h1],fun j y b=>?_⟩
  cases j with
  | zero=>simp only[dzc,qQH,qRn] at b;grind
  | succ j=>simp only[dzc,qQW] at b ⊢;simp_all
theorem qev (e:TypeId) (sz:Nat) (cs:List C):dzB Q (.row e sz cs)=if cs.any C.isNils=true then .row e sz (dzc (Q e) [] cs) else .row e sz cs:=rfl
theorem qrp (b:B):(dzB Q b).live=b.live:=by
 cases b with
 | row e d c=>rw[qev];split<;>rfl
 | _=>rfl
theorem qpe (b:B):(dzB Q b).isBlk=b.isBlk:=by
 cases b with
 | row e d c=>rw[qev];split<;>rfl
 | _=>rfl
theorem S.dzr_blk (s:S) (i:Nat):(s.dzr Q).blk i=dzB Q (s.blk i)∨(s.dzr Q).blk i=s.blk i:=by
 unfold S.dzr;split
 ·exact .inl (q1S (dzB Q) s.hp i .dead rfl)
 simp_all
theorem S.dzr_live (s:S):(s.dzr Q).live=s.live:=by grind [S.live,S.dzr_blk,qrp]
theorem Sim.dzr (h:Sim cx ρ s a w) (Q:TypeId→List Nat):Sim cx ρ (s.dzr Q) a w:=by
 have u:=S.dzr_live (Q:=Q) s;have hg:∀i,(s.dzr Q).get i=s.get i:=fun i=>by unfold S.dzr;split<;>rfl
 have hn:(s.dzr Q).n=s.n:=by grind [S.dzr]
 have O:(s.dzr Q).nx=s.nx:=by grind [S.dzr]
 refine⟨by rw[u];exact h.hd,by rw[hn];exact h.size,fun i=>by rw[u,hg];exact h.tm i,fun i b I v M=>?_,fun i v M=>?_,by rw[u];exact h.out,by rw[u];exact h.inj,by rw[u,O];exact h.nx,h.kept,h.oldF,fun i v=>?_,by rw[u];exact h.disj,?_⟩
 ·rw[u] at v ⊢;obtain⟨Z,m⟩:=h.hp i b I v M;refine⟨Z,?_⟩;rcases S.dzr_blk (Q:=Q) s i with e|e
  ·rw[e];cases hb:s.blk i with
   | row A N G=>
    rw[hb] at m;rw[qev];split
    ·obtain⟨vs,g1,g2,g3,g4,g5,g6⟩:=m;obtain⟨q1,q2⟩:=qjj (Q A) [] G;refine⟨vs,g1,by omega,g3,g4,g5,fun j c hj=>?_⟩
     grind [quF]
    ·exact m
   | blk t G=>rw[hb] at m;exact m
   | ob o=>rw[hb] at m;exact m
   | dead=>rw[hb] at m;exact m
  simp_all
 ·rw[u] at v;obtain⟨e,N,g⟩:=h.hp0 i v M;rcases S.dzr_blk (Q:=Q) s i with A | A
  ·exact⟨e,N,by rw[A,g];rfl⟩
  simp_all
 ·obtain⟨Z,m⟩:=h.pin i v;grind [S.dzr_blk,qpe]
 ·refine h.ows.sub h.ows.lt fun i j d hw=>?_;obtain⟨b,c,y,n,Y,U,V,k,q,W⟩:=hw;rw[u] at U;rcases S.dzr_blk (Q:=Q) s i with e|e
  ·rw[e] at k;obtain⟨z,e1,e2⟩:∃z,(s.blk i).cells[j]?=some z∧z.isOw=true:=by
    cases hb:s.blk i with
    | row A N G=>
     rw[hb,qev] at k;split at k
     ·obtain⟨x,z,r1,r2⟩:=(qjj (Q A) [] G).2 j y k;refine⟨x,r1,?_⟩;subst r2;unfold dz at q;split at q
      ·split at q<;>first|exact q|cases q
      ·exact q
     simp_all
    | blk t G=>rw[hb] at k;exact⟨y,k,q⟩
    | ob o=>rw[hb] at k;exact⟨y,k,q⟩
    | dead=>rw[hb] at k;exact⟨y,k,q⟩
   exact⟨b,c,z,n,Y,U,V,e1,e2,W⟩
  ·rw[e] at k;exact⟨b,c,y,n,Y,U,V,k,q,W⟩
end
end
noncomputable section
open Go.RowKit
def cn0 (ids:List Nat):C→C
 | .ptr i o=>match pos i ids with|some j => .ptr j o|none => .any
 | .hd k i=>match pos i ids with|some j => .hd k j|none => .any
 | .own i sz o n=>match pos i ids with|some j => .own j sz o n|none => .any
 | .fn _ _ _ => .any
 | c=>c
def cn (ids:List Nat):C→C
 | .fn f fs caps => .fn f (fs.map (cn0 ids)) (caps.map (cn0 ids))
 | c=>cn0 ids c
def qoF (ids:List Nat):R→R
 | .c x => .c (cn ids x)
 | .agg xs => .agg (xs.map (cn ids))
 | _ => .any
def cnR (ids:List Nat):R→R
 | .tup rs => .tup (rs.map (qoF ids))
 | r=>qoF ids r
def cnB (ids:List Nat):B→B
 | .blk t cs => .blk t (cs.map (cn ids))
 | .row e sz cs => .row e sz (cs.map (cn ids))
 | .ob o => .ob (o.mapR (qoF ids))
 | .dead => .dead
def cnH (s:S) (ids:List Nat):List Nat→Nat→List (Nat×B)
 | [],_=>[]
 | i::l,j=>(j,cnB ids (s.blk i))::cnH s ids l (j+1)
theorem qBI (ids:List Nat) (ds:List D):(ds.map C.d).map (cn ids)=ds.map C.d:=by rw[List.map_map];rfl
theorem qpC (ids:List Nat) (x:B):(cnB ids x).isBlk=x.isBlk:=by cases x<;>rfl
theorem qri (ids:List Nat) (x:B):(cnB ids x).live=x.live:=by cases x<;>rfl
theorem qGq {ids:List Nat} {c:C} (h:(cn ids c).isOw=true):c.isOw=true:=by
 cases c with
 | ow e b n d=>rfl
 | ptr i o=>simp only[cn,cn0] at h;split at h<;>cases h
 | hd k i=>simp only[cn,cn0] at h;split at h<;>cases h
 | own i b o n=>simp only[cn,cn0] at h;split at h<;>cases h
 | _=>cases h
theorem qze {ids:List Nat} {x:B} {j:Nat} {y:C} (h:(cnB ids x).cells[j]?=some y) (ho:y.isOw=true):∃z,x.cells[j]?=some z∧z.isOw=true:=by
 have e:(cnB ids x).cells=x.cells.map (cn ids):=by cases x<;>rfl
 grind [Option.map_eq_some_iff,qGq]
theorem qtK (s:S) (ids:List Nat):∀(l:List Nat) (k j:Nat),lk (cnH s ids l k) j .dead=if k≤j then(match l[j-k]? with|some i=>cnB ids (s.blk i)|none => .dead) else .dead
 | [],k,j=>by simp[cnH,lk]
 | i::l,k,j=>by
  unfold cnH lk;by_cases h:k=j
  ·subst h;simp
  ·rw[if_neg h,qtK s ids l (k+1) j];grind
section
variable {cx:Cx} {ρ:Pl} {s:S} {a a':Act} {w:World} {ids:List Nat}
theorem Sim.canon (hs:Sim cx ρ s a w) (hnd:ids.Nodup) (hl:ids.all (fun i=>(s.blk i).live)=true) (hpin:∀i,i<cx.k→ids[i]?=some i) {tm:List (Nat×R)} {n:Nat}
  (hd:Hd cx a'.defers w (Occ s.live ρ)) (hz:a'.tmps.size=n) (htm:∀i,lk tm i .any = .any∨∃r,RR w s.live ρ (a'.tmps.getD i undef) r∧lk tm i .any=cnR ids r) :
  ∃ρ',Sim cx ρ' ⟨tm,cnH s ids ids 0,ids.length,n⟩ a' w∧∀v r,RR w s.live ρ v r→RR w (S.live ⟨tm,cnH s ids ids 0,ids.length,n⟩) ρ' v (cnR ids r):=by
 obtain⟨s',U⟩:∃s':S,s'=⟨tm,cnH s ids ids 0,ids.length,n⟩:=⟨_,rfl⟩;rw[←U];have M:∀j,s'.blk j=match ids[j]? with|some i=>cnB ids (s.blk i)|none => .dead:=fun j=>by rw[U];show lk (cnH s ids ids 0) j .dead=_;rw[qtK,if_pos (qQX _),qRq]
 have G:∀{i j:Nat},ids[j]?=some i→s.live i:=fun {i j} g=>qQO.1 hl i (qQy g);have z:∀{i j:Nat},ids[j]?=some i→s'.live j:=fun {i j} g=>by grind [S.live,qri]
 have m:∀j,s'.live j→∃i,ids[j]?=some i:=fun j g=>by
  unfold S.live at g;rw[M] at g;cases h:ids[j]? with
  | none=>rw[h] at g;cases g
  | some i=>simp_all
 obtain⟨ρ',ae⟩:∃ρ':Pl,ρ'=⟨fun j=>(ids[j]?).bind ρ.at_,ρ.F⟩:=⟨_,rfl⟩;have A:ρ'.F=ρ.F:=by rw[ae]
 have q:∀{i j:Nat},ids[j]?=some i→ρ' j=ρ i:=fun {i j} g=>by simp_all
 have u:∀b,Occ s'.live ρ' b→Occ s.live ρ b:=fun b h=>by
  rcases h with h|⟨j,c,h1,V⟩
  ·exact .inl (A ▸ h)
  ·obtain⟨i,y⟩:=m j h1;exact .inr ⟨i,c,G y,(q y).symm.trans V⟩
 have c0:∀v x,RC w s.live ρ v x→RC w s'.live ρ' v (cn0 ids x):=by
  intro v x h;cases x with
  | ptr i o=>
   simp only[cn0];split
   ·rename_i j g;have g:=qbk g;cases h with|ptr _ _ b I q1 Z=>exact .ptr j o b I (z g) ((q g).trans Z)
   ·exact .any _
  | hd k i=>
   simp only[cn0];split
   ·rename_i j g;have g:=qbk g;cases h with|hd _ _ b I q1 Z=>exact .hd k j b I (z g) ((q g).trans Z)
   ·exact .any _
  | own i sz o n=>
   simp only[cn0];split
   ·rename_i j g;have g:=qbk g;cases h with
    | own _ _ _ _ b I q1 Z q3 q4=>exact .own j sz o n b I (z g) ((q g).trans Z) q3 q4
    | own0 _ _ q1 Z=>exact .own0 j sz (z g) ((q g).trans Z)
   ·exact .any _
  | fn f fs ac=>exact .any _
  | d x=>exact h.dat' rfl u
  | nilp=>exact h.dat' rfl u
  | nilf=>exact h.dat' rfl u
  | nilm=>exact h.dat' rfl u
  | nils=>exact h.dat' rfl u
  | eptr Y o=>exact h.dat' rfl u
  | clp sz n Y=>exact h.dat' rfl u
  | ow e sz n Y=>exact h.ow_to (fun b hb=>A ▸ hb) u
  | any=>exact .any _
 have c1:∀v x,RC w s.live ρ v x→RC w s'.live ρ' v (cn ids x):=by
  intro v x h;cases x with
  | fn f fs ac=>
   cases h with
   | fn _ _ _ us O h1 V h3 h4=>
    refine .fn f _ _ us O (by simp_all) (fun j c g=>?_) (by simp_all) (fun j c g=>?_)
    ·grind
    grind
  | _=>exact c0 _ _ h
 have cm:∀{O:Nat→Value} {Y:List C},(∀j c,Y[j]?=some c→RC w s.live ρ (O j) c)→∀j c,(Y.map (cn ids))[j]?=some c→RC w s'.live ρ' (O j) c:=fun h j c g=>by grind
 have r0:∀v r,RR w s.live ρ v r→RR w s'.live ρ' v (qoF ids r):=by
  intro v r h;cases h with
  | c v x h=>exact .c _ _ (c1 _ _ h)
  | agg O xs h1 V=>exact .agg _ _ (by simp_all) (cm V)
  | tup O xs h1 V=>exact .any _
  | any v=>exact .any _
 have r1:∀v r,RR w s.live ρ v r→RR w s'.live ρ' v (cnR ids r):=by
  intro v r h;cases r with
  | tup rs=>
   cases h with
   | tup O _ h1 V=>
    refine .tup _ _ (by simp_all) (fun j c g=>?_)
    grind
  | _=>exact r0 _ _ h
 refine⟨ρ',⟨hd.mono (qQN _) (fun _ _ _=>rfl) (fun b _ h=>u b h),by rw[hz,U],fun i=>?_,fun j b c g N=>?_,fun j g N=>?_,fun j b c g N=>?_,fun j j' b c c' g ad ab W=>?_,fun j g=>?_,hs.kept,fun b hb=>⟨A ▸ (hs.oldF b hb).1,(hs.oldF b hb).2⟩,fun i y=>?_,fun j b c g N=>?_,?_⟩,r1⟩
 ·have:s'.get i=lk tm i .any:=by rw[U];rfl
  rw[this];rcases htm i with h|⟨r,h1,V⟩
  ·rw[h];exact .any _
  simp_all
 ·obtain⟨i,y⟩:=m j g;rw[q y] at N;obtain⟨h3,h4⟩:=hs.hp i b c (G y) N;refine⟨h3,?_⟩;rw[M,y];simp only;generalize s.blk i=x at h4;cases x with
  | blk t Y=>obtain⟨O,g1,g2,g3⟩:=h4;exact⟨O,g1,by simp_all,cm g3⟩
  | row e sz Y=>obtain⟨O,g1,g2,g3,g4,g5,g6⟩:=h4;exact⟨O,g1,by simp_all,g3,g4,g5,cm g6⟩
  | ob o=>exact HO.map rfl (fun v x _ hx=>r0 v x hx) h4
  | dead=>trivial
 ·obtain⟨i,y⟩:=m j g;rw[q y] at N;obtain⟨e,sz,h3⟩:=hs.hp0 i (G y) N;exact⟨e,sz,by rw[M,y];simp only;rw[h3];rfl⟩
 ·obtain⟨i,y⟩:=m j g;rw[q y] at N;exact hs.out i b c (G y) N
 ·obtain⟨i,y⟩:=m j g;obtain⟨i',aa⟩:=m j' ad;rw[q y] at ab;rw[q aa] at W;have:=hs.inj i i' b c c' (G y) (G aa) ab W;grind [List.getElem?_eq_some_iff,List.getElem_inj]
 ·grind
 ·obtain⟨h1,V⟩:=hs.pin i y;grind [trans,qpC]
 ·obtain⟨i,y⟩:=m j g;rw[q y] at N;rw[A];exact hs.disj i b c (G y) N
 ·refine hs.ows.map (fun j=>(ids[j]?).getD 0) (fun b hb=>hs.ows.lt b (A ▸ hb)) (fun j j' g ad he=>?_) fun j k d hw=>?_
  ·grind [List.getElem?_eq_some_iff,List.getElem_inj]
  grind [qze,qeA]
theorem Sim.row0 (h:Sim cx ρ s a w) {p:Nat} (hp:¬ s.live p) (e:TypeId) (sz:Nat):∃ρ':Pl,Sim cx ρ' (s.up [(p,.row e sz [])]) a w∧ρ' p=none∧(∀v r,RR w s.live ρ v r→RR w (s.up [(p,.row e sz [])]).live ρ' v r)∧∀i,s.live i→ρ' i=ρ i:=by
 obtain⟨ρ',M⟩:∃ρ':Pl,ρ'=⟨fun i=>if i=p then none else ρ i,ρ.F⟩:=⟨_,rfl⟩;have G:ρ' p=none:=by simp_all
 have q:∀i,i≠p→ρ' i=ρ i:=fun i k=>by simp_all
 have I:∀i,s.live i→i≠p:=fun i k e=>hp (e ▸ k);have O:∀i,s.live i→(s.up [(p,.row e sz [])]).live i:=fun i k=>by simp_all [S.live,S.blk_up,if_neg,Ne.symm]
 have m:∀i,(s.up [(p,.row e sz [])]).live i→i≠p→s.live i:=fun i k x=>by simp_all [S.live,S.blk_up,if_neg,Ne.symm]
 have A:q8Y w s.live ρ w (s.up [(p,.row e sz [])]).live ρ':=by
  refine⟨qQN _,fun _ _ _=>rfl,fun b _ hO=>?_,fun i k=>⟨O i k,q i (I i k)⟩,fun b hF=>⟨by simp_all,fun _=>rfl⟩⟩
  rcases hO with h|⟨i,c,t,u⟩
  ·exact .inl (by simp_all)
  ·have x:i≠p:=fun e=>by simp_all
   exact .inr ⟨i,c,m i t x,(q i x).symm.trans u⟩
 have g:∀i b c,ρ' i=some (b,c)→i≠p∧ρ i=some (b,c):=fun i b c z=>by simp_all
 refine⟨ρ',⟨h.hd.stay A,h.size,fun i=>(h.tm i).stay A,fun i b c k z=>?_,fun i k z=>?_,fun i b c k z=>?_,fun i j b c N k hj Y U=>?_,fun i k=>?_,h.kept,fun b Z=>⟨by rw[M];exact(h.oldF b Z).1,(h.oldF b Z).2⟩,fun i k=>?_,fun i b c k z=>?_,?_⟩,G,fun v r z=>z.stay A,fun i k=>q i (I i k)⟩
 ·obtain⟨t,u⟩:=g i b c z;obtain⟨V,W⟩:=h.hp i b c (m i k t) u;rw[S.blk_up,if_neg (Ne.symm t)];exact⟨V,W.stay A rfl⟩
 ·by_cases x:i=p
  ·subst x;exact⟨e,sz,by rw[S.blk_up,if_pos rfl]⟩
  ·rw[S.blk_up,if_neg (Ne.symm x)];exact h.hp0 i (m i k x) ((q i x).symm.trans z)
 ·obtain⟨t,u⟩:=g i b c z;exact h.out i b c (m i k t) u
 ·obtain⟨t,u⟩:=g i b c Y;obtain⟨V,W⟩:=g j b N U;exact h.inj i j b c N (m i k t) (m j hj V) u W
 ·show i<max s.nx (p+1);by_cases x:i=p
  ·omega
  ·have:=h.nx i (m i k x);omega
 ·obtain⟨t,u⟩:=h.pin i k;have x:i≠p:=fun e=>hp (by rw[←e];exact B.live_of u)
  simp_all [trans,S.blk_up,if_neg,Ne.symm]
 ·obtain⟨t,u⟩:=g i b c z;rw[M];exact h.disj i b c (m i k t) u
 ·refine h.ows.sub (fun b hF=>h.ows.lt b (by simp_all)) fun i j d hw=>?_
  obtain⟨b,c,y,n,N,l1,l2,l3,l4,l5⟩:=hw;obtain⟨t,u⟩:=g i b c l2;rw[S.blk_up,if_neg (Ne.symm t)] at l3;exact⟨b,c,y,n,N,m i l1 t,u,l3,l4,l5⟩
theorem qlS {cs:List C} {i j:Nat} {x y:C} (h:(cs.set i x)[j]?=some y) (ho:y.isOw=true) (hx:x.isOw=false):cs[j]?=some y:=by grind
inductive Rw where
 | slot (i:Nat) (e:TypeId) (sz:Nat)
 | cell (i off:Nat) (e:TypeId) (sz:Nat)
 | dcell (i off sz:Nat)
 | dslot (i sz:Nat)
 | fslot (i:Nat)
 deriving Inhabited
def rw1 (s:S):Rw→S
 | .slot i e sz=>match s.get i with
  | .c .nils=>(s.up [(s.nx,.row e sz [])]).put (some i) (.c (.own s.nx sz 0 0))
  | _=>s
 | .cell i off e sz=>match s.get i with
  | .c (.ptr id o)=>match s.blk id with
   | .blk t cs=>match cs[o+off]? with
    | some .nils=>(s.up [(s.nx,.row e sz [])]).up [(id,.blk t (cs.set (o+off) (.own s.nx sz 0 0)))]
    | _=>s
   | _=>s
  | _=>s
 | .dcell i off sz=>match s.get i with
  | .c (.ptr id o)=>match s.blk id with
   | .blk t cs=>match cs[o+off]? with
    | some .nils=>s.up [(id,.blk t (cs.set (o+off) (.d (.sl sz 0 []))))]
    | _=>s
   | _=>s
  | _=>s
 | .dslot i sz=>match s.get i with
  | .c .nils=>s.put (some i) (.c (.d (.sl sz 0 [])))
  | _=>s
 | .fslot i=>s.frz (((s.get i).rows).filter fun j => !(s.blk j).isBlk)
theorem Sim.rw1 (hs:Sim cx ρ s a w) (x:Rw):∃ρ',Sim cx ρ' (rw1 s x) a w:=by
 have aa:¬ s.live s.nx:=fun h=>by have:=hs.nx _ h;omega
 cases x with
 | slot i e g=>
  simp only[Vc.rw1];split
  ·rename_i hi;obtain⟨ρ',u,h2,h3,-⟩:=hs.row0 aa e g;have z:(s.up [(s.nx,.row e g [])]).live s.nx:=by unfold S.live;rw[S.blk_up,if_pos rfl];rfl
   refine⟨ρ',⟨u.hd,u.size,fun j=>?_,u.hp,u.hp0,u.out,u.inj,u.nx,u.kept,u.oldF,u.pin,u.disj,⟨u.ows.lt,u.ows.one,u.ows.new⟩⟩⟩;show RR w _ ρ' _ (lk ((i,R.c (.own s.nx g 0 0))::s.tm) j .any);unfold lk;split
   ·rename_i V;subst V;have:=hs.tm i;rw[hi] at this;rw[this.inv_nils];exact .c _ _ (.own0 _ _ z h2)
   ·exact h3 _ _ (hs.tm j)
  grind
 | cell i q e g=>
  simp only[Vc.rw1];split
  ·rename_i id o hi;split
   ·rename_i t N Y;split
    ·rename_i hc;obtain⟨ρ',u,h2,h3,h4⟩:=hs.row0 aa e g;have v:s.live id:=by unfold S.live;rw[Y];rfl
     have ab:id≠s.nx:=fun e=>aa (e ▸ v);have z:(s.up [(s.nx,.row e g [])]).live s.nx:=by unfold S.live;rw[S.blk_up,if_pos rfl];rfl
     have A:(s.up [(s.nx,.row e g [])]).live id:=by simp_all [S.live,S.blk_up,if_neg,Ne.symm,v]
     cases hρ:ρ' id with
     | none=>
      obtain⟨e',ac,h5⟩:=u.hp0 id A hρ;simp_all [S.blk_up,if_neg,Ne.symm]
     | some bc=>
      obtain⟨b,O⟩:=bc;have hx:∀k,(s.up [(s.nx,.row e g [])]).blk k=if s.nx=k then .row e g [] else s.blk k:=fun k=>S.blk_up _ _ _ _;have hB:=(u.hp id b O A hρ).2;rw[hx,if_neg (Ne.symm ab),Y] at hB;obtain⟨vs,g1,g2,g3⟩:=hB;have Z:id<cx.k→(B.blk t (N.set (o+q) (.own s.nx g 0 0))).isBlk=true:=fun _=>rfl;have G:∀j,((s.up [(s.nx,.row e g [])]).up [(id,.blk t (N.set (o+q) (.own s.nx g 0 0)))]).live j↔(s.up [(s.nx,.row e g [])]).live j:=fun j=>by
       unfold S.live;rw[S.blk_up];by_cases m:id=j
       ·subst m;rw[if_pos rfl];exact⟨fun _=>A,fun _=>rfl⟩
       simp_all
      have U:q8Y w (s.up [(s.nx,.row e g [])]).live ρ' w ((s.up [(s.nx,.row e g [])]).up [(id,.blk t (N.set (o+q) (.own s.nx g 0 0)))]).live ρ':=by
       refine⟨qQN _,fun _ _ _=>rfl,fun b' _ hO=>?_,fun j m=>⟨(G j).2 m,rfl⟩,fun b hF=>⟨hF,fun _=>rfl⟩⟩;rcases hO with h|⟨j,c,q1,q2⟩
       ·exact .inl h
       ·exact .inr ⟨j,c,(G j).1 q1,q2⟩
      refine⟨ρ',(u.over A hρ rfl Z rfl (fun _ _=>rfl) rfl rfl rfl ⟨vs,g1,by simp_all,fun j c m=>?_⟩ (fun j y d n c hy I hw=>by rw[hx,if_neg (Ne.symm ab),Y];exact⟨y,qlS hy I rfl,I,n,c,hw⟩)).1⟩
      by_cases M:o+q=j
      ·subst M;have W:o+q<N.length:=(qQB.1 hc).1;rw[qRv W] at m;injection m with m;subst m;have h6:=g3 _ _ hc;have h7:=(RR.c _ _ h6).inv_nils;rw[h7];exact .own0 _ _ ((G _).2 z) h2
      ·rw[qRw M] at m;exact(g3 j c m).stay U
    grind
   grind
  grind
 | dcell i q g=>
  simp only[Vc.rw1];split
  ·rename_i id o hi;split
   ·rename_i t N Y;split
    ·rename_i hc;have v:s.live id:=by unfold S.live;rw[Y];rfl
     cases hρ:ρ id with
     | none=>
      obtain⟨e',ac,h5⟩:=hs.hp0 id v hρ;simp_all
     | some bc=>
      obtain⟨b,O⟩:=bc;have hB:=(hs.hp id b O v hρ).2;rw[Y] at hB;obtain⟨vs,g1,g2,g3⟩:=hB;have Z:id<cx.k→(B.blk t (N.set (o+q) (.d (.sl g 0 [])))).isBlk=true:=fun _=>rfl;have G:∀j,(s.up [(id,.blk t (N.set (o+q) (.d (.sl g 0 []))))]).live j↔s.live j:=fun j=>by
       unfold S.live;rw[S.blk_up];by_cases m:id=j
       ·subst m;rw[if_pos rfl];exact⟨fun _=>v,fun _=>rfl⟩
       simp_all
      have U:q8Y w s.live ρ w (s.up [(id,.blk t (N.set (o+q) (.d (.sl g 0 []))))]).live ρ:=by
       refine⟨qQN _,fun _ _ _=>rfl,fun b' _ hO=>?_,fun j m=>⟨(G j).2 m,rfl⟩,fun b hF=>⟨hF,fun _=>rfl⟩⟩;rcases hO with h|⟨j,c,q1,q2⟩
       ·exact .inl h
       ·exact .inr ⟨j,c,(G j).1 q1,q2⟩
      refine⟨ρ,(hs.over v hρ rfl Z rfl (fun _ _=>rfl) rfl rfl rfl ⟨vs,g1,by simp_all,fun j c m=>?_⟩ (fun j y d n c hy I hw=>by rw[Y];exact⟨y,qlS hy I rfl,I,n,c,hw⟩)).1⟩
      by_cases M:o+q=j
      ·subst M;have W:o+q<N.length:=(qQB.1 hc).1;rw[qRv W] at m;injection m with m;subst m;have h6:=g3 _ _ hc;have h7:=(RR.c _ _ h6).inv_nils;rw[h7];exact .d _ _ (.nil none 0 g (qQX _) fun _=>rfl)
      ·rw[qRw M] at m;exact(g3 j c m).stay U
    grind
   grind
  grind
 | dslot i g=>
  simp only[Vc.rw1];split
  ·rename_i hi;refine⟨ρ,⟨hs.hd,hs.size,fun j=>?_,hs.hp,hs.hp0,hs.out,hs.inj,hs.nx,hs.kept,hs.oldF,hs.pin,hs.disj,⟨hs.ows.lt,hs.ows.one,hs.ows.new⟩⟩⟩;show RR w _ ρ _ (lk ((i,R.c (.d (.sl g 0 [])))::s.tm) j .any);unfold lk;split
   ·rename_i V;subst V;have:=hs.tm i;rw[hi] at this;rw[this.inv_nils];exact .c _ _ (.d _ _ (.nil none 0 g (qQX _) fun _=>rfl))
   ·exact hs.tm j
  grind
 | fslot i=>exact⟨ρ,hs.frz (qQO.2 fun j m=>(qRt.1 m).2)⟩
end
def rwAll:S→List Rw→S
 | s,[]=>s
 | s,x::l=>rwAll (rw1 s x) l
theorem Sim.rwAll {cx:Cx} {a:Act} {w:World}:∀(l:List Rw) {s:S} {ρ:Pl},Sim cx ρ s a w→∃ρ',Sim cx ρ' (rwAll s l) a w
 | [],_,ρ,hs=>⟨ρ,hs⟩
 | x::l,_,_,hs=>by obtain⟨ρ',h⟩:=hs.rw1 x;exact Sim.rwAll l h
end
noncomputable section
open Go.RowKit
def C.dn0:C→Bool
 | .ow _ _ _ _=>false
 | .fn _ _ _=>false
 | _=>true
def C.nw:C→C
 | .ow _ _ _ _ => .any
 | .fn f fs caps=>if(fs++caps).all C.dn0=true then .fn f fs caps else .any
 | c=>c
def R.nw0:R→R
 | .c x => .c x.nw
 | .agg xs => .agg (xs.map C.nw)
 | .tup rs=>if rs.isEmpty=true then .tup [] else .any
 | .any => .any
def R.nw:R→R
 | .tup rs => .tup (rs.map R.nw0)
 | r=>r.nw0
section
variable {w:World} {L L':Nat→Prop} {ρ ρ':Pl}
theorem RC.turn0 (hl:∀i,L i→L' i∧ρ' i=ρ i) (ho:∀b,Occ L' ρ' b→Occ L ρ b) {v:Value} {x:C} (h:RC w L ρ v x) (hx:x.dn0=true):RC w L' ρ' v x:=by
 cases h with
 | d v x h=>exact .d v x (h.occ ho)
 | ptr i q b m g t=>exact .ptr i q b m (hl i g).1 ((hl i g).2.trans t)
 | hd k i b m g t=>exact .hd k i b m (hl i g).1 ((hl i g).2.trans t)
 | nilp=>exact .nilp
 | nilf=>exact .nilf
 | nilm=>exact .nilm
 | nils=>exact .nils
 | eptr b o q z f g t G y=>exact .eptr b o q z f g (fun h=>t (ho b h)) G (fun j c M=>(y j c M).occ ho)
 | own i u q n b m g t G y=>exact .own i u q n b m (hl i g).1 ((hl i g).2.trans t) G y
 | own0 i u g t=>exact .own0 i u (hl i g).1 ((hl i g).2.trans t)
 | fn f O I U N g t G y=>cases hx
 | ow e u n b m z N=>cases hx
 | ow0 e u=>cases hx
 | clp A u n z h=>exact .clp A u n z (h.occ ho)
 | any v=>exact .any v
theorem RC.turn (hl:∀i,L i→L' i∧ρ' i=ρ i) (ho:∀b,Occ L' ρ' b→Occ L ρ b) {v:Value} {x:C} (h:RC w L ρ v x):RC w L' ρ' v x.nw:=by
 cases x with
 | fn f k d=>
  show RC w L' ρ' v (if(k++d).all C.dn0=true then C.fn f k d else .any);split
  ·rename_i A;cases h with
   | fn _ _ _ I G t y z u=>
    have m:∀c∈k++d,c.dn0=true:=fun c q=>qQO.1 A c q;exact .fn f k d I G t (fun j c g=>(y j c g).turn0 hl ho (m c (qQJ _ (qQy g)))) z (fun j c g=>(u j c g).turn0 hl ho (m c (qQG _ (qQy g))))
  ·exact .any _
 | ow e N n M=>exact .any _
 | _=>exact h.turn0 hl ho rfl
theorem RR.turn0 (hl:∀i,L i→L' i∧ρ' i=ρ i) (ho:∀b,Occ L' ρ' b→Occ L ρ b) {v:Value} {x:R} (h:RR w L ρ v x):RR w L' ρ' v x.nw0:=by
 cases h with
 | c v x h=>exact .c v _ (h.turn hl ho)
 | agg e g k m=>
  refine .agg e _ (by simp_all) (fun j c d=>?_)
  rw[qQL] at d;obtain⟨y,u,t⟩:=qQK.1 d;exact t ▸ (m j y u).turn hl ho
 | tup e g k m=>
  show RR w L' ρ' (.tuple e) (if g.isEmpty=true then R.tup [] else .any);split
  ·rename_i q;have:g=[]:=List.isEmpty_iff.1 q;subst this;exact .tup e [] k (fun j c d=>by simp at d)
  ·exact .any _
 | any v=>exact .any v
theorem RR.turn (hl:∀i,L i→L' i∧ρ' i=ρ i) (ho:∀b,Occ L' ρ' b→Occ L ρ b) {v:Value} {x:R} (h:RR w L ρ v x):RR w L' ρ' v x.nw:=by
 cases x with
 | tup m=>
  cases h with
  | tup d _ e k=>
   refine .tup d _ (by simp_all) (fun j c g=>?_)
   grind [Option.map_eq_some_iff,turn0]
 | _=>exact h.turn0 hl ho
end
section
variable {cx:Cx} {ρ:Pl} {s:S} {a:Act} {w:World}
theorem Sim.ow_at (hs:Sim cx ρ s a w) {i j b cap:Nat} (hi:s.live i) (hr:ρ i=some (b,cap)) {e sz n:Nat} {ds:List D} (hc:(s.blk i).cells[j]?=some (.ow e sz n ds)) :
  ∃v,w.cell? ⟨b,j,none⟩=some v∧0<sz∧((v = .slice none 0 0∧n=0∧ds=[])∨∃d c vs,v = .slice (some ⟨d,0,none⟩) n c∧qeA s ρ w i j d∧ρ.F d∧w.heap[d]?=some (.cells vs e (0,0))∧vs.size=c*sz∧n≤c∧c≤maxLen∧ds.length=n*sz∧
   ∀j c,ds[j]?=some c→RD w (Occ s.live ρ) (vs.getD j undef) c):=by
 obtain⟨v,g,x⟩:=(hs.hp i b cap hi hr).2.cell hc;refine⟨v,g,?_⟩;cases x with
 | ow e sz n d c A vs h k m y q t z u=>exact⟨t,.inr ⟨d,c,vs,rfl,⟨b,cap,_,n,c,hi,hr,hc,rfl,g⟩,h,k,m,y,q,z,u⟩⟩
 | ow0 e sz h=>simp_all
theorem q6I {b:Nat} {vs:Array Value} {t:TypeId} {j:Nat} (h:w.heap[b]?=some (.cells vs t (0,0))):w.cell? ⟨b,j,none⟩=vs[j]?:=by simp[World.cell?,h]
theorem RC.inv_d {L:Nat→Prop} {ρ:Pl} {v:Value} {x:D} (h:RC w L ρ v (.d x)):RD w (Occ L ρ) v x:=by cases h with|d _ _ h=>exact h
theorem qbM {x:C} (h:x.isOw=true):∃e sz n ds,x = .ow e sz n ds:=by cases x<;>first|exact⟨_,_,_,_,rfl⟩|cases h
theorem Sim.tell (hs:Sim cx ρ s a w) {s':S} {ρ':Pl} (f:C→C) (hg:∀i,s'.get i=(s.get i).nw) (hn:s'.n=s.n)
  (hb:∀i,s.live i→s'.blk i=match s.blk i with | .blk t cs => .blk t (cs.map f) | .row e sz cs => .row e sz (cs.map f) | .ob o => .ob (o.mapR R.nw0) | .dead => .dead)
  (hl:∀i,s.live i→s'.live i∧ρ' i=ρ i) (ho:∀b,Occ s'.live ρ' b→Occ s.live ρ b)
  (hf:∀i j b cap v x,s.live i→ρ i=some (b,cap)→(s.blk i).cells[j]?=some x→w.cell? ⟨b,j,none⟩=some v→RC w s.live ρ v x→RC w s'.live ρ' v (f x)) :
  Hd cx a.defers w (Occ s'.live ρ')∧a.tmps.size=s'.n∧(∀i,RR w s'.live ρ' (a.tmps.getD i undef) (s'.get i))∧∀i b cap,s.live i→ρ i=some (b,cap)→b<w.heap.size∧HB w s'.live ρ' b cap (s'.blk i):=by
 refine⟨hs.hd.mono (qQN _) (fun _ _ _=>rfl) (fun b _ h=>ho b h),by rw[hn];exact hs.size,fun i=>by rw[hg];exact(hs.tm i).turn hl ho,fun i b cap z N=>?_⟩
 obtain⟨U,k⟩:=hs.hp i b cap z N;refine⟨U,?_⟩;have d:=fun j v x=>hf i j b cap v x z N;rw[hb i z];cases y:s.blk i with
 | dead=>trivial
 | ob o=>rw[y] at k;exact HO.map rfl (fun v x _ y=>y.turn0 hl ho) k
 | blk t cs=>
  rw[y] at k d;obtain⟨g,q,O,G⟩:=k;refine⟨g,q,by simp_all,fun j c m=>?_⟩
  rw[qQL] at m;obtain⟨x,u,M⟩:=qQK.1 m;have A:j<g.size:=by grind
  have I:g[j]?=some (g.getD j undef):=by simp_all
  exact M ▸ d j _ x u ((q6I q).trans I) (G j x u)
 | row e sz cs=>
  rw[y] at k d;obtain⟨g,q,O,G,Y,V,W⟩:=k;refine⟨g,q,by simp_all,G,Y,V,fun j c m=>?_⟩
  rw[qQL] at m;obtain⟨x,u,M⟩:=qQK.1 m;have A:j<g.size:=by grind
  have I:g[j]?=some (g.getD j undef):=by simp_all
  exact M ▸ d j _ x u ((q6I q).trans I) (W j x u)
def C.uw:C→C
 | .ow _ sz n cs => .d (.sl sz n cs)
 | c=>c.nw
def B.uw:B→B
 | .blk t cs => .blk t (cs.map C.uw)
 | .row e sz cs => .row e sz (cs.map C.uw)
 | .ob o => .ob (o.mapR R.nw0)
 | .dead => .dead
def S.uw (s:S):S:={ s with tm:=s.tm.map fun x=>(x.1,x.2.nw),hp:=s.hp.map fun x=>(x.1,x.2.uw) }
theorem C.uw_noow (c:C):c.uw.noow=true:=by
 cases c with
 | fn f d b=>
  show(if(d++b).all C.dn0=true then C.fn f d b else .any).noow=true;split<;>rfl
 | _=>rfl
theorem B.uw_live (x:B):x.uw.live=x.live:=by cases x<;>rfl
theorem B.uw_isBlk (x:B):x.uw.isBlk=x.isBlk:=by cases x<;>rfl
theorem B.uw_noow (x:B):x.uw.cells.all C.noow=true:=by cases x<;>first|rfl|exact qQO.2 fun c b=>by obtain⟨y,-,rfl⟩:=qRi.1 b;exact C.uw_noow y
theorem Sim.uw (hs:Sim cx ρ s a w):Sim cx ⟨ρ.at_,cx.ρ.F⟩ s.uw a w:=by
 have hb:∀i,s.uw.blk i=(s.blk i).uw:=fun i=>q1S B.uw s.hp i .dead rfl;have hg:∀i,s.uw.get i=(s.get i).nw:=fun i=>q1S R.nw s.tm i .any rfl;have z:s.uw.live=s.live:=by grind [S.live,B.uw_live]
 obtain⟨ρ',I⟩:∃ρ':Pl,ρ'=⟨ρ.at_,cx.ρ.F⟩:=⟨_,rfl⟩;rw[←I];have g:∀i,ρ' i=ρ i:=fun i=>by rw[I]
 have m:ρ'.F=cx.ρ.F:=by rw[I]
 have u:∀b,Occ s.uw.live ρ' b→Occ s.live ρ b:=fun b h=>by
  rcases h with h|⟨i,c,h1,h2⟩
  ·exact .inl (hs.oldF b (m ▸ h)).1
  ·exact .inr ⟨i,c,z ▸ h1,(g i).symm.trans h2⟩
 have O:∀i,s.live i→s.uw.live i∧ρ' i=ρ i:=fun i k=>⟨z ▸ k,g i⟩;obtain⟨t1,t2,t3,t4⟩:=hs.tell (s':=s.uw) (ρ':=ρ') C.uw hg rfl (fun i _=>by rw[hb];rfl) O u (fun i j b q v x k t hx hv h=>by
  by_cases ho:x.isOw=true
  ·obtain⟨e,G,n,ds,rfl⟩:=qbM ho;obtain⟨v',Z,q2,q3⟩:=hs.ow_at k t hx;rw[hv] at Z;injection Z with Z;subst Z;show RC w _ ρ' v (.d (.sl G n ds));rcases q3 with ⟨rfl,rfl,rfl⟩|⟨d,c,Y,rfl,q4,q5,q6,q7,q8,q9,q10,q11⟩
   ·exact .d _ _ (.nil none 0 G (qQX _) fun _=>rfl)
   ·refine .d _ _ (.sl d 0 n c G ds (fun j=>Y.getD j undef) q10 q8 q9 (qbs q6) (fun hO=>?_) (fun j A M=>?_) (fun j A M=>(q11 j A M).occ u))
    ·rcases hO with h|⟨i',A,h4,h5⟩
     ·exact(hs.ows.new i j d q4).2 (m ▸ h)
     ·exact hs.disj i' d A (z ▸ h4) ((g i').symm.trans h5) q5
    ·have U:j<Y.size:=by have h6:=(qQB.1 M).1;have h7:n*G≤c*G:=Nat.mul_le_mul_right _ q8;omega
     rw[qQV,q6I q6,qQY U];simp[qQD,U]
  ·have:x.uw=x.nw:=by cases x<;>first|rfl|exact absurd rfl ho
   rw[this];exact h.turn O u)
 refine⟨t1,t2,t3,fun i b q k t=>?_,fun i k t=>?_,fun i b q k t=>?_,fun i j b c A k M W N=>?_,fun i k=>?_,hs.kept,fun b h=>⟨m ▸ h,(hs.oldF b h).2⟩,fun i k=>?_,fun i b q k t=>?_,?_⟩
 ·rw[z] at k;grind
 ·rw[z] at k;rw[g] at t;obtain⟨e,G,h⟩:=hs.hp0 i k t;exact⟨e,G,by rw[hb,h];rfl⟩
 ·rw[z] at k;rw[g] at t;exact hs.out i b q k t
 ·rw[z] at k M;rw[g] at W N;exact hs.inj i j b c A k M W N
 ·rw[z] at k;exact hs.nx i k
 ·obtain⟨h1,h2⟩:=hs.pin i k;grind [trans,B.uw_isBlk]
 ·rw[z] at k;rw[g] at t;rw[m];exact fun h=>hs.disj i b q k t (hs.oldF b h).1
 ·have V:∀i j d,¬ qeA s.uw ρ' w i j d:=fun i j d hw=>by obtain⟨b,c,y,n,A,l1,l2,l3,l4,l5⟩:=hw;grind [C.noow_is,List.all_eq_true,B.uw_noow,List.mem_of_getElem?]
  exact⟨fun b h=>hs.ows.lt b (hs.oldF b (m ▸ h)).1,fun i j _ _ d h=>absurd h (V i j d),fun i j d h=>absurd h (V i j d)⟩
def C.kw:C→C
 | .ow e sz n cs => .ow e sz n cs
 | c=>c.nw
def B.kw:B→B
 | .blk t cs => .blk t (cs.map C.kw)
 | .row e sz cs => .row e sz (cs.map C.kw)
 | .ob o => .ob (o.mapR R.nw0)
 | .dead => .dead
def tkS (s:S) (id j e sz n:Nat) (ds:List D):S:=⟨s.tm.map fun x=>(x.1,x.2.nw),(s.nx,.row e sz (ds.map C.d))::(id,(s.blk id).kw.set j [.own s.nx sz 0 n])::s.hp.map fun x=>(x.1,x.2.kw),s.nx+1,s.n⟩
def tkC (s:S) (id j:Nat):Option C→Option S
 | some (.ow e sz n ds)=>some (tkS s id j e sz n ds)
 | _=>none
def S.tk (s:S) (id j:Nat):Option S:=tkC s id j ((s.blk id).cells[j]?)
theorem C.kw_ow {c:C} (h:c.kw.isOw=true):c.kw=c:=by
 cases c with
 | fn f d b=>
  have h:(if(d++b).all C.dn0=true then C.fn f d b else .any).isOw=true:=h;split at h<;>cases h
 | _=>rfl
theorem B.kw_live (x:B):x.kw.live=x.live:=by cases x<;>rfl
theorem B.kw_isBlk (x:B):x.kw.isBlk=x.isBlk:=by cases x<;>rfl
theorem B.kw_cells (x:B):x.kw.cells=x.cells.map C.kw:=by cases x<;>rfl
theorem B.kw_ow {x:B} {j:Nat} {y:C} (h:x.kw.cells[j]?=some y) (ho:y.isOw=true):x.cells[j]?=some y:=by grind [B.kw_cells,Option.map_eq_some_iff,C.kw_ow]
theorem B.set1_cells {x:B} (hx:x.isOb=false) (j:Nat) (c:C):(x.set j [c]).cells=x.cells.set j c:=by
 cases x with
 | ob o=>cases hx
 | dead=>rfl
 | _=>rfl
theorem Sim.tk (hs:Sim cx ρ s a w) {s':S} {id j:Nat} (h:s.tk id j=some s'):∃ρ',Sim cx ρ' s' a w:=by
 unfold S.tk at h;unfold tkC at h;split at h
 ·rename_i e sz n ds hc;injection h with h;have aa:s.live id:=by
   unfold S.live;cases hb:s.blk id with
   | dead=>grind [B.cells]
   | _=>rfl
  have ah:(s.blk id).isOb=false:=by
   cases hb:s.blk id with
   | ob o=>grind [B.cells]
   | _=>rfl
  have aA:¬ s.live s.nx:=fun h=>by have:=hs.nx _ h;omega
  have aL:id≠s.nx:=fun e=>aA (e ▸ aa);cases U:ρ id with
  | none=>
   obtain⟨e',ad,h5⟩:=hs.hp0 id aa U;grind [B.cells]
  | some bc=>
   obtain⟨b,aN⟩:=bc;obtain⟨v,v1,aC,v2⟩:=hs.ow_at aa U hc;obtain⟨pl,F',ae⟩:∃(pl:Option (Nat×Nat)) (F':Nat→Prop),(pl=none∧v = .slice none 0 0∧n=0∧ds=[]∧F'=ρ.F)∨∃d c u,pl=some (d,c)∧F'=(fun x=>ρ.F x∧x≠d)∧v = .slice (some ⟨d,0,none⟩) n c∧qeA s ρ w id j d∧ρ.F d∧w.heap[d]?=some (.cells u e (0,0))∧u.size=c*sz∧n≤c∧c≤maxLen∧ds.length=n*sz∧
     ∀j c,ds[j]?=some c→RD w (Occ s.live ρ) (u.getD j undef) c:=by
    rcases v2 with ⟨q1,q2,q3⟩|⟨d,c,u,q⟩
    ·simp_all
    ·exact⟨some (d,c),_,.inr ⟨d,c,u,rfl,rfl,q⟩⟩
   have ao:∀x,F' x→ρ.F x:=fun x M=>by grind
   have al:∀d c,pl=some (d,c)→¬ F' d∧ρ.F d∧cx.mine d:=fun d c hp=>by
    rcases ae with ⟨rfl,-⟩|⟨d',c',u,rfl,rfl,-,q4,q5,-⟩
    ·cases hp
    ·injection hp with hp;injection hp with hp _;subst hp;exact⟨fun h=>h.2 rfl,q5,hs.ows.new id j d' q4⟩
   have aq:∀x,cx.ρ.F x→F' x:=fun x M=>by
    rcases ae with ⟨-,-,-,-,rfl⟩|⟨d,c,u,-,rfl,-,q4,q5,-⟩
    ·exact(hs.oldF x M).1
    ·exact⟨(hs.oldF x M).1,fun e=>(hs.ows.new id j d q4).2 (e ▸ M)⟩
   have af:∀i k d,qeA s ρ w i k d→¬ (i=id∧k=j)→ρ.F d→F' d:=fun i k d hw hn hF=>by
    rcases ae with ⟨-,-,-,-,rfl⟩|⟨d',c,u,-,rfl,-,q4,-⟩
    ·exact hF
    ·refine⟨hF,fun e=>hn ?_⟩;subst e;exact hs.ows.one i k id j d hw q4
   have hb:∀i,s'.blk i=if s.nx=i then .row e sz (ds.map C.d) else if id=i then(s.blk id).kw.set j [.own s.nx sz 0 n] else(s.blk i).kw:=fun i=>by rw[←h];show lk ((s.nx,_)::(id,_)::s.hp.map fun x=>(x.1,x.2.kw)) i .dead=_;show(if s.nx=i then _ else if id=i then _ else lk (s.hp.map fun x=>(x.1,x.2.kw)) i .dead)=_;rw[q1S B.kw s.hp i .dead rfl];rfl
   have hg:∀i,s'.get i=(s.get i).nw:=fun i=>by rw[←h];exact q1S R.nw s.tm i .any rfl
   have aD:s'.n=s.n:=by rw[←h];rfl
   have ax:s'.nx=s.nx+1:=by rw[←h];rfl
   obtain⟨ρ',aE⟩:∃ρ':Pl,ρ'=⟨fun i=>if i=s.nx then pl else ρ i,F'⟩:=⟨_,rfl⟩;have ac:ρ'.F=F':=by rw[aE]
   have ab:ρ' s.nx=pl:=by simp_all
   have G:∀i,i≠s.nx→ρ' i=ρ i:=fun i N=>by simp_all
   have V:∀i,i≠s.nx→(s'.live i↔s.live i):=fun i N=>by
    unfold S.live;rw[hb,if_neg (Ne.symm N)];by_cases I:id=i
    ·subst I;rw[if_pos rfl,B.set_live (by rw[B.kw_live];exact aa)]
     exact⟨fun _=>aa,fun _=>rfl⟩
    ·rw[if_neg I,B.kw_live]
   have aB:s'.live s.nx:=by unfold S.live;rw[hb,if_pos rfl];rfl
   have am:∀i,s.live i→i≠s.nx:=fun i N e=>aA (e ▸ N);have an:∀i,s.live i→s'.live i∧ρ' i=ρ i:=fun i N=>⟨(V i (am i N)).2 N,G i (am i N)⟩;have Z:∀x,Occ s'.live ρ' x→Occ s.live ρ x:=fun x M=>by
    rcases M with M|⟨i,c,h1,h2⟩
    ·exact .inl (ao x (ac ▸ M))
    ·by_cases N:i=s.nx
     ·rw[N,ab] at h2;exact .inl (al x c h2).2.1
     ·exact .inr ⟨i,c,(V i N).1 h1,(G i N).symm.trans h2⟩
   have ap:∀i k O m v' x,s.live i→ρ i=some (O,m)→(s.blk i).cells[k]?=some x→w.cell? ⟨O,k,none⟩=some v'→RC w s.live ρ v' x→¬ (i=id∧k=j)→RC w s'.live ρ' v' x.kw:=fun i k O m v' x N Y M hv ay aH=>by
    by_cases ho:x.isOw=true
    ·obtain⟨e',ad,n',aI,rfl⟩:=qbM ho;cases ay with
     | ow _ _ _ d c _ u g1 g2 g3 g4 g5 g6 g7 g8=>
      refine .ow e' ad n' d c aI u ?_ g2 g3 g4 g5 g6 g7 (fun j c hj=>(g8 j c hj).occ Z);rw[ac];exact af i k d ⟨O,m,_,n',c,N,Y,M,rfl,hv⟩ aH g1
     | ow0 _ _ g1=>exact .ow0 _ _ g1
    ·have:x.kw=x.nw:=by cases x<;>first|rfl|exact absurd rfl ho
     rw[this];exact ay.turn an Z
   have aK:RC w s'.live ρ' v (.own s.nx sz 0 n):=by
    rcases ae with ⟨rfl,rfl,rfl,-,-⟩|⟨d,c,u,rfl,-,rfl,q4,q5,q6,q7,q8,q9,-⟩
    ·exact .own0 s.nx sz aB ab
    ·have:=RC.own (w:=w) (L:=s'.live) (ρ:=ρ') s.nx sz 0 n d c aB ab (by omega) q9
     simp_all
   have av:∀i O m,i≠s.nx→s.live i→ρ i=some (O,m)→HB w s'.live ρ' O m (if id=i then(s.blk id).kw.set j [.own s.nx sz 0 n] else(s.blk i).kw):=fun i O m N aj Y=>by
    have h2:=(hs.hp i O m aj Y).2;have hf:=fun k v' x=>ap i k O m v' x aj Y;have au:∀(u:Array Value) (t:TypeId) (W:List C),w.heap[O]?=some (.cells u t (0,0))→(s.blk i).cells=W→W.length≤u.size→(∀k c,W[k]?=some c→RC w s.live ρ (u.getD k undef) c)→¬ id=i→∀k c,(W.map C.kw)[k]?=some c→RC w s'.live ρ' (u.getD k undef) c:=fun u t W g1 g2 g3 g4 ag k c hk=>by
     rw[qQL] at hk;obtain⟨x,q1,q2⟩:=qQK.1 hk;have aF:k<u.size:=by grind
     have hv:u[k]?=some (u.getD k undef):=by simp_all
     grind [q6I,trans]
    have ak:∀(u:Array Value) (t:TypeId) (W:List C),w.heap[O]?=some (.cells u t (0,0))→(s.blk i).cells=W→W.length≤u.size→(∀k c,W[k]?=some c→RC w s.live ρ (u.getD k undef) c)→id=i→∀k c,((W.map C.kw).set j (.own s.nx sz 0 n))[k]?=some c→RC w s'.live ρ' (u.getD k undef) c:=fun u t W g1 g2 g3 g4 ag k c hk=>by
     subst ag;by_cases aw:j=k
     ·subst aw;have aM:j<W.length:=by grind
      rw[qRv (by simp_all)] at hk
      injection hk with hk;subst hk;rw[Y] at U;injection U with U;injection U with e1 e2;subst e1;rw[q6I g1] at v1;simp_all
     ·rw[qRw aw,qQL] at hk;obtain⟨x,q1,q2⟩:=qQK.1 hk;have aF:k<u.size:=by grind
      have hv:u[k]?=some (u.getD k undef):=by simp_all
      grind [q6I,trans]
    by_cases I:id=i
    ·rw[if_pos I];subst I;cases M:s.blk id with
     | dead=>trivial
     | ob o=>rw[M] at ah;cases ah
     | blk t W=>
      rw[M] at h2;obtain⟨u,g1,g2,g3⟩:=h2;exact⟨u,g1,by show u.size=((W.map C.kw).set j _).length;simp_all,ak u t W g1 (by rw[M];rfl) (by omega) g3 rfl⟩
     | row e' ad W=>
      rw[M] at h2;obtain⟨u,g1,g2,g3,g4,g5,g6⟩:=h2;exact⟨u,g1,by show((W.map C.kw).set j _).length≤u.size;simp_all,g3,g4,g5,ak u e' W g1 (by rw[M];rfl) g2 g6 rfl⟩
    ·rw[if_neg I];cases M:s.blk i with
     | dead=>trivial
     | ob o=>rw[M] at h2;exact HO.map rfl (fun v x _ M=>M.turn0 an Z) h2
     | blk t W=>
      rw[M] at h2;obtain⟨u,g1,g2,g3⟩:=h2;exact⟨u,g1,by simp_all,au u t W g1 (by rw[M];rfl) (by omega) g3 I⟩
     | row e' ad W=>
      rw[M] at h2;obtain⟨u,g1,g2,g3,g4,g5,g6⟩:=h2;exact⟨u,g1,by simp_all,g3,g4,g5,au u e' W g1 (by rw[M];rfl) g2 g6 I⟩
   refine⟨ρ',hs.hd.mono (qQN _) (fun _ _ _=>rfl) (fun b _ h=>Z b h),by rw[aD];exact hs.size,fun i=>by rw[hg];exact(hs.tm i).turn an Z,fun i O m N Y=>?_,fun i N Y=>?_,fun i O m N Y=>?_,fun i i' O c c' N aG az ai=>?_,fun i N=>?_,hs.kept,fun x M=>⟨ac ▸ aq x M,(hs.oldF x M).2⟩,fun i N=>?_,fun i O m N Y=>?_,?_⟩
   ·rw[hb];by_cases g:s.nx=i
    ·rw[if_pos g];subst g;rw[ab] at Y;rcases ae with ⟨q1,-⟩|⟨d,c,u,q1,-,-,q4,q5,q6,q7,q8,q9,q10,q11⟩
     ·simp_all
     ·rw[Y] at q1;injection q1 with q1;injection q1 with e1 e2;subst e1 e2;refine⟨qbs q6,u,q6,?_,q7,q9,aC,fun k x hk=>?_⟩
      ·simp_all [qRg,Nat.mul_le_mul_right]
      ·rw[qQL] at hk;obtain⟨y,r1,r2⟩:=qQK.1 hk;exact r2 ▸ .d _ _ ((q11 k y r1).occ Z)
    ·rw[if_neg g];have A:=Ne.symm g;have h1:=(V i A).1 N;rw[G i A] at Y;exact⟨(hs.hp i O m h1 Y).1,av i O m A h1 Y⟩
   ·rw[hb];by_cases g:s.nx=i
    ·simp_all
    ·rw[if_neg g];have A:=Ne.symm g;rw[G i A] at Y;have ag:id≠i:=fun e=>by simp_all
     rw[if_neg ag];obtain⟨e',ad,h5⟩:=hs.hp0 i ((V i A).1 N) Y;exact⟨e',ad,by rw[h5];rfl⟩
   ·by_cases g:i=s.nx
    ·subst g;rw[ab] at Y;exact(al O m Y).2.2.1
    ·rw[G i g] at Y;exact hs.out i O m ((V i g).1 N) Y
   ·have aJ:∀i c c',i≠s.nx→s'.live i→pl=some (O,c)→ρ i=some (O,c')→False:=fun i c c' g N h1 h2=>hs.disj i O c' ((V i g).1 N) h2 (al O c h1).2.1;by_cases g:i=s.nx
    ·grind
    ·by_cases A:i'=s.nx
     ·simp_all
     ·rw[G i g] at az;rw[G i' A] at ai;exact hs.inj i i' O c c' ((V i g).1 N) ((V i' A).1 aG) az ai
   ·rw[ax];by_cases g:i=s.nx
    ·omega
    ·have:=hs.nx i ((V i g).1 N);omega
   ·obtain⟨h1,h2⟩:=hs.pin i N;have g:=am i (B.live_of h2);refine⟨(G i g).trans h1,?_⟩;rw[hb,if_neg (Ne.symm g)];by_cases I:id=i
    ·subst I;rw[if_pos rfl];grind [B.set_isBlk,B.kw_isBlk]
    simp_all [if_neg,I,B.kw_isBlk]
   ·rw[ac];by_cases g:i=s.nx
    ·simp_all
    ·rw[G i g] at Y;exact fun h=>hs.disj i O m ((V i g).1 N) Y (ao O h)
   ·refine hs.ows.sub (fun x M=>hs.ows.lt x (ao x (ac ▸ M))) fun i k d hw=>?_;obtain⟨O,c,y,n',c',l1,l2,l3,l4,l5⟩:=hw;rw[hb] at l3;by_cases g:s.nx=i
    ·rw[if_pos g] at l3;have l3:(ds.map C.d)[k]?=some y:=l3;rw[qQL] at l3;obtain⟨z,-,rfl⟩:=qQK.1 l3;cases l4
    ·rw[if_neg g] at l3;have A:=Ne.symm g;rw[G i A] at l2;have ar:=(V i A).1 l1;by_cases I:id=i
     ·rw[if_pos I] at l3;subst I;rw[B.set1_cells (by cases M:s.blk id<;>first|rfl|(rw[M] at ah;cases ah))] at l3
      exact⟨O,c,y,n',c',ar,l2,B.kw_ow (qlS l3 l4 rfl) l4,l4,l5⟩
     ·rw[if_neg I] at l3;exact⟨O,c,y,n',c',ar,l2,B.kw_ow l3 l4,l4,l5⟩
 ·cases h
def C.ab (k e sz:Nat) (ds:List D):C→C
 | .own i z o n=>if i=k∧z=sz∧o=0∧ds.length=n*sz then .ow e sz n ds else(C.own i z o n).fg k
 | c=>c.fg k
theorem C.ab_own (k e sz:Nat) (ds:List D) (i z o n:Nat):C.ab k e sz ds (.own i z o n)=if i=k∧z=sz∧o=0∧ds.length=n*sz then .ow e sz n ds else(C.own i z o n).fg k:=rfl
def B.ab (k e sz:Nat) (ds:List D):B→B
 | .blk t cs => .blk t (cs.map (C.fg k))
 | .row e' z cs => .row e' z (cs.map (C.ab k e sz ds))
 | .ob o => .ob (o.mapR (R.fg k))
 | .dead => .dead
def qbv (s:S) (i:Nat):List Nat:=match s.blk i with | .row _ _ cs=>cs.flatMap C.rows|_=>[]
def qrC (s:S):List Nat:=(s.hp.map Prod.fst).eraseDups.flatMap (qbv s)
def abS (s:S) (k e sz:Nat) (ds:List D):S:=⟨s.tm.map fun x=>(x.1,x.2.fg k),(k,.dead)::s.hp.map fun x=>(x.1,x.2.ab k e sz ds),s.nx,s.n⟩
def qFk (k:Nat):List Nat→Bool
 | []=>true
 | i::l=>if i=k then false else qFk k l
def qEz (k:Nat):List Nat→Bool
 | []=>true
 | i::l=>if i=k then qFk k l else qEz k l
theorem qlK {k:Nat}:∀{l:List Nat},qFk k l=true→(l.filter (fun i=>i==k)).length=0
 | [],_=>rfl
 | i::l,h=>by simp_all [qFk,List.filter_cons,if_neg,qlK]
theorem qog {k:Nat}:∀{l:List Nat},qEz k l=true→(l.filter (fun i=>i==k)).length≤1
 | [],_=>qQX _
 | i::l,h=>by
  unfold qEz at h;split at h
  ·simp_all [List.filter_cons,if_pos,qQI,qlK]
  simp_all [List.filter_cons,if_neg,qog]
def ab2 (s:S) (k e sz:Nat):Option (List D)→S
 | some ds=>if 0<sz∧qEz k (qrC s)=true then abS s k e sz ds else s
 | none=>s
def S.ab1 (s:S) (k:Nat):S:=match s.blk k with
 | .row e sz cs=>ab2 s k e sz (qac cs)
 | _=>s
theorem qtH {α:Type} (f:α→List Nat) (k:Nat):∀(l:List α) (i j:Nat) (x y:α),i≠j→l[i]?=some x→l[j]?=some y→k∈f x→k∈f y→2≤((l.flatMap f).filter (fun q=>q==k)).length:=by
 have one:∀{l:List α} {x:α},x∈l→k∈f x→1≤((l.flatMap f).filter (fun q=>q==k)).length:=fun {l x} c b=>
  List.length_pos_iff.2 fun e=>by
   have:k∈(l.flatMap f).filter (fun q=>q==k):=qRt.2 ⟨List.mem_flatMap.2 ⟨x,c,b⟩,by simp⟩
   grind
 have own:∀{x:α},k∈f x→1≤((f x).filter (fun q=>q==k)).length:=fun {x} b=>
  List.length_pos_iff.2 fun e=>by
   have:k∈(f x).filter (fun q=>q==k):=qRt.2 ⟨b,by simp⟩
   grind
 intro l
 induction l with
 | nil=>simp_all
 | cons a l d=>
  grind
theorem qyo {α:Type} (f:α→List Nat) (k:Nat):∀(l:List α) (x:α),x∈l→((f x).filter (fun q=>q==k)).length≤((l.flatMap f).filter (fun q=>q==k)).length
 | a::l,x,h=>by
  rw[qRC,List.filter_append,qQE];rcases qQT.1 h with rfl|h
  ·omega
  ·have:=qyo f k l x h;omega
theorem qu7 {α:Type} {z:α}:∀{l:List (Nat×α)} {i:Nat},(∀x,lk l i z=x→x≠z)→i∈l.map Prod.fst
 | [],i,h=>absurd rfl (h z rfl)
 | (j,x)::l,i,h=>by
  by_cases e:j=i
  ·simp_all
  ·refine qQF _ (qu7 (z:=z) fun y b=>h y ?_);grind [lk]
theorem qnC {s:S} {k:Nat} (h:((qrC s).filter (fun i=>i==k)).length≤1) {i i' j j' e e' z z':Nat} {cs cs':List C} {x x':C} (hi:s.blk i = .row e z cs) (hi':s.blk i' = .row e' z' cs') (hj:cs[j]?=some x) (hj':cs'[j']?=some x') (hx:k∈x.rows) (hx':k∈x'.rows):i=i'∧j=j':=by
 have q:∀{i e z:Nat} {cs:List C},s.blk i = .row e z cs→i∈(s.hp.map Prod.fst).eraseDups:=fun {i e z cs} d=>by
  rw[List.mem_eraseDups];exact qu7 (z:=B.dead) fun y g=>by have:s.blk i=y:=g;simp_all
 have G:∀{i j e z:Nat} {cs:List C} {x:C},s.blk i = .row e z cs→cs[j]?=some x→k∈x.rows→k∈qbv s i:=fun {i j e z cs x} d hj hx=>by grind [qbv]
 by_cases c:i=i'
 ·subst c;rw[hi] at hi';injection hi' with A v m;subst m;refine⟨rfl,Classical.byContradiction fun b=>?_⟩;have t:=qtH C.rows k cs j j' x x' b hj hj' hx hx';have u:=qyo (qbv s) k _ i (q hi);grind [qbv,C.rows,qrC]
 grind [List.getElem?_of_mem,qtH,qbv,qrC]
theorem qsa {cs:List C} {ds:List D} (h:qac cs=some ds):cs=ds.map C.d:=q8f h
theorem B.ab_live (x:B) (k e sz:Nat) (ds:List D):(x.ab k e sz ds).live=x.live:=by cases x<;>rfl
theorem B.ab_isBlk (x:B) (k e sz:Nat) (ds:List D):(x.ab k e sz ds).isBlk=x.isBlk:=by cases x<;>rfl
theorem C.ab_is {c:C} {k e sz:Nat} {ds:List D} (h:(c.ab k e sz ds).isOw=true):(c.isOw=true∧c.ab k e sz ds=c)∨∃n,c = .own k sz 0 n∧ds.length=n*sz∧c.ab k e sz ds = .ow e sz n ds:=by
 cases c with
 | own i z o n=>
  rw[C.ab_own] at h ⊢;by_cases g:i=k∧z=sz∧o=0∧ds.length=n*sz
  ·simp_all
  ·rw[if_neg g] at h;have:=C.fg_ow h;cases this
 | ow t j n m=>exact .inl ⟨rfl,rfl⟩
 | fn f d b=>have:=C.fg_ow (c := .fn f d b) (id:=k) h;cases this
 | ptr i o=>have:=C.fg_ow (c := .ptr i o) (id:=k) h;cases this
 | hd q i=>have:=C.fg_ow (c := .hd q i) (id:=k) h;cases this
 | _=>cases h
theorem Sim.ab1 (hs:Sim cx ρ s a w) (k:Nat):∃ρ',Sim cx ρ' (s.ab1 k) a w:=by
 unfold S.ab1;split
 ·rename_i e G cs ai;unfold ab2;split
  ·rename_i V au;split
   ·rename_i hc;obtain⟨aj,af⟩:=hc;have af:=qog af;have aB:=qsa au;have U:s.live k:=by unfold S.live;rw[ai];rfl
    obtain⟨F',av⟩:∃F':Nat→Prop,F'=fun x=>ρ.F x∨∃c,ρ k=some (x,c):=⟨_,rfl⟩;obtain⟨ρ',am⟩:∃ρ':Pl,ρ'=⟨ρ.at_,F'⟩:=⟨_,rfl⟩;have m:∀i,ρ' i=ρ i:=fun i=>by rw[am]
    have u:∀x,ρ'.F x↔ρ.F x∨∃c,ρ k=some (x,c):=fun x=>by rw[am,av]
    obtain⟨s',ad⟩:∃s':S,s'=abS s k e G V:=⟨_,rfl⟩;rw[←ad];have hb:∀i,s'.blk i=if k=i then .dead else(s.blk i).ab k e G V:=fun i=>by rw[ad];show lk ((k,B.dead)::s.hp.map fun x=>(x.1,x.2.ab k e G V)) i .dead=_;simp only[lk];rw[q1S (B.ab k e G V) s.hp i .dead rfl];rfl
    have hg:∀i,s'.get i=(s.get i).fg k:=fun i=>by rw[ad];exact q1S (R.fg k) s.tm i .any rfl
    have hl:∀i,s'.live i↔s.live i∧i≠k:=fun i=>by
     unfold S.live;rw[hb];by_cases h:k=i
     ·rw[if_pos h];exact⟨fun h=>(by cases h),fun N=>absurd h.symm N.2⟩
     ·rw[if_neg h,B.ab_live];grind
    have ae:∀x,Occ s'.live ρ' x→Occ s.live ρ x:=fun x q=>by
     rcases q with q|⟨i,c,A,N⟩
     ·rcases(u x).1 q with h|⟨c,h⟩
      ·exact .inl h
      ·exact .inr ⟨k,c,U,h⟩
     ·exact .inr ⟨i,c,((hl i).1 A).1,(m i).symm.trans N⟩
    have ac:qeh k w s.live ρ w s'.live ρ':=⟨qQN _,fun _ _ _=>rfl,fun x _ q=>ae x q,fun i O A=>⟨(hl i).2 ⟨A,O⟩,m i⟩,fun x q=>⟨(u x).2 (.inl q),fun _=>rfl⟩⟩
    -- the row as it lies
    have ao:∀d c,ρ k=some (d,c)→∃Y:Array Value,w.heap[d]?=some (.cells Y e (0,0))∧Y.size=c*G∧c≤maxLen∧∀j x,V[j]?=some x→RD w (Occ s.live ρ) (Y.getD j undef) x:=fun d c W=>by
     have h:=(hs.hp k d c U W).2;rw[ai] at h;obtain⟨Y,I,g2,g3,g4,g5,g6⟩:=h;refine⟨Y,I,g3,g4,fun j x hj=>?_⟩;have:=g6 j (.d x) (by simp_all)
     exact this.inv_d
    have aA:∀v n,RC w s.live ρ v (.own k G 0 n)→V.length=n*G→RC w s'.live ρ' v (.ow e G n V):=fun v n h hn=>by
     cases h with
     | own _ _ _ _ d c q1 q2 q3 q4=>
      obtain⟨Y,I,g2,g3,g4⟩:=ao d c q2;have:=RC.ow (w:=w) (L:=s'.live) (ρ:=ρ') e G n d c V Y ((u d).2 (.inr ⟨c,q2⟩)) I g2 (by omega) q4 aj hn (fun j x hj=>(g4 j x hj).occ ae)
      simp_all
     | own0 _ _ q1 q2=>
      have:V=[]:=qQQ (by omega)
      subst this;exact .ow0 e G aj
    have al:∀{Y:Nat→Value} {cs:List C},(∀j c,cs[j]?=some c→RC w s.live ρ (Y j) c)→∀j c,(cs.map (C.ab k e G V))[j]?=some c→RC w s'.live ρ' (Y j) c:=fun h j c hj=>by
     rw[qQL] at hj;obtain⟨y,I,g2⟩:=qQK.1 hj;subst g2;have hy:=h j y I;by_cases ho:(y.ab k e G V).isOw=true
     ·rcases C.ab_is ho with ⟨A,N⟩|⟨n,rfl,N,h3⟩
      ·rw[N];have:=hy.stayX ac;have e2:y.fg k=y:=by obtain⟨a1,a2,a3,a4,rfl⟩:=qbM A;rfl
       simp_all
      simp_all
     ·have e2:y.ab k e G V=y.fg k:=by
       cases y with
       | own i z o n=>
        rw[C.ab_own] at ho ⊢;by_cases hc:i=k∧z=G∧o=0∧V.length=n*G
        ·rw[if_pos hc] at ho;exact absurd rfl ho
        simp_all
       | _=>rfl
      rw[e2];exact hy.stayX ac
    have ar:¬ k<cx.k:=fun h=>by have:=(hs.pin k h).2;rw[ai] at this;cases this
    have ah:∀i j d,qeA s' ρ' w i j d→qeA s ρ w i j d∨(∃e' z aq n,s.blk i = .row e' z aq∧aq[j]?=some (.own k G 0 n)∧∃c,ρ k=some (d,c)):=fun i j d hw=>by
     obtain⟨b,c,y,n,c',l1,l2,Z,l4,l5⟩:=hw;rw[m] at l2;obtain⟨l1,ak⟩:=(hl i).1 l1;rw[hb,if_neg (Ne.symm ak)] at Z;have hB:=(hs.hp i b c l1 l2).2;cases q:s.blk i with
     | dead=>grind [B.ab,B.cells]
     | ob o=>grind [B.ab,B.cells]
     | blk t M=>
      rw[q] at Z;have Z:(M.map (C.fg k))[j]?=some y:=Z;rw[qQL] at Z;obtain⟨z,I,g2⟩:=qQK.1 Z;exact .inl ⟨b,c,z,n,c',l1,l2,by rw[q];exact I,C.fg_ow (g2 ▸ l4),l5⟩
     | row e' z' M=>
      rw[q] at Z;have Z:(M.map (C.ab k e G V))[j]?=some y:=Z;rw[qQL] at Z;obtain⟨z,I,g2⟩:=qQK.1 Z;rcases C.ab_is (g2 ▸ l4) with ⟨A,-⟩|⟨n1,rfl,N,h3⟩
      ·exact .inl ⟨b,c,z,n,c',l1,l2,by rw[q];exact I,A,l5⟩
      ·refine .inr ⟨e',z',M,n1,rfl,I,?_⟩;obtain⟨v,q1,q2⟩:=hB.cell (j:=j) (c := .own k G 0 n1) (by rw[q];exact I)
       rw[l5] at q1;injection q1 with q1;subst q1;rcases(RR.c _ _ q2).inv_own.2 with ⟨d',cp,r1,r2,r3,r4⟩|⟨r1,r2,-⟩
       ·simp_all
       ·cases r2
    refine⟨ρ',hs.hd.mono (qQN _) (fun _ _ _=>rfl) (fun x _ h=>ae x h),by rw[ad];exact hs.size,fun i=>by rw[hg];exact(hs.tm i).stayX ac,fun i b aa O W=>?_,fun i O W=>?_,fun i b aa O W=>?_,fun i j b c c' O hj ap an=>?_,fun i O=>?_,hs.kept,fun x q=>⟨(u x).2 (.inl (hs.oldF x q).1),(hs.oldF x q).2⟩,fun i O=>?_,fun i b aa O W=>?_,?_⟩
    ·obtain⟨A,N⟩:=(hl i).1 O;rw[m] at W;obtain⟨h3,h4⟩:=hs.hp i b aa A W;refine⟨h3,?_⟩;rw[hb,if_neg (Ne.symm N)];cases q:s.blk i with
     | dead=>trivial
     | ob o=>rw[q] at h4;exact HO.map rfl (fun v x _ q=>q.stayX ac) h4
     | blk t M=>rw[q] at h4;obtain⟨Y,I,g2,g3⟩:=h4;exact⟨Y,I,by simp_all,qfB g3 ac⟩
     | row e' z M=>rw[q] at h4;obtain⟨Y,I,g2,g3,g4,g5,g6⟩:=h4;exact⟨Y,I,by simp_all,g3,g4,g5,al g6⟩
    ·obtain⟨A,N⟩:=(hl i).1 O;rw[m] at W;obtain⟨e',ax,h5⟩:=hs.hp0 i A W;exact⟨e',ax,by rw[hb,if_neg (Ne.symm N),h5];rfl⟩
    ·rw[m] at W;exact hs.out i b aa ((hl i).1 O).1 W
    ·rw[m] at ap an;exact hs.inj i j b c c' ((hl i).1 O).1 ((hl j).1 hj).1 ap an
    ·rw[ad];exact hs.nx i ((hl i).1 O).1
    ·obtain⟨A,N⟩:=hs.pin i O;have ak:i≠k:=fun e=>ar (e ▸ O);simp_all [trans,if_neg,Ne.symm,B.ab_isBlk]
    ·obtain⟨A,N⟩:=(hl i).1 O;rw[m] at W;intro hF;rcases(u b).1 hF with h|⟨c,h⟩
     ·exact hs.disj i b aa A W h
     ·exact N (hs.inj i k b aa c A U W h)
    ·have ag:∀i j d,qeA s ρ w i j d→ρ.F d:=fun i j d hw=>by obtain⟨b,c,y,n,c',l1,l2,Z,l4,l5⟩:=hw;obtain⟨e1,aE,n1,aD,rfl⟩:=qbM l4;obtain⟨v,v1,-,v2⟩:=hs.ow_at l1 l2 Z;grind
     refine⟨fun x q=>?_,fun i j i' j' d A N=>?_,fun i j d A=>?_⟩
     ·rcases(u x).1 q with h|⟨c,h⟩
      ·exact hs.ows.lt x h
      grind
     ·rcases ah i j d A with g|⟨e1,z1,M,n1,I,g2,c1,g3⟩<;>rcases ah i' j' d N with g' | ⟨e2,z2,aC,n2,az,aw,c2,ay⟩
      ·exact hs.ows.one i j i' j' d g g'
      ·exact absurd (ag i j d g) (hs.disj k d c2 U ay)
      ·exact absurd (ag i' j' d g') (hs.disj k d c1 U g3)
      ·exact qnC af I az g2 aw (qRo.2 rfl) (qRo.2 rfl)
     ·rcases ah i j d A with g|⟨e1,z1,M,n1,I,g2,c1,g3⟩
      ·exact hs.ows.new i j d g
      ·exact⟨hs.out k d c1 U g3,fun h=>hs.disj k d c1 U g3 (hs.oldF d h).1⟩
   grind
  grind
 grind
def qyf:Option (Nat×Nat)→C→C
 | some (e,sz),.nils=>if 0<sz then .ow e sz 0 [] else .nils
 | _,c=>c
def qlf (zs0:List (Option (Nat×Nat))):List (Option (Nat×Nat))→List C→List C
 | _,[]=>[]
 | [],x::r=>qyf (zs0.headD none) x::qlf zs0 zs0.tail r
 | z::zs,x::r=>qyf z x::qlf zs0 zs r
def qrv (Q:TypeId→List (Option (Nat×Nat))):B→B
 | .row e sz cs=>if cs.any C.isNils=true then .row e sz (qlf (Q e) [] cs) else .row e sz cs
 | b=>b
def S.dzo (s:S) (Q:TypeId→List (Option (Nat×Nat))):S:={ s with hp:=s.hp.map fun x=>(x.1,qrv Q x.2) }
theorem qmd (z:Option (Nat×Nat)) (x:C):qyf z x=x∨(x = .nils∧∃e sz,0<sz∧qyf z x = .ow e sz 0 []):=by unfold qyf;grind
theorem qeL (zs0:List (Option (Nat×Nat))):∀(zs:List (Option (Nat×Nat))) (cs:List C),(qlf zs0 zs cs).length=cs.length∧∀(j:Nat) (y:C),(qlf zs0 zs cs)[j]?=some y→∃x z,cs[j]?=some x∧y=qyf z x
 | zs,[]=>by cases zs<;>exact⟨rfl,fun j y h=>by simp[qlf] at h⟩
 | [],x::r=>by
  obtain⟨h1,h2⟩:=qeL zs0 zs0.tail r;refine⟨by simp[qlf,h1],fun j y b=>?_⟩
  cases j with
  | zero=>simp only[qlf,qQH,qRn] at b;grind
  | succ j=>simp only[qlf,qQW] at b ⊢;simp_all
 | z::zs,x::r=>by
  obtain⟨h1,h2⟩:=qeL zs0 zs r;refine⟨by simp[qlf,h1],fun j y b=>?_⟩
  cases j with
  | zero=>simp only[qlf,qQH,qRn] at b;grind
  | succ j=>simp only[qlf,qQW] at b ⊢;simp_all
theorem qlr (Q:TypeId→List (Option (Nat×Nat))) (b:B):(qrv Q b).live=b.live:=by
 cases b with
 | row e d c=>unfold qrv;simp only;split<;>rfl
 | _=>rfl
theorem qkS (Q:TypeId→List (Option (Nat×Nat))) (b:B):(qrv Q b).isBlk=b.isBlk:=by
 cases b with
 | row e d c=>unfold qrv;simp only;split<;>rfl
 | _=>rfl
theorem Sim.dzo (hs:Sim cx ρ s a w) (Q:TypeId→List (Option (Nat×Nat))):Sim cx ρ (s.dzo Q) a w:=by
 have hb:∀i,(s.dzo Q).blk i=qrv Q (s.blk i):=fun i=>q1S (qrv Q) s.hp i .dead rfl;have m:(s.dzo Q).live=s.live:=by grind [S.live,qlr]
 refine⟨by rw[m];exact hs.hd,hs.size,fun i=>by rw[m];exact hs.tm i,fun i b Y k hr=>?_,fun i k hr=>?_,by rw[m];exact hs.out,by rw[m];exact hs.inj,fun i k=>hs.nx i (m ▸ k),hs.kept,hs.oldF,fun i k=>?_,by rw[m];exact hs.disj,?_⟩
 ·rw[m] at k ⊢;obtain⟨h1,q⟩:=hs.hp i b Y k hr;refine⟨h1,?_⟩;rw[hb];cases hx:s.blk i with
  | row Z sz I=>
   rw[hx] at q;unfold qrv;simp only;split
   ·obtain⟨vs,g1,g2,g3,g4,g5,g6⟩:=q;obtain⟨O,q2⟩:=qeL (Q Z) [] I;refine⟨vs,g1,by omega,g3,g4,g5,fun j c hj=>?_⟩
    obtain⟨x,z,U,V⟩:=q2 j c hj;have h3:=g6 j x U;rcases qmd z x with W|⟨rfl,W,aa,e2,e3⟩
    ·simp_all
    ·rw[V,e3,(RR.c _ _ h3).inv_nils];exact .ow0 _ _ e2
   ·exact q
  | blk t I=>rw[hx] at q;exact q
  | ob o=>rw[hx] at q;exact q
  | dead=>trivial
 ·rw[m] at k;obtain⟨e,sz,g⟩:=hs.hp0 i k hr;exact⟨e,sz,by rw[hb,g];rfl⟩
 ·obtain⟨h1,q⟩:=hs.pin i k;grind [qkS]
 ·refine hs.ows.sub hs.ows.lt fun i j d hw=>?_;obtain⟨b,c,y,n,M,u,A,h,N,G⟩:=hw;rw[m] at u;rw[hb] at h;cases hx:s.blk i with
  | row Z sz I=>
   rw[hx] at h;unfold qrv at h;simp only at h;split at h
   ·obtain⟨x,z,U,V⟩:=(qeL (Q Z) [] I).2 j y h;rcases qmd z x with W|⟨rfl,W,aa,e2,e3⟩
    ·rw[W] at V;exact⟨b,c,x,n,M,u,A,by rw[hx];exact U,V ▸ N,G⟩
    ·exfalso;obtain⟨v,O,q2⟩:=(hs.hp i b c u A).2.cell (j:=j) (c := .nils) (by rw[hx];exact U)
     rw[G] at O;injection O with O;have:=(RR.c _ _ q2).inv_nils;simp_all
   ·exact⟨b,c,y,n,M,u,A,by simp_all,N,G⟩
  | blk t I=>rw[hx] at h;exact⟨b,c,y,n,M,u,A,by rw[hx];exact h,N,G⟩
  | ob o=>rw[hx] at h;exact⟨b,c,y,n,M,u,A,by rw[hx];exact h,N,G⟩
  | dead=>rw[hx] at h;exact⟨b,c,y,n,M,u,A,by rw[hx];exact h,N,G⟩
def S.wk (s:S) (k id:Nat):S:={ s with hp:=s.hp.map fun x=>(x.1,if x.1=id then x.2 else x.2.fgL [k]) }
theorem qpz {f:Nat→B→B} {d:B} (hd:∀i,f i d=d):∀(l:List (Nat×B)) (i:Nat),lk (l.map fun x=>(x.1,f x.1 x.2)) i d=f i (lk l i d)
 | [],i=>(hd i).symm
 | (j,x)::l,i=>by
  show(if j=i then f j x else lk (l.map fun x=>(x.1,f x.1 x.2)) i d)=f i (if j=i then x else lk l i d);by_cases h:j=i
  ·simp_all
  simp_all [if_neg,qpz]
theorem S.wk_blk (s:S) (k id i:Nat):(s.wk k id).blk i=if i=id then s.blk i else(s.blk i).fgL [k]:=
 qpz (f:=fun i b=>if i=id then b else b.fgL [k]) (d := .dead) (fun i=>by split<;>rfl) s.hp i
theorem S.wk_live (s:S) (k id:Nat):(s.wk k id).live=s.live:=by grind [S.live,S.wk_blk,B.fgL_live]
theorem Sim.wk {a:Act} {w:World} {s:S} {ρ:Pl} (hs:Sim cx ρ s a w) (k id:Nat):Sim cx ρ (s.wk k id) a w:=by
 have g:=S.wk_live s k id;have N:q9Y [k] w s.live ρ w s.live ρ:=⟨qQN _,fun b _ _=>rfl,fun b _ h=>h,fun i _ h=>⟨h,rfl⟩,fun b h=>⟨h,fun _=>rfl⟩⟩;refine⟨by rw[g];exact hs.hd,hs.size,by rw[g];exact hs.tm,?_,?_,by rw[g];exact hs.out,by rw[g];exact hs.inj,by rw[g];exact hs.nx,hs.kept,hs.oldF,?_,by rw[g];exact hs.disj,?_⟩
 ·rw[g];intro i b m u y;obtain⟨q,t⟩:=hs.hp i b m u y;refine⟨q,?_⟩;rw[S.wk_blk];split
  ·exact t
  ·exact HB.stayL N rfl t
 ·rw[g];intro i u y;obtain⟨e,I,h⟩:=hs.hp0 i u y;refine⟨e,I,?_⟩;rw[S.wk_blk,h];split<;>rfl
 ·intro i u;obtain⟨q,t⟩:=hs.pin i u;grind [S.wk_blk,B.fgL_isBlk]
 ·refine hs.ows.sub hs.ows.lt fun i j d h=>?_;obtain⟨b,m,x,n,c,q,t,v,A,G⟩:=h;rw[g] at q;rw[S.wk_blk] at v;split at v
  ·exact⟨b,m,x,n,c,q,t,v,A,G⟩
  ·obtain⟨z,O,M⟩:=B.fgL_ow v A;exact⟨b,m,z,n,c,q,t,O,M,G⟩
def qtn:Nat→List Nat→List Nat
 | 0,l=>l
 | n+1,l=>qtn n (n::l)
def qKq (s:S) (k:Nat):Nat:=((qtn s.nx []).filter fun i=>(qbv s i).contains k).headD 0
def S.abR (s:S) (k:Nat):S:=(s.wk k (qKq s k)).ab1 k
theorem Sim.abR {a:Act} {w:World} {s:S} {ρ:Pl} (hs:Sim cx ρ s a w) (k:Nat):∃ρ',Sim cx ρ' (s.abR k) a w:=(hs.wk k (qKq s k)).ab1 k
def S.abL (s:S):List Nat→S
 | []=>s
 | k::l=>S.abL (s.abR k) l
theorem Sim.abL {a:Act} {w:World}:∀(l:List Nat) {s:S} {ρ:Pl},Sim cx ρ s a w→∃ρ',Sim cx ρ' (s.abL l) a w
 | [],_,ρ,hs=>⟨ρ,hs⟩
 | k::l,_,_,hs=>by obtain⟨ρ',h⟩:=hs.abR k;exact Sim.abL l h
def Kd.isSl0:Kd→Bool
 | .sl _=>true
 | _=>false
theorem qj5 {k:Kd} (h:k.isSl0=true):∃e,k = .sl e:=by cases k<;>simp[Kd.isSl0] at h;simp_all
theorem qB5 (hs:Sim cx ρ s a w) {id j e sz n:Nat} {ds:List D} (hc:(s.blk id).cells[j]?=some (.ow e sz n ds)):((tkS s id j e sz n ds).blk id).cells[j]?=some (.own s.nx sz 0 n):=by
 have b:s.live id:=by
  unfold S.live;cases hb:s.blk id with
  | dead=>grind [B.cells]
  | _=>rfl
 have c:s.nx≠id:=fun e=>by have:=hs.nx _ b;omega
 have d:(s.blk id).kw.isOb=false:=by
  cases hb:s.blk id with
  | ob o=>grind [B.cells]
  | _=>rfl
 have g:(tkS s id j e sz n ds).blk id=(s.blk id).kw.set j [.own s.nx sz 0 n]:=by show lk ((s.nx,_)::(id,_)::_) id B.dead=_;simp_all [lk,if_neg]
 grind [B.set1_cells,List.getElem?_set_self,B.kw_cells,List.length_map]
def abAt (s:S) (id j k e sz n:Nat) (ds:List D):S:=⟨s.tm.map fun x=>(x.1,x.2.fg k),(k,.dead)::(id,((s.blk id).fg k).set j [.ow e sz n ds])::s.hp.map fun x=>(x.1,x.2.fg k),s.nx,s.n⟩
theorem Sim.abAt (hs:Sim cx ρ s a w) {id j k e sz n:Nat} {cs:List C} {ds:List D} (hbk:s.blk k = .row e sz cs) (hcs:cs=ds.map C.d) (hsz:0<sz) (hn:ds.length=n*sz) (hj:(s.blk id).cells[j]?=some (.own k sz 0 n)) (hik:id≠k):∃ρ',Sim cx ρ' (Vc.abAt s id j k e sz n ds) a w:=by
 have U:s.live k:=by unfold S.live;rw[hbk];rfl
 have ac:s.live id:=by
  unfold S.live;cases hb:s.blk id with
  | dead=>grind [B.cells]
  | _=>rfl
 have ab:(s.blk id).isOb=false:=by
  cases hb:s.blk id with
  | ob o=>grind [B.cells]
  | _=>rfl
 have aj:((s.blk id).fg k).isOb=false:=by cases hb:s.blk id<;>first|rfl|(rw[hb] at ab;cases ab)
 obtain⟨F',ar⟩:∃F':Nat→Prop,F'=fun x=>ρ.F x∨∃c,ρ k=some (x,c):=⟨_,rfl⟩;obtain⟨ρ',ak⟩:∃ρ':Pl,ρ'=⟨ρ.at_,F'⟩:=⟨_,rfl⟩;have m:∀i,ρ' i=ρ i:=fun i=>by rw[ak]
 have A:∀x,ρ'.F x↔ρ.F x∨∃c,ρ k=some (x,c):=fun x=>by rw[ak,ar]
 obtain⟨s',Z⟩:∃s':S,s'=Vc.abAt s id j k e sz n ds:=⟨_,rfl⟩;rw[←Z];have hb:∀i,s'.blk i=if k=i then .dead else if id=i then((s.blk id).fg k).set j [.ow e sz n ds] else(s.blk i).fg k:=fun i=>by rw[Z];show(if k=i then _ else if id=i then _ else lk (s.hp.map fun x=>(x.1,x.2.fg k)) i B.dead)=_;rw[q1S (B.fg k) s.hp i .dead rfl];rfl
 have hg:∀i,s'.get i=(s.get i).fg k:=fun i=>by rw[Z];exact q1S (R.fg k) s.tm i .any rfl
 have hl:∀i,s'.live i↔s.live i∧i≠k:=fun i=>by
  unfold S.live;rw[hb];by_cases h:k=i
  ·rw[if_pos h];exact⟨fun h=>(by cases h),fun O=>absurd h.symm O.2⟩
  ·rw[if_neg h];by_cases O:id=i
   ·subst O;rw[if_pos rfl,B.set_live (by rw[B.fg_live];exact ac)]
    exact⟨fun _=>⟨ac,hik⟩,fun _=>rfl⟩
   ·rw[if_neg O,B.fg_live];grind
 have aa:∀x,Occ s'.live ρ' x→Occ s.live ρ x:=fun x M=>by
  rcases M with M|⟨i,c,I,O⟩
  ·rcases(A x).1 M with h|⟨c,h⟩
   ·exact .inl h
   ·exact .inr ⟨k,c,U,h⟩
  ·exact .inr ⟨i,c,((hl i).1 I).1,(m i).symm.trans O⟩
 have ag:qeh k w s.live ρ w s'.live ρ':=⟨qQN _,fun _ _ _=>rfl,fun x _ M=>aa x M,fun i G I=>⟨(hl i).2 ⟨I,G⟩,m i⟩,fun x M=>⟨(A x).2 (.inl M),fun _=>rfl⟩⟩;have an:∀d c,ρ k=some (d,c)→∃N:Array Value,w.heap[d]?=some (.cells N e (0,0))∧N.size=c*sz∧c≤maxLen∧∀j x,ds[j]?=some x→RD w (Occ s.live ρ) (N.getD j undef) x:=fun d c V=>by
  have h:=(hs.hp k d c U V).2;rw[hbk] at h;obtain⟨N,g1,g2,Y,g4,g5,g6⟩:=h;refine⟨N,g1,Y,g4,fun j x hj=>?_⟩;have:=g6 j (.d x) (by simp_all)
  exact this.inv_d
 have ax:∀v,RC w s.live ρ v (.own k sz 0 n)→RC w s'.live ρ' v (.ow e sz n ds):=fun v h=>by
  cases h with
  | own _ _ _ _ d c q1 q2 q3 q4=>
   obtain⟨N,g1,g2,Y,g4⟩:=an d c q2;have:=RC.ow (w:=w) (L:=s'.live) (ρ:=ρ') e sz n d c ds N ((A d).2 (.inr ⟨c,q2⟩)) g1 g2 (by omega) q4 hsz hn (fun j x hj=>(g4 j x hj).occ aa)
   simp_all
  | own0 _ _ q1 q2=>
   have:ds=[]:=qQQ (by omega)
   subst this;exact .ow0 e sz hsz
 have ap:¬ k<cx.k:=fun h=>by have:=(hs.pin k h).2;rw[hbk] at this;cases this
 have ae:∀{N:Nat→Value} {cs:List C},cs[j]?=some (.own k sz 0 n)→(∀j c,cs[j]?=some c→RC w s.live ρ (N j) c)→∀i c,((cs.map (C.fg k)).set j (.ow e sz n ds))[i]?=some c→RC w s'.live ρ' (N i) c:=fun ay h i c G=>by
  by_cases au:j=i
  ·grind
  ·rw[qRw au] at G;exact qfB h ag i c G
 have af:∀i q d,qeA s' ρ' w i q d→qeA s ρ w i q d∨(i=id∧q=j∧∃c,ρ k=some (d,c)):=fun i q d hw=>by
  obtain⟨b,c,y,n1,c',l1,l2,l3,l4,l5⟩:=hw;rw[m] at l2;obtain⟨l1,aq⟩:=(hl i).1 l1;rw[hb,if_neg (Ne.symm aq)] at l3;by_cases u:id=i
  ·subst u;rw[if_pos rfl,B.set1_cells aj] at l3;by_cases am:j=q
   ·subst am;refine .inr ⟨rfl,rfl,?_⟩;obtain⟨v,q1,q2⟩:=(hs.hp id b c l1 l2).2.cell hj;rw[l5] at q1;injection q1 with q1;subst q1;rcases(RR.c _ _ q2).inv_own.2 with ⟨d',cp,r1,r2,r3,r4⟩|⟨r1,r2,-⟩
    ·simp_all
    ·cases r2
   ·rw[qRw am] at l3;obtain⟨z,e1,e2⟩:=B.fg_ow l3 l4;exact .inl ⟨b,c,z,n1,c',l1,l2,e1,e2,l5⟩
  ·rw[if_neg u] at l3;obtain⟨z,e1,e2⟩:=B.fg_ow l3 l4;exact .inl ⟨b,c,z,n1,c',l1,l2,e1,e2,l5⟩
 refine⟨ρ',hs.hd.mono (qQN _) (fun _ _ _=>rfl) (fun x _ h=>aa x h),by rw[Z];exact hs.size,fun i=>by rw[hg];exact(hs.tm i).stayX ag,fun i b W G V=>?_,fun i G V=>?_,fun i b W G V=>?_,fun i j b c c' G hj ao al=>?_,fun i G=>?_,hs.kept,fun x M=>⟨(A x).2 (.inl (hs.oldF x M).1),(hs.oldF x M).2⟩,fun i G=>?_,fun i b W G V=>?_,?_⟩
 ·obtain⟨I,O⟩:=(hl i).1 G;rw[m] at V;obtain⟨h3,h4⟩:=hs.hp i b W I V;refine⟨h3,?_⟩;rw[hb,if_neg (Ne.symm O)];by_cases u:id=i
  ·subst u;rw[if_pos rfl];cases M:s.blk id with
   | dead=>trivial
   | ob o=>rw[M] at ab;cases ab
   | blk t ah=>rw[M] at h4 hj;obtain⟨N,g1,g2,Y⟩:=h4;exact⟨N,g1,by show N.size=((ah.map (C.fg k)).set j _).length;simp_all,ae hj Y⟩
   | row e' z ah=>rw[M] at h4 hj;obtain⟨N,g1,g2,Y,g4,g5,g6⟩:=h4;exact⟨N,g1,by show((ah.map (C.fg k)).set j _).length≤N.size;simp_all,Y,g4,g5,ae hj g6⟩
  ·rw[if_neg u];exact h4.stayX ag rfl
 ·obtain⟨I,O⟩:=(hl i).1 G;rw[m] at V;obtain⟨e',av,h5⟩:=hs.hp0 i I V;have u:id≠i:=fun e=>by grind [B.cells]
  exact⟨e',av,by rw[hb,if_neg (Ne.symm O),if_neg u,h5];rfl⟩
 ·rw[m] at V;exact hs.out i b W ((hl i).1 G).1 V
 ·rw[m] at ao al;exact hs.inj i j b c c' ((hl i).1 G).1 ((hl j).1 hj).1 ao al
 ·rw[Z];exact hs.nx i ((hl i).1 G).1
 ·obtain⟨I,O⟩:=hs.pin i G;have ai:i≠k:=fun e=>ap (e ▸ G);refine⟨(m i).trans I,?_⟩;rw[hb,if_neg (Ne.symm ai)];by_cases u:id=i
  ·subst u;rw[if_pos rfl];grind [B.set_isBlk,B.fg_isBlk]
  simp_all [if_neg,u,B.fg_isBlk]
 ·obtain⟨I,O⟩:=(hl i).1 G;rw[m] at V;intro hF;rcases(A b).1 hF with h|⟨c,h⟩
  ·exact hs.disj i b W I V h
  ·exact O (hs.inj i k b W c I U V h)
 ·have ad:∀i j d,qeA s ρ w i j d→ρ.F d:=fun i j d hw=>by obtain⟨b,c,y,n,c',l1,l2,l3,l4,l5⟩:=hw;obtain⟨e1,aB,n1,aA,rfl⟩:=qbM l4;obtain⟨v,v1,-,v2⟩:=hs.ow_at l1 l2 l3;grind
  refine⟨fun x M=>?_,fun i q i' q' d I O=>?_,fun i q d I=>?_⟩
  ·rcases(A x).1 M with h|⟨c,h⟩
   ·exact hs.ows.lt x h
   grind
  ·rcases af i q d I with g|⟨g1,g2,c1,Y⟩<;>rcases af i' q' d O with g' | ⟨aC,az,c2,aw⟩
   ·exact hs.ows.one i q i' q' d g g'
   ·exact absurd (ad i q d g) (hs.disj k d c2 U aw)
   ·exact absurd (ad i' q' d g') (hs.disj k d c1 U Y)
   omega
  ·rcases af i q d I with g|⟨g1,g2,c1,Y⟩
   ·exact hs.ows.new i q d g
   ·exact⟨hs.out k d c1 U Y,fun h=>hs.disj k d c1 U Y (hs.oldF d h).1⟩
end
end
end Go.Proofs.YtofbcijbpfjliaaGreat.Vc
namespace Go
open Go
section
variable {P:Program} {F:Fence} {n:Nat} {a:Act} {w:World} {Q:Exit→Act→World→Prop}
theorem q1X {b:Frame} {k:List Item} {cs:List Frame} {c:Code}:step P (lone (b.atR a (.code (.scope c)::k)) cs w) = .next (lone (b.atR a (.code c :: .inScope c::k)) cs w):=
 step_lone_go (by simp[stepG,stepG.exec,Frame.atR])
theorem qef {b:Frame} {k:List Item} {cs:List Frame} {c:Code}:step P (lone (b.atR a (.inScope c::k)) cs w) = .next (lone (b.atR a k) cs w):=
 step_lone_go (by simp[stepG,stepG.exec,Frame.atR])
theorem qkO {c:Code} (h:c.wpIn F n P (fun e a w=>Q e a w∧∀l,e ≠ .goto l) a w):(Code.scope c).wpIn F n P Q a w:=by
 intro b k z u t y;have m:(lone (b.atR a (.code (.scope c)::k)) z w).fenced P F:=fenced_calm t y rfl;obtain⟨e,i,g,⟨q,G⟩,d⟩:=h b (.inScope c::k) z u t y;cases e with
 | normal=>exact⟨.normal,i,g,q,.head m q1X (StepsIn.trans d (.one (fenced_calm t y rfl) qef))⟩
 | exit j=>
  have A:exitTo j (.inScope c::k)=exitTo j k:=by simp[exitTo]
  exact⟨.exit j,i,g,q,fun I v => .head m q1X (d.1 I (by rw[A];exact v)),
   fun x v=>let ⟨k₁,h1,h2⟩:=d.2 x (by rw[A];exact v);⟨k₁,h1,.head m q1X h2⟩⟩
 | goto l=>exact absurd rfl (G l)
 | ret=>exact⟨_,i,g,q,.of_steps (.one m q1X) d⟩
 | panic M=>exact⟨_,i,g,q,.of_steps (.one m q1X) d⟩
 | outgrown=>exact⟨_,i,g,q,.of_steps (.one m q1X) d⟩
end
end Go
namespace Go.Proofs.YtofbcijbpfjliaaGreat.Vc
noncomputable section
open Go.RowKit
theorem J.scope {P:Program} {cx:Cx} {c:Code} {Q:Exit→S→Prop} {s:S} (h:J P cx c (fun e s'=>Q e s'∧∀l,e ≠ .goto l) s):J P cx (.scope c) Q s:=fun ρ a w g=>
 qkO (wpIn_mono (h ρ a w g) fun e a' j ⟨s',ρ',⟨d,b⟩,i⟩=>⟨⟨s',ρ',d,i⟩,b⟩)
end
noncomputable section
open Go.RowKit
def agB (f f':Int→Int→Option Int) (zs:List Int):Prop:=∀x∈zs,∀y∈zs,f x y=f' x y
theorem qbD {f f':Int→Int→Option Int} {zs:List Int} (h:agB f f' zs) {x y:Int} (hx:x∈zs) (hy:y∈zs):ltB f x y=ltB f' x y:=by unfold ltB;rw[h x hx y hy]
theorem q2x {α:Type} {l:List α} {p q:α→Bool} (h:∀x∈l,p x=q x):l.all p=l.all q:=by
 induction l with
 | nil=>rfl
 | cons x l c=>rw[List.all_cons,List.all_cons,h x qQM,c fun y b=>h y (qQF _ b)]
theorem qti {f f':Int→Int→Option Int} {zs:List Int} (h:agB f f' zs):okB f zs=okB f' zs:=by
 unfold okB
 congr 1
 ·congr 1
  ·congr 1
   ·exact q2x fun x b=>q2x fun y c=>by rw[h x b y c]
   ·exact q2x fun x b=>by rw[qbD h b b]
  ·exact q2x fun x b=>q2x fun y c=>by rw[qbD h b c,qbD h c b]
 ·exact q2x fun x b=>q2x fun y c=>q2x fun z d=>by rw[qbD h b c,qbD h c d,qbD h b d]
theorem qaU (f:Int→Int→Option Int) (x:Int):∀(l:List Int) (z:Int),z∈qeT f x l↔z=x∨z∈l
 | [],z=>by simp[qeT]
 | y::l,z=>by
  unfold qeT;split
  ·rw[qQT,qaU f x l z,qQT];constructor
   ·rintro(h|h|h)
    ·exact .inr (.inl h)
    ·exact .inl h
    ·exact .inr (.inr h)
   ·rintro(h|h|h)
    ·exact .inr (.inl h)
    ·exact .inl h
    ·exact .inr (.inr h)
  ·rw[qQT]
theorem q2q (f:Int→Int→Option Int):∀(l:List Int) (z:Int),z∈q0v f l↔z∈l
 | [],z=>by simp[q0v]
 | x::l,z=>by unfold q0v;rw[qaU,q2q f l z,qQT]
theorem qpU {f f':Int→Int→Option Int} {zs:List Int} (h:agB f f' zs) {x:Int} (hx:x∈zs):∀{l:List Int},(∀y∈l,y∈zs)→qeT f x l=qeT f' x l
 | [],_=>rfl
 | y::l,hl=>by unfold qeT;rw[qbD h (hl y qQM) hx,qpU h hx fun z hz=>hl z (qQF _ hz)]
theorem qex {f f':Int→Int→Option Int} {zs:List Int} (h:agB f f' zs):∀{l:List Int},(∀y∈l,y∈zs)→q0v f l=q0v f' l
 | [],_=>rfl
 | x::l,hl=>by have h1:=qex h (l:=l) fun z b=>hl z (qQF _ b);unfold q0v;rw[h1];exact qpU h (hl x qQM) fun z b=>hl z (qQF _ ((q2q f' l z).1 b))
theorem qil (f:Int→Int→Option Int) (x:Int):∀l:List Int,(qeT f x l).length=l.length+1
 | []=>rfl
 | y::l=>by
  unfold qeT;split
  ·rw[qQI,qil f x l];rfl
  ·rfl
theorem q4l (f:Int→Int→Option Int):∀l:List Int,(q0v f l).length=l.length
 | []=>rfl
 | x::l=>by unfold q0v;rw[qil,q4l f l];rfl
theorem q7P {f:Int→Int→Option Int} {zs:List Int} (h:okB f zs=true):∀x∈zs,∀y∈zs,∃c,f x y=some c:=fun x d y b=>by unfold okB at h;rw[qR3,qR3,qR3] at h;have:=qQO.1 (qQO.1 h.1.1.1 x d) y b;exact Option.isSome_iff_exists.1 this
end
noncomputable section
open Go.RowKit
def OLe (E E':Orc):Prop:=∀f k args G x,E f k args G=some x→E' f k args G=some x
structure APr where
 run:Orc→Nat→List R→List (Nat×B)→Option (R×List (Nat×B))
 mono:∀E E',OLe E E'→∀k a G x,run E k a G=some x→run E' k a G=some x
 cont:∀(E:Nat→Orc) (E':Orc),(∀n m,n≤m→OLe (E n) (E m))→(∀g k a G x,E' g k a G=some x→∃n,∀m,n≤m→E m g k a G=some x)→∀k a G x,run E' k a G=some x→∃n,∀m,n≤m→run (E m) k a G=some x
def APr.of (p:Nat→List R→List (Nat×B)→Option (R×List (Nat×B))):APr:=⟨fun _=>p,fun _ _ _ _ _ _ _ h=>h,fun _ _ _ _ _ _ _ _ h=>⟨0,fun _ _=>h⟩⟩
theorem APr.of_run (p:Nat→List R→List (Nat×B)→Option (R×List (Nat×B))) (E:Orc):(APr.of p).run E=p:=rfl
structure Pol where
 q:TypeId→List Nat
 ow:FuncId→List Nat
 fz:FuncId→Bool
 kp:FuncId→Nat→List Nat
 kx:FuncId→Nat→List Nat
 rw:FuncId→Nat→List Rw
 ro:FuncId→Bool
 dm:FuncId→Nat→Nat
 an:FuncId→Nat→List (List Nat)
 rk:FuncId→Nat→List Nat
 pr:FuncId→Option APr
 ab:FuncId→Bool
 qo:TypeId→List (Option (Nat×Nat))
 tk:TypeId→Option Bool
def zmk (ow:List Nat):Nat→List (List Nat)→List (List Nat)
 | _,[]=>[]
 | i,z::r=>(if ow.contains i=true then[] else z)::zmk ow (i+1) r
def q3R (po:Pol) (E:Orc) (s:S) (f:Operand) (args:List Operand) (ts:List TypeId):RS:=
 match s.ev f with
 | .c (.fn g fs caps)=>qb3 E s g (po.ow g) (zmk (po.ow g) 0 (fs.map (fun _=>[])++ts.map po.q)) (fs.map R.c++args.map s.ev++caps.map R.c)
 | .c (.hd .yield rid)=>q6a E s rid (args.map s.ev)
 | _=>none
def xCl (T:Ty) (po:Pol) (E:Orc) (s:S) (c:Call):RS:=
 match c.callee,c.args.toList,c.argTypes.toList with
 | .builtin .len,[x],[t]=>match T.k t with | .mp _ _=>(qbU T s t x).map fun r=>(r,s)|_=>qF9 T s t x
 | .builtin .min,[x,y],_=>qFE s x y
 | .builtin .max,[x,y],_=>qF2 s x y
 | .builtin .append,[x,y],[t,t']=>if t'=t then q7n T s t x y else none
 | .builtin .copy,[x,y],[t,_]=>qmT T s t x y
 | .value f,args,ts=>q3R po E s f args ts
 | _,_,_=>none
def xo (P:Program) (T:Ty) (po:Pol) (E:Orc) (s:S) (op:Op):RS:=
 match op with
 | .move x=>some (s.ev x,s)
 | .assign x=>some (s.ev x,s)
 | .pick c x y=>qrS s c x y
 | .alloc t=>qid T s t
 | .box t x=>qFC s t x
 | .build t parts=>qk3 T s t parts.toList
 | .buildSlice t len parts=>q1Y T s t len parts.toList
 | .load t x=>qem T s t x
 | .store t x y=>q5c T s t x y
 | .nilCheck x=>q6j s x
 | .binOp op t x y _=>qF3 P T s op t x y
 | .unOp op _ x=>xUn s op x
 | .convert t t' x=>qqQ T s t t' x
 | .makeFunc f first captured=>q8E s f first.toList captured.toList
 | .makeSlice t l c=>qh1 T s t l c
 | .slice t x lo hi mx=>qJf T s t x lo hi mx
 | .fieldAddr t x f=>q4x T s t x f
 | .field t x f=>qnq T s t x f
 | .indexAddr t x y=>q6K T s t x y
 | .index t x y=>qix T s t x y
 | .extract x i=>qaS s x i
 | .call c=>xCl T po E s c
 | .makeMap t r=>q3I T s s.nx t r
 | .lookup t x y ok=>(q5N T s t x y ok).map fun r=>(r,s)
 | .mapUpdate t m k x=>q66 T s t m k x
 | .insert t m k x=>q66 T s t m k x
 | .mapEntry t m k=>qe0 T s t m k
 | .entryStore _ m st x=>qiJ s m st x
 | .range t x=>q7b T s s.nx t x
 | .entry it=>qis s it
 | .next it str=>if str=true then qlB s it else q9R s it
 | _=>none
def isY (s:S):Op→Bool
 | .call { callee := .value f,.. }=>(match s.ev f with | .c (.hd .yield _)=>true|_=>false)
 | _=>false
def qbF (s:S) (args:List Operand):List Nat:=q5T s (((args.map s.ev).flatMap R.rows).eraseDups)
def qnA (s:S) (i:Nat):List Nat:=match s.blk i with | .row _ _ cs=>cs.flatMap C.rows|_=>[]
def qmV (s:S) (i:Nat):Bool:=match s.blk i with | .row _ _ cs=>cs.all C.dat|_=>false
def S.inr (s:S):List Nat:=((((s.hp.map Prod.fst).eraseDups.flatMap (qnA s)).eraseDups).filter (qmV s))
def S.fn1 (s:S):S:=s.frz s.inr
def frA (s:S) (args:List Operand):S:=s.frz (qbF s args)
def S.uwB (s:S) (b:Bool):S:=if b=true then s.uw else s
def qDc (po:Pol) (t:TypeId):Bool:=match po.tk t with|some false=>true|_=>false
def qnr (s:S) (args:List Operand):Bool:=args.any fun x => !(s.ev x).rows.isEmpty
def qIt (po:Pol) (s:S) (f:Operand) (args:List Operand):S:=
 match s.ev f with
 | .c (.fn g _ _)=>if po.fz g=true then frA s.fn1.fn1 args else s
 | _=>s
def qEA (s:S) (args:List Operand):S:=s.frz ((qbF s args).filter (qmV s))
def pre (po:Pol) (s:S) (op:Op):S:=
 match op with
 | .buildSlice t _ parts=>if po.tk t=some false then s else qEA s (parts.toList.map Prod.snd)
 | .call { callee := .value f,args,argTypes:=ts }=>qIt po ((s.uwB (ts.toList.any (qDc po)&&qnr s args.toList)).dzr po.q) f args.toList
 | _=>s
def qaN (s:S):Option Nat→Bool
 | some d=>decide (d<s.n)
 | none=>true
def tt:R := .c (.d (.bool true))
def ff:R := .c (.d (.bool false))
def S.ly (s:S) (c:Operand) (r:R):S:=match c with | .tmp d=>s.put (some d) r|_=>s
def xst (P:Program) (T:Ty) (po:Pol) (E:Orc) (o:Oper) (act:Bool) (s:S):Option S:=
 if act=true then(xo P T po E (pre po s o.op) o.op).bind fun q=>if qaN q.2 o.dst=true then some (q.2.put o.dst q.1) else none
 else if qaN s o.dst=true then some (s.put o.dst (.tup [])) else none
def qaZ:List C→Option (List Int)
 | []=>some []
 | c::l=>match c with
  | .d (.int .i64 z)=>(qaZ l).map (z :: ·)
  | _=>none
def qIf (kp:Bool) (s:S) (dst:Option Nat) (h:List Int→List Int) (id n:Nat):Option S:=
 match s.blk id with
 | .row e 1 cs=>(qaZ cs).bind fun zs=>if n=zs.length∧zs.length<4611686018427387904∧qaN s dst=true then some (match kp with|true=>(s.up [(id,.row e 1 ((h zs).map fun z => .d (.int .i64 z)))]).put dst (.tup [])|false=>((s.up [(id,.row e 1 ((h zs).map fun z => .d (.int .i64 z)))]).put dst (.tup [])).frz [id]) else none
 | _=>none
def qH6 (kp:Bool) (s:S) (dst:Option Nat) (h:List Int→List Int):R→Option S
 | .c (.own id 1 0 n)=>qIf kp s dst h id n
 | _=>none
def qFh (T:Ty) (s:S) (dst:Option Nat) (g:FuncId) (args:List Operand):Option (Option S):=
 match args with
 | [x]=>match T.ip g with
  | some h=>some (qH6 T.ipk s dst h (s.ev x))
  | none=>none
 | _=>none
def qtm (T:Ty) (s:S) (o:Oper):Option (Option S):=
 match o.guard,o.op with
 | none,.call { callee := .value f,args,.. }=>match s.ev f with
  | .c (.fn g [] [])=>qFh T s o.dst g args.toList
  | _=>none
 | _,_=>none
def cfO (E:Orc) (g:FuncId) (x y:Int):Option Int:=
 match E (.fn g) 0 [.c (.d (.int .i64 x)),.c (.d (.int .i64 y))] [] with
 | some (.c (.d (.int .i64 c)),[])=>some c
 | _=>none
def qke (s:S) (dst:Option Nat) (f:Int→Int→Option Int) (e id n:Nat):Option S:=
 match s.blk id with
 | .row e' 1 cs=>(qaZ cs).bind fun zs=>if e'=e∧n=zs.length∧0<zs.length∧zs.length<4611686018427387904∧okB f zs=true∧qaN s dst=true then some (((s.up [(id,.row e 1 ((q0v f zs).map fun z => .d (.int .i64 z)))]).put dst (.tup [])).frz [id]) else none
 | _=>none
def qEI (E:Orc) (s:S) (dst:Option Nat) (e:TypeId):R→R→Option S
 | .c (.own id 1 0 n),.c (.fn c [] [])=>qke s dst (cfO E c) e id n
 | _,_=>none
def qBL (T:Ty) (E:Orc) (s:S) (dst:Option Nat) (g:FuncId) (args:List Operand):Option (Option S):=
 match args with
 | [x,y]=>match T.sf g with
  | some e=>some (qEI E s dst e (s.ev x) (s.ev y))
  | none=>none
 | _=>none
def ipF (T:Ty) (E:Orc) (s:S) (o:Oper):Option (Option S):=
 match o.guard,o.op with
 | none,.call { callee := .value f,args,.. }=>match s.ev f with
  | .c (.fn g [] [])=>qBL T E s o.dst g args.toList
  | _=>none
 | _,_=>none
def ipS (x y:Option (Option S)):Option (Option S):=match x with|some z=>some z|none=>y
def ldP (s:S) (dst:Option Nat) (c:C):Option S:=if qaN s dst=true then some (s.put dst (.c c)) else none
def ldT (s:S) (dst:Option Nat) (id j:Nat):C→Option S
 | .ow e sz n ds=>if qaN s dst=true then some ((tkS s id j e sz n ds).put dst (.c (.own s.nx sz 0 n))) else none
 | .d x=>ldP s dst (.d x)
 | .ptr i o=>ldP s dst (.ptr i o)
 | .hd k i=>ldP s dst (.hd k i)
 | .nilm=>ldP s dst .nilm
 | .nilp=>ldP s dst .nilp
 | .nilf=>ldP s dst .nilf
 | .nils=>ldP s dst .nils
 | .eptr cs o=>ldP s dst (.eptr cs o)
 | .clp sz n cs=>ldP s dst (.clp sz n cs)
 | .own i z o n=>ldP s dst (.own i z o n)
 | .fn f fs caps=>ldP s dst (.fn f fs caps)
 | .any=>ldP s dst .any
def ldU (s:S) (dst:Option Nat) (x:Option R):Option S:=x.bind fun r=>if qaN s dst=true then some (s.put dst r) else none
def uwR (s:S):B→S
 | .row _ _ _=>s.uw
 | .blk _ _=>s
 | .ob _=>s
 | .dead=>s
def ldO (T:Ty) (po:Pol) (s:S) (o:Oper):Option (Option S):=
 match o.guard,o.op with
 | none,.load t x=>match po.tk t with
  | none=>none
  | some b=>match s.ev x with
   | .c (.ptr id off)=>if b=true then(if(T.k t).isSl0=true then some (((s.blk id).cells[off]?).bind (ldT s o.dst id off)) else none) else some (ldU (uwR s (s.blk id)) o.dst (ld T ((uwR s (s.blk id)).blk id).cells off t))
   | _=>none
 | _,_=>none
def qGO (ds:List D) (m:Nat):Option (List D):=if ds.length=m then some ds else if m≤ds.length then some (ds.take m) else none
def qJt (s:S) (id off k sz n:Nat):B→B→Option (Option S)
 | .row _ _ cs,.row e sz' cs'=>some (((qac cs').bind fun ds=>qGO ds (n*sz)).bind fun ds=>if sz'=sz∧0<sz∧off<cs.length∧id≠k then some (abAt ((s.up [(id,(s.blk id).set off [.own k sz 0 n])]).up [(k,.row e sz (ds.map C.d))]) id off k e sz n ds) else none)
 | _,_=>none
def stO (T:Ty) (po:Pol) (s:S) (o:Oper):Option (Option S):=
 match o.guard,o.op with
 | none,.store t x y=>match po.tk t with
  | none=>none
  | some b=>match s.ev x,s.ev y with
   | .c (.ptr id off),.c (.own k sz 0 n)=>if b=true∧o.dst=none∧(T.k t).isSl0=true∧T.sz t=1 then qJt s id off k sz n (s.blk id) (s.blk k) else none
   | _,_=>none
 | _,_=>none
def ipX (T:Ty) (po:Pol) (s:S) (o:Oper):Option (Option S):=ipS (qtm T s o) (ipS (ldO T po s o) (stO T po s o))
def ipA (T:Ty) (po:Pol) (E:Orc) (s:S) (o:Oper):Option (Option S):=ipS (ipX T po s o) (ipF T E s o)
def qhU (P:Program) (T:Ty) (po:Pol) (E:Orc) (ops:List Oper) (o:Oper) (s:S):Option S:=
 match o.guard with
 | none=>xst P T po E o true s
 | some (j,want)=>match (ops[j]?).bind (·.dst) with
  | some d=>match s.get d with
   | .c (.d (.bool b))=>if b=true then xst P T po E o want (s.put (some d) tt) else xst P T po E o (!want) (s.put (some d) ff)
   | .tup []=>xst P T po E o false s
   | _=>none
  | none=>none
def qrw (x:Option (Option S)) (y:Option S):Option S:=match x with|some s=>s|none=>y
def xgd (P:Program) (T:Ty) (po:Pol) (E:Orc) (ops:List Oper) (o:Oper) (s:S):Option S:=qrw (ipA T po E s o) (qhU P T po E ops o s)
def xr (P:Program) (T:Ty) (po:Pol) (E:Orc) (ops:List Oper):List Oper→S→Option S
 | [],s=>some s
 | o::l,s=>(xgd P T po E ops o s).bind fun s'=>xr P T po E ops l s'
def rng:Nat→List Nat→List Nat
 | 0,acc=>acc
 | n+1,acc=>rng n (n::acc)
def qJ3 (k:Nat) (kp:List Nat) (s:S) (ids:List Nat):Option S:=
 if ids.Nodup∧ids.all (fun i=>(s.blk i).live)=true∧(rng k []).all (fun i=>ids[i]? == some i)=true then some ⟨kp.map (fun i=>(i,cnR ids (s.get i))),cnH s ids ids 0,ids.length,s.n⟩ else none
def qu9 (k:Nat) (kp:List Nat) (s:S):Option S:=qJ3 k kp s (q4Q s 60 ((rng k []).flatMap (fun i=>(s.blk i).refs)++(kp.map s.get).flatMap R.refs) (rng k []))
def S.fin (s:S) (Q:TypeId→List Nat):S:=((s.dzr Q).fn1).fn1
def S.fnB (s:S) (po:Pol) (b:Bool):S:=if b=true then((((s.dzo po.qo).abL (s.dzo po.qo).inr).fn1).fn1) else s.fin po.q
abbrev S.fnO (s:S) (po:Pol) (f:Nat):S:=s.fnB po (po.ab f)
def qHl (po:Pol) (o:Oper):Bool:=match o.op with
 | .load t _=>qDc po t
 | .call { argTypes:=ts,.. }=>ts.toList.any (qDc po)
 | _=>false
def qKu (po:Pol) (o:Oper):Bool:=match o.op with
 | .load t _=>(match po.tk t with|some true=>true|_=>false)
 | _=>false
def adP (s:S) (dst:Option Nat):RS→S
 | some q=>s.put dst q.1
 | none=>s
def adI (s:S) (dst:Option Nat):R→R→S
 | .c (.own id sz off _),.c (.d (.int _ i))=>s.put dst (.c (.ptr id ((off+i.toNat)*sz)))
 | _,_=>s
def adS (T:Ty) (s:S) (o:Oper):S:=match o.op with
 | .move x=>s.put o.dst (s.ev x)
 | .nilCheck x=>adP s o.dst (q6j s x)
 | .fieldAddr t x f=>adP s o.dst (q4x T s t x f)
 | .assign x=>s.put o.dst (s.ev x)
 | .lookup t x y ok=>adP s o.dst ((q5N T s t x y ok).map fun r=>(r,s))
 | .indexAddr _ x y=>adI s o.dst (s.ev x) (s.ev y)
 | _=>s
def adL (po:Pol) (s:S) (o:Oper):List (Nat×Nat):=match o.op with
 | .load t x=>(match po.tk t with|some true=>(match s.ev x with | .c (.ptr i j)=>[(i,j)]|_=>[])|_=>[])
 | _=>[]
def tkL (T:Ty) (po:Pol):S→List Oper→List (Nat×Nat)
 | _,[]=>[]
 | s,o::l=>adL po s o++tkL T po (adS T s o) l
def qHc (s:S) (id j:Nat):C→Option S
 | .ow e sz n ds=>some (tkS s id j e sz n ds)
 | .d _=>some s
 | .ptr _ _=>some s
 | .hd _ _=>some s
 | .nilm=>some s
 | .nilp=>some s
 | .nilf=>some s
 | .nils=>some s
 | .eptr _ _=>some s
 | .clp _ _ _=>some s
 | .own _ _ _ _=>some s
 | .fn _ _ _=>some s
 | .any=>some s
def S.tkP:S→List (Nat×Nat)→Option S
 | s,[]=>some s
 | s,x::l=>(((s.blk x.1).cells[x.2]?).bind (qHc s x.1 x.2)).bind fun s'=>s'.tkP l
def S.tkD (s:S) (T:Ty) (po:Pol) (ops:List Oper):Option S:=if ops.any (qKu po)=true then s.tkP (tkL T po s ops) else some s
def S.uwD (s:S) (po:Pol) (ops:List Oper):S:=s.uwB (ops.any (qHl po))
def nrm (po:Pol) (f key k:Nat) (s:S):Option S:=qu9 k (po.kp f key) (rwAll (s.fnO po f) (po.rw f key))
def zt:Code→Nat
 | .region id _ _=>id
 | .seq a _=>zt a
 | .block _ b=>zt b
 | .scope b=>zt b
 | .loop b=>zt b
 | _=>0
def qin (ops:List Oper) (i j:Nat):Bool:=
 match ops[i]?,ops[j]? with
 | some a,some b=>(match a.dst with|some d=>(q58 ops b).contains d||decide (b.dst=some d)|none=>false)||(match b.dst with|some d=>(q58 ops a).contains d|none=>false)
 | _,_=>true
def qxq (ops:List Oper) (m:Nat) (A:List (List Nat)):Bool:=
 let An:=qLd ops
 let n:=ops.length
 (List.range n).all (fun i=>(match ops[i]? with|some o=>(q0Y o).all (fun k=>decide (k<i))&&(An.getD i []).all (fun k=>(q0Y o).contains k||(q0Y o).any fun d=>(An.getD d []).contains k)|none=>false)) &&
 decide (m≤n) &&
 (List.range m).all (fun j=>(List.range j).all fun i => !qin ops i j||(An.getD j []).contains i) &&
 (List.range n).all (fun i=>decide (i<m)||(List.range i).all fun j=>(An.getD i []).contains j) &&
 (List.range m).all (fun i=>(A.getD i []).all fun k=>(An.getD i []).contains k)
def drq (po:Pol) (f id:Nat) (ops:List Oper):Bool:=qxq ops (po.dm f id) (po.an f id)
def q6A (q:Nat→List Oper→Bool) (rf:Bool):Code→Bool
 | .region id ops draw => !draw||q id ops.toList
 | .seq a b=>q6A q rf a&&q6A q rf b
 | .cond _ a b=>q6A q rf a&&q6A q rf b
 | .block _ c=>q6A q rf c
 | .scope c=>q6A q rf c
 | .loop c=>q6A q rf c
 | .rangeFunc _ _ a b=>rf&&q6A q false a&&q6A q false b
 | _=>true
abbrev XS:=Option (Exit×S)
def sqD (k:S→XS) (p:Exit×S):XS:=
 match p.1 with
 | .normal=>k p.2
 | e=>some (e,p.2)
def bkD (id:Nat) (p:Exit×S):XS:=
 match p.1 with
 | .exit i=>if i=id then some (.normal,p.2) else some (.exit i,p.2)
 | e=>some (e,p.2)
def scD (p:Exit×S):XS:=
 match p.1 with
 | .goto _=>none
 | e=>some (e,p.2)
def iter:Nat→(S→XS)→S→XS
 | 0,_,_=>none
 | n+1,F,s=>(F s).bind (sqD (iter n F))
def lpx (po:Pol) (f key k:Nat) (p:Exit×S):XS:=
 match p.1 with
 | .normal=>(nrm po f key k p.2).bind fun s2=>some (.normal,s2)
 | e=>(qu9 k (po.kx f key) (p.2.fnO po f)).bind fun s2=>some (e,s2)
def qh0 (s:S) (l:List Nat):List R:=(List.range s.n).map fun i=>if l.contains i=true then s.get i else .any
def qa6 (s:S) (l:List Nat):List Nat:=q5T s (((l.map s.get).flatMap R.rows).eraseDups)
def qqi (s:S):Option Code→XS
 | none=>some (.normal,s)
 | some .ret=>some (.ret,s)
 | some (.exit i)=>some (.exit i,s)
 | _=>none
def qCP (n:Nat) (s:S):XS:=
 match s.get n with
 | .c (.hd .yield rid)=>match s.blk rid with
  | .ob (.lp f tm ps aq0 bd st pd)=>if st = .busy then none else qqi (s.rfx n rid (.lp f tm ps aq0 bd .exhausted pd)) pd
  | _=>none
 | _=>none
def xRF (po:Pol) (E:Orc) (f:Nat) (g:Operand) (ps:List Nat) (aq0 bd:Code) (s:S):XS:=
 match s.ev g with
 | .c (.fn g' fs caps)=>(qb3 E (s.rf f (qh0 s (po.rk f (zt bd))) ps aq0 bd) g' (po.ow g') [] (fs.map R.c++[.c (.hd .yield s.nx)]++caps.map R.c)).bind fun q=>qCP s.n q.2
 | _=>none
def S.frk (s:S) (l:List Nat):S:=s.frz (qa6 s l)
def qA4:Op→Option Operand
 | .next it str=>if str=true then none else some it
 | _=>none
def hdG (g:Option (Nat×Bool)) (r:Option Operand):Option Operand:=match g with|none=>r|some _=>none
def quk:List Oper→Option Operand
 | []=>none
 | o::_=>hdG o.guard (qA4 o.op)
def q2I:Code→Option Operand
 | .region _ ops draw=>if draw=true then none else quk ops.toList
 | .seq a _=>q2I a
 | .block _ c=>q2I c
 | .skip=>none
 | .cond _ _ _=>none
 | .loop _=>none
 | .rangeFunc _ _ _ _=>none
 | .exit _=>none
 | .scope _=>none
 | .label _=>none
 | .goto _=>none
 | .ret=>none
 | .refuse _=>none
def S.gh (s:S) (id:Nat) (b:B):S:={ s with hp:=s.hp.map fun p=>if p.1=id then(id,b) else p }
def qCs (bs:List Nat):Nat→List (List Nat)
 | 0=>[[]]
 | n+1=>qCs bs n++(qCs bs n).flatMap fun l=>bs.map (· :: l)
abbrev Me:=List (Value×R×Nat)
def q5n (es:Me):List (List Nat):=qCs (es.map (·.2.2)) es.length
def S.mi (s:S) (id:Nat) (m:R) (ck:Nat) (l:List Nat):S:=s.gh id (.ob (.mi m ck l))
def S.m1 (s:S) (id:Nat) (m:R) (ck:Nat) (e:Option (Value×R×Nat)) (l:List Nat):S:=s.gh id (.ob (.m1 e m ck l))
structure MOk (F:S→XS) (s:S) (id:Nat) (m:R) (ck:Nat) (es:Me) (x:Exit×S):Prop where
 ne:x.1 ≠ .normal
 ent:∀e∈es,(∀l∈q5n es,F (s.m1 id m ck (some e) l)=some (.normal,s.mi id m ck (e.2.2::l)))∨∀l∈q5n es,F (s.m1 id m ck (some e) l)=some x
 fin:(∃e∈es,∀l∈q5n es,F (s.m1 id m ck (some e) l)=some x)∨∀l∈q5n es,F (s.m1 id m ck none l)=some x
def mOf (s:S) (id:Nat) (m:R) (ck:Nat):Option Me:=
 match m with
 | .c .nilm=>some []
 | .c (.hd .map mid)=>if mid=id then none else match s.blk mid with
  | .ob (.mp es c)=>if c=ck then some es else none
  | _=>none
 | _=>none
def kOk:Value→Bool
 | .int _ _=>true
 | .bool _=>true
 | .string _=>true
 | _=>false
def mHd (it:Operand) (s:S):Option (Nat×R×Nat×Me):=
 match s.ev it with
 | .c (.hd .iter id)=>match s.blk id with
  | .ob (.mi m ck [])=>(mOf s id m ck).bind fun es=>if(es.map (·.2.2)).Nodup∧es.all (fun e=>decide (e.2.2<ck)&&kOk e.1)=true then some (id,m,ck,es) else none
  | _=>none
 | _=>none
def mlp (it:Operand) (F:S→XS) (s:S):XS:=open Classical in (mHd it s).bind fun q=>if h:∃x,MOk F s q.1 q.2.1 q.2.2.1 q.2.2.2 x then some (Classical.choose h) else none
def lpM (LO:(S→XS)→S→XS) (o:Option Operand) (F:S→XS) (s:S):XS:=
 match o with
 | none=>LO F s
 | some it=>mlp it F s
theorem q7X (bs:List Nat):∀n,[]∈qCs bs n
 | 0=>qRo.2 rfl
 | n+1=>qQJ _ (q7X bs n)
theorem qiB (bs:List Nat):∀(n:Nat) (l:List Nat),l.length≤n→(∀x∈l,x∈bs)→l∈qCs bs n
 | 0,l,h,_=>by
  have:l=[]:=qQQ (by omega)
  subst this;exact q7X bs 0
 | n+1,[],_,_=>q7X bs (n+1)
 | n+1,x::l,h,hx=>by refine qQG _ (List.mem_flatMap.2 ⟨l,qiB bs n l (by simpa using h) (fun y b=>hx y (qQF _ b)),qRi.2 ⟨x,hx x qQM,rfl⟩⟩)
theorem MOk.one {F:S→XS} {s:S} {id:Nat} {m:R} {ck:Nat} {es:Me} {x y:Exit×S} (hx:MOk F s id m ck es x) (hy:MOk F s id m ck es y):x=y:=by
 have g:[]∈q5n es:=q7X _ _;have b:∀{x y:Exit×S},MOk F s id m ck es y→x.1 ≠ .normal→(∃e∈es,∀l∈q5n es,F (s.m1 id m ck (some e) l)=some x)→x=y:=by
  rintro x y hy hx ⟨e,d,h⟩;rcases hy.ent e d with c|c
  ·grind
  grind
 rcases hx.fin with h|h
 ·exact b hy hx.ne h
 ·rcases hy.fin with c|c
  ·exact(b hx hy.ne c).symm
  grind
theorem qtb {it:Operand} {F:S→XS} {s:S} {id:Nat} {m:R} {ck:Nat} {es:Me} {x:Exit×S} (hm:mHd it s=some (id,m,ck,es)) (h:MOk F s id m ck es x):mlp it F s=some x:=by unfold mlp;rw[hm,qQx,dif_pos ⟨x,h⟩];exact congrArg some ((Classical.choose_spec (⟨x,h⟩:∃x,MOk F s id m ck es x)).one h)
theorem qdF {it:Operand} {F:S→XS} {s:S} {x:Exit×S} (h:mlp it F s=some x):∃id m ck es,mHd it s=some (id,m,ck,es)∧MOk F s id m ck es x:=by
 unfold mlp at h;obtain⟨⟨id,m,ck,es⟩,c,b⟩:=qQC.1 h;split at b
 ·grind
 ·cases b
def XD (P:Program) (T:Ty) (po:Pol) (E:Orc) (DR:Nat→List Oper→S→Option S) (LO:(S→XS)→S→XS) (f k:Nat):Code→S→XS
 | .skip,s=>some (.normal,s)
 | .label _,s=>some (.normal,s)
 | .ret,s=>some (.ret,s)
 | .exit id,s=>some (.exit id,s)
 | .seq a b,s=>(XD P T po E DR LO f k a s).bind (sqD fun s'=>XD P T po E DR LO f k b s')
 | .block id c,s=>(XD P T po E DR LO f k c s).bind (bkD id)
 | .scope c,s=>(XD P T po E DR LO f k c s).bind scD
 | .cond c x y,s=>match s.ev c with
  | .c (.d (.bool b))=>if b=true then XD P T po E DR LO f k x (s.ly c tt) else XD P T po E DR LO f k y (s.ly c ff)
  | _=>none
 | .region id ops draw,s=>if draw=true then(DR id ops.toList (((s.uwD po ops.toList).dzr po.q).frk (po.rk f id))).bind fun s'=>some (.normal,s') else(xr P T po E ops.toList ops.toList s).bind fun s'=>some (.normal,s')
 | .rangeFunc g ps aq0 bd,s=>xRF po E f g ps.toList aq0 bd ((s.dzr po.q).frz (qa6 (s.dzr po.q) (po.rk f (zt bd))))
 | .loop c,s=>(nrm po f (zt c) k s).bind fun s0=>lpM LO (q2I c) (fun s=>(XD P T po E DR LO f k c s).bind (lpx po f (zt c) k)) s0
 | _,_=>none
section
variable {P:Program} {T:Ty} {po:Pol} {E:Orc} {s s':S} {r:R} {cx:Cx}
theorem qyL (hE:Snd P E) {c:Call} {K:KK} (hny:∀f,c.callee = .value f→∀rid,s.ev f ≠ .c (.hd .yield rid)) (h:xCl T po E s c=some (r,s')) (hK:K r s'):qm2 P T s s.nx c K:=by
 unfold xCl at h;unfold qm2;split at h
 ·rename_i b d e;simp only[b,d,e];split at h
  ·rename_i j;simp only[j];obtain⟨v,t,u⟩:=qQK.1 h;simp_all
  ·rename_i j;split
   ·simp_all
   ·exact qwY h hK
 ·rename_i b d;simp only[b,d];exact qva h hK
 ·rename_i b d;simp only[b,d];exact qwP h hK
 ·rename_i b d e;simp only[b,d,e];split at h
  ·rename_i q;exact⟨q,q9f h hK⟩
  ·cases h
 ·rename_i b d e;simp only[b,d,e];exact⟨_,_,h,hK⟩
 ·rename_i f b;simp only[b];unfold q3R at h;split at h
  ·rename_i g k i m;exact⟨g,k,i,m,qf0 hE h hK⟩
  ·simp_all
  ·cases h
 ·cases h
theorem quI (hE:Snd P E) {op:Op} {K:KK} (hy:isY s op=false) (h:xo P T po E s op=some (r,s')) (hK:K r s'):ox P T s s.nx op K:=by
 cases op with
 | move x=>obtain⟨rfl,rfl⟩:=q4A h;exact hK
 | assign x=>obtain⟨rfl,rfl⟩:=q4A h;exact hK
 | pick c x y=>exact qse h hK
 | alloc t=>exact qnl h hK
 | box t x=>exact qvL h hK
 | build t b=>exact qpb h hK
 | buildSlice t A b=>exact qcD h hK
 | load t x=>exact qsK h hK
 | store t x y=>exact qfL h hK
 | nilCheck x=>exact qfW h hK
 | binOp op t x y G=>exact qwv h hK
 | unOp op t x=>exact qB7 h hK
 | convert t G x=>exact qqS h hK
 | makeFunc f first d=>exact qfH h hK
 | makeSlice t l c=>exact qig h hK
 | slice t x Y V Z=>exact qwA h hK
 | fieldAddr t x f=>exact qdU h hK
 | field t x f=>exact qpq h hK
 | indexAddr t x y=>exact qew h hK
 | index t x y=>exact qpd h hK
 | extract x i=>exact qhT h hK
 | call c=>
  refine qyL hE (fun f u M v=>?_) h hK;obtain⟨e,q,U⟩:=c;simp only at u;subst u;simp only[isY,v] at hy;cases hy
 | makeMap t r=>exact⟨_,_,h,hK⟩
 | lookup t x y I=>
  obtain⟨r',z,g⟩:=qQK.1 (show(q5N T s t x y I).map (fun r=>(r,s))=some (r,s') from h);injection g with g O;subst g O;exact⟨_,z,hK⟩
 | mapUpdate t m k x=>exact⟨_,_,h,hK⟩
 | insert t m k x=>exact⟨_,_,h,hK⟩
 | mapEntry t m k=>exact⟨_,_,h,hK⟩
 | entryStore t m W x=>exact⟨_,_,h,hK⟩
 | range t x=>exact⟨_,_,h,hK⟩
 | entry N=>exact⟨_,_,h,hK⟩
 | next N j=>
  cases j
  ·exact⟨_,_,h,hK⟩
  ·exact⟨_,_,h,hK⟩
 | _=>cases h
theorem q5W (s:S) (l:List Nat):(q5T s l).all (fun i => !(s.blk i).isBlk)=true:=by rw[qQO];intro i b;exact(qRt.1 b).2
theorem Sim.fn1 {ρ:Pl} {a:Act} {w:World} (hs:Sim cx ρ s a w):Sim cx ρ s.fn1 a w:=hs.frz (by
 rw[qQO];intro i c;have h:=(qRt.1 c).2;unfold qmV at h;split at h
 ·rename_i b;rw[b];rfl
 ·cases h)
theorem Sim.uwB {ρ:Pl} {a:Act} {w:World} (hs:Sim cx ρ s a w) (b:Bool):∃ρ',Sim cx ρ' (s.uwB b) a w:=by
 unfold S.uwB;split
 ·exact⟨_,hs.uw⟩
 grind
theorem qBr (po:Pol) (op:Op) {ρ:Pl} {a:Act} {w:World} (hs:Sim cx ρ s a w):∃ρ',Sim cx ρ' (pre po s op) a w:=by
 unfold pre;split
 ·split
  ·grind
  ·exact⟨ρ,hs.frz (qQO.2 fun i c=>qQO.1 (q5W _ _) i (qRt.1 c).1)⟩
 ·rename_i f b d;obtain⟨ρ',e⟩:=hs.uwB (d.toList.any (qDc po)&&qnr s b.toList);have hs:=e.dzr po.q;refine⟨ρ',?_⟩;unfold qIt;split
  ·split
   ·exact hs.fn1.fn1.frz (q5W _ _)
   ·exact hs
  ·exact hs
 grind
theorem Sim.lit {ρ:Pl} {a:Act} {w:World} (hs:Sim cx ρ s a w) {d:Nat} {b:Bool} (h:s.get d = .c (.d (.bool b))):Sim cx ρ (s.put (some d) (.c (.d (.bool b)))) a w:=by
 refine⟨hs.hd,hs.size,fun i=>?_,hs.hp,hs.hp0,hs.out,hs.inj,hs.nx,hs.kept,hs.oldF,hs.pin,hs.disj,⟨hs.ows.lt,hs.ows.one,hs.ows.new⟩⟩;show RR w s.live ρ _ (lk ((d,R.c (.d (.bool b)))::s.tm) i .any);unfold lk;split
 ·rename_i hd;subst hd;rw[←h];exact hs.tm d
 ·exact hs.tm i
theorem Sim.ly {ρ:Pl} {a:Act} {w:World} (hs:Sim cx ρ s a w) {c:Operand} {b:Bool} (h:s.ev c = .c (.d (.bool b))):Sim cx ρ (s.ly c (.c (.d (.bool b)))) a w:=by
 cases c with
 | tmp d=>exact hs.lit h
 | _=>exact hs
theorem RR.un {w:World} {L:Nat→Prop} {ρ:Pl}:RR w L ρ undef (.tup []) := .tup _ _ rfl (fun j c h=>by simp at h)
theorem q46 {s:S} {dst:Option Nat} (h:qaN s dst=true):∀d,dst=some d→d<s.n:=fun d b=>by subst b;simpa [qaN] using h
theorem qic (hA:Ag P T) (hE:Snd P E) {o:Oper} {act:Bool} {ρ:Pl} {a:Act} {w:World} (hs:Sim cx ρ s a w) (h:xst P T po E o act s=some s') {next:Act→World→Prop} {Q:Exit→Act→World→Prop}
  (hn:∀ρ' a' w',Sim cx ρ' s' a' w'→next a' w'):if act=true then o.wpIn (FW cx.ro) 0 P a w next Q else next (a.put o.dst undef) w:=by
 unfold xst at h;split
 ·rename_i ha;rw[if_pos ha] at h;obtain⟨⟨r,s1⟩,h1,h2⟩:=qQC.1 h;simp only at h2;split at h2
  ·rename_i hd;injection h2 with h2;subst h2;obtain⟨ρ0,hp⟩:=qBr po o.op hs;by_cases hy:isY (Vc.pre po s o.op) o.op=true
   ·have hny:∃y args ts rid,o.op = .call { callee := .value y,args,argTypes:=ts }∧(Vc.pre po s o.op).ev y = .c (.hd .yield rid):=by generalize Vc.pre po s o.op=t at hy;unfold isY at hy;grind
    obtain⟨y,args,ts,rid,ho,hye⟩:=hny;have h3:q6a E (Vc.pre po s o.op) rid (args.toList.map (Vc.pre po s o.op).ev)=some (r,s1):=by generalize Vc.pre po s o.op=t at h1 hye;rw[ho] at h1;simp only[xo,xCl,q3R,hye] at h1;exact h1
    refine qpn hE hp ho hye h3 ?_;rintro r' s2 ρ' v w' ⟨rfl,rfl⟩ h3 h4;exact hn ρ' _ w' (h3.put (q46 hd) h4)
   have hox:ox P T (Vc.pre po s o.op) (Vc.pre po s o.op).nx o.op (fun r' s'=>r'=r∧s'=s1):=quI hE (by simp_all) h1 ⟨rfl,rfl⟩
   refine qbN (K:=fun r' s'=>r'=r∧s'=s1) hA (fun h=>by have:=hp.nx _ h;omega) hp hox ?_
   rintro r' s2 ρ' v w' ⟨rfl,rfl⟩ h3 h4;exact hn ρ' _ w' (h3.put (q46 hd) h4)
  ·cases h2
 ·rename_i ha;rw[if_neg ha] at h;split at h
  ·rename_i hd;injection h with h;subst h;exact hn ρ _ w (hs.put (q46 hd) RR.un)
  ·cases h
theorem qaB:∀{cs:List C} {zs:List Int},qaZ cs=some zs→cs=zs.map fun z => .d (.int .i64 z)
 | [],zs,h=>by injection h with h;subst h;rfl
 | c::l,zs,h=>by
  unfold qaZ at h;split at h
  ·obtain⟨ys,h1,h2⟩:=qQK.1 h;subst h2;rw[qaB h1];rfl
  ·cases h
theorem qwz (hA:Ag P T) {g:FuncId} {h:List Int→List Int} (hg:T.ip g=some h) {id n:Nat} {e:TypeId} {cs:List C} (hb:s.blk id = .row e 1 cs) {zs:List Int} (hz:qaZ cs=some zs) (hn:n=zs.length) (hlt:zs.length<4611686018427387904) :
  q3l P s g [.c (.own id 1 0 n)] fun r s1=>r = .tup []∧s1=s.up [(id,.row e 1 ((h zs).map fun z => .d (.int .i64 z)))]:=by
 have I:=hA.ip g h hg;refine⟨⟨I.ent⟩,fun cx ρ a w vs V hv=>?_⟩;obtain⟨aj,ac⟩:=hv;have v:=ac 0 _ rfl;obtain⟨v0,aa⟩:∃v0,vs=#[v0]:=by
  have:vs.size=1:=by assumption
  exact⟨vs[0],by grind⟩
 subst aa;have v:RR w _ ρ v0 _:=v;obtain⟨hl,G⟩:=v.inv_own;have Y:=qaB hz;subst hn;have M:id<cx.k→(B.row e 1 ((h zs).map fun z=>C.d (.int .i64 z))).isBlk=true:=fun hk=>by have:=(V.pin id hk).2;rw[hb] at this;cases this
 rcases G with ⟨b,q,e1,e2,e3,e4⟩|⟨e1,e2,-,e5⟩
 ·rw[Nat.zero_mul,qRq] at e4;rw[qQV] at e2;obtain⟨ai,hB⟩:=V.hp id b q hl e1;rw[hb] at hB;obtain⟨A,c1,c2,c3,c4,c5,c6⟩:HB w _ ρ b q (.row e 1 cs):=hB;have ah:cs.length=zs.length:=by simp_all
  have ae:A.toList.take zs.length=zs.map (Value.int .i64):=by
   apply List.ext_getElem?;intro j;by_cases t:j<zs.length
   ·rw[qR6 t,Array.getElem?_toList,qQL,qQz t,Option.map_some];have:=c6 j (.d (.int .i64 zs[j])) (by simp_all)
    have O:j<A.size:=by omega
    rw[qQD,qQY O,Option.getD_some] at this;rw[qQY O];have:=(RR.c _ _ this).inv_int;rw[this]
   simp_all
  rw[e4];refine(I.row b q zs w A e c1 ae hlt).mono fun e' w'=>?_;rintro⟨rfl,m,u,d1,d2,d3⟩;have ad:HB w' (s.up [(id,B.row e 1 ((h zs).map fun z=>C.d (.int .i64 z)))]).live ρ b q (.row e 1 ((h zs).map fun z=>C.d (.int .i64 z))):=by
   refine⟨u,d1,by have:=I.len zs;simp_all,d2.trans c3,c4,c5,fun j c t=>?_⟩
   rw[qQL] at t;obtain⟨z,q1,q2⟩:=qQK.1 t;subst q2;have af:j<zs.length:=by have:=(qQB.1 q1).1;rw[I.len] at this;exact this
   have h3:(u.toList.take zs.length)[j]?=some (.int .i64 z):=by simp_all
   rw[qR6 af,Array.getElem?_toList] at h3;rw[qQD,h3];exact .d _ _ (.int _ _)
  have U:=(V.overG (id:=id) (x := .row e 1 ((h zs).map fun z=>C.d (.int .i64 z))) hl e1 rfl M m.size (fun k hk ab=>m.block k hk (fun e=>ab (Option.some.inj e))) m.os m.tape m.output ad (fun j y d n c hy Z _=>by rw[show(B.row e 1 (List.map _ _)).cells=List.map _ _ from rfl,qQL] at hy;obtain⟨z,-,rfl⟩:=qQK.1 hy;cases Z)).1
  exact⟨_,_,_,ρ,rfl,⟨rfl,rfl⟩,U,.tup _ _ rfl (fun j r t=>by simp at t)⟩
 ·subst e2;have ag:zs=[]:=qQQ e5;subst ag;have W:h []=[]:=qQQ (I.len []);refine(I.none_ w).mono fun e' w'=>?_;rintro⟨rfl,rfl⟩;have N:cs=[]:=by rw[Y];rfl
  subst N;refine⟨_,_,_,ρ,rfl,⟨rfl,rfl⟩,?_,.tup _ _ rfl (fun j r t=>by simp at t)⟩
  rw[W];refine V.ext (fun i=>rfl) (fun i=>?_) rfl (fun i hi=>?_)
  ·rw[S.blk_up];grind
  ·have:s.live i:=by unfold S.live at hi ⊢;rw[S.blk_up] at hi;grind
   have h1:=V.nx i this;show i<max s.nx (id+1);omega
theorem qvJ (hA:Ag P T) {o:Oper} {ρ:Pl} {a:Act} {w:World} (hs:Sim cx ρ s a w) (h:qtm T s o=some (some s')) {next:Act→World→Prop} {Q:Exit→Act→World→Prop}
  (hn:∀ρ' a' w',Sim cx ρ' s' a' w'→next a' w'):o.guard=none∧o.wpIn (FW cx.ro) 0 P a w next Q:=by
 unfold qtm at h;split at h
 ·rename_i f G ts O U;split at h
  ·rename_i g Z;unfold qFh at h;split at h
   ·rename_i x b;split at h
    ·rename_i i u;injection h with h;unfold qH6 at h;split at h
     ·rename_i id n hx;unfold qIf at h;split at h
      ·rename_i e cs V;obtain⟨j,Y,c⟩:=qQC.1 h;split at c
       ·rename_i W;obtain⟨N,c2,M⟩:=W;injection c with c;have m:=qwz (s:=s) hA u V Y N c2;have k:ox P T s s.nx o.op (fun r t=>r = .tup []∧t=s.up [(id,.row e 1 ((i j).map fun z => .d (.int .i64 z)))]):=by rw[U];unfold ox qm2;simp only[b];exact⟨g,[],[],Z,by simp_all⟩
        refine⟨O,qbN (K:=fun A t=>A = .tup []∧t=s.up [(id,.row e 1 ((i j).map fun z => .d (.int .i64 z)))]) hA (fun h=>by have:=hs.nx _ h;omega) hs k ?_⟩
        rintro A s2 ρ' v w' ⟨rfl,rfl⟩ y I;refine hn ρ' _ w' ?_;rw[←c];cases T.ipk with
        | true=>exact y.put (fun d q=>by have:=q46 M d q;exact this) I
        | false=>
        refine(y.put (fun d q=>by have:=q46 M d q;exact this) I).frz ?_
        rw[List.all_cons,List.all_nil,qRz];have e1:(((s.up [(id,.row e 1 ((i j).map fun z => .d (.int .i64 z)))]).put o.dst (.tup [])).blk id)=(s.up [(id,.row e 1 ((i j).map fun z => .d (.int .i64 z)))]).blk id:=by cases o.dst<;>rfl
        rw[e1,S.blk_up];simp[B.isBlk]
       ·cases c
      ·cases h
     ·cases h
    ·cases h
   ·cases h
  ·cases h
 ·cases h
def pl0:Pl:=⟨fun _=>none,fun _=>False⟩
theorem qpT (hE:Snd P E) {g:FuncId} {zs:List Int} (h:okB (cfO E g) zs=true):∀x∈zs,∀y∈zs,∀W:World,Calls P g #[.int .i64 x,.int .i64 y] W fun e' W'=>(∃v,cfO E g x y=some v∧e' = .returned (.int .i64 v))∧W.grownBy W' none:=by
 intro x Y y M W;obtain⟨c,G⟩:=q7P h x Y y M;have A:E (.fn g) 0 [.c (.d (.int .i64 x)),.c (.d (.int .i64 y))] []=some (.c (.d (.int .i64 c)),[]):=by unfold cfO at G;grind
 have z:=hE.fn g 0 _ [] _ _ A;have m:∀i,¬ (q0x [] 0).live i:=fun i h=>by cases h
 have V:Sim ⟨fun _=>False,W,pl0,0,none⟩ pl0 (q0x [] 0) qcH W:=
  ⟨Hd.none,rfl,fun i => .any _,fun i b c h=>absurd h (m i),fun i h=>absurd h (m i),fun i b c h=>absurd h (m i),fun i j b c c' h=>absurd h (m i),fun i h=>absurd h (m i),ql2.refl _ _,fun b u=>u.elim,fun i I=>absurd I (Nat.not_lt_zero _),fun i b c h=>absurd h (m i),⟨fun b u=>u.elim,fun i j _ _ d h=>absurd h.choose_spec.choose_spec.choose_spec.choose_spec.choose_spec.1 (m i),fun i j d h=>absurd h.choose_spec.choose_spec.choose_spec.choose_spec.choose_spec.1 (m i)⟩⟩
 have hr:RRs W (q0x [] 0).live pl0 (#[.int .i64 x,.int .i64 y]:Array Value) [.c (.d (.int .i64 x)),.c (.d (.int .i64 y))]:=by
  refine⟨rfl,fun j r q=>?_⟩;cases j with
  | zero=>injection q with q;subst q;exact .c _ _ (.d _ _ (.int .i64 x))
  | succ j=>cases j with
   | zero=>injection q with q;subst q;exact .c _ _ (.d _ _ (.int .i64 y))
   | succ j=>simp at q
 refine(z.call ⟨fun _=>False,W,pl0,0,none⟩ pl0 W _ rfl rfl rfl rfl V hr).mono ?_;rintro e W' ⟨v,r,O,U,ρ',rfl,⟨rfl,rfl⟩,t,N⟩;rw[N.inv_int];exact⟨⟨c,G,rfl⟩,⟨t.kept.os,t.kept.tape,t.kept.output,t.kept.size,fun k Z _=>t.kept.block k Z (fun h=>h)⟩⟩
theorem qxJ (hA:Ag P T) (hE:Snd P E) {g:FuncId} {e:TypeId} (hg:T.sf g=some e) {id n:Nat} {c:FuncId} {cs:List C} (hb:s.blk id = .row e 1 cs) {zs:List Int} (hz:qaZ cs=some zs) (hn:n=zs.length) (h0:0<zs.length) (hlt:zs.length<4611686018427387904) (hok:okB (cfO E c) zs=true) :
  q3l P s g [.c (.own id 1 0 n),.c (.fn c [] [])] fun r s1=>r = .tup []∧s1=s.up [(id,.row e 1 ((q0v (cfO E c) zs).map fun z => .d (.int .i64 z)))]:=by
 have hI:=hA.sf g e hg;refine⟨⟨hI.ent⟩,fun cx ρ a w vs hs hv=>?_⟩;obtain⟨ai,U⟩:=hv;have ag:=U 0 _ rfl;have Z:=U 1 _ rfl;obtain⟨hl,G⟩:=ag.inv_own;have al:=qaB hz;subst hn;have N:id<cx.k→(B.row e 1 ((q0v (cfO E c) zs).map fun z=>C.d (.int .i64 z))).isBlk=true:=fun hk=>by have:=(hs.pin id hk).2;rw[hb] at this;cases this
 rcases G with ⟨b,m,e1,e2,e3,e4⟩|⟨-,-,-,e5⟩
 ·rw[Nat.zero_mul,qRq] at e4;rw[qQV] at e2;obtain⟨us,Y,g1,g2,-,g4,-⟩:=Z.inv_fn;obtain rfl:us=#[]:=Array.eq_empty_of_size_eq_zero (by assumption)
  obtain rfl:Y=#[]:=Array.eq_empty_of_size_eq_zero (by assumption)
  have O:vs=#[.slice (some ⟨b,0,none⟩) zs.length m,.func (.func c) #[] #[]]:=by
   apply Array.ext
   ·assumption
   ·intro i hi aj;have hg:vs.getD i undef=vs[i]:=by simp_all
    grind
  subst O;obtain⟨ak,hB⟩:=hs.hp id b m hl e1;rw[hb] at hB;obtain⟨A,c1,c2,c3,c4,c5,c6⟩:HB w _ ρ b m (.row e 1 cs):=hB;have ah:cs.length=zs.length:=by simp_all
  have aa:A.toList.take zs.length=zs.map (Value.int .i64):=by
   apply List.ext_getElem?;intro j;by_cases u:j<zs.length
   ·rw[qR6 u,Array.getElem?_toList,qQL,qQz u,Option.map_some];have:=c6 j (.d (.int .i64 zs[j])) (by simp_all)
    have I:j<A.size:=by omega
    rw[qQD,qQY I,Option.getD_some] at this;rw[qQY I];have:=(RR.c _ _ this).inv_int;rw[this]
   simp_all
  have ac:∀h w,(callFunc c h).run P w = .ok (.enter c h) w:=by
   obtain⟨cc,v⟩:=q7P hok (zs[0]'(by omega)) (qRp _) (zs[0]'(by omega)) (qRp _)
   have V:qod P c:=by
    unfold cfO at v;split at v
    ·rename_i d hd;exact(hE.fn c 0 _ [] _ _ hd).ent
    ·cases v
   obtain⟨W,f1,f2,f3⟩:=V.ok;cases hbd:W.body with
   | none=>simp_all
   | some c'=>
    intro h w;have f4:W.name ≠ "runtime.NumGoroutine" := by simp_all
    simp[callFunc,f1,f4,hbd,mark]
  refine(hI.row c (cfO E c) b m zs w A c1 aa h0 hlt hok ac (qpT hE hok)).mono fun e' w'=>?_;rintro⟨rfl,q,t,d1,d2,d3⟩;have ab:HB w' (s.up [(id,B.row e 1 ((q0v (cfO E c) zs).map fun z=>C.d (.int .i64 z)))]).live ρ b m (.row e 1 ((q0v (cfO E c) zs).map fun z=>C.d (.int .i64 z))):=by
   refine⟨t,d1,by have:=q4l (cfO E c) zs;simp_all,d2.trans c3,c4,c5,fun j c' u=>?_⟩
   rw[qQL] at u;obtain⟨z,q1,q2⟩:=qQK.1 u;subst q2;have ae:j<zs.length:=by have:=(qQB.1 q1).1;rw[q4l] at this;exact this
   have h3:(t.toList.take zs.length)[j]?=some (.int .i64 z):=by simp_all
   rw[qR6 ae,Array.getElem?_toList] at h3;rw[qQD,h3];exact .d _ _ (.int _ _)
  have M:=(hs.overG (id:=id) (x := .row e 1 ((q0v (cfO E c) zs).map fun z=>C.d (.int .i64 z))) hl e1 rfl N q.size (fun k hk ad=>q.block k hk (fun e=>ad (Option.some.inj e))) q.os q.tape q.output ab (fun j y d n c hy af _=>by rw[show(B.row e 1 (List.map _ _)).cells=List.map _ _ from rfl,qQL] at hy;obtain⟨z,-,rfl⟩:=qQK.1 hy;cases af)).1
  exact⟨_,_,_,ρ,rfl,⟨rfl,rfl⟩,M,.tup _ _ rfl (fun j r u=>by simp at u)⟩
 ·omega
theorem qAS (hA:Ag P T) (hE:Snd P E) {o:Oper} {ρ:Pl} {a:Act} {w:World} (hs:Sim cx ρ s a w) (h:ipF T E s o=some (some s')) {next:Act→World→Prop} {Q:Exit→Act→World→Prop}
  (hn:∀ρ' a' w',Sim cx ρ' s' a' w'→next a' w'):o.guard=none∧o.wpIn (FW cx.ro) 0 P a w next Q:=by
 unfold ipF at h;split at h
 ·rename_i f G ts N U;split at h
  ·rename_i g hf;unfold qBL at h;split at h
   ·rename_i x y b;split at h
    ·rename_i e u;injection h with h;unfold qEI at h;split at h
     ·rename_i id n c hx hy;unfold qke at h;split at h
      ·rename_i j cs W;obtain⟨k,hz,i⟩:=qQC.1 h;split at i
       ·rename_i Y;obtain⟨rfl,M,I,c2,Z,c3⟩:=Y;injection i with i;have q:=qxJ (s:=s) hA hE u W hz M I c2 Z;have m:ox P T s s.nx o.op (fun r t=>r = .tup []∧t=s.up [(id,.row j 1 ((q0v (cfO E c) k).map fun z => .d (.int .i64 z)))]):=by rw[U];unfold ox qm2;simp only[b];exact⟨g,[],[],hf,by simp_all⟩
        refine⟨N,qbN (K:=fun A t=>A = .tup []∧t=s.up [(id,.row j 1 ((q0v (cfO E c) k).map fun z => .d (.int .i64 z)))]) hA (fun h=>by have:=hs.nx _ h;omega) hs m ?_⟩
        rintro A s2 ρ' v w' ⟨rfl,rfl⟩ O h4;refine hn ρ' _ w' ?_;rw[←i];refine(O.put (fun d V=>by have:=q46 c3 d V;exact this) h4).frz ?_
        rw[List.all_cons,List.all_nil,qRz];have e1:(((s.up [(id,.row j 1 ((q0v (cfO E c) k).map fun z => .d (.int .i64 z)))]).put o.dst (.tup [])).blk id)=(s.up [(id,.row j 1 ((q0v (cfO E c) k).map fun z => .d (.int .i64 z)))]).blk id:=by cases o.dst<;>rfl
        rw[e1,S.blk_up];simp[B.isBlk]
       ·cases i
      ·cases h
     ·cases h
    ·cases h
   ·cases h
  ·cases h
 ·cases h
theorem qDq {id j e sz n:Nat} {ds:List D} (x:Operand):(tkS s id j e sz n ds).ev x=(s.ev x).nw:=by
 cases x with
 | tmp i=>exact q1S R.nw s.tm i .any rfl
 | const v=>cases v<;>first|rfl|(show q1n _=(q1n _).nw;unfold q1n;split<;>rfl)
 | _=>rfl
theorem qII (x:Operand):s.uw.ev x=(s.ev x).nw:=by
 cases x with
 | tmp i=>exact q1S R.nw s.tm i .any rfl
 | const v=>cases v<;>first|rfl|(show q1n _=(q1n _).nw;unfold q1n;split<;>rfl)
 | _=>rfl
theorem Sim.uwR {ρ:Pl} {a:Act} {w:World} (hs:Sim cx ρ s a w) (b:B):∃ρ',Sim cx ρ' (Vc.uwR s b) a w:=by
 cases b with
 | row e d c=>exact⟨_,hs.uw⟩
 | _=>exact⟨_,hs⟩
theorem qDa {x:Operand} {i o:Nat} (h:s.ev x = .c (.ptr i o)) (b:B):(uwR s b).ev x = .c (.ptr i o):=by
 cases b with
 | row e g d=>show s.uw.ev x=_;rw[qII,h];rfl
 | _=>exact h
theorem qA6 (hA:Ag P T) (hE:Snd P E) {o:Oper} {ρ:Pl} {a:Act} {w:World} (hs:Sim cx ρ s a w) (h:ldO T po s o=some (some s')) {next:Act→World→Prop} {Q:Exit→Act→World→Prop}
  (hn:∀ρ' a' w',Sim cx ρ' s' a' w'→next a' w'):o.guard=none∧o.wpIn (FW cx.ro) 0 P a w next Q:=by
 unfold ldO at h;split at h
 ·rename_i t x U W;refine⟨U,?_⟩;have m:∀(j:S) (v:Pl) (r:R),Sim cx v j a w→qem T j t x=some (r,j)→qaN j o.dst=true→j.put o.dst r=s'→o.wpIn (FW cx.ro) 0 P a w next Q:=fun j v r u d i Y=>by
   have V:xst P T po E o true j=some s':=by unfold xst;rw[if_pos rfl,W];show(qem T j t x).bind _=_;simp_all
   have:=qic (next:=next) (Q:=Q) hA hE u V hn
   assumption
  split at h
  ·cases h
  ·split at h
   ·rename_i b _ id g O;split at h
    ·split at h
     ·rename_i I;injection h with h;obtain⟨c,u,d⟩:=qQC.1 h;have M:∀(A:List C),ld T A g t=(A[g]?).map .c:=fun A=>by obtain⟨e,I⟩:=qj5 I;unfold ld;rw[I]
      have k:∀y,c=y→ldP s o.dst y=some s'→o.wpIn (FW cx.ro) 0 P a w next Q:=fun y e i=>by
       unfold ldP at i;split at i
       ·rename_i q;injection i with i;refine m s ρ (.c y) hs ?_ q i;unfold qem;simp_all
       ·cases i
      cases c with
      | ow e G n N=>
       simp only[ldT] at d;split at d
       ·rename_i q;injection d with d;have z:s.tk id g=some (tkS s id g e G n N):=by unfold S.tk;rw[u];rfl
        obtain⟨ρ',i⟩:=hs.tk z;refine m _ ρ' (.c (.own s.nx G 0 n)) i ?_ q d;unfold qem;rw[qDq,O];show(ld T ((tkS s id g e G n N).blk id).cells g t).bind _=_;rw[M,qB5 hs u];rfl
       ·cases d
      | _=>exact k _ rfl d
     ·cases h
    ·injection h with h;unfold ldU at h;obtain⟨r,u,d⟩:=qQC.1 h;split at d
     ·rename_i q;injection d with d;obtain⟨ρ',i⟩:=hs.uwR (s.blk id);refine m _ ρ' r i ?_ q d;unfold qem;rw[qDa O];simp_all
     ·cases d
   ·cases h
 ·cases h
theorem qwo {ds l:List D} {m:Nat} (h:qGO ds m=some l):l=ds.take m∧l.length=m:=by unfold qGO at h;grind
theorem Sim.cutR {ρ:Pl} {a:Act} {w:World} (hs:Sim cx ρ s a w) {k m:Nat} {e:TypeId} {sz:Nat} {cs:List C} (hb:s.blk k = .row e sz cs):Sim cx ρ (s.up [(k,.row e sz (cs.take m))]) a w:=by
 have v:s.live k:=by unfold S.live;rw[hb];rfl
 cases hr:ρ k with
 | none=>
  obtain⟨e',aa,h⟩:=hs.hp0 k v hr;rw[hb] at h;injection h with _ _ h;subst h;have u:∀i,(s.up [(k,.row e sz (([]:List C).take m))]).blk i=s.blk i:=fun i=>by rw[S.blk_up];grind
  refine hs.ext (fun _=>rfl) u rfl fun i z=>?_;unfold S.live at z;rw[u] at z;exact qR7 (hs.nx i z) (Nat.le_max_left _ _)
 | some Y=>
  obtain⟨b,A⟩:=Y;have N:=(hs.hp k b A v hr).2;rw[hb] at N;obtain⟨vs,Z,V,W,g4,g5,g6⟩:=N;have t:∀j,(s.up [(k,.row e sz (cs.take m))]).live j↔s.live j:=fun j=>by
   unfold S.live;rw[S.blk_up];by_cases q:k=j
   ·subst q;rw[if_pos rfl];exact⟨fun _=>v,fun _=>rfl⟩
   simp_all
  have G:q8Y w s.live ρ w (s.up [(k,.row e sz (cs.take m))]).live ρ:=by
   refine⟨qQN _,fun _ _ _=>rfl,fun b' _ U=>?_,fun j q=>⟨(t j).2 q,rfl⟩,fun b hF=>⟨hF,fun _=>rfl⟩⟩;rcases U with h|⟨j,c,q1,q2⟩
   ·exact .inl h
   ·exact .inr ⟨j,c,(t j).1 q1,q2⟩
  have g:∀(j:Nat) (y:C),(cs.take m)[j]?=some y→cs[j]?=some y:=fun j y M=>by grind
  refine(hs.over (x := .row e sz (cs.take m)) v hr rfl (fun h=>by have:=(hs.pin k h).2;rw[hb] at this;cases this) rfl (fun _ _=>rfl) rfl rfl rfl ⟨vs,Z,qR8 (by grind) V,W,g4,g5,fun j c q=>(g6 j c (g j c q)).stay G⟩ (fun j y d n c M I O=>⟨y,by rw[hb];exact g j y M,I,n,c,O⟩)).1
theorem qBt (hA:Ag P T) (hE:Snd P E) {o:Oper} {ρ:Pl} {a:Act} {w:World} (hs:Sim cx ρ s a w) (h:stO T po s o=some (some s')) {next:Act→World→Prop} {Q:Exit→Act→World→Prop}
  (hn:∀ρ' a' w',Sim cx ρ' s' a' w'→next a' w'):o.guard=none∧o.wpIn (FW cx.ro) 0 P a w next Q:=by
 unfold stO at h;split at h
 ·rename_i t x y W ho;refine⟨W,?_⟩;split at h
  ·cases h
  ·rename_i b _;split at h
   ·rename_i id c k sz n Y hy;split at h
    ·rename_i hc;obtain⟨-,hd,N,hz⟩:=hc;obtain⟨e0,N⟩:=qj5 N;unfold qJt at h;split at h
     ·rename_i e' z cs e g O q Z;injection h with h;obtain⟨ds,M,v⟩:=qQC.1 h;obtain⟨aa,h1,M⟩:=qQC.1 M;obtain⟨G,hl⟩:=qwo M;split at v
      ·rename_i hq;obtain⟨rfl,A,I,u⟩:=hq;injection v with v;have h5:xst P T po E o true s=some (s.up [(id,(s.blk id).set c [.own k g 0 n])]):=by
        unfold xst;rw[if_pos rfl,ho];show(q5c T s t x y).bind _=_;unfold q5c;rw[Y,hy];simp only[R.cells];rw[if_pos ⟨rfl,by rw[N];simp,by rw[hz];rfl,by rw[q];exact I,by rw[q];rfl⟩,qQx,hd]
        rfl
       have:=qic (next:=next) (Q:=Q) hA hE hs h5 (fun ρ' a' w' h6=>by
        have hb:∀i,(s.up [(id,(s.blk id).set c [.own k g 0 n])]).blk i=if id=i then(s.blk id).set c [.own k g 0 n] else s.blk i:=fun i=>S.blk_up _ _ _ _;have U:=h6.cutR (k:=k) (m:=n*g) (e:=e) (sz:=g) (cs:=O) (by simp_all)
        rw[q8f h1,←List.map_take,←G] at U;obtain⟨V,h7⟩:=U.abAt (id:=id) (j:=c) (k:=k) (e:=e) (sz:=g) (n:=n) (cs:=ds.map C.d) (ds:=ds) (by rw[S.blk_up,if_pos rfl]) rfl A hl (by rw[S.blk_up,if_neg (Ne.symm u),hb,if_pos rfl,q];show(cs.set c _)[c]?=_;simp_all) u
        grind)
       assumption
      ·cases v
     ·cases h
    ·cases h
   ·cases h
 ·cases h
theorem qzf (hA:Ag P T) (hE:Snd P E) {o:Oper} {ρ:Pl} {a:Act} {w:World} (hs:Sim cx ρ s a w) (h:ipX T po s o=some (some s')) {next:Act→World→Prop} {Q:Exit→Act→World→Prop}
  (hn:∀ρ' a' w',Sim cx ρ' s' a' w'→next a' w'):o.guard=none∧o.wpIn (FW cx.ro) 0 P a w next Q:=by
 unfold ipX at h;cases hi:qtm T s o with
 | some y=>rw[hi] at h;injection h with h;subst h;exact qvJ hA hs hi hn
 | none=>
  rw[hi] at h;cases hl:ldO T po s o with
  | some y=>rw[hl] at h;injection h with h;subst h;exact qA6 hA hE hs hl hn
  | none=>rw[hl] at h;exact qBt hA hE hs h hn
theorem qtT (hA:Ag P T) (hE:Snd P E) {o:Oper} {ρ:Pl} {a:Act} {w:World} (hs:Sim cx ρ s a w) (h:ipA T po E s o=some (some s')) {next:Act→World→Prop} {Q:Exit→Act→World→Prop}
  (hn:∀ρ' a' w',Sim cx ρ' s' a' w'→next a' w'):o.guard=none∧o.wpIn (FW cx.ro) 0 P a w next Q:=by
 unfold ipA at h;cases hi:ipX T po s o with
 | some y=>rw[hi] at h;injection h with h;subst h;exact qzf hA hE hs hi hn
 | none=>rw[hi] at h;exact qAS hA hE hs h hn
theorem qrX (hA:Ag P T) (hE:Snd P E) {ops:Array Oper} {Q':Exit→Act→World→Prop}:∀(l:List Oper) (s s':S) (ρ:Pl) (a:Act) (w:World),Sim cx ρ s a w→xr P T po E ops.toList l s=some s'→
  (∀ρ' a' w',Sim cx ρ' s' a' w'→Q' .normal a' w')→wpListIn (FW cx.ro) 0 P ops Q' l a w
 | [],s,s',ρ,a,w,hs,h,hQ=>by injection h with h;subst h;exact hQ ρ a w hs
 | o::l,s,s',ρ,a,w,hs,h,hQ=>by
  unfold xr at h;obtain⟨s1,h1,h2⟩:=qQC.1 h;unfold wpListIn;have key:∀(s0:S) (act:Bool),Sim cx ρ s0 a w→Region.wanted o (yielded ops a.tmps)=act→xst P T po E o act s0=some s1→
    if Region.wanted o (yielded ops a.tmps)=true then o.wpIn (FW cx.ro) 0 P a w (fun a' w'=>wpListIn (FW cx.ro) 0 P ops Q' l a' w') Q' else(∀f,o.about P w a.eval=some f→(FW cx.ro).fn f)∧wpListIn (FW cx.ro) 0 P ops Q' l (a.put o.dst undef) w:=by
   intro s0 act h3 h4 h5;have:=qic (next:=fun a' w'=>wpListIn (FW cx.ro) 0 P ops Q' l a' w') (Q:=Q') hA hE h3 h5 (fun ρ' a' w' h6=>qrX hA hE l s1 s' ρ' a' w' h6 h2 hQ)
   rw[h4];split
   ·simp_all
   ·rename_i ha;rw[if_neg ha] at this;exact⟨qep,this⟩
  unfold xgd at h1;cases hi:ipA T po E s o with
  | some y=>
   rw[hi] at h1
   replace h1:y=some s1:=h1
   subst h1;obtain⟨i1,i2⟩:=qtT (next:=fun a' w'=>wpListIn (FW cx.ro) 0 P ops Q' l a' w') (Q:=Q') hA hE hs hi (fun ρ' a' w' h6=>qrX hA hE l s1 s' ρ' a' w' h6 h2 hQ)
   rw[if_pos (by unfold Region.wanted;rw[i1])]
   exact i2
  | none=>
  rw[hi] at h1
  replace h1:qhU P T po E ops.toList o s=some s1:=h1
  unfold qhU at h1;split at h1
  ·rename_i hg;exact key s true hs (by unfold Region.wanted;rw[hg]) h1
  ·rename_i j want hg;split at h1
   ·rename_i d hd;split at h1
    ·rename_i b hb;have hgd:gd ops.toList s o.guard=some (b==want):=by unfold gd;simp_all
     have hw:=q4g hs hgd;split at h1
     ·rename_i hbt;subst hbt;exact key _ want (hs.lit hb) (by simp_all) h1
     ·rename_i hbf;have hbf:b=false:=by simp_all
      subst hbf;exact key _ (!want) (hs.lit hb) (by simp_all) h1
    ·rename_i hb;have hgd:gd ops.toList s o.guard=some false:=by unfold gd;simp_all
     exact key s false hs (q4g hs hgd) h1
    ·cases h1
   ·cases h1
theorem qh3 {k:Nat} {kp:List Nat} {s1:S} (hk:cx.k=k) (h:qu9 k kp s1=some s'):Le cx s1 s':=fun ρ1 a w h1=>by
 unfold qu9 at h;unfold qJ3 at h;split at h
 ·rename_i hc;injection h with h;generalize q4Q s1 60 _ _=ids at h hc;obtain⟨c1,c2,c3⟩:=hc;have hr:∀(n:Nat) (acc:List Nat) (i:Nat),i<n→i∈rng n acc:=by
   intro n
   induction n with
   | zero=>omega
   | succ n j=>
    intro acc i d;unfold rng;by_cases e:i=n
    ·subst e;have:∀(m:Nat) (acc:List Nat) (x:Nat),x∈acc→x∈rng m acc:=by
      intro m
      induction m with
      | zero=>intro acc x c;exact c
      | succ m b=>intro acc x c;exact b _ x (qQF _ c)
     simp_all
    grind
  obtain⟨g,q,-⟩:=h1.canon (ids:=ids) (tm:=kp.map (fun i=>(i,cnR ids (s1.get i)))) (n:=s1.n) (a':=a) c1 c2 (fun i d=>by simp_all) h1.hd h1.size (fun i=>by
   have:∀l:List Nat,lk (l.map (fun i=>(i,cnR ids (s1.get i)))) i .any = .any∨lk (l.map (fun i=>(i,cnR ids (s1.get i)))) i .any=cnR ids (s1.get i):=by
    intro l
    induction l with
    | nil=>exact .inl rfl
    | cons x l j=>
     simp only[qQU,lk];grind
   rcases this kp with h|h
   ·exact .inl h
   ·exact .inr ⟨_,h1.tm i,h⟩)
  grind
 ·cases h
theorem Sim.fin {ρ:Pl} {a:Act} {w:World} (hs:Sim cx ρ s a w) (Q:TypeId→List Nat):Sim cx ρ (s.fin Q) a w:=((hs.dzr Q).fn1).fn1
theorem Sim.fnB {ρ:Pl} {a:Act} {w:World} (hs:Sim cx ρ s a w) (po:Pol) (b:Bool):∃ρ',Sim cx ρ' (s.fnB po b) a w:=by
 unfold S.fnB;split
 ·obtain⟨ρ',h⟩:=(hs.dzo po.qo).abL (s.dzo po.qo).inr;exact⟨ρ',h.fn1.fn1⟩
 ·exact⟨ρ,hs.fin po.q⟩
theorem Sim.tkO {ρ:Pl} {a:Act} {w:World} (hs:Sim cx ρ s a w) {id j:Nat} (h:((s.blk id).cells[j]?).bind (qHc s id j)=some s'):∃ρ',Sim cx ρ' s' a w:=by
 obtain⟨c,b,h⟩:=qQC.1 h;cases c with
 | ow e g n d=>exact hs.tk (s':=s') (by unfold S.tk;rw[b];exact h)
 | _=>injection h with h;grind
theorem Sim.tkP {a:Act} {w:World}:∀(l:List (Nat×Nat)) {s s':S} {ρ:Pl},Sim cx ρ s a w→s.tkP l=some s'→∃ρ',Sim cx ρ' s' a w
 | [],_,_,ρ,hs,h=>by injection h with h;grind
 | x::l,_,_,_,hs,h=>by obtain⟨s1,h1,h2⟩:=qQC.1 h;obtain⟨ρ',b⟩:=hs.tkO h1;exact Sim.tkP l b h2
theorem Sim.tkD {ρ:Pl} {a:Act} {w:World} (hs:Sim cx ρ s a w) {T:Ty} {po:Pol} {ops:List Oper} (h:s.tkD T po ops=some s'):∃ρ',Sim cx ρ' s' a w:=by
 unfold S.tkD at h;split at h
 ·exact hs.tkP _ h
 grind
theorem qtF (s:S) (po:Pol) (b:Bool):Le cx s (s.fnB po b):=fun _ _ _ c=>c.fnB po b
theorem qit {f key k:Nat} (hk:cx.k=k) (h:nrm po f key k s=some s'):Le cx s s':=fun _ _ _ c=>by obtain⟨ρ0,e⟩:=c.fnB po (po.ab f);obtain⟨b,d⟩:=e.rwAll (po.rw f key);exact qh3 hk h b _ _ d
theorem J.weak {c:Code} {Q Q':Exit→S→Prop} (h:J P cx c Q s) (hq:∀e s,Q e s→∃s',Le cx s s'∧Q' e s'):J P cx c Q' s:=fun ρ a w j=>
 wpIn_mono (h ρ a w j) fun _ _ _ ⟨s',ρ',g,k⟩=>by obtain⟨i,d,m⟩:=hq _ _ g;obtain⟨b,q⟩:=d ρ' _ _ k;grind
def qFm (P:Program) (q:Nat→List Oper→Bool) (k:Nat) (DR:Nat→List Oper→S→Option S):Prop:=
 ∀(cx:Cx) (id:Nat) (ops:Array Oper) (s s':S) (Q:Exit→S→Prop),cx.k=k→q id ops.toList=true→DR id ops.toList s=some s'→Q .normal s'→J P cx (.region id ops true) Q s
theorem qqH (s:S) (l:List Nat):(qh0 s l).length=s.n∧∀i r,(qh0 s l)[i]?=some r→r = .any∨r=s.get i:=by
 refine⟨by simp[qh0],fun i r h=>?_⟩
 unfold qh0 at h;grind
theorem qC5 (hE:Snd P E) {f:Nat} {g:Operand} {ps:Array Tmp} {aq0 bd:Code} {e:Exit} {Q:Exit→S→Prop} (hro:cx.ro=none) (h:xRF po E f g ps.toList aq0 bd s=some (e,s')) (hQ:Q e s'):J P cx (.rangeFunc g ps aq0 bd) Q s:=by
 unfold xRF at h;split at h
 ·rename_i V U v M;obtain⟨⟨r,A⟩,z,b⟩:=qQC.1 h;refine J.rangeFunc (K:=fun x j=>x=r∧j=A) hro M (qqH s _) (qf0 hE z ⟨rfl,rfl⟩) ?_;rintro x j ⟨rfl,rfl⟩;unfold qCP at b;simp only at b;split at b
  ·rename_i u O;split at b
   ·rename_i I k t i q N G y;split at b
    ·cases b
    ·rename_i m;refine⟨u,I,k,t,i,q,N,G,O,y,m,?_⟩;unfold qqi at b;split at b
     ·injection b with b;injection b with d c;subst d c;exact hQ
     ·injection b with b;injection b with d c;subst d c;exact hQ
     ·injection b with b;injection b with d c;subst d c;exact hQ
     ·cases b
   ·cases b
  ·cases b
 ·cases h
theorem qdp {id j:Nat} (b:B) (h:id≠j):∀l:List (Nat×B),lk (l.map fun p=>if p.1=id then(id,b) else p) j .dead=lk l j .dead
 | []=>rfl
 | (i,x)::l=>by
  simp only[qQU,lk];by_cases hi:i=id
  ·subst hi;simp only[if_true,if_neg h];exact qdp b h l
  ·simp only[if_neg hi];split
   ·rfl
   ·exact qdp b h l
theorem qjT {id:Nat} (b:B):∀l:List (Nat×B),lk l id .dead ≠ .dead→lk (l.map fun p=>if p.1=id then(id,b) else p) id .dead=b
 | [],h=>absurd rfl h
 | (i,x)::l,h=>by
  simp only[qQU,lk];by_cases hi:i=id
  ·simp_all
  ·simp only[if_neg hi];refine qjT b l ?_;simpa only[lk,if_neg hi] using h
theorem qfN {id:Nat} (b:B) (h:s.blk id ≠ .dead) (j:Nat):(s.gh id b).blk j=if id=j then b else s.blk j:=by
 unfold S.gh S.blk;split
 ·rename_i c;subst c;exact qjT b _ h
 ·rename_i c;exact qdp b c _
theorem qGg (id:Nat) (b c:B):(s.gh id b).gh id c=s.gh id c:=by
 unfold S.gh;simp only[List.map_map]
 congr 1
 apply List.map_congr_left;grind
theorem ql2.drew (w:World):ql2 (fun _=>False) w w.drew:=⟨rfl,rfl,rfl,qQN _,fun _ _ _=>rfl⟩
theorem qht (w:World) (ty:TypeId) (b bm since c0:Nat) (seen:Array Nat) (es:Array MapEntry) (clock:Nat) (hb:w.heap[b]?=some (.mapIter (some bm) since seen c0)) (hm:w.heap[bm]?=some (.map es clock)) (hold:∀x∈es.toList,x.born<since) (hsc:since≤c0) :
  ((leftOf es seen).size=0∧(Instr.next (.pointer (some ⟨b,0,none⟩)) false ty).run P w = .ok (.tuple #[.bool false]) w)∨
  ∃e∈(leftOf es seen).toList,∃w1:World,(w1=w∨w1=w.drew)∧(Instr.next (.pointer (some ⟨b,0,none⟩)) false ty).run P w = .ok (.tuple #[.bool true,e.key,e.val]) (w1.putObj b (.mapIter (some bm) since (seen.push e.born) clock)):=by
 simp only[Instr.next,Sem.run_bind,JV hb rfl,JV hm rfl,Result.andThen,next_test_false seen es since c0 hold hsc,Bool.false_eq_true,if_false];unfold leftOf;have g:∀x∈(Array.filter (fun e => !seen.contains e.born) es).toList,x.born<since:=fun x u=>hold x (by simp_all)
 generalize Array.filter (fun e => !seen.contains e.born) es=L at g ⊢;have y:L.filter (fun x=>decide (x.born<since))=L:=Array.filter_eq_self.2 (fun x u=>by simp_all)
 have v:L.filter (fun x=>decide (x.born ≥ since))=#[]:=by simp_all
 simp only[y,v,Array.append_empty];by_cases q:L.size=0
 ·left;have:L=#[]:=Array.eq_empty_of_size_eq_zero q;subst this;refine⟨rfl,?_⟩;simp[choose,Sem.run,Question.forced]
 ·right;have k:L.isEmpty=false:=by simp_all
  simp only[k,Bool.false_eq_true,if_false,Array.empty_append,Array.size_map];have i:∃(j:Nat) (w1:World),j<L.size∧(w1=w∨w1=w.drew)∧(choose (Question.mapNext L.size)).run P w = .ok j w1:=by
   by_cases m:L.size≤1
   ·exact⟨0,w,by omega,.inl rfl,by simp[choose,Sem.run,Question.forced,m]⟩
   ·exact⟨_,w.drew,Nat.mod_lt _ (by omega),.inr rfl,by simp only[choose,Sem.run,Question.forced,qRx,m,if_false,Question.cut];rfl⟩
  obtain⟨j,w1,t,d,c⟩:=i;refine⟨L[j],by simp,w1,d,?_⟩
  have h:w1.heap[b]?=some (.mapIter (some bm) since seen c0):=by rcases d with rfl|rfl<;>exact hb
  simp only[c,Array.getElem?_map,qQY t,Option.map_some,Sem.run_bind,q4N h rfl,Result.andThen];rfl
def NX (P:Program) (T:Ty) (po:Pol) (E:Orc) (cx:Cx) (it:Operand) (s:S) (G:Option (Value×R×Nat)→Prop) (mk:Option (Value×R×Nat)→S):Prop:=
 ∀(o:Oper) (ρ:Pl) (a:Act) (w:World) (next:Act→World→Prop) (Q:Exit→Act→World→Prop),o.op = .next it false→Sim cx ρ s a w→(∀g ρ' a' w',G g→(∀s1,xst P T po E o true (mk g)=some s1→Sim cx ρ' s1 a' w')→next a' w')→o.wp P a w next Q
theorem qJ0 {it:Operand} {id:Nat} {m:R} {ck:Nat} {es:Me} {l:List Nat} (hx:s.ev it = .c (.hd .iter id)) (hb:s.blk id = .ob (.mi m ck l)) (hm:mOf s id m ck=some es) (hck:es.all (fun e=>decide (e.2.2<ck)&&kOk e.1)=true) :
  NX P T po E cx it s (fun g=>(g=none∧∀e∈es,e.2.2∈l)∨∃e∈es,g=some e∧e.2.2 ∉ l) (fun g=>s.m1 id m ck g l):=by
 intro o ρ a w next Q ho Y hn
 have he:execOp a.eval o=(do pure (.value (←Instr.next (a.eval it) false o.type))):=by unfold execOp;simp_all
 have af:=Y.ev it;rw[hx] at af;obtain⟨b,am,h1,h2,h3⟩:=af.inv_hd;have hB:=(Y.hp id b am h1 h2).2;rw[hb] at hB;obtain⟨mb,q1,q2⟩:HO w s.live ρ b (.mi m ck l):=hB;have q4:∀x,(l.reverse.toArray).contains x=l.contains x:=fun x=>by simp
 have ad:s.blk id ≠ .dead:=by rw[hb];simp
 have ag:∀(x y:B) (j:Nat),((s.gh id x).up [(id,y)]).blk j=(s.up [(id,y)]).blk j:=fun x y j=>by rw[S.blk_up,S.blk_up,qfN x ad];split<;>rfl
 have ab:∀(g:Option (Value×R×Nat)) (r:R) (x:B) (v:Value) (t:World),((g=none∧∀e∈es,e.2.2∈l)∨∃e∈es,g=some e∧e.2.2 ∉ l)→q9R (s.m1 id m ck g l) it=some (r,(s.m1 id m ck g l).up [(id,x)])→
   Sim cx ρ (s.up [(id,x)]) a t→RR t (s.up [(id,x)]).live ρ v r→next (a.put o.dst v) t:=by
  intro g r x v t hG hN z hr;refine hn g ρ _ t hG (fun s1 h=>?_);unfold xst at h;rw[if_pos rfl,ho] at h
  change (q9R (s.m1 id m ck g l) it).bind _=_ at h
  rw[hN,qQx] at h;simp only at h;split at h
  ·rename_i hd;injection h with h;subst h;have hp:=z.put (dst:=o.dst) (q46 hd) hr;refine hp.ext (fun i=>?_) (fun i=>?_) ?_ (fun i hi=>?_)
   ·cases o.dst<;>rfl
   ·have U:(((s.m1 id m ck g l).up [(id,x)]).put o.dst r).blk i=((s.m1 id m ck g l).up [(id,x)]).blk i:=by cases o.dst<;>rfl
    have e2:((s.up [(id,x)]).put o.dst r).blk i=(s.up [(id,x)]).blk i:=by cases o.dst<;>rfl
    rw[U,e2];exact ag _ _ _
   ·cases o.dst<;>rfl
   ·have U:(((s.m1 id m ck g l).up [(id,x)]).put o.dst r).live i→(s.up [(id,x)]).live i:=by
     unfold S.live;have U:(((s.m1 id m ck g l).up [(id,x)]).put o.dst r).blk i=((s.m1 id m ck g l).up [(id,x)]).blk i:=by cases o.dst<;>rfl
     rw[U];intro h;have:=ag (.ob (.m1 g m ck l)) x i;rw[←this];exact h
    have h5:=z.nx i (U hi);have e2:(((s.m1 id m ck g l).up [(id,x)]).put o.dst r).nx=(s.up [(id,x)]).nx:=by cases o.dst<;>rfl
    omega
  ·cases h
 have ap:(s.gh id (.ob (.m1 none m ck l))).ev it=s.ev it:=rfl;have W:∀g,q9R (s.m1 id m ck g l) it=match g with
   | some e=>some (.tup [.c (.d (.bool true)),kR e.1,e.2.1],(s.m1 id m ck g l).up [(id,.ob (.mi m ck (e.2.2::l)))])
   | none=>some (.tup [.c (.d (.bool false))],(s.m1 id m ck g l).up [(id,.ob (.mi m ck l))]):=fun g=>by
  unfold q9R;have U:(s.m1 id m ck g l).ev it = .c (.hd .iter id):=hx;have e2:(s.m1 id m ck g l).blk id = .ob (.m1 g m ck l):=by unfold S.m1;rw[qfN _ ad,if_pos rfl]
  grind
 have G:Sim cx ρ (s.up [(id,.ob (.mi m ck l))]) a w:=by
  have ai:∀i,(s.up [(id,.ob (.mi m ck l))]).blk i=s.blk i:=fun i=>by rw[S.blk_up];grind
  refine Y.ext (fun _=>rfl) ai rfl (fun i hi=>?_);have:s.live i:=by unfold S.live at hi ⊢;simp_all
  have:=Y.nx i this;show i<max s.nx (id+1);omega
 have N:RR w (s.up [(id,.ob (.mi m ck l))]).live ρ (.tuple #[.bool false]) (.tup [.c (.d (.bool false))]):=by
  refine .tup _ _ rfl (fun j c q=>?_)
  match j,q with
  | 0,q=>simp only[qQH,qRn] at q;subst q;exact .c _ _ (.d _ _ (.bool _))
  | j+1,q=>simp at q
 unfold mOf at hm;split at hm
 ·injection hm with hm;subst hm;obtain rfl:mb=none:=by have:=q1.inv_nilm;simp_all
  refine zP he (w':=w) (v := .tuple #[.bool false]) ?_ (ab none _ _ _ _ (.inl ⟨rfl,fun e he=>by simp at he⟩) (W none) G N)
  rw[h3];simp[Instr.next,HK.val,JV q2 rfl]
 ·rename_i I;split at hm
  ·cases hm
  ·rename_i aq;split at hm
   ·rename_i aa u al;split at hm
    ·rename_i hc;injection hm with hm;subst hc hm;obtain⟨A,O,g1,g2,g3⟩:=q1.inv_hd;obtain rfl:mb=some A:=by have g3:Value.map mb=Value.map (some A):=g3;injection g3
     have ae:=(Y.hp I A O g1 g2).2;rw[al] at ae;obtain⟨M,m1,m2,m3,m4⟩:=HO.keys (show HO w s.live ρ A (.mp aa u) from ae);have ah:∀x∈M.toList,∃e∈aa,e.1=x.key∧RR w s.live ρ x.val e.2.1∧e.2.2=x.born:=fun x hx=>by
      obtain⟨j,q,rfl⟩:=List.mem_iff_getElem.1 hx;have aj:j<aa.length:=by grind
      obtain⟨y,p1,p2,p3,p4,p5⟩:=m4 j _ (qQz aj);grind
     have ac:∀x∈M.toList,x.born<u:=fun x hx=>by grind
     rcases qht (P:=P) w o.type b A u u l.reverse.toArray M u q2 m1 ac (qQN _) with ⟨r1,r2⟩|⟨x,hx,t,V,r2⟩
     ·refine zP he (w':=w) (v := .tuple #[.bool false]) ?_ (ab none _ _ _ _ (.inl ⟨rfl,fun e he=>?_⟩) (W none) G N)
      ·rw[h3];exact r2
      ·obtain⟨j,q,rfl⟩:=List.mem_iff_getElem.1 he;obtain⟨y,p1,p2,p3,p4,p5⟩:=m4 j _ (qQz q);have:=all_seen M l.reverse.toArray r1 y (qQy p2);simp_all
     ·obtain⟨x1,x2⟩:=mem_left hx;obtain⟨e,U,e2,e3,e4⟩:=ah x x1;have z:Sim cx ρ s a t:=by rcases V with rfl|rfl;exact Y;exact Y.grow (ql2.drew w)
      have ak:RR t s.live ρ (.map (some A)) (.c (.hd .map I)):=by rcases V with rfl|rfl;exact q1;exact .c _ _ (.hd .map I A O g1 g2)
      have ao:RR t s.live ρ x.val e.2.1:=by
       rcases V with rfl|rfl
       ·exact e3
       ·exact RR.stay (w:=w) (w':=w.drew) (L:=s.live) (ρ:=ρ) (L':=s.live) (ρ':=ρ) ⟨qQN _,fun _ _ _=>rfl,fun _ _ h=>h,fun _ h=>⟨h,rfl⟩,fun _ hF=>⟨hF,fun _=>rfl⟩⟩ e3
      have an:∀k,k≠b→(t.putObj b (.mapIter (some A) u (l.reverse.toArray.push x.born) u)).heap[k]?=t.heap[k]?:=fun k hk=>World.putObj_heap_other hk;have Z:=q7M z (x := .ob (.mi (.c (.hd .map I)) u (e.2.2::l))) h1 h2 rfl (w':=t.putObj b (.mapIter (some A) u (l.reverse.toArray.push x.born) u)) (by simp) an
      refine zP he (w':=t.putObj b (.mapIter (some A) u (l.reverse.toArray.push x.born) u)) (v := .tuple #[.bool true,x.key,x.val]) ?_ (ab (some e) _ _ _ _ (.inr ⟨e,U,rfl,fun hm=>?_⟩) (W (some e)) (z.overO h1 h2 fun Z hO=>?_) ?_)
      ·rw[h3];exact r2
      ·simp_all
      ·exact⟨some A,ak.stay Z,by simp_all⟩
      ·refine .tup _ _ rfl (fun j c q=>?_)
       match j,q with
       | 0,q=>simp only[qQH,qRn] at q;subst q;exact .c _ _ (.d _ _ (.bool _))
       | 1,q=>simp only[qQW,qQH,qRn] at q;subst q;rw[e2];exact qDB _
       | 2,q=>simp only[qQW,qQH,qRn] at q;subst q;exact ao.stay Z
       | j+3,q=>simp at q
    ·cases hm
   ·cases hm
 ·cases hm
theorem qz8 {id:Nat} (b:B) (h:s.blk id ≠ .dead) (m:R) (ck:Nat):mOf (s.gh id b) id m ck=mOf s id m ck:=by
 unfold mOf;split
 ·rfl
 ·split
  ·rfl
  ·rename_i c;rw[qfN b h,if_neg (Ne.symm c)]
 ·rfl
theorem qbg {f key k:Nat} {e0 e1:Exit} {t0 t1:S} (h:lpx po f key k (e0,t0)=some (e1,t1)):(e0 = .normal∧e1 = .normal∧nrm po f key k t0=some t1)∨(e0=e1∧e1 ≠ .normal∧qu9 k (po.kx f key) (t0.fnO po f)=some t1):=by
 unfold lpx at h;split at h
 ·rename_i b;simp only at b h;subst b;obtain⟨c,d,e⟩:=qQC.1 h;simp_all
 ·rename_i b;simp only at b h;obtain⟨c,d,e⟩:=qQC.1 h;simp_all
theorem qkB {L:List Oper} {it:Operand} (h:quk L=some it):∃o l,L=o::l∧o.guard=none∧o.op = .next it false:=by
 cases L with
 | nil=>cases h
 | cons o l=>
  refine⟨o,l,rfl,?_⟩;have h:hdG o.guard (qA4 o.op)=some it:=h;cases hg:o.guard with
  | some x=>rw[hg] at h;cases h
  | none=>
   rw[hg] at h;refine⟨rfl,?_⟩;have h:qA4 o.op=some it:=h;cases ho:o.op with
   | next c b=>
    rw[ho] at h;have h:(if b=true then none else some c)=some it:=h;simp_all
   | _=>rw[ho] at h;cases h
theorem qDO (hA:Ag P T) (hE:Snd P E) {DR:Nat→List Oper→S→Option S} {f k n:Nat} {q:Nat→List Oper→Bool} {rf:Bool} (hD:qFm P q k DR):∀(c:Code),
  (∀(s s':S) (e:Exit) (cx:Cx) (Q:Exit→S→Prop),q6A q rf c=true→cx.k=k→(rf=true→cx.ro=none)→XD P T po E DR (iter n) f k c s=some (e,s')→Q e s'→J P cx c Q s)∧
  ∀(it:Operand) (s:S) (cx:Cx) (G:Option (Value×R×Nat)→Prop) (mk:Option (Value×R×Nat)→S),q2I c=some it→q6A q rf c=true→cx.k=k→(rf=true→cx.ro=none)→NX P T po E cx it s G mk→
   (∀g,G g→∃p,XD P T po E DR (iter n) f k c (mk g)=some p)→J P cx c (fun e t=>∃g,G g∧XD P T po E DR (iter n) f k c (mk g)=some (e,t)) s:=by
 intro c
 induction c with
 | skip=>exact⟨fun s s' e cx Q M O d h Y=>by injection h with h;injection h with z u;subst z u;exact J.skip Y,fun it s cx G mk h=>by cases h⟩
 | label l=>exact⟨fun s s' e cx Q M O d h Y=>by injection h with h;injection h with z u;subst z u;exact J.label Y,fun it s cx G mk h=>by cases h⟩
 | ret=>exact⟨fun s s' e cx Q M O d h Y=>by injection h with h;injection h with z u;subst z u;exact J.ret Y,fun it s cx G mk h=>by cases h⟩
 | exit id=>exact⟨fun s s' e cx Q M O d h Y=>by injection h with h;injection h with z u;subst z u;exact J.exit Y,fun it s cx G mk h=>by cases h⟩
 | seq x y ag ai=>
  refine⟨fun s s' e cx Q M O d h Y=>?_,fun it s cx G mk hh M O d hN hx=>?_⟩
  ·unfold XD at h;obtain⟨⟨U,s1⟩,z,u⟩:=qQC.1 h;have M:q6A q rf x=true∧q6A q rf y=true:=(qR3 _ _).mp M;refine J.seq (ag.1 s s1 U cx _ M.1 O d z ?_);unfold sqD at u;split at u
   ·rename_i he;simp only at he;subst he;exact ai.1 _ s' e cx Q M.2 O d u Y
   ·rename_i he;simp only at he;injection u with u;injection u with I W;simp only at I W;subst I W;cases U with
    | normal=>exact absurd rfl he
    | _=>exact Y
  ·have M:q6A q rf x=true∧q6A q rf y=true:=(qR3 _ _).mp M;refine J.seq (J.weak (ag.2 it s cx G mk hh M.1 O d hN (fun g hg=>?_)) ?_)
   ·obtain⟨p,v⟩:=hx g hg;unfold XD at v;obtain⟨p1,z,-⟩:=qQC.1 v;exact⟨p1,z⟩
   ·rintro U t1 ⟨g,hg,z⟩;refine⟨t1,Le.refl _,?_⟩;obtain⟨⟨e2,t2⟩,v⟩:=hx g hg;have ac:=v;unfold XD at v;rw[z,qQx] at v;unfold sqD at v;cases U with
    | normal=>exact ai.1 _ t2 e2 cx _ M.2 O d v ⟨g,hg,ac⟩
    | _=>injection v with v;injection v with I W;subst I W;exact⟨g,hg,ac⟩
 | block id x ih=>
  refine⟨fun s s' e cx Q M O d h Y=>?_,fun it s cx G mk hh M O d hN hx=>?_⟩
  ·unfold XD at h;obtain⟨⟨U,s1⟩,z,u⟩:=qQC.1 h;refine J.block (ih.1 s s1 U cx _ M O d z ?_);unfold bkD at u;split at u
   ·rename_i i he;simp only at he;subst he;split at u
    ·rename_i hi;injection u with u;injection u with I W;simp only at W;subst I W;simp only[Bk,if_pos hi];exact Y
    ·rename_i hi;injection u with u;injection u with I W;simp only at W;subst I W;simp only[Bk,if_neg hi];exact Y
   ·rename_i he;simp only at he;injection u with u;injection u with I W;simp only at I W;subst I W;cases U with
    | exit i=>exact absurd rfl (he i)
    | _=>exact Y
  ·refine J.block (J.weak (ih.2 it s cx G mk hh M O d hN (fun g hg=>?_)) ?_)
   ·obtain⟨p,v⟩:=hx g hg;unfold XD at v;obtain⟨p1,z,-⟩:=qQC.1 v;exact⟨p1,z⟩
   ·rintro U t1 ⟨g,hg,z⟩;refine⟨t1,Le.refl _,?_⟩;obtain⟨⟨e2,t2⟩,v⟩:=hx g hg;have ac:=v;unfold XD at v;rw[z,qQx] at v;unfold bkD at v;cases U with
    | exit i=>
     simp only at v;split at v
     ·rename_i hi;injection v with v;injection v with I W;subst I W;simp only[Bk,if_pos hi];exact⟨g,hg,ac⟩
     ·rename_i hi;injection v with v;injection v with I W;subst I W;simp only[Bk,if_neg hi];exact⟨g,hg,ac⟩
    | _=>injection v with v;injection v with I W;subst I W;exact⟨g,hg,ac⟩
 | scope x ih=>
  refine⟨fun s s' e cx Q M O d h Y=>?_,fun it s cx G mk h=>by cases h⟩
  unfold XD at h;obtain⟨⟨U,s1⟩,z,u⟩:=qQC.1 h;unfold scD at u;cases U with
  | goto l=>cases u
  | _=>
   injection u with u;injection u with I W;subst I W;exact J.scope (ih.1 _ _ _ _ _ M O d z ⟨Y,fun l hl=>by cases hl⟩)
 | cond c x y ag ai=>
  refine⟨fun s s' e cx Q M O d h Y=>?_,fun it s cx G mk h=>by cases h⟩
  have M:q6A q rf x=true∧q6A q rf y=true:=(qR3 _ _).mp M;unfold XD at h;split at h
  ·rename_i b hb;split at h
   ·rename_i al;subst al;exact J.cond hb (fun _ ρ a w hs=>ag.1 _ _ _ _ _ M.1 O d h Y ρ a w (hs.ly hb)) (fun h=>by cases h)
   ·rename_i al;have:b=false:=by cases b<;>simp at al ⊢
    subst this;exact J.cond hb (fun h=>by cases h) (fun _ ρ a w hs=>ai.1 _ _ _ _ _ M.2 O d h Y ρ a w (hs.ly hb))
  ·cases h
 | region id ae ad=>
  refine⟨fun s s' e cx Q M O d h Y=>?_,fun it s cx G mk hh M O d hN hx=>?_⟩
  ·unfold XD at h;split at h
   ·rename_i hd;obtain⟨s1,z,u⟩:=qQC.1 h;injection u with u;injection u with I W;subst I W;subst hd;exact fun ρ a w hs=>by obtain⟨ρ',h'⟩:=hs.uwB (ae.toList.any (qHl po));exact hD cx id ae _ s1 Q O (by simpa [q6A] using M) z Y ρ' a w ((h'.dzr po.q).frz (q5W _ _))
   ·rename_i hd;obtain⟨s1,z,u⟩:=qQC.1 h;injection u with u;injection u with I W;subst I W;have hd:ad=false:=by cases ad<;>simp at hd ⊢
    subst hd;intro ρ a w hs;exact wpIn_region_list (qrX hA hE ae.toList s s1 ρ a w hs z (fun ρ' a' w' h=>⟨s1,ρ',Y,h⟩))
  ·unfold q2I at hh;split at hh
   ·cases hh
   ·rename_i hd;have hd:ad=false:=by cases ad<;>simp at hd ⊢
    subst hd;obtain⟨o,l,hL,ar,ho⟩:=qkB hh;intro ρ a w hs;refine wpIn_region_list ?_;rw[hL];unfold wpListIn;rw[if_pos (by unfold Region.wanted;rw[ar])]
    refine qHL cx.ro (hN o ρ a w _ _ ho hs (fun g ρ' a' w' hg h=>?_)) (fun c hc=>by rw[ho] at hc;cases hc)
    obtain⟨⟨e2,t2⟩,v⟩:=hx g hg;have ac:=v;unfold XD at v;rw[if_neg (by simp)] at v
    obtain⟨t1,z,u⟩:=qQC.1 v;injection u with u;injection u with I W;subst I W;have av:xr P T po E ae.toList (o::l) (mk g)=some t1:=by rw[←z,hL]
    unfold xr at av;obtain⟨s1,Z,h6⟩:=qQC.1 av;have h7:xst P T po E o true (mk g)=some s1:=by unfold xgd ipA ipX qtm ldO stO ipF qhU at Z;rw[ar,ho] at Z;exact Z
    exact qrX hA hE l s1 t1 ρ' a' w' (h s1 h7) h6 (fun aB a2 w2 h8=>⟨t1,aB,⟨g,hg,ac⟩,h8⟩)
 | rangeFunc g ps aG bd aH aJ=>
  refine⟨fun s s' e cx Q M O d h Y=>?_,fun it s cx G mk h=>by cases h⟩
  unfold XD at h;have aw:rf=true:=by simp only[q6A,qR3] at M;exact M.1.1
  intro ρ a w hs;exact qC5 hE (d aw) h Y ρ a w ((hs.dzr po.q).frz (q5W _ _))
 | loop c ih=>
  refine⟨fun s s' e cx Q M O d h Y=>?_,fun it s cx G mk h=>by cases h⟩
  unfold XD at h;obtain⟨s0,h0,z⟩:=qQC.1 h;generalize hF:(fun s=>(XD P T po E DR (iter n) f k c s).bind (lpx po f (zt c) k))=F at z;cases hn:q2I c with
  | none=>
   rw[hn] at z
   replace z:iter n F s0=some (e,s'):=z
   refine J.loop (ι:=Nat×S) (fun i=>i.2) (fun i=>iter i.1 F i.2=some (e,s')) (fun i=>i.1) (n,s0) z (qit O h0) ?_;rintro⟨m,t⟩ hm;cases m with
   | zero=>cases hm
   | succ m=>
    simp only[iter] at hm;obtain⟨⟨U,t1⟩,u,I⟩:=qQC.1 hm;rw[←hF] at u;simp only at u;obtain⟨⟨e2,t2⟩,W,Z⟩:=qQC.1 u;refine J.weak (ih.1 t t2 e2 cx (fun e0 s0=>e0=e2∧s0=t2) M O d W ⟨rfl,rfl⟩) ?_;rintro e0 s0 ⟨rfl,rfl⟩;rcases qbg Z with ⟨rfl,rfl,h6⟩|⟨rfl,h6,h7⟩
    ·unfold sqD at I;simp only at I;exact⟨t1,qit O h6,(m,t1),I,Le.refl _,Nat.lt_succ_self m⟩
    ·unfold sqD at I;cases e0 with
     | normal=>exact absurd rfl h6
     | _=>
      simp only at I;injection I with I;injection I with h8 h9;subst h8 h9;exact⟨_,(qtF _ po (po.ab f)).trans (qh3 O h7),Y⟩
  | some it=>
   rw[hn] at z;obtain⟨id,m,ck,es,hm,hM⟩:=qdF z;unfold mHd at hm;split at hm
   ·rename_i N ax;split at hm
    ·rename_i m' V hb;obtain⟨A,aC,hm⟩:=qQC.1 hm;split at hm
     ·rename_i hc;injection hm with hm;injection hm with U hm;injection hm with e2 hm;injection hm with e3 e4;subst U e2 e3 e4;obtain⟨ay,az⟩:=hc;have an:s0.blk N ≠ .dead:=by rw[hb];simp
      have aj:[]∈q5n A:=q7X _ _;have au:∀g l l',(s0.mi N m' V l).m1 N m' V g l'=s0.m1 N m' V g l':=fun g l l'=>qGg _ _ _;have ap:Le cx s0 (s0.mi N m' V []):=fun ρ a w hs=>by
       have ao:∀i,(s0.mi N m' V []).blk i=s0.blk i:=fun i=>by
        unfold S.mi;rw[qfN _ an];split
        ·rename_i hi;subst hi;exact hb.symm
        ·rfl
       refine⟨ρ,hs.ext (fun _=>rfl) ao rfl (fun i hi=>hs.nx i ?_)⟩;unfold S.live at hi ⊢;rw[←ao];exact hi
      refine J.loop (ι:=List Nat) (fun l=>s0.mi N m' V l)
       (fun l=>(∀x∈l,∃e∈A,e.2.2=x∧∀l'∈q5n A,F (s0.m1 N m' V (some e) l')=some (.normal,s0.mi N m' V (e.2.2::l')))∧l.length+(A.filter fun e => !l.contains e.2.2).length≤A.length)
       (fun l=>(A.filter fun e => !l.contains e.2.2).length) [] ⟨fun x hx=>by simp at hx,by simpa using List.length_filter_le _ _⟩ ((qit O h0).trans ap) ?_
      rintro l ⟨ak,aI⟩;have af:l∈q5n A:=qiB _ _ l (by omega) (fun x hx=>by obtain⟨e,z,u,-⟩:=ak x hx;exact qRi.2 ⟨e,z,u⟩)
      have ah:∀g p,F (s0.m1 N m' V g l)=some p→∃p0,XD P T po E DR (iter n) f k c (s0.m1 N m' V g l)=some p0∧lpx po f (zt c) k p0=some p:=fun g p v=>by rw[←hF] at v;exact qQC.1 v
      have aq:∀g,((g=none∧∀e∈A,e.2.2∈l)∨∃e∈A,g=some e∧e.2.2 ∉ l)→(F (s0.m1 N m' V g l)=some (e,s'))∨∃U∈A,g=some U∧U.2.2 ∉ l∧∀l'∈q5n A,F (s0.m1 N m' V (some U) l')=some (.normal,s0.mi N m' V (U.2.2::l')):=by
       rintro g (⟨rfl,ha⟩|⟨U,aa,rfl,am⟩)
       ·left;rcases hM.fin with ⟨U,aa,Z⟩|Z
        ·exfalso;obtain⟨e2,aF,h6,h7⟩:=ak _ (ha U aa);have:e2=U:=by
          obtain⟨i,hi,rfl⟩:=List.mem_iff_getElem.1 aa;obtain⟨j,hj,rfl⟩:=List.mem_iff_getElem.1 aF;have aD:i<(A.map (·.2.2)).length:=by simpa using hi
          have aA:j<(A.map (·.2.2)).length:=by simpa using hj
          have:j=i:=(List.getElem_inj (h₀:=aA) (h₁:=aD) ay).1 (by simpa using h6)
          subst this;rfl
         subst this;have:=(Z [] aj).symm.trans (h7 [] aj);injection this with this;exact hM.ne (by rw[this])
        ·exact Z l af
       ·rcases hM.ent U aa with Z|Z
        ·exact .inr ⟨U,aa,rfl,am,Z⟩
        ·exact .inl (Z l af)
      refine J.weak (ih.2 it (s0.mi N m' V l) cx _ _ hn M O d (qJ0 (id:=N) (m:=m') (ck:=V) (es:=A) (l:=l) ax (by unfold S.mi;rw[qfN _ an,if_pos rfl]) (by unfold S.mi;rw[qz8 _ an];exact aC) az) (fun g hg=>?_)) ?_
      ·rw[au];rcases aq g hg with Z|⟨U,aa,rfl,-,Z⟩
       ·obtain⟨p0,h6,-⟩:=ah _ _ Z;exact⟨p0,h6⟩
       ·obtain⟨p0,h6,-⟩:=ah _ _ (Z l af);exact⟨p0,h6⟩
      ·rintro e0 t0 ⟨g,hg,hx⟩;rw[au] at hx;rcases aq g hg with Z|⟨U,aa,rfl,am,Z⟩
       ·obtain⟨p0,h6,h7⟩:=ah _ _ Z;rw[hx] at h6;injection h6 with h6;subst h6;rcases qbg h7 with ⟨-,h8,-⟩|⟨rfl,h8,h9⟩
        ·exact absurd h8 hM.ne
        ·cases e0 with
         | normal=>exact absurd rfl h8
         | _=>exact⟨_,(qtF _ po (po.ab f)).trans (qh3 O h9),Y⟩
       ·obtain⟨p0,h6,h7⟩:=ah _ _ (Z l af);rw[hx] at h6;injection h6 with h6;subst h6;rcases qbg h7 with ⟨rfl,-,h8⟩|⟨-,h8,-⟩
        ·have aE:(A.filter fun e => !(U.2.2::l).contains e.2.2).length<(A.filter fun e => !l.contains e.2.2).length:=by
          refine filter_lt (fun e:Value×R×Nat => !l.contains e.2.2) (fun e => !(U.2.2::l).contains e.2.2) (fun y hy=>?_) U (by simpa using am) (by simp) A aa
          simp only[List.contains_cons,Bool.not_or,qR3] at hy;exact hy.2
         refine⟨_,qit O h8,U.2.2::l,⟨fun x hx=>?_,?_⟩,Le.refl _,aE⟩
         ·rcases qQT.1 hx with rfl|hx
          ·exact⟨U,aa,rfl,Z⟩
          ·exact ak x hx
         ·simp only[qQI] at *;omega
        ·exact absurd rfl h8
     ·cases hm
    ·cases hm
   ·cases hm
 | _=>exact⟨fun s s' e cx Q M O d h Y=>(by cases h),fun it s cx G mk h=>by cases h⟩
theorem qsO (hA:Ag P T) (hE:Snd P E) {DR:Nat→List Oper→S→Option S} {f k n:Nat} {q:Nat→List Oper→Bool} {rf:Bool} (hD:qFm P q k DR) (c:Code):∀(s s':S) (e:Exit) (cx:Cx) (Q:Exit→S→Prop),q6A q rf c=true→cx.k=k→(rf=true→cx.ro=none)→XD P T po E DR (iter n) f k c s=some (e,s')→Q e s'→J P cx c Q s:=
 (qDO hA hE hD c).1
end
end
noncomputable section
open Go.RowKit
structure Bd where
 code:Code
 n:Nat
 res:List ResultVar
 rt:List TypeId
def qu (P:Program) (po:Pol) (f:FuncId):Option Bd:=
 match P.funcs[f]? with
 | some fn=>match fn.body with
  | some c=>if((fn.name == "runtime.NumGoroutine") || !q6A (drq po f) true c)=true then none else some ⟨c,fn.ntmps,fn.results.toList,fn.resultTypes.toList⟩
  | none=>none
 | none=>none
def dzL:List Nat→List C→List C
 | _,[]=>[]
 | zs,x::r=>dz (zs.headD 0) x::dzL zs.tail r
def dzR (zs:List Nat):R→R
 | .c x => .c (dz (zs.headD 0) x)
 | .agg xs => .agg (dzL zs xs)
 | r=>r
def qkT:List (List Nat)→List R→List R
 | _,[]=>[]
 | zs,x::r=>dzR (zs.headD []) x::qkT zs.tail r
def qcv (s:S) (X:List Nat) (rs:List R):List R:=match X with | []=>rs|X=>rs.map (fzR s X)
def one:List R→R
 | [r]=>r
 | rs => .tup rs
def qhM (k:Nat) (s:S) (rs:List R) (ids:List Nat):Option (R×List (Nat×B)):=
 if ids.Nodup∧ids.all (fun i=>(s.blk i).live)=true∧(rng k []).all (fun i=>ids[i]? == some i)=true then some (one (rs.map (cnR ids)),cnH s ids ids 0) else none
def qcs (k:Nat) (s:S) (rs:List R):Option (R×List (Nat×B)):=qhM k s rs (q4Q s 60 ((rng k []).flatMap (fun i=>(s.blk i).refs)++rs.flatMap R.refs) (rng k []))
def ql4 (po:Pol) (k:Nat) (rt:List TypeId) (s:S) (rs:List R) (X:List Nat):Option (R×List (Nat×B)):=qcs k (s.frz X) (qkT (rt.map po.q) (qcv s X rs))
def qcp (po:Pol) (f k:Nat) (rt:List TypeId) (s:S) (rs:List R):Option (R×List (Nat×B)):=ql4 po k rt s rs (if po.ro f=true then[] else q5T s ((rs.flatMap R.rows).eraseDups))
def qkC (po:Pol) (f k:Nat) (rt:List TypeId) (s:S) (rs:List R):Option (R×List (Nat×B)):=
 if((rs.flatMap R.rows).flatMap (qnA s)).isEmpty=true then qcp po f k rt s rs
 else qcp po f k rt s.fn1.fn1 (qcv s.fn1 s.fn1.inr (qcv s s.inr rs))
def qy3 (T:Ty) (po:Pol) (f k:Nat) (bd:Bd) (p:Exit×S):Option (R×List (Nat×B)):=
 match p.1 with
 | .normal=>(rvs T (p.2.uwB (po.ab f)) bd.res).bind fun rs=>qkC po f k bd.rt ((p.2.uwB (po.ab f)).dzr po.q) rs
 | .ret=>(rvs T (p.2.uwB (po.ab f)) bd.res).bind fun rs=>qkC po f k bd.rt ((p.2.uwB (po.ab f)).dzr po.q) rs
 | _=>none
abbrev DRs:=Orc→FuncId→Nat→Nat→List Oper→S→Option S
def q7r (P:Program) (T:Ty) (po:Pol) (D:DRs) (E:Orc) (LO:(S→XS)→S→XS) (f k:Nat) (args:List R) (G:List (Nat×B)) (bd:Bd):Option (R×List (Nat×B)):=if args.length≤bd.n then(XD P T po E (D E f k) LO f k bd.code ⟨q43 args 0,G,G.length,bd.n⟩).bind (qy3 T po f k bd) else none
section
variable {P:Program} {T:Ty} {po:Pol} {cx:Cx} {ρ:Pl} {s:S} {a:Act} {w:World}
theorem qhR:∀(n:Nat) (acc:List Nat) (i:Nat),i<n∨i∈acc→i∈rng n acc
 | 0,acc,i,h=>by rcases h with h|h;omega;exact h
 | n+1,acc,i,h=>by unfold rng;refine qhR n _ i ?_;grind
theorem qgn (hA:Ag P T) (hs:Sim cx ρ s a w) {fn:Func} {rs:List R} (h:rvs T s fn.results.toList=some rs) :
  ∃vs:List Value,(results fn a.tmps).run P w = .ok (if h:vs.toArray.size=1 then vs.toArray[0] else .tuple vs.toArray) w∧vs.length=rs.length∧∀j r,rs[j]?=some r→RR w s.live ρ (vs.getD j undef) r:=by
 obtain⟨vs,d,b,c⟩:=qny (P:=P) hA hs _ rs h;refine⟨vs,?_,b,c⟩;rw[qkE,Array.mapM_eq_mapM_toList];simp_all
theorem qCi {L:Nat→Prop} {vs:List Value} {rs:List R} (hl:vs.length=rs.length) (h:∀j r,rs[j]?=some r→RR w L ρ (vs.getD j undef) r):RR w L ρ (if h:vs.toArray.size=1 then vs.toArray[0] else .tuple vs.toArray) (one rs):=by
 by_cases b:rs.length=1
 ·obtain⟨r,rfl⟩:=List.length_eq_one_iff.1 b;obtain⟨v,rfl⟩:=List.length_eq_one_iff.1 (hl.trans b);exact h 0 r rfl
 ·have d:¬ vs.toArray.size=1:=by simp_all
  rw[dif_neg d];have c:one rs = .tup rs:=by
   cases rs with
   | nil=>rfl
   | cons x l=>cases l with|nil=>simp_all|cons y l=>rfl
  rw[c];exact .tup _ _ (by assumption) (fun j r e=>by simp_all)
theorem AC.enter2 (hA:Ag P T) {f:FuncId} {fn:Func} {c:Code} {args:List R} {G:List (Nat×B)} {k:Nat} {Q:R→List (Nat×B)→Prop} (hf:P.funcs[f]?=some fn) (hb:fn.body=some c) (hname:(fn.name == "runtime.NumGoroutine")=false)
  (hle:args.length≤fn.ntmps) (h:∀cx,cx.k=k→cx.ro=none→J P cx c (fun e s=>(e = .normal∨e = .ret)∧∃rs,rvs T s fn.results.toList=some rs∧
   ∀ρ a w,Sim cx ρ s a w→∃rs' hp' nx' ρ',Q (one rs') hp'∧Sim cx ρ' (q0x hp' nx') qcH w∧rs'.length=rs.length∧∀(j:Nat) (r r':R) (v:Value),rs[j]?=some r→rs'[j]?=some r'→RR w s.live ρ v r→RR w (q0x hp' nx').live ρ' v r') ⟨q43 args 0,G,G.length,fn.ntmps⟩):AC P f args G k Q:=by
 refine⟨⟨fn,hf,hname,by rw[hb];rfl⟩,fun cx ρ w d hw hk ab u b hv=>?_⟩
 refine callsIn_wide.1 (callsIn_of_wp_marks (n:=0) hf hb trivial ?_);obtain⟨aa,I⟩:=hv;have M:Sim cx ρ ⟨q43 args 0,G,G.length,fn.ntmps⟩ { tmps:=d++Array.replicate (fn.ntmps-d.size) undef,defers:=[] } w:=by
  refine⟨b.hd,by simp;omega,fun i=>?_,b.hp,b.hp0,b.out,b.inj,b.nx,b.kept,b.oldF,b.pin,b.disj,⟨b.ows.lt,b.ows.one,b.ows.new⟩⟩
  show RR w _ ρ _ (lk (q43 args 0) i .any);rw[qdz,if_pos (qQX _),qRq];by_cases U:i<args.length
  ·have N:=I i args[i] (qQz U);have A:(d++Array.replicate (fn.ntmps-d.size) undef).getD i undef=d.getD i undef:=by
    have:i<d.size:=by omega
    simp[qQD,Array.getElem?_append,this]
   rw[A,List.getD,qQz U];exact N
  ·rw[List.getD,qR5 (by omega)]
   exact .any _
 have z:=h cx hk u ρ _ w M;rw[u] at z;refine wpIn_mono z (fun e a' x ⟨s',ρ',N,A⟩=>?_);obtain⟨he,rs,h3,h4⟩:=N;have m:LeavesInM Fence.wide 0 P fn a'.tmps (fun e x=>∃O r hp' nx' ρ',e = .returned O∧Q r hp'∧Sim cx ρ' (q0x hp' nx') qcH x∧RR x (q0x hp' nx').live ρ' O r) a'.defers .returning x:=by
  obtain⟨Ds,t,-⟩:=A.hd.ms;rw[t];refine qa4 Ds a' x t A (fun a2 w2 ht V g=>?_) rfl;obtain⟨us,g1,W,Y⟩:=qgn hA g h3;obtain⟨rs',hp',nx',q,Z,g5,g6,g7⟩:=h4 ρ' a2 w2 g;refine⟨_,g1,_,one rs',hp',nx',q,rfl,Z,g5,qCi (W.trans g6.symm) (fun j r' z=>?_)⟩;have y:j<rs.length:=by grind
  exact g7 j _ r' _ (qQz y) z (Y j _ (qQz y))
 rcases he with rfl|rfl
 ·exact m
 ·exact m
theorem qtr:∀(zs:List Nat) (xs:List C),(dzL zs xs).length=xs.length∧∀(j:Nat) (y:C),(dzL zs xs)[j]?=some y→∃x z,xs[j]?=some x∧y=dz z x
 | _,[]=>⟨rfl,fun j y h=>by simp[dzL] at h⟩
 | zs,x::r=>by
  obtain⟨h1,h2⟩:=qtr zs.tail r;refine⟨by simp[dzL,h1],fun j y b=>?_⟩
  cases j with
  | zero=>simp only[dzL,qQH,qRn] at b;grind
  | succ j=>simp only[dzL,qQW] at b ⊢;simp_all
theorem qBF {L:Nat→Prop} {v:Value} {r:R} (zs:List Nat) (h:RR w L ρ v r):RR w L ρ v (dzR zs r):=by
 cases h with
 | c v x h=>exact .c _ _ (quF _ h)
 | agg t e b d=>
  obtain⟨m,g⟩:=qtr zs e;refine .agg _ _ (b.trans m.symm) (fun j y k=>?_);obtain⟨x,z,q,i⟩:=g j y k;rw[i];exact quF z (d j x q)
 | tup t e b d=>exact .tup _ _ b d
 | any v=>exact .any _
theorem qo4:∀(zs:List (List Nat)) (xs:List R),(qkT zs xs).length=xs.length∧∀(j:Nat) (x y:R),xs[j]?=some x→(qkT zs xs)[j]?=some y→∃z,y=dzR z x
 | _,[]=>⟨rfl,fun j x y h=>by simp at h⟩
 | zs,x::r=>by
  obtain⟨h1,h2⟩:=qo4 zs.tail r;refine⟨by simp[qkT,h1],fun j d y c b=>?_⟩
  cases j with
  | zero=>simp only[qkT,qQH,qRn] at c b;grind
  | succ j=>simp only[qkT,qQW] at c b;grind
theorem qh7 {X:List Nat} {rs:List R} (hX:X.all (fun i => !(s.blk i).isBlk)=true) (hs:Sim cx ρ s a w):∀(j:Nat) (r r1:R) (v:Value),rs[j]?=some r→(qcv s X rs)[j]?=some r1→RR w s.live ρ v r→RR w (s.frz X).live ρ v r1:=by
 intro j r r1 v d b c;cases X with
 | nil=>rw[show qcv s [] rs=rs from rfl,d] at b;injection b with b;subst b;exact c
 | cons x X=>
  rw[show qcv s (x::X) rs=rs.map (fzR s (x::X)) from rfl,qQL,d] at b;injection b with b;subst b;exact(hs.frz1 fun i e=>by grind).2 v r c
theorem qaF {f k:Nat} {rt:List TypeId} {rs:List R} {r':R} {hp':List (Nat×B)} (hk:cx.k=k) (h:qcp po f k rt s rs=some (r',hp')) (hs:Sim cx ρ s a w) :
  ∃rs' nx' ρ',r'=one rs'∧Sim cx ρ' (q0x hp' nx') qcH w∧rs'.length=rs.length∧∀(j:Nat) (r r':R) (v:Value),rs[j]?=some r→rs'[j]?=some r'→RR w s.live ρ v r→RR w (q0x hp' nx').live ρ' v r':=by
 unfold qcp ql4 qcs at h;obtain⟨X,x,t⟩:∃X,X.all (fun i => !(s.blk i).isBlk)=true∧X=(if po.ro f=true then[] else q5T s ((rs.flatMap R.rows).eraseDups)):=by
  refine⟨_,?_,rfl⟩;split
  ·rfl
  ·exact q5W _ _
 rw[←t] at h;have c:=hs.frz x;have e:=qh7 (rs:=rs) x hs;have aa:(qcv s X rs).length=rs.length:=by cases X<;>simp[qcv]
 generalize s.frz X=V at h c e;obtain⟨Z,y⟩:=qo4 (rt.map po.q) (qcv s X rs);generalize qkT (rt.map po.q) (qcv s X rs)=m at h Z y;unfold qhM at h;split at h
 ·rename_i u;injection h with h;generalize q4Q V 60 _ _=ids at h u;obtain⟨c1,W,N⟩:=u;injection h with M Y;obtain⟨g,h3,G⟩:=c.canon (ids:=ids) (tm:=[]) (n:=0) (a':=qcH) c1 W (fun i hi=>by
   have:=qQO.1 N i (qhR k [] i (.inl (by omega)))
   simp_all) Hd.none rfl (fun i => .inl rfl)
  subst Y;refine⟨m.map (cnR ids),ids.length,g,M.symm,h3,by simp_all,fun j r r2 v O b hv=>?_⟩
  rw[qQL] at b;obtain⟨r1,U,A⟩:=qQK.1 b;have d:j<(qcv s X rs).length:=by grind
  obtain⟨z,I⟩:=y j _ r1 (qQz d) U;subst I;rw[←A];exact G v _ (qBF z (e j r _ v O (qQz d) hv))
 ·cases h
theorem qiv (s:S):s.inr.all (fun i => !(s.blk i).isBlk)=true:=by
 rw[qQO];intro i c;have h:=(qRt.1 c).2;unfold qmV at h;split at h
 ·rename_i b;rw[b];rfl
 ·cases h
theorem qey (s:S) (X:List Nat) (rs:List R):(qcv s X rs).length=rs.length:=by cases X<;>simp[qcv]
theorem qqI {f k:Nat} {rt:List TypeId} {rs:List R} {r':R} {hp':List (Nat×B)} (hk:cx.k=k) (h:qkC po f k rt s rs=some (r',hp')) (hs:Sim cx ρ s a w) :
  ∃rs' nx' ρ',r'=one rs'∧Sim cx ρ' (q0x hp' nx') qcH w∧rs'.length=rs.length∧∀(j:Nat) (r r':R) (v:Value),rs[j]?=some r→rs'[j]?=some r'→RR w s.live ρ v r→RR w (q0x hp' nx').live ρ' v r':=by
 unfold qkC at h;split at h
 ·exact qaF hk h hs
 ·obtain⟨rs',nx',ρ',q,g,i,e⟩:=qaF hk h hs.fn1.fn1;refine⟨rs',nx',ρ',q,g,by rw[i,qey,qey],fun j r y v m d u=>?_⟩
  have b:j<(qcv s s.inr rs).length:=by rw[qey];grind
  have c:j<(qcv s.fn1 s.fn1.inr (qcv s s.inr rs)).length:=by grind
  have t:=qh7 (qiv s) hs j r _ v m (qQz b) u;have x:=qh7 (qiv s.fn1) hs.fn1 j _ _ v (qQz b) (qQz c) t;exact e j _ _ v (qQz c) d x
def DOk (P:Program) (po:Pol) (D:DRs):Prop:=∀(E:Orc) (f k:Nat),Snd P E→qFm P (drq po f) k (D E f k)
theorem qrN (hA:Ag P T) {D:DRs} (hD:DOk P po D) {E:Orc} (hE:Snd P E) {n f k:Nat} {args:List R} {G G':List (Nat×B)} {r:R} {bd:Bd} (hb:qu P po f=some bd) (h:q7r P T po D E (iter n) f k args G bd=some (r,G')):AC P f args G k fun r' hp'=>r'=r∧hp'=G':=by
 unfold qu at hb;split at hb
 ·rename_i u hf;split at hb
  ·rename_i c W;split at hb
   ·cases hb
   ·rename_i b;simp only[qR2,Bool.not_eq_true',not_or,Bool.not_eq_true,Bool.not_eq_false] at b;injection hb with hb;subst hb;unfold q7r at h;split at h
    ·rename_i I;obtain⟨⟨e,d⟩,Y,x⟩:=qQC.1 h;refine AC.enter2 hA hf W b.1 I (fun cx N A=>?_);refine J.weak (Q:=fun M s'=>M=e∧s'=d) (qsO hA hE (hD E f k hE) _ _ _ _ cx _ b.2 N (fun _=>A) Y ⟨rfl,rfl⟩) ?_;rintro M s' ⟨t,z⟩;rw[z,t];refine⟨d.uwB (po.ab f),fun ρ a w y=>y.uwB _,?_⟩;unfold qy3 at x;simp only at x;generalize d.uwB (po.ab f)=d at x;have U:(rvs T d u.results.toList).bind (fun m=>qkC po f k u.resultTypes.toList (d.dzr po.q) m)=some (r,G')→∃m,rvs T d u.results.toList=some m∧
       ∀ρ a w,Sim cx ρ d a w→∃g hp' i ρ',(one g=r∧hp'=G')∧Sim cx ρ' (q0x hp' i) qcH w∧g.length=m.length∧∀(j:Nat) (r r':R) (v:Value),m[j]?=some r→g[j]?=some r'→RR w d.live ρ v r→RR w (q0x hp' i).live ρ' v r':=by
      intro V;obtain⟨m,Z,h5⟩:=qQC.1 V;refine⟨m,Z,fun ρ a w y=>?_⟩;obtain⟨g,i,ρ',g1,g2,g3,O⟩:=qqI N h5 (y.dzr po.q);rw[S.dzr_live] at O;grind
     grind
    ·cases h
  ·cases hb
 ·cases hb
def qyp (st0:LoopState) (st:LoopState) (pd:Option Code):B→Option B
 | .ob (.lp f tm ps aq0 bd s0 _)=>if s0=st0 then some (.ob (.lp f tm ps aq0 bd st pd)) else none
 | _=>none
def rdB:B→Option B
 | .ob (.lp f tm ps aq0 bd .ready none)=>some (.ob (.lp f tm ps aq0 bd .busy none))
 | _=>none
def qm1:Exit→Option (Option Code)
 | .normal=>some none
 | .ret=>some (some .ret)
 | .exit i=>some (some (.exit i))
 | _=>none
def q9B (k:Nat) (p:Exit×S):Option (R×List (Nat×B)):=
 (qm1 p.1).bind fun pd=>(qyp .busy (if pd.isNone then .ready else .done) pd (p.2.blk (k-1))).bind fun b=>qcs k (p.2.up [(k-1,b)]) [.c (.d (.bool pd.isNone))]
def q9w (P:Program) (T:Ty) (po:Pol) (D:DRs) (E:Orc) (LO:(S→XS)→S→XS) (f k:Nat) (bd:Code) (p:Exit×S):Option (R×List (Nat×B)):=
 match p.1 with
 | .normal=>(rdB (p.2.blk (k-1))).bind fun b=>(XD P T po E (D E f k) LO f k bd (p.2.up [(k-1,b)])).bind (q9B k)
 | _=>none
def q4t (P:Program) (T:Ty) (po:Pol) (D:DRs) (E:Orc) (LO:(S→XS)→S→XS) (f k:Nat) (aq0 bd:Code) (tm:List R) (G:List (Nat×B)):Option (R×List (Nat×B)):=if 0<k∧q6A (drq po f) false aq0=true∧q6A (drq po f) false bd=true then(XD P T po E (D E f k) LO f k aq0 ⟨q43 tm 0,G,G.length,tm.length⟩).bind (q9w P T po D E LO f k bd) else none
def prx (g:Nat→List R→List (Nat×B)→Option (R×List (Nat×B))) (k:Nat) (args:List R) (G:List (Nat×B)):Option (R×List (Nat×B)):=g k args G
def pr0 (g:List R→Option (R×List (Nat×B))) (k:Nat) (args:List R) (G:List (Nat×B)):Option (R×List (Nat×B)):=if k=0∧G.isEmpty=true then g args else none
def qFR (P:Program) (po:Pol):Prop:=∀E,Snd P E→∀f g k args G r G',po.pr f=some g→g.run E k args G=some (r,G')→AC P f args G k fun r' hp'=>r'=r∧hp'=G'
theorem qoC {P:Program} {f:FuncId} {g:List R→Option (R×List (Nat×B))} (h:∀args r G',g args=some (r,G')→AC P f args [] 0 fun r' hp'=>r'=r∧hp'=G') {k:Nat} {args:List R} {G G':List (Nat×B)} {r:R} (hg:pr0 g k args G=some (r,G')):AC P f args G k fun r' hp'=>r'=r∧hp'=G':=by unfold pr0 at hg;simp_all
def fnx (P:Program) (T:Ty) (po:Pol) (D:DRs) (E:Orc) (LO:(S→XS)→S→XS) (f k:Nat) (args:List R) (G:List (Nat×B)):Option (R×List (Nat×B)):=
 match po.pr f with
 | some g=>prx (g.run E) k args G
 | none=>(qu P po f).bind fun bd=>q7r P T po D E LO f k args G bd
def xf (P:Program) (T:Ty) (po:Pol) (D:DRs):Nat→Orc
 | 0=>fun _ _ _ _=>none
 | n+1=>fun g k args G=>match g with
  | .fn f=>fnx P T po D (xf P T po D n) (iter n) f k args G
  | .rd f aq0 bd=>q4t P T po D (xf P T po D n) (iter n) f k aq0 bd args G
theorem qvF {st0 st:LoopState} {pd:Option Code} {x y:B} (h:qyp st0 st pd x=some y):∃f tm ps aq0 bd p0,x = .ob (.lp f tm ps aq0 bd st0 p0)∧y = .ob (.lp f tm ps aq0 bd st pd):=by unfold qyp at h;grind
theorem Sim.lrec (hs:Sim cx ρ s a w) {l cap:Nat} (hl:cx.ρ (cx.k-1)=some (l,cap)) (hk:0<cx.k) {f:FuncId} {tm:List R} {ps:List Nat} {aq0 bd:Code} {st:LoopState} {p0:Option Code} (hb:s.blk (cx.k-1) = .ob (.lp f tm ps aq0 bd st p0)) :
  ∃rec:Loop,w.heap[l]?=some (.loop rec)∧rec.state=st∧rec.pending=p0∧∀(st':LoopState) (pd:Option Code),Sim cx ρ (s.up [(cx.k-1,.ob (.lp f tm ps aq0 bd st' pd))]) a (w.putObj l (.loop { rec with state:=st',pending:=pd })):=by
 have b:s.live (cx.k-1):=by unfold S.live;rw[hb];rfl
 have c:ρ (cx.k-1)=some (l,cap):=(hs.pin _ (by omega)).1.trans hl
 have e:=(hs.hp _ l cap b c).2;rw[hb] at e;obtain⟨rec,i,y,q,u,t,z,h,m⟩:=e;exact⟨rec,i,y,q,fun st' pd=>hs.overO b c fun d v=>⟨_,v,rfl,rfl,u,t,z,h,fun j x g=>(m j x g).stay d⟩⟩
theorem qBA {x y:B} (h:rdB x=some y):∃f tm ps aq0 bd,x = .ob (.lp f tm ps aq0 bd .ready none)∧y = .ob (.lp f tm ps aq0 bd .busy none):=by unfold rdB at h;grind
theorem qjW {k:Nat} {rs:List R} {r':R} {hp':List (Nat×B)} (hk:cx.k=k) (h:qcs k s rs=some (r',hp')) (hs:Sim cx ρ s a w) :
  ∃ids nx' ρ',r'=one (rs.map (cnR ids))∧Sim cx ρ' (q0x hp' nx') qcH w∧∀v r,RR w s.live ρ v r→RR w (q0x hp' nx').live ρ' v (cnR ids r):=by
 unfold qcs qhM at h;split at h
 ·rename_i c;injection h with h;generalize q4Q s 60 _ _=ids at h c;obtain⟨t,m,j⟩:=c;injection h with g q;obtain⟨b,d,e⟩:=hs.canon (ids:=ids) (tm:=[]) (n:=0) (a':=qcH) t m (fun i u=>by
   have:=qQO.1 j i (qhR k [] i (.inl (by omega)))
   simp_all) Hd.none rfl (fun i => .inl rfl)
  subst q;exact⟨ids,ids.length,b,g.symm,d,e⟩
 ·cases h
theorem q93 {r:R} {G':List (Nat×B)} {l cap:Nat} (hl:cx.ρ (cx.k-1)=some (l,cap)) (hk0:0<cx.k) {pd:Option Code} (hs:Sim cx ρ s a w)
  (h:((qyp .busy (if pd.isNone then .ready else .done) pd (s.blk (cx.k-1))).bind fun b=>qcs cx.k (s.up [(cx.k-1,b)]) [.c (.d (.bool pd.isNone))])=some (r,G')) :
  ∃v w',(Instr.endRound l pd).run P w = .ok v w'∧∃v' r' hp' nx' ρ',Ending.returned v = .returned v'∧(r'=r∧hp'=G')∧Sim cx ρ' (q0x hp' nx') qcH w'∧RR w' (q0x hp' nx').live ρ' v' r':=by
 obtain⟨b,i,t⟩:=qQC.1 h;obtain⟨N,z,y,I,u,U,j,g⟩:=qvF i;obtain⟨m,q,V,O,A⟩:=hs.lrec hl hk0 j;have e:=A (if pd.isNone then .ready else .done) pd;subst g;obtain⟨ids,nx',ρ',M,G,x⟩:=qjW rfl t e;refine⟨_,_,run_endRound pd q,_,r,G',nx',ρ',rfl,⟨rfl,rfl⟩,G,?_⟩;rw[M];exact x _ _ (.c _ _ (.d _ _ (.bool _)))
theorem qlU (hA:Ag P T) {D:DRs} (hD:DOk P po D) {E:Orc} (hE:Snd P E) {n f k:Nat} {aq0 bd:Code} {tm:List R} {G G':List (Nat×B)} {r:R} (h:q4t P T po D E (iter n) f k aq0 bd tm G=some (r,G')):RA P aq0 bd tm G k fun r' hp'=>r'=r∧hp'=G':=by
 unfold q4t at h;split at h
 ·rename_i hc;obtain⟨j,I,N⟩:=hc;obtain⟨⟨e1,s1⟩,h1,y⟩:=qQC.1 h;intro cx ρ w l Z fn vs hw hk M v _ d g W;subst hk M;have z:Sim cx cx.ρ ⟨q43 tm 0,G,G.length,tm.length⟩ { tmps:=vs,defers:=[] } w:=by
   refine⟨g.hd,W.1,fun i=>?_,g.hp,g.hp0,g.out,g.inj,g.nx,g.kept,g.oldF,g.pin,g.disj,⟨g.ows.lt,g.ows.one,g.ows.new⟩⟩;show RR w _ _ _ (lk (q43 tm 0) i .any);rw[qdz,if_pos (qQX _),qRq];by_cases U:i<tm.length
   ·rw[List.getD,qQz U];exact W.2 i tm[i] (qQz U)
   ·rw[List.getD,qR5 (by omega)]
    exact .any _
  refine roundIn_of_wpIn (F:=Fence.wide) (n:=0) trivial ?_;have V:=qsO (rf:=false) hA hE (hD E f cx.k hE) aq0 _ _ _ cx (fun e s=>e=e1∧s=s1) I rfl (fun h=>by cases h) h1 ⟨rfl,rfl⟩ cx.ρ _ w z
  rw[v] at V;refine wpIn_mono V ?_;rintro e a1 w1 ⟨af,A,⟨rfl,rfl⟩,t⟩;unfold q9w at y;simp only at y;cases e with
  | normal=>
   obtain⟨b,h3,h4⟩:=qQC.1 y;obtain⟨⟨e2,s2⟩,h5,x⟩:=qQC.1 h4;obtain⟨f0,ae,ad,ab,aa,g1,Y⟩:=qBA h3;obtain⟨u,t1,t2,t3,t4⟩:=t.lrec d j g1;refine⟨_,run_beginRound t1 t2,?_⟩;have m:=t4 .busy none;have q:({ u with state := .busy,pending:=none }:Loop)={ u with state := .busy }:=by rw[←t3]
   rw[q,←Y] at m;have O:=qsO (rf:=false) hA hE (hD E f cx.k hE) bd _ _ _ cx (fun e s=>e=e2∧s=s2) N rfl (fun h=>by cases h) h5 ⟨rfl,rfl⟩ A _ _ m
   rw[v] at O;refine wpIn_mono O ?_;rintro e a3 w3 ⟨ag,ac,⟨rfl,rfl⟩,c⟩;unfold q9B at x;cases e with
   | normal=>exact q93 d j c x
   | ret=>exact q93 d j c x
   | exit i=>exact q93 d j c x
   | _=>cases x
  | _=>cases y
 ·cases h
theorem qmW (hA:Ag P T) {D:DRs} (hD:DOk P po D) (hP:qFR P po):∀n,Snd P (xf P T po D n)
 | 0=>⟨fun _ _ _ _ _ _ h=>(by cases h),fun _ _ _ _ _ _ _ _ h=>(by cases h)⟩
 | n+1=>by
  have ih:=qmW hA hD hP n;refine⟨fun f k b G r G' h=>?_,fun f j d k m G r G' h=>?_⟩
  ·replace h:fnx P T po D (xf P T po D n) (iter n) f k b G=some (r,G'):=h
   unfold fnx at h;split at h
   ·rename_i g i;exact hP _ ih f g k b G r G' i h
   ·obtain⟨d,c,e⟩:=qQC.1 h;exact qrN hA hD ih c e
  ·exact qlU hA hD ih h
end
end
end Go.Proofs.YtofbcijbpfjliaaGreat.Vc
