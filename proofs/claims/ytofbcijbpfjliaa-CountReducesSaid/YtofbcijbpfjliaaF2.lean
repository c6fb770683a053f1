/- Part 2 of a proof. -/
import Derived.Test.YtofbcijbpfjliaaF1
import Derived.RangeFuncIn
import Derived.ChangeSlices
import Derived.OpenShut
import Derived.ChangeSame
import Derived.WideShapes
set_option linter.unusedVariables false
set_option linter.unusedSimpArgs false
set_option linter.defProp false
set_option linter.unusedSectionVars false
set_option linter.unnecessarySimpa false
namespace Go.Proofs.Ytofbcijbpfjliaa.Vc
noncomputable section
open Go.RowKit
def C.scl0:C→Bool
 | .d (.sl _ _ _)=>false
 | .eptr _ _=>false
 | .clp _ _ _=>false
 | .fn _ _ _=>false
 | _=>true
def C.scl:C→Bool
 | .fn _ fs caps=>fs.all C.scl0&&caps.all C.scl0
 | c=>c.scl0
def R.scl0:R→Bool
 | .c x=>x.scl
 | .agg xs=>xs.all C.scl
 | _=>true
def R.scl:R→Bool
 | .tup rs=>rs.all R.scl0
 | r=>r.scl0
def B.scl:B→Bool
 | .blk _ cs=>cs.all C.scl
 | .row _ _ cs=>cs.all C.scl
 | .ob o=>o.Rs.all R.scl0
 | .dead=>true
def okr (ln:List Nat) (r:R) (hp:List (Nat×B)):Prop:=ln=[]∨(r.scl=true∧hp.all (fun x=>x.2.scl)=true)
section
variable {w:World} {L L':Nat→Prop} {ρ ρ':Pl} {f:Nat→Nat} {p:Prop}
theorem RD.scl {v:Value} {x:D} (h:RD w (Occ L ρ) v x) (hx:(C.d x).scl0=true):RD w (Occ L' ρ') v x:=by
 cases h with
 | int k n=>exact .int k n
 | bool b=>exact .bool b
 | str s=>exact .str s
 | _=>cases hx
theorem RC.rn0 (hid:∀j,L j→L' (f j)∧ρ' (f j)=ρ j) (ho:p→∀b,Occ L' ρ' b→Occ L ρ b) {v:Value} {x:C} (h:RC w L ρ v x) (hx:p∨x.scl0=true):RC w L' ρ' v (x.rn0 f):=by
 cases h with
 | d v x h=>
  rcases hx with hp|hx
  ·exact .d _ _ (h.occ (ho hp))
  ·exact .d _ _ (h.scl hx)
 | ptr i o b cap h1 h2=>exact .ptr (f i) o b cap (hid i h1).1 ((hid i h1).2.trans h2)
 | hd k i b cap h1 h2=>exact .hd k (f i) b cap (hid i h1).1 ((hid i h1).2.trans h2)
 | nilp=>exact .nilp
 | nilf=>exact .nilf
 | nilm=>exact .nilm
 | nils=>exact .nils
 | eptr b o off cs g h1 h2 h3 h4=>
  rcases hx with hp|hx
  ·exact .eptr b o off cs g h1 (fun h=>h2 (ho hp b h)) h3 (fun j c hj=>(h4 j c hj).occ (ho hp))
  ·cases hx
 | clp A sz n cs h=>
  rcases hx with hp|hx
  ·exact .clp A sz n cs (h.occ (ho hp))
  ·cases hx
 | own i sz o n b cap h1 h2 h3 h4=>exact .own (f i) sz o n b cap (hid i h1).1 ((hid i h1).2.trans h2) h3 h4
 | own0 i sz h1 h2=>exact .own0 (f i) sz (hid i h1).1 ((hid i h1).2.trans h2)
 | fn g fs caps us vs h1 h2 h3 h4=>exact .any _
 | ow=>exact .any _
 | ow0=>exact .any _
 | any v=>exact .any _
theorem RC.rn (hid:∀j,L j→L' (f j)∧ρ' (f j)=ρ j) (ho:p→∀b,Occ L' ρ' b→Occ L ρ b) {v:Value} {x:C} (h:RC w L ρ v x) (hx:p∨x.scl=true):RC w L' ρ' v (x.rn f):=by
 cases x with
 | fn g fs caps=>
  cases h with
  | fn _ _ _ us vs h1 h2 h3 h4=>
   have hx':p∨(fs.all C.scl0=true∧caps.all C.scl0=true):=hx.imp id fun h=>(qyd _ _).mp h
   refine .fn g _ _ us vs (by simpa using h1) (fun j c hj=>?_) (by simpa using h3) (fun j c hj=>?_)
   ·rw[qxV] at hj
    obtain⟨y,g1,g2⟩:=qxU.1 hj
    exact g2 ▸ (h2 j y g1).rn0 hid ho (hx'.imp id fun h=>qxY.1 h.1 y (qxI g1))
   ·rw[qxV] at hj
    obtain⟨y,g1,g2⟩:=qxU.1 hj
    exact g2 ▸ (h4 j y g1).rn0 hid ho (hx'.imp id fun h=>qxY.1 h.2 y (qxI g1))
 | _=>exact h.rn0 hid ho hx
theorem qe6 (hid:∀j,L j→L' (f j)∧ρ' (f j)=ρ j) (ho:p→∀b,Occ L' ρ' b→Occ L ρ b) {vs:Nat→Value} {cs:List C} (h:∀j c,cs[j]?=some c→RC w L ρ (vs j) c) (hx:p∨cs.all C.scl=true):∀j c,(cs.map (C.rn f))[j]?=some c→RC w L' ρ' (vs j) c:=fun j c hj=>by
 rw[qxV] at hj
 obtain⟨y,g1,g2⟩:=qxU.1 hj
 exact g2 ▸ (h j y g1).rn hid ho (hx.imp id fun h=>qxY.1 h y (qxI g1))
theorem RR.rn0 (hid:∀j,L j→L' (f j)∧ρ' (f j)=ρ j) (ho:p→∀b,Occ L' ρ' b→Occ L ρ b) {v:Value} {x:R} (h:RR w L ρ v x) (hx:p∨x.scl0=true):RR w L' ρ' v (x.rn0 f):=by
 cases h with
 | c v x h=>exact .c _ _ (h.rn hid ho hx)
 | agg vs xs h1 h2=>exact .agg _ _ (by simpa using h1) (qe6 hid ho h2 hx)
 | tup vs xs h1 h2=>exact .any _
 | any v=>exact .any _
theorem RR.rn (hid:∀j,L j→L' (f j)∧ρ' (f j)=ρ j) (ho:p→∀b,Occ L' ρ' b→Occ L ρ b) {v:Value} {x:R} (h:RR w L ρ v x) (hx:p∨x.scl=true):RR w L' ρ' v (x.rn f):=by
 cases x with
 | tup xs=>
  cases h with
  | tup vs _ h1 h2=>
   refine .tup _ _ (by simpa using h1) (fun j c hj=>?_)
   rw[qxV] at hj
   obtain⟨y,g1,g2⟩:=qxU.1 hj
   exact g2 ▸ (h2 j y g1).rn0 hid ho (hx.imp id fun h=>qxY.1 (show xs.all R.scl0=true from h) y (qxI g1))
 | _=>exact h.rn0 hid ho hx
theorem HB.rn (hid:∀j,L j→L' (f j)∧ρ' (f j)=ρ j) (ho:p→∀b,Occ L' ρ' b→Occ L ρ b) {b cap:Nat} {x:B} (h:HB w L ρ b cap x) (hx:p∨x.scl=true):HB w L' ρ' b cap (x.rn f):=by
 cases x with
 | blk t cs=>obtain⟨vs,h1,h2,h3⟩:=h;exact⟨vs,h1,by simpa using h2,qe6 hid ho h3 hx⟩
 | row e sz cs=>obtain⟨vs,h1,h2,h3,h4,h5,h6⟩:=h;exact⟨vs,h1,by simpa using h2,h3,h4,h5,qe6 hid ho h6 hx⟩
 | ob o=>exact HO.map rfl (fun v x hm hr=>hr.rn0 hid ho (hx.imp id fun h=>qxY.1 h x hm)) h
 | dead=>trivial
end
section
variable {P:Program} {cx:Cx} {ρ:Pl} {s:S} {a:Act} {w:World} {K:KK}
theorem HB.sel (hs:Sim cx ρ s a w) {sel:List Nat} {L':Nat→Prop} {ρ':Pl} (hsel:∀i j,sel[j]?=some i→s.live i→L' j∧ρ' j=ρ i) (ho:∀b,Occ L' ρ' b→Occ s.live ρ b) {b cap:Nat} {x y:B} (h:HB w s.live ρ b cap x) (hx:BR s sel x y):HB w L' ρ' b cap y:=by
 have hR:∀v x y,RC w s.live ρ v x→CR s sel [] x y→RC w L' ρ' v y:=fun v x y h hc=>hc.rc hs hsel ho (fun id hid=>by simp at hid) h
 cases hx with
 | blk t cs cs' hp=>obtain⟨vs,h1,h2,h3⟩:=h;exact⟨vs,h1,h2.trans hp.1,hp.rc hR h3⟩
 | row e sz cs cs' hp=>obtain⟨vs,h1,h2,h3,h4,h5,h6⟩:=h;exact⟨vs,h1,hp.1 ▸ h2,h3,h4,h5,hp.rc hR h6⟩
 | ob o o' hp=>exact HO.rel hR h hp
theorem Sim.hand (hs:Sim cx ρ s a w) {G:List (Nat×B)} {k:Nat} (sel ln:List Nat) (ro:Option Nat) (hG:GR s sel sel 0 G)
  (hsel:sel.all (fun i=>(s.blk i).live)=true) (hnd:sel.Nodup) (hln:ln.all (fun i=>(s.blk i).live && !sel.contains i)=true) (hk:k≤G.length) (hpk:∀j,j<G.length→(lk G j .dead).isBlk=decide (j<k)) :
  ∃(O:Nat→Prop) (ρc:Pl),Sim ⟨O,w,ρc,k,ro⟩ ρc (QN G G.length) q5q w∧(∀vs rs rs',RRs w s.live ρ vs rs→ARs s sel ln rs rs'→RRs w (QN G G.length).live ρc vs rs')∧(∀i j,sel[j]?=some i→ρc j=ρ i)∧
   ∀w' r hp' nx' ρ' v,Sim ⟨O,w,ρc,k,ro⟩ ρ' (QN hp' nx') q5q w'→okr ln r hp'→RR w' (QN hp' nx').live ρ' v r→∃ρ2,Sim cx ρ2 (s.aft sel k hp') a w'∧RR w' (s.aft sel k hp').live ρ2 v (r.rn (ren sel s.nx)):=by
 obtain⟨hGl,hGat⟩:=hG.at_
 have hsl:∀i,i∈sel→s.live i:=fun i hi=>qxY.1 hsel i hi
 have hll:∀i,i∈ln→s.live i∧i ∉ sel:=fun i hi=>by
  have:=qxY.1 hln i hi
  simp only[qyd,Bool.not_eq_true',List.contains_eq_mem,decide_eq_false_iff_not] at this
  exact this
 have hsm:∀{i j:Nat},sel[j]?=some i→i∈sel:=fun hj=>qxI hj
 obtain⟨F,hF⟩:∃F:Nat→Prop,F=fun b=>ρ.F b∨∃i cap,s.live i∧i ∉ ln∧i ∉ sel∧ρ i=some (b,cap):=⟨_,rfl⟩
 have hFo:∀b,F b→Occ s.live ρ b:=fun b hb=>by
  rw[hF] at hb
  rcases hb with hb|⟨i,cap,h1,-,-,h2⟩
  ·exact .inl hb
  ·exact .inr ⟨i,cap,h1,h2⟩
 have hoF:∀b i cap,s.live i→ρ i=some (b,cap)→(i∈sel∨i∈ln)→¬ F b:=fun b i cap h1 h2 h3 hb=>by
  rw[hF] at hb
  rcases hb with hb|⟨i',c,h4,h5,h6,h7⟩
  ·exact hs.disj i b cap h1 h2 hb
  ·have:=hs.inj i' i b c cap h4 h1 h7 h2
   subst this
   rcases h3 with h3|h3
   ·exact h6 h3
   ·exact h5 h3
 obtain⟨ρc,hρc⟩:∃ρc:Pl,ρc=⟨fun j=>(sel[j]?).bind ρ.at_,F⟩:=⟨_,rfl⟩
 have hρcF:ρc.F=F:=by rw[hρc]
 have hρcs:∀{i j:Nat},sel[j]?=some i→ρc j=ρ i:=fun {i j} hj=>by
  rw[hρc];show(sel[j]?).bind ρ.at_=ρ i;rw[hj];rfl
 obtain⟨O,hO⟩:∃O:Nat→Prop,O=fun b=>∃i cap,i∈sel∧ρ i=some (b,cap):=⟨_,rfl⟩
 let Lc:Nat→Prop:=(QN G G.length).live
 have hLc:∀{i j:Nat},sel[j]?=some i→Lc j:=fun {i j} hj=>by
  have h1:=(hGat j).1 (qy7 _) i (by rw[qyz];exact hj)
  have h2:=hsl i (hsm hj)
  unfold S.live at h2
  show(lk G j .dead).live=true
  revert h1 h2
  generalize s.blk i=x
  generalize lk G j .dead=y
  intro h1 h2
  cases h1<;>rfl
 have hLc':∀j,Lc j→∃i,sel[j]?=some i:=fun j hj=>by
  rcases Nat.lt_or_ge j sel.length with h1|h1
  ·exact⟨_,qxJ h1⟩
  ·have h2:=(hGat j).2 (.inr (by omega))
   have h3:(lk G j .dead).live=true:=hj
   rw[h2] at h3;cases h3
 have hocc:∀b,Occ Lc ρc b→Occ s.live ρ b:=fun b hb=>by
  rcases hb with hb|⟨j,c,h1,h2⟩
  ·exact hFo b (hρcF ▸ hb)
  ·obtain⟨i,hi⟩:=hLc' j h1
   exact .inr ⟨i,c,hsl i (hsm hi),(hρcs hi).symm.trans h2⟩
 have hsel':∀i j,sel[j]?=some i→s.live i→Lc j∧ρc j=ρ i:=fun i j hj _=>⟨hLc hj,hρcs hj⟩
 have hlo:∀id,id∈ln→∀b cap,ρ id=some (b,cap)→¬ Occ Lc ρc b:=fun id hid b cap hr hb=>by
  rcases hb with hb|⟨j,c,h1,h2⟩
  ·exact hoF b id cap (hll id hid).1 hr (.inr hid) (hρcF ▸ hb)
  ·obtain⟨i,hi⟩:=hLc' j h1
   rw[hρcs hi] at h2
   have:=hs.inj i id b c cap (hsl i (hsm hi)) (hll id hid).1 h2 hr
   subst this
   exact(hll _ hid).2 (hsm hi)
 let cxc:Cx:=⟨O,w,ρc,k,ro⟩
 have hnow:∀i j d,¬ q6v (QN G G.length) ρc w i j d:=fun j0 j d hw=>by
  obtain⟨b,c,y,n,c',l1,l2,l3,l4,l5⟩:=hw
  obtain⟨i,hi⟩:=hLc' j0 l1
  have h1:=(hGat j0).1 (qy7 _) i (by rw[qyz];exact hi)
  have h2:(lk G j0 .dead).cells.all C.noow=true:=h1.noow
  have:=C.noow_is (qxY.1 h2 y (qxI l3))
  rw[l4] at this;cases this
 have hows:Ows cxc.mine (QN G G.length) ρc w:=⟨fun b hb=>hs.occ_lt (hFo b (hρcF ▸ hb)),fun i j _ _ d h=>absurd h (hnow i j d),fun i j d h=>absurd h (hnow i j d)⟩
 have hsc:Sim cxc ρc (QN G G.length) q5q w:=by
  refine⟨Hd.none,rfl,fun i => .any _,fun j b c hj hr=>?_,fun j hj hr=>?_,fun j b c hj hr=>?_,fun j j' b c c' hj hj' hrj hrj'=>?_,fun j hj=>?_,qaA.refl _ _,fun b hb=>⟨hb,?_⟩,fun j hj=>⟨rfl,?_⟩,fun j b c hj hr=>?_,hows⟩
  ·obtain⟨i,hi⟩:=hLc' j hj
   rw[hρcs hi] at hr
   obtain⟨h1,h2⟩:=hs.hp i b c (hsl i (hsm hi)) hr
   exact⟨h1,h2.sel hs hsel' hocc ((hGat j).1 (qy7 _) i (by rw[qyz];exact hi))⟩
  ·obtain⟨i,hi⟩:=hLc' j hj
   rw[hρcs hi] at hr
   obtain⟨e,sz,h1⟩:=hs.hp0 i (hsl i (hsm hi)) hr
   have h2:=(hGat j).1 (qy7 _) i (by rw[qyz];exact hi)
   rw[h1] at h2
   show ∃e sz,lk G j .dead=_
   generalize lk G j .dead=y at h2
   cases h2 with
   | row _ _ _ cs' hp=>
    have:cs'=[]:=qy0 (by rw[←hp.1];rfl)
    exact⟨e,sz,by rw[this]⟩
  ·obtain⟨i,hi⟩:=hLc' j hj
   rw[hρcs hi] at hr
   exact .inl (by show O b;rw[hO];exact⟨i,c,hsm hi,hr⟩)
  ·obtain⟨i,hi⟩:=hLc' j hj
   obtain⟨i',hi'⟩:=hLc' j' hj'
   rw[hρcs hi] at hrj
   rw[hρcs hi'] at hrj'
   have:=hs.inj i i' b c c' (hsl i (hsm hi)) (hsl i' (hsm hi')) hrj hrj'
   subst this
   obtain⟨l1,e1⟩:=qxL.1 hi
   obtain⟨l2,e2⟩:=qxL.1 hi'
   exact(List.getElem_inj hnd).1 (e1.trans e2.symm)
  ·obtain⟨i,hi⟩:=hLc' j hj
   have:=(qxL.1 hi).1
   show j<G.length
   omega
  ·exact hs.occ_lt (hFo b (hρcF ▸ hb))
  ·have h1:=hpk j (by have:j<k:=hj;omega)
   rw[qyH (show j<k from hj)] at h1
   exact h1
  ·obtain⟨i,hi⟩:=hLc' j hj
   rw[hρcs hi] at hr
   rw[hρcF]
   exact hoF b i c (hsl i (hsm hi)) hr (.inl (hsm hi))
 have hargs:∀vs rs rs',RRs w s.live ρ vs rs→ARs s sel ln rs rs'→RRs w Lc ρc vs rs':=fun vs rs rs' hv ha=>by
  obtain⟨ha1,ha2⟩:=ha.at_
  refine⟨by rw[hv.1,ha1],fun j r' hj=>?_⟩
  obtain⟨r,h1,h2⟩:=ha2 j r' hj
  have h3:=hv.2 j r h1
  have hR:∀v x y,RC w s.live ρ v x→CR s sel ln x y→RC w Lc ρc v y:=fun v x y h hc=>hc.rc hs hsel' hocc hlo h
  exact h2.rr hR h3
 refine⟨O,ρc,hsc,hargs,fun i j hj=>hρcs hj,fun w' r hp' nx' ρ' v h3 hok h4=>?_⟩
 -- the ids
 obtain⟨f,hf⟩:∃f,f=ren sel s.nx:=⟨_,rfl⟩
 have hf1:∀{i j:Nat},sel[j]?=some i→f j=i:=fun hj=>by rw[hf];unfold ren;rw[hj]
 have hf2:∀j,sel.length≤j→f j=s.nx+(j-sel.length):=fun j hj=>by rw[hf];unfold ren;rw[qyf hj]
 have hselnx:∀i,i∈sel→i<s.nx:=fun i hi=>hs.nx i (hsl i hi)
 have hfi:∀j j',f j=f j'→j=j':=fun j j' he=>by
  rcases Nat.lt_or_ge j sel.length with q|q<;>rcases Nat.lt_or_ge j' sel.length with q' | q'
  ·rw[hf1 (qxJ q),hf1 (qxJ q')] at he
   exact(List.getElem_inj hnd).1 he
  ·rw[hf1 (qxJ q),hf2 j' q'] at he
   have:=hselnx _ (qyy q);omega
  ·rw[hf1 (qxJ q'),hf2 j q] at he
   have:=hselnx _ (qyy q');omega
  ·rw[hf2 j q,hf2 j' q'] at he;omega
 have hfx:∀i,i ∉ sel→i<s.nx→∀j,f j≠i:=fun i hi hn j he=>by
  rcases Nat.lt_or_ge j sel.length with q|q
  ·rw[hf1 (qxJ q)] at he;exact hi (he ▸ qyy q)
  ·rw[hf2 j q] at he;omega
 have hfs:∀i,i∈sel→∃j,sel[j]?=some i∧f j=i:=fun i hi=>by
  obtain⟨j,hj⟩:=List.getElem?_of_mem hi
  exact⟨j,hj,hf1 hj⟩
 obtain⟨X,hX⟩:∃X,X=sel.drop k:=⟨_,rfl⟩
 obtain⟨s',hs'⟩:∃s',s'=s.aft sel k hp':=⟨_,rfl⟩
 have hb1:∀j,s'.blk (f j)=(lk hp' j .dead).rn f:=fun j=>by
  rw[hs',hf]
  show lk ((hp'.map _++_)++(s.fgL (sel.drop k)).hp) _ .dead=_
  rw[qym]
  rw[←hf]
  refine qhb hfi _ j ?_ hp'
  rw[q62]
  split
  ·rfl
  ·rename_i hn
   show(s.fgL (sel.drop k)).blk (f j) = .dead
   refine B.dead_of fun hl=>?_
   have hl':=(S.fgL_live s (sel.drop k) (f j)).1 hl
   rcases Nat.lt_or_ge j sel.length with q|q
   ·exact hn (by rw[hf1 (qxJ q)];exact qyy q)
   ·have:=hs.nx _ hl'
    rw[hf2 j q] at this;omega
 have hb2:∀i,i ∉ sel→i<s.nx→s'.blk i=(s.fgL X).blk i:=fun i hi hn=>by
  rw[hs',hX]
  show lk ((hp'.map _++_)++(s.fgL (sel.drop k)).hp) _ .dead=_
  rw[qym,qh7 (f:=ren sel s.nx) (g:=B.rn (ren sel s.nx)) _ i (hf ▸ hfx i hi hn),q62,if_neg hi]
  rfl
 let Lc':Nat→Prop:=(QN hp' nx').live
 have hl1:∀j,s'.live (f j)↔Lc' j:=fun j=>by
  unfold S.live
  rw[hb1,B.rn_live]
  exact Iff.rfl
 have hl2:∀i,i ∉ sel→i<s.nx→(s'.live i↔s.live i):=fun i hi hn=>by
  unfold S.live
  rw[hb2 i hi hn]
  exact S.fgL_live s X i
 have hcase:∀i,(∃j,f j=i)∨(i ∉ sel∧i<s.nx):=fun i=>by
  by_cases hi:i∈sel
  ·obtain⟨j,-,hj⟩:=hfs i hi;exact .inl ⟨j,hj⟩
  ·rcases Nat.lt_or_ge i s.nx with q|q
   ·exact .inr ⟨hi,q⟩
   ·exact .inl ⟨i-s.nx+sel.length,by rw[hf2 _ (by omega)];omega⟩
 obtain⟨ρ2,hρ2⟩:∃ρ2:Pl,ρ2=⟨fun i=>open Classical in if h:∃j,f j=i then ρ' (Classical.choose h) else ρ i,ρ.F⟩:=⟨_,rfl⟩
 have hρF:ρ2.F=ρ.F:=by rw[hρ2]
 have hr1:∀j,ρ2 (f j)=ρ' j:=fun j=>by
  have hex:∃j',f j'=f j:=⟨j,rfl⟩
  rw[hρ2]
  show(open Classical in if h:∃j',f j'=f j then ρ' (Classical.choose h) else ρ (f j))=_
  rw[dif_pos hex,hfi _ _ (Classical.choose_spec hex)]
 have hr2:∀i,i ∉ sel→i<s.nx→ρ2 i=ρ i:=fun i hi hn=>by
  rw[hρ2]
  exact dif_neg fun⟨j,hj⟩=>hfx i hi hn j hj
 have hid:∀j,Lc' j→s'.live (f j)∧ρ2 (f j)=ρ' j:=fun j hj=>⟨(hl1 j).2 hj,hr1 j⟩
 have hρ'F:∀b,F b→ρ'.F b:=fun b hb=>(h3.oldF b (hρcF ▸ hb)).1
 have hob:ln=[]→∀b,Occ s'.live ρ2 b→Occ Lc' ρ' b:=fun hn b hb=>by
  rcases hb with hb|⟨i,c,q1,q2⟩
  ·refine .inl (hρ'F b ?_)
   rw[hF]
   exact .inl (hρF ▸ hb)
  ·rcases hcase i with ⟨j,rfl⟩|⟨q3,q4⟩
   ·exact .inr ⟨j,c,(hl1 j).1 q1,(hr1 j).symm.trans q2⟩
   ·refine .inl (hρ'F b ?_)
    rw[hF]
    exact .inr ⟨i,c,(hl2 i q3 q4).1 q1,by rw[hn];simp,q3,(hr2 i q3 q4).symm.trans q2⟩
 have hokr:ln=[]∨r.scl=true:=hok.imp id fun h=>h.1
 have hokb:∀j,ln=[]∨(lk hp' j .dead).scl=true:=fun j=>hok.imp id fun h=>
  qdY (Pr:=fun _ x=>x.scl=true) (z:=B.dead) (fun _=>rfl) (fun i x hx=>qxY.1 h.2 (i,x) hx) j
 have hsz:w.heap.size≤w'.heap.size:=h3.kept.size
 have hst:q3j X w s.live ρ w' s'.live ρ2:=by
  refine⟨hsz,fun b hb hn=>h3.kept.block b hb (fun hOb=>?_),fun b hb hocc'=>?_,fun i hi hli=>?_,fun b hb=>⟨hρF ▸ hb,fun hbl=>h3.kept.block b hbl (fun hOb=>?_)⟩⟩
  ·have hOb':O b:=hOb
   rw[hO] at hOb'
   obtain⟨i,c,q1,q2⟩:=hOb'
   exact hn (.inr ⟨i,c,hsl i q1,q2⟩)
  ·rcases hocc' with q|⟨i,c,q1,q2⟩
   ·exact .inl (hρF ▸ q)
   ·rcases hcase i with ⟨j,rfl⟩|⟨q3,q4⟩
    ·rcases h3.out j b c ((hl1 j).1 q1) ((hr1 j).symm.trans q2) with q5|q5
     ·have q5':O b:=q5
      rw[hO] at q5'
      obtain⟨i',c',q6,q7⟩:=q5'
      exact .inr ⟨i',c',hsl i' q6,q7⟩
     ·have:w.heap.size≤b:=q5
      omega
    ·exact .inr ⟨i,c,(hl2 i q3 q4).1 q1,(hr2 i q3 q4).symm.trans q2⟩
  ·by_cases his:i∈sel
   ·obtain⟨j,hj,rfl⟩:=hfs i his
    have hjk:j<k:=by
     rcases Nat.lt_or_ge j k with q|q
     ·exact q
     ·refine absurd ?_ hi
      rw[hX]
      have:(sel.drop k)[j-k]?=some (f j):=by rw[List.getElem?_drop,show k+(j-k)=j by omega];exact hj
      exact qxI this
    obtain⟨q1,q2⟩:=h3.pin j hjk
    refine⟨(hl1 j).2 ?_,?_⟩
    ·exact B.live_of q2
    ·rw[hr1,q1];exact hρcs hj
   ·exact⟨(hl2 i his (hs.nx i hli)).2 hli,hr2 i his (hs.nx i hli)⟩
  ·have hOb':O b:=hOb
   rw[hO] at hOb'
   obtain⟨i,c,q1,q2⟩:=hOb'
   exact hs.disj i b c (hsl i q1) q2 hb
 have hnsel:∀i b c,s.live i→i ∉ sel→ρ i=some (b,c)→¬ O b:=fun i b c q1 q2 q3 q4=>by
  rw[hO] at q4
  obtain⟨i',c',q5,q6⟩:=q4
  have:=hs.inj i i' b c c' q1 (hsl i' q5) q3 q6
  subst this
  exact q2 q5
 have hOut:∀i b c,s'.live i→ρ2 i=some (b,c)→cx.O b∨cx.w.heap.size≤b:=fun i b c q1 q2=>by
  rcases hcase i with ⟨j,rfl⟩|⟨q3,q4⟩
  ·rcases h3.out j b c ((hl1 j).1 q1) ((hr1 j).symm.trans q2) with q5|q5
   ·have q5':O b:=q5
    rw[hO] at q5'
    obtain⟨i',c',q6,q7⟩:=q5'
    exact hs.out i' b c' (hsl i' q6) q7
   ·have q6:w.heap.size≤b:=q5
    have:=hs.kept.size
    exact .inr (by omega)
  ·exact hs.out i b c ((hl2 i q3 q4).1 q1) ((hr2 i q3 q4).symm.trans q2)
 have hget:∀i,s'.get i=(s.fgL X).get i:=fun i=>by rw[hs',hX];rfl
 rw[←hs',←hf]
 refine⟨ρ2,⟨hs.hd.mono hst.size hst.block hst.occ,?_,fun i=>?_,fun i b c hi hr=>?_,fun i hi hr=>?_,hOut,fun i i' b c c' hi hi' hri hri'=>?_,fun i hi=>?_,?_,fun b hb=>⟨hρF ▸ (hs.oldF b hb).1,(hs.oldF b hb).2⟩,fun i hi=>?_,fun i b c hi hr=>?_,?_⟩,h4.rn hid hob hokr⟩
 ·rw[hs.size,hs']
  show s.n=(s.fgL (sel.drop k)).n
  cases sel.drop k<;>rfl
 ·rw[hget,S.fgL_get]
  split
  ·rename_i hX0
   have:=(hs.tm i).stay (w':=w') (L':=s'.live) (ρ':=ρ2) ⟨hst.size,hst.block,hst.occ,fun i hi=>hst.ids i (by rw[hX0];simp) hi,hst.frm⟩
   exact this
  ·exact(hs.tm i).stayL hst
 ·rcases hcase i with ⟨j,rfl⟩|⟨q3,q4⟩
  ·obtain⟨q5,q6⟩:=h3.hp j b c ((hl1 j).1 hi) ((hr1 j).symm.trans hr)
   rw[hb1]
   exact⟨q5,HB.rn hid hob q6 (hokb j)⟩
  ·have q5:=(hl2 i q3 q4).1 hi
   have q6:=(hr2 i q3 q4).symm.trans hr
   obtain⟨q7,q8⟩:=hs.hp i b c q5 q6
   refine⟨by omega,?_⟩
   have hbb:=h3.kept.block b q7 (hnsel i b c q5 q3 q6)
   rw[hb2 i q3 q4,S.fgL_blk]
   split
   ·rename_i hX0
    exact q8.stay (w':=w') (L':=s'.live) (ρ':=ρ2) ⟨hst.size,hst.block,hst.occ,fun i hi=>hst.ids i (by rw[hX0];simp) hi,hst.frm⟩ hbb
   ·exact q8.stayL hst hbb
 ·rcases hcase i with ⟨j,rfl⟩|⟨q3,q4⟩
  ·obtain⟨e,sz,q5⟩:=h3.hp0 j ((hl1 j).1 hi) ((hr1 j).symm.trans hr)
   have:lk hp' j .dead = .row e sz []:=q5
   exact⟨e,sz,by rw[hb1,this];rfl⟩
  ·obtain⟨e,sz,q5⟩:=hs.hp0 i ((hl2 i q3 q4).1 hi) ((hr2 i q3 q4).symm.trans hr)
   refine⟨e,sz,?_⟩
   rw[hb2 i q3 q4,S.fgL_blk,q5]
   split<;>rfl
 ·have hmix:∀j i',i' ∉ sel→i'<s.nx→s'.live (f j)→s'.live i'→ρ2 (f j)=some (b,c)→∀c',ρ2 i'=some (b,c')→False:=fun j i' q3 q4 q5 q6 q7 c' q8=>by
   have q9:=(hl2 i' q3 q4).1 q6
   have q10:=(hr2 i' q3 q4).symm.trans q8
   rcases h3.out j b c ((hl1 j).1 q5) ((hr1 j).symm.trans q7) with q|q
   ·exact hnsel i' b c' q9 q3 q10 q
   ·have q':w.heap.size≤b:=q
    have:=(hs.hp i' b c' q9 q10).1;omega
  have hmix':∀j i',i' ∉ sel→i'<s.nx→s'.live (f j)→s'.live i'→∀c',ρ2 (f j)=some (b,c')→ρ2 i'=some (b,c)→False:=fun j i' q3 q4 q5 q6 c' q7 q8=>by
   have q9:=(hl2 i' q3 q4).1 q6
   have q10:=(hr2 i' q3 q4).symm.trans q8
   rcases h3.out j b c' ((hl1 j).1 q5) ((hr1 j).symm.trans q7) with q|q
   ·exact hnsel i' b c q9 q3 q10 q
   ·have q':w.heap.size≤b:=q
    have:=(hs.hp i' b c q9 q10).1;omega
  rcases hcase i with ⟨j,rfl⟩|⟨q3,q4⟩<;>rcases hcase i' with ⟨j',rfl⟩|⟨q3',q4'⟩
  ·have:=h3.inj j j' b c c' ((hl1 j).1 hi) ((hl1 j').1 hi') ((hr1 j).symm.trans hri) ((hr1 j').symm.trans hri')
   rw[this]
  ·exact(hmix j i' q3' q4' hi hi' hri c' hri').elim
  ·exact(hmix' j' i q3 q4 hi' hi c' hri' hri).elim
  ·exact hs.inj i i' b c c' ((hl2 i q3 q4).1 hi) ((hl2 i' q3' q4').1 hi') ((hr2 i q3 q4).symm.trans hri) ((hr2 i' q3' q4').symm.trans hri')
 ·have hnx:=q2c (hp'.map (fun x=>(ren sel s.nx x.1,x.2.rn (ren sel s.nx)))++sel.map fun i=>(i,B.dead)) s.nx
  have hs'nx:s'.nx=(hp'.map (fun x=>(ren sel s.nx x.1,x.2.rn (ren sel s.nx)))++sel.map fun i=>(i,B.dead)).foldl (fun m u=>max m (u.1+1)) s.nx:=by
   rw[hs']
   show List.foldl _ (s.fgL (sel.drop k)).nx _=_
   have:(s.fgL (sel.drop k)).nx=s.nx:=by cases sel.drop k<;>rfl
   rw[this]
  rw[hs'nx]
  rcases hcase i with ⟨j,rfl⟩|⟨q3,q4⟩
  ·have hj:(lk hp' j .dead).live=true:=(hl1 j).1 hi
   have hmem:∀hp:List (Nat×B),(lk hp j .dead).live=true→∃x,(j,x)∈hp:=by
    intro hp
    induction hp with
    | nil=>intro h;cases h
    | cons y hp ih=>
     obtain⟨j',x⟩:=y
     intro h
     unfold lk at h
     split at h
     ·rename_i he;subst he;exact⟨x,qxW⟩
     ·obtain⟨x',hx'⟩:=ih h;exact⟨x',qxP _ hx'⟩
   obtain⟨x,hx⟩:=hmem hp' hj
   refine hnx.2 (f j,x.rn f) (qxT _ ?_)
   rw[←hf]
   exact qyr.2 ⟨(j,x),hx,rfl⟩
  ·exact qyh q4 hnx.1
 ·refine⟨h3.kept.os.trans hs.kept.os,h3.kept.tape.trans hs.kept.tape,h3.kept.output.trans hs.kept.output,qyi hs.kept.size hsz,fun b hb hO'=>?_⟩
  refine(h3.kept.block b (qyh hb hs.kept.size) (fun hOb=>?_)).trans (hs.kept.block b hb hO')
  have hOb':O b:=hOb
  rw[hO] at hOb'
  obtain⟨i,c,q1,q2⟩:=hOb'
  rcases hs.out i b c (hsl i q1) q2 with q|q
  ·exact hO' q
  ·omega
 ·obtain⟨q1,q2⟩:=hs.pin i hi
  have hli:s.live i:=B.live_of q2
  by_cases his:i∈sel
  ·obtain⟨j,hj,rfl⟩:=hfs i his
   have hjl:j<G.length:=by rw[hGl];exact(qxL.1 hj).1
   have hjk:j<k:=by
    have h5:=(hGat j).1 (qy7 _) (f j) (by rw[qyz];exact hj)
    have h6:=hpk j hjl
    generalize lk G j .dead=y at h5 h6
    generalize s.blk (f j)=x at h5 q2
    cases h5 with
    | blk _ _ cs' _=>exact of_decide_eq_true h6.symm
    | ob _ _ _=>exact of_decide_eq_true h6.symm
    | row=>cases q2
   obtain⟨q3,q4⟩:=h3.pin j hjk
   refine⟨?_,?_⟩
   ·rw[hr1,q3];exact(hρcs hj).trans q1
   ·rw[hb1,B.rn_isBlk];exact q4
  ·refine⟨(hr2 i his (hs.nx i hli)).trans q1,?_⟩
   rw[hb2 i his (hs.nx i hli),S.fgL_blk]
   split
   ·exact q2
   ·rw[B.fgL_isBlk];exact q2
 ·rw[hρF]
  rcases hcase i with ⟨j,rfl⟩|⟨q3,q4⟩
  ·intro hF'
   refine h3.disj j b c ((hl1 j).1 hi) ((hr1 j).symm.trans hr) (hρ'F b ?_)
   rw[hF];exact .inl hF'
  ·exact hs.disj i b c ((hl2 i q3 q4).1 hi) ((hr2 i q3 q4).symm.trans hr)
 ·refine hs.ows.sub (fun b h=>qyh (hs.ows.lt b (hρF ▸ h)) hsz) fun i j d hw=>?_
  obtain⟨b,c,y,n,c',l1,l2,l3,l4,l5⟩:=hw
  rcases hcase i with ⟨j',rfl⟩|⟨q3,q4⟩
  ·rw[hb1] at l3
   have:=C.noow_is (qxY.1 (B.rn_noow _ f) y (qxI l3))
   rw[l4] at this;cases this
  ·have q5:=(hl2 i q3 q4).1 l1
   have q6:=(hr2 i q3 q4).symm.trans l2
   have q7:=(hs.hp i b c q5 q6).1
   rw[hb2 i q3 q4,S.fgL_blk] at l3
   obtain⟨z,e1,e2⟩:∃z,(s.blk i).cells[j]?=some z∧z.isOw=true:=by
    split at l3
    ·exact⟨y,l3,l4⟩
    ·exact B.fgL_ow l3 l4
   exact⟨b,c,z,n,c',q5,q6,e1,e2,by rw[←l5];exact(World.cell?_of_block (w:=w) (h3.kept.block b q7 (hnsel i b c q5 q3 q6))).symm⟩
theorem Jf.sel {g:FuncId} {rs rs':List R} {G:List (Nat×B)} {k:Nat} {Q:R→List (Nat×B)→Prop} (sel ln:List Nat) (h:AC P g rs' G k Q) (ha:ARs s sel ln rs rs') (hG:GR s sel sel 0 G)
  (hsel:sel.all (fun i=>(s.blk i).live)=true) (hnd:sel.Nodup) (hln:ln.all (fun i=>(s.blk i).live && !sel.contains i)=true) (hk:k≤G.length) (hpk:∀j,j<G.length→(lk G j .dead).isBlk=decide (j<k))
  (hK:∀r hp,Q r hp→okr ln r hp∧K (r.rn (ren sel s.nx)) (s.aft sel k hp)):Jf P s g rs K:=by
 refine⟨h.ent,fun cx ρ a w vs hs hv=>?_⟩
 obtain⟨O,ρc,hsc,hargs,-,hback⟩:=hs.hand sel ln none hG hsel hnd hln hk hpk
 refine(h.call _ ρc w vs rfl rfl rfl rfl hsc (hargs vs rs rs' hv ha)).mono fun e w' ⟨v,r,hp',nx',ρ',h1,h2,h3,h4⟩=>?_
 obtain⟨hok,hKs⟩:=hK r hp' h2
 obtain⟨ρ2,g1,g2⟩:=hback w' r hp' nx' ρ' v h3 hok h4
 exact⟨v,_,_,ρ2,h1,hKs,g1,g2⟩
end
end
noncomputable section
open Go.RowKit
def RA (P:Program) (aq0 bd:Code) (tm:List R) (G:List (Nat×B)) (k:Nat) (Q:R→List (Nat×B)→Prop):Prop:=
 ∀cx ρ w l cap fn vs,cx.w=w→cx.k=k→cx.ρ=ρ→cx.ro=some l→0<k→ρ (k-1)=some (l,cap)→Sim cx ρ (QN G G.length) q5q w→RRs w (QN G G.length).live ρ vs tm→
  RoundIn Fence.wide 0 P l fn vs aq0 bd w fun e w'=>∃v r hp' nx' ρ',e = .returned v∧Q r hp'∧Sim cx ρ' (QN hp' nx') q5q w'∧RR w' (QN hp' nx').live ρ' v r
def q3A:List R→List Nat→List R→List R
 | tm,t::ps,r::rs=>q3A (tm.set t r) ps rs
 | tm,_,_=>tm
section
variable {P:Program} {cx:Cx} {ρ:Pl} {s:S} {a:Act} {w:World} {o:Oper} {K:KK} {next:Act→World→Prop} {Q':Exit→Act→World→Prop}
theorem q8S {L:Nat→Prop}:∀(ps:List Nat) (rs tm:List R) (us:List Value) (vs:Array Value),RRs w L ρ vs tm→us.length=rs.length→(∀j r,rs[j]?=some r→RR w L ρ (us.getD j undef) r)→
  RRs w L ρ ((ps.zip us).foldl (fun tmps x=>tmps.setIfInBounds x.1 x.2) vs) (q3A tm ps rs)
 | [],rs,tm,us,vs,h,_,_=>by simpa [q3A] using h
 | t::ps,[],tm,us,vs,h,hl,_=>by
  have:us=[]:=qy0 (by simpa using hl)
  subst this
  simpa [q3A] using h
 | t::ps,r::rs,tm,us,vs,h,hl,hr=>by
  cases us with
  | nil=>cases hl
  | cons u us=>
   rw[List.zip_cons_cons,qyK]
   refine q8S ps rs (tm.set t r) us _ ⟨by simpa using h.1,fun j x hj=>?_⟩ (by simpa using hl) (fun j x hj=>by have:=hr (j+1) x (by simpa using hj);simpa using this)
   by_cases hjt:t=j
   ·subst hjt
    have hlt:t<tm.length:=by have:=(qxL.1 hj).1;simpa using this
    rw[qyE hlt] at hj
    injection hj with hj
    subst hj
    have h0:=hr 0 _ rfl
    have hv:t<vs.size:=by rw[h.1];exact hlt
    simpa [qxN,hv] using h0
   ·rw[qyF hjt] at hj
    have:=h.2 j x hj
    simpa [qxN,Array.getElem?_setIfInBounds,hjt] using this
theorem qgd (hs:Sim cx ρ s a w) {y:Operand} {args:Array Operand} {ts:Array TypeId} {rid f:Nat} {tm:List R} {ps:List Nat} {aq0 bd:Code} (ho:o.op = .call { callee := .value y,args,argTypes:=ts }) (hy:s.ev y = .c (.hd .yield rid))
  (hb:s.blk rid = .ob (.lp f tm ps aq0 bd .ready none)) (hlen:args.toList.length=ps.length) {rs':List R} {G:List (Nat×B)} {k:Nat} {Q:R→List (Nat×B)→Prop} (sel ln:List Nat) (h:RA P aq0 bd rs' G k Q) (ha:ARs s sel ln (q3A tm ps (args.toList.map s.ev)) rs') (hG:GR s sel sel 0 G)
  (hsel:sel.all (fun i=>(s.blk i).live)=true) (hnd:sel.Nodup) (hln:ln.all (fun i=>(s.blk i).live && !sel.contains i)=true) (hk:k≤G.length) (hpk:∀j,j<G.length→(lk G j .dead).isBlk=decide (j<k)) (hk0:0<k) (hrid:sel[k-1]?=some rid)
  (hK:∀r hp,Q r hp→okr ln r hp∧K (r.rn (ren sel s.nx)) (s.aft sel k hp)) (hn:Qu cx K o a next):o.wpIn (FW cx.ro) 0 P a w next Q':=by
 have hyv:=hs.ev y
 rw[hy] at hyv
 obtain⟨l,cap,h1,h2,h3⟩:=hyv.inv_hd
 have hB:=(hs.hp rid l cap h1 h2).2
 rw[hb] at hB
 obtain⟨rec,e1,e2,e3,e4,e5,e6,e7,e8⟩:=hB
 have hps:(args.map a.eval).size=rec.params.size:=by
  have:rec.params.size=ps.length:=by rw[←e4];simp
  rw[this,←hlen];simp
 obtain⟨vs,hvs⟩:∃vs,vs=(rec.params.zip (args.map a.eval)).foldl (fun tmps (t,a)=>tmps.setIfInBounds t a) rec.tmps:=⟨_,rfl⟩
 have hrun:(execOp a.eval o).run P w = .ok (.round l rec.fn vs aq0 bd) w:=by
  have hy3:a.eval y = .func (.yield l) #[] #[]:=h3
  have hr:=run_yield (P:=P) e1 hps
  unfold execOp
  simp only[ho,resolve,hy3,Deferred.ofValue,Sem.run_bind,Sem.run_pure,Result.andThen_ok,invoke]
  rw[show(#[]:Array Value)++Array.map a.eval args=args.map a.eval by simp,hr,hvs,e5,e6]
 have hrr:RRs w s.live ρ vs (q3A tm ps (args.toList.map s.ev)):=by
  have:=q8S (w:=w) (L:=s.live) (ρ:=ρ) ps (args.toList.map s.ev) tm (args.toList.map a.eval) rec.tmps ⟨e7,e8⟩ (by simp) (fun j r hj=>by
   rw[qxV] at hj
   obtain⟨x,g1,g2⟩:=qxU.1 hj
   subst g2
   rw[List.getD,qxV,g1]
   exact hs.ev x)
  rw[hvs]
  have hz:(rec.params.zip (args.map a.eval)).foldl (fun tmps (t,a)=>tmps.setIfInBounds t a) rec.tmps=(ps.zip (args.toList.map a.eval)).foldl (fun tmps x=>tmps.setIfInBounds x.1 x.2) rec.tmps:=by
   rw[←Array.foldl_toList,Array.toList_zip,e4,Array.toList_map]
  rw[hz];exact this
 refine⟨fun _ _=>trivial,?_⟩
 rw[Oper.semAt_eq _ _ _ (fun c hc=>by rw[ho] at hc;cases hc),hrun,Oper.uponIn_round]
 obtain⟨O,ρc,hsc,hargs,hρ,hback⟩:=hs.hand sel ln (some l) hG hsel hnd hln hk hpk
 have hround:=h _ ρc w l cap rec.fn vs rfl rfl rfl rfl hk0 ((hρ _ _ hrid).trans h2) hsc (hargs _ _ _ hrr ha)
 refine⟨fun h=>(by cases h),RoundIn.mono (F:=FW cx.ro) (show RoundIn (FW cx.ro) (0-1) P l rec.fn vs aq0 bd w _ from hround) ?_⟩
 rintro e w' ⟨v,r,hp',nx',ρ',rfl,hQ,h4,h5⟩
 obtain⟨hok,hKs⟩:=hK r hp' hQ
 obtain⟨ρ2,g1,g2⟩:=hback w' r hp' nx' ρ' v h4 hok h5
 exact hn _ _ ρ2 v w' hKs g1 g2
def S.rf (s:S) (f:Nat) (tm:List R) (ps:List Nat) (aq0 bd:Code):S:=
 { s.up [(s.nx,.ob (.lp f tm ps aq0 bd .ready none))] with tm:=(s.n,.c (.hd .yield s.nx))::s.tm,n:=s.n+1 }
theorem S.rf_blk (s:S) (f:Nat) (tm:List R) (ps:List Nat) (aq0 bd:Code) (i:Nat):(s.rf f tm ps aq0 bd).blk i=if s.nx=i then .ob (.lp f tm ps aq0 bd .ready none) else s.blk i:=rfl
def q4A (a:Act) (D l:Nat):Act:={ tmps:=a.tmps.push (HK.yield.val l),defers:=q9z D::a.defers }
theorem Sim.rf (hs:Sim cx ρ s a w) {f:Nat} {tm:List R} {ps:Array Tmp} {aq0 bd:Code} {fn:FuncId} (htm:tm.length=s.n∧∀i r,tm[i]?=some r→r = .any∨r=s.get i) {w1:World}
  (hw1:w1=(w.alloc (.deferred (some []))).alloc (.loop { state := .ready,pending:=none,fn,tmps:=a.tmps,params:=ps,assign:=aq0,body:=bd,defers:=w.heap.size })) :
  ∃ρ1,Sim cx ρ1 (s.rf f tm ps.toList aq0 bd) (q4A a w.heap.size (w.heap.size+1)) w1:=by
 have hs0:=hs.other (.deferred (some []))
 have hno:¬ Occ s.live ρ w.heap.size:=hs.not_occ (qxX _)
 have hnl:¬ s.live s.nx:=fun h=>by have:=hs.nx _ h;omega
 have hst:=q0i (w:=w.alloc (.deferred (some []))) (ρ:=ρ) (x := .ob (.lp f tm ps.toList aq0 bd .ready none)) hnl (.loop { state := .ready,pending:=none,fn,tmps:=a.tmps,params:=ps,assign:=aq0,body:=bd,defers:=w.heap.size }) 0
 rw[←hw1] at hst
 have hsz0:(w.alloc (.deferred (some []))).heap.size=w.heap.size+1:=by simp
 have hnew:=hs0.new (cap:=0) hnl (x := .ob (.lp f tm ps.toList aq0 bd .ready none)) (o := .loop { state := .ready,pending:=none,fn,tmps:=a.tmps,params:=ps,assign:=aq0,body:=bd,defers:=w.heap.size })
  ⟨_,heap_alloc_new _ _,rfl,rfl,rfl,rfl,rfl,by rw[htm.1];exact hs.size,fun j x hj=>by
   rcases htm.2 j x hj with h|h
   ·rw[h];exact .any _
   ·rw[h,←hw1];exact(hs0.tm j).stay hst⟩
 rw[←hw1,hsz0] at hnew
 rw[hsz0] at hst
 refine⟨_,⟨?_,by simp[q4A,hnew.size,S.rf,S.up],fun i=>?_,hnew.hp,hnew.hp0,hnew.out,hnew.inj,hnew.nx,hnew.kept,hnew.oldF,hnew.pin,hnew.disj,⟨hnew.ows.lt,hnew.ows.one,hnew.ows.new⟩⟩⟩
 ·obtain⟨⟨Ds,d1,d2,d3⟩⟩:=hs.hd
  obtain⟨⟨Ds',d1',d2',d3'⟩⟩:=hnew.hd
  have hds:Ds'=Ds:=by
   rw[d1] at d1'
   have hm:∀(l l':List Nat),l.map q9z=l'.map q9z→l'=l:=by
    intro l
    induction l with
    | nil=>intro l' hl;cases l' with|nil=>rfl|cons x l'=>cases hl
    | cons y l ih=>
     intro l' hl
     cases l' with
     | nil=>cases hl
     | cons x l'=>
      simp only[qy4,List.cons.injEq,q9z,Deferred.mk.injEq,Target.collected.injEq,and_true] at hl
      rw[ih l' hl.2,hl.1]
   exact hm _ _ d1'
  subst hds
  refine⟨⟨w.heap.size::Ds',by simp[q4A,d1],List.nodup_cons.2 ⟨fun h=>by have:=(d3 _ h).2.1;omega,d2⟩,fun D hD=>?_⟩⟩
  rcases qy3.1 hD with rfl|hD
  ·refine⟨hs.kept.size,by rw[hw1];simp only[World.size_alloc];omega,fun h=>hno (hst.occ _ (by simp) h),?_⟩
   rw[hw1]
   exact(Below.heap_alloc _ _ _ (by simp)).trans (heap_alloc_new w _)
  ·exact d3' D hD
 ·show RR w1 _ _ ((a.tmps.push (HK.yield.val (w.heap.size+1))).getD i undef) (lk ((s.n,R.c (.hd .yield s.nx))::s.tm) i .any)
  unfold lk
  by_cases hi:s.n=i
  ·subst hi
   rw[if_pos rfl]
   have:(a.tmps.push (HK.yield.val (w.heap.size+1))).getD s.n undef=HK.yield.val (w.heap.size+1):=by rw[←hs.size];simp[qxN]
   rw[this]
   exact .c _ _ (.hd .yield s.nx (w.heap.size+1) 0 (by unfold S.live;rw[S.rf_blk,if_pos rfl];rfl) (if_pos rfl))
  ·rw[if_neg hi]
   have:(a.tmps.push (HK.yield.val (w.heap.size+1))).getD i undef=a.tmps.getD i undef:=by
    simp only[qxN,Array.getElem?_push]
    rw[if_neg (by rw[hs.size];exact fun h=>hi h.symm)]
   rw[this]
   exact hnew.tm i
def S.rfx (s:S) (n rid:Nat) (o:AO):S:={ s.up [(rid,.ob o)] with tm:=(n,.any)::s.tm,n:=n }
theorem qo8 (l:List (Nat×R)) (n i:Nat) (h:i≠n):lk ((n,R.any)::l) i .any=lk l i .any:=by
 show(if n=i then R.any else lk l i .any)=_
 rw[if_neg (Ne.symm h)]
theorem Sim.rfx {D l:Nat} (hs:Sim cx ρ s (q4A a D l) w) {n rid b cap:Nat} (hn:a.tmps.size=n) (h1:s.live rid) (h2:ρ rid=some (b,cap)) {o:AO} {O:Obj}
  (hO:q2V w s.live ρ (w.putObj b O) (s.up [(rid,.ob o)]).live ρ→(w.putObj b O).heap[b]?=some O→HO (w.putObj b O) (s.up [(rid,.ob o)]).live ρ b o):Sim cx ρ (s.rfx n rid o) { a with defers:=q9z D::a.defers } (w.putObj b O):=by
 have h:=hs.overO h1 h2 hO
 refine⟨h.hd,by simp[S.rfx,hn],fun i=>?_,h.hp,h.hp0,h.out,h.inj,h.nx,h.kept,h.oldF,h.pin,h.disj,⟨h.ows.lt,h.ows.one,h.ows.new⟩⟩
 show RR _ _ ρ (a.tmps.getD i undef) (lk ((n,R.any)::s.tm) i .any)
 by_cases hi:i=n
 ·subst hi
  unfold lk
  rw[if_pos rfl]
  exact .any _
 ·rw[qo8 _ _ _ hi]
  have h3:=h.tm i
  have:(q4A a D l).tmps.getD i undef=a.tmps.getD i undef:=by
   simp only[q4A,qxN,Array.getElem?_push]
   rw[if_neg (by rw[hn];exact hi)]
  rw[this] at h3
  exact h3
def qnK (Q:Exit→S→Prop) (s:S):Option Code→Prop
 | none=>Q .normal s
 | some .ret=>Q .ret s
 | some (.exit i)=>Q (.exit i) s
 | _=>False
theorem J.rangeFunc {g:Operand} {ps:Array Tmp} {aq0 bd:Code} {f:Nat} {tm:List R} {g':FuncId} {fs caps:List C} {Q:Exit→S→Prop} (hro:cx.ro=none) (hg:s.ev g = .c (.fn g' fs caps)) (htm:tm.length=s.n∧∀i r,tm[i]?=some r→r = .any∨r=s.get i)
  (hc:Jf P (s.rf f tm ps.toList aq0 bd) g' (fs.map R.c++[.c (.hd .yield s.nx)]++caps.map R.c) K)
  (hK:∀r s2,K r s2→∃rid f' tm' ps' aq0' bd' st pd,s2.get s.n = .c (.hd .yield rid)∧s2.blk rid = .ob (.lp f' tm' ps' aq0' bd' st pd)∧st ≠ .busy∧qnK Q (s2.rfx s.n rid (.lp f' tm' ps' aq0' bd' .exhausted pd)) pd):J P cx (.rangeFunc g ps aq0 bd) Q s:=fun ρ a w hs=>by
 refine wpIn_rangeFunc (F:=FW cx.ro) fun fn _=>?_
 obtain⟨w1,hw1⟩:∃w1,w1=(w.alloc (.deferred (some []))).alloc (.loop { state := .ready,pending:=none,fn,tmps:=a.tmps,params:=ps,assign:=aq0,body:=bd,defers:=w.heap.size }):=⟨_,rfl⟩
 obtain⟨ρ1,hs1⟩:=hs.rf (f:=f) htm hw1
 obtain⟨⟨fnc,e1,e2,e3⟩,hcall⟩:=hc
 have hgv:=hs.ev g
 rw[hg] at hgv
 obtain⟨us,vs,q1,q2,q3,q4,q5⟩:=hgv.inv_fn
 -- the function's value, in the new state
 have hst1:∀{L L':Nat→Prop} {ρ':Pl} {x:C} {v:Value},q2V w s.live ρ w1 L' ρ'→RC w s.live ρ v x→RC w1 L' ρ' v x:=fun h hx=>hx.stay h
 have hg1:=hs1.ev g
 have hev:(q4A a w.heap.size (w.heap.size+1)).eval g=a.eval g∧(s.rf f tm ps.toList aq0 bd).ev g=s.ev g:=by
  cases g with
  | tmp t=>
   have hlt:t≠s.n:=fun h=>by
    subst h
    have h0:=hgv
    have:a.eval (.tmp s.n)=undef:=by
     show a.tmps.getD s.n undef=undef
     rw[←hs.size];simp[qxN]
    rw[this] at q1
    cases q1
   refine⟨?_,?_⟩
   ·show(a.tmps.push _).getD t undef=a.tmps.getD t undef
    simp only[qxN,Array.getElem?_push]
    rw[if_neg (by rw[hs.size];exact hlt)]
   ·show lk ((s.n,_)::s.tm) t .any=lk s.tm t .any
    show(if s.n=t then _ else lk s.tm t .any)=_
    rw[if_neg (Ne.symm hlt)]
  | _=>exact⟨rfl,rfl⟩
 rw[hev.1,hev.2,hg] at hg1
 obtain⟨us',vs',p1,p2,p3,p4,p5⟩:=hg1.inv_fn
 have huv:us'=us∧vs'=vs:=by rw[q1] at p1;injection p1 with _ p1 p2;exact⟨p1.symm,p2.symm⟩
 obtain⟨rfl,rfl⟩:=huv
 have hy:RRs w1 (s.rf f tm ps.toList aq0 bd).live ρ1 #[.func (.yield (w.heap.size+1)) #[] #[]] [.c (.hd .yield s.nx)]:=by
  refine⟨rfl,fun j r hj=>?_⟩
  match j,hj with
  | 0,hj=>
   simp only[qxR,qyw] at hj
   subst hj
   have h0:=hs1.tm s.n
   have h3:(s.rf f tm ps.toList aq0 bd).get s.n = .c (.hd .yield s.nx):=by
    show lk ((s.n,_)::s.tm) s.n .any=_
    unfold lk;rw[if_pos rfl]
   have h4:(q4A a w.heap.size (w.heap.size+1)).tmps.getD s.n undef = .func (.yield (w.heap.size+1)) #[] #[]:=by
    rw[←hs.size];simp[q4A,qxN,HK.val]
   rw[h3,h4] at h0
   exact h0
  | j+1,hj=>simp at hj
 have hargs:=q1g (q1g (q2v p2 p3) hy) (q2v p4 p5)
 have hcl:=hcall cx ρ1 _ w1 _ hs1 hargs
 refine⟨w.heap.size+1,[q9z w.heap.size],w1,{ target := .fn (.func g') vs',args:=us' ++ #[.func (.yield (w.heap.size+1)) #[] #[]] },w1,g',us' ++ #[.func (.yield (w.heap.size+1)) #[] #[]]++vs',w1,?_,?_,fun _ _=>trivial,?_,fun h=>(by cases h),?_⟩
 ·rw[hw1]
  show(Instr.enterLoop fn a.tmps ps aq0 bd cx.ro).run P w=_
  rw[hro]
  exact run_enterLoop_outer fn a.tmps ps aq0 bd
 ·simp only[resolve,q1,Deferred.ofValue,Sem.run_pure,List.map_toArray,qy4,List.map_nil]
  rfl
 ·simp only[invoke,callFunc,program,Sem.run_bind,Sem.run,Result.andThen_ok,e1,e2,e3,Bool.false_eq_true,if_false,Sem.run_pure]
 ·refine callsIn_wide.2 (hcl.mono fun e w' ⟨v,r,s2,ρ2,h3,h4,h5,h6⟩=>?_)
  subst h3
  obtain⟨rid,f',tm',ps',aq0',bd',st,pd,k1,k2,k3,k4⟩:=hK r s2 h4
  have hsl:=h5.tm s.n
  rw[k1] at hsl
  have hv4:(q4A a w.heap.size (w.heap.size+1)).tmps.getD s.n undef = .func (.yield (w.heap.size+1)) #[] #[]:=by
   rw[←hs.size];simp[q4A,qxN,HK.val]
  rw[hv4] at hsl
  obtain⟨b,cap,m1,m2,m3⟩:=hsl.inv_hd
  have hbl:b=w.heap.size+1:=by
   simp only[HK.val,Value.func.injEq,Fn.yield.injEq] at m3
   exact m3.1.symm
  subst hbl
  have hB:=(h5.hp rid _ cap m1 m2).2
  rw[k2] at hB
  obtain⟨rec,t1,t2,t3,t4,t5,t6,t7,t8⟩:=hB
  have hS:=h5.rfx (o := .lp f' tm' ps' aq0' bd' .exhausted pd) (O := .loop { rec with state := .exhausted,pending:=pd }) hs.size m1 m2 (fun hst hO=>⟨_,hO,rfl,rfl,t4,t5,t6,t7,fun j x hj=>(t8 j x hj).stay hst⟩)
  refine⟨rec.pending,_,run_endLoop t1 (by rw[t2];exact k3),?_⟩
  rw[t3]
  unfold qnK at k4
  split at k4
  ·exact⟨_,ρ2,k4,hS⟩
  ·exact wpIn_ret ⟨_,ρ2,k4,hS⟩
  ·exact wpIn_exit ⟨_,ρ2,k4,hS⟩
  ·cases k4
end
end
noncomputable section
open Go.RowKit Go.WideShapes Go.ChangeShapes
def QO (P:Program):Nat→TypeId→List D→Prop
 | 0,_,_=>False
 | n+1,t,ds=>
  match P.underlying t with
  | some (.int k)=>∃z,ds=[.int k z]∧(Lit.int k z).wf=true
  | some .bool=>∃b,ds=[.bool b]
  | some .string=>∃s,ds=[.str s]∧s.size≤maxLen
  | some (.slice e)=>∃m es,ds=[.sl (P.cellsOf e) m es]∧m≤maxLen∧es.length=m*P.cellsOf e∧∀i,i<m→QO P n e ((es.drop (i*P.cellsOf e)).take (P.cellsOf e))
  | some (.array k e)=>ds.length=P.cellsOf t∧∀i,i<k→QO P n e ((ds.drop (i*P.cellsOf e)).take (P.cellsOf e))
  | some (.struct fs)=>ds.length=P.cellsOf t∧∀f∈fs.toList,QO P n f.type ((ds.drop f.offset).take (P.cellsOf f.type))
  | _=>False
def tl (P:Program):Nat→List (Nat×TypeId)→Nat→Bool
 | o,[],e=>o==e
 | o,(f,t)::l,e=>f==o&&tl P (o+P.cellsOf t) l e
def qv1 (P:Program) (l:List TypeId):Bool:=l.all fun t=>
 match P.underlying t with
 | some (.int _)|some .bool|some .string=>true
 | some (.slice e)=>l.contains e&&decide (0<P.cellsOf e)
 | some (.array k e)=>l.contains e&&tl P 0 ((List.range k).map fun i=>(i*P.cellsOf e,e)) (P.cellsOf t)
 | some (.struct fs)=>fs.toList.all (fun f=>l.contains f.type)&&tl P 0 (fs.toList.map fun f=>(f.offset,f.type)) (P.cellsOf t)
 | _=>false
def PV (w:World) (cs:List Value) (ds:List D):Prop:=cs.length=ds.length∧∀(j:Nat) (v:Value) (d:D),cs[j]?=some v→ds[j]?=some d→RD w (fun _=>False) v d
theorem qlD {P:Program}:∀{l:List (Nat×TypeId)} {o e:Nat},tl P o l e=true→o≤e
 | [],o,e,h=>by have:o=e:=eq_of_beq h;omega
 | (f,t)::l,o,e,h=>by
  have:=qlD ((qyd _ _).mp h).2
  omega
theorem qpY {P:Program} {w:World} {Tt:TypeId→List D→Prop}:∀(l:List (Nat×TypeId)) (o e:Nat) (cs:List Value),tl P o l e=true→cs.length=e→
  (∀f∈l,∃ds,PV w ((cs.drop f.1).take (P.cellsOf f.2)) ds∧Tt f.2 ds)→∃ds:List D,PV w (cs.drop o) ds∧∀f∈l,o≤f.1∧Tt f.2 ((ds.drop (f.1-o)).take (P.cellsOf f.2))
 | [],o,e,cs,h,hl,_=>by
  have:o=e:=eq_of_beq h
  exact⟨[],⟨by simp;omega,fun j v d _ h=>by simp at h⟩,fun f hf=>by simp at hf⟩
 | (f,t)::l,o,e,cs,h,hl,hf=>by
  obtain⟨h1,h2⟩:=(qyd _ _).mp h
  have h1':f=o:=eq_of_beq h1
  subst h1'
  obtain⟨ds0,⟨g1,g2⟩,g3⟩:=hf (f,t) qxW
  obtain⟨ds1,⟨g4,g5⟩,g6⟩:=qpY l (f+P.cellsOf t) e cs h2 hl (fun x hx=>hf x (qxP _ hx))
  have hle:=qlD h2
  have hc:ds0.length=P.cellsOf t:=by rw[←g1,qya,qyt];simp only;omega
  refine⟨ds0++ds1,⟨?_,fun j v d hv hd=>?_⟩,fun x hx=>?_⟩
  ·rw[qxO,hc,←g4,qyt,qyt];omega
  ·by_cases hj:j<P.cellsOf t
   ·rw[qyk (by omega)] at hd
    refine g2 j v d ?_ hd
    rw[qyg hj];exact hv
   ·rw[qyj (by omega),hc] at hd
    refine g5 (j-P.cellsOf t) v d ?_ hd
    rw[List.getElem?_drop] at hv ⊢
    rw[show f+P.cellsOf t+(j-P.cellsOf t)=f+j by omega];exact hv
  ·rcases qy3.1 hx with rfl|hx
   ·refine⟨qxX _,?_⟩
    rw[Nat.sub_self,List.drop_zero,←hc,List.take_left']
    ·exact g3
    ·rfl
   ·obtain⟨g7,g8⟩:=g6 x hx
    refine⟨by omega,?_⟩
    rw[show x.1-f=ds0.length+(x.1-(f+P.cellsOf t)) by omega,List.drop_length_add_append]
    exact g8
section
variable {H:Type} {enc:TypeId×Value→H} {P:Program} {w:World} {base:Nat} {spare:Nat→Bool} {held:Bool}
theorem q6J {l:List TypeId} (hl:qv1 P l=true):∀(n:Nat) (t:TypeId) (cs:List Value) (x:DataW H×List MemPlace),t∈l→DataW.trod enc P w base spare held n t cs=some x→∃ds,PV w cs ds∧QO P n t ds
 | 0,t,cs,x,_,h=>by simp[DataW.trod] at h
 | n+1,t,cs,x,hm,h=>by
  have h0:=qxY.1 hl t hm
  have hone:∀(v:Value) (d:D),RD w (fun _=>False) v d→PV w [v] [d]:=fun v d hd=>⟨rfl,fun j v' d' h1 h2=>by
   cases j with
   | zero=>simp only[qxR,qyw] at h1 h2;subst h1 h2;exact hd
   | succ j=>simp at h1⟩
  unfold QO
  split at h0
  ·rename_i k hu
   obtain⟨z,rfl,-,hw⟩:=DataW.trod_int hu h
   exact⟨_,hone _ _ (.int k z),z,rfl,hw⟩
  ·rename_i hu
   obtain⟨b,rfl,-⟩:=DataW.trod_bool hu h
   exact⟨_,hone _ _ (.bool b),b,rfl⟩
  ·rename_i hu
   obtain⟨s,rfl,-,hw⟩:=DataW.trod_string hu h
   exact⟨_,hone _ _ (.str s),s,rfl,hw⟩
  ·rename_i e hu
   simp only[qyd,List.contains_eq_mem,qyG] at h0
   obtain⟨he,hc⟩:=h0
   rcases DataW.trod_slice hu h with ⟨rfl,-⟩|⟨a,len,cap,elems,rest,n',hn,rfl,-,hb,hlc,hcm,hlen,hel,-,-⟩
   ·exact⟨_,hone _ _ (.nil none 0 (P.cellsOf e) (qy7 _) (fun _=>rfl)),0,[],rfl,qy7 _,by simp,fun i hi=>by omega⟩
   ·have hn':n'=n:=by omega
    subst hn'
    have hcell:∀i,i<len→∃cs' y,w.cells? base (a.add (i*P.cellsOf e)) (P.cellsOf e)=some cs'∧DataW.trod enc P w base spare held n' e cs'=some y:=fun i hi=>by
     have h1:=hel i hi
     rw[qxJ (by omega)] at h1
     obtain⟨cs',h2,h3⟩:=qxM.1 h1
     exact⟨cs',_,h2,h3⟩
    by_cases hlen0:len=0
    ·subst hlen0
     exact⟨_,hone _ _ (.nil (some a) cap (P.cellsOf e) hcm (fun h=>by cases h)),0,[],rfl,qy7 _,by simp,fun i hi=>by omega⟩
    ·obtain⟨b,off,spot⟩:=a
     have hspot:spot=none:=by
      obtain⟨cs',y,h2,-⟩:=hcell 0 (by omega)
      obtain⟨-,h4,h5⟩:=World.cells?_some h2
      have h6:=h5 0 hc
      rw[qxJ (by omega)] at h6
      simpa [Addr.add] using World.cell?_spot h6
     subst hspot
     obtain⟨all,hall⟩:∃all:List Value,all=(List.range (len*P.cellsOf e)).map fun j=>(w.cell? ⟨b,off+j,none⟩).getD undef:=⟨_,rfl⟩
     have hal:all.length=len*P.cellsOf e:=by rw[hall];simp
     have hsub:∀i,i<len→∀cs',w.cells? base ((⟨b,off,none⟩:Addr).add (i*P.cellsOf e)) (P.cellsOf e)=some cs'→(all.drop (i*P.cellsOf e)).take (P.cellsOf e)=cs'∧∀j,j<P.cellsOf e→w.cell? ⟨b,off+(i*P.cellsOf e+j),none⟩=cs'[j]?:=fun i hi cs' h2=>by
      obtain⟨-,h4,h5⟩:=World.cells?_some h2
      have hib:(i+1)*P.cellsOf e≤len*P.cellsOf e:=Nat.mul_le_mul_right _ hi
      rw[Nat.add_mul,Nat.one_mul] at hib
      have hcj:∀j,j<P.cellsOf e→w.cell? ⟨b,off+(i*P.cellsOf e+j),none⟩=cs'[j]?:=fun j hj=>by
       have:=h5 j hj
       rw[QC,QC,qyA] at this
       exact this
      refine⟨List.ext_getElem? fun j=>?_,hcj⟩
      by_cases hj:j<P.cellsOf e
      ·rw[qyg hj,List.getElem?_drop,hall,qxV,List.getElem?_range (by omega)]
       simp only[Option.map_some]
       rw[hcj j hj,qxJ (by omega)]
       rfl
      ·rw[qyf (by rw[qya];omega),qyf (by omega)]
     have htl:∀m,m≤len→tl P ((len-m)*P.cellsOf e) (((List.range len).drop (len-m)).map fun i=>(i*P.cellsOf e,e)) (len*P.cellsOf e)=true:=by
      intro m
      induction m with
      | zero=>intro _;rw[qyz,List.drop_of_length_le (by simp)];simp[tl]
      | succ m ih=>
       intro hm'
       rw[List.drop_eq_getElem_cons (by simp;omega)]
       simp only[List.getElem_range,qy4,tl,beq_self_eq_true,qye]
       have:=ih (by omega)
       rw[show len-m=len-(m+1)+1 by omega] at this
       rw[Nat.add_mul,Nat.one_mul] at this
       exact this
     have htl0:=htl len (qxX _)
     rw[Nat.sub_self,Nat.zero_mul,List.drop_zero] at htl0
     obtain⟨es,hes1,hes2⟩:=qpY (w:=w) (Tt:=QO P n') _ 0 (len*P.cellsOf e) all htl0 hal (fun f hf=>by
      obtain⟨i,hi,rfl⟩:=qyr.1 hf
      have hi':i<len:=by simpa using hi
      obtain⟨cs',y,h2,h3⟩:=hcell i hi'
      obtain⟨ds,g1,g2⟩:=q6J hl n' e cs' y he h3
      exact⟨ds,by simp only;rw[(hsub i hi' cs' h2).1];exact g1,g2⟩)
     rw[List.drop_zero] at hes1
     have hel':es.length=len*P.cellsOf e:=by rw[←hes1.1,hal]
     have hsome:∀j,j<len*P.cellsOf e→∃v,w.cell? ⟨b,off+j,none⟩=some v∧all[j]?=some v:=fun j hj=>by
      have hdiv:j / P.cellsOf e<len:=Nat.div_lt_of_lt_mul (by rw[Nat.mul_comm];exact hj)
      obtain⟨cs',y,h2,-⟩:=hcell _ hdiv
      obtain⟨-,h4,-⟩:=World.cells?_some h2
      have h5:=(hsub _ hdiv cs' h2).2 (j % P.cellsOf e) (Nat.mod_lt _ hc)
      rw[show j / P.cellsOf e*P.cellsOf e+j % P.cellsOf e=j by rw[Nat.mul_comm];exact Nat.div_add_mod j _] at h5
      rw[qxJ (by rw[h4];exact Nat.mod_lt _ hc)] at h5
      refine⟨_,h5,?_⟩
      rw[hall,qxV,List.getElem?_range hj]
      simp only[Option.map_some]
      rw[h5];rfl
     refine⟨[.sl (P.cellsOf e) len es],hone _ _ ?_,len,es,rfl,by omega,hel',fun i hi=>?_⟩
     ·refine .sl b off len cap (P.cellsOf e) es (fun j=>all.getD j undef) hel' hlc hcm ?_ (fun h=>h) (fun j c hj=>?_) (fun j c hj=>?_)
      ·obtain⟨v,hv,-⟩:=hsome 0 (Nat.mul_pos (by omega) hc)
       rcases Nat.lt_or_ge b w.heap.size with hb' | hb'
       ·exact hb'
       ·simp[World.cell?,Array.getElem?_eq_none hb'] at hv
      ·have hj':j<len*P.cellsOf e:=by rw[←hel'];exact(qxL.1 hj).1
       obtain⟨v,h5,h6⟩:=hsome j hj'
       rw[h5,List.getD,h6];rfl
      ·have hj':j<len*P.cellsOf e:=by rw[←hel'];exact(qxL.1 hj).1
       obtain⟨v,h5,h6⟩:=hsome j hj'
       rw[List.getD,h6]
       exact hes1.2 j v c h6 hj
     ·have:=(hes2 (i*P.cellsOf e,e) (qyr.2 ⟨i,by simpa using hi,rfl⟩)).2
      rw[qyz] at this
      exact this
  ·rename_i k e hu
   simp only[qyd,List.contains_eq_mem,qyG] at h0
   obtain⟨he,ht⟩:=h0
   obtain⟨xs,m,hn,-,h1,h2,h3⟩:=DataW.trod_array hu h
   have hn':m=n:=by omega
   subst hn'
   obtain⟨ds,g1,g2⟩:=qpY (w:=w) (Tt:=QO P m) _ 0 (P.cellsOf t) cs ht h1 (fun f hf=>by
    obtain⟨i,hi,rfl⟩:=qyr.1 hf
    have hi':i<k:=by simpa using hi
    have h4:=h3 i hi'
    rw[qxJ (by omega)] at h4
    exact q6J hl m e _ _ he h4)
   rw[List.drop_zero] at g1
   refine⟨ds,g1,by rw[←g1.1,h1],fun i hi=>?_⟩
   have:=(g2 (i*P.cellsOf e,e) (qyr.2 ⟨i,by simpa using hi,rfl⟩)).2
   rw[qyz] at this
   exact this
  ·rename_i fs hu
   simp only[qyd] at h0
   obtain⟨he,ht⟩:=h0
   obtain⟨xs,m,hn,-,h1,h2,h3⟩:=DataW.trod_struct hu h
   have hn':m=n:=by omega
   subst hn'
   obtain⟨ds,g1,g2⟩:=qpY (w:=w) (Tt:=QO P m) _ 0 (P.cellsOf t) cs ht h1 (fun f hf=>by
    obtain⟨f',hf',rfl⟩:=qyr.1 hf
    have hm':f'.type∈l:=by have:=qxY.1 he f' hf';simpa using this
    obtain⟨i,hi⟩:=List.getElem?_of_mem hf'
    have hi2:fs[i]?=some f':=by simpa using hi
    have h4:=h3 i f' hi2
    have hlt:i<xs.length:=by rw[h2];exact(Array.getElem?_eq_some_iff.1 hi2).1
    rw[qxJ hlt] at h4
    exact q6J hl m f'.type _ _ hm' h4)
   rw[List.drop_zero] at g1
   refine⟨ds,g1,by rw[←g1.1,h1],fun f hf=>?_⟩
   have:=(g2 (f.offset,f.type) (qyr.2 ⟨f,hf,rfl⟩)).2
   rw[qyz] at this
   exact this
  ·cases h0
end
end
noncomputable section
open Go.RowKit
section
variable {P:Program} {T:Ty} {cx:Cx} {s:S} {l:List Oper} {Q:Exit→S→Prop}
theorem wi (n:Int) (h0 : -9223372036854775808≤n) (h1:n≤9223372036854775807):IntKind.i64.wrap n=n:=by
 have:IntKind.i64.min = -9223372036854775808:=by decide
 have:IntKind.i64.max=9223372036854775807:=by decide
 simp only[IntKind.wrap,IntKind.bits,IntKind.signed]
 simp
 omega
end
end
noncomputable section
open Go.RowKit
abbrev RS:=Option (R×S)
inductive Fx where
 | fn (f:FuncId)
 | rd (f:FuncId) (aq0 bd:Code)
abbrev Orc:=Fx→Nat→List R→List (Nat×B)→Option (R×List (Nat×B))
def qg6 (s:S) (c x y:Operand):RS:=
 match s.ev c with
 | .c (.d (.bool t))=>if t=true then some (s.ev x,s) else some (s.ev y,s)
 | _=>none
def q5T (T:Ty) (s:S) (t:TypeId) (x:Operand):RS:=
 match s.ev x with
 | .c (.ptr id off)=>(ld T (s.blk id).cells off t).bind fun r=>some (r,s)
 | .c (.eptr cs off)=>(ld T (cs.map C.d) off t).bind fun r=>some (r,s)
 | _=>none
def q9p (T:Ty) (s:S) (t:TypeId):RS:=
 match T.k t with
 | .other=>none
 | _=>some (.c (.ptr s.nx 0),s.up [(s.nx,.blk t (T.zero t))])
def qqp (s:S) (t:TypeId) (x:Operand):RS:=
 match (s.ev x).cells with
 | some cs=>if cs.all C.known=true then some (.c (.ptr s.nx 0),s.up [(s.nx,.blk t cs)]) else none
 | none=>none
def q0l (T:Ty) (s:S) (t:TypeId) (x y:Operand):RS:=
 match s.ev x with
 | .c (.ptr id off)=>
  match (s.ev y).cells with
  | some ys=>if ys.all C.known=true∧T.k t ≠ .other∧ys.length=T.sz t∧off+ys.length≤(s.blk id).cells.length∧(s.blk id).isOb=false then some (.any,s.up [(id,(s.blk id).set off ys)]) else none
  | none=>none
 | _=>none
def JW (T:Ty) (s:S) (t:TypeId) (x:Operand) (f:Nat):RS:=
 match T.foff t f with
 | some (fo,ft)=>
  if T.k ft ≠ .other∧T.sz ft≠0 then
   match s.ev x with
   | .c (.ptr id off)=>some (.c (.ptr id (off+fo)),s)
   | .c (.eptr cs off)=>some (.c (.eptr cs (off+fo)),s)
   | _=>none
  else none
 | none=>none
def q1h (T:Ty) (s:S) (t:TypeId) (x y:Operand):RS:=
 match s.ev y,s.ev x,T.k t with
 | .c (.d (.int _ i)),.c (.d (.sl sz n cs)),.sl e=>if T.k e ≠ .other∧T.sz e=sz then(if 0≤i∧i<n then some (.c (.eptr cs (i.toNat*sz)),s) else none) else none
 | .c (.d (.int _ i)),.c (.own id sz off n),.sl e=>if T.k e ≠ .other∧T.sz e=sz then(if 0≤i∧i<n then some (.c (.ptr id ((off+i.toNat)*sz)),s) else none) else none
 | .c (.d (.int _ i)),.c (.ptr id off),.arr n e=>if T.k e ≠ .other then(if 0≤i∧i<n then some (.c (.ptr id (off+i.toNat*T.sz e)),s) else none) else none
 | _,_,_=>none
def q3U (s:S) (x:Operand) (i:Nat):RS:=
 match s.ev x with
 | .tup rs=>(rs[i]?).bind fun r=>some (r,s)
 | _=>none
def q0P (s:S) (x:Operand):RS:=
 match s.ev x with
 | .c (.ptr id off)=>some (.c (.ptr id off),s)
 | .c (.eptr cs off)=>some (.c (.eptr cs off),s)
 | .c (.fn f fs caps)=>some (.c (.fn f fs caps),s)
 | _=>none
def q9K (op:BinOp) (k:IntKind) (a b:Int):Option D:=
 match op with
 | .add=>some (.int k (k.wrap (a+b)))
 | .sub=>some (.int k (k.wrap (a-b)))
 | .mul=>some (.int k (k.wrap (a*b)))
 | .quo=>if b=0 then none else some (.int k (k.wrap (a.tdiv b)))
 | .rem=>if b=0 then none else some (.int k (a.tmod b))
 | .and=>some (.int k (q3l .and k a b))
 | .or=>some (.int k (q3l .or k a b))
 | .xor=>some (.int k (q3l .xor k a b))
 | .andNot=>some (.int k (q3l .andNot k a b))
 | .eql=>some (.bool (a==b))
 | .neq=>some (.bool (a != b))
 | .lss=>some (.bool (decide (a<b)))
 | .leq=>some (.bool (decide (a≤b)))
 | .gtr=>some (.bool (decide (b<a)))
 | .geq=>some (.bool (decide (b≤a)))
 | .shl=>if 0≤b then some (.int k (k.wrap (a*2 ^ min b.toNat k.bits))) else none
 | .shr=>if 0≤b then some (.int k (a.fdiv (2 ^ min b.toNat k.bits))) else none
def qmy (op:BinOp) (a b:ByteArray):Option D:=
 match op with
 | .add=>if a.size+b.size≤9223372036854775807 then some (.str (a++b)) else none
 | .eql=>some (.bool (a.toList==b.toList))
 | .neq=>some (.bool (!(a.toList==b.toList)))
 | .lss=>some (.bool (Op.bytesLess a.toList b.toList))
 | .leq=>some (.bool (Op.bytesLess a.toList b.toList||a.toList==b.toList))
 | .gtr=>some (.bool (!(Op.bytesLess a.toList b.toList||a.toList==b.toList)))
 | .geq=>some (.bool (!Op.bytesLess a.toList b.toList))
 | _=>none
def Kd.isPtr:Kd→Bool
 | .ptr _=>true
 | _=>false
def qnU (T:Ty) (op:BinOp) (t:TypeId) (x y:R):Option D:=
 match op,x,y with
 | .eql,.c (.d (.bool a)),.c (.d (.bool b))=>if T.k t = .bool then some (.bool (a==b)) else none
 | .neq,.c (.d (.bool a)),.c (.d (.bool b))=>if T.k t = .bool then some (.bool (!(a==b))) else none
 | .eql,.c .nilp,.c .nilp=>if(T.k t).isPtr=true then some (.bool true) else none
 | .neq,.c .nilp,.c .nilp=>if(T.k t).isPtr=true then some (.bool false) else none
 | .eql,.c (.ptr _ _),.c .nilp=>if(T.k t).isPtr=true then some (.bool false) else none
 | .neq,.c (.ptr _ _),.c .nilp=>if(T.k t).isPtr=true then some (.bool true) else none
 | .eql,.c (.eptr _ _),.c .nilp=>if(T.k t).isPtr=true then some (.bool false) else none
 | .neq,.c (.eptr _ _),.c .nilp=>if(T.k t).isPtr=true then some (.bool true) else none
 | _,_,_=>none
def qqc (P:Program) (T:Ty) (op:BinOp) (t:TypeId) (xs ys:List C):Option D:=
 match op with
 | .eql=>(eqR P T 5 t (.agg xs) (.agg ys)).bind fun b=>some (.bool b)
 | .neq=>(eqR P T 5 t (.agg xs) (.agg ys)).bind fun b=>some (.bool (!b))
 | _=>none
def qqo (P:Program) (T:Ty) (s:S) (op:BinOp) (t:TypeId) (x y:Operand):RS:=
 match s.ev x,s.ev y with
 | .c (.d (.int k a)),.c (.d (.int k' b))=>if(qpQ op||decide (k=k'))=true then(q9K op k a b).bind fun d=>some (.c (.d d),s) else none
 | .c (.d (.str a)),.c (.d (.str b))=>(qmy op a b).bind fun d=>some (.c (.d d),s)
 | .agg xs,.agg ys=>(qqc P T op t xs ys).bind fun d=>some (.c (.d d),s)
 | u,v=>(qnU T op t u v).bind fun d=>some (.c (.d d),s)
def xUn (s:S) (op:UnOp) (x:Operand):RS:=
 match op,s.ev x with
 | .not,.c (.d (.bool b))=>some (.c (.d (.bool (!b))),s)
 | .neg,.c (.d (.int k n))=>some (.c (.d (.int k (k.wrap (0-n)))),s)
 | _,_=>none
def Kd.isSl:Kd→Bool
 | .sl _=>true
 | _=>false
def qpV (T:Ty) (s:S) (t:TypeId) (x:Operand):RS:=
 match s.ev x with
 | .c (.d (.str b))=>if T.k t = .str then some (.c (.d (.int .i64 b.size)),s) else none
 | .c (.d (.sl _ n _))=>if(T.k t).isSl=true then some (.c (.d (.int .i64 n)),s) else none
 | .c (.own _ _ _ n)=>if(T.k t).isSl=true then some (.c (.d (.int .i64 n)),s) else none
 | .c .nils=>if(T.k t).isSl=true then some (.c (.d (.int .i64 0)),s) else none
 | .agg _=>match T.k t with | .arr n _=>some (.c (.d (.int .i64 n)),s)|_=>none
 | _=>none
def qq4 (s:S) (x y:Operand):RS:=
 match s.ev x,s.ev y with
 | .c (.d (.int k m)),.c (.d (.int _ n))=>some (.c (.d (.int k (min m n))),s)
 | _,_=>none
def qqm (s:S) (x y:Operand):RS:=
 match s.ev x,s.ev y with
 | .c (.d (.int k m)),.c (.d (.int _ n))=>some (.c (.d (.int k (max m n))),s)
 | _,_=>none
def qfJ (T:Ty) (s:S) (t t':TypeId) (x:Operand):RS:=
 match T.k t,T.k t',s.ev x with
 | .int _,.int k,.c (.d (.int _ n))=>some (.c (.d (.int k (k.wrap n))),s)
 | .str,.str,.c (.d (.str b))=>some (.c (.d (.str b)),s)
 | .str,.sl e,.c (.d (.str b))=>if T.k e = .int .u8 then(if b.size≤4611686018427387903 then some (.c (.d (.sl 1 b.size (u8s b.data.toList))),s) else none) else none
 | .sl e,.str,.c (.own id sz off n)=>if T.k e = .int .u8∧sz=1 then(qir (((s.blk id).cells.drop off).take n)).bind fun ns=>if ns.length=n then some (.c (.d (.str (qaS ns))),s) else none else none
 | .sl e,.str,.c (.d (.sl sz _ cs))=>if T.k e = .int .u8∧sz=1 then(qcb cs).bind fun ns=>some (.c (.d (.str (qaS ns))),s) else none
 | .sl e,.str,.c .nils=>if T.k e = .int .u8 then some (.c (.d (.str ⟨#[]⟩)),s) else none
 | _,_,_=>none
def q7K (T:Ty) (s:S) (t:TypeId) (x:Operand) (lo hi mx:Option Operand):RS:=
 match mx,s.ev x,T.k t with
 | none,.c (.d (.str b)),.str=>
  match s.bd lo 0,s.bd hi b.size with
  | some l,some h=>if 0≤l∧l≤h∧h≤b.size then some (.c (.d (.str (b.extract l.toNat h.toNat))),s) else none
  | _,_=>none
 | none,.c (.d (.sl sz n cs)),.sl e=>
  if T.k e ≠ .other∧T.sz e=sz then
   match s.bd lo 0,s.bd hi n with
   | some l,some h=>if 0≤l∧l≤h∧h≤n then some (.c (.d (.sl sz (h.toNat-l.toNat) ((cs.drop (l.toNat*sz)).take ((h.toNat-l.toNat)*sz)))),s) else none
   | _,_=>none
  else none
 | none,.c (.own id sz off n),.sl e=>
  if T.k e ≠ .other∧T.sz e=sz then
   match s.bd lo 0,s.bd hi n with
   | some l,some h=>if 0≤l∧l≤h∧h≤n then(if l=0∨l<n then some (.c (.own id sz (off+l.toNat) (h.toNat-l.toNat)),s) else some (.c (.d (.sl sz 0 [])),s)) else none
   | _,_=>none
  else none
 | none,.c .nils,.sl e=>
  if T.k e ≠ .other then
   match s.bd lo 0,s.bd hi 0 with
   | some l,some h=>if l=0∧h=0 then some (.c .nils,s) else none
   | _,_=>none
  else none
 | _,_,_=>none
def qbV (T:Ty) (s:S) (t:TypeId) (x:Operand) (lo hi mx:Option Operand):RS:=
 match lo,T.k t,s.ev x with
 | none,.sl e,.c (.d (.sl sz n cs))=>if T.k e ≠ .other∧T.sz e=sz∧hi.isSome=true∧s.bd hi 0=some (n:Int)∧s.bd mx 0=some (n:Int) then some (.c (.clp sz n cs),s) else none
 | none,.sl e,.c .nils=>if T.k e ≠ .other∧hi.isSome=true∧s.bd hi 0=some 0∧s.bd mx 0=some 0 then some (.c (.clp (T.sz e) 0 []),s) else none
 | _,_,_=>none
def qpX (T:Ty) (s:S) (t:TypeId) (x:Operand) (lo hi:Option Operand):Option Operand→RS
 | none=>q7K T s t x lo hi none
 | some m=>qbV T s t x lo hi (some m)
def qel (T:Ty) (s:S) (t:TypeId) (x:Operand) (f:Nat):RS:=
 match s.ev x with
 | .agg xs=>match T.foff t f with|some (fo,ft)=>(ld T xs fo ft).bind fun r=>some (r,s)|none=>none
 | _=>none
def q9v (T:Ty) (s:S) (t:TypeId) (x y:Operand):RS:=
 match s.ev y,s.ev x,T.k t with
 | .c (.d (.int _ i)),.agg xs,.arr n e=>if T.k e ≠ .other then(if 0≤i∧i<n then(ld T xs (i.toNat*T.sz e) e).bind fun r=>some (r,s) else none) else none
 | .c (.d (.int _ i)),.c (.d (.str b)),.str=>if 0≤i then(b.data.toList[i.toNat]?).bind fun c=>some (.c (.d (.int .u8 c.toNat)),s) else none
 | _,_,_=>none
def q8R (T:Ty) (s:S) (t:TypeId) (parts:List (Nat×Operand)):RS:=
 match T.k t with
 | .st fs=>if fs.all (fun f=>decide (T.k f.2 ≠ .other))=true then(bld s (ZB T t) parts (T.zero t)).bind fun cs=>some (.agg cs,s) else none
 | .arr _ e=>if T.k e ≠ .other then(bld s (fun i=>some (i*T.sz e,T.sz e)) parts (T.zero t)).bind fun cs=>some (.agg cs,s) else none
 | _=>none
def Zx (T:Ty) (s:S) (t:TypeId) (len:Nat) (parts:List (Nat×Operand)):RS:=
 match T.k t with
 | .sl e=>if T.k e ≠ .other∧0<T.sz e∧len*T.sz e≤16777216 then(bld s (fun i=>some (i*T.sz e,T.sz e)) parts (List.replicate (len*T.sz e) .any)).bind fun cs=>some (.c (.own s.nx (T.sz e) 0 len),s.up [(s.nx,if 0<len∧T.bk t len=true then .blk e cs else .row e (T.sz e) cs)]) else none
 | _=>none
def q2w (s:S) (f:Fn) (first captured:List Operand):RS:=
 match f with
 | .func g=>(first.mapM s.cell1).bind fun fs=>(captured.mapM s.cell1).bind fun caps=>some (.c (.fn g fs caps),s)
 | _=>none
def q8x (T:Ty) (s:S) (t:TypeId) (x y:Operand):RS:=
 match s.ev x,s.ev y,T.k t with
 | .c (.d (.int _ l)),.c (.d (.int _ c)),.sl e=>
  if T.k e ≠ .other∧0<T.sz e∧(T.zero e).length=T.sz e then
   (if 0≤l∧l≤c∧(T.by_ e:Int)*c≤281474976710656∧c≤9223372036854775807 then some (.c (.own s.nx (T.sz e) 0 l.toNat),s.up [(s.nx,.row e (T.sz e) (List.replicate l.toNat (T.zero e)).flatten)]) else none)
  else none
 | _,_,_=>none
def tkw (cs:List C) (m:Nat):List C:=if cs.length=m then cs else cs.take m
theorem qkx {cs:List C} {m:Nat} (h:cs.length=m):tkw cs m=cs:=if_pos h
theorem q6n (cs:List C) (m:Nat):tkw cs m=cs.take m:=by
 unfold tkw;split
 ·rename_i h;rw[←h,List.take_length]
 ·rfl
theorem qkg (cs:List C) (k n sz:Nat):tkw cs (min k n*sz)=cs.take (min k n*sz):=q6n ..
def q1F (T:Ty) (s:S) (t:TypeId) (x y:Operand):RS:=
 match T.k t,s.seq y with
 | .sl e,some (m,ys)=>
  if T.k e ≠ .other∧0<T.sz e∧(T.zero e).length=T.sz e∧ys.all C.known=true∧ys.length=m*T.sz e then
   match s.ev x with
   | .c (.own id sz off n)=>
    match s.blk id with
    | .row e' sz' cs=>
     if e'=e∧sz'=sz∧sz=T.sz e∧off=0∧(cs.length=n*sz∨n*sz≤cs.length)∧(tkw cs (n*sz)).all (C.far id)=true∧ys.all (C.far id)=true then
      (if n+m≤maxLen∧(n+m)*T.by_ e≤140737488355328 then some (.c (.own id sz 0 (n+m)),(s.fg id).up [(id,.row e sz (tkw cs (n*sz)++ys))]) else none)
     else none
    | _=>none
   | .c .nils=>if ys.all (C.far s.nx)=true then(if m≤maxLen∧m*T.by_ e≤140737488355328 then some (.c (.own s.nx (T.sz e) 0 m),(s.fg s.nx).up [(s.nx,.row e (T.sz e) ys)]) else none) else none
   | .c (.clp sz n cs)=>if sz=T.sz e∧0<m∧ys.all (C.far s.nx)=true∧cs.length=n*sz then(if n+m≤maxLen∧(n+m)*T.by_ e≤140737488355328 then some (.c (.own s.nx (T.sz e) 0 (n+m)),(s.fg s.nx).up [(s.nx,.row e (T.sz e) (cs.map C.d++ys))]) else none) else none
   | _=>none
  else none
 | _,_=>none
section
variable {P:Program} {T:Ty} {s s':S} {r:R} {K:KK}
theorem qf0 {c x y:Operand} (h:qg6 s c x y=some (r,s')) (hK:K r s'):q5C s c x y K:=by
 unfold qg6 at h;unfold q5C
 split at h
 ·rename_i t ht
  simp only[ht]
  split at h
  ·rename_i hb;subst hb;injection h with h;injection h with h1 h2;subst h1 h2;exact hK
  ·rename_i hb;cases t
   ·injection h with h;injection h with h1 h2;subst h1 h2;exact hK
   ·exact absurd rfl hb
 ·cases h
theorem z7 {α β:Type} {o:Option α} {f:α→Option β} {b:β} (h:o.bind f=some b):∃a,o=some a∧f a=some b:=qxM.1 h
theorem zu {a c:R} {b d:S} (h:some (a,b)=some (c,d)):a=c∧b=d:=by injection h with h;injection h with h1 h2;exact⟨h1,h2⟩
theorem qeT {t:TypeId} {x:Operand} (h:q5T T s t x=some (r,s')) (hK:K r s'):q5D T s t x K:=by
 unfold q5T at h;unfold q5D
 split at h
 ·rename_i hx;simp only[hx];obtain⟨a,h1,h2⟩:=z7 h;obtain⟨rfl,rfl⟩:=zu h2;exact⟨_,h1,hK⟩
 ·rename_i hx;simp only[hx];obtain⟨a,h1,h2⟩:=z7 h;obtain⟨rfl,rfl⟩:=zu h2;exact⟨_,h1,hK⟩
 ·cases h
theorem qdl {t:TypeId} (h:q9p T s t=some (r,s')) (hK:K r s'):q6h T s s.nx t K:=by
 unfold q9p at h
 split at h
 ·cases h
 ·rename_i hn;obtain⟨rfl,rfl⟩:=zu h;exact⟨hn,hK⟩
theorem qiW {t:TypeId} {x:Operand} (h:qqp s t x=some (r,s')) (hK:K r s'):qgD s s.nx t x K:=by
 unfold qqp at h
 split at h
 ·rename_i cs hcs
  split at h
  ·rename_i hk;obtain⟨rfl,rfl⟩:=zu h;exact⟨cs,hcs,hk,hK⟩
  ·cases h
 ·cases h
theorem q6M {t:TypeId} {x y:Operand} (h:q0l T s t x y=some (r,s')) (hK:K r s'):q57 T s t x y K:=by
 unfold q0l at h;unfold q57
 split at h
 ·rename_i hx;simp only[hx];split at h
  ·rename_i ys hys
   split at h
   ·rename_i hc;obtain⟨rfl,rfl⟩:=zu h;exact⟨ys,hys,hc.1,hc.2.1,hc.2.2.1,hc.2.2.2.1,hc.2.2.2.2,hK⟩
   ·cases h
  ·cases h
 ·cases h
theorem q5Z {t:TypeId} {x:Operand} {f:Nat} (h:JW T s t x f=some (r,s')) (hK:K r s'):Jh T s t x f K:=by
 unfold JW at h;unfold Jh
 split at h
 ·rename_i fo ft hf
  split at h
  ·rename_i hc
   refine⟨fo,ft,hf,hc.1,hc.2,?_⟩
   split at h
   ·rename_i hx;simp only[hx];obtain⟨rfl,rfl⟩:=zu h;exact hK
   ·rename_i hx;simp only[hx];obtain⟨rfl,rfl⟩:=zu h;exact hK
   ·cases h
  ·cases h
 ·cases h
theorem q6o {t:TypeId} {x y:Operand} (h:q1h T s t x y=some (r,s')) (hK:K r s'):Zz T s t x y K:=by
 unfold q1h at h;unfold Zz
 split at h
 ·rename_i h1 h2 h3
  split at h
  ·rename_i hc
   split at h
   ·rename_i hb;obtain⟨rfl,rfl⟩:=zu h;simp only[h1,h2];exact⟨_,h3,hc.1,hc.2,hb.1,hb.2,hK⟩
   ·cases h
  ·cases h
 ·rename_i h1 h2 h3
  split at h
  ·rename_i hc
   split at h
   ·rename_i hb;obtain⟨rfl,rfl⟩:=zu h;simp only[h1,h2];exact⟨_,h3,hc.1,hc.2,hb.1,hb.2,hK⟩
   ·cases h
  ·cases h
 ·rename_i h1 h2 h3
  split at h
  ·rename_i hc
   split at h
   ·rename_i hb;obtain⟨rfl,rfl⟩:=zu h;simp only[h1,h2];exact⟨_,_,h3,hc,hb.1,hb.2,hK⟩
   ·cases h
  ·cases h
 ·cases h
theorem q8J {x:Operand} {i:Nat} (h:q3U s x i=some (r,s')) (hK:K r s'):JV s x i K:=by
 unfold q3U at h;unfold JV
 split at h
 ·rename_i hx;simp only[hx];obtain⟨a,h1,h2⟩:=z7 h;obtain⟨rfl,rfl⟩:=zu h2;exact⟨_,h1,hK⟩
 ·cases h
theorem q7p {x:Operand} (h:q0P s x=some (r,s')) (hK:K r s'):J3 s x K:=by
 unfold q0P at h;unfold J3
 split at h
 ·rename_i hx;simp only[hx];obtain⟨rfl,rfl⟩:=zu h;exact hK
 ·rename_i hx;simp only[hx];obtain⟨rfl,rfl⟩:=zu h;exact hK
 ·rename_i hx;simp only[hx];obtain⟨rfl,rfl⟩:=zu h;exact hK
 ·cases h
theorem qhR {op:BinOp} {k:IntKind} {a b:Int} {d:D} {K:R→Prop} (h:q9K op k a b=some d) (hK:K (.c (.d d))):q7g op k a b K:=by
 unfold q9K at h;unfold q7g
 cases op<;>simp only at h ⊢ <;> first
  | (injection h with h;subst h;exact hK)
  | (split at h<;>first|(cases h;done)|(injection h with h;subst h;exact⟨by assumption,hK⟩))
theorem qi0 {op:BinOp} {a b:ByteArray} {d:D} {K:R→Prop} (h:qmy op a b=some d) (hK:K (.c (.d d))):q7s op a b K:=by
 unfold qmy at h;unfold q7s
 cases op<;>simp only at h ⊢ <;> first
  | (injection h with h;subst h;exact hK)
  | (split at h<;>first|(cases h;done)|(injection h with h;subst h;exact⟨by assumption,hK⟩))
  | cases h
theorem qh3 {k:Kd} (h:k.isPtr=true):∃e,k = .ptr e:=by cases k<;>simp[Kd.isPtr] at h;exact⟨_,rfl⟩
theorem q8E {k:Kd} (h:k.isSl=true):∃e,k = .sl e:=by cases k<;>simp[Kd.isSl] at h;exact⟨_,rfl⟩
theorem qjC {op:BinOp} {t:TypeId} {x y:R} {d:D} {K:R→Prop} (h:qnU T op t x y=some d) (hK:K (.c (.d d))):q79 T op t x y K:=by
 unfold qnU at h;unfold q79
 split at h<;>first
  | (cases h;done)
  | (split at h
     ·injection h with h;subst h;first|exact⟨by assumption,hK⟩|exact⟨qh3 (by assumption),hK⟩
     ·cases h)
theorem qjt {op:BinOp} {t:TypeId} {xs ys:List C} {d:D} {K:R→Prop} (h:qqc P T op t xs ys=some d) (hK:K (.c (.d d))):q6V P T op t xs ys K:=by
 unfold qqc at h;unfold q6V
 split at h
 ·obtain⟨b,h1,h2⟩:=z7 h;injection h2 with h2;subst h2;exact⟨b,h1,hK⟩
 ·obtain⟨b,h1,h2⟩:=z7 h;injection h2 with h2;subst h2;exact⟨b,h1,hK⟩
 ·cases h
theorem qjj {op:BinOp} {t:TypeId} {x y:Operand} (h:qqo P T s op t x y=some (r,s')) (hK:K r s'):qaX P T s op t x y K:=by
 unfold qqo at h;unfold qaX
 split at h
 ·rename_i h1 h2
  simp only[h1,h2]
  split at h
  ·rename_i hc
   obtain⟨d,h3,h4⟩:=z7 h;obtain⟨rfl,rfl⟩:=zu h4
   exact⟨by simpa using hc,qhR (K:=fun r=>K r s) h3 hK⟩
  ·cases h
 ·rename_i h1 h2
  simp only[h1,h2]
  obtain⟨d,h3,h4⟩:=z7 h;obtain⟨rfl,rfl⟩:=zu h4
  exact qi0 (K:=fun r=>K r s) h3 hK
 ·rename_i h1 h2
  simp only[h1,h2]
  obtain⟨d,h3,h4⟩:=z7 h;obtain⟨rfl,rfl⟩:=zu h4
  exact qjt (K:=fun r=>K r s) h3 hK
 ·rename_i n1 n2 n3
  obtain⟨d,h3,h4⟩:=z7 h;obtain⟨rfl,rfl⟩:=zu h4
  have:=qjC (K:=fun r=>K r s) h3 hK
  split
  ·rename_i h1 h2;exact(n1 _ _ _ _ h1 h2).elim
  ·rename_i h1 h2;exact(n2 _ _ h1 h2).elim
  ·rename_i h1 h2;exact(n3 _ _ h1 h2).elim
  ·exact this
theorem qm1 {op:UnOp} {x:Operand} (h:xUn s op x=some (r,s')) (hK:K r s'):qkZ s op x K:=by
 unfold xUn at h;unfold qkZ
 split at h
 ·rename_i h1;obtain⟨rfl,rfl⟩:=zu h;simp only[h1];exact hK
 ·rename_i h1;obtain⟨rfl,rfl⟩:=zu h;simp only[h1];exact hK
 ·cases h
theorem qiw {t:TypeId} {x:Operand} (h:qpV T s t x=some (r,s')) (hK:K r s'):qa9 T s t x K:=by
 unfold qpV at h;unfold qa9
 split at h
 ·rename_i hx;simp only[hx];split at h
  ·rename_i hc;obtain⟨rfl,rfl⟩:=zu h;exact⟨hc,hK⟩
  ·cases h
 ·rename_i hx;simp only[hx];split at h
  ·rename_i hc;obtain⟨rfl,rfl⟩:=zu h;exact⟨q8E hc,hK⟩
  ·cases h
 ·rename_i hx;simp only[hx];split at h
  ·rename_i hc;obtain⟨rfl,rfl⟩:=zu h;exact⟨q8E hc,hK⟩
  ·cases h
 ·rename_i hx;simp only[hx];split at h
  ·rename_i hc;obtain⟨rfl,rfl⟩:=zu h;exact⟨q8E hc,hK⟩
  ·cases h
 ·rename_i hx;simp only[hx];split at h
  ·rename_i n e hc;obtain⟨rfl,rfl⟩:=zu h;exact⟨n,e,hc,hK⟩
  ·cases h
 ·cases h
theorem qhZ {x y:Operand} (h:qq4 s x y=some (r,s')) (hK:K r s'):qb6 s x y K:=by
 unfold qq4 at h;unfold qb6
 split at h
 ·rename_i h1 h2;obtain⟨rfl,rfl⟩:=zu h;simp only[h1,h2];exact hK
 ·cases h
theorem qjJ {x y:Operand} (h:qqm s x y=some (r,s')) (hK:K r s'):qay s x y K:=by
 unfold qqm at h;unfold qay
 split at h
 ·rename_i h1 h2;obtain⟨rfl,rfl⟩:=zu h;simp only[h1,h2];exact hK
 ·cases h
theorem qeY {t t':TypeId} {x:Operand} (h:qfJ T s t t' x=some (r,s')) (hK:K r s'):q5K T s t t' x K:=by
 unfold qfJ at h;unfold q5K
 split at h
 ·rename_i h1 h2 h3;obtain⟨rfl,rfl⟩:=zu h;simp only[h1,h2,h3];exact hK
 ·rename_i h1 h2 h3;obtain⟨rfl,rfl⟩:=zu h;simp only[h1,h2,h3];exact hK
 ·rename_i h1 h2 h3
  simp only[h1,h2,h3]
  split at h
  ·rename_i hc
   split at h
   ·rename_i hb;obtain⟨rfl,rfl⟩:=zu h;exact⟨hc,hb,hK⟩
   ·cases h
  ·cases h
 ·rename_i h1 h2 h3
  simp only[h1,h2,h3]
  split at h
  ·rename_i hc
   obtain⟨ns,h4,h5⟩:=z7 h
   split at h5
   ·rename_i hb;obtain⟨rfl,rfl⟩:=zu h5;exact⟨hc.1,hc.2,ns,h4,hb,hK⟩
   ·cases h5
  ·cases h
 ·rename_i h1 h2 h3
  simp only[h1,h2,h3]
  split at h
  ·rename_i hc
   obtain⟨ns,h4,h5⟩:=z7 h
   obtain⟨rfl,rfl⟩:=zu h5;exact⟨hc.1,hc.2,ns,h4,hK⟩
  ·cases h
 ·rename_i h1 h2 h3
  simp only[h1,h2,h3]
  split at h
  ·rename_i hc;obtain⟨rfl,rfl⟩:=zu h;exact⟨hc,hK⟩
  ·cases h
 ·cases h
theorem qes {t:TypeId} {x:Operand} {lo hi mx:Option Operand} (h:q7K T s t x lo hi mx=some (r,s')) (hK:K r s'):q3h T s t x lo hi mx K:=by
 unfold q7K at h;unfold q3h
 split at h
 ·rename_i h1 h2
  simp only[h1]
  split at h
  ·rename_i l u h3 h4
   split at h
   ·rename_i hc;obtain⟨rfl,rfl⟩:=zu h;exact⟨h2,trivial,l,u,h3,h4,hc.1,hc.2.1,hc.2.2,hK⟩
   ·cases h
  ·cases h
 ·rename_i h1 h2
  simp only[h1]
  split at h
  ·rename_i hq
   split at h
   ·rename_i l u h3 h4
    split at h
    ·rename_i hc;obtain⟨rfl,rfl⟩:=zu h;exact⟨_,h2,hq.1,hq.2,trivial,l,u,h3,h4,hc.1,hc.2.1,hc.2.2,hK⟩
    ·cases h
   ·cases h
  ·cases h
 ·rename_i h1 h2
  simp only[h1]
  split at h
  ·rename_i hq
   split at h
   ·rename_i l u h3 h4
    split at h
    ·rename_i hc
     refine⟨_,h2,hq.1,hq.2,trivial,l,u,h3,h4,hc.1,hc.2.1,hc.2.2,fun hx=>?_,fun hx=>?_⟩
     ·rw[if_pos hx] at h;obtain⟨rfl,rfl⟩:=zu h;exact hK
     ·rw[if_neg hx] at h;obtain⟨rfl,rfl⟩:=zu h;exact hK
    ·cases h
   ·cases h
  ·cases h
 ·rename_i h1 h2
  simp only[h1]
  split at h
  ·rename_i hq
   split at h
   ·rename_i l u h3 h4
    split at h
    ·rename_i hc;obtain⟨rfl,rfl⟩:=zu h;exact⟨_,h2,hq,trivial,hc.1 ▸ h3,hc.2 ▸ h4,hK⟩
    ·cases h
   ·cases h
  ·cases h
 ·cases h
theorem qdh {t:TypeId} {x:Operand} {f:Nat} (h:qel T s t x f=some (r,s')) (hK:K r s'):q2W T s t x f K:=by
 unfold qel at h;unfold q2W
 split at h
 ·rename_i hx;simp only[hx];split at h
  ·rename_i fo ft hf
   obtain⟨q,h1,h2⟩:=z7 h;obtain⟨rfl,rfl⟩:=zu h2;exact⟨fo,ft,_,hf,h1,hK⟩
  ·cases h
 ·cases h
theorem qbI {t:TypeId} {x y:Operand} (h:q9v T s t x y=some (r,s')) (hK:K r s'):q2P T s t x y K:=by
 unfold q9v at h;unfold q2P
 split at h
 ·rename_i h1 h2 h3
  simp only[h1,h2]
  split at h
  ·rename_i hq
   split at h
   ·rename_i hb
    obtain⟨q,h4,h5⟩:=z7 h;obtain⟨rfl,rfl⟩:=zu h5;exact⟨_,_,_,h3,hq,hb.1,hb.2,h4,hK⟩
   ·cases h
  ·cases h
 ·rename_i h1 h2 h3
  simp only[h1,h2]
  split at h
  ·rename_i hb
   obtain⟨q,h4,h5⟩:=z7 h;obtain⟨rfl,rfl⟩:=zu h5;exact⟨h3,hb,q,h4,hK⟩
  ·cases h
 ·cases h
theorem qcv {t:TypeId} {parts:List (Nat×Operand)} (h:q8R T s t parts=some (r,s')) (hK:K r s'):q31 T s t parts K:=by
 unfold q8R at h;unfold q31
 split at h
 ·rename_i fs hk
  simp only[hk]
  split at h
  ·rename_i hc
   obtain⟨q,h4,h5⟩:=z7 h;obtain⟨rfl,rfl⟩:=zu h5;exact⟨hc,q,h4,hK⟩
  ·cases h
 ·rename_i fs hk
  simp only[hk]
  split at h
  ·rename_i hc
   obtain⟨q,h4,h5⟩:=z7 h;obtain⟨rfl,rfl⟩:=zu h5;exact⟨hc,q,h4,hK⟩
  ·cases h
 ·cases h
theorem q5g {t:TypeId} {len:Nat} {parts:List (Nat×Operand)} (h:Zx T s t len parts=some (r,s')) (hK:K r s'):ZM T s s.nx t len parts K:=by
 unfold Zx at h;unfold ZM
 split at h
 ·rename_i e hk
  split at h
  ·rename_i hc
   obtain⟨q,h4,h5⟩:=z7 h;obtain⟨rfl,rfl⟩:=zu h5;exact⟨e,hk,hc.1,hc.2.1,hc.2.2,q,h4,hK⟩
  ·cases h
 ·cases h
theorem q7m {f:Fn} {first captured:List Operand} (h:q2w s f first captured=some (r,s')) (hK:K r s'):J2 s f first captured K:=by
 unfold q2w at h;unfold J2
 split at h
 ·obtain⟨q,h4,h5⟩:=z7 h
  obtain⟨q',h6,h7⟩:=z7 h5
  obtain⟨rfl,rfl⟩:=zu h7;exact⟨q,q',h4,h6,hK⟩
 ·cases h
theorem q9Q {t:TypeId} {x y:Operand} (h:q8x T s t x y=some (r,s')) (hK:K r s'):q5v T s s.nx t x y K:=by
 unfold q8x at h;unfold q5v
 split at h
 ·rename_i h1 h2 h3
  simp only[h1,h2]
  split at h
  ·rename_i hc
   split at h
   ·rename_i hb;obtain⟨rfl,rfl⟩:=zu h;exact⟨_,h3,hc.1,hc.2.1,hc.2.2,hb.1,hb.2.1,hb.2.2.1,hb.2.2.2,hK⟩
   ·cases h
  ·cases h
 ·cases h
theorem qft {t:TypeId} {x:Operand} {lo hi:Option Operand} {m:Operand} (h:qbV T s t x lo hi (some m)=some (r,s')) (hK:K r s'):q6Z T s t x lo hi (some m) K:=by
 unfold qbV at h;unfold q6Z
 split at h
 ·rename_i e sz n cs h1 h2
  simp only[h2]
  split at h
  ·rename_i hq;obtain⟨rfl,rfl⟩:=zu h;exact⟨_,h1,hq.1,by trivial,hq.2.2.1,by trivial,hq.2.1,hq.2.2.2.1,hq.2.2.2.2,hK⟩
  ·cases h
 ·rename_i e h1 h2
  simp only[h2]
  split at h
  ·rename_i hq;obtain⟨rfl,rfl⟩:=zu h;exact⟨_,h1,hq.1,by trivial,hq.2.1,by trivial,hq.2.2.1,hq.2.2.2,hK⟩
  ·cases h
 ·cases h
theorem qjf {t:TypeId} {x:Operand} {lo hi mx:Option Operand} (h:qpX T s t x lo hi mx=some (r,s')) (hK:K r s'):qbU T s t x lo hi mx K:=by
 cases mx with
 | none=>exact qes h hK
 | some m=>exact qft h hK
theorem q3f {t:TypeId} {x y:Operand} (h:q1F T s t x y=some (r,s')) (hK:K r s'):q2e T s s.nx t x y K:=by
 unfold q1F at h;unfold q2e
 split at h
 ·rename_i e m ys h1 h2
  split at h
  ·rename_i hc
   refine⟨e,m,ys,h1,hc.1,hc.2.1,hc.2.2.1,h2,hc.2.2.2.1,hc.2.2.2.2,?_⟩
   split at h
   ·rename_i id sz off n hx
    simp only[hx]
    split at h
    ·rename_i e' sz' cs hb
     split at h
     ·rename_i hq
      obtain⟨rfl,rfl,q1,q2,q3,q4,q5⟩:=hq
      split at h
      ·rename_i hz;obtain⟨rfl,rfl⟩:=zu h;exact⟨q1,q2,cs,_,hb,(q6n ..).symm,by rw[q6n,qya];omega,q4,q5,hz.1,hz.2,hK⟩
      ·cases h
     ·cases h
    ·cases h
   ·rename_i hx
    simp only[hx]
    split at h
    ·rename_i hq
     split at h
     ·rename_i hz;obtain⟨rfl,rfl⟩:=zu h;exact⟨hq,hz.1,hz.2,hK⟩
     ·cases h
    ·cases h
   ·rename_i sz n cs hx
    simp only[hx]
    split at h
    ·rename_i hq
     split at h
     ·rename_i hz;obtain⟨rfl,rfl⟩:=zu h;exact⟨hq.1,hq.2.1,hq.2.2.1,hq.2.2.2,hz.1,hz.2,hK⟩
     ·cases h
    ·cases h
   ·cases h
  ·cases h
 ·cases h
end
end
noncomputable section
open Go.RowKit
def q3B:List C→Option (List D)
 | []=>some []
 | .d x::r=>(q3B r).bind fun l=>some (x::l)
 | _::_=>none
theorem q24:∀{cs:List C} {ds:List D},q3B cs=some ds→cs=ds.map C.d
 | [],ds,h=>by injection h with h;subst h;rfl
 | c::r,ds,h=>by
  unfold q3B at h
  split at h
  ·rename_i heq;cases heq
  ·rename_i x r' heq
   injection heq with h1 h2
   subst h1 h2
   obtain⟨l,h3,h4⟩:=qxM.1 h
   injection h4 with h4
   subst h4
   rw[q24 h3];rfl
  ·cases h
theorem q16:∀(ds:List D),q3B (ds.map C.d)=some ds
 | []=>rfl
 | x::l=>by simp only[qy4,q3B,q16 l,qxH]
def pos (i:Nat):List Nat→Option Nat
 | []=>none
 | j::r=>if j=i then some 0 else(pos i r).bind fun k=>some (k+1)
theorem q4Z {i:Nat}:∀{l:List Nat} {j:Nat},pos i l=some j→l[j]?=some i
 | [],j,h=>by cases h
 | x::r,j,h=>by
  unfold pos at h
  split at h
  ·rename_i hx;injection h with h;subst h hx;rfl
  ·obtain⟨k,h1,h2⟩:=qxM.1 h
   injection h2 with h2
   subst h2
   rw[qy6]
   exact q4Z h1
def vis (cs:List C) (sz o n:Nat):Option (List C):=if o=0∧cs.length=n*sz then some cs else if o*sz+n*sz≤cs.length then some ((cs.drop (o*sz)).take (n*sz)) else none
theorem qhh {cs:List C} {sz o n:Nat} {l:List C} (h:vis cs sz o n=some l):(cs.drop (o*sz)).take (n*sz)=l∧l.length=n*sz:=by
 unfold vis at h
 split at h
 ·rename_i hc
  injection h with h
  obtain⟨rfl,h2⟩:=hc
  subst h
  simp[←h2]
 ·split at h
  ·rename_i hc
   injection h with h
   subst h
   refine⟨rfl,?_⟩
   simp;omega
  ·cases h
def cv0 (s:S) (sel ln:List Nat) (z:Nat):C→Option C
 | .d x=>some (.d x)
 | .nilp=>some .nilp
 | .nilf=>some .nilf
 | .nilm=>some .nilm
 | .nils=>if z=0 then some .nils else some (.d (.sl z 0 []))
 | .eptr cs o=>some (.eptr cs o)
 | .clp sz n cs=>some (.clp sz n cs)
 | .any=>some .any
 | .ptr i o=>(pos i sel).bind fun j=>some (.ptr j o)
 | .hd k i=>(pos i sel).bind fun j=>some (.hd k j)
 | .own i sz o n=>
  match pos i sel with
  | some j=>some (.own j sz o n)
  | none=>if ln.contains i=true then(vis (s.blk i).cells sz o n).bind fun v=>(q3B v).bind fun ds=>some (.d (.sl sz n ds)) else none
 | .fn _ _ _=>none
 | .ow _ _ _ _=>none
def qeP (s:S) (sel ln:List Nat):List C→Option (List C)
 | []=>some []
 | x::r=>(cv0 s sel ln 0 x).bind fun y=>(qeP s sel ln r).bind fun l=>some (y::l)
def cv (s:S) (sel ln:List Nat) (z:Nat):C→Option C
 | .fn f fs caps=>(qeP s sel ln fs).bind fun fs'=>(qeP s sel ln caps).bind fun caps'=>some (.fn f fs' caps')
 | c=>cv0 s sel ln z c
def cvL (s:S) (sel ln:List Nat):List Nat→List C→Option (List C)
 | _,[]=>some []
 | zs,x::r=>(cv s sel ln (zs.headD 0) x).bind fun y=>(cvL s sel ln zs.tail r).bind fun l=>some (y::l)
def cvR (s:S) (sel ln:List Nat) (zs:List Nat):R→Option R
 | .c x=>(cv s sel ln (zs.headD 0) x).bind fun y=>some (.c y)
 | .agg xs=>(cvL s sel ln zs xs).bind fun ys=>some (.agg ys)
 | .any=>some .any
 | .tup _=>none
def qba (s:S) (sel ln:List Nat):List (List Nat)→List R→Option (List R)
 | _,[]=>some []
 | zs,x::r=>(cvR s sel ln (zs.headD []) x).bind fun y=>(qba s sel ln zs.tail r).bind fun l=>some (y::l)
def qb8 (s:S) (sel:List Nat) (r:R):R:=(cvR s sel [] [] r).getD .any
def cvA (s:S) (sel:List Nat):AO→Option AO
 | .mp es ck=>some (.mp (es.map fun e=>(e.1,qb8 s sel e.2.1,e.2.2)) ck)
 | .lp f tm ps a b st p=>some (.lp f (tm.map (qb8 s sel)) ps a b st p)
 | .si t p=>some (.si t p)
 | .df=>some .df
 | .mi m c l=>some (.mi (qb8 s sel m) c l)
 | .m1 _ _ _ _=>none
def cvB (s:S) (sel:List Nat):B→Option B
 | .blk t cs=>(cvL s sel [] [] cs).bind fun ys=>some (.blk t ys)
 | .row e sz cs=>if cs.all C.dat=true then some (.row e sz cs) else none
 | .ob o=>(cvA s sel o).bind fun o'=>some (.ob o')
 | .dead=>none
def cvG (s:S) (sel:List Nat):List Nat→Nat→Option (List (Nat×B))
 | [],_=>some []
 | i::l,j=>(cvB s sel (s.blk i)).bind fun b=>(cvG s sel l (j+1)).bind fun G=>some ((j,b)::G)
section
variable {s:S} {sel ln:List Nat}
theorem qhv {z:Nat} {x y:C} (h:cv0 s sel ln z x=some y):CR s sel ln x y:=by
 unfold cv0 at h
 split at h
 ·injection h with h;subst h;exact .dat _ rfl
 ·injection h with h;subst h;exact .dat _ rfl
 ·injection h with h;subst h;exact .dat _ rfl
 ·injection h with h;subst h;exact .dat _ rfl
 ·split at h
  ·injection h with h;subst h;exact .dat _ rfl
  ·injection h with h;subst h;exact .nils _
 ·injection h with h;subst h;exact .dat _ rfl
 ·injection h with h;subst h;exact .dat _ rfl
 ·injection h with h;subst h;exact .any _
 ·obtain⟨j,h1,h2⟩:=qxM.1 h
  injection h2 with h2;subst h2
  exact .ptr _ _ _ (q4Z h1)
 ·obtain⟨j,h1,h2⟩:=qxM.1 h
  injection h2 with h2;subst h2
  exact .hd _ _ _ (q4Z h1)
 ·split at h
  ·rename_i j hj
   injection h with h;subst h
   exact .own _ _ _ _ _ (q4Z hj)
  ·split at h
   ·rename_i hc
    obtain⟨v,h1,h2⟩:=qxM.1 h
    obtain⟨ds,h3,h4⟩:=qxM.1 h2
    injection h4 with h4;subst h4
    obtain⟨h5,h6⟩:=qhh h1
    have h7:=q24 h3
    refine .lend _ _ _ _ _ (by simpa using hc) (h5.trans h7) ?_
    rw[h7] at h6;simpa using h6
   ·cases h
 ·cases h
 ·cases h
theorem q7X:∀{xs ys:List C},qeP s sel ln xs=some ys→PW (CR s sel ln) xs ys
 | [],ys,h=>by injection h with h;subst h;exact PW.nil
 | x::r,ys,h=>by
  unfold qeP at h
  obtain⟨y,h1,h2⟩:=qxM.1 h
  obtain⟨l,h3,h4⟩:=qxM.1 h2
  injection h4 with h4;subst h4
  exact PW.cons (qhv h1) (q7X h3)
theorem ql3 {z:Nat} {x y:C} (h:cv s sel ln z x=some y):CR s sel ln x y:=by
 unfold cv at h
 split at h
 ·obtain⟨fs',h1,h2⟩:=qxM.1 h
  obtain⟨caps',h3,h4⟩:=qxM.1 h2
  injection h4 with h4;subst h4
  exact CR.fn' (q7X h1) (q7X h3)
 ·exact qhv h
theorem qbw:∀{zs:List Nat} {xs ys:List C},cvL s sel ln zs xs=some ys→PW (CR s sel ln) xs ys
 | zs,[],ys,h=>by unfold cvL at h;injection h with h;subst h;exact PW.nil
 | zs,x::r,ys,h=>by
  unfold cvL at h
  obtain⟨y,h1,h2⟩:=qxM.1 h
  obtain⟨l,h3,h4⟩:=qxM.1 h2
  injection h4 with h4;subst h4
  exact PW.cons (ql3 h1) (qbw h3)
theorem qbA {zs:List Nat} {x y:R} (h:cvR s sel ln zs x=some y):AR s sel ln x y:=by
 unfold cvR at h
 split at h
 ·obtain⟨y',h1,h2⟩:=qxM.1 h
  injection h2 with h2;subst h2;exact .c _ _ (ql3 h1)
 ·obtain⟨y',h1,h2⟩:=qxM.1 h
  injection h2 with h2;subst h2;exact AR.agg' (qbw h1)
 ·injection h with h;subst h;exact .any _
 ·cases h
theorem qbs:∀{zs:List (List Nat)} {xs ys:List R},qba s sel ln zs xs=some ys→ARs s sel ln xs ys
 | zs,[],ys,h=>by unfold qba at h;injection h with h;subst h;exact .nil
 | zs,x::r,ys,h=>by
  unfold qba at h
  obtain⟨y,h1,h2⟩:=qxM.1 h
  obtain⟨l,h3,h4⟩:=qxM.1 h2
  injection h4 with h4;subst h4
  exact .cons _ _ _ _ (qbA h1) (qbs h3)
theorem q7W {r:R}:AR s sel [] r (qb8 s sel r):=by
 unfold qb8
 cases h:cvR s sel [] [] r with
 | none=>exact .any _
 | some r'=>exact qbA h
theorem qoS {o o':AO} (h:cvA s sel o=some o'):AOR s sel o o':=by
 cases o with
 | mp es ck=>
  injection h with h
  subst h
  refine .mp _ _ _ (by simp) (fun j e e' h1 h2=>?_)
  rw[qxV,h1] at h2
  injection h2 with h2
  subst h2
  exact⟨rfl,rfl,q7W⟩
 | lp f tm ps a b st p=>
  injection h with h
  subst h
  refine .lp _ _ _ _ _ _ _ _ (by simp) (fun j x y h1 h2=>?_)
  rw[qxV,h1] at h2
  injection h2 with h2
  subst h2
  exact q7W
 | si t p=>injection h with h;subst h;exact .si _ _
 | df=>injection h with h;subst h;exact .df
 | mi m c l=>injection h with h;subst h;exact .mi _ _ _ _ q7W
 | m1 e m c l=>cases h
theorem qoQ {x y:B} (h:cvB s sel x=some y):BR s sel x y:=by
 unfold cvB at h
 split at h
 ·obtain⟨y',h1,h2⟩:=qxM.1 h
  injection h2 with h2;subst h2;exact .blk _ _ _ (qbw h1)
 ·split at h
  ·rename_i hc;injection h with h;subst h;exact .row _ _ _ _ (PW.dat hc)
  ·cases h
 ·obtain⟨o',h1,h2⟩:=qxM.1 h
  injection h2 with h2;subst h2;exact .ob _ _ (qoS h1)
 ·cases h
theorem qbn:∀{l:List Nat} {j:Nat} {G:List (Nat×B)},cvG s sel l j=some G→GR s sel l j G
 | [],j,G,h=>by unfold cvG at h;injection h with h;subst h;trivial
 | i::l,j,G,h=>by
  unfold cvG at h
  obtain⟨y,h1,h2⟩:=qxM.1 h
  obtain⟨l',h3,h4⟩:=qxM.1 h2
  injection h4 with h4;subst h4
  exact⟨rfl,qoQ h1,qbn h3⟩
end
def C.ref0:C→List Nat
 | .ptr i _=>[i]
 | .hd _ i=>[i]
 | .own i _ _ _=>[i]
 | _=>[]
def C.refs:C→List Nat
 | .fn _ fs caps=>(fs++caps).flatMap C.ref0
 | c=>c.ref0
def R.refs0:R→List Nat
 | .c x=>x.refs
 | .agg xs=>xs.flatMap C.refs
 | _=>[]
def B.refs:B→List Nat
 | .blk _ cs=>cs.flatMap C.refs
 | .row _ _ cs=>if cs.all C.dat=true then[] else cs.flatMap C.refs
 | .ob o=>o.Rs.flatMap R.refs0
 | .dead=>[]
def R.refs:R→List Nat
 | .c x=>x.refs
 | .agg xs=>xs.flatMap C.refs
 | .tup rs=>rs.flatMap fun r=>match r with | .c x=>x.refs | .agg xs=>xs.flatMap C.refs|_=>[]
 | .any=>[]
def C.rows0:C→List Nat
 | .own i _ _ _=>[i]
 | _=>[]
def C.rows:C→List Nat
 | .fn _ fs caps=>(fs++caps).flatMap C.rows0
 | c=>c.rows0
def R.rows:R→List Nat
 | .c x=>x.rows
 | .agg xs=>xs.flatMap C.rows
 | _=>[]
def C.ptrs0:C→List Nat
 | .ptr i _=>[i]
 | .hd _ i=>[i]
 | _=>[]
def C.ptrs:C→List Nat
 | .fn _ fs caps=>(fs++caps).flatMap C.ptrs0
 | c=>c.ptrs0
def R.ptrs:R→List Nat
 | .c x=>x.ptrs
 | .agg xs=>xs.flatMap C.ptrs
 | _=>[]
def q06 (s:S):Nat→List Nat→List Nat→List Nat
 | 0,_,acc=>acc
 | _+1,[],acc=>acc
 | n+1,i::todo,acc=>if acc.contains i=true then q06 s n todo acc else q06 s n ((s.blk i).refs++todo) (acc++[i])
def q8u (s:S) (l:List Nat):List Nat:=l.filter fun i=>(s.blk i).isBlk
def q0G (s:S) (l:List Nat):List Nat:=l.filter fun i => !(s.blk i).isBlk
def qko (ln:List Nat) (r:R) (hp:List (Nat×B)):Bool:=ln.isEmpty||(r.scl&&hp.all fun x=>x.2.scl)
def Zv (E:Orc) (s:S) (g:FuncId) (zs:List (List Nat)) (rs:List R) (bl rw ln:List Nat):RS:=
 (qba s (bl++rw) ln zs rs).bind fun rs'=>(cvG s (bl++rw) (bl++rw) 0).bind fun G=>
  if(bl++rw).all (fun i=>(s.blk i).live)=true∧(bl++rw).Nodup∧ln.all (fun i=>(s.blk i).live && !(bl++rw).contains i)=true∧bl.length≤G.length∧(List.range G.length).all (fun j=>(lk G j .dead).isBlk==decide (j<bl.length))=true then
   (E (.fn g) bl.length rs' G).bind fun q=>if qko ln q.1 q.2=true then some (q.1.rn (ren (bl++rw) s.nx),s.aft (bl++rw) bl.length q.2) else none
  else none
def q97 (E:Orc) (s:S) (g:FuncId) (zs:List (List Nat)) (rs:List R) (l:List Nat):RS:=
 Zv E s g zs rs (q8u s l) (q0G s l) (((rs.flatMap R.rows).eraseDups).filter fun i => !l.contains i)
def qrm (ow:List Nat) (rs:List R):List Nat:=ow.flatMap fun i=>((rs[i]?).map R.rows).getD []
def q4K (E:Orc) (s:S) (g:FuncId) (ow:List Nat) (zs:List (List Nat)) (rs:List R):RS:=q97 E s g zs rs (q06 s 60 (rs.flatMap R.ptrs++qrm ow rs) [])
def cvT (s:S) (sel ln:List Nat) (r:R):R:=(cvR s sel ln [] r).getD .any
def q1O (E:Orc) (s:S) (rid:Nat) (f:FuncId) (aq0 bd:Code) (rs:List R) (bl rw ln:List Nat):RS:=
 (cvG s (bl++rw) (bl++rw) 0).bind fun G=>
  if(bl++rw).all (fun i=>(s.blk i).live)=true∧(bl++rw).Nodup∧ln.all (fun i=>(s.blk i).live && !(bl++rw).contains i)=true∧bl.length≤G.length∧(List.range G.length).all (fun j=>(lk G j .dead).isBlk==decide (j<bl.length))=true∧0<bl.length∧(bl++rw)[bl.length-1]?=some rid then
   (E (.rd f aq0 bd) bl.length (rs.map (cvT s (bl++rw) ln)) G).bind fun q=>if qko ln q.1 q.2=true then some (q.1.rn (ren (bl++rw) s.nx),s.aft (bl++rw) bl.length q.2) else none
  else none
def q6r (E:Orc) (s:S) (rid:Nat) (f:FuncId) (aq0 bd:Code) (rs:List R) (l:List Nat):RS:=
 q1O E s rid f aq0 bd rs (q8u s l++[rid]) (q0G s l) (((rs.flatMap R.rows).eraseDups).filter fun i => !l.contains i)
def q0E (E:Orc) (s:S) (rid:Nat) (args:List R):RS:=
 match s.blk rid with
 | .ob (.lp f tm ps aq0 bd .ready none)=>if args.length=ps.length then q6r E s rid f aq0 bd (q3A tm ps args) (q06 s 60 ((q3A tm ps args).flatMap R.ptrs) []) else none
 | _=>none
structure Snd (P:Program) (E:Orc):Prop where
 fn:∀g k args G r G',E (.fn g) k args G=some (r,G')→AC P g args G k fun r' hp'=>r'=r∧hp'=G'
 rd:∀f aq0 bd k tm G r G',E (.rd f aq0 bd) k tm G=some (r,G')→RA P aq0 bd tm G k fun r' hp'=>r'=r∧hp'=G'
section
variable {P:Program} {E:Orc} {s s':S} {r:R} {K:KK}
theorem q46 (hE:Snd P E) {g:FuncId} {zs:List (List Nat)} {rs:List R} {bl rw ln:List Nat} (h:Zv E s g zs rs bl rw ln=some (r,s')) (hK:K r s'):Jf P s g rs K:=by
 unfold Zv at h
 obtain⟨rs',h1,h2⟩:=qxM.1 h
 obtain⟨G,h3,h4⟩:=qxM.1 h2
 split at h4
 ·rename_i hc
  obtain⟨c1,c2,c3,c4,c5⟩:=hc
  obtain⟨q,h5,h6⟩:=qxM.1 h4
  split at h6
  ·rename_i hok
   obtain⟨rfl,rfl⟩:=zu h6
   have hb:∀j,j<G.length→(lk G j .dead).isBlk=decide (j<bl.length):=fun j hj=>by
    have:=qxY.1 c5 j (qyD.2 hj)
    simpa using this
   refine Jf.sel (bl++rw) ln (hE.fn g bl.length rs' G q.1 q.2 h5) (qbs h1) (qbn h3) c1 c2 c3 c4 hb ?_
   rintro r hp ⟨rfl,rfl⟩
   refine⟨?_,hK⟩
   unfold qko at hok
   simp only[qyc,qyd,List.isEmpty_iff] at hok
   exact hok
  ·cases h6
 ·cases h4
theorem qmz {sel ln:List Nat} {r:R}:AR s sel ln r (cvT s sel ln r):=by
 unfold cvT
 cases h:cvR s sel ln [] r with
 | none=>exact .any _
 | some r'=>exact qbA h
theorem qe8 {sel ln:List Nat}:∀(rs:List R),ARs s sel ln rs (rs.map (cvT s sel ln))
 | [] => .nil
 | r::rs => .cons _ _ _ _ qmz (qe8 rs)
theorem qc0 (hE:Snd P E) {cx:Cx} {ρ:Pl} {a:Act} {w:World} {o:Oper} {next:Act→World→Prop} {Q':Exit→Act→World→Prop} (hs:Sim cx ρ s a w) {y:Operand} {args:Array Operand} {ts:Array TypeId} {rid:Nat} (ho:o.op = .call { callee := .value y,args,argTypes:=ts }) (hy:s.ev y = .c (.hd .yield rid))
  (h:q0E E s rid (args.toList.map s.ev)=some (r,s')) (hn:Qu cx (fun r' s''=>r'=r∧s''=s') o a next):o.wpIn (FW cx.ro) 0 P a w next Q':=by
 unfold q0E at h
 split at h
 ·rename_i f tm ps aq0 bd hb
  split at h
  ·rename_i hlen
   unfold q6r at h
   generalize q8u s (q06 s 60 ((q3A tm ps (args.toList.map s.ev)).flatMap R.ptrs) [])++[rid]=bl at h
   generalize q0G s (q06 s 60 ((q3A tm ps (args.toList.map s.ev)).flatMap R.ptrs) [])=rw at h
   generalize List.filter _ _=ln at h
   unfold q1O at h
   obtain⟨G,h3,h4⟩:=qxM.1 h
   split at h4
   ·rename_i hc
    obtain⟨c1,c2,c3,c4,c5,c6,c7⟩:=hc
    obtain⟨q,h5,h6⟩:=qxM.1 h4
    split at h6
    ·rename_i hok
     obtain⟨rfl,rfl⟩:=zu h6
     have hb':∀j,j<G.length→(lk G j .dead).isBlk=decide (j<bl.length):=fun j hj=>by
      have:=qxY.1 c5 j (qyD.2 hj)
      simpa using this
     refine qgd hs ho hy hb (by simpa using hlen) (bl++rw) ln (hE.rd f aq0 bd bl.length _ G q.1 q.2 h5) (qe8 _) (qbn h3) c1 c2 c3 c4 hb' c6 c7 ?_ hn
     rintro r hp ⟨rfl,rfl⟩
     refine⟨?_,rfl,rfl⟩
     unfold qko at hok
     simp only[qyc,qyd,List.isEmpty_iff] at hok
     exact hok
    ·cases h6
   ·cases h4
  ·cases h
 ·cases h
theorem q7o (hE:Snd P E) {g:FuncId} {ow:List Nat} {zs:List (List Nat)} {rs:List R} (h:q4K E s g ow zs rs=some (r,s')) (hK:K r s'):Jf P s g rs K:=
 q46 hE h hK
end
def fz0 (s:S) (X:List Nat):C→C
 | .own i sz o n=>if X.contains i=true then(match (vis (s.blk i).cells sz o n).bind q3B with|some ds => .d (.sl sz n ds)|none => .any) else .own i sz o n
 | .ptr i o=>if X.contains i=true then .any else .ptr i o
 | .hd k i=>if X.contains i=true then .any else .hd k i
 | .fn _ _ _ => .any
 | c=>c
def fz (s:S) (X:List Nat):C→C
 | .fn f fs caps => .fn f (fs.map (fz0 s X)) (caps.map (fz0 s X))
 | c=>fz0 s X c
def qeR (s:S) (X:List Nat):R→R
 | .c x => .c (fz s X x)
 | .agg xs => .agg (xs.map (fz s X))
 | _ => .any
def fzR (s:S) (X:List Nat):R→R
 | .tup rs => .tup (rs.map (qeR s X))
 | r=>qeR s X r
def fzB (s:S) (X:List Nat):B→B
 | .blk t cs => .blk t (cs.map (fz s X))
 | .row e sz cs => .row e sz (cs.map (fz s X))
 | .ob o => .ob (o.mapR (qeR s X))
 | .dead => .dead
def S.frz1 (s:S) (X:List Nat):S:={ s with tm:=s.tm.map (fun x=>(x.1,fzR s X x.2)),hp:=X.map (fun i=>(i,B.dead))++s.hp.map (fun x=>(x.1,fzB s X x.2)) }
def S.frz (s:S) (X:List Nat):S:=match X with | []=>s|X=>s.frz1 X
theorem qnx (s:S) (X:List Nat) (ds:List D):(ds.map C.d).map (fz s X)=ds.map C.d:=by rw[List.map_map];rfl
theorem qeJ (s:S) (X:List Nat) (x:B):(fzB s X x).isBlk=x.isBlk:=by cases x<;>rfl
theorem qgx (s:S) (X:List Nat) (x:B):(fzB s X x).live=x.live:=by cases x<;>rfl
theorem RC.ow_to {w:World} {L L':Nat→Prop} {ρ ρ':Pl} {v:Value} {e:TypeId} {sz n:Nat} {cs:List D} (h:RC w L ρ v (.ow e sz n cs)) (hF:∀b,ρ.F b→ρ'.F b) (ho:∀b,Occ L' ρ' b→Occ L ρ b):RC w L' ρ' v (.ow e sz n cs):=by
 cases h with
 | ow e sz n b cap cs vs h1 h2 h3 h4 h5 h6 h7 h8=>exact .ow e sz n b cap cs vs (hF b h1) h2 h3 h4 h5 h6 h7 (fun j c hj=>(h8 j c hj).occ ho)
 | ow0 e sz h1=>exact .ow0 e sz h1
theorem qsB {s:S} {X:List Nat} {c:C} (h:(fz s X c).isOw=true):c.isOw=true:=by
 cases c with
 | ow e sz n cs=>rfl
 | ptr i o=>simp only[fz,fz0] at h;split at h<;>cases h
 | hd k i=>simp only[fz,fz0] at h;split at h<;>cases h
 | own i sz o n=>
  simp only[fz,fz0] at h
  split at h
  ·split at h<;>cases h
  ·cases h
 | _=>cases h
theorem qlV {s:S} {X:List Nat} {x:B} {j:Nat} {y:C} (h:(fzB s X x).cells[j]?=some y) (ho:y.isOw=true):∃z,x.cells[j]?=some z∧z.isOw=true:=by
 have e:(fzB s X x).cells=x.cells.map (fz s X):=by cases x<;>rfl
 rw[e,qxV] at h
 obtain⟨z,h1,h2⟩:=qxU.1 h
 exact⟨z,h1,qsB (h2 ▸ ho)⟩
section
variable {cx:Cx} {ρ:Pl} {s:S} {a:Act} {w:World} {X:List Nat}
theorem S.frz1_get (i:Nat):(s.frz1 X).get i=fzR s X (s.get i):=Zu (fzR s X) s.tm i .any rfl
theorem S.frz1_blk (i:Nat):(s.frz1 X).blk i=if i∈X then .dead else fzB s X (s.blk i):=by
 show lk (X.map (fun i=>(i,B.dead))++s.hp.map (fun x=>(x.1,fzB s X x.2))) i .dead=_
 rw[q62,Zu (fzB s X) s.hp i .dead rfl]
 rfl
theorem Sim.frz1 (hs:Sim cx ρ s a w) (hX:∀i∈X,(s.blk i).isBlk=false):Sim cx ρ (s.frz1 X) a w∧∀v r,RR w s.live ρ v r→RR w (s.frz1 X).live ρ v (fzR s X r):=by
 have hlive:∀i,(s.frz1 X).live i↔s.live i∧i ∉ X:=fun i=>by
  unfold S.live
  rw[S.frz1_blk]
  by_cases hi:i∈X
  ·rw[if_pos hi];exact⟨fun h=>(by cases h),fun h=>absurd hi h.2⟩
  ·rw[if_neg hi,qgx];exact⟨fun h=>⟨h,hi⟩,fun h=>h.1⟩
 have hocc:∀b,Occ (s.frz1 X).live ρ b→Occ s.live ρ b:=fun b h=>by
  rcases h with h|⟨i,c,h1,h2⟩
  ·exact .inl h
  ·exact .inr ⟨i,c,((hlive i).1 h1).1,h2⟩
 have hno:∀id,s.live id→id∈X→∀b cap,ρ id=some (b,cap)→¬ Occ (s.frz1 X).live ρ b:=fun id hl hid b cap hr hO=>by
  rcases hO with h|⟨i,c,h1,h2⟩
  ·exact hs.disj id b cap hl hr h
  ·have h3:=(hlive i).1 h1
   have:=hs.inj i id b c cap h3.1 hl h2 hr
   subst this
   exact h3.2 hid
 have c0:∀v x,RC w s.live ρ v x→RC w (s.frz1 X).live ρ v (fz0 s X x):=by
  intro v x h
  cases x with
  | own i sz o n=>
   show RC w _ ρ v (if X.contains i=true then _ else _)
   split
   ·rename_i hc
    split
    ·rename_i ds hds
     obtain⟨l,h1,h2⟩:=qxM.1 hds
     obtain⟨h3,h4⟩:=qhh h1
     have h5:=q24 h2
     have hl:s.live i:=by cases h with|own _ _ _ _ b cap q1 q2 q3 q4=>exact q1|own0 _ _ q1 q2=>exact q1
     exact .d _ _ (qbx hs h (h3.trans h5) (by rw[h5] at h4;simpa using h4) hocc (hno i hl (by simpa using hc)))
    ·exact .any _
   ·rename_i hc
    have hi:i ∉ X:=by simpa using hc
    cases h with
    | own _ _ _ _ b cap q1 q2 q3 q4=>exact .own i sz o n b cap ((hlive i).2 ⟨q1,hi⟩) q2 q3 q4
    | own0 _ _ q1 q2=>exact .own0 i sz ((hlive i).2 ⟨q1,hi⟩) q2
  | ptr i o=>
   show RC w _ ρ v (if X.contains i=true then _ else _)
   split
   ·exact .any _
   ·rename_i hc
    have hi:i ∉ X:=by simpa using hc
    cases h with|ptr _ _ b cap q1 q2=>exact .ptr i o b cap ((hlive i).2 ⟨q1,hi⟩) q2
  | hd k i=>
   show RC w _ ρ v (if X.contains i=true then _ else _)
   split
   ·exact .any _
   ·rename_i hc
    have hi:i ∉ X:=by simpa using hc
    cases h with|hd _ _ b cap q1 q2=>exact .hd k i b cap ((hlive i).2 ⟨q1,hi⟩) q2
  | fn f fs caps=>exact .any _
  | d x=>exact h.dat' rfl hocc
  | nilp=>exact h.dat' rfl hocc
  | nilf=>exact h.dat' rfl hocc
  | nilm=>exact h.dat' rfl hocc
  | nils=>exact h.dat' rfl hocc
  | eptr cs o=>exact h.dat' rfl hocc
  | clp sz n cs=>exact h.dat' rfl hocc
  | ow e sz n cs=>exact h.ow_to (fun b hb=>hb) hocc
  | any=>exact .any _
 have c1:∀v x,RC w s.live ρ v x→RC w (s.frz1 X).live ρ v (fz s X x):=by
  intro v x h
  cases x with
  | fn f fs caps=>
   cases h with
   | fn _ _ _ us vs h1 h2 h3 h4=>
    refine .fn f _ _ us vs (by simpa using h1) (fun j c hj=>?_) (by simpa using h3) (fun j c hj=>?_)
    ·rw[qxV] at hj
     obtain⟨y,g1,g2⟩:=qxU.1 hj
     exact g2 ▸ c0 _ _ (h2 j y g1)
    ·rw[qxV] at hj
     obtain⟨y,g1,g2⟩:=qxU.1 hj
     exact g2 ▸ c0 _ _ (h4 j y g1)
  | _=>exact c0 _ _ h
 have cm:∀{vs:Nat→Value} {cs:List C},(∀j c,cs[j]?=some c→RC w s.live ρ (vs j) c)→∀j c,(cs.map (fz s X))[j]?=some c→RC w (s.frz1 X).live ρ (vs j) c:=fun h j c hj=>by
  rw[qxV] at hj
  obtain⟨y,g1,g2⟩:=qxU.1 hj
  exact g2 ▸ c1 _ _ (h j y g1)
 have r0:∀v r,RR w s.live ρ v r→RR w (s.frz1 X).live ρ v (qeR s X r):=by
  intro v r h
  cases h with
  | c v x h=>exact .c _ _ (c1 _ _ h)
  | agg vs xs h1 h2=>exact .agg _ _ (by simpa using h1) (cm h2)
  | tup vs xs h1 h2=>exact .any _
  | any v=>exact .any _
 have r1:∀v r,RR w s.live ρ v r→RR w (s.frz1 X).live ρ v (fzR s X r):=by
  intro v r h
  cases r with
  | tup rs=>
   cases h with
   | tup vs _ h1 h2=>
    refine .tup _ _ (by simpa using h1) (fun j c hj=>?_)
    rw[qxV] at hj
    obtain⟨y,g1,g2⟩:=qxU.1 hj
    exact g2 ▸ r0 _ _ (h2 j y g1)
  | _=>exact r0 _ _ h
 refine⟨⟨hs.hd.mono (qxX _) (fun _ _ _=>rfl) (fun b _ h=>hocc b h),hs.size,fun i=>by rw[S.frz1_get];exact r1 _ _ (hs.tm i),fun i b c hi hr=>?_,fun i hi hr=>?_,fun i b c hi hr=>hs.out i b c ((hlive i).1 hi).1 hr,
  fun i j b c c' hi hj hri hrj=>hs.inj i j b c c' ((hlive i).1 hi).1 ((hlive j).1 hj).1 hri hrj,fun i hi=>hs.nx i ((hlive i).1 hi).1,hs.kept,hs.oldF,fun i hi=>?_,fun i b c hi hr=>hs.disj i b c ((hlive i).1 hi).1 hr,?_⟩,r1⟩
 ·obtain⟨h1,h2⟩:=(hlive i).1 hi
  obtain⟨h3,h4⟩:=hs.hp i b c h1 hr
  refine⟨h3,?_⟩
  rw[S.frz1_blk,if_neg h2]
  generalize s.blk i=x at h4
  cases x with
  | blk t cs=>obtain⟨vs,g1,g2,g3⟩:=h4;exact⟨vs,g1,by simpa using g2,cm g3⟩
  | row e sz cs=>obtain⟨vs,g1,g2,g3,g4,g5,g6⟩:=h4;exact⟨vs,g1,by simpa using g2,g3,g4,g5,cm g6⟩
  | ob o=>exact HO.map rfl (fun v x _ hx=>r0 v x hx) h4
  | dead=>trivial
 ·obtain⟨h1,h2⟩:=(hlive i).1 hi
  obtain⟨e,sz,h3⟩:=hs.hp0 i h1 hr
  exact⟨e,sz,by rw[S.frz1_blk,if_neg h2,h3];rfl⟩
 ·obtain⟨h1,h2⟩:=hs.pin i hi
  have hn:i ∉ X:=fun h=>by have:=hX i h;rw[h2] at this;cases this
  exact⟨h1,by rw[S.frz1_blk,if_neg hn,qeJ,h2]⟩
 ·refine hs.ows.sub hs.ows.lt fun i j d hw=>?_
  obtain⟨b,c,y,n,c',l1,l2,l3,l4,l5⟩:=hw
  obtain⟨h1,h2⟩:=(hlive i).1 l1
  rw[S.frz1_blk,if_neg h2] at l3
  obtain⟨z,e1,e2⟩:=qlV l3 l4
  exact⟨b,c,z,n,c',h1,l2,e1,e2,l5⟩
theorem Sim.frz (hs:Sim cx ρ s a w) (hX:X.all (fun i => !(s.blk i).isBlk)=true):Sim cx ρ (s.frz X) a w:=by
 cases X with
 | nil=>exact hs
 | cons x X=>exact(hs.frz1 fun i hi=>by have:=qxY.1 hX i hi;simpa using this).1
end
def dz (z:Nat):C→C
 | .nils=>if z=0 then .nils else .d (.sl z 0 [])
 | c=>c
def C.isNils:C→Bool
 | .nils=>true
 | _=>false
def dzc (zs0:List Nat):List Nat→List C→List C
 | _,[]=>[]
 | [],x::r=>dz (zs0.headD 0) x::dzc zs0 zs0.tail r
 | z::zs,x::r=>dz z x::dzc zs0 zs r
def B.nilr:B→Bool
 | .row _ _ cs=>cs.any C.isNils
 | _=>false
def dzB (Q:TypeId→List Nat):B→B
 | .row e sz cs=>if cs.any C.isNils=true then .row e sz (dzc (Q e) [] cs) else .row e sz cs
 | b=>b
def S.dzr (s:S) (Q:TypeId→List Nat):S:=if s.hp.any (fun x=>x.2.nilr)=true then { s with hp:=s.hp.map fun x=>(x.1,dzB Q x.2) } else s
theorem qgu (ds:List D):(ds.map C.d).any C.isNils=false:=by rw[List.any_map];exact List.any_eq_false.2 fun x _=>by simp[C.isNils]
section
variable {cx:Cx} {ρ:Pl} {s:S} {a:Act} {w:World} {Q:TypeId→List Nat}
theorem qi6 {L:Nat→Prop} {v:Value} {x:C} (z:Nat) (h:RC w L ρ v x):RC w L ρ v (dz z x):=by
 unfold dz
 split
 ·split
  ·exact h
  ·rw[(RR.c _ _ h).inv_nils];exact .d _ _ (.nil _ _ _ (qy7 _) (fun _=>rfl))
 ·exact h
theorem qa2 (zs0:List Nat):∀(zs:List Nat) (cs:List C),(dzc zs0 zs cs).length=cs.length∧∀(j:Nat) (y:C),(dzc zs0 zs cs)[j]?=some y→∃x z,cs[j]?=some x∧y=dz z x
 | zs,[]=>by cases zs<;>exact⟨rfl,fun j y h=>by simp[dzc] at h⟩
 | [],x::r=>by
  obtain⟨h1,h2⟩:=qa2 zs0 zs0.tail r
  refine⟨by simp[dzc,h1],fun j y hj=>?_⟩
  cases j with
  | zero=>simp only[dzc,qxR,qyw] at hj;exact⟨x,_,rfl,hj.symm⟩
  | succ j=>simp only[dzc,qy6] at hj ⊢;exact h2 j y hj
 | z::zs,x::r=>by
  obtain⟨h1,h2⟩:=qa2 zs0 zs r
  refine⟨by simp[dzc,h1],fun j y hj=>?_⟩
  cases j with
  | zero=>simp only[dzc,qxR,qyw] at hj;exact⟨x,_,rfl,hj.symm⟩
  | succ j=>simp only[dzc,qy6] at hj ⊢;exact h2 j y hj
theorem q6x (e:TypeId) (sz:Nat) (cs:List C):dzB Q (.row e sz cs)=if cs.any C.isNils=true then .row e sz (dzc (Q e) [] cs) else .row e sz cs:=rfl
theorem qfU (b:B):(dzB Q b).live=b.live:=by
 cases b with
 | row e sz cs=>rw[q6x];split<;>rfl
 | _=>rfl
theorem qdf (b:B):(dzB Q b).isBlk=b.isBlk:=by
 cases b with
 | row e sz cs=>rw[q6x];split<;>rfl
 | _=>rfl
theorem S.dzr_blk (s:S) (i:Nat):(s.dzr Q).blk i=dzB Q (s.blk i)∨(s.dzr Q).blk i=s.blk i:=by
 unfold S.dzr
 split
 ·exact .inl (Zu (dzB Q) s.hp i .dead rfl)
 ·exact .inr rfl
theorem S.dzr_live (s:S):(s.dzr Q).live=s.live:=by
 funext i
 unfold S.live
 rcases S.dzr_blk (Q:=Q) s i with h|h
 ·rw[h,qfU]
 ·rw[h]
theorem Sim.dzr (h:Sim cx ρ s a w) (Q:TypeId→List Nat):Sim cx ρ (s.dzr Q) a w:=by
 have hl:=S.dzr_live (Q:=Q) s
 have hg:∀i,(s.dzr Q).get i=s.get i:=fun i=>by unfold S.dzr;split<;>rfl
 have hn:(s.dzr Q).n=s.n:=by unfold S.dzr;split<;>rfl
 have hnx:(s.dzr Q).nx=s.nx:=by unfold S.dzr;split<;>rfl
 refine⟨by rw[hl];exact h.hd,by rw[hn];exact h.size,fun i=>by rw[hl,hg];exact h.tm i,fun i b cap hi hr=>?_,fun i hi hr=>?_,by rw[hl];exact h.out,by rw[hl];exact h.inj,by rw[hl,hnx];exact h.nx,h.kept,h.oldF,fun i hi=>?_,by rw[hl];exact h.disj,?_⟩
 ·rw[hl] at hi ⊢
  obtain⟨h1,h2⟩:=h.hp i b cap hi hr
  refine⟨h1,?_⟩
  rcases S.dzr_blk (Q:=Q) s i with e|e
  ·rw[e]
   cases hb:s.blk i with
   | row e' sz cs=>
    rw[hb] at h2
    rw[q6x]
    split
    ·obtain⟨vs,g1,g2,g3,g4,g5,g6⟩:=h2
     obtain⟨q1,q2⟩:=qa2 (Q e') [] cs
     refine⟨vs,g1,by rw[q1];exact g2,g3,g4,g5,fun j c hj=>?_⟩
     obtain⟨x,z,r1,r2⟩:=q2 j c hj
     rw[r2];exact qi6 z (g6 j x r1)
    ·exact h2
   | blk t cs=>rw[hb] at h2;exact h2
   | ob o=>rw[hb] at h2;exact h2
   | dead=>rw[hb] at h2;exact h2
  ·rw[e];exact h2
 ·rw[hl] at hi
  obtain⟨e,sz,g⟩:=h.hp0 i hi hr
  rcases S.dzr_blk (Q:=Q) s i with e' | e'
  ·exact⟨e,sz,by rw[e',g];rfl⟩
  ·exact⟨e,sz,by rw[e',g]⟩
 ·obtain⟨h1,h2⟩:=h.pin i hi
  refine⟨h1,?_⟩
  rcases S.dzr_blk (Q:=Q) s i with e|e
  ·rw[e,qdf];exact h2
  ·rw[e];exact h2
 ·refine h.ows.sub h.ows.lt fun i j d hw=>?_
  obtain⟨b,c,y,n,c',l1,l2,l3,l4,l5⟩:=hw
  rw[hl] at l1
  rcases S.dzr_blk (Q:=Q) s i with e|e
  ·rw[e] at l3
   obtain⟨z,e1,e2⟩:∃z,(s.blk i).cells[j]?=some z∧z.isOw=true:=by
    cases hb:s.blk i with
    | row e' sz cs=>
     rw[hb,q6x] at l3
     split at l3
     ·obtain⟨x,z,r1,r2⟩:=(qa2 (Q e') [] cs).2 j y l3
      refine⟨x,r1,?_⟩
      subst r2
      unfold dz at l4
      split at l4
      ·split at l4<;>first|exact l4|cases l4
      ·exact l4
     ·exact⟨y,l3,l4⟩
    | blk t cs=>rw[hb] at l3;exact⟨y,l3,l4⟩
    | ob o=>rw[hb] at l3;exact⟨y,l3,l4⟩
    | dead=>rw[hb] at l3;exact⟨y,l3,l4⟩
   exact⟨b,c,z,n,c',l1,l2,e1,e2,l5⟩
  ·rw[e] at l3
   exact⟨b,c,y,n,c',l1,l2,l3,l4,l5⟩
end
end
noncomputable section
open Go.RowKit
def cn0 (ids:List Nat):C→C
 | .ptr i o=>match pos i ids with|some j => .ptr j o|none => .any
 | .hd k i=>match pos i ids with|some j => .hd k j|none => .any
 | .own i sz o n=>match pos i ids with|some j => .own j sz o n|none => .any
 | .fn _ _ _ => .any
 | c=>c
def cn (ids:List Nat):C→C
 | .fn f fs caps => .fn f (fs.map (cn0 ids)) (caps.map (cn0 ids))
 | c=>cn0 ids c
def qcp (ids:List Nat):R→R
 | .c x => .c (cn ids x)
 | .agg xs => .agg (xs.map (cn ids))
 | _ => .any
def cnR (ids:List Nat):R→R
 | .tup rs => .tup (rs.map (qcp ids))
 | r=>qcp ids r
def cnB (ids:List Nat):B→B
 | .blk t cs => .blk t (cs.map (cn ids))
 | .row e sz cs => .row e sz (cs.map (cn ids))
 | .ob o => .ob (o.mapR (qcp ids))
 | .dead => .dead
def cnH (s:S) (ids:List Nat):List Nat→Nat→List (Nat×B)
 | [],_=>[]
 | i::l,j=>(j,cnB ids (s.blk i))::cnH s ids l (j+1)
theorem qm4 (ids:List Nat) (ds:List D):(ds.map C.d).map (cn ids)=ds.map C.d:=by rw[List.map_map];rfl
theorem qc5 (ids:List Nat) (x:B):(cnB ids x).isBlk=x.isBlk:=by cases x<;>rfl
theorem qgl (ids:List Nat) (x:B):(cnB ids x).live=x.live:=by cases x<;>rfl
theorem qt1 {ids:List Nat} {c:C} (h:(cn ids c).isOw=true):c.isOw=true:=by
 cases c with
 | ow e sz n cs=>rfl
 | ptr i o=>simp only[cn,cn0] at h;split at h<;>cases h
 | hd k i=>simp only[cn,cn0] at h;split at h<;>cases h
 | own i sz o n=>simp only[cn,cn0] at h;split at h<;>cases h
 | _=>cases h
theorem qnY {ids:List Nat} {x:B} {j:Nat} {y:C} (h:(cnB ids x).cells[j]?=some y) (ho:y.isOw=true):∃z,x.cells[j]?=some z∧z.isOw=true:=by
 have e:(cnB ids x).cells=x.cells.map (cn ids):=by cases x<;>rfl
 rw[e,qxV] at h
 obtain⟨z,h1,h2⟩:=qxU.1 h
 exact⟨z,h1,qt1 (h2 ▸ ho)⟩
theorem qhf (s:S) (ids:List Nat):∀(l:List Nat) (k j:Nat),lk (cnH s ids l k) j .dead=if k≤j then(match l[j-k]? with|some i=>cnB ids (s.blk i)|none => .dead) else .dead
 | [],k,j=>by simp[cnH,lk]
 | i::l,k,j=>by
  unfold cnH lk
  by_cases h:k=j
  ·subst h;simp
  ·rw[if_neg h,qhf s ids l (k+1) j]
   by_cases h2:k≤j
   ·rw[if_pos h2,if_pos (by omega),show j-k=(j-(k+1))+1 by omega,qy6]
   ·rw[if_neg h2,if_neg (by omega)]
section
variable {cx:Cx} {ρ:Pl} {s:S} {a a':Act} {w:World} {ids:List Nat}
theorem Sim.canon (hs:Sim cx ρ s a w) (hnd:ids.Nodup) (hl:ids.all (fun i=>(s.blk i).live)=true) (hpin:∀i,i<cx.k→ids[i]?=some i) {tm:List (Nat×R)} {n:Nat}
  (hd:Hd cx a'.defers w (Occ s.live ρ)) (hz:a'.tmps.size=n) (htm:∀i,lk tm i .any = .any∨∃r,RR w s.live ρ (a'.tmps.getD i undef) r∧lk tm i .any=cnR ids r) :
  ∃ρ',Sim cx ρ' ⟨tm,cnH s ids ids 0,ids.length,n⟩ a' w∧∀v r,RR w s.live ρ v r→RR w (S.live ⟨tm,cnH s ids ids 0,ids.length,n⟩) ρ' v (cnR ids r):=by
 obtain⟨s',hs'⟩:∃s':S,s'=⟨tm,cnH s ids ids 0,ids.length,n⟩:=⟨_,rfl⟩
 rw[←hs']
 have hblk:∀j,s'.blk j=match ids[j]? with|some i=>cnB ids (s.blk i)|none => .dead:=fun j=>by
  rw[hs']
  show lk (cnH s ids ids 0) j .dead=_
  rw[qhf,if_pos (qy7 _),qyz]
 have hli:∀{i j:Nat},ids[j]?=some i→s.live i:=fun {i j} hj=>qxY.1 hl i (qxI hj)
 have hlive:∀{i j:Nat},ids[j]?=some i→s'.live j:=fun {i j} hj=>by
  unfold S.live
  rw[hblk,hj]
  simp only
  rw[qgl]
  exact hli hj
 have hlive':∀j,s'.live j→∃i,ids[j]?=some i:=fun j hj=>by
  unfold S.live at hj
  rw[hblk] at hj
  cases h:ids[j]? with
  | none=>rw[h] at hj;cases hj
  | some i=>exact⟨i,rfl⟩
 obtain⟨ρ',hρ⟩:∃ρ':Pl,ρ'=⟨fun j=>(ids[j]?).bind ρ.at_,ρ.F⟩:=⟨_,rfl⟩
 have hρF:ρ'.F=ρ.F:=by rw[hρ]
 have hρi:∀{i j:Nat},ids[j]?=some i→ρ' j=ρ i:=fun {i j} hj=>by rw[hρ];show(ids[j]?).bind ρ.at_=_;rw[hj];rfl
 have hocc:∀b,Occ s'.live ρ' b→Occ s.live ρ b:=fun b h=>by
  rcases h with h|⟨j,c,h1,h2⟩
  ·exact .inl (hρF ▸ h)
  ·obtain⟨i,hi⟩:=hlive' j h1
   exact .inr ⟨i,c,hli hi,(hρi hi).symm.trans h2⟩
 have c0:∀v x,RC w s.live ρ v x→RC w s'.live ρ' v (cn0 ids x):=by
  intro v x h
  cases x with
  | ptr i o=>
   simp only[cn0]
   split
   ·rename_i j hj
    have hj:=q4Z hj
    cases h with|ptr _ _ b cap q1 q2=>exact .ptr j o b cap (hlive hj) ((hρi hj).trans q2)
   ·exact .any _
  | hd k i=>
   simp only[cn0]
   split
   ·rename_i j hj
    have hj:=q4Z hj
    cases h with|hd _ _ b cap q1 q2=>exact .hd k j b cap (hlive hj) ((hρi hj).trans q2)
   ·exact .any _
  | own i sz o n=>
   simp only[cn0]
   split
   ·rename_i j hj
    have hj:=q4Z hj
    cases h with
    | own _ _ _ _ b cap q1 q2 q3 q4=>exact .own j sz o n b cap (hlive hj) ((hρi hj).trans q2) q3 q4
    | own0 _ _ q1 q2=>exact .own0 j sz (hlive hj) ((hρi hj).trans q2)
   ·exact .any _
  | fn f fs caps=>exact .any _
  | d x=>exact h.dat' rfl hocc
  | nilp=>exact h.dat' rfl hocc
  | nilf=>exact h.dat' rfl hocc
  | nilm=>exact h.dat' rfl hocc
  | nils=>exact h.dat' rfl hocc
  | eptr cs o=>exact h.dat' rfl hocc
  | clp sz n cs=>exact h.dat' rfl hocc
  | ow e sz n cs=>exact h.ow_to (fun b hb=>hρF ▸ hb) hocc
  | any=>exact .any _
 have c1:∀v x,RC w s.live ρ v x→RC w s'.live ρ' v (cn ids x):=by
  intro v x h
  cases x with
  | fn f fs caps=>
   cases h with
   | fn _ _ _ us vs h1 h2 h3 h4=>
    refine .fn f _ _ us vs (by simpa using h1) (fun j c hj=>?_) (by simpa using h3) (fun j c hj=>?_)
    ·rw[qxV] at hj
     obtain⟨y,g1,g2⟩:=qxU.1 hj
     exact g2 ▸ c0 _ _ (h2 j y g1)
    ·rw[qxV] at hj
     obtain⟨y,g1,g2⟩:=qxU.1 hj
     exact g2 ▸ c0 _ _ (h4 j y g1)
  | _=>exact c0 _ _ h
 have cm:∀{vs:Nat→Value} {cs:List C},(∀j c,cs[j]?=some c→RC w s.live ρ (vs j) c)→∀j c,(cs.map (cn ids))[j]?=some c→RC w s'.live ρ' (vs j) c:=fun h j c hj=>by
  rw[qxV] at hj
  obtain⟨y,g1,g2⟩:=qxU.1 hj
  exact g2 ▸ c1 _ _ (h j y g1)
 have r0:∀v r,RR w s.live ρ v r→RR w s'.live ρ' v (qcp ids r):=by
  intro v r h
  cases h with
  | c v x h=>exact .c _ _ (c1 _ _ h)
  | agg vs xs h1 h2=>exact .agg _ _ (by simpa using h1) (cm h2)
  | tup vs xs h1 h2=>exact .any _
  | any v=>exact .any _
 have r1:∀v r,RR w s.live ρ v r→RR w s'.live ρ' v (cnR ids r):=by
  intro v r h
  cases r with
  | tup rs=>
   cases h with
   | tup vs _ h1 h2=>
    refine .tup _ _ (by simpa using h1) (fun j c hj=>?_)
    rw[qxV] at hj
    obtain⟨y,g1,g2⟩:=qxU.1 hj
    exact g2 ▸ r0 _ _ (h2 j y g1)
  | _=>exact r0 _ _ h
 refine⟨ρ',⟨hd.mono (qxX _) (fun _ _ _=>rfl) (fun b _ h=>hocc b h),by rw[hz,hs'],fun i=>?_,fun j b c hj hr=>?_,fun j hj hr=>?_,fun j b c hj hr=>?_,fun j j' b c c' hj hj' hrj hrj'=>?_,fun j hj=>?_,hs.kept,fun b hb=>⟨hρF ▸ (hs.oldF b hb).1,(hs.oldF b hb).2⟩,fun i hi=>?_,fun j b c hj hr=>?_,?_⟩,r1⟩
 ·have:s'.get i=lk tm i .any:=by rw[hs'];rfl
  rw[this]
  rcases htm i with h|⟨r,h1,h2⟩
  ·rw[h];exact .any _
  ·rw[h2];exact r1 _ _ h1
 ·obtain⟨i,hi⟩:=hlive' j hj
  rw[hρi hi] at hr
  obtain⟨h3,h4⟩:=hs.hp i b c (hli hi) hr
  refine⟨h3,?_⟩
  rw[hblk,hi]
  simp only
  generalize s.blk i=x at h4
  cases x with
  | blk t cs=>obtain⟨vs,g1,g2,g3⟩:=h4;exact⟨vs,g1,by simpa using g2,cm g3⟩
  | row e sz cs=>obtain⟨vs,g1,g2,g3,g4,g5,g6⟩:=h4;exact⟨vs,g1,by simpa using g2,g3,g4,g5,cm g6⟩
  | ob o=>exact HO.map rfl (fun v x _ hx=>r0 v x hx) h4
  | dead=>trivial
 ·obtain⟨i,hi⟩:=hlive' j hj
  rw[hρi hi] at hr
  obtain⟨e,sz,h3⟩:=hs.hp0 i (hli hi) hr
  exact⟨e,sz,by rw[hblk,hi];simp only;rw[h3];rfl⟩
 ·obtain⟨i,hi⟩:=hlive' j hj
  rw[hρi hi] at hr
  exact hs.out i b c (hli hi) hr
 ·obtain⟨i,hi⟩:=hlive' j hj
  obtain⟨i',hi'⟩:=hlive' j' hj'
  rw[hρi hi] at hrj
  rw[hρi hi'] at hrj'
  have:=hs.inj i i' b c c' (hli hi) (hli hi') hrj hrj'
  subst this
  obtain⟨l1,e1⟩:=qxL.1 hi
  obtain⟨l2,e2⟩:=qxL.1 hi'
  exact(List.getElem_inj hnd).1 (e1.trans e2.symm)
 ·obtain⟨i,hi⟩:=hlive' j hj
  have:=(qxL.1 hi).1
  rw[hs'];exact this
 ·obtain⟨h1,h2⟩:=hs.pin i hi
  have hii:=hpin i hi
  exact⟨(hρi hii).trans h1,by rw[hblk,hii];simp only;rw[qc5,h2]⟩
 ·obtain⟨i,hi⟩:=hlive' j hj
  rw[hρi hi] at hr
  rw[hρF]
  exact hs.disj i b c (hli hi) hr
 ·refine hs.ows.map (fun j=>(ids[j]?).getD 0) (fun b hb=>hs.ows.lt b (hρF ▸ hb)) (fun j j' hj hj' he=>?_) fun j k d hw=>?_
  ·obtain⟨i,hi⟩:=hlive' j hj
   obtain⟨i',hi'⟩:=hlive' j' hj'
   rw[hi,hi',Option.getD_some,Option.getD_some] at he
   subst he
   obtain⟨l1,e1⟩:=qxL.1 hi
   obtain⟨l2,e2⟩:=qxL.1 hi'
   exact(List.getElem_inj hnd).1 (e1.trans e2.symm)
  ·obtain⟨b,c,y,n',c',l1,l2,l3,l4,l5⟩:=hw
   obtain⟨i,hi⟩:=hlive' j l1
   rw[hρi hi] at l2
   rw[hblk,hi] at l3
   obtain⟨z,e1,e2⟩:=qnY l3 l4
   show q6v s ρ w ((ids[j]?).getD 0) k d
   rw[hi,Option.getD_some]
   exact⟨b,c,z,n',c',hli hi,l2,e1,e2,l5⟩
theorem Sim.row0 (h:Sim cx ρ s a w) {p:Nat} (hp:¬ s.live p) (e:TypeId) (sz:Nat):∃ρ':Pl,Sim cx ρ' (s.up [(p,.row e sz [])]) a w∧ρ' p=none∧(∀v r,RR w s.live ρ v r→RR w (s.up [(p,.row e sz [])]).live ρ' v r)∧∀i,s.live i→ρ' i=ρ i:=by
 obtain⟨ρ',hρ⟩:∃ρ':Pl,ρ'=⟨fun i=>if i=p then none else ρ i,ρ.F⟩:=⟨_,rfl⟩
 have hρp:ρ' p=none:=by rw[hρ];exact if_pos rfl
 have hρi:∀i,i≠p→ρ' i=ρ i:=fun i hi=>by rw[hρ];exact if_neg hi
 have hne:∀i,s.live i→i≠p:=fun i hi e=>hp (e ▸ hi)
 have hl1:∀i,s.live i→(s.up [(p,.row e sz [])]).live i:=fun i hi=>by
  unfold S.live at hi ⊢
  rw[S.blk_up,if_neg (Ne.symm (hne i hi))];exact hi
 have hl2:∀i,(s.up [(p,.row e sz [])]).live i→i≠p→s.live i:=fun i hi hn=>by
  unfold S.live at hi ⊢
  rw[S.blk_up,if_neg (Ne.symm hn)] at hi;exact hi
 have hst:q2V w s.live ρ w (s.up [(p,.row e sz [])]).live ρ':=by
  refine⟨qxX _,fun _ _ _=>rfl,fun b _ hO=>?_,fun i hi=>⟨hl1 i hi,hρi i (hne i hi)⟩,fun b hF=>⟨by rw[hρ];exact hF,fun _=>rfl⟩⟩
  rcases hO with h|⟨i,c,h1,h2⟩
  ·exact .inl (by rw[hρ] at h;exact h)
  ·have hn:i≠p:=fun e=>by rw[e,hρp] at h2;cases h2
   exact .inr ⟨i,c,hl2 i h1 hn,(hρi i hn).symm.trans h2⟩
 have hsome:∀i b c,ρ' i=some (b,c)→i≠p∧ρ i=some (b,c):=fun i b c hr=>by
  have hn:i≠p:=fun e=>by rw[e,hρp] at hr;cases hr
  exact⟨hn,(hρi i hn).symm.trans hr⟩
 refine⟨ρ',⟨h.hd.stay hst,h.size,fun i=>(h.tm i).stay hst,fun i b c hi hr=>?_,fun i hi hr=>?_,fun i b c hi hr=>?_,fun i j b c c' hi hj hri hrj=>?_,fun i hi=>?_,h.kept,fun b hb=>⟨by rw[hρ];exact(h.oldF b hb).1,(h.oldF b hb).2⟩,fun i hi=>?_,fun i b c hi hr=>?_,?_⟩,hρp,fun v r hr=>hr.stay hst,fun i hi=>hρi i (hne i hi)⟩
 ·obtain⟨h1,h2⟩:=hsome i b c hr
  obtain⟨h3,h4⟩:=h.hp i b c (hl2 i hi h1) h2
  rw[S.blk_up,if_neg (Ne.symm h1)]
  exact⟨h3,h4.stay hst rfl⟩
 ·by_cases hn:i=p
  ·subst hn;exact⟨e,sz,by rw[S.blk_up,if_pos rfl]⟩
  ·rw[S.blk_up,if_neg (Ne.symm hn)]
   exact h.hp0 i (hl2 i hi hn) ((hρi i hn).symm.trans hr)
 ·obtain⟨h1,h2⟩:=hsome i b c hr
  exact h.out i b c (hl2 i hi h1) h2
 ·obtain⟨h1,h2⟩:=hsome i b c hri
  obtain⟨h3,h4⟩:=hsome j b c' hrj
  exact h.inj i j b c c' (hl2 i hi h1) (hl2 j hj h3) h2 h4
 ·show i<max s.nx (p+1)
  by_cases hn:i=p
  ·omega
  ·have:=h.nx i (hl2 i hi hn);omega
 ·obtain⟨h1,h2⟩:=h.pin i hi
  have hn:i≠p:=fun e=>hp (by rw[←e];exact B.live_of h2)
  exact⟨(hρi i hn).trans h1,by rw[S.blk_up,if_neg (Ne.symm hn)];exact h2⟩
 ·obtain⟨h1,h2⟩:=hsome i b c hr
  rw[hρ]
  exact h.disj i b c (hl2 i hi h1) h2
 ·refine h.ows.sub (fun b hF=>h.ows.lt b (by rw[hρ] at hF;exact hF)) fun i j d hw=>?_
  obtain⟨b,c,y,n,c',l1,l2,l3,l4,l5⟩:=hw
  obtain⟨h1,h2⟩:=hsome i b c l2
  rw[S.blk_up,if_neg (Ne.symm h1)] at l3
  exact⟨b,c,y,n,c',hl2 i l1 h1,h2,l3,l4,l5⟩
theorem qbN {cs:List C} {i j:Nat} {x y:C} (h:(cs.set i x)[j]?=some y) (ho:y.isOw=true) (hx:x.isOw=false):cs[j]?=some y:=by
 by_cases e:i=j
 ·subst e
  rw[List.getElem?_set,if_pos rfl] at h
  split at h
  ·injection h with h;subst h;rw[ho] at hx;cases hx
  ·cases h
 ·rwa [qyF e] at h
inductive Rw where
 | slot (i:Nat) (e:TypeId) (sz:Nat)
 | cell (i off:Nat) (e:TypeId) (sz:Nat)
 | dcell (i off sz:Nat)
 | dslot (i sz:Nat)
 | fslot (i:Nat)
 deriving Inhabited
def rw1 (s:S):Rw→S
 | .slot i e sz=>match s.get i with
  | .c .nils=>(s.up [(s.nx,.row e sz [])]).put (some i) (.c (.own s.nx sz 0 0))
  | _=>s
 | .cell i off e sz=>match s.get i with
  | .c (.ptr id o)=>match s.blk id with
   | .blk t cs=>match cs[o+off]? with
    | some .nils=>(s.up [(s.nx,.row e sz [])]).up [(id,.blk t (cs.set (o+off) (.own s.nx sz 0 0)))]
    | _=>s
   | _=>s
  | _=>s
 | .dcell i off sz=>match s.get i with
  | .c (.ptr id o)=>match s.blk id with
   | .blk t cs=>match cs[o+off]? with
    | some .nils=>s.up [(id,.blk t (cs.set (o+off) (.d (.sl sz 0 []))))]
    | _=>s
   | _=>s
  | _=>s
 | .dslot i sz=>match s.get i with
  | .c .nils=>s.put (some i) (.c (.d (.sl sz 0 [])))
  | _=>s
 | .fslot i=>s.frz (((s.get i).rows).filter fun j => !(s.blk j).isBlk)
theorem Sim.rw1 (hs:Sim cx ρ s a w) (x:Rw):∃ρ',Sim cx ρ' (rw1 s x) a w:=by
 have hnl:¬ s.live s.nx:=fun h=>by have:=hs.nx _ h;omega
 cases x with
 | slot i e sz=>
  simp only[Vc.rw1]
  split
  ·rename_i hi
   obtain⟨ρ',h1,h2,h3,-⟩:=hs.row0 hnl e sz
   have hlive:(s.up [(s.nx,.row e sz [])]).live s.nx:=by unfold S.live;rw[S.blk_up,if_pos rfl];rfl
   refine⟨ρ',⟨h1.hd,h1.size,fun j=>?_,h1.hp,h1.hp0,h1.out,h1.inj,h1.nx,h1.kept,h1.oldF,h1.pin,h1.disj,⟨h1.ows.lt,h1.ows.one,h1.ows.new⟩⟩⟩
   show RR w _ ρ' _ (lk ((i,R.c (.own s.nx sz 0 0))::s.tm) j .any)
   unfold lk
   split
   ·rename_i hij
    subst hij
    have:=hs.tm i
    rw[hi] at this
    rw[this.inv_nils]
    exact .c _ _ (.own0 _ _ hlive h2)
   ·exact h3 _ _ (hs.tm j)
  ·exact⟨ρ,hs⟩
 | cell i off e sz=>
  simp only[Vc.rw1]
  split
  ·rename_i id o hi
   split
   ·rename_i t cs hb
    split
    ·rename_i hc
     obtain⟨ρ',h1,h2,h3,h4⟩:=hs.row0 hnl e sz
     have hid:s.live id:=by unfold S.live;rw[hb];rfl
     have hne:id≠s.nx:=fun e=>hnl (e ▸ hid)
     have hlive:(s.up [(s.nx,.row e sz [])]).live s.nx:=by unfold S.live;rw[S.blk_up,if_pos rfl];rfl
     have hlid:(s.up [(s.nx,.row e sz [])]).live id:=by unfold S.live;rw[S.blk_up,if_neg (Ne.symm hne)];exact hid
     cases hρ:ρ' id with
     | none=>
      obtain⟨e',sz',h5⟩:=h1.hp0 id hlid hρ
      rw[S.blk_up,if_neg (Ne.symm hne),hb] at h5
      cases h5
     | some bc=>
      obtain⟨b,cap⟩:=bc
      have hx:∀k,(s.up [(s.nx,.row e sz [])]).blk k=if s.nx=k then .row e sz [] else s.blk k:=fun k=>S.blk_up _ _ _ _
      have hB:=(h1.hp id b cap hlid hρ).2
      rw[hx,if_neg (Ne.symm hne),hb] at hB
      obtain⟨vs,g1,g2,g3⟩:=hB
      have hcx:id<cx.k→(B.blk t (cs.set (o+off) (.own s.nx sz 0 0))).isBlk=true:=fun _=>rfl
      have hl':∀j,((s.up [(s.nx,.row e sz [])]).up [(id,.blk t (cs.set (o+off) (.own s.nx sz 0 0)))]).live j↔(s.up [(s.nx,.row e sz [])]).live j:=fun j=>by
       unfold S.live
       rw[S.blk_up]
       by_cases hj:id=j
       ·subst hj;rw[if_pos rfl];exact⟨fun _=>hlid,fun _=>rfl⟩
       ·rw[if_neg hj]
      have hst:q2V w (s.up [(s.nx,.row e sz [])]).live ρ' w ((s.up [(s.nx,.row e sz [])]).up [(id,.blk t (cs.set (o+off) (.own s.nx sz 0 0)))]).live ρ':=by
       refine⟨qxX _,fun _ _ _=>rfl,fun b' _ hO=>?_,fun j hj=>⟨(hl' j).2 hj,rfl⟩,fun b hF=>⟨hF,fun _=>rfl⟩⟩
       rcases hO with h|⟨j,c,q1,q2⟩
       ·exact .inl h
       ·exact .inr ⟨j,c,(hl' j).1 q1,q2⟩
      refine⟨ρ',(h1.over hlid hρ rfl hcx rfl (fun _ _=>rfl) rfl rfl rfl ⟨vs,g1,by simpa using g2,fun j c hj=>?_⟩ (fun j y d n c hy how hw=>by
       rw[hx,if_neg (Ne.symm hne),hb]
       exact⟨y,qbN hy how rfl,how,n,c,hw⟩)).1⟩
      by_cases hoj:o+off=j
      ·subst hoj
       have hlt:o+off<cs.length:=(qxL.1 hc).1
       rw[qyE hlt] at hj
       injection hj with hj
       subst hj
       have h6:=g3 _ _ hc
       have h7:=(RR.c _ _ h6).inv_nils
       rw[h7]
       exact .own0 _ _ ((hl' _).2 hlive) h2
      ·rw[qyF hoj] at hj
       exact(g3 j c hj).stay hst
    ·exact⟨ρ,hs⟩
   ·exact⟨ρ,hs⟩
  ·exact⟨ρ,hs⟩
 | dcell i off sz=>
  simp only[Vc.rw1]
  split
  ·rename_i id o hi
   split
   ·rename_i t cs hb
    split
    ·rename_i hc
     have hid:s.live id:=by unfold S.live;rw[hb];rfl
     cases hρ:ρ id with
     | none=>
      obtain⟨e',sz',h5⟩:=hs.hp0 id hid hρ
      rw[hb] at h5
      cases h5
     | some bc=>
      obtain⟨b,cap⟩:=bc
      have hB:=(hs.hp id b cap hid hρ).2
      rw[hb] at hB
      obtain⟨vs,g1,g2,g3⟩:=hB
      have hcx:id<cx.k→(B.blk t (cs.set (o+off) (.d (.sl sz 0 [])))).isBlk=true:=fun _=>rfl
      have hl':∀j,(s.up [(id,.blk t (cs.set (o+off) (.d (.sl sz 0 []))))]).live j↔s.live j:=fun j=>by
       unfold S.live
       rw[S.blk_up]
       by_cases hj:id=j
       ·subst hj;rw[if_pos rfl];exact⟨fun _=>hid,fun _=>rfl⟩
       ·rw[if_neg hj]
      have hst:q2V w s.live ρ w (s.up [(id,.blk t (cs.set (o+off) (.d (.sl sz 0 []))))]).live ρ:=by
       refine⟨qxX _,fun _ _ _=>rfl,fun b' _ hO=>?_,fun j hj=>⟨(hl' j).2 hj,rfl⟩,fun b hF=>⟨hF,fun _=>rfl⟩⟩
       rcases hO with h|⟨j,c,q1,q2⟩
       ·exact .inl h
       ·exact .inr ⟨j,c,(hl' j).1 q1,q2⟩
      refine⟨ρ,(hs.over hid hρ rfl hcx rfl (fun _ _=>rfl) rfl rfl rfl ⟨vs,g1,by simpa using g2,fun j c hj=>?_⟩ (fun j y d n c hy how hw=>by
       rw[hb]
       exact⟨y,qbN hy how rfl,how,n,c,hw⟩)).1⟩
      by_cases hoj:o+off=j
      ·subst hoj
       have hlt:o+off<cs.length:=(qxL.1 hc).1
       rw[qyE hlt] at hj
       injection hj with hj
       subst hj
       have h6:=g3 _ _ hc
       have h7:=(RR.c _ _ h6).inv_nils
       rw[h7]
       exact .d _ _ (.nil none 0 sz (qy7 _) fun _=>rfl)
      ·rw[qyF hoj] at hj
       exact(g3 j c hj).stay hst
    ·exact⟨ρ,hs⟩
   ·exact⟨ρ,hs⟩
  ·exact⟨ρ,hs⟩
 | dslot i sz=>
  simp only[Vc.rw1]
  split
  ·rename_i hi
   refine⟨ρ,⟨hs.hd,hs.size,fun j=>?_,hs.hp,hs.hp0,hs.out,hs.inj,hs.nx,hs.kept,hs.oldF,hs.pin,hs.disj,⟨hs.ows.lt,hs.ows.one,hs.ows.new⟩⟩⟩
   show RR w _ ρ _ (lk ((i,R.c (.d (.sl sz 0 [])))::s.tm) j .any)
   unfold lk
   split
   ·rename_i hij
    subst hij
    have:=hs.tm i
    rw[hi] at this
    rw[this.inv_nils]
    exact .c _ _ (.d _ _ (.nil none 0 sz (qy7 _) fun _=>rfl))
   ·exact hs.tm j
  ·exact⟨ρ,hs⟩
 | fslot i=>exact⟨ρ,hs.frz (qxY.2 fun j hj=>(qyC.1 hj).2)⟩
end
def rwAll:S→List Rw→S
 | s,[]=>s
 | s,x::l=>rwAll (rw1 s x) l
theorem Sim.rwAll {cx:Cx} {a:Act} {w:World}:∀(l:List Rw) {s:S} {ρ:Pl},Sim cx ρ s a w→∃ρ',Sim cx ρ' (rwAll s l) a w
 | [],_,ρ,hs=>⟨ρ,hs⟩
 | x::l,_,_,hs=>by
  obtain⟨ρ',h⟩:=hs.rw1 x
  exact Sim.rwAll l h
end
noncomputable section
open Go.RowKit
def C.dn0:C→Bool
 | .ow _ _ _ _=>false
 | .fn _ _ _=>false
 | _=>true
def C.nw:C→C
 | .ow _ _ _ _ => .any
 | .fn f fs caps=>if(fs++caps).all C.dn0=true then .fn f fs caps else .any
 | c=>c
def R.nw0:R→R
 | .c x => .c x.nw
 | .agg xs => .agg (xs.map C.nw)
 | .tup rs=>if rs.isEmpty=true then .tup [] else .any
 | .any => .any
def R.nw:R→R
 | .tup rs => .tup (rs.map R.nw0)
 | r=>r.nw0
section
variable {w:World} {L L':Nat→Prop} {ρ ρ':Pl}
theorem RC.turn0 (hl:∀i,L i→L' i∧ρ' i=ρ i) (ho:∀b,Occ L' ρ' b→Occ L ρ b) {v:Value} {x:C} (h:RC w L ρ v x) (hx:x.dn0=true):RC w L' ρ' v x:=by
 cases h with
 | d v x h=>exact .d v x (h.occ ho)
 | ptr i off b cap h1 h2=>exact .ptr i off b cap (hl i h1).1 ((hl i h1).2.trans h2)
 | hd k i b cap h1 h2=>exact .hd k i b cap (hl i h1).1 ((hl i h1).2.trans h2)
 | nilp=>exact .nilp
 | nilf=>exact .nilf
 | nilm=>exact .nilm
 | nils=>exact .nils
 | eptr b o off cs f h1 h2 h3 h4=>exact .eptr b o off cs f h1 (fun h=>h2 (ho b h)) h3 (fun j c hj=>(h4 j c hj).occ ho)
 | own i sz off n b cap h1 h2 h3 h4=>exact .own i sz off n b cap (hl i h1).1 ((hl i h1).2.trans h2) h3 h4
 | own0 i sz h1 h2=>exact .own0 i sz (hl i h1).1 ((hl i h1).2.trans h2)
 | fn f fs caps us vs h1 h2 h3 h4=>cases hx
 | ow e sz n b cap cs vs=>cases hx
 | ow0 e sz=>cases hx
 | clp A sz n cs h=>exact .clp A sz n cs (h.occ ho)
 | any v=>exact .any v
theorem RC.turn (hl:∀i,L i→L' i∧ρ' i=ρ i) (ho:∀b,Occ L' ρ' b→Occ L ρ b) {v:Value} {x:C} (h:RC w L ρ v x):RC w L' ρ' v x.nw:=by
 cases x with
 | fn f fs caps=>
  show RC w L' ρ' v (if(fs++caps).all C.dn0=true then C.fn f fs caps else .any)
  split
  ·rename_i hx
   cases h with
   | fn _ _ _ us vs h1 h2 h3 h4=>
    have hm:∀c∈fs++caps,c.dn0=true:=fun c hc=>qxY.1 hx c hc
    exact .fn f fs caps us vs h1 (fun j c hj=>(h2 j c hj).turn0 hl ho (hm c (qxT _ (qxI hj)))) h3 (fun j c hj=>(h4 j c hj).turn0 hl ho (hm c (qxQ _ (qxI hj))))
  ·exact .any _
 | ow e sz n cs=>exact .any _
 | _=>exact h.turn0 hl ho rfl
theorem RR.turn0 (hl:∀i,L i→L' i∧ρ' i=ρ i) (ho:∀b,Occ L' ρ' b→Occ L ρ b) {v:Value} {x:R} (h:RR w L ρ v x):RR w L' ρ' v x.nw0:=by
 cases h with
 | c v x h=>exact .c v _ (h.turn hl ho)
 | agg vs xs h1 h2=>
  refine .agg vs _ (by simpa using h1) (fun j c hj=>?_)
  rw[qxV] at hj
  obtain⟨y,g1,g2⟩:=qxU.1 hj
  exact g2 ▸ (h2 j y g1).turn hl ho
 | tup vs xs h1 h2=>
  show RR w L' ρ' (.tuple vs) (if xs.isEmpty=true then R.tup [] else .any)
  split
  ·rename_i he
   have:xs=[]:=List.isEmpty_iff.1 he
   subst this
   exact .tup vs [] h1 (fun j c hj=>by simp at hj)
  ·exact .any _
 | any v=>exact .any v
theorem RR.turn (hl:∀i,L i→L' i∧ρ' i=ρ i) (ho:∀b,Occ L' ρ' b→Occ L ρ b) {v:Value} {x:R} (h:RR w L ρ v x):RR w L' ρ' v x.nw:=by
 cases x with
 | tup rs=>
  cases h with
  | tup vs _ h1 h2=>
   refine .tup vs _ (by simpa using h1) (fun j c hj=>?_)
   rw[qxV] at hj
   obtain⟨y,g1,g2⟩:=qxU.1 hj
   exact g2 ▸ (h2 j y g1).turn0 hl ho
 | _=>exact h.turn0 hl ho
end
section
variable {cx:Cx} {ρ:Pl} {s:S} {a:Act} {w:World}
theorem Sim.ow_at (hs:Sim cx ρ s a w) {i j b cap:Nat} (hi:s.live i) (hr:ρ i=some (b,cap)) {e sz n:Nat} {ds:List D} (hc:(s.blk i).cells[j]?=some (.ow e sz n ds)) :
  ∃v,w.cell? ⟨b,j,none⟩=some v∧0<sz∧((v = .slice none 0 0∧n=0∧ds=[])∨∃d c vs,v = .slice (some ⟨d,0,none⟩) n c∧q6v s ρ w i j d∧ρ.F d∧w.heap[d]?=some (.cells vs e (0,0))∧vs.size=c*sz∧n≤c∧c≤maxLen∧ds.length=n*sz∧
   ∀j c,ds[j]?=some c→RD w (Occ s.live ρ) (vs.getD j undef) c):=by
 obtain⟨v,h1,h2⟩:=(hs.hp i b cap hi hr).2.cell hc
 refine⟨v,h1,?_⟩
 cases h2 with
 | ow e sz n d c cs vs g1 g2 g3 g4 g5 g6 g7 g8=>exact⟨g6,.inr ⟨d,c,vs,rfl,⟨b,cap,_,n,c,hi,hr,hc,rfl,h1⟩,g1,g2,g3,g4,g5,g7,g8⟩⟩
 | ow0 e sz g1=>exact⟨g1,.inl ⟨rfl,rfl,rfl⟩⟩
theorem q1i {b:Nat} {vs:Array Value} {t:TypeId} {j:Nat} (h:w.heap[b]?=some (.cells vs t (0,0))):w.cell? ⟨b,j,none⟩=vs[j]?:=by simp[World.cell?,h]
theorem qkQ {vs:Array Value} {j:Nat} {v:Value} (h:vs[j]?=some v):vs.getD j undef=v:=by rw[qxN,h];rfl
theorem RC.inv_d {L:Nat→Prop} {ρ:Pl} {v:Value} {x:D} (h:RC w L ρ v (.d x)):RD w (Occ L ρ) v x:=by cases h with|d _ _ h=>exact h
theorem q4j {x:C} (h:x.isOw=true):∃e sz n ds,x = .ow e sz n ds:=by
 cases x<;>first|exact⟨_,_,_,_,rfl⟩|cases h
theorem Sim.tell (hs:Sim cx ρ s a w) {s':S} {ρ':Pl} (f:C→C) (hg:∀i,s'.get i=(s.get i).nw) (hn:s'.n=s.n)
  (hb:∀i,s.live i→s'.blk i=match s.blk i with | .blk t cs => .blk t (cs.map f) | .row e sz cs => .row e sz (cs.map f) | .ob o => .ob (o.mapR R.nw0) | .dead => .dead)
  (hl:∀i,s.live i→s'.live i∧ρ' i=ρ i) (ho:∀b,Occ s'.live ρ' b→Occ s.live ρ b)
  (hf:∀i j b cap v x,s.live i→ρ i=some (b,cap)→(s.blk i).cells[j]?=some x→w.cell? ⟨b,j,none⟩=some v→RC w s.live ρ v x→RC w s'.live ρ' v (f x)) :
  Hd cx a.defers w (Occ s'.live ρ')∧a.tmps.size=s'.n∧(∀i,RR w s'.live ρ' (a.tmps.getD i undef) (s'.get i))∧∀i b cap,s.live i→ρ i=some (b,cap)→b<w.heap.size∧HB w s'.live ρ' b cap (s'.blk i):=by
 refine⟨hs.hd.mono (qxX _) (fun _ _ _=>rfl) (fun b _ h=>ho b h),by rw[hn];exact hs.size,fun i=>by rw[hg];exact(hs.tm i).turn hl ho,fun i b cap hi hr=>?_⟩
 obtain⟨h1,h2⟩:=hs.hp i b cap hi hr
 refine⟨h1,?_⟩
 have hf':=fun j v x=>hf i j b cap v x hi hr
 rw[hb i hi]
 cases hx:s.blk i with
 | dead=>trivial
 | ob o=>rw[hx] at h2;exact HO.map rfl (fun v x _ hx=>hx.turn0 hl ho) h2
 | blk t cs=>
  rw[hx] at h2 hf'
  obtain⟨vs,g1,g2,g3⟩:=h2
  refine⟨vs,g1,by simpa using g2,fun j c hj=>?_⟩
  rw[qxV] at hj
  obtain⟨x,q1,q2⟩:=qxU.1 hj
  have hjl:j<vs.size:=by rw[g2];exact(qxL.1 q1).1
  have hv:vs[j]?=some (vs.getD j undef):=by simp[qxN,hjl]
  exact q2 ▸ hf' j _ x q1 ((q1i g1).trans hv) (g3 j x q1)
 | row e sz cs=>
  rw[hx] at h2 hf'
  obtain⟨vs,g1,g2,g3,g4,g5,g6⟩:=h2
  refine⟨vs,g1,by simpa using g2,g3,g4,g5,fun j c hj=>?_⟩
  rw[qxV] at hj
  obtain⟨x,q1,q2⟩:=qxU.1 hj
  have hjl:j<vs.size:=by have:=(qxL.1 q1).1;omega
  have hv:vs[j]?=some (vs.getD j undef):=by simp[qxN,hjl]
  exact q2 ▸ hf' j _ x q1 ((q1i g1).trans hv) (g6 j x q1)
def C.uw:C→C
 | .ow _ sz n cs => .d (.sl sz n cs)
 | c=>c.nw
def B.uw:B→B
 | .blk t cs => .blk t (cs.map C.uw)
 | .row e sz cs => .row e sz (cs.map C.uw)
 | .ob o => .ob (o.mapR R.nw0)
 | .dead => .dead
def S.uw (s:S):S:={ s with tm:=s.tm.map fun x=>(x.1,x.2.nw),hp:=s.hp.map fun x=>(x.1,x.2.uw) }
theorem C.uw_noow (c:C):c.uw.noow=true:=by
 cases c with
 | fn f fs caps=>
  show(if(fs++caps).all C.dn0=true then C.fn f fs caps else .any).noow=true
  split<;>rfl
 | _=>rfl
theorem B.uw_live (x:B):x.uw.live=x.live:=by cases x<;>rfl
theorem B.uw_isBlk (x:B):x.uw.isBlk=x.isBlk:=by cases x<;>rfl
theorem B.uw_noow (x:B):x.uw.cells.all C.noow=true:=by
 cases x<;>first|rfl|exact qxY.2 fun c hc=>by obtain⟨y,-,rfl⟩:=qyr.1 hc;exact C.uw_noow y
theorem Sim.uw (hs:Sim cx ρ s a w):Sim cx ⟨ρ.at_,cx.ρ.F⟩ s.uw a w:=by
 have hb:∀i,s.uw.blk i=(s.blk i).uw:=fun i=>Zu B.uw s.hp i .dead rfl
 have hg:∀i,s.uw.get i=(s.get i).nw:=fun i=>Zu R.nw s.tm i .any rfl
 have hl:s.uw.live=s.live:=by funext i;unfold S.live;rw[hb,B.uw_live]
 obtain⟨ρ',hρ⟩:∃ρ':Pl,ρ'=⟨ρ.at_,cx.ρ.F⟩:=⟨_,rfl⟩
 rw[←hρ]
 have hρi:∀i,ρ' i=ρ i:=fun i=>by rw[hρ]
 have hρF:ρ'.F=cx.ρ.F:=by rw[hρ]
 have hocc:∀b,Occ s.uw.live ρ' b→Occ s.live ρ b:=fun b h=>by
  rcases h with h|⟨i,c,h1,h2⟩
  ·exact .inl (hs.oldF b (hρF ▸ h)).1
  ·exact .inr ⟨i,c,hl ▸ h1,(hρi i).symm.trans h2⟩
 have hli:∀i,s.live i→s.uw.live i∧ρ' i=ρ i:=fun i hi=>⟨hl ▸ hi,hρi i⟩
 obtain⟨t1,t2,t3,t4⟩:=hs.tell (s':=s.uw) (ρ':=ρ') C.uw hg rfl (fun i _=>by rw[hb];cases s.blk i<;>rfl) hli hocc (fun i j b cap v x hi hr hx hv h=>by
  by_cases ho:x.isOw=true
  ·obtain⟨e,sz,n,ds,rfl⟩:=q4j ho
   obtain⟨v',q1,q2,q3⟩:=hs.ow_at hi hr hx
   rw[hv] at q1
   injection q1 with q1
   subst q1
   show RC w _ ρ' v (.d (.sl sz n ds))
   rcases q3 with ⟨rfl,rfl,rfl⟩|⟨d,c,vs',rfl,q4,q5,q6,q7,q8,q9,q10,q11⟩
   ·exact .d _ _ (.nil none 0 sz (qy7 _) fun _=>rfl)
   ·refine .d _ _ (.sl d 0 n c sz ds (fun j=>vs'.getD j undef) q10 q8 q9 (q4z q6) (fun hO=>?_) (fun j c' hj=>?_) (fun j c' hj=>(q11 j c' hj).occ hocc))
    ·rcases hO with h|⟨i',c',h4,h5⟩
     ·exact(hs.ows.new i j d q4).2 (hρF ▸ h)
     ·exact hs.disj i' d c' (hl ▸ h4) ((hρi i').symm.trans h5) q5
    ·have hjl:j<vs'.size:=by
      have h6:=(qxL.1 hj).1
      have h7:n*sz≤c*sz:=Nat.mul_le_mul_right _ q8
      omega
     rw[qy5,q1i q6,qy8 hjl]
     simp[qxN,hjl]
  ·have:x.uw=x.nw:=by cases x<;>first|rfl|exact absurd rfl ho
   rw[this]
   exact h.turn hli hocc)
 refine⟨t1,t2,t3,fun i b cap hi hr=>?_,fun i hi hr=>?_,fun i b cap hi hr=>?_,fun i j b c c' hi hj hri hrj=>?_,fun i hi=>?_,hs.kept,fun b h=>⟨hρF ▸ h,(hs.oldF b h).2⟩,fun i hi=>?_,fun i b cap hi hr=>?_,?_⟩
 ·rw[hl] at hi;rw[hρi] at hr;exact t4 i b cap hi hr
 ·rw[hl] at hi;rw[hρi] at hr
  obtain⟨e,sz,h⟩:=hs.hp0 i hi hr
  exact⟨e,sz,by rw[hb,h];rfl⟩
 ·rw[hl] at hi;rw[hρi] at hr;exact hs.out i b cap hi hr
 ·rw[hl] at hi hj;rw[hρi] at hri hrj;exact hs.inj i j b c c' hi hj hri hrj
 ·rw[hl] at hi;exact hs.nx i hi
 ·obtain⟨h1,h2⟩:=hs.pin i hi
  exact⟨(hρi i).trans h1,by rw[hb,B.uw_isBlk];exact h2⟩
 ·rw[hl] at hi;rw[hρi] at hr;rw[hρF]
  exact fun h=>hs.disj i b cap hi hr (hs.oldF b h).1
 ·have hno:∀i j d,¬ q6v s.uw ρ' w i j d:=fun i j d hw=>by
   obtain⟨b,c,y,n,c',l1,l2,l3,l4,l5⟩:=hw
   rw[hb] at l3
   have:=C.noow_is (qxY.1 (B.uw_noow _) y (qxI l3))
   rw[l4] at this;cases this
  exact⟨fun b h=>hs.ows.lt b (hs.oldF b (hρF ▸ h)).1,fun i j _ _ d h=>absurd h (hno i j d),fun i j d h=>absurd h (hno i j d)⟩
def C.kw:C→C
 | .ow e sz n cs => .ow e sz n cs
 | c=>c.nw
def B.kw:B→B
 | .blk t cs => .blk t (cs.map C.kw)
 | .row e sz cs => .row e sz (cs.map C.kw)
 | .ob o => .ob (o.mapR R.nw0)
 | .dead => .dead
def tkS (s:S) (id j e sz n:Nat) (ds:List D):S:=⟨s.tm.map fun x=>(x.1,x.2.nw),(s.nx,.row e sz (ds.map C.d))::(id,(s.blk id).kw.set j [.own s.nx sz 0 n])::s.hp.map fun x=>(x.1,x.2.kw),s.nx+1,s.n⟩
def tkC (s:S) (id j:Nat):Option C→Option S
 | some (.ow e sz n ds)=>some (tkS s id j e sz n ds)
 | _=>none
def S.tk (s:S) (id j:Nat):Option S:=tkC s id j ((s.blk id).cells[j]?)
theorem C.kw_ow {c:C} (h:c.kw.isOw=true):c.kw=c:=by
 cases c with
 | fn f fs caps=>
  have h:(if(fs++caps).all C.dn0=true then C.fn f fs caps else .any).isOw=true:=h
  split at h<;>cases h
 | _=>rfl
theorem B.kw_live (x:B):x.kw.live=x.live:=by cases x<;>rfl
theorem B.kw_isBlk (x:B):x.kw.isBlk=x.isBlk:=by cases x<;>rfl
theorem B.kw_cells (x:B):x.kw.cells=x.cells.map C.kw:=by cases x<;>rfl
theorem B.kw_ow {x:B} {j:Nat} {y:C} (h:x.kw.cells[j]?=some y) (ho:y.isOw=true):x.cells[j]?=some y:=by
 rw[B.kw_cells,qxV] at h
 obtain⟨z,h1,h2⟩:=qxU.1 h
 have:=C.kw_ow (c:=z) (by rw[h2];exact ho)
 rw[←h2,this];exact h1
theorem B.set1_cells {x:B} (hx:x.isOb=false) (j:Nat) (c:C):(x.set j [c]).cells=x.cells.set j c:=by
 cases x with
 | ob o=>cases hx
 | dead=>show[]=List.set [] j c;simp
 | _=>rfl
theorem Sim.tk (hs:Sim cx ρ s a w) {s':S} {id j:Nat} (h:s.tk id j=some s'):∃ρ',Sim cx ρ' s' a w:=by
 unfold S.tk at h
 unfold tkC at h
 split at h
 ·rename_i e sz n ds hc
  injection h with h
  have hlid:s.live id:=by
   unfold S.live
   cases hb:s.blk id with
   | dead=>rw[hb] at hc;simp[B.cells] at hc
   | _=>rfl
  have hob:(s.blk id).isOb=false:=by
   cases hb:s.blk id with
   | ob o=>rw[hb] at hc;simp[B.cells] at hc
   | _=>rfl
  have hnx:¬ s.live s.nx:=fun h=>by have:=hs.nx _ h;omega
  have hne:id≠s.nx:=fun e=>hnx (e ▸ hlid)
  cases hρid:ρ id with
  | none=>
   obtain⟨e',sz',h5⟩:=hs.hp0 id hlid hρid
   rw[h5] at hc;simp[B.cells] at hc
  | some bc=>
   obtain⟨b,cap⟩:=bc
   obtain⟨v,v1,hsz,v2⟩:=hs.ow_at hlid hρid hc
   obtain⟨pl,F',hpl⟩:∃(pl:Option (Nat×Nat)) (F':Nat→Prop),(pl=none∧v = .slice none 0 0∧n=0∧ds=[]∧F'=ρ.F)∨∃d c vs,pl=some (d,c)∧F'=(fun x=>ρ.F x∧x≠d)∧v = .slice (some ⟨d,0,none⟩) n c∧q6v s ρ w id j d∧ρ.F d∧w.heap[d]?=some (.cells vs e (0,0))∧vs.size=c*sz∧n≤c∧c≤maxLen∧ds.length=n*sz∧
     ∀j c,ds[j]?=some c→RD w (Occ s.live ρ) (vs.getD j undef) c:=by
    rcases v2 with ⟨q1,q2,q3⟩|⟨d,c,vs,q⟩
    ·exact⟨none,ρ.F,.inl ⟨rfl,q1,q2,q3,rfl⟩⟩
    ·exact⟨some (d,c),_,.inr ⟨d,c,vs,rfl,rfl,q⟩⟩
   have hFF:∀x,F' x→ρ.F x:=fun x hx=>by
    rcases hpl with ⟨-,-,-,-,rfl⟩|⟨d,c,vs,-,rfl,-⟩
    ·exact hx
    ·exact hx.1
   have hFd:∀d c,pl=some (d,c)→¬ F' d∧ρ.F d∧cx.mine d:=fun d c hp=>by
    rcases hpl with ⟨rfl,-⟩|⟨d',c',vs,rfl,rfl,-,q4,q5,-⟩
    ·cases hp
    ·injection hp with hp;injection hp with hp _;subst hp
     exact⟨fun h=>h.2 rfl,q5,hs.ows.new id j d' q4⟩
   have hold:∀x,cx.ρ.F x→F' x:=fun x hx=>by
    rcases hpl with ⟨-,-,-,-,rfl⟩|⟨d,c,vs,-,rfl,-,q4,q5,-⟩
    ·exact(hs.oldF x hx).1
    ·exact⟨(hs.oldF x hx).1,fun e=>(hs.ows.new id j d q4).2 (e ▸ hx)⟩
   have hother:∀i k d,q6v s ρ w i k d→¬ (i=id∧k=j)→ρ.F d→F' d:=fun i k d hw hn hF=>by
    rcases hpl with ⟨-,-,-,-,rfl⟩|⟨d',c,vs,-,rfl,-,q4,-⟩
    ·exact hF
    ·refine⟨hF,fun e=>hn ?_⟩
     subst e
     exact hs.ows.one i k id j d hw q4
   have hb:∀i,s'.blk i=if s.nx=i then .row e sz (ds.map C.d) else if id=i then(s.blk id).kw.set j [.own s.nx sz 0 n] else(s.blk i).kw:=fun i=>by
    rw[←h]
    show lk ((s.nx,_)::(id,_)::s.hp.map fun x=>(x.1,x.2.kw)) i .dead=_
    show(if s.nx=i then _ else if id=i then _ else lk (s.hp.map fun x=>(x.1,x.2.kw)) i .dead)=_
    rw[Zu B.kw s.hp i .dead rfl]
    rfl
   have hg:∀i,s'.get i=(s.get i).nw:=fun i=>by rw[←h];exact Zu R.nw s.tm i .any rfl
   have hn':s'.n=s.n:=by rw[←h];rfl
   have hnx':s'.nx=s.nx+1:=by rw[←h];rfl
   obtain⟨ρ',hρ⟩:∃ρ':Pl,ρ'=⟨fun i=>if i=s.nx then pl else ρ i,F'⟩:=⟨_,rfl⟩
   have hρF:ρ'.F=F':=by rw[hρ]
   have hρn:ρ' s.nx=pl:=by rw[hρ];exact if_pos rfl
   have hρi:∀i,i≠s.nx→ρ' i=ρ i:=fun i hi=>by rw[hρ];exact if_neg hi
   have hl1:∀i,i≠s.nx→(s'.live i↔s.live i):=fun i hi=>by
    unfold S.live
    rw[hb,if_neg (Ne.symm hi)]
    by_cases hid:id=i
    ·subst hid
     rw[if_pos rfl,B.set_live (by rw[B.kw_live];exact hlid)]
     exact⟨fun _=>hlid,fun _=>rfl⟩
    ·rw[if_neg hid,B.kw_live]
   have hln:s'.live s.nx:=by unfold S.live;rw[hb,if_pos rfl];rfl
   have hnn:∀i,s.live i→i≠s.nx:=fun i hi e=>hnx (e ▸ hi)
   have hli:∀i,s.live i→s'.live i∧ρ' i=ρ i:=fun i hi=>⟨(hl1 i (hnn i hi)).2 hi,hρi i (hnn i hi)⟩
   have hocc:∀x,Occ s'.live ρ' x→Occ s.live ρ x:=fun x hx=>by
    rcases hx with hx|⟨i,c,h1,h2⟩
    ·exact .inl (hFF x (hρF ▸ hx))
    ·by_cases hi:i=s.nx
     ·rw[hi,hρn] at h2
      exact .inl (hFd x c h2).2.1
     ·exact .inr ⟨i,c,(hl1 i hi).1 h1,(hρi i hi).symm.trans h2⟩
   have hcell:∀i k b' cap' v' x,s.live i→ρ i=some (b',cap')→(s.blk i).cells[k]?=some x→w.cell? ⟨b',k,none⟩=some v'→RC w s.live ρ v' x→¬ (i=id∧k=j)→RC w s'.live ρ' v' x.kw:=fun i k b' cap' v' x hi hr hx hv hrc hno=>by
    by_cases ho:x.isOw=true
    ·obtain⟨e',sz',n',ds',rfl⟩:=q4j ho
     cases hrc with
     | ow _ _ _ d c _ vs g1 g2 g3 g4 g5 g6 g7 g8=>
      refine .ow e' sz' n' d c ds' vs ?_ g2 g3 g4 g5 g6 g7 (fun j c hj=>(g8 j c hj).occ hocc)
      rw[hρF]
      exact hother i k d ⟨b',cap',_,n',c,hi,hr,hx,rfl,hv⟩ hno g1
     | ow0 _ _ g1=>exact .ow0 _ _ g1
    ·have:x.kw=x.nw:=by cases x<;>first|rfl|exact absurd rfl ho
     rw[this]
     exact hrc.turn hli hocc
   have hown:RC w s'.live ρ' v (.own s.nx sz 0 n):=by
    rcases hpl with ⟨rfl,rfl,rfl,-,-⟩|⟨d,c,vs,rfl,-,rfl,q4,q5,q6,q7,q8,q9,-⟩
    ·exact .own0 s.nx sz hln hρn
    ·have:=RC.own (w:=w) (L:=s'.live) (ρ:=ρ') s.nx sz 0 n d c hln hρn (by omega) q9
     simpa using this
   have hblk:∀i b' cap',i≠s.nx→s.live i→ρ i=some (b',cap')→HB w s'.live ρ' b' cap' (if id=i then(s.blk id).kw.set j [.own s.nx sz 0 n] else(s.blk i).kw):=fun i b' cap' hi hli' hr=>by
    have h2:=(hs.hp i b' cap' hli' hr).2
    have hf:=fun k v' x=>hcell i k b' cap' v' x hli' hr
    have key:∀(vs:Array Value) (t:TypeId) (cs:List C),w.heap[b']?=some (.cells vs t (0,0))→(s.blk i).cells=cs→cs.length≤vs.size→(∀k c,cs[k]?=some c→RC w s.live ρ (vs.getD k undef) c)→¬ id=i→∀k c,(cs.map C.kw)[k]?=some c→RC w s'.live ρ' (vs.getD k undef) c:=fun vs t cs g1 g2 g3 g4 hni k c hk=>by
     rw[qxV] at hk
     obtain⟨x,q1,q2⟩:=qxU.1 hk
     have hkl:k<vs.size:=by have:=(qxL.1 q1).1;omega
     have hv:vs[k]?=some (vs.getD k undef):=by simp[qxN,hkl]
     exact q2 ▸ hf k _ x (by rw[g2];exact q1) ((q1i g1).trans hv) (g4 k x q1) (fun e=>hni e.1.symm)
    have key2:∀(vs:Array Value) (t:TypeId) (cs:List C),w.heap[b']?=some (.cells vs t (0,0))→(s.blk i).cells=cs→cs.length≤vs.size→(∀k c,cs[k]?=some c→RC w s.live ρ (vs.getD k undef) c)→id=i→∀k c,((cs.map C.kw).set j (.own s.nx sz 0 n))[k]?=some c→RC w s'.live ρ' (vs.getD k undef) c:=fun vs t cs g1 g2 g3 g4 hni k c hk=>by
     subst hni
     by_cases hjk:j=k
     ·subst hjk
      have hjl:j<cs.length:=by rw[←g2];exact(qxL.1 hc).1
      rw[qyE (by simpa using hjl)] at hk
      injection hk with hk
      subst hk
      rw[hr] at hρid
      injection hρid with hρid
      injection hρid with e1 e2
      subst e1
      rw[q1i g1] at v1
      rw[qkQ v1]
      exact hown
     ·rw[qyF hjk,qxV] at hk
      obtain⟨x,q1,q2⟩:=qxU.1 hk
      have hkl:k<vs.size:=by have:=(qxL.1 q1).1;omega
      have hv:vs[k]?=some (vs.getD k undef):=by simp[qxN,hkl]
      exact q2 ▸ hf k _ x (by rw[g2];exact q1) ((q1i g1).trans hv) (g4 k x q1) (fun e=>hjk e.2.symm)
    by_cases hid:id=i
    ·rw[if_pos hid]
     subst hid
     cases hx:s.blk id with
     | dead=>trivial
     | ob o=>rw[hx] at hob;cases hob
     | blk t cs=>
      rw[hx] at h2
      obtain⟨vs,g1,g2,g3⟩:=h2
      exact⟨vs,g1,by show vs.size=((cs.map C.kw).set j _).length;simpa using g2,key2 vs t cs g1 (by rw[hx];rfl) (by omega) g3 rfl⟩
     | row e' sz' cs=>
      rw[hx] at h2
      obtain⟨vs,g1,g2,g3,g4,g5,g6⟩:=h2
      exact⟨vs,g1,by show((cs.map C.kw).set j _).length≤vs.size;simpa using g2,g3,g4,g5,key2 vs e' cs g1 (by rw[hx];rfl) g2 g6 rfl⟩
    ·rw[if_neg hid]
     cases hx:s.blk i with
     | dead=>trivial
     | ob o=>rw[hx] at h2;exact HO.map rfl (fun v x _ hx=>hx.turn0 hli hocc) h2
     | blk t cs=>
      rw[hx] at h2
      obtain⟨vs,g1,g2,g3⟩:=h2
      exact⟨vs,g1,by simpa using g2,key vs t cs g1 (by rw[hx];rfl) (by omega) g3 hid⟩
     | row e' sz' cs=>
      rw[hx] at h2
      obtain⟨vs,g1,g2,g3,g4,g5,g6⟩:=h2
      exact⟨vs,g1,by simpa using g2,g3,g4,g5,key vs e' cs g1 (by rw[hx];rfl) g2 g6 hid⟩
   refine⟨ρ',hs.hd.mono (qxX _) (fun _ _ _=>rfl) (fun b _ h=>hocc b h),by rw[hn'];exact hs.size,fun i=>by rw[hg];exact(hs.tm i).turn hli hocc,fun i b' cap' hi hr=>?_,fun i hi hr=>?_,fun i b' cap' hi hr=>?_,fun i i' b' c c' hi hi' hri hri'=>?_,fun i hi=>?_,hs.kept,fun x hx=>⟨hρF ▸ hold x hx,(hs.oldF x hx).2⟩,fun i hi=>?_,fun i b' cap' hi hr=>?_,?_⟩
   ·rw[hb]
    by_cases hin:s.nx=i
    ·rw[if_pos hin]
     subst hin
     rw[hρn] at hr
     rcases hpl with ⟨q1,-⟩|⟨d,c,vs,q1,-,-,q4,q5,q6,q7,q8,q9,q10,q11⟩
     ·rw[hr] at q1;cases q1
     ·rw[hr] at q1
      injection q1 with q1;injection q1 with e1 e2
      subst e1 e2
      refine⟨q4z q6,vs,q6,?_,q7,q9,hsz,fun k x hk=>?_⟩
      ·rw[qyp,q10,q7];exact Nat.mul_le_mul_right _ q8
      ·rw[qxV] at hk
       obtain⟨y,r1,r2⟩:=qxU.1 hk
       exact r2 ▸ .d _ _ ((q11 k y r1).occ hocc)
    ·rw[if_neg hin]
     have hin':=Ne.symm hin
     have h1:=(hl1 i hin').1 hi
     rw[hρi i hin'] at hr
     exact⟨(hs.hp i b' cap' h1 hr).1,hblk i b' cap' hin' h1 hr⟩
   ·rw[hb]
    by_cases hin:s.nx=i
    ·rw[if_pos hin]
     subst hin
     rw[hρn] at hr
     rcases hpl with ⟨-,-,-,q4,-⟩|⟨d,c,vs,q1,-⟩
     ·subst q4;exact⟨e,sz,rfl⟩
     ·rw[hr] at q1;cases q1
    ·rw[if_neg hin]
     have hin':=Ne.symm hin
     rw[hρi i hin'] at hr
     have hni:id≠i:=fun e=>by rw[←e,hρid] at hr;cases hr
     rw[if_neg hni]
     obtain⟨e',sz',h5⟩:=hs.hp0 i ((hl1 i hin').1 hi) hr
     exact⟨e',sz',by rw[h5];rfl⟩
   ·by_cases hin:i=s.nx
    ·subst hin
     rw[hρn] at hr
     exact(hFd b' cap' hr).2.2.1
    ·rw[hρi i hin] at hr
     exact hs.out i b' cap' ((hl1 i hin).1 hi) hr
   ·have hmix:∀i c c',i≠s.nx→s'.live i→pl=some (b',c)→ρ i=some (b',c')→False:=fun i c c' hin hi h1 h2=>hs.disj i b' c' ((hl1 i hin).1 hi) h2 (hFd b' c h1).2.1
    by_cases hin:i=s.nx
    ·by_cases hin':i'=s.nx
     ·rw[hin,hin']
     ·subst hin
      rw[hρn] at hri
      rw[hρi i' hin'] at hri'
      exact(hmix i' c c' hin' hi' hri hri').elim
    ·by_cases hin':i'=s.nx
     ·subst hin'
      rw[hρn] at hri'
      rw[hρi i hin] at hri
      exact(hmix i c' c hin hi hri' hri).elim
     ·rw[hρi i hin] at hri
      rw[hρi i' hin'] at hri'
      exact hs.inj i i' b' c c' ((hl1 i hin).1 hi) ((hl1 i' hin').1 hi') hri hri'
   ·rw[hnx']
    by_cases hin:i=s.nx
    ·omega
    ·have:=hs.nx i ((hl1 i hin).1 hi);omega
   ·obtain⟨h1,h2⟩:=hs.pin i hi
    have hin:=hnn i (B.live_of h2)
    refine⟨(hρi i hin).trans h1,?_⟩
    rw[hb,if_neg (Ne.symm hin)]
    by_cases hid:id=i
    ·subst hid;rw[if_pos rfl];exact B.set_isBlk (by rw[B.kw_isBlk];exact h2)
    ·rw[if_neg hid,B.kw_isBlk];exact h2
   ·rw[hρF]
    by_cases hin:i=s.nx
    ·subst hin
     rw[hρn] at hr
     exact(hFd b' cap' hr).1
    ·rw[hρi i hin] at hr
     exact fun h=>hs.disj i b' cap' ((hl1 i hin).1 hi) hr (hFF b' h)
   ·refine hs.ows.sub (fun x hx=>hs.ows.lt x (hFF x (hρF ▸ hx))) fun i k d hw=>?_
    obtain⟨b',c,y,n',c',l1,l2,l3,l4,l5⟩:=hw
    rw[hb] at l3
    by_cases hin:s.nx=i
    ·rw[if_pos hin] at l3
     have l3:(ds.map C.d)[k]?=some y:=l3
     rw[qxV] at l3
     obtain⟨z,-,rfl⟩:=qxU.1 l3
     cases l4
    ·rw[if_neg hin] at l3
     have hin':=Ne.symm hin
     rw[hρi i hin'] at l2
     have l1':=(hl1 i hin').1 l1
     by_cases hid:id=i
     ·rw[if_pos hid] at l3
      subst hid
      rw[B.set1_cells (by cases hx:s.blk id<;>first|rfl|(rw[hx] at hob;cases hob))] at l3
      exact⟨b',c,y,n',c',l1',l2,B.kw_ow (qbN l3 l4 rfl) l4,l4,l5⟩
     ·rw[if_neg hid] at l3
      exact⟨b',c,y,n',c',l1',l2,B.kw_ow l3 l4,l4,l5⟩
 ·cases h
def C.ab (k e sz:Nat) (ds:List D):C→C
 | .own i z o n=>if i=k∧z=sz∧o=0∧ds.length=n*sz then .ow e sz n ds else(C.own i z o n).fg k
 | c=>c.fg k
theorem C.ab_own (k e sz:Nat) (ds:List D) (i z o n:Nat):C.ab k e sz ds (.own i z o n)=if i=k∧z=sz∧o=0∧ds.length=n*sz then .ow e sz n ds else(C.own i z o n).fg k:=rfl
def B.ab (k e sz:Nat) (ds:List D):B→B
 | .blk t cs => .blk t (cs.map (C.fg k))
 | .row e' z cs => .row e' z (cs.map (C.ab k e sz ds))
 | .ob o => .ob (o.mapR (R.fg k))
 | .dead => .dead
def q3s (s:S) (i:Nat):List Nat:=match s.blk i with | .row _ _ cs=>cs.flatMap C.rows|_=>[]
def qg0 (s:S):List Nat:=(s.hp.map Prod.fst).eraseDups.flatMap (q3s s)
def abS (s:S) (k e sz:Nat) (ds:List D):S:=⟨s.tm.map fun x=>(x.1,x.2.fg k),(k,.dead)::s.hp.map fun x=>(x.1,x.2.ab k e sz ds),s.nx,s.n⟩
def qqs (k:Nat):List Nat→Bool
 | []=>true
 | i::l=>if i=k then false else qqs k l
def qqt (k:Nat):List Nat→Bool
 | []=>true
 | i::l=>if i=k then qqs k l else qqt k l
theorem qbt {k:Nat}:∀{l:List Nat},qqs k l=true→(l.filter (fun i=>i==k)).length=0
 | [],_=>rfl
 | i::l,h=>by
  unfold qqs at h
  split at h
  ·cases h
  ·rename_i hn
   rw[List.filter_cons,if_neg (by simpa using hn)]
   exact qbt h
theorem qdW {k:Nat}:∀{l:List Nat},qqt k l=true→(l.filter (fun i=>i==k)).length≤1
 | [],_=>qy7 _
 | i::l,h=>by
  unfold qqt at h
  split at h
  ·rename_i hn
   rw[List.filter_cons,if_pos (by simpa using hn),qxS,qbt h]
   exact qxX _
  ·rename_i hn
   rw[List.filter_cons,if_neg (by simpa using hn)]
   exact qdW h
def ab2 (s:S) (k e sz:Nat):Option (List D)→S
 | some ds=>if 0<sz∧qqt k (qg0 s)=true then abS s k e sz ds else s
 | none=>s
def S.ab1 (s:S) (k:Nat):S:=match s.blk k with
 | .row e sz cs=>ab2 s k e sz (q3B cs)
 | _=>s
theorem qhP {α:Type} (f:α→List Nat) (k:Nat):∀(l:List α) (i j:Nat) (x y:α),i≠j→l[i]?=some x→l[j]?=some y→k∈f x→k∈f y→2≤((l.flatMap f).filter (fun q=>q==k)).length:=by
 have one:∀{l:List α} {x:α},x∈l→k∈f x→1≤((l.flatMap f).filter (fun q=>q==k)).length:=fun {l x} hx hk=>
  List.length_pos_iff.2 fun e=>by
   have:k∈(l.flatMap f).filter (fun q=>q==k):=qyC.2 ⟨List.mem_flatMap.2 ⟨x,hx,hk⟩,by simp⟩
   rw[e] at this;cases this
 have own:∀{x:α},k∈f x→1≤((f x).filter (fun q=>q==k)).length:=fun {x} hk=>
  List.length_pos_iff.2 fun e=>by
   have:k∈(f x).filter (fun q=>q==k):=qyC.2 ⟨hk,by simp⟩
   rw[e] at this;cases this
 intro l
 induction l with
 | nil=>intro i j x y _ h;simp at h
 | cons a l ih=>
  intro i j x y hij hi hj hx hy
  rw[qyL,List.filter_append,qxO]
  cases i with
  | zero=>
   cases j with
   | zero=>exact absurd rfl hij
   | succ j=>
    simp only[qxR,qyw] at hi
    subst hi
    have h1:=own hx
    have h2:=one (qxI (by simpa using hj)) hy
    omega
  | succ i=>
   cases j with
   | zero=>
    simp only[qxR,qyw] at hj
    subst hj
    have h1:=own hy
    have h2:=one (qxI (by simpa using hi)) hx
    omega
   | succ j=>
    have:=ih i j x y (by omega) (by simpa using hi) (by simpa using hj) hx hy
    omega
theorem qnl {α:Type} (f:α→List Nat) (k:Nat):∀(l:List α) (x:α),x∈l→((f x).filter (fun q=>q==k)).length≤((l.flatMap f).filter (fun q=>q==k)).length
 | a::l,x,h=>by
  rw[qyL,List.filter_append,qxO]
  rcases qy3.1 h with rfl|h
  ·omega
  ·have:=qnl f k l x h;omega
theorem qhy {α:Type} {z:α}:∀{l:List (Nat×α)} {i:Nat},(∀x,lk l i z=x→x≠z)→i∈l.map Prod.fst
 | [],i,h=>absurd rfl (h z rfl)
 | (j,x)::l,i,h=>by
  by_cases e:j=i
  ·subst e;exact qxW
  ·refine qxP _ (qhy (z:=z) fun y hy=>h y ?_)
   show(if j=i then x else lk l i z)=y
   rw[if_neg e];exact hy
theorem qdF {s:S} {k:Nat} (h:((qg0 s).filter (fun i=>i==k)).length≤1) {i i' j j' e e' z z':Nat} {cs cs':List C} {x x':C} (hi:s.blk i = .row e z cs) (hi':s.blk i' = .row e' z' cs') (hj:cs[j]?=some x) (hj':cs'[j']?=some x') (hx:k∈x.rows) (hx':k∈x'.rows):i=i'∧j=j':=by
 have hm:∀{i e z:Nat} {cs:List C},s.blk i = .row e z cs→i∈(s.hp.map Prod.fst).eraseDups:=fun {i e z cs} hb=>by
  rw[List.mem_eraseDups]
  exact qhy (z:=B.dead) fun y hy=>by
   have:s.blk i=y:=hy
   rw[hb] at this;rw[←this];intro h;cases h
 have hr:∀{i j e z:Nat} {cs:List C} {x:C},s.blk i = .row e z cs→cs[j]?=some x→k∈x.rows→k∈q3s s i:=fun {i j e z cs x} hb hj hx=>by
  unfold q3s;rw[hb]
  exact List.mem_flatMap.2 ⟨x,qxI hj,hx⟩
 by_cases hii:i=i'
 ·subst hii
  rw[hi] at hi'
  injection hi' with e1 e2 e3
  subst e3
  refine⟨rfl,Classical.byContradiction fun hne=>?_⟩
  have h1:=qhP C.rows k cs j j' x x' hne hj hj' hx hx'
  have h2:=qnl (q3s s) k _ i (hm hi)
  have h3:q3s s i=cs.flatMap C.rows:=by unfold q3s;rw[hi]
  rw[h3] at h2
  unfold qg0 at h
  omega
 ·exfalso
  obtain⟨p,hp⟩:=List.getElem?_of_mem (hm hi)
  obtain⟨p',hp'⟩:=List.getElem?_of_mem (hm hi')
  have hpp:p≠p':=fun e=>hii (by subst e;rw[hp] at hp';injection hp')
  have:=qhP (q3s s) k _ p p' i i' hpp hp hp' (hr hi hj hx) (hr hi' hj' hx')
  unfold qg0 at h
  omega
theorem qgI {cs:List C} {ds:List D} (h:q3B cs=some ds):cs=ds.map C.d:=q24 h
theorem B.ab_live (x:B) (k e sz:Nat) (ds:List D):(x.ab k e sz ds).live=x.live:=by cases x<;>rfl
theorem B.ab_isBlk (x:B) (k e sz:Nat) (ds:List D):(x.ab k e sz ds).isBlk=x.isBlk:=by cases x<;>rfl
theorem C.ab_is {c:C} {k e sz:Nat} {ds:List D} (h:(c.ab k e sz ds).isOw=true):(c.isOw=true∧c.ab k e sz ds=c)∨∃n,c = .own k sz 0 n∧ds.length=n*sz∧c.ab k e sz ds = .ow e sz n ds:=by
 cases c with
 | own i z o n=>
  rw[C.ab_own] at h ⊢
  by_cases hc:i=k∧z=sz∧o=0∧ds.length=n*sz
  ·rw[if_pos hc]
   obtain⟨rfl,rfl,rfl,h4⟩:=hc
   exact .inr ⟨n,rfl,h4,rfl⟩
  ·rw[if_neg hc] at h
   have:=C.fg_ow h
   cases this
 | ow e' sz' n cs=>exact .inl ⟨rfl,rfl⟩
 | fn f fs caps=>have:=C.fg_ow (c := .fn f fs caps) (id:=k) h;cases this
 | ptr i o=>have:=C.fg_ow (c := .ptr i o) (id:=k) h;cases this
 | hd q i=>have:=C.fg_ow (c := .hd q i) (id:=k) h;cases this
 | _=>cases h
theorem Sim.ab1 (hs:Sim cx ρ s a w) (k:Nat):∃ρ',Sim cx ρ' (s.ab1 k) a w:=by
 unfold S.ab1
 split
 ·rename_i e sz cs hbk
  unfold ab2
  split
  ·rename_i ds hds
   split
   ·rename_i hc
    obtain⟨hsz,hone⟩:=hc
    have hone:=qdW hone
    have hcs:=qgI hds
    have hlk:s.live k:=by unfold S.live;rw[hbk];rfl
    obtain⟨F',hF'⟩:∃F':Nat→Prop,F'=fun x=>ρ.F x∨∃c,ρ k=some (x,c):=⟨_,rfl⟩
    obtain⟨ρ',hρ⟩:∃ρ':Pl,ρ'=⟨ρ.at_,F'⟩:=⟨_,rfl⟩
    have hρi:∀i,ρ' i=ρ i:=fun i=>by rw[hρ]
    have hρF:∀x,ρ'.F x↔ρ.F x∨∃c,ρ k=some (x,c):=fun x=>by rw[hρ,hF']
    obtain⟨s',hs'⟩:∃s':S,s'=abS s k e sz ds:=⟨_,rfl⟩
    rw[←hs']
    have hb:∀i,s'.blk i=if k=i then .dead else(s.blk i).ab k e sz ds:=fun i=>by
     rw[hs']
     show lk ((k,B.dead)::s.hp.map fun x=>(x.1,x.2.ab k e sz ds)) i .dead=_
     simp only[lk]
     rw[Zu (B.ab k e sz ds) s.hp i .dead rfl]
     rfl
    have hg:∀i,s'.get i=(s.get i).fg k:=fun i=>by rw[hs'];exact Zu (R.fg k) s.tm i .any rfl
    have hl:∀i,s'.live i↔s.live i∧i≠k:=fun i=>by
     unfold S.live
     rw[hb]
     by_cases h:k=i
     ·rw[if_pos h];exact⟨fun h=>(by cases h),fun h2=>absurd h.symm h2.2⟩
     ·rw[if_neg h,B.ab_live];exact⟨fun h1=>⟨h1,Ne.symm h⟩,fun h1=>h1.1⟩
    have hocc:∀x,Occ s'.live ρ' x→Occ s.live ρ x:=fun x hx=>by
     rcases hx with hx|⟨i,c,h1,h2⟩
     ·rcases(hρF x).1 hx with h|⟨c,h⟩
      ·exact .inl h
      ·exact .inr ⟨k,c,hlk,h⟩
     ·exact .inr ⟨i,c,((hl i).1 h1).1,(hρi i).symm.trans h2⟩
    have hst:q5V k w s.live ρ w s'.live ρ':=⟨qxX _,fun _ _ _=>rfl,fun x _ hx=>hocc x hx,fun i hi h1=>⟨(hl i).2 ⟨h1,hi⟩,hρi i⟩,fun x hx=>⟨(hρF x).2 (.inl hx),fun _=>rfl⟩⟩
    -- the row as it lies
    have hrow:∀d c,ρ k=some (d,c)→∃vs:Array Value,w.heap[d]?=some (.cells vs e (0,0))∧vs.size=c*sz∧c≤maxLen∧∀j x,ds[j]?=some x→RD w (Occ s.live ρ) (vs.getD j undef) x:=fun d c hr=>by
     have h:=(hs.hp k d c hlk hr).2
     rw[hbk] at h
     obtain⟨vs,g1,g2,g3,g4,g5,g6⟩:=h
     refine⟨vs,g1,g3,g4,fun j x hj=>?_⟩
     have:=g6 j (.d x) (by rw[hcs,qxV,hj];rfl)
     exact this.inv_d
    have hput:∀v n,RC w s.live ρ v (.own k sz 0 n)→ds.length=n*sz→RC w s'.live ρ' v (.ow e sz n ds):=fun v n h hn=>by
     cases h with
     | own _ _ _ _ d c q1 q2 q3 q4=>
      obtain⟨vs,g1,g2,g3,g4⟩:=hrow d c q2
      have:=RC.ow (w:=w) (L:=s'.live) (ρ:=ρ') e sz n d c ds vs ((hρF d).2 (.inr ⟨c,q2⟩)) g1 g2 (by omega) q4 hsz hn (fun j x hj=>(g4 j x hj).occ hocc)
      simpa using this
     | own0 _ _ q1 q2=>
      have:ds=[]:=qy0 (by simpa using hn)
      subst this
      exact .ow0 e sz hsz
    have hmap:∀{vs:Nat→Value} {cs:List C},(∀j c,cs[j]?=some c→RC w s.live ρ (vs j) c)→∀j c,(cs.map (C.ab k e sz ds))[j]?=some c→RC w s'.live ρ' (vs j) c:=fun h j c hj=>by
     rw[qxV] at hj
     obtain⟨y,g1,g2⟩:=qxU.1 hj
     subst g2
     have hy:=h j y g1
     by_cases ho:(y.ab k e sz ds).isOw=true
     ·rcases C.ab_is ho with ⟨h1,h2⟩|⟨n,rfl,h2,h3⟩
      ·rw[h2]
       have:=hy.stayX hst
       have e2:y.fg k=y:=by obtain⟨a1,a2,a3,a4,rfl⟩:=q4j h1;rfl
       rwa [e2] at this
      ·rw[h3];exact hput _ n hy h2
     ·have e2:y.ab k e sz ds=y.fg k:=by
       cases y with
       | own i z o n=>
        rw[C.ab_own] at ho ⊢
        by_cases hc:i=k∧z=sz∧o=0∧ds.length=n*sz
        ·rw[if_pos hc] at ho;exact absurd rfl ho
        ·rw[if_neg hc]
       | _=>rfl
      rw[e2];exact hy.stayX hst
    have hpk:¬ k<cx.k:=fun h=>by
     have:=(hs.pin k h).2
     rw[hbk] at this;cases this
    have hOw:∀i j d,q6v s' ρ' w i j d→q6v s ρ w i j d∨(∃e' z cs' n,s.blk i = .row e' z cs'∧cs'[j]?=some (.own k sz 0 n)∧∃c,ρ k=some (d,c)):=fun i j d hw=>by
     obtain⟨b,c,y,n,c',l1,l2,l3,l4,l5⟩:=hw
     rw[hρi] at l2
     obtain⟨l1,hik⟩:=(hl i).1 l1
     rw[hb,if_neg (Ne.symm hik)] at l3
     have hB:=(hs.hp i b c l1 l2).2
     cases hx:s.blk i with
     | dead=>rw[hx] at l3;simp[B.ab,B.cells] at l3
     | ob o=>rw[hx] at l3;simp[B.ab,B.cells] at l3
     | blk t cs1=>
      rw[hx] at l3
      have l3:(cs1.map (C.fg k))[j]?=some y:=l3
      rw[qxV] at l3
      obtain⟨z,g1,g2⟩:=qxU.1 l3
      exact .inl ⟨b,c,z,n,c',l1,l2,by rw[hx];exact g1,C.fg_ow (g2 ▸ l4),l5⟩
     | row e' z' cs1=>
      rw[hx] at l3
      have l3:(cs1.map (C.ab k e sz ds))[j]?=some y:=l3
      rw[qxV] at l3
      obtain⟨z,g1,g2⟩:=qxU.1 l3
      rcases C.ab_is (g2 ▸ l4) with ⟨h1,-⟩|⟨n1,rfl,h2,h3⟩
      ·exact .inl ⟨b,c,z,n,c',l1,l2,by rw[hx];exact g1,h1,l5⟩
      ·refine .inr ⟨e',z',cs1,n1,rfl,g1,?_⟩
       obtain⟨v,q1,q2⟩:=hB.cell (j:=j) (c := .own k sz 0 n1) (by rw[hx];exact g1)
       rw[l5] at q1
       injection q1 with q1
       subst q1
       rcases(RR.c _ _ q2).inv_own.2 with ⟨d',cp,r1,r2,r3,r4⟩|⟨r1,r2,-⟩
       ·injection r4 with r4
        injection r4 with r4
        injection r4 with r4
        subst r4
        exact⟨cp,r1⟩
       ·cases r2
    refine⟨ρ',hs.hd.mono (qxX _) (fun _ _ _=>rfl) (fun x _ h=>hocc x h),by rw[hs'];exact hs.size,fun i=>by rw[hg];exact(hs.tm i).stayX hst,fun i b cap hi hr=>?_,fun i hi hr=>?_,fun i b cap hi hr=>?_,fun i j b c c' hi hj hri hrj=>?_,fun i hi=>?_,hs.kept,fun x hx=>⟨(hρF x).2 (.inl (hs.oldF x hx).1),(hs.oldF x hx).2⟩,fun i hi=>?_,fun i b cap hi hr=>?_,?_⟩
    ·obtain⟨h1,h2⟩:=(hl i).1 hi
     rw[hρi] at hr
     obtain⟨h3,h4⟩:=hs.hp i b cap h1 hr
     refine⟨h3,?_⟩
     rw[hb,if_neg (Ne.symm h2)]
     cases hx:s.blk i with
     | dead=>trivial
     | ob o=>rw[hx] at h4;exact HO.map rfl (fun v x _ hx=>hx.stayX hst) h4
     | blk t cs1=>rw[hx] at h4;obtain⟨vs,g1,g2,g3⟩:=h4;exact⟨vs,g1,by simpa using g2,q7d g3 hst⟩
     | row e' z cs1=>rw[hx] at h4;obtain⟨vs,g1,g2,g3,g4,g5,g6⟩:=h4;exact⟨vs,g1,by simpa using g2,g3,g4,g5,hmap g6⟩
    ·obtain⟨h1,h2⟩:=(hl i).1 hi
     rw[hρi] at hr
     obtain⟨e',sz',h5⟩:=hs.hp0 i h1 hr
     exact⟨e',sz',by rw[hb,if_neg (Ne.symm h2),h5];rfl⟩
    ·rw[hρi] at hr;exact hs.out i b cap ((hl i).1 hi).1 hr
    ·rw[hρi] at hri hrj;exact hs.inj i j b c c' ((hl i).1 hi).1 ((hl j).1 hj).1 hri hrj
    ·rw[hs'];exact hs.nx i ((hl i).1 hi).1
    ·obtain⟨h1,h2⟩:=hs.pin i hi
     have hik:i≠k:=fun e=>hpk (e ▸ hi)
     exact⟨(hρi i).trans h1,by rw[hb,if_neg (Ne.symm hik),B.ab_isBlk];exact h2⟩
    ·obtain⟨h1,h2⟩:=(hl i).1 hi
     rw[hρi] at hr
     intro hF
     rcases(hρF b).1 hF with h|⟨c,h⟩
     ·exact hs.disj i b cap h1 hr h
     ·exact h2 (hs.inj i k b cap c h1 hlk hr h)
    ·have hFow:∀i j d,q6v s ρ w i j d→ρ.F d:=fun i j d hw=>by
      obtain⟨b,c,y,n,c',l1,l2,l3,l4,l5⟩:=hw
      obtain⟨e1,sz1,n1,ds1,rfl⟩:=q4j l4
      obtain⟨v,v1,-,v2⟩:=hs.ow_at l1 l2 l3
      rw[l5] at v1
      injection v1 with v1
      subst v1
      rcases v2 with ⟨q,-,-⟩|⟨d',c1,vs,q1,-,q2,-⟩
      ·cases q
      ·injection q1 with q1;injection q1 with q1;injection q1 with q1;subst q1;exact q2
     refine⟨fun x hx=>?_,fun i j i' j' d h1 h2=>?_,fun i j d h1=>?_⟩
     ·rcases(hρF x).1 hx with h|⟨c,h⟩
      ·exact hs.ows.lt x h
      ·exact(hs.hp k x c hlk h).1
     ·rcases hOw i j d h1 with g|⟨e1,z1,cs1,n1,g1,g2,c1,g3⟩<;>rcases hOw i' j' d h2 with g' | ⟨e2,z2,cs2,n2,g1',g2',c2,g3'⟩
      ·exact hs.ows.one i j i' j' d g g'
      ·exact absurd (hFow i j d g) (hs.disj k d c2 hlk g3')
      ·exact absurd (hFow i' j' d g') (hs.disj k d c1 hlk g3)
      ·exact qdF hone g1 g1' g2 g2' (qyx.2 rfl) (qyx.2 rfl)
     ·rcases hOw i j d h1 with g|⟨e1,z1,cs1,n1,g1,g2,c1,g3⟩
      ·exact hs.ows.new i j d g
      ·exact⟨hs.out k d c1 hlk g3,fun h=>hs.disj k d c1 hlk g3 (hs.oldF d h).1⟩
   ·exact⟨ρ,hs⟩
  ·exact⟨ρ,hs⟩
 ·exact⟨ρ,hs⟩
def qgS:Option (Nat×Nat)→C→C
 | some (e,sz),.nils=>if 0<sz then .ow e sz 0 [] else .nils
 | _,c=>c
def q5d (zs0:List (Option (Nat×Nat))):List (Option (Nat×Nat))→List C→List C
 | _,[]=>[]
 | [],x::r=>qgS (zs0.headD none) x::q5d zs0 zs0.tail r
 | z::zs,x::r=>qgS z x::q5d zs0 zs r
def qdM (Q:TypeId→List (Option (Nat×Nat))):B→B
 | .row e sz cs=>if cs.any C.isNils=true then .row e sz (q5d (Q e) [] cs) else .row e sz cs
 | b=>b
def S.dzo (s:S) (Q:TypeId→List (Option (Nat×Nat))):S:={ s with hp:=s.hp.map fun x=>(x.1,qdM Q x.2) }
theorem q6i (z:Option (Nat×Nat)) (x:C):qgS z x=x∨(x = .nils∧∃e sz,0<sz∧qgS z x = .ow e sz 0 []):=by
 unfold qgS
 split
 ·split
  ·rename_i h;exact .inr ⟨rfl,_,_,h,rfl⟩
  ·exact .inl rfl
 ·exact .inl rfl
theorem q6B (zs0:List (Option (Nat×Nat))):∀(zs:List (Option (Nat×Nat))) (cs:List C),(q5d zs0 zs cs).length=cs.length∧∀(j:Nat) (y:C),(q5d zs0 zs cs)[j]?=some y→∃x z,cs[j]?=some x∧y=qgS z x
 | zs,[]=>by cases zs<;>exact⟨rfl,fun j y h=>by simp[q5d] at h⟩
 | [],x::r=>by
  obtain⟨h1,h2⟩:=q6B zs0 zs0.tail r
  refine⟨by simp[q5d,h1],fun j y hj=>?_⟩
  cases j with
  | zero=>simp only[q5d,qxR,qyw] at hj;exact⟨x,_,rfl,hj.symm⟩
  | succ j=>simp only[q5d,qy6] at hj ⊢;exact h2 j y hj
 | z::zs,x::r=>by
  obtain⟨h1,h2⟩:=q6B zs0 zs r
  refine⟨by simp[q5d,h1],fun j y hj=>?_⟩
  cases j with
  | zero=>simp only[q5d,qxR,qyw] at hj;exact⟨x,_,rfl,hj.symm⟩
  | succ j=>simp only[q5d,qy6] at hj ⊢;exact h2 j y hj
theorem qbS (Q:TypeId→List (Option (Nat×Nat))) (b:B):(qdM Q b).live=b.live:=by
 cases b with
 | row e sz cs=>unfold qdM;simp only;split<;>rfl
 | _=>rfl
theorem qac (Q:TypeId→List (Option (Nat×Nat))) (b:B):(qdM Q b).isBlk=b.isBlk:=by
 cases b with
 | row e sz cs=>unfold qdM;simp only;split<;>rfl
 | _=>rfl
theorem Sim.dzo (hs:Sim cx ρ s a w) (Q:TypeId→List (Option (Nat×Nat))):Sim cx ρ (s.dzo Q) a w:=by
 have hb:∀i,(s.dzo Q).blk i=qdM Q (s.blk i):=fun i=>Zu (qdM Q) s.hp i .dead rfl
 have hl:(s.dzo Q).live=s.live:=by funext i;unfold S.live;rw[hb,qbS]
 refine⟨by rw[hl];exact hs.hd,hs.size,fun i=>by rw[hl];exact hs.tm i,fun i b cap hi hr=>?_,fun i hi hr=>?_,by rw[hl];exact hs.out,by rw[hl];exact hs.inj,fun i hi=>hs.nx i (hl ▸ hi),hs.kept,hs.oldF,fun i hi=>?_,by rw[hl];exact hs.disj,?_⟩
 ·rw[hl] at hi ⊢
  obtain⟨h1,h2⟩:=hs.hp i b cap hi hr
  refine⟨h1,?_⟩
  rw[hb]
  cases hx:s.blk i with
  | row e' sz cs=>
   rw[hx] at h2
   unfold qdM
   simp only
   split
   ·obtain⟨vs,g1,g2,g3,g4,g5,g6⟩:=h2
    obtain⟨q1,q2⟩:=q6B (Q e') [] cs
    refine⟨vs,g1,by rw[q1];exact g2,g3,g4,g5,fun j c hj=>?_⟩
    obtain⟨x,z,r1,r2⟩:=q2 j c hj
    have h3:=g6 j x r1
    rcases q6i z x with e1|⟨rfl,e1,sz1,e2,e3⟩
    ·rw[r2,e1];exact h3
    ·rw[r2,e3,(RR.c _ _ h3).inv_nils];exact .ow0 _ _ e2
   ·exact h2
  | blk t cs=>rw[hx] at h2;exact h2
  | ob o=>rw[hx] at h2;exact h2
  | dead=>trivial
 ·rw[hl] at hi
  obtain⟨e,sz,g⟩:=hs.hp0 i hi hr
  exact⟨e,sz,by rw[hb,g];rfl⟩
 ·obtain⟨h1,h2⟩:=hs.pin i hi
  exact⟨h1,by rw[hb,qac];exact h2⟩
 ·refine hs.ows.sub hs.ows.lt fun i j d hw=>?_
  obtain⟨b,c,y,n,c',l1,l2,l3,l4,l5⟩:=hw
  rw[hl] at l1
  rw[hb] at l3
  cases hx:s.blk i with
  | row e' sz cs=>
   rw[hx] at l3
   unfold qdM at l3
   simp only at l3
   split at l3
   ·obtain⟨x,z,r1,r2⟩:=(q6B (Q e') [] cs).2 j y l3
    rcases q6i z x with e1|⟨rfl,e1,sz1,e2,e3⟩
    ·rw[e1] at r2
     exact⟨b,c,x,n,c',l1,l2,by rw[hx];exact r1,r2 ▸ l4,l5⟩
    ·exfalso
     obtain⟨v,q1,q2⟩:=(hs.hp i b c l1 l2).2.cell (j:=j) (c := .nils) (by rw[hx];exact r1)
     rw[l5] at q1
     injection q1 with q1
     have:=(RR.c _ _ q2).inv_nils
     rw[←q1] at this
     cases this
   ·exact⟨b,c,y,n,c',l1,l2,by rw[hx];exact l3,l4,l5⟩
  | blk t cs=>rw[hx] at l3;exact⟨b,c,y,n,c',l1,l2,by rw[hx];exact l3,l4,l5⟩
  | ob o=>rw[hx] at l3;exact⟨b,c,y,n,c',l1,l2,by rw[hx];exact l3,l4,l5⟩
  | dead=>rw[hx] at l3;exact⟨b,c,y,n,c',l1,l2,by rw[hx];exact l3,l4,l5⟩
def S.wk (s:S) (k id:Nat):S:={ s with hp:=s.hp.map fun x=>(x.1,if x.1=id then x.2 else x.2.fgL [k]) }
theorem qey {f:Nat→B→B} {d:B} (hd:∀i,f i d=d):∀(l:List (Nat×B)) (i:Nat),lk (l.map fun x=>(x.1,f x.1 x.2)) i d=f i (lk l i d)
 | [],i=>(hd i).symm
 | (j,x)::l,i=>by
  show(if j=i then f j x else lk (l.map fun x=>(x.1,f x.1 x.2)) i d)=f i (if j=i then x else lk l i d)
  by_cases h:j=i
  ·rw[if_pos h,if_pos h,h]
  ·rw[if_neg h,if_neg h,qey hd l i]
theorem S.wk_blk (s:S) (k id i:Nat):(s.wk k id).blk i=if i=id then s.blk i else(s.blk i).fgL [k]:=
 qey (f:=fun i b=>if i=id then b else b.fgL [k]) (d := .dead) (fun i=>by split<;>rfl) s.hp i
theorem S.wk_live (s:S) (k id:Nat):(s.wk k id).live=s.live:=by
 funext i
 unfold S.live
 rw[S.wk_blk]
 split
 ·rfl
 ·rw[B.fgL_live]
theorem Sim.wk {a:Act} {w:World} {s:S} {ρ:Pl} (hs:Sim cx ρ s a w) (k id:Nat):Sim cx ρ (s.wk k id) a w:=by
 have hL:=S.wk_live s k id
 have st:q3j [k] w s.live ρ w s.live ρ:=⟨qxX _,fun b _ _=>rfl,fun b _ h=>h,fun i _ h=>⟨h,rfl⟩,fun b h=>⟨h,fun _=>rfl⟩⟩
 refine⟨by rw[hL];exact hs.hd,hs.size,by rw[hL];exact hs.tm,?_,?_,by rw[hL];exact hs.out,by rw[hL];exact hs.inj,by rw[hL];exact hs.nx,hs.kept,hs.oldF,?_,by rw[hL];exact hs.disj,?_⟩
 ·rw[hL]
  intro i b cap hi hr
  obtain⟨h1,h2⟩:=hs.hp i b cap hi hr
  refine⟨h1,?_⟩
  rw[S.wk_blk]
  split
  ·exact h2
  ·exact HB.stayL st rfl h2
 ·rw[hL]
  intro i hi hr
  obtain⟨e,sz,h⟩:=hs.hp0 i hi hr
  refine⟨e,sz,?_⟩
  rw[S.wk_blk,h]
  split<;>rfl
 ·intro i hi
  obtain⟨h1,h2⟩:=hs.pin i hi
  refine⟨h1,?_⟩
  rw[S.wk_blk]
  split
  ·exact h2
  ·rw[B.fgL_isBlk];exact h2
 ·refine hs.ows.sub hs.ows.lt fun i j d h=>?_
  obtain⟨b,cap,x,n,c,h1,h2,h3,h4,h5⟩:=h
  rw[hL] at h1
  rw[S.wk_blk] at h3
  split at h3
  ·exact⟨b,cap,x,n,c,h1,h2,h3,h4,h5⟩
  ·obtain⟨z,h6,h7⟩:=B.fgL_ow h3 h4
   exact⟨b,cap,z,n,c,h1,h2,h6,h7,h5⟩
def qhi:Nat→List Nat→List Nat
 | 0,l=>l
 | n+1,l=>qhi n (n::l)
def quS (s:S) (k:Nat):Nat:=((qhi s.nx []).filter fun i=>(q3s s i).contains k).headD 0
def S.abR (s:S) (k:Nat):S:=(s.wk k (quS s k)).ab1 k
theorem Sim.abR {a:Act} {w:World} {s:S} {ρ:Pl} (hs:Sim cx ρ s a w) (k:Nat):∃ρ',Sim cx ρ' (s.abR k) a w:=(hs.wk k (quS s k)).ab1 k
def S.abL (s:S):List Nat→S
 | []=>s
 | k::l=>S.abL (s.abR k) l
theorem Sim.abL {a:Act} {w:World}:∀(l:List Nat) {s:S} {ρ:Pl},Sim cx ρ s a w→∃ρ',Sim cx ρ' (s.abL l) a w
 | [],_,ρ,hs=>⟨ρ,hs⟩
 | k::l,_,_,hs=>by
  obtain⟨ρ',h⟩:=hs.abR k
  exact Sim.abL l h
def Kd.isSl0:Kd→Bool
 | .sl _=>true
 | _=>false
theorem q9r {k:Kd} (h:k.isSl0=true):∃e,k = .sl e:=by cases k<;>simp[Kd.isSl0] at h;exact⟨_,rfl⟩
theorem qno (hs:Sim cx ρ s a w) {id j e sz n:Nat} {ds:List D} (hc:(s.blk id).cells[j]?=some (.ow e sz n ds)):((tkS s id j e sz n ds).blk id).cells[j]?=some (.own s.nx sz 0 n):=by
 have hlid:s.live id:=by
  unfold S.live
  cases hb:s.blk id with
  | dead=>rw[hb] at hc;simp[B.cells] at hc
  | _=>rfl
 have hne:s.nx≠id:=fun e=>by have:=hs.nx _ hlid;omega
 have hob:(s.blk id).kw.isOb=false:=by
  cases hb:s.blk id with
  | ob o=>rw[hb] at hc;simp[B.cells] at hc
  | _=>rfl
 have e1:(tkS s id j e sz n ds).blk id=(s.blk id).kw.set j [.own s.nx sz 0 n]:=by
  show lk ((s.nx,_)::(id,_)::_) id B.dead=_
  unfold lk
  rw[if_neg hne]
  unfold lk
  rw[if_pos rfl]
 rw[e1,B.set1_cells hob,qyE]
 rw[B.kw_cells,qyp]
 exact(qxL.1 hc).1
def abAt (s:S) (id j k e sz n:Nat) (ds:List D):S:=⟨s.tm.map fun x=>(x.1,x.2.fg k),(k,.dead)::(id,((s.blk id).fg k).set j [.ow e sz n ds])::s.hp.map fun x=>(x.1,x.2.fg k),s.nx,s.n⟩
theorem Sim.abAt (hs:Sim cx ρ s a w) {id j k e sz n:Nat} {cs:List C} {ds:List D} (hbk:s.blk k = .row e sz cs) (hcs:cs=ds.map C.d) (hsz:0<sz) (hn:ds.length=n*sz) (hj:(s.blk id).cells[j]?=some (.own k sz 0 n)) (hik:id≠k):∃ρ',Sim cx ρ' (Vc.abAt s id j k e sz n ds) a w:=by
 have hlk:s.live k:=by unfold S.live;rw[hbk];rfl
 have hlid:s.live id:=by
  unfold S.live
  cases hb:s.blk id with
  | dead=>rw[hb] at hj;simp[B.cells] at hj
  | _=>rfl
 have hob:(s.blk id).isOb=false:=by
  cases hb:s.blk id with
  | ob o=>rw[hb] at hj;simp[B.cells] at hj
  | _=>rfl
 have hobf:((s.blk id).fg k).isOb=false:=by cases hb:s.blk id<;>first|rfl|(rw[hb] at hob;cases hob)
 obtain⟨F',hF'⟩:∃F':Nat→Prop,F'=fun x=>ρ.F x∨∃c,ρ k=some (x,c):=⟨_,rfl⟩
 obtain⟨ρ',hρ⟩:∃ρ':Pl,ρ'=⟨ρ.at_,F'⟩:=⟨_,rfl⟩
 have hρi:∀i,ρ' i=ρ i:=fun i=>by rw[hρ]
 have hρF:∀x,ρ'.F x↔ρ.F x∨∃c,ρ k=some (x,c):=fun x=>by rw[hρ,hF']
 obtain⟨s',hs'⟩:∃s':S,s'=Vc.abAt s id j k e sz n ds:=⟨_,rfl⟩
 rw[←hs']
 have hb:∀i,s'.blk i=if k=i then .dead else if id=i then((s.blk id).fg k).set j [.ow e sz n ds] else(s.blk i).fg k:=fun i=>by
  rw[hs']
  show(if k=i then _ else if id=i then _ else lk (s.hp.map fun x=>(x.1,x.2.fg k)) i B.dead)=_
  rw[Zu (B.fg k) s.hp i .dead rfl]
  rfl
 have hg:∀i,s'.get i=(s.get i).fg k:=fun i=>by rw[hs'];exact Zu (R.fg k) s.tm i .any rfl
 have hl:∀i,s'.live i↔s.live i∧i≠k:=fun i=>by
  unfold S.live
  rw[hb]
  by_cases h:k=i
  ·rw[if_pos h];exact⟨fun h=>(by cases h),fun h2=>absurd h.symm h2.2⟩
  ·rw[if_neg h]
   by_cases h2:id=i
   ·subst h2
    rw[if_pos rfl,B.set_live (by rw[B.fg_live];exact hlid)]
    exact⟨fun _=>⟨hlid,hik⟩,fun _=>rfl⟩
   ·rw[if_neg h2,B.fg_live];exact⟨fun h1=>⟨h1,Ne.symm h⟩,fun h1=>h1.1⟩
 have hocc:∀x,Occ s'.live ρ' x→Occ s.live ρ x:=fun x hx=>by
  rcases hx with hx|⟨i,c,h1,h2⟩
  ·rcases(hρF x).1 hx with h|⟨c,h⟩
   ·exact .inl h
   ·exact .inr ⟨k,c,hlk,h⟩
  ·exact .inr ⟨i,c,((hl i).1 h1).1,(hρi i).symm.trans h2⟩
 have hst:q5V k w s.live ρ w s'.live ρ':=⟨qxX _,fun _ _ _=>rfl,fun x _ hx=>hocc x hx,fun i hi h1=>⟨(hl i).2 ⟨h1,hi⟩,hρi i⟩,fun x hx=>⟨(hρF x).2 (.inl hx),fun _=>rfl⟩⟩
 have hrow:∀d c,ρ k=some (d,c)→∃vs:Array Value,w.heap[d]?=some (.cells vs e (0,0))∧vs.size=c*sz∧c≤maxLen∧∀j x,ds[j]?=some x→RD w (Occ s.live ρ) (vs.getD j undef) x:=fun d c hr=>by
  have h:=(hs.hp k d c hlk hr).2
  rw[hbk] at h
  obtain⟨vs,g1,g2,g3,g4,g5,g6⟩:=h
  refine⟨vs,g1,g3,g4,fun j x hj=>?_⟩
  have:=g6 j (.d x) (by rw[hcs,qxV,hj];rfl)
  exact this.inv_d
 have hput:∀v,RC w s.live ρ v (.own k sz 0 n)→RC w s'.live ρ' v (.ow e sz n ds):=fun v h=>by
  cases h with
  | own _ _ _ _ d c q1 q2 q3 q4=>
   obtain⟨vs,g1,g2,g3,g4⟩:=hrow d c q2
   have:=RC.ow (w:=w) (L:=s'.live) (ρ:=ρ') e sz n d c ds vs ((hρF d).2 (.inr ⟨c,q2⟩)) g1 g2 (by omega) q4 hsz hn (fun j x hj=>(g4 j x hj).occ hocc)
   simpa using this
  | own0 _ _ q1 q2=>
   have:ds=[]:=qy0 (by simpa using hn)
   subst this
   exact .ow0 e sz hsz
 have hpk:¬ k<cx.k:=fun h=>by
  have:=(hs.pin k h).2
  rw[hbk] at this;cases this
 have hset:∀{vs:Nat→Value} {cs:List C},cs[j]?=some (.own k sz 0 n)→(∀j c,cs[j]?=some c→RC w s.live ρ (vs j) c)→∀i c,((cs.map (C.fg k)).set j (.ow e sz n ds))[i]?=some c→RC w s'.live ρ' (vs i) c:=fun hjc h i c hi=>by
  by_cases hji:j=i
  ·subst hji
   rw[qyE (by rw[qyp];exact(qxL.1 hjc).1)] at hi
   injection hi with hi
   subst hi
   exact hput _ (h j _ hjc)
  ·rw[qyF hji] at hi
   exact q7d h hst i c hi
 have hOw:∀i q d,q6v s' ρ' w i q d→q6v s ρ w i q d∨(i=id∧q=j∧∃c,ρ k=some (d,c)):=fun i q d hw=>by
  obtain⟨b,c,y,n1,c',l1,l2,l3,l4,l5⟩:=hw
  rw[hρi] at l2
  obtain⟨l1,hki⟩:=(hl i).1 l1
  rw[hb,if_neg (Ne.symm hki)] at l3
  by_cases hid:id=i
  ·subst hid
   rw[if_pos rfl,B.set1_cells hobf] at l3
   by_cases hjq:j=q
   ·subst hjq
    refine .inr ⟨rfl,rfl,?_⟩
    obtain⟨v,q1,q2⟩:=(hs.hp id b c l1 l2).2.cell hj
    rw[l5] at q1
    injection q1 with q1
    subst q1
    rcases(RR.c _ _ q2).inv_own.2 with ⟨d',cp,r1,r2,r3,r4⟩|⟨r1,r2,-⟩
    ·injection r4 with r4
     injection r4 with r4
     injection r4 with r4
     subst r4
     exact⟨cp,r1⟩
    ·cases r2
   ·rw[qyF hjq] at l3
    obtain⟨z,e1,e2⟩:=B.fg_ow l3 l4
    exact .inl ⟨b,c,z,n1,c',l1,l2,e1,e2,l5⟩
  ·rw[if_neg hid] at l3
   obtain⟨z,e1,e2⟩:=B.fg_ow l3 l4
   exact .inl ⟨b,c,z,n1,c',l1,l2,e1,e2,l5⟩
 refine⟨ρ',hs.hd.mono (qxX _) (fun _ _ _=>rfl) (fun x _ h=>hocc x h),by rw[hs'];exact hs.size,fun i=>by rw[hg];exact(hs.tm i).stayX hst,fun i b cap hi hr=>?_,fun i hi hr=>?_,fun i b cap hi hr=>?_,fun i j b c c' hi hj hri hrj=>?_,fun i hi=>?_,hs.kept,fun x hx=>⟨(hρF x).2 (.inl (hs.oldF x hx).1),(hs.oldF x hx).2⟩,fun i hi=>?_,fun i b cap hi hr=>?_,?_⟩
 ·obtain⟨h1,h2⟩:=(hl i).1 hi
  rw[hρi] at hr
  obtain⟨h3,h4⟩:=hs.hp i b cap h1 hr
  refine⟨h3,?_⟩
  rw[hb,if_neg (Ne.symm h2)]
  by_cases hid:id=i
  ·subst hid
   rw[if_pos rfl]
   cases hx:s.blk id with
   | dead=>trivial
   | ob o=>rw[hx] at hob;cases hob
   | blk t cs1=>rw[hx] at h4 hj;obtain⟨vs,g1,g2,g3⟩:=h4;exact⟨vs,g1,by show vs.size=((cs1.map (C.fg k)).set j _).length;simpa using g2,hset hj g3⟩
   | row e' z cs1=>rw[hx] at h4 hj;obtain⟨vs,g1,g2,g3,g4,g5,g6⟩:=h4;exact⟨vs,g1,by show((cs1.map (C.fg k)).set j _).length≤vs.size;simpa using g2,g3,g4,g5,hset hj g6⟩
  ·rw[if_neg hid]
   exact h4.stayX hst rfl
 ·obtain⟨h1,h2⟩:=(hl i).1 hi
  rw[hρi] at hr
  obtain⟨e',sz',h5⟩:=hs.hp0 i h1 hr
  have hid:id≠i:=fun e=>by rw[e,h5] at hj;simp[B.cells] at hj
  exact⟨e',sz',by rw[hb,if_neg (Ne.symm h2),if_neg hid,h5];rfl⟩
 ·rw[hρi] at hr;exact hs.out i b cap ((hl i).1 hi).1 hr
 ·rw[hρi] at hri hrj;exact hs.inj i j b c c' ((hl i).1 hi).1 ((hl j).1 hj).1 hri hrj
 ·rw[hs'];exact hs.nx i ((hl i).1 hi).1
 ·obtain⟨h1,h2⟩:=hs.pin i hi
  have hik':i≠k:=fun e=>hpk (e ▸ hi)
  refine⟨(hρi i).trans h1,?_⟩
  rw[hb,if_neg (Ne.symm hik')]
  by_cases hid:id=i
  ·subst hid;rw[if_pos rfl];exact B.set_isBlk (by rw[B.fg_isBlk];exact h2)
  ·rw[if_neg hid,B.fg_isBlk];exact h2
 ·obtain⟨h1,h2⟩:=(hl i).1 hi
  rw[hρi] at hr
  intro hF
  rcases(hρF b).1 hF with h|⟨c,h⟩
  ·exact hs.disj i b cap h1 hr h
  ·exact h2 (hs.inj i k b cap c h1 hlk hr h)
 ·have hFow:∀i j d,q6v s ρ w i j d→ρ.F d:=fun i j d hw=>by
   obtain⟨b,c,y,n,c',l1,l2,l3,l4,l5⟩:=hw
   obtain⟨e1,sz1,n1,ds1,rfl⟩:=q4j l4
   obtain⟨v,v1,-,v2⟩:=hs.ow_at l1 l2 l3
   rw[l5] at v1
   injection v1 with v1
   subst v1
   rcases v2 with ⟨q,-,-⟩|⟨d',c1,vs,q1,-,q2,-⟩
   ·cases q
   ·injection q1 with q1;injection q1 with q1;injection q1 with q1;subst q1;exact q2
  refine⟨fun x hx=>?_,fun i q i' q' d h1 h2=>?_,fun i q d h1=>?_⟩
  ·rcases(hρF x).1 hx with h|⟨c,h⟩
   ·exact hs.ows.lt x h
   ·exact(hs.hp k x c hlk h).1
  ·rcases hOw i q d h1 with g|⟨g1,g2,c1,g3⟩<;>rcases hOw i' q' d h2 with g' | ⟨g1',g2',c2,g3'⟩
   ·exact hs.ows.one i q i' q' d g g'
   ·exact absurd (hFow i q d g) (hs.disj k d c2 hlk g3')
   ·exact absurd (hFow i' q' d g') (hs.disj k d c1 hlk g3)
   ·exact⟨g1.trans g1'.symm,g2.trans g2'.symm⟩
  ·rcases hOw i q d h1 with g|⟨g1,g2,c1,g3⟩
   ·exact hs.ows.new i q d g
   ·exact⟨hs.out k d c1 hlk g3,fun h=>hs.disj k d c1 hlk g3 (hs.oldF d h).1⟩
end
end
end Go.Proofs.Ytofbcijbpfjliaa.Vc
namespace Go
open Go
section
variable {P:Program} {F:Fence} {n:Nat} {a:Act} {w:World} {Q:Exit→Act→World→Prop}
theorem ZE {b:Frame} {k:List Item} {cs:List Frame} {c:Code}:step P (lone (b.atR a (.code (.scope c)::k)) cs w) = .next (lone (b.atR a (.code c :: .inScope c::k)) cs w):=
 step_lone_go (by simp[stepG,stepG.exec,Frame.atR])
theorem q5M {b:Frame} {k:List Item} {cs:List Frame} {c:Code}:step P (lone (b.atR a (.inScope c::k)) cs w) = .next (lone (b.atR a k) cs w):=
 step_lone_go (by simp[stepG,stepG.exec,Frame.atR])
theorem qad {c:Code} (h:c.wpIn F n P (fun e a w=>Q e a w∧∀l,e ≠ .goto l) a w):(Code.scope c).wpIn F n P Q a w:=by
 intro b k cs hro hb hr
 have h0:(lone (b.atR a (.code (.scope c)::k)) cs w).fenced P F:=fenced_calm hb hr rfl
 obtain⟨e,a₁,w₁,⟨hq,hg⟩,harr⟩:=h b (.inScope c::k) cs hro hb hr
 cases e with
 | normal=>exact⟨.normal,a₁,w₁,hq,.head h0 ZE (StepsIn.trans harr (.one (fenced_calm hb hr rfl) q5M))⟩
 | exit id'=>
  have hx:exitTo id' (.inScope c::k)=exitTo id' k:=by simp[exitTo]
  exact⟨.exit id',a₁,w₁,hq,fun k' hk => .head h0 ZE (harr.1 k' (by rw[hx];exact hk)),
   fun hr' hk=>let ⟨k₁,h1,h2⟩:=harr.2 hr' (by rw[hx];exact hk);⟨k₁,h1,.head h0 ZE h2⟩⟩
 | goto l=>exact absurd rfl (hg l)
 | ret=>exact⟨_,a₁,w₁,hq,.of_steps (.one h0 ZE) harr⟩
 | panic ch=>exact⟨_,a₁,w₁,hq,.of_steps (.one h0 ZE) harr⟩
 | outgrown=>exact⟨_,a₁,w₁,hq,.of_steps (.one h0 ZE) harr⟩
end
end Go
namespace Go.Proofs.Ytofbcijbpfjliaa.Vc
noncomputable section
open Go.RowKit
theorem J.scope {P:Program} {cx:Cx} {c:Code} {Q:Exit→S→Prop} {s:S} (h:J P cx c (fun e s'=>Q e s'∧∀l,e ≠ .goto l) s):J P cx (.scope c) Q s:=fun ρ a w hs=>
 qad (wpIn_mono (h ρ a w hs) fun e a' w' ⟨s',ρ',⟨h1,h3⟩,h2⟩=>⟨⟨s',ρ',h1,h2⟩,h3⟩)
end
noncomputable section
open Go.RowKit
def agB (f f':Int→Int→Option Int) (zs:List Int):Prop:=∀x∈zs,∀y∈zs,f x y=f' x y
theorem q4d {f f':Int→Int→Option Int} {zs:List Int} (h:agB f f' zs) {x y:Int} (hx:x∈zs) (hy:y∈zs):ltB f x y=ltB f' x y:=by unfold ltB;rw[h x hx y hy]
theorem ZO {α:Type} {l:List α} {p q:α→Bool} (h:∀x∈l,p x=q x):l.all p=l.all q:=by
 induction l with
 | nil=>rfl
 | cons x l ih=>rw[List.all_cons,List.all_cons,h x qxW,ih fun y hy=>h y (qxP _ hy)]
theorem qhs {f f':Int→Int→Option Int} {zs:List Int} (h:agB f f' zs):okB f zs=okB f' zs:=by
 unfold okB
 congr 1
 ·congr 1
  ·congr 1
   ·exact ZO fun x hx=>ZO fun y hy=>by rw[h x hx y hy]
   ·exact ZO fun x hx=>by rw[q4d h hx hx]
  ·exact ZO fun x hx=>ZO fun y hy=>by rw[q4d h hx hy,q4d h hy hx]
 ·exact ZO fun x hx=>ZO fun y hy=>ZO fun z hz=>by rw[q4d h hx hy,q4d h hy hz,q4d h hx hz]
theorem q9X (f:Int→Int→Option Int) (x:Int):∀(l:List Int) (z:Int),z∈qeN f x l↔z=x∨z∈l
 | [],z=>by simp[qeN]
 | y::l,z=>by
  unfold qeN
  split
  ·rw[qy3,q9X f x l z,qy3]
   constructor
   ·rintro(h|h|h)
    ·exact .inr (.inl h)
    ·exact .inl h
    ·exact .inr (.inr h)
   ·rintro(h|h|h)
    ·exact .inr (.inl h)
    ·exact .inl h
    ·exact .inr (.inr h)
  ·rw[qy3]
theorem q7G (f:Int→Int→Option Int):∀(l:List Int) (z:Int),z∈JS f l↔z∈l
 | [],z=>by simp[JS]
 | x::l,z=>by unfold JS;rw[q9X,q7G f l z,qy3]
theorem qbT {f f':Int→Int→Option Int} {zs:List Int} (h:agB f f' zs) {x:Int} (hx:x∈zs):∀{l:List Int},(∀y∈l,y∈zs)→qeN f x l=qeN f' x l
 | [],_=>rfl
 | y::l,hl=>by
  unfold qeN
  rw[q4d h (hl y qxW) hx,qbT h hx fun z hz=>hl z (qxP _ hz)]
theorem q5W {f f':Int→Int→Option Int} {zs:List Int} (h:agB f f' zs):∀{l:List Int},(∀y∈l,y∈zs)→JS f l=JS f' l
 | [],_=>rfl
 | x::l,hl=>by
  have h1:=q5W h (l:=l) fun z hz=>hl z (qxP _ hz)
  unfold JS
  rw[h1]
  exact qbT h (hl x qxW) fun z hz=>hl z (qxP _ ((q7G f' l z).1 hz))
theorem q9B (f:Int→Int→Option Int) (x:Int):∀l:List Int,(qeN f x l).length=l.length+1
 | []=>rfl
 | y::l=>by
  unfold qeN
  split
  ·rw[qxS,q9B f x l];rfl
  ·rfl
theorem q4M (f:Int→Int→Option Int):∀l:List Int,(JS f l).length=l.length
 | []=>rfl
 | x::l=>by unfold JS;rw[q9B,q4M f l];rfl
theorem q41 {f:Int→Int→Option Int} {zs:List Int} (h:okB f zs=true):∀x∈zs,∀y∈zs,∃c,f x y=some c:=fun x hx y hy=>by
 unfold okB at h
 rw[qyd,qyd,qyd] at h
 have:=qxY.1 (qxY.1 h.1.1.1 x hx) y hy
 exact Option.isSome_iff_exists.1 this
end
noncomputable section
open Go.RowKit
def OLe (E E':Orc):Prop:=∀f k args G x,E f k args G=some x→E' f k args G=some x
structure APr where
 run:Orc→Nat→List R→List (Nat×B)→Option (R×List (Nat×B))
 mono:∀E E',OLe E E'→∀k a G x,run E k a G=some x→run E' k a G=some x
 cont:∀(E:Nat→Orc) (E':Orc),(∀n m,n≤m→OLe (E n) (E m))→(∀g k a G x,E' g k a G=some x→∃n,∀m,n≤m→E m g k a G=some x)→∀k a G x,run E' k a G=some x→∃n,∀m,n≤m→run (E m) k a G=some x
def APr.of (p:Nat→List R→List (Nat×B)→Option (R×List (Nat×B))):APr:=⟨fun _=>p,fun _ _ _ _ _ _ _ h=>h,fun _ _ _ _ _ _ _ _ h=>⟨0,fun _ _=>h⟩⟩
theorem APr.of_run (p:Nat→List R→List (Nat×B)→Option (R×List (Nat×B))) (E:Orc):(APr.of p).run E=p:=rfl
structure Pol where
 q:TypeId→List Nat
 ow:FuncId→List Nat
 fz:FuncId→Bool
 kp:FuncId→Nat→List Nat
 kx:FuncId→Nat→List Nat
 rw:FuncId→Nat→List Rw
 ro:FuncId→Bool
 dm:FuncId→Nat→Nat
 an:FuncId→Nat→List (List Nat)
 rk:FuncId→Nat→List Nat
 pr:FuncId→Option APr
 ab:FuncId→Bool
 qo:TypeId→List (Option (Nat×Nat))
 tk:TypeId→Option Bool
def zmk (ow:List Nat):Nat→List (List Nat)→List (List Nat)
 | _,[]=>[]
 | i,z::r=>(if ow.contains i=true then[] else z)::zmk ow (i+1) r
def Jt (po:Pol) (E:Orc) (s:S) (f:Operand) (args:List Operand) (ts:List TypeId):RS:=
 match s.ev f with
 | .c (.fn g fs caps)=>q4K E s g (po.ow g) (zmk (po.ow g) 0 (fs.map (fun _=>[])++ts.map po.q)) (fs.map R.c++args.map s.ev++caps.map R.c)
 | .c (.hd .yield rid)=>q0E E s rid (args.map s.ev)
 | _=>none
def xCl (T:Ty) (po:Pol) (E:Orc) (s:S) (c:Call):RS:=
 match c.callee,c.args.toList,c.argTypes.toList with
 | .builtin .len,[x],[t]=>match T.k t with | .mp _ _=>(q3c T s t x).map fun r=>(r,s)|_=>qpV T s t x
 | .builtin .min,[x,y],_=>qq4 s x y
 | .builtin .max,[x,y],_=>qqm s x y
 | .builtin .append,[x,y],[t,t']=>if t'=t then q1F T s t x y else none
 | .builtin .copy,[x,y],[t,_]=>qdE T s t x y
 | .value f,args,ts=>Jt po E s f args ts
 | _,_,_=>none
def xo (P:Program) (T:Ty) (po:Pol) (E:Orc) (s:S) (op:Op):RS:=
 match op with
 | .move x=>some (s.ev x,s)
 | .assign x=>some (s.ev x,s)
 | .pick c x y=>qg6 s c x y
 | .alloc t=>q9p T s t
 | .box t x=>qqp s t x
 | .build t parts=>q8R T s t parts.toList
 | .buildSlice t len parts=>Zx T s t len parts.toList
 | .load t x=>q5T T s t x
 | .store t x y=>q0l T s t x y
 | .nilCheck x=>q0P s x
 | .binOp op t x y _=>qqo P T s op t x y
 | .unOp op _ x=>xUn s op x
 | .convert t t' x=>qfJ T s t t' x
 | .makeFunc f first captured=>q2w s f first.toList captured.toList
 | .makeSlice t l c=>q8x T s t l c
 | .slice t x lo hi mx=>qpX T s t x lo hi mx
 | .fieldAddr t x f=>JW T s t x f
 | .field t x f=>qel T s t x f
 | .indexAddr t x y=>q1h T s t x y
 | .index t x y=>q9v T s t x y
 | .extract x i=>q3U s x i
 | .call c=>xCl T po E s c
 | .makeMap t r=>q0g T s s.nx t r
 | .lookup t x y ok=>(q0d T s t x y ok).map fun r=>(r,s)
 | .mapUpdate t m k x=>q0I T s t m k x
 | .insert t m k x=>q0I T s t m k x
 | .mapEntry t m k=>q6a T s t m k
 | .entryStore _ m st x=>q9t s m st x
 | .range t x=>q3i T s s.nx t x
 | .entry it=>q9J s it
 | .next it str=>if str=true then qg4 s it else q3o s it
 | _=>none
def isY (s:S):Op→Bool
 | .call { callee := .value f,.. }=>(match s.ev f with | .c (.hd .yield _)=>true|_=>false)
 | _=>false
def q56 (s:S) (args:List Operand):List Nat:=q0G s (((args.map s.ev).flatMap R.rows).eraseDups)
def qcS (s:S) (i:Nat):List Nat:=match s.blk i with | .row _ _ cs=>cs.flatMap C.rows|_=>[]
def qbr (s:S) (i:Nat):Bool:=match s.blk i with | .row _ _ cs=>cs.all C.dat|_=>false
def S.inr (s:S):List Nat:=((((s.hp.map Prod.fst).eraseDups.flatMap (qcS s)).eraseDups).filter (qbr s))
def S.fn1 (s:S):S:=s.frz s.inr
def frA (s:S) (args:List Operand):S:=s.frz (q56 s args)
def S.uwB (s:S) (b:Bool):S:=if b=true then s.uw else s
def qnd (po:Pol) (t:TypeId):Bool:=match po.tk t with|some false=>true|_=>false
def qce (s:S) (args:List Operand):Bool:=args.any fun x => !(s.ev x).rows.isEmpty
def qsQ (po:Pol) (s:S) (f:Operand) (args:List Operand):S:=
 match s.ev f with
 | .c (.fn g _ _)=>if po.fz g=true then frA s.fn1.fn1 args else s
 | _=>s
def qqA (s:S) (args:List Operand):S:=s.frz ((q56 s args).filter (qbr s))
def pre (po:Pol) (s:S) (op:Op):S:=
 match op with
 | .buildSlice t _ parts=>if po.tk t=some false then s else qqA s (parts.toList.map Prod.snd)
 | .call { callee := .value f,args,argTypes:=ts }=>qsQ po ((s.uwB (ts.toList.any (qnd po)&&qce s args.toList)).dzr po.q) f args.toList
 | _=>s
def q3W (s:S):Option Nat→Bool
 | some d=>decide (d<s.n)
 | none=>true
def tt:R := .c (.d (.bool true))
def ff:R := .c (.d (.bool false))
def S.ly (s:S) (c:Operand) (r:R):S:=match c with | .tmp d=>s.put (some d) r|_=>s
def xst (P:Program) (T:Ty) (po:Pol) (E:Orc) (o:Oper) (act:Bool) (s:S):Option S:=
 if act=true then(xo P T po E (pre po s o.op) o.op).bind fun q=>if q3W q.2 o.dst=true then some (q.2.put o.dst q.1) else none
 else if q3W s o.dst=true then some (s.put o.dst (.tup [])) else none
def q4U:List C→Option (List Int)
 | []=>some []
 | c::l=>match c with
  | .d (.int .i64 z)=>(q4U l).map (z :: ·)
  | _=>none
def qr1 (kp:Bool) (s:S) (dst:Option Nat) (h:List Int→List Int) (id n:Nat):Option S:=
 match s.blk id with
 | .row e 1 cs=>(q4U cs).bind fun zs=>if n=zs.length∧zs.length<4611686018427387904∧q3W s dst=true then some (match kp with|true=>(s.up [(id,.row e 1 ((h zs).map fun z => .d (.int .i64 z)))]).put dst (.tup [])|false=>((s.up [(id,.row e 1 ((h zs).map fun z => .d (.int .i64 z)))]).put dst (.tup [])).frz [id]) else none
 | _=>none
def qrM (kp:Bool) (s:S) (dst:Option Nat) (h:List Int→List Int):R→Option S
 | .c (.own id 1 0 n)=>qr1 kp s dst h id n
 | _=>none
def qq9 (T:Ty) (s:S) (dst:Option Nat) (g:FuncId) (args:List Operand):Option (Option S):=
 match args with
 | [x]=>match T.ip g with
  | some h=>some (qrM T.ipk s dst h (s.ev x))
  | none=>none
 | _=>none
def qhj (T:Ty) (s:S) (o:Oper):Option (Option S):=
 match o.guard,o.op with
 | none,.call { callee := .value f,args,.. }=>match s.ev f with
  | .c (.fn g [] [])=>qq9 T s o.dst g args.toList
  | _=>none
 | _,_=>none
def cfO (E:Orc) (g:FuncId) (x y:Int):Option Int:=
 match E (.fn g) 0 [.c (.d (.int .i64 x)),.c (.d (.int .i64 y))] [] with
 | some (.c (.d (.int .i64 c)),[])=>some c
 | _=>none
def qaN (s:S) (dst:Option Nat) (f:Int→Int→Option Int) (e id n:Nat):Option S:=
 match s.blk id with
 | .row e' 1 cs=>(q4U cs).bind fun zs=>if e'=e∧n=zs.length∧0<zs.length∧zs.length<4611686018427387904∧okB f zs=true∧q3W s dst=true then some (((s.up [(id,.row e 1 ((JS f zs).map fun z => .d (.int .i64 z)))]).put dst (.tup [])).frz [id]) else none
 | _=>none
def qsR (E:Orc) (s:S) (dst:Option Nat) (e:TypeId):R→R→Option S
 | .c (.own id 1 0 n),.c (.fn c [] [])=>qaN s dst (cfO E c) e id n
 | _,_=>none
def qmT (T:Ty) (E:Orc) (s:S) (dst:Option Nat) (g:FuncId) (args:List Operand):Option (Option S):=
 match args with
 | [x,y]=>match T.sf g with
  | some e=>some (qsR E s dst e (s.ev x) (s.ev y))
  | none=>none
 | _=>none
def ipF (T:Ty) (E:Orc) (s:S) (o:Oper):Option (Option S):=
 match o.guard,o.op with
 | none,.call { callee := .value f,args,.. }=>match s.ev f with
  | .c (.fn g [] [])=>qmT T E s o.dst g args.toList
  | _=>none
 | _,_=>none
def ipS (x y:Option (Option S)):Option (Option S):=match x with|some z=>some z|none=>y
def ldP (s:S) (dst:Option Nat) (c:C):Option S:=if q3W s dst=true then some (s.put dst (.c c)) else none
def ldT (s:S) (dst:Option Nat) (id j:Nat):C→Option S
 | .ow e sz n ds=>if q3W s dst=true then some ((tkS s id j e sz n ds).put dst (.c (.own s.nx sz 0 n))) else none
 | .d x=>ldP s dst (.d x)
 | .ptr i o=>ldP s dst (.ptr i o)
 | .hd k i=>ldP s dst (.hd k i)
 | .nilm=>ldP s dst .nilm
 | .nilp=>ldP s dst .nilp
 | .nilf=>ldP s dst .nilf
 | .nils=>ldP s dst .nils
 | .eptr cs o=>ldP s dst (.eptr cs o)
 | .clp sz n cs=>ldP s dst (.clp sz n cs)
 | .own i z o n=>ldP s dst (.own i z o n)
 | .fn f fs caps=>ldP s dst (.fn f fs caps)
 | .any=>ldP s dst .any
def ldU (s:S) (dst:Option Nat) (x:Option R):Option S:=x.bind fun r=>if q3W s dst=true then some (s.put dst r) else none
def uwR (s:S):B→S
 | .row _ _ _=>s.uw
 | .blk _ _=>s
 | .ob _=>s
 | .dead=>s
def ldO (T:Ty) (po:Pol) (s:S) (o:Oper):Option (Option S):=
 match o.guard,o.op with
 | none,.load t x=>match po.tk t with
  | none=>none
  | some b=>match s.ev x with
   | .c (.ptr id off)=>if b=true then(if(T.k t).isSl0=true then some (((s.blk id).cells[off]?).bind (ldT s o.dst id off)) else none) else some (ldU (uwR s (s.blk id)) o.dst (ld T ((uwR s (s.blk id)).blk id).cells off t))
   | _=>none
 | _,_=>none
def qpW (ds:List D) (m:Nat):Option (List D):=if ds.length=m then some ds else if m≤ds.length then some (ds.take m) else none
def qqn (s:S) (id off k sz n:Nat):B→B→Option (Option S)
 | .row _ _ cs,.row e sz' cs'=>some (((q3B cs').bind fun ds=>qpW ds (n*sz)).bind fun ds=>if sz'=sz∧0<sz∧off<cs.length∧id≠k then some (abAt ((s.up [(id,(s.blk id).set off [.own k sz 0 n])]).up [(k,.row e sz (ds.map C.d))]) id off k e sz n ds) else none)
 | _,_=>none
def stO (T:Ty) (po:Pol) (s:S) (o:Oper):Option (Option S):=
 match o.guard,o.op with
 | none,.store t x y=>match po.tk t with
  | none=>none
  | some b=>match s.ev x,s.ev y with
   | .c (.ptr id off),.c (.own k sz 0 n)=>if b=true∧o.dst=none∧(T.k t).isSl0=true∧T.sz t=1 then qqn s id off k sz n (s.blk id) (s.blk k) else none
   | _,_=>none
 | _,_=>none
def ipX (T:Ty) (po:Pol) (s:S) (o:Oper):Option (Option S):=ipS (qhj T s o) (ipS (ldO T po s o) (stO T po s o))
def ipA (T:Ty) (po:Pol) (E:Orc) (s:S) (o:Oper):Option (Option S):=ipS (ipX T po s o) (ipF T E s o)
def q8t (P:Program) (T:Ty) (po:Pol) (E:Orc) (ops:List Oper) (o:Oper) (s:S):Option S:=
 match o.guard with
 | none=>xst P T po E o true s
 | some (j,want)=>match (ops[j]?).bind (·.dst) with
  | some d=>match s.get d with
   | .c (.d (.bool b))=>if b=true then xst P T po E o want (s.put (some d) tt) else xst P T po E o (!want) (s.put (some d) ff)
   | .tup []=>xst P T po E o false s
   | _=>none
  | none=>none
def qgK (x:Option (Option S)) (y:Option S):Option S:=match x with|some s=>s|none=>y
def xgd (P:Program) (T:Ty) (po:Pol) (E:Orc) (ops:List Oper) (o:Oper) (s:S):Option S:=qgK (ipA T po E s o) (q8t P T po E ops o s)
def xr (P:Program) (T:Ty) (po:Pol) (E:Orc) (ops:List Oper):List Oper→S→Option S
 | [],s=>some s
 | o::l,s=>(xgd P T po E ops o s).bind fun s'=>xr P T po E ops l s'
def rng:Nat→List Nat→List Nat
 | 0,acc=>acc
 | n+1,acc=>rng n (n::acc)
def qtu (k:Nat) (kp:List Nat) (s:S) (ids:List Nat):Option S:=
 if ids.Nodup∧ids.all (fun i=>(s.blk i).live)=true∧(rng k []).all (fun i=>ids[i]? == some i)=true then some ⟨kp.map (fun i=>(i,cnR ids (s.get i))),cnH s ids ids 0,ids.length,s.n⟩ else none
def qhA (k:Nat) (kp:List Nat) (s:S):Option S:=qtu k kp s (q06 s 60 ((rng k []).flatMap (fun i=>(s.blk i).refs)++(kp.map s.get).flatMap R.refs) (rng k []))
def S.fin (s:S) (Q:TypeId→List Nat):S:=((s.dzr Q).fn1).fn1
def S.fnB (s:S) (po:Pol) (b:Bool):S:=if b=true then((((s.dzo po.qo).abL (s.dzo po.qo).inr).fn1).fn1) else s.fin po.q
abbrev S.fnO (s:S) (po:Pol) (f:Nat):S:=s.fnB po (po.ab f)
def qrf (po:Pol) (o:Oper):Bool:=match o.op with
 | .load t _=>qnd po t
 | .call { argTypes:=ts,.. }=>ts.toList.any (qnd po)
 | _=>false
def quO (po:Pol) (o:Oper):Bool:=match o.op with
 | .load t _=>(match po.tk t with|some true=>true|_=>false)
 | _=>false
def adP (s:S) (dst:Option Nat):RS→S
 | some q=>s.put dst q.1
 | none=>s
def adI (s:S) (dst:Option Nat):R→R→S
 | .c (.own id sz off _),.c (.d (.int _ i))=>s.put dst (.c (.ptr id ((off+i.toNat)*sz)))
 | _,_=>s
def adS (T:Ty) (s:S) (o:Oper):S:=match o.op with
 | .move x=>s.put o.dst (s.ev x)
 | .nilCheck x=>adP s o.dst (q0P s x)
 | .fieldAddr t x f=>adP s o.dst (JW T s t x f)
 | .assign x=>s.put o.dst (s.ev x)
 | .lookup t x y ok=>adP s o.dst ((q0d T s t x y ok).map fun r=>(r,s))
 | .indexAddr _ x y=>adI s o.dst (s.ev x) (s.ev y)
 | _=>s
def adL (po:Pol) (s:S) (o:Oper):List (Nat×Nat):=match o.op with
 | .load t x=>(match po.tk t with|some true=>(match s.ev x with | .c (.ptr i j)=>[(i,j)]|_=>[])|_=>[])
 | _=>[]
def tkL (T:Ty) (po:Pol):S→List Oper→List (Nat×Nat)
 | _,[]=>[]
 | s,o::l=>adL po s o++tkL T po (adS T s o) l
def qqb (s:S) (id j:Nat):C→Option S
 | .ow e sz n ds=>some (tkS s id j e sz n ds)
 | .d _=>some s
 | .ptr _ _=>some s
 | .hd _ _=>some s
 | .nilm=>some s
 | .nilp=>some s
 | .nilf=>some s
 | .nils=>some s
 | .eptr _ _=>some s
 | .clp _ _ _=>some s
 | .own _ _ _ _=>some s
 | .fn _ _ _=>some s
 | .any=>some s
def S.tkP:S→List (Nat×Nat)→Option S
 | s,[]=>some s
 | s,x::l=>(((s.blk x.1).cells[x.2]?).bind (qqb s x.1 x.2)).bind fun s'=>s'.tkP l
def S.tkD (s:S) (T:Ty) (po:Pol) (ops:List Oper):Option S:=if ops.any (quO po)=true then s.tkP (tkL T po s ops) else some s
def S.uwD (s:S) (po:Pol) (ops:List Oper):S:=s.uwB (ops.any (qrf po))
def nrm (po:Pol) (f key k:Nat) (s:S):Option S:=qhA k (po.kp f key) (rwAll (s.fnO po f) (po.rw f key))
def qD:Code→Nat
 | .region id _ _=>id
 | .seq a _=>qD a
 | .block _ b=>qD b
 | .scope b=>qD b
 | .loop b=>qD b
 | _=>0
def q95 (ops:List Oper) (i j:Nat):Bool:=
 match ops[i]?,ops[j]? with
 | some a,some b=>(match a.dst with|some d=>(q0r ops b).contains d||decide (b.dst=some d)|none=>false)||(match b.dst with|some d=>(q0r ops a).contains d|none=>false)
 | _,_=>true
def qii (ops:List Oper) (m:Nat) (A:List (List Nat)):Bool:=
 let An:=que ops
 let n:=ops.length
 (List.range n).all (fun i=>(match ops[i]? with|some o=>(QZ o).all (fun k=>decide (k<i))&&(An.getD i []).all (fun k=>(QZ o).contains k||(QZ o).any fun d=>(An.getD d []).contains k)|none=>false)) &&
 decide (m≤n) &&
 (List.range m).all (fun j=>(List.range j).all fun i => !q95 ops i j||(An.getD j []).contains i) &&
 (List.range n).all (fun i=>decide (i<m)||(List.range i).all fun j=>(An.getD i []).contains j) &&
 (List.range m).all (fun i=>(A.getD i []).all fun k=>(An.getD i []).contains k)
def drq (po:Pol) (f id:Nat) (ops:List Oper):Bool:=qii ops (po.dm f id) (po.an f id)
def q1X (q:Nat→List Oper→Bool) (rf:Bool):Code→Bool
 | .region id ops draw => !draw||q id ops.toList
 | .seq a b=>q1X q rf a&&q1X q rf b
 | .cond _ a b=>q1X q rf a&&q1X q rf b
 | .block _ c=>q1X q rf c
 | .scope c=>q1X q rf c
 | .loop c=>q1X q rf c
 | .rangeFunc _ _ a b=>rf&&q1X q false a&&q1X q false b
 | _=>true
abbrev XS:=Option (Exit×S)
def sqD (k:S→XS) (p:Exit×S):XS:=
 match p.1 with
 | .normal=>k p.2
 | e=>some (e,p.2)
def bkD (id:Nat) (p:Exit×S):XS:=
 match p.1 with
 | .exit i=>if i=id then some (.normal,p.2) else some (.exit i,p.2)
 | e=>some (e,p.2)
def scD (p:Exit×S):XS:=
 match p.1 with
 | .goto _=>none
 | e=>some (e,p.2)
def iter:Nat→(S→XS)→S→XS
 | 0,_,_=>none
 | n+1,F,s=>(F s).bind (sqD (iter n F))
def lpx (po:Pol) (f key k:Nat) (p:Exit×S):XS:=
 match p.1 with
 | .normal=>(nrm po f key k p.2).bind fun s2=>some (.normal,s2)
 | e=>(qhA k (po.kx f key) (p.2.fnO po f)).bind fun s2=>some (e,s2)
def q8l (s:S) (l:List Nat):List R:=(List.range s.n).map fun i=>if l.contains i=true then s.get i else .any
def q4P (s:S) (l:List Nat):List Nat:=q0G s (((l.map s.get).flatMap R.rows).eraseDups)
def qjb (s:S):Option Code→XS
 | none=>some (.normal,s)
 | some .ret=>some (.ret,s)
 | some (.exit i)=>some (.exit i,s)
 | _=>none
def qlJ (n:Nat) (s:S):XS:=
 match s.get n with
 | .c (.hd .yield rid)=>match s.blk rid with
  | .ob (.lp f tm ps aq0 bd st pd)=>if st = .busy then none else qjb (s.rfx n rid (.lp f tm ps aq0 bd .exhausted pd)) pd
  | _=>none
 | _=>none
def xRF (po:Pol) (E:Orc) (f:Nat) (g:Operand) (ps:List Nat) (aq0 bd:Code) (s:S):XS:=
 match s.ev g with
 | .c (.fn g' fs caps)=>(q4K E (s.rf f (q8l s (po.rk f (qD bd))) ps aq0 bd) g' (po.ow g') [] (fs.map R.c++[.c (.hd .yield s.nx)]++caps.map R.c)).bind fun q=>qlJ s.n q.2
 | _=>none
def S.frk (s:S) (l:List Nat):S:=s.frz (q4P s l)
def qqj:Op→Option Operand
 | .next it str=>if str=true then none else some it
 | _=>none
def hdG (g:Option (Nat×Bool)) (r:Option Operand):Option Operand:=match g with|none=>r|some _=>none
def qjh:List Oper→Option Operand
 | []=>none
 | o::_=>hdG o.guard (qqj o.op)
def Jk:Code→Option Operand
 | .region _ ops draw=>if draw=true then none else qjh ops.toList
 | .seq a _=>Jk a
 | .block _ c=>Jk c
 | .skip=>none
 | .cond _ _ _=>none
 | .loop _=>none
 | .rangeFunc _ _ _ _=>none
 | .exit _=>none
 | .scope _=>none
 | .label _=>none
 | .goto _=>none
 | .ret=>none
 | .refuse _=>none
def S.gh (s:S) (id:Nat) (b:B):S:={ s with hp:=s.hp.map fun p=>if p.1=id then(id,b) else p }
def qll (bs:List Nat):Nat→List (List Nat)
 | 0=>[[]]
 | n+1=>qll bs n++(qll bs n).flatMap fun l=>bs.map (· :: l)
abbrev Me:=List (Value×R×Nat)
def q0z (es:Me):List (List Nat):=qll (es.map (·.2.2)) es.length
def S.mi (s:S) (id:Nat) (m:R) (ck:Nat) (l:List Nat):S:=s.gh id (.ob (.mi m ck l))
def S.m1 (s:S) (id:Nat) (m:R) (ck:Nat) (e:Option (Value×R×Nat)) (l:List Nat):S:=s.gh id (.ob (.m1 e m ck l))
structure MOk (F:S→XS) (s:S) (id:Nat) (m:R) (ck:Nat) (es:Me) (x:Exit×S):Prop where
 ne:x.1 ≠ .normal
 ent:∀e∈es,(∀l∈q0z es,F (s.m1 id m ck (some e) l)=some (.normal,s.mi id m ck (e.2.2::l)))∨∀l∈q0z es,F (s.m1 id m ck (some e) l)=some x
 fin:(∃e∈es,∀l∈q0z es,F (s.m1 id m ck (some e) l)=some x)∨∀l∈q0z es,F (s.m1 id m ck none l)=some x
def mOf (s:S) (id:Nat) (m:R) (ck:Nat):Option Me:=
 match m with
 | .c .nilm=>some []
 | .c (.hd .map mid)=>if mid=id then none else match s.blk mid with
  | .ob (.mp es c)=>if c=ck then some es else none
  | _=>none
 | _=>none
def kOk:Value→Bool
 | .int _ _=>true
 | .bool _=>true
 | .string _=>true
 | _=>false
def mHd (it:Operand) (s:S):Option (Nat×R×Nat×Me):=
 match s.ev it with
 | .c (.hd .iter id)=>match s.blk id with
  | .ob (.mi m ck [])=>(mOf s id m ck).bind fun es=>if(es.map (·.2.2)).Nodup∧es.all (fun e=>decide (e.2.2<ck)&&kOk e.1)=true then some (id,m,ck,es) else none
  | _=>none
 | _=>none
def mlp (it:Operand) (F:S→XS) (s:S):XS:=open Classical in (mHd it s).bind fun q=>if h:∃x,MOk F s q.1 q.2.1 q.2.2.1 q.2.2.2 x then some (Classical.choose h) else none
def lpM (LO:(S→XS)→S→XS) (o:Option Operand) (F:S→XS) (s:S):XS:=
 match o with
 | none=>LO F s
 | some it=>mlp it F s
theorem q2i (bs:List Nat):∀n,[]∈qll bs n
 | 0=>qyx.2 rfl
 | n+1=>qxT _ (q2i bs n)
theorem q9b (bs:List Nat):∀(n:Nat) (l:List Nat),l.length≤n→(∀x∈l,x∈bs)→l∈qll bs n
 | 0,l,h,_=>by
  have:l=[]:=qy0 (by omega)
  subst this
  exact q2i bs 0
 | n+1,[],_,_=>q2i bs (n+1)
 | n+1,x::l,h,hx=>by
  refine qxQ _ (List.mem_flatMap.2 ⟨l,q9b bs n l (by simpa using h) (fun y hy=>hx y (qxP _ hy)),qyr.2 ⟨x,hx x qxW,rfl⟩⟩)
theorem MOk.one {F:S→XS} {s:S} {id:Nat} {m:R} {ck:Nat} {es:Me} {x y:Exit×S} (hx:MOk F s id m ck es x) (hy:MOk F s id m ck es y):x=y:=by
 have hn:[]∈q0z es:=q2i _ _
 have key:∀{x y:Exit×S},MOk F s id m ck es y→x.1 ≠ .normal→(∃e∈es,∀l∈q0z es,F (s.m1 id m ck (some e) l)=some x)→x=y:=by
  rintro x y hy hx ⟨e,he,h⟩
  rcases hy.ent e he with h2|h2
  ·have:=(h [] hn).symm.trans (h2 [] hn)
   injection this with this
   rw[this] at hx
   exact absurd rfl hx
  ·have:=(h [] hn).symm.trans (h2 [] hn)
   injection this
 rcases hx.fin with h|h
 ·exact key hy hx.ne h
 ·rcases hy.fin with h2|h2
  ·exact(key hx hy.ne h2).symm
  ·have:=(h [] hn).symm.trans (h2 [] hn)
   injection this
theorem qhz {it:Operand} {F:S→XS} {s:S} {id:Nat} {m:R} {ck:Nat} {es:Me} {x:Exit×S} (hm:mHd it s=some (id,m,ck,es)) (h:MOk F s id m ck es x):mlp it F s=some x:=by
 unfold mlp
 rw[hm,qxH,dif_pos ⟨x,h⟩]
 exact congrArg some ((Classical.choose_spec (⟨x,h⟩:∃x,MOk F s id m ck es x)).one h)
theorem q64 {it:Operand} {F:S→XS} {s:S} {x:Exit×S} (h:mlp it F s=some x):∃id m ck es,mHd it s=some (id,m,ck,es)∧MOk F s id m ck es x:=by
 unfold mlp at h
 obtain⟨⟨id,m,ck,es⟩,h1,h2⟩:=qxM.1 h
 split at h2
 ·rename_i hx
  injection h2 with h2
  exact⟨id,m,ck,es,h1,h2 ▸ Classical.choose_spec hx⟩
 ·cases h2
def XD (P:Program) (T:Ty) (po:Pol) (E:Orc) (DR:Nat→List Oper→S→Option S) (LO:(S→XS)→S→XS) (f k:Nat):Code→S→XS
 | .skip,s=>some (.normal,s)
 | .label _,s=>some (.normal,s)
 | .ret,s=>some (.ret,s)
 | .exit id,s=>some (.exit id,s)
 | .seq a b,s=>(XD P T po E DR LO f k a s).bind (sqD fun s'=>XD P T po E DR LO f k b s')
 | .block id c,s=>(XD P T po E DR LO f k c s).bind (bkD id)
 | .scope c,s=>(XD P T po E DR LO f k c s).bind scD
 | .cond c x y,s=>match s.ev c with
  | .c (.d (.bool b))=>if b=true then XD P T po E DR LO f k x (s.ly c tt) else XD P T po E DR LO f k y (s.ly c ff)
  | _=>none
 | .region id ops draw,s=>if draw=true then(DR id ops.toList (((s.uwD po ops.toList).dzr po.q).frk (po.rk f id))).bind fun s'=>some (.normal,s') else(xr P T po E ops.toList ops.toList s).bind fun s'=>some (.normal,s')
 | .rangeFunc g ps aq0 bd,s=>xRF po E f g ps.toList aq0 bd ((s.dzr po.q).frz (q4P (s.dzr po.q) (po.rk f (qD bd))))
 | .loop c,s=>(nrm po f (qD c) k s).bind fun s0=>lpM LO (Jk c) (fun s=>(XD P T po E DR LO f k c s).bind (lpx po f (qD c) k)) s0
 | _,_=>none
section
variable {P:Program} {T:Ty} {po:Pol} {E:Orc} {s s':S} {r:R} {cx:Cx}
theorem qnw (hE:Snd P E) {c:Call} {K:KK} (hny:∀f,c.callee = .value f→∀rid,s.ev f ≠ .c (.hd .yield rid)) (h:xCl T po E s c=some (r,s')) (hK:K r s'):qeu P T s s.nx c K:=by
 unfold xCl at h;unfold qeu
 split at h
 ·rename_i h1 h2 h3
  simp only[h1,h2,h3]
  split at h
  ·rename_i hk
   simp only[hk]
   obtain⟨r',h4,h5⟩:=qxU.1 h
   injection h5 with h5 h6
   subst h5 h6
   exact⟨_,h4,hK⟩
  ·rename_i hk
   split
   ·rename_i hk';exact absurd hk' (hk _ _)
   ·exact qiw h hK
 ·rename_i h1 h2;simp only[h1,h2];exact qhZ h hK
 ·rename_i h1 h2;simp only[h1,h2];exact qjJ h hK
 ·rename_i h1 h2 h3
  simp only[h1,h2,h3]
  split at h
  ·rename_i ht;exact⟨ht,q3f h hK⟩
  ·cases h
 ·rename_i h1 h2 h3;simp only[h1,h2,h3];exact⟨_,_,h,hK⟩
 ·rename_i f h1
  simp only[h1]
  unfold Jt at h
  split at h
  ·rename_i g fs caps hf
   exact⟨g,fs,caps,hf,q7o hE h hK⟩
  ·rename_i rid hf;exact absurd hf (hny f h1 rid)
  ·cases h
 ·cases h
theorem qiH (hE:Snd P E) {op:Op} {K:KK} (hy:isY s op=false) (h:xo P T po E s op=some (r,s')) (hK:K r s'):ox P T s s.nx op K:=by
 cases op with
 | move x=>obtain⟨rfl,rfl⟩:=zu h;exact hK
 | assign x=>obtain⟨rfl,rfl⟩:=zu h;exact hK
 | pick c x y=>exact qf0 h hK
 | alloc t=>exact qdl h hK
 | box t x=>exact qiW h hK
 | build t parts=>exact qcv h hK
 | buildSlice t len parts=>exact q5g h hK
 | load t x=>exact qeT h hK
 | store t x y=>exact q6M h hK
 | nilCheck x=>exact q7p h hK
 | binOp op t x y t'=>exact qjj h hK
 | unOp op t x=>exact qm1 h hK
 | convert t t' x=>exact qeY h hK
 | makeFunc f first captured=>exact q7m h hK
 | makeSlice t l c=>exact q9Q h hK
 | slice t x lo hi mx=>exact qjf h hK
 | fieldAddr t x f=>exact q5Z h hK
 | field t x f=>exact qdh h hK
 | indexAddr t x y=>exact q6o h hK
 | index t x y=>exact qbI h hK
 | extract x i=>exact q8J h hK
 | call c=>
  refine qnw hE (fun f hf rid he=>?_) h hK
  obtain⟨callee,args,ts⟩:=c
  simp only at hf
  subst hf
  simp only[isY,he] at hy
  cases hy
 | makeMap t r=>exact⟨_,_,h,hK⟩
 | lookup t x y ok=>
  obtain⟨r',h4,h5⟩:=qxU.1 (show(q0d T s t x y ok).map (fun r=>(r,s))=some (r,s') from h)
  injection h5 with h5 h6
  subst h5 h6
  exact⟨_,h4,hK⟩
 | mapUpdate t m k x=>exact⟨_,_,h,hK⟩
 | insert t m k x=>exact⟨_,_,h,hK⟩
 | mapEntry t m k=>exact⟨_,_,h,hK⟩
 | entryStore t m st x=>exact⟨_,_,h,hK⟩
 | range t x=>exact⟨_,_,h,hK⟩
 | entry it=>exact⟨_,_,h,hK⟩
 | next it str=>
  cases str
  ·exact⟨_,_,h,hK⟩
  ·exact⟨_,_,h,hK⟩
 | _=>cases h
theorem q0U (s:S) (l:List Nat):(q0G s l).all (fun i => !(s.blk i).isBlk)=true:=by
 rw[qxY];intro i hi
 exact(qyC.1 hi).2
theorem Sim.fn1 {ρ:Pl} {a:Act} {w:World} (hs:Sim cx ρ s a w):Sim cx ρ s.fn1 a w:=hs.frz (by
 rw[qxY]
 intro i hi
 have h:=(qyC.1 hi).2
 unfold qbr at h
 split at h
 ·rename_i hb;rw[hb];rfl
 ·cases h)
theorem Sim.uwB {ρ:Pl} {a:Act} {w:World} (hs:Sim cx ρ s a w) (b:Bool):∃ρ',Sim cx ρ' (s.uwB b) a w:=by
 unfold S.uwB
 split
 ·exact⟨_,hs.uw⟩
 ·exact⟨ρ,hs⟩
theorem qnH (po:Pol) (op:Op) {ρ:Pl} {a:Act} {w:World} (hs:Sim cx ρ s a w):∃ρ',Sim cx ρ' (pre po s op) a w:=by
 unfold pre
 split
 ·split
  ·exact⟨ρ,hs⟩
  ·exact⟨ρ,hs.frz (qxY.2 fun i hi=>qxY.1 (q0U _ _) i (qyC.1 hi).1)⟩
 ·rename_i f args ts
  obtain⟨ρ',h'⟩:=hs.uwB (ts.toList.any (qnd po)&&qce s args.toList)
  have hs:=h'.dzr po.q
  refine⟨ρ',?_⟩
  unfold qsQ
  split
  ·split
   ·exact hs.fn1.fn1.frz (q0U _ _)
   ·exact hs
  ·exact hs
 ·exact⟨ρ,hs⟩
theorem Sim.lit {ρ:Pl} {a:Act} {w:World} (hs:Sim cx ρ s a w) {d:Nat} {b:Bool} (h:s.get d = .c (.d (.bool b))):Sim cx ρ (s.put (some d) (.c (.d (.bool b)))) a w:=by
 refine⟨hs.hd,hs.size,fun i=>?_,hs.hp,hs.hp0,hs.out,hs.inj,hs.nx,hs.kept,hs.oldF,hs.pin,hs.disj,⟨hs.ows.lt,hs.ows.one,hs.ows.new⟩⟩
 show RR w s.live ρ _ (lk ((d,R.c (.d (.bool b)))::s.tm) i .any)
 unfold lk
 split
 ·rename_i hd;subst hd;rw[←h];exact hs.tm d
 ·exact hs.tm i
theorem Sim.ly {ρ:Pl} {a:Act} {w:World} (hs:Sim cx ρ s a w) {c:Operand} {b:Bool} (h:s.ev c = .c (.d (.bool b))):Sim cx ρ (s.ly c (.c (.d (.bool b)))) a w:=by
 cases c with
 | tmp d=>exact hs.lit h
 | _=>exact hs
theorem RR.un {w:World} {L:Nat→Prop} {ρ:Pl}:RR w L ρ undef (.tup []) := .tup _ _ rfl (fun j c h=>by simp at h)
theorem JC {s:S} {dst:Option Nat} (h:q3W s dst=true):∀d,dst=some d→d<s.n:=fun d hd=>by subst hd;simpa [q3W] using h
theorem q9g (hA:Ag P T) (hE:Snd P E) {o:Oper} {act:Bool} {ρ:Pl} {a:Act} {w:World} (hs:Sim cx ρ s a w) (h:xst P T po E o act s=some s') {next:Act→World→Prop} {Q:Exit→Act→World→Prop}
  (hn:∀ρ' a' w',Sim cx ρ' s' a' w'→next a' w'):if act=true then o.wpIn (FW cx.ro) 0 P a w next Q else next (a.put o.dst undef) w:=by
 unfold xst at h
 split
 ·rename_i ha
  rw[if_pos ha] at h
  obtain⟨⟨r,s1⟩,h1,h2⟩:=qxM.1 h
  simp only at h2
  split at h2
  ·rename_i hd
   injection h2 with h2
   subst h2
   obtain⟨ρ0,hp⟩:=qnH po o.op hs
   by_cases hy:isY (Vc.pre po s o.op) o.op=true
   ·have hny:∃y args ts rid,o.op = .call { callee := .value y,args,argTypes:=ts }∧(Vc.pre po s o.op).ev y = .c (.hd .yield rid):=by
     generalize Vc.pre po s o.op=t at hy
     unfold isY at hy
     split at hy
     ·rename_i y args ts ho
      split at hy
      ·rename_i rid he;exact⟨_,_,_,rid,ho,he⟩
      ·cases hy
     ·cases hy
    obtain⟨y,args,ts,rid,ho,hye⟩:=hny
    have h3:q0E E (Vc.pre po s o.op) rid (args.toList.map (Vc.pre po s o.op).ev)=some (r,s1):=by
     generalize Vc.pre po s o.op=t at h1 hye
     rw[ho] at h1
     simp only[xo,xCl,Jt,hye] at h1
     exact h1
    refine qc0 hE hp ho hye h3 ?_
    rintro r' s2 ρ' v w' ⟨rfl,rfl⟩ h3 h4
    exact hn ρ' _ w' (h3.put (JC hd) h4)
   have hox:ox P T (Vc.pre po s o.op) (Vc.pre po s o.op).nx o.op (fun r' s'=>r'=r∧s'=s1):=qiH hE (by simpa using hy) h1 ⟨rfl,rfl⟩
   refine q4Y (K:=fun r' s'=>r'=r∧s'=s1) hA (fun h=>by have:=hp.nx _ h;omega) hp hox ?_
   rintro r' s2 ρ' v w' ⟨rfl,rfl⟩ h3 h4
   exact hn ρ' _ w' (h3.put (JC hd) h4)
  ·cases h2
 ·rename_i ha
  rw[if_neg ha] at h
  split at h
  ·rename_i hd
   injection h with h
   subst h
   exact hn ρ _ w (hs.put (JC hd) RR.un)
  ·cases h
theorem q3Q:∀{cs:List C} {zs:List Int},q4U cs=some zs→cs=zs.map fun z => .d (.int .i64 z)
 | [],zs,h=>by injection h with h;subst h;rfl
 | c::l,zs,h=>by
  unfold q4U at h
  split at h
  ·obtain⟨ys,h1,h2⟩:=qxU.1 h
   subst h2
   rw[q3Q h1];rfl
  ·cases h
theorem qi7 (hA:Ag P T) {g:FuncId} {h:List Int→List Int} (hg:T.ip g=some h) {id n:Nat} {e:TypeId} {cs:List C} (hb:s.blk id = .row e 1 cs) {zs:List Int} (hz:q4U cs=some zs) (hn:n=zs.length) (hlt:zs.length<4611686018427387904) :
  Jf P s g [.c (.own id 1 0 n)] fun r s1=>r = .tup []∧s1=s.up [(id,.row e 1 ((h zs).map fun z => .d (.int .i64 z)))]:=by
 have hI:=hA.ip g h hg
 refine⟨⟨hI.ent⟩,fun cx ρ a w vs hs hv=>?_⟩
 obtain⟨hvs,hvr⟩:=hv
 have hv0:=hvr 0 _ rfl
 obtain⟨v0,hv1⟩:∃v0,vs=#[v0]:=by
  have:vs.size=1:=by simpa using hvs
  exact⟨vs[0],by
   apply Array.ext
   ·simpa using hvs
   ·intro i hi hi'
    have:i=0:=by simp at hi';exact hi'
    subst this;rfl⟩
 subst hv1
 have hv0:RR w _ ρ v0 _:=hv0
 obtain⟨hl,hcase⟩:=hv0.inv_own
 have hcs:=q3Q hz
 subst hn
 have hpin:id<cx.k→(B.row e 1 ((h zs).map fun z=>C.d (.int .i64 z))).isBlk=true:=fun hk=>by
  have:=(hs.pin id hk).2
  rw[hb] at this
  cases this
 rcases hcase with ⟨b,cap,e1,e2,e3,e4⟩|⟨e1,e2,-,e5⟩
 ·rw[Nat.zero_mul,qyz] at e4
  rw[qy5] at e2
  obtain⟨hbz,hB⟩:=hs.hp id b cap hl e1
  rw[hb] at hB
  obtain⟨cur,c1,c2,c3,c4,c5,c6⟩:HB w _ ρ b cap (.row e 1 cs):=hB
  have hcl:cs.length=zs.length:=by rw[hcs,qyp]
  have htk:cur.toList.take zs.length=zs.map (Value.int .i64):=by
   apply List.ext_getElem?
   intro j
   by_cases hj:j<zs.length
   ·rw[qyg hj,Array.getElem?_toList,qxV,qxJ hj,Option.map_some]
    have:=c6 j (.d (.int .i64 zs[j])) (by rw[hcs,qxV,qxJ hj];rfl)
    have hj2:j<cur.size:=by omega
    rw[qxN,qy8 hj2,Option.getD_some] at this
    rw[qy8 hj2]
    have:=(RR.c _ _ this).inv_int
    rw[this]
   ·rw[List.getElem?_take_eq_none (by omega),qyf (by simp;omega)]
  rw[e4]
  refine(hI.row b cap zs w cur e c1 htk hlt).mono fun e' w'=>?_
  rintro⟨rfl,hgr,cur',d1,d2,d3⟩
  have hHB:HB w' (s.up [(id,B.row e 1 ((h zs).map fun z=>C.d (.int .i64 z)))]).live ρ b cap (.row e 1 ((h zs).map fun z=>C.d (.int .i64 z))):=by
   refine⟨cur',d1,by have:=hI.len zs;simp only[qyp];omega,d2.trans c3,c4,c5,fun j c hj=>?_⟩
   rw[qxV] at hj
   obtain⟨z,q1,q2⟩:=qxU.1 hj
   subst q2
   have hjl:j<zs.length:=by have:=(qxL.1 q1).1;rw[hI.len] at this;exact this
   have h3:(cur'.toList.take zs.length)[j]?=some (.int .i64 z):=by rw[d3,qxV,q1];rfl
   rw[qyg hjl,Array.getElem?_toList] at h3
   rw[qxN,h3]
   exact .d _ _ (.int _ _)
  have hnew:=(hs.overG (id:=id) (x := .row e 1 ((h zs).map fun z=>C.d (.int .i64 z))) hl e1 rfl hpin hgr.size (fun k hk hne=>hgr.block k hk (fun e=>hne (Option.some.inj e))) hgr.os hgr.tape hgr.output hHB (fun j y d n c hy how _=>by
   rw[show(B.row e 1 (List.map _ _)).cells=List.map _ _ from rfl,qxV] at hy
   obtain⟨z,-,rfl⟩:=qxU.1 hy
   cases how)).1
  exact⟨_,_,_,ρ,rfl,⟨rfl,rfl⟩,hnew,.tup _ _ rfl (fun j r hj=>by simp at hj)⟩
 ·subst e2
  have hz0:zs=[]:=qy0 e5
  subst hz0
  have hh0:h []=[]:=qy0 (hI.len [])
  refine(hI.none_ w).mono fun e' w'=>?_
  rintro⟨rfl,rfl⟩
  have hcs0:cs=[]:=by rw[hcs];rfl
  subst hcs0
  refine⟨_,_,_,ρ,rfl,⟨rfl,rfl⟩,?_,.tup _ _ rfl (fun j r hj=>by simp at hj)⟩
  rw[hh0]
  refine hs.ext (fun i=>rfl) (fun i=>?_) rfl (fun i hi=>?_)
  ·rw[S.blk_up]
   by_cases hi:id=i
   ·subst hi;rw[if_pos rfl,hb];rfl
   ·rw[if_neg hi]
  ·have:s.live i:=by
    unfold S.live at hi ⊢
    rw[S.blk_up] at hi
    by_cases hii:id=i
    ·subst hii;rw[hb];rfl
    ·rw[if_neg hii] at hi;exact hi
   have h1:=hs.nx i this
   show i<max s.nx (id+1)
   omega
theorem qiL (hA:Ag P T) {o:Oper} {ρ:Pl} {a:Act} {w:World} (hs:Sim cx ρ s a w) (h:qhj T s o=some (some s')) {next:Act→World→Prop} {Q:Exit→Act→World→Prop}
  (hn:∀ρ' a' w',Sim cx ρ' s' a' w'→next a' w'):o.guard=none∧o.wpIn (FW cx.ro) 0 P a w next Q:=by
 unfold qhj at h
 split at h
 ·rename_i f args ts hg ho
  split at h
  ·rename_i g hf
   unfold qq9 at h
   split at h
   ·rename_i x hargs
    split at h
    ·rename_i h0 hip
     injection h with h
     unfold qrM at h
     split at h
     ·rename_i id n hx
      unfold qr1 at h
      split at h
      ·rename_i e cs hb
       obtain⟨zs,hz,h2⟩:=qxM.1 h
       split at h2
       ·rename_i hc
        obtain⟨c1,c2,c3⟩:=hc
        injection h2 with h2
        have hcall:=qi7 (s:=s) hA hip hb hz c1 c2
        have hox:ox P T s s.nx o.op (fun r s1=>r = .tup []∧s1=s.up [(id,.row e 1 ((h0 zs).map fun z => .d (.int .i64 z)))]):=by
         rw[ho]
         unfold ox qeu
         simp only[hargs]
         exact⟨g,[],[],hf,by rw[List.map_nil,qy1,qy2,qy4,List.map_nil,hx];exact hcall⟩
        refine⟨hg,q4Y (K:=fun r' s1=>r' = .tup []∧s1=s.up [(id,.row e 1 ((h0 zs).map fun z => .d (.int .i64 z)))]) hA (fun h=>by have:=hs.nx _ h;omega) hs hox ?_⟩
        rintro r' s2 ρ' v w' ⟨rfl,rfl⟩ h3 h4
        refine hn ρ' _ w' ?_
        rw[←h2]
        cases T.ipk with
        | true=>exact h3.put (fun d hd=>by have:=JC c3 d hd;exact this) h4
        | false=>
        refine(h3.put (fun d hd=>by have:=JC c3 d hd;exact this) h4).frz ?_
        rw[List.all_cons,List.all_nil,qyI]
        have e1:(((s.up [(id,.row e 1 ((h0 zs).map fun z => .d (.int .i64 z)))]).put o.dst (.tup [])).blk id)=(s.up [(id,.row e 1 ((h0 zs).map fun z => .d (.int .i64 z)))]).blk id:=by cases o.dst<;>rfl
        rw[e1,S.blk_up]
        simp[B.isBlk]
       ·cases h2
      ·cases h
     ·cases h
    ·cases h
   ·cases h
  ·cases h
 ·cases h
def pl0:Pl:=⟨fun _=>none,fun _=>False⟩
theorem qcJ (hE:Snd P E) {g:FuncId} {zs:List Int} (h:okB (cfO E g) zs=true):∀x∈zs,∀y∈zs,∀W:World,Calls P g #[.int .i64 x,.int .i64 y] W fun e' W'=>(∃v,cfO E g x y=some v∧e' = .returned (.int .i64 v))∧W.grownBy W' none:=by
 intro x hx y hy W
 obtain⟨c,hc⟩:=q41 h x hx y hy
 have hc2:E (.fn g) 0 [.c (.d (.int .i64 x)),.c (.d (.int .i64 y))] []=some (.c (.d (.int .i64 c)),[]):=by
  unfold cfO at hc
  split at hc
  ·rename_i d hd;injection hc with hc;subst hc;exact hd
  ·cases hc
 have hac:=hE.fn g 0 _ [] _ _ hc2
 have hnl:∀i,¬ (QN [] 0).live i:=fun i h=>by cases h
 have hS:Sim ⟨fun _=>False,W,pl0,0,none⟩ pl0 (QN [] 0) q5q W:=
  ⟨Hd.none,rfl,fun i => .any _,fun i b c h=>absurd h (hnl i),fun i h=>absurd h (hnl i),fun i b c h=>absurd h (hnl i),fun i j b c c' h=>absurd h (hnl i),fun i h=>absurd h (hnl i),qaA.refl _ _,fun b hb=>hb.elim,fun i hi=>absurd hi (Nat.not_lt_zero _),fun i b c h=>absurd h (hnl i),⟨fun b hb=>hb.elim,fun i j _ _ d h=>absurd h.choose_spec.choose_spec.choose_spec.choose_spec.choose_spec.1 (hnl i),fun i j d h=>absurd h.choose_spec.choose_spec.choose_spec.choose_spec.choose_spec.1 (hnl i)⟩⟩
 have hr:RRs W (QN [] 0).live pl0 (#[.int .i64 x,.int .i64 y]:Array Value) [.c (.d (.int .i64 x)),.c (.d (.int .i64 y))]:=by
  refine⟨rfl,fun j r hj=>?_⟩
  cases j with
  | zero=>injection hj with hj;subst hj;exact .c _ _ (.d _ _ (.int .i64 x))
  | succ j=>cases j with
   | zero=>injection hj with hj;subst hj;exact .c _ _ (.d _ _ (.int .i64 y))
   | succ j=>simp at hj
 refine(hac.call ⟨fun _=>False,W,pl0,0,none⟩ pl0 W _ rfl rfl rfl rfl hS hr).mono ?_
 rintro e W' ⟨v,r,hp',nx',ρ',rfl,⟨rfl,rfl⟩,h3,h4⟩
 rw[h4.inv_int]
 exact⟨⟨c,hc,rfl⟩,⟨h3.kept.os,h3.kept.tape,h3.kept.output,h3.kept.size,fun k hk _=>h3.kept.block k hk (fun h=>h)⟩⟩
theorem qkH (hA:Ag P T) (hE:Snd P E) {g:FuncId} {e:TypeId} (hg:T.sf g=some e) {id n:Nat} {c:FuncId} {cs:List C} (hb:s.blk id = .row e 1 cs) {zs:List Int} (hz:q4U cs=some zs) (hn:n=zs.length) (h0:0<zs.length) (hlt:zs.length<4611686018427387904) (hok:okB (cfO E c) zs=true) :
  Jf P s g [.c (.own id 1 0 n),.c (.fn c [] [])] fun r s1=>r = .tup []∧s1=s.up [(id,.row e 1 ((JS (cfO E c) zs).map fun z => .d (.int .i64 z)))]:=by
 have hI:=hA.sf g e hg
 refine⟨⟨hI.ent⟩,fun cx ρ a w vs hs hv=>?_⟩
 obtain⟨hvs,hvr⟩:=hv
 have hv0:=hvr 0 _ rfl
 have hv1:=hvr 1 _ rfl
 obtain⟨hl,hcase⟩:=hv0.inv_own
 have hcs:=q3Q hz
 subst hn
 have hpin:id<cx.k→(B.row e 1 ((JS (cfO E c) zs).map fun z=>C.d (.int .i64 z))).isBlk=true:=fun hk=>by
  have:=(hs.pin id hk).2
  rw[hb] at this
  cases this
 rcases hcase with ⟨b,cap,e1,e2,e3,e4⟩|⟨-,-,-,e5⟩
 ·rw[Nat.zero_mul,qyz] at e4
  rw[qy5] at e2
  obtain⟨us,vs2,g1,g2,-,g4,-⟩:=hv1.inv_fn
  obtain rfl:us=#[]:=Array.eq_empty_of_size_eq_zero (by simpa using g2)
  obtain rfl:vs2=#[]:=Array.eq_empty_of_size_eq_zero (by simpa using g4)
  have hvs1:vs=#[.slice (some ⟨b,0,none⟩) zs.length cap,.func (.func c) #[] #[]]:=by
   apply Array.ext
   ·simpa using hvs
   ·intro i hi hi'
    have hg:vs.getD i undef=vs[i]:=by simp[qxN,hi]
    have:i=0∨i=1:=by simp at hi';omega
    rcases this with rfl|rfl
    ·rw[←hg,e4];simp
    ·rw[←hg,g1];rfl
  subst hvs1
  obtain⟨hbz,hB⟩:=hs.hp id b cap hl e1
  rw[hb] at hB
  obtain⟨cur,c1,c2,c3,c4,c5,c6⟩:HB w _ ρ b cap (.row e 1 cs):=hB
  have hcl:cs.length=zs.length:=by rw[hcs,qyp]
  have htk:cur.toList.take zs.length=zs.map (Value.int .i64):=by
   apply List.ext_getElem?
   intro j
   by_cases hj:j<zs.length
   ·rw[qyg hj,Array.getElem?_toList,qxV,qxJ hj,Option.map_some]
    have:=c6 j (.d (.int .i64 zs[j])) (by rw[hcs,qxV,qxJ hj];rfl)
    have hj2:j<cur.size:=by omega
    rw[qxN,qy8 hj2,Option.getD_some] at this
    rw[qy8 hj2]
    have:=(RR.c _ _ this).inv_int
    rw[this]
   ·rw[List.getElem?_take_eq_none (by omega),qyf (by simp;omega)]
  have heg:∀args w,(callFunc c args).run P w = .ok (.enter c args) w:=by
   obtain⟨cc,hcc⟩:=q41 hok (zs[0]'(by omega)) (qyy _) (zs[0]'(by omega)) (qyy _)
   have hent:qdu P c:=by
    unfold cfO at hcc
    split at hcc
    ·rename_i d hd
     exact(hE.fn c 0 _ [] _ _ hd).ent
    ·cases hcc
   obtain⟨fn',f1,f2,f3⟩:=hent.ok
   cases hbd:fn'.body with
   | none=>rw[hbd] at f3;cases f3
   | some c'=>
    intro args w
    have f4:fn'.name ≠ "runtime.NumGoroutine" := by simpa using f2
    simp[callFunc,f1,f4,hbd,q9z]
  refine(hI.row c (cfO E c) b cap zs w cur c1 htk h0 hlt hok heg (qcJ hE hok)).mono fun e' w'=>?_
  rintro⟨rfl,hgr,cur',d1,d2,d3⟩
  have hHB:HB w' (s.up [(id,B.row e 1 ((JS (cfO E c) zs).map fun z=>C.d (.int .i64 z)))]).live ρ b cap (.row e 1 ((JS (cfO E c) zs).map fun z=>C.d (.int .i64 z))):=by
   refine⟨cur',d1,by have:=q4M (cfO E c) zs;simp only[qyp];omega,d2.trans c3,c4,c5,fun j c' hj=>?_⟩
   rw[qxV] at hj
   obtain⟨z,q1,q2⟩:=qxU.1 hj
   subst q2
   have hjl:j<zs.length:=by have:=(qxL.1 q1).1;rw[q4M] at this;exact this
   have h3:(cur'.toList.take zs.length)[j]?=some (.int .i64 z):=by rw[d3,qxV,q1];rfl
   rw[qyg hjl,Array.getElem?_toList] at h3
   rw[qxN,h3]
   exact .d _ _ (.int _ _)
  have hnew:=(hs.overG (id:=id) (x := .row e 1 ((JS (cfO E c) zs).map fun z=>C.d (.int .i64 z))) hl e1 rfl hpin hgr.size (fun k hk hne=>hgr.block k hk (fun e=>hne (Option.some.inj e))) hgr.os hgr.tape hgr.output hHB (fun j y d n c hy how _=>by
   rw[show(B.row e 1 (List.map _ _)).cells=List.map _ _ from rfl,qxV] at hy
   obtain⟨z,-,rfl⟩:=qxU.1 hy
   cases how)).1
  exact⟨_,_,_,ρ,rfl,⟨rfl,rfl⟩,hnew,.tup _ _ rfl (fun j r hj=>by simp at hj)⟩
 ·omega
theorem qmr (hA:Ag P T) (hE:Snd P E) {o:Oper} {ρ:Pl} {a:Act} {w:World} (hs:Sim cx ρ s a w) (h:ipF T E s o=some (some s')) {next:Act→World→Prop} {Q:Exit→Act→World→Prop}
  (hn:∀ρ' a' w',Sim cx ρ' s' a' w'→next a' w'):o.guard=none∧o.wpIn (FW cx.ro) 0 P a w next Q:=by
 unfold ipF at h
 split at h
 ·rename_i f args ts hg ho
  split at h
  ·rename_i g hf
   unfold qmT at h
   split at h
   ·rename_i x y hargs
    split at h
    ·rename_i e hip
     injection h with h
     unfold qsR at h
     split at h
     ·rename_i id n c hx hy
      unfold qaN at h
      split at h
      ·rename_i e' cs hb
       obtain⟨zs,hz,h2⟩:=qxM.1 h
       split at h2
       ·rename_i hc
        obtain⟨rfl,c1,c0,c2,c4,c3⟩:=hc
        injection h2 with h2
        have hcall:=qkH (s:=s) hA hE hip hb hz c1 c0 c2 c4
        have hox:ox P T s s.nx o.op (fun r s1=>r = .tup []∧s1=s.up [(id,.row e' 1 ((JS (cfO E c) zs).map fun z => .d (.int .i64 z)))]):=by
         rw[ho]
         unfold ox qeu
         simp only[hargs]
         exact⟨g,[],[],hf,by rw[List.map_nil,qy1,qy2,qy4,qy4,List.map_nil,hx,hy];exact hcall⟩
        refine⟨hg,q4Y (K:=fun r' s1=>r' = .tup []∧s1=s.up [(id,.row e' 1 ((JS (cfO E c) zs).map fun z => .d (.int .i64 z)))]) hA (fun h=>by have:=hs.nx _ h;omega) hs hox ?_⟩
        rintro r' s2 ρ' v w' ⟨rfl,rfl⟩ h3 h4
        refine hn ρ' _ w' ?_
        rw[←h2]
        refine(h3.put (fun d hd=>by have:=JC c3 d hd;exact this) h4).frz ?_
        rw[List.all_cons,List.all_nil,qyI]
        have e1:(((s.up [(id,.row e' 1 ((JS (cfO E c) zs).map fun z => .d (.int .i64 z)))]).put o.dst (.tup [])).blk id)=(s.up [(id,.row e' 1 ((JS (cfO E c) zs).map fun z => .d (.int .i64 z)))]).blk id:=by cases o.dst<;>rfl
        rw[e1,S.blk_up]
        simp[B.isBlk]
       ·cases h2
      ·cases h
     ·cases h
    ·cases h
   ·cases h
  ·cases h
 ·cases h
theorem qoA {id j e sz n:Nat} {ds:List D} (x:Operand):(tkS s id j e sz n ds).ev x=(s.ev x).nw:=by
 cases x with
 | tmp i=>exact Zu R.nw s.tm i .any rfl
 | const v=>cases v<;>first|rfl|(show Zb _=(Zb _).nw;unfold Zb;split<;>rfl)
 | _=>rfl
theorem qsZ (x:Operand):s.uw.ev x=(s.ev x).nw:=by
 cases x with
 | tmp i=>exact Zu R.nw s.tm i .any rfl
 | const v=>cases v<;>first|rfl|(show Zb _=(Zb _).nw;unfold Zb;split<;>rfl)
 | _=>rfl
theorem Sim.uwR {ρ:Pl} {a:Act} {w:World} (hs:Sim cx ρ s a w) (b:B):∃ρ',Sim cx ρ' (Vc.uwR s b) a w:=by
 cases b with
 | row e sz cs=>exact⟨_,hs.uw⟩
 | _=>exact⟨_,hs⟩
theorem qpx {x:Operand} {i o:Nat} (h:s.ev x = .c (.ptr i o)) (b:B):(uwR s b).ev x = .c (.ptr i o):=by
 cases b with
 | row e sz cs=>show s.uw.ev x=_;rw[qsZ,h];rfl
 | _=>exact h
theorem qpw (hA:Ag P T) (hE:Snd P E) {o:Oper} {ρ:Pl} {a:Act} {w:World} (hs:Sim cx ρ s a w) (h:ldO T po s o=some (some s')) {next:Act→World→Prop} {Q:Exit→Act→World→Prop}
  (hn:∀ρ' a' w',Sim cx ρ' s' a' w'→next a' w'):o.guard=none∧o.wpIn (FW cx.ro) 0 P a w next Q:=by
 unfold ldO at h
 split at h
 ·rename_i t x hg ho
  refine⟨hg,?_⟩
  have fin:∀(s1:S) (ρ1:Pl) (r:R),Sim cx ρ1 s1 a w→q5T T s1 t x=some (r,s1)→q3W s1 o.dst=true→s1.put o.dst r=s'→o.wpIn (FW cx.ro) 0 P a w next Q:=fun s1 ρ1 r h1 h2 h3 h4=>by
   have h5:xst P T po E o true s1=some s':=by
    unfold xst
    rw[if_pos rfl,ho]
    show(q5T T s1 t x).bind _=_
    rw[h2,qxH,if_pos h3,h4]
   have:=q9g (next:=next) (Q:=Q) hA hE h1 h5 hn
   rwa [if_pos rfl] at this
  split at h
  ·cases h
  ·split at h
   ·rename_i b _ id off hx
    split at h
    ·split at h
     ·rename_i hk
      injection h with h
      obtain⟨c,h1,h2⟩:=qxM.1 h
      have hld:∀(cs:List C),ld T cs off t=(cs[off]?).map .c:=fun cs=>by
       obtain⟨e,hk⟩:=q9r hk
       unfold ld;rw[hk]
      have plain:∀c',c=c'→ldP s o.dst c'=some s'→o.wpIn (FW cx.ro) 0 P a w next Q:=fun c' e h3=>by
       unfold ldP at h3
       split at h3
       ·rename_i hd
        injection h3 with h3
        refine fin s ρ (.c c') hs ?_ hd h3
        unfold q5T
        rw[hx]
        simp only
        rw[hld,h1,e];rfl
       ·cases h3
      cases c with
      | ow e sz n ds=>
       simp only[ldT] at h2
       split at h2
       ·rename_i hd
        injection h2 with h2
        have htk:s.tk id off=some (tkS s id off e sz n ds):=by unfold S.tk;rw[h1];rfl
        obtain⟨ρ',h3⟩:=hs.tk htk
        refine fin _ ρ' (.c (.own s.nx sz 0 n)) h3 ?_ hd h2
        unfold q5T
        rw[qoA,hx]
        show(ld T ((tkS s id off e sz n ds).blk id).cells off t).bind _=_
        rw[hld,qno hs h1];rfl
       ·cases h2
      | _=>exact plain _ rfl h2
     ·cases h
    ·injection h with h
     unfold ldU at h
     obtain⟨r,h1,h2⟩:=qxM.1 h
     split at h2
     ·rename_i hd
      injection h2 with h2
      obtain⟨ρ',h3⟩:=hs.uwR (s.blk id)
      refine fin _ ρ' r h3 ?_ hd h2
      unfold q5T
      rw[qpx hx]
      show(ld T ((uwR s (s.blk id)).blk id).cells off t).bind _=_
      rw[h1];rfl
     ·cases h2
   ·cases h
 ·cases h
theorem qiU {ds l:List D} {m:Nat} (h:qpW ds m=some l):l=ds.take m∧l.length=m:=by
 unfold qpW at h
 split at h
 ·rename_i hc
  injection h with h;subst h
  exact⟨(qyN (by omega)).symm,hc⟩
 ·split at h
  ·injection h with h;subst h
   exact⟨rfl,by rw[qya];omega⟩
  ·cases h
theorem Sim.cutR {ρ:Pl} {a:Act} {w:World} (hs:Sim cx ρ s a w) {k m:Nat} {e:TypeId} {sz:Nat} {cs:List C} (hb:s.blk k = .row e sz cs):Sim cx ρ (s.up [(k,.row e sz (cs.take m))]) a w:=by
 have hl:s.live k:=by unfold S.live;rw[hb];rfl
 cases hr:ρ k with
 | none=>
  obtain⟨e',sz',h⟩:=hs.hp0 k hl hr
  rw[hb] at h
  injection h with _ _ h
  subst h
  have hbb:∀i,(s.up [(k,.row e sz (([]:List C).take m))]).blk i=s.blk i:=fun i=>by
   rw[S.blk_up]
   split
   ·rename_i h;rw[←h,hb,List.take_nil]
   ·rfl
  refine hs.ext (fun _=>rfl) hbb rfl fun i hi=>?_
  unfold S.live at hi
  rw[hbb] at hi
  exact qyh (hs.nx i hi) (Nat.le_max_left _ _)
 | some bc=>
  obtain⟨b,cap⟩:=bc
  have hB:=(hs.hp k b cap hl hr).2
  rw[hb] at hB
  obtain⟨vs,g1,g2,g3,g4,g5,g6⟩:=hB
  have hl':∀j,(s.up [(k,.row e sz (cs.take m))]).live j↔s.live j:=fun j=>by
   unfold S.live
   rw[S.blk_up]
   by_cases hj:k=j
   ·subst hj;rw[if_pos rfl];exact⟨fun _=>hl,fun _=>rfl⟩
   ·rw[if_neg hj]
  have hst:q2V w s.live ρ w (s.up [(k,.row e sz (cs.take m))]).live ρ:=by
   refine⟨qxX _,fun _ _ _=>rfl,fun b' _ hO=>?_,fun j hj=>⟨(hl' j).2 hj,rfl⟩,fun b hF=>⟨hF,fun _=>rfl⟩⟩
   rcases hO with h|⟨j,c,q1,q2⟩
   ·exact .inl h
   ·exact .inr ⟨j,c,(hl' j).1 q1,q2⟩
  have htk:∀(j:Nat) (y:C),(cs.take m)[j]?=some y→cs[j]?=some y:=fun j y hy=>by
   rw[List.getElem?_take] at hy
   split at hy
   ·exact hy
   ·cases hy
  refine(hs.over (x := .row e sz (cs.take m)) hl hr rfl (fun h=>by have:=(hs.pin k h).2;rw[hb] at this;cases this) rfl (fun _ _=>rfl) rfl rfl rfl ⟨vs,g1,qyi (by rw[qya];exact Nat.min_le_right _ _) g2,g3,g4,g5,fun j c hj=>(g6 j c (htk j c hj)).stay hst⟩ (fun j y d n c hy how hw=>⟨y,by rw[hb];exact htk j y hy,how,n,c,hw⟩)).1
theorem qmZ (hA:Ag P T) (hE:Snd P E) {o:Oper} {ρ:Pl} {a:Act} {w:World} (hs:Sim cx ρ s a w) (h:stO T po s o=some (some s')) {next:Act→World→Prop} {Q:Exit→Act→World→Prop}
  (hn:∀ρ' a' w',Sim cx ρ' s' a' w'→next a' w'):o.guard=none∧o.wpIn (FW cx.ro) 0 P a w next Q:=by
 unfold stO at h
 split at h
 ·rename_i t x y hg ho
  refine⟨hg,?_⟩
  split at h
  ·cases h
  ·rename_i b _
   split at h
   ·rename_i id off k sz n hx hy
    split at h
    ·rename_i hc
     obtain⟨-,hd,hk,hz⟩:=hc
     obtain⟨e0,hk⟩:=q9r hk
     unfold qqn at h
     split at h
     ·rename_i e' z cs e sz' cs' hbi hbk
      injection h with h
      obtain⟨ds,h0,h2⟩:=qxM.1 h
      obtain⟨ds0,h1,h0⟩:=qxM.1 h0
      obtain⟨hds,hl⟩:=qiU h0
      split at h2
      ·rename_i hq
       obtain⟨rfl,hsz,hof,hik⟩:=hq
       injection h2 with h2
       have h5:xst P T po E o true s=some (s.up [(id,(s.blk id).set off [.own k sz' 0 n])]):=by
        unfold xst
        rw[if_pos rfl,ho]
        show(q0l T s t x y).bind _=_
        unfold q0l
        rw[hx,hy]
        simp only[R.cells]
        rw[if_pos ⟨rfl,by rw[hk];simp,by rw[hz];rfl,by rw[hbi];exact hof,by rw[hbi];rfl⟩,qxH,hd]
        rfl
       have:=q9g (next:=next) (Q:=Q) hA hE hs h5 (fun ρ' a' w' h6=>by
        have hb:∀i,(s.up [(id,(s.blk id).set off [.own k sz' 0 n])]).blk i=if id=i then(s.blk id).set off [.own k sz' 0 n] else s.blk i:=fun i=>S.blk_up _ _ _ _
        have h8:=h6.cutR (k:=k) (m:=n*sz') (e:=e) (sz:=sz') (cs:=cs') (by rw[hb,if_neg hik];exact hbk)
        rw[q24 h1,←List.map_take,←hds] at h8
        obtain⟨ρ2,h7⟩:=h8.abAt (id:=id) (j:=off) (k:=k) (e:=e) (sz:=sz') (n:=n) (cs:=ds.map C.d) (ds:=ds) (by rw[S.blk_up,if_pos rfl]) rfl hsz hl (by rw[S.blk_up,if_neg (Ne.symm hik),hb,if_pos rfl,hbi];show(cs.set off _)[off]?=_;rw[qyE hof]) hik
        exact hn ρ2 a' w' (h2 ▸ h7))
       rwa [if_pos rfl] at this
      ·cases h2
     ·cases h
    ·cases h
   ·cases h
 ·cases h
theorem qmJ (hA:Ag P T) (hE:Snd P E) {o:Oper} {ρ:Pl} {a:Act} {w:World} (hs:Sim cx ρ s a w) (h:ipX T po s o=some (some s')) {next:Act→World→Prop} {Q:Exit→Act→World→Prop}
  (hn:∀ρ' a' w',Sim cx ρ' s' a' w'→next a' w'):o.guard=none∧o.wpIn (FW cx.ro) 0 P a w next Q:=by
 unfold ipX at h
 cases hi:qhj T s o with
 | some y=>rw[hi] at h;injection h with h;subst h;exact qiL hA hs hi hn
 | none=>
  rw[hi] at h
  cases hl:ldO T po s o with
  | some y=>rw[hl] at h;injection h with h;subst h;exact qpw hA hE hs hl hn
  | none=>rw[hl] at h;exact qmZ hA hE hs h hn
theorem qhq (hA:Ag P T) (hE:Snd P E) {o:Oper} {ρ:Pl} {a:Act} {w:World} (hs:Sim cx ρ s a w) (h:ipA T po E s o=some (some s')) {next:Act→World→Prop} {Q:Exit→Act→World→Prop}
  (hn:∀ρ' a' w',Sim cx ρ' s' a' w'→next a' w'):o.guard=none∧o.wpIn (FW cx.ro) 0 P a w next Q:=by
 unfold ipA at h
 cases hi:ipX T po s o with
 | some y=>rw[hi] at h;injection h with h;subst h;exact qmJ hA hE hs hi hn
 | none=>rw[hi] at h;exact qmr hA hE hs h hn
theorem qgq (hA:Ag P T) (hE:Snd P E) {ops:Array Oper} {Q':Exit→Act→World→Prop}:∀(l:List Oper) (s s':S) (ρ:Pl) (a:Act) (w:World),Sim cx ρ s a w→xr P T po E ops.toList l s=some s'→
  (∀ρ' a' w',Sim cx ρ' s' a' w'→Q' .normal a' w')→wpListIn (FW cx.ro) 0 P ops Q' l a w
 | [],s,s',ρ,a,w,hs,h,hQ=>by injection h with h;subst h;exact hQ ρ a w hs
 | o::l,s,s',ρ,a,w,hs,h,hQ=>by
  unfold xr at h
  obtain⟨s1,h1,h2⟩:=qxM.1 h
  unfold wpListIn
  have key:∀(s0:S) (act:Bool),Sim cx ρ s0 a w→Region.wanted o (yielded ops a.tmps)=act→xst P T po E o act s0=some s1→
    if Region.wanted o (yielded ops a.tmps)=true then o.wpIn (FW cx.ro) 0 P a w (fun a' w'=>wpListIn (FW cx.ro) 0 P ops Q' l a' w') Q' else(∀f,o.about P w a.eval=some f→(FW cx.ro).fn f)∧wpListIn (FW cx.ro) 0 P ops Q' l (a.put o.dst undef) w:=by
   intro s0 act h3 h4 h5
   have:=q9g (next:=fun a' w'=>wpListIn (FW cx.ro) 0 P ops Q' l a' w') (Q:=Q') hA hE h3 h5 (fun ρ' a' w' h6=>qgq hA hE l s1 s' ρ' a' w' h6 h2 hQ)
   rw[h4]
   split
   ·rename_i ha;rw[if_pos ha] at this;exact this
   ·rename_i ha;rw[if_neg ha] at this;exact⟨q5O,this⟩
  unfold xgd at h1
  cases hi:ipA T po E s o with
  | some y=>
   rw[hi] at h1
   replace h1:y=some s1:=h1
   subst h1
   obtain⟨i1,i2⟩:=qhq (next:=fun a' w'=>wpListIn (FW cx.ro) 0 P ops Q' l a' w') (Q:=Q') hA hE hs hi (fun ρ' a' w' h6=>qgq hA hE l s1 s' ρ' a' w' h6 h2 hQ)
   rw[if_pos (by unfold Region.wanted;rw[i1])]
   exact i2
  | none=>
  rw[hi] at h1
  replace h1:q8t P T po E ops.toList o s=some s1:=h1
  unfold q8t at h1
  split at h1
  ·rename_i hg
   exact key s true hs (by unfold Region.wanted;rw[hg]) h1
  ·rename_i j want hg
   split at h1
   ·rename_i d hd
    split at h1
    ·rename_i b hb
     have hgd:gd ops.toList s o.guard=some (b==want):=by unfold gd;rw[hg];simp only[hd,hb]
     have hw:=JZ hs hgd
     split at h1
     ·rename_i hbt
      subst hbt
      exact key _ want (hs.lit hb) (by rw[hw];cases want<;>rfl) h1
     ·rename_i hbf
      have hbf:b=false:=by cases b<;>simp at hbf ⊢
      subst hbf
      exact key _ (!want) (hs.lit hb) (by rw[hw];cases want<;>rfl) h1
    ·rename_i hb
     have hgd:gd ops.toList s o.guard=some false:=by unfold gd;rw[hg];simp only[hd,hb]
     exact key s false hs (JZ hs hgd) h1
    ·cases h1
   ·cases h1
theorem q88 {k:Nat} {kp:List Nat} {s1:S} (hk:cx.k=k) (h:qhA k kp s1=some s'):Le cx s1 s':=fun ρ1 a w h1=>by
 unfold qhA at h
 unfold qtu at h
 split at h
 ·rename_i hc
  injection h with h
  generalize q06 s1 60 _ _=ids at h hc
  obtain⟨c1,c2,c3⟩:=hc
  have hr:∀(n:Nat) (acc:List Nat) (i:Nat),i<n→i∈rng n acc:=by
   intro n
   induction n with
   | zero=>intro acc i hi;omega
   | succ n ih=>
    intro acc i hi
    unfold rng
    by_cases hn:i=n
    ·subst hn
     have:∀(m:Nat) (acc:List Nat) (x:Nat),x∈acc→x∈rng m acc:=by
      intro m
      induction m with
      | zero=>intro acc x hx;exact hx
      | succ m ih2=>intro acc x hx;exact ih2 _ x (qxP _ hx)
     exact this _ _ _ qxW
    ·exact ih _ i (by omega)
  obtain⟨ρ2,h2,-⟩:=h1.canon (ids:=ids) (tm:=kp.map (fun i=>(i,cnR ids (s1.get i)))) (n:=s1.n) (a':=a) c1 c2 (fun i hi=>by
   have:=qxY.1 c3 i (hr k [] i (by omega))
   simpa using this) h1.hd h1.size (fun i=>by
   have:∀l:List Nat,lk (l.map (fun i=>(i,cnR ids (s1.get i)))) i .any = .any∨lk (l.map (fun i=>(i,cnR ids (s1.get i)))) i .any=cnR ids (s1.get i):=by
    intro l
    induction l with
    | nil=>exact .inl rfl
    | cons x l ih=>
     simp only[qy4,lk]
     split
     ·rename_i hx;subst hx;exact .inr rfl
     ·exact ih
   rcases this kp with h|h
   ·exact .inl h
   ·exact .inr ⟨_,h1.tm i,h⟩)
  subst h
  exact⟨ρ2,h2⟩
 ·cases h
theorem Sim.fin {ρ:Pl} {a:Act} {w:World} (hs:Sim cx ρ s a w) (Q:TypeId→List Nat):Sim cx ρ (s.fin Q) a w:=((hs.dzr Q).fn1).fn1
theorem Sim.fnB {ρ:Pl} {a:Act} {w:World} (hs:Sim cx ρ s a w) (po:Pol) (b:Bool):∃ρ',Sim cx ρ' (s.fnB po b) a w:=by
 unfold S.fnB
 split
 ·obtain⟨ρ',h⟩:=(hs.dzo po.qo).abL (s.dzo po.qo).inr
  exact⟨ρ',h.fn1.fn1⟩
 ·exact⟨ρ,hs.fin po.q⟩
theorem Sim.tkO {ρ:Pl} {a:Act} {w:World} (hs:Sim cx ρ s a w) {id j:Nat} (h:((s.blk id).cells[j]?).bind (qqb s id j)=some s'):∃ρ',Sim cx ρ' s' a w:=by
 obtain⟨c,hc,h⟩:=qxM.1 h
 cases c with
 | ow e sz n ds=>exact hs.tk (s':=s') (by unfold S.tk;rw[hc];exact h)
 | _=>injection h with h;subst h;exact⟨ρ,hs⟩
theorem Sim.tkP {a:Act} {w:World}:∀(l:List (Nat×Nat)) {s s':S} {ρ:Pl},Sim cx ρ s a w→s.tkP l=some s'→∃ρ',Sim cx ρ' s' a w
 | [],_,_,ρ,hs,h=>by injection h with h;subst h;exact⟨ρ,hs⟩
 | x::l,_,_,_,hs,h=>by
  obtain⟨s1,h1,h2⟩:=qxM.1 h
  obtain⟨ρ',h3⟩:=hs.tkO h1
  exact Sim.tkP l h3 h2
theorem Sim.tkD {ρ:Pl} {a:Act} {w:World} (hs:Sim cx ρ s a w) {T:Ty} {po:Pol} {ops:List Oper} (h:s.tkD T po ops=some s'):∃ρ',Sim cx ρ' s' a w:=by
 unfold S.tkD at h
 split at h
 ·exact hs.tkP _ h
 ·injection h with h;subst h;exact⟨ρ,hs⟩
theorem qhB (s:S) (po:Pol) (b:Bool):Le cx s (s.fnB po b):=fun _ _ _ hs=>hs.fnB po b
theorem q9G {f key k:Nat} (hk:cx.k=k) (h:nrm po f key k s=some s'):Le cx s s':=fun _ _ _ hs=>by
 obtain⟨ρ0,h0⟩:=hs.fnB po (po.ab f)
 obtain⟨ρ1,h1⟩:=h0.rwAll (po.rw f key)
 exact q88 hk h ρ1 _ _ h1
theorem J.weak {c:Code} {Q Q':Exit→S→Prop} (h:J P cx c Q s) (hq:∀e s,Q e s→∃s',Le cx s s'∧Q' e s'):J P cx c Q' s:=fun ρ a w hs=>
 wpIn_mono (h ρ a w hs) fun _ _ _ ⟨s',ρ',h1,h2⟩=>by
  obtain⟨s'',h3,h4⟩:=hq _ _ h1
  obtain⟨ρ'',h5⟩:=h3 ρ' _ _ h2
  exact⟨s'',ρ'',h4,h5⟩
def qqe (P:Program) (q:Nat→List Oper→Bool) (k:Nat) (DR:Nat→List Oper→S→Option S):Prop:=
 ∀(cx:Cx) (id:Nat) (ops:Array Oper) (s s':S) (Q:Exit→S→Prop),cx.k=k→q id ops.toList=true→DR id ops.toList s=some s'→Q .normal s'→J P cx (.region id ops true) Q s
theorem qg8 (s:S) (l:List Nat):(q8l s l).length=s.n∧∀i r,(q8l s l)[i]?=some r→r = .any∨r=s.get i:=by
 refine⟨by simp[q8l],fun i r h=>?_⟩
 unfold q8l at h
 rw[qxV] at h
 obtain⟨j,h1,h2⟩:=qxU.1 h
 have hj:j=i:=by
  have:=(qxL.1 h1).2
  rw[List.getElem_range] at this
  exact this.symm
 subst hj
 split at h2
 ·exact .inr h2.symm
 ·exact .inl h2.symm
theorem qmc (hE:Snd P E) {f:Nat} {g:Operand} {ps:Array Tmp} {aq0 bd:Code} {e:Exit} {Q:Exit→S→Prop} (hro:cx.ro=none) (h:xRF po E f g ps.toList aq0 bd s=some (e,s')) (hQ:Q e s'):J P cx (.rangeFunc g ps aq0 bd) Q s:=by
 unfold xRF at h
 split at h
 ·rename_i g' fs caps hg
  obtain⟨⟨r,s2⟩,h1,h2⟩:=qxM.1 h
  refine J.rangeFunc (K:=fun r' s2'=>r'=r∧s2'=s2) hro hg (qg8 s _) (q7o hE h1 ⟨rfl,rfl⟩) ?_
  rintro r' s2' ⟨rfl,rfl⟩
  unfold qlJ at h2
  simp only at h2
  split at h2
  ·rename_i rid hr
   split at h2
   ·rename_i f' tm' ps' aq0' bd' st pd hb
    split at h2
    ·cases h2
    ·rename_i hst
     refine⟨rid,f',tm',ps',aq0',bd',st,pd,hr,hb,hst,?_⟩
     unfold qjb at h2
     split at h2
     ·injection h2 with h2;injection h2 with h3 h4;subst h3 h4;exact hQ
     ·injection h2 with h2;injection h2 with h3 h4;subst h3 h4;exact hQ
     ·injection h2 with h2;injection h2 with h3 h4;subst h3 h4;exact hQ
     ·cases h2
   ·cases h2
  ·cases h2
 ·cases h
theorem q6t {id j:Nat} (b:B) (h:id≠j):∀l:List (Nat×B),lk (l.map fun p=>if p.1=id then(id,b) else p) j .dead=lk l j .dead
 | []=>rfl
 | (i,x)::l=>by
  simp only[qy4,lk]
  by_cases hi:i=id
  ·subst hi
   simp only[if_true,if_neg h]
   exact q6t b h l
  ·simp only[if_neg hi]
   split
   ·rfl
   ·exact q6t b h l
theorem q9i {id:Nat} (b:B):∀l:List (Nat×B),lk l id .dead ≠ .dead→lk (l.map fun p=>if p.1=id then(id,b) else p) id .dead=b
 | [],h=>absurd rfl h
 | (i,x)::l,h=>by
  simp only[qy4,lk]
  by_cases hi:i=id
  ·simp only[if_pos hi,if_true]
  ·simp only[if_neg hi]
   refine q9i b l ?_
   simpa only[lk,if_neg hi] using h
theorem q6H {id:Nat} (b:B) (h:s.blk id ≠ .dead) (j:Nat):(s.gh id b).blk j=if id=j then b else s.blk j:=by
 unfold S.gh S.blk
 split
 ·rename_i hj;subst hj;exact q9i b _ h
 ·rename_i hj;exact q6t b hj _
theorem qsC (id:Nat) (b c:B):(s.gh id b).gh id c=s.gh id c:=by
 unfold S.gh
 simp only[List.map_map]
 congr 1
 apply List.map_congr_left
 intro p _
 simp only[Function.comp]
 by_cases hp:p.1=id
 ·simp[hp]
 ·simp[hp]
theorem qaA.drew (w:World):qaA (fun _=>False) w w.drew:=⟨rfl,rfl,rfl,qxX _,fun _ _ _=>rfl⟩
theorem q7O (w:World) (ty:TypeId) (b bm since c0:Nat) (seen:Array Nat) (es:Array MapEntry) (clock:Nat) (hb:w.heap[b]?=some (.mapIter (some bm) since seen c0)) (hm:w.heap[bm]?=some (.map es clock)) (hold:∀x∈es.toList,x.born<since) (hsc:since≤c0) :
  ((leftOf es seen).size=0∧(Instr.next (.pointer (some ⟨b,0,none⟩)) false ty).run P w = .ok (.tuple #[.bool false]) w)∨
  ∃e∈(leftOf es seen).toList,∃w1:World,(w1=w∨w1=w.drew)∧(Instr.next (.pointer (some ⟨b,0,none⟩)) false ty).run P w = .ok (.tuple #[.bool true,e.key,e.val]) (w1.putObj b (.mapIter (some bm) since (seen.push e.born) clock)):=by
 simp only[Instr.next,Sem.run_bind,QB hb rfl,QB hm rfl,Result.andThen,next_test_false seen es since c0 hold hsc,Bool.false_eq_true,if_false]
 unfold leftOf
 have hmem:∀x∈(Array.filter (fun e => !seen.contains e.born) es).toList,x.born<since:=fun x hx=>hold x (by simp at hx ⊢;exact hx.1)
 generalize Array.filter (fun e => !seen.contains e.born) es=L at hmem ⊢
 have e1:L.filter (fun x=>decide (x.born<since))=L:=Array.filter_eq_self.2 (fun x hx=>by simpa using hmem x (by simpa using hx))
 have e2:L.filter (fun x=>decide (x.born ≥ since))=#[]:=by
  rw[Array.filter_eq_empty_iff]
  intro x hx
  have:=hmem x (by simpa using hx)
  simp
  omega
 simp only[e1,e2,Array.append_empty]
 by_cases h0:L.size=0
 ·left
  have:L=#[]:=Array.eq_empty_of_size_eq_zero h0
  subst this
  refine⟨rfl,?_⟩
  simp[choose,Sem.run,Question.forced]
 ·right
  have hne:L.isEmpty=false:=by simp[Array.isEmpty,h0]
  simp only[hne,Bool.false_eq_true,if_false,Array.empty_append,Array.size_map]
  have hch:∃(j:Nat) (w1:World),j<L.size∧(w1=w∨w1=w.drew)∧(choose (Question.mapNext L.size)).run P w = .ok j w1:=by
   by_cases hf:L.size≤1
   ·exact⟨0,w,by omega,.inl rfl,by simp[choose,Sem.run,Question.forced,hf]⟩
   ·exact⟨_,w.drew,Nat.mod_lt _ (by omega),.inr rfl,by
     simp only[choose,Sem.run,Question.forced,qyG,hf,if_false,Question.cut]
     rfl⟩
  obtain⟨j,w1,hj,hal,hrun⟩:=hch
  refine⟨L[j],by simp,w1,hal,?_⟩
  have hb1:w1.heap[b]?=some (.mapIter (some bm) since seen c0):=by rcases hal with rfl|rfl<;>exact hb
  simp only[hrun,Array.getElem?_map,qy8 hj,Option.map_some,Sem.run_bind,q0k hb1 rfl,Result.andThen]
  rfl
def NX (P:Program) (T:Ty) (po:Pol) (E:Orc) (cx:Cx) (it:Operand) (s:S) (G:Option (Value×R×Nat)→Prop) (mk:Option (Value×R×Nat)→S):Prop:=
 ∀(o:Oper) (ρ:Pl) (a:Act) (w:World) (next:Act→World→Prop) (Q:Exit→Act→World→Prop),o.op = .next it false→Sim cx ρ s a w→(∀g ρ' a' w',G g→(∀s1,xst P T po E o true (mk g)=some s1→Sim cx ρ' s1 a' w')→next a' w')→o.wp P a w next Q
theorem qtj {it:Operand} {id:Nat} {m:R} {ck:Nat} {es:Me} {l:List Nat} (hx:s.ev it = .c (.hd .iter id)) (hb:s.blk id = .ob (.mi m ck l)) (hm:mOf s id m ck=some es) (hck:es.all (fun e=>decide (e.2.2<ck)&&kOk e.1)=true) :
  NX P T po E cx it s (fun g=>(g=none∧∀e∈es,e.2.2∈l)∨∃e∈es,g=some e∧e.2.2 ∉ l) (fun g=>s.m1 id m ck g l):=by
 intro o ρ a w next Q ho hs hn
 have he:execOp a.eval o=(do pure (.value (←Instr.next (a.eval it) false o.type))):=by unfold execOp;simp only[ho]
 have hxv:=hs.ev it
 rw[hx] at hxv
 obtain⟨b,cap,h1,h2,h3⟩:=hxv.inv_hd
 have hB:=(hs.hp id b cap h1 h2).2
 rw[hb] at hB
 obtain⟨mb,q1,q2⟩:HO w s.live ρ b (.mi m ck l):=hB
 have q4:∀x,(l.reverse.toArray).contains x=l.contains x:=fun x=>by simp
 have hnd:s.blk id ≠ .dead:=by rw[hb];simp
 have hgb:∀(x y:B) (j:Nat),((s.gh id x).up [(id,y)]).blk j=(s.up [(id,y)]).blk j:=fun x y j=>by
  rw[S.blk_up,S.blk_up,q6H x hnd]
  split<;>rfl
 have fin:∀(g:Option (Value×R×Nat)) (r:R) (x:B) (v:Value) (w1:World),((g=none∧∀e∈es,e.2.2∈l)∨∃e∈es,g=some e∧e.2.2 ∉ l)→q3o (s.m1 id m ck g l) it=some (r,(s.m1 id m ck g l).up [(id,x)])→
   Sim cx ρ (s.up [(id,x)]) a w1→RR w1 (s.up [(id,x)]).live ρ v r→next (a.put o.dst v) w1:=by
  intro g r x v w1 hG hN hs1 hr
  refine hn g ρ _ w1 hG (fun s1 h=>?_)
  unfold xst at h
  rw[if_pos rfl,ho] at h
  change (q3o (s.m1 id m ck g l) it).bind _=_ at h
  rw[hN,qxH] at h
  simp only at h
  split at h
  ·rename_i hd
   injection h with h
   subst h
   have hp:=hs1.put (dst:=o.dst) (JC hd) hr
   refine hp.ext (fun i=>?_) (fun i=>?_) ?_ (fun i hi=>?_)
   ·cases o.dst<;>rfl
   ·have e1:(((s.m1 id m ck g l).up [(id,x)]).put o.dst r).blk i=((s.m1 id m ck g l).up [(id,x)]).blk i:=by cases o.dst<;>rfl
    have e2:((s.up [(id,x)]).put o.dst r).blk i=(s.up [(id,x)]).blk i:=by cases o.dst<;>rfl
    rw[e1,e2]
    exact hgb _ _ _
   ·cases o.dst<;>rfl
   ·have e1:(((s.m1 id m ck g l).up [(id,x)]).put o.dst r).live i→(s.up [(id,x)]).live i:=by
     unfold S.live
     have e1:(((s.m1 id m ck g l).up [(id,x)]).put o.dst r).blk i=((s.m1 id m ck g l).up [(id,x)]).blk i:=by cases o.dst<;>rfl
     rw[e1]
     intro h
     have:=hgb (.ob (.m1 g m ck l)) x i
     rw[←this];exact h
    have h5:=hs1.nx i (e1 hi)
    have e2:(((s.m1 id m ck g l).up [(id,x)]).put o.dst r).nx=(s.up [(id,x)]).nx:=by cases o.dst<;>rfl
    rw[e2];exact h5
  ·cases h
 have hev:(s.gh id (.ob (.m1 none m ck l))).ev it=s.ev it:=rfl
 have hnm:∀g,q3o (s.m1 id m ck g l) it=match g with
   | some e=>some (.tup [.c (.d (.bool true)),kR e.1,e.2.1],(s.m1 id m ck g l).up [(id,.ob (.mi m ck (e.2.2::l)))])
   | none=>some (.tup [.c (.d (.bool false))],(s.m1 id m ck g l).up [(id,.ob (.mi m ck l))]):=fun g=>by
  unfold q3o
  have e1:(s.m1 id m ck g l).ev it = .c (.hd .iter id):=hx
  have e2:(s.m1 id m ck g l).blk id = .ob (.m1 g m ck l):=by unfold S.m1;rw[q6H _ hnd,if_pos rfl]
  rw[e1]
  simp only[e2]
  cases g<;>rfl
 have hsame:Sim cx ρ (s.up [(id,.ob (.mi m ck l))]) a w:=by
  have hbk:∀i,(s.up [(id,.ob (.mi m ck l))]).blk i=s.blk i:=fun i=>by
   rw[S.blk_up]
   split
   ·rename_i hi;subst hi;exact hb.symm
   ·rfl
  refine hs.ext (fun _=>rfl) hbk rfl (fun i hi=>?_)
  have:s.live i:=by unfold S.live at hi ⊢;rw[←hbk];exact hi
  have:=hs.nx i this
  show i<max s.nx (id+1)
  omega
 have tupF:RR w (s.up [(id,.ob (.mi m ck l))]).live ρ (.tuple #[.bool false]) (.tup [.c (.d (.bool false))]):=by
  refine .tup _ _ rfl (fun j c hj=>?_)
  match j,hj with
  | 0,hj=>simp only[qxR,qyw] at hj;subst hj;exact .c _ _ (.d _ _ (.bool _))
  | j+1,hj=>simp at hj
 unfold mOf at hm
 split at hm
 ·injection hm with hm
  subst hm
  obtain rfl:mb=none:=by have:=q1.inv_nilm;injection this
  refine qG he (w':=w) (v := .tuple #[.bool false]) ?_ (fin none _ _ _ _ (.inl ⟨rfl,fun e he=>by simp at he⟩) (hnm none) hsame tupF)
  rw[h3]
  simp[Instr.next,HK.val,QB q2 rfl]
 ·rename_i mid
  split at hm
  ·cases hm
  ·rename_i hne
   split at hm
   ·rename_i es' c' hmb
    split at hm
    ·rename_i hc
     injection hm with hm
     subst hc hm
     obtain⟨bm,capm,g1,g2,g3⟩:=q1.inv_hd
     obtain rfl:mb=some bm:=by have g3:Value.map mb=Value.map (some bm):=g3;injection g3
     have hMB:=(hs.hp mid bm capm g1 g2).2
     rw[hmb] at hMB
     obtain⟨mes,m1,m2,m3,m4⟩:=HO.keys (show HO w s.live ρ bm (.mp es' c') from hMB)
     have hmem:∀x∈mes.toList,∃e∈es',e.1=x.key∧RR w s.live ρ x.val e.2.1∧e.2.2=x.born:=fun x hx=>by
      obtain⟨j,hj,rfl⟩:=List.mem_iff_getElem.1 hx
      have hj':j<es'.length:=by rw[←m2];simpa using hj
      obtain⟨y,p1,p2,p3,p4,p5⟩:=m4 j _ (qxJ hj')
      rw[qxJ hj] at p2
      injection p2 with p2
      subst p2
      exact⟨_,qyy hj',p3.symm,p4,p5.symm⟩
     have hold:∀x∈mes.toList,x.born<c':=fun x hx=>by
      obtain⟨e,p1,-,-,p2⟩:=hmem x hx
      have:=qxY.1 hck e p1
      simp only[qyd,qyG] at this
      omega
     rcases q7O (P:=P) w o.type b bm c' c' l.reverse.toArray mes c' q2 m1 hold (qxX _) with ⟨r1,r2⟩|⟨x,hx,w1,hw1,r2⟩
     ·refine qG he (w':=w) (v := .tuple #[.bool false]) ?_ (fin none _ _ _ _ (.inl ⟨rfl,fun e he=>?_⟩) (hnm none) hsame tupF)
      ·rw[h3];exact r2
      ·obtain⟨j,hj,rfl⟩:=List.mem_iff_getElem.1 he
       obtain⟨y,p1,p2,p3,p4,p5⟩:=m4 j _ (qxJ hj)
       have:=all_seen mes l.reverse.toArray r1 y (qxI p2)
       rw[q4,p5] at this
       exact qyl.1 this
     ·obtain⟨x1,x2⟩:=mem_left hx
      obtain⟨e,e1,e2,e3,e4⟩:=hmem x x1
      have hs1:Sim cx ρ s a w1:=by rcases hw1 with rfl|rfl;exact hs;exact hs.grow (qaA.drew w)
      have hq1:RR w1 s.live ρ (.map (some bm)) (.c (.hd .map mid)):=by rcases hw1 with rfl|rfl;exact q1;exact .c _ _ (.hd .map mid bm capm g1 g2)
      have he3:RR w1 s.live ρ x.val e.2.1:=by
       rcases hw1 with rfl|rfl
       ·exact e3
       ·exact RR.stay (w:=w) (w':=w.drew) (L:=s.live) (ρ:=ρ) (L':=s.live) (ρ':=ρ) ⟨qxX _,fun _ _ _=>rfl,fun _ _ h=>h,fun _ h=>⟨h,rfl⟩,fun _ hF=>⟨hF,fun _=>rfl⟩⟩ e3
      have hkk:∀k,k≠b→(w1.putObj b (.mapIter (some bm) c' (l.reverse.toArray.push x.born) c')).heap[k]?=w1.heap[k]?:=fun k hk=>World.putObj_heap_other hk
      have hst:=q2b hs1 (x := .ob (.mi (.c (.hd .map mid)) c' (e.2.2::l))) h1 h2 rfl (w':=w1.putObj b (.mapIter (some bm) c' (l.reverse.toArray.push x.born) c')) (by simp) hkk
      refine qG he (w':=w1.putObj b (.mapIter (some bm) c' (l.reverse.toArray.push x.born) c')) (v := .tuple #[.bool true,x.key,x.val]) ?_ (fin (some e) _ _ _ _ (.inr ⟨e,e1,rfl,fun hm=>?_⟩) (hnm (some e)) (hs1.overO h1 h2 fun hst hO=>?_) ?_)
      ·rw[h3];exact r2
      ·rw[q4,←e4] at x2
       rw[qyl.2 hm] at x2
       cases x2
      ·exact⟨some bm,hq1.stay hst,by rw[hO,List.reverse_cons,e4];simp⟩
      ·refine .tup _ _ rfl (fun j c hj=>?_)
       match j,hj with
       | 0,hj=>simp only[qxR,qyw] at hj;subst hj;exact .c _ _ (.d _ _ (.bool _))
       | 1,hj=>simp only[qy6,qxR,qyw] at hj;subst hj;rw[e2];exact qma _
       | 2,hj=>simp only[qy6,qxR,qyw] at hj;subst hj;exact he3.stay hst
       | j+3,hj=>simp at hj
    ·cases hm
   ·cases hm
 ·cases hm
theorem qn4 {id:Nat} (b:B) (h:s.blk id ≠ .dead) (m:R) (ck:Nat):mOf (s.gh id b) id m ck=mOf s id m ck:=by
 unfold mOf
 split
 ·rfl
 ·split
  ·rfl
  ·rename_i hne
   rw[q6H b h,if_neg (Ne.symm hne)]
 ·rfl
theorem q4i {f key k:Nat} {e0 e1:Exit} {t0 t1:S} (h:lpx po f key k (e0,t0)=some (e1,t1)):(e0 = .normal∧e1 = .normal∧nrm po f key k t0=some t1)∨(e0=e1∧e1 ≠ .normal∧qhA k (po.kx f key) (t0.fnO po f)=some t1):=by
 unfold lpx at h
 split at h
 ·rename_i he
  simp only at he h
  subst he
  obtain⟨t3,h6,h7⟩:=qxM.1 h
  injection h7 with h7;injection h7 with h8 h9
  subst h8 h9
  exact .inl ⟨rfl,rfl,h6⟩
 ·rename_i he
  simp only at he h
  obtain⟨t3,h6,h7⟩:=qxM.1 h
  injection h7 with h7;injection h7 with h8 h9
  subst h8 h9
  exact .inr ⟨rfl,fun h=>he h,h6⟩
theorem qag {L:List Oper} {it:Operand} (h:qjh L=some it):∃o l,L=o::l∧o.guard=none∧o.op = .next it false:=by
 cases L with
 | nil=>cases h
 | cons o l=>
  refine⟨o,l,rfl,?_⟩
  have h:hdG o.guard (qqj o.op)=some it:=h
  cases hg:o.guard with
  | some x=>rw[hg] at h;cases h
  | none=>
   rw[hg] at h
   refine⟨rfl,?_⟩
   have h:qqj o.op=some it:=h
   cases ho:o.op with
   | next it' str=>
    rw[ho] at h
    have h:(if str=true then none else some it')=some it:=h
    cases str
    ·injection h with h;rw[h]
    ·cases h
   | _=>rw[ho] at h;cases h
theorem qn2 (hA:Ag P T) (hE:Snd P E) {DR:Nat→List Oper→S→Option S} {f k n:Nat} {q:Nat→List Oper→Bool} {rf:Bool} (hD:qqe P q k DR):∀(c:Code),
  (∀(s s':S) (e:Exit) (cx:Cx) (Q:Exit→S→Prop),q1X q rf c=true→cx.k=k→(rf=true→cx.ro=none)→XD P T po E DR (iter n) f k c s=some (e,s')→Q e s'→J P cx c Q s)∧
  ∀(it:Operand) (s:S) (cx:Cx) (G:Option (Value×R×Nat)→Prop) (mk:Option (Value×R×Nat)→S),Jk c=some it→q1X q rf c=true→cx.k=k→(rf=true→cx.ro=none)→NX P T po E cx it s G mk→
   (∀g,G g→∃p,XD P T po E DR (iter n) f k c (mk g)=some p)→J P cx c (fun e t=>∃g,G g∧XD P T po E DR (iter n) f k c (mk g)=some (e,t)) s:=by
 intro c
 induction c with
 | skip=>exact⟨fun s s' e cx Q hq hk hro h hQ=>by injection h with h;injection h with h1 h2;subst h1 h2;exact J.skip hQ,fun it s cx G mk h=>by cases h⟩
 | label l=>exact⟨fun s s' e cx Q hq hk hro h hQ=>by injection h with h;injection h with h1 h2;subst h1 h2;exact J.label hQ,fun it s cx G mk h=>by cases h⟩
 | ret=>exact⟨fun s s' e cx Q hq hk hro h hQ=>by injection h with h;injection h with h1 h2;subst h1 h2;exact J.ret hQ,fun it s cx G mk h=>by cases h⟩
 | exit id=>exact⟨fun s s' e cx Q hq hk hro h hQ=>by injection h with h;injection h with h1 h2;subst h1 h2;exact J.exit hQ,fun it s cx G mk h=>by cases h⟩
 | seq x y ihx ihy=>
  refine⟨fun s s' e cx Q hq hk hro h hQ=>?_,fun it s cx G mk hh hq hk hro hN hx=>?_⟩
  ·unfold XD at h
   obtain⟨⟨e1,s1⟩,h1,h2⟩:=qxM.1 h
   have hq:q1X q rf x=true∧q1X q rf y=true:=(qyd _ _).mp hq
   refine J.seq (ihx.1 s s1 e1 cx _ hq.1 hk hro h1 ?_)
   unfold sqD at h2
   split at h2
   ·rename_i he
    simp only at he
    subst he
    exact ihy.1 _ s' e cx Q hq.2 hk hro h2 hQ
   ·rename_i he
    simp only at he
    injection h2 with h2;injection h2 with h3 h4
    simp only at h3 h4
    subst h3 h4
    cases e1 with
    | normal=>exact absurd rfl he
    | _=>exact hQ
  ·have hq:q1X q rf x=true∧q1X q rf y=true:=(qyd _ _).mp hq
   refine J.seq (J.weak (ihx.2 it s cx G mk hh hq.1 hk hro hN (fun g hg=>?_)) ?_)
   ·obtain⟨p,hp⟩:=hx g hg
    unfold XD at hp
    obtain⟨p1,h1,-⟩:=qxM.1 hp
    exact⟨p1,h1⟩
   ·rintro e1 t1 ⟨g,hg,h1⟩
    refine⟨t1,Le.refl _,?_⟩
    obtain⟨⟨e2,t2⟩,hp⟩:=hx g hg
    have hp0:=hp
    unfold XD at hp
    rw[h1,qxH] at hp
    unfold sqD at hp
    cases e1 with
    | normal=>exact ihy.1 _ t2 e2 cx _ hq.2 hk hro hp ⟨g,hg,hp0⟩
    | _=>injection hp with hp;injection hp with h3 h4;subst h3 h4;exact⟨g,hg,hp0⟩
 | block id x ih=>
  refine⟨fun s s' e cx Q hq hk hro h hQ=>?_,fun it s cx G mk hh hq hk hro hN hx=>?_⟩
  ·unfold XD at h
   obtain⟨⟨e1,s1⟩,h1,h2⟩:=qxM.1 h
   refine J.block (ih.1 s s1 e1 cx _ hq hk hro h1 ?_)
   unfold bkD at h2
   split at h2
   ·rename_i i he
    simp only at he
    subst he
    split at h2
    ·rename_i hi
     injection h2 with h2;injection h2 with h3 h4
     simp only at h4
     subst h3 h4
     simp only[Bk,if_pos hi];exact hQ
    ·rename_i hi
     injection h2 with h2;injection h2 with h3 h4
     simp only at h4
     subst h3 h4
     simp only[Bk,if_neg hi];exact hQ
   ·rename_i he
    simp only at he
    injection h2 with h2;injection h2 with h3 h4
    simp only at h3 h4
    subst h3 h4
    cases e1 with
    | exit i=>exact absurd rfl (he i)
    | _=>exact hQ
  ·refine J.block (J.weak (ih.2 it s cx G mk hh hq hk hro hN (fun g hg=>?_)) ?_)
   ·obtain⟨p,hp⟩:=hx g hg
    unfold XD at hp
    obtain⟨p1,h1,-⟩:=qxM.1 hp
    exact⟨p1,h1⟩
   ·rintro e1 t1 ⟨g,hg,h1⟩
    refine⟨t1,Le.refl _,?_⟩
    obtain⟨⟨e2,t2⟩,hp⟩:=hx g hg
    have hp0:=hp
    unfold XD at hp
    rw[h1,qxH] at hp
    unfold bkD at hp
    cases e1 with
    | exit i=>
     simp only at hp
     split at hp
     ·rename_i hi
      injection hp with hp;injection hp with h3 h4;subst h3 h4
      simp only[Bk,if_pos hi];exact⟨g,hg,hp0⟩
     ·rename_i hi
      injection hp with hp;injection hp with h3 h4;subst h3 h4
      simp only[Bk,if_neg hi];exact⟨g,hg,hp0⟩
    | _=>injection hp with hp;injection hp with h3 h4;subst h3 h4;exact⟨g,hg,hp0⟩
 | scope x ih=>
  refine⟨fun s s' e cx Q hq hk hro h hQ=>?_,fun it s cx G mk h=>by cases h⟩
  unfold XD at h
  obtain⟨⟨e1,s1⟩,h1,h2⟩:=qxM.1 h
  unfold scD at h2
  cases e1 with
  | goto l=>cases h2
  | _=>
   injection h2 with h2;injection h2 with h3 h4
   subst h3 h4
   exact J.scope (ih.1 _ _ _ _ _ hq hk hro h1 ⟨hQ,fun l hl=>by cases hl⟩)
 | cond c x y ihx ihy=>
  refine⟨fun s s' e cx Q hq hk hro h hQ=>?_,fun it s cx G mk h=>by cases h⟩
  have hq:q1X q rf x=true∧q1X q rf y=true:=(qyd _ _).mp hq
  unfold XD at h
  split at h
  ·rename_i b hb
   split at h
   ·rename_i hbt;subst hbt;exact J.cond hb (fun _ ρ a w hs=>ihx.1 _ _ _ _ _ hq.1 hk hro h hQ ρ a w (hs.ly hb)) (fun h=>by cases h)
   ·rename_i hbt
    have:b=false:=by cases b<;>simp at hbt ⊢
    subst this;exact J.cond hb (fun h=>by cases h) (fun _ ρ a w hs=>ihy.1 _ _ _ _ _ hq.2 hk hro h hQ ρ a w (hs.ly hb))
  ·cases h
 | region id ops draw=>
  refine⟨fun s s' e cx Q hq hk hro h hQ=>?_,fun it s cx G mk hh hq hk hro hN hx=>?_⟩
  ·unfold XD at h
   split at h
   ·rename_i hd
    obtain⟨s1,h1,h2⟩:=qxM.1 h
    injection h2 with h2;injection h2 with h3 h4
    subst h3 h4
    subst hd
    exact fun ρ a w hs=>by
     obtain⟨ρ',h'⟩:=hs.uwB (ops.toList.any (qrf po))
     exact hD cx id ops _ s1 Q hk (by simpa [q1X] using hq) h1 hQ ρ' a w ((h'.dzr po.q).frz (q0U _ _))
   ·rename_i hd
    obtain⟨s1,h1,h2⟩:=qxM.1 h
    injection h2 with h2;injection h2 with h3 h4
    subst h3 h4
    have hd:draw=false:=by cases draw<;>simp at hd ⊢
    subst hd
    intro ρ a w hs
    exact wpIn_region_list (qgq hA hE ops.toList s s1 ρ a w hs h1 (fun ρ' a' w' h=>⟨s1,ρ',hQ,h⟩))
  ·unfold Jk at hh
   split at hh
   ·cases hh
   ·rename_i hd
    have hd:draw=false:=by cases draw<;>simp at hd ⊢
    subst hd
    obtain⟨o,l,hL,hg0,ho⟩:=qag hh
    intro ρ a w hs
    refine wpIn_region_list ?_
    rw[hL]
    unfold wpListIn
    rw[if_pos (by unfold Region.wanted;rw[hg0])]
    refine qt2 cx.ro (hN o ρ a w _ _ ho hs (fun g ρ' a' w' hg h=>?_)) (fun c hc=>by rw[ho] at hc;cases hc)
    obtain⟨⟨e2,t2⟩,hp⟩:=hx g hg
    have hp0:=hp
    unfold XD at hp
    rw[if_neg (by simp)] at hp
    obtain⟨t1,h1,h2⟩:=qxM.1 hp
    injection h2 with h2;injection h2 with h3 h4
    subst h3 h4
    have h1':xr P T po E ops.toList (o::l) (mk g)=some t1:=by rw[←h1,hL]
    unfold xr at h1'
    obtain⟨s1,h5,h6⟩:=qxM.1 h1'
    have h7:xst P T po E o true (mk g)=some s1:=by
     unfold xgd ipA ipX qhj ldO stO ipF q8t at h5
     rw[hg0,ho] at h5
     exact h5
    exact qgq hA hE l s1 t1 ρ' a' w' (h s1 h7) h6 (fun ρ2 a2 w2 h8=>⟨t1,ρ2,⟨g,hg,hp0⟩,h8⟩)
 | rangeFunc g ps aq0 bd iha ihb=>
  refine⟨fun s s' e cx Q hq hk hro h hQ=>?_,fun it s cx G mk h=>by cases h⟩
  unfold XD at h
  have hrf:rf=true:=by simp only[q1X,qyd] at hq;exact hq.1.1
  intro ρ a w hs
  exact qmc hE (hro hrf) h hQ ρ a w ((hs.dzr po.q).frz (q0U _ _))
 | loop c ih=>
  refine⟨fun s s' e cx Q hq hk hro h hQ=>?_,fun it s cx G mk h=>by cases h⟩
  unfold XD at h
  obtain⟨s0,h0,h1⟩:=qxM.1 h
  generalize hF:(fun s=>(XD P T po E DR (iter n) f k c s).bind (lpx po f (qD c) k))=F at h1
  cases hn:Jk c with
  | none=>
   rw[hn] at h1
   replace h1:iter n F s0=some (e,s'):=h1
   refine J.loop (ι:=Nat×S) (fun i=>i.2) (fun i=>iter i.1 F i.2=some (e,s')) (fun i=>i.1) (n,s0) h1 (q9G hk h0) ?_
   rintro⟨m,t⟩ hm
   cases m with
   | zero=>cases hm
   | succ m=>
    simp only[iter] at hm
    obtain⟨⟨e1,t1⟩,h2,h3⟩:=qxM.1 hm
    rw[←hF] at h2
    simp only at h2
    obtain⟨⟨e2,t2⟩,h4,h5⟩:=qxM.1 h2
    refine J.weak (ih.1 t t2 e2 cx (fun e0 s0=>e0=e2∧s0=t2) hq hk hro h4 ⟨rfl,rfl⟩) ?_
    rintro e0 s0 ⟨rfl,rfl⟩
    rcases q4i h5 with ⟨rfl,rfl,h6⟩|⟨rfl,h6,h7⟩
    ·unfold sqD at h3
     simp only at h3
     exact⟨t1,q9G hk h6,(m,t1),h3,Le.refl _,Nat.lt_succ_self m⟩
    ·unfold sqD at h3
     cases e0 with
     | normal=>exact absurd rfl h6
     | _=>
      simp only at h3
      injection h3 with h3;injection h3 with h8 h9
      subst h8 h9
      exact⟨_,(qhB _ po (po.ab f)).trans (q88 hk h7),hQ⟩
  | some it=>
   rw[hn] at h1
   obtain⟨id,m,ck,es,hm,hM⟩:=q64 h1
   unfold mHd at hm
   split at hm
   ·rename_i id' hit
    split at hm
    ·rename_i m' ck' hb
     obtain⟨es',hmo,hm⟩:=qxM.1 hm
     split at hm
     ·rename_i hc
      injection hm with hm
      injection hm with e1 hm
      injection hm with e2 hm
      injection hm with e3 e4
      subst e1 e2 e3 e4
      obtain⟨hnd,hck⟩:=hc
      have hd0:s0.blk id' ≠ .dead:=by rw[hb];simp
      have hnil:[]∈q0z es':=q2i _ _
      have hgg:∀g l l',(s0.mi id' m' ck' l).m1 id' m' ck' g l'=s0.m1 id' m' ck' g l':=fun g l l'=>qsC _ _ _
      have hle0:Le cx s0 (s0.mi id' m' ck' []):=fun ρ a w hs=>by
       have hbk:∀i,(s0.mi id' m' ck' []).blk i=s0.blk i:=fun i=>by
        unfold S.mi
        rw[q6H _ hd0]
        split
        ·rename_i hi;subst hi;exact hb.symm
        ·rfl
       refine⟨ρ,hs.ext (fun _=>rfl) hbk rfl (fun i hi=>hs.nx i ?_)⟩
       unfold S.live at hi ⊢
       rw[←hbk];exact hi
      refine J.loop (ι:=List Nat) (fun l=>s0.mi id' m' ck' l)
       (fun l=>(∀x∈l,∃e∈es',e.2.2=x∧∀l'∈q0z es',F (s0.m1 id' m' ck' (some e) l')=some (.normal,s0.mi id' m' ck' (e.2.2::l')))∧l.length+(es'.filter fun e => !l.contains e.2.2).length≤es'.length)
       (fun l=>(es'.filter fun e => !l.contains e.2.2).length) [] ⟨fun x hx=>by simp at hx,by simpa using List.length_filter_le _ _⟩ ((q9G hk h0).trans hle0) ?_
      rintro l ⟨hl1,hl2⟩
      have hlm:l∈q0z es':=q9b _ _ l (by omega) (fun x hx=>by
       obtain⟨e,h1,h2,-⟩:=hl1 x hx
       exact qyr.2 ⟨e,h1,h2⟩)
      have hFX:∀g p,F (s0.m1 id' m' ck' g l)=some p→∃p0,XD P T po E DR (iter n) f k c (s0.m1 id' m' ck' g l)=some p0∧lpx po f (qD c) k p0=some p:=fun g p hp=>by
       rw[←hF] at hp
       exact qxM.1 hp
      have hgo:∀g,((g=none∧∀e∈es',e.2.2∈l)∨∃e∈es',g=some e∧e.2.2 ∉ l)→(F (s0.m1 id' m' ck' g l)=some (e,s'))∨∃e1∈es',g=some e1∧e1.2.2 ∉ l∧∀l'∈q0z es',F (s0.m1 id' m' ck' (some e1) l')=some (.normal,s0.mi id' m' ck' (e1.2.2::l')):=by
       rintro g (⟨rfl,ha⟩|⟨e1,he1,rfl,hnl⟩)
       ·left
        rcases hM.fin with ⟨e1,he1,h5⟩|h5
        ·exfalso
         obtain⟨e2,he2,h6,h7⟩:=hl1 _ (ha e1 he1)
         have:e2=e1:=by
          obtain⟨i,hi,rfl⟩:=List.mem_iff_getElem.1 he1
          obtain⟨j,hj,rfl⟩:=List.mem_iff_getElem.1 he2
          have hi':i<(es'.map (·.2.2)).length:=by simpa using hi
          have hj':j<(es'.map (·.2.2)).length:=by simpa using hj
          have:j=i:=(List.getElem_inj (h₀:=hj') (h₁:=hi') hnd).1 (by simpa using h6)
          subst this;rfl
         subst this
         have:=(h5 [] hnil).symm.trans (h7 [] hnil)
         injection this with this
         exact hM.ne (by rw[this])
        ·exact h5 l hlm
       ·rcases hM.ent e1 he1 with h5|h5
        ·exact .inr ⟨e1,he1,rfl,hnl,h5⟩
        ·exact .inl (h5 l hlm)
      refine J.weak (ih.2 it (s0.mi id' m' ck' l) cx _ _ hn hq hk hro (qtj (id:=id') (m:=m') (ck:=ck') (es:=es') (l:=l) hit (by unfold S.mi;rw[q6H _ hd0,if_pos rfl]) (by unfold S.mi;rw[qn4 _ hd0];exact hmo) hck) (fun g hg=>?_)) ?_
      ·rw[hgg]
       rcases hgo g hg with h5|⟨e1,he1,rfl,-,h5⟩
       ·obtain⟨p0,h6,-⟩:=hFX _ _ h5;exact⟨p0,h6⟩
       ·obtain⟨p0,h6,-⟩:=hFX _ _ (h5 l hlm);exact⟨p0,h6⟩
      ·rintro e0 t0 ⟨g,hg,hx⟩
       rw[hgg] at hx
       rcases hgo g hg with h5|⟨e1,he1,rfl,hnl,h5⟩
       ·obtain⟨p0,h6,h7⟩:=hFX _ _ h5
        rw[hx] at h6
        injection h6 with h6
        subst h6
        rcases q4i h7 with ⟨-,h8,-⟩|⟨rfl,h8,h9⟩
        ·exact absurd h8 hM.ne
        ·cases e0 with
         | normal=>exact absurd rfl h8
         | _=>exact⟨_,(qhB _ po (po.ab f)).trans (q88 hk h9),hQ⟩
       ·obtain⟨p0,h6,h7⟩:=hFX _ _ (h5 l hlm)
        rw[hx] at h6
        injection h6 with h6
        subst h6
        rcases q4i h7 with ⟨rfl,-,h8⟩|⟨-,h8,-⟩
        ·have hlt:(es'.filter fun e => !(e1.2.2::l).contains e.2.2).length<(es'.filter fun e => !l.contains e.2.2).length:=by
          refine filter_lt (fun e:Value×R×Nat => !l.contains e.2.2) (fun e => !(e1.2.2::l).contains e.2.2) (fun y hy=>?_) e1 (by simpa using hnl) (by simp) es' he1
          simp only[List.contains_cons,Bool.not_or,qyd] at hy
          exact hy.2
         refine⟨_,q9G hk h8,e1.2.2::l,⟨fun x hx=>?_,?_⟩,Le.refl _,hlt⟩
         ·rcases qy3.1 hx with rfl|hx
          ·exact⟨e1,he1,rfl,h5⟩
          ·exact hl1 x hx
         ·simp only[qxS] at *
          omega
        ·exact absurd rfl h8
     ·cases hm
    ·cases hm
   ·cases hm
 | _=>exact⟨fun s s' e cx Q hq hk hro h hQ=>(by cases h),fun it s cx G mk h=>by cases h⟩
theorem qgX (hA:Ag P T) (hE:Snd P E) {DR:Nat→List Oper→S→Option S} {f k n:Nat} {q:Nat→List Oper→Bool} {rf:Bool} (hD:qqe P q k DR) (c:Code):∀(s s':S) (e:Exit) (cx:Cx) (Q:Exit→S→Prop),q1X q rf c=true→cx.k=k→(rf=true→cx.ro=none)→XD P T po E DR (iter n) f k c s=some (e,s')→Q e s'→J P cx c Q s:=
 (qn2 hA hE hD c).1
end
end
end Go.Proofs.Ytofbcijbpfjliaa.Vc
