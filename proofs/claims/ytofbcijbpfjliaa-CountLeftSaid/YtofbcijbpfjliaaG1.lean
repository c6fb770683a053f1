/- Part 1 of a proof. -/
import Derived.WalkKit
import Derived.WalkSpells
import Derived.WalkLawsBesides
import Derived.Lib.Hide
import Derived.Maps.AppendAt
import Derived.Orders
import Derived.ProofKit
import Derived.IntWalk
import Derived.Laws.StructEq
import Derived.ChangeKeysEq
import Derived.Laws.BytesString
import Derived.Laws.IdiomStrings
import Derived.Laws.MakeOwn
import Derived.RangeFuncCalls
import Derived.TacticsIn
import Derived.OrdersIn
import Derived.RangeFuncRecord
import Derived.MapKept
import Derived.Laws.IdiomRangeMap
set_option linter.unusedVariables false
set_option linter.unusedSimpArgs false
set_option linter.defProp false
set_option linter.unusedSectionVars false
set_option linter.unnecessarySimpa false
namespace Go.Proofs.Ytofbcijbpfjliaa.Vc
noncomputable section
theorem JA_ {a b:Prop} (x:a) (y:b):a∧b:=⟨x,y⟩
def qvV:=@Option.bind_some
def qvW:=@List.mem_of_getElem?
def qvX:=@List.getElem?_eq_getElem
def qvY:=@Int.toNat_natCast
def qvZ:=@List.getElem?_eq_some_iff
def qw0:=@Option.bind_eq_some_iff
def qw1:=@Array.getD_eq_getD_getElem?
def qw2:=@List.length_append
def qw3:=@List.mem_cons_of_mem
def qw4:=@List.mem_append_right
def qw5:=@List.getElem?_cons_zero
def qw6:=@List.length_cons
def qw7:=@List.mem_append_left
def qw8:=@Option.map_eq_some_iff
def qw9:=@List.getElem?_map
def qwa:=@List.mem_cons_self
def qwb:=@Nat.le_refl
def qwc:=@List.all_eq_true
def qwd:=@List.length_singleton
def qwe:=@List.eq_nil_of_length_eq_zero
def qwf:=@List.nil_append
def qwg:=@List.append_nil
def qwh:=@List.mem_cons
def qwi:=@List.map_cons
def qwj:=@Nat.zero_add
def qwk:=@List.getElem?_cons_succ
def qwl:=@Nat.zero_le
def qwm:=@Array.getElem?_eq_getElem
def qwn:=@Bool.eq_false_iff
def qwo:=@List.length_take
def qwp:=@List.mem_append
def qwq:=@Bool.or_eq_true
def qwr:=@Bool.and_eq_true
def qws:=@Bool.true_and
def qwt:=@List.getElem?_eq_none
def qwu:=@List.getElem?_take_of_lt
def qwv:=@Nat.lt_of_lt_of_le
def qww:=@Nat.le_trans
def qwx:=@List.getElem?_append_right
def qwy:=@List.getElem?_append_left
def qwz:=@List.contains_iff_mem
def qwA:=@List.append_assoc
def qwB:=@List.drop_eq_nil_of_le
def qwC:=@List.length_replicate
def qwD:=@List.length_map
def qwE:=@List.length_nil
def qwF:=@List.mem_map
def qwG:=@List.length_set
def qwH:=@List.length_drop
def qwI:=@List.drop_drop
def qwJ:=@List.take_append_drop
def qwK:=@Option.some.injEq
def qwL:=@List.mem_singleton
def qwM:=@List.getElem_mem
def qwN:=@Nat.sub_zero
def qwO:=@Nat.add_assoc
def qwP:=@List.any_eq_true
def qwQ:=@List.mem_filter
def qwR:=@List.mem_range
def qwS:=@List.getElem?_set_self
def qwT:=@List.getElem?_set_ne
def qwU:=@decide_eq_true_eq
def qwV:=@decide_eq_true
def qwW:=@Bool.and_true
def qwX:=@List.foldl_cons
def qwY:=@List.flatMap_cons
def qwZ:=@List.cons_append
def qx0:=@List.take_of_length_le
end
noncomputable section
open Go.RowKit
inductive D where
 | int (k:IntKind) (n:Int)
 | bool (b:Bool)
 | str (s:ByteArray)
 | sl (sz n:Nat) (cs:List D)
 deriving Inhabited
inductive HK where
 | map|yield|iter
 deriving DecidableEq,Inhabited
def HK.val:HK→Nat→Value
 | .map,b => .map (some b)
 | .yield,b => .func (.yield b) #[] #[]
 | .iter,b => .pointer (some ⟨b,0,none⟩)
inductive C where
 | d (x:D)
 | ptr (id off:Nat)
 | hd (k:HK) (id:Nat)
 | nilm
 | nilp
 | nilf
 | nils
 | eptr (cs:List D) (off:Nat)
 | own (id sz off n:Nat)
 | fn (f:FuncId) (fs caps:List C)
 | ow (e:TypeId) (sz n:Nat) (cs:List D)
 | clp (sz n:Nat) (cs:List D)
 | any
 deriving Inhabited
inductive R where
 | c (x:C)
 | agg (xs:List C)
 | tup (xs:List R)
 | any
 deriving Inhabited
inductive AO where
 | mp (es:List (Value×R×Nat)) (ck:Nat)
 | si (s:ByteArray) (pos:Nat)
 | lp (f:FuncId) (tm:List R) (ps:List Nat) (assign body:Code) (st:LoopState) (pend:Option Code)
 | df
 | mi (m:R) (since:Nat) (seen:List Nat)
 | m1 (e:Option (Value×R×Nat)) (m:R) (since:Nat) (seen:List Nat)
 deriving Inhabited
def AO.mapR (f:R→R):AO→AO
 | .mp es ck => .mp (es.map fun e=>(e.1,f e.2.1,e.2.2)) ck
 | .lp g tm ps a b st p => .lp g (tm.map f) ps a b st p
 | .mi m a b => .mi (f m) a b
 | o=>o
def AO.Rs:AO→List R
 | .mp es _=>es.map fun e=>e.2.1
 | .lp _ tm _ _ _ _ _=>tm
 | .mi m _ _=>[m]
 | _=>[]
inductive B where
 | blk (t:TypeId) (cs:List C)
 | ob (o:AO)
 | row (e:TypeId) (sz:Nat) (cs:List C)
 | dead
 deriving Inhabited
def lk {α:Type} (l:List (Nat×α)) (i:Nat) (z:α):α:=
 match l with
 | []=>z
 | (j,x)::r=>if j=i then x else lk r i z
structure S where
 tm:List (Nat×R)
 hp:List (Nat×B)
 nx:Nat
 n:Nat
def S.get (s:S) (i:Nat):R:=lk s.tm i .any
def S.blk (s:S) (i:Nat):B:=lk s.hp i .dead
def B.live:B→Bool
 | .dead=>false
 | _=>true
def B.isBlk:B→Bool
 | .blk _ _=>true
 | .ob _=>true
 | _=>false
theorem B.live_of {x:B} (h:x.isBlk=true):x.live=true:=by cases x<;>first|rfl|cases h
structure Pl where
 at_:Nat→Option (Nat×Nat)
 F:Nat→Prop
instance:CoeFun Pl (fun _=>Nat→Option (Nat×Nat)):=⟨Pl.at_⟩
def Occ (L:Nat→Prop) (ρ:Pl) (b:Nat):Prop:=ρ.F b∨∃i cap,L i∧ρ i=some (b,cap)
inductive RD (w:World) (O:Nat→Prop):Value→D→Prop
 | int (k:IntKind) (n:Int):RD w O (.int k n) (.int k n)
 | bool (b:Bool):RD w O (.bool b) (.bool b)
 | str (s:ByteArray):RD w O (.string s) (.str s)
 | nil (A:Option Addr) (cap sz:Nat):cap≤maxLen→(A=none→cap=0)→RD w O (.slice A 0 cap) (.sl sz 0 [])
 | sl (b off n cap sz:Nat) (cs:List D) (f:Nat→Value):cs.length=n*sz→n≤cap→cap≤maxLen→b<w.heap.size→¬ O b→
   (∀j c,cs[j]?=some c→w.cell? ⟨b,off+j,none⟩=some (f j))→(∀j c,cs[j]?=some c→RD w O (f j) c)→RD w O (.slice (some ⟨b,off,none⟩) n cap) (.sl sz n cs)
inductive RC (w:World) (L:Nat→Prop) (ρ:Pl):Value→C→Prop
 | d (v:Value) (x:D):RD w (Occ L ρ) v x→RC w L ρ v (.d x)
 | ptr (id off b cap:Nat):L id→ρ id=some (b,cap)→RC w L ρ (.pointer (some ⟨b,off,none⟩)) (.ptr id off)
 | hd (k:HK) (id b cap:Nat):L id→ρ id=some (b,cap)→RC w L ρ (k.val b) (.hd k id)
 | nilm:RC w L ρ (.map none) .nilm
 | nilp:RC w L ρ (.pointer none) .nilp
 | nilf:RC w L ρ .nilFunc .nilf
 | nils:RC w L ρ (.slice none 0 0) .nils
 | eptr (b o off:Nat) (cs:List D) (f:Nat→Value):b<w.heap.size→¬ Occ L ρ b→(∀j c,cs[j]?=some c→w.cell? ⟨b,o+j,none⟩=some (f j))→(∀j c,cs[j]?=some c→RD w (Occ L ρ) (f j) c)→
   RC w L ρ (.pointer (some ⟨b,o+off,none⟩)) (.eptr cs off)
 | own (id sz off n b cap:Nat):L id→ρ id=some (b,cap)→off+n≤cap→cap≤maxLen→RC w L ρ (.slice (some ⟨b,off*sz,none⟩) n (cap-off)) (.own id sz off n)
 | own0 (id sz:Nat):L id→ρ id=none→RC w L ρ (.slice none 0 0) (.own id sz 0 0)
 | fn (f:FuncId) (fs caps:List C) (us vs:Array Value):us.size=fs.length→(∀j c,fs[j]?=some c→RC w L ρ (us.getD j undef) c)→vs.size=caps.length→(∀j c,caps[j]?=some c→RC w L ρ (vs.getD j undef) c)→RC w L ρ (.func (.func f) us vs) (.fn f fs caps)
 | ow (e:TypeId) (sz n b cap:Nat) (cs:List D) (vs:Array Value):ρ.F b→w.heap[b]?=some (.cells vs e (0,0))→vs.size=cap*sz→n≤cap→cap≤maxLen→0<sz→cs.length=n*sz→(∀j c,cs[j]?=some c→RD w (Occ L ρ) (vs.getD j undef) c)→RC w L ρ (.slice (some ⟨b,0,none⟩) n cap) (.ow e sz n cs)
 | ow0 (e:TypeId) (sz:Nat):0<sz→RC w L ρ (.slice none 0 0) (.ow e sz 0 [])
 | clp (A:Option Addr) (sz n:Nat) (cs:List D):RD w (Occ L ρ) (.slice A n n) (.sl sz n cs)→RC w L ρ (.slice A n n) (.clp sz n cs)
 | any (v:Value):RC w L ρ v .any
inductive RR (w:World) (L:Nat→Prop) (ρ:Pl):Value→R→Prop
 | c (v:Value) (x:C):RC w L ρ v x→RR w L ρ v (.c x)
 | agg (vs:Array Value) (xs:List C):vs.size=xs.length→(∀j c,xs[j]?=some c→RC w L ρ (vs.getD j undef) c)→RR w L ρ (.agg vs) (.agg xs)
 | tup (vs:Array Value) (xs:List R):vs.size=xs.length→(∀j c,xs[j]?=some c→RR w L ρ (vs.getD j undef) c)→RR w L ρ (.tuple vs) (.tup xs)
 | any (v:Value):RR w L ρ v .any
def HO (w:World) (L:Nat→Prop) (ρ:Pl) (b:Nat):AO→Prop
 | .mp es ck=>∃mes:Array MapEntry,w.heap[b]?=some (.map mes ck)∧mes.size=es.length∧∀j e,es[j]?=some e→(mes.getD j default).key=e.1∧RR w L ρ (mes.getD j default).val e.2.1∧(mes.getD j default).born=e.2.2
 | .si s pos=>w.heap[b]?=some (.stringIter s pos)
 | .lp _ tm ps assign body st pend=>∃r:Loop,w.heap[b]?=some (.loop r)∧r.state=st∧r.pending=pend∧r.params.toList=ps∧r.assign=assign∧r.body=body∧r.tmps.size=tm.length∧∀j x,tm[j]?=some x→RR w L ρ (r.tmps.getD j undef) x
 | .df=>w.heap[b]?=some (.deferred (some []))
 | .mi m since seen=>∃mb:Option Nat,RR w L ρ (.map mb) m∧w.heap[b]?=some (.mapIter mb since seen.reverse.toArray since)
 | .m1 _ _ _ _=>False
theorem HO.map {w w':World} {L L':Nat→Prop} {ρ ρ':Pl} {b:Nat} {f:R→R} (hb:w'.heap[b]?=w.heap[b]?):∀{o:AO},(∀v x,x∈o.Rs→RR w L ρ v x→RR w' L' ρ' v (f x))→HO w L ρ b o→HO w' L' ρ' b (o.mapR f)
 | .mp es ck,hf,⟨mes,h1,h2,h3⟩=>⟨mes,hb.trans h1,by simpa using h2,fun j e hj=>by
   rw[qw9] at hj
   obtain⟨e0,g1,g2⟩:=qw8.1 hj
   obtain⟨h4,h5,h6⟩:=h3 j e0 g1
   subst g2
   exact⟨h4,hf _ _ (qwF.2 ⟨e0,qvW g1,rfl⟩) h5,h6⟩⟩
 | .si s pos,_,h=>hb.trans h
 | .lp g tm ps a c st p,hf,⟨r,h1,h2,h3,h5,h6,h7,h8,h9⟩=>⟨r,hb.trans h1,h2,h3,h5,h6,h7,by simpa using h8,fun j x hj=>by
   rw[qw9] at hj
   obtain⟨e0,g1,g2⟩:=qw8.1 hj
   subst g2
   exact hf _ _ (qvW g1) (h9 j e0 g1)⟩
 | .df,_,h=>hb.trans h
 | .mi m since seen,hf,⟨mb,h1,h2⟩=>⟨mb,hf _ _ (qwL.2 rfl) h1,hb.trans h2⟩
 | .m1 _ _ _ _,_,h=>h.elim
theorem AO.Rs_mapR (f:R→R) (o:AO):(o.mapR f).Rs=o.Rs.map f:=by cases o<;>simp[AO.mapR,AO.Rs]
theorem AO.mapR_congr {f g:R→R} {o:AO} (h:∀x∈o.Rs,g x=f x):o.mapR g=o.mapR f:=by
 cases o with
 | mp es ck=>
  simp only[AO.mapR]
  rw[List.map_congr_left (fun e he=>by rw[h e.2.1 (qwF.2 ⟨e,he,rfl⟩)])]
 | lp g tm ps a b st p=>
  simp only[AO.mapR]
  rw[List.map_congr_left (l:=tm) (g:=f) (fun e he=>h e he)]
 | mi m a b=>simp only[AO.mapR];rw[h m (qwL.2 rfl)]
 | _=>rfl
theorem AO.mapR_id (o:AO):o.mapR (fun x=>x)=o:=by cases o<;>simp[AO.mapR]
def HB (w:World) (L:Nat→Prop) (ρ:Pl) (b cap:Nat):B→Prop
 | .blk t cs=>∃vs:Array Value,w.heap[b]?=some (.cells vs t (0,0))∧vs.size=cs.length∧∀j c,cs[j]?=some c→RC w L ρ (vs.getD j undef) c
 | .row e sz cs=>∃vs:Array Value,w.heap[b]?=some (.cells vs e (0,0))∧cs.length≤vs.size∧vs.size=cap*sz∧cap≤maxLen∧0<sz∧∀j c,cs[j]?=some c→RC w L ρ (vs.getD j undef) c
 | .ob o=>HO w L ρ b o
 | .dead=>True
structure q9Q (O:Nat→Prop) (w w':World):Prop where
 os:w'.os=w.os
 tape:w'.tape=w.tape
 output:w'.output=w.output
 size:w.heap.size≤w'.heap.size
 block:∀k,k<w.heap.size→¬ O k→w'.heap[k]?=w.heap[k]?
theorem q9Q.refl (O:Nat→Prop) (w:World):q9Q O w w:=⟨rfl,rfl,rfl,qwb _,fun _ _ _=>rfl⟩
def S.live (s:S) (i:Nat):Prop:=(s.blk i).live=true
structure Cx where
 O:Nat→Prop
 w:World
 ρ:Pl
 k:Nat
 ro:Option Nat
def Cx.mine (cx:Cx) (d:Nat):Prop:=(cx.O d∨cx.w.heap.size≤d)∧¬ cx.ρ.F d
def q8L (D:Nat):Deferred:={ target := .collected D,args:=#[] }
structure Hd (cx:Cx) (ds:List Deferred) (w:World) (O:Nat→Prop):Prop where
 ms:∃Ds:List Nat,ds=Ds.map q8L∧Ds.Nodup∧∀D∈Ds,cx.w.heap.size≤D∧D<w.heap.size∧¬ O D∧w.heap[D]?=some (.deferred (some []))
theorem Hd.mono {cx:Cx} {ds:List Deferred} {w w':World} {O O':Nat→Prop} (h:Hd cx ds w O) (hsz:w.heap.size≤w'.heap.size) (hb:∀b,b<w.heap.size→¬ O b→w'.heap[b]?=w.heap[b]?) (ho:∀b,b<w.heap.size→O' b→O b):Hd cx ds w' O':=by
 obtain⟨⟨Ds,h1,h2,h3⟩⟩:=h
 refine⟨⟨Ds,h1,h2,fun D hD=>?_⟩⟩
 obtain⟨g1,g2,g3,g4⟩:=h3 D hD
 exact⟨g1,qwv g2 hsz,fun h=>g3 (ho D g2 h),(hb D g2 g3).trans g4⟩
theorem Hd.none {cx:Cx} {w:World} {O:Nat→Prop}:Hd cx [] w O:=⟨⟨[],rfl,List.nodup_nil,fun D hD=>by simp at hD⟩⟩
def C.isOw:C→Bool
 | .ow _ _ _ _=>true
 | _=>false
def C.noow:C→Bool
 | .ow _ _ _ _=>false
 | _=>true
theorem C.noow_is {c:C} (h:c.noow=true):c.isOw=false:=by cases c<;>first|rfl|cases h
def B.cells:B→List C
 | .blk _ cs=>cs
 | .row _ _ cs=>cs
 | .ob _=>[]
 | .dead=>[]
def q5v (s:S) (ρ:Pl) (w:World) (i j d:Nat):Prop:=∃b cap x n c,s.live i∧ρ i=some (b,cap)∧(s.blk i).cells[j]?=some x∧x.isOw=true∧w.cell? ⟨b,j,none⟩=some (.slice (some ⟨d,0,none⟩) n c)
structure Ows (Q:Nat→Prop) (s:S) (ρ:Pl) (w:World):Prop where
 lt:∀b,ρ.F b→b<w.heap.size
 one:∀i j i' j' d,q5v s ρ w i j d→q5v s ρ w i' j' d→i=i'∧j=j'
 new:∀i j d,q5v s ρ w i j d→Q d
theorem Ows.map {m:Nat→Prop} {s s':S} {ρ ρ':Pl} {w w':World} (h:Ows m s ρ w) (f:Nat→Nat) (hlt:∀b,ρ'.F b→b<w'.heap.size) (hf:∀i i',s'.live i→s'.live i'→f i=f i'→i=i') (hm:∀i j d,q5v s' ρ' w' i j d→q5v s ρ w (f i) j d):Ows m s' ρ' w':=
 ⟨hlt,fun i j i' j' d h1 h2=>by
  obtain⟨e1,e2⟩:=h.one _ _ _ _ _ (hm _ _ _ h1) (hm _ _ _ h2)
  obtain⟨_,_,_,_,_,l1,-⟩:=h1
  obtain⟨_,_,_,_,_,l2,-⟩:=h2
  exact⟨hf _ _ l1 l2 e1,e2⟩,fun i j d h1=>h.new _ _ _ (hm _ _ _ h1)⟩
theorem Ows.sub {m:Nat→Prop} {s s':S} {ρ ρ':Pl} {w w':World} (h:Ows m s ρ w) (hlt:∀b,ρ'.F b→b<w'.heap.size) (hm:∀i j d,q5v s' ρ' w' i j d→q5v s ρ w i j d):Ows m s' ρ' w':=h.map id hlt (fun _ _ _ _ e=>e) hm
structure Sim (cx:Cx) (ρ:Pl) (s:S) (a:Act) (w:World):Prop where
 hd:Hd cx a.defers w (Occ s.live ρ)
 size:a.tmps.size=s.n
 tm:∀i,RR w s.live ρ (a.tmps.getD i undef) (s.get i)
 hp:∀i b cap,s.live i→ρ i=some (b,cap)→b<w.heap.size∧HB w s.live ρ b cap (s.blk i)
 hp0:∀i,s.live i→ρ i=none→∃e sz,s.blk i = .row e sz []
 out:∀i b cap,s.live i→ρ i=some (b,cap)→cx.O b∨cx.w.heap.size≤b
 inj:∀i j b c c',s.live i→s.live j→ρ i=some (b,c)→ρ j=some (b,c')→i=j
 nx:∀i,s.live i→i<s.nx
 kept:q9Q cx.O cx.w w
 oldF:∀b,cx.ρ.F b→ρ.F b∧b<cx.w.heap.size
 pin:∀i,i<cx.k→ρ i=cx.ρ i∧(s.blk i).isBlk=true
 disj:∀i b cap,s.live i→ρ i=some (b,cap)→¬ ρ.F b
 ows:Ows cx.mine s ρ w
structure q2s (w:World) (L:Nat→Prop) (ρ:Pl) (w':World) (L':Nat→Prop) (ρ':Pl):Prop where
 size:w.heap.size≤w'.heap.size
 block:∀b,b<w.heap.size→¬ Occ L ρ b→w'.heap[b]?=w.heap[b]?
 occ:∀b,b<w.heap.size→Occ L' ρ' b→Occ L ρ b
 ids:∀i,L i→L' i∧ρ' i=ρ i
 frm:∀b,ρ.F b→ρ'.F b∧(b<w.heap.size→w'.heap[b]?=w.heap[b]?)
section
variable {w w':World} {L L':Nat→Prop} {ρ ρ':Pl}
theorem q4m {w:World} {b:Nat} {o:Obj} (h:w.heap[b]?=some o):b<w.heap.size:=by
 rcases Nat.lt_or_ge b w.heap.size with h1|h1
 ·exact h1
 ·rw[Array.getElem?_eq_none h1] at h;cases h
theorem q2s.cell (h:q2s w L ρ w' L' ρ') {b o:Nat} (hb:b<w.heap.size) (hO:¬ Occ L ρ b):w'.cell? ⟨b,o,none⟩=w.cell? ⟨b,o,none⟩:=
 World.cell?_of_block (w:=w) (h.block b hb hO)
theorem Hd.stay {cx:Cx} {ds:List Deferred} (hs:q2s w L ρ w' L' ρ') (h:Hd cx ds w (Occ L ρ)):Hd cx ds w' (Occ L' ρ'):=h.mono hs.size hs.block hs.occ
theorem RD.stay (hs:q2s w L ρ w' L' ρ') {v:Value} {x:D} (h:RD w (Occ L ρ) v x):RD w' (Occ L' ρ') v x:=by
 induction h with
 | int k n=>exact .int k n
 | bool b=>exact .bool b
 | str s=>exact .str s
 | nil A cap sz h1 h2=>exact .nil A cap sz h1 h2
 | sl b off n cap sz cs f h1 h2 h3 h4 h5 h6 h7 ih=>
  exact .sl b off n cap sz cs f h1 h2 h3 (qwv h4 hs.size) (fun h=>h5 (hs.occ b h4 h)) (fun j c hj=>(hs.cell h4 h5).trans (h6 j c hj)) ih
theorem RC.stay (hs:q2s w L ρ w' L' ρ') {v:Value} {x:C} (h:RC w L ρ v x):RC w' L' ρ' v x:=by
 induction h with
 | d v x h=>exact .d v x (h.stay hs)
 | ptr id off b cap h1 h2=>exact .ptr id off b cap (hs.ids id h1).1 ((hs.ids id h1).2.trans h2)
 | hd k id b cap h1 h2=>exact .hd k id b cap (hs.ids id h1).1 ((hs.ids id h1).2.trans h2)
 | nilp=>exact .nilp
 | nilf=>exact .nilf
 | nilm=>exact .nilm
 | nils=>exact .nils
 | eptr b o off cs f h1 h2 h3 h4=>exact .eptr b o off cs f (qwv h1 hs.size) (fun h=>h2 (hs.occ b h1 h)) (fun j c hj=>(hs.cell h1 h2).trans (h3 j c hj)) (fun j c hj=>(h4 j c hj).stay hs)
 | own id sz off n b cap h1 h2 h3 h4=>exact .own id sz off n b cap (hs.ids id h1).1 ((hs.ids id h1).2.trans h2) h3 h4
 | own0 id sz h1 h2=>exact .own0 id sz (hs.ids id h1).1 ((hs.ids id h1).2.trans h2)
 | fn f fs caps us vs h1 h2 h3 h4 ih1 ih2=>exact .fn f fs caps us vs h1 ih1 h3 ih2
 | ow e sz n b cap cs vs h1 h2 h3 h4 h5 h6 h7 h8=>exact .ow e sz n b cap cs vs (hs.frm b h1).1 (((hs.frm b h1).2 (q4m h2)).trans h2) h3 h4 h5 h6 h7 (fun j c hj=>(h8 j c hj).stay hs)
 | ow0 e sz h1=>exact .ow0 e sz h1
 | clp A sz n cs h=>exact .clp A sz n cs (h.stay hs)
 | any v=>exact .any v
theorem RR.stay (hs:q2s w L ρ w' L' ρ') {v:Value} {x:R} (h:RR w L ρ v x):RR w' L' ρ' v x:=by
 induction h with
 | c v x h=>exact .c v x (h.stay hs)
 | agg vs xs h1 h2=>exact .agg vs xs h1 (fun j c hj=>(h2 j c hj).stay hs)
 | tup vs xs h1 h2 ih=>exact .tup vs xs h1 ih
 | any v=>exact .any v
theorem HB.stay (hs:q2s w L ρ w' L' ρ') {b cap:Nat} {x:B} (hb:w'.heap[b]?=w.heap[b]?) (h:HB w L ρ b cap x):HB w' L' ρ' b cap x:=by
 cases x with
 | blk t cs=>obtain⟨vs,h1,h2,h3⟩:=h;exact⟨vs,hb.trans h1,h2,fun j c hj=>(h3 j c hj).stay hs⟩
 | row e sz cs=>obtain⟨vs,h1,h2,h3,h4,h5,h6⟩:=h;exact⟨vs,hb.trans h1,h2,h3,h4,h5,fun j c hj=>(h6 j c hj).stay hs⟩
 | ob o=>exact AO.mapR_id o ▸ HO.map (f:=fun x=>x) hb (fun v x _ hx=>hx.stay hs) h
 | dead=>trivial
end
def S.put (s:S) (dst:Option Nat) (r:R):S:=
 match dst with
 | some d=>{ s with tm:=(d,r)::s.tm }
 | none=>s
theorem qeJ (a:Act) (d i:Nat) (v:Value) (hd:d<a.tmps.size):(a.put (some d) v).tmps.getD i undef=if d=i then v else a.tmps.getD i undef:=by
 simp only[Act.put,qw1,Array.getElem?_setIfInBounds,hd,if_true]
 split
 ·rfl
 ·rfl
theorem Sim.put {cx:Cx} {ρ:Pl} {s:S} {a:Act} {w:World} (h:Sim cx ρ s a w) {dst:Option Nat} {v:Value} {r:R} (hd:∀d,dst=some d→d<s.n) (hr:RR w s.live ρ v r) :
  Sim cx ρ (s.put dst r) (a.put dst v) w:=by
 cases dst with
 | none=>exact h
 | some d=>
  refine⟨h.hd,by simp[Act.put,S.put,h.size],fun i=>?_,h.hp,h.hp0,h.out,h.inj,h.nx,h.kept,h.oldF,h.pin,h.disj,⟨h.ows.lt,h.ows.one,h.ows.new⟩⟩
  rw[qeJ a d i v (by rw[h.size];exact hd d rfl)]
  show RR w s.live ρ _ (lk ((d,r)::s.tm) i .any)
  unfold lk
  split
  ·exact hr
  ·exact h.tm i
end
noncomputable section
open Go.RowKit
inductive Kd where
 | int (k:IntKind)|bool|str|ptr (e:TypeId)|sl (e:TypeId)|arr (len:Nat) (e:TypeId)|mp (k e:TypeId)|st (fs:List (Nat×TypeId))|fn|other
 deriving DecidableEq,Inhabited
structure Ty where
 k:TypeId→Kd
 sz:TypeId→Nat
 by_:TypeId→Nat
 zero:TypeId→List C
 ip:FuncId→Option (List Int→List Int)
 sf:FuncId→Option TypeId
 ipk:Bool
 bk:TypeId→Nat→Bool
def q1s:TypeDesc→Kd
 | .int k => .int k
 | .bool => .bool
 | .string => .str
 | .pointer e => .ptr e
 | .slice e => .sl e
 | .array n e => .arr n e
 | .struct fs => .st (fs.toList.map fun f=>(f.offset,f.type))
 | .func _ _ _ => .fn
 | .map k e => .mp k e
 | _ => .other
def Kd.ag:Kd→Bool
 | .st _ | .arr _ _=>true
 | _=>false
def zok (k:Kd):Value→Bool
 | .agg _=>k.ag
 | _ => !k.ag
def okZ:Value→C→Bool
 | .int k n,.d (.int k' n')=>k==k'&&n==n'
 | .bool b,.d (.bool b')=>b==b'
 | .string s,.d (.str s')=>decide (s=s')
 | .pointer none,.nilp=>true
 | .nilFunc,.nilf=>true
 | .slice none 0 0,.nils=>true
 | .map none,.nilm=>true
 | _,.any=>true
 | _,_=>false
def qdb:List Value→List C→Bool
 | [],[]=>true
 | v::vs,c::cs=>okZ v c&&qdb vs cs
 | _,_=>false
def Ty.okAt (P:Program) (T:Ty) (t:TypeId):Bool:=
 match P.underlying t,P.info? t with
 | some d,some i=>q1s d==T.k t&&i.size==T.sz t&&i.bytes==T.by_ t&&(match i.zero with|some z=>qdb z.cells.toList (T.zero t)&&zok (T.k t) z|none=>false)
 | _,_=>false
def ltB (f:Int→Int→Option Int) (x y:Int):Bool:=match f x y with|some c=>decide (c<0)|none=>false
def okB (f:Int→Int→Option Int) (zs:List Int):Bool:=
 (zs.all fun x=>zs.all fun y=>(f x y).isSome)&&(zs.all fun x => !ltB f x x) &&
 (zs.all fun x=>zs.all fun y=>decide (x=y)||ltB f x y||ltB f y x) &&
 (zs.all fun x=>zs.all fun y=>zs.all fun z => !(ltB f x y&&ltB f y z)||ltB f x z)
def qe7 (f:Int→Int→Option Int) (x:Int):List Int→List Int
 | []=>[x]
 | y::l=>if ltB f y x=true then y::qe7 f x l else x::y::l
def JB (f:Int→Int→Option Int):List Int→List Int
 | []=>[]
 | x::l=>qe7 f x (JB f l)
structure qsM (P:Program) (g:FuncId) (e:TypeId):Prop where
 ent:∃fn,P.funcs[g]?=some fn∧(fn.name == "runtime.NumGoroutine")=false∧fn.body.isNone=false
 row:∀(c:FuncId) (f:Int→Int→Option Int) (b cap:Nat) (zs:List Int) (w:World) (cur:Array Value),w.heap[b]?=some (.cells cur e (0,0))→cur.toList.take zs.length=zs.map (Value.int .i64)→0<zs.length→zs.length<4611686018427387904→okB f zs=true→
  (∀args w,(callFunc c args).run P w = .ok (.enter c args) w)→
  (∀x∈zs,∀y∈zs,∀W:World,Calls P c #[.int .i64 x,.int .i64 y] W fun e' W'=>(∃v,f x y=some v∧e' = .returned (.int .i64 v))∧W.grownBy W' none)→
  Calls P g #[.slice (some ⟨b,0,none⟩) zs.length cap,.func (.func c) #[] #[]] w fun e' w'=>e' = .returned (.tuple #[])∧w.grownBy w' (some b)∧∃cur':Array Value,w'.heap[b]?=some (.cells cur' e (0,0))∧cur'.size=cur.size∧cur'.toList.take zs.length=(JB f zs).map (Value.int .i64)
structure qoG (P:Program) (g:FuncId) (h:List Int→List Int):Prop where
 ent:∃fn,P.funcs[g]?=some fn∧(fn.name == "runtime.NumGoroutine")=false∧fn.body.isNone=false
 len:∀l,(h l).length=l.length
 row:∀(b cap:Nat) (zs:List Int) (w:World) (cur:Array Value) (e:TypeId),w.heap[b]?=some (.cells cur e (0,0))→cur.toList.take zs.length=zs.map (Value.int .i64)→zs.length<4611686018427387904→
  Calls P g #[.slice (some ⟨b,0,none⟩) zs.length cap] w fun e' w'=>e' = .returned (.tuple #[])∧w.grownBy w' (some b)∧∃cur':Array Value,w'.heap[b]?=some (.cells cur' e (0,0))∧cur'.size=cur.size∧cur'.toList.take zs.length=(h zs).map (Value.int .i64)
 none_:∀w:World,Calls P g #[.slice none 0 0] w fun e' w'=>e' = .returned (.tuple #[])∧w'=w
structure Ag (P:Program) (T:Ty):Prop where
 ty:∀t,T.k t = .other∨Ty.okAt P T t=true
 ip:∀g h,T.ip g=some h→qoG P g h
 sf:∀g e,T.sf g=some e→qsM P g e
theorem qkg {w:World} {L:Nat→Prop} {ρ:Pl} {v:Value} {c:C} (h:okZ v c=true):RC w L ρ v c:=by
 unfold okZ at h
 split at h
 ·rw[qwr] at h
  obtain⟨h1,h2⟩:=h
  obtain rfl:=eq_of_beq h1
  obtain rfl:=eq_of_beq h2
  exact .d _ _ (.int _ _)
 ·obtain rfl:=eq_of_beq h;exact .d _ _ (.bool _)
 ·obtain rfl:=of_decide_eq_true h;exact .d _ _ (.str _)
 ·exact .nilp
 ·exact .nilf
 ·exact .nils
 ·exact .nilm
 ·exact .any _
 ·cases h
theorem q1p {w:World} {L:Nat→Prop} {ρ:Pl}:∀{vs:List Value} {cs:List C},qdb vs cs=true→vs.length=cs.length∧∀j c,cs[j]?=some c→RC w L ρ (vs.getD j undef) c
 | [],[],_=>⟨rfl,fun j c h=>by simp at h⟩
 | v::vs,c::cs,h=>by
  simp only[qdb,qwr] at h
  obtain⟨h1,h2⟩:=q1p (w:=w) (L:=L) (ρ:=ρ) h.2
  refine⟨by simp[h1],fun j c' hj=>?_⟩
  cases j with
  | zero=>simp only[qw5,qwK] at hj;subst hj;exact qkg h.1
  | succ j=>simpa using h2 j c' (by simpa using hj)
 | [],_::_,h=>by simp[qdb] at h
 | _::_,[],h=>by simp[qdb] at h
structure qtF (P:Program) (T:Ty) (t:TypeId) (d:TypeDesc) (i:TypeInfo) (z:Value):Prop where
 ud:P.underlying t=some d
 info:P.info? t=some i
 kd:q1s d=T.k t
 sz:i.size=T.sz t
 by_:i.bytes=T.by_ t
 zero:i.zero=some z
 zs:qdb z.cells.toList (T.zero t)=true
 zk:zok (T.k t) z=true
theorem Ag.at_ {P:Program} {T:Ty} (h:Ag P T) {t:TypeId} (hk:T.k t ≠ .other):∃d i z,qtF P T t d i z:=by
 have h1:=(h.ty t).resolve_left hk
 unfold Ty.okAt at h1
 split at h1
 ·rename_i d i hd hi
  simp only[qwr,beq_iff_eq] at h1
  obtain⟨⟨⟨h2,h3⟩,h4⟩,h5⟩:=h1
  split at h5
  ·rename_i z hz;rw[qwr] at h5;exact⟨d,i,z,hd,hi,h2,h3,h4,hz,h5.1,h5.2⟩
  ·cases h5
 ·cases h1
def QZ:Value→R
 | .int k n => .c (.d (.int k n))
 | .bool b => .c (.d (.bool b))
 | .string s => .c (.d (.str s))
 | .pointer none => .c .nilp
 | .nilFunc => .c .nilf
 | .slice none 0 0 => .c .nils
 | .map none => .c .nilm
 | _ => .any
def S.ev (s:S):Operand→R
 | .tmp t=>s.get t
 | .const v=>QZ v
 | .func f => .c (.fn f [] [])
 | .global _ => .any
theorem qag {w:World} {L:Nat→Prop} {ρ:Pl} (v:Value):RR w L ρ v (QZ v):=by
 unfold QZ
 split
 ·exact .c _ _ (.d _ _ (.int _ _))
 ·exact .c _ _ (.d _ _ (.bool _))
 ·exact .c _ _ (.d _ _ (.str _))
 ·exact .c _ _ .nilp
 ·exact .c _ _ .nilf
 ·exact .c _ _ .nils
 ·exact .c _ _ .nilm
 ·exact .any _
section
variable {cx:Cx} {ρ:Pl} {s:S} {a:Act} {w:World}
theorem Sim.ev (h:Sim cx ρ s a w) (x:Operand):RR w s.live ρ (a.eval x) (s.ev x):=by
 cases x with
 | tmp t=>exact h.tm t
 | const v=>exact qag v
 | func f=>exact .c _ _ (.fn f [] [] #[] #[] rfl (fun j c h=>by simp at h) rfl (fun j c h=>by simp at h))
 | global g=>exact .any _
end
section inversions
variable {w:World} {L:Nat→Prop} {ρ:Pl} {v:Value}
theorem RR.inv_c {x:C} (h:RR w L ρ v (.c x)):RC w L ρ v x:=by cases h;assumption
theorem RR.inv_int {k:IntKind} {n:Int} (h:RR w L ρ v (.c (.d (.int k n)))):v = .int k n:=by
 cases h with|c _ _ h=>cases h with|d _ _ h=>cases h;rfl
theorem RR.inv_bool {b:Bool} (h:RR w L ρ v (.c (.d (.bool b)))):v = .bool b:=by
 cases h with|c _ _ h=>cases h with|d _ _ h=>cases h;rfl
theorem RR.inv_str {s:ByteArray} (h:RR w L ρ v (.c (.d (.str s)))):v = .string s:=by
 cases h with|c _ _ h=>cases h with|d _ _ h=>cases h;rfl
theorem RR.inv_ptr {id off:Nat} (h:RR w L ρ v (.c (.ptr id off))):∃b cap,L id∧ρ id=some (b,cap)∧v = .pointer (some ⟨b,off,none⟩):=by
 cases h with|c _ _ h=>cases h with|ptr _ _ b cap h1 h2=>exact⟨b,cap,h1,h2,rfl⟩
theorem RR.inv_hd {k:HK} {id:Nat} (h:RR w L ρ v (.c (.hd k id))):∃b cap,L id∧ρ id=some (b,cap)∧v=k.val b:=by
 cases h with|c _ _ h=>cases h with|hd _ _ b cap h1 h2=>exact⟨b,cap,h1,h2,rfl⟩
theorem RR.inv_nilm (h:RR w L ρ v (.c .nilm)):v = .map none:=by
 cases h with|c _ _ h=>cases h;rfl
theorem RR.inv_nilp (h:RR w L ρ v (.c .nilp)):v = .pointer none:=by
 cases h with|c _ _ h=>cases h;rfl
theorem RR.inv_nils (h:RR w L ρ v (.c .nils)):v = .slice none 0 0:=by
 cases h with|c _ _ h=>cases h;rfl
theorem RR.inv_fn {f:FuncId} {fs caps:List C} (h:RR w L ρ v (.c (.fn f fs caps))):∃us vs,v = .func (.func f) us vs∧us.size=fs.length∧(∀j c,fs[j]?=some c→RC w L ρ (us.getD j undef) c)∧vs.size=caps.length∧∀j c,caps[j]?=some c→RC w L ρ (vs.getD j undef) c:=by
 cases h with|c _ _ h=>cases h with|fn _ _ _ us vs h1 h2 h3 h4=>exact⟨us,vs,rfl,h1,h2,h3,h4⟩
theorem RR.inv_agg {xs:List C} (h:RR w L ρ v (.agg xs)):∃vs,v = .agg vs∧vs.size=xs.length∧∀j c,xs[j]?=some c→RC w L ρ (vs.getD j undef) c:=by
 cases h with|agg vs _ h1 h2=>exact⟨vs,rfl,h1,h2⟩
theorem RR.inv_tup {xs:List R} (h:RR w L ρ v (.tup xs)):∃vs,v = .tuple vs∧vs.size=xs.length∧∀j c,xs[j]?=some c→RR w L ρ (vs.getD j undef) c:=by
 cases h with|tup vs _ h1 h2=>exact⟨vs,rfl,h1,h2⟩
theorem RR.inv_own {id sz off n:Nat} (h:RR w L ρ v (.c (.own id sz off n))):L id∧((∃b cap,ρ id=some (b,cap)∧off+n≤cap∧cap≤maxLen∧v = .slice (some ⟨b,off*sz,none⟩) n (cap-off))∨(ρ id=none∧v = .slice none 0 0∧off=0∧n=0)):=by
 cases h with|c _ _ h=>cases h with
  | own _ _ _ _ b cap h1 h2 h3 h4=>exact⟨h1,.inl ⟨b,cap,h2,h3,h4,rfl⟩⟩
  | own0 _ _ h1 h2=>exact⟨h1,.inr ⟨h2,rfl,rfl,rfl⟩⟩
theorem RR.inv_sl {sz n:Nat} {cs:List D} (h:RR w L ρ v (.c (.d (.sl sz n cs)))):∃A cap,v = .slice A n cap∧n≤cap∧cap≤maxLen∧(A=none→cap=0)∧cs.length=n*sz∧
  (n=0∨∃(b off:Nat) (f:Nat→Value),A=some ⟨b,off,none⟩∧b<w.heap.size∧¬ Occ L ρ b∧(∀j c,cs[j]?=some c→w.cell? ⟨b,off+j,none⟩=some (f j))∧(∀j c,cs[j]?=some c→RD w (Occ L ρ) (f j) c)):=by
 cases h with|c _ _ h=>cases h with|d _ _ h=>cases h with
  | nil A cap sz h1 h2=>exact⟨A,cap,rfl,qwl _,h1,h2,by simp,.inl rfl⟩
  | sl b off n cap sz cs f h1 h2 h3 h4 h5 h6 h7=>exact⟨_,cap,rfl,h2,h3,(fun h=>by cases h),h1,.inr ⟨b,off,f,rfl,h4,h5,h6,h7⟩⟩
theorem RR.inv_eptr {cs:List D} {off:Nat} (h:RR w L ρ v (.c (.eptr cs off))):∃(b o:Nat) (f:Nat→Value),v = .pointer (some ⟨b,o+off,none⟩)∧b<w.heap.size∧¬ Occ L ρ b∧(∀j c,cs[j]?=some c→w.cell? ⟨b,o+j,none⟩=some (f j))∧(∀j c,cs[j]?=some c→RD w (Occ L ρ) (f j) c):=by
 cases h with|c _ _ h=>cases h with|eptr b o _ _ f h1 h2 h3 h4=>exact⟨b,o,f,rfl,h1,h2,h3,h4⟩
end inversions
theorem HB.cell {w:World} {L:Nat→Prop} {ρ:Pl} {b cap:Nat} {x:B} (h:HB w L ρ b cap x) {j:Nat} {c:C} (hc:x.cells[j]?=some c):∃v,w.cell? ⟨b,j,none⟩=some v∧RC w L ρ v c:=by
 cases x with
 | blk t cs=>
  obtain⟨vs,h1,h2,h3⟩:=h
  have hj:j<vs.size:=by rw[h2];exact(qvZ.1 hc).1
  refine⟨vs.getD j undef,?_,h3 j c hc⟩
  simp[World.cell?,h1,hj]
 | row e sz cs=>
  obtain⟨vs,h1,h2,h3,h4,h5,h6⟩:=h
  have hj:j<vs.size:=by have:=(qvZ.1 hc).1;exact qwv this h2
  refine⟨vs.getD j undef,?_,h6 j c hc⟩
  simp[World.cell?,h1,hj]
 | ob o=>simp[B.cells] at hc
 | dead=>simp[B.cells] at hc
end
noncomputable section
open Go.RowKit
theorem Qp (b o j:Nat):(⟨b,o,none⟩:Addr).add j=⟨b,o+j,none⟩:=by
 unfold Addr.add
 by_cases h:j=0<;>simp[h]
def S.up (s:S) (us:List (Nat×B)):S:={ s with hp:=us++s.hp,nx:=us.foldl (fun m u=>max m (u.1+1)) s.nx }
theorem S.blk_up (s:S) (p i:Nat) (x:B):(s.up [(p,x)]).blk i=if p=i then x else s.blk i:=rfl
section
variable {cx:Cx} {ρ:Pl} {s:S} {a:Act} {w:World}
def Pl.set (ρ:Pl) (p b cap:Nat):Pl:=⟨fun i=>if i=p then some (b,cap) else ρ i,ρ.F⟩
theorem JV {p:Nat} {x:B} (hp:¬ s.live p) (o:Obj) (cap:Nat):q2s w s.live ρ (w.alloc o) (s.up [(p,x)]).live (ρ.set p w.heap.size cap):=by
 have hne:∀i,s.live i→i≠p:=fun i hi h=>hp (h ▸ hi)
 refine⟨by simp,fun b hb _=>Below.heap_alloc w o b hb,fun b hb hO=>?_,fun i hi=>⟨?_,?_⟩,?_⟩
 ·rcases hO with hF|⟨i,c,hi,hr⟩
  ·exact .inl hF
  replace hr:(if i=p then some (w.heap.size,cap) else ρ i)=some (b,c):=hr
  by_cases h:i=p
  ·rw[if_pos h] at hr;injection hr with hr;injection hr with hr _;omega
  ·rw[if_neg h] at hr
   refine .inr ⟨i,c,?_,hr⟩
   unfold S.live at hi ⊢
   rw[S.blk_up,if_neg (Ne.symm h)] at hi
   exact hi
 ·unfold S.live at hi ⊢
  rw[S.blk_up,if_neg (Ne.symm (hne i hi))]
  exact hi
 ·exact if_neg (hne i hi)
 ·intro b hF
  exact⟨hF,fun hb=>Below.heap_alloc w o b hb⟩
theorem Sim.new (h:Sim cx ρ s a w) {p:Nat} {x:B} (hp:¬ s.live p) {o:Obj} {cap:Nat}
  (hb:HB (w.alloc o) (s.up [(p,x)]).live (ρ.set p w.heap.size cap) w.heap.size cap x) (hx:x.cells.all C.noow=true:=by rfl):Sim cx (ρ.set p w.heap.size cap) (s.up [(p,x)]) a (w.alloc o):=by
 have hs:=JV (w:=w) (ρ:=ρ) (x:=x) hp o cap
 have hl:∀i,(s.up [(p,x)]).live i→i≠p→s.live i:=fun i hi hn=>by
  unfold S.live at hi ⊢
  rw[S.blk_up,if_neg (Ne.symm hn)] at hi
  exact hi
 have hr:∀i,i≠p→ρ.set p w.heap.size cap i=ρ i:=fun i hn=>if_neg hn
 have hrp:ρ.set p w.heap.size cap p=some (w.heap.size,cap):=if_pos rfl
 refine⟨h.hd.stay hs,h.size,fun i=>(h.tm i).stay hs,fun i b c hi hri=>?_,fun i hi hri=>?_,fun i b c hi hri=>?_,fun i j b c c' hi hj hri hrj=>?_,fun i hi=>?_,?_,h.oldF,fun i hi=>?_,fun i b c hi hri=>?_,?_⟩
 ·by_cases hn:i=p
  ·subst hn
   rw[hrp] at hri
   injection hri with hri;injection hri with h1 h2
   subst h1 h2
   rw[S.blk_up,if_pos rfl]
   exact⟨by simp,hb⟩
  ·rw[hr i hn] at hri
   obtain⟨h1,h2⟩:=h.hp i b c (hl i hi hn) hri
   rw[S.blk_up,if_neg (Ne.symm hn)]
   exact⟨by simp;omega,h2.stay hs (Below.heap_alloc w o b h1)⟩
 ·by_cases hn:i=p
  ·subst hn;rw[hrp] at hri;cases hri
  ·rw[hr i hn] at hri
   rw[S.blk_up,if_neg (Ne.symm hn)]
   exact h.hp0 i (hl i hi hn) hri
 ·by_cases hn:i=p
  ·subst hn
   rw[hrp] at hri
   injection hri with hri;injection hri with h1 h2
   subst h1
   exact .inr h.kept.size
  ·rw[hr i hn] at hri
   exact h.out i b c (hl i hi hn) hri
 ·by_cases hi':i=p
  ·by_cases hj':j=p
   ·rw[hi',hj']
   ·subst hi'
    rw[hrp] at hri
    rw[hr j hj'] at hrj
    injection hri with hri;injection hri with h1 h2
    have:=(h.hp j b c' (hl j hj hj') hrj).1
    omega
  ·by_cases hj':j=p
   ·subst hj'
    rw[hrp] at hrj
    rw[hr i hi'] at hri
    injection hrj with hrj;injection hrj with h1 h2
    have:=(h.hp i b c (hl i hi hi') hri).1
    omega
   ·rw[hr i hi'] at hri
    rw[hr j hj'] at hrj
    exact h.inj i j b c c' (hl i hi hi') (hl j hj hj') hri hrj
 ·show i<max s.nx (p+1)
  by_cases hn:i=p
  ·omega
  ·have:=h.nx i (hl i hi hn);omega
 ·exact⟨h.kept.os,h.kept.tape,h.kept.output,qww h.kept.size (by simp),fun k hk hO=>(Below.heap_alloc w o k (qwv hk h.kept.size)).trans (h.kept.block k hk hO)⟩
 ·obtain⟨h1,h2⟩:=h.pin i hi
  have hn:i≠p:=fun e=>hp (by rw[←e];unfold S.live;exact B.live_of h2)
  exact⟨(hr i hn).trans h1,by rw[S.blk_up,if_neg (Ne.symm hn)];exact h2⟩
 ·by_cases hn:i=p
  ·subst hn
   rw[hrp] at hri
   injection hri with hri;injection hri with h1 h2
   intro hF
   have:=h.ows.lt b hF
   omega
  ·rw[hr i hn] at hri
   exact h.disj i b c (hl i hi hn) hri
 ·refine h.ows.sub (fun b hF=>by have:=h.ows.lt b hF;simp;omega) fun i j d hw=>?_
  obtain⟨b,c,y,n,c',l1,l2,l3,l4,l5⟩:=hw
  have hn:i≠p:=fun e=>by
   subst e
   rw[S.blk_up,if_pos rfl] at l3
   have:=C.noow_is (qwc.1 hx y (qvW l3))
   rw[l4] at this;cases this
  rw[hr i hn] at l2
  rw[S.blk_up,if_neg (Ne.symm hn)] at l3
  have hbl:=(h.hp i b c (hl i l1 hn) l2).1
  exact⟨b,c,y,n,c',hl i l1 hn,l2,l3,l4,by rw[←l5];exact(World.cell?_of_block (w:=w) (Below.heap_alloc w o b hbl)).symm⟩
theorem Sim.over (h:Sim cx ρ s a w) {id b cap:Nat} {x:B} (hi:s.live id) (hρ:ρ id=some (b,cap)) (hx:x.live=true) (hpin:id<cx.k→x.isBlk=true) {w':World} (hsz:w'.heap.size=w.heap.size)
  (hk:∀k,k≠b→w'.heap[k]?=w.heap[k]?) (ho:w'.os=w.os) (ht:w'.tape=w.tape) (hu:w'.output=w.output)
  (hb:HB w' (s.up [(id,x)]).live ρ b cap x) (hx2:∀(j:Nat) (y:C) (d n c:Nat),x.cells[j]?=some y→y.isOw=true→w'.cell? ⟨b,j,none⟩=some (.slice (some ⟨d,0,none⟩) n c)→∃z,(s.blk id).cells[j]?=some z∧z.isOw=true∧∃n c,w.cell? ⟨b,j,none⟩=some (.slice (some ⟨d,0,none⟩) n c)):Sim cx ρ (s.up [(id,x)]) a w'∧q2s w s.live ρ w' (s.up [(id,x)]).live ρ:=by
 have hl:∀i,(s.up [(id,x)]).live i↔s.live i:=fun i=>by
  unfold S.live
  rw[S.blk_up]
  by_cases hn:id=i
  ·subst hn;rw[if_pos rfl];exact⟨fun _=>hi,fun _=>hx⟩
  ·rw[if_neg hn]
 have hs:q2s w s.live ρ w' (s.up [(id,x)]).live ρ:=by
  refine⟨by omega,fun k hk' hO=>hk k (fun e=>hO (.inr ⟨id,cap,hi,by rw[e];exact hρ⟩)),fun k hk' hO=>?_,fun i hi'=>⟨(hl i).2 hi',rfl⟩,fun k hF=>⟨hF,fun hk'=>hk k (fun e=>h.disj id b cap hi hρ (e ▸ hF))⟩⟩
  rcases hO with hF|⟨i,c,h1,h2⟩
  ·exact .inl hF
  ·exact .inr ⟨i,c,(hl i).1 h1,h2⟩
 refine⟨⟨h.hd.stay hs,h.size,fun i=>(h.tm i).stay hs,fun i b' c hi' hri=>?_,fun i hi' hri=>?_,fun i b' c hi' hri=>h.out i b' c ((hl i).1 hi') hri,
  fun i j b' c c' hi' hj hri hrj=>h.inj i j b' c c' ((hl i).1 hi') ((hl j).1 hj) hri hrj,fun i hi'=>?_,?_,h.oldF,fun i hi'=>?_,fun i b' c hi' hri=>h.disj i b' c ((hl i).1 hi') hri,?_⟩,hs⟩
 ·rw[S.blk_up]
  by_cases hn:id=i
  ·subst hn
   rw[hρ] at hri
   injection hri with hri;injection hri with h1 h2
   subst h1 h2
   rw[if_pos rfl,hsz]
   exact⟨(h.hp id b cap hi hρ).1,hb⟩
  ·rw[if_neg hn,hsz]
   obtain⟨h1,h2⟩:=h.hp i b' c ((hl i).1 hi') hri
   have hne:b'≠b:=fun e=>hn (h.inj id i b cap c hi ((hl i).1 hi') hρ (by rw[←e];exact hri))
   exact⟨h1,h2.stay hs (hk b' hne)⟩
 ·rw[S.blk_up]
  by_cases hn:id=i
  ·subst hn;rw[hρ] at hri;cases hri
  ·rw[if_neg hn];exact h.hp0 i ((hl i).1 hi') hri
 ·have:=h.nx i ((hl i).1 hi')
  have h2:=h.nx id hi
  show i<max s.nx (id+1)
  omega
 ·refine⟨ho.trans h.kept.os,ht.trans h.kept.tape,hu.trans h.kept.output,by rw[hsz];exact h.kept.size,fun k hk' hO=>?_⟩
  have hne:k≠b:=fun e=>by
   subst e
   rcases h.out id k cap hi hρ with h1|h1
   ·exact hO h1
   ·omega
  exact(hk k hne).trans (h.kept.block k hk' hO)
 ·obtain⟨h1,h2⟩:=h.pin i hi'
  refine⟨h1,?_⟩
  rw[S.blk_up]
  by_cases hn:id=i
  ·subst hn;rw[if_pos rfl];exact hpin hi'
  ·rw[if_neg hn];exact h2
 ·refine h.ows.sub (fun k hF=>by have:=h.ows.lt k hF;omega) fun i j d hw=>?_
  obtain⟨b',c,y,n,c',l1,l2,l3,l4,l5⟩:=hw
  rw[S.blk_up] at l3
  have l1':=(hl i).1 l1
  by_cases hn:id=i
  ·subst hn
   rw[hρ] at l2
   injection l2 with l2;injection l2 with e1 e2
   subst e1 e2
   rw[if_pos rfl] at l3
   obtain⟨z,g1,g2,n',c'',g3⟩:=hx2 j y d n c' l3 l4 l5
   exact⟨b,cap,z,n',c'',hi,hρ,g1,g2,g3⟩
  ·rw[if_neg hn] at l3
   have hne:b'≠b:=fun e=>hn (h.inj id i b cap c hi l1' hρ (by rw[←e];exact l2))
   have hbl:=(h.hp i b' c l1' l2).1
   exact⟨b',c,y,n,c',l1',l2,l3,l4,by rw[←l5];exact(World.cell?_of_block (w:=w) (hk b' hne)).symm⟩
theorem Sim.overG (h:Sim cx ρ s a w) {id b cap:Nat} {x:B} (hi:s.live id) (hρ:ρ id=some (b,cap)) (hx:x.live=true) (hpin:id<cx.k→x.isBlk=true) {w':World} (hsz:w.heap.size≤w'.heap.size)
  (hk:∀k,k<w.heap.size→k≠b→w'.heap[k]?=w.heap[k]?) (ho:w'.os=w.os) (ht:w'.tape=w.tape) (hu:w'.output=w.output)
  (hb:HB w' (s.up [(id,x)]).live ρ b cap x) (hx2:∀(j:Nat) (y:C) (d n c:Nat),x.cells[j]?=some y→y.isOw=true→w'.cell? ⟨b,j,none⟩=some (.slice (some ⟨d,0,none⟩) n c)→∃z,(s.blk id).cells[j]?=some z∧z.isOw=true∧∃n c,w.cell? ⟨b,j,none⟩=some (.slice (some ⟨d,0,none⟩) n c)):Sim cx ρ (s.up [(id,x)]) a w'∧q2s w s.live ρ w' (s.up [(id,x)]).live ρ:=by
 have hl:∀i,(s.up [(id,x)]).live i↔s.live i:=fun i=>by
  unfold S.live
  rw[S.blk_up]
  by_cases hn:id=i
  ·subst hn;rw[if_pos rfl];exact⟨fun _=>hi,fun _=>hx⟩
  ·rw[if_neg hn]
 have hs:q2s w s.live ρ w' (s.up [(id,x)]).live ρ:=by
  refine⟨hsz,fun k hk' hO=>hk k hk' (fun e=>hO (.inr ⟨id,cap,hi,by rw[e];exact hρ⟩)),fun k hk' hO=>?_,fun i hi'=>⟨(hl i).2 hi',rfl⟩,fun k hF=>⟨hF,fun hk'=>hk k hk' (fun e=>h.disj id b cap hi hρ (e ▸ hF))⟩⟩
  rcases hO with hF|⟨i,c,h1,h2⟩
  ·exact .inl hF
  ·exact .inr ⟨i,c,(hl i).1 h1,h2⟩
 refine⟨⟨h.hd.stay hs,h.size,fun i=>(h.tm i).stay hs,fun i b' c hi' hri=>?_,fun i hi' hri=>?_,fun i b' c hi' hri=>h.out i b' c ((hl i).1 hi') hri,
  fun i j b' c c' hi' hj hri hrj=>h.inj i j b' c c' ((hl i).1 hi') ((hl j).1 hj) hri hrj,fun i hi'=>?_,?_,h.oldF,fun i hi'=>?_,fun i b' c hi' hri=>h.disj i b' c ((hl i).1 hi') hri,?_⟩,hs⟩
 ·rw[S.blk_up]
  by_cases hn:id=i
  ·subst hn
   rw[hρ] at hri
   injection hri with hri;injection hri with h1 h2
   subst h1 h2
   rw[if_pos rfl]
   exact⟨qwv (h.hp id b cap hi hρ).1 hsz,hb⟩
  ·rw[if_neg hn]
   obtain⟨h1,h2⟩:=h.hp i b' c ((hl i).1 hi') hri
   have hne:b'≠b:=fun e=>hn (h.inj id i b cap c hi ((hl i).1 hi') hρ (by rw[←e];exact hri))
   exact⟨qwv h1 hsz,h2.stay hs (hk b' h1 hne)⟩
 ·rw[S.blk_up]
  by_cases hn:id=i
  ·subst hn;rw[hρ] at hri;cases hri
  ·rw[if_neg hn];exact h.hp0 i ((hl i).1 hi') hri
 ·have:=h.nx i ((hl i).1 hi')
  have h2:=h.nx id hi
  show i<max s.nx (id+1)
  omega
 ·refine⟨ho.trans h.kept.os,ht.trans h.kept.tape,hu.trans h.kept.output,qww h.kept.size hsz,fun k hk' hO=>?_⟩
  have hne:k≠b:=fun e=>by
   subst e
   rcases h.out id k cap hi hρ with h1|h1
   ·exact hO h1
   ·omega
  exact(hk k (qwv hk' h.kept.size) hne).trans (h.kept.block k hk' hO)
 ·obtain⟨h1,h2⟩:=h.pin i hi'
  refine⟨h1,?_⟩
  rw[S.blk_up]
  by_cases hn:id=i
  ·subst hn;rw[if_pos rfl];exact hpin hi'
  ·rw[if_neg hn];exact h2
 ·refine h.ows.sub (fun k hF=>by have:=h.ows.lt k hF;omega) fun i j d hw=>?_
  obtain⟨b',c,y,n,c',l1,l2,l3,l4,l5⟩:=hw
  rw[S.blk_up] at l3
  have l1':=(hl i).1 l1
  by_cases hn:id=i
  ·subst hn
   rw[hρ] at l2
   injection l2 with l2;injection l2 with e1 e2
   subst e1 e2
   rw[if_pos rfl] at l3
   obtain⟨z,g1,g2,n',c'',g3⟩:=hx2 j y d n c' l3 l4 l5
   exact⟨b,cap,z,n',c'',hi,hρ,g1,g2,g3⟩
  ·rw[if_neg hn] at l3
   have hne:b'≠b:=fun e=>hn (h.inj id i b cap c hi l1' hρ (by rw[←e];exact l2))
   have hbl:=(h.hp i b' c l1' l2).1
   exact⟨b',c,y,n,c',l1',l2,l3,l4,by rw[←l5];exact(World.cell?_of_block (w:=w) (hk b' hbl hne)).symm⟩
theorem Sim.drew (h:Sim cx ρ s a w):Sim cx ρ s a w.drew:=by
 have hs:q2s w s.live ρ w.drew s.live ρ:=⟨qwb _,fun _ _ _=>rfl,fun _ _ h=>h,fun i hi=>⟨hi,rfl⟩,fun b hF=>⟨hF,fun _=>rfl⟩⟩
 exact⟨h.hd.stay hs,h.size,fun i=>(h.tm i).stay hs,fun i b c hi hr=>⟨(h.hp i b c hi hr).1,(h.hp i b c hi hr).2.stay hs rfl⟩,h.hp0,h.out,h.inj,h.nx,⟨h.kept.os,h.kept.tape,h.kept.output,h.kept.size,h.kept.block⟩,h.oldF,h.pin,h.disj,⟨h.ows.lt,h.ows.one,h.ows.new⟩⟩
end
def putCells (w:World) (b o:Nat):List Value→World
 | []=>w
 | v::vs=>putCells (w.setCell ⟨b,o,none⟩ v) b (o+1) vs
def spl {α:Type} (cs:List α) (o:Nat):List α→List α
 | []=>cs
 | x::xs=>spl (cs.set o x) (o+1) xs
theorem JQ {α:Type}:∀(xs cs:List α) (o:Nat),(spl cs o xs).length=cs.length
 | [],_,_=>rfl
 | x::xs,cs,o=>by rw[spl,JQ xs];simp
def qcA (vs:Array Value) (o:Nat):List Value→Array Value
 | []=>vs
 | x::xs=>qcA (vs.setIfInBounds o x) (o+1) xs
theorem ZR:∀(xs:List Value) (vs:Array Value) (o:Nat),(qcA vs o xs).size=vs.size
 | [],_,_=>rfl
 | x::xs,vs,o=>by rw[qcA,ZR xs];simp
theorem Jf:∀(vs:List Value) (w:World) (b o:Nat),(putCells w b o vs).heap.size=w.heap.size∧(∀k,k≠b→(putCells w b o vs).heap[k]?=w.heap[k]?)∧(putCells w b o vs).os=w.os∧(putCells w b o vs).tape=w.tape∧(putCells w b o vs).output=w.output∧
  ∀cs t,w.heap[b]?=some (.cells cs t (0,0))→(putCells w b o vs).heap[b]?=some (.cells (qcA cs o vs) t (0,0))
 | [],w,b,o=>⟨rfl,fun _ _=>rfl,rfl,rfl,rfl,fun cs t h=>h⟩
 | v::vs,w,b,o=>by
  obtain⟨h1,h2,h3,h4,h5,h6⟩:=Jf vs (w.setCell ⟨b,o,none⟩ v) b (o+1)
  refine⟨h1.trans (by simp[World.setCell]),fun k hk=>(h2 k hk).trans (Below.heap_setCell _ _ _ _ hk),h3,h4,h5,fun cs t h=>h6 _ t ?_⟩
  simp[World.setCell,Array.getElem?_modify,h]
def C.known:C→Bool
 | .any=>false
 | .ow _ _ _ _=>false
 | _=>true
theorem RD.one {w:World} {O:Nat→Prop} {v:Value} {x:D} (h:RD w O v x):v.oneCell'=true:=by cases h<;>rfl
theorem RC.one {w:World} {L:Nat→Prop} {ρ:Pl} {v:Value} {c:C} (h:RC w L ρ v c) (hk:c.known=true):v.oneCell'=true:=by
 cases h with
 | any v=>cases hk
 | d v x h=>exact h.one
 | hd k i b cap h1 h2=>cases k<;>rfl
 | _=>rfl
theorem q5z {P:Program} {w:World} {b o:Nat} {t:TypeId} {cs:Array Value} {v:Value} (h:w.heap[b]?=some (.cells cs t (0,0))) (ho:o<cs.size) (hv:v.oneCell'=true) :
  (store ⟨b,o,none⟩ v).run P w = .ok () (w.setCell ⟨b,o,none⟩ v):=by
 have hc:w.cell? ⟨b,o,none⟩=some (cs[o]):=by simp[World.cell?,h,ho]
 have hf:w.frozen? ⟨b,o,none⟩=false:=by simp[World.frozen?,h]
 unfold store
 cases v with
 | agg _=>simp[Value.oneCell'] at hv
 | tuple _=>simp[Value.oneCell'] at hv
 | _=>simp[Sem.run,hc,hf]
theorem Jg {P:Program} {b o:Nat} {t:TypeId}:∀(vs:List Value) (w:World) (cs:Array Value) (i:Nat),w.heap[b]?=some (.cells cs t (0,0))→o+i+vs.length≤cs.size→(∀v∈vs,v.oneCell'=true)→
  (storeCells ⟨b,o,none⟩ vs i).run P w = .ok () (putCells w b (o+i) vs)
 | [],w,cs,i,_,_,_=>rfl
 | v::vs,w,cs,i,h,hl,hv=>by
  simp only[qw6] at hl
  rw[storeCells,Sem.run_bind,Qp,q5z h (by omega) (hv v qwa)]
  simp only[Result.andThen_ok]
  have:=Jg (P:=P) (b:=b) (o:=o) (t:=t) vs (w.setCell ⟨b,o+i,none⟩ v) (cs.setIfInBounds (o+i) v) (i+1) (by simp[World.setCell,Array.getElem?_modify,h]) (by simp;omega) (fun u hu=>hv u (qw3 _ hu))
  rw[this]
  rfl
theorem q1f {α:Type} {Pr:Nat→Value→α→Prop}:∀(xs:List α) (k:Nat),(∀j c,xs[j]?=some c→∃v,Pr (k+j) v c)→∃l:List Value,l.length=xs.length∧∀j c,xs[j]?=some c→∃v,l[j]?=some v∧Pr (k+j) v c
 | [],_,_=>⟨[],rfl,fun j c h=>by simp at h⟩
 | x::xs,k,h=>by
  obtain⟨v,hv⟩:=h 0 x rfl
  obtain⟨l,hl,hc⟩:=q1f xs (k+1) (fun j c hj=>by
   obtain⟨u,hu⟩:=h (j+1) c (by simpa using hj)
   exact⟨u,by rw[show k+1+j=k+(j+1) by omega];exact hu⟩)
  refine⟨v::l,by simp[hl],fun j c hj=>?_⟩
  cases j with
  | zero=>simp only[qw5,qwK] at hj;subst hj;exact⟨v,rfl,hv⟩
  | succ j=>
   obtain⟨u,h1,h2⟩:=hc j c (by simpa using hj)
   exact⟨u,by simpa using h1,by rw[show k+(j+1)=k+1+j by omega];exact h2⟩
end
noncomputable section
open Go.RowKit
abbrev KK:=R→S→Prop
def Qn (cx:Cx) (K:KK) (o:Oper) (a:Act) (next:Act→World→Prop):Prop:=
 ∀(r:R) (s':S) (ρ':Pl) (v:Value) (w':World),K r s'→Sim cx ρ' s' a w'→RR w' s'.live ρ' v r→next (a.put o.dst v) w'
theorem qE {P:Program} {o:Oper} {a:Act} {w w':World} {next:Act→World→Prop} {Q:Exit→Act→World→Prop} {m:Sem Value} {v:Value} (he:execOp a.eval o=(do pure (.value (←m)))) (hr:m.run P w = .ok v w')
  (h:next (a.put o.dst v) w'):o.wp P a w next Q:=by
 unfold Oper.wp
 rw[he]
 simp only[Sem.run_bind,hr,Result.andThen_ok,Sem.run_pure]
 exact h
theorem q7T {P:Program} {o:Oper} {a:Act} {w w':World} {next:Act→World→Prop} {Q:Exit→Act→World→Prop} {m:Sem Unit} (he:execOp a.eval o=(do m;pure .skip)) (hr:m.run P w = .ok () w')
  (h:next (a.put o.dst undef) w'):o.wp P a w next Q:=by
 unfold Oper.wp
 rw[he]
 simp only[Sem.run_bind,hr,Result.andThen_ok,Sem.run_pure]
 exact h
def ld (T:Ty) (cs:List C) (off:Nat) (t:TypeId):Option R:=
 match T.k t with
 | .st _ | .arr _ _=>if off+T.sz t≤cs.length then some (.agg ((cs.drop off).take (T.sz t))) else none
 | .other=>none
 | _=>(cs[off]?).map .c
theorem q3k {P:Program} {t:TypeId} {d:TypeDesc} (hu:P.underlying t=some d) (w:World):(isAgg t).run P w = .ok (q1s d).ag w:=by
 unfold isAgg
 rw[Sem.run_bind,run_underlying hu]
 cases d<;>rfl
theorem zH {P:Program} {t:TypeId} {i:TypeInfo} (hi:P.info? t=some i) (w:World):(sizeOf t).run P w = .ok i.size w:=by
 simp[sizeOf,typeInfo,hi]
theorem qd4 {P:Program} {T:Ty} (hA:Ag P T) {t:TypeId} {w:World} {L:Nat→Prop} {ρ:Pl} {b o off:Nat} {cs:List C} {r:R} (hl:ld T cs off t=some r)
  (hc:∀j c,cs[j]?=some c→∃v,w.cell? ⟨b,o+j,none⟩=some v∧RC w L ρ v c):∃v,(loadVar t ⟨b,o+off,none⟩).run P w = .ok v w∧RR w L ρ v r:=by
 have hk:T.k t ≠ .other:=by intro h;rw[ld,h] at hl;cases hl
 obtain⟨d,i,z,ht⟩:=hA.at_ hk
 have hload:∀c,cs[off]?=some c→∃v,(load ⟨b,o+off,none⟩).run P w = .ok v w∧RR w L ρ v (.c c):=by
  intro c hj
  obtain⟨v,h1,h2⟩:=hc off c hj
  exact⟨v,by simp[load,Sem.run,h1],.c _ _ h2⟩
 have hagg:(T.k t).ag=true→r = .agg ((cs.drop off).take (T.sz t))∧off+T.sz t≤cs.length→∃v,(loadVar t ⟨b,o+off,none⟩).run P w = .ok v w∧RR w L ρ v r:=by
  intro h0 ⟨h1,h2⟩
  obtain⟨l,h3,h4⟩:=q1f (Pr:=fun j v c=>w.cell? ⟨b,o+(off+j),none⟩=some v∧RC w L ρ v c) ((cs.drop off).take (T.sz t)) 0 (fun j c hj=>by
   have hj':j<T.sz t:=by
    have:=(qvZ.1 hj).1
    simp only[qwo] at this
    omega
   rw[qwu hj',List.getElem?_drop] at hj
   rw[qwj]
   exact hc (off+j) c hj)
  have hlen:l.length=T.sz t:=by rw[h3,qwo,qwH];omega
  have hrun:=run_loadCells_list (P:=P) (w:=w) ⟨b,o+off,none⟩ l (fun j v hj=>by
   have hj':j<((cs.drop off).take (T.sz t)).length:=by rw[←h3];exact(qvZ.1 hj).1
   obtain⟨u,h5,h6,-⟩:=h4 j _ (qvX hj')
   rw[hj] at h5
   injection h5 with h5
   subst h5
   rw[Qp,show o+off+j=o+(off+(0+j)) by omega]
   exact h6)
  rw[hlen] at hrun
  refine⟨.agg l.toArray,?_,?_⟩
  ·unfold loadVar
   rw[Sem.run_bind,q3k ht.ud,ht.kd,h0]
   simp only[Result.andThen_ok,if_true,Sem.run_bind,zH ht.info,ht.sz,hrun,Sem.run_pure]
  ·rw[h1]
   refine .agg _ _ (by simpa using h3) (fun j c hj=>?_)
   obtain⟨u,h5,-,h7⟩:=h4 j c hj
   simpa [qw1,h5] using h7
 have hone:(T.k t).ag=false→(cs[off]?).map R.c=some r→∃v,(loadVar t ⟨b,o+off,none⟩).run P w = .ok v w∧RR w L ρ v r:=by
  intro h0 h1
  obtain⟨c,h2,h3⟩:=qw8.1 h1
  obtain⟨v,h4,h5⟩:=hload c h2
  refine⟨v,?_,h3 ▸ h5⟩
  unfold loadVar
  rw[Sem.run_bind,q3k ht.ud,ht.kd,h0]
  simp only[Result.andThen_ok,Bool.false_eq_true,if_false]
  exact h4
 unfold ld at hl
 cases hkt:T.k t with
 | st fs=>
  rw[hkt] at hl hagg
  simp only at hl
  split at hl
  ·injection hl with hl;exact hagg rfl ⟨hl.symm,by assumption⟩
  ·cases hl
 | arr n e=>
  rw[hkt] at hl hagg
  simp only at hl
  split at hl
  ·injection hl with hl;exact hagg rfl ⟨hl.symm,by assumption⟩
  ·cases hl
 | other=>exact absurd hkt hk
 | int _=>rw[hkt] at hl hone;exact hone rfl hl
 | bool=>rw[hkt] at hl hone;exact hone rfl hl
 | str=>rw[hkt] at hl hone;exact hone rfl hl
 | ptr _=>rw[hkt] at hl hone;exact hone rfl hl
 | sl _=>rw[hkt] at hl hone;exact hone rfl hl
 | fn=>rw[hkt] at hl hone;exact hone rfl hl
 | mp _ _=>rw[hkt] at hl hone;exact hone rfl hl
section
variable {P:Program} {T:Ty} {cx:Cx} {ρ:Pl} {s:S} {a:Act} {w:World} {o:Oper} {next:Act→World→Prop} {Q:Exit→Act→World→Prop} {K:KK}
theorem qcW {x:Operand} (ho:o.op = .move x∨o.op = .assign x) (hs:Sim cx ρ s a w) (h:K (s.ev x) s) (hn:Qn cx K o a next):o.wp P a w next Q:=by
 unfold Oper.wp execOp
 rcases ho with ho|ho
 all_goals
  simp only[ho,Sem.run_pure]
  exact hn _ _ ρ _ _ h hs (hs.ev x)
def q4M (s:S) (c x y:Operand) (K:KK):Prop:=
 match s.ev c with
 | .c (.d (.bool t))=>K (if t then s.ev x else s.ev y) s
 | _=>False
theorem qht {c x y:Operand} (ho:o.op = .pick c x y) (hs:Sim cx ρ s a w) (h:q4M s c x y K) (hn:Qn cx K o a next):o.wp P a w next Q:=by
 unfold q4M at h
 split at h
 ·rename_i t ht
  have hc:=hs.ev c
  rw[ht] at hc
  have hv:=hc.inv_bool
  unfold Oper.wp execOp
  simp only[ho,hv,asBool,Sem.run_bind,Sem.run_pure,Result.andThen_ok]
  refine hn _ _ ρ _ _ h hs ?_
  cases t
  ·exact hs.ev y
  ·exact hs.ev x
 ·cases h
def q4X (T:Ty) (s:S) (t:TypeId) (x:Operand) (K:KK):Prop:=
 match s.ev x with
 | .c (.ptr id off)=>∃r,ld T (s.blk id).cells off t=some r∧K r s
 | .c (.eptr cs off)=>∃r,ld T (cs.map C.d) off t=some r∧K r s
 | _=>False
theorem qhV (hA:Ag P T) {t:TypeId} {x:Operand} (ho:o.op = .load t x) (hs:Sim cx ρ s a w) (h:q4X T s t x K) (hn:Qn cx K o a next):o.wp P a w next Q:=by
 have he:execOp a.eval o=(do pure (.value (←Instr.loadAt t (a.eval x)))):=by unfold execOp;simp only[ho]
 have hx:=hs.ev x
 unfold q4X at h
 split at h
 ·rename_i id off hxe
  rw[hxe] at hx
  obtain⟨b,cap,h1,h2,h3⟩:=hx.inv_ptr
  obtain⟨r,h4,h5⟩:=h
  obtain⟨v,h6,h7⟩:=qd4 (P:=P) hA (b:=b) (o:=0) h4 (fun j c hj=>by rw[qwj];exact(hs.hp id b cap h1 h2).2.cell hj)
  rw[qwj] at h6
  exact qE he (by rw[h3];exact h6) (hn _ _ ρ _ _ h5 hs h7)
 ·rename_i cs off hxe
  rw[hxe] at hx
  obtain⟨b,o',f,h1,h2,h3,h4,h5⟩:=hx.inv_eptr
  obtain⟨r,h6,h7⟩:=h
  obtain⟨v,h8,h9⟩:=qd4 (P:=P) hA (L:=s.live) (ρ:=ρ) (b:=b) (o:=o') h6 (fun j c hj=>by
   rw[qw9] at hj
   obtain⟨x,h10,h11⟩:=qw8.1 hj
   exact⟨f j,h4 j x h10,h11 ▸ .d _ _ (h5 j x h10)⟩)
  exact qE he (by rw[h1];exact h8) (hn _ _ ρ _ _ h7 hs h9)
 ·cases h
def R.cells:R→Option (List C)
 | .c x=>some [x]
 | .agg xs=>some xs
 | _=>none
theorem RR.cells {L:Nat→Prop} {v:Value} {r:R} {cs:List C} (h:RR w L ρ v r) (hc:r.cells=some cs) (hk:cs.all C.known=true) :
  v.cells.size=cs.length∧(∀j c,cs[j]?=some c→RC w L ρ (v.cells.getD j undef) c)∧∀u∈v.cells.toList,u.oneCell'=true:=by
 have hone:∀{us:Array Value},us.size=cs.length→(∀j c,cs[j]?=some c→RC w L ρ (us.getD j undef) c)→∀u∈us.toList,u.oneCell'=true:=by
  intro us hz hr u hu
  obtain⟨j,hj⟩:=List.getElem?_of_mem hu
  have hjl:j<us.size:=by simpa using (qvZ.1 hj).1
  have h1:=hr j cs[j] (qvX (by omega))
  have h2:us.getD j undef=u:=by simp[qw1] at hj ⊢;simp[hj]
  rw[h2] at h1
  exact h1.one (qwc.1 hk _ (qwM _))
 cases h with
 | c v x h=>
  simp only[R.cells,qwK] at hc
  subst hc
  have hx:x.known=true:=by simpa using hk
  have h1:=h.one hx
  have h2:v.cells=#[v]:=by cases v<;>first|rfl|(simp[Value.oneCell'] at h1)
  have h3:∀j c,[x][j]?=some c→RC w L ρ ((#[v]:Array Value).getD j undef) c:=by
   intro j c hj
   cases j with
   | zero=>simp only[qw5,qwK] at hj;subst hj;exact h
   | succ j=>simp at hj
  rw[h2]
  exact⟨rfl,h3,hone rfl h3⟩
 | agg vs xs h1 h2=>
  simp only[R.cells,qwK] at hc
  subst hc
  exact⟨h1,h2,hone h1 h2⟩
 | tup vs xs h1 h2=>cases hc
 | any v=>cases hc
end
end
noncomputable section
open Go.RowKit
section
variable {P:Program} {T:Ty} {cx:Cx} {ρ:Pl} {s:S} {a:Act} {w:World} {o:Oper} {next:Act→World→Prop} {Q:Exit→Act→World→Prop} {K:KK}
theorem ZO {cs:List C} (h:cs.all C.known=true):cs.all C.noow=true:=qwc.2 fun c hc=>by
 have:=qwc.1 h c hc
 cases c<;>first|rfl|cases this
theorem qfI {v:Value} {c:C} (h:okZ v c=true):c.noow=true:=by
 cases c with
 | ow e sz n cs=>
  unfold okZ at h
  split at h<;>first|contradiction|(rename_i h1;cases h1)
 | _=>rfl
theorem q7n:∀{vs:List Value} {cs:List C},qdb vs cs=true→cs.all C.noow=true
 | [],[],_=>rfl
 | v::vs,c::cs,h=>by
  simp only[qdb,qwr] at h
  rw[List.all_cons,q7n h.2,qwW]
  exact qfI h.1
 | [],_::_,h=>by simp[qdb] at h
 | _::_,[],h=>by simp[qdb] at h
theorem qaN (hs:Sim cx ρ s a w) {p:Nat} (hp:¬ s.live p) (t:TypeId) {vs:Array Value} {cs:List C} (hz:vs.size=cs.length) (hc:∀j c,cs[j]?=some c→RC w s.live ρ (vs.getD j undef) c) (hx:cs.all C.noow=true) :
  ∃ρ',Sim cx ρ' (s.up [(p,.blk t cs)]) a (w.alloc (.cells vs t))∧RR (w.alloc (.cells vs t)) (s.up [(p,.blk t cs)]).live ρ' (.pointer (some ⟨w.heap.size,0,none⟩)) (.c (.ptr p 0)):=by
 have hst:=JV (w:=w) (ρ:=ρ) (x := .blk t cs) hp (.cells vs t) 0
 refine⟨ρ.set p w.heap.size 0,hs.new hp ⟨vs,heap_alloc_new w _,hz,fun j c hj=>(hc j c hj).stay hst⟩ hx,.c _ _ (.ptr p 0 w.heap.size 0 ?_ (if_pos rfl))⟩
 unfold S.live;rw[S.blk_up,if_pos rfl];rfl
theorem qc2 (hs:Sim cx ρ s a w) {p:Nat} (hp:¬ s.live p) (e:TypeId) {sz n cap:Nat} {vs:Array Value} {cs:List C} (hz:cs.length≤vs.size) (hcap:vs.size=cap*sz) (hm:cap≤maxLen) (h0:0<sz) (hn:n≤cap)
  (hc:∀j c,cs[j]?=some c→RC w s.live ρ (vs.getD j undef) c) (hx:cs.all C.noow=true) :
  ∃ρ',Sim cx ρ' (s.up [(p,.row e sz cs)]) a (w.alloc (.cells vs e))∧RR (w.alloc (.cells vs e)) (s.up [(p,.row e sz cs)]).live ρ' (.slice (some ⟨w.heap.size,0,none⟩) n cap) (.c (.own p sz 0 n)):=by
 have hst:=JV (w:=w) (ρ:=ρ) (x := .row e sz cs) hp (.cells vs e) cap
 refine⟨ρ.set p w.heap.size cap,hs.new hp ⟨vs,heap_alloc_new w _,hz,hcap,hm,h0,fun j c hj=>(hc j c hj).stay hst⟩ hx,.c _ _ ?_⟩
 have:=RC.own (w:=w.alloc (.cells vs e)) (L:=(s.up [(p,.row e sz cs)]).live) (ρ:=ρ.set p w.heap.size cap) p sz 0 n w.heap.size cap (by unfold S.live;rw[S.blk_up,if_pos rfl];rfl) (if_pos rfl) (by omega) hm
 simpa using this
def q5S (T:Ty) (s:S) (p:Nat) (t:TypeId) (K:KK):Prop:=T.k t ≠ .other∧K (.c (.ptr p 0)) (s.up [(p,.blk t (T.zero t))])
theorem qg0 (hA:Ag P T) {t:TypeId} {p:Nat} (hp:¬ s.live p) (ho:o.op = .alloc t) (hs:Sim cx ρ s a w) (h:q5S T s p t K) (hn:Qn cx K o a next):o.wp P a w next Q:=by
 obtain⟨h1,h2⟩:=h
 obtain⟨d,i,z,ht⟩:=hA.at_ h1
 obtain⟨h3,h4⟩:=q1p (w:=w) (L:=s.live) (ρ:=ρ) ht.zs
 obtain⟨ρ',h5,h6⟩:=qaN hs hp t (vs:=z.cells) (by simpa using h3) (fun j c hj=>by have:=h4 j c hj;simpa [qw1,List.getD] using this) (q7n ht.zs)
 have he:execOp a.eval o=(do pure (.value (←Instr.alloc t true (.tuple #[])))):=by unfold execOp;simp only[ho]
 refine qE he ?_ (hn _ _ ρ' _ _ h2 h5 h6)
 simp[Instr.alloc,zeroValue,typeInfo,ht.info,ht.zero,newVar,newRow,newObj,Sem.run]
def qey (s:S) (p:Nat) (t:TypeId) (x:Operand) (K:KK):Prop:=
 ∃cs,(s.ev x).cells=some cs∧cs.all C.known=true∧K (.c (.ptr p 0)) (s.up [(p,.blk t cs)])
theorem qmz {t:TypeId} {x:Operand} {p:Nat} (hp:¬ s.live p) (ho:o.op = .box t x) (hs:Sim cx ρ s a w) (h:qey s p t x K) (hn:Qn cx K o a next):o.wp P a w next Q:=by
 obtain⟨cs,h1,h2,h3⟩:=h
 obtain⟨h4,h5,-⟩:=(hs.ev x).cells h1 h2
 obtain⟨ρ',h6,h7⟩:=qaN hs hp t h4 h5 (ZO h2)
 have he:execOp a.eval o=(do pure (.value (←Instr.box t (a.eval x)))):=by unfold execOp;simp only[ho]
 refine qE he ?_ (hn _ _ ρ' _ _ h3 h6 h7)
 simp[Instr.box,newVar,newRow,newObj,Sem.run]
def B.set (x:B) (off:Nat) (ys:List C):B:=
 match x with
 | .blk t cs => .blk t (spl cs off ys)
 | .row e sz cs => .row e sz (spl cs off ys)
 | .ob o => .ob o
 | .dead => .dead
def B.isOb:B→Bool
 | .ob _=>true
 | _=>false
def q3A (T:Ty) (s:S) (t:TypeId) (x y:Operand) (K:KK):Prop:=
 match s.ev x with
 | .c (.ptr id off)=>∃ys,(s.ev y).cells=some ys∧ys.all C.known=true∧T.k t ≠ .other∧ys.length=T.sz t∧off+ys.length≤(s.blk id).cells.length∧(s.blk id).isOb=false∧K .any (s.up [(id,(s.blk id).set off ys)])
 | _=>False
theorem q8q:∀(ys:List C) (off:Nat),spl ([]:List C) off ys=[]
 | [],_=>rfl
 | y::ys,off=>by rw[spl,List.set_nil];exact q8q ys (off+1)
theorem qby:∀(ys:List C) (us:List Value) (cs:List C) (vs:Array Value) (off:Nat),us.length=ys.length→ys.all C.known=true→∀{j:Nat} {y:C},(spl cs off ys)[j]?=some y→y.isOw=true→cs[j]?=some y∧(qcA vs off us)[j]?=vs[j]?
 | [],us,cs,vs,off,hl,_,j,y,h,_=>by
  have:us=[]:=qwe hl
  subst this
  exact⟨h,rfl⟩
 | x::ys,[],cs,vs,off,hl,_,j,y,_,_=>by cases hl
 | x::ys,u::us,cs,vs,off,hl,hk,j,y,h,ho=>by
  rw[List.all_cons,qwr] at hk
  obtain⟨h1,h2⟩:=qby ys us (cs.set off x) (vs.setIfInBounds off u) (off+1) (by simpa using hl) hk.2 h ho
  have hne:off≠j:=fun e=>by
   subst e
   rw[List.getElem?_set] at h1
   rw[if_pos rfl] at h1
   split at h1
   ·injection h1 with h1
    subst h1
    have h3:=hk.1
    cases x with
    | ow=>cases h3
    | _=>cases ho
   ·cases h1
  rw[qwT hne] at h1
  refine⟨h1,h2.trans ?_⟩
  rw[Array.getElem?_setIfInBounds,if_neg hne]
theorem q5E {w:World} {L:Nat→Prop} {ρ:Pl}:∀(ys:List C) (us:List Value) (cs:List C) (vs:Array Value) (off:Nat),us.length=ys.length→(∀j c,ys[j]?=some c→RC w L ρ (us.getD j undef) c)→
  cs.length≤vs.size→off+ys.length≤cs.length→(∀j c,cs[j]?=some c→RC w L ρ (vs.getD j undef) c)→∀j c,(spl cs off ys)[j]?=some c→RC w L ρ ((qcA vs off us).getD j undef) c
 | [],us,cs,vs,off,hl,_,_,_,h=>by
  have:us=[]:=qwe hl
  subst this
  exact h
 | y::ys,us,cs,vs,off,hl,hu,hz,ho,h=>by
  cases us with
  | nil=>simp at hl
  | cons u us=>
   simp only[qw6] at hl ho
   refine q5E ys us (cs.set off y) (vs.setIfInBounds off u) (off+1) (by omega) (fun j c hj=>?_) (by simpa using hz) (by simp;omega) (fun j c hj=>?_)
   ·have:=hu (j+1) c (by simpa using hj)
    simpa using this
   ·by_cases hoj:off=j
    ·subst hoj
     rw[qwS (by omega)] at hj
     injection hj with hj
     subst hj
     have:=hu 0 y rfl
     have h0:off<vs.size:=by omega
     simpa [qw1,h0] using this
    ·rw[qwT hoj] at hj
     have:=h j c hj
     simpa [qw1,Array.getElem?_setIfInBounds,hoj] using this
theorem B.set_live {x:B} {off:Nat} {ys:List C} (h:x.live=true):(x.set off ys).live=true:=by cases x<;>first|rfl|(cases h)
theorem B.set_isBlk {x:B} {off:Nat} {ys:List C} (h:x.isBlk=true):(x.set off ys).isBlk=true:=by cases x<;>first|rfl|(cases h)
theorem qgc (hA:Ag P T) {t:TypeId} {x y:Operand} (ho:o.op = .store t x y) (hs:Sim cx ρ s a w) (h:q3A T s t x y K) (hn:Qn cx K o a next):o.wp P a w next Q:=by
 have he:execOp a.eval o=(do Instr.storeAt t (a.eval x) (a.eval y);pure .skip):=by unfold execOp;simp only[ho]
 have hx:=hs.ev x
 unfold q3A at h
 split at h
 ·rename_i id off hxe
  rw[hxe] at hx
  obtain⟨b,cap,h1,h2,h3⟩:=hx.inv_ptr
  obtain⟨ys,h4,h5,h6,h7,h8,hob,h9⟩:=h
  obtain⟨d,i,z,ht⟩:=hA.at_ h6
  obtain⟨g1,g2,g3⟩:=(hs.ev y).cells h4 h5
  obtain⟨-,hB⟩:=hs.hp id b cap h1 h2
  have hcells:∃vs tt,w.heap[b]?=some (.cells vs tt (0,0))∧(s.blk id).cells.length≤vs.size∧(∀j c,(s.blk id).cells[j]?=some c→RC w s.live ρ (vs.getD j undef) c):=by
   have h1':(s.blk id).live=true:=h1
   revert hB h1' hob
   cases s.blk id with
   | ob o=>intro h;cases h
   | blk tt cs=>rintro-⟨vs,q1,q2,q3⟩ -;exact⟨vs,tt,q1,by rw[q2];exact qwb _,q3⟩
   | row e sz cs=>rintro-⟨vs,q1,q2,q3,q4,q5,q6⟩ -;exact⟨vs,e,q1,q2,q6⟩
   | dead=>intro _ _ h;cases h
  obtain⟨vs,tt,q1,q2,q3⟩:=hcells
  have hlen:(a.eval y).cells.toList.length=ys.length:=by simpa using g1
  have hrun:=Jg (P:=P) (b:=b) (o:=off) (t:=tt) (a.eval y).cells.toList w vs 0 q1 (by rw[hlen];omega) g3
  obtain⟨f1,f2,f3,f4,f5,f6⟩:=Jf (a.eval y).cells.toList w b off
  have f7:=f6 vs tt q1
  rw[Nat.add_zero] at hrun
  have hstay:q2s w s.live ρ (putCells w b off (a.eval y).cells.toList) (s.up [(id,(s.blk id).set off ys)]).live ρ:=by
   have hl:∀i,(s.up [(id,(s.blk id).set off ys)]).live i↔s.live i:=fun i=>by
    unfold S.live
    rw[S.blk_up]
    by_cases hn:id=i
    ·subst hn;rw[if_pos rfl];exact⟨fun _=>h1,fun _=>B.set_live h1⟩
    ·rw[if_neg hn]
   refine⟨by omega,fun k hk' hO=>f2 k (fun e=>hO (.inr ⟨id,cap,h1,by rw[e];exact h2⟩)),fun k hk' hO=>?_,fun i hi'=>⟨(hl i).2 hi',rfl⟩,fun k hF=>⟨hF,fun _=>f2 k (fun e=>hs.disj id b cap h1 h2 (e ▸ hF))⟩⟩
   rcases hO with hF|⟨i,c,r1,r2⟩
   ·exact .inl hF
   ·exact .inr ⟨i,c,(hl i).1 r1,r2⟩
  have hrel:∀j c,(spl (s.blk id).cells off ys)[j]?=some c→RC (putCells w b off (a.eval y).cells.toList) (s.up [(id,(s.blk id).set off ys)]).live ρ ((qcA vs off (a.eval y).cells.toList).getD j undef) c:=fun j c hj=>
   (q5E ys (a.eval y).cells.toList (s.blk id).cells vs off hlen (fun j c hj=>by have:=g2 j c hj;simpa [qw1,List.getD] using this) q2 h8 q3 j c hj).stay hstay
  have hnew:HB (putCells w b off (a.eval y).cells.toList) (s.up [(id,(s.blk id).set off ys)]).live ρ b cap ((s.blk id).set off ys):=by
   have h1':(s.blk id).live=true:=h1
   revert hB h1' hrel hob
   cases s.blk id with
   | ob o=>intro h;cases h
   | blk tt' cs=>
    rintro-⟨vs',r1,r2,r3⟩ hrel -
    rw[q1] at r1
    injection r1 with r1;injection r1 with r1 r4
    subst r1 r4
    exact⟨_,f7,by rw[ZR,JQ];exact r2,hrel⟩
   | row e sz cs=>
    rintro-⟨vs',r1,r2,r3,r5,r6,r7⟩ hrel -
    rw[q1] at r1
    injection r1 with r1;injection r1 with r1 r4
    subst r1 r4
    exact⟨_,f7,by rw[ZR,JQ];exact r2,by rw[ZR];exact r3,r5,r6,hrel⟩
   | dead=>intro _ _ _ h;cases h
  obtain⟨hS,-⟩:=hs.over h1 h2 (B.set_live h1) (fun hk=>B.set_isBlk (hs.pin id hk).2) f1 f2 f3 f4 f5 hnew (fun j y d n c hy how hw=>by
   have hsc:((s.blk id).set off ys).cells=spl (s.blk id).cells off ys:=by
    revert hob
    cases s.blk id with
    | ob o=>intro h;cases h
    | blk t cs=>intro _;rfl
    | row e sz cs=>intro _;rfl
    | dead=>intro _;show[]=spl [] off ys;exact(q8q ys off).symm
   rw[hsc] at hy
   obtain⟨e1,e2⟩:=qby ys _ _ vs off hlen h5 hy how
   refine⟨y,e1,how,n,c,?_⟩
   rw[←hw]
   simp only[World.cell?,q1,f7]
   exact e2.symm)
  refine q7T he ?_ (hn _ _ ρ _ _ h9 hS (.any _))
  rw[h3]
  simp only[Instr.storeAt,Instr.sureAddr,pure_bind]
  unfold storeVar
  simp only[Sem.run_bind,zH ht.info,Result.andThen_ok]
  rw[if_neg (by rw[g1,h7,ht.sz];simp)]
  exact hrun
 ·cases h
def Ty.foff (T:Ty) (t:TypeId) (f:Nat):Option (Nat×TypeId):=match T.k t with | .st fs=>fs[f]? | _=>none
def J3 (T:Ty) (s:S) (t:TypeId) (x:Operand) (f:Nat) (K:KK):Prop:=
 ∃fo ft,T.foff t f=some (fo,ft)∧T.k ft ≠ .other∧T.sz ft≠0∧
  match s.ev x with
  | .c (.ptr id off)=>K (.c (.ptr id (off+fo))) s
  | .c (.eptr cs off)=>K (.c (.eptr cs (off+fo))) s
  | _=>False
theorem q6L (hA:Ag P T) {t:TypeId} {x:Operand} {f:Nat} (ho:o.op = .fieldAddr t x f) (hs:Sim cx ρ s a w) (h:J3 T s t x f K) (hn:Qn cx K o a next):o.wp P a w next Q:=by
 have he:execOp a.eval o=(do pure (.value (←Instr.fieldAt t (a.eval x) f))):=by unfold execOp;simp only[ho]
 obtain⟨fo,ft,h1,h2,h3,h4⟩:=h
 have hk:T.k t ≠ .other:=by intro h;simp[Ty.foff,h] at h1
 obtain⟨d,i,z,ht⟩:=hA.at_ hk
 obtain⟨d',i',z',ht'⟩:=hA.at_ h2
 have hst:∃fs fd,d = .struct fs∧fs[f]?=some fd∧fd.offset=fo∧fd.type=ft:=by
  have hkd:=ht.kd
  cases d with
  | struct fs=>
   simp only[q1s] at hkd
   simp only[Ty.foff,←hkd,qw9] at h1
   obtain⟨fd,h5,h6⟩:=qw8.1 h1
   injection h6 with h6 h7
   exact⟨fs,fd,rfl,by simpa using h5,h6,h7⟩
  | _=>simp only[q1s] at hkd;simp[Ty.foff,←hkd] at h1
 obtain⟨fs,fd,rfl,hfd,hfo,hft⟩:=hst
 have hrun:∀b off,(Instr.fieldAt t (.pointer (some ⟨b,off,none⟩)) f).run P w = .ok (.pointer (some ⟨b,off+fo,none⟩)) w:=by
  intro b off
  unfold Instr.fieldAt
  simp only[Sem.run_bind,run_underlying ht.ud,Result.andThen_ok,hfd,Instr.sureAddr,Sem.run_pure,fieldPlace,hft,zH ht'.info,ht'.sz,if_neg h3,Qp,hfo]
 have hx:=hs.ev x
 split at h4
 ·rename_i id off hxe
  rw[hxe] at hx
  obtain⟨b,cap,g1,g2,g3⟩:=hx.inv_ptr
  exact qE he (by rw[g3];exact hrun b off) (hn _ _ ρ _ _ h4 hs (.c _ _ (.ptr id (off+fo) b cap g1 g2)))
 ·rename_i cs off hxe
  rw[hxe] at hx
  obtain⟨b,o',f',g1,g2,g3,g4,g5⟩:=hx.inv_eptr
  exact qE he (by rw[g1];exact hrun b _) (hn _ _ ρ _ _ h4 hs (.c _ _ (by rw[qwO];exact .eptr b o' (off+fo) cs f' g2 g3 g4 g5)))
 ·cases h4
def Zp (T:Ty) (s:S) (t:TypeId) (x y:Operand) (K:KK):Prop:=
 match s.ev y,s.ev x with
 | .c (.d (.int _ i)),.c (.d (.sl sz n cs))=>∃e,T.k t = .sl e∧T.k e ≠ .other∧T.sz e=sz∧0≤i∧i<n∧K (.c (.eptr cs (i.toNat*sz))) s
 | .c (.d (.int _ i)),.c (.own id sz off n)=>∃e,T.k t = .sl e∧T.k e ≠ .other∧T.sz e=sz∧0≤i∧i<n∧K (.c (.ptr id ((off+i.toNat)*sz))) s
 | .c (.d (.int _ i)),.c (.ptr id off)=>∃n e,T.k t = .arr n e∧T.k e ≠ .other∧0≤i∧i<n∧K (.c (.ptr id (off+i.toNat*T.sz e))) s
 | _,_=>False
theorem JK {d:TypeDesc} {e:TypeId} (h:q1s d = .sl e):d = .slice e:=by cases d<;>simp[q1s] at h;rw[h]
theorem q6O {d:TypeDesc} {n:Nat} {e:TypeId} (h:q1s d = .arr n e):d = .array n e:=by cases d<;>simp[q1s] at h;rw[h.1,h.2]
theorem q2a {d:TypeDesc} {k:IntKind} (h:q1s d = .int k):d = .int k:=by cases d<;>simp[q1s] at h;rw[h]
theorem Js {d:TypeDesc} (h:q1s d = .str):d = .string:=by cases d<;>simp[q1s] at h;rfl
theorem q5t {d:TypeDesc} (h:q1s d = .bool):d = .bool:=by cases d<;>simp[q1s] at h;rfl
theorem qo8 {d:TypeDesc} {e:TypeId} (h:q1s d = .ptr e):d = .pointer e:=by cases d<;>simp[q1s] at h;rw[h]
theorem qni {d:TypeDesc} {l:List (Nat×TypeId)} (h:q1s d = .st l):∃fs,d = .struct fs∧fs.toList.map (fun f=>(f.offset,f.type))=l:=by cases d<;>simp[q1s] at h;exact⟨_,rfl,h⟩
theorem q6b (hA:Ag P T) {t:TypeId} {x y:Operand} (ho:o.op = .indexAddr t x y) (hs:Sim cx ρ s a w) (h:Zp T s t x y K) (hn:Qn cx K o a next):o.wp P a w next Q:=by
 have he:execOp a.eval o=(do pure (.value (←Instr.indexAt t (a.eval x) (a.eval y)))):=by unfold execOp;simp only[ho]
 have hx:=hs.ev x
 have hy:=hs.ev y
 unfold Zp at h
 split at h
 ·rename_i k i sz n cs hye hxe
  rw[hye] at hy
  rw[hxe] at hx
  obtain⟨e,h1,h2,h3,h4,h5,h6⟩:=h
  obtain⟨d,ti,z,ht⟩:=hA.at_ (t:=t) (by rw[h1];simp)
  obtain⟨d',i',z',ht'⟩:=hA.at_ h2
  have hd:=JK (ht.kd.trans h1)
  subst hd
  obtain⟨A,cap,g1,g2,g3,g4,g5,g6⟩:=hx.inv_sl
  rcases g6 with g6|⟨b,off,f,rfl,g7,g8,g9,g10⟩
  ·omega
  ·refine qE he ?_ (hn _ _ ρ _ _ h6 hs (.c _ _ (.eptr b off (i.toNat*sz) cs f g7 g8 g9 g10)))
   rw[g1,hy.inv_int]
   unfold Instr.indexAt
   simp only[asIntOf,Sem.run_bind,Sem.run_pure,Result.andThen_ok,run_underlying ht.ud,h4,h5,and_self,if_true,zH ht'.info,ht'.sz,h3,Qp]
 ·rename_i k i id sz off n hye hxe
  rw[hye] at hy
  rw[hxe] at hx
  obtain⟨e,h1,h2,h3,h4,h5,h6⟩:=h
  obtain⟨d,ti,z,ht⟩:=hA.at_ (t:=t) (by rw[h1];simp)
  obtain⟨d',i',z',ht'⟩:=hA.at_ h2
  have hd:=JK (ht.kd.trans h1)
  subst hd
  obtain⟨g1,g2⟩:=hx.inv_own
  rcases g2 with ⟨b,cap,g2,g3,-,g4⟩|⟨-,-,-,g2⟩
  ·refine qE he ?_ (hn _ _ ρ _ _ h6 hs (.c _ _ (.ptr id ((off+i.toNat)*sz) b cap g1 g2)))
   rw[g4,hy.inv_int]
   unfold Instr.indexAt
   simp only[asIntOf,Sem.run_bind,Sem.run_pure,Result.andThen_ok,run_underlying ht.ud,h4,h5,and_self,if_true,zH ht'.info,ht'.sz,h3,Qp,Nat.add_mul]
  ·omega
 ·rename_i k i id off hye hxe
  rw[hye] at hy
  rw[hxe] at hx
  obtain⟨n,e,h1,h2,h4,h5,h6⟩:=h
  obtain⟨d,ti,z,ht⟩:=hA.at_ (t:=t) (by rw[h1];simp)
  obtain⟨d',i',z',ht'⟩:=hA.at_ h2
  have hd:=q6O (ht.kd.trans h1)
  subst hd
  obtain⟨b,cap,g1,g2,g3⟩:=hx.inv_ptr
  refine qE he ?_ (hn _ _ ρ _ _ h6 hs (.c _ _ (.ptr id _ b cap g1 g2)))
  rw[g3,hy.inv_int]
  unfold Instr.indexAt
  simp only[asIntOf,Sem.run_bind,Sem.run_pure,Result.andThen_ok,run_underlying ht.ud,Instr.sureAddr,h4,h5,and_self,if_true,zH ht'.info,ht'.sz,Qp]
 ·cases h
def JG (s:S) (x:Operand) (i:Nat) (K:KK):Prop:=
 match s.ev x with
 | .tup rs=>∃r,rs[i]?=some r∧K r s
 | _=>False
theorem qa1 {x:Operand} {i:Nat} (ho:o.op = .extract x i) (hs:Sim cx ρ s a w) (h:JG s x i K) (hn:Qn cx K o a next):o.wp P a w next Q:=by
 have he:execOp a.eval o=(do pure (.value (←Instr.extract (a.eval x) i))):=by unfold execOp;simp only[ho]
 have hx:=hs.ev x
 unfold JG at h
 split at h
 ·rename_i rs hxe
  rw[hxe] at hx
  obtain⟨vs,h1,h2,h3⟩:=hx.inv_tup
  obtain⟨r,h4,h5⟩:=h
  have hi:i<vs.size:=by rw[h2];exact(qvZ.1 h4).1
  refine qE he ?_ (hn _ _ ρ _ _ h5 hs (h3 i r h4))
  rw[h1]
  simp[Instr.extract,hi,qw1]
 ·cases h
def ZN (s:S) (x:Operand) (K:KK):Prop:=
 match s.ev x with
 | .c (.ptr id off)=>K (.c (.ptr id off)) s
 | .c (.eptr cs off)=>K (.c (.eptr cs off)) s
 | .c (.fn f fs caps)=>K (.c (.fn f fs caps)) s
 | _=>False
theorem q7o {x:Operand} (ho:o.op = .nilCheck x) (hs:Sim cx ρ s a w) (h:ZN s x K) (hn:Qn cx K o a next):o.wp P a w next Q:=by
 have hx:=hs.ev x
 unfold ZN at h
 unfold Oper.wp execOp
 simp only[ho]
 split at h
 ·rename_i id off hxe
  rw[hxe] at hx
  obtain⟨b,cap,g1,g2,g3⟩:=hx.inv_ptr
  rw[g3] at hx ⊢
  exact hn _ _ ρ _ _ h hs hx
 ·rename_i cs off hxe
  rw[hxe] at hx
  obtain⟨b,o',f',g1,g2,g3,g4,g5⟩:=hx.inv_eptr
  rw[g1] at hx ⊢
  exact hn _ _ ρ _ _ h hs hx
 ·rename_i f fs caps hxe
  rw[hxe] at hx
  obtain⟨us,vs,g1,-⟩:=hx.inv_fn
  rw[g1] at hx ⊢
  exact hn _ _ ρ _ _ h hs hx
 ·cases h
end
end
noncomputable section
open Go.RowKit
def q2Q (op:BinOp) (k:IntKind) (a b:Int):Int:=
 match op with
 | .and=>k.wrap (BitVec.ofInt k.bits a &&& BitVec.ofInt k.bits b).toNat
 | .or=>k.wrap (BitVec.ofInt k.bits a ||| BitVec.ofInt k.bits b).toNat
 | .xor=>k.wrap (BitVec.ofInt k.bits a ^^^ BitVec.ofInt k.bits b).toNat
 | _=>k.wrap (BitVec.ofInt k.bits a &&& ~~~(BitVec.ofInt k.bits b)).toNat
def q6e (op:BinOp) (k:IntKind) (a b:Int) (K:R→Prop):Prop:=
 match op with
 | .add=>K (.c (.d (.int k (k.wrap (a+b)))))
 | .sub=>K (.c (.d (.int k (k.wrap (a-b)))))
 | .mul=>K (.c (.d (.int k (k.wrap (a*b)))))
 | .quo=>b≠0∧K (.c (.d (.int k (k.wrap (a.tdiv b)))))
 | .rem=>b≠0∧K (.c (.d (.int k (a.tmod b))))
 | .and=>K (.c (.d (.int k (q2Q .and k a b))))
 | .or=>K (.c (.d (.int k (q2Q .or k a b))))
 | .xor=>K (.c (.d (.int k (q2Q .xor k a b))))
 | .andNot=>K (.c (.d (.int k (q2Q .andNot k a b))))
 | .eql=>K (.c (.d (.bool (a==b))))
 | .neq=>K (.c (.d (.bool (a != b))))
 | .lss=>K (.c (.d (.bool (decide (a<b)))))
 | .leq=>K (.c (.d (.bool (decide (a≤b)))))
 | .gtr=>K (.c (.d (.bool (decide (b<a)))))
 | .geq=>K (.c (.d (.bool (decide (b≤a)))))
 | .shl=>0≤b∧K (.c (.d (.int k (k.wrap (a*2 ^ min b.toNat k.bits)))))
 | .shr=>0≤b∧K (.c (.d (.int k (a.fdiv (2 ^ min b.toNat k.bits)))))
def q6p (op:BinOp) (a b:ByteArray) (K:R→Prop):Prop:=
 match op with
 | .add=>a.size+b.size≤9223372036854775807∧K (.c (.d (.str (a++b))))
 | .eql=>K (.c (.d (.bool (a.toList==b.toList))))
 | .neq=>K (.c (.d (.bool (!(a.toList==b.toList)))))
 | .lss=>K (.c (.d (.bool (Op.bytesLess a.toList b.toList))))
 | .leq=>K (.c (.d (.bool (Op.bytesLess a.toList b.toList||a.toList==b.toList))))
 | .gtr=>K (.c (.d (.bool (!(Op.bytesLess a.toList b.toList||a.toList==b.toList)))))
 | .geq=>K (.c (.d (.bool (!Op.bytesLess a.toList b.toList))))
 | _=>False
def q6a (T:Ty) (op:BinOp) (t:TypeId) (x y:R) (K:R→Prop):Prop:=
 match op,x,y with
 | .eql,.c (.d (.bool a)),.c (.d (.bool b))=>T.k t = .bool∧K (.c (.d (.bool (a==b))))
 | .neq,.c (.d (.bool a)),.c (.d (.bool b))=>T.k t = .bool∧K (.c (.d (.bool (!(a==b)))))
 | .eql,.c .nilp,.c .nilp=>(∃e,T.k t = .ptr e)∧K (.c (.d (.bool true)))
 | .neq,.c .nilp,.c .nilp=>(∃e,T.k t = .ptr e)∧K (.c (.d (.bool false)))
 | .eql,.c (.ptr _ _),.c .nilp=>(∃e,T.k t = .ptr e)∧K (.c (.d (.bool false)))
 | .neq,.c (.ptr _ _),.c .nilp=>(∃e,T.k t = .ptr e)∧K (.c (.d (.bool true)))
 | .eql,.c (.eptr _ _),.c .nilp=>(∃e,T.k t = .ptr e)∧K (.c (.d (.bool false)))
 | .neq,.c (.eptr _ _),.c .nilp=>(∃e,T.k t = .ptr e)∧K (.c (.d (.bool true)))
 | _,_,_=>False
def qow:BinOp→Bool
 | .shl | .shr=>true
 | _=>false
def q61 (P:Program) (t:TypeId):Bool := !P.stoodInHeld t && !P.eqGuardType P.depth t&&(P.fieldsOf t).toList.all (fun f=>f.name != "_")
def qb2 (T:Ty) (g:TypeId→R→R→Option Bool) (xs ys:List C):List (Nat×TypeId)→Option Bool
 | []=>some true
 | (o,ft)::l=>
  match ld T xs o ft,ld T ys o ft with
  | some x,some y=>match g ft x y,qb2 T g xs ys l with
   | some b,some c=>some (b&&c)
   | _,_=>none
  | _,_=>none
def qbM (sz:Nat) (e:TypeId):Nat→Nat→List (Nat×TypeId)
 | 0,_=>[]
 | n+1,o=>(o,e)::qbM sz e n (o+sz)
def qjA (P:Program) (t:TypeId):Bool := !P.eqGuardType P.depth t
def eqR (P:Program) (T:Ty):Nat→TypeId→R→R→Option Bool
 | 0,_,_,_=>none
 | d+1,t,x,y=>
  match T.k t,x,y with
  | .int _,.c (.d (.int k a)),.c (.d (.int k' b))=>if k=k' then some (a==b) else none
  | .bool,.c (.d (.bool a)),.c (.d (.bool b))=>some (a==b)
  | .str,.c (.d (.str a)),.c (.d (.str b))=>some (a.toList==b.toList)
  | .st fs,.agg xs,.agg ys=>if q61 P t=true then qb2 T (eqR P T d) xs ys fs else none
  | .arr n e,.agg xs,.agg ys=>if qjA P t=true∧T.k e ≠ .other then qb2 T (eqR P T d) xs ys (qbM (T.sz e) e n 0) else none
  | _,_,_=>none
def q6S (P:Program) (T:Ty) (op:BinOp) (t:TypeId) (xs ys:List C) (K:R→Prop):Prop:=
 match op with
 | .eql=>∃b,eqR P T 5 t (.agg xs) (.agg ys)=some b∧K (.c (.d (.bool b)))
 | .neq=>∃b,eqR P T 5 t (.agg xs) (.agg ys)=some b∧K (.c (.d (.bool (!b))))
 | _=>False
def q9t (P:Program) (T:Ty) (s:S) (op:BinOp) (t:TypeId) (x y:Operand) (K:KK):Prop:=
 match s.ev x,s.ev y with
 | .c (.d (.int k a)),.c (.d (.int k' b))=>(qow op=true∨k=k')∧q6e op k a b (fun r=>K r s)
 | .c (.d (.str a)),.c (.d (.str b))=>q6p op a b (fun r=>K r s)
 | .agg xs,.agg ys=>q6S P T op t xs ys (fun r=>K r s)
 | u,v=>q6a T op t u v (fun r=>K r s)
section
variable {P:Program} {T:Ty} {cx:Cx} {ρ:Pl} {s:S} {a:Act} {w:World} {o:Oper} {next:Act→World→Prop} {Q:Exit→Act→World→Prop} {K:KK}
theorem qab {op:BinOp} {k k':IntKind} {t:TypeId} {x y:Operand} {m n:Int} {L:Nat→Prop} {K:R→Prop} (hk:qow op=true∨k=k') (h:q6e op k m n K) :
  ∃v r,(do eqGuard op t x y (.int k m) (.int k' n);binOp op t (.int k m) (.int k' n):Sem Value).run P w = .ok v w∧K r∧RR w L ρ v r:=by
 have hi:∀z,RR w L ρ (.int k z) (.c (.d (.int k z))):=fun z => .c _ _ (.d _ _ (.int _ _))
 have hb:∀z,RR w L ρ (.bool z) (.c (.d (.bool z))):=fun z => .c _ _ (.d _ _ (.bool _))
 rw[eqGuard_at_int]
 simp only[pure_bind]
 cases op
 case shl=>
  obtain⟨h1,h2⟩:=h
  refine⟨_,_,?_,h2,hi _⟩
  simp only[binOp,Op.shift,if_neg (by omega:¬ n<0),Sem.run_pure]
 case shr=>
  obtain⟨h1,h2⟩:=h
  refine⟨_,_,?_,h2,hi _⟩
  simp only[binOp,Op.shift,if_neg (by omega:¬ n<0),Sem.run_pure]
 all_goals
  obtain rfl:k=k':=by rcases hk with hk|hk;cases hk;exact hk
 case quo=>
  obtain⟨h1,h2⟩:=h
  refine⟨_,_,?_,h2,hi _⟩
  simp only[binOp,ne_eq,not_true,if_false,Op.intDiv,if_neg h1,Sem.run_pure]
 case rem=>
  obtain⟨h1,h2⟩:=h
  refine⟨_,_,?_,h2,hi _⟩
  simp only[binOp,ne_eq,not_true,if_false,Op.intDiv,if_neg h1,Sem.run_pure]
 all_goals
  first
  | exact⟨_,_,by first|rfl|(simp only[binOp,ne_eq,not_true,if_false,Op.intArith,Op.intCmp,Sem.run_pure]<;>rfl),h,hi _⟩
  | exact⟨_,_,by first|rfl|(simp only[binOp,ne_eq,not_true,if_false,Op.intCmp,Sem.run_pure]<;>rfl),h,hb _⟩
theorem qas {op:BinOp} {t:TypeId} {x y:Operand} {m n:ByteArray} {L:Nat→Prop} {K:R→Prop} (h:q6p op m n K) :
  ∃v r,(do eqGuard op t x y (.string m) (.string n);binOp op t (.string m) (.string n):Sem Value).run P w = .ok v w∧K r∧RR w L ρ v r:=by
 have hi:∀z,RR w L ρ (.string z) (.c (.d (.str z))):=fun z => .c _ _ (.d _ _ (.str _))
 have hb:∀z,RR w L ρ (.bool z) (.c (.d (.bool z))):=fun z => .c _ _ (.d _ _ (.bool _))
 rw[eqGuard_at_string]
 simp only[pure_bind]
 cases op
 case add=>
  obtain⟨h1,h2⟩:=h
  refine⟨_,_,?_,h2,hi _⟩
  simp only[binOp,Op.stringOp]
  rw[if_neg (by rw[IntKind.max_i64];omega)]
  rfl
 all_goals
  first
  | exact h.elim
  | exact⟨_,_,rfl,h,hb _⟩
theorem q51 (hA:Ag P T) {t:TypeId} (ht:T.k t = .bool) (m n:Bool):(Op.equal t (.bool m) (.bool n)).run P w = .ok (m==n) w:=by
 obtain⟨d,i,z,h⟩:=hA.at_ (t:=t) (by rw[ht];simp)
 have hd:=q5t (h.kd.trans ht)
 subst hd
 unfold Op.equal Op.maxDepth Op.equalIn
 simp only[Sem.run_bind,run_underlying h.ud,Result.andThen_ok,Sem.run_pure]
theorem Ju (hA:Ag P T) {t e:TypeId} (ht:T.k t = .ptr e) (m:Option Addr):(Op.equal t (.pointer m) (.pointer none)).run P w = .ok m.isNone w:=by
 obtain⟨d,i,z,h⟩:=hA.at_ (t:=t) (by rw[ht];simp)
 have hd:=qo8 (h.kd.trans ht)
 subst hd
 unfold Op.equal Op.maxDepth Op.equalIn
 simp only[Sem.run_bind,run_underlying h.ud,Result.andThen_ok]
 cases m<;>rfl
theorem q0Q (hA:Ag P T) {t:TypeId} {L:Nat→Prop} {vs:Array Value} {cs:List C} {off:Nat} {r:R} (hl:ld T cs off t=some r) (hz:vs.size=cs.length) (hc:∀j c,cs[j]?=some c→RC w L ρ (vs.getD j undef) c) :
  ∃v,(part t vs off).run P w = .ok v w∧RR w L ρ v r:=by
 have hk:T.k t ≠ .other:=by intro h;rw[ld,h] at hl;cases hl
 obtain⟨d,i,z,ht⟩:=hA.at_ hk
 have hagg:(T.k t).ag=true→r = .agg ((cs.drop off).take (T.sz t))∧off+T.sz t≤cs.length→∃v,(part t vs off).run P w = .ok v w∧RR w L ρ v r:=by
  intro h0 ⟨h1,h2⟩
  refine⟨.agg (vs.extract off (off+T.sz t)),?_,?_⟩
  ·unfold part
   rw[Sem.run_bind,q3k ht.ud,ht.kd,h0]
   simp only[Result.andThen_ok,if_true,Sem.run_bind,zH ht.info,ht.sz,Sem.run_pure]
  ·rw[h1]
   refine .agg _ _ (by simp;omega) (fun j c hj=>?_)
   have hj':j<T.sz t:=by
    have:=(qvZ.1 hj).1
    rw[qwo] at this;omega
   rw[qwu hj',List.getElem?_drop] at hj
   have:=hc _ c hj
   have hlt:off+j<vs.size:=by omega
   have he:(vs.extract off (off+T.sz t)).getD j undef=vs.getD (off+j) undef:=by
    simp only[qw1,Array.getElem?_extract]
    rw[if_pos (by omega)]
   rw[he];exact this
 have hone:(T.k t).ag=false→(cs[off]?).map R.c=some r→∃v,(part t vs off).run P w = .ok v w∧RR w L ρ v r:=by
  intro h0 h1
  obtain⟨c,h2,h3⟩:=qw8.1 h1
  have hlt:off<vs.size:=by rw[hz];exact(qvZ.1 h2).1
  refine⟨vs.getD off undef,?_,h3 ▸ .c _ _ (hc off c h2)⟩
  unfold part
  rw[Sem.run_bind,q3k ht.ud,ht.kd,h0]
  simp only[Result.andThen_ok,Bool.false_eq_true,if_false]
  rw[qwm hlt]
  simp[qw1,hlt]
 unfold ld at hl
 cases hkt:T.k t with
 | st fs=>
  rw[hkt] at hl hagg
  simp only at hl
  split at hl
  ·injection hl with hl;exact hagg rfl ⟨hl.symm,by assumption⟩
  ·cases hl
 | arr n e=>
  rw[hkt] at hl hagg
  simp only at hl
  split at hl
  ·injection hl with hl;exact hagg rfl ⟨hl.symm,by assumption⟩
  ·cases hl
 | other=>exact absurd hkt hk
 | int _=>rw[hkt] at hl hone;exact hone rfl hl
 | bool=>rw[hkt] at hl hone;exact hone rfl hl
 | str=>rw[hkt] at hl hone;exact hone rfl hl
 | ptr _=>rw[hkt] at hl hone;exact hone rfl hl
 | sl _=>rw[hkt] at hl hone;exact hone rfl hl
 | fn=>rw[hkt] at hl hone;exact hone rfl hl
 | mp _ _=>rw[hkt] at hl hone;exact hone rfl hl
theorem q5M (hA:Ag P T) {L:Nat→Prop}:∀(d D:Nat) (t:TypeId) (x y:R) (b:Bool) (v u:Value),d≤D→eqR P T d t x y=some b→RR w L ρ v x→RR w L ρ u y→(Op.equalIn D t v u).run P w = .ok b w
 | 0,_,_,_,_,_,_,_,_,h,_,_=>by cases h
 | d+1,0,_,_,_,_,_,_,hd,_,_,_=>by omega
 | d+1,D+1,t,x,y,b,v,u,hd,h,hv,hu=>by
  unfold eqR at h
  split at h
  ·rename_i k0 k m k' n ht
   split at h
   ·rename_i hk
    subst hk
    injection h with h
    obtain⟨d',i',z',h'⟩:=hA.at_ (t:=t) (by rw[ht];simp)
    have hd':=q2a (h'.kd.trans ht)
    subst hd'
    rw[hv.inv_int,hu.inv_int,run_equalIn_int w D t k k0 m n h'.ud,h]
   ·cases h
  ·rename_i m n ht
   injection h with h
   obtain⟨d',i',z',h'⟩:=hA.at_ (t:=t) (by rw[ht];simp)
   have hd':=q5t (h'.kd.trans ht)
   subst hd'
   rw[hv.inv_bool,hu.inv_bool,run_equalIn_bool' w D t m n h'.ud,h]
  ·rename_i m n ht
   injection h with h
   obtain⟨d',i',z',h'⟩:=hA.at_ (t:=t) (by rw[ht];simp)
   have hd':=Js (h'.kd.trans ht)
   subst hd'
   rw[hv.inv_str,hu.inv_str,run_equalIn_string w D t m n h'.ud,h]
  ·rename_i fs xs ys ht
   split at h
   ·rename_i hside
    unfold q61 at hside
    simp only[qwr,Bool.not_eq_true'] at hside
    obtain⟨⟨s1,s2⟩,s3⟩:=hside
    obtain⟨d',i',z',h'⟩:=hA.at_ (t:=t) (by rw[ht];simp)
    obtain⟨fs',rfl,hfs⟩:=qni (h'.kd.trans ht)
    have hfo:P.fieldsOf t=fs':=by unfold Program.fieldsOf;rw[h'.ud]
    obtain⟨vs,rfl,hvs1,hvs2⟩:=hv.inv_agg
    obtain⟨us,rfl,hus1,hus2⟩:=hu.inv_agg
    rw[run_equalIn_struct w D t vs us (by rw[hfo];exact h'.ud) s1]
    have key:∀(l:List Field) (b:Bool),l.all (fun f=>f.name != "_")=true→qb2 T (eqR P T d) xs ys (l.map fun f=>(f.offset,f.type))=some b→(Op.eqFields D vs us l).run P w = .ok b w:=by
     intro l
     induction l with
     | nil=>intro b _ h;injection h with h;rw[←h];rfl
     | cons f l ih=>
      intro b hn h
      simp only[List.all_cons,qwr] at hn
      simp only[qwi,qb2] at h
      split at h
      ·rename_i x y hx hy
       split at h
       ·rename_i b1 b2 hb1 hb2
        injection h with h
        obtain⟨v1,g1,g2⟩:=q0Q (P:=P) (w:=w) hA hx hvs1 hvs2
        obtain⟨u1,g3,g4⟩:=q0Q (P:=P) (w:=w) hA hy hus1 hus2
        have h3:=q5M hA d D f.type x y b1 v1 u1 (by omega) hb1 g2 g4
        have hne:f.name ≠ "_" := by simpa using hn.1
        unfold Op.eqFields
        rw[if_pos hne]
        simp only[Sem.run_bind,g1,g3,h3,Result.andThen_ok,Sem.run_ite]
        rw[ih b2 hn.2 hb2,←h]
        cases b1<;>simp
       ·cases h
      ·cases h
    rw[hfo] at s3 ⊢
    exact key _ _ s3 (by rw[hfs];exact h)
   ·cases h
  ·rename_i n e xs ys ht
   split at h
   ·rename_i hside
    obtain⟨d',i',z',h'⟩:=hA.at_ (t:=t) (by rw[ht];simp)
    have hd':=q6O (h'.kd.trans ht)
    subst hd'
    obtain⟨de,ie,ze,he⟩:=hA.at_ (t:=e) hside.2
    obtain⟨vs,rfl,hvs1,hvs2⟩:=hv.inv_agg
    obtain⟨us,rfl,hus1,hus2⟩:=hu.inv_agg
    have hcz:P.cellsOf e=T.sz e:=by unfold Program.cellsOf;rw[he.info];exact he.sz
    rw[run_equalIn_array w D vs us h'.ud he.info,hcz]
    have key:∀(n k:Nat) (b:Bool),qb2 T (eqR P T d) xs ys (qbM (T.sz e) e n (k*T.sz e))=some b→(Op.eqItems D e (T.sz e) vs us (List.range' k n)).run P w = .ok b w:=by
     intro n
     induction n with
     | zero=>intro k b h;injection h with h;rw[←h];rfl
     | succ n ih=>
      intro k b h
      simp only[qbM,qb2] at h
      split at h
      ·rename_i x y hx hy
       split at h
       ·rename_i b1 b2 hb1 hb2
        injection h with h
        obtain⟨v1,g1,g2⟩:=q0Q (P:=P) (w:=w) hA hx hvs1 hvs2
        obtain⟨u1,g3,g4⟩:=q0Q (P:=P) (w:=w) hA hy hus1 hus2
        have h3:=q5M hA d D e x y b1 v1 u1 (by omega) hb1 g2 g4
        have hk:k*T.sz e+T.sz e=(k+1)*T.sz e:=by rw[Nat.add_mul,Nat.one_mul]
        rw[hk] at hb2
        rw[List.range'_succ]
        unfold Op.eqItems
        simp only[Sem.run_bind,g1,g3,h3,Result.andThen_ok,Sem.run_ite]
        rw[ih (k+1) b2 hb2,←h]
        cases b1<;>simp
       ·cases h
      ·cases h
    rw[List.range_eq_range']
    exact key n 0 b (by rw[Nat.zero_mul];exact h)
   ·cases h
  ·cases h
theorem qml (hA:Ag P T) {op:BinOp} {t t':TypeId} {x y:Operand} (ho:o.op = .binOp op t x y t') (hs:Sim cx ρ s a w) (h:q9t P T s op t x y K) (hn:Qn cx K o a next):o.wp P a w next Q:=by
 have he:execOp a.eval o=(do pure (.value (←(do eqGuard op t x y (a.eval x) (a.eval y);binOp op t (a.eval x) (a.eval y))))):=by unfold execOp;simp only[ho]
 have hx:=hs.ev x
 have hy:=hs.ev y
 unfold q9t at h
 split at h
 ·rename_i k m k' n hxe hye
  rw[hxe] at hx
  rw[hye] at hy
  obtain⟨v,r,h1,h2,h3⟩:=qab (P:=P) (w:=w) (L:=s.live) (ρ:=ρ) (t:=t) (x:=x) (y:=y) h.1 h.2
  exact qE he (by rw[hx.inv_int,hy.inv_int];exact h1) (hn _ _ ρ _ _ h2 hs h3)
 ·rename_i m n hxe hye
  rw[hxe] at hx
  rw[hye] at hy
  obtain⟨v,r,h1,h2,h3⟩:=qas (P:=P) (w:=w) (L:=s.live) (ρ:=ρ) (t:=t) (x:=x) (y:=y) h
  exact qE he (by rw[hx.inv_str,hy.inv_str];exact h1) (hn _ _ ρ _ _ h2 hs h3)
 ·rename_i xs ys hxe hye
  rw[hxe] at hx
  rw[hye] at hy
  have hb:∀z,RR w s.live ρ (.bool z) (.c (.d (.bool z))):=fun z => .c _ _ (.d _ _ (.bool _))
  obtain⟨vs,e1,-,-⟩:=hx.inv_agg
  obtain⟨us,e2,-,-⟩:=hy.inv_agg
  rw[e1] at hx
  rw[e2] at hy
  have hside:∀{b:Bool},eqR P T 5 t (.agg xs) (.agg ys)=some b→P.eqGuardType P.depth t=false:=fun hb=>by
   unfold eqR at hb
   cases hkt:T.k t<;>rw[hkt] at hb<;>simp only[reduceCtorEq] at hb
   split at hb
   ·rename_i hs'
    unfold qjA at hs'
    simpa using hs'.1
   ·cases hb
   split at hb
   ·rename_i hs'
    unfold q61 at hs'
    simp only[qwr,Bool.not_eq_true'] at hs'
    exact hs'.1.2
   ·cases hb
  unfold q6S at h
  split at h
  ·obtain⟨b,h1,h2⟩:=h
   refine qE he ?_ (hn _ _ ρ _ _ h2 hs (hb _))
   rw[e1,e2]
   simp only[Sem.run_bind,run_eqGuard_agg w .eql t x y vs us (hside h1),Result.andThen_ok,run_eql_struct,q5M hA 5 10000 t _ _ b _ _ (by decide) h1 hx hy]
  ·obtain⟨b,h1,h2⟩:=h
   refine qE he ?_ (hn _ _ ρ _ _ h2 hs (hb _))
   rw[e1,e2]
   simp only[Sem.run_bind,run_eqGuard_agg w .neq t x y vs us (hside h1),Result.andThen_ok,run_neq_struct,q5M hA 5 10000 t _ _ b _ _ (by decide) h1 hx hy]
  ·cases h
 ·rename_i u v hu hv
  have hb:∀z,RR w s.live ρ (.bool z) (.c (.d (.bool z))):=fun z => .c _ _ (.d _ _ (.bool _))
  unfold q6a at h
  split at h
  ·rename_i m n hxe hye
   rw[hxe] at hx;rw[hye] at hy
   refine qE he ?_ (hn _ _ ρ _ _ h.2 hs (hb _))
   rw[hx.inv_bool,hy.inv_bool,eqGuard_at_bool]
   simp only[pure_bind,binOp,Sem.run_bind,q51 hA h.1,Result.andThen_ok,Sem.run_pure]
  ·rename_i m n hxe hye
   rw[hxe] at hx;rw[hye] at hy
   refine qE he ?_ (hn _ _ ρ _ _ h.2 hs (hb _))
   rw[hx.inv_bool,hy.inv_bool,eqGuard_at_bool]
   simp only[pure_bind,binOp,Sem.run_bind,q51 hA h.1,Result.andThen_ok,Sem.run_pure]
  ·rename_i hxe hye
   rw[hxe] at hx;rw[hye] at hy
   obtain⟨⟨e,h1⟩,h2⟩:=h
   refine qE he ?_ (hn _ _ ρ _ _ h2 hs (hb _))
   rw[hx.inv_nilp,hy.inv_nilp,eqGuard_at_pointer]
   simp only[pure_bind,binOp,Sem.run_bind,Ju hA h1,Result.andThen_ok,Sem.run_pure]
   rfl
  ·rename_i hxe hye
   rw[hxe] at hx;rw[hye] at hy
   obtain⟨⟨e,h1⟩,h2⟩:=h
   refine qE he ?_ (hn _ _ ρ _ _ h2 hs (hb _))
   rw[hx.inv_nilp,hy.inv_nilp,eqGuard_at_pointer]
   simp only[pure_bind,binOp,Sem.run_bind,Ju hA h1,Result.andThen_ok,Sem.run_pure]
   rfl
  ·rename_i hxe hye
   rw[hxe] at hx;rw[hye] at hy
   obtain⟨⟨e,h1⟩,h2⟩:=h
   obtain⟨b,cap,-,-,g⟩:=hx.inv_ptr
   refine qE he ?_ (hn _ _ ρ _ _ h2 hs (hb _))
   rw[g,hy.inv_nilp,eqGuard_at_pointer]
   simp only[pure_bind,binOp,Sem.run_bind,Ju hA h1,Result.andThen_ok,Sem.run_pure]
   rfl
  ·rename_i hxe hye
   rw[hxe] at hx;rw[hye] at hy
   obtain⟨⟨e,h1⟩,h2⟩:=h
   obtain⟨b,cap,-,-,g⟩:=hx.inv_ptr
   refine qE he ?_ (hn _ _ ρ _ _ h2 hs (hb _))
   rw[g,hy.inv_nilp,eqGuard_at_pointer]
   simp only[pure_bind,binOp,Sem.run_bind,Ju hA h1,Result.andThen_ok,Sem.run_pure]
   rfl
  ·rename_i hxe hye
   rw[hxe] at hx;rw[hye] at hy
   obtain⟨⟨e,h1⟩,h2⟩:=h
   obtain⟨b,o',f,g,-⟩:=hx.inv_eptr
   refine qE he ?_ (hn _ _ ρ _ _ h2 hs (hb _))
   rw[g,hy.inv_nilp,eqGuard_at_pointer]
   simp only[pure_bind,binOp,Sem.run_bind,Ju hA h1,Result.andThen_ok,Sem.run_pure]
   rfl
  ·rename_i hxe hye
   rw[hxe] at hx;rw[hye] at hy
   obtain⟨⟨e,h1⟩,h2⟩:=h
   obtain⟨b,o',f,g,-⟩:=hx.inv_eptr
   refine qE he ?_ (hn _ _ ρ _ _ h2 hs (hb _))
   rw[g,hy.inv_nilp,eqGuard_at_pointer]
   simp only[pure_bind,binOp,Sem.run_bind,Ju hA h1,Result.andThen_ok,Sem.run_pure]
   rfl
  ·cases h
def qk7 (s:S) (op:UnOp) (x:Operand) (K:KK):Prop:=
 match op,s.ev x with
 | .not,.c (.d (.bool b))=>K (.c (.d (.bool (!b)))) s
 | .neg,.c (.d (.int k n))=>K (.c (.d (.int k (k.wrap (0-n))))) s
 | _,_=>False
theorem qrG {op:UnOp} {t:TypeId} {x:Operand} (ho:o.op = .unOp op t x) (hs:Sim cx ρ s a w) (h:qk7 s op x K) (hn:Qn cx K o a next):o.wp P a w next Q:=by
 have he:execOp a.eval o=(do pure (.value (←Op.unary op (a.eval x)))):=by unfold execOp;simp only[ho]
 have hx:=hs.ev x
 unfold qk7 at h
 split at h
 ·rename_i b hxe
  rw[hxe] at hx
  exact qE he (by rw[hx.inv_bool];rfl) (hn _ _ ρ _ _ h hs (.c _ _ (.d _ _ (.bool _))))
 ·rename_i k n hxe
  rw[hxe] at hx
  exact qE he (by rw[hx.inv_int];rfl) (hn _ _ ρ _ _ h hs (.c _ _ (.d _ _ (.int _ _))))
 ·cases h
theorem q1i {x:Operand} {ts:Array TypeId} {w':World} {v:Value} (ho:o.op = .call { callee := .builtin .len,args:=#[x],argTypes:=ts }) (hr:(Builtin.len_ ts o.type #[a.eval x]).run P w = .ok v w') (h:next (a.put o.dst v) w'):o.wp P a w next Q:=by
 unfold Oper.wp execOp
 simp only[ho,resolve,invoke,builtin,Sem.run_bind,Sem.run_pure,Result.andThen_ok,List.map_toArray,qwi,List.map_nil,hr]
 exact h
theorem qiF {x y:Operand} {ts:Array TypeId} {w':World} {v:Value} (ho:o.op = .call { callee := .builtin .min,args:=#[x,y],argTypes:=ts }) (hr:(Builtin.min_ ts o.type #[a.eval x,a.eval y]).run P w = .ok v w') (h:next (a.put o.dst v) w'):o.wp P a w next Q:=by
 unfold Oper.wp execOp
 simp only[ho,resolve,invoke,builtin,Sem.run_bind,Sem.run_pure,Result.andThen_ok,List.map_toArray,qwi,List.map_nil,hr]
 exact h
theorem qj4 {x y:Operand} {ts:Array TypeId} {w':World} {v:Value} (ho:o.op = .call { callee := .builtin .max,args:=#[x,y],argTypes:=ts }) (hr:(Builtin.max_ ts o.type #[a.eval x,a.eval y]).run P w = .ok v w') (h:next (a.put o.dst v) w'):o.wp P a w next Q:=by
 unfold Oper.wp execOp
 simp only[ho,resolve,invoke,builtin,Sem.run_bind,Sem.run_pure,Result.andThen_ok,List.map_toArray,qwi,List.map_nil,hr]
 exact h
def q9P (T:Ty) (s:S) (t:TypeId) (x:Operand) (K:KK):Prop:=
 match s.ev x with
 | .c (.d (.str b))=>T.k t = .str∧K (.c (.d (.int .i64 b.size))) s
 | .c (.d (.sl _ n _))=>(∃e,T.k t = .sl e)∧K (.c (.d (.int .i64 n))) s
 | .c (.own _ _ _ n)=>(∃e,T.k t = .sl e)∧K (.c (.d (.int .i64 n))) s
 | .c .nils=>(∃e,T.k t = .sl e)∧K (.c (.d (.int .i64 0))) s
 | .agg _=>∃n e,T.k t = .arr n e∧K (.c (.d (.int .i64 n))) s
 | _=>False
theorem qmg (hA:Ag P T) {t:TypeId} {x:Operand} {ts:Array TypeId} (ho:o.op = .call { callee := .builtin .len,args:=#[x],argTypes:=ts }) (hts:ts=#[t]) (hs:Sim cx ρ s a w) (h:q9P T s t x K) (hn:Qn cx K o a next):o.wp P a w next Q:=by
 subst hts
 have hx:=hs.ev x
 have hi:∀z,RR w s.live ρ (.int .i64 z) (.c (.d (.int .i64 z))):=fun z => .c _ _ (.d _ _ (.int _ _))
 have hu:T.k t ≠ .other→∃d,P.underlying t=some d∧q1s d=T.k t:=fun hk=>by
  obtain⟨d,i,z,g⟩:=hA.at_ hk
  exact⟨d,g.ud,g.kd⟩
 unfold q9P at h
 split at h
 ·rename_i b hxe
  rw[hxe] at hx
  obtain⟨d,g1,g2⟩:=hu (by rw[h.1];simp)
  have hd:=Js (g2.trans h.1)
  subst hd
  refine q1i ho ?_ (hn _ _ ρ _ _ h.2 hs (hi _))
  rw[hx.inv_str]
  simp[Builtin.len_,run_underlying g1,goInt]
 ·rename_i sz n cs hxe
  rw[hxe] at hx
  obtain⟨⟨e,h1⟩,h2⟩:=h
  obtain⟨d,g1,g2⟩:=hu (by rw[h1];simp)
  have hd:=JK (g2.trans h1)
  subst hd
  obtain⟨A,cap,g3,-⟩:=hx.inv_sl
  refine q1i ho ?_ (hn _ _ ρ _ _ h2 hs (hi _))
  rw[g3]
  simp[Builtin.len_,run_underlying g1,goInt]
 ·rename_i id sz off n hxe
  rw[hxe] at hx
  obtain⟨⟨e,h1⟩,h2⟩:=h
  obtain⟨d,g1,g2⟩:=hu (by rw[h1];simp)
  have hd:=JK (g2.trans h1)
  subst hd
  obtain⟨-,g3⟩:=hx.inv_own
  refine q1i ho ?_ (hn _ _ ρ _ _ h2 hs (hi _))
  rcases g3 with ⟨b,cap,-,-,-,g3⟩|⟨-,g3,-,rfl⟩
  ·rw[g3];simp[Builtin.len_,run_underlying g1,goInt]
  ·rw[g3];simp[Builtin.len_,run_underlying g1,goInt]
 ·rename_i hxe
  rw[hxe] at hx
  obtain⟨⟨e,h1⟩,h2⟩:=h
  obtain⟨d,g1,g2⟩:=hu (by rw[h1];simp)
  have hd:=JK (g2.trans h1)
  subst hd
  have g3:=hx.inv_nils
  refine q1i ho ?_ (hn _ _ ρ _ _ h2 hs (hi _))
  rw[g3]
  simp[Builtin.len_,run_underlying g1,goInt]
 ·rename_i xs hxe
  obtain⟨n,e,h1,h2⟩:=h
  obtain⟨d,g1,g2⟩:=hu (by rw[h1];simp)
  have hd:=q6O (g2.trans h1)
  subst hd
  refine q1i ho ?_ (hn _ _ ρ _ _ h2 hs (hi _))
  simp[Builtin.len_,run_underlying g1,goInt]
 ·cases h
def qal (s:S) (x y:Operand) (K:KK):Prop:=
 match s.ev x,s.ev y with
 | .c (.d (.int k m)),.c (.d (.int _ n))=>K (.c (.d (.int k (min m n)))) s
 | _,_=>False
def qa9 (s:S) (x y:Operand) (K:KK):Prop:=
 match s.ev x,s.ev y with
 | .c (.d (.int k m)),.c (.d (.int _ n))=>K (.c (.d (.int k (max m n)))) s
 | _,_=>False
theorem qn1 {x y:Operand} {ts:Array TypeId} (ho:o.op = .call { callee := .builtin .min,args:=#[x,y],argTypes:=ts }) (hs:Sim cx ρ s a w) (h:qal s x y K) (hn:Qn cx K o a next):o.wp P a w next Q:=by
 have hx:=hs.ev x
 have hy:=hs.ev y
 unfold qal at h
 split at h
 ·rename_i k m k' n hxe hye
  rw[hxe] at hx
  rw[hye] at hy
  have e:min m n=if n<m then n else m:=by rw[Int.min_def];split<;>split<;>omega
  rw[e] at h
  exact qiF ho (by rw[hx.inv_int,hy.inv_int];rfl) (hn _ _ ρ _ _ h hs (.c _ _ (.d _ _ (.int _ _))))
 ·cases h
theorem qkk {x y:Operand} {ts:Array TypeId} (ho:o.op = .call { callee := .builtin .max,args:=#[x,y],argTypes:=ts }) (hs:Sim cx ρ s a w) (h:qa9 s x y K) (hn:Qn cx K o a next):o.wp P a w next Q:=by
 have hx:=hs.ev x
 have hy:=hs.ev y
 unfold qa9 at h
 split at h
 ·rename_i k m k' n hxe hye
  rw[hxe] at hx
  rw[hye] at hy
  have e:max m n=if m<n then n else m:=by rw[Int.max_def];split<;>split<;>omega
  rw[e] at h
  exact qj4 ho (by rw[hx.inv_int,hy.inv_int];rfl) (hn _ _ ρ _ _ h hs (.c _ _ (.d _ _ (.int _ _))))
 ·cases h
end
end
noncomputable section
open Go.RowKit
section
variable {P:Program} {T:Ty} {cx:Cx} {ρ:Pl} {s:S} {a:Act} {w:World} {o:Oper} {next:Act→World→Prop} {Q:Exit→Act→World→Prop} {K:KK}
theorem qaf (w:World) (L:Nat→Prop) (ρ:Pl) (o:Obj):q2s w L ρ (w.alloc o) L ρ:=
 ⟨by simp,fun b hb _=>Below.heap_alloc w o b hb,fun _ _ h=>h,fun _ hi=>⟨hi,rfl⟩,fun b hF=>⟨hF,fun hb=>Below.heap_alloc w o b hb⟩⟩
theorem Sim.other (hs:Sim cx ρ s a w) (o:Obj):Sim cx ρ s a (w.alloc o):=by
 have h:=qaf w s.live ρ o
 exact⟨hs.hd.stay h,hs.size,fun i=>(hs.tm i).stay h,fun i b c hi hr=>⟨by have:=(hs.hp i b c hi hr).1;simp;omega,(hs.hp i b c hi hr).2.stay h (Below.heap_alloc w o b (hs.hp i b c hi hr).1)⟩,hs.hp0,hs.out,hs.inj,hs.nx,
  ⟨hs.kept.os,hs.kept.tape,hs.kept.output,qww hs.kept.size (by simp),fun k hk hO=>(Below.heap_alloc w o k (qwv hk hs.kept.size)).trans (hs.kept.block k hk hO)⟩,hs.oldF,hs.pin,hs.disj,hs.ows.sub (fun b hF=>by have:=hs.ows.lt b hF;simp;omega) fun i j d hw=>by
   obtain⟨b,c,y,n,c',l1,l2,l3,l4,l5⟩:=hw
   exact⟨b,c,y,n,c',l1,l2,l3,l4,by rw[←l5];exact(World.cell?_of_block (w:=w) (Below.heap_alloc w o b (hs.hp i b c l1 l2).1)).symm⟩⟩
theorem Sim.not_occ (hs:Sim cx ρ s a w) {b:Nat} (hb:w.heap.size≤b):¬ Occ s.live ρ b:=fun h=>by
 rcases h with h|⟨i,c,h1,h2⟩
 ·have:=hs.ows.lt b h;omega
 ·have:=(hs.hp i b c h1 h2).1;omega
def u8s (l:List UInt8):List D:=l.map fun b => .int .u8 b.toNat
def qk3:List C→Option (List Int)
 | []=>some []
 | .d (.int .u8 n)::r=>(qk3 r).map (n :: ·)
 | _::_=>none
def qbK:List D→Option (List Int)
 | []=>some []
 | .int .u8 n::r=>(qbK r).map (n :: ·)
 | _::_=>none
theorem q8l:∀(l:List D),qk3 (l.map C.d)=qbK l
 | []=>rfl
 | .int .u8 n::r=>by simp only[qwi,qk3,qbK,q8l r]
 | .int .i8 _::_ | .int .i16 _::_ | .int .i32 _::_ | .int .i64 _::_ | .int .u16 _::_ | .int .u32 _::_ | .int .u64 _::_=>rfl
 | .bool _::_ | .str _::_ | .sl _ _ _::_=>rfl
theorem q72:∀{cs:List C} {ns:List Int},qk3 cs=some ns→cs.length=ns.length∧∀(j:Nat) (n:Int),ns[j]?=some n→cs[j]?=some (C.d (.int .u8 n))
 | [],ns,h=>by injection h with h;subst h;exact⟨rfl,fun j n h=>by simp at h⟩
 | c::r,ns,h=>by
  unfold qk3 at h
  split at h
  ·rename_i heq;cases heq
  ·rename_i n' r' heq
   injection heq with h1 h2
   subst h1 h2
   obtain⟨m,h3,h4⟩:=qw8.1 h
   subst h4
   obtain⟨h5,h6⟩:=q72 h3
   refine⟨by simp[h5],fun j n hj=>?_⟩
   cases j with
   | zero=>simp only[qw5,qwK] at hj ⊢;rw[hj]
   | succ j=>simpa using h6 j n (by simpa using hj)
  ·cases h
def q9T (ns:List Int):ByteArray:=⟨(ns.map fun n=>UInt8.ofNat n.toNat).toArray⟩
def q4Q (T:Ty) (s:S) (t t':TypeId) (x:Operand) (K:KK):Prop:=
 match T.k t,T.k t',s.ev x with
 | .int _,.int k,.c (.d (.int _ n))=>K (.c (.d (.int k (k.wrap n)))) s
 | .str,.str,.c (.d (.str b))=>K (.c (.d (.str b))) s
 | .str,.sl e,.c (.d (.str b))=>T.k e = .int .u8∧b.size≤4611686018427387903∧K (.c (.d (.sl 1 b.size (u8s b.data.toList)))) s
 | .sl e,.str,.c (.own id sz off n)=>T.k e = .int .u8∧sz=1∧∃ns,qk3 (((s.blk id).cells.drop off).take n)=some ns∧ns.length=n∧K (.c (.d (.str (q9T ns)))) s
 | .sl e,.str,.c (.d (.sl sz _ cs))=>T.k e = .int .u8∧sz=1∧∃ns,qbK cs=some ns∧K (.c (.d (.str (q9T ns)))) s
 | .sl e,.str,.c .nils=>T.k e = .int .u8∧K (.c (.d (.str ⟨#[]⟩))) s
 | _,_,_=>False
theorem q0j (hA:Ag P T) {t:TypeId} (hk:T.k t ≠ .other):∃d,P.underlying t=some d∧q1s d=T.k t:=by
 obtain⟨d,i,z,g⟩:=hA.at_ hk
 exact⟨d,g.ud,g.kd⟩
theorem q7y (ns:List Int):∀r:ByteArray,ns.foldl (fun r n=>r.push (UInt8.ofNat n.toNat)) r=⟨r.data++(ns.map fun n=>UInt8.ofNat n.toNat).toArray⟩:=by
 induction ns with
 | nil=>intro r;simp
 | cons n ns ih=>intro r;simp only[qwX,ih,qwi];simp[ByteArray.push]
theorem q1z {src dst e:TypeId} {A:Option Addr} {cap:Nat} {ns:List Int} (hs:P.underlying src=some (.slice e)) (he:P.underlying e=some (.int .u8)) (hd:P.underlying dst=some .string)
  (hA:ns=[]∨∃b off,A=some ⟨b,off,none⟩∧∀(j:Nat) n,ns[j]?=some n→w.cell? ⟨b,off+j,none⟩=some (.int .u8 n)):(convert src dst (.slice A ns.length cap)).run P w = .ok (.string (q9T ns)) w:=by
 rw[run_convert_bytes_string w src dst e A ns.length cap hs he hd]
 have hl:∀a,A=some a→(loadCells a ns.length).run P w = .ok (ns.map (Value.int .u8)).toArray w:=fun a ha=>by
  have:=run_loadCells_list (P:=P) (w:=w) a (ns.map (Value.int .u8)) (fun j v hj=>by
   rcases hA with rfl|⟨b,off,rfl,hc⟩
   ·simp at hj
   ·injection ha with ha
    subst ha
    rw[qw9] at hj
    obtain⟨n,h1,h2⟩:=qw8.1 hj
    rw[Qp,←h2]
    exact hc j n h1)
  simpa using this
 cases A with
 | none=>
  rcases hA with rfl|⟨b,off,h,-⟩
  ·rfl
  ·cases h
 | some a=>
  rw[run_bytesToString w a ns.length cap ns (hl a rfl),q7y]
  have he0:ByteArray.empty.data=#[]:=rfl
  rw[he0]
  simp[q9T]
theorem qiL (hA:Ag P T) {t t':TypeId} {x:Operand} (ho:o.op = .convert t t' x) (hs:Sim cx ρ s a w) (h:q4Q T s t t' x K) (hn:Qn cx K o a next):o.wp P a w next Q:=by
 have he:execOp a.eval o=(do pure (.value (←convert t t' (a.eval x)))):=by unfold execOp;simp only[ho]
 have hx:=hs.ev x
 have hstr:∀z,RR w s.live ρ (.string z) (.c (.d (.str z))):=fun z => .c _ _ (.d _ _ (.str _))
 unfold q4Q at h
 split at h
 ·rename_i k1 k n1 n g1 g2 hxe
  rw[hxe] at hx
  obtain⟨d1,e1,f1⟩:=q0j hA (t:=t) (by rw[g1];simp)
  obtain⟨d2,e2,f2⟩:=q0j hA (t:=t') (by rw[g2];simp)
  have hd1:=q2a (f1.trans g1)
  have hd2:=q2a (f2.trans g2)
  subst hd1 hd2
  refine qE he ?_ (hn _ _ ρ _ _ h hs (.c _ _ (.d _ _ (.int _ _))))
  rw[hx.inv_int]
  unfold convert
  simp only[Sem.run_bind,run_underlying e1,run_underlying e2,Result.andThen_ok,Conv.intToInt,Sem.run_pure]
 ·rename_i b g1 g2 hxe
  rw[hxe] at hx
  obtain⟨d1,e1,f1⟩:=q0j hA (t:=t) (by rw[g1];simp)
  obtain⟨d2,e2,f2⟩:=q0j hA (t:=t') (by rw[g2];simp)
  have hd1:=Js (f1.trans g1)
  have hd2:=Js (f2.trans g2)
  subst hd1 hd2
  refine qE he ?_ (hn _ _ ρ _ _ h hs (hstr _))
  rw[hx.inv_str]
  unfold convert
  simp only[Sem.run_bind,run_underlying e1,run_underlying e2,Result.andThen_ok,Sem.run_pure]
 ·rename_i e b g1 g2 hxe
  rw[hxe] at hx
  obtain⟨h1,h2,h3⟩:=h
  obtain⟨d1,e1,f1⟩:=q0j hA (t:=t) (by rw[g1];simp)
  obtain⟨d2,e2,f2⟩:=q0j hA (t:=t') (by rw[g2];simp)
  obtain⟨d3,e3,f3⟩:=q0j hA (t:=e) (by rw[h1];simp)
  have hd1:=Js (f1.trans g1)
  have hd2:=JK (f2.trans g2)
  have hd3:=q2a (f3.trans h1)
  subst hd1 hd2 hd3
  have hrun:=run_bytes_of_string (P:=P) w t t' e b e1 e2 e3
  have hgc1:=grownCap_ge w b.size 0 e
  have hgc2:=grownCap_le_maxLen w b.size 0 e (by unfold maxLen;omega)
  refine qE he (by rw[hx.inv_str];exact hrun) (hn _ _ ρ _ _ h3 ((hs.drew).other _) (.c _ _ (.d _ _ ?_)))
  by_cases hz:b.size=0
  ·have hnil:u8s b.data.toList=[]:=by
    have:b.data.toList=[]:=qwe (by simpa using hz)
    rw[this];rfl
   rw[hz] at hgc2 ⊢
   rw[hnil]
   exact .nil _ _ _ hgc2 (fun h=>by cases h)
  ·refine .sl w.heap.size 0 b.size _ 1 _ (fun j => .int .u8 ((b.data.toList.getD j 0).toNat:Int)) (by simp[u8s]) hgc1 hgc2 (by simp) (hs.not_occ (qwb _)) (fun j c hj=>?_) (fun j c hj=>?_)
   ·have hb:j<b.data.size:=by
     have:=(qvZ.1 hj).1
     simpa [u8s] using this
    have hh:(w.drew.alloc (.cells (bytesRow b (grownCap w b.size 0 e)) e ((bytesRow b (grownCap w b.size 0 e)).size,(bytesRow b (grownCap w b.size 0 e)).size+1))).heap[w.heap.size]?=some (.cells (bytesRow b (grownCap w b.size 0 e)) e ((bytesRow b (grownCap w b.size 0 e)).size,(bytesRow b (grownCap w b.size 0 e)).size+1)):=heap_alloc_new w.drew _
    simp only[World.cell?,hh]
    unfold bytesRow
    have hb':j<b.size:=hb
    simp[Array.getElem?_append,hb',List.getD]
   ·unfold u8s at hj
    rw[qw9] at hj
    obtain⟨z,h5,h6⟩:=qw8.1 hj
    subst h6
    have:b.data.toList.getD j 0=z:=by rw[List.getD,h5];rfl
    rw[this]
    exact .int _ _
 ·rename_i e id sz off n g1 g2 hxe
  rw[hxe] at hx
  obtain⟨h1,rfl,ns,h2,h3,h4⟩:=h
  obtain⟨d1,e1,f1⟩:=q0j hA (t:=t) (by rw[g1];simp)
  obtain⟨d2,e2,f2⟩:=q0j hA (t:=t') (by rw[g2];simp)
  obtain⟨d3,e3,f3⟩:=q0j hA (t:=e) (by rw[h1];simp)
  have hd1:=JK (f1.trans g1)
  have hd2:=Js (f2.trans g2)
  have hd3:=q2a (f3.trans h1)
  subst hd1 hd2 hd3
  obtain⟨q1,q2⟩:=hx.inv_own
  subst h3
  obtain⟨-,hat⟩:=q72 h2
  refine qE he ?_ (hn _ _ ρ _ _ h4 hs (hstr _))
  rcases q2 with ⟨b,cap,q2,q3,-,q4⟩|⟨-,q3,-,q4⟩
  ·rw[q4]
   refine q1z e1 e3 e2 (.inr ⟨b,off*1,rfl,fun j n hj=>?_⟩)
   have h5:=hat j n hj
   have hj':j<ns.length:=(qvZ.1 hj).1
   rw[qwu hj',List.getElem?_drop] at h5
   obtain⟨v,h6,h7⟩:=(hs.hp id b cap q1 q2).2.cell h5
   cases h7 with|d _ _ h7=>cases h7;rw[Nat.mul_one];exact h6
  ·rw[q3]
   have hns:ns=[]:=qwe q4
   subst hns
   exact q1z e1 e3 e2 (.inl rfl)
 ·rename_i e sz n cs g1 g2 hxe
  rw[hxe] at hx
  obtain⟨h1,rfl,ns,h2,h4⟩:=h
  obtain⟨d1,e1,f1⟩:=q0j hA (t:=t) (by rw[g1];simp)
  obtain⟨d2,e2,f2⟩:=q0j hA (t:=t') (by rw[g2];simp)
  obtain⟨d3,e3,f3⟩:=q0j hA (t:=e) (by rw[h1];simp)
  have hd1:=JK (f1.trans g1)
  have hd2:=Js (f2.trans g2)
  have hd3:=q2a (f3.trans h1)
  subst hd1 hd2 hd3
  obtain⟨A,cap,q1,q2,q3,q4,q5,q6⟩:=hx.inv_sl
  rw[←q8l] at h2
  obtain⟨hl,hat⟩:=q72 h2
  have hnl:n=ns.length:=by rw[←hl,qwD];omega
  subst hnl
  refine qE he ?_ (hn _ _ ρ _ _ h4 hs (hstr _))
  rw[q1]
  refine q1z e1 e3 e2 ?_
  rcases q6 with q6|⟨b,off,f,rfl,q7,q8,q9,q10⟩
  ·exact .inl (qwe q6)
  ·refine .inr ⟨b,off,rfl,fun j n hj=>?_⟩
   have h5:=hat j n hj
   rw[qw9] at h5
   obtain⟨x',h6,h7⟩:=qw8.1 h5
   injection h7 with h7
   subst h7
   have h8:=q10 j _ h6
   rw[q9 j _ h6]
   generalize f j=v at h8
   cases h8;rfl
 ·rename_i e g1 g2 hxe
  rw[hxe] at hx
  obtain⟨h1,h4⟩:=h
  obtain⟨d1,e1,f1⟩:=q0j hA (t:=t) (by rw[g1];simp)
  obtain⟨d2,e2,f2⟩:=q0j hA (t:=t') (by rw[g2];simp)
  obtain⟨d3,e3,f3⟩:=q0j hA (t:=e) (by rw[h1];simp)
  have hd1:=JK (f1.trans g1)
  have hd2:=Js (f2.trans g2)
  have hd3:=q2a (f3.trans h1)
  subst hd1 hd2 hd3
  have q1:=hx.inv_nils
  refine qE he ?_ (hn _ _ ρ _ _ h4 hs (hstr _))
  rw[q1]
  exact q1z (ns:=[]) e1 e3 e2 (.inl rfl)
 ·cases h
end
end
noncomputable section
open Go.RowKit
section
variable {P:Program} {T:Ty} {cx:Cx} {ρ:Pl} {s:S} {a:Act} {w:World} {o:Oper} {next:Act→World→Prop} {Q:Exit→Act→World→Prop} {K:KK}
def S.bd (s:S) (x:Option Operand) (z:Int):Option Int:=
 match x with
 | none=>some z
 | some y=>match s.ev y with | .c (.d (.int _ i))=>some i|_=>none
def q2q (T:Ty) (s:S) (t:TypeId) (x:Operand) (lo hi mx:Option Operand) (K:KK):Prop:=
 match s.ev x with
 | .c (.d (.str b))=>T.k t = .str∧mx=none∧∃l h,s.bd lo 0=some l∧s.bd hi b.size=some h∧0≤l∧l≤h∧h≤b.size∧K (.c (.d (.str (b.extract l.toNat h.toNat)))) s
 | .c (.d (.sl sz n cs))=>∃e,T.k t = .sl e∧T.k e ≠ .other∧T.sz e=sz∧mx=none∧∃l h,s.bd lo 0=some l∧s.bd hi n=some h∧0≤l∧l≤h∧h≤n∧K (.c (.d (.sl sz (h.toNat-l.toNat) ((cs.drop (l.toNat*sz)).take ((h.toNat-l.toNat)*sz))))) s
 | .c (.own id sz off n)=>∃e,T.k t = .sl e∧T.k e ≠ .other∧T.sz e=sz∧mx=none∧∃l h,s.bd lo 0=some l∧s.bd hi n=some h∧0≤l∧l≤h∧h≤n∧
   ((l=0∨l<n)→K (.c (.own id sz (off+l.toNat) (h.toNat-l.toNat))) s)∧(¬ (l=0∨l<n)→K (.c (.d (.sl sz 0 []))) s)
 | .c .nils=>∃e,T.k t = .sl e∧T.k e ≠ .other∧mx=none∧s.bd lo 0=some 0∧s.bd hi 0=some 0∧K (.c .nils) s
 | _=>False
theorem q8K (hs:Sim cx ρ s a w) {x:Option Operand} {z l:Int} (h:s.bd x z=some l):(x=none∧l=z)∨∃y k,x=some y∧a.eval y = .int k l:=by
 unfold S.bd at h
 split at h
 ·injection h with h;exact .inl ⟨rfl,h.symm⟩
 ·rename_i y
  have hy:=hs.ev y
  split at h
  ·rename_i k i he
   injection h with h
   subst h
   rw[he] at hy
   exact .inr ⟨y,k,rfl,hy.inv_int⟩
  ·cases h
theorem JC (hs:Sim cx ρ s a w) {isS:Bool} {lo hi:Option Operand} {len cap:Nat} {l h:Int} (h1:s.bd lo 0=some l) (h2:s.bd hi len=some h) (g0:0≤l) (g1:l≤h) (g2:h≤len) (g3:len≤cap) :
  (Instr.sliceBounds isS len cap (lo.map a.eval) (hi.map a.eval) none).run P w = .ok (l.toNat,h.toNat,cap) w:=by
 have hh:0≤h∧h≤(cap:Int):=by omega
 have hl:0≤l∧l≤(h.toNat:Int):=by omega
 unfold Instr.sliceBounds
 rcases q8K hs h1 with ⟨rfl,rfl⟩|⟨y,k,rfl,hy⟩<;>rcases q8K hs h2 with ⟨rfl,rfl⟩|⟨y',k',rfl,hy'⟩
 ·simp
 ·simp[hy',Instr.sliceBound,asIntOf,hh]
 ·simp[hy,Instr.sliceBound,asIntOf,hl,show l≤(len:Int) by omega]
 ·simp[hy,hy',Instr.sliceBound,asIntOf,hh,hl,show l≤max h 0 by omega]
theorem Zr {t e:TypeId} {i:TypeInfo} {A:Option Addr} {n cap l h:Nat} {lo hi:Option Value} (ht:P.underlying t=some (.slice e)) (hi':P.info? e=some i)
  (hb:(Instr.sliceBounds true n cap lo hi none).run P w = .ok (l,h,cap) w):(Instr.sliceAt t (.slice A n cap) lo hi none).run P w = .ok (.slice (if cap=l then A else A.map (·.add (l*i.size))) (h-l) (cap-l)) w:=by
 unfold Instr.sliceAt
 simp only[Sem.run_bind,run_underlying ht,Result.andThen_ok]
 unfold Instr.slice
 simp only[Sem.run_bind,run_underlying ht,Result.andThen_ok,hb,zH hi',Sem.run_pure]
theorem qew (hA:Ag P T) {t:TypeId} {x:Operand} {lo hi mx:Option Operand} (ho:o.op = .slice t x lo hi mx) (hs:Sim cx ρ s a w) (h:q2q T s t x lo hi mx K) (hn:Qn cx K o a next):o.wp P a w next Q:=by
 have he:execOp a.eval o=(do pure (.value (←Instr.sliceAt t (a.eval x) (lo.map a.eval) (hi.map a.eval) (mx.map a.eval)))):=by unfold execOp;simp only[ho]
 have hx:=hs.ev x
 unfold q2q at h
 split at h
 ·rename_i b hxe
  rw[hxe] at hx
  obtain⟨h1,rfl,l,h,b1,b2,g0,g1,g2,h3⟩:=h
  obtain⟨d1,e1,f1⟩:=q0j hA (t:=t) (by rw[h1];simp)
  have hd1:=Js (f1.trans h1)
  subst hd1
  have hb:=JC (P:=P) (isS:=false) (cap:=b.size) hs b1 b2 g0 g1 g2 (qwb _)
  refine qE he ?_ (hn _ _ ρ _ _ h3 hs (.c _ _ (.d _ _ (.str _))))
  rw[hx.inv_str]
  unfold Instr.sliceAt
  simp only[Sem.run_bind,run_underlying e1,Result.andThen_ok]
  unfold Instr.slice
  simp only[Sem.run_bind,run_underlying e1,Result.andThen_ok,Option.map_none,Option.isSome_none,Bool.false_eq_true,if_false,Sem.run_pure,hb]
 ·rename_i sz n cs hxe
  rw[hxe] at hx
  obtain⟨e,h1,h2,rfl,rfl,l,h,b1,b2,g0,g1,g2,h3⟩:=h
  obtain⟨d1,i1,z1,t1⟩:=hA.at_ (t:=t) (by rw[h1];simp)
  obtain⟨d2,i2,z2,t2⟩:=hA.at_ h2
  have hd1:=JK (t1.kd.trans h1)
  subst hd1
  obtain⟨A,cap,q1,q2,q3,q4,q5,q6⟩:=hx.inv_sl
  have hb:=JC (P:=P) (isS:=true) (cap:=cap) hs b1 b2 g0 g1 g2 q2
  have hrun:=Zr (A:=A) t1.ud t2.info hb
  refine qE he (by rw[q1];exact hrun) (hn _ _ ρ _ _ h3 hs (.c _ _ (.d _ _ ?_)))
  rw[t2.sz]
  by_cases hz:h.toNat-l.toNat=0
  ·rw[hz]
   simp only[Nat.zero_mul,List.take_zero]
   exact .nil _ _ _ (by omega) (fun hA'=>by
    split at hA'
    ·have:=q4 hA';omega
    ·cases A with
     | none=>have:=q4 rfl;omega
     | some ad=>cases hA')
  ·rcases q6 with q6|⟨b,off,f,rfl,q7,q8,q9,q10⟩
   ·omega
   ·rw[if_neg (by omega)]
    simp only[Option.map_some,Qp]
    refine .sl b _ _ _ _ _ (fun j=>f (l.toNat*T.sz e+j)) ?_ (by omega) (by omega) q7 q8 (fun j c hj=>?_) (fun j c hj=>?_)
    ·rw[qwo,qwH,q5,←Nat.sub_mul]
     exact Nat.min_eq_left (Nat.mul_le_mul_right _ (by omega))
    all_goals
     have hj':j<(h.toNat-l.toNat)*T.sz e:=by
      have:=(qvZ.1 hj).1
      rw[qwo] at this;omega
     rw[qwu hj',List.getElem?_drop] at hj
    ·rw[qwO];exact q9 _ c hj
    ·exact q10 _ c hj
 ·rename_i id sz off n hxe
  rw[hxe] at hx
  obtain⟨e,h1,h2,rfl,rfl,l,h,b1,b2,g0,g1,g2,h3,h4⟩:=h
  obtain⟨d1,i1,z1,t1⟩:=hA.at_ (t:=t) (by rw[h1];simp)
  obtain⟨d2,i2,z2,t2⟩:=hA.at_ h2
  have hd1:=JK (t1.kd.trans h1)
  subst hd1
  obtain⟨q1,q2⟩:=hx.inv_own
  rcases q2 with ⟨b,cap,q2,q3,hm,q4⟩|⟨q2,q3,rfl,rfl⟩
  ·have hb:=JC (P:=P) (isS:=true) (cap:=cap-off) hs b1 b2 g0 g1 g2 (by omega)
   have hrun:=Zr (A:=some ⟨b,off*T.sz e,none⟩) t1.ud t2.info hb
   by_cases hl:l=0∨l<n
   ·refine qE he (by rw[q4];exact hrun) (hn _ _ ρ _ _ (h3 hl) hs (.c _ _ ?_))
    have hrc:=RC.own (w:=w) id (T.sz e) (off+l.toNat) (h.toNat-l.toNat) b cap q1 q2 (by omega) hm
    rw[t2.sz]
    have haddr:(if cap-off=l.toNat then some (⟨b,off*T.sz e,none⟩:Addr) else(some (⟨b,off*T.sz e,none⟩:Addr)).map (·.add (l.toNat*T.sz e)))=some ⟨b,(off+l.toNat)*T.sz e,none⟩:=by
     by_cases hc:cap-off=l.toNat
     ·have hl0:l.toNat=0:=by omega
      rw[if_pos hc,hl0];simp
     ·rw[if_neg hc,Option.map_some,Qp,Nat.add_mul]
    rw[haddr,show cap-off-l.toNat=cap-(off+l.toNat) by omega]
    exact hrc
   ·refine qE he (by rw[q4];exact hrun) (hn _ _ ρ _ _ (h4 hl) hs (.c _ _ (.d _ _ ?_)))
    rw[show h.toNat-l.toNat=0 by omega]
    refine .nil _ _ _ (by omega) (fun hA'=>?_)
    split at hA'<;>cases hA'
  ·have hl:l=0:=by omega
   have hh:h=0:=by omega
   subst hl hh
   have hb:=JC (P:=P) (isS:=true) (cap:=0) hs b1 b2 g0 g1 g2 (qwb _)
   have hrun:=Zr (A:=none) t1.ud t2.info hb
   refine qE he (by rw[q3];exact hrun) (hn _ _ ρ _ _ (h3 (.inl rfl)) hs (.c _ _ ?_))
   exact .own0 id (T.sz e) q1 q2
 ·rename_i hxe
  rw[hxe] at hx
  obtain⟨e,h1,h2,rfl,b1,b2,h3⟩:=h
  obtain⟨d1,i1,z1,t1⟩:=hA.at_ (t:=t) (by rw[h1];simp)
  obtain⟨d2,i2,z2,t2⟩:=hA.at_ h2
  have hd1:=JK (t1.kd.trans h1)
  subst hd1
  have q3:=hx.inv_nils
  have hb:=JC (P:=P) (isS:=true) (len:=0) (cap:=0) hs b1 b2 (by omega) (by omega) (by omega) (qwb _)
  have hrun:=Zr (A:=none) t1.ud t2.info hb
  exact qE he (by rw[q3];exact hrun) (hn _ _ ρ _ _ h3 hs (.c _ _ .nils))
 ·cases h
def q6f (T:Ty) (s:S) (t:TypeId) (x:Operand) (lo hi mx:Option Operand) (K:KK):Prop:=
 ∃e,T.k t = .sl e∧T.k e ≠ .other∧lo=none∧hi.isSome=true∧mx.isSome=true∧
  match s.ev x with
  | .c (.d (.sl sz n cs))=>T.sz e=sz∧s.bd hi 0=some (n:Int)∧s.bd mx 0=some (n:Int)∧K (.c (.clp sz n cs)) s
  | .c .nils=>s.bd hi 0=some 0∧s.bd mx 0=some 0∧K (.c (.clp (T.sz e) 0 [])) s
  | _=>False
theorem q8p (hs:Sim cx ρ s a w) {t e:TypeId} {i:TypeInfo} {A:Option Addr} {n cap:Nat} {hi mx:Option Operand} (ht:P.underlying t=some (.slice e)) (hi':P.info? e=some i) (h1:hi.isSome=true) (h2:mx.isSome=true) (h3:s.bd hi 0=some (n:Int)) (h4:s.bd mx 0=some (n:Int)) (hc:n≤cap) :
  (Instr.sliceAt t (.slice A n cap) none (hi.map a.eval) (mx.map a.eval)).run P w = .ok (.slice (if n=0 then A else A.map (·.add 0)) n n) w:=by
 rcases q8K hs h3 with ⟨rfl,-⟩|⟨y,k,rfl,hy⟩
 ·cases h1
 rcases q8K hs h4 with ⟨rfl,-⟩|⟨y',k',rfl,hy'⟩
 ·cases h2
 unfold Instr.sliceAt
 simp only[Sem.run_bind,run_underlying ht,Result.andThen_ok]
 unfold Instr.slice
 simp only[Sem.run_bind,run_underlying ht,Result.andThen_ok]
 unfold Instr.sliceBounds
 simp[hy,hy',Instr.sliceBound,asIntOf,hc,zH hi']
theorem qj0 (hA:Ag P T) {t:TypeId} {x:Operand} {lo hi mx:Option Operand} (ho:o.op = .slice t x lo hi mx) (hs:Sim cx ρ s a w) (h:q6f T s t x lo hi mx K) (hn:Qn cx K o a next):o.wp P a w next Q:=by
 have he:execOp a.eval o=(do pure (.value (←Instr.sliceAt t (a.eval x) (lo.map a.eval) (hi.map a.eval) (mx.map a.eval)))):=by unfold execOp;simp only[ho]
 have hx:=hs.ev x
 obtain⟨e,h1,h2,rfl,h3,h4,h⟩:=h
 obtain⟨d1,i1,z1,t1⟩:=hA.at_ (t:=t) (by rw[h1];simp)
 obtain⟨d2,i2,z2,t2⟩:=hA.at_ h2
 have hd1:=JK (t1.kd.trans h1)
 subst hd1
 split at h
 ·rename_i sz n cs hxe
  rw[hxe] at hx
  obtain⟨rfl,b1,b2,h5⟩:=h
  obtain⟨A,cap,q1,q2,q3,q4,q5,q6⟩:=hx.inv_sl
  have hrun:=q8p (P:=P) (A:=A) (cap:=cap) hs t1.ud t2.info h3 h4 b1 b2 q2
  have hAA:(if n=0 then A else A.map (·.add 0))=A:=by
   split
   ·rfl
   ·cases A with
    | none=>rfl
    | some ad=>obtain⟨b,off,pt⟩:=ad;rfl
  rw[hAA] at hrun
  refine qE he (by rw[q1];exact hrun) (hn _ _ ρ _ _ h5 hs (.c _ _ (.clp A _ n cs ?_)))
  rcases q6 with q6|⟨b,off,f,rfl,q7,q8,q9,q10⟩
  ·subst q6
   have hcs:cs=[]:=qwe (by rw[q5];simp)
   subst hcs
   exact .nil _ _ _ (qwl _) fun _=>rfl
  ·exact .sl b off n n _ cs f q5 (qwb _) (by omega) q7 q8 q9 q10
 ·rename_i hxe
  rw[hxe] at hx
  obtain⟨b1,b2,h5⟩:=h
  have hrun:=q8p (P:=P) (A:=none) (n:=0) (cap:=0) hs t1.ud t2.info h3 h4 b1 b2 (qwb _)
  refine qE he (by rw[hx.inv_nils];exact hrun) (hn _ _ ρ _ _ h5 hs (.c _ _ (.clp none _ 0 [] (.nil _ _ _ (qwl _) fun _=>rfl))))
 ·cases h
def qch (T:Ty) (s:S) (t:TypeId) (x:Operand) (lo hi mx:Option Operand) (K:KK):Prop:=
 match mx with
 | none=>q2q T s t x lo hi none K
 | some m=>q6f T s t x lo hi (some m) K
theorem qdB (hA:Ag P T) {t:TypeId} {x:Operand} {lo hi mx:Option Operand} (ho:o.op = .slice t x lo hi mx) (hs:Sim cx ρ s a w) (h:qch T s t x lo hi mx K) (hn:Qn cx K o a next):o.wp P a w next Q:=by
 cases mx with
 | none=>exact qew hA ho hs h hn
 | some m=>exact qj0 hA ho hs h hn
end
end
noncomputable section
open Go.RowKit
section
variable {P:Program} {T:Ty} {cx:Cx} {ρ:Pl} {s:S} {a:Act} {w:World} {o:Oper} {next:Act→World→Prop} {Q:Exit→Act→World→Prop} {K:KK}
def q2c (T:Ty) (s:S) (t:TypeId) (x:Operand) (f:Nat) (K:KK):Prop:=
 match s.ev x with
 | .agg xs=>∃fo ft r,T.foff t f=some (fo,ft)∧ld T xs fo ft=some r∧K r s
 | _=>False
theorem qft (hA:Ag P T) {t:TypeId} {x:Operand} {f:Nat} (ho:o.op = .field t x f) (hs:Sim cx ρ s a w) (h:q2c T s t x f K) (hn:Qn cx K o a next):o.wp P a w next Q:=by
 have he:execOp a.eval o=(do pure (.value (←Instr.field t (a.eval x) f))):=by unfold execOp;simp only[ho]
 have hx:=hs.ev x
 unfold q2c at h
 split at h
 ·rename_i xs hxe
  rw[hxe] at hx
  obtain⟨vs,q1,q2,q3⟩:=hx.inv_agg
  obtain⟨fo,ft,r,h1,h2,h3⟩:=h
  obtain⟨v,h4,h5⟩:=q0Q (P:=P) (w:=w) hA h2 q2 q3
  have hk:T.k t ≠ .other:=by intro h;simp[Ty.foff,h] at h1
  obtain⟨d,i,z,ht⟩:=hA.at_ hk
  have hst:∃fs fd,d = .struct fs∧fs[f]?=some fd∧fd.offset=fo∧fd.type=ft:=by
   have hkd:=ht.kd
   cases d with
   | struct fs=>
    simp only[q1s] at hkd
    simp only[Ty.foff,←hkd,qw9] at h1
    obtain⟨fd,h5,h6⟩:=qw8.1 h1
    injection h6 with h6 h7
    exact⟨fs,fd,rfl,by simpa using h5,h6,h7⟩
   | _=>simp only[q1s] at hkd;simp[Ty.foff,←hkd] at h1
  obtain⟨fs,fd,rfl,hfd,hfo,hft⟩:=hst
  refine qE he ?_ (hn _ _ ρ _ _ h3 hs h5)
  rw[q1]
  unfold Instr.field
  simp only[Sem.run_bind,run_underlying ht.ud,Result.andThen_ok,hfd,asAgg,Sem.run_pure,hft,hfo,h4]
 ·cases h
def q2B (T:Ty) (s:S) (t:TypeId) (x y:Operand) (K:KK):Prop:=
 match s.ev y,s.ev x with
 | .c (.d (.int _ i)),.agg xs=>∃n e r,T.k t = .arr n e∧T.k e ≠ .other∧0≤i∧i<n∧ld T xs (i.toNat*T.sz e) e=some r∧K r s
 | .c (.d (.int _ i)),.c (.d (.str b))=>T.k t = .str∧0≤i∧∃c,b.data.toList[i.toNat]?=some c∧K (.c (.d (.int .u8 c.toNat))) s
 | _,_=>False
theorem qf8 (hA:Ag P T) {t:TypeId} {x y:Operand} (ho:o.op = .index t x y) (hs:Sim cx ρ s a w) (h:q2B T s t x y K) (hn:Qn cx K o a next):o.wp P a w next Q:=by
 have he:execOp a.eval o=(do pure (.value (←Instr.index t (a.eval x) (a.eval y)))):=by unfold execOp;simp only[ho]
 have hx:=hs.ev x
 have hy:=hs.ev y
 unfold q2B at h
 split at h
 ·rename_i k i xs hye hxe
  rw[hye] at hy
  rw[hxe] at hx
  obtain⟨n,e,r,h1,h2,h3,h4,h5,h6⟩:=h
  obtain⟨vs,q1,q2,q3⟩:=hx.inv_agg
  obtain⟨d,ti,z,ht⟩:=hA.at_ (t:=t) (by rw[h1];simp)
  obtain⟨d',i',z',ht'⟩:=hA.at_ h2
  have hd:=q6O (ht.kd.trans h1)
  subst hd
  obtain⟨v,h7,h8⟩:=q0Q (P:=P) (w:=w) hA h5 q2 q3
  refine qE he ?_ (hn _ _ ρ _ _ h6 hs h8)
  rw[q1,hy.inv_int]
  unfold Instr.index
  simp only[asIntOf,Sem.run_bind,Sem.run_pure,Result.andThen_ok,run_underlying ht.ud,h3,h4,and_self,if_true,zH ht'.info,ht'.sz,h7]
 ·rename_i k i b hye hxe
  rw[hye] at hy
  rw[hxe] at hx
  obtain⟨h1,h2,c,h3,h4⟩:=h
  obtain⟨d,ti,z,ht⟩:=hA.at_ (t:=t) (by rw[h1];simp)
  have hd:=Js (ht.kd.trans h1)
  subst hd
  refine qE he ?_ (hn _ _ ρ _ _ h4 hs (.c _ _ (.d _ _ (.int _ _))))
  rw[hx.inv_str,hy.inv_int]
  have hb:b[i.toNat]?=some c:=by
   have hlt:i.toNat<b.data.size:=by have:=(qvZ.1 h3).1;simpa using this
   have h5:b.data[i.toNat]=c:=by
    have:=(qvZ.1 h3).2
    simpa using this
   rw[getElem?_pos b i.toNat hlt]
   exact congrArg some h5
  unfold Instr.index
  simp only[asIntOf,Sem.run_bind,Sem.run_pure,Result.andThen_ok,run_underlying ht.ud,h2,if_true,hb]
 ·cases h
def R.parts:R→Option (List C)
 | .c x=>if x.known then some [x] else none
 | .agg xs=>if xs.all C.noow=true then some xs else none
 | _=>none
theorem R.parts_noow {r:R} {cs:List C} (hc:r.parts=some cs):cs.all C.noow=true:=by
 cases r with
 | c x=>
  simp only[R.parts] at hc
  split at hc
  ·rename_i hk
   injection hc with hc
   subst hc
   exact ZO (by simpa using hk)
  ·cases hc
 | agg xs=>
  simp only[R.parts] at hc
  split at hc
  ·rename_i hk;injection hc with hc;subst hc;exact hk
  ·cases hc
 | tup xs=>cases hc
 | any=>cases hc
theorem RR.parts {L:Nat→Prop} {v:Value} {r:R} {cs:List C} (h:RR w L ρ v r) (hc:r.parts=some cs):v.cells.size=cs.length∧∀j c,cs[j]?=some c→RC w L ρ (v.cells.getD j undef) c:=by
 cases h with
 | c v x h=>
  simp only[R.parts] at hc
  split at hc
  ·rename_i hk
   injection hc with hc
   subst hc
   have:=(RR.c v x h).cells (cs:=[x]) rfl (by simpa using hk)
   exact⟨this.1,this.2.1⟩
  ·cases hc
 | agg vs xs h1 h2=>
  simp only[R.parts] at hc
  split at hc
  ·injection hc with hc
   subst hc
   exact⟨h1,h2⟩
  ·cases hc
 | tup vs xs h1 h2=>cases hc
 | any v=>cases hc
def bld (s:S) (pl:Nat→Option (Nat×Nat)):List (Nat×Operand)→List C→Option (List C)
 | [],cs=>some cs
 | (i,x)::r,cs=>
  match pl i,(s.ev x).parts with
  | some (off,sz),some ys=>if ys.length=sz∧off+sz≤cs.length then bld s pl r (spl cs off ys) else none
  | _,_=>none
theorem q95:∀(ys cs:List C) (off:Nat),ys.all C.noow=true→cs.all C.noow=true→(spl cs off ys).all C.noow=true
 | [],cs,off,_,h=>h
 | y::ys,cs,off,hy,h=>by
  rw[List.all_cons,qwr] at hy
  refine q95 ys _ (off+1) hy.2 (qwc.2 fun c hc=>?_)
  rcases List.mem_or_eq_of_mem_set hc with h1|h1
  ·exact qwc.1 h c h1
  ·rw[h1];exact hy.1
theorem q8c {s:S} {pl:Nat→Option (Nat×Nat)}:∀{parts:List (Nat×Operand)} {cs cs':List C},bld s pl parts cs=some cs'→cs.all C.noow=true→cs'.all C.noow=true
 | [],cs,cs',h,hc=>by injection h with h;rw[←h];exact hc
 | (i,x)::r,cs,cs',h,hc=>by
  unfold bld at h
  split at h
  ·rename_i off sz ys hp hy
   split at h
   ·exact q8c h (q95 ys cs off (R.parts_noow hy) hc)
   ·cases h
  ·cases h
theorem q8Q:∀(l:List Value) (k off:Nat) (cs:Array Value),(l.zipIdx k).foldl (fun cs x=>cs.setIfInBounds (off+x.2) x.1) cs=qcA cs (off+k) l
 | [],_,_,_=>rfl
 | v::l,k,off,cs=>by
  rw[List.zipIdx_cons,qwX,qcA,q8Q l (k+1) off]
  rw[qwO]
theorem qdr (us:Array Value) (off:Nat) (cs:Array Value):us.zipIdx.foldl (fun cs x=>cs.setIfInBounds (off+x.2) x.1) cs=qcA cs off us.toList:=by
 rw[←Array.foldl_toList,Array.toList_zipIdx]
 exact q8Q us.toList 0 off cs
theorem q38 (hs:Sim cx ρ s a w) (pl:Nat→Option (Nat×Nat)):∀(parts:List (Nat×Operand)) (vs:Array Value) (cs cs':List C),bld s pl parts cs=some cs'→vs.size=cs.length→(∀j c,cs[j]?=some c→RC w s.live ρ (vs.getD j undef) c)→
  ∃vs',Instr.fill pl vs (parts.map fun p=>(p.1,a.eval p.2))=some vs'∧vs'.size=cs'.length∧∀j c,cs'[j]?=some c→RC w s.live ρ (vs'.getD j undef) c
 | [],vs,cs,cs',h,hz,hc=>by
  injection h with h
  subst h
  exact⟨vs,rfl,hz,hc⟩
 | (i,x)::r,vs,cs,cs',h,hz,hc=>by
  unfold bld at h
  split at h
  ·rename_i off sz ys hp hy
   split at h
   ·rename_i hlt
    obtain⟨h1,h2⟩:=hlt
    obtain⟨g1,g2⟩:=(hs.ev x).parts hy
    have hlen:(a.eval x).cells.toList.length=ys.length:=by simpa using g1
    obtain⟨vs',h3,h4,h5⟩:=q38 hs pl r (qcA vs off (a.eval x).cells.toList) (spl cs off ys) cs' h (by rw[ZR,JQ,hz])
     (q5E ys _ cs vs off hlen (fun j c hj=>by have:=g2 j c hj;simpa [qw1,List.getD] using this) (by omega) (by omega) hc)
    refine⟨vs',?_,h4,h5⟩
    simp only[qwi,Instr.fill,hp]
    rw[if_neg (by rw[g1,hz];simp;omega)]
    rw[←h3,←qdr]
   ·cases h
  ·cases h
def Zi (T:Ty) (t:TypeId):Nat→Option (Nat×Nat):=fun i=>match T.foff t i with|some (off,ft)=>some (off,T.sz ft)|none=>none
def q2j (T:Ty) (s:S) (t:TypeId) (parts:List (Nat×Operand)) (K:KK):Prop:=
 match T.k t with
 | .st fs=>fs.all (fun f=>decide (T.k f.2 ≠ .other))=true∧∃cs,bld s (Zi T t) parts (T.zero t)=some cs∧K (.agg cs) s
 | .arr _ e=>T.k e ≠ .other∧∃cs,bld s (fun i=>some (i*T.sz e,T.sz e)) parts (T.zero t)=some cs∧K (.agg cs) s
 | _=>False
theorem q7b {t:TypeId} {i:TypeInfo} {z:Value} (hi:P.info? t=some i) (hz:i.zero=some z):(zeroValue t).run P w = .ok z w:=by simp[zeroValue,typeInfo,hi,hz]
theorem q4W (hA:Ag P T):∀(l:List Field),(∀f∈l,T.k f.type ≠ .other)→(l.mapM (fun f=>do pure (f.offset,←sizeOf f.type):Field→Sem (Nat×Nat))).run P w = .ok (l.map fun f=>(f.offset,T.sz f.type)) w
 | [],_=>rfl
 | f::l,h=>by
  obtain⟨d,i,z,ht⟩:=hA.at_ (h f qwa)
  rw[List.mapM_cons]
  simp only[Sem.run_bind,zH ht.info,Result.andThen_ok,ht.sz,Sem.run_pure,q4W hA l (fun g hg=>h g (qw3 _ hg)),qwi]
theorem qgj (hA:Ag P T) {t:TypeId} {parts:Array (Nat×Operand)} (ho:o.op = .build t parts) (hs:Sim cx ρ s a w) (h:q2j T s t parts.toList K) (hn:Qn cx K o a next):o.wp P a w next Q:=by
 have he:execOp a.eval o=(do pure (.value (←Instr.build t (parts.map fun(i,x)=>(i,a.eval x))))):=by unfold execOp;simp only[ho]
 have hmap:(parts.map fun(i,x)=>(i,a.eval x)).toList=parts.toList.map fun p=>(p.1,a.eval p.2):=by simp
 unfold q2j at h
 split at h
 ·rename_i fs hk
  obtain⟨h0,cs,h1,h2⟩:=h
  obtain⟨d,i,z,ht⟩:=hA.at_ (t:=t) (by rw[hk];simp)
  obtain⟨fa,hd,hfa⟩:=qni (ht.kd.trans hk)
  subst hd
  obtain⟨g1,g2⟩:=q1p (w:=w) (L:=s.live) (ρ:=ρ) ht.zs
  obtain⟨vs',h3,h4,h5⟩:=q38 hs (Zi T t) parts.toList z.cells (T.zero t) cs h1 (by simpa using g1) (fun j c hj=>by have:=g2 j c hj;simpa [qw1,List.getD] using this)
  refine qE he ?_ (hn _ _ ρ _ _ h2 hs (.agg vs' cs h4 h5))
  have hmem:∀f∈fa.toList,T.k f.type ≠ .other:=fun f hf=>by
   have:(f.offset,f.type)∈fs:=by rw[←hfa];exact List.mem_map_of_mem (f:=fun f:Field=>(f.offset,f.type)) hf
   simpa using (qwc.1 h0) _ this
  have hpl:(fa.mapM (fun f=>do pure (f.offset,←sizeOf f.type):Field→Sem (Nat×Nat))).run P w = .ok (fa.toList.map fun f=>(f.offset,T.sz f.type)).toArray w:=by
   rw[Array.mapM_eq_mapM_toList]
   have:=q4W (P:=P) (w:=w) hA fa.toList hmem
   show Sem.run P (List.toArray <$> _) w=_
   rw[map_eq_pure_bind,Sem.run_bind,this]
   rfl
  have hfp:(fun i=>(fa.toList.map fun f=>(f.offset,T.sz f.type)).toArray[i]?)=Zi T t:=by
   funext i
   simp only[Zi,Ty.foff,hk,←hfa,qw9,List.getElem?_toArray]
   cases fa.toList[i]? <;> rfl
  unfold Instr.build
  simp only[Sem.run_bind,q7b ht.info ht.zero,Result.andThen_ok,run_underlying ht.ud,hpl,hmap,hfp,h3,Sem.run_pure]
 ·rename_i n e hk
  obtain⟨h0,cs,h1,h2⟩:=h
  obtain⟨d,i,z,ht⟩:=hA.at_ (t:=t) (by rw[hk];simp)
  obtain⟨d',i',z',ht'⟩:=hA.at_ h0
  have hd:=q6O (ht.kd.trans hk)
  subst hd
  obtain⟨g1,g2⟩:=q1p (w:=w) (L:=s.live) (ρ:=ρ) ht.zs
  obtain⟨vs',h3,h4,h5⟩:=q38 hs (fun i=>some (i*T.sz e,T.sz e)) parts.toList z.cells (T.zero t) cs h1 (by simpa using g1) (fun j c hj=>by have:=g2 j c hj;simpa [qw1,List.getD] using this)
  refine qE he ?_ (hn _ _ ρ _ _ h2 hs (.agg vs' cs h4 h5))
  unfold Instr.build
  simp only[Sem.run_bind,q7b ht.info ht.zero,Result.andThen_ok,run_underlying ht.ud,zH ht'.info,ht'.sz,hmap,h3,Sem.run_pure]
 ·cases h
def Zv (T:Ty) (s:S) (p:Nat) (t:TypeId) (len:Nat) (parts:List (Nat×Operand)) (K:KK):Prop:=
 ∃e,T.k t = .sl e∧T.k e ≠ .other∧0<T.sz e∧len*T.sz e≤16777216∧∃cs,bld s (fun i=>some (i*T.sz e,T.sz e)) parts (List.replicate (len*T.sz e) .any)=some cs∧K (.c (.own p (T.sz e) 0 len)) (s.up [(p,if 0<len∧T.bk t len=true then .blk e cs else .row e (T.sz e) cs)])
theorem q5c (hA:Ag P T) {t:TypeId} {len p:Nat} {parts:Array (Nat×Operand)} (hp:¬ s.live p) (ho:o.op = .buildSlice t len parts) (hs:Sim cx ρ s a w) (h:Zv T s p t len parts.toList K) (hn:Qn cx K o a next):o.wp P a w next Q:=by
 have he:execOp a.eval o=(do pure (.value (←Instr.buildSlice t len (parts.map fun(i,x)=>(i,a.eval x))))):=by unfold execOp;simp only[ho]
 have hmap:(parts.map fun(i,x)=>(i,a.eval x)).toList=parts.toList.map fun p=>(p.1,a.eval p.2):=by simp
 obtain⟨e,h1,h2,h3,h4,cs,h5,h6⟩:=h
 obtain⟨d,i,z,ht⟩:=hA.at_ (t:=t) (by rw[h1];simp)
 obtain⟨d',i',z',ht'⟩:=hA.at_ h2
 have hd:=JK (ht.kd.trans h1)
 subst hd
 have hany:∀(us:Array Value),us.size=len*T.sz e→∃vs',Instr.fill (fun i=>some (i*T.sz e,T.sz e)) us (parts.toList.map fun p=>(p.1,a.eval p.2))=some vs'∧vs'.size=cs.length∧∀j c,cs[j]?=some c→RC w s.live ρ (vs'.getD j undef) c:=fun us hu=>
  q38 hs _ parts.toList us _ cs h5 (by simp[hu]) (fun j c hj=>by
   rw[List.getElem?_replicate] at hj
   split at hj
   ·injection hj with hj;subst hj;exact .any _
   ·cases hj)
 have hcl:∀{ps:List (Nat×Operand)} {l l':List C} {pl:Nat→Option (Nat×Nat)},bld s pl ps l=some l'→l'.length=l.length:=by
  intro ps
  induction ps with
  | nil=>intro l l' pl h;injection h with h;rw[h]
  | cons x ps ih=>
   intro l l' pl h
   unfold bld at h
   split at h
   ·split at h
    ·rw[ih h,JQ]
    ·cases h
   ·cases h
 have hlen:cs.length=len*T.sz e:=by rw[hcl h5];simp
 have hrun:∃us:Array Value,us.size=len*T.sz e∧∀vs',Instr.fill (fun i=>some (i*T.sz e,T.sz e)) us (parts.toList.map fun p=>(p.1,a.eval p.2))=some vs'→
   (Instr.buildSlice t len (parts.map fun(i,x)=>(i,a.eval x))).run P w = .ok (.slice (some ⟨w.heap.size,0,none⟩) len len) (w.alloc (.cells vs' e)):=by
  refine⟨(Array.range (len*T.sz e)).map ((if len*T.sz e=0 then #[] else z'.cells)[· % (if len*T.sz e=0 then #[] else z'.cells).size]!),by simp,fun vs' hf=>?_⟩
  unfold Instr.buildSlice
  simp only[Sem.run_bind,run_underlying ht.ud,Result.andThen_ok,zH ht'.info,ht'.sz]
  rw[if_neg (by omega)]
  by_cases h0:len*T.sz e=0
  ·simp only[h0,if_true] at hf
   simp only[h0,if_true,Sem.run_pure,Sem.run_bind,Result.andThen_ok,hmap,hf]
   rfl
  ·simp only[h0,if_false] at hf
   simp only[h0,if_false,Sem.run_pure,Sem.run_bind,Result.andThen_ok,q7b ht'.info ht'.zero,hmap,hf]
   rfl
 obtain⟨us,h7,h8⟩:=hrun
 obtain⟨vs',h9,h10,h11⟩:=hany us h7
 have hm:len≤maxLen:=by
  have:len≤len*T.sz e:=Nat.le_mul_of_pos_right len h3
  unfold maxLen;omega
 have hno:=q8c h5 (qwc.2 fun c hc=>by rw[(List.mem_replicate.1 hc).2];rfl)
 by_cases hb:0<len∧T.bk t len=true
 ·rw[if_pos hb] at h6
  have hst:=JV (w:=w) (ρ:=ρ) (x := .blk e cs) hp (.cells vs' e) len
  refine qE he (h8 vs' h9) (hn _ _ _ _ _ h6 (hs.new (cap:=len) hp ⟨vs',heap_alloc_new w _,h10,fun j c hj=>(h11 j c hj).stay hst⟩ hno) (.c _ _ ?_))
  have:=RC.own (w:=w.alloc (.cells vs' e)) (L:=(s.up [(p,.blk e cs)]).live) (ρ:=ρ.set p w.heap.size len) p (T.sz e) 0 len w.heap.size len (by unfold S.live;rw[S.blk_up,if_pos rfl];rfl) (if_pos rfl) (by omega) hm
  simpa using this
 ·rw[if_neg hb] at h6
  obtain⟨ρ',h12,h13⟩:=qc2 (sz:=T.sz e) (n:=len) (cap:=len) hs hp e (by rw[h10];exact qwb _) (by rw[h10,hlen]) hm h3 (qwb _) h11 hno
  exact qE he (h8 vs' h9) (hn _ _ ρ' _ _ h6 h12 h13)
def S.cell1 (s:S) (x:Operand):Option C:=match s.ev x with | .c c=>some c|_=>none
def ZP (s:S) (f:Fn) (first captured:List Operand) (K:KK):Prop:=
 match f with
 | .func g=>∃fs caps,first.mapM s.cell1=some fs∧captured.mapM s.cell1=some caps∧K (.c (.fn g fs caps)) s
 | _=>False
theorem qdA (hs:Sim cx ρ s a w):∀(l:List Operand) (cs:List C),l.mapM s.cell1=some cs→l.length=cs.length∧∀j c,cs[j]?=some c→RC w s.live ρ ((l.map a.eval).getD j undef) c
 | [],cs,h=>by
  injection h with h
  subst h
  exact⟨rfl,fun j c h=>by simp at h⟩
 | x::l,cs,h=>by
  rw[List.mapM_cons] at h
  obtain⟨c,h1,h2⟩:=qw0.1 h
  obtain⟨cs',h3,h4⟩:=qw0.1 h2
  injection h4 with h4
  subst h4
  obtain⟨h5,h6⟩:=qdA hs l cs' h3
  have hx:=hs.ev x
  unfold S.cell1 at h1
  split at h1
  ·rename_i c' he
   injection h1 with h1
   subst h1
   rw[he] at hx
   refine⟨by simp[h5],fun j d hj=>?_⟩
   cases j with
   | zero=>simp only[qw5,qwK] at hj;subst hj;exact hx.inv_c
   | succ j=>simpa using h6 j d (by simpa using hj)
  ·cases h1
theorem q7w {f:Fn} {first captured:Array Operand} (ho:o.op = .makeFunc f first captured) (hs:Sim cx ρ s a w) (h:ZP s f first.toList captured.toList K) (hn:Qn cx K o a next):o.wp P a w next Q:=by
 have he:execOp a.eval o=(do pure (.value (←Instr.makeFunc f (first.map a.eval) (captured.map a.eval)))):=by unfold execOp;simp only[ho]
 unfold ZP at h
 split at h
 ·rename_i g
  obtain⟨fs,caps,h1,h2,h3⟩:=h
  obtain⟨h4,h5⟩:=qdA hs _ _ h1
  obtain⟨h6,h7⟩:=qdA hs _ _ h2
  refine qE he rfl (hn _ _ ρ _ _ h3 hs (.c _ _ (.fn g fs caps _ _ (by simpa using h4) (fun j c hj=>?_) (by simpa using h6) (fun j c hj=>?_))))
  ·have:=h5 j c hj;simpa [qw1,List.getD] using this
  ·have:=h7 j c hj;simpa [qw1,List.getD] using this
 ·cases h
end
end
noncomputable section
open Go.RowKit
theorem q89 {α:Type} (zs:List α) (l j:Nat) (c:α) (h:(List.replicate l zs).flatten[j]?=some c):j<l*zs.length∧zs[j % zs.length]?=some c:=by
 induction l generalizing j with
 | zero=>simp at h
 | succ l ih=>
  rw[List.replicate_succ,List.flatten_cons] at h
  by_cases hj:j<zs.length
  ·rw[qwy hj] at h
   refine⟨?_,by rw[Nat.mod_eq_of_lt hj];exact h⟩
   rw[Nat.add_mul];omega
  ·rw[qwx (by omega)] at h
   obtain⟨h1,h2⟩:=ih (j-zs.length) h
   refine⟨by rw[Nat.add_mul];omega,?_⟩
   rw[←h2,Nat.mod_eq_sub_mod (by omega)]
def C.far (id:Nat):C→Bool
 | .ptr i _=>i != id
 | .hd _ i=>i != id
 | .own i _ _ _=>i != id
 | .fn _ _ _=>false
 | _=>true
def C.fg (id:Nat):C→C
 | .ptr i o=>if i=id then .any else .ptr i o
 | .hd k i=>if i=id then .any else .hd k i
 | .own i sz off n=>if i=id then .any else .own i sz off n
 | .fn f fs caps=>if(fs++caps).all (C.far id)=true then .fn f fs caps else .any
 | c=>c
def R.fg (id:Nat):R→R
 | .c x => .c (x.fg id)
 | .agg xs => .agg (xs.map (C.fg id))
 | .tup rs=>if rs.isEmpty=true then .tup [] else .any
 | .any => .any
def B.fg (id:Nat):B→B
 | .blk t cs => .blk t (cs.map (C.fg id))
 | .row e sz cs => .row e sz (cs.map (C.fg id))
 | .ob o => .ob (o.mapR (R.fg id))
 | .dead => .dead
def S.fg (s:S) (id:Nat):S:={ s with tm:=s.tm.map fun x=>(x.1,x.2.fg id),hp:=s.hp.map fun x=>(x.1,x.2.fg id) }
theorem Zg {α:Type} (f:α→α) (l:List (Nat×α)) (i:Nat) (z:α) (hz:f z=z):lk (l.map fun x=>(x.1,f x.2)) i z=f (lk l i z):=by
 induction l with
 | nil=>exact hz.symm
 | cons x l ih=>
  obtain⟨j,y⟩:=x
  simp only[qwi,lk]
  split
  ·rfl
  ·exact ih
theorem S.get_fg (s:S) (id i:Nat):(s.fg id).get i=(s.get i).fg id:=Zg (R.fg id) s.tm i .any rfl
theorem S.blk_fg (s:S) (id i:Nat):(s.fg id).blk i=(s.blk i).fg id:=Zg (B.fg id) s.hp i .dead rfl
theorem B.fg_live (x:B) (id:Nat):(x.fg id).live=x.live:=by cases x<;>rfl
theorem B.fg_isBlk (x:B) (id:Nat):(x.fg id).isBlk=x.isBlk:=by cases x<;>rfl
theorem B.fg_cells (x:B) (id:Nat):(x.fg id).cells=x.cells.map (C.fg id):=by cases x<;>rfl
theorem C.fg_ow {c:C} {id:Nat} (h:(c.fg id).isOw=true):c.isOw=true:=by
 cases c with
 | ow e sz n cs=>rfl
 | ptr i o=>simp only[C.fg] at h;split at h<;>cases h
 | hd k i=>simp only[C.fg] at h;split at h<;>cases h
 | own i sz o n=>simp only[C.fg] at h;split at h<;>cases h
 | fn f fs caps=>simp only[C.fg] at h;split at h<;>cases h
 | _=>cases h
theorem B.fg_ow {x:B} {id j:Nat} {y:C} (h:(x.fg id).cells[j]?=some y) (ho:y.isOw=true):∃z,x.cells[j]?=some z∧z.isOw=true:=by
 rw[B.fg_cells,qw9] at h
 obtain⟨z,h1,h2⟩:=qw8.1 h
 exact⟨z,h1,C.fg_ow (h2 ▸ ho)⟩
theorem S.live_fg (s:S) (id i:Nat):(s.fg id).live i↔s.live i:=by unfold S.live;rw[S.blk_fg,B.fg_live]
structure q5l (id:Nat) (w:World) (L:Nat→Prop) (ρ:Pl) (w':World) (L':Nat→Prop) (ρ':Pl):Prop where
 size:w.heap.size≤w'.heap.size
 block:∀b,b<w.heap.size→¬ Occ L ρ b→w'.heap[b]?=w.heap[b]?
 occ:∀b,b<w.heap.size→Occ L' ρ' b→Occ L ρ b
 ids:∀i,i≠id→L i→L' i∧ρ' i=ρ i
 frm:∀b,ρ.F b→ρ'.F b∧(b<w.heap.size→w'.heap[b]?=w.heap[b]?)
section
variable {id:Nat} {w w':World} {L L':Nat→Prop} {ρ ρ':Pl}
theorem RD.stayX (hs:q5l id w L ρ w' L' ρ') {v:Value} {x:D} (h:RD w (Occ L ρ) v x):RD w' (Occ L' ρ') v x:=by
 have hcell:∀{b o:Nat},b<w.heap.size→¬ Occ L ρ b→w'.cell? ⟨b,o,none⟩=w.cell? ⟨b,o,none⟩:=fun hb hO=>World.cell?_of_block (w:=w) (hs.block _ hb hO)
 induction h with
 | int k n=>exact .int k n
 | bool b=>exact .bool b
 | str s=>exact .str s
 | nil A cap sz h1 h2=>exact .nil A cap sz h1 h2
 | sl b off n cap sz cs f h1 h2 h3 h4 h5 h6 h7 ih=>
  exact .sl b off n cap sz cs f h1 h2 h3 (qwv h4 hs.size) (fun h=>h5 (hs.occ b h4 h)) (fun j c hj=>(hcell h4 h5).trans (h6 j c hj)) ih
theorem RC.stayX' (hs:q5l id w L ρ w' L' ρ') {v:Value} {x:C} (h:RC w L ρ v x) (hx:x.far id=true):RC w' L' ρ' v x:=by
 cases h with
 | d v x h=>exact .d v x (h.stayX hs)
 | ptr i off b cap h1 h2=>have hn:i≠id:=bne_iff_ne.1 hx;exact .ptr i off b cap (hs.ids i hn h1).1 ((hs.ids i hn h1).2.trans h2)
 | hd k i b cap h1 h2=>have hn:i≠id:=bne_iff_ne.1 hx;exact .hd k i b cap (hs.ids i hn h1).1 ((hs.ids i hn h1).2.trans h2)
 | nilp=>exact .nilp
 | nilf=>exact .nilf
 | nilm=>exact .nilm
 | nils=>exact .nils
 | eptr b o off cs f h1 h2 h3 h4=>exact .eptr b o off cs f (qwv h1 hs.size) (fun h=>h2 (hs.occ b h1 h)) (fun j c hj=>(World.cell?_of_block (w:=w) (hs.block _ h1 h2)).trans (h3 j c hj)) (fun j c hj=>(h4 j c hj).stayX hs)
 | own i sz off n b cap h1 h2 h3 h4=>have hn:i≠id:=bne_iff_ne.1 hx;exact .own i sz off n b cap (hs.ids i hn h1).1 ((hs.ids i hn h1).2.trans h2) h3 h4
 | own0 i sz h1 h2=>have hn:i≠id:=bne_iff_ne.1 hx;exact .own0 i sz (hs.ids i hn h1).1 ((hs.ids i hn h1).2.trans h2)
 | fn f fs caps us vs h1 h2 h3 h4=>cases hx
 | ow e sz n b cap cs vs h1 h2 h3 h4 h5 h6 h7 h8=>exact .ow e sz n b cap cs vs (hs.frm b h1).1 (((hs.frm b h1).2 (q4m h2)).trans h2) h3 h4 h5 h6 h7 (fun j c hj=>(h8 j c hj).stayX hs)
 | ow0 e sz h1=>exact .ow0 e sz h1
 | clp A sz n cs h=>exact .clp A sz n cs (h.stayX hs)
 | any v=>exact .any v
theorem RC.stayX (hs:q5l id w L ρ w' L' ρ') {v:Value} {x:C} (h:RC w L ρ v x):RC w' L' ρ' v (x.fg id):=by
 cases x with
 | ptr i o=>
  show RC w' L' ρ' v (if i=id then C.any else C.ptr i o)
  split
  ·exact .any _
  ·rename_i hn;exact h.stayX' hs (bne_iff_ne.2 hn)
 | hd k i=>
  show RC w' L' ρ' v (if i=id then C.any else C.hd k i)
  split
  ·exact .any _
  ·rename_i hn;exact h.stayX' hs (bne_iff_ne.2 hn)
 | own i sz off n=>
  show RC w' L' ρ' v (if i=id then C.any else C.own i sz off n)
  split
  ·exact .any _
  ·rename_i hn;exact h.stayX' hs (bne_iff_ne.2 hn)
 | fn f fs caps=>
  show RC w' L' ρ' v (if(fs++caps).all (C.far id)=true then C.fn f fs caps else C.any)
  split
  ·rename_i hall
   have hok:∀c∈fs++caps,c.far id=true:=fun c hc=>qwc.1 hall c hc
   cases h with
   | fn _ _ _ us vs h1 h2 h3 h4=>
    exact .fn f fs caps us vs h1 (fun j c hj=>(h2 j c hj).stayX' hs (hok c (qw7 _ (qvW hj)))) h3 (fun j c hj=>(h4 j c hj).stayX' hs (hok c (qw4 _ (qvW hj))))
  ·exact .any _
 | d x=>exact h.stayX' hs rfl
 | nilp=>exact h.stayX' hs rfl
 | nilf=>exact h.stayX' hs rfl
 | nilm=>exact h.stayX' hs rfl
 | nils=>exact h.stayX' hs rfl
 | eptr cs off=>exact h.stayX' hs rfl
 | ow e sz n cs=>exact h.stayX' hs rfl
 | clp sz n cs=>exact h.stayX' hs rfl
 | any=>exact .any _
theorem q6W {cs:List C} {vs:Nat→Value} (h:∀j c,cs[j]?=some c→RC w L ρ (vs j) c) (hs:q5l id w L ρ w' L' ρ'):∀j c,(cs.map (C.fg id))[j]?=some c→RC w' L' ρ' (vs j) c:=fun j c hj=>by
 rw[qw9] at hj
 obtain⟨x,h1,h2⟩:=qw8.1 hj
 exact h2 ▸ (h j x h1).stayX hs
theorem RR.stayX (hs:q5l id w L ρ w' L' ρ') {v:Value} {x:R} (h:RR w L ρ v x):RR w' L' ρ' v (x.fg id):=by
 cases h with
 | c v x h=>exact .c _ _ (h.stayX hs)
 | agg vs xs h1 h2=>exact .agg _ _ (by simpa using h1) (q6W h2 hs)
 | tup vs xs h1 h2=>
  show RR w' L' ρ' (.tuple vs) (if xs.isEmpty=true then .tup [] else .any)
  split
  ·rename_i he
   rw[List.isEmpty_iff] at he
   subst he
   exact .tup _ _ h1 (fun j c h=>by simp at h)
  ·exact .any _
 | any v=>exact .any _
theorem HB.stayX (hs:q5l id w L ρ w' L' ρ') {b cap:Nat} {x:B} (hb:w'.heap[b]?=w.heap[b]?) (h:HB w L ρ b cap x):HB w' L' ρ' b cap (x.fg id):=by
 cases x with
 | blk t cs=>obtain⟨vs,h1,h2,h3⟩:=h;exact⟨vs,hb.trans h1,by simpa using h2,q6W h3 hs⟩
 | row e sz cs=>obtain⟨vs,h1,h2,h3,h4,h5,h6⟩:=h;exact⟨vs,hb.trans h1,by simpa using h2,h3,h4,h5,q6W h6 hs⟩
 | ob o=>exact HO.map hb (fun v x _ hx=>hx.stayX hs) h
 | dead=>trivial
end
section
variable {P:Program} {T:Ty} {cx:Cx} {ρ:Pl} {s:S} {a:Act} {w:World} {o:Oper} {next:Act→World→Prop} {Q:Exit→Act→World→Prop} {K:KK}
def q4O (T:Ty) (s:S) (p:Nat) (t:TypeId) (x y:Operand) (K:KK):Prop:=
 match s.ev x,s.ev y with
 | .c (.d (.int _ l)),.c (.d (.int _ c))=>∃e,T.k t = .sl e∧T.k e ≠ .other∧0<T.sz e∧(T.zero e).length=T.sz e∧0≤l∧l≤c∧(T.by_ e:Int)*c≤281474976710656∧c≤9223372036854775807∧
   K (.c (.own p (T.sz e) 0 l.toNat)) (s.up [(p,.row e (T.sz e) (List.replicate l.toNat (T.zero e)).flatten)])
 | _,_=>False
theorem qiP (hA:Ag P T) {t:TypeId} {x y:Operand} {p:Nat} (hp:¬ s.live p) (ho:o.op = .makeSlice t x y) (hs:Sim cx ρ s a w) (h:q4O T s p t x y K) (hn:Qn cx K o a next):o.wp P a w next Q:=by
 have he:execOp a.eval o=(do pure (.value (←Instr.makeSlice t (a.eval x) (a.eval y)))):=by unfold execOp;simp only[ho]
 have hx:=hs.ev x
 have hy:=hs.ev y
 unfold q4O at h
 split at h
 ·rename_i k l k' c hxe hye
  rw[hxe] at hx
  rw[hye] at hy
  obtain⟨e,h1,h2,h3,h4,h5,h6,h7,h8,h9⟩:=h
  obtain⟨d,i,z,ht⟩:=hA.at_ (t:=t) (by rw[h1];simp)
  obtain⟨d',i',z',ht'⟩:=hA.at_ h2
  have hd:=JK (ht.kd.trans h1)
  subst hd
  have hrun:=run_make (P:=P) w t e i' z' ht.ud ht'.info ht'.zero k k' l c h5 h6 (by rw[ht'.by_];exact h7) h8
  rw[ht'.sz] at hrun
  obtain⟨g1,g2⟩:=q1p (w:=w) (L:=s.live) (ρ:=ρ) ht'.zs
  have hzs:z'.cells.size=T.sz e:=by rw[←h4,←g1];simp
  have hlc:l.toNat*T.sz e≤c.toNat*T.sz e:=Nat.mul_le_mul_right _ (by omega)
  obtain⟨ρ',q1,q2⟩:=qc2 (sz:=T.sz e) (n:=l.toNat) (cap:=c.toNat) (vs:=madeCells z'.cells (c.toNat*T.sz e)) (cs:=(List.replicate l.toNat (T.zero e)).flatten) hs hp e
   (by rw[size_madeCells];simp only[List.length_flatten,List.map_replicate,List.sum_replicate_nat,h4];exact hlc) (size_madeCells _ _) (by unfold maxLen;omega) h3 (by omega) (fun j c' hj=>by
    obtain⟨r1,r2⟩:=q89 _ _ _ _ hj
    rw[h4] at r1 r2
    have r3:=g2 _ c' r2
    have hlt:j<c.toNat*T.sz e:=by omega
    have hmod:j % T.sz e<z'.cells.size:=by rw[hzs];exact Nat.mod_lt _ h3
    have:(madeCells z'.cells (c.toNat*T.sz e)).getD j undef=z'.cells.toList.getD (j % T.sz e) undef:=by
     unfold madeCells
     simp only[qw1,List.getD,Array.getElem?_map,Array.getElem?_range,hlt,if_true,Option.map_some,Option.getD_some,hzs,Array.getElem?_toList]
     rw[getElem!_pos z'.cells (j % T.sz e) hmod,qwm hmod]
     rfl
    rw[this];exact r3) (qwc.2 fun c hc=>by
    obtain⟨j,hj⟩:=List.getElem?_of_mem hc
    exact qwc.1 (q7n ht'.zs) c (qvW (q89 _ _ _ _ hj).2))
  exact qE he (by rw[hx.inv_int,hy.inv_int];exact hrun) (hn _ _ ρ' _ _ h9 q1 q2)
 ·cases h
def S.seq (s:S) (x:Operand):Option (Nat×List C):=
 match s.ev x with
 | .c (.d (.sl _ n cs))=>some (n,cs.map C.d)
 | .c (.own id sz off n)=>some (n,((s.blk id).cells.drop (off*sz)).take (n*sz))
 | .c .nils=>some (0,[])
 | _=>none
theorem q7u (hs:Sim cx ρ s a w) {x:Operand} {m sz:Nat} {ys:List C} (h:s.seq x=some (m,ys)) (hl:ys.length=m*sz) :
  ∃A cap,a.eval x = .slice A m cap∧m≤cap∧cap≤maxLen∧(m=0∨∃b off,A=some ⟨b,off,none⟩∧b<w.heap.size∧∀j c,ys[j]?=some c→∃v,w.cell? ⟨b,off+j,none⟩=some v∧RC w s.live ρ v c):=by
 have hx:=hs.ev x
 unfold S.seq at h
 split at h
 ·rename_i sz' n cs hxe
  rw[hxe] at hx
  injection h with h
  injection h with h1 h2
  subst h1 h2
  obtain⟨A,cap,q1,q2,q3,q4,q5,q6⟩:=hx.inv_sl
  refine⟨A,cap,q1,q2,q3,?_⟩
  rcases q6 with q6|⟨b,off,f,q6,q7,q8,q9,q10⟩
  ·exact .inl q6
  ·refine .inr ⟨b,off,q6,q7,fun j c hj=>?_⟩
   rw[qw9] at hj
   obtain⟨d,r1,r2⟩:=qw8.1 hj
   exact⟨f j,q9 j d r1,r2 ▸ .d _ _ (q10 j d r1)⟩
 ·rename_i id sz' off n hxe
  rw[hxe] at hx
  injection h with h
  injection h with h1 h2
  subst h1 h2
  obtain⟨q1,q2⟩:=hx.inv_own
  rcases q2 with ⟨b,cap,q2,q3,q4,q5⟩|⟨q2,q3,rfl,rfl⟩
  ·refine⟨_,_,q5,by omega,by omega,.inr ⟨b,off*sz',rfl,(hs.hp id b cap q1 q2).1,fun j c hj=>?_⟩⟩
   have hj':j<n*sz':=by
    have:=(qvZ.1 hj).1
    rw[qwo] at this;omega
   rw[qwu hj',List.getElem?_drop] at hj
   exact(hs.hp id b cap q1 q2).2.cell hj
  ·exact⟨none,0,q3,qwb _,qwl _,.inl rfl⟩
 ·rename_i hxe
  rw[hxe] at hx
  injection h with h
  injection h with h1 h2
  subst h1 h2
  exact⟨none,0,hx.inv_nils,qwb _,qwl _,.inl rfl⟩
 ·cases h
def q20 (T:Ty) (s:S) (p:Nat) (t:TypeId) (x y:Operand) (K:KK):Prop:=
 ∃e m ys,T.k t = .sl e∧T.k e ≠ .other∧0<T.sz e∧(T.zero e).length=T.sz e∧s.seq y=some (m,ys)∧ys.all C.known=true∧ys.length=m*T.sz e∧
  match s.ev x with
  | .c (.own id sz off n)=>sz=T.sz e∧off=0∧(∃cs0 cs,s.blk id = .row e sz cs0∧cs0.take (n*sz)=cs∧cs.length=n*sz∧cs.all (C.far id)=true∧ys.all (C.far id)=true∧n+m≤maxLen∧(n+m)*T.by_ e≤140737488355328∧
    K (.c (.own id sz 0 (n+m))) ((s.fg id).up [(id,.row e sz (cs++ys))]))
  | .c .nils=>ys.all (C.far p)=true∧m≤maxLen∧m*T.by_ e≤140737488355328∧K (.c (.own p (T.sz e) 0 m)) ((s.fg p).up [(p,.row e (T.sz e) ys)])
  | .c (.clp sz n cs)=>sz=T.sz e∧0<m∧ys.all (C.far p)=true∧cs.length=n*sz∧n+m≤maxLen∧(n+m)*T.by_ e≤140737488355328∧K (.c (.own p (T.sz e) 0 (n+m))) ((s.fg p).up [(p,.row e (T.sz e) (cs.map C.d++ys))])
  | _=>False
theorem q7W {t ty e:TypeId} {i:TypeInfo} {z:Value} {sz:Nat} (ht:P.underlying t=some (.slice e)) (hi:P.info? e=some i) (hz:i.zero=some z) (hsize:i.size=sz) (hzs:z.cells.size=sz) (hsz:0<sz)
  {v:Value} {n m c:Nat} {xs news:List Value} {A:Option Addr} (hown:w.ownsRow 0 e sz v n xs) (hl:news.length=m*sz) (hA:m=0∨∃b off,A=some ⟨b,off,none⟩∧∀(j:Nat) (u:Value),news[j]?=some u→w.cell? ⟨b,off+j,none⟩=some u) (h1:∀u∈news,u.oneCell'=true)
  (h63:n+m≤maxLen) (hbytes:(n+m)*i.bytes≤140737488355328) :
  ∃v' w',(Builtin.append_ #[t,t] ty #[v,.slice A m c]).run P w = .ok v' w'∧w'.ownsRow 0 e sz v' (n+m) (xs++news)∧w.grownBy w' v.ownBlock∧(v'.ownBlock=v.ownBlock∨v'.ownBlock=some w.heap.size):=by
 cases A with
 | none=>
  have hm:m=0:=by rcases hA with h|⟨b,off,h,_⟩;exact h;cases h
  subst hm
  have hn:news=[]:=qwe (by simpa using hl)
  subst hn
  refine⟨v,w,?_,by simpa using hown,World.grownBy.refl w _,.inl rfl⟩
  rcases hown.2 with ⟨rfl,rfl⟩|⟨g,cap,cur,rfl,_,_,hnc,_⟩
  ·simp[Builtin.append_,run_underlying ht,sizeOf,typeInfo,hi,Builtin.lenOf,Builtin.firstCells]
  ·simp[Builtin.append_,run_underlying ht,sizeOf,typeInfo,hi,Builtin.lenOf,Builtin.firstCells,hnc,storeCells]
 | some ad=>
  obtain⟨v',w',g1,g2,g3,-,g4⟩:=run_append_own_at (P:=P) w 0 t ty e i z sz i.bytes ht hi hz hsize rfl hzs hsz v n xs hown ad m c news hl (fun j u hj=>by
   rcases hA with rfl|⟨b,off,h,hc⟩
   ·have hn:news=[]:=qwe (by simpa using hl)
    rw[hn] at hj;simp at hj
   ·injection h with h
    subst h
    rw[Qp]
    exact hc j u hj) h1 h63 hbytes (qwl _)
  exact⟨v',w',g1,g2,g3,g4⟩
theorem q9j {t ty e:TypeId} {i:TypeInfo} {z:Value} {sz:Nat} (ht:P.underlying t=some (.slice e)) (hi:P.info? e=some i) (hz:i.zero=some z) (hsize:i.size=sz) (hzs:z.cells.size=sz) (hsz:0<sz)
  {n m c:Nat} {ad:Addr} {xs news:List Value} (hx:xs.length=n*sz) (hxs:∀(j:Nat) (u:Value),xs[j]?=some u→w.cell? (ad.add j)=some u) (hm:0<m) (hl:news.length=m*sz) {b' off':Nat} (hA:∀(j:Nat) (u:Value),news[j]?=some u→w.cell? ⟨b',off'+j,none⟩=some u)
  (h63:n+m≤maxLen) (hbytes:(n+m)*i.bytes≤140737488355328) :
  ∃v' w',(Builtin.append_ #[t,t] ty #[.slice (some ad) n n,.slice (some ⟨b',off',none⟩) m c]).run P w = .ok v' w'∧w'.ownsRow 0 e sz v' (n+m) (xs++news)∧w.grownBy w' none∧v'.ownBlock=some w.heap.size:=by
 subst hsize
 have hsmall:n+m≤9223372036854775807:=by simp only[maxLen] at h63;omega
 have hr:=run_append_grow (P:=P) w t ty e i z ht hi hz ad n n xs hx hxs ⟨b',off',none⟩ m c news hl (fun j v hj=>by rw[Qp];exact hA j v hj) (by omega) (by omega) (growslice_fits (by omega) hbytes)
 have hge:=grownCap_ge w (n+m) n e
 have hcm:grownCap w (n+m) n e≤maxLen:=grownCap_le_maxLen w (n+m) n e h63
 have hlen:(xs++news).length=(n+m)*i.size:=by rw[qw2,hx,hl,Nat.add_mul]
 refine⟨_,_,hr,⟨hlen,.inr ⟨w.heap.size,_,_,rfl,qwl _,heap_alloc_new w.drew _,hge,hcm,?_,?_⟩⟩,⟨rfl,rfl,rfl,by simp,fun k hk _=>heap_alloc_old w.drew _ hk⟩,rfl⟩
 ·simp only[Array.size_append,List.size_toArray,size_zeroCells,hzs,hx,hl,←Nat.add_mul]
  congr 1
  omega
 ·simp only[Array.toList_append,qwA]
  rw[←qwA,←hlen]
  exact List.take_left
theorem Sim.rerow (hs:Sim cx ρ s a w) {id:Nat} {w':World} {v v':Value} {e:TypeId} {sz n:Nat} {cs:List C} {us:List Value}
  (hv:(∃b cap,s.live id∧ρ id=some (b,cap)∧v.ownBlock=some b)∨(v.ownBlock=none∧(s.live id→ρ id=none)))
  (hg:w.grownBy w' v.ownBlock) (hv':v'.ownBlock=v.ownBlock∨v'.ownBlock=some w.heap.size) (hown:w'.ownsRow 0 e sz v' n us) (hsz:0<sz) (hl:cs.length=n*sz)
  (hpin:¬ id<cx.k) (hc:∀(j:Nat) (c:C),cs[j]?=some c→c.far id=true∧∃u,us[j]?=some u∧RC w s.live ρ u c)
  (how:∀(j:Nat) (c:C) (u:Value),cs[j]?=some c→c.isOw=true→us[j]?=some u→∃b cap,s.live id∧ρ id=some (b,cap)∧(s.blk id).cells[j]?=some c∧w.cell? ⟨b,j,none⟩=some u) :
  ∃ρ',Sim cx ρ' ((s.fg id).up [(id,.row e sz cs)]) a w'∧RR w' ((s.fg id).up [(id,.row e sz cs)]).live ρ' v' (.c (.own id sz 0 n)):=by
 have hlive:∀i,((s.fg id).up [(id,.row e sz cs)]).live i↔i=id∨s.live i:=fun i=>by
  unfold S.live
  rw[S.blk_up]
  by_cases h:id=i
  ·subst h;rw[if_pos rfl];exact⟨fun _ => .inl rfl,fun _=>rfl⟩
  ·rw[if_neg h,S.blk_fg,B.fg_live]
   exact⟨fun h' => .inr h',fun h'=>h'.resolve_left (Ne.symm h)⟩
 -- where the row lies now
 obtain⟨pl,hpl⟩:∃pl:Option (Nat×Nat),(pl=none∧v' = .slice none 0 0∧n=0)∨∃g cap cur,pl=some (g,cap)∧v' = .slice (some ⟨g,0,none⟩) n cap∧w'.heap[g]?=some (.cells cur e (0,0))∧n≤cap∧cap≤maxLen∧cur.size=cap*sz∧cur.toList.take (n*sz)=us:=by
  rcases hown.2 with ⟨h1,h2⟩|⟨g,cap,cur,h1,-,h2,h3,h4,h5,h6⟩
  ·exact⟨none,.inl ⟨rfl,h1,h2⟩⟩
  ·exact⟨some (g,cap),.inr ⟨g,cap,cur,rfl,h1,h2,h3,h4,h5,h6⟩⟩
 have hgb:∀g cap,pl=some (g,cap)→g<w'.heap.size∧(v.ownBlock=some g∨g=w.heap.size):=fun g cap hp=>by
  rcases hpl with ⟨h,-⟩|⟨g',cap',cur,h1,h2,h3,-⟩
  ·rw[hp] at h;cases h
  ·rw[hp] at h1
   injection h1 with h1
   injection h1 with h1 h1'
   subst h1 h1'
   refine⟨?_,?_⟩
   ·rcases Nat.lt_or_ge g w'.heap.size with h|h
    ·exact h
    ·rw[Array.getElem?_eq_none h] at h3;cases h3
   ·rw[h2] at hv'
    simp only[Value.ownBlock] at hv'
    rcases hv' with h|h
    ·exact .inl h.symm
    ·injection h with h;exact .inr h
 obtain⟨ρ',hρ⟩:∃ρ':Pl,ρ'=⟨fun i=>if i=id then pl else ρ i,ρ.F⟩:=⟨_,rfl⟩
 have hρF:ρ'.F=ρ.F:=by rw[hρ]
 have hρid:ρ' id=pl:=by rw[hρ];exact if_pos rfl
 have hρne:∀i,i≠id→ρ' i=ρ i:=fun i hi=>by rw[hρ];exact if_neg hi
 have hnb:∀b,b<w.heap.size→(∀c,ρ id=some (b,c)→¬ s.live id)→w'.heap[b]?=w.heap[b]?:=fun b hb hno=>hg.block b hb (fun h=>by
  rcases hv with ⟨b',cap,h1,h2,h3⟩|⟨h1,-⟩
  ·rw[h3] at h;injection h with h;subst h;exact hno cap h2 h1
  ·rw[h1] at h;cases h)
 have hst:q5l id w s.live ρ w' ((s.fg id).up [(id,.row e sz cs)]).live ρ':=by
  refine⟨hg.size,fun b hb hO=>hnb b hb (fun c h1 h2=>hO (.inr ⟨id,c,h2,h1⟩)),fun b hb hO=>?_,fun i hi hl'=>⟨(hlive i).2 (.inr hl'),hρne i hi⟩,fun b hF=>⟨hρF ▸ hF,fun hb=>hnb b hb (fun c h1 h2=>hs.disj id b c h2 h1 hF)⟩⟩
  rcases hO with hF|⟨i,c,h1,h2⟩
  ·exact .inl (hρF ▸ hF)
  by_cases hi:i=id
  ·subst hi
   rw[hρid] at h2
   rcases(hgb b c h2).2 with h3|h3
   ·rcases hv with ⟨b',cap,h4,h5,h6⟩|⟨h4,-⟩
    ·rw[h6] at h3;injection h3 with h3;subst h3;exact .inr ⟨i,cap,h4,h5⟩
    ·rw[h4] at h3;cases h3
   ·omega
  ·rw[hρne i hi] at h2
   exact .inr ⟨i,c,((hlive i).1 h1).resolve_left hi,h2⟩
 have hrow:∀b cap,ρ' id=some (b,cap)→b<w'.heap.size∧HB w' ((s.fg id).up [(id,.row e sz cs)]).live ρ' b cap (.row e sz cs):=fun b cap h=>by
  rw[hρid] at h
  refine⟨(hgb b cap h).1,?_⟩
  rcases hpl with ⟨h',-⟩|⟨g',cap',cur,h1,h2,h3,h4,h5,h6,h7⟩
  ·rw[h] at h';cases h'
  ·rw[h] at h1
   injection h1 with h1
   injection h1 with h1 h1'
   subst h1 h1'
   refine⟨cur,h3,?_,h6,h5,hsz,fun j c hj=>?_⟩
   ·rw[hl,h6];exact Nat.mul_le_mul_right _ h4
   ·obtain⟨hf,u,hu,hr⟩:=hc j c hj
    have hjl:j<n*sz:=by rw[←hl];exact(qvZ.1 hj).1
    have hcu:cur.getD j undef=u:=by
     rw[←h7,qwu hjl] at hu
     simp only[Array.getElem?_toList] at hu
     simp[qw1,hu]
    rw[hcu]
    exact hr.stayX' hst hf
 refine⟨ρ',⟨hs.hd.mono hst.size hst.block hst.occ,hs.size,fun i=>?_,fun i b cap hi hr=>?_,fun i hi hr=>?_,fun i b cap hi hr=>?_,fun i j b c c' hi hj hri hrj=>?_,fun i hi=>?_,?_,fun b hb=>⟨hρF ▸ (hs.oldF b hb).1,(hs.oldF b hb).2⟩,fun i hi=>?_,fun i b cap hi hr=>?_,?_⟩,?_⟩
 ·have:=(hs.tm i).stayX hst
  show RR w' _ ρ' _ ((s.fg id).get i)
  rw[S.get_fg]
  exact this
 ·rw[S.blk_up]
  by_cases hn:id=i
  ·subst hn;rw[if_pos rfl];exact hrow b cap hr
  ·rw[if_neg hn,S.blk_fg]
   have hi':=((hlive i).1 hi).resolve_left (Ne.symm hn)
   rw[hρne i (Ne.symm hn)] at hr
   obtain⟨h1,h2⟩:=hs.hp i b cap hi' hr
   exact⟨qwv h1 hg.size,h2.stayX hst (hnb b h1 (fun c h3 h4=>hn (hs.inj id i b c cap h4 hi' h3 hr)))⟩
 ·rw[S.blk_up]
  by_cases hn:id=i
  ·subst hn
   rw[if_pos rfl]
   rw[hρid] at hr
   rcases hpl with ⟨-,-,h3⟩|⟨g',cap',cur,h1,-⟩
   ·subst h3
    have:cs=[]:=qwe (by simpa using hl)
    exact⟨e,sz,by rw[this]⟩
   ·rw[hr] at h1;cases h1
  ·rw[if_neg hn,S.blk_fg]
   have hi':=((hlive i).1 hi).resolve_left (Ne.symm hn)
   rw[hρne i (Ne.symm hn)] at hr
   obtain⟨e',sz',h1⟩:=hs.hp0 i hi' hr
   exact⟨e',sz',by rw[h1];rfl⟩
 ·by_cases hn:i=id
  ·subst hn
   rw[hρid] at hr
   rcases(hgb b cap hr).2 with h3|h3
   ·rcases hv with ⟨b',cap',h4,h5,h6⟩|⟨h4,-⟩
    ·rw[h6] at h3;injection h3 with h3;subst h3;exact hs.out i _ cap' h4 h5
    ·rw[h4] at h3;cases h3
   ·exact .inr (by have:=hs.kept.size;omega)
  ·rw[hρne i hn] at hr
   exact hs.out i b cap (((hlive i).1 hi).resolve_left hn) hr
 ·have key:∀i b c c',i≠id→s.live i→ρ i=some (b,c)→pl=some (b,c')→False:=fun i b c c' hn hl' h1 h2=>by
   rcases(hgb b c' h2).2 with h3|h3
   ·rcases hv with ⟨b',cap',h4,h5,h6⟩|⟨h4,-⟩
    ·rw[h6] at h3;injection h3 with h3;subst h3;exact hn (hs.inj i id _ c cap' hl' h4 h1 h5)
    ·rw[h4] at h3;cases h3
   ·have:=(hs.hp i b c hl' h1).1;omega
  by_cases hni:i=id
  ·by_cases hnj:j=id
   ·rw[hni,hnj]
   ·subst hni
    rw[hρid] at hri
    rw[hρne j hnj] at hrj
    exact(key j b c' c hnj (((hlive j).1 hj).resolve_left hnj) hrj hri).elim
  ·by_cases hnj:j=id
   ·subst hnj
    rw[hρid] at hrj
    rw[hρne i hni] at hri
    exact(key i b c c' hni (((hlive i).1 hi).resolve_left hni) hri hrj).elim
   ·rw[hρne i hni] at hri
    rw[hρne j hnj] at hrj
    exact hs.inj i j b c c' (((hlive i).1 hi).resolve_left hni) (((hlive j).1 hj).resolve_left hnj) hri hrj
 ·show i<max s.nx (id+1)
  rcases(hlive i).1 hi with h|h
  ·omega
  ·have:=hs.nx i h;omega
 ·refine⟨hg.os.trans hs.kept.os,hg.tape.trans hs.kept.tape,hg.output.trans hs.kept.output,qww hs.kept.size hg.size,fun k hk hO=>?_⟩
  have hk':=qwv hk hs.kept.size
  exact(hnb k hk' (fun c h1 h2=>by rcases hs.out id k c h2 h1 with h|h;exact hO h;omega)).trans (hs.kept.block k hk hO)
 ·have hn:i≠id:=fun e=>hpin (e ▸ hi)
  obtain⟨h1,h2⟩:=hs.pin i hi
  exact⟨(hρne i hn).trans h1,by rw[S.blk_up,if_neg (Ne.symm hn),S.blk_fg,B.fg_isBlk,h2]⟩
 ·rw[hρF]
  by_cases hn:i=id
  ·subst hn
   rw[hρid] at hr
   rcases(hgb b cap hr).2 with h3|h3
   ·rcases hv with ⟨b',cap',h4,h5,h6⟩|⟨h4,-⟩
    ·rw[h6] at h3;injection h3 with h3;subst h3;exact hs.disj i _ cap' h4 h5
    ·rw[h4] at h3;cases h3
   ·intro hF
    have:=hs.ows.lt b hF
    omega
  ·rw[hρne i hn] at hr
   exact hs.disj i b cap (((hlive i).1 hi).resolve_left hn) hr
 ·refine hs.ows.sub (fun b hF=>qwv (hs.ows.lt b (hρF ▸ hF)) hg.size) fun i j d hw=>?_
  obtain⟨b,c,y,n',c',l1,l2,l3,l4,l5⟩:=hw
  rw[S.blk_up] at l3
  by_cases hn:id=i
  ·subst hn
   rw[if_pos rfl] at l3
   have l3:cs[j]?=some y:=l3
   obtain⟨-,u,hu,-⟩:=hc j y l3
   obtain⟨b0,c0,g1,g2,g3,g4⟩:=how j y u l3 l4 hu
   rw[hρid] at l2
   rcases hpl with ⟨h',-⟩|⟨g',cap',cur,h1,h2,h3,h4,h5,h6,h7⟩
   ·rw[l2] at h';cases h'
   ·rw[l2] at h1
    injection h1 with h1
    injection h1 with h1 h1'
    subst h1 h1'
    have hjl:j<n*sz:=by rw[←hl];exact(qvZ.1 l3).1
    have hcu:cur[j]?=some u:=by
     rw[←h7,qwu hjl] at hu
     simpa using hu
    have h8:w'.cell? ⟨b,j,none⟩=some u:=by simp[World.cell?,h3,hcu]
    rw[h8] at l5
    injection l5 with l5
    subst l5
    exact⟨b0,c0,y,n',c',g1,g2,g3,l4,g4⟩
  ·rw[if_neg hn,S.blk_fg] at l3
   have hi':=((hlive i).1 l1).resolve_left (Ne.symm hn)
   rw[hρne i (Ne.symm hn)] at l2
   have hbl:=(hs.hp i b c hi' l2).1
   obtain⟨y',e1,e2⟩:=B.fg_ow l3 l4
   exact⟨b,c,y',n',c',hi',l2,e1,e2,by rw[←l5];exact(World.cell?_of_block (w:=w) (hnb b hbl (fun c h3 h4=>hn (hs.inj id i b c _ h4 hi' h3 l2)))).symm⟩
 ·refine .c _ _ ?_
  rcases hpl with ⟨h1,h2,h3⟩|⟨g',cap',cur,h1,h2,h3,h4,h5,h6,h7⟩
  ·rw[h2,h3]
   exact .own0 id sz ((hlive id).2 (.inl rfl)) (hρid.trans h1)
  ·rw[h2]
   have:=RC.own (w:=w') (L:=((s.fg id).up [(id,.row e sz cs)]).live) (ρ:=ρ') id sz 0 n g' cap' ((hlive id).2 (.inl rfl)) (hρid.trans h1) (by omega) h5
   simpa using this
theorem q2h {x y:Operand} {ts:Array TypeId} {w':World} {v:Value} (ho:o.op = .call { callee := .builtin .append,args:=#[x,y],argTypes:=ts }) (hr:(Builtin.append_ ts o.type #[a.eval x,a.eval y]).run P w = .ok v w') (h:next (a.put o.dst v) w'):o.wp P a w next Q:=by
 unfold Oper.wp execOp
 simp only[ho,resolve,invoke,builtin,Sem.run_bind,Sem.run_pure,Result.andThen_ok,List.map_toArray,qwi,List.map_nil,hr]
 exact h
theorem qbY (hA:Ag P T) {t:TypeId} {x y:Operand} {p:Nat} (hp:¬ s.live p) (ho:o.op = .call { callee := .builtin .append,args:=#[x,y],argTypes:=#[t,t] }) (hs:Sim cx ρ s a w) (h:q20 T s p t x y K) (hn:Qn cx K o a next):o.wp P a w next Q:=by
 obtain⟨e,m,ys,h1,h2,h3,h4,h5,h6,h7,h8⟩:=h
 obtain⟨d,i,z,ht⟩:=hA.at_ (t:=t) (by rw[h1];simp)
 obtain⟨d',i',z',ht'⟩:=hA.at_ h2
 have hd:=JK (ht.kd.trans h1)
 subst hd
 have hzs:z'.cells.size=T.sz e:=by
  obtain⟨g1,-⟩:=q1p (w:=w) (L:=s.live) (ρ:=ρ) ht'.zs
  rw[←h4,←g1];simp
 obtain⟨A,cap,q1,q2,q3,q4⟩:=q7u hs h5 h7
 -- the cells that are appended
 obtain⟨news,n1,n2⟩:∃news:List Value,news.length=ys.length∧∀(j:Nat) (c:C),ys[j]?=some c→∃v,news[j]?=some v∧RC w s.live ρ v c∧(m=0∨∃b off,A=some ⟨b,off,none⟩∧w.cell? ⟨b,off+j,none⟩=some v):=by
  rcases q4 with rfl|⟨b,off,rfl,hb,hc⟩
  ·have hy:ys=[]:=qwe (by simpa using h7)
   subst hy
   exact⟨[],rfl,fun j c hj=>by simp at hj⟩
  ·obtain⟨l,l1,l2⟩:=q1f (Pr:=fun j v c=>w.cell? ⟨b,off+j,none⟩=some v∧RC w s.live ρ v c) ys 0 (fun j c hj=>by rw[qwj];exact hc j c hj)
   refine⟨l,l1,fun j c hj=>?_⟩
   obtain⟨v,g1,g2,g3⟩:=l2 j c hj
   rw[qwj] at g2
   exact⟨v,g1,g3,.inr ⟨b,off,rfl,g2⟩⟩
 have hone:∀u∈news,u.oneCell'=true:=fun u hu=>by
  obtain⟨j,hj⟩:=List.getElem?_of_mem hu
  have hjl:j<ys.length:=by rw[←n1];exact(qvZ.1 hj).1
  obtain⟨v,g1,g2,-⟩:=n2 j ys[j] (qvX hjl)
  rw[hj] at g1
  injection g1 with g1
  subst g1
  exact g2.one (qwc.1 h6 _ (qwM _))
 have hcell:m=0∨∃b off,A=some ⟨b,off,none⟩∧∀(j:Nat) (u:Value),news[j]?=some u→w.cell? ⟨b,off+j,none⟩=some u:=by
  rcases q4 with h|⟨b,off,h,hb,hc⟩
  ·exact .inl h
  ·by_cases hm:m=0
   ·exact .inl hm
   ·refine .inr ⟨b,off,h,fun j u hj=>?_⟩
    have hjl:j<ys.length:=by rw[←n1];exact(qvZ.1 hj).1
    obtain⟨v,g1,-,g3⟩:=n2 j ys[j] (qvX hjl)
    rw[hj] at g1
    injection g1 with g1
    subst g1
    rcases g3 with g3|⟨b',off',g3,g4⟩
    ·exact absurd g3 hm
    ·rw[h] at g3;injection g3 with g3;injection g3 with g5 g6;subst g5 g6;exact g4
 have hx:=hs.ev x
 split at h8
 ·rename_i id sz off n hxe
  rw[hxe] at hx
  obtain⟨rfl,rfl,cs0,cs,c1,c0,c2,c3,c4,c5,c6,c7⟩:=h8
  have ct:∀(j:Nat) (c:C),cs[j]?=some c→cs0[j]?=some c:=fun j c hj=>by
   have hjl:=(qvZ.1 hj).1
   rw[←c0,qwu (by rw[←c2];exact hjl)] at hj
   exact hj
  have cle:n*T.sz e≤cs0.length:=by
   have:=congrArg List.length c0
   rw[qwo,c2] at this
   omega
  obtain⟨r1,r2⟩:=hx.inv_own
  -- the row as it lies
  obtain⟨xs,hown,hxs,hvb⟩:∃xs,w.ownsRow 0 e (T.sz e) (a.eval x) n xs∧(∀(j:Nat) (c:C),cs[j]?=some c→∃u,xs[j]?=some u∧RC w s.live ρ u c)∧((∃b cap,s.live id∧ρ id=some (b,cap)∧(a.eval x).ownBlock=some b)∨((a.eval x).ownBlock=none∧(s.live id→ρ id=none))):=by
   rcases r2 with ⟨b,cp,r2,r3,r4,r5⟩|⟨r2,r3,-,rfl⟩
   ·obtain⟨-,hB⟩:=hs.hp id b cp r1 r2
    rw[c1] at hB
    obtain⟨vs,b1,b2,b3,b4,b5,b6⟩:=hB
    have hnl:n*T.sz e≤vs.size:=qww cle b2
    refine⟨vs.toList.take (n*T.sz e),⟨by simp;omega,.inr ⟨b,cp,vs,by rw[r5];simp,qwl _,b1,by omega,r4,b3,rfl⟩⟩,fun j c hj=>?_,.inl ⟨b,cp,r1,r2,by rw[r5];rfl⟩⟩
    have hjl:j<n*T.sz e:=by rw[←c2];exact(qvZ.1 hj).1
    refine⟨vs.getD j undef,?_,b6 j c (ct j c hj)⟩
    rw[qwu hjl]
    have:j<vs.size:=by omega
    simp[qw1,this]
   ·have hcs:cs=[]:=qwe (by simpa using c2)
    exact⟨[],⟨by simp,.inl ⟨r3,rfl⟩⟩,fun j c hj=>by rw[hcs] at hj;simp at hj,.inr ⟨by rw[r3];rfl,fun _=>r2⟩⟩
  have hbl:i'.bytes=T.by_ e:=ht'.by_
  obtain⟨v',w',g1,g2,g3,g4⟩:=q7W (P:=P) (ty:=o.type) (c:=cap) ht.ud ht'.info ht'.zero ht'.sz hzs h3 hown (by rw[n1];exact h7) hcell hone c5 (by rw[hbl];exact c6)
  obtain⟨ρ',g5,g6⟩:=Sim.rerow (id:=id) (cs:=cs++ys) hs hvb g3 g4 g2 h3 (by rw[qw2,c2,h7,Nat.add_mul]) (fun hk=>by obtain⟨-,h'⟩:=hs.pin id hk;rw[c1] at h';cases h') (fun j c hj=>by
   by_cases hj':j<cs.length
   ·rw[qwy hj'] at hj
    obtain⟨u,u1,u2⟩:=hxs j c hj
    refine⟨qwc.1 c3 _ (qvW hj),u,?_,u2⟩
    rw[qwy (qvZ.1 u1).1]
    exact u1
   ·rw[qwx (by omega)] at hj
    obtain⟨u,u1,u2,-⟩:=n2 _ c hj
    have hxl:xs.length=cs.length:=by rw[hown.1,c2]
    refine⟨qwc.1 c4 _ (qvW hj),u,?_,u2⟩
    rw[qwx (by omega),hxl]
    exact u1) (fun j c u hj ho hu=>by
   by_cases hj':j<cs.length
   ·rw[qwy hj'] at hj
    rcases r2 with ⟨b,cp,r2,r3,r4,r5⟩|⟨r2,r3,-,rfl⟩
    ·refine⟨b,cp,r1,r2,by rw[c1];exact ct j c hj,?_⟩
     rcases hown.2 with ⟨q1,-⟩|⟨g,cap',cur,q1,-,q2,-,-,-,q6⟩
     ·rw[r5] at q1;cases q1
     ·rw[r5] at q1
      injection q1 with q1 q7 q8
      injection q1 with q1
      injection q1 with q1 q9
      subst q1
      rw[qwy (by rw[hown.1,←c2];exact hj'),←q6,qwu (by rw[←c2];exact hj')] at hu
      simp only[World.cell?,q2]
      simpa using hu
    ·have:cs=[]:=qwe (by simpa using c2)
     rw[this] at hj'
     simp at hj'
   ·rw[qwx (by omega)] at hj
    have:=C.noow_is (qwc.1 (ZO h6) c (qvW hj))
    rw[ho] at this;cases this)
  exact q2h ho (by rw[q1];exact g1) (hn _ _ ρ' _ _ c7 g5 g6)
 ·rename_i hxe
  rw[hxe] at hx
  obtain⟨c3,c5,c6,c7⟩:=h8
  have hbl:i'.bytes=T.by_ e:=ht'.by_
  have hown:w.ownsRow 0 e (T.sz e) (a.eval x) 0 []:=⟨by simp,.inl ⟨hx.inv_nils,rfl⟩⟩
  obtain⟨v',w',g1,g2,g3,g4⟩:=q7W (P:=P) (ty:=o.type) (c:=cap) ht.ud ht'.info ht'.zero ht'.sz hzs h3 hown (by rw[n1];exact h7) hcell hone (by rw[qwj];exact c5) (by rw[qwj,hbl];exact c6)
  rw[qwj,qwf] at g2
  obtain⟨ρ',g5,g6⟩:=Sim.rerow (id:=p) (cs:=ys) hs (.inr ⟨by rw[hx.inv_nils];rfl,fun h=>absurd h hp⟩) g3 g4 g2 h3 h7 (fun hk=>hp (B.live_of (hs.pin p hk).2)) (fun j c hj=>by
   obtain⟨u,u1,u2,-⟩:=n2 j c hj
   exact⟨qwc.1 c3 _ (qvW hj),u,u1,u2⟩) (fun j c u hj ho _=>by
   have:=C.noow_is (qwc.1 (ZO h6) c (qvW hj))
   rw[ho] at this;cases this)
  exact q2h ho (by rw[q1];exact g1) (hn _ _ ρ' _ _ c7 g5 g6)
 ·rename_i sz n cs hxe
  rw[hxe] at hx
  obtain⟨rfl,hm,c3,c4,c5,c6,c7⟩:=h8
  have hbl:i'.bytes=T.by_ e:=ht'.by_
  obtain⟨A',e1,e2⟩:∃A',a.eval x = .slice A' n n∧RD w (Occ s.live ρ) (.slice A' n n) (.sl (T.sz e) n cs):=by
   generalize a.eval x=v at hx
   cases hx with|c _ _ hx=>cases hx with|clp A' _ _ _ hx=>exact⟨A',rfl,hx⟩
  obtain⟨xs,v',w',g1,g2,g3,g4,hxl,hxs⟩:∃xs v' w',(Builtin.append_ #[t,t] o.type #[a.eval x,.slice A m cap]).run P w = .ok v' w'∧w'.ownsRow 0 e (T.sz e) v' (n+m) (xs++news)∧w.grownBy w' none∧v'.ownBlock=some w.heap.size∧xs.length=cs.length∧∀(j:Nat) (c:D),cs[j]?=some c→∃u,xs[j]?=some u∧RD w (Occ s.live ρ) u c:=by
   rcases hcell with h0|⟨b,off,rfl,hcl⟩
   ·omega
   rw[e1]
   cases e2 with
   | nil _ _ _ q1 q2=>
    have hnil:w.ownsRow 0 e (T.sz e) (.slice none 0 0) 0 []:=⟨by simp,.inl ⟨rfl,rfl⟩⟩
    cases A' with
    | none=>
     obtain⟨v',w',g1,g2,g3,g4⟩:=q7W (P:=P) (ty:=o.type) (c:=cap) ht.ud ht'.info ht'.zero ht'.sz hzs h3 hnil (by rw[n1];exact h7) (.inr ⟨b,off,rfl,hcl⟩) hone c5 (by rw[hbl];exact c6)
     refine⟨[],v',w',g1,g2,g3,?_,rfl,fun j c hj=>by simp at hj⟩
     rcases g4 with g4|g4
     ·exfalso
      rcases g2.2 with ⟨-,q⟩|⟨g,cap',cur,q,-⟩
      ·omega
      ·rw[q] at g4;cases g4
     ·exact g4
    | some ad=>
     obtain⟨v',w',g1,g2,g3,g4⟩:=q9j (P:=P) (ad:=ad) (xs:=[]) (n:=0) (ty:=o.type) (c:=cap) ht.ud ht'.info ht'.zero ht'.sz hzs h3 (by simp) (fun j u hj=>by simp at hj) hm (by rw[n1];exact h7) hcl c5 (by rw[hbl];exact c6)
     exact⟨[],v',w',g1,g2,g3,g4,rfl,fun j c hj=>by simp at hj⟩
   | sl b2 off2 _ _ _ _ f q1 q2 q3 q4 q5 q6 q7=>
    obtain⟨l,l1,l2⟩:=q1f (Pr:=fun j v c=>w.cell? ⟨b2,off2+j,none⟩=some v∧RD w (Occ s.live ρ) v c) cs 0 (fun j c hj=>⟨f j,by rw[qwj];exact q6 j c hj,q7 j c hj⟩)
    have hl2:∀(j:Nat) (u:Value),l[j]?=some u→w.cell? ((⟨b2,off2,none⟩:Addr).add j)=some u:=fun j u hj=>by
     rw[Qp]
     have hjl:j<cs.length:=by rw[←l1];exact(qvZ.1 hj).1
     obtain⟨v,r1,r2,-⟩:=l2 j cs[j] (qvX hjl)
     rw[hj] at r1;injection r1 with r1;subst r1
     rwa [qwj] at r2
    obtain⟨v',w',g1,g2,g3,g4⟩:=q9j (P:=P) (ty:=o.type) (c:=cap) ht.ud ht'.info ht'.zero ht'.sz hzs h3 (by rw[l1];exact c4) hl2 hm (by rw[n1];exact h7) hcl c5 (by rw[hbl];exact c6)
    exact⟨l,v',w',g1,g2,g3,g4,l1,fun j c hj=>by
     obtain⟨v,r1,-,r2⟩:=l2 j c hj
     exact⟨v,r1,r2⟩⟩
  obtain⟨ρ',g5,g6⟩:=Sim.rerow (v := .slice none 0 0) (id:=p) (cs:=cs.map C.d++ys) hs (.inr ⟨rfl,fun h=>absurd h hp⟩) g3 (.inr g4) g2 h3 (by rw[qw2,qwD,c4,h7,Nat.add_mul]) (fun hk=>hp (B.live_of (hs.pin p hk).2)) (fun j c hj=>by
   by_cases hj':j<cs.length
   ·rw[qwy (by rw[qwD];exact hj'),qw9] at hj
    obtain⟨y,r1,r2⟩:=qw8.1 hj
    subst r2
    obtain⟨u,u1,u2⟩:=hxs j y r1
    refine⟨rfl,u,?_,.d _ _ u2⟩
    rw[qwy (qvZ.1 u1).1]
    exact u1
   ·rw[qwx (by rw[qwD];omega),qwD] at hj
    obtain⟨u,u1,u2,-⟩:=n2 _ c hj
    refine⟨qwc.1 c3 _ (qvW hj),u,?_,u2⟩
    rw[qwx (by omega),hxl]
    exact u1) (fun j c u hj ho hu=>by
   by_cases hj':j<cs.length
   ·rw[qwy (by rw[qwD];exact hj'),qw9] at hj
    obtain⟨y,r1,r2⟩:=qw8.1 hj
    subst r2
    cases ho
   ·rw[qwx (by rw[qwD];omega)] at hj
    have:=C.noow_is (qwc.1 (ZO h6) c (qvW hj))
    rw[ho] at this;cases this)
  exact q2h ho (by rw[q1];exact g1) (hn _ _ ρ' _ _ c7 g5 g6)
 ·cases h8
end
end
noncomputable section
open Go.RowKit
def FW (ro:Option Nat):Fence:={ Fence.wide with round:=ro }
def J (P:Program) (cx:Cx) (c:Code) (Q:Exit→S→Prop) (s:S):Prop:=
 ∀ρ a w,Sim cx ρ s a w→c.wpIn (FW cx.ro) 0 P (fun e a' w'=>∃s' ρ',Q e s'∧Sim cx ρ' s' a' w') a w
def Th (K:S→Prop) (Q:Exit→S→Prop):Exit→S→Prop
 | .normal,s=>K s
 | e,s=>Q e s
def Bk (id:Nat) (Q:Exit→S→Prop):Exit→S→Prop
 | .exit i,s=>if i=id then Q .normal s else Q (.exit i) s
 | e,s=>Q e s
section
variable {P:Program} {cx:Cx} {s:S} {Q:Exit→S→Prop}
theorem J.skip (h:Q .normal s):J P cx .skip Q s:=fun ρ _ _ hs=>wpIn_skip ⟨s,ρ,h,hs⟩
theorem J.label {l:Nat} (h:Q .normal s):J P cx (.label l) Q s:=fun ρ _ _ hs=>wpIn_label ⟨s,ρ,h,hs⟩
theorem J.ret (h:Q .ret s):J P cx .ret Q s:=fun ρ _ _ hs=>wpIn_ret ⟨s,ρ,h,hs⟩
theorem J.exit {id:Nat} (h:Q (.exit id) s):J P cx (.exit id) Q s:=fun ρ _ _ hs=>wpIn_exit ⟨s,ρ,h,hs⟩
theorem J.seq {x y:Code} (h:J P cx x (Th (J P cx y Q) Q) s):J P cx (.seq x y) Q s:=fun ρ a w hs=>
 wpIn_seq (wpIn_mono (h ρ a w hs) fun e a' w' ⟨s',ρ',h1,h2⟩=>by
  cases e with
  | normal=>exact h1 ρ' a' w' h2
  | _=>exact⟨s',ρ',h1,h2⟩)
theorem J.block {id:Nat} {c:Code} (h:J P cx c (Bk id Q) s):J P cx (.block id c) Q s:=fun ρ a w hs=>
 wpIn_block (wpIn_mono (h ρ a w hs) fun e a' w' ⟨s',ρ',h1,h2⟩=>by
  cases e with
  | exit i=>
   simp only[Bk] at h1
   simp only[Exit.inBlock]
   split
   ·rename_i hi;rw[if_pos hi] at h1;exact⟨s',ρ',h1,h2⟩
   ·rename_i hi;rw[if_neg hi] at h1;exact⟨s',ρ',h1,h2⟩
  | _=>exact⟨s',ρ',h1,h2⟩)
theorem J.cond {c:Operand} {x y:Code} {b:Bool} (hc:s.ev c = .c (.d (.bool b))) (ht:b=true→J P cx x Q s) (hf:b=false→J P cx y Q s):J P cx (.cond c x y) Q s:=fun ρ a w hs=>by
 have h:=hs.ev c
 rw[hc] at h
 exact wpIn_cond_split h.inv_bool (fun hb=>ht hb ρ a w hs) (fun hb=>hf hb ρ a w hs)
def Le (cx:Cx) (s s':S):Prop:=∀ρ a w,Sim cx ρ s a w→∃ρ',Sim cx ρ' s' a w
theorem Le.refl (s:S):Le cx s s:=fun ρ _ _ h=>⟨ρ,h⟩
theorem Le.trans {s1 s2 s3:S} (h:Le cx s1 s2) (h':Le cx s2 s3):Le cx s1 s3:=fun ρ a w hs=>by
 obtain⟨ρ',h1⟩:=h ρ a w hs
 exact h' ρ' a w h1
theorem J.loop {ι:Type} {c:Code} (St:ι→S) (Ok:ι→Prop) (μ:ι→Nat) (i0:ι) (h0:Ok i0) (hl:Le cx s (St i0))
  (round:∀i,Ok i→J P cx c (Th (fun s'=>∃j,Ok j∧Le cx s' (St j)∧μ j<μ i) Q) (St i)):J P cx (.loop c) Q s:=fun ρ a w hs=>by
 obtain⟨ρ0,hs0⟩:=hl ρ a w hs
 -- the least measure of a member that fits
 let In (a:Act) (w:World) (n:Nat):Prop:=∃i ρ,Ok i∧Sim cx ρ (St i) a w∧μ i=n
 have least:∀a w,(∃n,In a w n)→∃n,In a w n∧∀m,In a w m→n≤m:=by
  intro a w ⟨n,hn⟩
  induction n using Nat.strongRecOn with
  | _ n ih=>
   by_cases h:∃m,m<n∧In a w m
   ·obtain⟨m,h1,h2⟩:=h;exact ih m h1 h2
   ·exact⟨n,hn,fun m hm=>by rcases Nat.lt_or_ge m n with h1|h1;exact absurd ⟨m,h1,hm⟩ h;exact h1⟩
 let mu (a:Act) (w:World):Nat:=open Classical in if h:∃n,In a w n then Classical.choose (least a w h) else 0
 have hmu:∀a w,(∃n,In a w n)→In a w (mu a w)∧∀m,In a w m→mu a w≤m:=by
  intro a w h
  have:=Classical.choose_spec (least a w h)
  simp only[mu,dif_pos h]
  exact this
 refine wpIn_loop (fun a w=>∃n,In a w n) mu ⟨_,i0,ρ0,h0,hs0,rfl⟩ (fun a w hI=>?_)
 obtain⟨⟨i,ρi,hi,hsi,hμ⟩,-⟩:=hmu a w hI
 refine wpIn_mono (round i hi ρi a w hsi) (fun e a' w' ⟨s',ρ',h1,h2⟩=>?_)
 cases e with
 | normal=>
  obtain⟨j,g1,g2,g3⟩:=h1
  obtain⟨ρj,g4⟩:=g2 ρ' a' w' h2
  have hIn:In a' w' (μ j):=⟨j,ρj,g1,g4,rfl⟩
  refine⟨⟨_,hIn⟩,?_⟩
  have:=(hmu a' w' ⟨_,hIn⟩).2 _ hIn
  omega
 | _=>exact⟨s',ρ',h1,h2⟩
end
section
variable {w:World} {L L':Nat→Prop} {ρ ρ':Pl}
theorem RD.occ {O O':Nat→Prop} {v:Value} {x:D} (h:RD w O v x) (ho:∀b,O' b→O b):RD w O' v x:=by
 induction h with
 | int k n=>exact .int k n
 | bool b=>exact .bool b
 | str s=>exact .str s
 | nil A cap sz h1 h2=>exact .nil A cap sz h1 h2
 | sl b off n cap sz cs f h1 h2 h3 h4 h5 h6 h7 ih=>exact .sl b off n cap sz cs f h1 h2 h3 h4 (fun h=>h5 (ho b h)) h6 ih
end
theorem qbr {α:Type} {Pr:Nat→α→Prop} {z:α} (hz:∀i,Pr i z):∀{t:List (Nat×α)},(∀i x,(i,x)∈t→Pr i x)→∀i,Pr i (lk t i z)
 | [],_,i=>hz i
 | (j,x)::t,h,i=>by
  unfold lk
  split
  ·rename_i hj;subst hj;exact h _ _ qwa
  ·exact qbr hz (fun i x hx=>h i x (qw3 _ hx)) i
end
noncomputable section
open Go.RowKit
def qoH:Obj→Bool
 | .cells _ _ _=>true
 | _=>false
def Qy (hp:List (Nat×B)) (nx:Nat):S:=⟨[],hp,nx,0⟩
def q4A:Act:=⟨#[],[]⟩
def RRs (w:World) (L:Nat→Prop) (ρ:Pl) (vs:Array Value) (rs:List R):Prop:=vs.size=rs.length∧∀j r,rs[j]?=some r→RR w L ρ (vs.getD j undef) r
structure qdc (P:Program) (f:FuncId):Prop where
 ok:∃fn,P.funcs[f]?=some fn∧(fn.name == "runtime.NumGoroutine")=false∧fn.body.isNone=false
structure AC (P:Program) (f:FuncId) (args:List R) (G:List (Nat×B)) (k:Nat) (Q:R→List (Nat×B)→Prop):Prop where
 ent:qdc P f
 call:∀cx ρ w vs,cx.w=w→cx.k=k→cx.ρ=ρ→cx.ro=none→Sim cx ρ (Qy G G.length) q4A w→RRs w (Qy G G.length).live ρ vs args→
  Calls P f vs w fun e w'=>∃v r hp' nx' ρ',e = .returned v∧Q r hp'∧Sim cx ρ' (Qy hp' nx') q4A w'∧RR w' (Qy hp' nx').live ρ' v r
def qhO (T:Ty) (s:S):ResultVar→Option R
 | .tmp t=>some (s.get t)
 | .cell a t=>match s.get a with | .c (.ptr id off)=>ld T (s.blk id).cells off t|_=>none
def rvs (T:Ty) (s:S):List ResultVar→Option (List R)
 | []=>some []
 | x::l=>match qhO T s x,rvs T s l with|some r,some rs=>some (r::rs)|_,_=>none
def JX:List R→Nat→List (Nat×R)
 | [],_=>[]
 | r::l,i=>(i,r)::JX l (i+1)
theorem q5h:∀(l:List R) (k i:Nat),lk (JX l k) i .any=if k≤i then l.getD (i-k) .any else .any
 | [],k,i=>by simp[JX,lk]
 | r::l,k,i=>by
  unfold JX lk
  by_cases h:k=i
  ·subst h;rw[if_pos rfl,if_pos (qwb _)];simp
  ·rw[if_neg h,q5h l (k+1) i]
   by_cases h2:k≤i
   ·rw[if_pos h2,if_pos (by omega),show i-k=(i-(k+1))+1 by omega];simp
   ·rw[if_neg h2,if_neg (by omega)]
section
variable {P:Program} {T:Ty} {cx:Cx} {ρ:Pl} {s:S} {a:Act} {w:World}
def qou (a:Act):ResultVar→Sem Value
 | .tmp t=>pure (a.tmps.getD t undef)
 | .cell a' t=>do loadVar t (←asAddr (a.tmps.getD a' undef))
theorem q9B (fn:Func) (a:Act):results fn a.tmps=(do let vs ←fn.results.mapM (qou a);pure (if h:vs.size=1 then vs[0] else .tuple vs)):=by
 unfold results
 congr 1
theorem qes (hA:Ag P T) (hs:Sim cx ρ s a w) {x:ResultVar} {r:R} (h:qhO T s x=some r) :
  ∃v,(qou a x).run P w = .ok v w∧RR w s.live ρ v r:=by
 cases x with
 | tmp t=>
  injection h with h
  subst h
  exact⟨_,rfl,hs.tm t⟩
 | cell a' t=>
  simp only[qhO] at h
  have hx:=hs.tm a'
  split at h
  ·rename_i id off he
   rw[he] at hx
   obtain⟨b,cap,h1,h2,h3⟩:=hx.inv_ptr
   obtain⟨v,h4,h5⟩:=qd4 (P:=P) hA (b:=b) (o:=0) h (fun j c hj=>by rw[qwj];exact(hs.hp id b cap h1 h2).2.cell hj)
   rw[qwj] at h4
   refine⟨v,?_,h5⟩
   simp only[qou,h3,asAddr,Sem.run_bind,Sem.run_pure,Result.andThen_ok]
   exact h4
  ·cases h
theorem qbC (hA:Ag P T) (hs:Sim cx ρ s a w):∀(l:List ResultVar) (rs:List R),rvs T s l=some rs→
  ∃vs:List Value,(l.mapM (qou a)).run P w = .ok vs w∧vs.length=rs.length∧∀j r,rs[j]?=some r→RR w s.live ρ (vs.getD j undef) r
 | [],rs,h=>by
  injection h with h
  subst h
  exact⟨[],rfl,rfl,fun j r h=>by simp at h⟩
 | x::l,rs,h=>by
  unfold rvs at h
  split at h
  ·rename_i r rs' h1 h2
   injection h with h
   subst h
   obtain⟨v,h3,h4⟩:=qes (P:=P) hA hs h1
   obtain⟨vs,h5,h6,h7⟩:=qbC hA hs l rs' h2
   refine⟨v::vs,?_,by simp[h6],fun j r' hj=>?_⟩
   ·rw[List.mapM_cons]
    simp only[Sem.run_bind,h3,Result.andThen_ok,h5,Sem.run_pure]
   ·cases j with
    | zero=>simp only[qw5,qwK] at hj;subst hj;exact h4
    | succ j=>simpa using h7 j r' (by simpa using hj)
  ·cases h
theorem qfm {w w':World} {D:Nat} {o o':Obj} (h:w.heap[D]?=some o) (ho:qoH o=false) (h':w'.heap[D]?=some o') (ho':qoH o'=false) (hb:∀b,b≠D→w'.heap[b]?=w.heap[b]?) (b off:Nat):w'.cell? ⟨b,off,none⟩=w.cell? ⟨b,off,none⟩:=by
 by_cases hD:b=D
 ·subst hD
  have h1:w.cell? ⟨b,off,none⟩=none:=by
   cases o with
   | cells c e f=>cases ho
   | _=>simp[World.cell?,h]
  have h2:w'.cell? ⟨b,off,none⟩=none:=by
   cases o' with
   | cells c e f=>cases ho'
   | _=>simp[World.cell?,h']
  rw[h1,h2]
 ·exact World.cell?_of_block (w:=w) (hb b hD)
theorem RD.cl {w w':World} {O:Nat→Prop} (hz:w'.heap.size=w.heap.size) (hc:∀b off,w'.cell? ⟨b,off,none⟩=w.cell? ⟨b,off,none⟩) {v:Value} {x:D} (h:RD w O v x):RD w' O v x:=by
 induction h with
 | int k n=>exact .int k n
 | bool b=>exact .bool b
 | str s=>exact .str s
 | nil A cap sz h1 h2=>exact .nil A cap sz h1 h2
 | sl b off n cap sz cs f h1 h2 h3 h4 h5 h6 h7 ih=>exact .sl b off n cap sz cs f h1 h2 h3 (hz ▸ h4) h5 (fun j c hj=>(hc _ _).trans (h6 j c hj)) ih
theorem RC.cl {w w':World} {L:Nat→Prop} {ρ:Pl} (hz:w'.heap.size=w.heap.size) (hc:∀b off,w'.cell? ⟨b,off,none⟩=w.cell? ⟨b,off,none⟩) (hF:∀b,ρ.F b→w'.heap[b]?=w.heap[b]?) {v:Value} {x:C} (h:RC w L ρ v x):RC w' L ρ v x:=by
 induction h with
 | d v x h=>exact .d v x (h.cl hz hc)
 | ptr id off b cap h1 h2=>exact .ptr id off b cap h1 h2
 | hd k id b cap h1 h2=>exact .hd k id b cap h1 h2
 | nilp=>exact .nilp
 | nilf=>exact .nilf
 | nilm=>exact .nilm
 | nils=>exact .nils
 | eptr b o off cs f h1 h2 h3 h4=>exact .eptr b o off cs f (hz ▸ h1) h2 (fun j c hj=>(hc _ _).trans (h3 j c hj)) (fun j c hj=>(h4 j c hj).cl hz hc)
 | own id sz off n b cap h1 h2 h3 h4=>exact .own id sz off n b cap h1 h2 h3 h4
 | own0 id sz h1 h2=>exact .own0 id sz h1 h2
 | fn f fs caps us vs h1 h2 h3 h4 ih1 ih2=>exact .fn f fs caps us vs h1 ih1 h3 ih2
 | ow e sz n b cap cs vs h1 h2 h3 h4 h5 h6 h7 h8=>exact .ow e sz n b cap cs vs h1 ((hF b h1).trans h2) h3 h4 h5 h6 h7 (fun j c hj=>(h8 j c hj).cl hz hc)
 | ow0 e sz h1=>exact .ow0 e sz h1
 | clp A sz n cs h=>exact .clp A sz n cs (h.cl hz hc)
 | any v=>exact .any v
theorem RR.cl {w w':World} {L:Nat→Prop} {ρ:Pl} (hz:w'.heap.size=w.heap.size) (hc:∀b off,w'.cell? ⟨b,off,none⟩=w.cell? ⟨b,off,none⟩) (hF:∀b,ρ.F b→w'.heap[b]?=w.heap[b]?) {v:Value} {x:R} (h:RR w L ρ v x):RR w' L ρ v x:=by
 induction h with
 | c v x h=>exact .c v x (h.cl hz hc hF)
 | agg vs xs h1 h2=>exact .agg vs xs h1 (fun j c hj=>(h2 j c hj).cl hz hc hF)
 | tup vs xs h1 h2 ih=>exact .tup vs xs h1 ih
 | any v=>exact .any v
theorem HB.cl {w w':World} {L:Nat→Prop} {ρ:Pl} (hz:w'.heap.size=w.heap.size) (hc:∀b off,w'.cell? ⟨b,off,none⟩=w.cell? ⟨b,off,none⟩) (hF:∀b,ρ.F b→w'.heap[b]?=w.heap[b]?) {b cap:Nat} {x:B} (hb:w'.heap[b]?=w.heap[b]?) (h:HB w L ρ b cap x):HB w' L ρ b cap x:=by
 cases x with
 | blk t cs=>obtain⟨vs,h1,h2,h3⟩:=h;exact⟨vs,hb.trans h1,h2,fun j c hj=>(h3 j c hj).cl hz hc hF⟩
 | row e sz cs=>obtain⟨vs,h1,h2,h3,h4,h5,h6⟩:=h;exact⟨vs,hb.trans h1,h2,h3,h4,h5,fun j c hj=>(h6 j c hj).cl hz hc hF⟩
 | ob o=>exact AO.mapR_id o ▸ HO.map (f:=fun x=>x) hb (fun v x _ hx=>hx.cl hz hc hF) h
 | dead=>trivial
theorem Sim.hid (hs:Sim cx ρ s a w) {D:Nat} {o o':Obj} {ds:List Deferred} (hD:cx.w.heap.size≤D) (hO:¬ Occ s.live ρ D) (h:w.heap[D]?=some o) (ho:qoH o=false) (ho':qoH o'=false)
  (hd:Hd cx ds (w.putObj D o') (Occ s.live ρ)):Sim cx ρ s { a with defers:=ds } (w.putObj D o'):=by
 have hlt:D<w.heap.size:=by
  rcases Nat.lt_or_ge D w.heap.size with h1|h1
  ·exact h1
  ·rw[Array.getElem?_eq_none h1] at h;cases h
 have hz:(w.putObj D o').heap.size=w.heap.size:=by simp
 have hk:∀b,b≠D→(w.putObj D o').heap[b]?=w.heap[b]?:=fun b hb=>World.putObj_heap_other hb
 have hc:=qfm h ho (World.putObj_heap_same (o:=o') hlt) ho' hk
 have hF:∀b,ρ.F b→(w.putObj D o').heap[b]?=w.heap[b]?:=fun b hF=>hk b (fun e=>hO (.inl (e ▸ hF)))
 refine⟨hd,hs.size,fun i=>(hs.tm i).cl hz hc hF,fun i b cap hi hr=>?_,hs.hp0,hs.out,hs.inj,hs.nx,⟨hs.kept.os,hs.kept.tape,hs.kept.output,by rw[hz];exact hs.kept.size,fun k hk' hO'=>?_⟩,hs.oldF,hs.pin,hs.disj,hs.ows.sub (fun b h=>by rw[hz];exact hs.ows.lt b h) fun i j d hw=>by
   obtain⟨b,c,y,n,c',l1,l2,l3,l4,l5⟩:=hw
   exact⟨b,c,y,n,c',l1,l2,l3,l4,(hc b j).symm.trans l5⟩⟩
 ·obtain⟨h1,h2⟩:=hs.hp i b cap hi hr
  have hne:b≠D:=fun e=>hO (.inr ⟨i,cap,hi,e ▸ hr⟩)
  exact⟨by rw[hz];exact h1,h2.cl hz hc hF (hk b hne)⟩
 ·exact(hk k (by omega)).trans (hs.kept.block k hk' hO')
theorem q2K {fn:Func} {tmps:Array Value} {R':Ending→World→Prop}:∀(Ds:List Nat) (a:Act) (w:World),a.defers=Ds.map q8L→Sim cx ρ s a w→
  (∀a' w',a'.tmps=a.tmps→a'.defers=[]→Sim cx ρ s a' w'→∃v,(results fn a'.tmps).run P w' = .ok v w'∧R' (.returned v) w')→a.tmps=tmps→LeavesInM Fence.wide 0 P fn tmps R' (Ds.map q8L) .returning w
 | [],a,w,hd,hs,h,ht=>by
  obtain⟨v,h1,h2⟩:=h a w rfl (by rw[hd];rfl) hs
  subst ht
  exact⟨v,h1,h2⟩
 | D::Ds,a,w,hd,hs,h,ht=>by
  obtain⟨⟨Ds',e1,e2,e3⟩⟩:=hs.hd
  have hDs:Ds'=D::Ds:=by
   rw[hd] at e1
   have hm:∀(l l':List Nat),l.map q8L=l'.map q8L→l'=l:=by
    intro l
    induction l with
    | nil=>intro l' hl;cases l' with|nil=>rfl|cons x l'=>cases hl
    | cons y l ih=>
     intro l' hl
     cases l' with
     | nil=>cases hl
     | cons x l'=>
      simp only[qwi,List.cons.injEq,q8L,Deferred.mk.injEq,Target.collected.injEq,and_true] at hl
      rw[ih l' hl.2,hl.1]
   exact hm _ _ e1
  subst hDs
  obtain⟨f1,f2,f3,f4⟩:=e3 D qwa
  have hd':Hd cx (Ds.map q8L) (w.putObj D (.deferred none)) (Occ s.live ρ):=by
   refine⟨⟨Ds,rfl,(List.nodup_cons.1 e2).2,fun D' hD'=>?_⟩⟩
   ·obtain⟨g1,g2,g3,g4⟩:=e3 D' (qw3 _ hD')
    exact⟨g1,by simpa using g2,g3,(World.putObj_heap_other (fun e=>(List.nodup_cons.1 e2).1 (by rw[←e];exact hD'))).trans g4⟩
  have hs':=hs.hid (o' := .deferred none) f1 f3 f4 rfl rfl hd'
  refine⟨by simp,.inl ⟨D,_,rfl,run_takeDeferred f4,q2K Ds _ _ rfl hs' (fun a' w' h1 h2 h3=>h a' w' h1 h2 h3) ht⟩⟩
end
end
noncomputable section
open Go.RowKit
def ZQ (P:Program) (s:S) (g:FuncId) (rs:List R) (K:KK):Prop:=
 qdc P g∧∀cx ρ a w vs,Sim cx ρ s a w→RRs w s.live ρ vs rs→Calls P g vs w fun e w'=>∃v r s' ρ',e = .returned v∧K r s'∧Sim cx ρ' s' a w'∧RR w' s'.live ρ' v r
def q8E (P:Program) (s:S) (f:Operand) (args:List Operand) (K:KK):Prop:=
 ∃g fs caps,s.ev f = .c (.fn g fs caps)∧ZQ P s g (fs.map R.c++args.map s.ev++caps.map R.c) K
section
variable {P:Program} {T:Ty} {cx:Cx} {ρ:Pl} {s:S} {a:Act} {w:World} {o:Oper} {next:Act→World→Prop} {Q:Exit→Act→World→Prop} {K:KK}
theorem q0O {L:Nat→Prop} {vs us:Array Value} {rs ts:List R} (h:RRs w L ρ vs rs) (h':RRs w L ρ us ts):RRs w L ρ (vs++us) (rs++ts):=by
 refine⟨by simp[h.1,h'.1],fun j r hj=>?_⟩
 by_cases hl:j<rs.length
 ·rw[qwy hl] at hj
  have hv:j<vs.size:=by rw[h.1];exact hl
  have:=h.2 j r hj
  simpa [qw1,Array.getElem?_append,hv] using this
 ·rw[qwx (by omega)] at hj
  have:=h'.2 _ r hj
  have he:(vs++us).getD j undef=us.getD (j-rs.length) undef:=by simp only[qw1,Array.getElem?_append,h.1,if_neg hl]
  rw[he];exact this
theorem qem (hs:Sim cx ρ s a w) (l:List Operand):RRs w s.live ρ (l.map a.eval).toArray (l.map s.ev):=by
 refine⟨by simp,fun j r hj=>?_⟩
 rw[qw9] at hj
 obtain⟨x,h1,h2⟩:=qw8.1 hj
 have:(l.map a.eval).toArray.getD j undef=a.eval x:=by simp[qw1,h1]
 rw[this,←h2]
 exact hs.ev x
theorem q1R {L:Nat→Prop} {vs:Array Value} {cs:List C} (h1:vs.size=cs.length) (h2:∀j c,cs[j]?=some c→RC w L ρ (vs.getD j undef) c):RRs w L ρ vs (cs.map R.c):=by
 refine⟨by simp[h1],fun j r hj=>?_⟩
 rw[qw9] at hj
 obtain⟨x,h3,h4⟩:=qw8.1 hj
 exact h4 ▸ .c _ _ (h2 j x h3)
theorem qjM {f:Operand} {args:Array Operand} {ts:Array TypeId} (ho:o.op = .call { callee := .value f,args:=args,argTypes:=ts }) (hs:Sim cx ρ s a w) (h:q8E P s f args.toList K) (hn:Qn cx K o a next):o.wp P a w next Q:=by
 obtain⟨g,fs,caps,h1,⟨fn,e1,e2,e3⟩,h2⟩:=h
 have hf:=hs.ev f
 rw[h1] at hf
 obtain⟨us,vs,q1,q2,q3,q4,q5⟩:=hf.inv_fn
 have hargs:=q0O (q0O (q1R q2 q3) (qem hs args.toList)) (q1R q4 q5)
 have hm:(args.toList.map a.eval).toArray=args.map a.eval:=by rw[←List.map_toArray,Array.toArray_toList]
 rw[hm] at hargs
 have hc:=h2 cx ρ a w _ hs hargs
 unfold Oper.wp execOp
 simp only[ho,resolve,q1,Deferred.ofValue,Sem.run_bind,Sem.run_pure,Result.andThen_ok,invoke,callFunc,program,Sem.run,e1,e2,e3,Bool.false_eq_true,if_false]
 refine hc.mono fun e w' ⟨v,r,s',ρ',h3,h4,h5,h6⟩=>?_
 subst h3
 exact hn r s' ρ' v w' h4 h5 h6
theorem Sim.grow (hs:Sim cx ρ s a w) {w':World} (hk:q9Q (fun _=>False) w w'):Sim cx ρ s a w':=by
 have hst:q2s w s.live ρ w' s.live ρ:=⟨hk.size,fun b hb _=>hk.block b hb id,fun _ _ h=>h,fun _ hi=>⟨hi,rfl⟩,fun b hF=>⟨hF,fun hb=>hk.block b hb id⟩⟩
 exact⟨hs.hd.stay hst,hs.size,fun i=>(hs.tm i).stay hst,fun i b c hi hr=>⟨qwv (hs.hp i b c hi hr).1 hk.size,(hs.hp i b c hi hr).2.stay hst (hk.block b (hs.hp i b c hi hr).1 id)⟩,hs.hp0,hs.out,hs.inj,hs.nx,
  ⟨hk.os.trans hs.kept.os,hk.tape.trans hs.kept.tape,hk.output.trans hs.kept.output,qww hs.kept.size hk.size,fun k hk' hO=>(hk.block k (qwv hk' hs.kept.size) id).trans (hs.kept.block k hk' hO)⟩,hs.oldF,hs.pin,hs.disj,hs.ows.sub (fun b h=>qwv (hs.ows.lt b h) hk.size) fun i j d hw=>by
   obtain⟨b,c,y,n,c',l1,l2,l3,l4,l5⟩:=hw
   exact⟨b,c,y,n,c',l1,l2,l3,l4,by rw[←l5];exact(World.cell?_of_block (w:=w) (hk.block b (hs.hp i b c l1 l2).1 id)).symm⟩⟩
def C.dat0:C→Bool
 | .d _=>true
 | .nilp=>true
 | .nilf=>true
 | .nilm=>true
 | .nils=>true
 | .eptr _ _=>true
 | .clp _ _ _=>true
 | .any=>true
 | _=>false
def C.dat:C→Bool
 | .fn _ fs caps=>fs.all C.dat0&&caps.all C.dat0
 | c=>c.dat0
def R.dat:R→Bool
 | .c x=>x.dat
 | .agg xs=>xs.all C.dat
 | .tup rs=>rs.all fun r=>match r with | .c x=>x.dat | .agg xs=>xs.all C.dat | .any=>true|_=>false
 | .any=>true
theorem qfj {cs:List C} (h:cs.all C.dat=true):cs.all C.noow=true:=qwc.2 fun c hc=>by
 have:=qwc.1 h c hc
 cases c<;>first|rfl|cases this
theorem RC.dat' {L L':Nat→Prop} {ρ':Pl} {v:Value} {x:C} (h:RC w L ρ v x) (hx:x.dat=true) (ho:∀b,Occ L' ρ' b→Occ L ρ b):RC w L' ρ' v x:=by
 have h0:∀{v:Value} {x:C},RC w L ρ v x→x.dat0=true→RC w L' ρ' v x:=fun h hx=>by
  cases h with
  | d v x h=>exact .d _ _ (h.occ ho)
  | nilp=>exact .nilp
  | nilf=>exact .nilf
  | nilm=>exact .nilm
  | nils=>exact .nils
  | any _=>exact .any _
  | clp A sz n cs h=>exact .clp A sz n cs (h.occ ho)
  | eptr b o off cs f h1 h2 h3 h4=>exact .eptr b o off cs f h1 (fun h=>h2 (ho b h)) h3 (fun j c hj=>(h4 j c hj).occ ho)
  | _=>cases hx
 cases x with
 | fn f fs caps=>
  obtain⟨x1,x2⟩:=(qwr _ _).mp (show(fs.all C.dat0&&caps.all C.dat0)=true from hx)
  cases h with
  | fn _ _ _ us vs h1 h2 h3 h4=>exact .fn f fs caps us vs h1 (fun j c hj=>h0 (h2 j c hj) (qwc.1 x1 c (qvW hj))) h3 (fun j c hj=>h0 (h4 j c hj) (qwc.1 x2 c (qvW hj)))
 | _=>exact h0 h hx
theorem RR.dat' {L L':Nat→Prop} {ρ':Pl} {v:Value} {x:R} (h:RR w L ρ v x) (hx:x.dat=true) (ho:∀b,Occ L' ρ' b→Occ L ρ b):RR w L' ρ' v x:=by
 have hagg:∀{vs:Array Value} {xs:List C},vs.size=xs.length→(∀j c,xs[j]?=some c→RC w L ρ (vs.getD j undef) c)→xs.all C.dat=true→RR w L' ρ' (.agg vs) (.agg xs):=fun h1 h2 h3 => .agg _ _ h1 fun j c hj=>(h2 j c hj).dat' (qwc.1 h3 c (qvW hj)) ho
 cases h with
 | c v x h=>exact .c _ _ (h.dat' hx ho)
 | agg vs xs h1 h2=>exact hagg h1 h2 hx
 | tup vs xs h1 h2=>
  refine .tup _ _ h1 fun j r hj=>?_
  have h3:=qwc.1 (show xs.all _=true from hx) r (qvW hj)
  have h4:=h2 j r hj
  generalize vs.getD j undef=u at h4
  cases h4 with
  | c v x h=>exact .c _ _ (h.dat' h3 ho)
  | agg vs xs h1 h2=>exact hagg h1 h2 h3
  | tup vs xs h1 h2=>cases h3
  | any v=>exact .any _
 | any v=>exact .any _
theorem qb8 (hs:Sim cx ρ s a w) {O:Nat→Prop} {id sz off n:Nat} {ds:List D} {v:Value} (h:RC w s.live ρ v (.own id sz off n)) (hc:((s.blk id).cells.drop (off*sz)).take (n*sz)=ds.map C.d) (hl:ds.length=n*sz)
  (hO:∀b,O b→Occ s.live ρ b) (hid:∀b cap,ρ id=some (b,cap)→¬ O b):RD w O v (.sl sz n ds):=by
 obtain⟨q1,q2⟩:=(RR.c v _ h).inv_own
 rcases q2 with ⟨b,cap,q2,q3,q4,q5⟩|⟨q2,q3,rfl,rfl⟩
 ·rw[q5]
  by_cases hn0:n=0
  ·subst hn0
   have:ds=[]:=qwe (by simpa using hl)
   subst this
   exact .nil _ _ _ (by omega) (fun h=>by cases h)
  ·obtain⟨q6,q7⟩:=hs.hp id b cap q1 q2
   obtain⟨l',h3,h4⟩:=q1f (Pr:=fun j v d=>w.cell? ⟨b,off*sz+j,none⟩=some v∧RC w s.live ρ v (.d d)) ds 0 (fun j d hj=>by
    rw[qwj]
    have h3:(ds.map C.d)[j]?=some (.d d):=by rw[qw9,hj];rfl
    rw[←hc] at h3
    have hj':j<n*sz:=by rw[←hl];exact(qvZ.1 hj).1
    rw[qwu hj',List.getElem?_drop] at h3
    exact q7.cell h3)
   refine .sl b (off*sz) n (cap-off) sz ds (fun j=>l'.getD j undef) hl (by omega) (by omega) q6 (hid b cap q2) (fun j d hj=>?_) (fun j d hj=>?_)
   ·obtain⟨v,h5,h6,-⟩:=h4 j d hj
    rw[qwj] at h6
    rw[h6,List.getD,h5];rfl
   ·obtain⟨v,h5,-,h7⟩:=h4 j d hj
    rw[List.getD,h5]
    cases h7 with|d _ _ h7=>exact h7.occ hO
 ·rw[q3]
  have:ds=[]:=qwe (by simpa using hl)
  subst this
  exact .nil _ _ _ (qwl _) (fun _=>rfl)
theorem Sim.occ_lt (hs:Sim cx ρ s a w) {b:Nat} (h:Occ s.live ρ b):b<w.heap.size:=by
 rcases h with h|⟨i,c,h1,h2⟩
 ·exact hs.ows.lt b h
 ·exact(hs.hp i b c h1 h2).1
def Pl.setO (ρ:Pl) (p:Nat) (pl:Option (Nat×Nat)):Pl:=⟨fun i=>if i=p then pl else ρ i,ρ.F⟩
theorem qdx (h:Sim cx ρ s a w) {p:Nat} {x:B} {pl:Option (Nat×Nat)} {w':World} (hp:¬ s.live p) (hk:q9Q (fun _=>False) w w') (hpl:∀b cap,pl=some (b,cap)→w.heap.size≤b) :
  q2s w s.live ρ w' (s.up [(p,x)]).live (ρ.setO p pl):=by
 have hne:∀i,s.live i→i≠p:=fun i hi e=>hp (e ▸ hi)
 refine⟨hk.size,fun b hb _=>hk.block b hb id,fun b hb hO=>?_,fun i hi=>⟨?_,if_neg (hne i hi)⟩,fun b hF=>⟨hF,fun hb=>hk.block b hb id⟩⟩
 ·rcases hO with hF|⟨i,c,h1,h2⟩
  ·exact .inl hF
  ·by_cases hi:i=p
   ·have h2:(if i=p then pl else ρ i)=some (b,c):=h2
    rw[if_pos hi] at h2
    have:=hpl b c h2
    omega
   ·have h2:(if i=p then pl else ρ i)=some (b,c):=h2
    rw[if_neg hi] at h2
    unfold S.live at h1
    rw[S.blk_up,if_neg (Ne.symm hi)] at h1
    exact .inr ⟨i,c,h1,h2⟩
 ·unfold S.live at hi ⊢
  rw[S.blk_up,if_neg (Ne.symm (hne i hi))]
  exact hi
theorem Sim.newG (h:Sim cx ρ s a w) {p:Nat} {x:B} {pl:Option (Nat×Nat)} {w':World} (hp:¬ s.live p) (hk:q9Q (fun _=>False) w w')
  (hpl:(pl=none∧∃e sz,x = .row e sz [])∨∃b cap,pl=some (b,cap)∧w.heap.size≤b∧b<w'.heap.size∧HB w' (s.up [(p,x)]).live (ρ.setO p pl) b cap x) (hx:x.cells.all C.noow=true):Sim cx (ρ.setO p pl) (s.up [(p,x)]) a w':=by
 have hpl0:∀b cap,pl=some (b,cap)→w.heap.size≤b:=fun b cap e=>by
  rcases hpl with ⟨h1,-⟩|⟨b',c',h1,h2,-⟩
  ·rw[h1] at e;cases e
  ·rw[h1] at e;injection e with e;injection e with e1 e2;omega
 have hs:=qdx (x:=x) h hp hk hpl0
 have hl:∀i,(s.up [(p,x)]).live i→i≠p→s.live i:=fun i hi hn=>by
  unfold S.live at hi ⊢
  rw[S.blk_up,if_neg (Ne.symm hn)] at hi
  exact hi
 have hr:∀i,i≠p→(ρ.setO p pl) i=ρ i:=fun i hn=>if_neg hn
 have hrp:(ρ.setO p pl) p=pl:=if_pos rfl
 refine⟨h.hd.stay hs,h.size,fun i=>(h.tm i).stay hs,fun i b c hi hri=>?_,fun i hi hri=>?_,fun i b c hi hri=>?_,fun i j b c c' hi hj hri hrj=>?_,fun i hi=>?_,?_,h.oldF,fun i hi=>?_,fun i b c hi hri=>?_,?_⟩
 ·by_cases hn:i=p
  ·subst hn
   rw[hrp] at hri
   rw[S.blk_up,if_pos rfl]
   rcases hpl with ⟨h1,-⟩|⟨b',c',h1,h2,h3,h4⟩
   ·rw[h1] at hri;cases hri
   ·rw[h1] at hri;injection hri with hri;injection hri with e1 e2;subst e1 e2;exact⟨h3,h4⟩
  ·rw[hr i hn] at hri
   obtain⟨h1,h2⟩:=h.hp i b c (hl i hi hn) hri
   rw[S.blk_up,if_neg (Ne.symm hn)]
   exact⟨qwv h1 hk.size,h2.stay hs (hk.block b h1 id)⟩
 ·by_cases hn:i=p
  ·subst hn
   rw[hrp] at hri
   rw[S.blk_up,if_pos rfl]
   rcases hpl with ⟨-,h1⟩|⟨b',c',h1,-⟩
   ·exact h1
   ·rw[h1] at hri;cases hri
  ·rw[hr i hn] at hri
   rw[S.blk_up,if_neg (Ne.symm hn)]
   exact h.hp0 i (hl i hi hn) hri
 ·by_cases hn:i=p
  ·subst hn
   rw[hrp] at hri
   have:=hpl0 b c hri
   exact .inr (qww h.kept.size this)
  ·rw[hr i hn] at hri
   exact h.out i b c (hl i hi hn) hri
 ·by_cases hi':i=p
  ·by_cases hj':j=p
   ·rw[hi',hj']
   ·subst hi'
    rw[hrp] at hri
    rw[hr j hj'] at hrj
    have:=(h.hp j b c' (hl j hj hj') hrj).1
    have:=hpl0 b c hri
    omega
  ·by_cases hj':j=p
   ·subst hj'
    rw[hrp] at hrj
    rw[hr i hi'] at hri
    have:=(h.hp i b c (hl i hi hi') hri).1
    have:=hpl0 b c' hrj
    omega
   ·rw[hr i hi'] at hri
    rw[hr j hj'] at hrj
    exact h.inj i j b c c' (hl i hi hi') (hl j hj hj') hri hrj
 ·show i<max s.nx (p+1)
  by_cases hn:i=p
  ·omega
  ·have:=h.nx i (hl i hi hn);omega
 ·exact⟨hk.os.trans h.kept.os,hk.tape.trans h.kept.tape,hk.output.trans h.kept.output,qww h.kept.size hk.size,fun k hk' hO=>(hk.block k (qwv hk' h.kept.size) id).trans (h.kept.block k hk' hO)⟩
 ·obtain⟨h1,h2⟩:=h.pin i hi
  have hn:i≠p:=fun e=>hp (by rw[←e];unfold S.live;exact B.live_of h2)
  exact⟨(hr i hn).trans h1,by rw[S.blk_up,if_neg (Ne.symm hn)];exact h2⟩
 ·by_cases hn:i=p
  ·subst hn
   rw[hrp] at hri
   intro hF
   have:=h.ows.lt b hF
   have:=hpl0 b c hri
   omega
  ·rw[hr i hn] at hri
   exact h.disj i b c (hl i hi hn) hri
 ·refine h.ows.sub (fun b hF=>qwv (h.ows.lt b hF) hk.size) fun i j d hw=>?_
  obtain⟨b,c,y,n,c',l1,l2,l3,l4,l5⟩:=hw
  have hn:i≠p:=fun e=>by
   subst e
   rw[S.blk_up,if_pos rfl] at l3
   have:=C.noow_is (qwc.1 hx y (qvW l3))
   rw[l4] at this;cases this
  rw[hr i hn] at l2
  rw[S.blk_up,if_neg (Ne.symm hn)] at l3
  exact⟨b,c,y,n,c',hl i l1 hn,l2,l3,l4,by rw[←l5];exact(World.cell?_of_block (w:=w) (hk.block b (h.hp i b c (hl i l1 hn) l2).1 id)).symm⟩
theorem ZQ.fresh {g:FuncId} {rs:List R} {e z n:Nat} {cs:List C} (h:AC P g rs [] 0 fun r hp=>r = .c (.own 0 z 0 n)∧hp=[(0,.row e z cs)]) (hd:rs.all R.dat=true) (hcs:cs.all C.dat=true) {p:Nat} (hp:¬ s.live p)
  (hK:K (.c (.own p z 0 n)) (s.up [(p,.row e z cs)])):ZQ P s g rs K:=by
 refine⟨h.ent,fun cx ρ a w vs hs hv=>?_⟩
 let ρc:Pl:=⟨fun _=>none,Occ s.live ρ⟩
 let cxc:Cx:=⟨fun _=>False,w,ρc,0,none⟩
 have hnl:∀i,¬ (Qy [] 0).live i:=fun i h=>by cases h
 have hOc:∀b,Occ (Qy [] 0).live ρc b↔Occ s.live ρ b:=fun b=>⟨fun h=>by rcases h with h|⟨i,c,h1,-⟩;exact h;exact absurd h1 (hnl i),fun h => .inl h⟩
 have hlt:∀b,ρc.F b→b<w.heap.size:=fun b hb=>hs.occ_lt hb
 have hsc:Sim cxc ρc (Qy [] 0) q4A w:=by
  refine⟨Hd.none,rfl,fun i => .any _,fun i b c h=>absurd h (hnl i),fun i h=>absurd h (hnl i),fun i b c h=>absurd h (hnl i),fun i j b c c' h=>absurd h (hnl i),fun i h=>absurd h (hnl i),q9Q.refl _ _,fun b hb=>⟨hb,hlt b hb⟩,fun i hi=>absurd hi (Nat.not_lt_zero _),fun i b c h=>absurd h (hnl i),⟨hlt,fun i j _ _ d h=>absurd h.choose_spec.choose_spec.choose_spec.choose_spec.choose_spec.1 (hnl i),fun i j d h=>absurd h.choose_spec.choose_spec.choose_spec.choose_spec.choose_spec.1 (hnl i)⟩⟩
 have hargs:RRs w (Qy [] 0).live ρc vs rs:=⟨hv.1,fun j r hj=>(hv.2 j r hj).dat' (qwc.1 hd r (qvW hj)) (fun b hb=>(hOc b).1 hb)⟩
 refine(h.call cxc ρc w vs rfl rfl rfl rfl hsc hargs).mono fun e' w' ⟨v,r,hp',nx',ρ',h1,⟨h2,h2'⟩,h3,h4⟩=>?_
 subst h2 h2'
 have hl0:(Qy [(0,B.row e z cs)] nx').live 0:=by unfold S.live S.blk Qy;simp[lk,B.live]
 have hlo:∀i,(Qy [(0,B.row e z cs)] nx').live i→i=0:=fun i hi=>by
  unfold S.live S.blk Qy at hi
  by_cases h0:i=0
  ·exact h0
  ·simp[lk,show ¬ 0=i by omega,B.live] at hi
 have hF:∀b,Occ s.live ρ b→ρ'.F b:=fun b hb=>(h3.oldF b hb).1
 obtain⟨-,hc⟩:=h4.inv_own
 rcases hc with ⟨b,cap,c1,c2,c3,c4⟩|⟨c1,c2,-,c4⟩
 ·have hbn:w.heap.size≤b:=(h3.out 0 b cap hl0 c1).resolve_left id
  obtain⟨hbl,hB⟩:=h3.hp 0 b cap hl0 c1
  have hB:HB w' (Qy [(0,B.row e z cs)] nx').live ρ' b cap (.row e z cs):=hB
  obtain⟨cur,q1,q2,q3,q4,q5,q6⟩:=hB
  have hocc:∀b',Occ (s.up [(p,B.row e z cs)]).live (ρ.setO p (some (b,cap))) b'→Occ (Qy [(0,B.row e z cs)] nx').live ρ' b':=fun b' hb'=>by
   rcases hb' with hb' | ⟨i,c,g1,g2⟩
   ·exact .inl (hF _ (.inl hb'))
   ·have g2:(if i=p then some (b,cap) else ρ i)=some (b',c):=g2
    by_cases hi:i=p
    ·rw[if_pos hi] at g2
     injection g2 with g2;injection g2 with g2 g3
     subst g2
     exact .inr ⟨0,cap,hl0,c1⟩
    ·rw[if_neg hi] at g2
     unfold S.live at g1
     rw[S.blk_up,if_neg (Ne.symm hi)] at g1
     exact .inl (hF _ (.inr ⟨i,c,g1,g2⟩))
  have hnew:=hs.newG (x := .row e z cs) (pl:=some (b,cap)) hp h3.kept (.inr ⟨b,cap,rfl,hbn,hbl,cur,q1,q2,q3,q4,q5,fun j c hj=>(q6 j c hj).dat' (qwc.1 hcs c (qvW hj)) hocc⟩) (qfj hcs)
  refine⟨v,_,_,_,h1,hK,hnew,?_⟩
  rw[c4]
  exact .c _ _ (.own p z 0 n b cap (by unfold S.live;rw[S.blk_up,if_pos rfl];rfl) (if_pos rfl) c2 c3)
 ·obtain⟨e0,z0,h0⟩:=h3.hp0 0 hl0 c1
  have h0:B.row e z cs = .row e0 z0 []:=h0
  injection h0 with i1 i2 i3
  subst i3 c4
  have hnew:=hs.newG (x := .row e z []) (pl:=none) hp h3.kept (.inl ⟨rfl,_,_,rfl⟩) rfl
  refine⟨v,_,_,_,h1,hK,hnew,?_⟩
  rw[c2]
  exact .c _ _ (.own0 p z (by unfold S.live;rw[S.blk_up,if_pos rfl];rfl) (if_pos rfl))
end
end
noncomputable section
open Go.RowKit
def XO (f:Option (R×S)) (K:KK):Prop:=∃r s',f=some (r,s')∧K r s'
def D.key:D→Option Value
 | .int k n=>some (.int k n)
 | .bool b=>some (.bool b)
 | .str s=>some (.string s)
 | .sl _ _ _=>none
def kR:Value→R
 | .int k n => .c (.d (.int k n))
 | .bool b => .c (.d (.bool b))
 | .string s => .c (.d (.str s))
 | _ => .any
def R.key:R→Option Value
 | .c (.d x)=>x.key
 | _=>none
def plK:Kd→Value→Bool
 | .int k,.int k' _=>decide (k=k')
 | .str,.string _=>true
 | .bool,.bool _=>true
 | _,_=>false
def kq:Value→Value→Bool
 | .int _ a,.int _ b=>decide (a=b)
 | .string a,.string b=>decide (a=b)
 | .bool a,.bool b=>a==b
 | _,_=>false
def fnd (k:Value):List (Value×R×Nat)→Nat→Option (Nat×R×Nat)
 | [],_=>none
 | e::es,i=>if kq k e.1=true then some (i,e.2.1,e.2.2) else fnd k es (i+1)
def fnb (n:Int):List (Value×R×Nat)→Nat→Option Nat
 | [],_=>none
 | e::es,i=>if(e.2.2:Int)=n then some i else fnb n es (i+1)
def zR (T:Ty) (e:TypeId):Option R:=
 match T.k e,T.zero e with
 | .other,_=>none
 | .st _,z=>some (.agg z)
 | .arr _ _,z=>some (.agg z)
 | .sl e',[.nils]=>some (.c (.d (.sl (T.sz e') 0 [])))
 | _,[c]=>some (.c c)
 | _,_=>none
def JU (T:Ty) (s:S) (p:Nat) (t:TypeId) (r:Option Operand):Option (R×S):=
 match r with
 | none=>some (.c (.hd .map p),s.up [(p,.ob (.mp [] 0))])
 | some x=>match T.k t,s.ev x with
  | .mp _ _,.c (.d (.int _ _))=>some (.c (.hd .map p),s.up [(p,.ob (.mp [] 0))])
  | _,_=>none
def q2b (s:S) (x:Operand):Option (List (Value×R×Nat)):=
 match s.ev x with
 | .c .nilm=>some []
 | .c (.hd .map id)=>match s.blk id with | .ob (.mp es _)=>some es|_=>none
 | _=>none
def tt2 (r:R) (ok:Bool) (b:Bool):R:=if ok then .tup [r,.c (.d (.bool b))] else r
def JN (T:Ty) (s:S) (t:TypeId) (x y:Operand) (ok:Bool):Option R:=
 match T.k t,q2b s x,(s.ev y).key with
 | .mp k e,some es,some kv=>
  if plK (T.k k) kv=true∧es.all (fun q=>plK (T.k k) q.1)=true then
   (zR T e).bind fun z=>match fnd kv es 0 with
    | some q=>some (tt2 q.2.1 ok true)
    | none=>some (tt2 z ok false)
  else none
 | _,_,_=>none
def q0l (T:Ty) (s:S) (t:TypeId) (m k x:Operand):Option (R×S):=
 match T.k t,s.ev m,(s.ev k).key with
 | .mp kt _,.c (.hd .map id),some kv=>match s.blk id with
  | .ob (.mp es ck)=>
   if plK (T.k kt) kv=true∧es.all (fun q=>plK (T.k kt) q.1)=true then
    match fnd kv es 0 with
    | some q=>some (.any,s.up [(id,.ob (.mp (es.set q.1 (kv,s.ev x,q.2.2)) ck))])
    | none=>some (.any,s.up [(id,.ob (.mp (es++[(kv,s.ev x,ck)]) (ck+1)))])
   else none
  | _=>none
 | _,_,_=>none
def q5T (T:Ty) (s:S) (t:TypeId) (m k:Operand):Option (R×S):=
 match T.k t,s.ev m,(s.ev k).key with
 | .mp kt e,.c (.hd .map id),some kv=>match s.blk id with
  | .ob (.mp es ck)=>
   if plK (T.k kt) kv=true∧es.all (fun q=>plK (T.k kt) q.1)=true then
    (zR T e).bind fun z=>match fnd kv es 0 with
    | some q=>some (.tup [q.2.1,.c (.d (.int .i64 q.2.2))],s.up [(id,.ob (.mp (es.set q.1 (kv,q.2)) ck))])
    | none=>some (.tup [z,.c (.d (.int .i64 ck))],s.up [(id,.ob (.mp (es++[(kv,z,ck)]) (ck+1)))])
   else none
  | _=>none
 | _,_,_=>none
def q8A (s:S) (m st x:Operand):Option (R×S):=
 match s.ev m,s.ev st with
 | .c (.hd .map id),.c (.d (.int _ n))=>match s.blk id with
  | .ob (.mp es ck)=>(fnb n es 0).bind fun i=>(es[i]?).bind fun e=>some (.any,s.up [(id,.ob (.mp (es.set i (e.1,s.ev x,e.2.2)) ck))])
  | _=>none
 | _,_=>none
def q2A (T:Ty) (s:S) (t:TypeId) (x:Operand):Option R:=
 match T.k t,q2b s x with
 | .mp _ _,some es=>some (.c (.d (.int .i64 es.length)))
 | _,_=>none
def q2N (T:Ty) (s:S) (p:Nat) (t:TypeId) (x:Operand):Option (R×S):=
 match T.k t,s.ev x with
 | .str,.c (.d (.str b))=>some (.c (.hd .iter p),s.up [(p,.ob (.si b 0))])
 | .mp _ _,.c .nilm=>some (.c (.hd .iter p),s.up [(p,.ob (.mi (.c .nilm) 0 []))])
 | .mp _ _,.c (.hd .map id)=>match s.blk id with
  | .ob (.mp _ ck)=>some (.c (.hd .iter p),s.up [(p,.ob (.mi (.c (.hd .map id)) ck []))])
  | _=>none
 | _,_=>none
def q2P (s:S) (it:Operand):Option (R×S):=
 match s.ev it with
 | .c (.hd .iter id)=>match s.blk id with
  | .ob (.m1 (some e) m since seen)=>some (.tup [.c (.d (.bool true)),kR e.1,e.2.1],s.up [(id,.ob (.mi m since (e.2.2::seen)))])
  | .ob (.m1 none m since seen)=>some (.tup [.c (.d (.bool false))],s.up [(id,.ob (.mi m since seen))])
  | _=>none
 | _=>none
def qlW (es:List (Value×R×Nat)) (x:Nat):Option R:=(es.find? fun q=>q.2.2==x).bind fun e=>some (.tup [kR e.1,e.2.1])
def q8e (s:S) (it:Operand):Option (R×S):=
 match s.ev it with
 | .c (.hd .iter id)=>match s.blk id with
  | .ob (.mi (.c (.hd .map mid)) ck (x::_))=>match s.blk mid with
   | .ob (.mp es c)=>if c=ck then(qlW es x).map fun r=>(r,s) else none
   | _=>none
  | _=>none
 | _=>none
def qfJ (s:S) (it:Operand):Option (R×S):=
 match s.ev it with
 | .c (.hd .iter id)=>match s.blk id with
  | .ob (.si b pos)=>
   if pos<b.size then some (.tup [.c (.d (.bool true)),.c (.d (.int .i64 pos)),.c (.d (.int .i32 (Utf8.decode b pos).1))],s.up [(id,.ob (.si b (pos+(Utf8.decode b pos).2)))])
   else some (.tup [.c (.d (.bool false))],s)
  | _=>none
 | _=>none
theorem D.key_eq {w:World} {O:Nat→Prop} {v:Value} {x:D} {u:Value} (h:RD w O v x) (hk:x.key=some u):v=u:=by
 cases h with
 | int k n=>injection hk
 | bool b=>injection hk
 | str b=>injection hk
 | _=>cases hk
theorem R.key_eq {w:World} {L:Nat→Prop} {ρ:Pl} {v:Value} {r:R} {u:Value} (h:RR w L ρ v r) (hk:r.key=some u):v=u:=by
 unfold R.key at hk
 split at hk
 ·rename_i x;cases h with|c _ _ h=>cases h with|d _ _ h=>exact D.key_eq h hk
 ·cases hk
theorem q23 {d:Kd} {k:Value} (h:plK d k=true):(∃kk n,d = .int kk∧k = .int kk n)∨(∃b,d = .str∧k = .string b)∨∃b,d = .bool∧k = .bool b:=by
 unfold plK at h
 split at h
 ·have:=of_decide_eq_true h;subst this;exact .inl ⟨_,_,rfl,rfl⟩
 ·exact .inr (.inl ⟨_,rfl,rfl⟩)
 ·exact .inr (.inr ⟨_,rfl,rfl⟩)
 ·cases h
theorem qdp (a b:ByteArray):(a==b)=decide (a=b):=by
 by_cases h:a=b
 ·rw[qwV h];exact(MapKept.bytes_beq a b).2 h
 ·rw[decide_eq_false h]
  cases hb:a==b with
  | false=>rfl
  | true=>exact absurd ((MapKept.bytes_beq a b).1 hb) h
theorem qa3 {d:TypeDesc} {k k':Value} (h:plK (q1s d) k=true) (h':plK (q1s d) k'=true):Instr.sameNow d k k'=some (kq k k')∧(kq k k'=true→k'=k):=by
 rcases q23 h with ⟨kk,n,h1,rfl⟩|⟨b,h1,rfl⟩|⟨b,h1,rfl⟩<;>rcases q23 h' with ⟨kk',n',h2,rfl⟩|⟨b',h2,rfl⟩|⟨b',h2,rfl⟩<;>rw[h1] at h2
 case inl.inl=>
  have hd:=q2a h1
  injection h2 with h2
  subst hd h2
  constructor
  ·simp[Instr.sameNow,kq]
   by_cases hn:n=n'<;>simp[hn]
  ·intro hq;have:=of_decide_eq_true hq;rw[this]
 case inr.inl.inr.inl=>
  have hd:=Js h1
  subst hd
  constructor
  ·simp only[Instr.sameNow,kq,qdp]
  ·intro hq;have:=of_decide_eq_true hq;rw[this]
 case inr.inr.inr.inr=>
  have hd:=q5t h1
  subst hd
  constructor
  ·simp[Instr.sameNow,kq]
  ·intro hq;have:=eq_of_beq hq;rw[this]
 all_goals cases h2
theorem q3u {d:TypeDesc} {k:Value} (hk:plK (q1s d) k=true):∀(es:List (Value×R×Nat)) (mes:List MapEntry) (i:Nat),mes.map (·.key)=es.map (·.1)→es.all (fun e=>plK (q1s d) e.1)=true→
  (fnd k es i=none→Instr.findNow d k mes i=some none)∧∀q,fnd k es i=some q→∃m,i≤q.1∧es[q.1-i]?=some (k,q.2)∧mes[q.1-i]?=some m∧Instr.findNow d k mes i=some (some (q.1,m.val))
 | [],mes,i,hm,_=>by
  have:mes=[]:=by simpa using hm
  subst this
  exact⟨fun _=>rfl,fun q hq=>by cases hq⟩
 | e::es,mes,i,hm,ha=>by
  cases mes with
  | nil=>cases hm
  | cons m ms=>
   simp only[qwi,List.cons.injEq] at hm
   simp only[List.all_cons,qwr] at ha
   obtain⟨hs1,hs2⟩:=qa3 hk ha.1
   obtain⟨ih1,ih2⟩:=q3u hk es ms (i+1) hm.2 ha.2
   unfold fnd Instr.findNow
   rw[hm.1,hs1]
   cases hq:kq k e.1 with
   | true=>
    simp only[if_true]
    refine⟨fun h=>(by cases h),fun q h=>?_⟩
    injection h with h
    subst h
    refine⟨m,qwb _,?_,by simp,rfl⟩
    simp only[Nat.sub_self,qw5]
    rw[←hs2 hq]
   | false=>
    simp only[Bool.false_eq_true,if_false]
    refine⟨ih1,fun q h=>?_⟩
    obtain⟨m',g1,g2,g3,g4⟩:=ih2 q h
    have hq1:q.1-i=(q.1-(i+1))+1:=by omega
    refine⟨m',by omega,?_,?_,g4⟩
    ·rw[hq1,qwk];exact g2
    ·rw[hq1,qwk];exact g3
theorem q7a {d:Kd} {k:Value} (h:plK d k=true):Instr.sameBits 10000 k k=true:=by
 rcases q23 h with ⟨kk,n,-,rfl⟩|⟨b,-,rfl⟩|⟨b,-,rfl⟩
 ·show Instr.sameBits (9999+1) _ _=true
  simp[Instr.sameBits]
 ·show Instr.sameBits (9999+1) _ _=true
  simp[Instr.sameBits,qdp]
 ·show Instr.sameBits (9999+1) _ _=true
  simp[Instr.sameBits]
theorem Sim.ext {cx:Cx} {ρ:Pl} {s s':S} {a:Act} {w:World} (hs:Sim cx ρ s a w) (hg:∀i,s'.get i=s.get i) (hb:∀i,s'.blk i=s.blk i) (hn:s'.n=s.n) (hx:∀i,s'.live i→i<s'.nx):Sim cx ρ s' a w:=by
 have hl:s'.live=s.live:=by funext i;unfold S.live;rw[hb]
 refine⟨by rw[hl];exact hs.hd,by rw[hn];exact hs.size,fun i=>by rw[hl,hg];exact hs.tm i,fun i b c h1 h2=>by rw[hl] at h1 ⊢;rw[hb];exact hs.hp i b c h1 h2,fun i h1 h2=>by rw[hl] at h1;rw[hb];exact hs.hp0 i h1 h2,fun i b c h1 h2=>by rw[hl] at h1;exact hs.out i b c h1 h2,
  fun i j b c c' h1 h2=>by rw[hl] at h1 h2;exact hs.inj i j b c c' h1 h2,hx,hs.kept,hs.oldF,fun i hi=>by rw[hb];exact hs.pin i hi,fun i b c h1=>by rw[hl] at h1;exact hs.disj i b c h1,hs.ows.sub hs.ows.lt fun i j d hw=>by
   obtain⟨b,c,y,n,c',l1,l2,l3,l4,l5⟩:=hw
   exact⟨b,c,y,n,c',by rw[hl] at l1;exact l1,l2,by rw[hb] at l3;exact l3,l4,l5⟩⟩
section
variable {P:Program} {T:Ty} {cx:Cx} {ρ:Pl} {s:S} {a:Act} {w:World} {o:Oper} {next:Act→World→Prop} {Q:Exit→Act→World→Prop} {K:KK}
theorem q6N {k:TypeId} {d:TypeDesc} {kv:Value} {b:Bool} (hu:P.underlying k=some d) (h:plK (q1s d) kv=true):(Instr.checkKey b 10000 k kv).run P w = .ok () w:=by
 show(Instr.checkKey b (9999+1) k kv).run P w = .ok () w
 unfold Instr.checkKey
 rw[Sem.run_bind,run_underlying hu,Result.andThen_ok]
 rcases q23 h with ⟨kk,n,h1,rfl⟩|⟨b,h1,rfl⟩|⟨b,h1,rfl⟩
 ·have:=q2a h1;subst this;rfl
 ·have:=Js h1;subst this;rfl
 ·have:=q5t h1;subst this;rfl
theorem q3y {k:TypeId} {d:TypeDesc} {kv:Value} {mes:List MapEntry} {r:Option (Nat×Value)} (hu:P.underlying k=some d) (h:Instr.findNow d kv mes 0=some r):(Instr.findKey k kv mes).run P w = .ok r w:=by
 unfold Instr.findKey
 rw[Sem.run_bind,run_underlying hu,Result.andThen_ok]
 simp only[h]
 rfl
theorem HO.keys {L:Nat→Prop} {b:Nat} {es:List (Value×R×Nat)} {ck:Nat} (h:HO w L ρ b (.mp es ck)):∃mes:Array MapEntry,w.heap[b]?=some (.map mes ck)∧mes.size=es.length∧mes.toList.map (·.key)=es.map (·.1)∧
  ∀(j:Nat) (e:Value×R×Nat),es[j]?=some e→∃m:MapEntry,mes[j]?=some m∧mes.toList[j]?=some m∧m.key=e.1∧RR w L ρ m.val e.2.1∧m.born=e.2.2:=by
 obtain⟨mes,h1,h2,h3⟩:=h
 have hm:∀(j:Nat) (e:Value×R×Nat),es[j]?=some e→∃m:MapEntry,mes[j]?=some m∧mes.toList[j]?=some m∧m.key=e.1∧RR w L ρ m.val e.2.1∧m.born=e.2.2:=fun j e hj=>by
  have hl:j<mes.size:=by rw[h2];exact(qvZ.1 hj).1
  have hg:mes.getD j default=mes[j]:=by simp[qw1,hl]
  have:=h3 j e hj
  rw[hg] at this
  exact⟨mes[j],by simp[hl],by simp[hl],this⟩
 refine⟨mes,h1,h2,?_,hm⟩
 apply List.ext_getElem?
 intro j
 rw[qw9,qw9]
 rcases Nat.lt_or_ge j es.length with hj|hj
 ·obtain⟨m,-,g1,g2,-⟩:=hm j _ (qvX hj)
  rw[g1,qvX hj]
  simp only[Option.map_some,g2]
 ·rw[qwt hj,qwt (by simp;omega)];rfl
theorem HO.of {L:Nat→Prop} {b:Nat} {es:List (Value×R×Nat)} {ck:Nat} {mes:Array MapEntry} (h1:w.heap[b]?=some (.map mes ck)) (h2:mes.size=es.length)
  (h3:∀(j:Nat) (e:Value×R×Nat),es[j]?=some e→∃m:MapEntry,mes[j]?=some m∧m.key=e.1∧RR w L ρ m.val e.2.1∧m.born=e.2.2):HO w L ρ b (.mp es ck):=
 ⟨mes,h1,h2,fun j e hj=>by
  obtain⟨m,g1,g2⟩:=h3 j e hj
  have:mes.getD j default=m:=by rw[qw1,g1];rfl
  rw[this];exact g2⟩
theorem q1F (h:Sim cx ρ s a w) {id b cap:Nat} (hi:s.live id) (hρ:ρ id=some (b,cap)) {x:B} (hx:x.live=true) {w':World} (hsz:w.heap.size≤w'.heap.size) (hk:∀k,k≠b→w'.heap[k]?=w.heap[k]?):q2s w s.live ρ w' (s.up [(id,x)]).live ρ:=by
 have hl:∀i,(s.up [(id,x)]).live i↔s.live i:=fun i=>by
  unfold S.live
  rw[S.blk_up]
  by_cases hn:id=i
  ·subst hn;rw[if_pos rfl];exact⟨fun _=>hi,fun _=>hx⟩
  ·rw[if_neg hn]
 refine⟨hsz,fun k _ hO=>hk k (fun e=>hO (.inr ⟨id,cap,hi,by rw[e];exact hρ⟩)),fun k hk' hO=>?_,fun i hi'=>⟨(hl i).2 hi',rfl⟩,fun k hF=>⟨hF,fun _=>hk k (fun e=>h.disj id b cap hi hρ (e ▸ hF))⟩⟩
 rcases hO with hF|⟨i,c,h1,h2⟩
 ·exact .inl hF
 ·exact .inr ⟨i,c,(hl i).1 h1,h2⟩
theorem Sim.overO (h:Sim cx ρ s a w) {id b cap:Nat} (hi:s.live id) (hρ:ρ id=some (b,cap)) {o:AO} {O:Obj}
  (hO:q2s w s.live ρ (w.putObj b O) (s.up [(id,.ob o)]).live ρ→(w.putObj b O).heap[b]?=some O→HO (w.putObj b O) (s.up [(id,.ob o)]).live ρ b o):Sim cx ρ (s.up [(id,.ob o)]) a (w.putObj b O):=by
 have hb:=(h.hp id b cap hi hρ).1
 have hk:∀k,k≠b→(w.putObj b O).heap[k]?=w.heap[k]?:=fun k hk=>World.putObj_heap_other hk
 exact(h.over (x := .ob o) hi hρ rfl (fun _=>rfl) (by simp) hk rfl rfl rfl (hO (q1F h hi hρ rfl (by simp) hk) (World.putObj_heap_same hb)) (fun j y d n c hj=>by simp[B.cells] at hj)).1
def isC:Obj→Bool
 | .cells _ _ _=>true
 | _=>false
theorem JW {b:Nat} {O O':Obj} (h:w.heap[b]?=some O) (hO:isC O=false):(setObj b O').run P w = .ok () (w.putObj b O'):=by
 cases O with
 | cells c e f=>cases hO
 | _=>simp[setObj,Sem.run,h,World.putObj]
theorem Qr {b:Nat} {O:Obj} (h:w.heap[b]?=some O) (hO:isC O=false):(getObj b).run P w = .ok O w:=by
 cases O with
 | cells c e f=>cases hO
 | _=>simp[getObj,Sem.run,h]
theorem qd0 (hA:Ag P T) {L:Nat→Prop} {e:TypeId} {r:R} (h:zR T e=some r):∃v,(zeroValue e).run P w = .ok v w∧RR w L ρ v r:=by
 have hk:T.k e ≠ .other:=fun hk=>by unfold zR at h;rw[hk] at h;cases h
 obtain⟨d,i,z,ht⟩:=hA.at_ hk
 obtain⟨h1,h2⟩:=q1p (w:=w) (L:=L) (ρ:=ρ) ht.zs
 refine⟨z,by simp[zeroValue,typeInfo,ht.info,ht.zero],?_⟩
 have hag:∀{x},(T.k e).ag=true→some (R.agg (T.zero e))=some x→RR w L ρ z x:=fun h0 hx=>by
  injection hx with hx
  subst hx
  have hz:=ht.zk
  cases z with
  | agg cs=>exact .agg cs _ (by simpa [Value.cells] using h1) (fun j c hj=>by have:=h2 j c hj;simpa [Value.cells,qw1,List.getD] using this)
  | _=>simp[zok,h0] at hz
 have hone:∀{c},(T.k e).ag=false→T.zero e=[c]→RR w L ρ z (.c c):=fun h0 hc=>by
  have hz:=ht.zk
  have h3:=h2 0 _ (by rw[hc];rfl)
  cases z with
  | agg cs=>simp[zok,h0] at hz
  | _=>exact .c _ _ (by simpa [Value.cells] using h3)
 unfold zR at h
 split at h
 ·cases h
 ·rename_i hk';exact hag (by rw[hk'];rfl) h
 ·rename_i hk';exact hag (by rw[hk'];rfl) h
 ·rename_i e' hz' hk'
  injection h with h
  subst h
  have hn:=hone (by rw[hz'];rfl) hk'
  rw[hn.inv_nils]
  exact .c _ _ (.d _ _ (.nil none 0 _ (qwl _) (fun _=>rfl)))
 ·rename_i c h6 h3 h4 h5 h7
  injection h with h
  subst h
  refine hone ?_ h6
  cases hke:T.k e<;>first|rfl|(exfalso;simp_all)
 ·cases h
theorem q9V (hA:Ag P T) {t:TypeId} {r:Option Operand} {p:Nat} (hp:¬ s.live p) (ho:o.op = .makeMap t r) (hs:Sim cx ρ s a w) (h:XO (JU T s p t r) K) (hn:Qn cx K o a next):o.wp P a w next Q:=by
 have he:execOp a.eval o=(do pure (.value (←Instr.makeMap t (r.map a.eval)))):=by unfold execOp;simp only[ho]
 obtain⟨x,s',h1,h2⟩:=h
 have hnew:Sim cx (ρ.set p w.heap.size 0) (s.up [(p,.ob (.mp [] 0))]) a (w.alloc (.map #[] 0)):=hs.new hp (show HO _ _ _ _ (.mp [] 0) from ⟨#[],heap_alloc_new w _,rfl,fun j e hj=>by simp at hj⟩)
 have hv:RR (w.alloc (.map #[] 0)) (s.up [(p,.ob (.mp [] 0))]).live (ρ.set p w.heap.size 0) (.map (some w.heap.size)) (.c (.hd .map p)) := .c _ _ (.hd .map p w.heap.size 0 (by unfold S.live;rw[S.blk_up,if_pos rfl];rfl) (if_pos rfl))
 cases r with
 | none=>
  injection h1 with h1
  injection h1 with h3 h4
  subst h3 h4
  refine qE he ?_ (hn _ _ _ _ _ h2 hnew hv)
  simp[Instr.makeMap,newObj,Sem.run]
 | some y=>
  simp only[JU] at h1
  split at h1
  ·rename_i kt e k n hk hy
   injection h1 with h1
   injection h1 with h3 h4
   subst h3 h4
   obtain⟨d,i,z,ht⟩:=hA.at_ (t:=t) (by rw[hk];simp)
   have hd:∃kt e,d = .map kt e:=by have:=ht.kd.trans hk;cases d<;>simp[q1s] at this;exact⟨_,_,rfl⟩
   obtain⟨kt',e',rfl⟩:=hd
   have hyv:=hs.ev y
   rw[hy] at hyv
   refine qE he ?_ (hn _ _ _ _ _ h2 hnew hv)
   simp[Instr.makeMap,run_underlying ht.ud,hyv.inv_int,asInt,asIntOf,newObj,Sem.run]
  ·cases h1
theorem q0H (hA:Ag P T) {t kt e:TypeId} (hk:T.k t = .mp kt e):P.underlying t=some (.map kt e):=by
 obtain⟨d,i,z,ht⟩:=hA.at_ (t:=t) (by rw[hk];simp)
 have hd:d = .map kt e:=by have:=ht.kd.trans hk;cases d<;>simp[q1s] at this;rw[this.1,this.2]
 rw[←hd];exact ht.ud
theorem qgM (hA:Ag P T) {k:TypeId} {kv:Value} (h:plK (T.k k) kv=true):∃d,P.underlying k=some d∧q1s d=T.k k:=by
 obtain⟨d,i,z,ht⟩:=hA.at_ (t:=k) (by intro hk;rw[hk] at h;cases kv<;>cases h)
 exact⟨d,ht.ud,ht.kd⟩
theorem q5W (hA:Ag P T) {k:TypeId} {kv:Value} {es:List (Value×R×Nat)} {mes:List MapEntry} (h1:plK (T.k k) kv=true) (h2:es.all (fun q=>plK (T.k k) q.1)=true) (hm:mes.map (·.key)=es.map (·.1)) :
  (fnd kv es 0=none→(Instr.findKey k kv mes).run P w = .ok none w)∧∀q,fnd kv es 0=some q→∃m,es[q.1]?=some (kv,q.2)∧mes[q.1]?=some m∧(Instr.findKey k kv mes).run P w = .ok (some (q.1,m.val)) w:=by
 obtain⟨d,hu,hd⟩:=qgM hA h1
 rw[←hd] at h1 h2
 obtain⟨g1,g2⟩:=q3u h1 es mes 0 hm h2
 refine⟨fun h=>q3y hu (g1 h),fun q h=>?_⟩
 obtain⟨m,-,q1,q2,q3⟩:=g2 q h
 exact⟨m,by simpa using q1,by simpa using q2,q3y hu q3⟩
theorem q3S (hA:Ag P T) {k:TypeId} {kv:Value} {b:Bool} (h1:plK (T.k k) kv=true):(Instr.checkKey b 10000 k kv).run P w = .ok () w:=by
 obtain⟨d,hu,hd⟩:=qgM hA h1
 exact q6N hu (hd ▸ h1)
theorem q8v (hs:Sim cx ρ s a w) {x:Operand} {es:List (Value×R×Nat)} (h:q2b s x=some es) :
  (a.eval x = .map none∧es=[])∨∃(b ck:Nat) (mes:Array MapEntry),a.eval x = .map (some b)∧w.heap[b]?=some (.map mes ck)∧mes.size=es.length∧mes.toList.map (·.key)=es.map (·.1)∧
   ∀(j:Nat) (e:Value×R×Nat),es[j]?=some e→∃m:MapEntry,mes[j]?=some m∧mes.toList[j]?=some m∧m.key=e.1∧RR w s.live ρ m.val e.2.1∧m.born=e.2.2:=by
 have hx:=hs.ev x
 unfold q2b at h
 split at h
 ·rename_i hxe
  rw[hxe] at hx
  injection h with h
  exact .inl ⟨hx.inv_nilm,h.symm⟩
 ·rename_i id hxe
  rw[hxe] at hx
  obtain⟨b,cap,h1,h2,h3⟩:=hx.inv_hd
  split at h
  ·rename_i es' ck hb
   injection h with h
   subst h
   have hB:=(hs.hp id b cap h1 h2).2
   rw[hb] at hB
   obtain⟨mes,g1,g2,g3,g4⟩:=HO.keys hB
   exact .inr ⟨b,ck,mes,h3,g1,g2,g3,g4⟩
  ·cases h
 ·cases h
theorem qbV (hA:Ag P T) {t:TypeId} {x y:Operand} {ok:Bool} {r:R} (ho:o.op = .lookup t x y ok) (hs:Sim cx ρ s a w) (h:JN T s t x y ok=some r) (hK:K r s) (hn:Qn cx K o a next):o.wp P a w next Q:=by
 have he:execOp a.eval o=(do pure (.value (←Instr.lookup t (a.eval x) (a.eval y) ok))):=by unfold execOp;simp only[ho]
 unfold JN at h
 split at h
 ·rename_i k e es kv hk hm hkey
  split at h
  ·rename_i hc
   obtain⟨z,hz,h⟩:=qw0.1 h
   have hkv:=R.key_eq (hs.ev y) hkey
   obtain⟨zv,hz1,hz2⟩:=qd0 (P:=P) (w:=w) (L:=s.live) (ρ:=ρ) hA hz
   have htt:∀{v r b},RR w s.live ρ v r→RR w s.live ρ (if ok=true then .tuple #[v,.bool b] else v) (tt2 r ok b):=fun {v r b} hv=>by
    cases ok with
    | false=>exact hv
    | true=>
     refine .tup _ _ rfl (fun j c hj=>?_)
     match j,hj with
     | 0,hj=>simp only[qw5,qwK] at hj;subst hj;exact hv
     | 1,hj=>simp only[qwk,qw5,qwK] at hj;subst hj;exact .c _ _ (.d _ _ (.bool _))
     | j+2,hj=>simp at hj
   have hrun:∃v,(Instr.lookup t (a.eval x) (a.eval y) ok).run P w = .ok v w∧RR w s.live ρ v r:=by
    unfold Instr.lookup
    rw[hkv]
    rcases q8v hs hm with ⟨h1,h2⟩|⟨b,ck,mes,h1,h2,h3,h4,h5⟩
    ·subst h2
     injection h with h
     subst h
     refine⟨_,?_,htt hz2⟩
     have hf:=(q5W (P:=P) (w:=w) hA (mes:=[]) hc.1 hc.2 rfl).1 rfl
     simp only[Sem.run_bind,run_underlying (q0H hA hk),Result.andThen_ok,h1,Sem.run_pure,q3S hA hc.1,hf,hz1]
    ·obtain⟨f1,f2⟩:=q5W (P:=P) (w:=w) hA hc.1 hc.2 h4
     cases hf:fnd kv es 0 with
     | none=>
      rw[hf] at h
      injection h with h
      subst h
      refine⟨_,?_,htt hz2⟩
      simp only[Sem.run_bind,run_underlying (q0H hA hk),Result.andThen_ok,h1,Qr h2 rfl,Sem.run_pure,q3S hA hc.1,f1 hf,hz1]
     | some q=>
      rw[hf] at h
      injection h with h
      subst h
      obtain⟨m,g1,g2,g3⟩:=f2 q hf
      obtain⟨m',q1,q2,-,q4,-⟩:=h5 _ _ g1
      rw[q2] at g2
      injection g2 with g2
      subst g2
      refine⟨_,?_,htt q4⟩
      simp only[Sem.run_bind,run_underlying (q0H hA hk),Result.andThen_ok,h1,Qr h2 rfl,Sem.run_pure,q3S hA hc.1,g3]
   obtain⟨v,h1,h2⟩:=hrun
   exact qE he h1 (hn _ _ ρ _ _ hK hs h2)
  ·cases h
 ·cases h
theorem qdK (hA:Ag P T) {t:TypeId} {x:Operand} {r:R} {ts:Array TypeId} (ho:o.op = .call { callee := .builtin .len,args:=#[x],argTypes:=ts }) (hts:ts=#[t]) (hs:Sim cx ρ s a w) (h:q2A T s t x=some r) (hK:K r s) (hn:Qn cx K o a next):o.wp P a w next Q:=by
 subst hts
 unfold q2A at h
 split at h
 ·rename_i kt e es hk hm
  injection h with h
  subst h
  rcases q8v hs hm with ⟨h1,h2⟩|⟨b,ck,mes,h1,h2,h3,-⟩
  ·subst h2
   refine q1i ho ?_ (hn _ _ ρ _ _ hK hs (.c _ _ (.d _ _ (.int _ _))))
   rw[h1]
   simp[Builtin.len_,run_underlying (q0H hA hk),goInt]
  ·refine q1i ho ?_ (hn _ _ ρ _ _ hK hs (.c _ _ (.d _ _ (.int _ _))))
   rw[h1,←h3]
   simp[Builtin.len_,run_underlying (q0H hA hk),goInt,Qr h2 rfl]
 ·cases h
theorem q4s (n:Int):∀(es:List (Value×R×Nat)) (mes:List MapEntry) (i:Nat),mes.map (·.born)=es.map (·.2.2)→(mes.findIdx? fun e=>(e.born:Int)==n).map (·+i)=fnb n es i
 | [],mes,i,hm=>by
  have:mes=[]:=by simpa using hm
  subst this
  rfl
 | e::es,mes,i,hm=>by
  cases mes with
  | nil=>cases hm
  | cons m ms=>
   simp only[qwi,List.cons.injEq] at hm
   have ih:=q4s n es ms (i+1) hm.2
   unfold fnb
   rw[List.findIdx?_cons,hm.1]
   by_cases hn:(e.2.2:Int)=n
   ·simp[hn]
   ·rw[if_neg hn,←ih]
    simp only[beq_iff_eq,hn,if_false,Option.map_map]
    congr 1
    funext k
    simp;omega
theorem qh6 (hs:Sim cx ρ s a w) {m:Operand} {id:Nat} (hm:s.ev m = .c (.hd .map id)) {es:List (Value×R×Nat)} {ck:Nat} (hb:s.blk id = .ob (.mp es ck)) :
  ∃(b cap:Nat) (mes:Array MapEntry),s.live id∧ρ id=some (b,cap)∧a.eval m = .map (some b)∧w.heap[b]?=some (.map mes ck)∧mes.size=es.length∧mes.toList.map (·.key)=es.map (·.1)∧
   ∀(j:Nat) (e:Value×R×Nat),es[j]?=some e→∃m:MapEntry,mes[j]?=some m∧mes.toList[j]?=some m∧m.key=e.1∧RR w s.live ρ m.val e.2.1∧m.born=e.2.2:=by
 have hx:=hs.ev m
 rw[hm] at hx
 obtain⟨b,cap,h1,h2,h3⟩:=hx.inv_hd
 have hB:=(hs.hp id b cap h1 h2).2
 rw[hb] at hB
 obtain⟨mes,g1,g2,g3,g4⟩:=HO.keys hB
 exact⟨b,cap,mes,h1,h2,h3,g1,g2,g3,g4⟩
theorem q5k (hs:Sim cx ρ s a w) {id b cap ck i:Nat} {es:List (Value×R×Nat)} {mes:Array MapEntry} (h1:s.live id) (h2:ρ id=some (b,cap)) (g2:mes.size=es.length)
  (g4:∀(j:Nat) (e:Value×R×Nat),es[j]?=some e→∃m:MapEntry,mes[j]?=some m∧mes.toList[j]?=some m∧m.key=e.1∧RR w s.live ρ m.val e.2.1∧m.born=e.2.2)
  {e':Value×R×Nat} {f:MapEntry→MapEntry} (hf:∀m,mes[i]?=some m→(f m).key=e'.1∧RR w s.live ρ (f m).val e'.2.1∧(f m).born=e'.2.2) :
  Sim cx ρ (s.up [(id,.ob (.mp (es.set i e') ck))]) a (w.putObj b (.map (mes.modify i f) ck)):=by
 refine hs.overO h1 h2 (fun hst hO=>HO.of hO (by simpa using g2) (fun j e hj=>?_))
 have hj':j<es.length:=by have:=(qvZ.1 hj).1;simpa using this
 obtain⟨m,q1,-,q3,q4,q5⟩:=g4 j _ (qvX hj')
 by_cases hij:i=j
 ·subst hij
  rw[qwS hj'] at hj
  injection hj with hj
  subst hj
  obtain⟨r1,r2,r3⟩:=hf m q1
  exact⟨f m,by rw[Array.getElem?_modify,if_pos rfl,q1];rfl,r1,r2.stay hst,r3⟩
 ·rw[qwT hij,qvX hj'] at hj
  injection hj with hj
  subst hj
  exact⟨m,by rw[Array.getElem?_modify,if_neg hij,q1],q3,q4.stay hst,q5⟩
theorem q6v (hs:Sim cx ρ s a w) {id b cap ck:Nat} {es:List (Value×R×Nat)} {mes:Array MapEntry} (h1:s.live id) (h2:ρ id=some (b,cap)) (g2:mes.size=es.length)
  (g4:∀(j:Nat) (e:Value×R×Nat),es[j]?=some e→∃m:MapEntry,mes[j]?=some m∧mes.toList[j]?=some m∧m.key=e.1∧RR w s.live ρ m.val e.2.1∧m.born=e.2.2)
  {kv:Value} {r:R} {v:Value} (hr:RR w s.live ρ v r) :
  Sim cx ρ (s.up [(id,.ob (.mp (es++[(kv,r,ck)]) (ck+1)))]) a (w.putObj b (.map (mes.push ⟨kv,v,ck⟩) (ck+1))):=by
 refine hs.overO h1 h2 (fun hst hO=>HO.of hO (by simp[g2]) (fun j e hj=>?_))
 by_cases hj':j<es.length
 ·rw[qwy hj'] at hj
  obtain⟨m,q1,-,q3,q4,q5⟩:=g4 j e hj
  exact⟨m,by rw[Array.getElem?_push,if_neg (by omega)];exact q1,q3,q4.stay hst,q5⟩
 ·have hlt:=(qvZ.1 hj).1
  simp only[qw2,qw6,qwE] at hlt
  have:j=es.length:=by omega
  subst this
  rw[qwx (qwb _),Nat.sub_self] at hj
  simp only[qw5,qwK] at hj
  subst hj
  exact⟨⟨kv,v,ck⟩,by rw[Array.getElem?_push,if_pos g2.symm],rfl,hr.stay hst,rfl⟩
theorem q6Q {d:Kd} {k:Value} (h:plK d k=true):(Instr.keyThatStays k k).run P w = .ok k w:=by
 unfold Instr.keyThatStays
 rw[q7a h];rfl
theorem q6k (hA:Ag P T) {t:TypeId} {m k x:Operand} (ho:o.op = .mapUpdate t m k x∨o.op = .insert t m k x) (hs:Sim cx ρ s a w) (h:XO (q0l T s t m k x) K) (hn:Qn cx K o a next):o.wp P a w next Q:=by
 have he:execOp a.eval o=(do Instr.mapUpdate t (a.eval m) (a.eval k) (a.eval x);pure .skip):=by unfold execOp;rcases ho with ho|ho<;>simp only[ho]
 obtain⟨r,s',h,hK⟩:=h
 unfold q0l at h
 split at h
 ·rename_i kt e id kv hk hm hkey
  split at h
  ·rename_i es ck hb
   split at h
   ·rename_i hc
    have hkv:=R.key_eq (hs.ev k) hkey
    obtain⟨b,cap,mes,h1,h2,h3,g1,g2,g3,g4⟩:=qh6 hs hm hb
    obtain⟨f1,f2⟩:=q5W (P:=P) (w:=w) hA hc.1 hc.2 g3
    have hrun:∃w',(Instr.mapUpdate t (a.eval m) (a.eval k) (a.eval x)).run P w = .ok () w'∧Sim cx ρ s' a w'∧r = .any:=by
     unfold Instr.mapUpdate
     rw[hkv]
     cases hf:fnd kv es 0 with
     | none=>
      rw[hf] at h
      obtain⟨rfl,rfl⟩:R.any=r∧_=s':=by injection h with h;injection h with h5 h6;exact⟨h5,h6⟩
      refine⟨_,?_,q6v hs h1 h2 g2 g4 (kv:=kv) (hs.ev x),rfl⟩
      simp only[Sem.run_bind,run_underlying (q0H hA hk),Result.andThen_ok,h3,Qr g1 rfl,q3S hA hc.1,f1 hf,JW g1 rfl]
     | some q=>
      rw[hf] at h
      obtain⟨rfl,rfl⟩:R.any=r∧_=s':=by injection h with h;injection h with h5 h6;exact⟨h5,h6⟩
      obtain⟨m0,q1,q2,q3⟩:=f2 q hf
      obtain⟨m1,p1,p2,p3,p4,p5⟩:=g4 _ _ q1
      rw[p2] at q2
      injection q2 with q2
      subst q2
      refine⟨_,?_,q5k hs h1 h2 g2 g4 (i:=q.1) (e':=(kv,s.ev x,q.2.2)) (f:=fun e=>{ e with key:=kv,val:=a.eval x }) (fun m' hm'=>by rw[p1] at hm';injection hm' with hm';subst hm';exact⟨rfl,hs.ev x,p5⟩),rfl⟩
      simp only[Sem.run_bind,run_underlying (q0H hA hk),Result.andThen_ok,h3,Qr g1 rfl,q3S hA hc.1,q3,p1,Option.map_some,Option.getD_some,p3,q6Q hc.1,JW g1 rfl]
    obtain⟨w',r1,r2,rfl⟩:=hrun
    exact q7T he r1 (hn _ _ ρ _ _ hK r2 (.any _))
   ·cases h
  ·cases h
 ·cases h
theorem qt6 {L:Nat→Prop} {v u:Value} {r q:R} (h:RR w L ρ v r) (h':RR w L ρ u q):RR w L ρ (.tuple #[v,u]) (.tup [r,q]):=by
 refine .tup _ _ rfl (fun j c hj=>?_)
 match j,hj with
 | 0,hj=>simp only[qw5,qwK] at hj;subst hj;exact h
 | 1,hj=>simp only[qwk,qw5,qwK] at hj;subst hj;exact h'
 | j+2,hj=>simp at hj
theorem qb5 (hA:Ag P T) {t:TypeId} {m k:Operand} (ho:o.op = .mapEntry t m k) (hs:Sim cx ρ s a w) (h:XO (q5T T s t m k) K) (hn:Qn cx K o a next):o.wp P a w next Q:=by
 have he:execOp a.eval o=(do pure (.value (←Instr.mapEntry t (a.eval m) (a.eval k)))):=by unfold execOp;simp only[ho]
 obtain⟨r,s',h,hK⟩:=h
 unfold q5T at h
 split at h
 ·rename_i kt e id kv hk hm hkey
  split at h
  ·rename_i es ck hb
   split at h
   ·rename_i hc
    have hkv:=R.key_eq (hs.ev k) hkey
    obtain⟨z,hz,h⟩:=qw0.1 h
    obtain⟨zv,hz1,hz2⟩:=qd0 (P:=P) (w:=w) (L:=s.live) (ρ:=ρ) hA hz
    obtain⟨b,cap,mes,h1,h2,h3,g1,g2,g3,g4⟩:=qh6 hs hm hb
    obtain⟨f1,f2⟩:=q5W (P:=P) (w:=w) hA hc.1 hc.2 g3
    have hst:∀(o:AO) (O:Obj),q2s w s.live ρ (w.putObj b O) (s.up [(id,.ob o)]).live ρ:=fun o O=>q1F hs h1 h2 rfl (by simp) (fun k hk=>World.putObj_heap_other hk)
    have hrun:∃v w',(Instr.mapEntry t (a.eval m) (a.eval k)).run P w = .ok v w'∧Sim cx ρ s' a w'∧RR w' s'.live ρ v r:=by
     unfold Instr.mapEntry
     rw[hkv]
     cases hf:fnd kv es 0 with
     | none=>
      rw[hf] at h
      obtain⟨rfl,rfl⟩:R.tup [z,.c (.d (.int .i64 ck))]=r∧_=s':=by injection h with h;injection h with h5 h6;exact⟨h5,h6⟩
      refine⟨_,_,?_,q6v hs h1 h2 g2 g4 (kv:=kv) hz2,qt6 (hz2.stay (hst _ _)) (.c _ _ (.d _ _ (.int _ _)))⟩
      simp only[Sem.run_bind,run_underlying (q0H hA hk),Result.andThen_ok,h3,Qr g1 rfl,q3S hA hc.1,f1 hf,JW g1 rfl,hz1,Sem.run_pure,goInt]
     | some q=>
      rw[hf] at h
      obtain⟨rfl,rfl⟩:R.tup [q.2.1,.c (.d (.int .i64 q.2.2))]=r∧_=s':=by injection h with h;injection h with h5 h6;exact⟨h5,h6⟩
      obtain⟨m0,q1,q2,q3⟩:=f2 q hf
      obtain⟨m1,p1,p2,p3,p4,p5⟩:=g4 _ _ q1
      rw[p2] at q2
      injection q2 with q2
      subst q2
      refine⟨_,_,?_,q5k hs h1 h2 g2 g4 (i:=q.1) (e':=(kv,q.2)) (f:=fun e=>{ e with key:=kv }) (fun m' hm'=>by rw[p1] at hm';injection hm' with hm';subst hm';exact⟨rfl,p4,p5⟩),qt6 (p4.stay (hst _ _)) (.c _ _ (.d _ _ (.int _ _)))⟩
      simp only[Sem.run_bind,run_underlying (q0H hA hk),Result.andThen_ok,h3,Qr g1 rfl,q3S hA hc.1,q3,p1,Option.map_some,Option.getD_some,p3,p5,q6Q hc.1,JW g1 rfl,Sem.run_pure,goInt]
    obtain⟨v,w',r1,r2,r3⟩:=hrun
    exact qE he r1 (hn _ _ ρ _ _ hK r2 r3)
   ·cases h
  ·cases h
 ·cases h
theorem qeZ (hA:Ag P T) {t:TypeId} {x:Operand} {p:Nat} (hp:¬ s.live p) (ho:o.op = .range t x) (hs:Sim cx ρ s a w) (h:XO (q2N T s p t x) K) (hn:Qn cx K o a next):o.wp P a w next Q:=by
 have he:execOp a.eval o=(do pure (.value (←Instr.range t (a.eval x)))):=by unfold execOp;simp only[ho]
 obtain⟨r,s',h,hK⟩:=h
 unfold q2N at h
 split at h
 ·rename_i b hk hx
  obtain⟨rfl,rfl⟩:R.c (.hd .iter p)=r∧_=s':=by injection h with h;injection h with h5 h6;exact⟨h5,h6⟩
  have hxv:=hs.ev x
  rw[hx] at hxv
  obtain⟨d,i,z,ht⟩:=hA.at_ (t:=t) (by rw[hk];simp)
  have hd:=Js (ht.kd.trans hk)
  subst hd
  have hnew:Sim cx (ρ.set p w.heap.size 0) (s.up [(p,.ob (.si b 0))]) a (w.alloc (.stringIter b 0)):=hs.new hp (x := .ob (.si b 0)) (heap_alloc_new w _)
  refine qE he ?_ (hn _ _ _ _ _ hK hnew (.c _ _ (.hd .iter p w.heap.size 0 (by unfold S.live;rw[S.blk_up,if_pos rfl];rfl) (if_pos rfl))))
  rw[hxv.inv_str]
  simp[Instr.range,run_underlying ht.ud,newObj,Sem.run,HK.val]
 ·rename_i kt et hk hx
  obtain⟨rfl,rfl⟩:R.c (.hd .iter p)=r∧_=s':=by injection h with h;injection h with h5 h6;exact⟨h5,h6⟩
  have hxv:=hs.ev x
  rw[hx] at hxv
  have hst:=JV (w:=w) (ρ:=ρ) (s:=s) (x := .ob (.mi (.c .nilm) 0 [])) hp (.mapIter none 0 #[] 0) 0
  have hnew:Sim cx (ρ.set p w.heap.size 0) (s.up [(p,.ob (.mi (.c .nilm) 0 []))]) a (w.alloc (.mapIter none 0 #[] 0)):=hs.new hp (x := .ob (.mi (.c .nilm) 0 [])) ⟨none,.c _ _ .nilm,heap_alloc_new w _⟩
  refine qE he ?_ (hn _ _ _ _ _ hK hnew (.c _ _ (.hd .iter p w.heap.size 0 (by unfold S.live;rw[S.blk_up,if_pos rfl];rfl) (if_pos rfl))))
  rw[hxv.inv_nilm]
  rw[run_range_nilMap w t _ _ (q0H hA hk)]
  rfl
 ·rename_i kt et id hk hx
  split at h
  ·rename_i es ck hb
   obtain⟨rfl,rfl⟩:R.c (.hd .iter p)=r∧_=s':=by injection h with h;injection h with h5 h6;exact⟨h5,h6⟩
   have hxv:=hs.ev x
   rw[hx] at hxv
   obtain⟨b,cap,h1,h2,h3⟩:=hxv.inv_hd
   have hB:=(hs.hp id b cap h1 h2).2
   rw[hb] at hB
   obtain⟨mes,g1,-⟩:HO w s.live ρ b (.mp es ck):=hB
   have hst:=JV (w:=w) (ρ:=ρ) (s:=s) (x := .ob (.mi (.c (.hd .map id)) ck [])) hp (.mapIter (some b) ck #[] ck) 0
   have hnew:Sim cx (ρ.set p w.heap.size 0) (s.up [(p,.ob (.mi (.c (.hd .map id)) ck []))]) a (w.alloc (.mapIter (some b) ck #[] ck)):=hs.new hp (x := .ob (.mi (.c (.hd .map id)) ck [])) ⟨some b,(RR.c _ _ (.hd .map id b cap h1 h2):RR w s.live ρ (.map (some b)) _).stay hst,heap_alloc_new w _⟩
   refine qE he ?_ (hn _ _ _ _ _ hK hnew (.c _ _ (.hd .iter p w.heap.size 0 (by unfold S.live;rw[S.blk_up,if_pos rfl];rfl) (if_pos rfl))))
   rw[h3,show HK.val .map b=Value.map (some b) from rfl,run_range_map w t _ _ b mes ck (q0H hA hk) g1]
   rfl
  ·cases h
 ·cases h
theorem qfa {it:Operand} (hs:Sim cx ρ s a w) (h:XO (q2P s it) K):o.wp P a w next Q:=by
 obtain⟨r,s',h,hK⟩:=h
 unfold q2P at h
 split at h
 ·rename_i id hx
  have hno:∀e m c l,s.blk id ≠ .ob (.m1 e m c l):=fun e m c l hb=>by
   have hxv:=hs.ev it
   rw[hx] at hxv
   obtain⟨b,cap,h1,h2,h3⟩:=hxv.inv_hd
   have hB:=(hs.hp id b cap h1 h2).2
   rw[hb] at hB
   exact(show False from hB)
  split at h
  ·rename_i hb;exact absurd hb (hno _ _ _ _)
  ·rename_i hb;exact absurd hb (hno _ _ _ _)
  ·cases h
 ·cases h
theorem qkT {L:Nat→Prop} {ρ:Pl} (v:Value):RR w L ρ v (kR v):=by
 unfold kR
 split
 ·exact .c _ _ (.d _ _ (.int _ _))
 ·exact .c _ _ (.d _ _ (.bool _))
 ·exact .c _ _ (.d _ _ (.str _))
 ·exact .any _
theorem q9p {L:Nat→Prop} (x:Nat):∀(es:List (Value×R×Nat)) (mes:List MapEntry),mes.length=es.length→(∀(j:Nat) (e:Value×R×Nat),es[j]?=some e→∃m:MapEntry,mes[j]?=some m∧m.key=e.1∧RR w L ρ m.val e.2.1∧m.born=e.2.2)→∀e,es.find? (fun q=>q.2.2==x)=some e→∃m,mes.find? (·.born==x)=some m∧m.key=e.1∧RR w L ρ m.val e.2.1
 | [],_,_,_,e,h=>by cases h
 | e0::es,mes,hl,hm,e,h=>by
  cases mes with
  | nil=>cases hl
  | cons m ms=>
   obtain⟨m',h1,h2,h3,h4⟩:=hm 0 e0 rfl
   injection h1 with h1
   subst h1
   rw[List.find?_cons] at h ⊢
   rw[h4]
   cases hb:e0.2.2==x with
   | true=>
    rw[hb] at h
    injection h with h
    subst h
    exact⟨m,rfl,h2,h3⟩
   | false=>
    rw[hb] at h
    exact q9p x es ms (by simpa using hl) (fun j e hj=>hm (j+1) e (by simpa using hj)) e h
theorem qfM {it:Operand} (ho:o.op = .entry it) (hs:Sim cx ρ s a w) (h:XO (q8e s it) K) (hn:Qn cx K o a next):o.wp P a w next Q:=by
 have he:execOp a.eval o=(do pure (.value (←Instr.entry (a.eval it)))):=by unfold execOp;simp only[ho]
 obtain⟨r,s',h,hK⟩:=h
 unfold q8e at h
 split at h
 ·rename_i id hx
  split at h
  ·rename_i mid ck x l hb
   split at h
   ·rename_i es c hmb
    split at h
    ·rename_i hc
     subst hc
     obtain⟨r',h4,h5⟩:=qw8.1 h
     injection h5 with h5 h6
     subst h5 h6
     unfold qlW at h4
     obtain⟨e,h5,h6⟩:=qw0.1 h4
     injection h6 with h6
     subst h6
     have hxv:=hs.ev it
     rw[hx] at hxv
     obtain⟨b,cap,h1,h2,h3⟩:=hxv.inv_hd
     have hB:=(hs.hp id b cap h1 h2).2
     rw[hb] at hB
     obtain⟨mb,q1,q2⟩:HO w s.live ρ b (.mi (.c (.hd .map mid)) c (x::l)):=hB
     obtain⟨bm,capm,g1,g2,g3⟩:=q1.inv_hd
     obtain rfl:mb=some bm:=by have g3:Value.map mb=Value.map (some bm):=g3;injection g3
     have hMB:=(hs.hp mid bm capm g1 g2).2
     rw[hmb] at hMB
     obtain⟨mes,m1,m2,m3,m4⟩:=HO.keys (show HO w s.live ρ bm (.mp es c) from hMB)
     obtain⟨m0,f1,f2,f3⟩:=q9p x es mes.toList (by simpa using m2) (fun j e hj=>by obtain⟨m,-,p2,p3,p4,p5⟩:=m4 j e hj;exact⟨m,p2,p3,p4,p5⟩) e h5
     have hback:((x::l).reverse.toArray).back?=some x:=by simp
     refine qE he (w':=w) (v := .tuple #[m0.key,m0.val]) ?_ (hn _ _ ρ _ _ hK hs ?_)
     ·rw[h3]
      show(Instr.entry (.pointer (some ⟨b,0,none⟩))).run P w=_
      rw[Array.find?_toList] at f1
      simp only[Instr.entry,Sem.run_bind,Qr q2 rfl,Qr m1 rfl,Result.andThen,hback,bne_self_eq_false,Bool.false_eq_true,if_false,f1]
      rfl
     ·refine .tup _ _ rfl (fun j c hj=>?_)
      match j,hj with
      | 0,hj=>simp only[qw5,qwK] at hj;subst hj;show RR w _ ρ m0.key _;rw[f2];exact qkT _
      | 1,hj=>simp only[qwk,qw5,qwK] at hj;subst hj;exact f3
      | j+2,hj=>simp at hj
    ·cases h
   ·cases h
  ·cases h
 ·cases h
theorem qi9 {it:Operand} (ho:o.op = .next it true) (hs:Sim cx ρ s a w) (h:XO (qfJ s it) K) (hn:Qn cx K o a next):o.wp P a w next Q:=by
 have he:execOp a.eval o=(do pure (.value (←Instr.next (a.eval it) true o.type))):=by unfold execOp;simp only[ho]
 obtain⟨r,s',h,hK⟩:=h
 unfold qfJ at h
 split at h
 ·rename_i id hx
  split at h
  ·rename_i st pos hb
   have hxv:=hs.ev it
   rw[hx] at hxv
   obtain⟨b,cap,h1,h2,h3⟩:=hxv.inv_hd
   have hB:=(hs.hp id b cap h1 h2).2
   rw[hb] at hB
   have hB':w.heap[b]?=some (.stringIter st pos):=hB
   split at h
   ·rename_i hlt
    obtain⟨rfl,rfl⟩:R.tup _=r∧_=s':=by injection h with h;injection h with h5 h6;exact⟨h5,h6⟩
    refine qE he (w':=w.putObj b (.stringIter st (pos+(Utf8.decode st pos).2))) ?_ (hn _ _ ρ _ _ hK (hs.overO h1 h2 fun _ hO=>hO) ?_) (v := .tuple #[.bool true,goInt pos,.int .i32 (Utf8.decode st pos).1])
    ·rw[h3]
     simp[Instr.next,HK.val,Qr hB' rfl,hlt,JW hB' rfl]
    ·refine .tup _ _ rfl (fun j c hj=>?_)
     match j,hj with
     | 0,hj=>simp only[qw5,qwK] at hj;subst hj;exact .c _ _ (.d _ _ (.bool _))
     | 1,hj=>simp only[qwk,qw5,qwK] at hj;subst hj;exact .c _ _ (.d _ _ (.int _ _))
     | 2,hj=>simp only[qwk,qw5,qwK] at hj;subst hj;exact .c _ _ (.d _ _ (.int _ _))
     | j+3,hj=>simp at hj
   ·rename_i hlt
    obtain⟨rfl,rfl⟩:R.tup _=r∧_=s':=by injection h with h;injection h with h5 h6;exact⟨h5,h6⟩
    refine qE he (w':=w) ?_ (hn _ _ ρ _ _ hK hs ?_) (v := .tuple #[.bool false])
    ·rw[h3]
     simp[Instr.next,HK.val,Qr hB' rfl,hlt]
    ·refine .tup _ _ rfl (fun j c hj=>?_)
     match j,hj with
     | 0,hj=>simp only[qw5,qwK] at hj;subst hj;exact .c _ _ (.d _ _ (.bool _))
     | j+1,hj=>simp at hj
  ·cases h
 ·cases h
theorem qez {t:TypeId} {m st x:Operand} (ho:o.op = .entryStore t m st x) (hs:Sim cx ρ s a w) (h:XO (q8A s m st x) K) (hn:Qn cx K o a next):o.wp P a w next Q:=by
 have he:execOp a.eval o=(do Instr.entryStore t (a.eval m) (a.eval st) (a.eval x);pure .skip):=by unfold execOp;simp only[ho]
 obtain⟨r,s',h,hK⟩:=h
 unfold q8A at h
 split at h
 ·rename_i id kk n hm hst
  split at h
  ·rename_i es ck hb
   obtain⟨i,hi,h⟩:=qw0.1 h
   obtain⟨e,hei,h⟩:=qw0.1 h
   obtain⟨rfl,rfl⟩:R.any=r∧_=s':=by injection h with h;injection h with h5 h6;exact⟨h5,h6⟩
   obtain⟨b,cap,mes,h1,h2,h3,g1,g2,g3,g4⟩:=qh6 hs hm hb
   have hsv:=hs.ev st
   rw[hst] at hsv
   have hborn:mes.toList.map (·.born)=es.map (·.2.2):=by
    apply List.ext_getElem?
    intro j
    rw[qw9,qw9]
    rcases Nat.lt_or_ge j es.length with hj|hj
    ·obtain⟨m,-,q1,-,-,q2⟩:=g4 j _ (qvX hj)
     rw[q1,qvX hj]
     simp only[Option.map_some,q2]
    ·rw[qwt hj,qwt (by simp;omega)];rfl
   have hidx:mes.findIdx? (fun e=>(e.born:Int)==n)=some i:=by
    have:=q4s n es mes.toList 0 hborn
    rw[hi] at this
    simp only[Nat.add_zero,Option.map_id'] at this
    rw[←this]
    exact List.findIdx?_toArray _ mes.toList
   obtain⟨m1,p1,p2,p3,p4,p5⟩:=g4 _ _ hei
   refine q7T he ?_ (hn _ _ ρ _ _ hK (q5k hs h1 h2 g2 g4 (i:=i) (e':=(e.1,s.ev x,e.2.2)) (f:=fun e=>{ e with val:=a.eval x }) (fun m' hm'=>by rw[p1] at hm';injection hm' with hm';subst hm';exact⟨p3,hs.ev x,p5⟩)) (.any _))
   unfold Instr.entryStore
   simp only[h3,Sem.run_bind,Result.andThen_ok,Qr g1 rfl,hsv.inv_int,asInt,asIntOf,Sem.run_pure,hidx,JW g1 rfl]
  ·cases h
 ·cases h
def qb0 (T:Ty) (s:S) (t:TypeId) (x y:Operand):Option (R×S):=
 match T.k t,s.ev x,s.seq y with
 | .sl e,.c (.own id sz off n),some (m,ys)=>match s.blk id with
  | .row e' sz' cs=>
   if sz=T.sz e∧sz'=sz∧T.k e ≠ .other∧ys.all C.known=true∧ys.length=m*sz∧off*sz+n*sz≤cs.length then
    some (.c (.d (.int .i64 ((min m n:Nat):Int))),s.up [(id,.row e' sz' (spl cs (off*sz) (ys.take (min m n*sz))))])
   else none
  | _=>none
 | .sl e,.c (.d (.sl _ 0 _)),some (m,ys)=>if T.k e ≠ .other∧ys.length=m*T.sz e then some (.c (.d (.int .i64 0)),s) else none
 | _,_,_=>none
theorem q5O {x y:Operand} {ts:Array TypeId} {w':World} {v:Value} (ho:o.op = .call { callee := .builtin .copy,args:=#[x,y],argTypes:=ts }) (hr:(Builtin.copy_ ts o.type #[a.eval x,a.eval y]).run P w = .ok v w') (h:next (a.put o.dst v) w'):o.wp P a w next Q:=by
 unfold Oper.wp execOp
 simp only[ho,resolve,invoke,builtin,Sem.run_bind,Sem.run_pure,Result.andThen_ok,List.map_toArray,qwi,List.map_nil,hr]
 exact h
theorem qhB (hA:Ag P T) {t:TypeId} {x y:Operand} {ts:Array TypeId} (ho:o.op = .call { callee := .builtin .copy,args:=#[x,y],argTypes:=ts }) (hts:ts[0]?=some t) (hs:Sim cx ρ s a w) (h:XO (qb0 T s t x y) K) (hn:Qn cx K o a next):o.wp P a w next Q:=by
 obtain⟨r,s',h,hK⟩:=h
 unfold qb0 at h
 split at h
 ·rename_i e id sz off n m ys hk hx hy
  split at h
  ·rename_i e' sz' cs hb
   split at h
   ·rename_i hc
    obtain⟨c1,c2,c3,c4,c5,c6⟩:=hc
    subst c2
    obtain⟨rfl,rfl⟩:R.c (.d (.int .i64 ((min m n:Nat):Int)))=r∧_=s':=by injection h with h;injection h with h5 h6;exact⟨h5,h6⟩
    obtain⟨d,i,z,ht⟩:=hA.at_ (t:=t) (by rw[hk];simp)
    obtain⟨d',i',z',ht'⟩:=hA.at_ c3
    have hd:=JK (ht.kd.trans hk)
    subst hd
    obtain⟨A,cap',s1,s2,s3,s4⟩:=q7u hs hy c5
    have hxv:=hs.ev x
    rw[hx] at hxv
    obtain⟨h1,h2⟩:=hxv.inv_own
    obtain⟨c,hcdef⟩:∃c,c=min m n:=⟨_,rfl⟩
    rw[←hcdef] at hK
    -- what is copied
    obtain⟨us,u1,u2,u3⟩:∃us:List Value,us.length=c*sz'∧(∀j x,(ys.take (c*sz'))[j]?=some x→RC w s.live ρ (us.getD j undef) x)∧(Builtin.firstCells sz' c (.slice A m cap')).run P w = .ok us.toArray w:=by
     by_cases hc0:c=0
     ·refine⟨[],by rw[hc0];simp,fun j x hj=>by rw[hc0] at hj;simp at hj,?_⟩
      rw[hc0]
      cases A with
      | none=>exact run_firstCells_none w _ _ _ _
      | some ad=>exact run_firstCells_some w sz' 0 ad m cap' [] (by simp) (fun j v hj=>by simp at hj)
     ·rcases s4 with s4|⟨b0,o0,s5,s6,s7⟩
      ·omega
      ·have hcm:c*sz'≤m*sz':=Nat.mul_le_mul_right _ (by omega)
       obtain⟨us,v1,v2⟩:=q1f (Pr:=fun j v x=>w.cell? ⟨b0,o0+j,none⟩=some v∧RC w s.live ρ v x) (ys.take (c*sz')) 0 (fun j x hj=>by
        have hj':j<c*sz':=by have:=(qvZ.1 hj).1;rw[qwo] at this;omega
        rw[qwu hj'] at hj
        rw[qwj];exact s7 j x hj)
       have hl:us.length=c*sz':=by rw[v1,qwo];omega
       refine⟨us,hl,fun j x hj=>by obtain⟨v,q1,-,q2⟩:=v2 j x hj;rw[List.getD,q1];exact q2,?_⟩
       rw[s5]
       refine run_firstCells_some w sz' c _ m cap' us hl (fun j v hj=>?_)
       have hj':j<(ys.take (c*sz')).length:=by rw[←v1];exact(qvZ.1 hj).1
       obtain⟨v',q1,q2,-⟩:=v2 j _ (qvX hj')
       rw[hj] at q1
       injection q1 with q1
       subst q1
       rw[Qp]
       rw[qwj] at q2
       exact q2
    have hone:∀u∈us,u.oneCell'=true:=fun u hu=>by
     obtain⟨j,hj⟩:=List.getElem?_of_mem hu
     have hjl:j<(ys.take (c*sz')).length:=by
      have:=(qvZ.1 hj).1
      rw[qwo,c5]
      have hcm:c*sz'≤m*sz':=Nat.mul_le_mul_right _ (by omega)
      omega
     have h3:=u2 j _ (qvX hjl)
     rw[List.getD,hj] at h3
     exact RC.one h3 (qwc.1 c4 _ (List.mem_of_mem_take (qwM hjl)))
    have hysl:(ys.take (c*sz')).length=c*sz':=by
     have hcm:c*sz'≤m*sz':=Nat.mul_le_mul_right _ (by omega)
     rw[qwo,c5];omega
    rcases h2 with ⟨b,cap,h2,h3,h4,h5⟩|⟨h2,h3,h4,h5⟩
    ·obtain⟨hbs,hB⟩:=hs.hp id b cap h1 h2
     rw[hb] at hB
     obtain⟨vs,r1,r2,r3,r5,r6,r7⟩:=hB
     have hcn:c*sz'≤n*sz':=Nat.mul_le_mul_right _ (by omega)
     have hrun:=Jg (P:=P) (b:=b) (o:=off*sz') (t:=e') us w vs 0 r1 (by omega) hone
     rw[Nat.add_zero] at hrun
     obtain⟨f1,f2,f3,f4,f5,f6⟩:=Jf us w b (off*sz')
     have f7:=f6 vs e' r1
     have hst:q2s w s.live ρ (putCells w b (off*sz') us) (s.up [(id,.row e' sz' (spl cs (off*sz') (ys.take (c*sz'))))]).live ρ:=q1F hs h1 h2 rfl (by omega) f2
     have hrel:=q5E (ys.take (c*sz')) us cs vs (off*sz') (by rw[u1,hysl]) u2 r2 (by rw[hysl];omega) r7
     have hS:=(hs.over (x := .row e' sz' (spl cs (off*sz') (ys.take (c*sz')))) h1 h2 rfl (fun hk=>by have:=(hs.pin id hk).2;rw[hb] at this;cases this) f1 f2 f3 f4 f5
      ⟨_,f7,by rw[ZR,JQ];exact r2,by rw[ZR];exact r3,r5,r6,fun j c hj=>(hrel j c hj).stay hst⟩ (fun j y d n c hy how hw=>by
       obtain⟨e1,e2⟩:=qby (ys.take (_*sz')) us cs vs (off*sz') (by rw[u1,hysl]) (qwc.2 fun x hx=>qwc.1 c4 x (List.mem_of_mem_take hx)) hy how
       refine⟨y,by rw[hb];exact e1,how,n,c,?_⟩
       rw[←hw]
       simp only[World.cell?,r1,f7]
       exact e2.symm)).1
     refine q5O ho ?_ (hn _ _ ρ _ _ hK hS (.c _ _ (.d _ _ (.int _ _)))) (v:=goInt c)
     unfold Builtin.copy_
     have hcn:Nat.min m n=c:=hcdef.symm
     simp only[hts,Sem.run_bind,run_underlying ht.ud,Result.andThen_ok,h5,s1,Builtin.lenOf,Sem.run_pure,zH ht'.info,ht'.sz,←c1,hcn,u3,hrun,
      List.getElem?_toArray,qw5,qwk]
    ·subst h4 h5
     have hc0:c=0:=by omega
     subst hc0
     have hus:us=[]:=qwe (by simpa using u1)
     subst hus
     have hS:Sim cx ρ (s.up [(id,.row e' sz' (spl cs (0*sz') (ys.take (0*sz'))))]) a w:=by
      have hcs:spl cs (0*sz') (ys.take (0*sz'))=cs:=by simp[spl]
      rw[hcs,←hb]
      refine hs.ext (fun _=>rfl) (fun j=>?_) rfl (fun j hj=>?_)
      ·rw[S.blk_up];split
       ·rename_i he;rw[he]
       ·rfl
      ·have:s.live j:=by unfold S.live at hj ⊢;rw[S.blk_up] at hj;split at hj;(rename_i he;rw[←he];exact hj);exact hj
       have:=hs.nx j this
       show j<max s.nx (id+1)
       omega
     refine q5O ho ?_ (hn _ _ ρ _ _ hK hS (.c _ _ (.d _ _ (.int _ _)))) (v:=goInt (0:Nat))
     unfold Builtin.copy_
     have hcn:Nat.min m 0=0:=Nat.min_zero m
     simp only[hts,Sem.run_bind,run_underlying ht.ud,Result.andThen_ok,h3,s1,Builtin.lenOf,Sem.run_pure,zH ht'.info,ht'.sz,←c1,hcn,u3,
      List.getElem?_toArray,qw5,qwk]
   ·cases h
  ·cases h
 ·rename_i e sz0 cs0 m ys hk hx hy
  split at h
  ·rename_i hc
   obtain⟨c3,c5⟩:=hc
   obtain⟨rfl,rfl⟩:R.c (.d (.int .i64 0))=r∧s=s':=by injection h with h;injection h with h5 h6;exact⟨h5,h6⟩
   obtain⟨d,i,z,ht⟩:=hA.at_ (t:=t) (by rw[hk];simp)
   obtain⟨d',i',z',ht'⟩:=hA.at_ c3
   have hd:=JK (ht.kd.trans hk)
   subst hd
   obtain⟨A,cap',s1,s2,s3,s4⟩:=q7u hs hy c5
   have hxv:=hs.ev x
   rw[hx] at hxv
   obtain⟨A0,cap0,q1,-⟩:=hxv.inv_sl
   have u3:(Builtin.firstCells (T.sz e) 0 (.slice A m cap')).run P w = .ok #[] w:=by
    cases A with
    | none=>exact run_firstCells_none w _ _ _ _
    | some ad=>exact run_firstCells_some w (T.sz e) 0 ad m cap' [] (by simp) (fun j v hj=>by simp at hj)
   refine q5O ho ?_ (hn _ _ ρ _ _ hK hs (.c _ _ (.d _ _ (.int _ _)))) (v:=goInt (0:Nat))
   unfold Builtin.copy_
   have hcn:Nat.min m 0=0:=Nat.min_zero m
   cases A0 with
   | none=>
    simp only[hts,Sem.run_bind,run_underlying ht.ud,Result.andThen_ok,q1,s1,Builtin.lenOf,Sem.run_pure,zH ht'.info,ht'.sz,hcn,u3,List.getElem?_toArray,qw5,qwk]
   | some a0=>
    simp only[hts,Sem.run_bind,run_underlying ht.ud,Result.andThen_ok,q1,s1,Builtin.lenOf,Sem.run_pure,zH ht'.info,ht'.sz,hcn,u3,List.getElem?_toArray,qw5,qwk,storeCells]
  ·cases h
 ·cases h
end
end
noncomputable section
open Go.RowKit
def qdP (P:Program) (T:Ty) (s:S) (p:Nat) (c:Call) (K:KK):Prop:=
 match c.callee,c.args.toList,c.argTypes.toList with
 | .builtin .len,[x],[t]=>match T.k t with | .mp _ _=>∃r,q2A T s t x=some r∧K r s|_=>q9P T s t x K
 | .builtin .min,[x,y],_=>qal s x y K
 | .builtin .max,[x,y],_=>qa9 s x y K
 | .builtin .append,[x,y],[t,t']=>t'=t∧q20 T s p t x y K
 | .builtin .copy,[x,y],[t,_]=>XO (qb0 T s t x y) K
 | .value f,args,_=>q8E P s f args K
 | _,_,_=>False
def ox (P:Program) (T:Ty) (s:S) (p:Nat) (op:Op) (K:KK):Prop:=
 match op with
 | .move x=>K (s.ev x) s
 | .assign x=>K (s.ev x) s
 | .pick c x y=>q4M s c x y K
 | .alloc t=>q5S T s p t K
 | .box t x=>qey s p t x K
 | .build t parts=>q2j T s t parts.toList K
 | .buildSlice t len parts=>Zv T s p t len parts.toList K
 | .load t x=>q4X T s t x K
 | .store t x y=>q3A T s t x y K
 | .nilCheck x=>ZN s x K
 | .binOp op t x y _=>q9t P T s op t x y K
 | .unOp op _ x=>qk7 s op x K
 | .convert t t' x=>q4Q T s t t' x K
 | .makeFunc f first captured=>ZP s f first.toList captured.toList K
 | .makeSlice t l c=>q4O T s p t l c K
 | .slice t x lo hi mx=>qch T s t x lo hi mx K
 | .fieldAddr t x f=>J3 T s t x f K
 | .field t x f=>q2c T s t x f K
 | .indexAddr t x y=>Zp T s t x y K
 | .index t x y=>q2B T s t x y K
 | .extract x i=>JG s x i K
 | .call c=>qdP P T s p c K
 | .makeMap t r=>XO (JU T s p t r) K
 | .lookup t x y ok=>∃r,JN T s t x y ok=some r∧K r s
 | .mapUpdate t m k x=>XO (q0l T s t m k x) K
 | .insert t m k x=>XO (q0l T s t m k x) K
 | .mapEntry t m k=>XO (q5T T s t m k) K
 | .entryStore _ m st x=>XO (q8A s m st x) K
 | .range t x=>XO (q2N T s p t x) K
 | .entry it=>XO (q8e s it) K
 | .next it str=>if str=true then XO (qfJ s it) K else XO (q2P s it) K
 | _=>False
section
variable {P:Program} {T:Ty} {cx:Cx} {ρ:Pl} {s:S} {a:Act} {w:World} {o:Oper} {next:Act→World→Prop} {Q:Exit→Act→World→Prop} {K:KK}
theorem ZC {α:Type} {xs:Array α} {l:List α} (h:xs.toList=l):xs=l.toArray:=by rw[←h]
theorem qfQ (hA:Ag P T) {p:Nat} (hp:¬ s.live p) (hs:Sim cx ρ s a w) (h:ox P T s p o.op K) (hn:Qn cx K o a next):o.wp P a w next Q:=by
 cases ho:o.op with
 | move x=>rw[ho] at h;exact qcW (.inl ho) hs h hn
 | assign x=>rw[ho] at h;exact qcW (.inr ho) hs h hn
 | pick c x y=>rw[ho] at h;exact qht ho hs h hn
 | alloc t=>rw[ho] at h;exact qg0 hA hp ho hs h hn
 | box t x=>rw[ho] at h;exact qmz hp ho hs h hn
 | build t parts=>rw[ho] at h;exact qgj hA ho hs h hn
 | buildSlice t len parts=>rw[ho] at h;exact q5c hA hp ho hs h hn
 | load t x=>rw[ho] at h;exact qhV hA ho hs h hn
 | store t x y=>rw[ho] at h;exact qgc hA ho hs h hn
 | nilCheck x=>rw[ho] at h;exact q7o ho hs h hn
 | binOp op t x y t'=>rw[ho] at h;exact qml hA ho hs h hn
 | unOp op t x=>rw[ho] at h;exact qrG ho hs h hn
 | convert t t' x=>rw[ho] at h;exact qiL hA ho hs h hn
 | makeFunc f first captured=>rw[ho] at h;exact q7w ho hs h hn
 | makeSlice t l c=>rw[ho] at h;exact qiP hA hp ho hs h hn
 | slice t x lo hi mx=>rw[ho] at h;exact qdB hA ho hs h hn
 | fieldAddr t x f=>rw[ho] at h;exact q6L hA ho hs h hn
 | field t x f=>rw[ho] at h;exact qft hA ho hs h hn
 | indexAddr t x y=>rw[ho] at h;exact q6b hA ho hs h hn
 | index t x y=>rw[ho] at h;exact qf8 hA ho hs h hn
 | extract x i=>rw[ho] at h;exact qa1 ho hs h hn
 | call c=>
  rw[ho] at h
  obtain⟨callee,args,ts⟩:=c
  simp only[ox,qdP] at h
  split at h
  ·rename_i x t h2 h3
   obtain rfl:=ZC h2
   obtain rfl:=ZC h3
   split at h
   ·obtain⟨r,h,hK⟩:=h;exact qdK hA ho rfl hs h hK hn
   ·exact qmg hA ho rfl hs h hn
  ·rename_i x y h2
   obtain rfl:=ZC h2
   exact qn1 ho hs h hn
  ·rename_i x y h2
   obtain rfl:=ZC h2
   exact qkk ho hs h hn
  ·rename_i x y t t' h2 h3
   obtain rfl:=ZC h2
   obtain⟨rfl,h⟩:=h
   obtain rfl:=ZC h3
   exact qbY hA hp ho hs h hn
  ·rename_i x y t t' h2 h3
   obtain rfl:=ZC h2
   obtain rfl:=ZC h3
   exact qhB hA ho rfl hs h hn
  ·exact qjM ho hs h hn
  ·cases h
 | makeMap t r=>rw[ho] at h;exact q9V hA hp ho hs h hn
 | lookup t x y ok=>rw[ho] at h;obtain⟨r,h,hK⟩:=h;exact qbV hA ho hs h hK hn
 | mapUpdate t m k x=>rw[ho] at h;exact q6k hA (.inl ho) hs h hn
 | insert t m k x=>rw[ho] at h;exact q6k hA (.inr ho) hs h hn
 | mapEntry t m k=>rw[ho] at h;exact qb5 hA ho hs h hn
 | entryStore t m st x=>rw[ho] at h;exact qez ho hs h hn
 | range t x=>rw[ho] at h;exact qeZ hA hp ho hs h hn
 | entry it=>rw[ho] at h;exact qfM ho hs h hn
 | next it str=>
  rw[ho] at h
  cases str
  ·exact qfa hs h
  ·exact qi9 ho hs h hn
 | _=>rw[ho] at h;exact h.elim
def gd (ops:List Oper) (s:S) (g:Option (Nat×Bool)):Option Bool:=
 match g with
 | none=>some true
 | some (j,want)=>
  match (ops[j]?).bind (·.dst) with
  | some d=>match s.get d with | .c (.d (.bool b))=>some (b==want) | .tup []=>some false|_=>none
  | none=>none
theorem JD (hs:Sim cx ρ s a w) {ops:Array Oper} {b:Bool} (h:gd ops.toList s o.guard=some b):Region.wanted o (yielded ops a.tmps)=b:=by
 unfold gd at h
 unfold Region.wanted
 cases hg:o.guard with
 | none=>rw[hg] at h;injection h
 | some jw=>
  obtain⟨j,want⟩:=jw
  rw[hg] at h
  simp only at h ⊢
  split at h
  ·rename_i d hd
   split at h
   ·rename_i b' hb'
    injection h with h
    have hv:=hs.tm d
    rw[hb'] at hv
    have hv':=hv.inv_bool
    have hlt:d<a.tmps.size:=by
     rcases Nat.lt_or_ge d a.tmps.size with h1|h1
     ·exact h1
     ·rw[qw1,Array.getElem?_eq_none h1] at hv';cases hv'
    have hd':(ops[j]?).bind (·.dst)=some d:=by simpa using hd
    have hget:a.tmps[d]?=some (.bool b'):=by
     rw[qw1,qwm hlt] at hv'
     rw[qwm hlt]
     exact congrArg some hv'
    unfold yielded
    rw[hd']
    simp only[qvV,hget]
    rw[←h]
    cases b'<;>cases want<;>rfl
   ·rename_i hb'
    injection h with h
    subst h
    have hv:=hs.tm d
    rw[hb'] at hv
    obtain⟨vs,hv',-,-⟩:=hv.inv_tup
    have hd':(ops[j]?).bind (·.dst)=some d:=by simpa using hd
    unfold yielded
    rw[hd']
    simp only[qvV]
    rw[qw1] at hv'
    cases ht:a.tmps[d]? with
    | none=>rfl
    | some x=>
     rw[ht] at hv'
     have hx:x = .tuple vs:=hv'
     subst hx
     rfl
   ·cases h
  ·cases h
theorem qrg (ro:Option Nat) (h:o.wp P a w next Q) (hd:∀c,o.op ≠ .defer c):o.wpIn (FW ro) 0 P a w next Q:=by
 refine⟨fun _ _=>trivial,?_⟩
 rw[Oper.semAt_eq _ _ _ hd]
 unfold Oper.wp at h
 have hF:(FW ro).depth.isSome=true→1≤0:=fun h=>by cases h
 generalize (execOp a.eval o).run P w=x at h
 cases x with
 | ok x w'=>
  cases x with
  | value v=>exact h
  | skip=>exact h
  | defer d=>exact h
  | enter f args=>exact⟨hF,callsIn_wide.2 (show Calls P f args w' _ from h)⟩
  | row row args=>exact⟨hF,fun c cs _=>let ⟨v,w'',r,s⟩:=(show Rows P row args w' _ from h) c cs;⟨v,w'',r,stepsIn_wide.2 s⟩⟩
  | _=>exact h.elim
 | halt x w'=>
  cases x with
  | panic v=>exact h
  | _=>exact h.elim
theorem q5K {ro:Option Nat} {o:Oper}:∀f,o.about P w a.eval=some f→(FW ro).fn f:=fun _ _=>trivial
theorem qrr {p:Nat} (h:ox P T s p o.op K):∀c,o.op ≠ .defer c:=fun c hc=>by rw[hc] at h;exact h
theorem q4g (hA:Ag P T) {p:Nat} (hp:¬ s.live p) (hs:Sim cx ρ s a w) (h:ox P T s p o.op K) (hn:Qn cx K o a next):o.wpIn (FW cx.ro) 0 P a w next Q:=qrg cx.ro (qfQ hA hp hs h hn) (qrr h)
end
end
noncomputable section
open Go.RowKit
theorem q55:∀(n:Nat) (l:List Nat),l.Nodup→(∀i∈l,i<n)→l.length≤n
 | 0,l,_,h=>by
  cases l with
  | nil=>exact qwb _
  | cons x l=>exact absurd (h x qwa) (Nat.not_lt_zero _)
 | n+1,l,hd,h=>by
  by_cases hn:n∈l
  ·have h1:=q55 n (l.erase n) (hd.erase n) (fun i hi=>by
    have h2:=(hd.mem_erase_iff).1 hi
    have:=h i h2.2
    omega)
   rw[List.length_erase_of_mem hn] at h1
   omega
  ·have:=q55 n l hd (fun i hi=>by
    have:=h i hi
    have:i≠n:=fun e=>hn (e ▸ hi)
    omega)
   omega
section any
variable {P:Program} {ops:Array Oper} {Q:Exit→Act→World→Prop} {ro:Option Nat}
def QO (o:Oper):List Nat:=(o.after.toList.filter fun e=>Region.binds .any e).map (·.on)
theorem q4c {listed:Array Bool} {i:Nat}:i∈Region.ready .any ops listed↔i<ops.size∧listed.getD i true=false∧∃o,ops[i]?=some o∧∀k∈QO o,listed.getD k false=true:=by
 unfold Region.ready
 rw[qwQ,qwR]
 constructor
 ·rintro⟨h1,h2⟩
  refine⟨h1,?_⟩
  rw[qwm h1] at h2
  simp only[qwr,Bool.not_eq_true',Option.map_some,Option.getD_some,Array.all_eq_true_iff_forall_mem] at h2
  refine⟨h2.1,ops[i],qwm h1,fun k hk=>?_⟩
  obtain⟨e,he,rfl⟩:=qwF.1 hk
  obtain⟨h3,h4⟩:=qwQ.1 he
  have:=h2.2 e (by simpa using h3)
  simpa [h4] using this
 ·rintro⟨h1,h2,o,h3,h4⟩
  refine⟨h1,?_⟩
  rw[h3]
  simp only[qwr,Bool.not_eq_true',Option.map_some,Option.getD_some,Array.all_eq_true_iff_forall_mem]
  refine⟨h2,fun e he=>?_⟩
  by_cases hb:Region.binds .any e=true
  ·have:=h4 e.on (qwF.2 ⟨e,qwQ.2 ⟨by simpa using he,hb⟩,rfl⟩)
   simp[this]
  ·simp[hb]
structure Run (ops:Array Oper) (E:List Nat):Prop where
 nodup:E.Nodup
 lt:∀i∈E,i<ops.size
 closed:∀i∈E,∀o,ops[i]?=some o→∀k∈QO o,k∈E
theorem qbw (hedge:∀(i:Nat) (o:Oper),ops[i]?=some o→∀k∈QO o,k<i) (Inv:List Nat→Act→World→Prop)
  (step:∀E a w (i:Nat) (o:Oper),Run ops E→Inv E a w→i ∉ E→ops[i]?=some o→(∀k∈QO o,k∈E)→wpOpIn (FW ro) 0 P ops Q i (fun a' w'=>Inv (i::E) a' w') a w)
  (done:∀E a w,Run ops E→Inv E a w→(∀i,i<ops.size→i∈E)→Q .normal a w) :
  ∀(fuel:Nat) (listed:Array Bool) (E:List Nat) (a:Act) (w:World),listed.size=ops.size→(∀i,i<ops.size→(listed.getD i true=true↔i∈E))→Run ops E→fuel+E.length=ops.size→Inv E a w→wpAnyIn (FW ro) 0 P .any ops Q fuel listed a w:=by
 -- if nothing is ready, all is done
 have hall:∀(listed:Array Bool) (E:List Nat),listed.size=ops.size→(∀i,i<ops.size→(listed.getD i true=true↔i∈E))→Region.ready .any ops listed=[]→∀i,i<ops.size→i∈E:=by
  intro listed E hz hl hr i
  induction i using Nat.strongRecOn with
  | _ i ih=>
   intro hi
   rw[←hl i hi]
   by_cases h:listed.getD i true=true
   ·exact h
   ·exfalso
    have hmem:i∈Region.ready .any ops listed:=q4c.2 ⟨hi,by simpa using h,ops[i],qwm hi,fun k hk=>by
     have hk1:=hedge i _ (qwm hi) k hk
     have hk2:k<ops.size:=by omega
     have:=(hl k hk2).2 (ih k hk1 hk2)
     have hk3:k<listed.size:=by omega
     simpa [qw1,hk3] using this⟩
    rw[hr] at hmem;cases hmem
 intro fuel
 induction fuel with
 | zero=>
  intro listed E a w hz hl hrun hf hI
  have hfull:∀i,i<ops.size→i∈E:=by
   intro i hi
   by_cases h:i∈E
   ·exact h
   ·exfalso
    have h1:(i::E).Nodup:=List.nodup_cons.2 ⟨h,hrun.nodup⟩
    have h3:=q55 ops.size (i::E) h1 (fun x hx=>by
     rcases qwh.1 hx with rfl|hx
     ·exact hi
     ·exact hrun.lt x hx)
    simp at h3;omega
  refine⟨?_,done E a w hrun hI hfull⟩
  rw[List.eq_nil_iff_forall_not_mem]
  intro i hi
  obtain⟨h1,h2,-⟩:=q4c.1 hi
  have:=(hl i h1).2 (hfull i h1)
  rw[this] at h2;cases h2
 | succ fuel ih=>
  intro listed E a w hz hl hrun hf hI
  refine⟨fun hr=>done E a w hrun hI (hall listed E hz hl hr),fun i hi=>?_⟩
  obtain⟨h1,h2,o,h3,h4⟩:=q4c.1 hi
  have hiE:i ∉ E:=fun h=>by rw[(hl i h1).2 h] at h2;cases h2
  have hdeps:∀k∈QO o,k∈E:=fun k hk=>by
   have hk1:=hedge i o h3 k hk
   have hk2:k<ops.size:=by omega
   rw[←hl k hk2]
   have:=h4 k hk
   have hk3:k<listed.size:=by omega
   simpa [qw1,hk3] using this
  refine wpOpIn_mono (fun a' w' hI'=>?_) (step E a w i o hrun hI hiE h3 hdeps)
  refine ih (listed.setIfInBounds i true) (i::E) a' w' (by simpa using hz) (fun j hj=>?_) ⟨List.nodup_cons.2 ⟨hiE,hrun.nodup⟩,fun j hj=>?_,fun j hj o' ho' k hk=>?_⟩ (by simp;omega) hI'
  ·by_cases hij:i=j
   ·subst hij
    have:i<listed.size:=by omega
    simp[qw1,this]
   ·have:=hl j hj
    simp only[qw1] at this ⊢
    rw[Array.getElem?_setIfInBounds,if_neg hij,this,qwh]
    exact⟨fun h => .inr h,fun h=>h.resolve_left (Ne.symm hij)⟩
  ·rcases qwh.1 hj with rfl|hj
   ·exact h1
   ·exact hrun.lt j hj
  ·rcases qwh.1 hj with rfl|hj
   ·rw[h3] at ho';injection ho' with ho';subst ho';exact qw3 _ (hdeps k hk)
   ·exact qw3 _ (hrun.closed j hj o' ho' k hk)
theorem q9Y {id:Nat} (hm:P.follows .mixedOrders=true) (hedge:∀(i:Nat) (o:Oper),ops[i]?=some o→∀k∈QO o,k<i) (Inv:List Nat→Act→World→Prop)
  (step:∀E a w (i:Nat) (o:Oper),Run ops E→Inv E a w→i ∉ E→ops[i]?=some o→(∀k∈QO o,k∈E)→wpOpIn (FW ro) 0 P ops Q i (fun a' w'=>Inv (i::E) a' w') a w)
  (done:∀E a w,Run ops E→Inv E a w→(∀i,i<ops.size→i∈E)→Q .normal a w) {a:Act} {w:World} (h0:Inv [] a w.drew):(Code.region id ops true).wpIn (FW ro) 0 P Q a w:=by
 refine wpIn_region_any hm ?_
 refine qbw hedge Inv step done ops.size _ [] a _ (by simp) (fun i hi=>?_) ⟨List.nodup_nil,fun i h=>by simp at h,fun i h=>by simp at h⟩ (by simp) h0
 simp[qw1,hi]
end any
end
noncomputable section
open Go.RowKit
def qll:Operand→List Nat
 | .tmp t=>[t]
 | _=>[]
def qcV (op:Op):List Nat:=op.operands.toList.flatMap qll
def Jv:Op→Bool
 | .move _ | .assign _ | .pick .. | .alloc _ | .box .. | .build .. | .buildSlice .. | .load .. | .nilCheck _ | .binOp .. | .unOp .. | .convert .. | .makeFunc .. | .slice .. | .fieldAddr .. | .field .. | .indexAddr .. | .index .. | .extract .. | .makeMap .. | .lookup .. | .range ..=>true
 | .call c=>(match c.callee with | .builtin .len | .builtin .min | .builtin .max=>true|_=>false)
 | _=>false
section
variable {P:Program} {T:Ty} {s t:S} {p nx:Nat} {K:KK}
theorem qlI {x:Operand} (h:∀i∈qll x,t.get i=s.get i):t.ev x=s.ev x:=by
 cases x with
 | tmp i=>exact h i (by simp[qll])
 | _=>rfl
theorem q3c {pl:Nat→Option (Nat×Nat)}:∀(l:List (Nat×Operand)) (cs:List C),(∀q∈l,t.ev q.2=s.ev q.2)→bld t pl l cs=bld s pl l cs
 | [],_,_=>rfl
 | (i,x)::r,cs,h=>by
  have hx:=h (i,x) qwa
  simp only at hx
  unfold bld
  rw[hx]
  have hr:∀cs',bld t pl r cs'=bld s pl r cs':=fun cs'=>q3c r cs' (fun q hq=>h q (qw3 _ hq))
  simp only[hr]
theorem q5f:∀(l:List Operand),(∀x∈l,t.ev x=s.ev x)→l.mapM t.cell1=l.mapM s.cell1
 | [],_=>rfl
 | x::l,h=>by
  have h1:t.cell1 x=s.cell1 x:=by unfold S.cell1;rw[h x qwa]
  rw[List.mapM_cons,List.mapM_cons,h1,q5f l (fun y hy=>h y (qw3 _ hy))]
end
end
noncomputable section
open Go.RowKit
def q1Y (ops:List Oper) (i:Nat):Option Nat:=(ops[i]?).bind (·.dst)
def qs4 (ops:List Oper):List (List Nat):=ops.foldl (fun acc o=>acc++[(QO o++(QO o).flatMap fun d=>acc.getD d []).eraseDups]) []
def q03 (ops:List Oper) (o:Oper):List Nat:=qcV o.op++(match o.guard with|some (j,_)=>(q1Y ops j).toList|none=>[])
section
variable {P:Program} {T:Ty} {ops:List Oper} {nx:Nat} {s0:S} {K:S→Prop}
theorem S.put_nx (s:S) (d:Option Nat) (r:R):(s.put d r).nx=s.nx:=by cases d<;>rfl
theorem S.put_n (s:S) (d:Option Nat) (r:R):(s.put d r).n=s.n:=by cases d<;>rfl
theorem S.put_blk (s:S) (d:Option Nat) (r:R) (i:Nat):(s.put d r).blk i=s.blk i:=by cases d<;>rfl
theorem S.up_get (s:S) (us:List (Nat×B)) (i:Nat):(s.up us).get i=s.get i:=rfl
theorem S.put_get (s:S) (d:Option Nat) (r:R) (i:Nat):(s.put d r).get i=if d=some i then r else s.get i:=by
 cases d with
 | none=>simp[S.put]
 | some d=>
  show lk ((d,r)::s.tm) i .any=_
  unfold lk
  simp only[qwK]
  rfl
end
section
variable {P:Program} {T:Ty} {cx:Cx}
end
end
noncomputable section
open Go.RowKit
inductive CR (s:S) (sel ln:List Nat):C→C→Prop
 | dat (x:C):x.dat=true→CR s sel ln x x
 | any (x:C):CR s sel ln x .any
 | nils (sz:Nat):CR s sel ln .nils (.d (.sl sz 0 []))
 | emp (sz sz':Nat):CR s sel ln (.d (.sl sz 0 [])) (.d (.sl sz' 0 []))
 | ptr (i j o:Nat):sel[j]?=some i→CR s sel ln (.ptr i o) (.ptr j o)
 | hd (k:HK) (i j:Nat):sel[j]?=some i→CR s sel ln (.hd k i) (.hd k j)
 | own (i j sz o n:Nat):sel[j]?=some i→CR s sel ln (.own i sz o n) (.own j sz o n)
 | lend (id sz off n:Nat) (ds:List D):id∈ln→((s.blk id).cells.drop (off*sz)).take (n*sz)=ds.map C.d→ds.length=n*sz→CR s sel ln (.own id sz off n) (.d (.sl sz n ds))
 | lptr (id off:Nat) (ds:List D):id∈ln→(s.blk id).cells.length=ds.length→(∀(j:Nat) (x:C) (y:D),(s.blk id).cells[j]?=some x→ds[j]?=some y→CR s sel ln x (.d y))→CR s sel ln (.ptr id off) (.eptr ds off)
 | fn (f:FuncId) (fs fs' caps caps':List C):fs.length=fs'.length→(∀(j:Nat) (x y:C),fs[j]?=some x→fs'[j]?=some y→CR s sel ln x y)→caps.length=caps'.length→(∀(j:Nat) (x y:C),caps[j]?=some x→caps'[j]?=some y→CR s sel ln x y)→CR s sel ln (.fn f fs caps) (.fn f fs' caps')
inductive AR (s:S) (sel ln:List Nat):R→R→Prop
 | c (x y:C):CR s sel ln x y→AR s sel ln (.c x) (.c y)
 | agg (xs ys:List C):xs.length=ys.length→(∀(j:Nat) (x y:C),xs[j]?=some x→ys[j]?=some y→CR s sel ln x y)→AR s sel ln (.agg xs) (.agg ys)
 | any (r:R):AR s sel ln r .any
inductive ARs (s:S) (sel ln:List Nat):List R→List R→Prop
 | nil:ARs s sel ln [] []
 | cons (r r':R) (l l':List R):AR s sel ln r r'→ARs s sel ln l l'→ARs s sel ln (r::l) (r'::l')
theorem ARs.at_ {s:S} {sel ln:List Nat} {l l':List R} (h:ARs s sel ln l l'):l.length=l'.length∧∀(j:Nat) (r':R),l'[j]?=some r'→∃r,l[j]?=some r∧AR s sel ln r r':=by
 induction h with
 | nil=>exact⟨rfl,fun j r h=>by simp at h⟩
 | cons r r' l l' h1 _ ih=>
  refine⟨by simp[ih.1],fun j x hj=>?_⟩
  cases j with
  | zero=>simp only[qw5,qwK] at hj;subst hj;exact⟨r,rfl,h1⟩
  | succ j=>simpa using ih.2 j x (by simpa using hj)
def PW (R:C→C→Prop) (xs ys:List C):Prop:=xs.length=ys.length∧∀(j:Nat) (x y:C),xs[j]?=some x→ys[j]?=some y→R x y
theorem PW.nil {R:C→C→Prop}:PW R [] []:=⟨rfl,fun j x y h=>by simp at h⟩
theorem PW.cons {R:C→C→Prop} {x y:C} {xs ys:List C} (h:R x y) (h':PW R xs ys):PW R (x::xs) (y::ys):=by
 refine⟨by simp[h'.1],fun j a b ha hb=>?_⟩
 cases j with
 | zero=>simp only[qw5,qwK] at ha hb;subst ha hb;exact h
 | succ j=>exact h'.2 j a b (by simpa using ha) (by simpa using hb)
theorem PW.dat {s:S} {sel ln:List Nat} {xs:List C} (h:xs.all C.dat=true):PW (CR s sel ln) xs xs:=
 ⟨rfl,fun j x y hx hy=>by rw[hx] at hy;injection hy with hy;subst hy;exact .dat x (qwc.1 h x (qvW hx))⟩
theorem qiv (ds:List D):(ds.map C.d).all C.dat=true:=by
 rw[List.all_map,qwc];intro x _;rfl
theorem CR.fn' {s:S} {sel ln:List Nat} {f:FuncId} {fs fs' caps caps':List C} (h:PW (CR s sel ln) fs fs') (h':PW (CR s sel ln) caps caps'):CR s sel ln (.fn f fs caps) (.fn f fs' caps') := .fn f fs fs' caps caps' h.1 h.2 h'.1 h'.2
theorem AR.agg' {s:S} {sel ln:List Nat} {xs ys:List C} (h:PW (CR s sel ln) xs ys):AR s sel ln (.agg xs) (.agg ys) := .agg xs ys h.1 h.2
inductive AOR (s:S) (sel:List Nat):AO→AO→Prop
 | mp (es es':List (Value×R×Nat)) (ck:Nat):es.length=es'.length→(∀(j:Nat) (e e':Value×R×Nat),es[j]?=some e→es'[j]?=some e'→e'.1=e.1∧e'.2.2=e.2.2∧AR s sel [] e.2.1 e'.2.1)→AOR s sel (.mp es ck) (.mp es' ck)
 | lp (f:FuncId) (tm tm':List R) (ps:List Nat) (a b:Code) (st:LoopState) (p:Option Code):tm.length=tm'.length→(∀(j:Nat) (x y:R),tm[j]?=some x→tm'[j]?=some y→AR s sel [] x y)→AOR s sel (.lp f tm ps a b st p) (.lp f tm' ps a b st p)
 | si (t:ByteArray) (p:Nat):AOR s sel (.si t p) (.si t p)
 | df:AOR s sel .df .df
 | mi (m m':R) (c:Nat) (l:List Nat):AR s sel [] m m'→AOR s sel (.mi m c l) (.mi m' c l)
inductive BR (s:S) (sel:List Nat):B→B→Prop
 | blk (t:TypeId) (cs cs':List C):PW (CR s sel []) cs cs'→BR s sel (.blk t cs) (.blk t cs')
 | row (e:TypeId) (sz:Nat) (cs cs':List C):PW (CR s sel []) cs cs'→BR s sel (.row e sz cs) (.row e sz cs')
 | ob (o o':AO):AOR s sel o o'→BR s sel (.ob o) (.ob o')
theorem CR.noow {s:S} {sel ln:List Nat} {x y:C} (h:CR s sel ln x y):y.noow=true:=by
 cases h with
 | dat _ h=>cases x<;>first|rfl|cases h
 | _=>rfl
theorem PW.noow {s:S} {sel ln:List Nat} {xs ys:List C} (h:PW (CR s sel ln) xs ys):ys.all C.noow=true:=qwc.2 fun y hy=>by
 obtain⟨j,hj⟩:=List.getElem?_of_mem hy
 have hl:j<xs.length:=by rw[h.1];exact(qvZ.1 hj).1
 exact(h.2 j _ y (qvX hl) hj).noow
theorem BR.noow {s:S} {sel:List Nat} {x y:B} (h:BR s sel x y):y.cells.all C.noow=true:=by
 cases h with
 | blk _ _ _ h=>exact h.noow
 | row _ _ _ _ h=>exact h.noow
 | ob=>rfl
def GR (s:S) (sel:List Nat):List Nat→Nat→List (Nat×B)→Prop
 | [],_,[]=>True
 | i::l,j,(j',b)::G=>j'=j∧BR s sel (s.blk i) b∧GR s sel l (j+1) G
 | _,_,_=>False
theorem GR.at_ {s:S} {sel:List Nat}:∀{l:List Nat} {k:Nat} {G:List (Nat×B)},GR s sel l k G→G.length=l.length∧∀j,(k≤j→∀i,l[j-k]?=some i→BR s sel (s.blk i) (lk G j .dead))∧((j<k∨l.length≤j-k)→lk G j .dead = .dead)
 | [],k,[],_=>⟨rfl,fun j=>⟨fun _ i h=>by simp at h,fun _=>rfl⟩⟩
 | i::l,k,(j',b)::G,h=>by
  obtain⟨rfl,h2,h3⟩:=h
  obtain⟨g1,g2⟩:=GR.at_ h3
  refine⟨by simp[g1],fun j=>⟨fun hk i' hi'=>?_,fun hj=>?_⟩⟩
  ·unfold lk
   by_cases hj:j'=j
   ·subst hj;rw[if_pos rfl]
    simp only[Nat.sub_self,qw5,qwK] at hi'
    subst hi';exact h2
   ·rw[if_neg hj]
    refine(g2 j).1 (by omega) i' ?_
    rw[show j-j'=(j-(j'+1))+1 by omega,qwk] at hi'
    exact hi'
  ·unfold lk
   have hn:¬ j'=j:=by
    intro e;subst e
    rcases hj with h|h
    ·omega
    ·simp at h
   rw[if_neg hn]
   refine(g2 j).2 ?_
   rcases hj with h|h
   ·exact .inl (by omega)
   ·right
    simp only[qw6] at h;omega
 | [],_,_::_,h=>h.elim
 | _::_,_,[],h=>h.elim
section
variable {cx:Cx} {ρ:Pl} {s:S} {a:Act} {w:World}
theorem CR.rc (hs:Sim cx ρ s a w) {sel ln:List Nat} {L':Nat→Prop} {ρ':Pl} (hsel:∀i j,sel[j]?=some i→s.live i→L' j∧ρ' j=ρ i) (ho:∀b,Occ L' ρ' b→Occ s.live ρ b)
  (hl:∀id,id∈ln→∀b cap,ρ id=some (b,cap)→¬ Occ L' ρ' b) {v:Value} {x y:C} (h:RC w s.live ρ v x) (hc:CR s sel ln x y):RC w L' ρ' v y:=by
 induction hc generalizing v with
 | dat x hx=>exact h.dat' hx ho
 | any x=>exact .any _
 | nils sz=>rw[(RR.c v _ h).inv_nils];exact .d _ _ (.nil _ _ _ (qwl _) (fun _=>rfl))
 | emp sz sz'=>
  obtain⟨A,cap,q1,q2,q3,q4,q5,-⟩:=(RR.c v _ h).inv_sl
  rw[q1]
  exact .d _ _ (.nil _ _ _ q3 q4)
 | ptr i j o hj=>cases h with|ptr _ _ b cap h1 h2=>exact .ptr j o b cap (hsel i j hj h1).1 ((hsel i j hj h1).2.trans h2)
 | hd k i j hj=>cases h with|hd _ _ b cap h1 h2=>exact .hd k j b cap (hsel i j hj h1).1 ((hsel i j hj h1).2.trans h2)
 | own i j sz o n hj=>
  cases h with
  | own _ _ _ _ b cap h1 h2 h3 h4=>exact .own j sz o n b cap (hsel i j hj h1).1 ((hsel i j hj h1).2.trans h2) h3 h4
  | own0 _ _ h1 h2=>exact .own0 j sz (hsel i j hj h1).1 ((hsel i j hj h1).2.trans h2)
 | lend id sz off n ds hid hcs hlen=>exact .d _ _ (qb8 hs h hcs hlen ho (hl id hid))
 | lptr id off ds hid hlen hpt ih=>
  cases h with
  | ptr _ _ b cap h1 h2=>
   obtain⟨hb,hB⟩:=hs.hp id b cap h1 h2
   obtain⟨l',h3,h4⟩:=q1f (Pr:=fun j v d=>w.cell? ⟨b,j,none⟩=some v∧RD w (Occ L' ρ') v d) ds 0 (fun j d hj=>by
    rw[qwj]
    have hj':j<(s.blk id).cells.length:=by rw[hlen];exact(qvZ.1 hj).1
    obtain⟨v,h3,h4⟩:=hB.cell (qvX hj')
    have h5:=ih j _ d (qvX hj') hj h4
    cases h5 with|d _ _ h5=>exact⟨v,h3,h5⟩)
   have:=RC.eptr (L:=L') (ρ:=ρ') b 0 off ds (fun j=>l'.getD j undef) hb (hl id hid b cap h2) (fun j c hj=>by
    obtain⟨v,h5,h6,-⟩:=h4 j c hj
    rw[qwj] at h6 ⊢
    rw[h6,List.getD,h5];rfl) (fun j c hj=>by
    obtain⟨v,h5,-,h7⟩:=h4 j c hj
    rw[List.getD,h5];exact h7)
   rw[qwj] at this
   exact this
 | fn f fs fs' caps caps' h1 _ h3 _ ih1 ih2=>
  cases h with
  | fn _ _ _ us vs g1 g2 g3 g4=>
   refine .fn f fs' caps' us vs (g1.trans h1) (fun j c hj=>?_) (g3.trans h3) (fun j c hj=>?_)
   ·have hj':j<fs.length:=by rw[h1];exact(qvZ.1 hj).1
    exact ih1 j _ c (qvX hj') hj (g2 j _ (qvX hj'))
   ·have hj':j<caps.length:=by rw[h3];exact(qvZ.1 hj).1
    exact ih2 j _ c (qvX hj') hj (g4 j _ (qvX hj'))
theorem PW.rc {Rl:C→C→Prop} {L':Nat→Prop} {ρ':Pl} {w':World} (hR:∀v x y,RC w s.live ρ v x→Rl x y→RC w' L' ρ' v y) {f:Nat→Value} {xs ys:List C} (h:PW Rl xs ys) (hx:∀j c,xs[j]?=some c→RC w s.live ρ (f j) c):∀j c,ys[j]?=some c→RC w' L' ρ' (f j) c:=fun j c hj=>by
 have hj':j<xs.length:=by rw[h.1];exact(qvZ.1 hj).1
 exact hR _ _ _ (hx j _ (qvX hj')) (h.2 j _ c (qvX hj') hj)
theorem AR.rr {sel ln:List Nat} {L':Nat→Prop} {ρ':Pl} {w':World} (hR:∀v x y,RC w s.live ρ v x→CR s sel ln x y→RC w' L' ρ' v y) {v:Value} {x y:R} (h:RR w s.live ρ v x) (hc:AR s sel ln x y):RR w' L' ρ' v y:=by
 cases hc with
 | c x y hc=>exact .c _ _ (hR _ _ _ h.inv_c hc)
 | agg xs ys hl hxy=>
  obtain⟨us,q1,q2,q3⟩:=h.inv_agg
  rw[q1]
  exact .agg _ _ (q2.trans hl) (PW.rc hR ⟨hl,hxy⟩ q3)
 | any r=>exact .any _
theorem HO.rel {sel:List Nat} {L':Nat→Prop} {ρ':Pl} {b:Nat} {o o':AO} (hR:∀v x y,RC w s.live ρ v x→CR s sel [] x y→RC w L' ρ' v y) (h:HO w s.live ρ b o) (hc:AOR s sel o o'):HO w L' ρ' b o':=by
 cases hc with
 | mp es es' ck hl he=>
  obtain⟨mes,h1,h2,h3⟩:=h
  refine⟨mes,h1,h2.trans hl,fun j e' hj=>?_⟩
  have hj':j<es.length:=by rw[hl];exact(qvZ.1 hj).1
  obtain⟨g1,g2,g3⟩:=he j _ e' (qvX hj') hj
  obtain⟨h4,h5,h6⟩:=h3 j _ (qvX hj')
  exact⟨h4.trans g1.symm,g3.rr hR h5,h6.trans g2.symm⟩
 | lp f tm tm' ps a c st p hl he=>
  obtain⟨r,h1,h2,h3,h5,h6,h7,h8,h9⟩:=h
  refine⟨r,h1,h2,h3,h5,h6,h7,h8.trans hl,fun j x hj=>?_⟩
  have hj':j<tm.length:=by rw[hl];exact(qvZ.1 hj).1
  exact(he j _ x (qvX hj') hj).rr hR (h9 j _ (qvX hj'))
 | si t p=>exact h
 | df=>exact h
 | mi m m' c l hm=>obtain⟨mb,h1,h2⟩:=h;exact⟨mb,hm.rr hR h1,h2⟩
end
def ren (sel:List Nat) (nx j:Nat):Nat:=match sel[j]? with|some i=>i|none=>nx+(j-sel.length)
def C.rn0 (f:Nat→Nat):C→C
 | .ptr i o => .ptr (f i) o
 | .hd k i => .hd k (f i)
 | .own i sz o n => .own (f i) sz o n
 | .fn _ _ _ => .any
 | .ow _ _ _ _ => .any
 | c=>c
def C.rn (f:Nat→Nat):C→C
 | .fn g fs caps => .fn g (fs.map (C.rn0 f)) (caps.map (C.rn0 f))
 | c=>c.rn0 f
def R.rn0 (f:Nat→Nat):R→R
 | .c x => .c (x.rn f)
 | .agg xs => .agg (xs.map (C.rn f))
 | _ => .any
def R.rn (f:Nat→Nat):R→R
 | .tup rs => .tup (rs.map (R.rn0 f))
 | r=>r.rn0 f
def B.rn (f:Nat→Nat):B→B
 | .blk t cs => .blk t (cs.map (C.rn f))
 | .row e sz cs => .row e sz (cs.map (C.rn f))
 | .ob o => .ob (o.mapR (R.rn0 f))
 | .dead => .dead
theorem qnO (f:Nat→Nat) (ds:List D):(ds.map C.d).map (C.rn f)=ds.map C.d:=by rw[List.map_map];rfl
def C.farL (X:List Nat):C→Bool
 | .ptr i _ => !X.contains i
 | .hd _ i => !X.contains i
 | .own i _ _ _ => !X.contains i
 | .fn _ _ _=>false
 | _=>true
def C.fgL (X:List Nat):C→C
 | .ptr i o=>if X.contains i then .any else .ptr i o
 | .hd k i=>if X.contains i then .any else .hd k i
 | .own i sz off n=>if X.contains i then .any else .own i sz off n
 | .fn f fs caps=>if(fs++caps).all (C.farL X)=true then .fn f fs caps else .any
 | c=>c
def R.fgL (X:List Nat):R→R
 | .c x => .c (x.fgL X)
 | .agg xs => .agg (xs.map (C.fgL X))
 | .tup rs=>if rs.isEmpty=true then .tup [] else .any
 | .any => .any
def B.fgL (X:List Nat):B→B
 | .blk t cs => .blk t (cs.map (C.fgL X))
 | .row e sz cs => .row e sz (cs.map (C.fgL X))
 | .ob o => .ob (o.mapR (R.fgL X))
 | .dead => .dead
def S.fgL (s:S) (X:List Nat):S:=
 match X with
 | []=>s
 | X=>{ s with tm:=s.tm.map fun x=>(x.1,x.2.fgL X),hp:=s.hp.map fun x=>(x.1,x.2.fgL X) }
theorem S.fgL_get (s:S) (X:List Nat) (i:Nat):(s.fgL X).get i=if X=[] then s.get i else(s.get i).fgL X:=by
 cases X with
 | nil=>rfl
 | cons x X=>rw[if_neg (by simp)];exact Zg (R.fgL (x::X)) s.tm i .any rfl
theorem S.fgL_blk (s:S) (X:List Nat) (i:Nat):(s.fgL X).blk i=if X=[] then s.blk i else(s.blk i).fgL X:=by
 cases X with
 | nil=>rfl
 | cons x X=>rw[if_neg (by simp)];exact Zg (B.fgL (x::X)) s.hp i .dead rfl
theorem B.fgL_isBlk (x:B) (X:List Nat):(x.fgL X).isBlk=x.isBlk:=by cases x<;>rfl
theorem B.fgL_live (x:B) (X:List Nat):(x.fgL X).live=x.live:=by cases x<;>rfl
theorem S.fgL_live (s:S) (X:List Nat) (i:Nat):(s.fgL X).live i↔s.live i:=by
 unfold S.live;rw[S.fgL_blk];split
 ·rfl
 ·rw[B.fgL_live]
structure q2S (X:List Nat) (w:World) (L:Nat→Prop) (ρ:Pl) (w':World) (L':Nat→Prop) (ρ':Pl):Prop where
 size:w.heap.size≤w'.heap.size
 block:∀b,b<w.heap.size→¬ Occ L ρ b→w'.heap[b]?=w.heap[b]?
 occ:∀b,b<w.heap.size→Occ L' ρ' b→Occ L ρ b
 ids:∀i,i ∉ X→L i→L' i∧ρ' i=ρ i
 frm:∀b,ρ.F b→ρ'.F b∧(b<w.heap.size→w'.heap[b]?=w.heap[b]?)
section
variable {X:List Nat} {w w':World} {L L':Nat→Prop} {ρ ρ':Pl}
theorem RD.stayL (hs:q2S X w L ρ w' L' ρ') {v:Value} {x:D} (h:RD w (Occ L ρ) v x):RD w' (Occ L' ρ') v x:=by
 have hcell:∀{b o:Nat},b<w.heap.size→¬ Occ L ρ b→w'.cell? ⟨b,o,none⟩=w.cell? ⟨b,o,none⟩:=fun hb hO=>World.cell?_of_block (w:=w) (hs.block _ hb hO)
 induction h with
 | int k n=>exact .int k n
 | bool b=>exact .bool b
 | str s=>exact .str s
 | nil A cap sz h1 h2=>exact .nil A cap sz h1 h2
 | sl b off n cap sz cs f h1 h2 h3 h4 h5 h6 h7 ih=>
  exact .sl b off n cap sz cs f h1 h2 h3 (qwv h4 hs.size) (fun h=>h5 (hs.occ b h4 h)) (fun j c hj=>(hcell h4 h5).trans (h6 j c hj)) ih
def C.inX (X:List Nat):C→Prop
 | .ptr i _=>i ∉ X
 | .hd _ i=>i ∉ X
 | .own i _ _ _=>i ∉ X
 | .fn _ _ _=>False
 | _=>True
theorem RC.stayL0 (hs:q2S X w L ρ w' L' ρ') {v:Value} {x:C} (h:RC w L ρ v x) (hx:x.inX X):RC w' L' ρ' v x:=by
 cases h with
 | d v x h=>exact .d v x (h.stayL hs)
 | ptr i off b cap h1 h2=>exact .ptr i off b cap (hs.ids i hx h1).1 ((hs.ids i hx h1).2.trans h2)
 | hd k i b cap h1 h2=>exact .hd k i b cap (hs.ids i hx h1).1 ((hs.ids i hx h1).2.trans h2)
 | nilp=>exact .nilp
 | nilf=>exact .nilf
 | nilm=>exact .nilm
 | nils=>exact .nils
 | eptr b o off cs f h1 h2 h3 h4=>exact .eptr b o off cs f (qwv h1 hs.size) (fun h=>h2 (hs.occ b h1 h)) (fun j c hj=>(World.cell?_of_block (w:=w) (hs.block _ h1 h2)).trans (h3 j c hj)) (fun j c hj=>(h4 j c hj).stayL hs)
 | own i sz off n b cap h1 h2 h3 h4=>exact .own i sz off n b cap (hs.ids i hx h1).1 ((hs.ids i hx h1).2.trans h2) h3 h4
 | own0 i sz h1 h2=>exact .own0 i sz (hs.ids i hx h1).1 ((hs.ids i hx h1).2.trans h2)
 | fn f fs caps us vs h1 h2 h3 h4=>exact hx.elim
 | ow e sz n b cap cs vs h1 h2 h3 h4 h5 h6 h7 h8=>exact .ow e sz n b cap cs vs (hs.frm b h1).1 (((hs.frm b h1).2 (q4m h2)).trans h2) h3 h4 h5 h6 h7 (fun j c hj=>(h8 j c hj).stayL hs)
 | ow0 e sz h1=>exact .ow0 e sz h1
 | clp A sz n cs h=>exact .clp A sz n cs (h.stayL hs)
 | any v=>exact .any v
theorem RC.stayL (hs:q2S X w L ρ w' L' ρ') {v:Value} {x:C} (h:RC w L ρ v x):RC w' L' ρ' v (x.fgL X):=by
 cases x with
 | ptr i o=>
  show RC w' L' ρ' v (if X.contains i then C.any else C.ptr i o)
  split
  ·exact .any _
  ·rename_i hn;exact h.stayL0 hs (by simpa [C.inX] using hn)
 | hd k i=>
  show RC w' L' ρ' v (if X.contains i then C.any else C.hd k i)
  split
  ·exact .any _
  ·rename_i hn;exact h.stayL0 hs (by simpa [C.inX] using hn)
 | own i sz off n=>
  show RC w' L' ρ' v (if X.contains i then C.any else C.own i sz off n)
  split
  ·exact .any _
  ·rename_i hn;exact h.stayL0 hs (by simpa [C.inX] using hn)
 | fn f fs caps=>
  show RC w' L' ρ' v (if(fs++caps).all (C.farL X)=true then C.fn f fs caps else C.any)
  split
  ·rename_i hall
   have hok:∀c∈fs++caps,c.inX X:=fun c hc=>by
    have:=qwc.1 hall c hc
    cases c with
    | ptr i o=>simpa [C.inX,C.farL] using this
    | hd k i=>simpa [C.inX,C.farL] using this
    | own i sz off n=>simpa [C.inX,C.farL] using this
    | fn _ _ _=>simp[C.farL] at this
    | _=>trivial
   cases h with
   | fn _ _ _ us vs h1 h2 h3 h4=>
    exact .fn f fs caps us vs h1 (fun j c hj=>(h2 j c hj).stayL0 hs (hok c (qw7 _ (qvW hj)))) h3 (fun j c hj=>(h4 j c hj).stayL0 hs (hok c (qw4 _ (qvW hj))))
  ·exact .any _
 | d x=>exact h.stayL0 hs trivial
 | nilp=>exact h.stayL0 hs trivial
 | nilf=>exact h.stayL0 hs trivial
 | nilm=>exact h.stayL0 hs trivial
 | nils=>exact h.stayL0 hs trivial
 | eptr cs off=>exact h.stayL0 hs trivial
 | ow e sz n cs=>exact h.stayL0 hs trivial
 | clp sz n cs=>exact h.stayL0 hs trivial
 | any=>exact .any _
theorem q7j {cs:List C} {vs:Nat→Value} (h:∀j c,cs[j]?=some c→RC w L ρ (vs j) c) (hs:q2S X w L ρ w' L' ρ'):∀j c,(cs.map (C.fgL X))[j]?=some c→RC w' L' ρ' (vs j) c:=fun j c hj=>by
 rw[qw9] at hj
 obtain⟨x,h1,h2⟩:=qw8.1 hj
 exact h2 ▸ (h j x h1).stayL hs
theorem RR.stayL (hs:q2S X w L ρ w' L' ρ') {v:Value} {x:R} (h:RR w L ρ v x):RR w' L' ρ' v (x.fgL X):=by
 cases h with
 | c v x h=>exact .c _ _ (h.stayL hs)
 | agg vs xs h1 h2=>exact .agg _ _ (by simpa using h1) (q7j h2 hs)
 | tup vs xs h1 h2=>
  show RR w' L' ρ' (.tuple vs) (if xs.isEmpty=true then .tup [] else .any)
  split
  ·rename_i he
   rw[List.isEmpty_iff] at he
   subst he
   exact .tup _ _ h1 (fun j c h=>by simp at h)
  ·exact .any _
 | any v=>exact .any _
theorem HB.stayL (hs:q2S X w L ρ w' L' ρ') {b cap:Nat} {x:B} (hb:w'.heap[b]?=w.heap[b]?) (h:HB w L ρ b cap x):HB w' L' ρ' b cap (x.fgL X):=by
 cases x with
 | blk t cs=>obtain⟨vs,h1,h2,h3⟩:=h;exact⟨vs,hb.trans h1,by simpa using h2,q7j h3 hs⟩
 | row e sz cs=>obtain⟨vs,h1,h2,h3,h4,h5,h6⟩:=h;exact⟨vs,hb.trans h1,by simpa using h2,h3,h4,h5,q7j h6 hs⟩
 | ob o=>exact HO.map hb (fun v x _ hx=>hx.stayL hs) h
 | dead=>trivial
end
def S.aft (s:S) (sel:List Nat) (k:Nat) (hp:List (Nat×B)):S:=
 (s.fgL (sel.drop k)).up (hp.map (fun x=>(ren sel s.nx x.1,x.2.rn (ren sel s.nx)))++sel.map fun i=>(i,.dead))
theorem qgz {f:Nat→Nat} (hf:∀j j',f j=f j'→j=j') (rest:List (Nat×B)) (j:Nat) (h0:lk rest (f j) .dead = .dead):∀hp:List (Nat×B),lk (hp.map (fun x=>(f x.1,x.2.rn f))++rest) (f j) .dead=(lk hp j .dead).rn f
 | []=>h0
 | (j',x)::hp=>by
  simp only[qwi,qwZ,lk]
  by_cases h:j'=j
  ·rw[if_pos h,if_pos (by rw[h])]
  ·rw[if_neg h,if_neg (fun e=>h (hf _ _ e))]
   exact qgz hf rest j h0 hp
theorem qgO {f:Nat→Nat} {g:B→B} (rest:List (Nat×B)) (i:Nat) (hi:∀j,f j≠i):∀hp:List (Nat×B),lk (hp.map (fun x=>(f x.1,g x.2))++rest) i .dead=lk rest i .dead
 | []=>rfl
 | (j',x)::hp=>by
  simp only[qwi,qwZ,lk]
  rw[if_neg (hi _)]
  exact qgO rest i hi hp
theorem q5Q (rest:List (Nat×B)) (i:Nat):∀sel:List Nat,lk (sel.map (fun i=>(i,B.dead))++rest) i .dead=if i∈sel then .dead else lk rest i .dead
 | []=>by simp
 | x::sel=>by
  simp only[qwi,qwZ,lk,q5Q rest i sel,qwh]
  by_cases h:x=i
  ·rw[if_pos h,if_pos (.inl h.symm)]
  ·rw[if_neg h]
   by_cases h':i∈sel
   ·rw[if_pos h',if_pos (.inr h')]
   ·rw[if_neg h',if_neg (by rintro(e|e);exact h e.symm;exact h' e)]
theorem C.rn_noow (c:C) (f:Nat→Nat):(c.rn f).noow=true:=by cases c<;>rfl
theorem B.rn_noow (x:B) (f:Nat→Nat):(x.rn f).cells.all C.noow=true:=by
 cases x<;>first|rfl|exact qwc.2 fun c hc=>by obtain⟨y,-,rfl⟩:=qwF.1 hc;exact C.rn_noow y f
theorem B.fgL_ow {x:B} {X:List Nat} {j:Nat} {y:C} (h:(x.fgL X).cells[j]?=some y) (ho:y.isOw=true):∃z,x.cells[j]?=some z∧z.isOw=true:=by
 have e:(x.fgL X).cells=x.cells.map (C.fgL X):=by cases x<;>rfl
 rw[e,qw9] at h
 obtain⟨z,h1,h2⟩:=qw8.1 h
 subst h2
 refine⟨z,h1,?_⟩
 cases z with
 | ow e sz n cs=>rfl
 | ptr i o=>simp only[C.fgL] at ho;split at ho<;>cases ho
 | hd k i=>simp only[C.fgL] at ho;split at ho<;>cases ho
 | own i sz o n=>simp only[C.fgL] at ho;split at ho<;>cases ho
 | fn f fs caps=>simp only[C.fgL] at ho;split at ho<;>cases ho
 | _=>cases ho
theorem B.dead_of {x:B} (h:¬ x.live=true):x = .dead:=by cases x<;>first|rfl|exact absurd rfl h
theorem B.rn_isBlk (x:B) (f:Nat→Nat):(x.rn f).isBlk=x.isBlk:=by cases x<;>rfl
theorem B.rn_live (x:B) (f:Nat→Nat):(x.rn f).live=x.live:=by cases x<;>rfl
theorem q1M:∀(us:List (Nat×B)) (m:Nat),m≤us.foldl (fun m u=>max m (u.1+1)) m∧∀u∈us,u.1<us.foldl (fun m u=>max m (u.1+1)) m
 | [],m=>⟨qwb _,fun u h=>by simp at h⟩
 | x::us,m=>by
  obtain⟨h1,h2⟩:=q1M us (max m (x.1+1))
  refine⟨by simp only[qwX];omega,fun u hu=>?_⟩
  simp only[qwX]
  rcases qwh.1 hu with rfl|hu
  ·omega
  ·exact h2 u hu
end
end Go.Proofs.Ytofbcijbpfjliaa.Vc
