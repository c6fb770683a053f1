/- Part 1 of a proof. -/
import Derived.WalkKit
import Derived.WalkSpells
import Derived.WalkLawsBesides
import Derived.Lib.Hide
import Derived.Maps.AppendAt
import Derived.Orders
import Derived.ProofKit
import Derived.IntWalk
import Derived.Laws.StructEq
import Derived.ChangeKeysEq
import Derived.Laws.BytesString
import Derived.Laws.IdiomStrings
import Derived.Laws.MakeOwn
import Derived.RangeFuncCalls
import Derived.TacticsIn
import Derived.OrdersIn
import Derived.RangeFuncRecord
import Derived.MapKept
import Derived.Laws.IdiomRangeMap
set_option linter.unusedVariables false
set_option linter.unusedSimpArgs false
set_option linter.defProp false
set_option linter.unusedSectionVars false
set_option linter.unnecessarySimpa false
namespace Go.Proofs.YtofbcijbpfjliaaGreat.Vc
noncomputable section
theorem JA_ {a b:Prop} (x:a) (y:b):a∧b:=⟨x,y⟩
def qQx:=@Option.bind_some
def qQy:=@List.mem_of_getElem?
def qQz:=@List.getElem?_eq_getElem
def qQA:=@Int.toNat_natCast
def qQB:=@List.getElem?_eq_some_iff
def qQC:=@Option.bind_eq_some_iff
def qQD:=@Array.getD_eq_getD_getElem?
def qQE:=@List.length_append
def qQF:=@List.mem_cons_of_mem
def qQG:=@List.mem_append_right
def qQH:=@List.getElem?_cons_zero
def qQI:=@List.length_cons
def qQJ:=@List.mem_append_left
def qQK:=@Option.map_eq_some_iff
def qQL:=@List.getElem?_map
def qQM:=@List.mem_cons_self
def qQN:=@Nat.le_refl
def qQO:=@List.all_eq_true
def qQP:=@List.length_singleton
def qQQ:=@List.eq_nil_of_length_eq_zero
def qQR:=@List.nil_append
def qQS:=@List.append_nil
def qQT:=@List.mem_cons
def qQU:=@List.map_cons
def qQV:=@Nat.zero_add
def qQW:=@List.getElem?_cons_succ
def qQX:=@Nat.zero_le
def qQY:=@Array.getElem?_eq_getElem
def qQZ:=@Bool.eq_false_iff
def qR0:=@List.length_take
def qR1:=@List.mem_append
def qR2:=@Bool.or_eq_true
def qR3:=@Bool.and_eq_true
def qR4:=@Bool.true_and
def qR5:=@List.getElem?_eq_none
def qR6:=@List.getElem?_take_of_lt
def qR7:=@Nat.lt_of_lt_of_le
def qR8:=@Nat.le_trans
def qR9:=@Nat.lt_of_le_of_lt
def qRa:=@List.getElem?_append_right
def qRb:=@List.getElem?_append_left
def qRc:=@List.contains_iff_mem
def qRd:=@List.append_assoc
def qRe:=@List.drop_eq_nil_of_le
def qRf:=@List.length_replicate
def qRg:=@List.length_map
def qRh:=@List.length_nil
def qRi:=@List.mem_map
def qRj:=@List.length_set
def qRk:=@List.length_drop
def qRl:=@List.drop_drop
def qRm:=@List.take_append_drop
def qRn:=@Option.some.injEq
def qRo:=@List.mem_singleton
def qRp:=@List.getElem_mem
def qRq:=@Nat.sub_zero
def qRr:=@Nat.add_assoc
def qRs:=@List.any_eq_true
def qRt:=@List.mem_filter
def qRu:=@List.mem_range
def qRv:=@List.getElem?_set_self
def qRw:=@List.getElem?_set_ne
def qRx:=@decide_eq_true_eq
def qRy:=@decide_eq_true
def qRz:=@Bool.and_true
def qRA:=@Bool.false_and
def qRB:=@List.foldl_cons
def qRC:=@List.flatMap_cons
def qRD:=@List.cons_append
def qRE:=@List.singleton_append
def qRF:=@List.take_of_length_le
end
noncomputable section
open Go.RowKit
inductive D where
 | int (k:IntKind) (n:Int)
 | bool (b:Bool)
 | str (s:ByteArray)
 | sl (sz n:Nat) (cs:List D)
 deriving Inhabited
inductive HK where
 | map|yield|iter
 deriving DecidableEq,Inhabited
def HK.val:HK→Nat→Value
 | .map,b => .map (some b)
 | .yield,b => .func (.yield b) #[] #[]
 | .iter,b => .pointer (some ⟨b,0,none⟩)
inductive C where
 | d (x:D)
 | ptr (id off:Nat)
 | hd (k:HK) (id:Nat)
 | nilm
 | nilp
 | nilf
 | nils
 | eptr (cs:List D) (off:Nat)
 | own (id sz off n:Nat)
 | fn (f:FuncId) (fs caps:List C)
 | ow (e:TypeId) (sz n:Nat) (cs:List D)
 | clp (sz n:Nat) (cs:List D)
 | any
 deriving Inhabited
inductive R where
 | c (x:C)
 | agg (xs:List C)
 | tup (xs:List R)
 | any
 deriving Inhabited
inductive AO where
 | mp (es:List (Value×R×Nat)) (ck:Nat)
 | si (s:ByteArray) (pos:Nat)
 | lp (f:FuncId) (tm:List R) (ps:List Nat) (assign body:Code) (st:LoopState) (pend:Option Code)
 | df
 | mi (m:R) (since:Nat) (seen:List Nat)
 | m1 (e:Option (Value×R×Nat)) (m:R) (since:Nat) (seen:List Nat)
 deriving Inhabited
def AO.mapR (f:R→R):AO→AO
 | .mp es ck => .mp (es.map fun e=>(e.1,f e.2.1,e.2.2)) ck
 | .lp g tm ps a b st p => .lp g (tm.map f) ps a b st p
 | .mi m a b => .mi (f m) a b
 | o=>o
def AO.Rs:AO→List R
 | .mp es _=>es.map fun e=>e.2.1
 | .lp _ tm _ _ _ _ _=>tm
 | .mi m _ _=>[m]
 | _=>[]
inductive B where
 | blk (t:TypeId) (cs:List C)
 | ob (o:AO)
 | row (e:TypeId) (sz:Nat) (cs:List C)
 | dead
 deriving Inhabited
def lk {α:Type} (l:List (Nat×α)) (i:Nat) (z:α):α:=
 match l with
 | []=>z
 | (j,x)::r=>if j=i then x else lk r i z
structure S where
 tm:List (Nat×R)
 hp:List (Nat×B)
 nx:Nat
 n:Nat
def S.get (s:S) (i:Nat):R:=lk s.tm i .any
def S.blk (s:S) (i:Nat):B:=lk s.hp i .dead
def B.live:B→Bool
 | .dead=>false
 | _=>true
def B.isBlk:B→Bool
 | .blk _ _=>true
 | .ob _=>true
 | _=>false
theorem B.live_of {x:B} (h:x.isBlk=true):x.live=true:=by cases x<;>first|rfl|cases h
structure Pl where
 at_:Nat→Option (Nat×Nat)
 F:Nat→Prop
instance:CoeFun Pl (fun _=>Nat→Option (Nat×Nat)):=⟨Pl.at_⟩
def Occ (L:Nat→Prop) (ρ:Pl) (b:Nat):Prop:=ρ.F b∨∃i cap,L i∧ρ i=some (b,cap)
inductive RD (w:World) (O:Nat→Prop):Value→D→Prop
 | int (k:IntKind) (n:Int):RD w O (.int k n) (.int k n)
 | bool (b:Bool):RD w O (.bool b) (.bool b)
 | str (s:ByteArray):RD w O (.string s) (.str s)
 | nil (A:Option Addr) (cap sz:Nat):cap≤maxLen→(A=none→cap=0)→RD w O (.slice A 0 cap) (.sl sz 0 [])
 | sl (b off n cap sz:Nat) (cs:List D) (f:Nat→Value):cs.length=n*sz→n≤cap→cap≤maxLen→b<w.heap.size→¬ O b→
   (∀j c,cs[j]?=some c→w.cell? ⟨b,off+j,none⟩=some (f j))→(∀j c,cs[j]?=some c→RD w O (f j) c)→RD w O (.slice (some ⟨b,off,none⟩) n cap) (.sl sz n cs)
inductive RC (w:World) (L:Nat→Prop) (ρ:Pl):Value→C→Prop
 | d (v:Value) (x:D):RD w (Occ L ρ) v x→RC w L ρ v (.d x)
 | ptr (id off b cap:Nat):L id→ρ id=some (b,cap)→RC w L ρ (.pointer (some ⟨b,off,none⟩)) (.ptr id off)
 | hd (k:HK) (id b cap:Nat):L id→ρ id=some (b,cap)→RC w L ρ (k.val b) (.hd k id)
 | nilm:RC w L ρ (.map none) .nilm
 | nilp:RC w L ρ (.pointer none) .nilp
 | nilf:RC w L ρ .nilFunc .nilf
 | nils:RC w L ρ (.slice none 0 0) .nils
 | eptr (b o off:Nat) (cs:List D) (f:Nat→Value):b<w.heap.size→¬ Occ L ρ b→(∀j c,cs[j]?=some c→w.cell? ⟨b,o+j,none⟩=some (f j))→(∀j c,cs[j]?=some c→RD w (Occ L ρ) (f j) c)→
   RC w L ρ (.pointer (some ⟨b,o+off,none⟩)) (.eptr cs off)
 | own (id sz off n b cap:Nat):L id→ρ id=some (b,cap)→off+n≤cap→cap≤maxLen→RC w L ρ (.slice (some ⟨b,off*sz,none⟩) n (cap-off)) (.own id sz off n)
 | own0 (id sz:Nat):L id→ρ id=none→RC w L ρ (.slice none 0 0) (.own id sz 0 0)
 | fn (f:FuncId) (fs caps:List C) (us vs:Array Value):us.size=fs.length→(∀j c,fs[j]?=some c→RC w L ρ (us.getD j undef) c)→vs.size=caps.length→(∀j c,caps[j]?=some c→RC w L ρ (vs.getD j undef) c)→RC w L ρ (.func (.func f) us vs) (.fn f fs caps)
 | ow (e:TypeId) (sz n b cap:Nat) (cs:List D) (vs:Array Value):ρ.F b→w.heap[b]?=some (.cells vs e (0,0))→vs.size=cap*sz→n≤cap→cap≤maxLen→0<sz→cs.length=n*sz→(∀j c,cs[j]?=some c→RD w (Occ L ρ) (vs.getD j undef) c)→RC w L ρ (.slice (some ⟨b,0,none⟩) n cap) (.ow e sz n cs)
 | ow0 (e:TypeId) (sz:Nat):0<sz→RC w L ρ (.slice none 0 0) (.ow e sz 0 [])
 | clp (A:Option Addr) (sz n:Nat) (cs:List D):RD w (Occ L ρ) (.slice A n n) (.sl sz n cs)→RC w L ρ (.slice A n n) (.clp sz n cs)
 | any (v:Value):RC w L ρ v .any
inductive RR (w:World) (L:Nat→Prop) (ρ:Pl):Value→R→Prop
 | c (v:Value) (x:C):RC w L ρ v x→RR w L ρ v (.c x)
 | agg (vs:Array Value) (xs:List C):vs.size=xs.length→(∀j c,xs[j]?=some c→RC w L ρ (vs.getD j undef) c)→RR w L ρ (.agg vs) (.agg xs)
 | tup (vs:Array Value) (xs:List R):vs.size=xs.length→(∀j c,xs[j]?=some c→RR w L ρ (vs.getD j undef) c)→RR w L ρ (.tuple vs) (.tup xs)
 | any (v:Value):RR w L ρ v .any
def HO (w:World) (L:Nat→Prop) (ρ:Pl) (b:Nat):AO→Prop
 | .mp es ck=>∃mes:Array MapEntry,w.heap[b]?=some (.map mes ck)∧mes.size=es.length∧∀j e,es[j]?=some e→(mes.getD j default).key=e.1∧RR w L ρ (mes.getD j default).val e.2.1∧(mes.getD j default).born=e.2.2
 | .si s pos=>w.heap[b]?=some (.stringIter s pos)
 | .lp _ tm ps assign body st pend=>∃r:Loop,w.heap[b]?=some (.loop r)∧r.state=st∧r.pending=pend∧r.params.toList=ps∧r.assign=assign∧r.body=body∧r.tmps.size=tm.length∧∀j x,tm[j]?=some x→RR w L ρ (r.tmps.getD j undef) x
 | .df=>w.heap[b]?=some (.deferred (some []))
 | .mi m since seen=>∃mb:Option Nat,RR w L ρ (.map mb) m∧w.heap[b]?=some (.mapIter mb since seen.reverse.toArray since)
 | .m1 _ _ _ _=>False
theorem HO.map {w w':World} {L L':Nat→Prop} {ρ ρ':Pl} {b:Nat} {f:R→R} (hb:w'.heap[b]?=w.heap[b]?):∀{o:AO},(∀v x,x∈o.Rs→RR w L ρ v x→RR w' L' ρ' v (f x))→HO w L ρ b o→HO w' L' ρ' b (o.mapR f)
 | .mp es ck,hf,⟨mes,h1,h2,h3⟩=>⟨mes,hb.trans h1,by simp_all,fun j e hj=>by
   rw[qQL] at hj;obtain⟨e0,g1,g2⟩:=qQK.1 hj;obtain⟨k,d,i⟩:=h3 j e0 g1;subst g2;exact⟨k,hf _ _ (qRi.2 ⟨e0,qQy g1,rfl⟩) d,i⟩⟩
 | .si s pos,_,h=>hb.trans h
 | .lp g tm ps a c st p,hf,⟨r,h1,h2,h3,d,i,h7,h8,h9⟩=>⟨r,hb.trans h1,h2,h3,d,i,h7,by simp_all,fun j x hj=>by
   rw[qQL] at hj;obtain⟨e0,g1,g2⟩:=qQK.1 hj;subst g2;exact hf _ _ (qQy g1) (h9 j e0 g1)⟩
 | .df,_,h=>hb.trans h
 | .mi m since seen,hf,⟨mb,h1,h2⟩=>⟨mb,hf _ _ (qRo.2 rfl) h1,hb.trans h2⟩
 | .m1 _ _ _ _,_,h=>h.elim
theorem AO.Rs_mapR (f:R→R) (o:AO):(o.mapR f).Rs=o.Rs.map f:=by cases o<;>simp[AO.mapR,AO.Rs]
theorem AO.mapR_congr {f g:R→R} {o:AO} (h:∀x∈o.Rs,g x=f x):o.mapR g=o.mapR f:=by
 cases o with
 | mp n k=>
  simp only[AO.mapR];rw[List.map_congr_left (fun e c=>by rw[h e.2.1 (qRi.2 ⟨e,c,rfl⟩)])]
 | lp g d j a b i p=>
  simp only[AO.mapR];rw[List.map_congr_left (l:=d) (g:=f) (fun e c=>h e c)]
 | mi m a b=>simp only[AO.mapR];rw[h m (qRo.2 rfl)]
 | _=>rfl
theorem AO.mapR_id (o:AO):o.mapR (fun x=>x)=o:=by cases o<;>simp[AO.mapR]
def HB (w:World) (L:Nat→Prop) (ρ:Pl) (b cap:Nat):B→Prop
 | .blk t cs=>∃vs:Array Value,w.heap[b]?=some (.cells vs t (0,0))∧vs.size=cs.length∧∀j c,cs[j]?=some c→RC w L ρ (vs.getD j undef) c
 | .row e sz cs=>∃vs:Array Value,w.heap[b]?=some (.cells vs e (0,0))∧cs.length≤vs.size∧vs.size=cap*sz∧cap≤maxLen∧0<sz∧∀j c,cs[j]?=some c→RC w L ρ (vs.getD j undef) c
 | .ob o=>HO w L ρ b o
 | .dead=>True
structure ql2 (O:Nat→Prop) (w w':World):Prop where
 os:w'.os=w.os
 tape:w'.tape=w.tape
 output:w'.output=w.output
 size:w.heap.size≤w'.heap.size
 block:∀k,k<w.heap.size→¬ O k→w'.heap[k]?=w.heap[k]?
theorem ql2.refl (O:Nat→Prop) (w:World):ql2 O w w:=⟨rfl,rfl,rfl,qQN _,fun _ _ _=>rfl⟩
def S.live (s:S) (i:Nat):Prop:=(s.blk i).live=true
structure Cx where
 O:Nat→Prop
 w:World
 ρ:Pl
 k:Nat
 ro:Option Nat
def Cx.mine (cx:Cx) (d:Nat):Prop:=(cx.O d∨cx.w.heap.size≤d)∧¬ cx.ρ.F d
def mark (D:Nat):Deferred:={ target := .collected D,args:=#[] }
structure Hd (cx:Cx) (ds:List Deferred) (w:World) (O:Nat→Prop):Prop where
 ms:∃Ds:List Nat,ds=Ds.map mark∧Ds.Nodup∧∀D∈Ds,cx.w.heap.size≤D∧D<w.heap.size∧¬ O D∧w.heap[D]?=some (.deferred (some []))
theorem Hd.mono {cx:Cx} {ds:List Deferred} {w w':World} {O O':Nat→Prop} (h:Hd cx ds w O) (hsz:w.heap.size≤w'.heap.size) (hb:∀b,b<w.heap.size→¬ O b→w'.heap[b]?=w.heap[b]?) (ho:∀b,b<w.heap.size→O' b→O b):Hd cx ds w' O':=by obtain⟨⟨Ds,d,c,e⟩⟩:=h;refine⟨⟨Ds,d,c,fun D f=>?_⟩⟩;grind
theorem Hd.none {cx:Cx} {w:World} {O:Nat→Prop}:Hd cx [] w O:=⟨⟨[],rfl,List.nodup_nil,fun D b=>by simp at b⟩⟩
def C.isOw:C→Bool
 | .ow _ _ _ _=>true
 | _=>false
def C.noow:C→Bool
 | .ow _ _ _ _=>false
 | _=>true
theorem C.noow_is {c:C} (h:c.noow=true):c.isOw=false:=by cases c<;>first|rfl|cases h
def B.cells:B→List C
 | .blk _ cs=>cs
 | .row _ _ cs=>cs
 | .ob _=>[]
 | .dead=>[]
def qeA (s:S) (ρ:Pl) (w:World) (i j d:Nat):Prop:=∃b cap x n c,s.live i∧ρ i=some (b,cap)∧(s.blk i).cells[j]?=some x∧x.isOw=true∧w.cell? ⟨b,j,none⟩=some (.slice (some ⟨d,0,none⟩) n c)
structure Ows (Q:Nat→Prop) (s:S) (ρ:Pl) (w:World):Prop where
 lt:∀b,ρ.F b→b<w.heap.size
 one:∀i j i' j' d,qeA s ρ w i j d→qeA s ρ w i' j' d→i=i'∧j=j'
 new:∀i j d,qeA s ρ w i j d→Q d
theorem Ows.map {m:Nat→Prop} {s s':S} {ρ ρ':Pl} {w w':World} (h:Ows m s ρ w) (f:Nat→Nat) (hlt:∀b,ρ'.F b→b<w'.heap.size) (hf:∀i i',s'.live i→s'.live i'→f i=f i'→i=i') (hm:∀i j d,qeA s' ρ' w' i j d→qeA s ρ w (f i) j d):Ows m s' ρ' w':=
 ⟨hlt,fun i j i' g d c e=>by obtain⟨q,l⟩:=h.one _ _ _ _ _ (hm _ _ _ c) (hm _ _ _ e);obtain⟨_,_,_,_,_,k,-⟩:=c;obtain⟨_,_,_,_,_,n,-⟩:=e;grind,fun i j d c=>h.new _ _ _ (hm _ _ _ c)⟩
theorem Ows.sub {m:Nat→Prop} {s s':S} {ρ ρ':Pl} {w w':World} (h:Ows m s ρ w) (hlt:∀b,ρ'.F b→b<w'.heap.size) (hm:∀i j d,qeA s' ρ' w' i j d→qeA s ρ w i j d):Ows m s' ρ' w':=h.map id hlt (fun _ _ _ _ e=>e) hm
structure Sim (cx:Cx) (ρ:Pl) (s:S) (a:Act) (w:World):Prop where
 hd:Hd cx a.defers w (Occ s.live ρ)
 size:a.tmps.size=s.n
 tm:∀i,RR w s.live ρ (a.tmps.getD i undef) (s.get i)
 hp:∀i b cap,s.live i→ρ i=some (b,cap)→b<w.heap.size∧HB w s.live ρ b cap (s.blk i)
 hp0:∀i,s.live i→ρ i=none→∃e sz,s.blk i = .row e sz []
 out:∀i b cap,s.live i→ρ i=some (b,cap)→cx.O b∨cx.w.heap.size≤b
 inj:∀i j b c c',s.live i→s.live j→ρ i=some (b,c)→ρ j=some (b,c')→i=j
 nx:∀i,s.live i→i<s.nx
 kept:ql2 cx.O cx.w w
 oldF:∀b,cx.ρ.F b→ρ.F b∧b<cx.w.heap.size
 pin:∀i,i<cx.k→ρ i=cx.ρ i∧(s.blk i).isBlk=true
 disj:∀i b cap,s.live i→ρ i=some (b,cap)→¬ ρ.F b
 ows:Ows cx.mine s ρ w
structure q8Y (w:World) (L:Nat→Prop) (ρ:Pl) (w':World) (L':Nat→Prop) (ρ':Pl):Prop where
 size:w.heap.size≤w'.heap.size
 block:∀b,b<w.heap.size→¬ Occ L ρ b→w'.heap[b]?=w.heap[b]?
 occ:∀b,b<w.heap.size→Occ L' ρ' b→Occ L ρ b
 ids:∀i,L i→L' i∧ρ' i=ρ i
 frm:∀b,ρ.F b→ρ'.F b∧(b<w.heap.size→w'.heap[b]?=w.heap[b]?)
section
variable {w w':World} {L L':Nat→Prop} {ρ ρ':Pl}
theorem qbs {w:World} {b:Nat} {o:Obj} (h:w.heap[b]?=some o):b<w.heap.size:=by grind
theorem q8Y.cell (h:q8Y w L ρ w' L' ρ') {b o:Nat} (hb:b<w.heap.size) (hO:¬ Occ L ρ b):w'.cell? ⟨b,o,none⟩=w.cell? ⟨b,o,none⟩:=
 World.cell?_of_block (w:=w) (h.block b hb hO)
theorem Hd.stay {cx:Cx} {ds:List Deferred} (hs:q8Y w L ρ w' L' ρ') (h:Hd cx ds w (Occ L ρ)):Hd cx ds w' (Occ L' ρ'):=h.mono hs.size hs.block hs.occ
theorem RD.stay (hs:q8Y w L ρ w' L' ρ') {v:Value} {x:D} (h:RD w (Occ L ρ) v x):RD w' (Occ L' ρ') v x:=by
 induction h with
 | int k n=>exact .int k n
 | bool b=>exact .bool b
 | str s=>exact .str s
 | nil A d m g e=>exact .nil A d m g e
 | sl b i n d m r f g e u l q y F z=>
  exact .sl b i n d m r f g e u (qR7 l hs.size) (fun h=>q (hs.occ b l h)) (fun j c E=>(hs.cell l q).trans (y j c E)) z
theorem RC.stay (hs:q8Y w L ρ w' L' ρ') {v:Value} {x:C} (h:RC w L ρ v x):RC w' L' ρ' v x:=by
 induction h with
 | d v x h=>exact .d v x (h.stay hs)
 | ptr id m b i g l=>exact .ptr id m b i (hs.ids id g).1 ((hs.ids id g).2.trans l)
 | hd k id b i g l=>exact .hd k id b i (hs.ids id g).1 ((hs.ids id g).2.trans l)
 | nilp=>exact .nilp
 | nilf=>exact .nilf
 | nilm=>exact .nilm
 | nils=>exact .nils
 | eptr b o m y f g l r u=>exact .eptr b o m y f (qR7 g hs.size) (fun h=>l (hs.occ b g h)) (fun j c z=>(hs.cell g l).trans (r j c z)) (fun j c z=>(u j c z).stay hs)
 | own id q m n b i g l r u=>exact .own id q m n b i (hs.ids id g).1 ((hs.ids id g).2.trans l) r u
 | own0 id q g l=>exact .own0 id q (hs.ids id g).1 ((hs.ids id g).2.trans l)
 | fn f I E V H g l r u F G=>exact .fn f I E V H g F r G
 | ow e q n b i y H g l r u U M O N=>exact .ow e q n b i y H (hs.frm b g).1 (((hs.frm b g).2 (qbs l)).trans l) r u U M O (fun j c z=>(N j c z).stay hs)
 | ow0 e q g=>exact .ow0 e q g
 | clp A q n y h=>exact .clp A q n y (h.stay hs)
 | any v=>exact .any v
theorem RR.stay (hs:q8Y w L ρ w' L' ρ') {v:Value} {x:R} (h:RR w L ρ v x):RR w' L' ρ' v x:=by
 induction h with
 | c v x h=>exact .c v x (h.stay hs)
 | agg b e d f=>exact .agg b e d (fun j c i=>(f j c i).stay hs)
 | tup b e d f g=>exact .tup b e d g
 | any v=>exact .any v
theorem HB.stay (hs:q8Y w L ρ w' L' ρ') {b cap:Nat} {x:B} (hb:w'.heap[b]?=w.heap[b]?) (h:HB w L ρ b cap x):HB w' L' ρ' b cap x:=by
 cases x with
 | blk t m=>obtain⟨g,i,d,l⟩:=h;exact⟨g,hb.trans i,d,fun j c k=>(l j c k).stay hs⟩
 | row e y m=>obtain⟨g,i,d,l,q,r,u⟩:=h;exact⟨g,hb.trans i,d,l,q,r,fun j c k=>(u j c k).stay hs⟩
 | ob o=>exact AO.mapR_id o ▸ HO.map (f:=fun x=>x) hb (fun v x _ n=>n.stay hs) h
 | dead=>trivial
end
def S.put (s:S) (dst:Option Nat) (r:R):S:=
 match dst with
 | some d=>{ s with tm:=(d,r)::s.tm }
 | none=>s
theorem qsX (a:Act) (d i:Nat) (v:Value) (hd:d<a.tmps.size):(a.put (some d) v).tmps.getD i undef=if d=i then v else a.tmps.getD i undef:=by simp only[Act.put,qQD,Array.getElem?_setIfInBounds,hd,if_true];grind
theorem Sim.put {cx:Cx} {ρ:Pl} {s:S} {a:Act} {w:World} (h:Sim cx ρ s a w) {dst:Option Nat} {v:Value} {r:R} (hd:∀d,dst=some d→d<s.n) (hr:RR w s.live ρ v r) :
  Sim cx ρ (s.put dst r) (a.put dst v) w:=by
 cases dst with
 | none=>exact h
 | some d=>
  refine⟨h.hd,by simp[Act.put,S.put,h.size],fun i=>?_,h.hp,h.hp0,h.out,h.inj,h.nx,h.kept,h.oldF,h.pin,h.disj,⟨h.ows.lt,h.ows.one,h.ows.new⟩⟩
  rw[qsX a d i v (by rw[h.size];simp_all)]
  show RR w s.live ρ _ (lk ((d,r)::s.tm) i .any);unfold lk;split
  ·exact hr
  ·exact h.tm i
end
noncomputable section
open Go.RowKit
inductive Kd where
 | int (k:IntKind)|bool|str|ptr (e:TypeId)|sl (e:TypeId)|arr (len:Nat) (e:TypeId)|mp (k e:TypeId)|st (fs:List (Nat×TypeId))|fn|other
 deriving DecidableEq,Inhabited
structure Ty where
 k:TypeId→Kd
 sz:TypeId→Nat
 by_:TypeId→Nat
 zero:TypeId→List C
 ip:FuncId→Option (List Int→List Int)
 sf:FuncId→Option TypeId
 ipk:Bool
 bk:TypeId→Nat→Bool
def q7m:TypeDesc→Kd
 | .int k => .int k
 | .bool => .bool
 | .string => .str
 | .pointer e => .ptr e
 | .slice e => .sl e
 | .array n e => .arr n e
 | .struct fs => .st (fs.toList.map fun f=>(f.offset,f.type))
 | .func _ _ _ => .fn
 | .map k e => .mp k e
 | _ => .other
def Kd.ag:Kd→Bool
 | .st _ | .arr _ _=>true
 | _=>false
def zok (k:Kd):Value→Bool
 | .agg _=>k.ag
 | _ => !k.ag
def okZ:Value→C→Bool
 | .int k n,.d (.int k' n')=>k==k'&&n==n'
 | .bool b,.d (.bool b')=>b==b'
 | .string s,.d (.str s')=>decide (s=s')
 | .pointer none,.nilp=>true
 | .nilFunc,.nilf=>true
 | .slice none 0 0,.nils=>true
 | .map none,.nilm=>true
 | _,.any=>true
 | _,_=>false
def qq3:List Value→List C→Bool
 | [],[]=>true
 | v::vs,c::cs=>okZ v c&&qq3 vs cs
 | _,_=>false
def Ty.okAt (P:Program) (T:Ty) (t:TypeId):Bool:=
 match P.underlying t,P.info? t with
 | some d,some i=>q7m d==T.k t&&i.size==T.sz t&&i.bytes==T.by_ t&&(match i.zero with|some z=>qq3 z.cells.toList (T.zero t)&&zok (T.k t) z|none=>false)
 | _,_=>false
def ltB (f:Int→Int→Option Int) (x y:Int):Bool:=match f x y with|some c=>decide (c<0)|none=>false
def okB (f:Int→Int→Option Int) (zs:List Int):Bool:=
 (zs.all fun x=>zs.all fun y=>(f x y).isSome)&&(zs.all fun x => !ltB f x x) &&
 (zs.all fun x=>zs.all fun y=>decide (x=y)||ltB f x y||ltB f y x) &&
 (zs.all fun x=>zs.all fun y=>zs.all fun z => !(ltB f x y&&ltB f y z)||ltB f x z)
def qeT (f:Int→Int→Option Int) (x:Int):List Int→List Int
 | []=>[x]
 | y::l=>if ltB f y x=true then y::qeT f x l else x::y::l
def q0v (f:Int→Int→Option Int):List Int→List Int
 | []=>[]
 | x::l=>qeT f x (q0v f l)
structure qFx (P:Program) (g:FuncId) (e:TypeId):Prop where
 ent:∃fn,P.funcs[g]?=some fn∧(fn.name == "runtime.NumGoroutine")=false∧fn.body.isNone=false
 row:∀(c:FuncId) (f:Int→Int→Option Int) (b cap:Nat) (zs:List Int) (w:World) (cur:Array Value),w.heap[b]?=some (.cells cur e (0,0))→cur.toList.take zs.length=zs.map (Value.int .i64)→0<zs.length→zs.length<4611686018427387904→okB f zs=true→
  (∀args w,(callFunc c args).run P w = .ok (.enter c args) w)→
  (∀x∈zs,∀y∈zs,∀W:World,Calls P c #[.int .i64 x,.int .i64 y] W fun e' W'=>(∃v,f x y=some v∧e' = .returned (.int .i64 v))∧W.grownBy W' none)→
  Calls P g #[.slice (some ⟨b,0,none⟩) zs.length cap,.func (.func c) #[] #[]] w fun e' w'=>e' = .returned (.tuple #[])∧w.grownBy w' (some b)∧∃cur':Array Value,w'.heap[b]?=some (.cells cur' e (0,0))∧cur'.size=cur.size∧cur'.toList.take zs.length=(q0v f zs).map (Value.int .i64)
structure qF8 (P:Program) (g:FuncId) (h:List Int→List Int):Prop where
 ent:∃fn,P.funcs[g]?=some fn∧(fn.name == "runtime.NumGoroutine")=false∧fn.body.isNone=false
 len:∀l,(h l).length=l.length
 row:∀(b cap:Nat) (zs:List Int) (w:World) (cur:Array Value) (e:TypeId),w.heap[b]?=some (.cells cur e (0,0))→cur.toList.take zs.length=zs.map (Value.int .i64)→zs.length<4611686018427387904→
  Calls P g #[.slice (some ⟨b,0,none⟩) zs.length cap] w fun e' w'=>e' = .returned (.tuple #[])∧w.grownBy w' (some b)∧∃cur':Array Value,w'.heap[b]?=some (.cells cur' e (0,0))∧cur'.size=cur.size∧cur'.toList.take zs.length=(h zs).map (Value.int .i64)
 none_:∀w:World,Calls P g #[.slice none 0 0] w fun e' w'=>e' = .returned (.tuple #[])∧w'=w
structure Ag (P:Program) (T:Ty):Prop where
 ty:∀t,T.k t = .other∨Ty.okAt P T t=true
 ip:∀g h,T.ip g=some h→qF8 P g h
 sf:∀g e,T.sf g=some e→qFx P g e
theorem qEp {w:World} {L:Nat→Prop} {ρ:Pl} {v:Value} {c:C} (h:okZ v c=true):RC w L ρ v c:=by
 unfold okZ at h;split at h
 ·rw[qR3] at h;obtain⟨b,e⟩:=h;obtain rfl:=eq_of_beq b;obtain rfl:=eq_of_beq e;exact .d _ _ (.int _ _)
 ·obtain rfl:=eq_of_beq h;exact .d _ _ (.bool _)
 ·obtain rfl:=of_decide_eq_true h;exact .d _ _ (.str _)
 ·exact .nilp
 ·exact .nilf
 ·exact .nils
 ·exact .nilm
 ·exact .any _
 ·cases h
theorem q7t {w:World} {L:Nat→Prop} {ρ:Pl}:∀{vs:List Value} {cs:List C},qq3 vs cs=true→vs.length=cs.length∧∀j c,cs[j]?=some c→RC w L ρ (vs.getD j undef) c
 | [],[],_=>⟨rfl,fun j c h=>by simp at h⟩
 | v::vs,c::cs,h=>by
  simp only[qq3,qR3] at h;obtain⟨h1,h2⟩:=q7t (w:=w) (L:=L) (ρ:=ρ) h.2;grind [List.getElem?_cons_zero,Option.some.injEq,qEp]
 | [],_::_,h=>by grind [qq3]
 | _::_,[],h=>by grind [qq3]
structure qN3 (P:Program) (T:Ty) (t:TypeId) (d:TypeDesc) (i:TypeInfo) (z:Value):Prop where
 ud:P.underlying t=some d
 info:P.info? t=some i
 kd:q7m d=T.k t
 sz:i.size=T.sz t
 by_:i.bytes=T.by_ t
 zero:i.zero=some z
 zs:qq3 z.cells.toList (T.zero t)=true
 zk:zok (T.k t) z=true
theorem Ag.at_ {P:Program} {T:Ty} (h:Ag P T) {t:TypeId} (hk:T.k t ≠ .other):∃d i z,qN3 P T t d i z:=by
 have c:=(h.ty t).resolve_left hk;unfold Ty.okAt at c;split at c
 ·rename_i d i g f;simp only[qR3,beq_iff_eq] at c;obtain⟨⟨⟨e,j⟩,l⟩,b⟩:=c;split at b
  ·rename_i z m;rw[qR3] at b;exact⟨d,i,z,g,f,e,j,l,m,b.1,b.2⟩
  ·cases b
 ·cases c
def q1n:Value→R
 | .int k n => .c (.d (.int k n))
 | .bool b => .c (.d (.bool b))
 | .string s => .c (.d (.str s))
 | .pointer none => .c .nilp
 | .nilFunc => .c .nilf
 | .slice none 0 0 => .c .nils
 | .map none => .c .nilm
 | _ => .any
def S.ev (s:S):Operand→R
 | .tmp t=>s.get t
 | .const v=>q1n v
 | .func f => .c (.fn f [] [])
 | .global _ => .any
theorem qkn {w:World} {L:Nat→Prop} {ρ:Pl} (v:Value):RR w L ρ v (q1n v):=by
 unfold q1n;split
 ·exact .c _ _ (.d _ _ (.int _ _))
 ·exact .c _ _ (.d _ _ (.bool _))
 ·exact .c _ _ (.d _ _ (.str _))
 ·exact .c _ _ .nilp
 ·exact .c _ _ .nilf
 ·exact .c _ _ .nils
 ·exact .c _ _ .nilm
 ·exact .any _
section
variable {cx:Cx} {ρ:Pl} {s:S} {a:Act} {w:World}
theorem Sim.ev (h:Sim cx ρ s a w) (x:Operand):RR w s.live ρ (a.eval x) (s.ev x):=by
 cases x with
 | tmp t=>exact h.tm t
 | const v=>exact qkn v
 | func f=>exact .c _ _ (.fn f [] [] #[] #[] rfl (fun j c h=>by simp at h) rfl (fun j c h=>by simp at h))
 | global g=>exact .any _
end
section inversions
variable {w:World} {L:Nat→Prop} {ρ:Pl} {v:Value}
theorem RR.inv_c {x:C} (h:RR w L ρ v (.c x)):RC w L ρ v x:=by cases h;assumption
theorem RR.inv_int {k:IntKind} {n:Int} (h:RR w L ρ v (.c (.d (.int k n)))):v = .int k n:=by cases h with|c _ _ h=>cases h with|d _ _ h=>cases h;rfl
theorem RR.inv_bool {b:Bool} (h:RR w L ρ v (.c (.d (.bool b)))):v = .bool b:=by cases h with|c _ _ h=>cases h with|d _ _ h=>cases h;rfl
theorem RR.inv_str {s:ByteArray} (h:RR w L ρ v (.c (.d (.str s)))):v = .string s:=by cases h with|c _ _ h=>cases h with|d _ _ h=>cases h;rfl
theorem RR.inv_ptr {id off:Nat} (h:RR w L ρ v (.c (.ptr id off))):∃b cap,L id∧ρ id=some (b,cap)∧v = .pointer (some ⟨b,off,none⟩):=by cases h with|c _ _ h=>cases h with|ptr _ _ b cap e d=>simp_all
theorem RR.inv_hd {k:HK} {id:Nat} (h:RR w L ρ v (.c (.hd k id))):∃b cap,L id∧ρ id=some (b,cap)∧v=k.val b:=by cases h with|c _ _ h=>cases h with|hd _ _ b cap e d=>simp_all
theorem RR.inv_nilm (h:RR w L ρ v (.c .nilm)):v = .map none:=by cases h with|c _ _ h=>cases h;rfl
theorem RR.inv_nilp (h:RR w L ρ v (.c .nilp)):v = .pointer none:=by cases h with|c _ _ h=>cases h;rfl
theorem RR.inv_nils (h:RR w L ρ v (.c .nils)):v = .slice none 0 0:=by cases h with|c _ _ h=>cases h;rfl
theorem RR.inv_fn {f:FuncId} {fs caps:List C} (h:RR w L ρ v (.c (.fn f fs caps))):∃us vs,v = .func (.func f) us vs∧us.size=fs.length∧(∀j c,fs[j]?=some c→RC w L ρ (us.getD j undef) c)∧vs.size=caps.length∧∀j c,caps[j]?=some c→RC w L ρ (vs.getD j undef) c:=by cases h with|c _ _ h=>cases h with|fn _ _ _ us vs d b e g=>grind
theorem RR.inv_agg {xs:List C} (h:RR w L ρ v (.agg xs)):∃vs,v = .agg vs∧vs.size=xs.length∧∀j c,xs[j]?=some c→RC w L ρ (vs.getD j undef) c:=by cases h with|agg vs _ d b=>simp_all
theorem RR.inv_tup {xs:List R} (h:RR w L ρ v (.tup xs)):∃vs,v = .tuple vs∧vs.size=xs.length∧∀j c,xs[j]?=some c→RR w L ρ (vs.getD j undef) c:=by cases h with|tup vs _ d b=>simp_all
theorem RR.inv_own {id sz off n:Nat} (h:RR w L ρ v (.c (.own id sz off n))):L id∧((∃b cap,ρ id=some (b,cap)∧off+n≤cap∧cap≤maxLen∧v = .slice (some ⟨b,off*sz,none⟩) n (cap-off))∨(ρ id=none∧v = .slice none 0 0∧off=0∧n=0)):=by
 cases h with|c _ _ h=>cases h with
  | own _ _ _ _ b cap e d f g=>grind
  | own0 _ _ e d=>simp_all
theorem RR.inv_sl {sz n:Nat} {cs:List D} (h:RR w L ρ v (.c (.d (.sl sz n cs)))):∃A cap,v = .slice A n cap∧n≤cap∧cap≤maxLen∧(A=none→cap=0)∧cs.length=n*sz∧
  (n=0∨∃(b off:Nat) (f:Nat→Value),A=some ⟨b,off,none⟩∧b<w.heap.size∧¬ Occ L ρ b∧(∀j c,cs[j]?=some c→w.cell? ⟨b,off+j,none⟩=some (f j))∧(∀j c,cs[j]?=some c→RD w (Occ L ρ) (f j) c)):=by
 cases h with|c _ _ h=>cases h with|d _ _ h=>cases h with
  | nil A cap sz g e=>grind
  | sl b off n cap sz cs f g e q k l m i=>exact⟨_,cap,rfl,e,q,(fun h=>by cases h),g,.inr ⟨b,off,f,rfl,k,l,m,i⟩⟩
theorem RR.inv_eptr {cs:List D} {off:Nat} (h:RR w L ρ v (.c (.eptr cs off))):∃(b o:Nat) (f:Nat→Value),v = .pointer (some ⟨b,o+off,none⟩)∧b<w.heap.size∧¬ Occ L ρ b∧(∀j c,cs[j]?=some c→w.cell? ⟨b,o+j,none⟩=some (f j))∧(∀j c,cs[j]?=some c→RD w (Occ L ρ) (f j) c):=by cases h with|c _ _ h=>cases h with|eptr b o _ _ f e d g i=>exact⟨b,o,f,rfl,e,d,g,i⟩
end inversions
theorem HB.cell {w:World} {L:Nat→Prop} {ρ:Pl} {b cap:Nat} {x:B} (h:HB w L ρ b cap x) {j:Nat} {c:C} (hc:x.cells[j]?=some c):∃v,w.cell? ⟨b,j,none⟩=some v∧RC w L ρ v c:=by
 cases x with
 | blk t l=>
  obtain⟨d,k,f,g⟩:=h;have m:j<d.size:=by rw[f];exact(qQB.1 hc).1
  refine⟨d.getD j undef,?_,g j c hc⟩;simp_all [World.cell?]
 | row e q l=>
  obtain⟨d,k,f,g,r,n,i⟩:=h;have m:j<d.size:=by have:=(qQB.1 hc).1;exact qR7 this f
  refine⟨d.getD j undef,?_,i j c hc⟩;simp_all [World.cell?]
 | ob o=>grind [B.cells]
 | dead=>grind [B.cells]
end
noncomputable section
open Go.RowKit
theorem q02 (b o j:Nat):(⟨b,o,none⟩:Addr).add j=⟨b,o+j,none⟩:=by unfold Addr.add;simp_all
def S.up (s:S) (us:List (Nat×B)):S:={ s with hp:=us++s.hp,nx:=us.foldl (fun m u=>max m (u.1+1)) s.nx }
theorem S.blk_up (s:S) (p i:Nat) (x:B):(s.up [(p,x)]).blk i=if p=i then x else s.blk i:=rfl
section
variable {cx:Cx} {ρ:Pl} {s:S} {a:Act} {w:World}
def Pl.set (ρ:Pl) (p b cap:Nat):Pl:=⟨fun i=>if i=p then some (b,cap) else ρ i,ρ.F⟩
theorem q4X {p:Nat} {x:B} (hp:¬ s.live p) (o:Obj) (cap:Nat):q8Y w s.live ρ (w.alloc o) (s.up [(p,x)]).live (ρ.set p w.heap.size cap):=by
 have e:∀i,s.live i→i≠p:=fun i d h=>hp (h ▸ d);refine⟨by simp,fun b g _=>Below.heap_alloc w o b g,fun b g k=>?_,fun i d=>⟨?_,?_⟩,?_⟩
 ·rcases k with j|⟨i,c,d,f⟩
  ·exact .inl j
  replace f:(if i=p then some (w.heap.size,cap) else ρ i)=some (b,c):=f
  by_cases h:i=p
  ·simp_all
  ·rw[if_neg h] at f;refine .inr ⟨i,c,?_,f⟩;unfold S.live at d ⊢;rw[S.blk_up,if_neg (Ne.symm h)] at d;exact d
 ·unfold S.live at d ⊢;rw[S.blk_up,if_neg (Ne.symm (e i d))];exact d
 ·exact if_neg (e i d)
 ·intro b j;exact⟨j,fun g=>Below.heap_alloc w o b g⟩
theorem Sim.new (h:Sim cx ρ s a w) {p:Nat} {x:B} (hp:¬ s.live p) {o:Obj} {cap:Nat}
  (hb:HB (w.alloc o) (s.up [(p,x)]).live (ρ.set p w.heap.size cap) w.heap.size cap x) (hx:x.cells.all C.noow=true:=by rfl):Sim cx (ρ.set p w.heap.size cap) (s.up [(p,x)]) a (w.alloc o):=by
 have I:=q4X (w:=w) (ρ:=ρ) (x:=x) hp o cap;have z:∀i,(s.up [(p,x)]).live i→i≠p→s.live i:=fun i l g=>by unfold S.live at l ⊢;rw[S.blk_up,if_neg (Ne.symm g)] at l;exact l
 have A:∀i,i≠p→ρ.set p w.heap.size cap i=ρ i:=fun i g=>if_neg g;have u:ρ.set p w.heap.size cap p=some (w.heap.size,cap):=if_pos rfl;refine⟨h.hd.stay I,h.size,fun i=>(h.tm i).stay I,fun i b c l f=>?_,fun i l f=>?_,fun i b c l f=>?_,fun i j b c H l W f m=>?_,fun i l=>?_,?_,h.oldF,fun i l=>?_,fun i b c l f=>?_,?_⟩
 ·by_cases g:i=p
  ·subst g;rw[u] at f;injection f with f;injection f with F E;subst F E;rw[S.blk_up,if_pos rfl];simp_all
  ·rw[A i g] at f;obtain⟨F,E⟩:=h.hp i b c (z i l g) f;rw[S.blk_up,if_neg (Ne.symm g)];exact⟨by simp;omega,E.stay I (Below.heap_alloc w o b F)⟩
 ·by_cases g:i=p
  ·simp_all
  ·rw[A i g] at f;rw[S.blk_up,if_neg (Ne.symm g)];exact h.hp0 i (z i l g) f
 ·by_cases g:i=p
  ·subst g;rw[u] at f;injection f with f;injection f with F E;subst F;exact .inr h.kept.size
  ·rw[A i g] at f;exact h.out i b c (z i l g) f
 ·by_cases r:i=p
  ·by_cases q:j=p
   ·rw[r,q]
   ·subst r;rw[u] at f;rw[A j q] at m;injection f with f;injection f with F E;have:=(h.hp j b H (z j W q) m).1;omega
  ·by_cases q:j=p
   ·subst q;rw[u] at m;rw[A i r] at f;injection m with m;injection m with F E;have:=(h.hp i b c (z i l r) f).1;omega
   ·rw[A i r] at f;rw[A j q] at m;exact h.inj i j b c H (z i l r) (z j W q) f m
 ·show i<max s.nx (p+1);by_cases g:i=p
  ·omega
  ·have:=h.nx i (z i l g);omega
 ·exact⟨h.kept.os,h.kept.tape,h.kept.output,qR8 h.kept.size (by simp),fun k U Y=>(Below.heap_alloc w o k (qR7 U h.kept.size)).trans (h.kept.block k U Y)⟩
 ·obtain⟨F,E⟩:=h.pin i l;have g:i≠p:=fun e=>hp (by rw[←e];unfold S.live;exact B.live_of E)
  exact⟨(A i g).trans F,by rw[S.blk_up,if_neg (Ne.symm g)];exact E⟩
 ·by_cases g:i=p
  ·subst g;rw[u] at f;injection f with f;injection f with F E;intro O;have:=h.ows.lt b O;omega
  ·rw[A i g] at f;exact h.disj i b c (z i l g) f
 ·refine h.ows.sub (fun b O=>by have:=h.ows.lt b O;simp;omega) fun i j d hw=>?_
  obtain⟨b,c,y,n,H,V,M,G,Z,l5⟩:=hw;have g:i≠p:=fun e=>by subst e;rw[S.blk_up,if_pos rfl] at G;have:=C.noow_is (qQO.1 hx y (qQy G));simp_all
  rw[A i g] at M;rw[S.blk_up,if_neg (Ne.symm g)] at G;have N:=(h.hp i b c (z i V g) M).1;exact⟨b,c,y,n,H,z i V g,M,G,Z,by rw[←l5];exact(World.cell?_of_block (w:=w) (Below.heap_alloc w o b N)).symm⟩
theorem Sim.over (h:Sim cx ρ s a w) {id b cap:Nat} {x:B} (hi:s.live id) (hρ:ρ id=some (b,cap)) (hx:x.live=true) (hpin:id<cx.k→x.isBlk=true) {w':World} (hsz:w'.heap.size=w.heap.size)
  (hk:∀k,k≠b→w'.heap[k]?=w.heap[k]?) (ho:w'.os=w.os) (ht:w'.tape=w.tape) (hu:w'.output=w.output)
  (hb:HB w' (s.up [(id,x)]).live ρ b cap x) (hx2:∀(j:Nat) (y:C) (d n c:Nat),x.cells[j]?=some y→y.isOw=true→w'.cell? ⟨b,j,none⟩=some (.slice (some ⟨d,0,none⟩) n c)→∃z,(s.blk id).cells[j]?=some z∧z.isOw=true∧∃n c,w.cell? ⟨b,j,none⟩=some (.slice (some ⟨d,0,none⟩) n c)):Sim cx ρ (s.up [(id,x)]) a w'∧q8Y w s.live ρ w' (s.up [(id,x)]).live ρ:=by
 have q:∀i,(s.up [(id,x)]).live i↔s.live i:=fun i=>by
  unfold S.live;rw[S.blk_up];by_cases m:id=i
  ·subst m;rw[if_pos rfl];exact⟨fun _=>hi,fun _=>hx⟩
  simp_all
 have O:q8Y w s.live ρ w' (s.up [(id,x)]).live ρ:=by
  refine⟨by omega,fun k A H=>hk k (fun e=>H (.inr ⟨id,cap,hi,by simp_all⟩)),fun k A H=>?_,fun i f=>⟨(q i).2 f,rfl⟩,fun k G=>⟨G,fun A=>hk k (fun e=>h.disj id b cap hi hρ (e ▸ G))⟩⟩
  rcases H with G|⟨i,c,u,E⟩
  ·exact .inl G
  ·exact .inr ⟨i,c,(q i).1 u,E⟩
 refine⟨⟨h.hd.stay O,h.size,fun i=>(h.tm i).stay O,fun i l c f g=>?_,fun i f g=>?_,fun i l c f g=>h.out i l c ((q i).1 f) g,
  fun i j l c N f hj g U=>h.inj i j l c N ((q i).1 f) ((q j).1 hj) g U,fun i f=>?_,?_,h.oldF,fun i f=>?_,fun i l c f g=>h.disj i l c ((q i).1 f) g,?_⟩,O⟩
 ·rw[S.blk_up];by_cases m:id=i
  ·subst m;rw[hρ] at g;injection g with g;injection g with u E;subst u E;rw[if_pos rfl,hsz];exact⟨(h.hp id b cap hi hρ).1,hb⟩
  ·rw[if_neg m,hsz];obtain⟨u,E⟩:=h.hp i l c ((q i).1 f) g;have r:l≠b:=fun e=>m (h.inj id i b cap c hi ((q i).1 f) hρ (by simp_all))
   exact⟨u,E.stay O (hk l r)⟩
 ·rw[S.blk_up];by_cases m:id=i
  ·simp_all
  ·rw[if_neg m];exact h.hp0 i ((q i).1 f) g
 ·have:=h.nx i ((q i).1 f);have E:=h.nx id hi;show i<max s.nx (id+1);omega
 ·refine⟨ho.trans h.kept.os,ht.trans h.kept.tape,hu.trans h.kept.output,by rw[hsz];exact h.kept.size,fun k A H=>?_⟩
  have r:k≠b:=fun e=>by
   subst e;rcases h.out id k cap hi hρ with u|u
   ·exact H u
   ·omega
  exact(hk k r).trans (h.kept.block k A H)
 ·obtain⟨u,E⟩:=h.pin i f;refine⟨u,?_⟩;rw[S.blk_up];grind
 ·refine h.ows.sub (fun k G=>by have:=h.ows.lt k G;omega) fun i j d hw=>?_
  obtain⟨l,c,y,n,N,Z,I,M,W,Y⟩:=hw;rw[S.blk_up] at M;have F:=(q i).1 Z;by_cases m:id=i
  ·subst m;rw[hρ] at I;injection I with I;injection I with e1 e2;subst e1 e2;rw[if_pos rfl] at M;obtain⟨z,g1,g2,n',V,g3⟩:=hx2 j y d n N M W Y;exact⟨b,cap,z,n',V,hi,hρ,g1,g2,g3⟩
  ·rw[if_neg m] at M;have r:l≠b:=fun e=>m (h.inj id i b cap c hi F hρ (by simp_all))
   have aa:=(h.hp i l c F I).1;exact⟨l,c,y,n,N,F,I,M,W,by rw[←Y];exact(World.cell?_of_block (w:=w) (hk l r)).symm⟩
theorem Sim.overG (h:Sim cx ρ s a w) {id b cap:Nat} {x:B} (hi:s.live id) (hρ:ρ id=some (b,cap)) (hx:x.live=true) (hpin:id<cx.k→x.isBlk=true) {w':World} (hsz:w.heap.size≤w'.heap.size)
  (hk:∀k,k<w.heap.size→k≠b→w'.heap[k]?=w.heap[k]?) (ho:w'.os=w.os) (ht:w'.tape=w.tape) (hu:w'.output=w.output)
  (hb:HB w' (s.up [(id,x)]).live ρ b cap x) (hx2:∀(j:Nat) (y:C) (d n c:Nat),x.cells[j]?=some y→y.isOw=true→w'.cell? ⟨b,j,none⟩=some (.slice (some ⟨d,0,none⟩) n c)→∃z,(s.blk id).cells[j]?=some z∧z.isOw=true∧∃n c,w.cell? ⟨b,j,none⟩=some (.slice (some ⟨d,0,none⟩) n c)):Sim cx ρ (s.up [(id,x)]) a w'∧q8Y w s.live ρ w' (s.up [(id,x)]).live ρ:=by
 have r:∀i,(s.up [(id,x)]).live i↔s.live i:=fun i=>by
  unfold S.live;rw[S.blk_up];by_cases q:id=i
  ·subst q;rw[if_pos rfl];exact⟨fun _=>hi,fun _=>hx⟩
  simp_all
 have O:q8Y w s.live ρ w' (s.up [(id,x)]).live ρ:=by
  refine⟨hsz,fun k l H=>hk k l (fun e=>H (.inr ⟨id,cap,hi,by simp_all⟩)),fun k l H=>?_,fun i f=>⟨(r i).2 f,rfl⟩,fun k G=>⟨G,fun l=>hk k l (fun e=>h.disj id b cap hi hρ (e ▸ G))⟩⟩
  rcases H with G|⟨i,c,u,E⟩
  ·exact .inl G
  ·exact .inr ⟨i,c,(r i).1 u,E⟩
 refine⟨⟨h.hd.stay O,h.size,fun i=>(h.tm i).stay O,fun i m c f g=>?_,fun i f g=>?_,fun i m c f g=>h.out i m c ((r i).1 f) g,
  fun i j m c N f hj g U=>h.inj i j m c N ((r i).1 f) ((r j).1 hj) g U,fun i f=>?_,?_,h.oldF,fun i f=>?_,fun i m c f g=>h.disj i m c ((r i).1 f) g,?_⟩,O⟩
 ·rw[S.blk_up];by_cases q:id=i
  ·subst q;rw[hρ] at g;injection g with g;injection g with u E;subst u E;rw[if_pos rfl];exact⟨qR7 (h.hp id b cap hi hρ).1 hsz,hb⟩
  ·rw[if_neg q];obtain⟨u,E⟩:=h.hp i m c ((r i).1 f) g;have A:m≠b:=fun e=>q (h.inj id i b cap c hi ((r i).1 f) hρ (by simp_all))
   exact⟨qR7 u hsz,E.stay O (hk m u A)⟩
 ·rw[S.blk_up];by_cases q:id=i
  ·simp_all
  ·rw[if_neg q];exact h.hp0 i ((r i).1 f) g
 ·have:=h.nx i ((r i).1 f);have E:=h.nx id hi;show i<max s.nx (id+1);omega
 ·refine⟨ho.trans h.kept.os,ht.trans h.kept.tape,hu.trans h.kept.output,qR8 h.kept.size hsz,fun k l H=>?_⟩;have A:k≠b:=fun e=>by
   subst e;rcases h.out id k cap hi hρ with u|u
   ·exact H u
   ·omega
  exact(hk k (qR7 l h.kept.size) A).trans (h.kept.block k l H)
 ·obtain⟨u,E⟩:=h.pin i f;refine⟨u,?_⟩;rw[S.blk_up];grind
 ·refine h.ows.sub (fun k G=>by have:=h.ows.lt k G;omega) fun i j d hw=>?_
  obtain⟨m,c,y,n,N,l1,I,M,Y,Z⟩:=hw;rw[S.blk_up] at M;have F:=(r i).1 l1;by_cases q:id=i
  ·subst q;rw[hρ] at I;injection I with I;injection I with e1 e2;subst e1 e2;rw[if_pos rfl] at M;obtain⟨z,g1,g2,n',W,g3⟩:=hx2 j y d n N M Y Z;exact⟨b,cap,z,n',W,hi,hρ,g1,g2,g3⟩
  ·rw[if_neg q] at M;have A:m≠b:=fun e=>q (h.inj id i b cap c hi F hρ (by simp_all))
   have V:=(h.hp i m c F I).1;exact⟨m,c,y,n,N,F,I,M,Y,by rw[←Z];exact(World.cell?_of_block (w:=w) (hk m V A)).symm⟩
theorem Sim.drew (h:Sim cx ρ s a w):Sim cx ρ s a w.drew:=by have e:q8Y w s.live ρ w.drew s.live ρ:=⟨qQN _,fun _ _ _=>rfl,fun _ _ h=>h,fun i d=>⟨d,rfl⟩,fun b g=>⟨g,fun _=>rfl⟩⟩;exact⟨h.hd.stay e,h.size,fun i=>(h.tm i).stay e,fun i b c d f=>⟨(h.hp i b c d f).1,(h.hp i b c d f).2.stay e rfl⟩,h.hp0,h.out,h.inj,h.nx,⟨h.kept.os,h.kept.tape,h.kept.output,h.kept.size,h.kept.block⟩,h.oldF,h.pin,h.disj,⟨h.ows.lt,h.ows.one,h.ows.new⟩⟩
end
def putCells (w:World) (b o:Nat):List Value→World
 | []=>w
 | v::vs=>putCells (w.setCell ⟨b,o,none⟩ v) b (o+1) vs
def spl {α:Type} (cs:List α) (o:Nat):List α→List α
 | []=>cs
 | x::xs=>spl (cs.set o x) (o+1) xs
theorem q5E {α:Type}:∀(xs cs:List α) (o:Nat),(spl cs o xs).length=cs.length
 | [],_,_=>rfl
 | x::xs,cs,o=>by rw[spl,q5E xs];simp
def qmt (vs:Array Value) (o:Nat):List Value→Array Value
 | []=>vs
 | x::xs=>qmt (vs.setIfInBounds o x) (o+1) xs
theorem q3g:∀(xs:List Value) (vs:Array Value) (o:Nat),(qmt vs o xs).size=vs.size
 | [],_,_=>rfl
 | x::xs,vs,o=>by rw[qmt,q3g xs];simp
theorem q49:∀(vs:List Value) (w:World) (b o:Nat),(putCells w b o vs).heap.size=w.heap.size∧(∀k,k≠b→(putCells w b o vs).heap[k]?=w.heap[k]?)∧(putCells w b o vs).os=w.os∧(putCells w b o vs).tape=w.tape∧(putCells w b o vs).output=w.output∧
  ∀cs t,w.heap[b]?=some (.cells cs t (0,0))→(putCells w b o vs).heap[b]?=some (.cells (qmt cs o vs) t (0,0))
 | [],w,b,o=>⟨rfl,fun _ _=>rfl,rfl,rfl,rfl,fun cs t h=>h⟩
 | v::vs,w,b,o=>by
  obtain⟨h1,h2,h3,h4,h5,h6⟩:=q49 vs (w.setCell ⟨b,o,none⟩ v) b (o+1);refine⟨h1.trans (by simp_all),fun k c=>(h2 k c).trans (Below.heap_setCell _ _ _ _ c),h3,h4,h5,fun cs t h=>h6 _ t ?_⟩
  simp[World.setCell,Array.getElem?_modify,h]
def C.known:C→Bool
 | .any=>false
 | .ow _ _ _ _=>false
 | _=>true
theorem RD.one {w:World} {O:Nat→Prop} {v:Value} {x:D} (h:RD w O v x):v.oneCell'=true:=by cases h<;>rfl
theorem RC.one {w:World} {L:Nat→Prop} {ρ:Pl} {v:Value} {c:C} (h:RC w L ρ v c) (hk:c.known=true):v.oneCell'=true:=by
 cases h with
 | any v=>cases hk
 | d v x h=>exact h.one
 | hd k i b e g f=>cases k<;>rfl
 | _=>rfl
theorem qeK {P:Program} {w:World} {b o:Nat} {t:TypeId} {cs:Array Value} {v:Value} (h:w.heap[b]?=some (.cells cs t (0,0))) (ho:o<cs.size) (hv:v.oneCell'=true) :
  (store ⟨b,o,none⟩ v).run P w = .ok () (w.setCell ⟨b,o,none⟩ v):=by
 have c:w.cell? ⟨b,o,none⟩=some (cs[o]):=by simp[World.cell?,h,ho]
 have d:w.frozen? ⟨b,o,none⟩=false:=by simp[World.frozen?,h]
 unfold store;cases v with
 | agg _=>simp[Value.oneCell'] at hv
 | tuple _=>simp[Value.oneCell'] at hv
 | _=>simp[Sem.run,c,d]
theorem q45 {P:Program} {b o:Nat} {t:TypeId}:∀(vs:List Value) (w:World) (cs:Array Value) (i:Nat),w.heap[b]?=some (.cells cs t (0,0))→o+i+vs.length≤cs.size→(∀v∈vs,v.oneCell'=true)→
  (storeCells ⟨b,o,none⟩ vs i).run P w = .ok () (putCells w b (o+i) vs)
 | [],w,cs,i,_,_,_=>rfl
 | v::vs,w,cs,i,h,hl,hv=>by
  simp only[qQI] at hl;rw[storeCells,Sem.run_bind,q02,qeK h (by omega) (hv v qQM)]
  simp only[Result.andThen_ok];have:=q45 (P:=P) (b:=b) (o:=o) (t:=t) vs (w.setCell ⟨b,o+i,none⟩ v) (cs.setIfInBounds (o+i) v) (i+1) (by simp[World.setCell,Array.getElem?_modify,h]) (by simp;omega) (fun u c=>hv u (qQF _ c))
  assumption
theorem collect {α:Type} {Pr:Nat→Value→α→Prop}:∀(xs:List α) (k:Nat),(∀j c,xs[j]?=some c→∃v,Pr (k+j) v c)→∃l:List Value,l.length=xs.length∧∀j c,xs[j]?=some c→∃v,l[j]?=some v∧Pr (k+j) v c
 | [],_,_=>⟨[],rfl,fun j c h=>by simp at h⟩
 | x::xs,k,h=>by
  obtain⟨v,hv⟩:=h 0 x rfl;obtain⟨l,b,f⟩:=collect xs (k+1) (fun j c e=>by
   obtain⟨u,d⟩:=h (j+1) c (by assumption)
   exact⟨u,by rw[show k+1+j=k+(j+1) by omega];exact d⟩)
  refine⟨v::l,by simp[b],fun j c e=>?_⟩
  grind
end
noncomputable section
open Go.RowKit
abbrev KK:=R→S→Prop
def JN (cx:Cx) (K:KK) (o:Oper) (a:Act) (next:Act→World→Prop):Prop:=
 ∀(r:R) (s':S) (ρ':Pl) (v:Value) (w':World),K r s'→Sim cx ρ' s' a w'→RR w' s'.live ρ' v r→next (a.put o.dst v) w'
theorem zP {P:Program} {o:Oper} {a:Act} {w w':World} {next:Act→World→Prop} {Q:Exit→Act→World→Prop} {m:Sem Value} {v:Value} (he:execOp a.eval o=(do pure (.value (←m)))) (hr:m.run P w = .ok v w')
  (h:next (a.put o.dst v) w'):o.wp P a w next Q:=by
 unfold Oper.wp;rw[he];simp only[Sem.run_bind,hr,Result.andThen_ok,Sem.run_pure];exact h
theorem qhW {P:Program} {o:Oper} {a:Act} {w w':World} {next:Act→World→Prop} {Q:Exit→Act→World→Prop} {m:Sem Unit} (he:execOp a.eval o=(do m;pure .skip)) (hr:m.run P w = .ok () w')
  (h:next (a.put o.dst undef) w'):o.wp P a w next Q:=by
 unfold Oper.wp;rw[he];simp only[Sem.run_bind,hr,Result.andThen_ok,Sem.run_pure];exact h
def ld (T:Ty) (cs:List C) (off:Nat) (t:TypeId):Option R:=
 match T.k t with
 | .st _ | .arr _ _=>if off+T.sz t≤cs.length then some (.agg ((cs.drop off).take (T.sz t))) else none
 | .other=>none
 | _=>(cs[off]?).map .c
theorem qaL {P:Program} {t:TypeId} {d:TypeDesc} (hu:P.underlying t=some d) (w:World):(isAgg t).run P w = .ok (q7m d).ag w:=by unfold isAgg;rw[Sem.run_bind,run_underlying hu];cases d<;>rfl
theorem ZC {P:Program} {t:TypeId} {i:TypeInfo} (hi:P.info? t=some i) (w:World):(sizeOf t).run P w = .ok i.size w:=by simp[sizeOf,typeInfo,hi]
theorem qnu {P:Program} {T:Ty} (hA:Ag P T) {t:TypeId} {w:World} {L:Nat→Prop} {ρ:Pl} {b o off:Nat} {cs:List C} {r:R} (hl:ld T cs off t=some r)
  (hc:∀j c,cs[j]?=some c→∃v,w.cell? ⟨b,o+j,none⟩=some v∧RC w L ρ v c):∃v,(loadVar t ⟨b,o+off,none⟩).run P w = .ok v w∧RR w L ρ v r:=by
 have U:T.k t ≠ .other:=by intro h;rw[ld,h] at hl;cases hl
 obtain⟨d,i,z,y⟩:=hA.at_ U;have x:∀c,cs[off]?=some c→∃v,(load ⟨b,o+off,none⟩).run P w = .ok v w∧RR w L ρ v (.c c):=by intro c A;obtain⟨v,G,F⟩:=hc off c A;exact⟨v,by simp_all,.c _ _ F⟩
 have g:(T.k t).ag=true→r = .agg ((cs.drop off).take (T.sz t))∧off+T.sz t≤cs.length→∃v,(loadVar t ⟨b,o+off,none⟩).run P w = .ok v w∧RR w L ρ v r:=by
  intro H ⟨G,F⟩;obtain⟨l,N,M⟩:=collect (Pr:=fun j v c=>w.cell? ⟨b,o+(off+j),none⟩=some v∧RC w L ρ v c) ((cs.drop off).take (T.sz t)) 0 (fun j c A=>by grind)
  have E:l.length=T.sz t:=by grind
  have m:=run_loadCells_list (P:=P) (w:=w) ⟨b,o+off,none⟩ l (fun j v A=>by
   have I:j<((cs.drop off).take (T.sz t)).length:=by grind
   obtain⟨u,q,V,-⟩:=M j _ (qQz I);rw[A] at q;injection q with q;subst q;rw[q02,show o+off+j=o+(off+(0+j)) by omega]
   exact V)
  rw[E] at m;refine⟨.agg l.toArray,?_,?_⟩
  ·unfold loadVar;rw[Sem.run_bind,qaL y.ud,y.kd,H];simp only[Result.andThen_ok,if_true,Sem.run_bind,ZC y.info,y.sz,m,Sem.run_pure]
  ·rw[G];refine .agg _ _ (by assumption) (fun j c A=>?_)
   obtain⟨u,q,-,O⟩:=M j c A;simpa [qQD,q] using O
 have f:(T.k t).ag=false→(cs[off]?).map R.c=some r→∃v,(loadVar t ⟨b,o+off,none⟩).run P w = .ok v w∧RR w L ρ v r:=by intro H G;obtain⟨c,F,N⟩:=qQK.1 G;obtain⟨v,M,q⟩:=x c F;refine⟨v,?_,N ▸ q⟩;unfold loadVar;rw[Sem.run_bind,qaL y.ud,y.kd,H];assumption
 unfold ld at hl;cases hkt:T.k t with
 | st W=>
  rw[hkt] at hl g;simp only at hl;split at hl
  ·injection hl with hl;exact g rfl ⟨hl.symm,by assumption⟩
  ·cases hl
 | arr n e=>
  rw[hkt] at hl g;simp only at hl;split at hl
  ·injection hl with hl;exact g rfl ⟨hl.symm,by assumption⟩
  ·cases hl
 | other=>simp_all
 | int _=>rw[hkt] at hl f;exact f rfl hl
 | bool=>rw[hkt] at hl f;exact f rfl hl
 | str=>rw[hkt] at hl f;exact f rfl hl
 | ptr _=>rw[hkt] at hl f;exact f rfl hl
 | sl _=>rw[hkt] at hl f;exact f rfl hl
 | fn=>rw[hkt] at hl f;exact f rfl hl
 | mp _ _=>rw[hkt] at hl f;exact f rfl hl
section
variable {P:Program} {T:Ty} {cx:Cx} {ρ:Pl} {s:S} {a:Act} {w:World} {o:Oper} {next:Act→World→Prop} {Q:Exit→Act→World→Prop} {K:KK}
theorem qon {x:Operand} (ho:o.op = .move x∨o.op = .assign x) (hs:Sim cx ρ s a w) (h:K (s.ev x) s) (hn:JN cx K o a next):o.wp P a w next Q:=by
 unfold Oper.wp execOp;rcases ho with ho|ho
 all_goals
  simp only[ho,Sem.run_pure];exact hn _ _ ρ _ _ h hs (hs.ev x)
def qcU (s:S) (c x y:Operand) (K:KK):Prop:=
 match s.ev c with
 | .c (.d (.bool t))=>K (if t then s.ev x else s.ev y) s
 | _=>False
theorem qxp {c x y:Operand} (ho:o.op = .pick c x y) (hs:Sim cx ρ s a w) (h:qcU s c x y K) (hn:JN cx K o a next):o.wp P a w next Q:=by
 unfold qcU at h;split at h
 ·rename_i t d;have b:=hs.ev c;rw[d] at b;have e:=b.inv_bool;unfold Oper.wp execOp;simp only[ho,e,asBool,Sem.run_bind,Sem.run_pure,Result.andThen_ok];refine hn _ _ ρ _ _ h hs ?_;cases t
  ·exact hs.ev y
  ·exact hs.ev x
 ·cases h
def qd0 (T:Ty) (s:S) (t:TypeId) (x:Operand) (K:KK):Prop:=
 match s.ev x with
 | .c (.ptr id off)=>∃r,ld T (s.blk id).cells off t=some r∧K r s
 | .c (.eptr cs off)=>∃r,ld T (cs.map C.d) off t=some r∧K r s
 | _=>False
theorem qx4 (hA:Ag P T) {t:TypeId} {x:Operand} (ho:o.op = .load t x) (hs:Sim cx ρ s a w) (h:qd0 T s t x K) (hn:JN cx K o a next):o.wp P a w next Q:=by
 have G:execOp a.eval o=(do pure (.value (←Instr.loadAt t (a.eval x)))):=by unfold execOp;simp_all
 have i:=hs.ev x;unfold qd0 at h;split at h
 ·rename_i id u e;rw[e] at i;obtain⟨b,A,m,E,F⟩:=i.inv_ptr;obtain⟨r,y,z⟩:=h;obtain⟨v,k,q⟩:=qnu (P:=P) hA (b:=b) (o:=0) y (fun j c l=>by rw[qQV];exact(hs.hp id b A m E).2.cell l)
  rw[qQV] at k;exact zP G (by rw[F];exact k) (hn _ _ ρ _ _ z hs q)
 ·rename_i N u e;rw[e] at i;obtain⟨b,I,f,m,E,F,y,z⟩:=i.inv_eptr;obtain⟨r,k,q⟩:=h;obtain⟨v,H,M⟩:=qnu (P:=P) hA (L:=s.live) (ρ:=ρ) (b:=b) (o:=I) k (fun j c l=>by rw[qQL] at l;obtain⟨x,g,n⟩:=qQK.1 l;exact⟨f j,y j x g,n ▸ .d _ _ (z j x g)⟩)
  exact zP G (by rw[m];exact H) (hn _ _ ρ _ _ q hs M)
 ·cases h
def R.cells:R→Option (List C)
 | .c x=>some [x]
 | .agg xs=>some xs
 | _=>none
theorem RR.cells {L:Nat→Prop} {v:Value} {r:R} {cs:List C} (h:RR w L ρ v r) (hc:r.cells=some cs) (hk:cs.all C.known=true) :
  v.cells.size=cs.length∧(∀j c,cs[j]?=some c→RC w L ρ (v.cells.getD j undef) c)∧∀u∈v.cells.toList,u.oneCell'=true:=by
 have f:∀{e:Array Value},e.size=cs.length→(∀j c,cs[j]?=some c→RC w L ρ (e.getD j undef) c)→∀u∈e.toList,u.oneCell'=true:=by
  intro e z i u q;obtain⟨j,g⟩:=List.getElem?_of_mem q;have l:j<e.size:=by grind
  have b:=i j cs[j] (qQz (by omega))
  have d:e.getD j undef=u:=by simp_all
  rw[d] at b;exact b.one (qQO.1 hk _ (qRp _))
 cases h with
 | c v x h=>
  simp only[R.cells,qRn] at hc;subst hc;have n:x.known=true:=by simp_all
  have b:=h.one n;have d:v.cells=#[v]:=by cases v<;>first|rfl|(simp[Value.oneCell'] at b)
  have y:∀j c,[x][j]?=some c→RC w L ρ ((#[v]:Array Value).getD j undef) c:=by
   intro j c g;cases j with
   | zero=>simp_all
   | succ j=>simp at g
  simp_all
 | agg k m b d=>
  simp only[R.cells,qRn] at hc;subst hc;exact⟨b,d,f b d⟩
 | tup k m b d=>cases hc
 | any v=>cases hc
end
end
noncomputable section
open Go.RowKit
section
variable {P:Program} {T:Ty} {cx:Cx} {ρ:Pl} {s:S} {a:Act} {w:World} {o:Oper} {next:Act→World→Prop} {Q:Exit→Act→World→Prop} {K:KK}
theorem q33 {cs:List C} (h:cs.all C.known=true):cs.all C.noow=true:=qQO.2 fun c b=>by have:=qQO.1 h c b;cases c<;>first|rfl|cases this
theorem qsz {v:Value} {c:C} (h:okZ v c=true):c.noow=true:=by
 cases c with
 | ow e b n d=>
  unfold okZ at h;simp_all
 | _=>rfl
theorem qgY:∀{vs:List Value} {cs:List C},qq3 vs cs=true→cs.all C.noow=true
 | [],[],_=>rfl
 | v::vs,c::cs,h=>by
  simp only[qq3,qR3] at h;rw[List.all_cons,qgY h.2,qRz];exact qsz h.1
 | [],_::_,h=>by simp[qq3] at h
 | _::_,[],h=>by rfl
theorem qo1 (hs:Sim cx ρ s a w) {p:Nat} (hp:¬ s.live p) (t:TypeId) {vs:Array Value} {cs:List C} (hz:vs.size=cs.length) (hc:∀j c,cs[j]?=some c→RC w s.live ρ (vs.getD j undef) c) (hx:cs.all C.noow=true) :
  ∃ρ',Sim cx ρ' (s.up [(p,.blk t cs)]) a (w.alloc (.cells vs t))∧RR (w.alloc (.cells vs t)) (s.up [(p,.blk t cs)]).live ρ' (.pointer (some ⟨w.heap.size,0,none⟩)) (.c (.ptr p 0)):=by
 have b:=q4X (w:=w) (ρ:=ρ) (x := .blk t cs) hp (.cells vs t) 0;refine⟨ρ.set p w.heap.size 0,hs.new hp ⟨vs,heap_alloc_new w _,hz,fun j c d=>(hc j c d).stay b⟩ hx,.c _ _ (.ptr p 0 w.heap.size 0 ?_ (if_pos rfl))⟩;unfold S.live;rw[S.blk_up,if_pos rfl];rfl
theorem qoq (hs:Sim cx ρ s a w) {p:Nat} (hp:¬ s.live p) (e:TypeId) {sz n cap:Nat} {vs:Array Value} {cs:List C} (hz:cs.length≤vs.size) (hcap:vs.size=cap*sz) (hm:cap≤maxLen) (h0:0<sz) (hn:n≤cap)
  (hc:∀j c,cs[j]?=some c→RC w s.live ρ (vs.getD j undef) c) (hx:cs.all C.noow=true) :
  ∃ρ',Sim cx ρ' (s.up [(p,.row e sz cs)]) a (w.alloc (.cells vs e))∧RR (w.alloc (.cells vs e)) (s.up [(p,.row e sz cs)]).live ρ' (.slice (some ⟨w.heap.size,0,none⟩) n cap) (.c (.own p sz 0 n)):=by
 have b:=q4X (w:=w) (ρ:=ρ) (x := .row e sz cs) hp (.cells vs e) cap;refine⟨ρ.set p w.heap.size cap,hs.new hp ⟨vs,heap_alloc_new w _,hz,hcap,hm,h0,fun j c d=>(hc j c d).stay b⟩ hx,.c _ _ ?_⟩;have:=RC.own (w:=w.alloc (.cells vs e)) (L:=(s.up [(p,.row e sz cs)]).live) (ρ:=ρ.set p w.heap.size cap) p sz 0 n w.heap.size cap (by unfold S.live;rw[S.blk_up,if_pos rfl];rfl) (if_pos rfl) (by omega) hm
 simp_all
def qdr (T:Ty) (s:S) (p:Nat) (t:TypeId) (K:KK):Prop:=T.k t ≠ .other∧K (.c (.ptr p 0)) (s.up [(p,.blk t (T.zero t))])
theorem qrQ (hA:Ag P T) {t:TypeId} {p:Nat} (hp:¬ s.live p) (ho:o.op = .alloc t) (hs:Sim cx ρ s a w) (h:qdr T s p t K) (hn:JN cx K o a next):o.wp P a w next Q:=by
 obtain⟨k,e⟩:=h;obtain⟨d,i,z,b⟩:=hA.at_ k;obtain⟨m,q⟩:=q7t (w:=w) (L:=s.live) (ρ:=ρ) b.zs;obtain⟨ρ',f,g⟩:=qo1 hs hp t (vs:=z.cells) (by assumption) (fun j c n=>by simp_all) (qgY b.zs)
 have l:execOp a.eval o=(do pure (.value (←Instr.alloc t true (.tuple #[])))):=by unfold execOp;simp_all
 refine zP l ?_ (hn _ _ ρ' _ _ e f g);simp[Instr.alloc,zeroValue,typeInfo,b.info,b.zero,newVar,newRow,newObj,Sem.run]
def qsH (s:S) (p:Nat) (t:TypeId) (x:Operand) (K:KK):Prop:=
 ∃cs,(s.ev x).cells=some cs∧cs.all C.known=true∧K (.c (.ptr p 0)) (s.up [(p,.blk t cs)])
theorem qDb {t:TypeId} {x:Operand} {p:Nat} (hp:¬ s.live p) (ho:o.op = .box t x) (hs:Sim cx ρ s a w) (h:qsH s p t x K) (hn:JN cx K o a next):o.wp P a w next Q:=by
 obtain⟨k,e,b,i⟩:=h;obtain⟨j,c,-⟩:=(hs.ev x).cells e b;obtain⟨ρ',d,f⟩:=qo1 hs hp t j c (q33 b);have g:execOp a.eval o=(do pure (.value (←Instr.box t (a.eval x)))):=by unfold execOp;simp_all
 refine zP g ?_ (hn _ _ ρ' _ _ i d f);rfl
def B.set (x:B) (off:Nat) (ys:List C):B:=
 match x with
 | .blk t cs => .blk t (spl cs off ys)
 | .row e sz cs => .row e sz (spl cs off ys)
 | .ob o => .ob o
 | .dead => .dead
def B.isOb:B→Bool
 | .ob _=>true
 | _=>false
def qb5 (T:Ty) (s:S) (t:TypeId) (x y:Operand) (K:KK):Prop:=
 match s.ev x with
 | .c (.ptr id off)=>∃ys,(s.ev y).cells=some ys∧ys.all C.known=true∧T.k t ≠ .other∧ys.length=T.sz t∧off+ys.length≤(s.blk id).cells.length∧(s.blk id).isOb=false∧K .any (s.up [(id,(s.blk id).set off ys)])
 | _=>False
theorem qjh:∀(ys:List C) (off:Nat),spl ([]:List C) off ys=[]
 | [],_=>rfl
 | y::ys,off=>by rw[spl,List.set_nil];exact qjh ys (off+1)
theorem qlN:∀(ys:List C) (us:List Value) (cs:List C) (vs:Array Value) (off:Nat),us.length=ys.length→ys.all C.known=true→∀{j:Nat} {y:C},(spl cs off ys)[j]?=some y→y.isOw=true→cs[j]?=some y∧(qmt vs off us)[j]?=vs[j]?
 | [],us,cs,vs,off,hl,_,j,y,h,_=>by
  have:us=[]:=qQQ hl;subst this;exact⟨h,rfl⟩
 | x::ys,[],cs,vs,off,hl,_,j,y,_,_=>by cases hl
 | x::ys,u::us,cs,vs,off,hl,hk,j,y,h,ho=>by
  rw[List.all_cons,qR3] at hk;obtain⟨b,d⟩:=qlN ys us (cs.set off x) (vs.setIfInBounds off u) (off+1) (by simp_all) hk.2 h ho
  have c:off≠j:=fun e=>by
   subst e;rw[List.getElem?_set] at b;rw[if_pos rfl] at b;split at b
   ·injection b with b;subst b;have f:=hk.1;cases x with
    | ow=>cases f
    | _=>cases ho
   ·cases b
  rw[qRw c] at b;refine⟨b,d.trans ?_⟩;simp_all
theorem qdL {w:World} {L:Nat→Prop} {ρ:Pl}:∀(ys:List C) (us:List Value) (cs:List C) (vs:Array Value) (off:Nat),us.length=ys.length→(∀j c,ys[j]?=some c→RC w L ρ (us.getD j undef) c)→
  cs.length≤vs.size→off+ys.length≤cs.length→(∀j c,cs[j]?=some c→RC w L ρ (vs.getD j undef) c)→∀j c,(spl cs off ys)[j]?=some c→RC w L ρ ((qmt vs off us).getD j undef) c
 | [],us,cs,vs,off,hl,_,_,_,h=>by
  have:us=[]:=qQQ hl;subst this;exact h
 | y::ys,us,cs,vs,off,hl,hu,hz,ho,h=>by
  cases us with
  | nil=>simp at hl
  | cons u us=>
   simp only[qQI] at hl ho;refine qdL ys us (cs.set off y) (vs.setIfInBounds off u) (off+1) (by omega) (fun j c hj=>?_) (by simp_all) (by simp;omega) (fun j c hj=>?_)
   ·have:=hu (j+1) c (by assumption)
    assumption
   ·by_cases hoj:off=j
    ·subst hoj;rw[qRv (by omega)] at hj
     injection hj with hj;subst hj;have:=hu 0 y rfl;have h0:off<vs.size:=by omega
     simp_all
    simp_all
theorem B.set_live {x:B} {off:Nat} {ys:List C} (h:x.live=true):(x.set off ys).live=true:=by cases x<;>first|rfl|(cases h)
theorem B.set_isBlk {x:B} {off:Nat} {ys:List C} (h:x.isBlk=true):(x.set off ys).isBlk=true:=by cases x<;>first|rfl|(cases h)
theorem qsb (hA:Ag P T) {t:TypeId} {x y:Operand} (ho:o.op = .store t x y) (hs:Sim cx ρ s a w) (h:qb5 T s t x y K) (hn:JN cx K o a next):o.wp P a w next Q:=by
 have he:execOp a.eval o=(do Instr.storeAt t (a.eval x) (a.eval y);pure .skip):=by unfold execOp;simp_all
 have hx:=hs.ev x;unfold qb5 at h;split at h
 ·rename_i id f ad;rw[ad] at hx;obtain⟨b,u,A,h2,h3⟩:=hx.inv_ptr;obtain⟨q,h4,h5,h6,h7,h8,M,h9⟩:=h;obtain⟨d,i,z,ht⟩:=hA.at_ h6;obtain⟨g1,g2,g3⟩:=(hs.ev y).cells h4 h5;obtain⟨-,hB⟩:=hs.hp id b u A h2;have E:∃m tt,w.heap[b]?=some (.cells m tt (0,0))∧(s.blk id).cells.length≤m.size∧(∀j c,(s.blk id).cells[j]?=some c→RC w s.live ρ (m.getD j undef) c):=by
   have H:(s.blk id).live=true:=A;revert hB H M;cases s.blk id with
   | ob o=>intro h;cases h
   | blk tt O=>rintro-⟨m,r,W,q3⟩ -;exact⟨m,tt,r,by rw[W];exact qQN _,q3⟩
   | row e sz O=>rintro-⟨m,r,W,q3,q4,q5,q6⟩ -;exact⟨m,e,r,W,q6⟩
   | dead=>intro _ _ h;cases h
  obtain⟨m,tt,r,W,q3⟩:=E;have G:(a.eval y).cells.toList.length=q.length:=by assumption
  have F:=q45 (P:=P) (b:=b) (o:=f) (t:=tt) (a.eval y).cells.toList w m 0 r (by omega) g3
  obtain⟨f1,f2,f3,f4,f5,f6⟩:=q49 (a.eval y).cells.toList w b f;have Z:=f6 m tt r;rw[Nat.add_zero] at F;have I:q8Y w s.live ρ (putCells w b f (a.eval y).cells.toList) (s.up [(id,(s.blk id).set f q)]).live ρ:=by
   have hl:∀i,(s.up [(id,(s.blk id).set f q)]).live i↔s.live i:=fun i=>by
    unfold S.live;rw[S.blk_up];by_cases hn:id=i
    ·subst hn;rw[if_pos rfl];exact⟨fun _=>A,fun _=>B.set_live A⟩
    simp_all
   refine⟨by omega,fun k ac hO=>f2 k (fun e=>hO (.inr ⟨id,u,A,by simp_all⟩)),fun k ac hO=>?_,fun i ae=>⟨(hl i).2 ae,rfl⟩,fun k Y=>⟨Y,fun _=>f2 k (fun e=>hs.disj id b u A h2 (e ▸ Y))⟩⟩
   rcases hO with Y|⟨i,c,l,N⟩
   ·exact .inl Y
   ·exact .inr ⟨i,c,(hl i).1 l,N⟩
  have g:∀j c,(spl (s.blk id).cells f q)[j]?=some c→RC (putCells w b f (a.eval y).cells.toList) (s.up [(id,(s.blk id).set f q)]).live ρ ((qmt m f (a.eval y).cells.toList).getD j undef) c:=fun j c hj=>
   (qdL q (a.eval y).cells.toList (s.blk id).cells m f G (fun j c hj=>by simp_all) W h8 q3 j c hj).stay I
  have V:HB (putCells w b f (a.eval y).cells.toList) (s.up [(id,(s.blk id).set f q)]).live ρ b u ((s.blk id).set f q):=by
   have H:(s.blk id).live=true:=A;revert hB H g M;cases s.blk id with
   | ob o=>intro h;cases h
   | blk af O=>
    rintro-⟨ab,l,N,r3⟩ g -;rw[r] at l;injection l with l;injection l with l r4;subst l r4;exact⟨_,Z,by rw[q3g,q5E];exact N,g⟩
   | row e sz O=>
    rintro-⟨ab,l,N,r3,r5,r6,r7⟩ g -;rw[r] at l;injection l with l;injection l with l r4;subst l r4;exact⟨_,Z,by rw[q3g,q5E];exact N,by rw[q3g];exact r3,r5,r6,g⟩
   | dead=>intro _ _ _ h;cases h
  obtain⟨hS,-⟩:=hs.over A h2 (B.set_live A) (fun hk=>B.set_isBlk (hs.pin id hk).2) f1 f2 f3 f4 f5 V (fun j y d n c hy U hw=>by
   have aa:((s.blk id).set f q).cells=spl (s.blk id).cells f q:=by
    revert M;cases s.blk id with
    | ob o=>intro h;cases h
    | blk t O=>intro _;rfl
    | row e sz O=>intro _;rfl
    | dead=>intro _;show[]=spl [] f q;exact(qjh q f).symm
   rw[aa] at hy;obtain⟨e1,e2⟩:=qlN q _ _ m f G h5 hy U;refine⟨y,e1,U,n,c,?_⟩;rw[←hw];simp only[World.cell?,r,Z];exact e2.symm)
  refine qhW he ?_ (hn _ _ ρ _ _ h9 hS (.any _));rw[h3];simp only[Instr.storeAt,Instr.sureAddr,pure_bind];unfold storeVar;simp only[Sem.run_bind,ZC ht.info,Result.andThen_ok];rw[if_neg (by rw[g1,h7,ht.sz];simp)]
  exact F
 ·cases h
def Ty.foff (T:Ty) (t:TypeId) (f:Nat):Option (Nat×TypeId):=match T.k t with | .st fs=>fs[f]? | _=>none
def q3k (T:Ty) (s:S) (t:TypeId) (x:Operand) (f:Nat) (K:KK):Prop:=
 ∃fo ft,T.foff t f=some (fo,ft)∧T.k ft ≠ .other∧T.sz ft≠0∧
  match s.ev x with
  | .c (.ptr id off)=>K (.c (.ptr id (off+fo))) s
  | .c (.eptr cs off)=>K (.c (.eptr cs (off+fo))) s
  | _=>False
theorem qgm (hA:Ag P T) {t:TypeId} {x:Operand} {f:Nat} (ho:o.op = .fieldAddr t x f) (hs:Sim cx ρ s a w) (h:q3k T s t x f K) (hn:JN cx K o a next):o.wp P a w next Q:=by
 have W:execOp a.eval o=(do pure (.value (←Instr.fieldAt t (a.eval x) f))):=by unfold execOp;simp only[ho]
 obtain⟨u,ft,r,h2,h3,A⟩:=h;have hk:T.k t ≠ .other:=by intro h;simp[Ty.foff,h] at r
 obtain⟨d,i,z,V⟩:=hA.at_ hk;obtain⟨d',i',z',q⟩:=hA.at_ h2;have F:∃n m,d = .struct n∧n[f]?=some m∧m.offset=u∧m.type=ft:=by
  have g:=V.kd;cases d with
  | struct n=>
   simp only[q7m] at g;simp only[Ty.foff,←g,qQL] at r;obtain⟨m,h5,G⟩:=qQK.1 r;injection G with G h7;exact⟨n,m,rfl,by simpa using h5,G,h7⟩
  | _=>simp only[q7m] at g;simp[Ty.foff,←g] at r
 obtain⟨n,m,rfl,M,O,E⟩:=F;have j:∀b e,(Instr.fieldAt t (.pointer (some ⟨b,e,none⟩)) f).run P w = .ok (.pointer (some ⟨b,e+u,none⟩)) w:=by intro b e;unfold Instr.fieldAt;simp only[Sem.run_bind,run_underlying V.ud,Result.andThen_ok,M,Instr.sureAddr,Sem.run_pure,fieldPlace,E,ZC q.info,q.sz,if_neg h3,q02,O]
 have y:=hs.ev x;split at A
 ·rename_i id e l;rw[l] at y;obtain⟨b,H,U,I,N⟩:=y.inv_ptr;exact zP W (by rw[N];exact j b e) (hn _ _ ρ _ _ A hs (.c _ _ (.ptr id (e+u) b H U I)))
 ·rename_i Z e l;rw[l] at y;obtain⟨b,o',f',U,I,N,Y,g5⟩:=y.inv_eptr;exact zP W (by rw[U];exact j b _) (hn _ _ ρ _ _ A hs (.c _ _ (by rw[qRr];exact .eptr b o' (e+u) Z f' I N Y g5)))
 ·cases A
def q29 (T:Ty) (s:S) (t:TypeId) (x y:Operand) (K:KK):Prop:=
 match s.ev y,s.ev x with
 | .c (.d (.int _ i)),.c (.d (.sl sz n cs))=>∃e,T.k t = .sl e∧T.k e ≠ .other∧T.sz e=sz∧0≤i∧i<n∧K (.c (.eptr cs (i.toNat*sz))) s
 | .c (.d (.int _ i)),.c (.own id sz off n)=>∃e,T.k t = .sl e∧T.k e ≠ .other∧T.sz e=sz∧0≤i∧i<n∧K (.c (.ptr id ((off+i.toNat)*sz))) s
 | .c (.d (.int _ i)),.c (.ptr id off)=>∃n e,T.k t = .arr n e∧T.k e ≠ .other∧0≤i∧i<n∧K (.c (.ptr id (off+i.toNat*T.sz e))) s
 | _,_=>False
theorem q4K {d:TypeDesc} {e:TypeId} (h:q7m d = .sl e):d = .slice e:=by cases d<;>simp[q7m] at h;rw[h]
theorem qfe {d:TypeDesc} {n:Nat} {e:TypeId} (h:q7m d = .arr n e):d = .array n e:=by cases d<;>simp[q7m] at h;rw[h.1,h.2]
theorem q7Y {d:TypeDesc} {k:IntKind} (h:q7m d = .int k):d = .int k:=by cases d<;>simp[q7m] at h;rw[h]
theorem q4s {d:TypeDesc} (h:q7m d = .str):d = .string:=by cases d<;>simp[q7m] at h;rfl
theorem qek {d:TypeDesc} (h:q7m d = .bool):d = .bool:=by cases d<;>simp[q7m] at h;rfl
theorem qzw {d:TypeDesc} {e:TypeId} (h:q7m d = .ptr e):d = .pointer e:=by cases d<;>simp[q7m] at h;rw[h]
theorem qzO {d:TypeDesc} {l:List (Nat×TypeId)} (h:q7m d = .st l):∃fs,d = .struct fs∧fs.toList.map (fun f=>(f.offset,f.type))=l:=by cases d<;>simp[q7m] at h;simp_all
theorem qgj (hA:Ag P T) {t:TypeId} {x y:Operand} (ho:o.op = .indexAddr t x y) (hs:Sim cx ρ s a w) (h:q29 T s t x y K) (hn:JN cx K o a next):o.wp P a w next Q:=by
 have Y:execOp a.eval o=(do pure (.value (←Instr.indexAt t (a.eval x) (a.eval y)))):=by unfold execOp;simp_all
 have F:=hs.ev x;have G:=hs.ev y;unfold q29 at h;split at h
 ·rename_i k i sz n cs j l;rw[j] at G;rw[l] at F;obtain⟨e,r,M,Z,H,N,I⟩:=h;obtain⟨d,ti,z,u⟩:=hA.at_ (t:=t) (by rw[r];simp)
  obtain⟨d',i',z',g⟩:=hA.at_ M;have U:=q4K (u.kd.trans r);subst U;obtain⟨A,q,O,E,V,g4,g5,g6⟩:=F.inv_sl;rcases g6 with g6|⟨b,m,f,rfl,g7,g8,g9,W⟩
  ·omega
  ·refine zP Y ?_ (hn _ _ ρ _ _ I hs (.c _ _ (.eptr b m (i.toNat*sz) cs f g7 g8 g9 W)));rw[O,G.inv_int];unfold Instr.indexAt;simp only[asIntOf,Sem.run_bind,Sem.run_pure,Result.andThen_ok,run_underlying u.ud,H,N,and_self,if_true,ZC g.info,g.sz,Z,q02]
 ·rename_i k i id sz m n j l;rw[j] at G;rw[l] at F;obtain⟨e,r,M,Z,H,N,I⟩:=h;obtain⟨d,ti,z,u⟩:=hA.at_ (t:=t) (by rw[r];simp)
  obtain⟨d',i',z',g⟩:=hA.at_ M;have U:=q4K (u.kd.trans r);subst U;obtain⟨O,E⟩:=F.inv_own;rcases E with ⟨b,q,E,V,-,g4⟩|⟨-,-,-,E⟩
  ·refine zP Y ?_ (hn _ _ ρ _ _ I hs (.c _ _ (.ptr id ((m+i.toNat)*sz) b q O E)));rw[g4,G.inv_int];unfold Instr.indexAt;simp only[asIntOf,Sem.run_bind,Sem.run_pure,Result.andThen_ok,run_underlying u.ud,H,N,and_self,if_true,ZC g.info,g.sz,Z,q02,Nat.add_mul]
  ·omega
 ·rename_i k i id m j l;rw[j] at G;rw[l] at F;obtain⟨n,e,r,M,H,N,I⟩:=h;obtain⟨d,ti,z,u⟩:=hA.at_ (t:=t) (by rw[r];simp)
  obtain⟨d',i',z',g⟩:=hA.at_ M;have U:=qfe (u.kd.trans r);subst U;obtain⟨b,q,O,E,V⟩:=F.inv_ptr;refine zP Y ?_ (hn _ _ ρ _ _ I hs (.c _ _ (.ptr id _ b q O E)));rw[V,G.inv_int];unfold Instr.indexAt;simp only[asIntOf,Sem.run_bind,Sem.run_pure,Result.andThen_ok,run_underlying u.ud,Instr.sureAddr,H,N,and_self,if_true,ZC g.info,g.sz,q02]
 ·cases h
def q4z (s:S) (x:Operand) (i:Nat) (K:KK):Prop:=
 match s.ev x with
 | .tup rs=>∃r,rs[i]?=some r∧K r s
 | _=>False
theorem qkp {x:Operand} {i:Nat} (ho:o.op = .extract x i) (hs:Sim cx ρ s a w) (h:q4z s x i K) (hn:JN cx K o a next):o.wp P a w next Q:=by
 have j:execOp a.eval o=(do pure (.value (←Instr.extract (a.eval x) i))):=by unfold execOp;simp_all
 have c:=hs.ev x;unfold q4z at h;split at h
 ·rename_i n b;rw[b] at c;obtain⟨f,g,m,k⟩:=c.inv_tup;obtain⟨r,l,e⟩:=h;have d:i<f.size:=by grind
  refine zP j ?_ (hn _ _ ρ _ _ e hs (k i r l));rw[g];simp[Instr.extract,d,qQD]
 ·cases h
def q38 (s:S) (x:Operand) (K:KK):Prop:=
 match s.ev x with
 | .c (.ptr id off)=>K (.c (.ptr id off)) s
 | .c (.eptr cs off)=>K (.c (.eptr cs off)) s
 | .c (.fn f fs caps)=>K (.c (.fn f fs caps)) s
 | _=>False
theorem qgB {x:Operand} (ho:o.op = .nilCheck x) (hs:Sim cx ρ s a w) (h:q38 s x K) (hn:JN cx K o a next):o.wp P a w next Q:=by
 have c:=hs.ev x;unfold q38 at h;unfold Oper.wp execOp;simp only[ho];split at h
 ·rename_i id g d;rw[d] at c;obtain⟨b,l,e,k,i⟩:=c.inv_ptr;rw[i] at c ⊢;exact hn _ _ ρ _ _ h hs c
 ·rename_i q g d;rw[d] at c;obtain⟨b,r,A,e,k,i,n,y⟩:=c.inv_eptr;rw[e] at c ⊢;exact hn _ _ ρ _ _ h hs c
 ·rename_i f u j d;rw[d] at c;obtain⟨z,m,e,-⟩:=c.inv_fn;rw[e] at c ⊢;exact hn _ _ ρ _ _ h hs c
 ·cases h
end
end
noncomputable section
open Go.RowKit
def Zq (op:BinOp) (k:IntKind) (a b:Int):Int:=
 match op with
 | .and=>k.wrap (BitVec.ofInt k.bits a &&& BitVec.ofInt k.bits b).toNat
 | .or=>k.wrap (BitVec.ofInt k.bits a ||| BitVec.ofInt k.bits b).toNat
 | .xor=>k.wrap (BitVec.ofInt k.bits a ^^^ BitVec.ofInt k.bits b).toNat
 | _=>k.wrap (BitVec.ofInt k.bits a &&& ~~~(BitVec.ofInt k.bits b)).toNat
def qf6 (op:BinOp) (k:IntKind) (a b:Int) (K:R→Prop):Prop:=
 match op with
 | .add=>K (.c (.d (.int k (k.wrap (a+b)))))
 | .sub=>K (.c (.d (.int k (k.wrap (a-b)))))
 | .mul=>K (.c (.d (.int k (k.wrap (a*b)))))
 | .quo=>b≠0∧K (.c (.d (.int k (k.wrap (a.tdiv b)))))
 | .rem=>b≠0∧K (.c (.d (.int k (a.tmod b))))
 | .and=>K (.c (.d (.int k (Zq .and k a b))))
 | .or=>K (.c (.d (.int k (Zq .or k a b))))
 | .xor=>K (.c (.d (.int k (Zq .xor k a b))))
 | .andNot=>K (.c (.d (.int k (Zq .andNot k a b))))
 | .eql=>K (.c (.d (.bool (a==b))))
 | .neq=>K (.c (.d (.bool (a != b))))
 | .lss=>K (.c (.d (.bool (decide (a<b)))))
 | .leq=>K (.c (.d (.bool (decide (a≤b)))))
 | .gtr=>K (.c (.d (.bool (decide (b<a)))))
 | .geq=>K (.c (.d (.bool (decide (b≤a)))))
 | .shl=>0≤b∧K (.c (.d (.int k (k.wrap (a*2 ^ min b.toNat k.bits)))))
 | .shr=>0≤b∧K (.c (.d (.int k (a.fdiv (2 ^ min b.toNat k.bits)))))
def qfq (op:BinOp) (a b:ByteArray) (K:R→Prop):Prop:=
 match op with
 | .add=>a.size+b.size≤9223372036854775807∧K (.c (.d (.str (a++b))))
 | .eql=>K (.c (.d (.bool (a.toList==b.toList))))
 | .neq=>K (.c (.d (.bool (!(a.toList==b.toList)))))
 | .lss=>K (.c (.d (.bool (Op.bytesLess a.toList b.toList))))
 | .leq=>K (.c (.d (.bool (Op.bytesLess a.toList b.toList||a.toList==b.toList))))
 | .gtr=>K (.c (.d (.bool (!(Op.bytesLess a.toList b.toList||a.toList==b.toList)))))
 | .geq=>K (.c (.d (.bool (!Op.bytesLess a.toList b.toList))))
 | _=>False
def qgg (T:Ty) (op:BinOp) (t:TypeId) (x y:R) (K:R→Prop):Prop:=
 match op,x,y with
 | .eql,.c (.d (.bool a)),.c (.d (.bool b))=>T.k t = .bool∧K (.c (.d (.bool (a==b))))
 | .neq,.c (.d (.bool a)),.c (.d (.bool b))=>T.k t = .bool∧K (.c (.d (.bool (!(a==b)))))
 | .eql,.c .nilp,.c .nilp=>(∃e,T.k t = .ptr e)∧K (.c (.d (.bool true)))
 | .neq,.c .nilp,.c .nilp=>(∃e,T.k t = .ptr e)∧K (.c (.d (.bool false)))
 | .eql,.c (.ptr _ _),.c .nilp=>(∃e,T.k t = .ptr e)∧K (.c (.d (.bool false)))
 | .neq,.c (.ptr _ _),.c .nilp=>(∃e,T.k t = .ptr e)∧K (.c (.d (.bool true)))
 | .eql,.c (.eptr _ _),.c .nilp=>(∃e,T.k t = .ptr e)∧K (.c (.d (.bool false)))
 | .neq,.c (.eptr _ _),.c .nilp=>(∃e,T.k t = .ptr e)∧K (.c (.d (.bool true)))
 | _,_,_=>False
def qyc:BinOp→Bool
 | .shl | .shr=>true
 | _=>false
def qfK (P:Program) (t:TypeId):Bool := !P.stoodInHeld t && !P.eqGuardType P.depth t&&(P.fieldsOf t).toList.all (fun f=>f.name != "_")
def qnm (T:Ty) (g:TypeId→R→R→Option Bool) (xs ys:List C):List (Nat×TypeId)→Option Bool
 | []=>some true
 | (o,ft)::l=>
  match ld T xs o ft,ld T ys o ft with
  | some x,some y=>match g ft x y,qnm T g xs ys l with
   | some b,some c=>some (b&&c)
   | _,_=>none
  | _,_=>none
def qhh (sz:Nat) (e:TypeId):Nat→Nat→List (Nat×TypeId)
 | 0,_=>[]
 | n+1,o=>(o,e)::qhh sz e n (o+sz)
def qsR (P:Program) (t:TypeId):Bool := !P.eqGuardType P.depth t
def eqR (P:Program) (T:Ty):Nat→TypeId→R→R→Option Bool
 | 0,_,_,_=>none
 | d+1,t,x,y=>
  match T.k t,x,y with
  | .int _,.c (.d (.int k a)),.c (.d (.int k' b))=>if k=k' then some (a==b) else none
  | .bool,.c (.d (.bool a)),.c (.d (.bool b))=>some (a==b)
  | .str,.c (.d (.str a)),.c (.d (.str b))=>some (a.toList==b.toList)
  | .st fs,.agg xs,.agg ys=>if qfK P t=true then qnm T (eqR P T d) xs ys fs else none
  | .arr n e,.agg xs,.agg ys=>if qsR P t=true∧T.k e ≠ .other then qnm T (eqR P T d) xs ys (qhh (T.sz e) e n 0) else none
  | _,_,_=>none
def qfi (P:Program) (T:Ty) (op:BinOp) (t:TypeId) (xs ys:List C) (K:R→Prop):Prop:=
 match op with
 | .eql=>∃b,eqR P T 5 t (.agg xs) (.agg ys)=some b∧K (.c (.d (.bool b)))
 | .neq=>∃b,eqR P T 5 t (.agg xs) (.agg ys)=some b∧K (.c (.d (.bool (!b))))
 | _=>False
def qkX (P:Program) (T:Ty) (s:S) (op:BinOp) (t:TypeId) (x y:Operand) (K:KK):Prop:=
 match s.ev x,s.ev y with
 | .c (.d (.int k a)),.c (.d (.int k' b))=>(qyc op=true∨k=k')∧qf6 op k a b (fun r=>K r s)
 | .c (.d (.str a)),.c (.d (.str b))=>qfq op a b (fun r=>K r s)
 | .agg xs,.agg ys=>qfi P T op t xs ys (fun r=>K r s)
 | u,v=>qgg T op t u v (fun r=>K r s)
section
variable {P:Program} {T:Ty} {cx:Cx} {ρ:Pl} {s:S} {a:Act} {w:World} {o:Oper} {next:Act→World→Prop} {Q:Exit→Act→World→Prop} {K:KK}
theorem qld {op:BinOp} {k k':IntKind} {t:TypeId} {x y:Operand} {m n:Int} {L:Nat→Prop} {K:R→Prop} (hk:qyc op=true∨k=k') (h:qf6 op k m n K) :
  ∃v r,(do eqGuard op t x y (.int k m) (.int k' n);binOp op t (.int k m) (.int k' n):Sem Value).run P w = .ok v w∧K r∧RR w L ρ v r:=by
 have e:∀z,RR w L ρ (.int k z) (.c (.d (.int k z))):=fun z => .c _ _ (.d _ _ (.int _ _));have g:∀z,RR w L ρ (.bool z) (.c (.d (.bool z))):=fun z => .c _ _ (.d _ _ (.bool _));rw[eqGuard_at_int];simp only[pure_bind];cases op
 case shl=>
  obtain⟨f,b⟩:=h;refine⟨_,_,?_,b,e _⟩;simp only[binOp,Op.shift,if_neg (by omega:¬ n<0),Sem.run_pure]
 case shr=>
  obtain⟨f,b⟩:=h;refine⟨_,_,?_,b,e _⟩;simp only[binOp,Op.shift,if_neg (by omega:¬ n<0),Sem.run_pure]
 all_goals
  obtain rfl:k=k':=by rcases hk with hk|hk;cases hk;exact hk
 case quo=>
  obtain⟨f,b⟩:=h;refine⟨_,_,?_,b,e _⟩;simp only[binOp,ne_eq,not_true,if_false,Op.intDiv,if_neg f,Sem.run_pure]
 case rem=>
  obtain⟨f,b⟩:=h;refine⟨_,_,?_,b,e _⟩;simp only[binOp,ne_eq,not_true,if_false,Op.intDiv,if_neg f,Sem.run_pure]
 all_goals
  first
  | exact⟨_,_,by first|rfl|(simp only[binOp,ne_eq,not_true,if_false,Op.intArith,Op.intCmp,Sem.run_pure]<;>rfl),h,e _⟩
  | exact⟨_,_,by first|rfl|(simp only[binOp,ne_eq,not_true,if_false,Op.intCmp,Sem.run_pure]<;>rfl),h,g _⟩
theorem qkU {op:BinOp} {t:TypeId} {x y:Operand} {m n:ByteArray} {L:Nat→Prop} {K:R→Prop} (h:qfq op m n K) :
  ∃v r,(do eqGuard op t x y (.string m) (.string n);binOp op t (.string m) (.string n):Sem Value).run P w = .ok v w∧K r∧RR w L ρ v r:=by
 have e:∀z,RR w L ρ (.string z) (.c (.d (.str z))):=fun z => .c _ _ (.d _ _ (.str _));have f:∀z,RR w L ρ (.bool z) (.c (.d (.bool z))):=fun z => .c _ _ (.d _ _ (.bool _));rw[eqGuard_at_string];simp only[pure_bind];cases op
 case add=>
  obtain⟨g,b⟩:=h;refine⟨_,_,?_,b,e _⟩;simp only[binOp,Op.stringOp];rw[if_neg (by rw[IntKind.max_i64];omega)]
  rfl
 all_goals
  first
  | exact h.elim
  | exact⟨_,_,rfl,h,f _⟩
theorem qd8 (hA:Ag P T) {t:TypeId} (ht:T.k t = .bool) (m n:Bool):(Op.equal t (.bool m) (.bool n)).run P w = .ok (m==n) w:=by
 obtain⟨d,i,z,h⟩:=hA.at_ (t:=t) (by rw[ht];simp)
 have b:=qek (h.kd.trans ht);subst b;unfold Op.equal Op.maxDepth Op.equalIn;simp only[Sem.run_bind,run_underlying h.ud,Result.andThen_ok,Sem.run_pure]
theorem q4f (hA:Ag P T) {t e:TypeId} (ht:T.k t = .ptr e) (m:Option Addr):(Op.equal t (.pointer m) (.pointer none)).run P w = .ok m.isNone w:=by
 obtain⟨d,i,z,h⟩:=hA.at_ (t:=t) (by rw[ht];simp)
 have b:=qzw (h.kd.trans ht);subst b;unfold Op.equal Op.maxDepth Op.equalIn;simp only[Sem.run_bind,run_underlying h.ud,Result.andThen_ok];cases m<;>rfl
theorem q6F (hA:Ag P T) {t:TypeId} {L:Nat→Prop} {vs:Array Value} {cs:List C} {off:Nat} {r:R} (hl:ld T cs off t=some r) (hz:vs.size=cs.length) (hc:∀j c,cs[j]?=some c→RC w L ρ (vs.getD j undef) c) :
  ∃v,(part t vs off).run P w = .ok v w∧RR w L ρ v r:=by
 have A:T.k t ≠ .other:=by intro h;rw[ld,h] at hl;cases hl
 obtain⟨d,i,z,g⟩:=hA.at_ A;have f:(T.k t).ag=true→r = .agg ((cs.drop off).take (T.sz t))∧off+T.sz t≤cs.length→∃v,(part t vs off).run P w = .ok v w∧RR w L ρ v r:=by
  intro q ⟨l,y⟩;refine⟨.agg (vs.extract off (off+T.sz t)),?_,?_⟩
  ·unfold part;rw[Sem.run_bind,qaL g.ud,g.kd,q];simp only[Result.andThen_ok,if_true,Sem.run_bind,ZC g.info,g.sz,Sem.run_pure]
  ·rw[l];refine .agg _ _ (by simp;omega) (fun j c x=>?_)
   have m:j<T.sz t:=by grind
   rw[qR6 m,List.getElem?_drop] at x;have:=hc _ c x;have u:off+j<vs.size:=by omega
   have G:(vs.extract off (off+T.sz t)).getD j undef=vs.getD (off+j) undef:=by simp_all
   grind
 have b:(T.k t).ag=false→(cs[off]?).map R.c=some r→∃v,(part t vs off).run P w = .ok v w∧RR w L ρ v r:=by
  intro q l;obtain⟨c,y,E⟩:=qQK.1 l;have u:off<vs.size:=by grind
  refine⟨vs.getD off undef,?_,E ▸ .c _ _ (hc off c y)⟩;unfold part;rw[Sem.run_bind,qaL g.ud,g.kd,q];simp_all
 unfold ld at hl;cases hkt:T.k t with
 | st F=>
  rw[hkt] at hl f;simp only at hl;split at hl
  ·injection hl with hl;exact f rfl ⟨hl.symm,by assumption⟩
  ·cases hl
 | arr n e=>
  rw[hkt] at hl f;simp only at hl;split at hl
  ·injection hl with hl;exact f rfl ⟨hl.symm,by assumption⟩
  ·cases hl
 | other=>simp_all
 | int _=>rw[hkt] at hl b;exact b rfl hl
 | bool=>rw[hkt] at hl b;exact b rfl hl
 | str=>rw[hkt] at hl b;exact b rfl hl
 | ptr _=>rw[hkt] at hl b;exact b rfl hl
 | sl _=>rw[hkt] at hl b;exact b rfl hl
 | fn=>rw[hkt] at hl b;exact b rfl hl
 | mp _ _=>rw[hkt] at hl b;exact b rfl hl
theorem qeD (hA:Ag P T) {L:Nat→Prop}:∀(d D:Nat) (t:TypeId) (x y:R) (b:Bool) (v u:Value),d≤D→eqR P T d t x y=some b→RR w L ρ v x→RR w L ρ u y→(Op.equalIn D t v u).run P w = .ok b w
 | 0,_,_,_,_,_,_,_,_,h,_,_=>by cases h
 | d+1,0,_,_,_,_,_,_,hd,_,_,_=>by omega
 | d+1,D+1,t,x,y,b,v,u,hd,h,hv,hu=>by
  unfold eqR at h;split at h
  ·rename_i k0 k m k' n ht;split at h
   ·rename_i hk;subst hk;injection h with h;obtain⟨d',i',z',h'⟩:=hA.at_ (t:=t) (by rw[ht];simp)
    have hd':=q7Y (h'.kd.trans ht);subst hd';rw[hv.inv_int,hu.inv_int,run_equalIn_int w D t k k0 m n h'.ud,h]
   ·cases h
  ·rename_i m n ht;injection h with h;obtain⟨d',i',z',h'⟩:=hA.at_ (t:=t) (by rw[ht];simp)
   have hd':=qek (h'.kd.trans ht);subst hd';rw[hv.inv_bool,hu.inv_bool,run_equalIn_bool' w D t m n h'.ud,h]
  ·rename_i m n ht;injection h with h;obtain⟨d',i',z',h'⟩:=hA.at_ (t:=t) (by rw[ht];simp)
   have hd':=q4s (h'.kd.trans ht);subst hd';rw[hv.inv_str,hu.inv_str,run_equalIn_string w D t m n h'.ud,h]
  ·rename_i fs xs ys ht;split at h
   ·rename_i hside;unfold qfK at hside;simp only[qR3,Bool.not_eq_true'] at hside;obtain⟨⟨s1,s2⟩,s3⟩:=hside;obtain⟨d',i',z',h'⟩:=hA.at_ (t:=t) (by rw[ht];simp)
    obtain⟨fs',rfl,hfs⟩:=qzO (h'.kd.trans ht);have hfo:P.fieldsOf t=fs':=by unfold Program.fieldsOf;rw[h'.ud]
    obtain⟨z,rfl,g,c⟩:=hv.inv_agg;obtain⟨E,rfl,i,j⟩:=hu.inv_agg;rw[run_equalIn_struct w D t z E (by rw[hfo];exact h'.ud) s1]
    have O:∀(l:List Field) (b:Bool),l.all (fun f=>f.name != "_")=true→qnm T (eqR P T d) xs ys (l.map fun f=>(f.offset,f.type))=some b→(Op.eqFields D z E l).run P w = .ok b w:=by
     intro l
     induction l with
     | nil=>intro b _ h;injection h with h;rw[←h];rfl
     | cons f l ih=>
      intro b hn h;simp only[List.all_cons,qR3] at hn;simp only[qQU,qnm] at h;split at h
      ·rename_i x y H V;split at h
       ·rename_i A U r q;injection h with h;obtain⟨N,g1,W⟩:=q6F (P:=P) (w:=w) hA H g c;obtain⟨G,Y,F⟩:=q6F (P:=P) (w:=w) hA V i j;have h3:=qeD hA d D f.type x y A N G (by omega) r W F
        have I:f.name ≠ "_" := by simp_all
        unfold Op.eqFields;rw[if_pos I];simp only[Sem.run_bind,g1,Y,h3,Result.andThen_ok,Sem.run_ite];rw[ih U hn.2 q,←h];cases A<;>simp
       ·cases h
      ·cases h
    grind
   ·cases h
  ·rename_i n e xs ys ht;split at h
   ·rename_i hside;obtain⟨d',i',z',h'⟩:=hA.at_ (t:=t) (by rw[ht];simp)
    have hd':=qfe (h'.kd.trans ht);subst hd';obtain⟨de,ie,ze,Z⟩:=hA.at_ (t:=e) hside.2;obtain⟨z,rfl,g,c⟩:=hv.inv_agg;obtain⟨E,rfl,i,j⟩:=hu.inv_agg;have M:P.cellsOf e=T.sz e:=by unfold Program.cellsOf;rw[Z.info];exact Z.sz
    rw[run_equalIn_array w D z E h'.ud Z.info,M];have O:∀(n k:Nat) (b:Bool),qnm T (eqR P T d) xs ys (qhh (T.sz e) e n (k*T.sz e))=some b→(Op.eqItems D e (T.sz e) z E (List.range' k n)).run P w = .ok b w:=by
     intro n
     induction n with
     | zero=>intro k b h;injection h with h;rw[←h];rfl
     | succ n ih=>
      intro k b h;simp only[qhh,qnm] at h;split at h
      ·rename_i x y H V;split at h
       ·rename_i A U r q;injection h with h;obtain⟨N,g1,W⟩:=q6F (P:=P) (w:=w) hA H g c;obtain⟨G,Y,F⟩:=q6F (P:=P) (w:=w) hA V i j;have h3:=qeD hA d D e x y A N G (by omega) r W F
        have hk:k*T.sz e+T.sz e=(k+1)*T.sz e:=by grind
        rw[hk] at q;rw[List.range'_succ];unfold Op.eqItems;simp only[Sem.run_bind,g1,Y,h3,Result.andThen_ok,Sem.run_ite];rw[ih (k+1) U q,←h];cases A<;>simp
       ·cases h
      ·cases h
    rw[List.range_eq_range'];grind
   ·cases h
  ·cases h
theorem qBM (hA:Ag P T) {op:BinOp} {t t':TypeId} {x y:Operand} (ho:o.op = .binOp op t x y t') (hs:Sim cx ρ s a w) (h:qkX P T s op t x y K) (hn:JN cx K o a next):o.wp P a w next Q:=by
 have G:execOp a.eval o=(do pure (.value (←(do eqGuard op t x y (a.eval x) (a.eval y);binOp op t (a.eval x) (a.eval y))))):=by unfold execOp;simp_all
 have l:=hs.ev x;have q:=hs.ev y;unfold qkX at h;split at h
 ·rename_i k m k' n j i;rw[j] at l;rw[i] at q;obtain⟨v,r,A,E,O⟩:=qld (P:=P) (w:=w) (L:=s.live) (ρ:=ρ) (t:=t) (x:=x) (y:=y) h.1 h.2;exact zP G (by rw[l.inv_int,q.inv_int];exact A) (hn _ _ ρ _ _ E hs O)
 ·rename_i m n j i;rw[j] at l;rw[i] at q;obtain⟨v,r,A,E,O⟩:=qkU (P:=P) (w:=w) (L:=s.live) (ρ:=ρ) (t:=t) (x:=x) (y:=y) h;exact zP G (by rw[l.inv_str,q.inv_str];exact A) (hn _ _ ρ _ _ E hs O)
 ·rename_i Z ys j i;rw[j] at l;rw[i] at q;have F:∀z,RR w s.live ρ (.bool z) (.c (.d (.bool z))):=fun z => .c _ _ (.d _ _ (.bool _));obtain⟨V,M,-,-⟩:=l.inv_agg;obtain⟨W,N,-,-⟩:=q.inv_agg;rw[M] at l;rw[N] at q;have H:∀{b:Bool},eqR P T 5 t (.agg Z) (.agg ys)=some b→P.eqGuardType P.depth t=false:=fun F=>by
   unfold eqR at F;cases hkt:T.k t<;>rw[hkt] at F<;>simp only[reduceCtorEq] at F;split at F
   ·rename_i I;unfold qsR at I;simp_all
   ·cases F
   split at F
   ·rename_i I;unfold qfK at I;simp_all
   ·cases F
  unfold qfi at h;split at h
  ·obtain⟨b,A,E⟩:=h;refine zP G ?_ (hn _ _ ρ _ _ E hs (F _));rw[M,N];simp only[Sem.run_bind,run_eqGuard_agg w .eql t x y V W (H A),Result.andThen_ok,run_eql_struct,qeD hA 5 10000 t _ _ b _ _ (by decide) A l q]
  ·obtain⟨b,A,E⟩:=h;refine zP G ?_ (hn _ _ ρ _ _ E hs (F _));rw[M,N];simp only[Sem.run_bind,run_eqGuard_agg w .neq t x y V W (H A),Result.andThen_ok,run_neq_struct,qeD hA 5 10000 t _ _ b _ _ (by decide) A l q]
  ·cases h
 ·rename_i u v hu hv;have F:∀z,RR w s.live ρ (.bool z) (.c (.d (.bool z))):=fun z => .c _ _ (.d _ _ (.bool _));unfold qgg at h;split at h
  ·rename_i m n j i;rw[j] at l;rw[i] at q;refine zP G ?_ (hn _ _ ρ _ _ h.2 hs (F _));rw[l.inv_bool,q.inv_bool,eqGuard_at_bool];simp only[pure_bind,binOp,Sem.run_bind,qd8 hA h.1,Result.andThen_ok,Sem.run_pure]
  ·rename_i m n j i;rw[j] at l;rw[i] at q;refine zP G ?_ (hn _ _ ρ _ _ h.2 hs (F _));rw[l.inv_bool,q.inv_bool,eqGuard_at_bool];simp only[pure_bind,binOp,Sem.run_bind,qd8 hA h.1,Result.andThen_ok,Sem.run_pure]
  ·rename_i j i;rw[j] at l;rw[i] at q;obtain⟨⟨e,A⟩,E⟩:=h;refine zP G ?_ (hn _ _ ρ _ _ E hs (F _));rw[l.inv_nilp,q.inv_nilp,eqGuard_at_pointer];simp only[pure_bind,binOp,Sem.run_bind,q4f hA A,Result.andThen_ok,Sem.run_pure];rfl
  ·rename_i j i;rw[j] at l;rw[i] at q;obtain⟨⟨e,A⟩,E⟩:=h;refine zP G ?_ (hn _ _ ρ _ _ E hs (F _));rw[l.inv_nilp,q.inv_nilp,eqGuard_at_pointer];simp only[pure_bind,binOp,Sem.run_bind,q4f hA A,Result.andThen_ok,Sem.run_pure];rfl
  ·rename_i j i;rw[j] at l;rw[i] at q;obtain⟨⟨e,A⟩,E⟩:=h;obtain⟨b,U,-,-,g⟩:=l.inv_ptr;refine zP G ?_ (hn _ _ ρ _ _ E hs (F _));rw[g,q.inv_nilp,eqGuard_at_pointer];simp only[pure_bind,binOp,Sem.run_bind,q4f hA A,Result.andThen_ok,Sem.run_pure];rfl
  ·rename_i j i;rw[j] at l;rw[i] at q;obtain⟨⟨e,A⟩,E⟩:=h;obtain⟨b,U,-,-,g⟩:=l.inv_ptr;refine zP G ?_ (hn _ _ ρ _ _ E hs (F _));rw[g,q.inv_nilp,eqGuard_at_pointer];simp only[pure_bind,binOp,Sem.run_bind,q4f hA A,Result.andThen_ok,Sem.run_pure];rfl
  ·rename_i j i;rw[j] at l;rw[i] at q;obtain⟨⟨e,A⟩,E⟩:=h;obtain⟨b,Y,f,g,-⟩:=l.inv_eptr;refine zP G ?_ (hn _ _ ρ _ _ E hs (F _));rw[g,q.inv_nilp,eqGuard_at_pointer];simp only[pure_bind,binOp,Sem.run_bind,q4f hA A,Result.andThen_ok,Sem.run_pure];rfl
  ·rename_i j i;rw[j] at l;rw[i] at q;obtain⟨⟨e,A⟩,E⟩:=h;obtain⟨b,Y,f,g,-⟩:=l.inv_eptr;refine zP G ?_ (hn _ _ ρ _ _ E hs (F _));rw[g,q.inv_nilp,eqGuard_at_pointer];simp only[pure_bind,binOp,Sem.run_bind,q4f hA A,Result.andThen_ok,Sem.run_pure];rfl
  ·cases h
def qy0 (s:S) (op:UnOp) (x:Operand) (K:KK):Prop:=
 match op,s.ev x with
 | .not,.c (.d (.bool b))=>K (.c (.d (.bool (!b)))) s
 | .neg,.c (.d (.int k n))=>K (.c (.d (.int k (k.wrap (0-n))))) s
 | _,_=>False
theorem qGn {op:UnOp} {t:TypeId} {x:Operand} (ho:o.op = .unOp op t x) (hs:Sim cx ρ s a w) (h:qy0 s op x K) (hn:JN cx K o a next):o.wp P a w next Q:=by
 have g:execOp a.eval o=(do pure (.value (←Op.unary op (a.eval x)))):=by unfold execOp;simp_all
 have f:=hs.ev x;unfold qy0 at h;split at h
 ·rename_i b e;rw[e] at f;exact zP g (by rw[f.inv_bool];rfl) (hn _ _ ρ _ _ h hs (.c _ _ (.d _ _ (.bool _))))
 ·rename_i k n e;rw[e] at f;exact zP g (by rw[f.inv_int];rfl) (hn _ _ ρ _ _ h hs (.c _ _ (.d _ _ (.int _ _))))
 ·cases h
theorem q7D {x:Operand} {ts:Array TypeId} {w':World} {v:Value} (ho:o.op = .call { callee := .builtin .len,args:=#[x],argTypes:=ts }) (hr:(Builtin.len_ ts o.type #[a.eval x]).run P w = .ok v w') (h:next (a.put o.dst v) w'):o.wp P a w next Q:=by unfold Oper.wp execOp;simp only[ho,resolve,invoke,builtin,Sem.run_bind,Sem.run_pure,Result.andThen_ok,List.map_toArray,qQU,List.map_nil,hr];exact h
theorem qw5 {x y:Operand} {ts:Array TypeId} {w':World} {v:Value} (ho:o.op = .call { callee := .builtin .min,args:=#[x,y],argTypes:=ts }) (hr:(Builtin.min_ ts o.type #[a.eval x,a.eval y]).run P w = .ok v w') (h:next (a.put o.dst v) w'):o.wp P a w next Q:=by unfold Oper.wp execOp;simp only[ho,resolve,invoke,builtin,Sem.run_bind,Sem.run_pure,Result.andThen_ok,List.map_toArray,qQU,List.map_nil,hr];exact h
theorem qx2 {x y:Operand} {ts:Array TypeId} {w':World} {v:Value} (ho:o.op = .call { callee := .builtin .max,args:=#[x,y],argTypes:=ts }) (hr:(Builtin.max_ ts o.type #[a.eval x,a.eval y]).run P w = .ok v w') (h:next (a.put o.dst v) w'):o.wp P a w next Q:=by unfold Oper.wp execOp;simp only[ho,resolve,invoke,builtin,Sem.run_bind,Sem.run_pure,Result.andThen_ok,List.map_toArray,qQU,List.map_nil,hr];exact h
def qkx (T:Ty) (s:S) (t:TypeId) (x:Operand) (K:KK):Prop:=
 match s.ev x with
 | .c (.d (.str b))=>T.k t = .str∧K (.c (.d (.int .i64 b.size))) s
 | .c (.d (.sl _ n _))=>(∃e,T.k t = .sl e)∧K (.c (.d (.int .i64 n))) s
 | .c (.own _ _ _ n)=>(∃e,T.k t = .sl e)∧K (.c (.d (.int .i64 n))) s
 | .c .nils=>(∃e,T.k t = .sl e)∧K (.c (.d (.int .i64 0))) s
 | .agg _=>∃n e,T.k t = .arr n e∧K (.c (.d (.int .i64 n))) s
 | _=>False
theorem qDD (hA:Ag P T) {t:TypeId} {x:Operand} {ts:Array TypeId} (ho:o.op = .call { callee := .builtin .len,args:=#[x],argTypes:=ts }) (hts:ts=#[t]) (hs:Sim cx ρ s a w) (h:qkx T s t x K) (hn:JN cx K o a next):o.wp P a w next Q:=by
 subst hts;have u:=hs.ev x;have F:∀z,RR w s.live ρ (.int .i64 z) (.c (.d (.int .i64 z))):=fun z => .c _ _ (.d _ _ (.int _ _));have E:T.k t ≠ .other→∃d,P.underlying t=some d∧q7m d=T.k t:=fun I=>by obtain⟨d,i,z,g⟩:=hA.at_ I;exact⟨d,g.ud,g.kd⟩
 unfold qkx at h;split at h
 ·rename_i b f;rw[f] at u;obtain⟨d,l,m⟩:=E (by simp_all)
  have r:=q4s (m.trans h.1);subst r;refine q7D ho ?_ (hn _ _ ρ _ _ h.2 hs (F _));rw[u.inv_str];simp[Builtin.len_,run_underlying l,goInt]
 ·rename_i M n N f;rw[f] at u;obtain⟨⟨e,j⟩,y⟩:=h;obtain⟨d,l,m⟩:=E (by rw[j];simp)
  have r:=q4K (m.trans j);subst r;obtain⟨A,G,q,-⟩:=u.inv_sl;refine q7D ho ?_ (hn _ _ ρ _ _ y hs (F _));rw[q];simp[Builtin.len_,run_underlying l,goInt]
 ·rename_i id M H n f;rw[f] at u;obtain⟨⟨e,j⟩,y⟩:=h;obtain⟨d,l,m⟩:=E (by rw[j];simp)
  have r:=q4K (m.trans j);subst r;obtain⟨-,q⟩:=u.inv_own;refine q7D ho ?_ (hn _ _ ρ _ _ y hs (F _));rcases q with ⟨b,G,-,-,-,q⟩|⟨-,q,-,rfl⟩
  ·rw[q];simp[Builtin.len_,run_underlying l,goInt]
  ·rw[q];simp[Builtin.len_,run_underlying l,goInt]
 ·rename_i f;rw[f] at u;obtain⟨⟨e,j⟩,y⟩:=h;obtain⟨d,l,m⟩:=E (by rw[j];simp)
  have r:=q4K (m.trans j);subst r;have q:=u.inv_nils;refine q7D ho ?_ (hn _ _ ρ _ _ y hs (F _));rw[q];simp[Builtin.len_,run_underlying l,goInt]
 ·rename_i O f;obtain⟨n,e,j,y⟩:=h;obtain⟨d,l,m⟩:=E (by rw[j];simp)
  have r:=qfe (m.trans j);subst r;refine q7D ho ?_ (hn _ _ ρ _ _ y hs (F _));simp[Builtin.len_,run_underlying l,goInt]
 ·cases h
def qkq (s:S) (x y:Operand) (K:KK):Prop:=
 match s.ev x,s.ev y with
 | .c (.d (.int k m)),.c (.d (.int _ n))=>K (.c (.d (.int k (min m n)))) s
 | _,_=>False
def ql8 (s:S) (x y:Operand) (K:KK):Prop:=
 match s.ev x,s.ev y with
 | .c (.d (.int k m)),.c (.d (.int _ n))=>K (.c (.d (.int k (max m n)))) s
 | _,_=>False
theorem qAE {x y:Operand} {ts:Array TypeId} (ho:o.op = .call { callee := .builtin .min,args:=#[x,y],argTypes:=ts }) (hs:Sim cx ρ s a w) (h:qkq s x y K) (hn:JN cx K o a next):o.wp P a w next Q:=by
 have g:=hs.ev x;have i:=hs.ev y;unfold qkq at h;split at h
 ·rename_i k m j n f b;rw[f] at g;rw[b] at i;have e:min m n=if n<m then n else m:=by omega
  rw[e] at h;exact qw5 ho (by rw[g.inv_int,i.inv_int];rfl) (hn _ _ ρ _ _ h hs (.c _ _ (.d _ _ (.int _ _))))
 ·cases h
theorem qzV {x y:Operand} {ts:Array TypeId} (ho:o.op = .call { callee := .builtin .max,args:=#[x,y],argTypes:=ts }) (hs:Sim cx ρ s a w) (h:ql8 s x y K) (hn:JN cx K o a next):o.wp P a w next Q:=by
 have g:=hs.ev x;have i:=hs.ev y;unfold ql8 at h;split at h
 ·rename_i k m j n f b;rw[f] at g;rw[b] at i;have e:max m n=if m<n then n else m:=by omega
  rw[e] at h;exact qx2 ho (by rw[g.inv_int,i.inv_int];rfl) (hn _ _ ρ _ _ h hs (.c _ _ (.d _ _ (.int _ _))))
 ·cases h
end
end
noncomputable section
open Go.RowKit
section
variable {P:Program} {T:Ty} {cx:Cx} {ρ:Pl} {s:S} {a:Act} {w:World} {o:Oper} {next:Act→World→Prop} {Q:Exit→Act→World→Prop} {K:KK}
theorem qkw (w:World) (L:Nat→Prop) (ρ:Pl) (o:Obj):q8Y w L ρ (w.alloc o) L ρ:=
 ⟨by simp,fun b c _=>Below.heap_alloc w o b c,fun _ _ h=>h,fun _ d=>⟨d,rfl⟩,fun b e=>⟨e,fun c=>Below.heap_alloc w o b c⟩⟩
theorem Sim.other (hs:Sim cx ρ s a w) (o:Obj):Sim cx ρ s a (w.alloc o):=by
 have h:=qkw w s.live ρ o;exact⟨hs.hd.stay h,hs.size,fun i=>(hs.tm i).stay h,fun i b c f e=>⟨by have:=(hs.hp i b c f e).1;simp;omega,(hs.hp i b c f e).2.stay h (Below.heap_alloc w o b (hs.hp i b c f e).1)⟩,hs.hp0,hs.out,hs.inj,hs.nx,
  ⟨hs.kept.os,hs.kept.tape,hs.kept.output,qR8 hs.kept.size (by simp),fun k g r=>(Below.heap_alloc w o k (qR7 g hs.kept.size)).trans (hs.kept.block k g r)⟩,hs.oldF,hs.pin,hs.disj,hs.ows.sub (fun b A=>by have:=hs.ows.lt b A;simp;omega) fun i j d z=>by obtain⟨b,c,y,n,u,l,m,q,x,E⟩:=z;exact⟨b,c,y,n,u,l,m,q,x,by rw[←E];exact(World.cell?_of_block (w:=w) (Below.heap_alloc w o b (hs.hp i b c l m).1)).symm⟩⟩
theorem Sim.not_occ (hs:Sim cx ρ s a w) {b:Nat} (hb:w.heap.size≤b):¬ Occ s.live ρ b:=fun h=>by
 rcases h with h|⟨i,c,e,d⟩
 ·have:=hs.ows.lt b h;omega
 ·have:=(hs.hp i b c e d).1;omega
def u8s (l:List UInt8):List D:=l.map fun b => .int .u8 b.toNat
def qxx:List C→Option (List Int)
 | []=>some []
 | .d (.int .u8 n)::r=>(qxx r).map (n :: ·)
 | _::_=>none
def qnf:List D→Option (List Int)
 | []=>some []
 | .int .u8 n::r=>(qnf r).map (n :: ·)
 | _::_=>none
theorem qka:∀(l:List D),qxx (l.map C.d)=qnf l
 | []=>rfl
 | .int .u8 n::r=>by simp only[qQU,qxx,qnf,qka r]
 | .int .i8 _::_ | .int .i16 _::_ | .int .i32 _::_ | .int .i64 _::_ | .int .u16 _::_ | .int .u32 _::_ | .int .u64 _::_=>rfl
 | .bool _::_ | .str _::_ | .sl _ _ _::_=>rfl
theorem qho:∀{cs:List C} {ns:List Int},qxx cs=some ns→cs.length=ns.length∧∀(j:Nat) (n:Int),ns[j]?=some n→cs[j]?=some (C.d (.int .u8 n))
 | [],ns,h=>by injection h with h;simp_all
 | c::r,ns,h=>by
  unfold qxx at h;split at h
  ·simp_all
  ·rename_i n' r' heq;injection heq with h1 h2;subst h1 h2;obtain⟨m,h3,h4⟩:=qQK.1 h;subst h4;obtain⟨e,b⟩:=qho h3;grind
  ·cases h
def qlc (ns:List Int):ByteArray:=⟨(ns.map fun n=>UInt8.ofNat n.toNat).toArray⟩
def qcX (T:Ty) (s:S) (t t':TypeId) (x:Operand) (K:KK):Prop:=
 match T.k t,T.k t',s.ev x with
 | .int _,.int k,.c (.d (.int _ n))=>K (.c (.d (.int k (k.wrap n)))) s
 | .str,.str,.c (.d (.str b))=>K (.c (.d (.str b))) s
 | .str,.sl e,.c (.d (.str b))=>T.k e = .int .u8∧b.size≤4611686018427387903∧K (.c (.d (.sl 1 b.size (u8s b.data.toList)))) s
 | .sl e,.str,.c (.own id sz off n)=>T.k e = .int .u8∧sz=1∧∃ns,qxx (((s.blk id).cells.drop off).take n)=some ns∧ns.length=n∧K (.c (.d (.str (qlc ns)))) s
 | .sl e,.str,.c (.d (.sl sz _ cs))=>T.k e = .int .u8∧sz=1∧∃ns,qnf cs=some ns∧K (.c (.d (.str (qlc ns)))) s
 | .sl e,.str,.c .nils=>T.k e = .int .u8∧K (.c (.d (.str ⟨#[]⟩))) s
 | _,_,_=>False
theorem q6d (hA:Ag P T) {t:TypeId} (hk:T.k t ≠ .other):∃d,P.underlying t=some d∧q7m d=T.k t:=by obtain⟨d,i,z,g⟩:=hA.at_ hk;exact⟨d,g.ud,g.kd⟩
theorem qhN (ns:List Int):∀r:ByteArray,ns.foldl (fun r n=>r.push (UInt8.ofNat n.toNat)) r=⟨r.data++(ns.map fun n=>UInt8.ofNat n.toNat).toArray⟩:=by
 induction ns with
 | nil=>intro r;simp
 | cons n ns b=>simp_all
theorem q7U {src dst e:TypeId} {A:Option Addr} {cap:Nat} {ns:List Int} (hs:P.underlying src=some (.slice e)) (he:P.underlying e=some (.int .u8)) (hd:P.underlying dst=some .string)
  (hA:ns=[]∨∃b off,A=some ⟨b,off,none⟩∧∀(j:Nat) n,ns[j]?=some n→w.cell? ⟨b,off+j,none⟩=some (.int .u8 n)):(convert src dst (.slice A ns.length cap)).run P w = .ok (.string (qlc ns)) w:=by
 rw[run_convert_bytes_string w src dst e A ns.length cap hs he hd];have i:∀a,A=some a→(loadCells a ns.length).run P w = .ok (ns.map (Value.int .u8)).toArray w:=fun a f=>by
  have:=run_loadCells_list (P:=P) (w:=w) a (ns.map (Value.int .u8)) (fun j v d=>by
   rcases hA with rfl|⟨b,off,rfl,l⟩
   ·simp at d
   ·injection f with f;subst f;rw[qQL] at d;obtain⟨n,k,g⟩:=qQK.1 d;rw[q02,←g];simp_all)
  simp_all
 cases A with
 | none=>
  rcases hA with rfl|⟨b,off,h,-⟩
  ·rfl
  ·cases h
 | some a=>
  rw[run_bytesToString w a ns.length cap ns (i a rfl),qhN];have c:ByteArray.empty.data=#[]:=rfl;rw[c];simp[qlc]
theorem qxr (hA:Ag P T) {t t':TypeId} {x:Operand} (ho:o.op = .convert t t' x) (hs:Sim cx ρ s a w) (h:qcX T s t t' x K) (hn:JN cx K o a next):o.wp P a w next Q:=by
 have he:execOp a.eval o=(do pure (.value (←convert t t' (a.eval x)))):=by unfold execOp;simp_all
 have y:=hs.ev x;have u:∀z,RR w s.live ρ (.string z) (.c (.d (.str z))):=fun z => .c _ _ (.d _ _ (.str _));unfold qcX at h;split at h
 ·rename_i k1 k n1 n q m i;rw[i] at y;obtain⟨d1,E,H⟩:=q6d hA (t:=t) (by rw[q];simp)
  obtain⟨d2,F,M⟩:=q6d hA (t:=t') (by rw[m];simp)
  have l:=q7Y (H.trans q);have g:=q7Y (M.trans m);subst l g;refine zP he ?_ (hn _ _ ρ _ _ h hs (.c _ _ (.d _ _ (.int _ _))));rw[y.inv_int];unfold convert;simp only[Sem.run_bind,run_underlying E,run_underlying F,Result.andThen_ok,Conv.intToInt,Sem.run_pure]
 ·rename_i b q m i;rw[i] at y;obtain⟨d1,E,H⟩:=q6d hA (t:=t) (by rw[q];simp)
  obtain⟨d2,F,M⟩:=q6d hA (t:=t') (by rw[m];simp)
  have l:=q4s (H.trans q);have g:=q4s (M.trans m);subst l g;refine zP he ?_ (hn _ _ ρ _ _ h hs (u _));rw[y.inv_str];unfold convert;simp only[Sem.run_bind,run_underlying E,run_underlying F,Result.andThen_ok,Sem.run_pure]
 ·rename_i e b q m i;rw[i] at y;obtain⟨G,h2,h3⟩:=h;obtain⟨d1,E,H⟩:=q6d hA (t:=t) (by rw[q];simp)
  obtain⟨d2,F,M⟩:=q6d hA (t:=t') (by rw[m];simp)
  obtain⟨d3,O,V⟩:=q6d hA (t:=e) (by rw[G];simp)
  have l:=q4s (H.trans q);have g:=q4K (M.trans m);have r:=q7Y (V.trans G);subst l g r;have ad:=run_bytes_of_string (P:=P) w t t' e b E F O;have aa:=grownCap_ge w b.size 0 e;have I:=grownCap_le_maxLen w b.size 0 e (by unfold maxLen;omega)
  refine zP he (by rw[y.inv_str];exact ad) (hn _ _ ρ _ _ h3 ((hs.drew).other _) (.c _ _ (.d _ _ ?_)))
  by_cases hz:b.size=0
  ·have ac:u8s b.data.toList=[]:=by
    have:b.data.toList=[]:=qQQ (by assumption)
    rw[this];rfl
   rw[hz] at I ⊢;rw[ac];exact .nil _ _ _ I (fun h=>by cases h)
  ·refine .sl w.heap.size 0 b.size _ 1 _ (fun j => .int .u8 ((b.data.toList.getD j 0).toNat:Int)) (by simp[u8s]) aa I (by simp) (hs.not_occ (qQN _)) (fun j c N=>?_) (fun j c N=>?_)
   ·have hb:j<b.data.size:=by have:=(qQB.1 N).1;simpa [u8s] using this
    have hh:(w.drew.alloc (.cells (bytesRow b (grownCap w b.size 0 e)) e ((bytesRow b (grownCap w b.size 0 e)).size,(bytesRow b (grownCap w b.size 0 e)).size+1))).heap[w.heap.size]?=some (.cells (bytesRow b (grownCap w b.size 0 e)) e ((bytesRow b (grownCap w b.size 0 e)).size,(bytesRow b (grownCap w b.size 0 e)).size+1)):=heap_alloc_new w.drew _;simp only[World.cell?,hh];unfold bytesRow;grind
   ·unfold u8s at N;rw[qQL] at N;obtain⟨z,Z,h6⟩:=qQK.1 N;subst h6;have:b.data.toList.getD j 0=z:=by simp_all
    rw[this];exact .int _ _
 ·rename_i e id sz U n q m i;rw[i] at y;obtain⟨G,rfl,ns,h2,h3,h4⟩:=h;obtain⟨d1,E,H⟩:=q6d hA (t:=t) (by rw[q];simp)
  obtain⟨d2,F,M⟩:=q6d hA (t:=t') (by rw[m];simp)
  obtain⟨d3,O,V⟩:=q6d hA (t:=e) (by rw[G];simp)
  have l:=q4K (H.trans q);have g:=q4s (M.trans m);have r:=q7Y (V.trans G);subst l g r;obtain⟨q1,q2⟩:=y.inv_own;subst h3;obtain⟨-,Y⟩:=qho h2;refine zP he ?_ (hn _ _ ρ _ _ h4 hs (u _));rcases q2 with ⟨b,ab,q2,q3,-,q4⟩|⟨-,q3,-,q4⟩
  ·rw[q4];refine q7U E O F (.inr ⟨b,U*1,rfl,fun j n N=>?_⟩);have Z:=Y j n N;have ae:j<ns.length:=(qQB.1 N).1;rw[qR6 ae,List.getElem?_drop] at Z;obtain⟨v,h6,W⟩:=(hs.hp id b ab q1 q2).2.cell Z;cases W with|d _ _ W=>cases W;simp_all
  ·rw[q3];have ag:ns=[]:=qQQ q4;subst ag;exact q7U E O F (.inl rfl)
 ·rename_i e sz n cs q m i;rw[i] at y;obtain⟨G,rfl,ns,h2,h4⟩:=h;obtain⟨d1,E,H⟩:=q6d hA (t:=t) (by rw[q];simp)
  obtain⟨d2,F,M⟩:=q6d hA (t:=t') (by rw[m];simp)
  obtain⟨d3,O,V⟩:=q6d hA (t:=e) (by rw[G];simp)
  have l:=q4K (H.trans q);have g:=q4s (M.trans m);have r:=q7Y (V.trans G);subst l g r;obtain⟨A,ab,q1,q2,q3,q4,q5,q6⟩:=y.inv_sl;rw[←qka] at h2;obtain⟨hl,Y⟩:=qho h2;have af:n=ns.length:=by simp_all
  subst af;refine zP he ?_ (hn _ _ ρ _ _ h4 hs (u _));rw[q1];refine q7U E O F ?_;rcases q6 with q6|⟨b,U,f,rfl,q7,q8,q9,q10⟩
  ·simp_all
  ·refine .inr ⟨b,U,rfl,fun j n N=>?_⟩;have Z:=Y j n N;rw[qQL] at Z;obtain⟨x',h6,W⟩:=qQK.1 Z;injection W with W;subst W;have h8:=q10 j _ h6;rw[q9 j _ h6];generalize f j=v at h8;cases h8;rfl
 ·rename_i e q m i;rw[i] at y;obtain⟨G,h4⟩:=h;obtain⟨d1,E,H⟩:=q6d hA (t:=t) (by rw[q];simp)
  obtain⟨d2,F,M⟩:=q6d hA (t:=t') (by rw[m];simp)
  obtain⟨d3,O,V⟩:=q6d hA (t:=e) (by rw[G];simp)
  have l:=q4K (H.trans q);have g:=q4s (M.trans m);have r:=q7Y (V.trans G);subst l g r;have q1:=y.inv_nils;refine zP he ?_ (hn _ _ ρ _ _ h4 hs (u _));rw[q1];exact q7U (ns:=[]) E O F (.inl rfl)
 ·cases h
end
end
noncomputable section
open Go.RowKit
section
variable {P:Program} {T:Ty} {cx:Cx} {ρ:Pl} {s:S} {a:Act} {w:World} {o:Oper} {next:Act→World→Prop} {Q:Exit→Act→World→Prop} {K:KK}
def S.bd (s:S) (x:Option Operand) (z:Int):Option Int:=
 match x with
 | none=>some z
 | some y=>match s.ev y with | .c (.d (.int _ i))=>some i|_=>none
def q8U (T:Ty) (s:S) (t:TypeId) (x:Operand) (lo hi mx:Option Operand) (K:KK):Prop:=
 match s.ev x with
 | .c (.d (.str b))=>T.k t = .str∧mx=none∧∃l h,s.bd lo 0=some l∧s.bd hi b.size=some h∧0≤l∧l≤h∧h≤b.size∧K (.c (.d (.str (b.extract l.toNat h.toNat)))) s
 | .c (.d (.sl sz n cs))=>∃e,T.k t = .sl e∧T.k e ≠ .other∧T.sz e=sz∧mx=none∧∃l h,s.bd lo 0=some l∧s.bd hi n=some h∧0≤l∧l≤h∧h≤n∧K (.c (.d (.sl sz (h.toNat-l.toNat) ((cs.drop (l.toNat*sz)).take ((h.toNat-l.toNat)*sz))))) s
 | .c (.own id sz off n)=>∃e,T.k t = .sl e∧T.k e ≠ .other∧T.sz e=sz∧mx=none∧∃l h,s.bd lo 0=some l∧s.bd hi n=some h∧0≤l∧l≤h∧h≤n∧
   ((l=0∨l<n)→K (.c (.own id sz (off+l.toNat) (h.toNat-l.toNat))) s)∧(¬ (l=0∨l<n)→K (.c (.d (.sl sz 0 []))) s)
 | .c .nils=>∃e,T.k t = .sl e∧T.k e ≠ .other∧mx=none∧s.bd lo 0=some 0∧s.bd hi 0=some 0∧K (.c .nils) s
 | _=>False
theorem qjE (hs:Sim cx ρ s a w) {x:Option Operand} {z l:Int} (h:s.bd x z=some l):(x=none∧l=z)∨∃y k,x=some y∧a.eval y = .int k l:=by
 unfold S.bd at h;split at h
 ·simp_all
 ·rename_i y;have b:=hs.ev y;split at h
  ·rename_i k i c;injection h with h;subst h;rw[c] at b;exact .inr ⟨y,k,rfl,b.inv_int⟩
  ·cases h
theorem q4v (hs:Sim cx ρ s a w) {isS:Bool} {lo hi:Option Operand} {len cap:Nat} {l h:Int} (h1:s.bd lo 0=some l) (h2:s.bd hi len=some h) (g0:0≤l) (g1:l≤h) (g2:h≤len) (g3:len≤cap) :
  (Instr.sliceBounds isS len cap (lo.map a.eval) (hi.map a.eval) none).run P w = .ok (l.toNat,h.toNat,cap) w:=by
 have d:0≤h∧h≤(cap:Int):=by omega
 have c:0≤l∧l≤(h.toNat:Int):=by omega
 unfold Instr.sliceBounds;rcases qjE hs h1 with ⟨rfl,rfl⟩|⟨y,k,rfl,e⟩<;>rcases qjE hs h2 with ⟨rfl,rfl⟩|⟨f,g,rfl,b⟩
 ·simp
 ·simp[b,Instr.sliceBound,asIntOf,d]
 ·simp[e,Instr.sliceBound,asIntOf,c,show l≤(len:Int) by omega]
 ·simp[e,b,Instr.sliceBound,asIntOf,d,c,show l≤max h 0 by omega]
theorem q2c {t e:TypeId} {i:TypeInfo} {A:Option Addr} {n cap l h:Nat} {lo hi:Option Value} (ht:P.underlying t=some (.slice e)) (hi':P.info? e=some i)
  (hb:(Instr.sliceBounds true n cap lo hi none).run P w = .ok (l,h,cap) w):(Instr.sliceAt t (.slice A n cap) lo hi none).run P w = .ok (.slice (if cap=l then A else A.map (·.add (l*i.size))) (h-l) (cap-l)) w:=by
 unfold Instr.sliceAt;simp only[Sem.run_bind,run_underlying ht,Result.andThen_ok];unfold Instr.slice;simp only[Sem.run_bind,run_underlying ht,Result.andThen_ok,hb,ZC hi',Sem.run_pure]
theorem qt3 (hA:Ag P T) {t:TypeId} {x:Operand} {lo hi mx:Option Operand} (ho:o.op = .slice t x lo hi mx) (hs:Sim cx ρ s a w) (h:q8U T s t x lo hi mx K) (hn:JN cx K o a next):o.wp P a w next Q:=by
 have N:execOp a.eval o=(do pure (.value (←Instr.sliceAt t (a.eval x) (lo.map a.eval) (hi.map a.eval) (mx.map a.eval)))):=by unfold execOp;simp_all
 have y:=hs.ev x;unfold q8U at h;split at h
 ·rename_i b k;rw[k] at y;obtain⟨q,rfl,l,h,E,z,I,O,M,G⟩:=h;obtain⟨d1,e1,f1⟩:=q6d hA (t:=t) (by rw[q];simp)
  have m:=q4s (f1.trans q);subst m;have u:=q4v (P:=P) (isS:=false) (cap:=b.size) hs E z I O M (qQN _);refine zP N ?_ (hn _ _ ρ _ _ G hs (.c _ _ (.d _ _ (.str _))));rw[y.inv_str];unfold Instr.sliceAt;simp only[Sem.run_bind,run_underlying e1,Result.andThen_ok];unfold Instr.slice;simp only[Sem.run_bind,run_underlying e1,Result.andThen_ok,Option.map_none,Option.isSome_none,Bool.false_eq_true,if_false,Sem.run_pure,u]
 ·rename_i sz n cs k;rw[k] at y;obtain⟨e,q,V,rfl,rfl,l,h,E,z,I,O,M,G⟩:=h;obtain⟨d1,i1,z1,r⟩:=hA.at_ (t:=t) (by rw[q];simp)
  obtain⟨d2,i2,z2,F⟩:=hA.at_ V;have m:=q4K (r.kd.trans q);subst m;obtain⟨A,cap,W,H,q3,q4,q5,q6⟩:=y.inv_sl;have u:=q4v (P:=P) (isS:=true) (cap:=cap) hs E z I O M H;have g:=q2c (A:=A) r.ud F.info u;refine zP N (by rw[W];exact g) (hn _ _ ρ _ _ G hs (.c _ _ (.d _ _ ?_)))
  rw[F.sz];by_cases hz:h.toNat-l.toNat=0
  ·rw[hz];simp only[Nat.zero_mul,List.take_zero];exact .nil _ _ _ (by omega) (fun U=>by
    split at U
    ·omega
    simp_all)
  ·rcases q6 with q6|⟨b,i,f,rfl,q7,q8,q9,q10⟩
   ·omega
   ·rw[if_neg (by omega)]
    simp only[Option.map_some,q02];refine .sl b _ _ _ _ _ (fun j=>f (l.toNat*T.sz e+j)) ?_ (by omega) (by omega) q7 q8 (fun j c hj=>?_) (fun j c hj=>?_)
    ·rw[qR0,qRk,q5,←Nat.sub_mul];exact Nat.min_eq_left (Nat.mul_le_mul_right _ (by omega))
    all_goals
     have Z:j<(h.toNat-l.toNat)*T.sz e:=by grind
     rw[qR6 Z,List.getElem?_drop] at hj
    ·grind
    simp_all
 ·rename_i id sz i n k;rw[k] at y;obtain⟨e,q,V,rfl,rfl,l,h,E,z,I,O,M,G,h4⟩:=h;obtain⟨d1,i1,z1,r⟩:=hA.at_ (t:=t) (by rw[q];simp)
  obtain⟨d2,i2,z2,F⟩:=hA.at_ V;have m:=q4K (r.kd.trans q);subst m;obtain⟨W,H⟩:=y.inv_own;rcases H with ⟨b,cap,H,q3,hm,q4⟩|⟨H,q3,rfl,rfl⟩
  ·have u:=q4v (P:=P) (isS:=true) (cap:=cap-i) hs E z I O M (by omega)
   have g:=q2c (A:=some ⟨b,i*T.sz e,none⟩) r.ud F.info u;by_cases Y:l=0∨l<n
   ·refine zP N (by rw[q4];exact g) (hn _ _ ρ _ _ (G Y) hs (.c _ _ ?_))
    have ab:=RC.own (w:=w) id (T.sz e) (i+l.toNat) (h.toNat-l.toNat) b cap W H (by omega) hm
    rw[F.sz];have aa:(if cap-i=l.toNat then some (⟨b,i*T.sz e,none⟩:Addr) else(some (⟨b,i*T.sz e,none⟩:Addr)).map (·.add (l.toNat*T.sz e)))=some ⟨b,(i+l.toNat)*T.sz e,none⟩:=by
     by_cases hc:cap-i=l.toNat
     ·grind
     ·rw[if_neg hc,Option.map_some,q02,Nat.add_mul]
    grind
   ·refine zP N (by rw[q4];exact g) (hn _ _ ρ _ _ (h4 Y) hs (.c _ _ (.d _ _ ?_)))
    rw[show h.toNat-l.toNat=0 by omega]
    refine .nil _ _ _ (by omega) (fun U=>?_)
    grind
  ·have Y:l=0:=by omega
   have hh:h=0:=by omega
   subst Y hh;have u:=q4v (P:=P) (isS:=true) (cap:=0) hs E z I O M (qQN _);have g:=q2c (A:=none) r.ud F.info u;refine zP N (by rw[q3];exact g) (hn _ _ ρ _ _ (G (.inl rfl)) hs (.c _ _ ?_))
   exact .own0 id (T.sz e) W H
 ·rename_i k;rw[k] at y;obtain⟨e,q,V,rfl,E,z,G⟩:=h;obtain⟨d1,i1,z1,r⟩:=hA.at_ (t:=t) (by rw[q];simp)
  obtain⟨d2,i2,z2,F⟩:=hA.at_ V;have m:=q4K (r.kd.trans q);subst m;have q3:=y.inv_nils;have u:=q4v (P:=P) (isS:=true) (len:=0) (cap:=0) hs E z (by omega) (by omega) (by omega) (qQN _)
  have g:=q2c (A:=none) r.ud F.info u;exact zP N (by simp_all) (hn _ _ ρ _ _ G hs (.c _ _ .nils))
 ·cases h
def qeV (T:Ty) (s:S) (t:TypeId) (x:Operand) (lo hi mx:Option Operand) (K:KK):Prop:=
 ∃e,T.k t = .sl e∧T.k e ≠ .other∧lo=none∧hi.isSome=true∧mx.isSome=true∧
  match s.ev x with
  | .c (.d (.sl sz n cs))=>T.sz e=sz∧s.bd hi 0=some (n:Int)∧s.bd mx 0=some (n:Int)∧K (.c (.clp sz n cs)) s
  | .c .nils=>s.bd hi 0=some 0∧s.bd mx 0=some 0∧K (.c (.clp (T.sz e) 0 [])) s
  | _=>False
theorem qk1 (hs:Sim cx ρ s a w) {t e:TypeId} {i:TypeInfo} {A:Option Addr} {n cap:Nat} {hi mx:Option Operand} (ht:P.underlying t=some (.slice e)) (hi':P.info? e=some i) (h1:hi.isSome=true) (h2:mx.isSome=true) (h3:s.bd hi 0=some (n:Int)) (h4:s.bd mx 0=some (n:Int)) (hc:n≤cap) :
  (Instr.sliceAt t (.slice A n cap) none (hi.map a.eval) (mx.map a.eval)).run P w = .ok (.slice (if n=0 then A else A.map (·.add 0)) n n) w:=by
 rcases qjE hs h3 with ⟨rfl,-⟩|⟨y,k,rfl,c⟩
 ·cases h1
 rcases qjE hs h4 with ⟨rfl,-⟩|⟨d,f,rfl,b⟩
 ·cases h2
 unfold Instr.sliceAt;simp only[Sem.run_bind,run_underlying ht,Result.andThen_ok];unfold Instr.slice;simp only[Sem.run_bind,run_underlying ht,Result.andThen_ok];unfold Instr.sliceBounds;simp[c,b,Instr.sliceBound,asIntOf,hc,ZC hi']
theorem quJ (hA:Ag P T) {t:TypeId} {x:Operand} {lo hi mx:Option Operand} (ho:o.op = .slice t x lo hi mx) (hs:Sim cx ρ s a w) (h:qeV T s t x lo hi mx K) (hn:JN cx K o a next):o.wp P a w next Q:=by
 have M:execOp a.eval o=(do pure (.value (←Instr.sliceAt t (a.eval x) (lo.map a.eval) (hi.map a.eval) (mx.map a.eval)))):=by unfold execOp;simp_all
 have i:=hs.ev x;obtain⟨e,F,V,rfl,N,H,h⟩:=h;obtain⟨d1,Z,z1,u⟩:=hA.at_ (t:=t) (by rw[F];simp)
 obtain⟨d2,i2,z2,I⟩:=hA.at_ V;have m:=q4K (u.kd.trans F);subst m;split at h
 ·rename_i sz n k g;rw[g] at i;obtain⟨rfl,y,r,z⟩:=h;obtain⟨A,cap,Y,O,q3,q4,G,q⟩:=i.inv_sl;have d:=qk1 (P:=P) (A:=A) (cap:=cap) hs u.ud I.info N H y r O;have j:(if n=0 then A else A.map (·.add 0))=A:=by
   split
   ·rfl
   ·cases A with
    | none=>rfl
    | some ad=>rfl
  rw[j] at d;refine zP M (by simp_all) (hn _ _ ρ _ _ z hs (.c _ _ (.clp A _ n k ?_)))
  rcases q with q|⟨b,l,f,rfl,W,U,q9,q10⟩
  ·subst q;have E:k=[]:=qQQ (by rw[G];simp)
   subst E;exact .nil _ _ _ (qQX _) fun _=>rfl
  ·exact .sl b l n n _ k f G (qQN _) (by omega) W U q9 q10
 ·rename_i g;rw[g] at i;obtain⟨y,r,z⟩:=h;have d:=qk1 (P:=P) (A:=none) (n:=0) (cap:=0) hs u.ud I.info N H y r (qQN _);refine zP M (by rw[i.inv_nils];exact d) (hn _ _ ρ _ _ z hs (.c _ _ (.clp none _ 0 [] (.nil _ _ _ (qQX _) fun _=>rfl))))
 ·cases h
def qlG (T:Ty) (s:S) (t:TypeId) (x:Operand) (lo hi mx:Option Operand) (K:KK):Prop:=
 match mx with
 | none=>q8U T s t x lo hi none K
 | some m=>qeV T s t x lo hi (some m) K
theorem qoN (hA:Ag P T) {t:TypeId} {x:Operand} {lo hi mx:Option Operand} (ho:o.op = .slice t x lo hi mx) (hs:Sim cx ρ s a w) (h:qlG T s t x lo hi mx K) (hn:JN cx K o a next):o.wp P a w next Q:=by
 cases mx with
 | none=>exact qt3 hA ho hs h hn
 | some m=>exact quJ hA ho hs h hn
end
end
noncomputable section
open Go.RowKit
section
variable {P:Program} {T:Ty} {cx:Cx} {ρ:Pl} {s:S} {a:Act} {w:World} {o:Oper} {next:Act→World→Prop} {Q:Exit→Act→World→Prop} {K:KK}
def q9v (T:Ty) (s:S) (t:TypeId) (x:Operand) (f:Nat) (K:KK):Prop:=
 match s.ev x with
 | .agg xs=>∃fo ft r,T.foff t f=some (fo,ft)∧ld T xs fo ft=some r∧K r s
 | _=>False
theorem qqb (hA:Ag P T) {t:TypeId} {x:Operand} {f:Nat} (ho:o.op = .field t x f) (hs:Sim cx ρ s a w) (h:q9v T s t x f K) (hn:JN cx K o a next):o.wp P a w next Q:=by
 have U:execOp a.eval o=(do pure (.value (←Instr.field t (a.eval x) f))):=by unfold execOp;simp only[ho]
 have A:=hs.ev x;unfold q9v at h;split at h
 ·rename_i Z n;rw[n] at A;obtain⟨Y,G,I,q3⟩:=A.inv_agg;obtain⟨M,V,r,g,F,W⟩:=h;obtain⟨v,N,u⟩:=q6F (P:=P) (w:=w) hA F I q3;have O:T.k t ≠ .other:=by intro h;simp[Ty.foff,h] at g
  obtain⟨d,i,z,E⟩:=hA.at_ O;have m:∃e c,d = .struct e∧e[f]?=some c∧c.offset=M∧c.type=V:=by
   have b:=E.kd;cases d with
   | struct e=>
    simp only[q7m] at b;simp only[Ty.foff,←b,qQL] at g;obtain⟨c,u,y⟩:=qQK.1 g;injection y with y H;exact⟨e,c,rfl,by simpa using u,y,H⟩
   | _=>simp only[q7m] at b;simp[Ty.foff,←b] at g
  obtain⟨e,c,rfl,l,q,j⟩:=m;refine zP U ?_ (hn _ _ ρ _ _ W hs u);rw[G];unfold Instr.field;simp only[Sem.run_bind,run_underlying E.ud,Result.andThen_ok,l,asAgg,Sem.run_pure,j,q,N]
 ·cases h
def q9j (T:Ty) (s:S) (t:TypeId) (x y:Operand) (K:KK):Prop:=
 match s.ev y,s.ev x with
 | .c (.d (.int _ i)),.agg xs=>∃n e r,T.k t = .arr n e∧T.k e ≠ .other∧0≤i∧i<n∧ld T xs (i.toNat*T.sz e) e=some r∧K r s
 | .c (.d (.int _ i)),.c (.d (.str b))=>T.k t = .str∧0≤i∧∃c,b.data.toList[i.toNat]?=some c∧K (.c (.d (.int .u8 c.toNat))) s
 | _,_=>False
theorem qre (hA:Ag P T) {t:TypeId} {x y:Operand} (ho:o.op = .index t x y) (hs:Sim cx ρ s a w) (h:q9j T s t x y K) (hn:JN cx K o a next):o.wp P a w next Q:=by
 have I:execOp a.eval o=(do pure (.value (←Instr.index t (a.eval x) (a.eval y)))):=by unfold execOp;simp_all
 have q:=hs.ev x;have u:=hs.ev y;unfold q9j at h;split at h
 ·rename_i k i xs f g;rw[f] at u;rw[g] at q;obtain⟨n,e,r,j,A,M,F,G,W⟩:=h;obtain⟨vs,O,V,q3⟩:=q.inv_agg;obtain⟨d,Z,z,l⟩:=hA.at_ (t:=t) (by rw[j];simp)
  obtain⟨d',i',z',m⟩:=hA.at_ A;have H:=qfe (l.kd.trans j);subst H;obtain⟨v,U,N⟩:=q6F (P:=P) (w:=w) hA G V q3;refine zP I ?_ (hn _ _ ρ _ _ W hs N);rw[O,u.inv_int];unfold Instr.index;simp only[asIntOf,Sem.run_bind,Sem.run_pure,Result.andThen_ok,run_underlying l.ud,M,F,and_self,if_true,ZC m.info,m.sz,U]
 ·rename_i k i b f g;rw[f] at u;rw[g] at q;obtain⟨j,A,c,M,F⟩:=h;obtain⟨d,Z,z,l⟩:=hA.at_ (t:=t) (by rw[j];simp)
  have H:=q4s (l.kd.trans j);subst H;refine zP I ?_ (hn _ _ ρ _ _ F hs (.c _ _ (.d _ _ (.int _ _))));rw[q.inv_str,u.inv_int];have Y:b[i.toNat]?=some c:=by
   have E:i.toNat<b.data.size:=by grind
   have G:b.data[i.toNat]=c:=by grind
   rw[getElem?_pos b i.toNat E];exact congrArg some G
  unfold Instr.index;simp only[asIntOf,Sem.run_bind,Sem.run_pure,Result.andThen_ok,run_underlying l.ud,A,if_true,Y]
 ·cases h
def R.parts:R→Option (List C)
 | .c x=>if x.known then some [x] else none
 | .agg xs=>if xs.all C.noow=true then some xs else none
 | _=>none
theorem R.parts_noow {r:R} {cs:List C} (hc:r.parts=some cs):cs.all C.noow=true:=by
 cases r with
 | c x=>
  simp only[R.parts] at hc;split at hc
  ·rename_i d;injection hc with hc;subst hc;exact q33 (by simp_all)
  ·cases hc
 | agg b=>
  simp only[R.parts] at hc;simp_all
 | tup b=>cases hc
 | any=>cases hc
theorem RR.parts {L:Nat→Prop} {v:Value} {r:R} {cs:List C} (h:RR w L ρ v r) (hc:r.parts=some cs):v.cells.size=cs.length∧∀j c,cs[j]?=some c→RC w L ρ (v.cells.getD j undef) c:=by
 cases h with
 | c v x h=>
  simp only[R.parts] at hc;split at hc
  ·rename_i g;injection hc with hc;subst hc;have:=(RR.c v x h).cells (cs:=[x]) rfl (by simp_all)
   simp_all
  ·cases hc
 | agg e f d b=>
  simp only[R.parts] at hc;split at hc
  ·injection hc with hc;subst hc;exact⟨d,b⟩
  ·cases hc
 | tup e f d b=>cases hc
 | any v=>cases hc
def bld (s:S) (pl:Nat→Option (Nat×Nat)):List (Nat×Operand)→List C→Option (List C)
 | [],cs=>some cs
 | (i,x)::r,cs=>
  match pl i,(s.ev x).parts with
  | some (off,sz),some ys=>if ys.length=sz∧off+sz≤cs.length then bld s pl r (spl cs off ys) else none
  | _,_=>none
theorem qjU:∀(ys cs:List C) (off:Nat),ys.all C.noow=true→cs.all C.noow=true→(spl cs off ys).all C.noow=true
 | [],cs,off,_,h=>h
 | y::ys,cs,off,hy,h=>by rw[List.all_cons,qR3] at hy;refine qjU ys _ (off+1) hy.2 (qQO.2 fun c hc=>?_);grind
theorem qk4 {s:S} {pl:Nat→Option (Nat×Nat)}:∀{parts:List (Nat×Operand)} {cs cs':List C},bld s pl parts cs=some cs'→cs.all C.noow=true→cs'.all C.noow=true
 | [],cs,cs',h,hc=>by injection h with h;simp_all
 | (i,x)::r,cs,cs',h,hc=>by
  unfold bld at h;split at h
  ·rename_i off sz ys hp hy;split at h
   ·exact qk4 h (qjU ys cs off (R.parts_noow hy) hc)
   ·cases h
  ·cases h
theorem qjX:∀(l:List Value) (k off:Nat) (cs:Array Value),(l.zipIdx k).foldl (fun cs x=>cs.setIfInBounds (off+x.2) x.1) cs=qmt cs (off+k) l
 | [],_,_,_=>rfl
 | v::l,k,off,cs=>by rw[List.zipIdx_cons,qRB,qmt,qjX l (k+1) off];rfl
theorem qnT (us:Array Value) (off:Nat) (cs:Array Value):us.zipIdx.foldl (fun cs x=>cs.setIfInBounds (off+x.2) x.1) cs=qmt cs off us.toList:=by rw[←Array.foldl_toList,Array.toList_zipIdx];exact qjX us.toList 0 off cs
theorem qaH (hs:Sim cx ρ s a w) (pl:Nat→Option (Nat×Nat)):∀(parts:List (Nat×Operand)) (vs:Array Value) (cs cs':List C),bld s pl parts cs=some cs'→vs.size=cs.length→(∀j c,cs[j]?=some c→RC w s.live ρ (vs.getD j undef) c)→
  ∃vs',Instr.fill pl vs (parts.map fun p=>(p.1,a.eval p.2))=some vs'∧vs'.size=cs'.length∧∀j c,cs'[j]?=some c→RC w s.live ρ (vs'.getD j undef) c
 | [],vs,cs,cs',h,hz,hc=>by
  injection h with h;subst h;exact⟨vs,rfl,hz,hc⟩
 | (i,x)::r,vs,cs,cs',h,hz,hc=>by
  unfold bld at h;split at h
  ·rename_i off sz ys hp hy;split at h
   ·rename_i hlt;obtain⟨h1,h2⟩:=hlt;obtain⟨g1,g2⟩:=(hs.ev x).parts hy;have hlen:(a.eval x).cells.toList.length=ys.length:=by assumption
    obtain⟨vs',b,e,d⟩:=qaH hs pl r (qmt vs off (a.eval x).cells.toList) (spl cs off ys) cs' h (by rw[q3g,q5E,hz])
     (qdL ys _ cs vs off hlen (fun j c f=>by simp_all) (by omega) (by omega) hc)
    refine⟨vs',?_,e,d⟩;simp only[qQU,Instr.fill,hp];rw[if_neg (by simp_all)]
    rw[←b,←qnT]
   ·cases h
  ·cases h
def q27 (T:Ty) (t:TypeId):Nat→Option (Nat×Nat):=fun i=>match T.foff t i with|some (off,ft)=>some (off,T.sz ft)|none=>none
def q9e (T:Ty) (s:S) (t:TypeId) (parts:List (Nat×Operand)) (K:KK):Prop:=
 match T.k t with
 | .st fs=>fs.all (fun f=>decide (T.k f.2 ≠ .other))=true∧∃cs,bld s (q27 T t) parts (T.zero t)=some cs∧K (.agg cs) s
 | .arr _ e=>T.k e ≠ .other∧∃cs,bld s (fun i=>some (i*T.sz e,T.sz e)) parts (T.zero t)=some cs∧K (.agg cs) s
 | _=>False
theorem qhy {t:TypeId} {i:TypeInfo} {z:Value} (hi:P.info? t=some i) (hz:i.zero=some z):(zeroValue t).run P w = .ok z w:=by simp[zeroValue,typeInfo,hi,hz]
theorem qcS (hA:Ag P T):∀(l:List Field),(∀f∈l,T.k f.type ≠ .other)→(l.mapM (fun f=>do pure (f.offset,←sizeOf f.type):Field→Sem (Nat×Nat))).run P w = .ok (l.map fun f=>(f.offset,T.sz f.type)) w
 | [],_=>rfl
 | f::l,h=>by obtain⟨d,i,z,ht⟩:=hA.at_ (h f qQM);rw[List.mapM_cons];simp only[Sem.run_bind,ZC ht.info,Result.andThen_ok,ht.sz,Sem.run_pure,qcS hA l (fun g b=>h g (qQF _ b)),qQU]
theorem qsj (hA:Ag P T) {t:TypeId} {parts:Array (Nat×Operand)} (ho:o.op = .build t parts) (hs:Sim cx ρ s a w) (h:q9e T s t parts.toList K) (hn:JN cx K o a next):o.wp P a w next Q:=by
 have V:execOp a.eval o=(do pure (.value (←Instr.build t (parts.map fun(i,x)=>(i,a.eval x))))):=by unfold execOp;simp_all
 have g:(parts.map fun(i,x)=>(i,a.eval x)).toList=parts.toList.map fun p=>(p.1,a.eval p.2):=by simp
 unfold q9e at h;split at h
 ·rename_i Y q;obtain⟨U,r,H,E⟩:=h;obtain⟨d,i,z,b⟩:=hA.at_ (t:=t) (by rw[q];simp)
  obtain⟨m,O,G⟩:=qzO (b.kd.trans q);subst O;obtain⟨Z,W⟩:=q7t (w:=w) (L:=s.live) (ρ:=ρ) b.zs;obtain⟨l,M,I,N⟩:=qaH hs (q27 T t) parts.toList z.cells (T.zero t) r H (by assumption) (fun j c hj=>by simp_all)
  refine zP V ?_ (hn _ _ ρ _ _ E hs (.agg l r I N));have y:∀f∈m.toList,T.k f.type ≠ .other:=fun f hf=>by
   have:(f.offset,f.type)∈Y:=by grind
   grind
  have A:(m.mapM (fun f=>do pure (f.offset,←sizeOf f.type):Field→Sem (Nat×Nat))).run P w = .ok (m.toList.map fun f=>(f.offset,T.sz f.type)).toArray w:=by rw[Array.mapM_eq_mapM_toList];have:=qcS (P:=P) (w:=w) hA m.toList y;simp_all
  have F:(fun i=>(m.toList.map fun f=>(f.offset,T.sz f.type)).toArray[i]?)=q27 T t:=by
   funext i
   simp only[q27,Ty.foff,q,←G,qQL,List.getElem?_toArray];cases m.toList[i]? <;> rfl
  unfold Instr.build;simp only[Sem.run_bind,qhy b.info b.zero,Result.andThen_ok,run_underlying b.ud,A,g,F,M,Sem.run_pure]
 ·rename_i n e q;obtain⟨U,r,H,E⟩:=h;obtain⟨d,i,z,b⟩:=hA.at_ (t:=t) (by rw[q];simp)
  obtain⟨d',i',z',u⟩:=hA.at_ U;have O:=qfe (b.kd.trans q);subst O;obtain⟨Z,W⟩:=q7t (w:=w) (L:=s.live) (ρ:=ρ) b.zs;obtain⟨l,M,I,N⟩:=qaH hs (fun i=>some (i*T.sz e,T.sz e)) parts.toList z.cells (T.zero t) r H (by assumption) (fun j c hj=>by simp_all)
  refine zP V ?_ (hn _ _ ρ _ _ E hs (.agg l r I N));unfold Instr.build;simp only[Sem.run_bind,qhy b.info b.zero,Result.andThen_ok,run_underlying b.ud,ZC u.info,u.sz,g,M,Sem.run_pure]
 ·cases h
def q2y (T:Ty) (s:S) (p:Nat) (t:TypeId) (len:Nat) (parts:List (Nat×Operand)) (K:KK):Prop:=
 ∃e,T.k t = .sl e∧T.k e ≠ .other∧0<T.sz e∧len*T.sz e≤16777216∧∃cs,bld s (fun i=>some (i*T.sz e,T.sz e)) parts (List.replicate (len*T.sz e) .any)=some cs∧K (.c (.own p (T.sz e) 0 len)) (s.up [(p,if 0<len∧T.bk t len=true then .blk e cs else .row e (T.sz e) cs)])
theorem qe5 (hA:Ag P T) {t:TypeId} {len p:Nat} {parts:Array (Nat×Operand)} (hp:¬ s.live p) (ho:o.op = .buildSlice t len parts) (hs:Sim cx ρ s a w) (h:q2y T s p t len parts.toList K) (hn:JN cx K o a next):o.wp P a w next Q:=by
 have he:execOp a.eval o=(do pure (.value (←Instr.buildSlice t len (parts.map fun(i,x)=>(i,a.eval x))))):=by unfold execOp;simp_all
 have m:(parts.map fun(i,x)=>(i,a.eval x)).toList=parts.toList.map fun p=>(p.1,a.eval p.2):=by simp
 obtain⟨e,W,h2,h3,h4,q,h5,F⟩:=h;obtain⟨d,i,z,ht⟩:=hA.at_ (t:=t) (by rw[W];simp)
 obtain⟨d',i',z',f⟩:=hA.at_ h2;have hd:=q4K (ht.kd.trans W);subst hd;have A:∀(g:Array Value),g.size=len*T.sz e→∃b,Instr.fill (fun i=>some (i*T.sz e,T.sz e)) g (parts.toList.map fun p=>(p.1,a.eval p.2))=some b∧b.size=q.length∧∀j c,q[j]?=some c→RC w s.live ρ (b.getD j undef) c:=fun g hu=>
  qaH hs _ parts.toList g _ q h5 (by simp[hu]) (fun j c k=>by
   rw[List.getElem?_replicate] at k;split at k
   ·injection k with k;subst k;exact .any _
   ·cases k)
 have ab:∀{E:List (Nat×Operand)} {l I:List C} {O:Nat→Option (Nat×Nat)},bld s O E l=some I→I.length=l.length:=by
  intro E
  induction E with
  | nil=>intro l I O h;injection h with h;rw[h]
  | cons x E ih=>
   intro l I O h;unfold bld at h;split at h
   ·split at h
    ·rw[ih h,q5E]
    ·cases h
   ·cases h
 have aa:q.length=len*T.sz e:=by grind
 have y:∃g:Array Value,g.size=len*T.sz e∧∀b,Instr.fill (fun i=>some (i*T.sz e,T.sz e)) g (parts.toList.map fun p=>(p.1,a.eval p.2))=some b→
   (Instr.buildSlice t len (parts.map fun(i,x)=>(i,a.eval x))).run P w = .ok (.slice (some ⟨w.heap.size,0,none⟩) len len) (w.alloc (.cells b e)):=by
  refine⟨(Array.range (len*T.sz e)).map ((if len*T.sz e=0 then #[] else z'.cells)[· % (if len*T.sz e=0 then #[] else z'.cells).size]!),by simp,fun b G=>?_⟩
  unfold Instr.buildSlice;simp only[Sem.run_bind,run_underlying ht.ud,Result.andThen_ok,ZC f.info,f.sz];rw[if_neg (by omega)]
  by_cases H:len*T.sz e=0
  ·simp only[H,if_true] at G;simp only[H,if_true,Sem.run_pure,Sem.run_bind,Result.andThen_ok,m,G];rfl
  ·simp only[H,if_false] at G;simp only[H,if_false,Sem.run_pure,Sem.run_bind,Result.andThen_ok,qhy f.info f.zero,m,G];rfl
 obtain⟨g,h7,h8⟩:=y;obtain⟨b,Z,M,r⟩:=A g h7;have Y:len≤maxLen:=by have:len≤len*T.sz e:=Nat.le_mul_of_pos_right len h3;unfold maxLen;omega
 have u:=qk4 h5 (qQO.2 fun c hc=>by rw[(List.mem_replicate.1 hc).2];rfl)
 by_cases hb:0<len∧T.bk t len=true
 ·rw[if_pos hb] at F;have V:=q4X (w:=w) (ρ:=ρ) (x := .blk e q) hp (.cells b e) len;refine zP he (h8 b Z) (hn _ _ _ _ _ F (hs.new (cap:=len) hp ⟨b,heap_alloc_new w _,M,fun j c k=>(r j c k).stay V⟩ u) (.c _ _ ?_));have:=RC.own (w:=w.alloc (.cells b e)) (L:=(s.up [(p,.blk e q)]).live) (ρ:=ρ.set p w.heap.size len) p (T.sz e) 0 len w.heap.size len (by unfold S.live;rw[S.blk_up,if_pos rfl];rfl) (if_pos rfl) (by omega) Y
  simp_all
 ·rw[if_neg hb] at F;obtain⟨ρ',U,N⟩:=qoq (sz:=T.sz e) (n:=len) (cap:=len) hs hp e (by omega) (by omega) Y h3 (qQN _) r u
  exact zP he (h8 b Z) (hn _ _ ρ' _ _ F U N)
def S.cell1 (s:S) (x:Operand):Option C:=match s.ev x with | .c c=>some c|_=>none
def q36 (s:S) (f:Fn) (first captured:List Operand) (K:KK):Prop:=
 match f with
 | .func g=>∃fs caps,first.mapM s.cell1=some fs∧captured.mapM s.cell1=some caps∧K (.c (.fn g fs caps)) s
 | _=>False
theorem qns (hs:Sim cx ρ s a w):∀(l:List Operand) (cs:List C),l.mapM s.cell1=some cs→l.length=cs.length∧∀j c,cs[j]?=some c→RC w s.live ρ ((l.map a.eval).getD j undef) c
 | [],cs,h=>by simp_all
 | x::l,cs,h=>by
  rw[List.mapM_cons] at h;obtain⟨c,h1,h2⟩:=qQC.1 h;obtain⟨b,m,e⟩:=qQC.1 h2;injection e with e;subst e;obtain⟨i,n⟩:=qns hs l b m;have f:=hs.ev x;unfold S.cell1 at h1;split at h1
  ·rename_i q k;injection h1 with h1;subst h1;rw[k] at f;refine⟨by simp[i],fun j d g=>?_⟩
   cases j with
   | zero=>simp only[qQH,qRn] at g;subst g;exact f.inv_c
   | succ j=>simp_all
  ·cases h1
theorem qh8 {f:Fn} {first captured:Array Operand} (ho:o.op = .makeFunc f first captured) (hs:Sim cx ρ s a w) (h:q36 s f first.toList captured.toList K) (hn:JN cx K o a next):o.wp P a w next Q:=by
 have i:execOp a.eval o=(do pure (.value (←Instr.makeFunc f (first.map a.eval) (captured.map a.eval)))):=by unfold execOp;simp_all
 unfold q36 at h;split at h
 ·rename_i g;obtain⟨k,b,e,d,m⟩:=h;obtain⟨u,n⟩:=qns hs _ _ e;obtain⟨q,r⟩:=qns hs _ _ d;refine zP i rfl (hn _ _ ρ _ _ m hs (.c _ _ (.fn g k b _ _ (by simp_all) (fun j c l=>?_) (by simp_all) (fun j c l=>?_))))
  ·simp_all
  simp_all
 ·cases h
end
end
noncomputable section
open Go.RowKit
theorem qiS {α:Type} (zs:List α) (l j:Nat) (c:α) (h:(List.replicate l zs).flatten[j]?=some c):j<l*zs.length∧zs[j % zs.length]?=some c:=by
 induction l generalizing j with
 | zero=>simp at h
 | succ l b=>
  grind [List.flatten_cons,List.getElem?_append_left,Nat.mod_eq_of_lt,List.getElem?_append_right,Nat.mod_eq_sub_mod]
def C.far (id:Nat):C→Bool
 | .ptr i _=>i != id
 | .hd _ i=>i != id
 | .own i _ _ _=>i != id
 | .fn _ _ _=>false
 | _=>true
def C.fg (id:Nat):C→C
 | .ptr i o=>if i=id then .any else .ptr i o
 | .hd k i=>if i=id then .any else .hd k i
 | .own i sz off n=>if i=id then .any else .own i sz off n
 | .fn f fs caps=>if(fs++caps).all (C.far id)=true then .fn f fs caps else .any
 | c=>c
def R.fg (id:Nat):R→R
 | .c x => .c (x.fg id)
 | .agg xs => .agg (xs.map (C.fg id))
 | .tup rs=>if rs.isEmpty=true then .tup [] else .any
 | .any => .any
def B.fg (id:Nat):B→B
 | .blk t cs => .blk t (cs.map (C.fg id))
 | .row e sz cs => .row e sz (cs.map (C.fg id))
 | .ob o => .ob (o.mapR (R.fg id))
 | .dead => .dead
def S.fg (s:S) (id:Nat):S:={ s with tm:=s.tm.map fun x=>(x.1,x.2.fg id),hp:=s.hp.map fun x=>(x.1,x.2.fg id) }
theorem q1S {α:Type} (f:α→α) (l:List (Nat×α)) (i:Nat) (z:α) (hz:f z=z):lk (l.map fun x=>(x.1,f x.2)) i z=f (lk l i z):=by
 induction l with
 | nil=>exact hz.symm
 | cons x l b=>
  grind [lk]
theorem S.get_fg (s:S) (id i:Nat):(s.fg id).get i=(s.get i).fg id:=q1S (R.fg id) s.tm i .any rfl
theorem S.blk_fg (s:S) (id i:Nat):(s.fg id).blk i=(s.blk i).fg id:=q1S (B.fg id) s.hp i .dead rfl
theorem B.fg_live (x:B) (id:Nat):(x.fg id).live=x.live:=by cases x<;>rfl
theorem B.fg_isBlk (x:B) (id:Nat):(x.fg id).isBlk=x.isBlk:=by cases x<;>rfl
theorem B.fg_cells (x:B) (id:Nat):(x.fg id).cells=x.cells.map (C.fg id):=by cases x<;>rfl
theorem C.fg_ow {c:C} {id:Nat} (h:(c.fg id).isOw=true):c.isOw=true:=by
 cases c with
 | ow e d n g=>rfl
 | ptr i o=>simp only[C.fg] at h;split at h<;>cases h
 | hd k i=>simp only[C.fg] at h;split at h<;>cases h
 | own i d o n=>simp only[C.fg] at h;split at h<;>cases h
 | fn f j b=>simp only[C.fg] at h;split at h<;>cases h
 | _=>cases h
theorem B.fg_ow {x:B} {id j:Nat} {y:C} (h:(x.fg id).cells[j]?=some y) (ho:y.isOw=true):∃z,x.cells[j]?=some z∧z.isOw=true:=by grind [B.fg_cells,Option.map_eq_some_iff,C.fg_ow]
theorem S.live_fg (s:S) (id i:Nat):(s.fg id).live i↔s.live i:=by grind [S.live,S.blk_fg,B.fg_live]
structure qeh (id:Nat) (w:World) (L:Nat→Prop) (ρ:Pl) (w':World) (L':Nat→Prop) (ρ':Pl):Prop where
 size:w.heap.size≤w'.heap.size
 block:∀b,b<w.heap.size→¬ Occ L ρ b→w'.heap[b]?=w.heap[b]?
 occ:∀b,b<w.heap.size→Occ L' ρ' b→Occ L ρ b
 ids:∀i,i≠id→L i→L' i∧ρ' i=ρ i
 frm:∀b,ρ.F b→ρ'.F b∧(b<w.heap.size→w'.heap[b]?=w.heap[b]?)
section
variable {id:Nat} {w w':World} {L L':Nat→Prop} {ρ ρ':Pl}
theorem RD.stayX (hs:qeh id w L ρ w' L' ρ') {v:Value} {x:D} (h:RD w (Occ L ρ) v x):RD w' (Occ L' ρ') v x:=by
 have d:∀{b o:Nat},b<w.heap.size→¬ Occ L ρ b→w'.cell? ⟨b,o,none⟩=w.cell? ⟨b,o,none⟩:=fun E u=>World.cell?_of_block (w:=w) (hs.block _ E u)
 induction h with
 | int k n=>exact .int k n
 | bool b=>exact .bool b
 | str s=>exact .str s
 | nil A e q i g=>exact .nil A e q i g
 | sl b l n e q y f i g z m r F I G=>
  exact .sl b l n e q y f i g z (qR7 m hs.size) (fun h=>r (hs.occ b m h)) (fun j c H=>(d m r).trans (F j c H)) G
theorem RC.stayX' (hs:qeh id w L ρ w' L' ρ') {v:Value} {x:C} (h:RC w L ρ v x) (hx:x.far id=true):RC w' L' ρ' v x:=by
 cases h with
 | d v x h=>exact .d v x (h.stayX hs)
 | ptr i q b l g m=>have r:i≠id:=bne_iff_ne.1 hx;exact .ptr i q b l (hs.ids i r g).1 ((hs.ids i r g).2.trans m)
 | hd k i b l g m=>have r:i≠id:=bne_iff_ne.1 hx;exact .hd k i b l (hs.ids i r g).1 ((hs.ids i r g).2.trans m)
 | nilp=>exact .nilp
 | nilf=>exact .nilf
 | nilm=>exact .nilm
 | nils=>exact .nils
 | eptr b o q E f g m z y=>exact .eptr b o q E f (qR7 g hs.size) (fun h=>m (hs.occ b g h)) (fun j c F=>(World.cell?_of_block (w:=w) (hs.block _ g m)).trans (z j c F)) (fun j c F=>(y j c F).stayX hs)
 | own i u q n b l g m z y=>have r:i≠id:=bne_iff_ne.1 hx;exact .own i u q n b l (hs.ids i r g).1 ((hs.ids i r g).2.trans m) z y
 | own0 i u g m=>have r:i≠id:=bne_iff_ne.1 hx;exact .own0 i u (hs.ids i r g).1 ((hs.ids i r g).2.trans m)
 | fn f U H V G g m z y=>cases hx
 | ow e u n b l E G g m z y O I N M=>exact .ow e u n b l E G (hs.frm b g).1 (((hs.frm b g).2 (qbs m)).trans m) z y O I N (fun j c F=>(M j c F).stayX hs)
 | ow0 e u g=>exact .ow0 e u g
 | clp A u n E h=>exact .clp A u n E (h.stayX hs)
 | any v=>exact .any v
theorem RC.stayX (hs:qeh id w L ρ w' L' ρ') {v:Value} {x:C} (h:RC w L ρ v x):RC w' L' ρ' v (x.fg id):=by
 cases x with
 | ptr i o=>
  show RC w' L' ρ' v (if i=id then C.any else C.ptr i o);split
  ·exact .any _
  ·rename_i m;exact h.stayX' hs (bne_iff_ne.2 m)
 | hd k i=>
  show RC w' L' ρ' v (if i=id then C.any else C.hd k i);split
  ·exact .any _
  ·rename_i m;exact h.stayX' hs (bne_iff_ne.2 m)
 | own i y l n=>
  show RC w' L' ρ' v (if i=id then C.any else C.own i y l n);split
  ·exact .any _
  ·rename_i m;exact h.stayX' hs (bne_iff_ne.2 m)
 | fn f u b=>
  show RC w' L' ρ' v (if(u++b).all (C.far id)=true then C.fn f u b else C.any);split
  ·rename_i q;have g:∀c∈u++b,c.far id=true:=fun c M=>qQO.1 q c M;cases h with
   | fn _ _ _ I E F A H G=>
    exact .fn f u b I E F (fun j c r=>(A j c r).stayX' hs (g c (qQJ _ (qQy r)))) H (fun j c r=>(G j c r).stayX' hs (g c (qQG _ (qQy r))))
  ·exact .any _
 | d x=>exact h.stayX' hs rfl
 | nilp=>exact h.stayX' hs rfl
 | nilf=>exact h.stayX' hs rfl
 | nilm=>exact h.stayX' hs rfl
 | nils=>exact h.stayX' hs rfl
 | eptr z l=>exact h.stayX' hs rfl
 | ow e y n z=>exact h.stayX' hs rfl
 | clp y n z=>exact h.stayX' hs rfl
 | any=>exact .any _
theorem qfB {cs:List C} {vs:Nat→Value} (h:∀j c,cs[j]?=some c→RC w L ρ (vs j) c) (hs:qeh id w L ρ w' L' ρ'):∀j c,(cs.map (C.fg id))[j]?=some c→RC w' L' ρ' (vs j) c:=fun j c b=>by rw[qQL] at b;obtain⟨x,e,d⟩:=qQK.1 b;exact d ▸ (h j x e).stayX hs
theorem RR.stayX (hs:qeh id w L ρ w' L' ρ') {v:Value} {x:R} (h:RR w L ρ v x):RR w' L' ρ' v (x.fg id):=by
 cases h with
 | c v x h=>exact .c _ _ (h.stayX hs)
 | agg d f e b=>exact .agg _ _ (by simp_all) (qfB b hs)
 | tup d f e b=>
  show RR w' L' ρ' (.tuple d) (if f.isEmpty=true then .tup [] else .any);split
  ·rename_i g;rw[List.isEmpty_iff] at g;subst g;exact .tup _ _ e (fun j c h=>by simp at h)
  ·exact .any _
 | any v=>exact .any _
theorem HB.stayX (hs:qeh id w L ρ w' L' ρ') {b cap:Nat} {x:B} (hb:w'.heap[b]?=w.heap[b]?) (h:HB w L ρ b cap x):HB w' L' ρ' b cap (x.fg id):=by
 cases x with
 | blk t k=>obtain⟨c,d,g,f⟩:=h;exact⟨c,hb.trans d,by simp_all,qfB f hs⟩
 | row e n k=>obtain⟨c,d,g,f,m,i,j⟩:=h;exact⟨c,hb.trans d,by simp_all,f,m,i,qfB j hs⟩
 | ob o=>exact HO.map hb (fun v x _ l=>l.stayX hs) h
 | dead=>trivial
end
section
variable {P:Program} {T:Ty} {cx:Cx} {ρ:Pl} {s:S} {a:Act} {w:World} {o:Oper} {next:Act→World→Prop} {Q:Exit→Act→World→Prop} {K:KK}
def qd5 (T:Ty) (s:S) (p:Nat) (t:TypeId) (x y:Operand) (K:KK):Prop:=
 match s.ev x,s.ev y with
 | .c (.d (.int _ l)),.c (.d (.int _ c))=>∃e,T.k t = .sl e∧T.k e ≠ .other∧0<T.sz e∧(T.zero e).length=T.sz e∧0≤l∧l≤c∧(T.by_ e:Int)*c≤281474976710656∧c≤9223372036854775807∧
   K (.c (.own p (T.sz e) 0 l.toNat)) (s.up [(p,.row e (T.sz e) (List.replicate l.toNat (T.zero e)).flatten)])
 | _,_=>False
theorem qup (hA:Ag P T) {t:TypeId} {x y:Operand} {p:Nat} (hp:¬ s.live p) (ho:o.op = .makeSlice t x y) (hs:Sim cx ρ s a w) (h:qd5 T s p t x y K) (hn:JN cx K o a next):o.wp P a w next Q:=by
 have he:execOp a.eval o=(do pure (.value (←Instr.makeSlice t (a.eval x) (a.eval y)))):=by grind [execOp]
 have F:=hs.ev x;have G:=hs.ev y;unfold qd5 at h;split at h
 ·rename_i k l O c r m;rw[r] at F;rw[m] at G;obtain⟨e,E,h2,h3,h4,h5,U,Y,V,h9⟩:=h;obtain⟨d,i,z,H⟩:=hA.at_ (t:=t) (by rw[E];simp)
  obtain⟨d',i',g,b⟩:=hA.at_ h2;have hd:=q4K (H.kd.trans E);subst hd;have f:=run_make (P:=P) w t e i' g H.ud b.info b.zero k O l c h5 U (by rw[b.by_];exact Y) V
  rw[b.sz] at f;obtain⟨g1,W⟩:=q7t (w:=w) (L:=s.live) (ρ:=ρ) b.zs;have ab:g.cells.size=T.sz e:=by simp_all
  have aa:l.toNat*T.sz e≤c.toNat*T.sz e:=Nat.mul_le_mul_right _ (by omega)
  obtain⟨ρ',I,q2⟩:=qoq (sz:=T.sz e) (n:=l.toNat) (cap:=c.toNat) (vs:=madeCells g.cells (c.toNat*T.sz e)) (cs:=(List.replicate l.toNat (T.zero e)).flatten) hs hp e
   (by simp_all [size_madeCells]) (size_madeCells _ _) (by grind [maxLen]) h3 (by omega) (fun j N q=>by
    obtain⟨M,A⟩:=qiS _ _ _ _ q;rw[h4] at M A;have r3:=W _ N A;have Z:j<c.toNat*T.sz e:=by omega
    have u:j % T.sz e<g.cells.size:=by grind
    have:(madeCells g.cells (c.toNat*T.sz e)).getD j undef=g.cells.toList.getD (j % T.sz e) undef:=by simp_all [madeCells]
    grind) (qQO.2 fun c hc=>by
    obtain⟨j,q⟩:=List.getElem?_of_mem hc;exact qQO.1 (qgY b.zs) c (qQy (qiS _ _ _ _ q).2))
  exact zP he (by rw[F.inv_int,G.inv_int];exact f) (hn _ _ ρ' _ _ h9 I q2)
 ·cases h
def S.seq (s:S) (x:Operand):Option (Nat×List C):=
 match s.ev x with
 | .c (.d (.sl _ n cs))=>some (n,cs.map C.d)
 | .c (.own id sz off n)=>some (n,((s.blk id).cells.drop (off*sz)).take (n*sz))
 | .c .nils=>some (0,[])
 | _=>none
theorem qhi (hs:Sim cx ρ s a w) {x:Operand} {m sz:Nat} {ys:List C} (h:s.seq x=some (m,ys)) (hl:ys.length=m*sz) :
  ∃A cap,a.eval x = .slice A m cap∧m≤cap∧cap≤maxLen∧(m=0∨∃b off,A=some ⟨b,off,none⟩∧b<w.heap.size∧∀j c,ys[j]?=some c→∃v,w.cell? ⟨b,off+j,none⟩=some v∧RC w s.live ρ v c):=by
 have k:=hs.ev x;unfold S.seq at h;split at h
 ·rename_i g n I e;rw[e] at k;injection h with h;injection h with q l;subst q l;obtain⟨A,cap,y,i,q3,q4,F,r⟩:=k.inv_sl;refine⟨A,cap,y,i,q3,?_⟩;rcases r with r|⟨b,off,f,r,H,M,q9,q10⟩
  ·exact .inl r
  ·refine .inr ⟨b,off,r,H,fun j c u=>?_⟩;rw[qQL] at u;obtain⟨d,E,G⟩:=qQK.1 u;exact⟨f j,q9 j d E,G ▸ .d _ _ (q10 j d E)⟩
 ·rename_i id g off n e;rw[e] at k;injection h with h;injection h with q l;subst q l;obtain⟨y,i⟩:=k.inv_own;rcases i with ⟨b,cap,i,q3,q4,F⟩|⟨i,q3,rfl,rfl⟩
  ·refine⟨_,_,F,by omega,by omega,.inr ⟨b,off*g,rfl,(hs.hp id b cap y i).1,fun j c u=>?_⟩⟩
   have z:j<n*g:=by grind
   rw[qR6 z,List.getElem?_drop] at u;exact(hs.hp id b cap y i).2.cell u
  grind
 ·rename_i e;rw[e] at k;injection h with h;injection h with q l;subst q l;exact⟨none,0,k.inv_nils,qQN _,qQX _,.inl rfl⟩
 ·cases h
def q8a (T:Ty) (s:S) (p:Nat) (t:TypeId) (x y:Operand) (K:KK):Prop:=
 ∃e m ys,T.k t = .sl e∧T.k e ≠ .other∧0<T.sz e∧(T.zero e).length=T.sz e∧s.seq y=some (m,ys)∧ys.all C.known=true∧ys.length=m*T.sz e∧
  match s.ev x with
  | .c (.own id sz off n)=>sz=T.sz e∧off=0∧(∃cs0 cs,s.blk id = .row e sz cs0∧cs0.take (n*sz)=cs∧cs.length=n*sz∧cs.all (C.far id)=true∧ys.all (C.far id)=true∧n+m≤maxLen∧(n+m)*T.by_ e≤140737488355328∧
    K (.c (.own id sz 0 (n+m))) ((s.fg id).up [(id,.row e sz (cs++ys))]))
  | .c .nils=>ys.all (C.far p)=true∧m≤maxLen∧m*T.by_ e≤140737488355328∧K (.c (.own p (T.sz e) 0 m)) ((s.fg p).up [(p,.row e (T.sz e) ys)])
  | .c (.clp sz n cs)=>sz=T.sz e∧0<m∧ys.all (C.far p)=true∧cs.length=n*sz∧n+m≤maxLen∧(n+m)*T.by_ e≤140737488355328∧K (.c (.own p (T.sz e) 0 (n+m))) ((s.fg p).up [(p,.row e (T.sz e) (cs.map C.d++ys))])
  | _=>False
theorem qhF {t ty e:TypeId} {i:TypeInfo} {z:Value} {sz:Nat} (ht:P.underlying t=some (.slice e)) (hi:P.info? e=some i) (hz:i.zero=some z) (hsize:i.size=sz) (hzs:z.cells.size=sz) (hsz:0<sz)
  {v:Value} {n m c:Nat} {xs news:List Value} {A:Option Addr} (hown:w.ownsRow 0 e sz v n xs) (hl:news.length=m*sz) (hA:m=0∨∃b off,A=some ⟨b,off,none⟩∧∀(j:Nat) (u:Value),news[j]?=some u→w.cell? ⟨b,off+j,none⟩=some u) (h1:∀u∈news,u.oneCell'=true)
  (h63:n+m≤maxLen) (hbytes:(n+m)*i.bytes≤140737488355328) :
  ∃v' w',(Builtin.append_ #[t,t] ty #[v,.slice A m c]).run P w = .ok v' w'∧w'.ownsRow 0 e sz v' (n+m) (xs++news)∧w.grownBy w' v.ownBlock∧(v'.ownBlock=v.ownBlock∨v'.ownBlock=some w.heap.size):=by
 cases A with
 | none=>
  have k:m=0:=by simp_all
  subst k;have l:news=[]:=qQQ (by omega)
  subst l;refine⟨v,w,?_,by simp_all,World.grownBy.refl w _,.inl rfl⟩
  rcases hown.2 with ⟨rfl,rfl⟩|⟨g,r,f,rfl,_,_,d,_⟩
  ·simp[Builtin.append_,run_underlying ht,sizeOf,typeInfo,hi,Builtin.lenOf,Builtin.firstCells]
  ·simp[Builtin.append_,run_underlying ht,sizeOf,typeInfo,hi,Builtin.lenOf,Builtin.firstCells,d,storeCells]
 | some q=>
  obtain⟨v',w',G,x,E,-,y⟩:=run_append_own_at (P:=P) w 0 t ty e i z sz i.bytes ht hi hz hsize rfl hzs hsz v n xs hown q m c news hl (fun j u H=>by
   rcases hA with rfl|⟨b,off,h,F⟩
   ·simp_all
   grind [q02]) h1 h63 hbytes (qQX _)
  grind
theorem qiY {t ty e:TypeId} {i:TypeInfo} {z:Value} {sz:Nat} (ht:P.underlying t=some (.slice e)) (hi:P.info? e=some i) (hz:i.zero=some z) (hsize:i.size=sz) (hzs:z.cells.size=sz) (hsz:0<sz)
  {n m c:Nat} {ad:Addr} {xs news:List Value} (hx:xs.length=n*sz) (hxs:∀(j:Nat) (u:Value),xs[j]?=some u→w.cell? (ad.add j)=some u) (hm:0<m) (hl:news.length=m*sz) {b' off':Nat} (hA:∀(j:Nat) (u:Value),news[j]?=some u→w.cell? ⟨b',off'+j,none⟩=some u)
  (h63:n+m≤maxLen) (hbytes:(n+m)*i.bytes≤140737488355328) :
  ∃v' w',(Builtin.append_ #[t,t] ty #[.slice (some ad) n n,.slice (some ⟨b',off',none⟩) m c]).run P w = .ok v' w'∧w'.ownsRow 0 e sz v' (n+m) (xs++news)∧w.grownBy w' none∧v'.ownBlock=some w.heap.size:=by
 subst hsize;have d:n+m≤9223372036854775807:=by assumption
 have h:=run_append_grow (P:=P) w t ty e i z ht hi hz ad n n xs hx hxs ⟨b',off',none⟩ m c news hl (fun j v q=>by grind [q02]) (by omega) (by omega) (growslice_fits (by omega) hbytes)
 have f:=grownCap_ge w (n+m) n e;have g:grownCap w (n+m) n e≤maxLen:=grownCap_le_maxLen w (n+m) n e h63;have b:(xs++news).length=(n+m)*i.size:=by grind
 refine⟨_,_,h,⟨b,.inr ⟨w.heap.size,_,_,rfl,qQX _,heap_alloc_new w.drew _,f,g,?_,?_⟩⟩,⟨rfl,rfl,rfl,by simp,fun k l _=>heap_alloc_old w.drew _ l⟩,rfl⟩
 ·simp only[Array.size_append,List.size_toArray,size_zeroCells,hzs,hx,hl,←Nat.add_mul];simp_all
 grind
theorem Sim.rerow (hs:Sim cx ρ s a w) {id:Nat} {w':World} {v v':Value} {e:TypeId} {sz n:Nat} {cs:List C} {us:List Value}
  (hv:(∃b cap,s.live id∧ρ id=some (b,cap)∧v.ownBlock=some b)∨(v.ownBlock=none∧(s.live id→ρ id=none)))
  (hg:w.grownBy w' v.ownBlock) (hv':v'.ownBlock=v.ownBlock∨v'.ownBlock=some w.heap.size) (hown:w'.ownsRow 0 e sz v' n us) (hsz:0<sz) (hl:cs.length=n*sz)
  (hpin:¬ id<cx.k) (hc:∀(j:Nat) (c:C),cs[j]?=some c→c.far id=true∧∃u,us[j]?=some u∧RC w s.live ρ u c)
  (how:∀(j:Nat) (c:C) (u:Value),cs[j]?=some c→c.isOw=true→us[j]?=some u→∃b cap,s.live id∧ρ id=some (b,cap)∧(s.blk id).cells[j]?=some c∧w.cell? ⟨b,j,none⟩=some u) :
  ∃ρ',Sim cx ρ' ((s.fg id).up [(id,.row e sz cs)]) a w'∧RR w' ((s.fg id).up [(id,.row e sz cs)]).live ρ' v' (.c (.own id sz 0 n)):=by
 have f:∀i,((s.fg id).up [(id,.row e sz cs)]).live i↔i=id∨s.live i:=fun i=>by
  unfold S.live;rw[S.blk_up];by_cases h:id=i
  ·subst h;rw[if_pos rfl];exact⟨fun _ => .inl rfl,fun _=>rfl⟩
  ·rw[if_neg h,S.blk_fg,B.fg_live];grind
 -- where the row lies now
 obtain⟨pl,ab⟩:∃pl:Option (Nat×Nat),(pl=none∧v' = .slice none 0 0∧n=0)∨∃g cap E,pl=some (g,cap)∧v' = .slice (some ⟨g,0,none⟩) n cap∧w'.heap[g]?=some (.cells E e (0,0))∧n≤cap∧cap≤maxLen∧E.size=cap*sz∧E.toList.take (n*sz)=us:=by
  rcases hown.2 with ⟨m,A⟩|⟨g,cap,E,m,-,A,q,H,O,U⟩
  ·simp_all
  ·exact⟨some (g,cap),.inr ⟨g,cap,E,rfl,m,A,q,H,O,U⟩⟩
 have W:∀g cap,pl=some (g,cap)→g<w'.heap.size∧(v.ownBlock=some g∨g=w.heap.size):=fun g cap hp=>by grind [hp,Value.ownBlock]
 obtain⟨ρ',aj⟩:∃ρ':Pl,ρ'=⟨fun i=>if i=id then pl else ρ i,ρ.F⟩:=⟨_,rfl⟩;have M:ρ'.F=ρ.F:=by rw[aj]
 have r:ρ' id=pl:=by simp_all
 have l:∀i,i≠id→ρ' i=ρ i:=fun i G=>by simp_all
 have Y:∀b,b<w.heap.size→(∀c,ρ id=some (b,c)→¬ s.live id)→w'.heap[b]?=w.heap[b]?:=fun b hb an=>hg.block b hb (fun h=>by grind)
 have V:qeh id w s.live ρ w' ((s.fg id).up [(id,.row e sz cs)]).live ρ':=by
  refine⟨hg.size,fun b hb hO=>Y b hb (fun c m A=>hO (.inr ⟨id,c,A,m⟩)),fun b hb hO=>?_,fun i G Z=>⟨(f i).2 (.inr Z),l i G⟩,fun b hF=>⟨M ▸ hF,fun hb=>Y b hb (fun c m A=>hs.disj id b c A m hF)⟩⟩;rcases hO with hF|⟨i,c,m,A⟩
  ·exact .inl (M ▸ hF)
  by_cases G:i=id
  ·subst G;rw[r] at A;rcases(W b c A).2 with q|q
   ·rcases hv with ⟨b',cap,H,O,U⟩|⟨H,-⟩
    ·rw[U] at q;injection q with q;subst q;exact .inr ⟨i,cap,H,O⟩
    simp_all
   ·omega
  ·rw[l i G] at A;exact .inr ⟨i,c,((f i).1 m).resolve_left G,A⟩
 have am:∀b cap,ρ' id=some (b,cap)→b<w'.heap.size∧HB w' ((s.fg id).up [(id,.row e sz cs)]).live ρ' b cap (.row e sz cs):=fun b cap h=>by
  rw[r] at h;refine⟨(W b cap h).1,?_⟩;rcases ab with ⟨h',-⟩|⟨g',x,E,m,A,q,H,O,U,h7⟩
  ·simp_all
  ·rw[h] at m;injection m with m;injection m with m aa;subst m aa;refine⟨E,q,?_,U,O,hsz,fun j c hj=>?_⟩
   ·simp_all [Nat.mul_le_mul_right]
   ·obtain⟨hf,u,hu,I⟩:=hc j c hj;have ae:j<n*sz:=by grind
    have ad:E.getD j undef=u:=by rw[←h7,qR6 ae] at hu;simp_all
    rw[ad];exact I.stayX' V hf
 refine⟨ρ',⟨hs.hd.mono V.size V.block V.occ,hs.size,fun i=>?_,fun i b cap G I=>?_,fun i G I=>?_,fun i b cap G I=>?_,fun i j b c c' G hj ac ag=>?_,fun i G=>?_,?_,fun b hb=>⟨M ▸ (hs.oldF b hb).1,(hs.oldF b hb).2⟩,fun i G=>?_,fun i b cap G I=>?_,?_⟩,?_⟩
 ·have:=(hs.tm i).stayX V;show RR w' _ ρ' _ ((s.fg id).get i);grind [S.get_fg]
 ·rw[S.blk_up];by_cases z:id=i
  ·simp_all
  ·rw[if_neg z,S.blk_fg];have N:=((f i).1 G).resolve_left (Ne.symm z);rw[l i (Ne.symm z)] at I;obtain⟨m,A⟩:=hs.hp i b cap N I;exact⟨qR7 m hg.size,A.stayX V (Y b m (fun c q H=>z (hs.inj id i b c cap H N q I)))⟩
 ·rw[S.blk_up];by_cases z:id=i
  ·simp_all
  ·rw[if_neg z,S.blk_fg];have N:=((f i).1 G).resolve_left (Ne.symm z);rw[l i (Ne.symm z)] at I;obtain⟨e',ai,m⟩:=hs.hp0 i N I;exact⟨e',ai,by rw[m];rfl⟩
 ·by_cases z:i=id
  ·subst z;rw[r] at I;rcases(W b cap I).2 with q|q
   ·rcases hv with ⟨b',x,H,O,U⟩|⟨H,-⟩
    ·rw[U] at q;injection q with q;subst q;exact hs.out i _ x H O
    simp_all
   ·exact .inr (by have:=hs.kept.size;omega)
  ·rw[l i z] at I;exact hs.out i b cap (((f i).1 G).resolve_left z) I
 ·have ao:∀i b c c',i≠id→s.live i→ρ i=some (b,c)→pl=some (b,c')→False:=fun i b c c' z Z m A=>by
   rcases(W b c' A).2 with q|q
   ·rcases hv with ⟨b',x,H,O,U⟩|⟨H,-⟩
    ·rw[U] at q;injection q with q;subst q;exact z (hs.inj i id _ c x Z H m O)
    simp_all
   ·have:=(hs.hp i b c Z m).1;omega
  by_cases af:i=id
  ·grind
  ·by_cases ah:j=id
   ·grind
   ·rw[l i af] at ac;rw[l j ah] at ag;exact hs.inj i j b c c' (((f i).1 G).resolve_left af) (((f j).1 hj).resolve_left ah) ac ag
 ·show i<max s.nx (id+1);rcases(f i).1 G with h|h
  ·omega
  ·have:=hs.nx i h;omega
 ·refine⟨hg.os.trans hs.kept.os,hg.tape.trans hs.kept.tape,hg.output.trans hs.kept.output,qR8 hs.kept.size hg.size,fun k hk hO=>?_⟩;have al:=qR7 hk hs.kept.size;exact(Y k al (fun c m A=>by rcases hs.out id k c A m with h|h;exact hO h;omega)).trans (hs.kept.block k hk hO)
 ·have z:i≠id:=fun e=>hpin (e ▸ G);obtain⟨m,A⟩:=hs.pin i G;simp_all [trans,S.blk_up,if_neg,Ne.symm,S.blk_fg,B.fg_isBlk]
 ·rw[M];by_cases z:i=id
  ·subst z;rw[r] at I;rcases(W b cap I).2 with q|q
   ·rcases hv with ⟨b',x,H,O,U⟩|⟨H,-⟩
    ·rw[U] at q;injection q with q;subst q;exact hs.disj i _ x H O
    simp_all
   ·intro hF;have:=hs.ows.lt b hF;omega
  ·rw[l i z] at I;exact hs.disj i b cap (((f i).1 G).resolve_left z) I
 ·refine hs.ows.sub (fun b hF=>qR7 (hs.ows.lt b (M ▸ hF)) hg.size) fun i j d hw=>?_;obtain⟨b,c,y,n',c',l1,l2,l3,l4,l5⟩:=hw;rw[S.blk_up] at l3;by_cases z:id=i
  ·subst z;rw[if_pos rfl] at l3;have l3:cs[j]?=some y:=l3;obtain⟨-,u,hu,-⟩:=hc j y l3;obtain⟨b0,c0,g1,g2,g3,g4⟩:=how j y u l3 l4 hu;rw[r] at l2;rcases ab with ⟨h',-⟩|⟨g',x,E,m,A,q,H,O,U,h7⟩
   ·simp_all
   ·rw[l2] at m;injection m with m;injection m with m aa;subst m aa;have ae:j<n*sz:=by grind
    have ad:E[j]?=some u:=by grind
    have h8:w'.cell? ⟨b,j,none⟩=some u:=by grind [World.cell?]
    rw[h8] at l5;injection l5 with l5;subst l5;exact⟨b0,c0,y,n',c',g1,g2,g3,l4,g4⟩
  ·rw[if_neg z,S.blk_fg] at l3;have N:=((f i).1 l1).resolve_left (Ne.symm z);rw[l i (Ne.symm z)] at l2;have ak:=(hs.hp i b c N l2).1;obtain⟨y',e1,e2⟩:=B.fg_ow l3 l4;exact⟨b,c,y',n',c',N,l2,e1,e2,by rw[←l5];exact(World.cell?_of_block (w:=w) (Y b ak (fun c q H=>z (hs.inj id i b c _ H N q l2)))).symm⟩
 ·refine .c _ _ ?_;rcases ab with ⟨m,A,q⟩|⟨g',x,E,m,A,q,H,O,U,h7⟩
  ·rw[A,q];exact .own0 id sz ((f id).2 (.inl rfl)) (r.trans m)
  ·rw[A];have:=RC.own (w:=w') (L:=((s.fg id).up [(id,.row e sz cs)]).live) (ρ:=ρ') id sz 0 n g' x ((f id).2 (.inl rfl)) (r.trans m) (by omega) O
   simp_all
theorem q9J {x y:Operand} {ts:Array TypeId} {w':World} {v:Value} (ho:o.op = .call { callee := .builtin .append,args:=#[x,y],argTypes:=ts }) (hr:(Builtin.append_ ts o.type #[a.eval x,a.eval y]).run P w = .ok v w') (h:next (a.put o.dst v) w'):o.wp P a w next Q:=by unfold Oper.wp execOp;simp only[ho,resolve,invoke,builtin,Sem.run_bind,Sem.run_pure,Result.andThen_ok,List.map_toArray,qQU,List.map_nil,hr];exact h
theorem qp5 (hA:Ag P T) {t:TypeId} {x y:Operand} {p:Nat} (hp:¬ s.live p) (ho:o.op = .call { callee := .builtin .append,args:=#[x,y],argTypes:=#[t,t] }) (hs:Sim cx ρ s a w) (h:q8a T s p t x y K) (hn:JN cx K o a next):o.wp P a w next Q:=by
 obtain⟨e,m,ys,h1,h2,h3,h4,h5,h6,h7,h8⟩:=h;obtain⟨d,i,z,ht⟩:=hA.at_ (t:=t) (by rw[h1];simp)
 obtain⟨d',i',z',k⟩:=hA.at_ h2;have hd:=q4K (ht.kd.trans h1);subst hd;have aa:z'.cells.size=T.sz e:=by obtain⟨V,-⟩:=q7t (w:=w) (L:=s.live) (ρ:=ρ) k.zs;simp_all
 obtain⟨A,G,q1,q2,q3,q4⟩:=qhi hs h5 h7
 -- the cells that are appended
 obtain⟨F,n1,n2⟩:∃F:List Value,F.length=ys.length∧∀(j:Nat) (c:C),ys[j]?=some c→∃v,F[j]?=some v∧RC w s.live ρ v c∧(m=0∨∃b E,A=some ⟨b,E,none⟩∧w.cell? ⟨b,E+j,none⟩=some v):=by
  rcases q4 with rfl|⟨b,E,rfl,hb,hc⟩
  ·simp_all
  ·obtain⟨l,l1,l2⟩:=collect (Pr:=fun j v c=>w.cell? ⟨b,E+j,none⟩=some v∧RC w s.live ρ v c) ys 0 (fun j c r=>by simp_all)
   grind
 have Z:∀u∈F,u.oneCell'=true:=fun u hu=>by
  obtain⟨j,r⟩:=List.getElem?_of_mem hu;have N:j<ys.length:=by grind
  obtain⟨v,V,U,-⟩:=n2 j ys[j] (qQz N);rw[r] at V;injection V with V;subst V;exact U.one (qQO.1 h6 _ (qRp _))
 have M:m=0∨∃b E,A=some ⟨b,E,none⟩∧∀(j:Nat) (u:Value),F[j]?=some u→w.cell? ⟨b,E+j,none⟩=some u:=by
  rcases q4 with h|⟨b,E,h,hb,hc⟩
  ·exact .inl h
  ·by_cases hm:m=0
   ·exact .inl hm
   ·refine .inr ⟨b,E,h,fun j u r=>?_⟩;have N:j<ys.length:=by grind
    obtain⟨v,V,-,g3⟩:=n2 j ys[j] (qQz N);grind
 have Y:=hs.ev x;split at h8
 ·rename_i id sz E n W;rw[W] at Y;obtain⟨rfl,rfl,ah,cs,c1,c0,c2,c3,c4,c5,c6,c7⟩:=h8;have ct:∀(j:Nat) (c:C),cs[j]?=some c→ah[j]?=some c:=fun j c r=>by grind
  have an:n*T.sz e≤ah.length:=by grind
  obtain⟨r1,I⟩:=Y.inv_own
  -- the row as it lies
  obtain⟨xs,H,ai,am⟩:∃xs,w.ownsRow 0 e (T.sz e) (a.eval x) n xs∧(∀(j:Nat) (c:C),cs[j]?=some c→∃u,xs[j]?=some u∧RC w s.live ρ u c)∧((∃b G,s.live id∧ρ id=some (b,G)∧(a.eval x).ownBlock=some b)∨((a.eval x).ownBlock=none∧(s.live id→ρ id=none))):=by
   rcases I with ⟨b,cp,I,r3,r4,r5⟩|⟨I,r3,-,rfl⟩
   ·obtain⟨-,hB⟩:=hs.hp id b cp r1 I;rw[c1] at hB;obtain⟨vs,b1,b2,b3,b4,b5,b6⟩:=hB;have aq:n*T.sz e≤vs.size:=qR8 an b2;refine⟨vs.toList.take (n*T.sz e),⟨by simp;omega,.inr ⟨b,cp,vs,by rw[r5];simp,qQX _,b1,by omega,r4,b3,rfl⟩⟩,fun j c r=>?_,.inl ⟨b,cp,r1,I,by rw[r5];rfl⟩⟩
    have N:j<n*T.sz e:=by grind
    refine⟨vs.getD j undef,?_,b6 j c (ct j c r)⟩;rw[qR6 N];have:j<vs.size:=by omega
    simp_all
   ·have ap:cs=[]:=qQQ (by omega)
    exact⟨[],⟨by simp,.inl ⟨r3,rfl⟩⟩,fun j c r=>by simp_all,.inr ⟨by rw[r3];rfl,fun _=>I⟩⟩
  have af:i'.bytes=T.by_ e:=k.by_;obtain⟨v',w',V,U,g3,O⟩:=qhF (P:=P) (ty:=o.type) (c:=G) ht.ud k.info k.zero k.sz aa h3 H (by omega) M Z c5 (by simp_all)
  obtain⟨ρ',g5,g6⟩:=Sim.rerow (id:=id) (cs:=cs++ys) hs am g3 O U h3 (by grind) (fun hk=>by obtain⟨-,h'⟩:=hs.pin id hk;rw[c1] at h';cases h') (fun j c r=>by
   by_cases ab:j<cs.length
   ·grind
   ·rw[qRa (by omega)] at r
    obtain⟨u,u1,u2,-⟩:=n2 _ c r;have ak:xs.length=cs.length:=by rw[H.1,c2]
    grind) (fun j c u r ho hu=>by
   by_cases ab:j<cs.length
   ·rw[qRb ab] at r;rcases I with ⟨b,cp,I,r3,r4,r5⟩|⟨I,r3,-,rfl⟩
    ·refine⟨b,cp,r1,I,by rw[c1];exact ct j c r,?_⟩
     rcases H.2 with ⟨q1,-⟩|⟨g,aj,al,q1,-,q2,-,-,-,q6⟩
     ·simp_all
     grind [List.getElem?_append_left,List.getElem?_take_of_lt,World.cell?]
    omega
   ·rw[qRa (by omega)] at r
    have:=C.noow_is (qQO.1 (q33 h6) c (qQy r));simp_all)
  exact q9J ho (by simp_all) (hn _ _ ρ' _ _ c7 g5 g6)
 ·rename_i W;rw[W] at Y;obtain⟨c3,c5,c6,c7⟩:=h8;have af:i'.bytes=T.by_ e:=k.by_;have H:w.ownsRow 0 e (T.sz e) (a.eval x) 0 []:=⟨by simp,.inl ⟨Y.inv_nils,rfl⟩⟩
  obtain⟨v',w',V,U,g3,O⟩:=qhF (P:=P) (ty:=o.type) (c:=G) ht.ud k.info k.zero k.sz aa h3 H (by omega) M Z (by omega) (by simp_all)
  rw[qQV,qQR] at U;obtain⟨ρ',g5,g6⟩:=Sim.rerow (id:=p) (cs:=ys) hs (.inr ⟨by rw[Y.inv_nils];rfl,fun h=>absurd h hp⟩) g3 O U h3 h7 (fun hk=>hp (B.live_of (hs.pin p hk).2)) (fun j c r=>by grind) (fun j c u r ho _=>by have:=C.noow_is (qQO.1 (q33 h6) c (qQy r));simp_all)
  exact q9J ho (by simp_all) (hn _ _ ρ' _ _ c7 g5 g6)
 ·rename_i sz n cs W;rw[W] at Y;obtain⟨rfl,hm,c3,c4,c5,c6,c7⟩:=h8;have af:i'.bytes=T.by_ e:=k.by_;obtain⟨A',e1,e2⟩:∃A',a.eval x = .slice A' n n∧RD w (Occ s.live ρ) (.slice A' n n) (.sl (T.sz e) n cs):=by generalize a.eval x=v at Y;cases Y with|c _ _ Y=>cases Y with|clp A' _ _ _ Y=>simp_all
  obtain⟨xs,v',w',V,U,g3,O,ak,ai⟩:∃xs v' w',(Builtin.append_ #[t,t] o.type #[a.eval x,.slice A m G]).run P w = .ok v' w'∧w'.ownsRow 0 e (T.sz e) v' (n+m) (xs++F)∧w.grownBy w' none∧v'.ownBlock=some w.heap.size∧xs.length=cs.length∧∀(j:Nat) (c:D),cs[j]?=some c→∃u,xs[j]?=some u∧RD w (Occ s.live ρ) u c:=by
   rcases M with h0|⟨b,E,rfl,ae⟩
   ·omega
   rw[e1];cases e2 with
   | nil _ _ _ q1 q2=>
    have ag:w.ownsRow 0 e (T.sz e) (.slice none 0 0) 0 []:=⟨by simp,.inl ⟨rfl,rfl⟩⟩
    cases A' with
    | none=>
     obtain⟨v',w',V,U,g3,O⟩:=qhF (P:=P) (ty:=o.type) (c:=G) ht.ud k.info k.zero k.sz aa h3 ag (by omega) (.inr ⟨b,E,rfl,ae⟩) Z c5 (by simp_all)
     refine⟨[],v',w',V,U,g3,?_,rfl,fun j c r=>by simp at r⟩
     rcases O with O|O
     ·exfalso;rcases U.2 with ⟨-,q⟩|⟨g,aj,al,q,-⟩
      ·omega
      ·rw[q] at O;cases O
     ·exact O
    | some ad=>
     obtain⟨v',w',V,U,g3,O⟩:=qiY (P:=P) (ad:=ad) (xs:=[]) (n:=0) (ty:=o.type) (c:=G) ht.ud k.info k.zero k.sz aa h3 (by simp) (fun j u r=>by simp at r) hm (by omega) ae c5 (by simp_all)
     grind
   | sl b2 ac _ _ _ _ f q1 q2 q3 q4 q5 q6 q7=>
    obtain⟨l,l1,l2⟩:=collect (Pr:=fun j v c=>w.cell? ⟨b2,ac+j,none⟩=some v∧RD w (Occ s.live ρ) v c) cs 0 (fun j c r=>⟨f j,by simp_all,q7 j c r⟩)
    have ao:∀(j:Nat) (u:Value),l[j]?=some u→w.cell? ((⟨b2,ac,none⟩:Addr).add j)=some u:=fun j u r=>by
     rw[q02];have N:j<cs.length:=by grind
     obtain⟨v,r1,I,-⟩:=l2 j cs[j] (qQz N);simp_all
    obtain⟨v',w',V,U,g3,O⟩:=qiY (P:=P) (ty:=o.type) (c:=G) ht.ud k.info k.zero k.sz aa h3 (by omega) ao hm (by omega) ae c5 (by simp_all)
    grind
  obtain⟨ρ',g5,g6⟩:=Sim.rerow (v := .slice none 0 0) (id:=p) (cs:=cs.map C.d++ys) hs (.inr ⟨rfl,fun h=>absurd h hp⟩) g3 (.inr O) U h3 (by grind) (fun hk=>hp (B.live_of (hs.pin p hk).2)) (fun j c r=>by
   by_cases ab:j<cs.length
   ·rw[qRb (by simp_all),qQL] at r
    obtain⟨y,r1,I⟩:=qQK.1 r;subst I;obtain⟨u,u1,u2⟩:=ai j y r1;refine⟨rfl,u,?_,.d _ _ u2⟩;grind
   grind) (fun j c u r ho hu=>by
   by_cases ab:j<cs.length
   ·rw[qRb (by simp_all),qQL] at r
    obtain⟨y,r1,I⟩:=qQK.1 r;subst I;cases ho
   ·rw[qRa (by simp_all)] at r
    have:=C.noow_is (qQO.1 (q33 h6) c (qQy r));simp_all)
  exact q9J ho (by simp_all) (hn _ _ ρ' _ _ c7 g5 g6)
 ·cases h8
end
end
noncomputable section
open Go.RowKit
def FW (ro:Option Nat):Fence:={ Fence.wide with round:=ro }
def J (P:Program) (cx:Cx) (c:Code) (Q:Exit→S→Prop) (s:S):Prop:=
 ∀ρ a w,Sim cx ρ s a w→c.wpIn (FW cx.ro) 0 P (fun e a' w'=>∃s' ρ',Q e s'∧Sim cx ρ' s' a' w') a w
def Th (K:S→Prop) (Q:Exit→S→Prop):Exit→S→Prop
 | .normal,s=>K s
 | e,s=>Q e s
def Bk (id:Nat) (Q:Exit→S→Prop):Exit→S→Prop
 | .exit i,s=>if i=id then Q .normal s else Q (.exit i) s
 | e,s=>Q e s
section
variable {P:Program} {cx:Cx} {s:S} {Q:Exit→S→Prop}
theorem J.skip (h:Q .normal s):J P cx .skip Q s:=fun ρ _ _ b=>wpIn_skip ⟨s,ρ,h,b⟩
theorem J.label {l:Nat} (h:Q .normal s):J P cx (.label l) Q s:=fun ρ _ _ b=>wpIn_label ⟨s,ρ,h,b⟩
theorem J.ret (h:Q .ret s):J P cx .ret Q s:=fun ρ _ _ b=>wpIn_ret ⟨s,ρ,h,b⟩
theorem J.exit {id:Nat} (h:Q (.exit id) s):J P cx (.exit id) Q s:=fun ρ _ _ b=>wpIn_exit ⟨s,ρ,h,b⟩
theorem J.seq {x y:Code} (h:J P cx x (Th (J P cx y Q) Q) s):J P cx (.seq x y) Q s:=fun ρ a w c=>
 wpIn_seq (wpIn_mono (h ρ a w c) fun e b w' ⟨g,ρ',f,d⟩=>by
  cases e with
  | normal=>exact f ρ' b w' d
  | _=>assumption)
theorem J.block {id:Nat} {c:Code} (h:J P cx c (Bk id Q) s):J P cx (.block id c) Q s:=fun ρ a w b=>
 wpIn_block (wpIn_mono (h ρ a w b) fun e f w' ⟨j,ρ',d,g⟩=>by
  cases e with
  | exit i=>
   simp only[Bk] at d;simp only[Exit.inBlock];grind
  | _=>assumption)
theorem J.cond {c:Operand} {x y:Code} {b:Bool} (hc:s.ev c = .c (.d (.bool b))) (ht:b=true→J P cx x Q s) (hf:b=false→J P cx y Q s):J P cx (.cond c x y) Q s:=fun ρ a w e=>by have h:=e.ev c;rw[hc] at h;exact wpIn_cond_split h.inv_bool (fun f=>ht f ρ a w e) (fun f=>hf f ρ a w e)
def Le (cx:Cx) (s s':S):Prop:=∀ρ a w,Sim cx ρ s a w→∃ρ',Sim cx ρ' s' a w
theorem Le.refl (s:S):Le cx s s:=fun ρ _ _ h=>⟨ρ,h⟩
theorem Le.trans {s1 s2 s3:S} (h:Le cx s1 s2) (h':Le cx s2 s3):Le cx s1 s3:=fun ρ a w b=>by obtain⟨ρ',c⟩:=h ρ a w b;exact h' ρ' a w c
theorem J.loop {ι:Type} {c:Code} (St:ι→S) (Ok:ι→Prop) (μ:ι→Nat) (i0:ι) (h0:Ok i0) (hl:Le cx s (St i0))
  (round:∀i,Ok i→J P cx c (Th (fun s'=>∃j,Ok j∧Le cx s' (St j)∧μ j<μ i) Q) (St i)):J P cx (.loop c) Q s:=fun ρ a w hs=>by
 obtain⟨ρ0,hs0⟩:=hl ρ a w hs
 -- the least measure of a member that fits
 let In (a:Act) (w:World) (n:Nat):Prop:=∃i ρ,Ok i∧Sim cx ρ (St i) a w∧μ i=n;have least:∀a w,(∃n,In a w n)→∃n,In a w n∧∀m,In a w m→n≤m:=by
  intro a w ⟨n,H⟩
  induction n using Nat.strongRecOn with
  | _ n I=>
   by_cases h:∃m,m<n∧In a w m
   ·obtain⟨m,u,r⟩:=h;grind
   grind
 let f (a:Act) (w:World):Nat:=open Classical in if h:∃n,In a w n then Classical.choose (least a w h) else 0;have d:∀a w,(∃n,In a w n)→In a w (f a w)∧∀m,In a w m→f a w≤m:=by intro a w h;have:=Classical.choose_spec (least a w h);simp only[f,dif_pos h];exact this
 refine wpIn_loop (fun a w=>∃n,In a w n) f ⟨_,i0,ρ0,h0,hs0,rfl⟩ (fun a w z=>?_);obtain⟨⟨i,k,E,l,A⟩,-⟩:=d a w z;refine wpIn_mono (round i E k a w l) (fun e g w' ⟨s',ρ',u,r⟩=>?_);cases e with
 | normal=>
  obtain⟨j,F,x,G⟩:=u;obtain⟨q,y⟩:=x ρ' g w' r;have b:In g w' (μ j):=⟨j,q,F,y,rfl⟩;refine⟨⟨_,b⟩,?_⟩;have:=(d g w' ⟨_,b⟩).2 _ b;omega
 | _=>assumption
end
section
variable {w:World} {L L':Nat→Prop} {ρ ρ':Pl}
theorem RD.occ {O O':Nat→Prop} {v:Value} {x:D} (h:RD w O v x) (ho:∀b,O' b→O b):RD w O' v x:=by
 induction h with
 | int k n=>exact .int k n
 | bool b=>exact .bool b
 | str s=>exact .str s
 | nil A c i e d=>exact .nil A c i e d
 | sl b g n c i j f e d m l q r y u=>exact .sl b g n c i j f e d m l (fun h=>q (ho b h)) r u
end
theorem qoo {α:Type} {Pr:Nat→α→Prop} {z:α} (hz:∀i,Pr i z):∀{t:List (Nat×α)},(∀i x,(i,x)∈t→Pr i x)→∀i,Pr i (lk t i z)
 | [],_,i=>hz i
 | (j,x)::t,h,i=>by
  unfold lk;split
  ·simp_all
  ·exact qoo hz (fun i x hx=>h i x (qQF _ hx)) i
end
noncomputable section
open Go.RowKit
def qF1:Obj→Bool
 | .cells _ _ _=>true
 | _=>false
def q0x (hp:List (Nat×B)) (nx:Nat):S:=⟨[],hp,nx,0⟩
def qcH:Act:=⟨#[],[]⟩
def RRs (w:World) (L:Nat→Prop) (ρ:Pl) (vs:Array Value) (rs:List R):Prop:=vs.size=rs.length∧∀j r,rs[j]?=some r→RR w L ρ (vs.getD j undef) r
structure qod (P:Program) (f:FuncId):Prop where
 ok:∃fn,P.funcs[f]?=some fn∧(fn.name == "runtime.NumGoroutine")=false∧fn.body.isNone=false
structure AC (P:Program) (f:FuncId) (args:List R) (G:List (Nat×B)) (k:Nat) (Q:R→List (Nat×B)→Prop):Prop where
 ent:qod P f
 call:∀cx ρ w vs,cx.w=w→cx.k=k→cx.ρ=ρ→cx.ro=none→Sim cx ρ (q0x G G.length) qcH w→RRs w (q0x G G.length).live ρ vs args→
  Calls P f vs w fun e w'=>∃v r hp' nx' ρ',e = .returned v∧Q r hp'∧Sim cx ρ' (q0x hp' nx') qcH w'∧RR w' (q0x hp' nx').live ρ' v r
def qxl (T:Ty) (s:S):ResultVar→Option R
 | .tmp t=>some (s.get t)
 | .cell a t=>match s.get a with | .c (.ptr id off)=>ld T (s.blk id).cells off t|_=>none
def rvs (T:Ty) (s:S):List ResultVar→Option (List R)
 | []=>some []
 | x::l=>match qxl T s x,rvs T s l with|some r,some rs=>some (r::rs)|_,_=>none
def q43:List R→Nat→List (Nat×R)
 | [],_=>[]
 | r::l,i=>(i,r)::q43 l (i+1)
theorem qdz:∀(l:List R) (k i:Nat),lk (q43 l k) i .any=if k≤i then l.getD (i-k) .any else .any
 | [],k,i=>by simp[q43,lk]
 | r::l,k,i=>by
  unfold q43 lk;by_cases h:k=i
  ·simp_all
  ·rw[if_neg h,qdz l (k+1) i];grind
section
variable {P:Program} {T:Ty} {cx:Cx} {ρ:Pl} {s:S} {a:Act} {w:World}
def qFA (a:Act):ResultVar→Sem Value
 | .tmp t=>pure (a.tmps.getD t undef)
 | .cell a' t=>do loadVar t (←asAddr (a.tmps.getD a' undef))
theorem qkE (fn:Func) (a:Act):results fn a.tmps=(do let vs ←fn.results.mapM (qFA a);pure (if h:vs.size=1 then vs[0] else .tuple vs)):=by rfl
theorem qsx (hA:Ag P T) (hs:Sim cx ρ s a w) {x:ResultVar} {r:R} (h:qxl T s x=some r) :
  ∃v,(qFA a x).run P w = .ok v w∧RR w s.live ρ v r:=by
 cases x with
 | tmp t=>
  injection h with h;subst h;exact⟨_,rfl,hs.tm t⟩
 | cell g t=>
  simp only[qxl] at h;have e:=hs.tm g;split at h
  ·rename_i id l n;rw[n] at e;obtain⟨b,d,k,i,u⟩:=e.inv_ptr;obtain⟨v,f,m⟩:=qnu (P:=P) hA (b:=b) (o:=0) h (fun j c q=>by rw[qQV];exact(hs.hp id b d k i).2.cell q)
   rw[qQV] at f;refine⟨v,?_,m⟩;simp only[qFA,u,asAddr,Sem.run_bind,Sem.run_pure,Result.andThen_ok];exact f
  ·cases h
theorem qny (hA:Ag P T) (hs:Sim cx ρ s a w):∀(l:List ResultVar) (rs:List R),rvs T s l=some rs→
  ∃vs:List Value,(l.mapM (qFA a)).run P w = .ok vs w∧vs.length=rs.length∧∀j r,rs[j]?=some r→RR w s.live ρ (vs.getD j undef) r
 | [],rs,h=>by
  injection h with h;simp_all
 | x::l,rs,h=>by
  unfold rvs at h;split at h
  ·rename_i r rs' h1 h2;injection h with h;subst h;obtain⟨v,h3,h4⟩:=qsx (P:=P) hA hs h1;obtain⟨vs,d,b,c⟩:=qny hA hs l rs' h2;refine⟨v::vs,?_,by simp[b],fun j f e=>?_⟩
   ·simp_all
   grind
  ·cases h
theorem qqK {w w':World} {D:Nat} {o o':Obj} (h:w.heap[D]?=some o) (ho:qF1 o=false) (h':w'.heap[D]?=some o') (ho':qF1 o'=false) (hb:∀b,b≠D→w'.heap[b]?=w.heap[b]?) (b off:Nat):w'.cell? ⟨b,off,none⟩=w.cell? ⟨b,off,none⟩:=by
 by_cases d:b=D
 ·subst d;have i:w.cell? ⟨b,off,none⟩=none:=by
   cases o with
   | cells c e f=>cases ho
   | _=>simp[World.cell?,h]
  have g:w'.cell? ⟨b,off,none⟩=none:=by
   cases o' with
   | cells c e f=>cases ho'
   | _=>simp[World.cell?,h']
  rw[i,g]
 ·exact World.cell?_of_block (w:=w) (hb b d)
theorem RD.cl {w w':World} {O:Nat→Prop} (hz:w'.heap.size=w.heap.size) (hc:∀b off,w'.cell? ⟨b,off,none⟩=w.cell? ⟨b,off,none⟩) {v:Value} {x:D} (h:RD w O v x):RD w' O v x:=by
 induction h with
 | int k n=>exact .int k n
 | bool b=>exact .bool b
 | str s=>exact .str s
 | nil A d i g e=>exact .nil A d i g e
 | sl b off n d i l f g e q m r u E y=>exact .sl b off n d i l f g e q (hz ▸ m) r (fun j c z=>(hc _ _).trans (u j c z)) y
theorem RC.cl {w w':World} {L:Nat→Prop} {ρ:Pl} (hz:w'.heap.size=w.heap.size) (hc:∀b off,w'.cell? ⟨b,off,none⟩=w.cell? ⟨b,off,none⟩) (hF:∀b,ρ.F b→w'.heap[b]?=w.heap[b]?) {v:Value} {x:C} (h:RC w L ρ v x):RC w' L ρ v x:=by
 induction h with
 | d v x h=>exact .d v x (h.cl hz hc)
 | ptr id off b i g l=>exact .ptr id off b i g l
 | hd k id b i g l=>exact .hd k id b i g l
 | nilp=>exact .nilp
 | nilf=>exact .nilf
 | nilm=>exact .nilm
 | nils=>exact .nils
 | eptr b o off u f g l q r=>exact .eptr b o off u f (hz ▸ g) l (fun j c y=>(hc _ _).trans (q j c y)) (fun j c y=>(r j c y).cl hz hc)
 | own id m off n b i g l q r=>exact .own id m off n b i g l q r
 | own0 id m g l=>exact .own0 id m g l
 | fn f I z V H g l q r E G=>exact .fn f I z V H g E q G
 | ow e m n b i u H g l q r U M O N=>exact .ow e m n b i u H g ((hF b g).trans l) q r U M O (fun j c y=>(N j c y).cl hz hc)
 | ow0 e m g=>exact .ow0 e m g
 | clp A m n u h=>exact .clp A m n u (h.cl hz hc)
 | any v=>exact .any v
theorem RR.cl {w w':World} {L:Nat→Prop} {ρ:Pl} (hz:w'.heap.size=w.heap.size) (hc:∀b off,w'.cell? ⟨b,off,none⟩=w.cell? ⟨b,off,none⟩) (hF:∀b,ρ.F b→w'.heap[b]?=w.heap[b]?) {v:Value} {x:R} (h:RR w L ρ v x):RR w' L ρ v x:=by
 induction h with
 | c v x h=>exact .c v x (h.cl hz hc hF)
 | agg d f e g=>exact .agg d f e (fun j c k=>(g j c k).cl hz hc hF)
 | tup d f e g i=>exact .tup d f e i
 | any v=>exact .any v
theorem HB.cl {w w':World} {L:Nat→Prop} {ρ:Pl} (hz:w'.heap.size=w.heap.size) (hc:∀b off,w'.cell? ⟨b,off,none⟩=w.cell? ⟨b,off,none⟩) (hF:∀b,ρ.F b→w'.heap[b]?=w.heap[b]?) {b cap:Nat} {x:B} (hb:w'.heap[b]?=w.heap[b]?) (h:HB w L ρ b cap x):HB w' L ρ b cap x:=by
 cases x with
 | blk t m=>obtain⟨g,i,d,l⟩:=h;exact⟨g,hb.trans i,d,fun j c k=>(l j c k).cl hz hc hF⟩
 | row e y m=>obtain⟨g,i,d,l,q,r,u⟩:=h;exact⟨g,hb.trans i,d,l,q,r,fun j c k=>(u j c k).cl hz hc hF⟩
 | ob o=>exact AO.mapR_id o ▸ HO.map (f:=fun x=>x) hb (fun v x _ n=>n.cl hz hc hF) h
 | dead=>trivial
theorem Sim.hid (hs:Sim cx ρ s a w) {D:Nat} {o o':Obj} {ds:List Deferred} (hD:cx.w.heap.size≤D) (hO:¬ Occ s.live ρ D) (h:w.heap[D]?=some o) (ho:qF1 o=false) (ho':qF1 o'=false)
  (hd:Hd cx ds (w.putObj D o') (Occ s.live ρ)):Sim cx ρ s { a with defers:=ds } (w.putObj D o'):=by
 have r:D<w.heap.size:=by grind
 have z:(w.putObj D o').heap.size=w.heap.size:=by simp
 have g:∀b,b≠D→(w.putObj D o').heap[b]?=w.heap[b]?:=fun b N=>World.putObj_heap_other N;have x:=qqK h ho (World.putObj_heap_same (o:=o') r) ho' g;have l:∀b,ρ.F b→(w.putObj D o').heap[b]?=w.heap[b]?:=fun b l=>g b (fun e=>hO (.inl (e ▸ l)));refine⟨hd,hs.size,fun i=>(hs.tm i).cl z x l,fun i b f E A=>?_,hs.hp0,hs.out,hs.inj,hs.nx,⟨hs.kept.os,hs.kept.tape,hs.kept.output,by omega,fun k q m=>?_⟩,hs.oldF,hs.pin,hs.disj,hs.ows.sub (fun b h=>by rw[z];exact hs.ows.lt b h) fun i j d V=>by obtain⟨b,c,y,n,I,M,O,H,U,W⟩:=V;exact⟨b,c,y,n,I,M,O,H,U,(x b j).symm.trans W⟩⟩
 ·obtain⟨Y,G⟩:=hs.hp i b f E A;have u:b≠D:=fun e=>hO (.inr ⟨i,f,E,e ▸ A⟩);exact⟨by omega,G.cl z x l (g b u)⟩
 ·exact(g k (by omega)).trans (hs.kept.block k q m)
theorem qa4 {fn:Func} {tmps:Array Value} {R':Ending→World→Prop}:∀(Ds:List Nat) (a:Act) (w:World),a.defers=Ds.map mark→Sim cx ρ s a w→
  (∀a' w',a'.tmps=a.tmps→a'.defers=[]→Sim cx ρ s a' w'→∃v,(results fn a'.tmps).run P w' = .ok v w'∧R' (.returned v) w')→a.tmps=tmps→LeavesInM Fence.wide 0 P fn tmps R' (Ds.map mark) .returning w
 | [],a,w,hd,hs,h,ht=>by
  obtain⟨v,h1,h2⟩:=h a w rfl (by rw[hd];rfl) hs
  subst ht;exact⟨v,h1,h2⟩
 | D::Ds,a,w,hd,hs,h,ht=>by
  obtain⟨⟨Ds',e1,e2,e3⟩⟩:=hs.hd;have hDs:Ds'=D::Ds:=by
   rw[hd] at e1;have z:∀(l b:List Nat),l.map mark=b.map mark→b=l:=by
    intro l
    induction l with
    | nil=>simp_all
    | cons y l E=>
     intro b g;cases b with
     | nil=>cases g
     | cons x b=>
      simp only[qQU,List.cons.injEq,mark,Deferred.mk.injEq,Target.collected.injEq,and_true] at g;simp_all
   grind
  subst hDs;obtain⟨r,A,m,i⟩:=e3 D qQM;have c:Hd cx (Ds.map mark) (w.putObj D (.deferred none)) (Occ s.live ρ):=by
   refine⟨⟨Ds,rfl,(List.nodup_cons.1 e2).2,fun D' d=>?_⟩⟩
   ·obtain⟨q,u,k,j⟩:=e3 D' (qQF _ d);exact⟨q,by simp_all,k,(World.putObj_heap_other (fun e=>(List.nodup_cons.1 e2).1 (by simp_all))).trans j⟩
  have f:=hs.hid (o' := .deferred none) r m i rfl rfl c;refine⟨by simp,.inl ⟨D,_,rfl,run_takeDeferred i,qa4 Ds _ _ rfl f (fun a' w' h1 h2 n=>h a' w' h1 h2 n) ht⟩⟩
end
end
noncomputable section
open Go.RowKit
def q3l (P:Program) (s:S) (g:FuncId) (rs:List R) (K:KK):Prop:=
 qod P g∧∀cx ρ a w vs,Sim cx ρ s a w→RRs w s.live ρ vs rs→Calls P g vs w fun e w'=>∃v r s' ρ',e = .returned v∧K r s'∧Sim cx ρ' s' a w'∧RR w' s'.live ρ' v r
def qim (P:Program) (s:S) (f:Operand) (args:List Operand) (K:KK):Prop:=
 ∃g fs caps,s.ev f = .c (.fn g fs caps)∧q3l P s g (fs.map R.c++args.map s.ev++caps.map R.c) K
section
variable {P:Program} {T:Ty} {cx:Cx} {ρ:Pl} {s:S} {a:Act} {w:World} {o:Oper} {next:Act→World→Prop} {Q:Exit→Act→World→Prop} {K:KK}
theorem q6G {L:Nat→Prop} {vs us:Array Value} {rs ts:List R} (h:RRs w L ρ vs rs) (h':RRs w L ρ us ts):RRs w L ρ (vs++us) (rs++ts):=by
 refine⟨by simp[h.1,h'.1],fun j r b=>?_⟩
 by_cases c:j<rs.length
 ·rw[qRb c] at b;have d:j<vs.size:=by rw[h.1];exact c
  have:=h.2 j r b;simpa [qQD,Array.getElem?_append,d] using this
 ·rw[qRa (by omega)] at b
  have:=h'.2 _ r b;have e:(vs++us).getD j undef=us.getD (j-rs.length) undef:=by simp only[qQD,Array.getElem?_append,h.1,if_neg c]
  simp_all
theorem qqN (hs:Sim cx ρ s a w) (l:List Operand):RRs w s.live ρ (l.map a.eval).toArray (l.map s.ev):=by
 refine⟨by simp,fun j r b=>?_⟩
 rw[qQL] at b;obtain⟨x,d,c⟩:=qQK.1 b;have:(l.map a.eval).toArray.getD j undef=a.eval x:=by simp_all
 rw[this,←c];exact hs.ev x
theorem q8n {L:Nat→Prop} {vs:Array Value} {cs:List C} (h1:vs.size=cs.length) (h2:∀j c,cs[j]?=some c→RC w L ρ (vs.getD j undef) c):RRs w L ρ vs (cs.map R.c):=by
 refine⟨by simp[h1],fun j r b=>?_⟩
 rw[qQL] at b;obtain⟨x,d,e⟩:=qQK.1 b;exact e ▸ .c _ _ (h2 j x d)
theorem qvj {f:Operand} {args:Array Operand} {ts:Array TypeId} (ho:o.op = .call { callee := .value f,args:=args,argTypes:=ts }) (hs:Sim cx ρ s a w) (h:qim P s f args.toList K) (hn:JN cx K o a next):o.wp P a w next Q:=by
 obtain⟨g,M,d,k,⟨H,x,A,n⟩,i⟩:=h;have c:=hs.ev f;rw[k] at c;obtain⟨N,I,j,q,q3,q4,m⟩:=c.inv_fn;have b:=q6G (q6G (q8n q q3) (qqN hs args.toList)) (q8n q4 m);have l:(args.toList.map a.eval).toArray=args.map a.eval:=by grind
 rw[l] at b;have F:=i cx ρ a w _ hs b;unfold Oper.wp execOp;simp only[ho,resolve,j,Deferred.ofValue,Sem.run_bind,Sem.run_pure,Result.andThen_ok,invoke,callFunc,program,Sem.run,x,A,n,Bool.false_eq_true,if_false];refine F.mono fun e w' ⟨v,r,u,ρ',G,y,z,E⟩=>?_;subst G;exact hn r u ρ' v w' y z E
theorem Sim.grow (hs:Sim cx ρ s a w) {w':World} (hk:ql2 (fun _=>False) w w'):Sim cx ρ s a w':=by
 have e:q8Y w s.live ρ w' s.live ρ:=⟨hk.size,fun b m _=>hk.block b m id,fun _ _ h=>h,fun _ g=>⟨g,rfl⟩,fun b F=>⟨F,fun m=>hk.block b m id⟩⟩;exact⟨hs.hd.stay e,hs.size,fun i=>(hs.tm i).stay e,fun i b c g l=>⟨qR7 (hs.hp i b c g l).1 hk.size,(hs.hp i b c g l).2.stay e (hk.block b (hs.hp i b c g l).1 id)⟩,hs.hp0,hs.out,hs.inj,hs.nx,
  ⟨hk.os.trans hs.kept.os,hk.tape.trans hs.kept.tape,hk.output.trans hs.kept.output,qR8 hs.kept.size hk.size,fun k f x=>(hk.block k (qR7 f hs.kept.size) id).trans (hs.kept.block k f x)⟩,hs.oldF,hs.pin,hs.disj,hs.ows.sub (fun b h=>qR7 (hs.ows.lt b h) hk.size) fun i j d E=>by obtain⟨b,c,y,n,z,q,r,u,A,G⟩:=E;exact⟨b,c,y,n,z,q,r,u,A,by rw[←G];exact(World.cell?_of_block (w:=w) (hk.block b (hs.hp i b c q r).1 id)).symm⟩⟩
def C.dat0:C→Bool
 | .d _=>true
 | .nilp=>true
 | .nilf=>true
 | .nilm=>true
 | .nils=>true
 | .eptr _ _=>true
 | .clp _ _ _=>true
 | .any=>true
 | _=>false
def C.dat:C→Bool
 | .fn _ fs caps=>fs.all C.dat0&&caps.all C.dat0
 | c=>c.dat0
def R.dat:R→Bool
 | .c x=>x.dat
 | .agg xs=>xs.all C.dat
 | .tup rs=>rs.all fun r=>match r with | .c x=>x.dat | .agg xs=>xs.all C.dat | .any=>true|_=>false
 | .any=>true
theorem qsY {cs:List C} (h:cs.all C.dat=true):cs.all C.noow=true:=qQO.2 fun c b=>by have:=qQO.1 h c b;cases c<;>first|rfl|cases this
theorem RC.dat' {L L':Nat→Prop} {ρ':Pl} {v:Value} {x:C} (h:RC w L ρ v x) (hx:x.dat=true) (ho:∀b,Occ L' ρ' b→Occ L ρ b):RC w L' ρ' v x:=by
 have i:∀{v:Value} {x:C},RC w L ρ v x→x.dat0=true→RC w L' ρ' v x:=fun h hx=>by
  cases h with
  | d v x h=>exact .d _ _ (h.occ ho)
  | nilp=>exact .nilp
  | nilf=>exact .nilf
  | nilm=>exact .nilm
  | nils=>exact .nils
  | any _=>exact .any _
  | clp A G n m h=>exact .clp A G n m (h.occ ho)
  | eptr b o q m f l k u r=>exact .eptr b o q m f l (fun h=>k (ho b h)) u (fun j c g=>(r j c g).occ ho)
  | _=>cases hx
 cases x with
 | fn f y e=>
  obtain⟨F,E⟩:=(qR3 _ _).mp (show(y.all C.dat0&&e.all C.dat0)=true from hx);cases h with
  | fn _ _ _ H z l k u r=>exact .fn f y e H z l (fun j c g=>i (k j c g) (qQO.1 F c (qQy g))) u (fun j c g=>i (r j c g) (qQO.1 E c (qQy g)))
 | _=>exact i h hx
theorem RR.dat' {L L':Nat→Prop} {ρ':Pl} {v:Value} {x:R} (h:RR w L ρ v x) (hx:x.dat=true) (ho:∀b,Occ L' ρ' b→Occ L ρ b):RR w L' ρ' v x:=by
 have i:∀{e:Array Value} {d:List C},e.size=d.length→(∀j c,d[j]?=some c→RC w L ρ (e.getD j undef) c)→d.all C.dat=true→RR w L' ρ' (.agg e) (.agg d):=fun g f l => .agg _ _ g fun j c k=>(f j c k).dat' (qQO.1 l c (qQy k)) ho;cases h with
 | c v x h=>exact .c _ _ (h.dat' hx ho)
 | agg e d g f=>exact i g f hx
 | tup e d g f=>
  refine .tup _ _ g fun j r k=>?_;have l:=qQO.1 (show d.all _=true from hx) r (qQy k);have m:=f j r k;generalize e.getD j undef=u at m;cases m with
  | c v x h=>exact .c _ _ (h.dat' l ho)
  | agg e d g f=>simp_all
  | tup e d g f=>cases l
  | any v=>exact .any _
 | any v=>exact .any _
theorem qnH (hs:Sim cx ρ s a w) {O:Nat→Prop} {id sz off n:Nat} {ds:List D} {v:Value} (h:RC w s.live ρ v (.own id sz off n)) (hc:((s.blk id).cells.drop (off*sz)).take (n*sz)=ds.map C.d) (hl:ds.length=n*sz)
  (hO:∀b,O b→Occ s.live ρ b) (hid:∀b cap,ρ id=some (b,cap)→¬ O b):RD w O v (.sl sz n ds):=by
 obtain⟨m,e⟩:=(RR.c v _ h).inv_own;rcases e with ⟨b,cap,e,q3,q4,q⟩|⟨e,q3,rfl,rfl⟩
 ·rw[q];by_cases g:n=0
  ·subst g;have:ds=[]:=qQQ (by omega)
   subst this;exact .nil _ _ _ (by omega) (fun h=>by cases h)
  ·obtain⟨u,z⟩:=hs.hp id b cap m e;obtain⟨x,f,r⟩:=collect (Pr:=fun j v d=>w.cell? ⟨b,off*sz+j,none⟩=some v∧RC w s.live ρ v (.d d)) ds 0 (fun j d l=>by
    rw[qQV];have f:(ds.map C.d)[j]?=some (.d d):=by simp_all
    rw[←hc] at f;have k:j<n*sz:=by grind
    rw[qR6 k,List.getElem?_drop] at f;exact z.cell f)
   refine .sl b (off*sz) n (cap-off) sz ds (fun j=>x.getD j undef) hl (by omega) (by omega) u (hid b cap e) (fun j d l=>?_) (fun j d l=>?_)
   ·grind
   ·obtain⟨v,y,-,i⟩:=r j d l;rw[List.getD,y];cases i with|d _ _ i=>exact i.occ hO
 ·rw[q3];have:ds=[]:=qQQ (by omega)
  subst this;exact .nil _ _ _ (qQX _) (fun _=>rfl)
theorem Sim.occ_lt (hs:Sim cx ρ s a w) {b:Nat} (h:Occ s.live ρ b):b<w.heap.size:=by
 rcases h with h|⟨i,c,e,d⟩
 ·exact hs.ows.lt b h
 ·exact(hs.hp i b c e d).1
def Pl.setO (ρ:Pl) (p:Nat) (pl:Option (Nat×Nat)):Pl:=⟨fun i=>if i=p then pl else ρ i,ρ.F⟩
theorem qlX (h:Sim cx ρ s a w) {p:Nat} {x:B} {pl:Option (Nat×Nat)} {w':World} (hp:¬ s.live p) (hk:ql2 (fun _=>False) w w') (hpl:∀b cap,pl=some (b,cap)→w.heap.size≤b) :
  q8Y w s.live ρ w' (s.up [(p,x)]).live (ρ.setO p pl):=by
 have g:∀i,s.live i→i≠p:=fun i d e=>hp (e ▸ d);refine⟨hk.size,fun b j _=>hk.block b j id,fun b j m=>?_,fun i d=>⟨?_,if_neg (g i d)⟩,fun b l=>⟨l,fun j=>hk.block b j id⟩⟩
 ·rcases m with l|⟨i,c,k,f⟩
  ·exact .inl l
  ·by_cases d:i=p
   ·have f:(if i=p then pl else ρ i)=some (b,c):=f;grind
   ·have f:(if i=p then pl else ρ i)=some (b,c):=f;rw[if_neg d] at f;unfold S.live at k;rw[S.blk_up,if_neg (Ne.symm d)] at k;exact .inr ⟨i,c,k,f⟩
 ·unfold S.live at d ⊢;rw[S.blk_up,if_neg (Ne.symm (g i d))];exact d
theorem Sim.newG (h:Sim cx ρ s a w) {p:Nat} {x:B} {pl:Option (Nat×Nat)} {w':World} (hp:¬ s.live p) (hk:ql2 (fun _=>False) w w')
  (hpl:(pl=none∧∃e sz,x = .row e sz [])∨∃b cap,pl=some (b,cap)∧w.heap.size≤b∧b<w'.heap.size∧HB w' (s.up [(p,x)]).live (ρ.setO p pl) b cap x) (hx:x.cells.all C.noow=true):Sim cx (ρ.setO p pl) (s.up [(p,x)]) a w':=by
 have E:∀b cap,pl=some (b,cap)→w.heap.size≤b:=fun b cap e=>by grind
 have N:=qlX (x:=x) h hp hk E;have z:∀i,(s.up [(p,x)]).live i→i≠p→s.live i:=fun i l g=>by unfold S.live at l ⊢;rw[S.blk_up,if_neg (Ne.symm g)] at l;exact l
 have A:∀i,i≠p→(ρ.setO p pl) i=ρ i:=fun i g=>if_neg g;have q:(ρ.setO p pl) p=pl:=if_pos rfl;refine⟨h.hd.stay N,h.size,fun i=>(h.tm i).stay N,fun i b c l f=>?_,fun i l f=>?_,fun i b c l f=>?_,fun i j b c M l W f u=>?_,fun i l=>?_,?_,h.oldF,fun i l=>?_,fun i b c l f=>?_,?_⟩
 ·by_cases g:i=p
  ·subst g;rw[q] at f;rw[S.blk_up,if_pos rfl];grind
  ·rw[A i g] at f;obtain⟨I,G⟩:=h.hp i b c (z i l g) f;rw[S.blk_up,if_neg (Ne.symm g)];exact⟨qR7 I hk.size,G.stay N (hk.block b I id)⟩
 ·by_cases g:i=p
  ·subst g;rw[q] at f;rw[S.blk_up,if_pos rfl];simp_all
  ·rw[A i g] at f;rw[S.blk_up,if_neg (Ne.symm g)];exact h.hp0 i (z i l g) f
 ·by_cases g:i=p
  ·subst g;rw[q] at f;have:=E b c f;exact .inr (qR8 h.kept.size this)
  ·rw[A i g] at f;exact h.out i b c (z i l g) f
 ·by_cases r:i=p
  ·by_cases m:j=p
   ·rw[r,m]
   ·subst r;rw[q] at f;rw[A j m] at u;have:=(h.hp j b M (z j W m) u).1;grind
  ·by_cases m:j=p
   ·subst m;rw[q] at u;rw[A i r] at f;have:=(h.hp i b c (z i l r) f).1;grind
   ·rw[A i r] at f;rw[A j m] at u;exact h.inj i j b c M (z i l r) (z j W m) f u
 ·show i<max s.nx (p+1);by_cases g:i=p
  ·omega
  ·have:=h.nx i (z i l g);omega
 ·exact⟨hk.os.trans h.kept.os,hk.tape.trans h.kept.tape,hk.output.trans h.kept.output,qR8 h.kept.size hk.size,fun k F Y=>(hk.block k (qR7 F h.kept.size) id).trans (h.kept.block k F Y)⟩
 ·obtain⟨I,G⟩:=h.pin i l;have g:i≠p:=fun e=>hp (by rw[←e];unfold S.live;exact B.live_of G)
  exact⟨(A i g).trans I,by rw[S.blk_up,if_neg (Ne.symm g)];exact G⟩
 ·by_cases g:i=p
  ·subst g;rw[q] at f;intro U;have:=h.ows.lt b U;grind
  ·rw[A i g] at f;exact h.disj i b c (z i l g) f
 ·refine h.ows.sub (fun b U=>qR7 (h.ows.lt b U) hk.size) fun i j d hw=>?_;obtain⟨b,c,y,n,M,V,O,H,Z,l5⟩:=hw;have g:i≠p:=fun e=>by subst e;rw[S.blk_up,if_pos rfl] at H;have:=C.noow_is (qQO.1 hx y (qQy H));simp_all
  rw[A i g] at O;rw[S.blk_up,if_neg (Ne.symm g)] at H;exact⟨b,c,y,n,M,z i V g,O,H,Z,by rw[←l5];exact(World.cell?_of_block (w:=w) (hk.block b (h.hp i b c (z i V g) O).1 id)).symm⟩
theorem q3l.fresh {g:FuncId} {rs:List R} {e z n:Nat} {cs:List C} (h:AC P g rs [] 0 fun r hp=>r = .c (.own 0 z 0 n)∧hp=[(0,.row e z cs)]) (hd:rs.all R.dat=true) (hcs:cs.all C.dat=true) {p:Nat} (hp:¬ s.live p)
  (hK:K (.c (.own p z 0 n)) (s.up [(p,.row e z cs)])):q3l P s g rs K:=by
 refine⟨h.ent,fun cx ρ a w vs hs hv=>?_⟩;let l:Pl:=⟨fun _=>none,Occ s.live ρ⟩;let W:Cx:=⟨fun _=>False,w,l,0,none⟩;have k:∀i,¬ (q0x [] 0).live i:=fun i h=>by cases h
 have ae:∀b,Occ (q0x [] 0).live l b↔Occ s.live ρ b:=fun b=>⟨fun h=>by rcases h with h|⟨i,c,h1,-⟩;exact h;simp_all,fun h => .inl h⟩
 have V:∀b,l.F b→b<w.heap.size:=fun b E=>hs.occ_lt E;have ac:Sim W l (q0x [] 0) qcH w:=by refine⟨Hd.none,rfl,fun i => .any _,fun i b c h=>absurd h (k i),fun i h=>absurd h (k i),fun i b c h=>absurd h (k i),fun i j b c c' h=>absurd h (k i),fun i h=>absurd h (k i),ql2.refl _ _,fun b E=>⟨E,V b E⟩,fun i A=>absurd A (Nat.not_lt_zero _),fun i b c h=>absurd h (k i),⟨V,fun i j _ _ d h=>absurd h.choose_spec.choose_spec.choose_spec.choose_spec.choose_spec.1 (k i),fun i j d h=>absurd h.choose_spec.choose_spec.choose_spec.choose_spec.choose_spec.1 (k i)⟩⟩
 have G:RRs w (q0x [] 0).live l vs rs:=⟨hv.1,fun j r N=>(hv.2 j r N).dat' (qQO.1 hd r (qQy N)) (fun b E=>(ae b).1 E)⟩;refine(h.call W l w vs rfl rfl rfl rfl ac G).mono fun e' w' ⟨v,r,af,y,ρ',h1,⟨h2,ad⟩,I,h4⟩=>?_;subst h2 ad;have u:(q0x [(0,B.row e z cs)] y).live 0:=by rfl
 have ag:∀i,(q0x [(0,B.row e z cs)] y).live i→i=0:=fun i A=>by
  unfold S.live S.blk q0x at A;by_cases U:i=0
  ·exact U
  ·simp[lk,show ¬ 0=i by omega,B.live] at A
 have hF:∀b,Occ s.live ρ b→ρ'.F b:=fun b E=>(I.oldF b E).1;obtain⟨-,hc⟩:=h4.inv_own;rcases hc with ⟨b,f,M,c2,c3,c4⟩|⟨M,c2,-,c4⟩
 ·have Z:w.heap.size≤b:=(I.out 0 b f u M).resolve_left id;obtain⟨ab,hB⟩:=I.hp 0 b f u M;have hB:HB w' (q0x [(0,B.row e z cs)] y).live ρ' b f (.row e z cs):=hB;obtain⟨aa,q1,q2,q3,q4,q5,q6⟩:=hB;have O:∀Y,Occ (s.up [(p,B.row e z cs)]).live (ρ.setO p (some (b,f))) Y→Occ (q0x [(0,B.row e z cs)] y).live ρ' Y:=fun Y H=>by
   rcases H with H | ⟨i,c,g1,q⟩
   ·exact .inl (hF _ (.inl H))
   ·have q:(if i=p then some (b,f) else ρ i)=some (Y,c):=q;by_cases A:i=p
    ·rw[if_pos A] at q;injection q with q;injection q with q g3;subst q;exact .inr ⟨0,f,u,M⟩
    ·rw[if_neg A] at q;unfold S.live at g1;rw[S.blk_up,if_neg (Ne.symm A)] at g1;exact .inl (hF _ (.inr ⟨i,c,g1,q⟩))
  have m:=hs.newG (x := .row e z cs) (pl:=some (b,f)) hp I.kept (.inr ⟨b,f,rfl,Z,ab,aa,q1,q2,q3,q4,q5,fun j c N=>(q6 j c N).dat' (qQO.1 hcs c (qQy N)) O⟩) (qsY hcs);refine⟨v,_,_,_,h1,hK,m,?_⟩;rw[c4];exact .c _ _ (.own p z 0 n b f (by unfold S.live;rw[S.blk_up,if_pos rfl];rfl) (if_pos rfl) c2 c3)
 ·obtain⟨e0,z0,U⟩:=I.hp0 0 u M;have U:B.row e z cs = .row e0 z0 []:=U;injection U with i1 i2 i3;subst i3 c4;have m:=hs.newG (x := .row e z []) (pl:=none) hp I.kept (.inl ⟨rfl,_,_,rfl⟩) rfl;refine⟨v,_,_,_,h1,hK,m,?_⟩;rw[c2];exact .c _ _ (.own0 p z (by unfold S.live;rw[S.blk_up,if_pos rfl];rfl) (if_pos rfl))
end
end
noncomputable section
open Go.RowKit
def XO (f:Option (R×S)) (K:KK):Prop:=∃r s',f=some (r,s')∧K r s'
def D.key:D→Option Value
 | .int k n=>some (.int k n)
 | .bool b=>some (.bool b)
 | .str s=>some (.string s)
 | .sl _ _ _=>none
def kR:Value→R
 | .int k n => .c (.d (.int k n))
 | .bool b => .c (.d (.bool b))
 | .string s => .c (.d (.str s))
 | _ => .any
def R.key:R→Option Value
 | .c (.d x)=>x.key
 | _=>none
def plK:Kd→Value→Bool
 | .int k,.int k' _=>decide (k=k')
 | .str,.string _=>true
 | .bool,.bool _=>true
 | _,_=>false
def kq:Value→Value→Bool
 | .int _ a,.int _ b=>decide (a=b)
 | .string a,.string b=>decide (a=b)
 | .bool a,.bool b=>a==b
 | _,_=>false
def fnd (k:Value):List (Value×R×Nat)→Nat→Option (Nat×R×Nat)
 | [],_=>none
 | e::es,i=>if kq k e.1=true then some (i,e.2.1,e.2.2) else fnd k es (i+1)
def fnb (n:Int):List (Value×R×Nat)→Nat→Option Nat
 | [],_=>none
 | e::es,i=>if(e.2.2:Int)=n then some i else fnb n es (i+1)
def zR (T:Ty) (e:TypeId):Option R:=
 match T.k e,T.zero e with
 | .other,_=>none
 | .st _,z=>some (.agg z)
 | .arr _ _,z=>some (.agg z)
 | .sl e',[.nils]=>some (.c (.d (.sl (T.sz e') 0 [])))
 | _,[c]=>some (.c c)
 | _,_=>none
def q3I (T:Ty) (s:S) (p:Nat) (t:TypeId) (r:Option Operand):Option (R×S):=
 match r with
 | none=>some (.c (.hd .map p),s.up [(p,.ob (.mp [] 0))])
 | some x=>match T.k t,s.ev x with
  | .mp _ _,.c (.d (.int _ _))=>some (.c (.hd .map p),s.up [(p,.ob (.mp [] 0))])
  | _,_=>none
def qad (s:S) (x:Operand):Option (List (Value×R×Nat)):=
 match s.ev x with
 | .c .nilm=>some []
 | .c (.hd .map id)=>match s.blk id with | .ob (.mp es _)=>some es|_=>none
 | _=>none
def tt2 (r:R) (ok:Bool) (b:Bool):R:=if ok then .tup [r,.c (.d (.bool b))] else r
def q5N (T:Ty) (s:S) (t:TypeId) (x y:Operand) (ok:Bool):Option R:=
 match T.k t,qad s x,(s.ev y).key with
 | .mp k e,some es,some kv=>
  if plK (T.k k) kv=true∧es.all (fun q=>plK (T.k k) q.1)=true then
   (zR T e).bind fun z=>match fnd kv es 0 with
    | some q=>some (tt2 q.2.1 ok true)
    | none=>some (tt2 z ok false)
  else none
 | _,_,_=>none
def q66 (T:Ty) (s:S) (t:TypeId) (m k x:Operand):Option (R×S):=
 match T.k t,s.ev m,(s.ev k).key with
 | .mp kt _,.c (.hd .map id),some kv=>match s.blk id with
  | .ob (.mp es ck)=>
   if plK (T.k kt) kv=true∧es.all (fun q=>plK (T.k kt) q.1)=true then
    match fnd kv es 0 with
    | some q=>some (.any,s.up [(id,.ob (.mp (es.set q.1 (kv,s.ev x,q.2.2)) ck))])
    | none=>some (.any,s.up [(id,.ob (.mp (es++[(kv,s.ev x,ck)]) (ck+1)))])
   else none
  | _=>none
 | _,_,_=>none
def qe0 (T:Ty) (s:S) (t:TypeId) (m k:Operand):Option (R×S):=
 match T.k t,s.ev m,(s.ev k).key with
 | .mp kt e,.c (.hd .map id),some kv=>match s.blk id with
  | .ob (.mp es ck)=>
   if plK (T.k kt) kv=true∧es.all (fun q=>plK (T.k kt) q.1)=true then
    (zR T e).bind fun z=>match fnd kv es 0 with
    | some q=>some (.tup [q.2.1,.c (.d (.int .i64 q.2.2))],s.up [(id,.ob (.mp (es.set q.1 (kv,q.2)) ck))])
    | none=>some (.tup [z,.c (.d (.int .i64 ck))],s.up [(id,.ob (.mp (es++[(kv,z,ck)]) (ck+1)))])
   else none
  | _=>none
 | _,_,_=>none
def qiJ (s:S) (m st x:Operand):Option (R×S):=
 match s.ev m,s.ev st with
 | .c (.hd .map id),.c (.d (.int _ n))=>match s.blk id with
  | .ob (.mp es ck)=>(fnb n es 0).bind fun i=>(es[i]?).bind fun e=>some (.any,s.up [(id,.ob (.mp (es.set i (e.1,s.ev x,e.2.2)) ck))])
  | _=>none
 | _,_=>none
def qbU (T:Ty) (s:S) (t:TypeId) (x:Operand):Option R:=
 match T.k t,qad s x with
 | .mp _ _,some es=>some (.c (.d (.int .i64 es.length)))
 | _,_=>none
def q7b (T:Ty) (s:S) (p:Nat) (t:TypeId) (x:Operand):Option (R×S):=
 match T.k t,s.ev x with
 | .str,.c (.d (.str b))=>some (.c (.hd .iter p),s.up [(p,.ob (.si b 0))])
 | .mp _ _,.c .nilm=>some (.c (.hd .iter p),s.up [(p,.ob (.mi (.c .nilm) 0 []))])
 | .mp _ _,.c (.hd .map id)=>match s.blk id with
  | .ob (.mp _ ck)=>some (.c (.hd .iter p),s.up [(p,.ob (.mi (.c (.hd .map id)) ck []))])
  | _=>none
 | _,_=>none
def q9R (s:S) (it:Operand):Option (R×S):=
 match s.ev it with
 | .c (.hd .iter id)=>match s.blk id with
  | .ob (.m1 (some e) m since seen)=>some (.tup [.c (.d (.bool true)),kR e.1,e.2.1],s.up [(id,.ob (.mi m since (e.2.2::seen)))])
  | .ob (.m1 none m since seen)=>some (.tup [.c (.d (.bool false))],s.up [(id,.ob (.mi m since seen))])
  | _=>none
 | _=>none
def qyC (es:List (Value×R×Nat)) (x:Nat):Option R:=(es.find? fun q=>q.2.2==x).bind fun e=>some (.tup [kR e.1,e.2.1])
def qis (s:S) (it:Operand):Option (R×S):=
 match s.ev it with
 | .c (.hd .iter id)=>match s.blk id with
  | .ob (.mi (.c (.hd .map mid)) ck (x::_))=>match s.blk mid with
   | .ob (.mp es c)=>if c=ck then(qyC es x).map fun r=>(r,s) else none
   | _=>none
  | _=>none
 | _=>none
def qlB (s:S) (it:Operand):Option (R×S):=
 match s.ev it with
 | .c (.hd .iter id)=>match s.blk id with
  | .ob (.si b pos)=>
   if pos<b.size then some (.tup [.c (.d (.bool true)),.c (.d (.int .i64 pos)),.c (.d (.int .i32 (Utf8.decode b pos).1))],s.up [(id,.ob (.si b (pos+(Utf8.decode b pos).2)))])
   else some (.tup [.c (.d (.bool false))],s)
  | _=>none
 | _=>none
theorem D.key_eq {w:World} {O:Nat→Prop} {v:Value} {x:D} {u:Value} (h:RD w O v x) (hk:x.key=some u):v=u:=by
 cases h with
 | int k n=>injection hk
 | bool b=>injection hk
 | str b=>injection hk
 | _=>cases hk
theorem R.key_eq {w:World} {L:Nat→Prop} {ρ:Pl} {v:Value} {r:R} {u:Value} (h:RR w L ρ v r) (hk:r.key=some u):v=u:=by
 unfold R.key at hk;split at hk
 ·rename_i x;cases h with|c _ _ h=>cases h with|d _ _ h=>exact D.key_eq h hk
 ·cases hk
theorem q8z {d:Kd} {k:Value} (h:plK d k=true):(∃kk n,d = .int kk∧k = .int kk n)∨(∃b,d = .str∧k = .string b)∨∃b,d = .bool∧k = .bool b:=by unfold plK at h;grind
theorem qm6 (a b:ByteArray):(a==b)=decide (a=b):=by grind [decide_eq_true,MapKept.bytes_beq,decide_eq_false,absurd]
theorem qkr {d:TypeDesc} {k k':Value} (h:plK (q7m d) k=true) (h':plK (q7m d) k'=true):Instr.sameNow d k k'=some (kq k k')∧(kq k k'=true→k'=k):=by
 rcases q8z h with ⟨m,n,e,rfl⟩|⟨b,e,rfl⟩|⟨b,e,rfl⟩<;>rcases q8z h' with ⟨j,l,c,rfl⟩|⟨i,c,rfl⟩|⟨i,c,rfl⟩<;>rw[e] at c
 case inl.inl=>
  have f:=q7Y e;injection c with c;subst f c;constructor
  ·grind [Instr.sameNow,kq]
  ·intro g;have:=of_decide_eq_true g;rw[this]
 case inr.inl.inr.inl=>
  have f:=q4s e;simp_all [Instr.sameNow,kq,qm6,of_decide_eq_true]
 case inr.inr.inr.inr=>
  have f:=qek e;simp_all [Instr.sameNow,kq,eq_of_beq]
 all_goals cases c
theorem qbe {d:TypeDesc} {k:Value} (hk:plK (q7m d) k=true):∀(es:List (Value×R×Nat)) (mes:List MapEntry) (i:Nat),mes.map (·.key)=es.map (·.1)→es.all (fun e=>plK (q7m d) e.1)=true→
  (fnd k es i=none→Instr.findNow d k mes i=some none)∧∀q,fnd k es i=some q→∃m,i≤q.1∧es[q.1-i]?=some (k,q.2)∧mes[q.1-i]?=some m∧Instr.findNow d k mes i=some (some (q.1,m.val))
 | [],mes,i,hm,_=>by
  have:mes=[]:=by simp_all
  subst this;exact⟨fun _=>rfl,fun q c=>by cases c⟩
 | e::es,mes,i,hm,ha=>by
  cases mes with
  | nil=>cases hm
  | cons m b=>
   simp only[qQU,List.cons.injEq] at hm;simp only[List.all_cons,qR3] at ha;obtain⟨h,g⟩:=qkr hk ha.1;obtain⟨f,j⟩:=qbe hk es b (i+1) hm.2 ha.2;unfold fnd Instr.findNow;grind
theorem qhx {d:Kd} {k:Value} (h:plK d k=true):Instr.sameBits 10000 k k=true:=by
 rcases q8z h with ⟨c,n,-,rfl⟩|⟨b,-,rfl⟩|⟨b,-,rfl⟩
 ·grind [Instr.sameBits]
 ·grind [Instr.sameBits,qm6]
 grind [Instr.sameBits]
theorem Sim.ext {cx:Cx} {ρ:Pl} {s s':S} {a:Act} {w:World} (hs:Sim cx ρ s a w) (hg:∀i,s'.get i=s.get i) (hb:∀i,s'.blk i=s.blk i) (hn:s'.n=s.n) (hx:∀i,s'.live i→i<s'.nx):Sim cx ρ s' a w:=by
 have g:s'.live=s.live:=by grind [S.live]
 refine⟨by rw[g];exact hs.hd,by rw[hn];exact hs.size,fun i=>by rw[g,hg];exact hs.tm i,fun i b c e f=>by rw[g] at e ⊢;rw[hb];exact hs.hp i b c e f,fun i e f=>by rw[g] at e;rw[hb];exact hs.hp0 i e f,fun i b c e f=>by rw[g] at e;exact hs.out i b c e f,
  fun i j b c h e f=>by rw[g] at e f;exact hs.inj i j b c h e f,hx,hs.kept,hs.oldF,fun i k=>by rw[hb];exact hs.pin i k,fun i b c e=>by rw[g] at e;exact hs.disj i b c e,hs.ows.sub hs.ows.lt fun i j d q=>by obtain⟨b,c,y,n,h,x,l,u,m,r⟩:=q;exact⟨b,c,y,n,h,by simp_all,l,by simp_all,m,r⟩⟩
section
variable {P:Program} {T:Ty} {cx:Cx} {ρ:Pl} {s:S} {a:Act} {w:World} {o:Oper} {next:Act→World→Prop} {Q:Exit→Act→World→Prop} {K:KK}
theorem qfr {k:TypeId} {d:TypeDesc} {kv:Value} {b:Bool} (hu:P.underlying k=some d) (h:plK (q7m d) kv=true):(Instr.checkKey b 10000 k kv).run P w = .ok () w:=by
 show(Instr.checkKey b (9999+1) k kv).run P w = .ok () w;unfold Instr.checkKey;rw[Sem.run_bind,run_underlying hu,Result.andThen_ok];rcases q8z h with ⟨e,n,c,rfl⟩|⟨b,c,rfl⟩|⟨b,c,rfl⟩
 ·simp_all [q7Y]
 ·simp_all [q4s]
 simp_all [qek]
theorem qhI {k:TypeId} {d:TypeDesc} {kv:Value} {mes:List MapEntry} {r:Option (Nat×Value)} (hu:P.underlying k=some d) (h:Instr.findNow d kv mes 0=some r):(Instr.findKey k kv mes).run P w = .ok r w:=by simp_all [Instr.findKey,Sem.run_bind,run_underlying,Result.andThen_ok]
theorem HO.keys {L:Nat→Prop} {b:Nat} {es:List (Value×R×Nat)} {ck:Nat} (h:HO w L ρ b (.mp es ck)):∃mes:Array MapEntry,w.heap[b]?=some (.map mes ck)∧mes.size=es.length∧mes.toList.map (·.key)=es.map (·.1)∧
  ∀(j:Nat) (e:Value×R×Nat),es[j]?=some e→∃m:MapEntry,mes[j]?=some m∧mes.toList[j]?=some m∧m.key=e.1∧RR w L ρ m.val e.2.1∧m.born=e.2.2:=by
 obtain⟨mes,f,c,l⟩:=h;have d:∀(j:Nat) (e:Value×R×Nat),es[j]?=some e→∃m:MapEntry,mes[j]?=some m∧mes.toList[j]?=some m∧m.key=e.1∧RR w L ρ m.val e.2.1∧m.born=e.2.2:=fun j e k=>by
  have g:j<mes.size:=by grind
  have i:mes.getD j default=mes[j]:=by simp[qQD,g]
  grind
 refine⟨mes,f,c,?_,d⟩;apply List.ext_getElem?;grind
theorem HO.of {L:Nat→Prop} {b:Nat} {es:List (Value×R×Nat)} {ck:Nat} {mes:Array MapEntry} (h1:w.heap[b]?=some (.map mes ck)) (h2:mes.size=es.length)
  (h3:∀(j:Nat) (e:Value×R×Nat),es[j]?=some e→∃m:MapEntry,mes[j]?=some m∧m.key=e.1∧RR w L ρ m.val e.2.1∧m.born=e.2.2):HO w L ρ b (.mp es ck):=
 ⟨mes,h1,h2,fun j e c=>by obtain⟨m,f,d⟩:=h3 j e c;simp_all⟩
theorem q7M (h:Sim cx ρ s a w) {id b cap:Nat} (hi:s.live id) (hρ:ρ id=some (b,cap)) {x:B} (hx:x.live=true) {w':World} (hsz:w.heap.size≤w'.heap.size) (hk:∀k,k≠b→w'.heap[k]?=w.heap[k]?):q8Y w s.live ρ w' (s.up [(id,x)]).live ρ:=by
 have j:∀i,(s.up [(id,x)]).live i↔s.live i:=fun i=>by
  unfold S.live;rw[S.blk_up];by_cases m:id=i
  ·subst m;rw[if_pos rfl];exact⟨fun _=>hi,fun _=>hx⟩
  simp_all
 refine⟨hsz,fun k _ f=>hk k (fun e=>f (.inr ⟨id,cap,hi,by simp_all⟩)),fun k q f=>?_,fun i g=>⟨(j i).2 g,rfl⟩,fun k d=>⟨d,fun _=>hk k (fun e=>h.disj id b cap hi hρ (e ▸ d))⟩⟩
 rcases f with d|⟨i,c,n,l⟩
 ·exact .inl d
 ·exact .inr ⟨i,c,(j i).1 n,l⟩
theorem Sim.overO (h:Sim cx ρ s a w) {id b cap:Nat} (hi:s.live id) (hρ:ρ id=some (b,cap)) {o:AO} {O:Obj}
  (hO:q8Y w s.live ρ (w.putObj b O) (s.up [(id,.ob o)]).live ρ→(w.putObj b O).heap[b]?=some O→HO (w.putObj b O) (s.up [(id,.ob o)]).live ρ b o):Sim cx ρ (s.up [(id,.ob o)]) a (w.putObj b O):=by
 have f:=(h.hp id b cap hi hρ).1;have e:∀k,k≠b→(w.putObj b O).heap[k]?=w.heap[k]?:=fun k e=>World.putObj_heap_other e;exact(h.over (x := .ob o) hi hρ rfl (fun _=>rfl) (by simp) e rfl rfl rfl (hO (q7M h hi hρ rfl (by simp) e) (World.putObj_heap_same f)) (fun j y d n c g=>by grind [B.cells])).1
def isC:Obj→Bool
 | .cells _ _ _=>true
 | _=>false
theorem q4N {b:Nat} {O O':Obj} (h:w.heap[b]?=some O) (hO:isC O=false):(setObj b O').run P w = .ok () (w.putObj b O'):=by
 cases O with
 | cells c e f=>cases hO
 | _=>simp[setObj,Sem.run,h,World.putObj]
theorem JV {b:Nat} {O:Obj} (h:w.heap[b]?=some O) (hO:isC O=false):(getObj b).run P w = .ok O w:=by
 cases O with
 | cells c e f=>cases hO
 | _=>simp[getObj,Sem.run,h]
theorem qlT (hA:Ag P T) {L:Nat→Prop} {e:TypeId} {r:R} (h:zR T e=some r):∃v,(zeroValue e).run P w = .ok v w∧RR w L ρ v r:=by
 have u:T.k e ≠ .other:=fun u=>by grind [zR]
 obtain⟨d,i,z,g⟩:=hA.at_ u;obtain⟨M,A⟩:=q7t (w:=w) (L:=L) (ρ:=ρ) g.zs;refine⟨z,by simp[zeroValue,typeInfo,g.info,g.zero],?_⟩
 have l:∀{x},(T.k e).ag=true→some (R.agg (T.zero e))=some x→RR w L ρ z x:=fun y m=>by
  injection m with m;subst m;have I:=g.zk;cases z with
  | agg q=>exact .agg q _ (by assumption) (fun j c W=>by grind [Value.cells,Array.getD_eq_getD_getElem?,List.getD])
  | _=>grind [zok]
 have f:∀{c},(T.k e).ag=false→T.zero e=[c]→RR w L ρ z (.c c):=fun y H=>by
  have I:=g.zk;have E:=A 0 _ (by rw[H];rfl)
  cases z with
  | agg q=>grind [zok]
  | _=>exact .c _ _ (by assumption)
 unfold zR at h;split at h
 ·cases h
 ·rename_i b;exact l (by rw[b];rfl) h
 ·rename_i b;exact l (by rw[b];rfl) h
 ·rename_i V n b;injection h with h;subst h;have F:=f (by rw[n];rfl) b
  rw[F.inv_nils];exact .c _ _ (.d _ _ (.nil none 0 _ (qQX _) (fun _=>rfl)))
 ·rename_i c G E O U N;injection h with h;subst h;refine f ?_ G;cases hke:T.k e<;>first|rfl|simp_all
 ·cases h
theorem qko (hA:Ag P T) {t:TypeId} {r:Option Operand} {p:Nat} (hp:¬ s.live p) (ho:o.op = .makeMap t r) (hs:Sim cx ρ s a w) (h:XO (q3I T s p t r) K) (hn:JN cx K o a next):o.wp P a w next Q:=by
 have F:execOp a.eval o=(do pure (.value (←Instr.makeMap t (r.map a.eval)))):=by grind [execOp]
 obtain⟨x,N,b,q⟩:=h;have f:Sim cx (ρ.set p w.heap.size 0) (s.up [(p,.ob (.mp [] 0))]) a (w.alloc (.map #[] 0)):=hs.new hp (show HO _ _ _ _ (.mp [] 0) from ⟨#[],heap_alloc_new w _,rfl,fun j e H=>by simp at H⟩)
 have u:RR (w.alloc (.map #[] 0)) (s.up [(p,.ob (.mp [] 0))]).live (ρ.set p w.heap.size 0) (.map (some w.heap.size)) (.c (.hd .map p)) := .c _ _ (.hd .map p w.heap.size 0 (by unfold S.live;rw[S.blk_up,if_pos rfl];rfl) (if_pos rfl))
 cases r with
 | none=>
  injection b with b;injection b with m l;subst m l;refine zP F ?_ (hn _ _ _ _ _ q f u);rfl
 | some y=>
  simp only[q3I] at b;split at b
  ·rename_i G e k n E I;injection b with b;injection b with m l;subst m l;obtain⟨d,i,z,A⟩:=hA.at_ (t:=t) (by rw[E];simp)
   have hd:∃G e,d = .map G e:=by have:=A.kd.trans E;cases d<;>simp[q7m] at this;simp_all
   obtain⟨M,O,rfl⟩:=hd;have g:=hs.ev y;rw[I] at g;refine zP F ?_ (hn _ _ _ _ _ q f u);simp[Instr.makeMap,run_underlying A.ud,g.inv_int,asInt,asIntOf,newObj,Sem.run]
  ·cases b
theorem q5M (hA:Ag P T) {t kt e:TypeId} (hk:T.k t = .mp kt e):P.underlying t=some (.map kt e):=by
 obtain⟨d,i,z,b⟩:=hA.at_ (t:=t) (by rw[hk];simp)
 have c:d = .map kt e:=by have:=b.kd.trans hk;cases d<;>simp[q7m] at this;simp_all
 rw[←c];exact b.ud
theorem qtL (hA:Ag P T) {k:TypeId} {kv:Value} (h:plK (T.k k) kv=true):∃d,P.underlying k=some d∧q7m d=T.k k:=by
 obtain⟨d,i,z,b⟩:=hA.at_ (t:=k) (by intro c;rw[c] at h;cases kv<;>cases h)
 exact⟨d,b.ud,b.kd⟩
theorem qdD (hA:Ag P T) {k:TypeId} {kv:Value} {es:List (Value×R×Nat)} {mes:List MapEntry} (h1:plK (T.k k) kv=true) (h2:es.all (fun q=>plK (T.k k) q.1)=true) (hm:mes.map (·.key)=es.map (·.1)) :
  (fnd kv es 0=none→(Instr.findKey k kv mes).run P w = .ok none w)∧∀q,fnd kv es 0=some q→∃m,es[q.1]?=some (kv,q.2)∧mes[q.1]?=some m∧(Instr.findKey k kv mes).run P w = .ok (some (q.1,m.val)) w:=by grind [qtL,qbe,qhI]
theorem qc8 (hA:Ag P T) {k:TypeId} {kv:Value} {b:Bool} (h1:plK (T.k k) kv=true):(Instr.checkKey b 10000 k kv).run P w = .ok () w:=by grind [qtL,qfr]
theorem qj4 (hs:Sim cx ρ s a w) {x:Operand} {es:List (Value×R×Nat)} (h:qad s x=some es) :
  (a.eval x = .map none∧es=[])∨∃(b ck:Nat) (mes:Array MapEntry),a.eval x = .map (some b)∧w.heap[b]?=some (.map mes ck)∧mes.size=es.length∧mes.toList.map (·.key)=es.map (·.1)∧
   ∀(j:Nat) (e:Value×R×Nat),es[j]?=some e→∃m:MapEntry,mes[j]?=some m∧mes.toList[j]?=some m∧m.key=e.1∧RR w s.live ρ m.val e.2.1∧m.born=e.2.2:=by
 have d:=hs.ev x;unfold qad at h;split at h
 ·rename_i c;rw[c] at d;injection h with h;exact .inl ⟨d.inv_nilm,h.symm⟩
 ·rename_i id c;rw[c] at d;obtain⟨b,f,q,i,z⟩:=d.inv_hd;split at h
  ·rename_i u ck l;injection h with h;subst h;have g:=(hs.hp id b f q i).2;rw[l] at g;obtain⟨mes,y,k,r,n⟩:=HO.keys g;exact .inr ⟨b,ck,mes,z,y,k,r,n⟩
  ·cases h
 ·cases h
theorem qoQ (hA:Ag P T) {t:TypeId} {x y:Operand} {ok:Bool} {r:R} (ho:o.op = .lookup t x y ok) (hs:Sim cx ρ s a w) (h:q5N T s t x y ok=some r) (hK:K r s) (hn:JN cx K o a next):o.wp P a w next Q:=by
 have he:execOp a.eval o=(do pure (.value (←Instr.lookup t (a.eval x) (a.eval y) ok))):=by grind [execOp]
 unfold q5N at h;split at h
 ·rename_i k e es kv I O G;split at h
  ·rename_i g;obtain⟨z,Y,h⟩:=qQC.1 h;have M:=R.key_eq (hs.ev y) G;obtain⟨zv,A,F⟩:=qlT (P:=P) (w:=w) (L:=s.live) (ρ:=ρ) hA Y;have f:∀{v r b},RR w s.live ρ v r→RR w s.live ρ (if ok=true then .tuple #[v,.bool b] else v) (tt2 r ok b):=fun {v r b} N=>by
    cases ok with
    | false=>exact N
    | true=>
     refine .tup _ _ rfl (fun j c i=>?_)
     match j,i with
     | 0,i=>simp_all
     | 1,i=>simp only[qQW,qQH,qRn] at i;subst i;exact .c _ _ (.d _ _ (.bool _))
     | j+2,i=>simp at i
   have E:∃v,(Instr.lookup t (a.eval x) (a.eval y) ok).run P w = .ok v w∧RR w s.live ρ v r:=by
    unfold Instr.lookup;rw[M];rcases qj4 hs O with ⟨l,u⟩|⟨b,ck,mes,l,u,h3,V,h5⟩
    ·subst u;injection h with h;subst h;refine⟨_,?_,f F⟩;have n:=(qdD (P:=P) (w:=w) hA (mes:=[]) g.1 g.2 rfl).1 rfl;simp only[Sem.run_bind,run_underlying (q5M hA I),Result.andThen_ok,l,Sem.run_pure,qc8 hA g.1,n,A]
    ·obtain⟨W,f2⟩:=qdD (P:=P) (w:=w) hA g.1 g.2 V;cases n:fnd kv es 0 with
     | none=>
      rw[n] at h;injection h with h;subst h;refine⟨_,?_,f F⟩;simp only[Sem.run_bind,run_underlying (q5M hA I),Result.andThen_ok,l,JV u rfl,Sem.run_pure,qc8 hA g.1,W n,A]
     | some q=>
      rw[n] at h;injection h with h;subst h;obtain⟨m,g1,H,Z⟩:=f2 q n;obtain⟨m',q1,U,-,q4,-⟩:=h5 _ _ g1;rw[U] at H;injection H with H;subst H;refine⟨_,?_,f q4⟩;simp only[Sem.run_bind,run_underlying (q5M hA I),Result.andThen_ok,l,JV u rfl,Sem.run_pure,qc8 hA g.1,Z]
   obtain⟨v,l,u⟩:=E;exact zP he l (hn _ _ ρ _ _ hK hs u)
  ·cases h
 ·cases h
theorem qpl (hA:Ag P T) {t:TypeId} {x:Operand} {r:R} {ts:Array TypeId} (ho:o.op = .call { callee := .builtin .len,args:=#[x],argTypes:=ts }) (hts:ts=#[t]) (hs:Sim cx ρ s a w) (h:qbU T s t x=some r) (hK:K r s) (hn:JN cx K o a next):o.wp P a w next Q:=by
 subst hts;unfold qbU at h;split at h
 ·rename_i m e q i j;injection h with h;subst h;rcases qj4 hs j with ⟨g,f⟩|⟨b,n,k,g,f,l,-⟩
  ·subst f;refine q7D ho ?_ (hn _ _ ρ _ _ hK hs (.c _ _ (.d _ _ (.int _ _))));rw[g];simp[Builtin.len_,run_underlying (q5M hA i),goInt]
  ·refine q7D ho ?_ (hn _ _ ρ _ _ hK hs (.c _ _ (.d _ _ (.int _ _))));rw[g,←l];simp[Builtin.len_,run_underlying (q5M hA i),goInt,JV f rfl]
 ·cases h
theorem qbu (n:Int):∀(es:List (Value×R×Nat)) (mes:List MapEntry) (i:Nat),mes.map (·.born)=es.map (·.2.2)→(mes.findIdx? fun e=>(e.born:Int)==n).map (·+i)=fnb n es i
 | [],mes,i,hm=>by
  have:mes=[]:=by simp_all
  subst this;rfl
 | e::es,mes,i,hm=>by
  cases mes with
  | nil=>cases hm
  | cons m c=>
   simp only[qQU,List.cons.injEq] at hm;have d:=qbu n es c (i+1) hm.2;unfold fnb;rw[List.findIdx?_cons,hm.1];by_cases b:(e.2.2:Int)=n
   ·simp[b]
   ·rw[if_neg b,←d];simp only[beq_iff_eq,b,if_false,Option.map_map]
    congr 1
    grind
theorem qxv (hs:Sim cx ρ s a w) {m:Operand} {id:Nat} (hm:s.ev m = .c (.hd .map id)) {es:List (Value×R×Nat)} {ck:Nat} (hb:s.blk id = .ob (.mp es ck)) :
  ∃(b cap:Nat) (mes:Array MapEntry),s.live id∧ρ id=some (b,cap)∧a.eval m = .map (some b)∧w.heap[b]?=some (.map mes ck)∧mes.size=es.length∧mes.toList.map (·.key)=es.map (·.1)∧
   ∀(j:Nat) (e:Value×R×Nat),es[j]?=some e→∃m:MapEntry,mes[j]?=some m∧mes.toList[j]?=some m∧m.key=e.1∧RR w s.live ρ m.val e.2.1∧m.born=e.2.2:=by
 have h:=hs.ev m;rw[hm] at h;obtain⟨b,cap,g,f,q⟩:=h.inv_hd;have d:=(hs.hp id b cap g f).2;rw[hb] at d;obtain⟨mes,n,i,l,k⟩:=HO.keys d;exact⟨b,cap,mes,g,f,q,n,i,l,k⟩
theorem qeM (hs:Sim cx ρ s a w) {id b cap ck i:Nat} {es:List (Value×R×Nat)} {mes:Array MapEntry} (h1:s.live id) (h2:ρ id=some (b,cap)) (g2:mes.size=es.length)
  (g4:∀(j:Nat) (e:Value×R×Nat),es[j]?=some e→∃m:MapEntry,mes[j]?=some m∧mes.toList[j]?=some m∧m.key=e.1∧RR w s.live ρ m.val e.2.1∧m.born=e.2.2)
  {e':Value×R×Nat} {f:MapEntry→MapEntry} (hf:∀m,mes[i]?=some m→(f m).key=e'.1∧RR w s.live ρ (f m).val e'.2.1∧(f m).born=e'.2.2) :
  Sim cx ρ (s.up [(id,.ob (.mp (es.set i e') ck))]) a (w.putObj b (.map (mes.modify i f) ck)):=by
 refine hs.overO h1 h2 (fun g n=>HO.of n (by simp_all) (fun j e c=>?_))
 have d:j<es.length:=by grind
 obtain⟨m,k,-,q3,q4,q⟩:=g4 j _ (qQz d);by_cases h:i=j
 ·subst h;rw[qRv d] at c;injection c with c;subst c;obtain⟨l,r,u⟩:=hf m k;exact⟨f m,by grind,l,r.stay g,u⟩
 ·rw[qRw h,qQz d] at c;injection c with c;subst c;exact⟨m,by grind,q3,q4.stay g,q⟩
theorem qfV (hs:Sim cx ρ s a w) {id b cap ck:Nat} {es:List (Value×R×Nat)} {mes:Array MapEntry} (h1:s.live id) (h2:ρ id=some (b,cap)) (g2:mes.size=es.length)
  (g4:∀(j:Nat) (e:Value×R×Nat),es[j]?=some e→∃m:MapEntry,mes[j]?=some m∧mes.toList[j]?=some m∧m.key=e.1∧RR w s.live ρ m.val e.2.1∧m.born=e.2.2)
  {kv:Value} {r:R} {v:Value} (hr:RR w s.live ρ v r) :
  Sim cx ρ (s.up [(id,.ob (.mp (es++[(kv,r,ck)]) (ck+1)))]) a (w.putObj b (.map (mes.push ⟨kv,v,ck⟩) (ck+1))):=by
 refine hs.overO h1 h2 (fun d h=>HO.of h (by simp[g2]) (fun j e c=>?_))
 by_cases g:j<es.length
 ·rw[qRb g] at c;obtain⟨m,k,-,q3,q4,i⟩:=g4 j e c;exact⟨m,by grind,q3,q4.stay d,i⟩
 ·have f:=(qQB.1 c).1;simp only[qQE,qQI,qRh] at f;have:j=es.length:=by omega
  subst this;rw[qRa (qQN _),Nat.sub_self] at c;simp only[qQH,qRn] at c;subst c;exact⟨⟨kv,v,ck⟩,by grind,rfl,hr.stay d,rfl⟩
theorem qfl {d:Kd} {k:Value} (h:plK d k=true):(Instr.keyThatStays k k).run P w = .ok k w:=by unfold Instr.keyThatStays;rw[qhx h];rfl
theorem qfu (hA:Ag P T) {t:TypeId} {m k x:Operand} (ho:o.op = .mapUpdate t m k x∨o.op = .insert t m k x) (hs:Sim cx ρ s a w) (h:XO (q66 T s t m k x) K) (hn:JN cx K o a next):o.wp P a w next Q:=by
 have he:execOp a.eval o=(do Instr.mapUpdate t (a.eval m) (a.eval k) (a.eval x);pure .skip):=by grind [execOp]
 obtain⟨r,y,h,O⟩:=h;unfold q66 at h;split at h
 ·rename_i kt e id kv H W j;split at h
  ·rename_i es ck hb;split at h
   ·rename_i d;have E:=R.key_eq (hs.ev k) j;obtain⟨b,aa,ab,F,I,N,n,M,g3,u⟩:=qxv hs W hb;obtain⟨f1,f2⟩:=qdD (P:=P) (w:=w) hA d.1 d.2 g3;have g:∃w',(Instr.mapUpdate t (a.eval m) (a.eval k) (a.eval x)).run P w = .ok () w'∧Sim cx ρ y a w'∧r = .any:=by
     unfold Instr.mapUpdate;rw[E];cases hf:fnd kv es 0 with
     | none=>
      rw[hf] at h;obtain⟨rfl,rfl⟩:R.any=r∧_=y:=by injection h with h;injection h with A z;exact⟨A,z⟩
      refine⟨_,?_,qfV hs F I M u (kv:=kv) (hs.ev x),rfl⟩;simp only[Sem.run_bind,run_underlying (q5M hA H),Result.andThen_ok,N,JV n rfl,qc8 hA d.1,f1 hf,q4N n rfl]
     | some q=>
      rw[hf] at h;obtain⟨rfl,rfl⟩:R.any=r∧_=y:=by injection h with h;injection h with A z;exact⟨A,z⟩
      obtain⟨m0,U,l,q3⟩:=f2 q hf;obtain⟨m1,G,Z,Y,p4,p5⟩:=u _ _ U;rw[Z] at l;injection l with l;subst l;refine⟨_,?_,qeM hs F I M u (i:=q.1) (e':=(kv,s.ev x,q.2.2)) (f:=fun e=>{ e with key:=kv,val:=a.eval x }) (fun m' c=>by rw[G] at c;injection c with c;subst c;exact⟨rfl,hs.ev x,p5⟩),rfl⟩
      simp only[Sem.run_bind,run_underlying (q5M hA H),Result.andThen_ok,N,JV n rfl,qc8 hA d.1,q3,G,Option.map_some,Option.getD_some,Y,qfl d.1,q4N n rfl]
    obtain⟨w',V,r2,rfl⟩:=g;exact qhW he V (hn _ _ ρ _ _ O r2 (.any _))
   ·cases h
  ·cases h
 ·cases h
theorem qKy {L:Nat→Prop} {v u:Value} {r q:R} (h:RR w L ρ v r) (h':RR w L ρ u q):RR w L ρ (.tuple #[v,u]) (.tup [r,q]):=by
 refine .tup _ _ rfl (fun j c b=>?_)
 match j,b with
 | 0,b=>simp_all
 | 1,b=>simp_all
 | j+2,b=>simp at b
theorem qpa (hA:Ag P T) {t:TypeId} {m k:Operand} (ho:o.op = .mapEntry t m k) (hs:Sim cx ρ s a w) (h:XO (qe0 T s t m k) K) (hn:JN cx K o a next):o.wp P a w next Q:=by
 have he:execOp a.eval o=(do pure (.value (←Instr.mapEntry t (a.eval m) (a.eval k)))):=by grind [execOp]
 obtain⟨r,y,h,Y⟩:=h;unfold qe0 at h;split at h
 ·rename_i kt e id kv A hm u;split at h
  ·rename_i es ck hb;split at h
   ·rename_i j;have U:=R.key_eq (hs.ev k) u;obtain⟨z,hz,h⟩:=qQC.1 h;obtain⟨zv,I,n⟩:=qlT (P:=P) (w:=w) (L:=s.live) (ρ:=ρ) hA hz;obtain⟨b,ab,ac,G,M,W,E,V,g3,F⟩:=qxv hs hm hb;obtain⟨f1,f2⟩:=qdD (P:=P) (w:=w) hA j.1 j.2 g3;have g:∀(o:AO) (O:Obj),q8Y w s.live ρ (w.putObj b O) (s.up [(id,.ob o)]).live ρ:=fun o O=>q7M hs G M rfl (by simp) (fun k A=>World.putObj_heap_other A)
    have l:∃v w',(Instr.mapEntry t (a.eval m) (a.eval k)).run P w = .ok v w'∧Sim cx ρ y a w'∧RR w' y.live ρ v r:=by
     unfold Instr.mapEntry;rw[U];cases hf:fnd kv es 0 with
     | none=>
      rw[hf] at h;obtain⟨rfl,rfl⟩:R.tup [z,.c (.d (.int .i64 ck))]=r∧_=y:=by injection h with h;injection h with N H;exact⟨N,H⟩
      refine⟨_,_,?_,qfV hs G M V F (kv:=kv) n,qKy (n.stay (g _ _)) (.c _ _ (.d _ _ (.int _ _)))⟩;simp only[Sem.run_bind,run_underlying (q5M hA A),Result.andThen_ok,W,JV E rfl,qc8 hA j.1,f1 hf,q4N E rfl,I,Sem.run_pure,goInt]
     | some q=>
      rw[hf] at h;obtain⟨rfl,rfl⟩:R.tup [q.2.1,.c (.d (.int .i64 q.2.2))]=r∧_=y:=by injection h with h;injection h with N H;exact⟨N,H⟩
      obtain⟨m0,Z,x,q3⟩:=f2 q hf;obtain⟨m1,p1,p2,p3,p4,p5⟩:=F _ _ Z;rw[p2] at x;injection x with x;subst x;refine⟨_,_,?_,qeM hs G M V F (i:=q.1) (e':=(kv,q.2)) (f:=fun e=>{ e with key:=kv }) (fun m' aa=>by simp_all),qKy (p4.stay (g _ _)) (.c _ _ (.d _ _ (.int _ _)))⟩
      simp only[Sem.run_bind,run_underlying (q5M hA A),Result.andThen_ok,W,JV E rfl,qc8 hA j.1,q3,p1,Option.map_some,Option.getD_some,p3,p5,qfl j.1,q4N E rfl,Sem.run_pure,goInt]
    obtain⟨v,w',r1,r2,r3⟩:=l;exact zP he r1 (hn _ _ ρ _ _ Y r2 r3)
   ·cases h
  ·cases h
 ·cases h
theorem qso (hA:Ag P T) {t:TypeId} {x:Operand} {p:Nat} (hp:¬ s.live p) (ho:o.op = .range t x) (hs:Sim cx ρ s a w) (h:XO (q7b T s p t x) K) (hn:JN cx K o a next):o.wp P a w next Q:=by
 have E:execOp a.eval o=(do pure (.value (←Instr.range t (a.eval x)))):=by grind [execOp]
 obtain⟨r,A,h,u⟩:=h;unfold q7b at h;split at h
 ·rename_i b j l;obtain⟨rfl,rfl⟩:R.c (.hd .iter p)=r∧_=A:=by injection h with h;injection h with m n;exact⟨m,n⟩
  have e:=hs.ev x;rw[l] at e;obtain⟨d,i,z,H⟩:=hA.at_ (t:=t) (by rw[j];simp)
  have hd:=q4s (H.kd.trans j);subst hd;have f:Sim cx (ρ.set p w.heap.size 0) (s.up [(p,.ob (.si b 0))]) a (w.alloc (.stringIter b 0)):=hs.new hp (x := .ob (.si b 0)) (heap_alloc_new w _);refine zP E ?_ (hn _ _ _ _ _ u f (.c _ _ (.hd .iter p w.heap.size 0 (by unfold S.live;rw[S.blk_up,if_pos rfl];rfl) (if_pos rfl))))
  rw[e.inv_str];simp[Instr.range,run_underlying H.ud,newObj,Sem.run,HK.val]
 ·rename_i U M j l;obtain⟨rfl,rfl⟩:R.c (.hd .iter p)=r∧_=A:=by injection h with h;injection h with m n;exact⟨m,n⟩
  have e:=hs.ev x;rw[l] at e;have k:=q4X (w:=w) (ρ:=ρ) (s:=s) (x := .ob (.mi (.c .nilm) 0 [])) hp (.mapIter none 0 #[] 0) 0;have f:Sim cx (ρ.set p w.heap.size 0) (s.up [(p,.ob (.mi (.c .nilm) 0 []))]) a (w.alloc (.mapIter none 0 #[] 0)):=hs.new hp (x := .ob (.mi (.c .nilm) 0 [])) ⟨none,.c _ _ .nilm,heap_alloc_new w _⟩;refine zP E ?_ (hn _ _ _ _ _ u f (.c _ _ (.hd .iter p w.heap.size 0 (by unfold S.live;rw[S.blk_up,if_pos rfl];rfl) (if_pos rfl))))
  rw[e.inv_nilm];rw[run_range_nilMap w t _ _ (q5M hA j)];rfl
 ·rename_i U M id j l;split at h
  ·rename_i N g O;obtain⟨rfl,rfl⟩:R.c (.hd .iter p)=r∧_=A:=by injection h with h;injection h with m n;exact⟨m,n⟩
   have e:=hs.ev x;rw[l] at e;obtain⟨b,q,G,F,W⟩:=e.inv_hd;have I:=(hs.hp id b q G F).2;rw[O] at I;obtain⟨y,V,-⟩:HO w s.live ρ b (.mp N g):=I;have k:=q4X (w:=w) (ρ:=ρ) (s:=s) (x := .ob (.mi (.c (.hd .map id)) g [])) hp (.mapIter (some b) g #[] g) 0;have f:Sim cx (ρ.set p w.heap.size 0) (s.up [(p,.ob (.mi (.c (.hd .map id)) g []))]) a (w.alloc (.mapIter (some b) g #[] g)):=hs.new hp (x := .ob (.mi (.c (.hd .map id)) g [])) ⟨some b,(RR.c _ _ (.hd .map id b q G F):RR w s.live ρ (.map (some b)) _).stay k,heap_alloc_new w _⟩;refine zP E ?_ (hn _ _ _ _ _ u f (.c _ _ (.hd .iter p w.heap.size 0 (by unfold S.live;rw[S.blk_up,if_pos rfl];rfl) (if_pos rfl))))
   rw[W,show HK.val .map b=Value.map (some b) from rfl,run_range_map w t _ _ b y g (q5M hA j) V];rfl
  ·cases h
 ·cases h
theorem qsl {it:Operand} (hs:Sim cx ρ s a w) (h:XO (q9R s it) K):o.wp P a w next Q:=by
 obtain⟨r,x,h,u⟩:=h;unfold q9R at h;split at h
 ·rename_i id i;have j:∀e m c l,s.blk id ≠ .ob (.m1 e m c l):=fun e m c l q=>by have d:=hs.ev it;rw[i] at d;obtain⟨b,f,g,k,y⟩:=d.inv_hd;have n:=(hs.hp id b f g k).2;rw[q] at n;assumption
  simp_all
 ·cases h
theorem qDB {L:Nat→Prop} {ρ:Pl} (v:Value):RR w L ρ v (kR v):=by
 unfold kR;split
 ·exact .c _ _ (.d _ _ (.int _ _))
 ·exact .c _ _ (.d _ _ (.bool _))
 ·exact .c _ _ (.d _ _ (.str _))
 ·exact .any _
theorem qjr {L:Nat→Prop} (x:Nat):∀(es:List (Value×R×Nat)) (mes:List MapEntry),mes.length=es.length→(∀(j:Nat) (e:Value×R×Nat),es[j]?=some e→∃m:MapEntry,mes[j]?=some m∧m.key=e.1∧RR w L ρ m.val e.2.1∧m.born=e.2.2)→∀e,es.find? (fun q=>q.2.2==x)=some e→∃m,mes.find? (·.born==x)=some m∧m.key=e.1∧RR w L ρ m.val e.2.1
 | [],_,_,_,e,h=>by cases h
 | e0::es,mes,hl,hm,e,h=>by
  cases mes with
  | nil=>cases hl
  | cons m ms=>
   obtain⟨m',h1,h2,h3,h4⟩:=hm 0 e0 rfl;injection h1 with h1;subst h1;rw[List.find?_cons] at h ⊢;rw[h4];cases hb:e0.2.2==x with
   | true=>
    simp_all
   | false=>
    rw[hb] at h;exact qjr x es ms (by simp_all) (fun j e b=>hm (j+1) e (by assumption)) e h
theorem qqP {it:Operand} (ho:o.op = .entry it) (hs:Sim cx ρ s a w) (h:XO (qis s it) K) (hn:JN cx K o a next):o.wp P a w next Q:=by
 have he:execOp a.eval o=(do pure (.value (←Instr.entry (a.eval it)))):=by grind [execOp]
 obtain⟨r,s',h,U⟩:=h;unfold qis at h;split at h
 ·rename_i id Y;split at h
  ·rename_i k ck x l hb;split at h
   ·rename_i M c F;split at h
    ·rename_i hc;subst hc;obtain⟨r',H,u⟩:=qQK.1 h;injection u with u g;subst u g;unfold qyC at H;obtain⟨e,u,g⟩:=qQC.1 H;injection g with g;subst g;have n:=hs.ev it;rw[Y] at n;obtain⟨b,z,W,h2,h3⟩:=n.inv_hd;have N:=(hs.hp id b z W h2).2;rw[hb] at N;obtain⟨G,V,Z⟩:HO w s.live ρ b (.mi (.c (.hd .map k)) c (x::l)):=N;obtain⟨y,q,g1,g2,A⟩:=V.inv_hd;obtain rfl:G=some y:=by have A:Value.map G=Value.map (some y):=A;injection A
     have i:=(hs.hp k y q g1 g2).2;rw[F] at i;obtain⟨E,m1,m2,m3,m4⟩:=HO.keys (show HO w s.live ρ y (.mp M c) from i);obtain⟨O,I,f2,f3⟩:=qjr x M E.toList (by assumption) (fun j e d=>by obtain⟨m,-,p2,p3,p4,p5⟩:=m4 j e d;exact⟨m,p2,p3,p4,p5⟩) e u
     have f:((x::l).reverse.toArray).back?=some x:=by simp
     refine zP he (w':=w) (v := .tuple #[O.key,O.val]) ?_ (hn _ _ ρ _ _ U hs ?_)
     ·rw[h3];show(Instr.entry (.pointer (some ⟨b,0,none⟩))).run P w=_;rw[Array.find?_toList] at I;simp only[Instr.entry,Sem.run_bind,JV Z rfl,JV m1 rfl,Result.andThen,f,bne_self_eq_false,Bool.false_eq_true,if_false,I];rfl
     ·refine .tup _ _ rfl (fun j c d=>?_)
      match j,d with
      | 0,d=>simp only[qQH,qRn] at d;subst d;simp_all [qDB]
      | 1,d=>simp_all
      | j+2,d=>simp at d
    ·cases h
   ·cases h
  ·cases h
 ·cases h
theorem qwX {it:Operand} (ho:o.op = .next it true) (hs:Sim cx ρ s a w) (h:XO (qlB s it) K) (hn:JN cx K o a next):o.wp P a w next Q:=by
 have A:execOp a.eval o=(do pure (.value (←Instr.next (a.eval it) true o.type))):=by grind [execOp]
 obtain⟨r,y,h,q⟩:=h;unfold qlB at h;split at h
 ·rename_i id G;split at h
  ·rename_i k pos H;have i:=hs.ev it;rw[G] at i;obtain⟨b,n,x,u,E⟩:=i.inv_hd;have z:=(hs.hp id b n x u).2;rw[H] at z;have g:w.heap[b]?=some (.stringIter k pos):=z;split at h
   ·rename_i f;obtain⟨rfl,rfl⟩:R.tup _=r∧_=y:=by injection h with h;injection h with l m;exact⟨l,m⟩
    refine zP A (w':=w.putObj b (.stringIter k (pos+(Utf8.decode k pos).2))) ?_ (hn _ _ ρ _ _ q (hs.overO x u fun _ F=>F) ?_) (v := .tuple #[.bool true,goInt pos,.int .i32 (Utf8.decode k pos).1])
    ·rw[E];simp[Instr.next,HK.val,JV g rfl,f,q4N g rfl]
    ·refine .tup _ _ rfl (fun j c e=>?_)
     match j,e with
     | 0,e=>simp only[qQH,qRn] at e;subst e;exact .c _ _ (.d _ _ (.bool _))
     | 1,e=>simp only[qQW,qQH,qRn] at e;subst e;exact .c _ _ (.d _ _ (.int _ _))
     | 2,e=>simp only[qQW,qQH,qRn] at e;subst e;exact .c _ _ (.d _ _ (.int _ _))
     | j+3,e=>simp at e
   ·rename_i f;obtain⟨rfl,rfl⟩:R.tup _=r∧_=y:=by injection h with h;injection h with l m;exact⟨l,m⟩
    refine zP A (w':=w) ?_ (hn _ _ ρ _ _ q hs ?_) (v := .tuple #[.bool false])
    ·rw[E];simp[Instr.next,HK.val,JV g rfl,f]
    ·refine .tup _ _ rfl (fun j c e=>?_)
     match j,e with
     | 0,e=>simp only[qQH,qRn] at e;subst e;exact .c _ _ (.d _ _ (.bool _))
     | j+1,e=>simp at e
  ·cases h
 ·cases h
theorem qqL {t:TypeId} {m st x:Operand} (ho:o.op = .entryStore t m st x) (hs:Sim cx ρ s a w) (h:XO (qiJ s m st x) K) (hn:JN cx K o a next):o.wp P a w next Q:=by
 have he:execOp a.eval o=(do Instr.entryStore t (a.eval m) (a.eval st) (a.eval x);pure .skip):=by grind [execOp]
 obtain⟨r,W,h,N⟩:=h;unfold qiJ at h;split at h
 ·rename_i id kk n U q;split at h
  ·rename_i u ck I;obtain⟨i,A,h⟩:=qQC.1 h;obtain⟨e,l,h⟩:=qQC.1 h;obtain⟨rfl,rfl⟩:R.any=r∧_=W:=by injection h with h;injection h with H E;exact⟨H,E⟩
   obtain⟨b,F,d,O,Z,M,z,G,g3,y⟩:=qxv hs U I;have j:=hs.ev st;rw[q] at j;have g:d.toList.map (·.born)=u.map (·.2.2):=by apply List.ext_getElem?;grind
   have k:d.findIdx? (fun e=>(e.born:Int)==n)=some i:=by have:=qbu n u d.toList 0 g;rw[A] at this;simp only[Nat.add_zero,Option.map_id'] at this;rw[←this];exact List.findIdx?_toArray _ d.toList
   obtain⟨m1,Y,p2,V,p4,p5⟩:=y _ _ l;refine qhW he ?_ (hn _ _ ρ _ _ N (qeM hs O Z G y (i:=i) (e':=(e.1,s.ev x,e.2.2)) (f:=fun e=>{ e with val:=a.eval x }) (fun m' c=>by rw[Y] at c;injection c with c;subst c;exact⟨V,hs.ev x,p5⟩)) (.any _))
   unfold Instr.entryStore;simp only[M,Sem.run_bind,Result.andThen_ok,JV z rfl,j.inv_int,asInt,asIntOf,Sem.run_pure,k,q4N z rfl]
  ·cases h
 ·cases h
def qmT (T:Ty) (s:S) (t:TypeId) (x y:Operand):Option (R×S):=
 match T.k t,s.ev x,s.seq y with
 | .sl e,.c (.own id sz off n),some (m,ys)=>match s.blk id with
  | .row e' sz' cs=>
   if sz=T.sz e∧sz'=sz∧T.k e ≠ .other∧ys.all C.known=true∧ys.length=m*sz∧off*sz+n*sz≤cs.length then
    some (.c (.d (.int .i64 ((min m n:Nat):Int))),s.up [(id,.row e' sz' (spl cs (off*sz) (ys.take (min m n*sz))))])
   else none
  | _=>none
 | .sl e,.c (.d (.sl _ 0 _)),some (m,ys)=>if T.k e ≠ .other∧ys.length=m*T.sz e then some (.c (.d (.int .i64 0)),s) else none
 | _,_,_=>none
theorem qe1 {x y:Operand} {ts:Array TypeId} {w':World} {v:Value} (ho:o.op = .call { callee := .builtin .copy,args:=#[x,y],argTypes:=ts }) (hr:(Builtin.copy_ ts o.type #[a.eval x,a.eval y]).run P w = .ok v w') (h:next (a.put o.dst v) w'):o.wp P a w next Q:=by unfold Oper.wp execOp;simp only[ho,resolve,invoke,builtin,Sem.run_bind,Sem.run_pure,Result.andThen_ok,List.map_toArray,qQU,List.map_nil,hr];exact h
theorem qvP (hA:Ag P T) {t:TypeId} {x y:Operand} {ts:Array TypeId} (ho:o.op = .call { callee := .builtin .copy,args:=#[x,y],argTypes:=ts }) (hts:ts[0]?=some t) (hs:Sim cx ρ s a w) (h:XO (qmT T s t x y) K) (hn:JN cx K o a next):o.wp P a w next Q:=by
 obtain⟨r,s',h,hK⟩:=h;unfold qmT at h;split at h
 ·rename_i e id sz E n m G W hx hy;split at h
  ·rename_i e' f V hb;split at h
   ·rename_i hc;obtain⟨c1,c2,c3,c4,c5,c6⟩:=hc;subst c2;obtain⟨rfl,rfl⟩:R.c (.d (.int .i64 ((min m n:Nat):Int)))=r∧_=s':=by injection h with h;injection h with Y h6;exact⟨Y,h6⟩
    obtain⟨d,i,z,ht⟩:=hA.at_ (t:=t) (by rw[W];simp)
    obtain⟨d',i',z',l⟩:=hA.at_ c3;have hd:=q4K (ht.kd.trans W);subst hd;obtain⟨A,k,s1,s2,s3,s4⟩:=qhi hs hy c5;have H:=hs.ev x;rw[hx] at H;obtain⟨h1,h2⟩:=H.inv_own;obtain⟨c,M⟩:∃c,c=min m n:=⟨_,rfl⟩;rw[←M] at hK
    -- what is copied
    obtain⟨q,u1,u2,u3⟩:∃q:List Value,q.length=c*f∧(∀j x,(G.take (c*f))[j]?=some x→RC w s.live ρ (q.getD j undef) x)∧(Builtin.firstCells f c (.slice A m k)).run P w = .ok q.toArray w:=by
     by_cases I:c=0
     ·refine⟨[],by rw[I];simp,fun j x g=>by rw[I] at g;simp at g,?_⟩
      rw[I];cases A with
      | none=>exact run_firstCells_none w _ _ _ _
      | some ad=>exact run_firstCells_some w f 0 ad m k [] (by simp) (fun j v g=>by simp at g)
     ·rcases s4 with s4|⟨b0,o0,s5,s6,s7⟩
      ·omega
      ·have ac:c*f≤m*f:=Nat.mul_le_mul_right _ (by omega)
       obtain⟨q,v1,v2⟩:=collect (Pr:=fun j v x=>w.cell? ⟨b0,o0+j,none⟩=some v∧RC w s.live ρ v x) (G.take (c*f)) 0 (fun j x g=>by
        have Z:j<c*f:=by have:=(qQB.1 g).1;rw[qR0] at this;omega
        rw[qR6 Z] at g;rw[qQV];exact s7 j x g)
       have hl:q.length=c*f:=by rw[v1,qR0];omega
       refine⟨q,hl,fun j x g=>by obtain⟨v,O,-,q2⟩:=v2 j x g;rw[List.getD,O];exact q2,?_⟩
       rw[s5];refine run_firstCells_some w f c _ m k q hl (fun j v g=>?_);have Z:j<(G.take (c*f)).length:=by rw[←v1];exact(qQB.1 g).1
       obtain⟨v',O,q2,-⟩:=v2 j _ (qQz Z);rw[g] at O;injection O with O;subst O;rw[q02];rw[qQV] at q2;exact q2
    have ae:∀u∈q,u.oneCell'=true:=fun u hu=>by
     obtain⟨j,g⟩:=List.getElem?_of_mem hu;have af:j<(G.take (c*f)).length:=by
      have:=(qQB.1 g).1;rw[qR0,c5];have ac:c*f≤m*f:=Nat.mul_le_mul_right _ (by omega)
      omega
     have h3:=u2 j _ (qQz af);rw[List.getD,g] at h3;exact RC.one h3 (qQO.1 c4 _ (List.mem_of_mem_take (qRp af)))
    have N:(G.take (c*f)).length=c*f:=by
     have ac:c*f≤m*f:=Nat.mul_le_mul_right _ (by omega)
     rw[qR0,c5];omega
    rcases h2 with ⟨b,ag,h2,h3,h4,Y⟩|⟨h2,h3,h4,Y⟩
    ·obtain⟨am,hB⟩:=hs.hp id b ag h1 h2;rw[hb] at hB;obtain⟨vs,r1,r2,r3,r5,r6,r7⟩:=hB;have F:c*f≤n*f:=Nat.mul_le_mul_right _ (by omega)
     have U:=q45 (P:=P) (b:=b) (o:=E*f) (t:=e') q w vs 0 r1 (by omega) ae
     rw[Nat.add_zero] at U;obtain⟨f1,f2,f3,f4,f5,f6⟩:=q49 q w b (E*f);have f7:=f6 vs e' r1;have ai:q8Y w s.live ρ (putCells w b (E*f) q) (s.up [(id,.row e' f (spl V (E*f) (G.take (c*f))))]).live ρ:=q7M hs h1 h2 rfl (by omega) f2
     have ab:=qdL (G.take (c*f)) q V vs (E*f) (by rw[u1,N]) u2 r2 (by rw[N];omega) r7
     have hS:=(hs.over (x := .row e' f (spl V (E*f) (G.take (c*f)))) h1 h2 rfl (fun W=>by have:=(hs.pin id W).2;rw[hb] at this;cases this) f1 f2 f3 f4 f5
      ⟨_,f7,by rw[q3g,q5E];exact r2,by rw[q3g];exact r3,r5,r6,fun j c g=>(ab j c g).stay ai⟩ (fun j y d n c hy aa hw=>by
       obtain⟨e1,e2⟩:=qlN (G.take (_*f)) q V vs (E*f) (by rw[u1,N]) (qQO.2 fun x hx=>qQO.1 c4 x (List.mem_of_mem_take hx)) hy aa
       refine⟨y,by rw[hb];exact e1,aa,n,c,?_⟩
       rw[←hw];simp only[World.cell?,r1,f7];exact e2.symm)).1
     refine qe1 ho ?_ (hn _ _ ρ _ _ hK hS (.c _ _ (.d _ _ (.int _ _)))) (v:=goInt c);unfold Builtin.copy_;have F:Nat.min m n=c:=M.symm;simp only[hts,Sem.run_bind,run_underlying ht.ud,Result.andThen_ok,Y,s1,Builtin.lenOf,Sem.run_pure,ZC l.info,l.sz,←c1,F,u3,U,
      List.getElem?_toArray,qQH,qQW]
    ·subst h4 Y;have I:c=0:=by omega
     subst I;have aj:q=[]:=qQQ (by simpa using u1)
     subst aj;have hS:Sim cx ρ (s.up [(id,.row e' f (spl V (0*f) (G.take (0*f))))]) a w:=by
      have ah:spl V (0*f) (G.take (0*f))=V:=by simp[spl]
      rw[ah,←hb];refine hs.ext (fun _=>rfl) (fun j=>?_) rfl (fun j g=>?_)
      ·rw[S.blk_up];split
       ·rename_i he;rw[he]
       ·rfl
      ·have:s.live j:=by unfold S.live at g ⊢;rw[S.blk_up] at g;split at g;(rename_i he;rw[←he];exact g);exact g
       have:=hs.nx j this;show j<max s.nx (id+1);omega
     refine qe1 ho ?_ (hn _ _ ρ _ _ hK hS (.c _ _ (.d _ _ (.int _ _)))) (v:=goInt (0:Nat));unfold Builtin.copy_;have F:Nat.min m 0=0:=Nat.min_zero m;simp only[hts,Sem.run_bind,run_underlying ht.ud,Result.andThen_ok,h3,s1,Builtin.lenOf,Sem.run_pure,ZC l.info,l.sz,←c1,F,u3,
      List.getElem?_toArray,qQH,qQW]
   ·cases h
  ·cases h
 ·rename_i e al an m G W hx hy;split at h
  ·rename_i hc;obtain⟨c3,c5⟩:=hc;obtain⟨rfl,rfl⟩:R.c (.d (.int .i64 0))=r∧s=s':=by injection h with h;injection h with Y h6;exact⟨Y,h6⟩
   obtain⟨d,i,z,ht⟩:=hA.at_ (t:=t) (by rw[W];simp)
   obtain⟨d',i',z',l⟩:=hA.at_ c3;have hd:=q4K (ht.kd.trans W);subst hd;obtain⟨A,k,s1,s2,s3,s4⟩:=qhi hs hy c5;have H:=hs.ev x;rw[hx] at H;obtain⟨A0,ak,O,-⟩:=H.inv_sl;have u3:(Builtin.firstCells (T.sz e) 0 (.slice A m k)).run P w = .ok #[] w:=by
    cases A with
    | none=>exact run_firstCells_none w _ _ _ _
    | some ad=>exact run_firstCells_some w (T.sz e) 0 ad m k [] (by simp) (fun j v g=>by simp at g)
   refine qe1 ho ?_ (hn _ _ ρ _ _ hK hs (.c _ _ (.d _ _ (.int _ _)))) (v:=goInt (0:Nat));unfold Builtin.copy_;have F:Nat.min m 0=0:=Nat.min_zero m;cases A0 with
   | none=>
    simp only[hts,Sem.run_bind,run_underlying ht.ud,Result.andThen_ok,O,s1,Builtin.lenOf,Sem.run_pure,ZC l.info,l.sz,F,u3,List.getElem?_toArray,qQH,qQW]
   | some a0=>
    simp only[hts,Sem.run_bind,run_underlying ht.ud,Result.andThen_ok,O,s1,Builtin.lenOf,Sem.run_pure,ZC l.info,l.sz,F,u3,List.getElem?_toArray,qQH,qQW,storeCells]
  ·cases h
 ·cases h
end
end
noncomputable section
open Go.RowKit
def qm2 (P:Program) (T:Ty) (s:S) (p:Nat) (c:Call) (K:KK):Prop:=
 match c.callee,c.args.toList,c.argTypes.toList with
 | .builtin .len,[x],[t]=>match T.k t with | .mp _ _=>∃r,qbU T s t x=some r∧K r s|_=>qkx T s t x K
 | .builtin .min,[x,y],_=>qkq s x y K
 | .builtin .max,[x,y],_=>ql8 s x y K
 | .builtin .append,[x,y],[t,t']=>t'=t∧q8a T s p t x y K
 | .builtin .copy,[x,y],[t,_]=>XO (qmT T s t x y) K
 | .value f,args,_=>qim P s f args K
 | _,_,_=>False
def ox (P:Program) (T:Ty) (s:S) (p:Nat) (op:Op) (K:KK):Prop:=
 match op with
 | .move x=>K (s.ev x) s
 | .assign x=>K (s.ev x) s
 | .pick c x y=>qcU s c x y K
 | .alloc t=>qdr T s p t K
 | .box t x=>qsH s p t x K
 | .build t parts=>q9e T s t parts.toList K
 | .buildSlice t len parts=>q2y T s p t len parts.toList K
 | .load t x=>qd0 T s t x K
 | .store t x y=>qb5 T s t x y K
 | .nilCheck x=>q38 s x K
 | .binOp op t x y _=>qkX P T s op t x y K
 | .unOp op _ x=>qy0 s op x K
 | .convert t t' x=>qcX T s t t' x K
 | .makeFunc f first captured=>q36 s f first.toList captured.toList K
 | .makeSlice t l c=>qd5 T s p t l c K
 | .slice t x lo hi mx=>qlG T s t x lo hi mx K
 | .fieldAddr t x f=>q3k T s t x f K
 | .field t x f=>q9v T s t x f K
 | .indexAddr t x y=>q29 T s t x y K
 | .index t x y=>q9j T s t x y K
 | .extract x i=>q4z s x i K
 | .call c=>qm2 P T s p c K
 | .makeMap t r=>XO (q3I T s p t r) K
 | .lookup t x y ok=>∃r,q5N T s t x y ok=some r∧K r s
 | .mapUpdate t m k x=>XO (q66 T s t m k x) K
 | .insert t m k x=>XO (q66 T s t m k x) K
 | .mapEntry t m k=>XO (qe0 T s t m k) K
 | .entryStore _ m st x=>XO (qiJ s m st x) K
 | .range t x=>XO (q7b T s p t x) K
 | .entry it=>XO (qis s it) K
 | .next it str=>if str=true then XO (qlB s it) K else XO (q9R s it) K
 | _=>False
section
variable {P:Program} {T:Ty} {cx:Cx} {ρ:Pl} {s:S} {a:Act} {w:World} {o:Oper} {next:Act→World→Prop} {Q:Exit→Act→World→Prop} {K:KK}
theorem toList_eq {α:Type} {xs:Array α} {l:List α} (h:xs.toList=l):xs=l.toArray:=by rw[←h]
theorem qqW (hA:Ag P T) {p:Nat} (hp:¬ s.live p) (hs:Sim cx ρ s a w) (h:ox P T s p o.op K) (hn:JN cx K o a next):o.wp P a w next Q:=by
 cases ho:o.op with
 | move x=>rw[ho] at h;exact qon (.inl ho) hs h hn
 | assign x=>rw[ho] at h;exact qon (.inr ho) hs h hn
 | pick c x y=>rw[ho] at h;exact qxp ho hs h hn
 | alloc t=>rw[ho] at h;exact qrQ hA hp ho hs h hn
 | box t x=>rw[ho] at h;exact qDb hp ho hs h hn
 | build t d=>rw[ho] at h;exact qsj hA ho hs h hn
 | buildSlice t E d=>rw[ho] at h;exact qe5 hA hp ho hs h hn
 | load t x=>rw[ho] at h;exact qx4 hA ho hs h hn
 | store t x y=>rw[ho] at h;exact qsb hA ho hs h hn
 | nilCheck x=>rw[ho] at h;exact qgB ho hs h hn
 | binOp op t x y u=>rw[ho] at h;exact qBM hA ho hs h hn
 | unOp op t x=>rw[ho] at h;exact qGn ho hs h hn
 | convert t u x=>rw[ho] at h;exact qxr hA ho hs h hn
 | makeFunc f first e=>rw[ho] at h;exact qh8 ho hs h hn
 | makeSlice t l c=>rw[ho] at h;exact qup hA hp ho hs h hn
 | slice t x N I G=>rw[ho] at h;exact qoN hA ho hs h hn
 | fieldAddr t x f=>rw[ho] at h;exact qgm hA ho hs h hn
 | field t x f=>rw[ho] at h;exact qqb hA ho hs h hn
 | indexAddr t x y=>rw[ho] at h;exact qgj hA ho hs h hn
 | index t x y=>rw[ho] at h;exact qre hA ho hs h hn
 | extract x i=>rw[ho] at h;exact qkp ho hs h hn
 | call c=>
  rw[ho] at h;obtain⟨j,z,F⟩:=c;simp only[ox,qm2] at h;split at h
  ·rename_i x t b g;obtain rfl:=toList_eq b;obtain rfl:=toList_eq g;split at h
   ·obtain⟨r,h,n⟩:=h;exact qpl hA ho rfl hs h n hn
   ·exact qDD hA ho rfl hs h hn
  ·rename_i x y b;obtain rfl:=toList_eq b;exact qAE ho hs h hn
  ·rename_i x y b;obtain rfl:=toList_eq b;exact qzV ho hs h hn
  ·rename_i x y t u b g;obtain rfl:=toList_eq b;obtain⟨rfl,h⟩:=h;obtain rfl:=toList_eq g;exact qp5 hA hp ho hs h hn
  ·rename_i x y t u b g;obtain rfl:=toList_eq b;obtain rfl:=toList_eq g;exact qvP hA ho rfl hs h hn
  ·exact qvj ho hs h hn
  ·cases h
 | makeMap t r=>rw[ho] at h;exact qko hA hp ho hs h hn
 | lookup t x y H=>rw[ho] at h;obtain⟨r,h,n⟩:=h;exact qoQ hA ho hs h n hn
 | mapUpdate t m k x=>rw[ho] at h;exact qfu hA (.inl ho) hs h hn
 | insert t m k x=>rw[ho] at h;exact qfu hA (.inr ho) hs h hn
 | mapEntry t m k=>rw[ho] at h;exact qpa hA ho hs h hn
 | entryStore t m M x=>rw[ho] at h;exact qqL ho hs h hn
 | range t x=>rw[ho] at h;exact qso hA hp ho hs h hn
 | entry A=>rw[ho] at h;exact qqP ho hs h hn
 | next A q=>
  rw[ho] at h;cases q
  ·exact qsl hs h
  ·exact qwX ho hs h hn
 | _=>rw[ho] at h;exact h.elim
def gd (ops:List Oper) (s:S) (g:Option (Nat×Bool)):Option Bool:=
 match g with
 | none=>some true
 | some (j,want)=>
  match (ops[j]?).bind (·.dst) with
  | some d=>match s.get d with | .c (.d (.bool b))=>some (b==want) | .tup []=>some false|_=>none
  | none=>none
theorem q4g (hs:Sim cx ρ s a w) {ops:Array Oper} {b:Bool} (h:gd ops.toList s o.guard=some b):Region.wanted o (yielded ops a.tmps)=b:=by
 unfold gd at h;unfold Region.wanted;cases hg:o.guard with
 | none=>simp_all
 | some m=>
  obtain⟨j,l⟩:=m;rw[hg] at h;simp only at h ⊢;split at h
  ·rename_i d u;split at h
   ·rename_i n e;injection h with h;have f:=hs.tm d;rw[e] at f;have c:=f.inv_bool;have q:d<a.tmps.size:=by
     rcases Nat.lt_or_ge d a.tmps.size with i|i
     ·exact i
     ·rw[qQD,Array.getElem?_eq_none i] at c;cases c
    have g:(ops[j]?).bind (·.dst)=some d:=by simp_all
    have k:a.tmps[d]?=some (.bool n):=by simp_all
    unfold yielded;simp_all
   ·rename_i e;injection h with h;subst h;have f:=hs.tm d;rw[e] at f;obtain⟨r,c,-,-⟩:=f.inv_tup;have g:(ops[j]?).bind (·.dst)=some d:=by simp_all
    unfold yielded;rw[g];simp only[qQx];rw[qQD] at c;grind
   ·cases h
  ·cases h
theorem qHL (ro:Option Nat) (h:o.wp P a w next Q) (hd:∀c,o.op ≠ .defer c):o.wpIn (FW ro) 0 P a w next Q:=by
 refine⟨fun _ _=>trivial,?_⟩;rw[Oper.semAt_eq _ _ _ hd];unfold Oper.wp at h;have hF:(FW ro).depth.isSome=true→1≤0:=fun h=>by cases h
 generalize (execOp a.eval o).run P w=x at h;cases x with
 | ok x w'=>
  cases x with
  | value v=>exact h
  | skip=>exact h
  | defer d=>exact h
  | enter f args=>exact⟨hF,callsIn_wide.2 (show Calls P f args w' _ from h)⟩
  | row row args=>exact⟨hF,fun c cs _=>let ⟨v,w'',r,s⟩:=(show Rows P row args w' _ from h) c cs;⟨v,w'',r,stepsIn_wide.2 s⟩⟩
  | _=>exact h.elim
 | halt x w'=>
  cases x with
  | panic v=>exact h
  | _=>exact h.elim
theorem qep {ro:Option Nat} {o:Oper}:∀f,o.about P w a.eval=some f→(FW ro).fn f:=fun _ _=>trivial
theorem qHQ {p:Nat} (h:ox P T s p o.op K):∀c,o.op ≠ .defer c:=fun c b=>by rw[b] at h;exact h
theorem qbN (hA:Ag P T) {p:Nat} (hp:¬ s.live p) (hs:Sim cx ρ s a w) (h:ox P T s p o.op K) (hn:JN cx K o a next):o.wpIn (FW cx.ro) 0 P a w next Q:=qHL cx.ro (qqW hA hp hs h hn) (qHQ h)
end
end
noncomputable section
open Go.RowKit
theorem qdK:∀(n:Nat) (l:List Nat),l.Nodup→(∀i∈l,i<n)→l.length≤n
 | 0,l,_,h=>by
  cases l with
  | nil=>exact qQN _
  | cons x l=>exact absurd (h x qQM) (Nat.not_lt_zero _)
 | n+1,l,hd,h=>by
  by_cases hn:n∈l
  ·have h1:=qdK n (l.erase n) (hd.erase n) (fun i b=>by have c:=(hd.mem_erase_iff).1 b;have:=h i c.2;omega)
   rw[List.length_erase_of_mem hn] at h1;omega
  ·have:=qdK n l hd (fun i b=>by have:=h i b;have:i≠n:=fun e=>hn (e ▸ b);omega)
   omega
section any
variable {P:Program} {ops:Array Oper} {Q:Exit→Act→World→Prop} {ro:Option Nat}
def q0Y (o:Oper):List Nat:=(o.after.toList.filter fun e=>Region.binds .any e).map (·.on)
theorem qca {listed:Array Bool} {i:Nat}:i∈Region.ready .any ops listed↔i<ops.size∧listed.getD i true=false∧∃o,ops[i]?=some o∧∀k∈q0Y o,listed.getD k false=true:=by
 unfold Region.ready;rw[qRt,qRu];constructor
 ·rintro⟨c,b⟩;refine⟨c,?_⟩;rw[qQY c] at b;simp only[qR3,Bool.not_eq_true',Option.map_some,Option.getD_some,Array.all_eq_true_iff_forall_mem] at b;refine⟨b.1,ops[i],qQY c,fun k j=>?_⟩;obtain⟨e,d,rfl⟩:=qRi.1 j;obtain⟨f,g⟩:=qRt.1 d;have:=b.2 e (by simpa using f)
  simpa [g] using this
 ·rintro⟨c,b,o,f,g⟩;refine⟨c,?_⟩;rw[f];simp only[qR3,Bool.not_eq_true',Option.map_some,Option.getD_some,Array.all_eq_true_iff_forall_mem];refine⟨b,fun e d=>?_⟩;by_cases h:Region.binds .any e=true
  ·have:=g e.on (qRi.2 ⟨e,qRt.2 ⟨by simpa using d,h⟩,rfl⟩)
   simp[this]
  ·simp[h]
structure Run (ops:Array Oper) (E:List Nat):Prop where
 nodup:E.Nodup
 lt:∀i∈E,i<ops.size
 closed:∀i∈E,∀o,ops[i]?=some o→∀k∈q0Y o,k∈E
theorem qnY (hedge:∀(i:Nat) (o:Oper),ops[i]?=some o→∀k∈q0Y o,k<i) (Inv:List Nat→Act→World→Prop)
  (step:∀E a w (i:Nat) (o:Oper),Run ops E→Inv E a w→i ∉ E→ops[i]?=some o→(∀k∈q0Y o,k∈E)→wpOpIn (FW ro) 0 P ops Q i (fun a' w'=>Inv (i::E) a' w') a w)
  (done:∀E a w,Run ops E→Inv E a w→(∀i,i<ops.size→i∈E)→Q .normal a w) :
  ∀(fuel:Nat) (listed:Array Bool) (E:List Nat) (a:Act) (w:World),listed.size=ops.size→(∀i,i<ops.size→(listed.getD i true=true↔i∈E))→Run ops E→fuel+E.length=ops.size→Inv E a w→wpAnyIn (FW ro) 0 P .any ops Q fuel listed a w:=by
 -- if nothing is ready, all is done
 have F:∀(listed:Array Bool) (E:List Nat),listed.size=ops.size→(∀i,i<ops.size→(listed.getD i true=true↔i∈E))→Region.ready .any ops listed=[]→∀i,i<ops.size→i∈E:=by
  intro listed E M l N i
  induction i using Nat.strongRecOn with
  | _ i U=>
   intro f;rw[←l i f];by_cases h:listed.getD i true=true
   ·exact h
   ·exfalso;have n:i∈Region.ready .any ops listed:=qca.2 ⟨f,by simpa using h,ops[i],qQY f,fun k r=>by
     have H:=hedge i _ (qQY f) k r;have m:k<ops.size:=by omega
     have:=(l k m).2 (U k H m);have u:k<listed.size:=by omega
     simpa [qQD,u] using this⟩
    rw[N] at n;cases n
 intro fuel
 induction fuel with
 | zero=>
  intro listed E a w M l b Z I;have d:∀i,i<ops.size→i∈E:=by
   intro i f;by_cases h:i∈E
   ·exact h
   ·exfalso;have q:(i::E).Nodup:=List.nodup_cons.2 ⟨h,b.nodup⟩;have G:=qdK ops.size (i::E) q (fun x O=>by
     rcases qQT.1 O with rfl|O
     ·exact f
     ·exact b.lt x O)
    simp at G;omega
  refine⟨?_,done E a w b I d⟩;rw[List.eq_nil_iff_forall_not_mem];intro i f;obtain⟨q,z,-⟩:=qca.1 f;have:=(l i q).2 (d i q);rw[this] at z;cases z
 | succ fuel U=>
  intro listed E a w M l b Z I;refine⟨fun N=>done E a w b I (F listed E M l N),fun i f=>?_⟩;obtain⟨q,z,o,G,Y⟩:=qca.1 f;have A:i ∉ E:=fun h=>by rw[(l i q).2 h] at z;cases z
  have c:∀k∈q0Y o,k∈E:=fun k r=>by
   have H:=hedge i o G k r;have m:k<ops.size:=by omega
   rw[←l k m];have:=Y k r;have u:k<listed.size:=by omega
   simpa [qQD,u] using this
  refine wpOpIn_mono (fun a' w' V=>?_) (step E a w i o b I A G c);refine U (listed.setIfInBounds i true) (i::E) a' w' (by simpa using M) (fun j g=>?_) ⟨List.nodup_cons.2 ⟨A,b.nodup⟩,fun j g=>?_,fun j g W e k r=>?_⟩ (by simp;omega) V
  ·by_cases y:i=j
   ·subst y;have:i<listed.size:=by omega
    simp[qQD,this]
   ·have:=l j g;simp only[qQD] at this ⊢;rw[Array.getElem?_setIfInBounds,if_neg y,this,qQT];exact⟨fun h => .inr h,fun h=>h.resolve_left (Ne.symm y)⟩
  ·rcases qQT.1 g with rfl|g
   ·exact q
   ·exact b.lt j g
  ·rcases qQT.1 g with rfl|g
   ·rw[G] at e;injection e with e;subst e;exact qQF _ (c k r)
   ·exact qQF _ (b.closed j g W e k r)
theorem qkZ {id:Nat} (hm:P.follows .mixedOrders=true) (hedge:∀(i:Nat) (o:Oper),ops[i]?=some o→∀k∈q0Y o,k<i) (Inv:List Nat→Act→World→Prop)
  (step:∀E a w (i:Nat) (o:Oper),Run ops E→Inv E a w→i ∉ E→ops[i]?=some o→(∀k∈q0Y o,k∈E)→wpOpIn (FW ro) 0 P ops Q i (fun a' w'=>Inv (i::E) a' w') a w)
  (done:∀E a w,Run ops E→Inv E a w→(∀i,i<ops.size→i∈E)→Q .normal a w) {a:Act} {w:World} (h0:Inv [] a w.drew):(Code.region id ops true).wpIn (FW ro) 0 P Q a w:=by
 refine wpIn_region_any hm ?_;refine qnY hedge Inv step done ops.size _ [] a _ (by simp) (fun i b=>?_) ⟨List.nodup_nil,fun i h=>by simp at h,fun i h=>by simp at h⟩ (by simp) h0
 simp[qQD,b]
end any
end
noncomputable section
open Go.RowKit
def qDZ:Operand→List Nat
 | .tmp t=>[t]
 | _=>[]
def qlY (op:Op):List Nat:=op.operands.toList.flatMap qDZ
def q48:Op→Bool
 | .move _ | .assign _ | .pick .. | .alloc _ | .box .. | .build .. | .buildSlice .. | .load .. | .nilCheck _ | .binOp .. | .unOp .. | .convert .. | .makeFunc .. | .slice .. | .fieldAddr .. | .field .. | .indexAddr .. | .index .. | .extract .. | .makeMap .. | .lookup .. | .range ..=>true
 | .call c=>(match c.callee with | .builtin .len | .builtin .min | .builtin .max=>true|_=>false)
 | _=>false
section
variable {P:Program} {T:Ty} {s t:S} {p nx:Nat} {K:KK}
theorem qzn {x:Operand} (h:∀i∈qDZ x,t.get i=s.get i):t.ev x=s.ev x:=by
 cases x with
 | tmp i=>exact h i (by simp[qDZ])
 | _=>rfl
theorem qaP {pl:Nat→Option (Nat×Nat)}:∀(l:List (Nat×Operand)) (cs:List C),(∀q∈l,t.ev q.2=s.ev q.2)→bld t pl l cs=bld s pl l cs
 | [],_,_=>rfl
 | (i,x)::r,cs,h=>by have hx:=h (i,x) qQM;simp only at hx;unfold bld;rw[hx];have c:∀b,bld t pl r b=bld s pl r b:=fun b=>qaP r b (fun q d=>h q (qQF _ d));simp only[c]
theorem qdG:∀(l:List Operand),(∀x∈l,t.ev x=s.ev x)→l.mapM t.cell1=l.mapM s.cell1
 | [],_=>rfl
 | x::l,h=>by
  have h1:t.cell1 x=s.cell1 x:=by unfold S.cell1;rw[h x qQM]
  rw[List.mapM_cons,List.mapM_cons,h1,qdG l (fun y b=>h y (qQF _ b))]
end
end
noncomputable section
open Go.RowKit
def q8v (ops:List Oper) (i:Nat):Option Nat:=(ops[i]?).bind (·.dst)
def qLd (ops:List Oper):List (List Nat):=ops.foldl (fun acc o=>acc++[(q0Y o++(q0Y o).flatMap fun d=>acc.getD d []).eraseDups]) []
def q58 (ops:List Oper) (o:Oper):List Nat:=qlY o.op++(match o.guard with|some (j,_)=>(q8v ops j).toList|none=>[])
section
variable {P:Program} {T:Ty} {ops:List Oper} {nx:Nat} {s0:S} {K:S→Prop}
theorem S.put_nx (s:S) (d:Option Nat) (r:R):(s.put d r).nx=s.nx:=by cases d<;>rfl
theorem S.put_n (s:S) (d:Option Nat) (r:R):(s.put d r).n=s.n:=by cases d<;>rfl
theorem S.put_blk (s:S) (d:Option Nat) (r:R) (i:Nat):(s.put d r).blk i=s.blk i:=by cases d<;>rfl
theorem S.up_get (s:S) (us:List (Nat×B)) (i:Nat):(s.up us).get i=s.get i:=rfl
theorem S.put_get (s:S) (d:Option Nat) (r:R) (i:Nat):(s.put d r).get i=if d=some i then r else s.get i:=by
 cases d with
 | none=>simp[S.put]
 | some d=>
  show lk ((d,r)::s.tm) i .any=_;unfold lk;simp only[qRn];rfl
end
section
variable {P:Program} {T:Ty} {cx:Cx}
end
end
noncomputable section
open Go.RowKit
inductive CR (s:S) (sel ln:List Nat):C→C→Prop
 | dat (x:C):x.dat=true→CR s sel ln x x
 | any (x:C):CR s sel ln x .any
 | nils (sz:Nat):CR s sel ln .nils (.d (.sl sz 0 []))
 | emp (sz sz':Nat):CR s sel ln (.d (.sl sz 0 [])) (.d (.sl sz' 0 []))
 | ptr (i j o:Nat):sel[j]?=some i→CR s sel ln (.ptr i o) (.ptr j o)
 | hd (k:HK) (i j:Nat):sel[j]?=some i→CR s sel ln (.hd k i) (.hd k j)
 | own (i j sz o n:Nat):sel[j]?=some i→CR s sel ln (.own i sz o n) (.own j sz o n)
 | lend (id sz off n:Nat) (ds:List D):id∈ln→((s.blk id).cells.drop (off*sz)).take (n*sz)=ds.map C.d→ds.length=n*sz→CR s sel ln (.own id sz off n) (.d (.sl sz n ds))
 | lptr (id off:Nat) (ds:List D):id∈ln→(s.blk id).cells.length=ds.length→(∀(j:Nat) (x:C) (y:D),(s.blk id).cells[j]?=some x→ds[j]?=some y→CR s sel ln x (.d y))→CR s sel ln (.ptr id off) (.eptr ds off)
 | fn (f:FuncId) (fs fs' caps caps':List C):fs.length=fs'.length→(∀(j:Nat) (x y:C),fs[j]?=some x→fs'[j]?=some y→CR s sel ln x y)→caps.length=caps'.length→(∀(j:Nat) (x y:C),caps[j]?=some x→caps'[j]?=some y→CR s sel ln x y)→CR s sel ln (.fn f fs caps) (.fn f fs' caps')
inductive AR (s:S) (sel ln:List Nat):R→R→Prop
 | c (x y:C):CR s sel ln x y→AR s sel ln (.c x) (.c y)
 | agg (xs ys:List C):xs.length=ys.length→(∀(j:Nat) (x y:C),xs[j]?=some x→ys[j]?=some y→CR s sel ln x y)→AR s sel ln (.agg xs) (.agg ys)
 | any (r:R):AR s sel ln r .any
inductive ARs (s:S) (sel ln:List Nat):List R→List R→Prop
 | nil:ARs s sel ln [] []
 | cons (r r':R) (l l':List R):AR s sel ln r r'→ARs s sel ln l l'→ARs s sel ln (r::l) (r'::l')
theorem ARs.at_ {s:S} {sel ln:List Nat} {l l':List R} (h:ARs s sel ln l l'):l.length=l'.length∧∀(j:Nat) (r':R),l'[j]?=some r'→∃r,l[j]?=some r∧AR s sel ln r r':=by
 induction h with
 | nil=>simp_all
 | cons r r' l l' c _ b=>
  grind
def PW (R:C→C→Prop) (xs ys:List C):Prop:=xs.length=ys.length∧∀(j:Nat) (x y:C),xs[j]?=some x→ys[j]?=some y→R x y
theorem PW.nil {R:C→C→Prop}:PW R [] []:=⟨rfl,fun j x y h=>by simp at h⟩
theorem PW.cons {R:C→C→Prop} {x y:C} {xs ys:List C} (h:R x y) (h':PW R xs ys):PW R (x::xs) (y::ys):=by
 refine⟨by simp[h'.1],fun j a b d c=>?_⟩
 cases j with
 | zero=>simp_all
 | succ j=>exact h'.2 j a b (by assumption) (by assumption)
theorem PW.dat {s:S} {sel ln:List Nat} {xs:List C} (h:xs.all C.dat=true):PW (CR s sel ln) xs xs:=
 ⟨rfl,fun j x y c b=>by rw[c] at b;injection b with b;subst b;exact .dat x (qQO.1 h x (qQy c))⟩
theorem qwI (ds:List D):(ds.map C.d).all C.dat=true:=by rw[List.all_map,qQO];intro x _;rfl
theorem CR.fn' {s:S} {sel ln:List Nat} {f:FuncId} {fs fs' caps caps':List C} (h:PW (CR s sel ln) fs fs') (h':PW (CR s sel ln) caps caps'):CR s sel ln (.fn f fs caps) (.fn f fs' caps') := .fn f fs fs' caps caps' h.1 h.2 h'.1 h'.2
theorem AR.agg' {s:S} {sel ln:List Nat} {xs ys:List C} (h:PW (CR s sel ln) xs ys):AR s sel ln (.agg xs) (.agg ys) := .agg xs ys h.1 h.2
inductive AOR (s:S) (sel:List Nat):AO→AO→Prop
 | mp (es es':List (Value×R×Nat)) (ck:Nat):es.length=es'.length→(∀(j:Nat) (e e':Value×R×Nat),es[j]?=some e→es'[j]?=some e'→e'.1=e.1∧e'.2.2=e.2.2∧AR s sel [] e.2.1 e'.2.1)→AOR s sel (.mp es ck) (.mp es' ck)
 | lp (f:FuncId) (tm tm':List R) (ps:List Nat) (a b:Code) (st:LoopState) (p:Option Code):tm.length=tm'.length→(∀(j:Nat) (x y:R),tm[j]?=some x→tm'[j]?=some y→AR s sel [] x y)→AOR s sel (.lp f tm ps a b st p) (.lp f tm' ps a b st p)
 | si (t:ByteArray) (p:Nat):AOR s sel (.si t p) (.si t p)
 | df:AOR s sel .df .df
 | mi (m m':R) (c:Nat) (l:List Nat):AR s sel [] m m'→AOR s sel (.mi m c l) (.mi m' c l)
inductive BR (s:S) (sel:List Nat):B→B→Prop
 | blk (t:TypeId) (cs cs':List C):PW (CR s sel []) cs cs'→BR s sel (.blk t cs) (.blk t cs')
 | row (e:TypeId) (sz:Nat) (cs cs':List C):PW (CR s sel []) cs cs'→BR s sel (.row e sz cs) (.row e sz cs')
 | ob (o o':AO):AOR s sel o o'→BR s sel (.ob o) (.ob o')
theorem CR.noow {s:S} {sel ln:List Nat} {x y:C} (h:CR s sel ln x y):y.noow=true:=by
 cases h with
 | dat _ h=>cases x<;>first|rfl|cases h
 | _=>rfl
theorem PW.noow {s:S} {sel ln:List Nat} {xs ys:List C} (h:PW (CR s sel ln) xs ys):ys.all C.noow=true:=qQO.2 fun y hy=>by
 obtain⟨j,hj⟩:=List.getElem?_of_mem hy;have hl:j<xs.length:=by rw[h.1];grind
 exact(h.2 j _ y (qQz hl) hj).noow
theorem BR.noow {s:S} {sel:List Nat} {x y:B} (h:BR s sel x y):y.cells.all C.noow=true:=by
 cases h with
 | blk _ _ _ h=>exact h.noow
 | row _ _ _ _ h=>exact h.noow
 | ob=>rfl
def GR (s:S) (sel:List Nat):List Nat→Nat→List (Nat×B)→Prop
 | [],_,[]=>True
 | i::l,j,(j',b)::G=>j'=j∧BR s sel (s.blk i) b∧GR s sel l (j+1) G
 | _,_,_=>False
theorem GR.at_ {s:S} {sel:List Nat}:∀{l:List Nat} {k:Nat} {G:List (Nat×B)},GR s sel l k G→G.length=l.length∧∀j,(k≤j→∀i,l[j-k]?=some i→BR s sel (s.blk i) (lk G j .dead))∧((j<k∨l.length≤j-k)→lk G j .dead = .dead)
 | [],k,[],_=>⟨rfl,fun j=>⟨fun _ i h=>by simp at h,fun _=>rfl⟩⟩
 | i::l,k,(j',b)::G,h=>by
  obtain⟨rfl,h2,h3⟩:=h;obtain⟨d,f⟩:=GR.at_ h3;refine⟨by simp[d],fun j=>⟨fun e m c=>?_,fun g=>?_⟩⟩
  ·unfold lk;grind
  ·unfold lk;grind
 | [],_,_::_,h=>h.elim
 | _::_,_,[],h=>h.elim
section
variable {cx:Cx} {ρ:Pl} {s:S} {a:Act} {w:World}
theorem CR.rc (hs:Sim cx ρ s a w) {sel ln:List Nat} {L':Nat→Prop} {ρ':Pl} (hsel:∀i j,sel[j]?=some i→s.live i→L' j∧ρ' j=ρ i) (ho:∀b,Occ L' ρ' b→Occ s.live ρ b)
  (hl:∀id,id∈ln→∀b cap,ρ id=some (b,cap)→¬ Occ L' ρ' b) {v:Value} {x y:C} (h:RC w s.live ρ v x) (hc:CR s sel ln x y):RC w L' ρ' v y:=by
 induction hc generalizing v with
 | dat x hx=>exact h.dat' hx ho
 | any x=>exact .any _
 | nils F=>rw[(RR.c v _ h).inv_nils];exact .d _ _ (.nil _ _ _ (qQX _) (fun _=>rfl))
 | emp F W=>
  obtain⟨A,cap,Y,q2,q3,q4,q5,-⟩:=(RR.c v _ h).inv_sl;rw[Y];exact .d _ _ (.nil _ _ _ q3 q4)
 | ptr i j o e=>cases h with|ptr _ _ b cap l m=>exact .ptr j o b cap (hsel i j e l).1 ((hsel i j e l).2.trans m)
 | hd k i j e=>cases h with|hd _ _ b cap l m=>exact .hd k j b cap (hsel i j e l).1 ((hsel i j e l).2.trans m)
 | own i j F o n e=>
  cases h with
  | own _ _ _ _ b cap l m E H=>exact .own j F o n b cap (hsel i j e l).1 ((hsel i j e l).2.trans m) E H
  | own0 _ _ l m=>exact .own0 j F (hsel i j e l).1 ((hsel i j e l).2.trans m)
 | lend id F z n N r O q=>exact .d _ _ (qnH hs h O q ho (hl id r))
 | lptr id z N r q aa ih=>
  cases h with
  | ptr _ _ b cap l m=>
   obtain⟨hb,hB⟩:=hs.hp id b cap l m;obtain⟨l',E,H⟩:=collect (Pr:=fun j v d=>w.cell? ⟨b,j,none⟩=some v∧RD w (Occ L' ρ') v d) N 0 (fun j d e=>by
    rw[qQV];have g:j<(s.blk id).cells.length:=by grind
    obtain⟨v,E,H⟩:=hB.cell (qQz g);have V:=ih j _ d (qQz g) e H;cases V with|d _ _ V=>simp_all)
   have:=RC.eptr (L:=L') (ρ:=ρ') b 0 z N (fun j=>l'.getD j undef) hb (hl id r b cap m) (fun j c e=>by grind) (fun j c e=>by grind)
   simp_all
 | fn f fs U G u l _ E _ I M=>
  cases h with
  | fn _ _ _ us vs g1 g2 g3 Z=>
   refine .fn f U u us vs (g1.trans l) (fun j c e=>?_) (g3.trans E) (fun j c e=>?_)
   ·have g:j<fs.length:=by grind
    exact I j _ c (qQz g) e (g2 j _ (qQz g))
   ·have g:j<G.length:=by grind
    exact M j _ c (qQz g) e (Z j _ (qQz g))
theorem PW.rc {Rl:C→C→Prop} {L':Nat→Prop} {ρ':Pl} {w':World} (hR:∀v x y,RC w s.live ρ v x→Rl x y→RC w' L' ρ' v y) {f:Nat→Value} {xs ys:List C} (h:PW Rl xs ys) (hx:∀j c,xs[j]?=some c→RC w s.live ρ (f j) c):∀j c,ys[j]?=some c→RC w' L' ρ' (f j) c:=fun j c hj=>by
 have hj':j<xs.length:=by rw[h.1];grind
 exact hR _ _ _ (hx j _ (qQz hj')) (h.2 j _ c (qQz hj') hj)
theorem AR.rr {sel ln:List Nat} {L':Nat→Prop} {ρ':Pl} {w':World} (hR:∀v x y,RC w s.live ρ v x→CR s sel ln x y→RC w' L' ρ' v y) {v:Value} {x y:R} (h:RR w s.live ρ v x) (hc:AR s sel ln x y):RR w' L' ρ' v y:=by
 cases hc with
 | c x y hc=>exact .c _ _ (hR _ _ _ h.inv_c hc)
 | agg i j d b=>
  obtain⟨g,e,f,q3⟩:=h.inv_agg;rw[e];exact .agg _ _ (f.trans d) (PW.rc hR ⟨d,b⟩ q3)
 | any r=>exact .any _
theorem HO.rel {sel:List Nat} {L':Nat→Prop} {ρ':Pl} {b:Nat} {o o':AO} (hR:∀v x y,RC w s.live ρ v x→CR s sel [] x y→RC w L' ρ' v y) (h:HO w s.live ρ b o) (hc:AOR s sel o o'):HO w L' ρ' b o':=by
 cases hc with
 | mp W aa ck z u=>
  obtain⟨n,e,g,A⟩:=h;refine⟨n,e,g.trans z,fun j Y k=>?_⟩;have d:j<W.length:=by grind
  obtain⟨V,N,O⟩:=u j _ Y (qQz d) k;obtain⟨G,q,i⟩:=A j _ (qQz d);exact⟨G.trans V.symm,O.rr hR q,i.trans N.symm⟩
 | lp f I Z ps a c st p z u=>
  obtain⟨r,e,g,A,q,i,U,M,H⟩:=h;refine⟨r,e,g,A,q,i,U,M.trans z,fun j x k=>?_⟩;have d:j<I.length:=by grind
  exact(u j _ x (qQz d) k).rr hR (H j _ (qQz d))
 | si t p=>exact h
 | df=>exact h
 | mi m m' c l F=>obtain⟨E,e,g⟩:=h;exact⟨E,F.rr hR e,g⟩
end
def ren (sel:List Nat) (nx j:Nat):Nat:=match sel[j]? with|some i=>i|none=>nx+(j-sel.length)
def C.rn0 (f:Nat→Nat):C→C
 | .ptr i o => .ptr (f i) o
 | .hd k i => .hd k (f i)
 | .own i sz o n => .own (f i) sz o n
 | .fn _ _ _ => .any
 | .ow _ _ _ _ => .any
 | c=>c
def C.rn (f:Nat→Nat):C→C
 | .fn g fs caps => .fn g (fs.map (C.rn0 f)) (caps.map (C.rn0 f))
 | c=>c.rn0 f
def R.rn0 (f:Nat→Nat):R→R
 | .c x => .c (x.rn f)
 | .agg xs => .agg (xs.map (C.rn f))
 | _ => .any
def R.rn (f:Nat→Nat):R→R
 | .tup rs => .tup (rs.map (R.rn0 f))
 | r=>r.rn0 f
def B.rn (f:Nat→Nat):B→B
 | .blk t cs => .blk t (cs.map (C.rn f))
 | .row e sz cs => .row e sz (cs.map (C.rn f))
 | .ob o => .ob (o.mapR (R.rn0 f))
 | .dead => .dead
theorem qDJ (f:Nat→Nat) (ds:List D):(ds.map C.d).map (C.rn f)=ds.map C.d:=by rw[List.map_map];rfl
def C.farL (X:List Nat):C→Bool
 | .ptr i _ => !X.contains i
 | .hd _ i => !X.contains i
 | .own i _ _ _ => !X.contains i
 | .fn _ _ _=>false
 | _=>true
def C.fgL (X:List Nat):C→C
 | .ptr i o=>if X.contains i then .any else .ptr i o
 | .hd k i=>if X.contains i then .any else .hd k i
 | .own i sz off n=>if X.contains i then .any else .own i sz off n
 | .fn f fs caps=>if(fs++caps).all (C.farL X)=true then .fn f fs caps else .any
 | c=>c
def R.fgL (X:List Nat):R→R
 | .c x => .c (x.fgL X)
 | .agg xs => .agg (xs.map (C.fgL X))
 | .tup rs=>if rs.isEmpty=true then .tup [] else .any
 | .any => .any
def B.fgL (X:List Nat):B→B
 | .blk t cs => .blk t (cs.map (C.fgL X))
 | .row e sz cs => .row e sz (cs.map (C.fgL X))
 | .ob o => .ob (o.mapR (R.fgL X))
 | .dead => .dead
def S.fgL (s:S) (X:List Nat):S:=
 match X with
 | []=>s
 | X=>{ s with tm:=s.tm.map fun x=>(x.1,x.2.fgL X),hp:=s.hp.map fun x=>(x.1,x.2.fgL X) }
theorem S.fgL_get (s:S) (X:List Nat) (i:Nat):(s.fgL X).get i=if X=[] then s.get i else(s.get i).fgL X:=by
 cases X with
 | nil=>rfl
 | cons x X=>rw[if_neg (by simp)];exact q1S (R.fgL (x::X)) s.tm i .any rfl
theorem S.fgL_blk (s:S) (X:List Nat) (i:Nat):(s.fgL X).blk i=if X=[] then s.blk i else(s.blk i).fgL X:=by
 cases X with
 | nil=>rfl
 | cons x X=>rw[if_neg (by simp)];exact q1S (B.fgL (x::X)) s.hp i .dead rfl
theorem B.fgL_isBlk (x:B) (X:List Nat):(x.fgL X).isBlk=x.isBlk:=by cases x<;>rfl
theorem B.fgL_live (x:B) (X:List Nat):(x.fgL X).live=x.live:=by cases x<;>rfl
theorem S.fgL_live (s:S) (X:List Nat) (i:Nat):(s.fgL X).live i↔s.live i:=by
 unfold S.live;rw[S.fgL_blk];split
 ·rfl
 ·rw[B.fgL_live]
structure q9Y (X:List Nat) (w:World) (L:Nat→Prop) (ρ:Pl) (w':World) (L':Nat→Prop) (ρ':Pl):Prop where
 size:w.heap.size≤w'.heap.size
 block:∀b,b<w.heap.size→¬ Occ L ρ b→w'.heap[b]?=w.heap[b]?
 occ:∀b,b<w.heap.size→Occ L' ρ' b→Occ L ρ b
 ids:∀i,i ∉ X→L i→L' i∧ρ' i=ρ i
 frm:∀b,ρ.F b→ρ'.F b∧(b<w.heap.size→w'.heap[b]?=w.heap[b]?)
section
variable {X:List Nat} {w w':World} {L L':Nat→Prop} {ρ ρ':Pl}
theorem RD.stayL (hs:q9Y X w L ρ w' L' ρ') {v:Value} {x:D} (h:RD w (Occ L ρ) v x):RD w' (Occ L' ρ') v x:=by
 have d:∀{b o:Nat},b<w.heap.size→¬ Occ L ρ b→w'.cell? ⟨b,o,none⟩=w.cell? ⟨b,o,none⟩:=fun E u=>World.cell?_of_block (w:=w) (hs.block _ E u)
 induction h with
 | int k n=>exact .int k n
 | bool b=>exact .bool b
 | str s=>exact .str s
 | nil A e q i g=>exact .nil A e q i g
 | sl b l n e q y f i g z m r F I G=>
  exact .sl b l n e q y f i g z (qR7 m hs.size) (fun h=>r (hs.occ b m h)) (fun j c H=>(d m r).trans (F j c H)) G
def C.inX (X:List Nat):C→Prop
 | .ptr i _=>i ∉ X
 | .hd _ i=>i ∉ X
 | .own i _ _ _=>i ∉ X
 | .fn _ _ _=>False
 | _=>True
theorem RC.stayL0 (hs:q9Y X w L ρ w' L' ρ') {v:Value} {x:C} (h:RC w L ρ v x) (hx:x.inX X):RC w' L' ρ' v x:=by
 cases h with
 | d v x h=>exact .d v x (h.stayL hs)
 | ptr i q b l g m=>exact .ptr i q b l (hs.ids i hx g).1 ((hs.ids i hx g).2.trans m)
 | hd k i b l g m=>exact .hd k i b l (hs.ids i hx g).1 ((hs.ids i hx g).2.trans m)
 | nilp=>exact .nilp
 | nilf=>exact .nilf
 | nilm=>exact .nilm
 | nils=>exact .nils
 | eptr b o q z f g m y u=>exact .eptr b o q z f (qR7 g hs.size) (fun h=>m (hs.occ b g h)) (fun j c E=>(World.cell?_of_block (w:=w) (hs.block _ g m)).trans (y j c E)) (fun j c E=>(u j c E).stayL hs)
 | own i r q n b l g m y u=>exact .own i r q n b l (hs.ids i hx g).1 ((hs.ids i hx g).2.trans m) y u
 | own0 i r g m=>exact .own0 i r (hs.ids i hx g).1 ((hs.ids i hx g).2.trans m)
 | fn f O G U F g m y u=>exact hx.elim
 | ow e r n b l z F g m y u N H M I=>exact .ow e r n b l z F (hs.frm b g).1 (((hs.frm b g).2 (qbs m)).trans m) y u N H M (fun j c E=>(I j c E).stayL hs)
 | ow0 e r g=>exact .ow0 e r g
 | clp A r n z h=>exact .clp A r n z (h.stayL hs)
 | any v=>exact .any v
theorem RC.stayL (hs:q9Y X w L ρ w' L' ρ') {v:Value} {x:C} (h:RC w L ρ v x):RC w' L' ρ' v (x.fgL X):=by
 cases x with
 | ptr i o=>
  show RC w' L' ρ' v (if X.contains i then C.any else C.ptr i o);split
  ·exact .any _
  ·rename_i m;exact h.stayL0 hs (by simpa [C.inX] using m)
 | hd k i=>
  show RC w' L' ρ' v (if X.contains i then C.any else C.hd k i);split
  ·exact .any _
  ·rename_i m;exact h.stayL0 hs (by simpa [C.inX] using m)
 | own i y g n=>
  show RC w' L' ρ' v (if X.contains i then C.any else C.own i y g n);split
  ·exact .any _
  ·rename_i m;exact h.stayL0 hs (by simpa [C.inX] using m)
 | fn f u b=>
  show RC w' L' ρ' v (if(u++b).all (C.farL X)=true then C.fn f u b else C.any);split
  ·rename_i q;have l:∀c∈u++b,c.inX X:=fun c M=>by
    have:=qQO.1 q c M;cases c with
    | ptr i o=>simpa [C.inX,C.farL] using this
    | hd k i=>simpa [C.inX,C.farL] using this
    | own i y g n=>simpa [C.inX,C.farL] using this
    | fn _ _ _=>simp[C.farL] at this
    | _=>trivial
   cases h with
   | fn _ _ _ I E F A H G=>
    exact .fn f u b I E F (fun j c r=>(A j c r).stayL0 hs (l c (qQJ _ (qQy r)))) H (fun j c r=>(G j c r).stayL0 hs (l c (qQG _ (qQy r))))
  ·exact .any _
 | d x=>exact h.stayL0 hs trivial
 | nilp=>exact h.stayL0 hs trivial
 | nilf=>exact h.stayL0 hs trivial
 | nilm=>exact h.stayL0 hs trivial
 | nils=>exact h.stayL0 hs trivial
 | eptr z g=>exact h.stayL0 hs trivial
 | ow e y n z=>exact h.stayL0 hs trivial
 | clp y n z=>exact h.stayL0 hs trivial
 | any=>exact .any _
theorem qhv {cs:List C} {vs:Nat→Value} (h:∀j c,cs[j]?=some c→RC w L ρ (vs j) c) (hs:q9Y X w L ρ w' L' ρ'):∀j c,(cs.map (C.fgL X))[j]?=some c→RC w' L' ρ' (vs j) c:=fun j c b=>by rw[qQL] at b;obtain⟨x,e,d⟩:=qQK.1 b;exact d ▸ (h j x e).stayL hs
theorem RR.stayL (hs:q9Y X w L ρ w' L' ρ') {v:Value} {x:R} (h:RR w L ρ v x):RR w' L' ρ' v (x.fgL X):=by
 cases h with
 | c v x h=>exact .c _ _ (h.stayL hs)
 | agg d f e b=>exact .agg _ _ (by simp_all) (qhv b hs)
 | tup d f e b=>
  show RR w' L' ρ' (.tuple d) (if f.isEmpty=true then .tup [] else .any);split
  ·rename_i g;rw[List.isEmpty_iff] at g;subst g;exact .tup _ _ e (fun j c h=>by simp at h)
  ·exact .any _
 | any v=>exact .any _
theorem HB.stayL (hs:q9Y X w L ρ w' L' ρ') {b cap:Nat} {x:B} (hb:w'.heap[b]?=w.heap[b]?) (h:HB w L ρ b cap x):HB w' L' ρ' b cap (x.fgL X):=by
 cases x with
 | blk t k=>obtain⟨c,d,g,f⟩:=h;exact⟨c,hb.trans d,by simp_all,qhv f hs⟩
 | row e n k=>obtain⟨c,d,g,f,m,i,j⟩:=h;exact⟨c,hb.trans d,by simp_all,f,m,i,qhv j hs⟩
 | ob o=>exact HO.map hb (fun v x _ l=>l.stayL hs) h
 | dead=>trivial
end
def S.aft (s:S) (sel:List Nat) (k:Nat) (hp:List (Nat×B)):S:=
 (s.fgL (sel.drop k)).up (hp.map (fun x=>(ren sel s.nx x.1,x.2.rn (ren sel s.nx)))++sel.map fun i=>(i,.dead))
theorem qtx {f:Nat→Nat} (hf:∀j j',f j=f j'→j=j') (rest:List (Nat×B)) (j:Nat) (h0:lk rest (f j) .dead = .dead):∀hp:List (Nat×B),lk (hp.map (fun x=>(f x.1,x.2.rn f))++rest) (f j) .dead=(lk hp j .dead).rn f
 | []=>h0
 | (j',x)::hp=>by
  simp only[qQU,qRD,lk];by_cases h:j'=j
  ·simp_all
  ·rw[if_neg h,if_neg (fun e=>h (hf _ _ e))];exact qtx hf rest j h0 hp
theorem qt7 {f:Nat→Nat} {g:B→B} (rest:List (Nat×B)) (i:Nat) (hi:∀j,f j≠i):∀hp:List (Nat×B),lk (hp.map (fun x=>(f x.1,g x.2))++rest) i .dead=lk rest i .dead
 | []=>rfl
 | (j',x)::hp=>by simp only[qQU,qRD,lk];rw[if_neg (hi _)];exact qt7 rest i hi hp
theorem qes (rest:List (Nat×B)) (i:Nat):∀sel:List Nat,lk (sel.map (fun i=>(i,B.dead))++rest) i .dead=if i∈sel then .dead else lk rest i .dead
 | []=>by simp
 | x::sel=>by simp only[qQU,qRD,lk,qes rest i sel,qQT];grind
theorem C.rn_noow (c:C) (f:Nat→Nat):(c.rn f).noow=true:=by cases c<;>rfl
theorem B.rn_noow (x:B) (f:Nat→Nat):(x.rn f).cells.all C.noow=true:=by cases x<;>first|rfl|exact qQO.2 fun c b=>by obtain⟨y,-,rfl⟩:=qRi.1 b;exact C.rn_noow y f
theorem B.fgL_ow {x:B} {X:List Nat} {j:Nat} {y:C} (h:(x.fgL X).cells[j]?=some y) (ho:y.isOw=true):∃z,x.cells[j]?=some z∧z.isOw=true:=by
 have e:(x.fgL X).cells=x.cells.map (C.fgL X):=by cases x<;>rfl
 rw[e,qQL] at h;obtain⟨z,g,c⟩:=qQK.1 h;subst c;refine⟨z,g,?_⟩;cases z with
 | ow e d n l=>rfl
 | ptr i o=>simp only[C.fgL] at ho;split at ho<;>cases ho
 | hd k i=>simp only[C.fgL] at ho;split at ho<;>cases ho
 | own i d o n=>simp only[C.fgL] at ho;split at ho<;>cases ho
 | fn f m b=>simp only[C.fgL] at ho;split at ho<;>cases ho
 | _=>cases ho
theorem B.dead_of {x:B} (h:¬ x.live=true):x = .dead:=by cases x<;>first|rfl|exact absurd rfl h
theorem B.rn_isBlk (x:B) (f:Nat→Nat):(x.rn f).isBlk=x.isBlk:=by cases x<;>rfl
theorem B.rn_live (x:B) (f:Nat→Nat):(x.rn f).live=x.live:=by cases x<;>rfl
theorem q8A:∀(us:List (Nat×B)) (m:Nat),m≤us.foldl (fun m u=>max m (u.1+1)) m∧∀u∈us,u.1<us.foldl (fun m u=>max m (u.1+1)) m
 | [],m=>⟨qQN _,fun u h=>by simp at h⟩
 | x::us,m=>by obtain⟨h1,h2⟩:=q8A us (max m (x.1+1));grind
end
end Go.Proofs.YtofbcijbpfjliaaGreat.Vc
