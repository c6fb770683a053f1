/- Part 2 of a proof. -/
import Derived.Test.YtplfjlcnffcenaaGreatM1
import Derived.RangeFuncIn
import Derived.ChangeSlices
import Derived.OpenShut
import Derived.ChangeSame
import Derived.WideShapes
set_option linter.unusedVariables false
set_option linter.unusedSimpArgs false
set_option linter.defProp false
set_option linter.unusedSectionVars false
set_option linter.unnecessarySimpa false
namespace Go.Proofs.YtplfjlcnffcenaaGreat.Vc
open Go.RowKit
inductive CR (s : S) (sel ln : List Nat) : C → C → Prop
  | dat (x : C) : x.dat = true → CR s sel ln x x
  | any (x : C) : CR s sel ln x .any
  | nils (sz : Nat) : CR s sel ln .nils (.d (.sl sz 0 []))
  | emp (sz sz' : Nat) : CR s sel ln (.d (.sl sz 0 [])) (.d (.sl sz' 0 []))
  | ptr (i j o : Nat) : sel[j]? = some i → CR s sel ln (.ptr i o) (.ptr j o)
  | hd (k : HK) (i j : Nat) : sel[j]? = some i → CR s sel ln (.hd k i) (.hd k j)
  | own (i j sz o n : Nat) : sel[j]? = some i → CR s sel ln (.own i sz o n) (.own j sz o n)
  | lend (id sz off n : Nat) (ds : List D) : id ∈ ln → ((s.blk id).cells.drop (off * sz)).take (n * sz) = ds.map C.d → ds.length = n * sz → CR s sel ln (.own id sz off n) (.d (.sl sz n ds))
  | lptr (id off : Nat) (ds : List D) : id ∈ ln → (s.blk id).cells.length = ds.length → (∀ (j : Nat) (x : C) (y : D), (s.blk id).cells[j]? = some x → ds[j]? = some y → CR s sel ln x (.d y)) → CR s sel ln (.ptr id off) (.eptr ds off)
  | fn (f : FuncId) (fs fs' caps caps' : List C) : fs.length = fs'.length → (∀ (j : Nat) (x y : C), fs[j]? = some x → fs'[j]? = some y → CR s sel ln x y) → caps.length = caps'.length → (∀ (j : Nat) (x y : C), caps[j]? = some x → caps'[j]? = some y → CR s sel ln x y) → CR s sel ln (.fn f fs caps) (.fn f fs' caps')
inductive AR (s : S) (sel ln : List Nat) : R → R → Prop
  | c (x y : C) : CR s sel ln x y → AR s sel ln (.c x) (.c y)
  | agg (xs ys : List C) : xs.length = ys.length → (∀ (j : Nat) (x y : C), xs[j]? = some x → ys[j]? = some y → CR s sel ln x y) → AR s sel ln (.agg xs) (.agg ys)
  | any (r : R) : AR s sel ln r .any
inductive ARs (s : S) (sel ln : List Nat) : List R → List R → Prop
  | nil : ARs s sel ln [] []
  | cons (r r' : R) (l l' : List R) : AR s sel ln r r' → ARs s sel ln l l' → ARs s sel ln (r :: l) (r' :: l')
theorem ARs.at_ {s : S} {sel ln : List Nat} {l l' : List R} (h : ARs s sel ln l l') : l.length = l'.length ∧ ∀ (j : Nat) (r' : R), l'[j]? = some r' → ∃ r, l[j]? = some r ∧ AR s sel ln r r' := by
  induction h with
  | nil => exact ⟨rfl, fun j r h => by simp at h⟩
  | cons r r' l l' h1 _ ih =>
    refine ⟨by simp [ih.1], fun j x hj => ?_⟩
    cases j with
    | zero => simp only [List.getElem?_cons_zero, Option.some.injEq] at hj; subst hj; exact ⟨r, rfl, h1⟩
    | succ j => simpa using ih.2 j x (by simpa using hj)
def PW (R : C → C → Prop) (xs ys : List C) : Prop := xs.length = ys.length ∧ ∀ (j : Nat) (x y : C), xs[j]? = some x → ys[j]? = some y → R x y
theorem PW.nil {R : C → C → Prop} : PW R [] [] := ⟨rfl, fun j x y h => by simp at h⟩
theorem PW.cons {R : C → C → Prop} {x y : C} {xs ys : List C} (h : R x y) (h' : PW R xs ys) : PW R (x :: xs) (y :: ys) := by
  refine ⟨by simp [h'.1], fun j a b ha hb => ?_⟩
  cases j with
  | zero => simp only [List.getElem?_cons_zero, Option.some.injEq] at ha hb; subst ha hb; exact h
  | succ j => exact h'.2 j a b (by simpa using ha) (by simpa using hb)
theorem PW.dat {s : S} {sel ln : List Nat} {xs : List C} (h : xs.all C.dat = true) : PW (CR s sel ln) xs xs :=
  ⟨rfl, fun j x y hx hy => by rw [hx] at hy; injection hy with hy; subst hy; exact .dat x (List.all_eq_true.1 h x (List.mem_of_getElem? hx))⟩
theorem qjq (ds : List D) : (ds.map C.d).all C.dat = true := by
  rw [List.all_map, List.all_eq_true]; intro x _; rfl
theorem CR.fn' {s : S} {sel ln : List Nat} {f : FuncId} {fs fs' caps caps' : List C} (h : PW (CR s sel ln) fs fs') (h' : PW (CR s sel ln) caps caps') : CR s sel ln (.fn f fs caps) (.fn f fs' caps') := .fn f fs fs' caps caps' h.1 h.2 h'.1 h'.2
theorem AR.agg' {s : S} {sel ln : List Nat} {xs ys : List C} (h : PW (CR s sel ln) xs ys) : AR s sel ln (.agg xs) (.agg ys) := .agg xs ys h.1 h.2
inductive AOR (s : S) (sel : List Nat) : AO → AO → Prop
  | mp (es es' : List (Value × R × Nat)) (ck : Nat) : es.length = es'.length → (∀ (j : Nat) (e e' : Value × R × Nat), es[j]? = some e → es'[j]? = some e' → e'.1 = e.1 ∧ e'.2.2 = e.2.2 ∧ AR s sel [] e.2.1 e'.2.1) → AOR s sel (.mp es ck) (.mp es' ck)
  | lp (f : FuncId) (tm tm' : List R) (ps : List Nat) (a b : Code) (st : LoopState) (p : Option Code) : tm.length = tm'.length → (∀ (j : Nat) (x y : R), tm[j]? = some x → tm'[j]? = some y → AR s sel [] x y) → AOR s sel (.lp f tm ps a b st p) (.lp f tm' ps a b st p)
  | si (t : ByteArray) (p : Nat) : AOR s sel (.si t p) (.si t p)
  | df : AOR s sel .df .df
inductive BR (s : S) (sel : List Nat) : B → B → Prop
  | blk (t : TypeId) (cs cs' : List C) : PW (CR s sel []) cs cs' → BR s sel (.blk t cs) (.blk t cs')
  | row (e : TypeId) (sz : Nat) (cs cs' : List C) : PW (CR s sel []) cs cs' → BR s sel (.row e sz cs) (.row e sz cs')
  | ob (o o' : AO) : AOR s sel o o' → BR s sel (.ob o) (.ob o')
def GR (s : S) (sel : List Nat) : List Nat → Nat → List (Nat × B) → Prop
  | [], _, [] => True
  | i :: l, j, (j', b) :: G => j' = j ∧ BR s sel (s.blk i) b ∧ GR s sel l (j + 1) G
  | _, _, _ => False
theorem GR.at_ {s : S} {sel : List Nat} : ∀ {l : List Nat} {k : Nat} {G : List (Nat × B)}, GR s sel l k G → G.length = l.length ∧ ∀ j, (k ≤ j → ∀ i, l[j - k]? = some i → BR s sel (s.blk i) (lk G j .dead)) ∧ ((j < k ∨ l.length ≤ j - k) → lk G j .dead = .dead)
  | [], k, [], _ => ⟨rfl, fun j => ⟨fun _ i h => by simp at h, fun _ => rfl⟩⟩
  | i :: l, k, (j', b) :: G, h => by
    obtain ⟨rfl, h2, h3⟩ := h
    obtain ⟨g1, g2⟩ := GR.at_ h3
    refine ⟨by simp [g1], fun j => ⟨fun hk i' hi' => ?_, fun hj => ?_⟩⟩
    · unfold lk
      by_cases hj : j' = j
      · subst hj; rw [if_pos rfl]
        simp only [Nat.sub_self, List.getElem?_cons_zero, Option.some.injEq] at hi'
        subst hi'; exact h2
      · rw [if_neg hj]
        refine (g2 j).1 (by omega) i' ?_
        rw [show j - j' = (j - (j' + 1)) + 1 by omega, List.getElem?_cons_succ] at hi'
        exact hi'
    · unfold lk
      have hn : ¬ j' = j := by
        intro e; subst e
        rcases hj with h | h
        · omega
        · simp at h
      rw [if_neg hn]
      refine (g2 j).2 ?_
      rcases hj with h | h
      · exact .inl (by omega)
      · right
        simp only [List.length_cons] at h; omega
  | [], _, _ :: _, h => h.elim
  | _ :: _, _, [], h => h.elim
section
variable {cx : Cx} {ρ : Pl} {s : S} {a : Act} {w : World}
theorem CR.rc (hs : Sim cx ρ s a w) {sel ln : List Nat} {L' : Nat → Prop} {ρ' : Pl} (hsel : ∀ i j, sel[j]? = some i → s.live i → L' j ∧ ρ' j = ρ i) (ho : ∀ b, Occ L' ρ' b → Occ s.live ρ b)
    (hl : ∀ id, id ∈ ln → ∀ b cap, ρ id = some (b, cap) → ¬ Occ L' ρ' b) {v : Value} {x y : C} (h : RC w s.live ρ v x) (hc : CR s sel ln x y) : RC w L' ρ' v y := by
  induction hc generalizing v with
  | dat x hx => exact h.dat' hx ho
  | any x => exact .any _
  | nils sz => rw [(RR.c v _ h).inv_nils]; exact .d _ _ (.nil _ _ _ (Nat.zero_le _) (fun _ => rfl))
  | emp sz sz' =>
    obtain ⟨A, cap, q1, q2, q3, q4, q5, -⟩ := (RR.c v _ h).inv_sl
    rw [q1]
    exact .d _ _ (.nil _ _ _ q3 q4)
  | ptr i j o hj => cases h with | ptr _ _ b cap h1 h2 => exact .ptr j o b cap (hsel i j hj h1).1 ((hsel i j hj h1).2.trans h2)
  | hd k i j hj => cases h with | hd _ _ b cap h1 h2 => exact .hd k j b cap (hsel i j hj h1).1 ((hsel i j hj h1).2.trans h2)
  | own i j sz o n hj =>
    cases h with
    | own _ _ _ _ b cap h1 h2 h3 h4 => exact .own j sz o n b cap (hsel i j hj h1).1 ((hsel i j hj h1).2.trans h2) h3 h4
    | own0 _ _ h1 h2 => exact .own0 j sz (hsel i j hj h1).1 ((hsel i j hj h1).2.trans h2)
  | lend id sz off n ds hid hcs hlen => exact .d _ _ (qds hs h hcs hlen ho (hl id hid))
  | lptr id off ds hid hlen hpt ih =>
    cases h with
    | ptr _ _ b cap h1 h2 =>
      obtain ⟨hb, hB⟩ := hs.hp id b cap h1 h2
      obtain ⟨l', h3, h4⟩ := q3Q (Pr := fun j v d => w.cell? ⟨b, j, none⟩ = some v ∧ RD w (Occ L' ρ') v d) ds 0 (fun j d hj => by
        rw [Nat.zero_add]
        have hj' : j < (s.blk id).cells.length := by rw [hlen]; exact (List.getElem?_eq_some_iff.1 hj).1
        obtain ⟨v, h3, h4⟩ := hB.cell (List.getElem?_eq_getElem hj')
        have h5 := ih j _ d (List.getElem?_eq_getElem hj') hj h4
        cases h5 with | d _ _ h5 => exact ⟨v, h3, h5⟩)
      have := RC.eptr (L := L') (ρ := ρ') b 0 off ds (fun j => l'.getD j undef) hb (hl id hid b cap h2) (fun j c hj => by
        obtain ⟨v, h5, h6, -⟩ := h4 j c hj
        rw [Nat.zero_add] at h6 ⊢
        rw [h6, List.getD, h5]; rfl) (fun j c hj => by
        obtain ⟨v, h5, -, h7⟩ := h4 j c hj
        rw [List.getD, h5]; exact h7)
      rw [Nat.zero_add] at this
      exact this
  | fn f fs fs' caps caps' h1 _ h3 _ ih1 ih2 =>
    cases h with
    | fn _ _ _ us vs g1 g2 g3 g4 =>
      refine .fn f fs' caps' us vs (g1.trans h1) (fun j c hj => ?_) (g3.trans h3) (fun j c hj => ?_)
      · have hj' : j < fs.length := by rw [h1]; exact (List.getElem?_eq_some_iff.1 hj).1
        exact ih1 j _ c (List.getElem?_eq_getElem hj') hj (g2 j _ (List.getElem?_eq_getElem hj'))
      · have hj' : j < caps.length := by rw [h3]; exact (List.getElem?_eq_some_iff.1 hj).1
        exact ih2 j _ c (List.getElem?_eq_getElem hj') hj (g4 j _ (List.getElem?_eq_getElem hj'))
theorem PW.rc {Rl : C → C → Prop} {L' : Nat → Prop} {ρ' : Pl} {w' : World} (hR : ∀ v x y, RC w s.live ρ v x → Rl x y → RC w' L' ρ' v y) {f : Nat → Value} {xs ys : List C} (h : PW Rl xs ys) (hx : ∀ j c, xs[j]? = some c → RC w s.live ρ (f j) c) : ∀ j c, ys[j]? = some c → RC w' L' ρ' (f j) c := fun j c hj => by
  have hj' : j < xs.length := by rw [h.1]; exact (List.getElem?_eq_some_iff.1 hj).1
  exact hR _ _ _ (hx j _ (List.getElem?_eq_getElem hj')) (h.2 j _ c (List.getElem?_eq_getElem hj') hj)
theorem AR.rr {sel ln : List Nat} {L' : Nat → Prop} {ρ' : Pl} {w' : World} (hR : ∀ v x y, RC w s.live ρ v x → CR s sel ln x y → RC w' L' ρ' v y) {v : Value} {x y : R} (h : RR w s.live ρ v x) (hc : AR s sel ln x y) : RR w' L' ρ' v y := by
  cases hc with
  | c x y hc => exact .c _ _ (hR _ _ _ h.inv_c hc)
  | agg xs ys hl hxy =>
    obtain ⟨us, q1, q2, q3⟩ := h.inv_agg
    rw [q1]
    exact .agg _ _ (q2.trans hl) (PW.rc hR ⟨hl, hxy⟩ q3)
  | any r => exact .any _
theorem HO.rel {sel : List Nat} {L' : Nat → Prop} {ρ' : Pl} {b : Nat} {o o' : AO} (hR : ∀ v x y, RC w s.live ρ v x → CR s sel [] x y → RC w L' ρ' v y) (h : HO w s.live ρ b o) (hc : AOR s sel o o') : HO w L' ρ' b o' := by
  cases hc with
  | mp es es' ck hl he =>
    obtain ⟨mes, h1, h2, h3⟩ := h
    refine ⟨mes, h1, h2.trans hl, fun j e' hj => ?_⟩
    have hj' : j < es.length := by rw [hl]; exact (List.getElem?_eq_some_iff.1 hj).1
    obtain ⟨g1, g2, g3⟩ := he j _ e' (List.getElem?_eq_getElem hj') hj
    obtain ⟨h4, h5, h6⟩ := h3 j _ (List.getElem?_eq_getElem hj')
    exact ⟨h4.trans g1.symm, g3.rr hR h5, h6.trans g2.symm⟩
  | lp f tm tm' ps a c st p hl he =>
    obtain ⟨r, h1, h2, h3, h5, h6, h7, h8, h9⟩ := h
    refine ⟨r, h1, h2, h3, h5, h6, h7, h8.trans hl, fun j x hj => ?_⟩
    have hj' : j < tm.length := by rw [hl]; exact (List.getElem?_eq_some_iff.1 hj).1
    exact (he j _ x (List.getElem?_eq_getElem hj') hj).rr hR (h9 j _ (List.getElem?_eq_getElem hj'))
  | si t p => exact h
  | df => exact h
end
def ren (sel : List Nat) (nx j : Nat) : Nat := match sel[j]? with | some i => i | none => nx + (j - sel.length)
def C.rn0 (f : Nat → Nat) : C → C
  | .ptr i o => .ptr (f i) o
  | .hd k i => .hd k (f i)
  | .own i sz o n => .own (f i) sz o n
  | .fn _ _ _ => .any
  | c => c
def C.rn (f : Nat → Nat) : C → C
  | .fn g fs caps => .fn g (fs.map (C.rn0 f)) (caps.map (C.rn0 f))
  | c => c.rn0 f
def R.rn0 (f : Nat → Nat) : R → R
  | .c x => .c (x.rn f)
  | .agg xs => .agg (xs.map (C.rn f))
  | _ => .any
def R.rn (f : Nat → Nat) : R → R
  | .tup rs => .tup (rs.map (R.rn0 f))
  | r => r.rn0 f
def B.rn (f : Nat → Nat) : B → B
  | .blk t cs => .blk t (cs.map (C.rn f))
  | .row e sz cs => .row e sz (cs.map (C.rn f))
  | .ob o => .ob (o.mapR (R.rn0 f))
  | .dead => .dead
theorem qpi (f : Nat → Nat) (ds : List D) : (ds.map C.d).map (C.rn f) = ds.map C.d := by rw [List.map_map]; rfl
def C.farL (X : List Nat) : C → Bool
  | .ptr i _ => !X.contains i
  | .hd _ i => !X.contains i
  | .own i _ _ _ => !X.contains i
  | .fn _ _ _ => false
  | _ => true
def C.fgL (X : List Nat) : C → C
  | .ptr i o => if X.contains i then .any else .ptr i o
  | .hd k i => if X.contains i then .any else .hd k i
  | .own i sz off n => if X.contains i then .any else .own i sz off n
  | .fn f fs caps => if (fs ++ caps).all (C.farL X) = true then .fn f fs caps else .any
  | c => c
def R.fgL (X : List Nat) : R → R
  | .c x => .c (x.fgL X)
  | .agg xs => .agg (xs.map (C.fgL X))
  | .tup rs => if rs.isEmpty = true then .tup [] else .any
  | .any => .any
def B.fgL (X : List Nat) : B → B
  | .blk t cs => .blk t (cs.map (C.fgL X))
  | .row e sz cs => .row e sz (cs.map (C.fgL X))
  | .ob o => .ob (o.mapR (R.fgL X))
  | .dead => .dead
def S.fgL (s : S) (X : List Nat) : S :=
  match X with
  | [] => s
  | X => { s with tm := s.tm.map fun x => (x.1, x.2.fgL X), hp := s.hp.map fun x => (x.1, x.2.fgL X) }
theorem S.fgL_get (s : S) (X : List Nat) (i : Nat) : (s.fgL X).get i = if X = [] then s.get i else (s.get i).fgL X := by
  cases X with
  | nil => rfl
  | cons x X => rw [if_neg (by simp)]; exact q5g (R.fgL (x :: X)) s.tm i .any rfl
theorem S.fgL_blk (s : S) (X : List Nat) (i : Nat) : (s.fgL X).blk i = if X = [] then s.blk i else (s.blk i).fgL X := by
  cases X with
  | nil => rfl
  | cons x X => rw [if_neg (by simp)]; exact q5g (B.fgL (x :: X)) s.hp i .dead rfl
theorem B.fgL_isBlk (x : B) (X : List Nat) : (x.fgL X).isBlk = x.isBlk := by cases x <;> rfl
theorem B.fgL_live (x : B) (X : List Nat) : (x.fgL X).live = x.live := by cases x <;> rfl
theorem S.fgL_live (s : S) (X : List Nat) (i : Nat) : (s.fgL X).live i ↔ s.live i := by
  unfold S.live; rw [S.fgL_blk]; split
  · rfl
  · rw [B.fgL_live]
structure q61 (X : List Nat) (w : World) (L : Nat → Prop) (ρ : Pl) (w' : World) (L' : Nat → Prop) (ρ' : Pl) : Prop where
  size : w.heap.size ≤ w'.heap.size
  block : ∀ b, b < w.heap.size → ¬ Occ L ρ b → w'.heap[b]? = w.heap[b]?
  occ : ∀ b, b < w.heap.size → Occ L' ρ' b → Occ L ρ b
  ids : ∀ i, i ∉ X → L i → L' i ∧ ρ' i = ρ i
section
variable {X : List Nat} {w w' : World} {L L' : Nat → Prop} {ρ ρ' : Pl}
theorem RD.stayL (hs : q61 X w L ρ w' L' ρ') {v : Value} {x : D} (h : RD w (Occ L ρ) v x) : RD w' (Occ L' ρ') v x := by
  have hcell : ∀ {b o : Nat}, b < w.heap.size → ¬ Occ L ρ b → w'.cell? ⟨b, o, none⟩ = w.cell? ⟨b, o, none⟩ := fun hb hO => World.cell?_of_block (w := w) (hs.block _ hb hO)
  induction h with
  | int k n => exact .int k n
  | bool b => exact .bool b
  | str s => exact .str s
  | nil A cap sz h1 h2 => exact .nil A cap sz h1 h2
  | sl b off n cap sz cs f h1 h2 h3 h4 h5 h6 h7 ih =>
    exact .sl b off n cap sz cs f h1 h2 h3 (Nat.lt_of_lt_of_le h4 hs.size) (fun h => h5 (hs.occ b h4 h)) (fun j c hj => (hcell h4 h5).trans (h6 j c hj)) ih
def C.inX (X : List Nat) : C → Prop
  | .ptr i _ => i ∉ X
  | .hd _ i => i ∉ X
  | .own i _ _ _ => i ∉ X
  | .fn _ _ _ => False
  | _ => True
theorem RC.stayL0 (hs : q61 X w L ρ w' L' ρ') {v : Value} {x : C} (h : RC w L ρ v x) (hx : x.inX X) : RC w' L' ρ' v x := by
  cases h with
  | d v x h => exact .d v x (h.stayL hs)
  | ptr i off b cap h1 h2 => exact .ptr i off b cap (hs.ids i hx h1).1 ((hs.ids i hx h1).2.trans h2)
  | hd k i b cap h1 h2 => exact .hd k i b cap (hs.ids i hx h1).1 ((hs.ids i hx h1).2.trans h2)
  | nilp => exact .nilp
  | nilf => exact .nilf
  | nilm => exact .nilm
  | nils => exact .nils
  | eptr b o off cs f h1 h2 h3 h4 => exact .eptr b o off cs f (Nat.lt_of_lt_of_le h1 hs.size) (fun h => h2 (hs.occ b h1 h)) (fun j c hj => (World.cell?_of_block (w := w) (hs.block _ h1 h2)).trans (h3 j c hj)) (fun j c hj => (h4 j c hj).stayL hs)
  | own i sz off n b cap h1 h2 h3 h4 => exact .own i sz off n b cap (hs.ids i hx h1).1 ((hs.ids i hx h1).2.trans h2) h3 h4
  | own0 i sz h1 h2 => exact .own0 i sz (hs.ids i hx h1).1 ((hs.ids i hx h1).2.trans h2)
  | fn f fs caps us vs h1 h2 h3 h4 => exact hx.elim
  | any v => exact .any v
theorem RC.stayL (hs : q61 X w L ρ w' L' ρ') {v : Value} {x : C} (h : RC w L ρ v x) : RC w' L' ρ' v (x.fgL X) := by
  cases x with
  | ptr i o =>
    show RC w' L' ρ' v (if X.contains i then C.any else C.ptr i o)
    split
    · exact .any _
    · rename_i hn; exact h.stayL0 hs (by simpa [C.inX] using hn)
  | hd k i =>
    show RC w' L' ρ' v (if X.contains i then C.any else C.hd k i)
    split
    · exact .any _
    · rename_i hn; exact h.stayL0 hs (by simpa [C.inX] using hn)
  | own i sz off n =>
    show RC w' L' ρ' v (if X.contains i then C.any else C.own i sz off n)
    split
    · exact .any _
    · rename_i hn; exact h.stayL0 hs (by simpa [C.inX] using hn)
  | fn f fs caps =>
    show RC w' L' ρ' v (if (fs ++ caps).all (C.farL X) = true then C.fn f fs caps else C.any)
    split
    · rename_i hall
      have hok : ∀ c ∈ fs ++ caps, c.inX X := fun c hc => by
        have := List.all_eq_true.1 hall c hc
        cases c with
        | ptr i o => simpa [C.inX, C.farL] using this
        | hd k i => simpa [C.inX, C.farL] using this
        | own i sz off n => simpa [C.inX, C.farL] using this
        | fn _ _ _ => simp [C.farL] at this
        | _ => trivial
      cases h with
      | fn _ _ _ us vs h1 h2 h3 h4 =>
        exact .fn f fs caps us vs h1 (fun j c hj => (h2 j c hj).stayL0 hs (hok c (List.mem_append_left _ (List.mem_of_getElem? hj)))) h3 (fun j c hj => (h4 j c hj).stayL0 hs (hok c (List.mem_append_right _ (List.mem_of_getElem? hj))))
    · exact .any _
  | d x => exact h.stayL0 hs trivial
  | nilp => exact h.stayL0 hs trivial
  | nilf => exact h.stayL0 hs trivial
  | nilm => exact h.stayL0 hs trivial
  | nils => exact h.stayL0 hs trivial
  | eptr cs off => exact h.stayL0 hs trivial
  | any => exact .any _
theorem q9Q {cs : List C} {vs : Nat → Value} (h : ∀ j c, cs[j]? = some c → RC w L ρ (vs j) c) (hs : q61 X w L ρ w' L' ρ') : ∀ j c, (cs.map (C.fgL X))[j]? = some c → RC w' L' ρ' (vs j) c := fun j c hj => by
  rw [List.getElem?_map] at hj
  obtain ⟨x, h1, h2⟩ := Option.map_eq_some_iff.1 hj
  exact h2 ▸ (h j x h1).stayL hs
theorem RR.stayL (hs : q61 X w L ρ w' L' ρ') {v : Value} {x : R} (h : RR w L ρ v x) : RR w' L' ρ' v (x.fgL X) := by
  cases h with
  | c v x h => exact .c _ _ (h.stayL hs)
  | agg vs xs h1 h2 => exact .agg _ _ (by simpa using h1) (q9Q h2 hs)
  | tup vs xs h1 h2 =>
    show RR w' L' ρ' (.tuple vs) (if xs.isEmpty = true then .tup [] else .any)
    split
    · rename_i he
      rw [List.isEmpty_iff] at he
      subst he
      exact .tup _ _ h1 (fun j c h => by simp at h)
    · exact .any _
  | any v => exact .any _
theorem HB.stayL (hs : q61 X w L ρ w' L' ρ') {b cap : Nat} {x : B} (hb : w'.heap[b]? = w.heap[b]?) (h : HB w L ρ b cap x) : HB w' L' ρ' b cap (x.fgL X) := by
  cases x with
  | blk t cs => obtain ⟨vs, h1, h2, h3⟩ := h; exact ⟨vs, hb.trans h1, by simpa using h2, q9Q h3 hs⟩
  | row e sz cs => obtain ⟨vs, h1, h2, h3, h4, h5, h6⟩ := h; exact ⟨vs, hb.trans h1, by simpa using h2, h3, h4, h5, q9Q h6 hs⟩
  | ob o => exact HO.map hb (fun v x _ hx => hx.stayL hs) h
  | dead => trivial
end
def S.aft (s : S) (sel : List Nat) (k : Nat) (hp : List (Nat × B)) : S :=
  (s.fgL (sel.drop k)).up (hp.map (fun x => (ren sel s.nx x.1, x.2.rn (ren sel s.nx))) ++ sel.map fun i => (i, .dead))
theorem qi0 {f : Nat → Nat} (hf : ∀ j j', f j = f j' → j = j') (rest : List (Nat × B)) (j : Nat) (h0 : lk rest (f j) .dead = .dead) : ∀ hp : List (Nat × B), lk (hp.map (fun x => (f x.1, x.2.rn f)) ++ rest) (f j) .dead = (lk hp j .dead).rn f
  | [] => h0
  | (j', x) :: hp => by
    simp only [List.map_cons, List.cons_append, lk]
    by_cases h : j' = j
    · rw [if_pos h, if_pos (by rw [h])]
    · rw [if_neg h, if_neg (fun e => h (hf _ _ e))]
      exact qi0 hf rest j h0 hp
theorem qip {f : Nat → Nat} {g : B → B} (rest : List (Nat × B)) (i : Nat) (hi : ∀ j, f j ≠ i) : ∀ hp : List (Nat × B), lk (hp.map (fun x => (f x.1, g x.2)) ++ rest) i .dead = lk rest i .dead
  | [] => rfl
  | (j', x) :: hp => by
    simp only [List.map_cons, List.cons_append, lk]
    rw [if_neg (hi _)]
    exact qip rest i hi hp
theorem q7u (rest : List (Nat × B)) (i : Nat) : ∀ sel : List Nat, lk (sel.map (fun i => (i, B.dead)) ++ rest) i .dead = if i ∈ sel then .dead else lk rest i .dead
  | [] => by simp
  | x :: sel => by
    simp only [List.map_cons, List.cons_append, lk, q7u rest i sel, List.mem_cons]
    by_cases h : x = i
    · rw [if_pos h, if_pos (.inl h.symm)]
    · rw [if_neg h]
      by_cases h' : i ∈ sel
      · rw [if_pos h', if_pos (.inr h')]
      · rw [if_neg h', if_neg (by rintro (e | e); exact h e.symm; exact h' e)]
theorem B.dead_of {x : B} (h : ¬ x.live = true) : x = .dead := by cases x <;> first | rfl | exact absurd rfl h
theorem B.rn_isBlk (x : B) (f : Nat → Nat) : (x.rn f).isBlk = x.isBlk := by cases x <;> rfl
theorem B.rn_live (x : B) (f : Nat → Nat) : (x.rn f).live = x.live := by cases x <;> rfl
theorem q2P : ∀ (us : List (Nat × B)) (m : Nat), m ≤ us.foldl (fun m u => max m (u.1 + 1)) m ∧ ∀ u ∈ us, u.1 < us.foldl (fun m u => max m (u.1 + 1)) m
  | [], m => ⟨Nat.le_refl _, fun u h => by simp at h⟩
  | x :: us, m => by
    obtain ⟨h1, h2⟩ := q2P us (max m (x.1 + 1))
    refine ⟨by simp only [List.foldl_cons]; omega, fun u hu => ?_⟩
    simp only [List.foldl_cons]
    rcases List.mem_cons.1 hu with rfl | hu
    · omega
    · exact h2 u hu
end Go.Proofs.YtplfjlcnffcenaaGreat.Vc
namespace Go.Proofs.YtplfjlcnffcenaaGreat.Vc
open Go.RowKit
def C.scl0 : C → Bool
  | .d (.sl _ _ _) => false
  | .eptr _ _ => false
  | .fn _ _ _ => false
  | _ => true
def C.scl : C → Bool
  | .fn _ fs caps => fs.all C.scl0 && caps.all C.scl0
  | c => c.scl0
def R.scl0 : R → Bool
  | .c x => x.scl
  | .agg xs => xs.all C.scl
  | _ => true
def R.scl : R → Bool
  | .tup rs => rs.all R.scl0
  | r => r.scl0
def B.scl : B → Bool
  | .blk _ cs => cs.all C.scl
  | .row _ _ cs => cs.all C.scl
  | .ob o => o.Rs.all R.scl0
  | .dead => true
def okr (ln : List Nat) (r : R) (hp : List (Nat × B)) : Prop := ln = [] ∨ (r.scl = true ∧ hp.all (fun x => x.2.scl) = true)
section
variable {w : World} {L L' : Nat → Prop} {ρ ρ' : Pl} {f : Nat → Nat} {p : Prop}
theorem RD.scl {v : Value} {x : D} (h : RD w (Occ L ρ) v x) (hx : (C.d x).scl0 = true) : RD w (Occ L' ρ') v x := by
  cases h with
  | int k n => exact .int k n
  | bool b => exact .bool b
  | str s => exact .str s
  | _ => cases hx
theorem RC.rn0 (hid : ∀ j, L j → L' (f j) ∧ ρ' (f j) = ρ j) (ho : p → ∀ b, Occ L' ρ' b → Occ L ρ b) {v : Value} {x : C} (h : RC w L ρ v x) (hx : p ∨ x.scl0 = true) : RC w L' ρ' v (x.rn0 f) := by
  cases h with
  | d v x h =>
    rcases hx with hp | hx
    · exact .d _ _ (h.occ (ho hp))
    · exact .d _ _ (h.scl hx)
  | ptr i o b cap h1 h2 => exact .ptr (f i) o b cap (hid i h1).1 ((hid i h1).2.trans h2)
  | hd k i b cap h1 h2 => exact .hd k (f i) b cap (hid i h1).1 ((hid i h1).2.trans h2)
  | nilp => exact .nilp
  | nilf => exact .nilf
  | nilm => exact .nilm
  | nils => exact .nils
  | eptr b o off cs g h1 h2 h3 h4 =>
    rcases hx with hp | hx
    · exact .eptr b o off cs g h1 (fun h => h2 (ho hp b h)) h3 (fun j c hj => (h4 j c hj).occ (ho hp))
    · cases hx
  | own i sz o n b cap h1 h2 h3 h4 => exact .own (f i) sz o n b cap (hid i h1).1 ((hid i h1).2.trans h2) h3 h4
  | own0 i sz h1 h2 => exact .own0 (f i) sz (hid i h1).1 ((hid i h1).2.trans h2)
  | fn g fs caps us vs h1 h2 h3 h4 => exact .any _
  | any v => exact .any _
theorem RC.rn (hid : ∀ j, L j → L' (f j) ∧ ρ' (f j) = ρ j) (ho : p → ∀ b, Occ L' ρ' b → Occ L ρ b) {v : Value} {x : C} (h : RC w L ρ v x) (hx : p ∨ x.scl = true) : RC w L' ρ' v (x.rn f) := by
  cases x with
  | fn g fs caps =>
    cases h with
    | fn _ _ _ us vs h1 h2 h3 h4 =>
      have hx' : p ∨ (fs.all C.scl0 = true ∧ caps.all C.scl0 = true) := hx.imp id fun h => (Bool.and_eq_true _ _).mp h
      refine .fn g _ _ us vs (by simpa using h1) (fun j c hj => ?_) (by simpa using h3) (fun j c hj => ?_)
      · rw [List.getElem?_map] at hj
        obtain ⟨y, g1, g2⟩ := Option.map_eq_some_iff.1 hj
        exact g2 ▸ (h2 j y g1).rn0 hid ho (hx'.imp id fun h => List.all_eq_true.1 h.1 y (List.mem_of_getElem? g1))
      · rw [List.getElem?_map] at hj
        obtain ⟨y, g1, g2⟩ := Option.map_eq_some_iff.1 hj
        exact g2 ▸ (h4 j y g1).rn0 hid ho (hx'.imp id fun h => List.all_eq_true.1 h.2 y (List.mem_of_getElem? g1))
  | _ => exact h.rn0 hid ho hx
theorem qdP (hid : ∀ j, L j → L' (f j) ∧ ρ' (f j) = ρ j) (ho : p → ∀ b, Occ L' ρ' b → Occ L ρ b) {vs : Nat → Value} {cs : List C} (h : ∀ j c, cs[j]? = some c → RC w L ρ (vs j) c) (hx : p ∨ cs.all C.scl = true) : ∀ j c, (cs.map (C.rn f))[j]? = some c → RC w L' ρ' (vs j) c := fun j c hj => by
  rw [List.getElem?_map] at hj
  obtain ⟨y, g1, g2⟩ := Option.map_eq_some_iff.1 hj
  exact g2 ▸ (h j y g1).rn hid ho (hx.imp id fun h => List.all_eq_true.1 h y (List.mem_of_getElem? g1))
theorem RR.rn0 (hid : ∀ j, L j → L' (f j) ∧ ρ' (f j) = ρ j) (ho : p → ∀ b, Occ L' ρ' b → Occ L ρ b) {v : Value} {x : R} (h : RR w L ρ v x) (hx : p ∨ x.scl0 = true) : RR w L' ρ' v (x.rn0 f) := by
  cases h with
  | c v x h => exact .c _ _ (h.rn hid ho hx)
  | agg vs xs h1 h2 => exact .agg _ _ (by simpa using h1) (qdP hid ho h2 hx)
  | tup vs xs h1 h2 => exact .any _
  | any v => exact .any _
theorem RR.rn (hid : ∀ j, L j → L' (f j) ∧ ρ' (f j) = ρ j) (ho : p → ∀ b, Occ L' ρ' b → Occ L ρ b) {v : Value} {x : R} (h : RR w L ρ v x) (hx : p ∨ x.scl = true) : RR w L' ρ' v (x.rn f) := by
  cases x with
  | tup xs =>
    cases h with
    | tup vs _ h1 h2 =>
      refine .tup _ _ (by simpa using h1) (fun j c hj => ?_)
      rw [List.getElem?_map] at hj
      obtain ⟨y, g1, g2⟩ := Option.map_eq_some_iff.1 hj
      exact g2 ▸ (h2 j y g1).rn0 hid ho (hx.imp id fun h => List.all_eq_true.1 (show xs.all R.scl0 = true from h) y (List.mem_of_getElem? g1))
  | _ => exact h.rn0 hid ho hx
theorem HB.rn (hid : ∀ j, L j → L' (f j) ∧ ρ' (f j) = ρ j) (ho : p → ∀ b, Occ L' ρ' b → Occ L ρ b) {b cap : Nat} {x : B} (h : HB w L ρ b cap x) (hx : p ∨ x.scl = true) : HB w L' ρ' b cap (x.rn f) := by
  cases x with
  | blk t cs => obtain ⟨vs, h1, h2, h3⟩ := h; exact ⟨vs, h1, by simpa using h2, qdP hid ho h3 hx⟩
  | row e sz cs => obtain ⟨vs, h1, h2, h3, h4, h5, h6⟩ := h; exact ⟨vs, h1, by simpa using h2, h3, h4, h5, qdP hid ho h6 hx⟩
  | ob o => exact HO.map rfl (fun v x hm hr => hr.rn0 hid ho (hx.imp id fun h => List.all_eq_true.1 h x hm)) h
  | dead => trivial
end
section
variable {P : Program} {cx : Cx} {ρ : Pl} {s : S} {a : Act} {w : World} {K : KK}
theorem HB.sel (hs : Sim cx ρ s a w) {sel : List Nat} {L' : Nat → Prop} {ρ' : Pl} (hsel : ∀ i j, sel[j]? = some i → s.live i → L' j ∧ ρ' j = ρ i) (ho : ∀ b, Occ L' ρ' b → Occ s.live ρ b) {b cap : Nat} {x y : B} (h : HB w s.live ρ b cap x) (hx : BR s sel x y) : HB w L' ρ' b cap y := by
  have hR : ∀ v x y, RC w s.live ρ v x → CR s sel [] x y → RC w L' ρ' v y := fun v x y h hc => hc.rc hs hsel ho (fun id hid => by simp at hid) h
  cases hx with
  | blk t cs cs' hp => obtain ⟨vs, h1, h2, h3⟩ := h; exact ⟨vs, h1, h2.trans hp.1, hp.rc hR h3⟩
  | row e sz cs cs' hp => obtain ⟨vs, h1, h2, h3, h4, h5, h6⟩ := h; exact ⟨vs, h1, hp.1 ▸ h2, h3, h4, h5, hp.rc hR h6⟩
  | ob o o' hp => exact HO.rel hR h hp
theorem Sim.hand (hs : Sim cx ρ s a w) {G : List (Nat × B)} {k : Nat} (sel ln : List Nat) (ro : Option Nat) (hG : GR s sel sel 0 G)
    (hsel : sel.all (fun i => (s.blk i).live) = true) (hnd : sel.Nodup) (hln : ln.all (fun i => (s.blk i).live && !sel.contains i) = true) (hk : k ≤ G.length) (hpk : ∀ j, j < G.length → (lk G j .dead).isBlk = decide (j < k)) :
    ∃ (O : Nat → Prop) (ρc : Pl), Sim ⟨O, w, ρc, k, ro⟩ ρc (Zt G G.length) q6d w ∧ (∀ vs rs rs', RRs w s.live ρ vs rs → ARs s sel ln rs rs' → RRs w (Zt G G.length).live ρc vs rs') ∧ (∀ i j, sel[j]? = some i → ρc j = ρ i) ∧
      ∀ w' r hp' nx' ρ' v, Sim ⟨O, w, ρc, k, ro⟩ ρ' (Zt hp' nx') q6d w' → okr ln r hp' → RR w' (Zt hp' nx').live ρ' v r → ∃ ρ2, Sim cx ρ2 (s.aft sel k hp') a w' ∧ RR w' (s.aft sel k hp').live ρ2 v (r.rn (ren sel s.nx)) := by
  obtain ⟨hGl, hGat⟩ := hG.at_
  have hsl : ∀ i, i ∈ sel → s.live i := fun i hi => List.all_eq_true.1 hsel i hi
  have hll : ∀ i, i ∈ ln → s.live i ∧ i ∉ sel := fun i hi => by
    have := List.all_eq_true.1 hln i hi
    simp only [Bool.and_eq_true, Bool.not_eq_true', List.contains_eq_mem, decide_eq_false_iff_not] at this
    exact this
  have hsm : ∀ {i j : Nat}, sel[j]? = some i → i ∈ sel := fun hj => List.mem_of_getElem? hj
  obtain ⟨F, hF⟩ : ∃ F : Nat → Prop, F = fun b => ρ.F b ∨ ∃ i cap, s.live i ∧ i ∉ ln ∧ i ∉ sel ∧ ρ i = some (b, cap) := ⟨_, rfl⟩
  have hFo : ∀ b, F b → Occ s.live ρ b := fun b hb => by
    rw [hF] at hb
    rcases hb with hb | ⟨i, cap, h1, -, -, h2⟩
    · exact .inl hb
    · exact .inr ⟨i, cap, h1, h2⟩
  have hoF : ∀ b i cap, s.live i → ρ i = some (b, cap) → (i ∈ sel ∨ i ∈ ln) → ¬ F b := fun b i cap h1 h2 h3 hb => by
    rw [hF] at hb
    rcases hb with hb | ⟨i', c, h4, h5, h6, h7⟩
    · rcases hs.out i b cap h1 h2 with h8 | h8
      · exact hs.sep b h8 hb
      · have := hs.oldF b hb; omega
    · have := hs.inj i' i b c cap h4 h1 h7 h2
      subst this
      rcases h3 with h3 | h3
      · exact h6 h3
      · exact h5 h3
  obtain ⟨ρc, hρc⟩ : ∃ ρc : Pl, ρc = ⟨fun j => (sel[j]?).bind ρ.at_, F⟩ := ⟨_, rfl⟩
  have hρcF : ρc.F = F := by rw [hρc]
  have hρcs : ∀ {i j : Nat}, sel[j]? = some i → ρc j = ρ i := fun {i j} hj => by
    rw [hρc]; show (sel[j]?).bind ρ.at_ = ρ i; rw [hj]; rfl
  obtain ⟨O, hO⟩ : ∃ O : Nat → Prop, O = fun b => ∃ i cap, i ∈ sel ∧ ρ i = some (b, cap) := ⟨_, rfl⟩
  let Lc : Nat → Prop := (Zt G G.length).live
  have hLc : ∀ {i j : Nat}, sel[j]? = some i → Lc j := fun {i j} hj => by
    have h1 := (hGat j).1 (Nat.zero_le _) i (by rw [Nat.sub_zero]; exact hj)
    have h2 := hsl i (hsm hj)
    unfold S.live at h2
    show (lk G j .dead).live = true
    revert h1 h2
    generalize s.blk i = x
    generalize lk G j .dead = y
    intro h1 h2
    cases h1 <;> rfl
  have hLc' : ∀ j, Lc j → ∃ i, sel[j]? = some i := fun j hj => by
    rcases Nat.lt_or_ge j sel.length with h1 | h1
    · exact ⟨_, List.getElem?_eq_getElem h1⟩
    · have h2 := (hGat j).2 (.inr (by omega))
      have h3 : (lk G j .dead).live = true := hj
      rw [h2] at h3; cases h3
  have hocc : ∀ b, Occ Lc ρc b → Occ s.live ρ b := fun b hb => by
    rcases hb with hb | ⟨j, c, h1, h2⟩
    · exact hFo b (hρcF ▸ hb)
    · obtain ⟨i, hi⟩ := hLc' j h1
      exact .inr ⟨i, c, hsl i (hsm hi), (hρcs hi).symm.trans h2⟩
  have hsel' : ∀ i j, sel[j]? = some i → s.live i → Lc j ∧ ρc j = ρ i := fun i j hj _ => ⟨hLc hj, hρcs hj⟩
  have hlo : ∀ id, id ∈ ln → ∀ b cap, ρ id = some (b, cap) → ¬ Occ Lc ρc b := fun id hid b cap hr hb => by
    rcases hb with hb | ⟨j, c, h1, h2⟩
    · exact hoF b id cap (hll id hid).1 hr (.inr hid) (hρcF ▸ hb)
    · obtain ⟨i, hi⟩ := hLc' j h1
      rw [hρcs hi] at h2
      have := hs.inj i id b c cap (hsl i (hsm hi)) (hll id hid).1 h2 hr
      subst this
      exact (hll _ hid).2 (hsm hi)
  let cxc : Cx := ⟨O, w, ρc, k, ro⟩
  have hsc : Sim cxc ρc (Zt G G.length) q6d w := by
    refine ⟨Hd.none, rfl, fun i => .any _, fun j b c hj hr => ?_, fun j hj hr => ?_, fun j b c hj hr => ?_, fun j j' b c c' hj hj' hrj hrj' => ?_, fun j hj => ?_, qij.refl _ _, fun b hb => ?_, fun j hj => ⟨rfl, ?_⟩, rfl, fun b hb => ?_⟩
    · obtain ⟨i, hi⟩ := hLc' j hj
      rw [hρcs hi] at hr
      obtain ⟨h1, h2⟩ := hs.hp i b c (hsl i (hsm hi)) hr
      exact ⟨h1, h2.sel hs hsel' hocc ((hGat j).1 (Nat.zero_le _) i (by rw [Nat.sub_zero]; exact hi))⟩
    · obtain ⟨i, hi⟩ := hLc' j hj
      rw [hρcs hi] at hr
      obtain ⟨e, sz, h1⟩ := hs.hp0 i (hsl i (hsm hi)) hr
      have h2 := (hGat j).1 (Nat.zero_le _) i (by rw [Nat.sub_zero]; exact hi)
      rw [h1] at h2
      show ∃ e sz, lk G j .dead = _
      generalize lk G j .dead = y at h2
      cases h2 with
      | row _ _ _ cs' hp =>
        have : cs' = [] := List.eq_nil_of_length_eq_zero (by rw [← hp.1]; rfl)
        exact ⟨e, sz, by rw [this]⟩
    · obtain ⟨i, hi⟩ := hLc' j hj
      rw [hρcs hi] at hr
      exact .inl (by show O b; rw [hO]; exact ⟨i, c, hsm hi, hr⟩)
    · obtain ⟨i, hi⟩ := hLc' j hj
      obtain ⟨i', hi'⟩ := hLc' j' hj'
      rw [hρcs hi] at hrj
      rw [hρcs hi'] at hrj'
      have := hs.inj i i' b c c' (hsl i (hsm hi)) (hsl i' (hsm hi')) hrj hrj'
      subst this
      obtain ⟨l1, e1⟩ := List.getElem?_eq_some_iff.1 hi
      obtain ⟨l2, e2⟩ := List.getElem?_eq_some_iff.1 hi'
      exact (List.getElem_inj hnd).1 (e1.trans e2.symm)
    · obtain ⟨i, hi⟩ := hLc' j hj
      have := (List.getElem?_eq_some_iff.1 hi).1
      show j < G.length
      omega
    · rcases hFo b (hρcF ▸ hb) with h | ⟨i, c, h1, h2⟩
      · exact Nat.lt_of_lt_of_le (hs.oldF b h) hs.kept.size
      · exact (hs.hp i b c h1 h2).1
    · have h1 := hpk j (by have : j < k := hj; omega)
      rw [decide_eq_true (show j < k from hj)] at h1
      exact h1
    · rw [hρcF]
      have hb' : O b := hb
      rw [hO] at hb'
      obtain ⟨i, cap, h1, h2⟩ := hb'
      exact hoF b i cap (hsl i h1) h2 (.inl h1)
  have hargs : ∀ vs rs rs', RRs w s.live ρ vs rs → ARs s sel ln rs rs' → RRs w Lc ρc vs rs' := fun vs rs rs' hv ha => by
    obtain ⟨ha1, ha2⟩ := ha.at_
    refine ⟨by rw [hv.1, ha1], fun j r' hj => ?_⟩
    obtain ⟨r, h1, h2⟩ := ha2 j r' hj
    have h3 := hv.2 j r h1
    have hR : ∀ v x y, RC w s.live ρ v x → CR s sel ln x y → RC w Lc ρc v y := fun v x y h hc => hc.rc hs hsel' hocc hlo h
    exact h2.rr hR h3
  refine ⟨O, ρc, hsc, hargs, fun i j hj => hρcs hj, fun w' r hp' nx' ρ' v h3 hok h4 => ?_⟩
  -- the ids
  obtain ⟨f, hf⟩ : ∃ f, f = ren sel s.nx := ⟨_, rfl⟩
  have hf1 : ∀ {i j : Nat}, sel[j]? = some i → f j = i := fun hj => by rw [hf]; unfold ren; rw [hj]
  have hf2 : ∀ j, sel.length ≤ j → f j = s.nx + (j - sel.length) := fun j hj => by rw [hf]; unfold ren; rw [List.getElem?_eq_none hj]
  have hselnx : ∀ i, i ∈ sel → i < s.nx := fun i hi => hs.nx i (hsl i hi)
  have hfi : ∀ j j', f j = f j' → j = j' := fun j j' he => by
    rcases Nat.lt_or_ge j sel.length with q | q <;> rcases Nat.lt_or_ge j' sel.length with q' | q'
    · rw [hf1 (List.getElem?_eq_getElem q), hf1 (List.getElem?_eq_getElem q')] at he
      exact (List.getElem_inj hnd).1 he
    · rw [hf1 (List.getElem?_eq_getElem q), hf2 j' q'] at he
      have := hselnx _ (List.getElem_mem q); omega
    · rw [hf1 (List.getElem?_eq_getElem q'), hf2 j q] at he
      have := hselnx _ (List.getElem_mem q'); omega
    · rw [hf2 j q, hf2 j' q'] at he; omega
  have hfx : ∀ i, i ∉ sel → i < s.nx → ∀ j, f j ≠ i := fun i hi hn j he => by
    rcases Nat.lt_or_ge j sel.length with q | q
    · rw [hf1 (List.getElem?_eq_getElem q)] at he; exact hi (he ▸ List.getElem_mem q)
    · rw [hf2 j q] at he; omega
  have hfs : ∀ i, i ∈ sel → ∃ j, sel[j]? = some i ∧ f j = i := fun i hi => by
    obtain ⟨j, hj⟩ := List.getElem?_of_mem hi
    exact ⟨j, hj, hf1 hj⟩
  obtain ⟨X, hX⟩ : ∃ X, X = sel.drop k := ⟨_, rfl⟩
  obtain ⟨s', hs'⟩ : ∃ s', s' = s.aft sel k hp' := ⟨_, rfl⟩
  have hb1 : ∀ j, s'.blk (f j) = (lk hp' j .dead).rn f := fun j => by
    rw [hs', hf]
    show lk ((hp'.map _ ++ _) ++ (s.fgL (sel.drop k)).hp) _ .dead = _
    rw [List.append_assoc]
    rw [← hf]
    refine qi0 hfi _ j ?_ hp'
    rw [q7u]
    split
    · rfl
    · rename_i hn
      show (s.fgL (sel.drop k)).blk (f j) = .dead
      refine B.dead_of fun hl => ?_
      have hl' := (S.fgL_live s (sel.drop k) (f j)).1 hl
      rcases Nat.lt_or_ge j sel.length with q | q
      · exact hn (by rw [hf1 (List.getElem?_eq_getElem q)]; exact List.getElem_mem q)
      · have := hs.nx _ hl'
        rw [hf2 j q] at this; omega
  have hb2 : ∀ i, i ∉ sel → i < s.nx → s'.blk i = (s.fgL X).blk i := fun i hi hn => by
    rw [hs', hX]
    show lk ((hp'.map _ ++ _) ++ (s.fgL (sel.drop k)).hp) _ .dead = _
    rw [List.append_assoc, qip (f := ren sel s.nx) (g := B.rn (ren sel s.nx)) _ i (hf ▸ hfx i hi hn), q7u, if_neg hi]
    rfl
  let Lc' : Nat → Prop := (Zt hp' nx').live
  have hl1 : ∀ j, s'.live (f j) ↔ Lc' j := fun j => by
    unfold S.live
    rw [hb1, B.rn_live]
    exact Iff.rfl
  have hl2 : ∀ i, i ∉ sel → i < s.nx → (s'.live i ↔ s.live i) := fun i hi hn => by
    unfold S.live
    rw [hb2 i hi hn]
    exact S.fgL_live s X i
  have hcase : ∀ i, (∃ j, f j = i) ∨ (i ∉ sel ∧ i < s.nx) := fun i => by
    by_cases hi : i ∈ sel
    · obtain ⟨j, -, hj⟩ := hfs i hi; exact .inl ⟨j, hj⟩
    · rcases Nat.lt_or_ge i s.nx with q | q
      · exact .inr ⟨hi, q⟩
      · exact .inl ⟨i - s.nx + sel.length, by rw [hf2 _ (by omega)]; omega⟩
  obtain ⟨ρ2, hρ2⟩ : ∃ ρ2 : Pl, ρ2 = ⟨fun i => open Classical in if h : ∃ j, f j = i then ρ' (Classical.choose h) else ρ i, ρ.F⟩ := ⟨_, rfl⟩
  have hρF : ρ2.F = ρ.F := by rw [hρ2]
  have hr1 : ∀ j, ρ2 (f j) = ρ' j := fun j => by
    have hex : ∃ j', f j' = f j := ⟨j, rfl⟩
    rw [hρ2]
    show (open Classical in if h : ∃ j', f j' = f j then ρ' (Classical.choose h) else ρ (f j)) = _
    rw [dif_pos hex, hfi _ _ (Classical.choose_spec hex)]
  have hr2 : ∀ i, i ∉ sel → i < s.nx → ρ2 i = ρ i := fun i hi hn => by
    rw [hρ2]
    exact dif_neg fun ⟨j, hj⟩ => hfx i hi hn j hj
  have hid : ∀ j, Lc' j → s'.live (f j) ∧ ρ2 (f j) = ρ' j := fun j hj => ⟨(hl1 j).2 hj, hr1 j⟩
  have hρ'F : ρ'.F = F := h3.sameF.trans hρcF
  have hob : ln = [] → ∀ b, Occ s'.live ρ2 b → Occ Lc' ρ' b := fun hn b hb => by
    rcases hb with hb | ⟨i, c, q1, q2⟩
    · refine .inl ?_
      rw [hρ'F, hF]
      exact .inl (hρF ▸ hb)
    · rcases hcase i with ⟨j, rfl⟩ | ⟨q3, q4⟩
      · exact .inr ⟨j, c, (hl1 j).1 q1, (hr1 j).symm.trans q2⟩
      · refine .inl ?_
        rw [hρ'F, hF]
        exact .inr ⟨i, c, (hl2 i q3 q4).1 q1, by rw [hn]; simp, q3, (hr2 i q3 q4).symm.trans q2⟩
  have hokr : ln = [] ∨ r.scl = true := hok.imp id fun h => h.1
  have hokb : ∀ j, ln = [] ∨ (lk hp' j .dead).scl = true := fun j => hok.imp id fun h =>
    qcZ (Pr := fun _ x => x.scl = true) (z := B.dead) (fun _ => rfl) (fun i x hx => List.all_eq_true.1 h.2 (i, x) hx) j
  have hsz : w.heap.size ≤ w'.heap.size := h3.kept.size
  have hst : q61 X w s.live ρ w' s'.live ρ2 := by
    refine ⟨hsz, fun b hb hn => h3.kept.block b hb (fun hOb => ?_), fun b hb hocc' => ?_, fun i hi hli => ?_⟩
    · have hOb' : O b := hOb
      rw [hO] at hOb'
      obtain ⟨i, c, q1, q2⟩ := hOb'
      exact hn (.inr ⟨i, c, hsl i q1, q2⟩)
    · rcases hocc' with q | ⟨i, c, q1, q2⟩
      · exact .inl (hρF ▸ q)
      · rcases hcase i with ⟨j, rfl⟩ | ⟨q3, q4⟩
        · rcases h3.out j b c ((hl1 j).1 q1) ((hr1 j).symm.trans q2) with q5 | q5
          · have q5' : O b := q5
            rw [hO] at q5'
            obtain ⟨i', c', q6, q7⟩ := q5'
            exact .inr ⟨i', c', hsl i' q6, q7⟩
          · have : w.heap.size ≤ b := q5
            omega
        · exact .inr ⟨i, c, (hl2 i q3 q4).1 q1, (hr2 i q3 q4).symm.trans q2⟩
    · by_cases his : i ∈ sel
      · obtain ⟨j, hj, rfl⟩ := hfs i his
        have hjk : j < k := by
          rcases Nat.lt_or_ge j k with q | q
          · exact q
          · refine absurd ?_ hi
            rw [hX]
            have : (sel.drop k)[j - k]? = some (f j) := by rw [List.getElem?_drop, show k + (j - k) = j by omega]; exact hj
            exact List.mem_of_getElem? this
        obtain ⟨q1, q2⟩ := h3.pin j hjk
        refine ⟨(hl1 j).2 ?_, ?_⟩
        · exact B.live_of q2
        · rw [hr1, q1]; exact hρcs hj
      · exact ⟨(hl2 i his (hs.nx i hli)).2 hli, hr2 i his (hs.nx i hli)⟩
  have hnsel : ∀ i b c, s.live i → i ∉ sel → ρ i = some (b, c) → ¬ O b := fun i b c q1 q2 q3 q4 => by
    rw [hO] at q4
    obtain ⟨i', c', q5, q6⟩ := q4
    have := hs.inj i i' b c c' q1 (hsl i' q5) q3 q6
    subst this
    exact q2 q5
  have hOut : ∀ i b c, s'.live i → ρ2 i = some (b, c) → cx.O b ∨ cx.w.heap.size ≤ b := fun i b c q1 q2 => by
    rcases hcase i with ⟨j, rfl⟩ | ⟨q3, q4⟩
    · rcases h3.out j b c ((hl1 j).1 q1) ((hr1 j).symm.trans q2) with q5 | q5
      · have q5' : O b := q5
        rw [hO] at q5'
        obtain ⟨i', c', q6, q7⟩ := q5'
        exact hs.out i' b c' (hsl i' q6) q7
      · have q6 : w.heap.size ≤ b := q5
        have := hs.kept.size
        exact .inr (by omega)
    · exact hs.out i b c ((hl2 i q3 q4).1 q1) ((hr2 i q3 q4).symm.trans q2)
  have hget : ∀ i, s'.get i = (s.fgL X).get i := fun i => by rw [hs', hX]; rfl
  rw [← hs', ← hf]
  refine ⟨ρ2, ⟨hs.hd.mono hst.size hst.block hst.occ, ?_, fun i => ?_, fun i b c hi hr => ?_, fun i hi hr => ?_, hOut, fun i i' b c c' hi hi' hri hri' => ?_, fun i hi => ?_, ?_, fun b hb => hs.oldF b (hρF ▸ hb), fun i hi => ?_, hρF.trans hs.sameF, fun b hb => hρF ▸ hs.sep b hb⟩, h4.rn hid hob hokr⟩
  · rw [hs.size, hs']
    show s.n = (s.fgL (sel.drop k)).n
    cases sel.drop k <;> rfl
  · rw [hget, S.fgL_get]
    split
    · rename_i hX0
      have := (hs.tm i).stay (w' := w') (L' := s'.live) (ρ' := ρ2) ⟨hst.size, hst.block, hst.occ, fun i hi => hst.ids i (by rw [hX0]; simp) hi⟩
      exact this
    · exact (hs.tm i).stayL hst
  · rcases hcase i with ⟨j, rfl⟩ | ⟨q3, q4⟩
    · obtain ⟨q5, q6⟩ := h3.hp j b c ((hl1 j).1 hi) ((hr1 j).symm.trans hr)
      rw [hb1]
      exact ⟨q5, HB.rn hid hob q6 (hokb j)⟩
    · have q5 := (hl2 i q3 q4).1 hi
      have q6 := (hr2 i q3 q4).symm.trans hr
      obtain ⟨q7, q8⟩ := hs.hp i b c q5 q6
      refine ⟨by omega, ?_⟩
      have hbb := h3.kept.block b q7 (hnsel i b c q5 q3 q6)
      rw [hb2 i q3 q4, S.fgL_blk]
      split
      · rename_i hX0
        exact q8.stay (w' := w') (L' := s'.live) (ρ' := ρ2) ⟨hst.size, hst.block, hst.occ, fun i hi => hst.ids i (by rw [hX0]; simp) hi⟩ hbb
      · exact q8.stayL hst hbb
  · rcases hcase i with ⟨j, rfl⟩ | ⟨q3, q4⟩
    · obtain ⟨e, sz, q5⟩ := h3.hp0 j ((hl1 j).1 hi) ((hr1 j).symm.trans hr)
      have : lk hp' j .dead = .row e sz [] := q5
      exact ⟨e, sz, by rw [hb1, this]; rfl⟩
    · obtain ⟨e, sz, q5⟩ := hs.hp0 i ((hl2 i q3 q4).1 hi) ((hr2 i q3 q4).symm.trans hr)
      refine ⟨e, sz, ?_⟩
      rw [hb2 i q3 q4, S.fgL_blk, q5]
      split <;> rfl
  · have hmix : ∀ j i', i' ∉ sel → i' < s.nx → s'.live (f j) → s'.live i' → ρ2 (f j) = some (b, c) → ∀ c', ρ2 i' = some (b, c') → False := fun j i' q3 q4 q5 q6 q7 c' q8 => by
      have q9 := (hl2 i' q3 q4).1 q6
      have q10 := (hr2 i' q3 q4).symm.trans q8
      rcases h3.out j b c ((hl1 j).1 q5) ((hr1 j).symm.trans q7) with q | q
      · exact hnsel i' b c' q9 q3 q10 q
      · have q' : w.heap.size ≤ b := q
        have := (hs.hp i' b c' q9 q10).1; omega
    have hmix' : ∀ j i', i' ∉ sel → i' < s.nx → s'.live (f j) → s'.live i' → ∀ c', ρ2 (f j) = some (b, c') → ρ2 i' = some (b, c) → False := fun j i' q3 q4 q5 q6 c' q7 q8 => by
      have q9 := (hl2 i' q3 q4).1 q6
      have q10 := (hr2 i' q3 q4).symm.trans q8
      rcases h3.out j b c' ((hl1 j).1 q5) ((hr1 j).symm.trans q7) with q | q
      · exact hnsel i' b c q9 q3 q10 q
      · have q' : w.heap.size ≤ b := q
        have := (hs.hp i' b c q9 q10).1; omega
    rcases hcase i with ⟨j, rfl⟩ | ⟨q3, q4⟩ <;> rcases hcase i' with ⟨j', rfl⟩ | ⟨q3', q4'⟩
    · have := h3.inj j j' b c c' ((hl1 j).1 hi) ((hl1 j').1 hi') ((hr1 j).symm.trans hri) ((hr1 j').symm.trans hri')
      rw [this]
    · exact (hmix j i' q3' q4' hi hi' hri c' hri').elim
    · exact (hmix' j' i q3 q4 hi' hi c' hri' hri).elim
    · exact hs.inj i i' b c c' ((hl2 i q3 q4).1 hi) ((hl2 i' q3' q4').1 hi') ((hr2 i q3 q4).symm.trans hri) ((hr2 i' q3' q4').symm.trans hri')
  · have hnx := q2P (hp'.map (fun x => (ren sel s.nx x.1, x.2.rn (ren sel s.nx))) ++ sel.map fun i => (i, B.dead)) s.nx
    have hs'nx : s'.nx = (hp'.map (fun x => (ren sel s.nx x.1, x.2.rn (ren sel s.nx))) ++ sel.map fun i => (i, B.dead)).foldl (fun m u => max m (u.1 + 1)) s.nx := by
      rw [hs']
      show List.foldl _ (s.fgL (sel.drop k)).nx _ = _
      have : (s.fgL (sel.drop k)).nx = s.nx := by cases sel.drop k <;> rfl
      rw [this]
    rw [hs'nx]
    rcases hcase i with ⟨j, rfl⟩ | ⟨q3, q4⟩
    · have hj : (lk hp' j .dead).live = true := (hl1 j).1 hi
      have hmem : ∀ hp : List (Nat × B), (lk hp j .dead).live = true → ∃ x, (j, x) ∈ hp := by
        intro hp
        induction hp with
        | nil => intro h; cases h
        | cons y hp ih =>
          obtain ⟨j', x⟩ := y
          intro h
          unfold lk at h
          split at h
          · rename_i he; subst he; exact ⟨x, List.mem_cons_self⟩
          · obtain ⟨x', hx'⟩ := ih h; exact ⟨x', List.mem_cons_of_mem _ hx'⟩
      obtain ⟨x, hx⟩ := hmem hp' hj
      refine hnx.2 (f j, x.rn f) (List.mem_append_left _ ?_)
      rw [← hf]
      exact List.mem_map.2 ⟨(j, x), hx, rfl⟩
    · exact Nat.lt_of_lt_of_le q4 hnx.1
  · refine ⟨h3.kept.os.trans hs.kept.os, h3.kept.tape.trans hs.kept.tape, h3.kept.output.trans hs.kept.output, Nat.le_trans hs.kept.size hsz, fun b hb hO' => ?_⟩
    refine (h3.kept.block b (Nat.lt_of_lt_of_le hb hs.kept.size) (fun hOb => ?_)).trans (hs.kept.block b hb hO')
    have hOb' : O b := hOb
    rw [hO] at hOb'
    obtain ⟨i, c, q1, q2⟩ := hOb'
    rcases hs.out i b c (hsl i q1) q2 with q | q
    · exact hO' q
    · omega
  · obtain ⟨q1, q2⟩ := hs.pin i hi
    have hli : s.live i := B.live_of q2
    by_cases his : i ∈ sel
    · obtain ⟨j, hj, rfl⟩ := hfs i his
      have hjl : j < G.length := by rw [hGl]; exact (List.getElem?_eq_some_iff.1 hj).1
      have hjk : j < k := by
        have h5 := (hGat j).1 (Nat.zero_le _) (f j) (by rw [Nat.sub_zero]; exact hj)
        have h6 := hpk j hjl
        generalize lk G j .dead = y at h5 h6
        generalize s.blk (f j) = x at h5 q2
        cases h5 with
        | blk _ _ cs' _ => exact of_decide_eq_true h6.symm
        | ob _ _ _ => exact of_decide_eq_true h6.symm
        | row => cases q2
      obtain ⟨q3, q4⟩ := h3.pin j hjk
      refine ⟨?_, ?_⟩
      · rw [hr1, q3]; exact (hρcs hj).trans q1
      · rw [hb1, B.rn_isBlk]; exact q4
    · refine ⟨(hr2 i his (hs.nx i hli)).trans q1, ?_⟩
      rw [hb2 i his (hs.nx i hli), S.fgL_blk]
      split
      · exact q2
      · rw [B.fgL_isBlk]; exact q2
theorem q05.sel {g : FuncId} {rs rs' : List R} {G : List (Nat × B)} {k : Nat} {Q : R → List (Nat × B) → Prop} (sel ln : List Nat) (h : AC P g rs' G k Q) (ha : ARs s sel ln rs rs') (hG : GR s sel sel 0 G)
    (hsel : sel.all (fun i => (s.blk i).live) = true) (hnd : sel.Nodup) (hln : ln.all (fun i => (s.blk i).live && !sel.contains i) = true) (hk : k ≤ G.length) (hpk : ∀ j, j < G.length → (lk G j .dead).isBlk = decide (j < k))
    (hK : ∀ r hp, Q r hp → okr ln r hp ∧ K (r.rn (ren sel s.nx)) (s.aft sel k hp)) : q05 P s g rs K := by
  refine ⟨h.ent, fun cx ρ a w vs hs hv => ?_⟩
  obtain ⟨O, ρc, hsc, hargs, -, hback⟩ := hs.hand sel ln none hG hsel hnd hln hk hpk
  refine (h.call _ ρc w vs rfl rfl rfl rfl hsc (hargs vs rs rs' hv ha)).mono fun e w' ⟨v, r, hp', nx', ρ', h1, h2, h3, h4⟩ => ?_
  obtain ⟨hok, hKs⟩ := hK r hp' h2
  obtain ⟨ρ2, g1, g2⟩ := hback w' r hp' nx' ρ' v h3 hok h4
  exact ⟨v, _, _, ρ2, h1, hKs, g1, g2⟩
end
end Go.Proofs.YtplfjlcnffcenaaGreat.Vc
namespace Go.Proofs.YtplfjlcnffcenaaGreat.Vc
open Go.RowKit
def RA (P : Program) (as bd : Code) (tm : List R) (G : List (Nat × B)) (k : Nat) (Q : R → List (Nat × B) → Prop) : Prop :=
  ∀ cx ρ w l cap fn vs, cx.w = w → cx.k = k → cx.ρ = ρ → cx.ro = some l → 0 < k → ρ (k - 1) = some (l, cap) → Sim cx ρ (Zt G G.length) q6d w → RRs w (Zt G G.length).live ρ vs tm →
    RoundIn Fence.wide 0 P l fn vs as bd w fun e w' => ∃ v r hp' nx' ρ', e = .returned v ∧ Q r hp' ∧ Sim cx ρ' (Zt hp' nx') q6d w' ∧ RR w' (Zt hp' nx').live ρ' v r
def q6m : List R → List Nat → List R → List R
  | tm, t :: ps, r :: rs => q6m (tm.set t r) ps rs
  | tm, _, _ => tm
section
variable {P : Program} {cx : Cx} {ρ : Pl} {s : S} {a : Act} {w : World} {o : Oper} {K : KK} {next : Act → World → Prop} {Q' : Exit → Act → World → Prop}
theorem qbp {L : Nat → Prop} : ∀ (ps : List Nat) (rs tm : List R) (us : List Value) (vs : Array Value), RRs w L ρ vs tm → us.length = rs.length → (∀ j r, rs[j]? = some r → RR w L ρ (us.getD j undef) r) →
    RRs w L ρ ((ps.zip us).foldl (fun tmps x => tmps.setIfInBounds x.1 x.2) vs) (q6m tm ps rs)
  | [], rs, tm, us, vs, h, _, _ => by simpa [q6m] using h
  | t :: ps, [], tm, us, vs, h, hl, _ => by
    have : us = [] := List.eq_nil_of_length_eq_zero (by simpa using hl)
    subst this
    simpa [q6m] using h
  | t :: ps, r :: rs, tm, us, vs, h, hl, hr => by
    cases us with
    | nil => cases hl
    | cons u us =>
      rw [List.zip_cons_cons, List.foldl_cons]
      refine qbp ps rs (tm.set t r) us _ ⟨by simpa using h.1, fun j x hj => ?_⟩ (by simpa using hl) (fun j x hj => by have := hr (j + 1) x (by simpa using hj); simpa using this)
      by_cases hjt : t = j
      · subst hjt
        have hlt : t < tm.length := by have := (List.getElem?_eq_some_iff.1 hj).1; simpa using this
        rw [List.getElem?_set_self hlt] at hj
        injection hj with hj
        subst hj
        have h0 := hr 0 _ rfl
        have hv : t < vs.size := by rw [h.1]; exact hlt
        simpa [Array.getD_eq_getD_getElem?, hv] using h0
      · rw [List.getElem?_set_ne hjt] at hj
        have := h.2 j x hj
        simpa [Array.getD_eq_getD_getElem?, Array.getElem?_setIfInBounds, hjt] using this
theorem qgx (hs : Sim cx ρ s a w) {y : Operand} {args : Array Operand} {ts : Array TypeId} {rid f : Nat} {tm : List R} {ps : List Nat} {as bd : Code} (ho : o.op = .call { callee := .value y, args, argTypes := ts }) (hy : s.ev y = .c (.hd .yield rid))
    (hb : s.blk rid = .ob (.lp f tm ps as bd .ready none)) (hlen : args.toList.length = ps.length) {rs' : List R} {G : List (Nat × B)} {k : Nat} {Q : R → List (Nat × B) → Prop} (sel ln : List Nat) (h : RA P as bd rs' G k Q) (ha : ARs s sel ln (q6m tm ps (args.toList.map s.ev)) rs') (hG : GR s sel sel 0 G)
    (hsel : sel.all (fun i => (s.blk i).live) = true) (hnd : sel.Nodup) (hln : ln.all (fun i => (s.blk i).live && !sel.contains i) = true) (hk : k ≤ G.length) (hpk : ∀ j, j < G.length → (lk G j .dead).isBlk = decide (j < k)) (hk0 : 0 < k) (hrid : sel[k - 1]? = some rid)
    (hK : ∀ r hp, Q r hp → okr ln r hp ∧ K (r.rn (ren sel s.nx)) (s.aft sel k hp)) (hn : QY cx K o a next) : o.wpIn (FW cx.ro) 0 P a w next Q' := by
  have hyv := hs.ev y
  rw [hy] at hyv
  obtain ⟨l, cap, h1, h2, h3⟩ := hyv.inv_hd
  have hB := (hs.hp rid l cap h1 h2).2
  rw [hb] at hB
  obtain ⟨rec, e1, e2, e3, e4, e5, e6, e7, e8⟩ := hB
  have hps : (args.map a.eval).size = rec.params.size := by
    have : rec.params.size = ps.length := by rw [← e4]; simp
    rw [this, ← hlen]; simp
  obtain ⟨vs, hvs⟩ : ∃ vs, vs = (rec.params.zip (args.map a.eval)).foldl (fun tmps (t, a) => tmps.setIfInBounds t a) rec.tmps := ⟨_, rfl⟩
  have hrun : (execOp a.eval o).run P w = .ok (.round l rec.fn vs as bd) w := by
    have hy3 : a.eval y = .func (.yield l) #[] #[] := h3
    have hr := run_yield (P := P) e1 hps
    unfold execOp
    simp only [ho, resolve, hy3, Deferred.ofValue, Sem.run_bind, Sem.run_pure, Result.andThen_ok, invoke]
    rw [show (#[] : Array Value) ++ Array.map a.eval args = args.map a.eval by simp, hr, hvs, e5, e6]
  have hrr : RRs w s.live ρ vs (q6m tm ps (args.toList.map s.ev)) := by
    have := qbp (w := w) (L := s.live) (ρ := ρ) ps (args.toList.map s.ev) tm (args.toList.map a.eval) rec.tmps ⟨e7, e8⟩ (by simp) (fun j r hj => by
      rw [List.getElem?_map] at hj
      obtain ⟨x, g1, g2⟩ := Option.map_eq_some_iff.1 hj
      subst g2
      rw [List.getD, List.getElem?_map, g1]
      exact hs.ev x)
    rw [hvs]
    have hz : (rec.params.zip (args.map a.eval)).foldl (fun tmps (t, a) => tmps.setIfInBounds t a) rec.tmps = (ps.zip (args.toList.map a.eval)).foldl (fun tmps x => tmps.setIfInBounds x.1 x.2) rec.tmps := by
      rw [← Array.foldl_toList, Array.toList_zip, e4, Array.toList_map]
    rw [hz]; exact this
  refine ⟨fun _ _ => trivial, ?_⟩
  rw [Oper.semAt_eq _ _ _ (fun c hc => by rw [ho] at hc; cases hc), hrun, Oper.uponIn_round]
  obtain ⟨O, ρc, hsc, hargs, hρ, hback⟩ := hs.hand sel ln (some l) hG hsel hnd hln hk hpk
  have hround := h _ ρc w l cap rec.fn vs rfl rfl rfl rfl hk0 ((hρ _ _ hrid).trans h2) hsc (hargs _ _ _ hrr ha)
  refine ⟨fun h => (by cases h), RoundIn.mono (F := FW cx.ro) (show RoundIn (FW cx.ro) (0 - 1) P l rec.fn vs as bd w _ from hround) ?_⟩
  rintro e w' ⟨v, r, hp', nx', ρ', rfl, hQ, h4, h5⟩
  obtain ⟨hok, hKs⟩ := hK r hp' hQ
  obtain ⟨ρ2, g1, g2⟩ := hback w' r hp' nx' ρ' v h4 hok h5
  exact hn _ _ ρ2 v w' hKs g1 g2
def S.rf (s : S) (f : Nat) (tm : List R) (ps : List Nat) (as bd : Code) : S :=
  { s.up [(s.nx, .ob (.lp f tm ps as bd .ready none))] with tm := (s.n, .c (.hd .yield s.nx)) :: s.tm, n := s.n + 1 }
theorem S.rf_blk (s : S) (f : Nat) (tm : List R) (ps : List Nat) (as bd : Code) (i : Nat) : (s.rf f tm ps as bd).blk i = if s.nx = i then .ob (.lp f tm ps as bd .ready none) else s.blk i := rfl
def q5n (a : Act) (D l : Nat) : Act := { tmps := a.tmps.push (HK.yield.val l), defers := qby D :: a.defers }
theorem Sim.rf (hs : Sim cx ρ s a w) {f : Nat} {tm : List R} {ps : Array Tmp} {as bd : Code} {fn : FuncId} (htm : tm.length = s.n ∧ ∀ i r, tm[i]? = some r → r = .any ∨ r = s.get i) {w1 : World}
    (hw1 : w1 = (w.alloc (.deferred (some []))).alloc (.loop { state := .ready, pending := none, fn, tmps := a.tmps, params := ps, assign := as, body := bd, defers := w.heap.size })) :
    ∃ ρ1, Sim cx ρ1 (s.rf f tm ps.toList as bd) (q5n a w.heap.size (w.heap.size + 1)) w1 := by
  have hs0 := hs.other (.deferred (some []))
  have hno : ¬ Occ s.live ρ w.heap.size := hs.not_occ (Nat.le_refl _)
  have hnl : ¬ s.live s.nx := fun h => by have := hs.nx _ h; omega
  have hst := q3w (w := w.alloc (.deferred (some []))) (ρ := ρ) (x := .ob (.lp f tm ps.toList as bd .ready none)) hnl (.loop { state := .ready, pending := none, fn, tmps := a.tmps, params := ps, assign := as, body := bd, defers := w.heap.size }) 0
  rw [← hw1] at hst
  have hsz0 : (w.alloc (.deferred (some []))).heap.size = w.heap.size + 1 := by simp
  have hnew := hs0.new (cap := 0) hnl (x := .ob (.lp f tm ps.toList as bd .ready none)) (o := .loop { state := .ready, pending := none, fn, tmps := a.tmps, params := ps, assign := as, body := bd, defers := w.heap.size })
    ⟨_, heap_alloc_new _ _, rfl, rfl, rfl, rfl, rfl, by rw [htm.1]; exact hs.size, fun j x hj => by
      rcases htm.2 j x hj with h | h
      · rw [h]; exact .any _
      · rw [h, ← hw1]; exact (hs0.tm j).stay hst⟩
  rw [← hw1, hsz0] at hnew
  rw [hsz0] at hst
  refine ⟨_, ⟨?_, by simp [q5n, hnew.size, S.rf, S.up], fun i => ?_, hnew.hp, hnew.hp0, hnew.out, hnew.inj, hnew.nx, hnew.kept, hnew.oldF, hnew.pin, hnew.sameF, hnew.sep⟩⟩
  · obtain ⟨⟨Ds, d1, d2, d3⟩⟩ := hs.hd
    obtain ⟨⟨Ds', d1', d2', d3'⟩⟩ := hnew.hd
    have hds : Ds' = Ds := by
      rw [d1] at d1'
      have hm : ∀ (l l' : List Nat), l.map qby = l'.map qby → l' = l := by
        intro l
        induction l with
        | nil => intro l' hl; cases l' with | nil => rfl | cons x l' => cases hl
        | cons y l ih =>
          intro l' hl
          cases l' with
          | nil => cases hl
          | cons x l' =>
            simp only [List.map_cons, List.cons.injEq, qby, Deferred.mk.injEq, Target.collected.injEq, and_true] at hl
            rw [ih l' hl.2, hl.1]
      exact hm _ _ d1'
    subst hds
    refine ⟨⟨w.heap.size :: Ds', by simp [q5n, d1], List.nodup_cons.2 ⟨fun h => by have := (d3 _ h).2.1; omega, d2⟩, fun D hD => ?_⟩⟩
    rcases List.mem_cons.1 hD with rfl | hD
    · refine ⟨hs.kept.size, by rw [hw1]; simp only [World.size_alloc]; omega, fun h => hno (hst.occ _ (by simp) h), ?_⟩
      rw [hw1]
      exact (Below.heap_alloc _ _ _ (by simp)).trans (heap_alloc_new w _)
    · exact d3' D hD
  · show RR w1 _ _ ((a.tmps.push (HK.yield.val (w.heap.size + 1))).getD i undef) (lk ((s.n, R.c (.hd .yield s.nx)) :: s.tm) i .any)
    unfold lk
    by_cases hi : s.n = i
    · subst hi
      rw [if_pos rfl]
      have : (a.tmps.push (HK.yield.val (w.heap.size + 1))).getD s.n undef = HK.yield.val (w.heap.size + 1) := by rw [← hs.size]; simp [Array.getD_eq_getD_getElem?]
      rw [this]
      exact .c _ _ (.hd .yield s.nx (w.heap.size + 1) 0 (by unfold S.live; rw [S.rf_blk, if_pos rfl]; rfl) (if_pos rfl))
    · rw [if_neg hi]
      have : (a.tmps.push (HK.yield.val (w.heap.size + 1))).getD i undef = a.tmps.getD i undef := by
        simp only [Array.getD_eq_getD_getElem?, Array.getElem?_push]
        rw [if_neg (by rw [hs.size]; exact fun h => hi h.symm)]
      rw [this]
      exact hnew.tm i
def S.rfx (s : S) (n rid : Nat) (o : AO) : S := { s.up [(rid, .ob o)] with tm := (n, .any) :: s.tm, n := n }
theorem qr7 (l : List (Nat × R)) (n i : Nat) (h : i ≠ n) : lk ((n, R.any) :: l) i .any = lk l i .any := by
  show (if n = i then R.any else lk l i .any) = _
  rw [if_neg (Ne.symm h)]
theorem Sim.rfx {D l : Nat} (hs : Sim cx ρ s (q5n a D l) w) {n rid b cap : Nat} (hn : a.tmps.size = n) (h1 : s.live rid) (h2 : ρ rid = some (b, cap)) {o : AO} {O : Obj}
    (hO : q4Y w s.live ρ (w.putObj b O) (s.up [(rid, .ob o)]).live ρ → (w.putObj b O).heap[b]? = some O → HO (w.putObj b O) (s.up [(rid, .ob o)]).live ρ b o) : Sim cx ρ (s.rfx n rid o) { a with defers := qby D :: a.defers } (w.putObj b O) := by
  have h := hs.overO h1 h2 hO
  refine ⟨h.hd, by simp [S.rfx, hn], fun i => ?_, h.hp, h.hp0, h.out, h.inj, h.nx, h.kept, h.oldF, h.pin, h.sameF, h.sep⟩
  show RR _ _ ρ (a.tmps.getD i undef) (lk ((n, R.any) :: s.tm) i .any)
  by_cases hi : i = n
  · subst hi
    unfold lk
    rw [if_pos rfl]
    exact .any _
  · rw [qr7 _ _ _ hi]
    have h3 := h.tm i
    have : (q5n a D l).tmps.getD i undef = a.tmps.getD i undef := by
      simp only [q5n, Array.getD_eq_getD_getElem?, Array.getElem?_push]
      rw [if_neg (by rw [hn]; exact hi)]
    rw [this] at h3
    exact h3
def qqs (Q : Exit → S → Prop) (s : S) : Option Code → Prop
  | none => Q .normal s
  | some .ret => Q .ret s
  | some (.exit i) => Q (.exit i) s
  | _ => False
theorem J.rangeFunc {g : Operand} {ps : Array Tmp} {as bd : Code} {f : Nat} {tm : List R} {g' : FuncId} {fs caps : List C} {Q : Exit → S → Prop} (hro : cx.ro = none) (hg : s.ev g = .c (.fn g' fs caps)) (htm : tm.length = s.n ∧ ∀ i r, tm[i]? = some r → r = .any ∨ r = s.get i)
    (hc : q05 P (s.rf f tm ps.toList as bd) g' (fs.map R.c ++ [.c (.hd .yield s.nx)] ++ caps.map R.c) K)
    (hK : ∀ r s2, K r s2 → ∃ rid f' tm' ps' as' bd' st pd, s2.get s.n = .c (.hd .yield rid) ∧ s2.blk rid = .ob (.lp f' tm' ps' as' bd' st pd) ∧ st ≠ .busy ∧ qqs Q (s2.rfx s.n rid (.lp f' tm' ps' as' bd' .exhausted pd)) pd) : J P cx (.rangeFunc g ps as bd) Q s := fun ρ a w hs => by
  refine wpIn_rangeFunc (F := FW cx.ro) fun fn _ => ?_
  obtain ⟨w1, hw1⟩ : ∃ w1, w1 = (w.alloc (.deferred (some []))).alloc (.loop { state := .ready, pending := none, fn, tmps := a.tmps, params := ps, assign := as, body := bd, defers := w.heap.size }) := ⟨_, rfl⟩
  obtain ⟨ρ1, hs1⟩ := hs.rf (f := f) htm hw1
  obtain ⟨⟨fnc, e1, e2, e3⟩, hcall⟩ := hc
  have hgv := hs.ev g
  rw [hg] at hgv
  obtain ⟨us, vs, q1, q2, q3, q4, q5⟩ := hgv.inv_fn
  -- the function's value, in the new state
  have hst1 : ∀ {L L' : Nat → Prop} {ρ' : Pl} {x : C} {v : Value}, q4Y w s.live ρ w1 L' ρ' → RC w s.live ρ v x → RC w1 L' ρ' v x := fun h hx => hx.stay h
  have hg1 := hs1.ev g
  have hev : (q5n a w.heap.size (w.heap.size + 1)).eval g = a.eval g ∧ (s.rf f tm ps.toList as bd).ev g = s.ev g := by
    cases g with
    | tmp t =>
      have hlt : t ≠ s.n := fun h => by
        subst h
        have h0 := hgv
        have : a.eval (.tmp s.n) = undef := by
          show a.tmps.getD s.n undef = undef
          rw [← hs.size]; simp [Array.getD_eq_getD_getElem?]
        rw [this] at q1
        cases q1
      refine ⟨?_, ?_⟩
      · show (a.tmps.push _).getD t undef = a.tmps.getD t undef
        simp only [Array.getD_eq_getD_getElem?, Array.getElem?_push]
        rw [if_neg (by rw [hs.size]; exact hlt)]
      · show lk ((s.n, _) :: s.tm) t .any = lk s.tm t .any
        show (if s.n = t then _ else lk s.tm t .any) = _
        rw [if_neg (Ne.symm hlt)]
    | _ => exact ⟨rfl, rfl⟩
  rw [hev.1, hev.2, hg] at hg1
  obtain ⟨us', vs', p1, p2, p3, p4, p5⟩ := hg1.inv_fn
  have huv : us' = us ∧ vs' = vs := by rw [q1] at p1; injection p1 with _ p1 p2; exact ⟨p1.symm, p2.symm⟩
  obtain ⟨rfl, rfl⟩ := huv
  have hy : RRs w1 (s.rf f tm ps.toList as bd).live ρ1 #[.func (.yield (w.heap.size + 1)) #[] #[]] [.c (.hd .yield s.nx)] := by
    refine ⟨rfl, fun j r hj => ?_⟩
    match j, hj with
    | 0, hj =>
      simp only [List.getElem?_cons_zero, Option.some.injEq] at hj
      subst hj
      have h0 := hs1.tm s.n
      have h3 : (s.rf f tm ps.toList as bd).get s.n = .c (.hd .yield s.nx) := by
        show lk ((s.n, _) :: s.tm) s.n .any = _
        unfold lk; rw [if_pos rfl]
      have h4 : (q5n a w.heap.size (w.heap.size + 1)).tmps.getD s.n undef = .func (.yield (w.heap.size + 1)) #[] #[] := by
        rw [← hs.size]; simp [q5n, Array.getD_eq_getD_getElem?, HK.val]
      rw [h3, h4] at h0
      exact h0
    | j + 1, hj => simp at hj
  have hargs := q1I (q1I (q3v p2 p3) hy) (q3v p4 p5)
  have hcl := hcall cx ρ1 _ w1 _ hs1 hargs
  refine ⟨w.heap.size + 1, [qby w.heap.size], w1, { target := .fn (.func g') vs', args := us' ++ #[.func (.yield (w.heap.size + 1)) #[] #[]] }, w1, g', us' ++ #[.func (.yield (w.heap.size + 1)) #[] #[]] ++ vs', w1, ?_, ?_, fun _ _ => trivial, ?_, fun h => (by cases h), ?_⟩
  · rw [hw1]
    show (Instr.enterLoop fn a.tmps ps as bd cx.ro).run P w = _
    rw [hro]
    exact run_enterLoop_outer fn a.tmps ps as bd
  · simp only [resolve, q1, Deferred.ofValue, Sem.run_pure, List.map_toArray, List.map_cons, List.map_nil]
    rfl
  · simp only [invoke, callFunc, program, Sem.run_bind, Sem.run, Result.andThen_ok, e1, e2, e3, Bool.false_eq_true, if_false, Sem.run_pure]
  · refine callsIn_wide.2 (hcl.mono fun e w' ⟨v, r, s2, ρ2, h3, h4, h5, h6⟩ => ?_)
    subst h3
    obtain ⟨rid, f', tm', ps', as', bd', st, pd, k1, k2, k3, k4⟩ := hK r s2 h4
    have hsl := h5.tm s.n
    rw [k1] at hsl
    have hv4 : (q5n a w.heap.size (w.heap.size + 1)).tmps.getD s.n undef = .func (.yield (w.heap.size + 1)) #[] #[] := by
      rw [← hs.size]; simp [q5n, Array.getD_eq_getD_getElem?, HK.val]
    rw [hv4] at hsl
    obtain ⟨b, cap, m1, m2, m3⟩ := hsl.inv_hd
    have hbl : b = w.heap.size + 1 := by
      simp only [HK.val, Value.func.injEq, Fn.yield.injEq] at m3
      exact m3.1.symm
    subst hbl
    have hB := (h5.hp rid _ cap m1 m2).2
    rw [k2] at hB
    obtain ⟨rec, t1, t2, t3, t4, t5, t6, t7, t8⟩ := hB
    have hS := h5.rfx (o := .lp f' tm' ps' as' bd' .exhausted pd) (O := .loop { rec with state := .exhausted, pending := pd }) hs.size m1 m2 (fun hst hO => ⟨_, hO, rfl, rfl, t4, t5, t6, t7, fun j x hj => (t8 j x hj).stay hst⟩)
    refine ⟨rec.pending, _, run_endLoop t1 (by rw [t2]; exact k3), ?_⟩
    rw [t3]
    unfold qqs at k4
    split at k4
    · exact ⟨_, ρ2, k4, hS⟩
    · exact wpIn_ret ⟨_, ρ2, k4, hS⟩
    · exact wpIn_exit ⟨_, ρ2, k4, hS⟩
    · cases k4
end
end Go.Proofs.YtplfjlcnffcenaaGreat.Vc
namespace Go.Proofs.YtplfjlcnffcenaaGreat.Vc
open Go.RowKit Go.WideShapes Go.ChangeShapes
def zq (P : Program) : Nat → TypeId → List D → Prop
  | 0, _, _ => False
  | n + 1, t, ds =>
    match P.underlying t with
    | some (.int k) => ∃ z, ds = [.int k z] ∧ (Lit.int k z).wf = true
    | some .bool => ∃ b, ds = [.bool b]
    | some .string => ∃ s, ds = [.str s] ∧ s.size ≤ maxLen
    | some (.slice e) => ∃ m es, ds = [.sl (P.cellsOf e) m es] ∧ m ≤ maxLen ∧ es.length = m * P.cellsOf e ∧ ∀ i, i < m → zq P n e ((es.drop (i * P.cellsOf e)).take (P.cellsOf e))
    | some (.array k e) => ds.length = P.cellsOf t ∧ ∀ i, i < k → zq P n e ((ds.drop (i * P.cellsOf e)).take (P.cellsOf e))
    | some (.struct fs) => ds.length = P.cellsOf t ∧ ∀ f ∈ fs.toList, zq P n f.type ((ds.drop f.offset).take (P.cellsOf f.type))
    | _ => False
def tl (P : Program) : Nat → List (Nat × TypeId) → Nat → Bool
  | o, [], e => o == e
  | o, (f, t) :: l, e => f == o && tl P (o + P.cellsOf t) l e
def qwv (P : Program) (l : List TypeId) : Bool := l.all fun t =>
  match P.underlying t with
  | some (.int _) | some .bool | some .string => true
  | some (.slice e) => l.contains e && decide (0 < P.cellsOf e)
  | some (.array k e) => l.contains e && tl P 0 ((List.range k).map fun i => (i * P.cellsOf e, e)) (P.cellsOf t)
  | some (.struct fs) => fs.toList.all (fun f => l.contains f.type) && tl P 0 (fs.toList.map fun f => (f.offset, f.type)) (P.cellsOf t)
  | _ => false
def PV (w : World) (cs : List Value) (ds : List D) : Prop := cs.length = ds.length ∧ ∀ (j : Nat) (v : Value) (d : D), cs[j]? = some v → ds[j]? = some d → RD w (fun _ => False) v d
theorem qqd {P : Program} : ∀ {l : List (Nat × TypeId)} {o e : Nat}, tl P o l e = true → o ≤ e
  | [], o, e, h => by have : o = e := eq_of_beq h; omega
  | (f, t) :: l, o, e, h => by
    have := qqd ((Bool.and_eq_true _ _).mp h).2
    omega
section
variable {H : Type} {enc : TypeId × Value → H} {P : Program} {w : World} {base : Nat} {spare : Nat → Bool} {held : Bool}
end
end Go.Proofs.YtplfjlcnffcenaaGreat.Vc
namespace Go.Proofs.YtplfjlcnffcenaaGreat.Vc
open Go.RowKit
section
variable {P : Program} {T : Ty} {cx : Cx} {s : S} {l : List Oper} {Q : Exit → S → Prop}
theorem wi (n : Int) (h0 : -9223372036854775808 ≤ n) (h1 : n ≤ 9223372036854775807) : IntKind.i64.wrap n = n := by
  have : IntKind.i64.min = -9223372036854775808 := by decide
  have : IntKind.i64.max = 9223372036854775807 := by decide
  simp only [IntKind.wrap, IntKind.bits, IntKind.signed]
  simp
  omega
end
end Go.Proofs.YtplfjlcnffcenaaGreat.Vc
namespace Go.Proofs.YtplfjlcnffcenaaGreat.Vc
open Go.RowKit
abbrev RS := Option (R × S)
inductive Fx where
  | fn (f : FuncId)
  | rd (f : FuncId) (as bd : Code)
abbrev Orc := Fx → Nat → List R → List (Nat × B) → Option (R × List (Nat × B))
def qga (s : S) (c x y : Operand) : RS :=
  match s.ev c with
  | .c (.d (.bool t)) => if t = true then some (s.ev x, s) else some (s.ev y, s)
  | _ => none
def qgF (T : Ty) (s : S) (t : TypeId) (x : Operand) : RS :=
  match s.ev x with
  | .c (.ptr id off) => (ld T (s.blk id).cells off t).bind fun r => some (r, s)
  | .c (.eptr cs off) => (ld T (cs.map C.d) off t).bind fun r => some (r, s)
  | _ => none
def qaX (T : Ty) (s : S) (t : TypeId) : RS :=
  match T.k t with
  | .other => none
  | _ => some (.c (.ptr s.nx 0), s.up [(s.nx, .blk t (T.zero t))])
def qrv (s : S) (t : TypeId) (x : Operand) : RS :=
  match (s.ev x).cells with
  | some cs => if cs.all C.known = true then some (.c (.ptr s.nx 0), s.up [(s.nx, .blk t cs)]) else none
  | none => none
def q2k (T : Ty) (s : S) (t : TypeId) (x y : Operand) : RS :=
  match s.ev x with
  | .c (.ptr id off) =>
    match (s.ev y).cells with
    | some ys => if ys.all C.known = true ∧ T.k t ≠ .other ∧ ys.length = T.sz t ∧ off + ys.length ≤ (s.blk id).cells.length ∧ (s.blk id).isOb = false then some (.any, s.up [(id, (s.blk id).set off ys)]) else none
    | none => none
  | _ => none
def q1O (T : Ty) (s : S) (t : TypeId) (x : Operand) (f : Nat) : RS :=
  match T.foff t f with
  | some (fo, ft) =>
    if T.k ft ≠ .other ∧ T.sz ft ≠ 0 then
      match s.ev x with
      | .c (.ptr id off) => some (.c (.ptr id (off + fo)), s)
      | .c (.eptr cs off) => some (.c (.eptr cs (off + fo)), s)
      | _ => none
    else none
  | none => none
def q1Q (T : Ty) (s : S) (t : TypeId) (x y : Operand) : RS :=
  match s.ev y, s.ev x, T.k t with
  | .c (.d (.int _ i)), .c (.d (.sl sz n cs)), .sl e => if T.k e ≠ .other ∧ T.sz e = sz then (if 0 ≤ i ∧ i < n then some (.c (.eptr cs (i.toNat * sz)), s) else none) else none
  | .c (.d (.int _ i)), .c (.own id sz off n), .sl e => if T.k e ≠ .other ∧ T.sz e = sz then (if 0 ≤ i ∧ i < n then some (.c (.ptr id ((off + i.toNat) * sz)), s) else none) else none
  | .c (.d (.int _ i)), .c (.ptr id off), .arr n e => if T.k e ≠ .other then (if 0 ≤ i ∧ i < n then some (.c (.ptr id (off + i.toNat * T.sz e)), s) else none) else none
  | _, _, _ => none
def q4Z (s : S) (x : Operand) (i : Nat) : RS :=
  match s.ev x with
  | .tup rs => (rs[i]?).bind fun r => some (r, s)
  | _ => none
def q2K (s : S) (x : Operand) : RS :=
  match s.ev x with
  | .c (.ptr id off) => some (.c (.ptr id off), s)
  | .c (.eptr cs off) => some (.c (.eptr cs off), s)
  | .c (.fn f fs caps) => some (.c (.fn f fs caps), s)
  | _ => none
def qaH (op : BinOp) (k : IntKind) (a b : Int) : Option D :=
  match op with
  | .add => some (.int k (k.wrap (a + b)))
  | .sub => some (.int k (k.wrap (a - b)))
  | .mul => some (.int k (k.wrap (a * b)))
  | .quo => if b = 0 then none else some (.int k (k.wrap (a.tdiv b)))
  | .rem => if b = 0 then none else some (.int k (a.tmod b))
  | .and => some (.int k (q4r .and k a b))
  | .or => some (.int k (q4r .or k a b))
  | .xor => some (.int k (q4r .xor k a b))
  | .andNot => some (.int k (q4r .andNot k a b))
  | .eql => some (.bool (a == b))
  | .neq => some (.bool (a != b))
  | .lss => some (.bool (decide (a < b)))
  | .leq => some (.bool (decide (a ≤ b)))
  | .gtr => some (.bool (decide (b < a)))
  | .geq => some (.bool (decide (b ≤ a)))
  | .shl => if 0 ≤ b then some (.int k (k.wrap (a * 2 ^ min b.toNat k.bits))) else none
  | .shr => if 0 ≤ b then some (.int k (a.fdiv (2 ^ min b.toNat k.bits))) else none
def qld (op : BinOp) (a b : ByteArray) : Option D :=
  match op with
  | .add => if a.size + b.size ≤ 9223372036854775807 then some (.str (a ++ b)) else none
  | .eql => some (.bool (a.toList == b.toList))
  | .neq => some (.bool (!(a.toList == b.toList)))
  | .lss => some (.bool (Op.bytesLess a.toList b.toList))
  | .leq => some (.bool (Op.bytesLess a.toList b.toList || a.toList == b.toList))
  | .gtr => some (.bool (!(Op.bytesLess a.toList b.toList || a.toList == b.toList)))
  | .geq => some (.bool (!Op.bytesLess a.toList b.toList))
  | _ => none
def Kd.isPtr : Kd → Bool
  | .ptr _ => true
  | _ => false
def qo4 (T : Ty) (op : BinOp) (t : TypeId) (x y : R) : Option D :=
  match op, x, y with
  | .eql, .c (.d (.bool a)), .c (.d (.bool b)) => if T.k t = .bool then some (.bool (a == b)) else none
  | .neq, .c (.d (.bool a)), .c (.d (.bool b)) => if T.k t = .bool then some (.bool (!(a == b))) else none
  | .eql, .c .nilp, .c .nilp => if (T.k t).isPtr = true then some (.bool true) else none
  | .neq, .c .nilp, .c .nilp => if (T.k t).isPtr = true then some (.bool false) else none
  | .eql, .c (.ptr _ _), .c .nilp => if (T.k t).isPtr = true then some (.bool false) else none
  | .neq, .c (.ptr _ _), .c .nilp => if (T.k t).isPtr = true then some (.bool true) else none
  | .eql, .c (.eptr _ _), .c .nilp => if (T.k t).isPtr = true then some (.bool false) else none
  | .neq, .c (.eptr _ _), .c .nilp => if (T.k t).isPtr = true then some (.bool true) else none
  | _, _, _ => none
def qpd (P : Program) (T : Ty) (op : BinOp) (t : TypeId) (xs ys : List C) : Option D :=
  match op with
  | .eql => (eqR P T 5 t (.agg xs) (.agg ys)).bind fun b => some (.bool b)
  | .neq => (eqR P T 5 t (.agg xs) (.agg ys)).bind fun b => some (.bool (!b))
  | _ => none
def qrL (P : Program) (T : Ty) (s : S) (op : BinOp) (t : TypeId) (x y : Operand) : RS :=
  match s.ev x, s.ev y with
  | .c (.d (.int k a)), .c (.d (.int k' b)) => if (qrz op || decide (k = k')) = true then (qaH op k a b).bind fun d => some (.c (.d d), s) else none
  | .c (.d (.str a)), .c (.d (.str b)) => (qld op a b).bind fun d => some (.c (.d d), s)
  | .agg xs, .agg ys => (qpd P T op t xs ys).bind fun d => some (.c (.d d), s)
  | u, v => (qo4 T op t u v).bind fun d => some (.c (.d d), s)
def xUn (s : S) (op : UnOp) (x : Operand) : RS :=
  match op, s.ev x with
  | .not, .c (.d (.bool b)) => some (.c (.d (.bool (!b))), s)
  | .neg, .c (.d (.int k n)) => some (.c (.d (.int k (k.wrap (0 - n)))), s)
  | _, _ => none
def Kd.isSl : Kd → Bool
  | .sl _ => true
  | _ => false
def qrB (T : Ty) (s : S) (t : TypeId) (x : Operand) : RS :=
  match s.ev x with
  | .c (.d (.str b)) => if T.k t = .str then some (.c (.d (.int .i64 b.size)), s) else none
  | .c (.d (.sl _ n _)) => if (T.k t).isSl = true then some (.c (.d (.int .i64 n)), s) else none
  | .c (.own _ _ _ n) => if (T.k t).isSl = true then some (.c (.d (.int .i64 n)), s) else none
  | .c .nils => if (T.k t).isSl = true then some (.c (.d (.int .i64 0)), s) else none
  | .agg _ => match T.k t with | .arr n _ => some (.c (.d (.int .i64 n)), s) | _ => none
  | _ => none
def qsd (s : S) (x y : Operand) : RS :=
  match s.ev x, s.ev y with
  | .c (.d (.int k m)), .c (.d (.int _ n)) => some (.c (.d (.int k (min m n))), s)
  | _, _ => none
def qrt (s : S) (x y : Operand) : RS :=
  match s.ev x, s.ev y with
  | .c (.d (.int k m)), .c (.d (.int _ n)) => some (.c (.d (.int k (max m n))), s)
  | _, _ => none
def qgV (T : Ty) (s : S) (t t' : TypeId) (x : Operand) : RS :=
  match T.k t, T.k t', s.ev x with
  | .int _, .int k, .c (.d (.int _ n)) => some (.c (.d (.int k (k.wrap n))), s)
  | .str, .str, .c (.d (.str b)) => some (.c (.d (.str b)), s)
  | .str, .sl e, .c (.d (.str b)) => if T.k e = .int .u8 then (if b.size ≤ 4611686018427387903 then some (.c (.d (.sl 1 b.size (u8s b.data.toList))), s) else none) else none
  | .sl e, .str, .c (.own id sz off n) => if T.k e = .int .u8 ∧ sz = 1 then (qjU (((s.blk id).cells.drop off).take n)).bind fun ns => if ns.length = n then some (.c (.d (.str (qbT ns))), s) else none else none
  | .sl e, .str, .c (.d (.sl sz _ cs)) => if T.k e = .int .u8 ∧ sz = 1 then (qe3 cs).bind fun ns => some (.c (.d (.str (qbT ns))), s) else none
  | .sl e, .str, .c .nils => if T.k e = .int .u8 then some (.c (.d (.str ⟨#[]⟩)), s) else none
  | _, _, _ => none
def q8r (T : Ty) (s : S) (t : TypeId) (x : Operand) (lo hi mx : Option Operand) : RS :=
  match mx, s.ev x, T.k t with
  | none, .c (.d (.str b)), .str =>
    match s.bd lo 0, s.bd hi b.size with
    | some l, some h => if 0 ≤ l ∧ l ≤ h ∧ h ≤ b.size then some (.c (.d (.str (b.extract l.toNat h.toNat))), s) else none
    | _, _ => none
  | none, .c (.d (.sl sz n cs)), .sl e =>
    if T.k e ≠ .other ∧ T.sz e = sz then
      match s.bd lo 0, s.bd hi n with
      | some l, some h => if 0 ≤ l ∧ l ≤ h ∧ h ≤ n then some (.c (.d (.sl sz (h.toNat - l.toNat) ((cs.drop (l.toNat * sz)).take ((h.toNat - l.toNat) * sz)))), s) else none
      | _, _ => none
    else none
  | none, .c (.own id sz off n), .sl e =>
    if T.k e ≠ .other ∧ T.sz e = sz then
      match s.bd lo 0, s.bd hi n with
      | some l, some h => if 0 ≤ l ∧ l ≤ h ∧ h ≤ n then (if l = 0 ∨ l < n then some (.c (.own id sz (off + l.toNat) (h.toNat - l.toNat)), s) else some (.c (.d (.sl sz 0 [])), s)) else none
      | _, _ => none
    else none
  | none, .c .nils, .sl e =>
    if T.k e ≠ .other then
      match s.bd lo 0, s.bd hi 0 with
      | some l, some h => if l = 0 ∧ h = 0 then some (.c .nils, s) else none
      | _, _ => none
    else none
  | _, _, _ => none
def qaA (T : Ty) (s : S) (t : TypeId) (x : Operand) (f : Nat) : RS :=
  match s.ev x with
  | .agg xs => match T.foff t f with | some (fo, ft) => (ld T xs fo ft).bind fun r => some (r, s) | none => none
  | _ => none
def qa7 (T : Ty) (s : S) (t : TypeId) (x y : Operand) : RS :=
  match s.ev y, s.ev x, T.k t with
  | .c (.d (.int _ i)), .agg xs, .arr n e => if T.k e ≠ .other then (if 0 ≤ i ∧ i < n then (ld T xs (i.toNat * T.sz e) e).bind fun r => some (r, s) else none) else none
  | .c (.d (.int _ i)), .c (.d (.str b)), .str => if 0 ≤ i then (b.data.toList[i.toNat]?).bind fun c => some (.c (.d (.int .u8 c.toNat)), s) else none
  | _, _, _ => none
def qax (T : Ty) (s : S) (t : TypeId) (parts : List (Nat × Operand)) : RS :=
  match T.k t with
  | .st fs => if fs.all (fun f => decide (T.k f.2 ≠ .other)) = true then (bld s (J6 T t) parts (T.zero t)).bind fun cs => some (.agg cs, s) else none
  | .arr _ e => if T.k e ≠ .other then (bld s (fun i => some (i * T.sz e, T.sz e)) parts (T.zero t)).bind fun cs => some (.agg cs, s) else none
  | _ => none
def J4 (T : Ty) (s : S) (t : TypeId) (len : Nat) (parts : List (Nat × Operand)) : RS :=
  match T.k t with
  | .sl e => if T.k e ≠ .other ∧ 0 < T.sz e ∧ len * T.sz e ≤ 16777216 then (bld s (fun i => some (i * T.sz e, T.sz e)) parts (List.replicate (len * T.sz e) .any)).bind fun cs => some (.c (.own s.nx (T.sz e) 0 len), s.up [(s.nx, .row e (T.sz e) cs)]) else none
  | _ => none
def q3e (s : S) (f : Fn) (first captured : List Operand) : RS :=
  match f with
  | .func g => (first.mapM s.cell1).bind fun fs => (captured.mapM s.cell1).bind fun caps => some (.c (.fn g fs caps), s)
  | _ => none
def qbJ (T : Ty) (s : S) (t : TypeId) (x y : Operand) : RS :=
  match s.ev x, s.ev y, T.k t with
  | .c (.d (.int _ l)), .c (.d (.int _ c)), .sl e =>
    if T.k e ≠ .other ∧ 0 < T.sz e ∧ (T.zero e).length = T.sz e then
      (if 0 ≤ l ∧ l ≤ c ∧ (T.by_ e : Int) * c ≤ 281474976710656 ∧ c ≤ 9223372036854775807 then some (.c (.own s.nx (T.sz e) 0 l.toNat), s.up [(s.nx, .row e (T.sz e) (List.replicate l.toNat (T.zero e)).flatten)]) else none)
    else none
  | _, _, _ => none
def q2I (T : Ty) (s : S) (t : TypeId) (x y : Operand) : RS :=
  match T.k t, s.seq y with
  | .sl e, some (m, ys) =>
    if T.k e ≠ .other ∧ 0 < T.sz e ∧ (T.zero e).length = T.sz e ∧ ys.all C.known = true ∧ ys.length = m * T.sz e then
      match s.ev x with
      | .c (.own id sz off n) =>
        match s.blk id with
        | .row e' sz' cs =>
          if e' = e ∧ sz' = sz ∧ sz = T.sz e ∧ off = 0 ∧ cs.length = n * sz ∧ cs.all (C.far id) = true ∧ ys.all (C.far id) = true then
            (if n + m ≤ maxLen ∧ (n + m) * T.by_ e ≤ 140737488355328 then some (.c (.own id sz 0 (n + m)), (s.fg id).up [(id, .row e sz (cs ++ ys))]) else none)
          else none
        | _ => none
      | .c .nils => if ys.all (C.far s.nx) = true then (if m ≤ maxLen ∧ m * T.by_ e ≤ 140737488355328 then some (.c (.own s.nx (T.sz e) 0 m), (s.fg s.nx).up [(s.nx, .row e (T.sz e) ys)]) else none) else none
      | _ => none
    else none
  | _, _ => none
section
variable {P : Program} {T : Ty} {s s' : S} {r : R} {K : KK}
theorem qhe {c x y : Operand} (h : qga s c x y = some (r, s')) (hK : K r s') : q6I s c x y K := by
  unfold qga at h; unfold q6I
  split at h
  · rename_i t ht
    simp only [ht]
    split at h
    · rename_i hb; subst hb; injection h with h; injection h with h1 h2; subst h1 h2; exact hK
    · rename_i hb; cases t
      · injection h with h; injection h with h1 h2; subst h1 h2; exact hK
      · exact absurd rfl hb
  · cases h
theorem zC {α β : Type} {o : Option α} {f : α → Option β} {b : β} (h : o.bind f = some b) : ∃ a, o = some a ∧ f a = some b := Option.bind_eq_some_iff.1 h
theorem zU {a c : R} {b d : S} (h : some (a, b) = some (c, d)) : a = c ∧ b = d := by injection h with h; injection h with h1 h2; exact ⟨h1, h2⟩
theorem qgd {t : TypeId} {x : Operand} (h : qgF T s t x = some (r, s')) (hK : K r s') : q6P T s t x K := by
  unfold qgF at h; unfold q6P
  split at h
  · rename_i hx; simp only [hx]; obtain ⟨a, h1, h2⟩ := zC h; obtain ⟨rfl, rfl⟩ := zU h2; exact ⟨_, h1, hK⟩
  · rename_i hx; simp only [hx]; obtain ⟨a, h1, h2⟩ := zC h; obtain ⟨rfl, rfl⟩ := zU h2; exact ⟨_, h1, hK⟩
  · cases h
theorem qfk {t : TypeId} (h : qaX T s t = some (r, s')) (hK : K r s') : q7z T s s.nx t K := by
  unfold qaX at h
  split at h
  · cases h
  · rename_i hn; obtain ⟨rfl, rfl⟩ := zU h; exact ⟨hn, hK⟩
theorem qkN {t : TypeId} {x : Operand} (h : qrv s t x = some (r, s')) (hK : K r s') : qhq s s.nx t x K := by
  unfold qrv at h
  split at h
  · rename_i cs hcs
    split at h
    · rename_i hk; obtain ⟨rfl, rfl⟩ := zU h; exact ⟨cs, hcs, hk, hK⟩
    · cases h
  · cases h
theorem q7Z {t : TypeId} {x y : Operand} (h : q2k T s t x y = some (r, s')) (hK : K r s') : q5y T s t x y K := by
  unfold q2k at h; unfold q5y
  split at h
  · rename_i hx; simp only [hx]; split at h
    · rename_i ys hys
      split at h
      · rename_i hc; obtain ⟨rfl, rfl⟩ := zU h; exact ⟨ys, hys, hc.1, hc.2.1, hc.2.2.1, hc.2.2.2.1, hc.2.2.2.2, hK⟩
      · cases h
    · cases h
  · cases h
theorem q7Q {t : TypeId} {x : Operand} {f : Nat} (h : q1O T s t x f = some (r, s')) (hK : K r s') : JS T s t x f K := by
  unfold q1O at h; unfold JS
  split at h
  · rename_i fo ft hf
    split at h
    · rename_i hc
      refine ⟨fo, ft, hf, hc.1, hc.2, ?_⟩
      split at h
      · rename_i hx; simp only [hx]; obtain ⟨rfl, rfl⟩ := zU h; exact hK
      · rename_i hx; simp only [hx]; obtain ⟨rfl, rfl⟩ := zU h; exact hK
      · cases h
    · cases h
  · cases h
theorem q7t {t : TypeId} {x y : Operand} (h : q1Q T s t x y = some (r, s')) (hK : K r s') : J2 T s t x y K := by
  unfold q1Q at h; unfold J2
  split at h
  · rename_i h1 h2 h3
    split at h
    · rename_i hc
      split at h
      · rename_i hb; obtain ⟨rfl, rfl⟩ := zU h; simp only [h1, h2]; exact ⟨_, h3, hc.1, hc.2, hb.1, hb.2, hK⟩
      · cases h
    · cases h
  · rename_i h1 h2 h3
    split at h
    · rename_i hc
      split at h
      · rename_i hb; obtain ⟨rfl, rfl⟩ := zU h; simp only [h1, h2]; exact ⟨_, h3, hc.1, hc.2, hb.1, hb.2, hK⟩
      · cases h
    · cases h
  · rename_i h1 h2 h3
    split at h
    · rename_i hc
      split at h
      · rename_i hb; obtain ⟨rfl, rfl⟩ := zU h; simp only [h1, h2]; exact ⟨_, _, h3, hc, hb.1, hb.2, hK⟩
      · cases h
    · cases h
  · cases h
theorem q9U {x : Operand} {i : Nat} (h : q4Z s x i = some (r, s')) (hK : K r s') : q0w s x i K := by
  unfold q4Z at h; unfold q0w
  split at h
  · rename_i hx; simp only [hx]; obtain ⟨a, h1, h2⟩ := zC h; obtain ⟨rfl, rfl⟩ := zU h2; exact ⟨_, h1, hK⟩
  · cases h
theorem q8d {x : Operand} (h : q2K s x = some (r, s')) (hK : K r s') : JH s x K := by
  unfold q2K at h; unfold JH
  split at h
  · rename_i hx; simp only [hx]; obtain ⟨rfl, rfl⟩ := zU h; exact hK
  · rename_i hx; simp only [hx]; obtain ⟨rfl, rfl⟩ := zU h; exact hK
  · rename_i hx; simp only [hx]; obtain ⟨rfl, rfl⟩ := zU h; exact hK
  · cases h
theorem qkx {op : BinOp} {k : IntKind} {a b : Int} {d : D} {K : R → Prop} (h : qaH op k a b = some d) (hK : K (.c (.d d))) : q8F op k a b K := by
  unfold qaH at h; unfold q8F
  cases op <;> simp only at h ⊢ <;> first
    | (injection h with h; subst h; exact hK)
    | (split at h <;> first | (cases h; done) | (injection h with h; subst h; exact ⟨by assumption, hK⟩))
theorem qjC {op : BinOp} {a b : ByteArray} {d : D} {K : R → Prop} (h : qld op a b = some d) (hK : K (.c (.d d))) : q7T op a b K := by
  unfold qld at h; unfold q7T
  cases op <;> simp only at h ⊢ <;> first
    | (injection h with h; subst h; exact hK)
    | (split at h <;> first | (cases h; done) | (injection h with h; subst h; exact ⟨by assumption, hK⟩))
    | cases h
theorem qfF {k : Kd} (h : k.isPtr = true) : ∃ e, k = .ptr e := by cases k <;> simp [Kd.isPtr] at h; exact ⟨_, rfl⟩
theorem q9W {k : Kd} (h : k.isSl = true) : ∃ e, k = .sl e := by cases k <;> simp [Kd.isSl] at h; exact ⟨_, rfl⟩
theorem qjd {op : BinOp} {t : TypeId} {x y : R} {d : D} {K : R → Prop} (h : qo4 T op t x y = some d) (hK : K (.c (.d d))) : q8T T op t x y K := by
  unfold qo4 at h; unfold q8T
  split at h <;> first
    | (cases h; done)
    | (split at h
       · injection h with h; subst h; first | exact ⟨by assumption, hK⟩ | exact ⟨qfF (by assumption), hK⟩
       · cases h)
theorem ql5 {op : BinOp} {t : TypeId} {xs ys : List C} {d : D} {K : R → Prop} (h : qpd P T op t xs ys = some d) (hK : K (.c (.d d))) : q8x P T op t xs ys K := by
  unfold qpd at h; unfold q8x
  split at h
  · obtain ⟨b, h1, h2⟩ := zC h; injection h2 with h2; subst h2; exact ⟨b, h1, hK⟩
  · obtain ⟨b, h1, h2⟩ := zC h; injection h2 with h2; subst h2; exact ⟨b, h1, hK⟩
  · cases h
theorem qlN {op : BinOp} {t : TypeId} {x y : Operand} (h : qrL P T s op t x y = some (r, s')) (hK : K r s') : qbZ P T s op t x y K := by
  unfold qrL at h; unfold qbZ
  split at h
  · rename_i h1 h2
    simp only [h1, h2]
    split at h
    · rename_i hc
      obtain ⟨d, h3, h4⟩ := zC h; obtain ⟨rfl, rfl⟩ := zU h4
      exact ⟨by simpa using hc, qkx (K := fun r => K r s) h3 hK⟩
    · cases h
  · rename_i h1 h2
    simp only [h1, h2]
    obtain ⟨d, h3, h4⟩ := zC h; obtain ⟨rfl, rfl⟩ := zU h4
    exact qjC (K := fun r => K r s) h3 hK
  · rename_i h1 h2
    simp only [h1, h2]
    obtain ⟨d, h3, h4⟩ := zC h; obtain ⟨rfl, rfl⟩ := zU h4
    exact ql5 (K := fun r => K r s) h3 hK
  · rename_i n1 n2 n3
    obtain ⟨d, h3, h4⟩ := zC h; obtain ⟨rfl, rfl⟩ := zU h4
    have := qjd (K := fun r => K r s) h3 hK
    split
    · rename_i h1 h2; exact (n1 _ _ _ _ h1 h2).elim
    · rename_i h1 h2; exact (n2 _ _ h1 h2).elim
    · rename_i h1 h2; exact (n3 _ _ h1 h2).elim
    · exact this
theorem qml {op : UnOp} {x : Operand} (h : xUn s op x = some (r, s')) (hK : K r s') : qmb s op x K := by
  unfold xUn at h; unfold qmb
  split at h
  · rename_i h1; obtain ⟨rfl, rfl⟩ := zU h; simp only [h1]; exact hK
  · rename_i h1; obtain ⟨rfl, rfl⟩ := zU h; simp only [h1]; exact hK
  · cases h
theorem qla {t : TypeId} {x : Operand} (h : qrB T s t x = some (r, s')) (hK : K r s') : qc6 T s t x K := by
  unfold qrB at h; unfold qc6
  split at h
  · rename_i hx; simp only [hx]; split at h
    · rename_i hc; obtain ⟨rfl, rfl⟩ := zU h; exact ⟨hc, hK⟩
    · cases h
  · rename_i hx; simp only [hx]; split at h
    · rename_i hc; obtain ⟨rfl, rfl⟩ := zU h; exact ⟨q9W hc, hK⟩
    · cases h
  · rename_i hx; simp only [hx]; split at h
    · rename_i hc; obtain ⟨rfl, rfl⟩ := zU h; exact ⟨q9W hc, hK⟩
    · cases h
  · rename_i hx; simp only [hx]; split at h
    · rename_i hc; obtain ⟨rfl, rfl⟩ := zU h; exact ⟨q9W hc, hK⟩
    · cases h
  · rename_i hx; simp only [hx]; split at h
    · rename_i n e hc; obtain ⟨rfl, rfl⟩ := zU h; exact ⟨n, e, hc, hK⟩
    · cases h
  · cases h
theorem qiU {x y : Operand} (h : qsd s x y = some (r, s')) (hK : K r s') : qbA s x y K := by
  unfold qsd at h; unfold qbA
  split at h
  · rename_i h1 h2; obtain ⟨rfl, rfl⟩ := zU h; simp only [h1, h2]; exact hK
  · cases h
theorem qjN {x y : Operand} (h : qrt s x y = some (r, s')) (hK : K r s') : qbK s x y K := by
  unfold qrt at h; unfold qbK
  split at h
  · rename_i h1 h2; obtain ⟨rfl, rfl⟩ := zU h; simp only [h1, h2]; exact hK
  · cases h
theorem qge {t t' : TypeId} {x : Operand} (h : qgV T s t t' x = some (r, s')) (hK : K r s') : q6N T s t t' x K := by
  unfold qgV at h; unfold q6N
  split at h
  · rename_i h1 h2 h3; obtain ⟨rfl, rfl⟩ := zU h; simp only [h1, h2, h3]; exact hK
  · rename_i h1 h2 h3; obtain ⟨rfl, rfl⟩ := zU h; simp only [h1, h2, h3]; exact hK
  · rename_i h1 h2 h3
    simp only [h1, h2, h3]
    split at h
    · rename_i hc
      split at h
      · rename_i hb; obtain ⟨rfl, rfl⟩ := zU h; exact ⟨hc, hb, hK⟩
      · cases h
    · cases h
  · rename_i h1 h2 h3
    simp only [h1, h2, h3]
    split at h
    · rename_i hc
      obtain ⟨ns, h4, h5⟩ := zC h
      split at h5
      · rename_i hb; obtain ⟨rfl, rfl⟩ := zU h5; exact ⟨hc.1, hc.2, ns, h4, hb, hK⟩
      · cases h5
    · cases h
  · rename_i h1 h2 h3
    simp only [h1, h2, h3]
    split at h
    · rename_i hc
      obtain ⟨ns, h4, h5⟩ := zC h
      obtain ⟨rfl, rfl⟩ := zU h5; exact ⟨hc.1, hc.2, ns, h4, hK⟩
    · cases h
  · rename_i h1 h2 h3
    simp only [h1, h2, h3]
    split at h
    · rename_i hc; obtain ⟨rfl, rfl⟩ := zU h; exact ⟨hc, hK⟩
    · cases h
  · cases h
theorem qet {t : TypeId} {x : Operand} {lo hi mx : Option Operand} (h : q8r T s t x lo hi mx = some (r, s')) (hK : K r s') : q3D T s t x lo hi mx K := by
  unfold q8r at h; unfold q3D
  split at h
  · rename_i h1 h2
    simp only [h1]
    split at h
    · rename_i l u h3 h4
      split at h
      · rename_i hc; obtain ⟨rfl, rfl⟩ := zU h; exact ⟨h2, trivial, l, u, h3, h4, hc.1, hc.2.1, hc.2.2, hK⟩
      · cases h
    · cases h
  · rename_i h1 h2
    simp only [h1]
    split at h
    · rename_i hq
      split at h
      · rename_i l u h3 h4
        split at h
        · rename_i hc; obtain ⟨rfl, rfl⟩ := zU h; exact ⟨_, h2, hq.1, hq.2, trivial, l, u, h3, h4, hc.1, hc.2.1, hc.2.2, hK⟩
        · cases h
      · cases h
    · cases h
  · rename_i h1 h2
    simp only [h1]
    split at h
    · rename_i hq
      split at h
      · rename_i l u h3 h4
        split at h
        · rename_i hc
          refine ⟨_, h2, hq.1, hq.2, trivial, l, u, h3, h4, hc.1, hc.2.1, hc.2.2, fun hx => ?_, fun hx => ?_⟩
          · rw [if_pos hx] at h; obtain ⟨rfl, rfl⟩ := zU h; exact hK
          · rw [if_neg hx] at h; obtain ⟨rfl, rfl⟩ := zU h; exact hK
        · cases h
      · cases h
    · cases h
  · rename_i h1 h2
    simp only [h1]
    split at h
    · rename_i hq
      split at h
      · rename_i l u h3 h4
        split at h
        · rename_i hc; obtain ⟨rfl, rfl⟩ := zU h; exact ⟨_, h2, hq, trivial, hc.1 ▸ h3, hc.2 ▸ h4, hK⟩
        · cases h
      · cases h
    · cases h
  · cases h
theorem qeR {t : TypeId} {x : Operand} {f : Nat} (h : qaA T s t x f = some (r, s')) (hK : K r s') : q4i T s t x f K := by
  unfold qaA at h; unfold q4i
  split at h
  · rename_i hx; simp only [hx]; split at h
    · rename_i fo ft hf
      obtain ⟨q, h1, h2⟩ := zC h; obtain ⟨rfl, rfl⟩ := zU h2; exact ⟨fo, ft, _, hf, h1, hK⟩
    · cases h
  · cases h
theorem qdp {t : TypeId} {x y : Operand} (h : qa7 T s t x y = some (r, s')) (hK : K r s') : q3I T s t x y K := by
  unfold qa7 at h; unfold q3I
  split at h
  · rename_i h1 h2 h3
    simp only [h1, h2]
    split at h
    · rename_i hq
      split at h
      · rename_i hb
        obtain ⟨q, h4, h5⟩ := zC h; obtain ⟨rfl, rfl⟩ := zU h5; exact ⟨_, _, _, h3, hq, hb.1, hb.2, h4, hK⟩
      · cases h
    · cases h
  · rename_i h1 h2 h3
    simp only [h1, h2]
    split at h
    · rename_i hb
      obtain ⟨q, h4, h5⟩ := zC h; obtain ⟨rfl, rfl⟩ := zU h5; exact ⟨h3, hb, q, h4, hK⟩
    · cases h
  · cases h
theorem qf1 {t : TypeId} {parts : List (Nat × Operand)} (h : qax T s t parts = some (r, s')) (hK : K r s') : q3z T s t parts K := by
  unfold qax at h; unfold q3z
  split at h
  · rename_i fs hk
    simp only [hk]
    split at h
    · rename_i hc
      obtain ⟨q, h4, h5⟩ := zC h; obtain ⟨rfl, rfl⟩ := zU h5; exact ⟨hc, q, h4, hK⟩
    · cases h
  · rename_i fs hk
    simp only [hk]
    split at h
    · rename_i hc
      obtain ⟨q, h4, h5⟩ := zC h; obtain ⟨rfl, rfl⟩ := zU h5; exact ⟨hc, q, h4, hK⟩
    · cases h
  · cases h
theorem q6n {t : TypeId} {len : Nat} {parts : List (Nat × Operand)} (h : J4 T s t len parts = some (r, s')) (hK : K r s') : Jh T s s.nx t len parts K := by
  unfold J4 at h; unfold Jh
  split at h
  · rename_i e hk
    split at h
    · rename_i hc
      obtain ⟨q, h4, h5⟩ := zC h; obtain ⟨rfl, rfl⟩ := zU h5; exact ⟨e, hk, hc.1, hc.2.1, hc.2.2, q, h4, hK⟩
    · cases h
  · cases h
theorem q8W {f : Fn} {first captured : List Operand} (h : q3e s f first captured = some (r, s')) (hK : K r s') : JG s f first captured K := by
  unfold q3e at h; unfold JG
  split at h
  · obtain ⟨q, h4, h5⟩ := zC h
    obtain ⟨q', h6, h7⟩ := zC h5
    obtain ⟨rfl, rfl⟩ := zU h7; exact ⟨q, q', h4, h6, hK⟩
  · cases h
theorem qaO {t : TypeId} {x y : Operand} (h : qbJ T s t x y = some (r, s')) (hK : K r s') : q6u T s s.nx t x y K := by
  unfold qbJ at h; unfold q6u
  split at h
  · rename_i h1 h2 h3
    simp only [h1, h2]
    split at h
    · rename_i hc
      split at h
      · rename_i hb; obtain ⟨rfl, rfl⟩ := zU h; exact ⟨_, h3, hc.1, hc.2.1, hc.2.2, hb.1, hb.2.1, hb.2.2.1, hb.2.2.2, hK⟩
      · cases h
    · cases h
  · cases h
theorem q42 {t : TypeId} {x y : Operand} (h : q2I T s t x y = some (r, s')) (hK : K r s') : q3x T s s.nx t x y K := by
  unfold q2I at h; unfold q3x
  split at h
  · rename_i e m ys h1 h2
    split at h
    · rename_i hc
      refine ⟨e, m, ys, h1, hc.1, hc.2.1, hc.2.2.1, h2, hc.2.2.2.1, hc.2.2.2.2, ?_⟩
      split at h
      · rename_i id sz off n hx
        simp only [hx]
        split at h
        · rename_i e' sz' cs hb
          split at h
          · rename_i hq
            obtain ⟨rfl, rfl, q1, q2, q3, q4, q5⟩ := hq
            split at h
            · rename_i hz; obtain ⟨rfl, rfl⟩ := zU h; exact ⟨q1, q2, cs, hb, q3, q4, q5, hz.1, hz.2, hK⟩
            · cases h
          · cases h
        · cases h
      · rename_i hx
        simp only [hx]
        split at h
        · rename_i hq
          split at h
          · rename_i hz; obtain ⟨rfl, rfl⟩ := zU h; exact ⟨hq, hz.1, hz.2, hK⟩
          · cases h
        · cases h
      · cases h
    · cases h
  · cases h
end
end Go.Proofs.YtplfjlcnffcenaaGreat.Vc
namespace Go.Proofs.YtplfjlcnffcenaaGreat.Vc
open Go.RowKit
def q76 : List C → Option (List D)
  | [] => some []
  | .d x :: r => (q76 r).bind fun l => some (x :: l)
  | _ :: _ => none
theorem q7A : ∀ {cs : List C} {ds : List D}, q76 cs = some ds → cs = ds.map C.d
  | [], ds, h => by injection h with h; subst h; rfl
  | c :: r, ds, h => by
    unfold q76 at h
    split at h
    · rename_i heq; cases heq
    · rename_i x r' heq
      injection heq with h1 h2
      subst h1 h2
      obtain ⟨l, h3, h4⟩ := Option.bind_eq_some_iff.1 h
      injection h4 with h4
      subst h4
      rw [q7A h3]; rfl
    · cases h
theorem q1z : ∀ (ds : List D), q76 (ds.map C.d) = some ds
  | [] => rfl
  | x :: l => by simp only [List.map_cons, q76, q1z l, Option.bind_some]
def pos (i : Nat) : List Nat → Option Nat
  | [] => none
  | j :: r => if j = i then some 0 else (pos i r).bind fun k => some (k + 1)
theorem q5L {i : Nat} : ∀ {l : List Nat} {j : Nat}, pos i l = some j → l[j]? = some i
  | [], j, h => by cases h
  | x :: r, j, h => by
    unfold pos at h
    split at h
    · rename_i hx; injection h with h; subst h hx; rfl
    · obtain ⟨k, h1, h2⟩ := Option.bind_eq_some_iff.1 h
      injection h2 with h2
      subst h2
      rw [List.getElem?_cons_succ]
      exact q5L h1
def vis (cs : List C) (sz o n : Nat) : Option (List C) := if o = 0 ∧ cs.length = n * sz then some cs else if o * sz + n * sz ≤ cs.length then some ((cs.drop (o * sz)).take (n * sz)) else none
theorem qiD {cs : List C} {sz o n : Nat} {l : List C} (h : vis cs sz o n = some l) : (cs.drop (o * sz)).take (n * sz) = l ∧ l.length = n * sz := by
  unfold vis at h
  split at h
  · rename_i hc
    injection h with h
    obtain ⟨rfl, h2⟩ := hc
    subst h
    simp [← h2]
  · split at h
    · rename_i hc
      injection h with h
      subst h
      refine ⟨rfl, ?_⟩
      simp; omega
    · cases h
def cv0 (s : S) (sel ln : List Nat) (z : Nat) : C → Option C
  | .d x => some (.d x)
  | .nilp => some .nilp
  | .nilf => some .nilf
  | .nilm => some .nilm
  | .nils => if z = 0 then some .nils else some (.d (.sl z 0 []))
  | .eptr cs o => some (.eptr cs o)
  | .any => some .any
  | .ptr i o => (pos i sel).bind fun j => some (.ptr j o)
  | .hd k i => (pos i sel).bind fun j => some (.hd k j)
  | .own i sz o n =>
    match pos i sel with
    | some j => some (.own j sz o n)
    | none => if ln.contains i = true then (vis (s.blk i).cells sz o n).bind fun v => (q76 v).bind fun ds => some (.d (.sl sz n ds)) else none
  | .fn _ _ _ => none
def qfq (s : S) (sel ln : List Nat) : List C → Option (List C)
  | [] => some []
  | x :: r => (cv0 s sel ln 0 x).bind fun y => (qfq s sel ln r).bind fun l => some (y :: l)
def cv (s : S) (sel ln : List Nat) (z : Nat) : C → Option C
  | .fn f fs caps => (qfq s sel ln fs).bind fun fs' => (qfq s sel ln caps).bind fun caps' => some (.fn f fs' caps')
  | c => cv0 s sel ln z c
def cvL (s : S) (sel ln : List Nat) : List Nat → List C → Option (List C)
  | _, [] => some []
  | zs, x :: r => (cv s sel ln (zs.headD 0) x).bind fun y => (cvL s sel ln zs.tail r).bind fun l => some (y :: l)
def cvR (s : S) (sel ln : List Nat) (zs : List Nat) : R → Option R
  | .c x => (cv s sel ln (zs.headD 0) x).bind fun y => some (.c y)
  | .agg xs => (cvL s sel ln zs xs).bind fun ys => some (.agg ys)
  | .any => some .any
  | .tup _ => none
def qce (s : S) (sel ln : List Nat) : List (List Nat) → List R → Option (List R)
  | _, [] => some []
  | zs, x :: r => (cvR s sel ln (zs.headD []) x).bind fun y => (qce s sel ln zs.tail r).bind fun l => some (y :: l)
def qfp (s : S) (sel : List Nat) (r : R) : R := (cvR s sel [] [] r).getD .any
def cvA (s : S) (sel : List Nat) : AO → Option AO
  | .mp es ck => some (.mp (es.map fun e => (e.1, qfp s sel e.2.1, e.2.2)) ck)
  | .lp f tm ps a b st p => some (.lp f (tm.map (qfp s sel)) ps a b st p)
  | .si t p => some (.si t p)
  | .df => some .df
def cvB (s : S) (sel : List Nat) : B → Option B
  | .blk t cs => (cvL s sel [] [] cs).bind fun ys => some (.blk t ys)
  | .row e sz cs => if cs.all C.dat = true then some (.row e sz cs) else none
  | .ob o => (cvA s sel o).bind fun o' => some (.ob o')
  | .dead => none
def cvG (s : S) (sel : List Nat) : List Nat → Nat → Option (List (Nat × B))
  | [], _ => some []
  | i :: l, j => (cvB s sel (s.blk i)).bind fun b => (cvG s sel l (j + 1)).bind fun G => some ((j, b) :: G)
section
variable {s : S} {sel ln : List Nat}
theorem qhF {z : Nat} {x y : C} (h : cv0 s sel ln z x = some y) : CR s sel ln x y := by
  unfold cv0 at h
  split at h
  · injection h with h; subst h; exact .dat _ rfl
  · injection h with h; subst h; exact .dat _ rfl
  · injection h with h; subst h; exact .dat _ rfl
  · injection h with h; subst h; exact .dat _ rfl
  · split at h
    · injection h with h; subst h; exact .dat _ rfl
    · injection h with h; subst h; exact .nils _
  · injection h with h; subst h; exact .dat _ rfl
  · injection h with h; subst h; exact .any _
  · obtain ⟨j, h1, h2⟩ := Option.bind_eq_some_iff.1 h
    injection h2 with h2; subst h2
    exact .ptr _ _ _ (q5L h1)
  · obtain ⟨j, h1, h2⟩ := Option.bind_eq_some_iff.1 h
    injection h2 with h2; subst h2
    exact .hd _ _ _ (q5L h1)
  · split at h
    · rename_i j hj
      injection h with h; subst h
      exact .own _ _ _ _ _ (q5L hj)
    · split at h
      · rename_i hc
        obtain ⟨v, h1, h2⟩ := Option.bind_eq_some_iff.1 h
        obtain ⟨ds, h3, h4⟩ := Option.bind_eq_some_iff.1 h2
        injection h4 with h4; subst h4
        obtain ⟨h5, h6⟩ := qiD h1
        have h7 := q7A h3
        refine .lend _ _ _ _ _ (by simpa using hc) (h5.trans h7) ?_
        rw [h7] at h6; simpa using h6
      · cases h
  · cases h
theorem q9d : ∀ {xs ys : List C}, qfq s sel ln xs = some ys → PW (CR s sel ln) xs ys
  | [], ys, h => by injection h with h; subst h; exact PW.nil
  | x :: r, ys, h => by
    unfold qfq at h
    obtain ⟨y, h1, h2⟩ := Option.bind_eq_some_iff.1 h
    obtain ⟨l, h3, h4⟩ := Option.bind_eq_some_iff.1 h2
    injection h4 with h4; subst h4
    exact PW.cons (qhF h1) (q9d h3)
theorem qrk {z : Nat} {x y : C} (h : cv s sel ln z x = some y) : CR s sel ln x y := by
  unfold cv at h
  split at h
  · obtain ⟨fs', h1, h2⟩ := Option.bind_eq_some_iff.1 h
    obtain ⟨caps', h3, h4⟩ := Option.bind_eq_some_iff.1 h2
    injection h4 with h4; subst h4
    exact CR.fn' (q9d h1) (q9d h3)
  · exact qhF h
theorem qeu : ∀ {zs : List Nat} {xs ys : List C}, cvL s sel ln zs xs = some ys → PW (CR s sel ln) xs ys
  | zs, [], ys, h => by unfold cvL at h; injection h with h; subst h; exact PW.nil
  | zs, x :: r, ys, h => by
    unfold cvL at h
    obtain ⟨y, h1, h2⟩ := Option.bind_eq_some_iff.1 h
    obtain ⟨l, h3, h4⟩ := Option.bind_eq_some_iff.1 h2
    injection h4 with h4; subst h4
    exact PW.cons (qrk h1) (qeu h3)
theorem qdH {zs : List Nat} {x y : R} (h : cvR s sel ln zs x = some y) : AR s sel ln x y := by
  unfold cvR at h
  split at h
  · obtain ⟨y', h1, h2⟩ := Option.bind_eq_some_iff.1 h
    injection h2 with h2; subst h2; exact .c _ _ (qrk h1)
  · obtain ⟨y', h1, h2⟩ := Option.bind_eq_some_iff.1 h
    injection h2 with h2; subst h2; exact AR.agg' (qeu h1)
  · injection h with h; subst h; exact .any _
  · cases h
theorem qcB : ∀ {zs : List (List Nat)} {xs ys : List R}, qce s sel ln zs xs = some ys → ARs s sel ln xs ys
  | zs, [], ys, h => by unfold qce at h; injection h with h; subst h; exact .nil
  | zs, x :: r, ys, h => by
    unfold qce at h
    obtain ⟨y, h1, h2⟩ := Option.bind_eq_some_iff.1 h
    obtain ⟨l, h3, h4⟩ := Option.bind_eq_some_iff.1 h2
    injection h4 with h4; subst h4
    exact .cons _ _ _ _ (qdH h1) (qcB h3)
theorem qeI {r : R} : AR s sel [] r (qfp s sel r) := by
  unfold qfp
  cases h : cvR s sel [] [] r with
  | none => exact .any _
  | some r' => exact qdH h
theorem qms {o o' : AO} (h : cvA s sel o = some o') : AOR s sel o o' := by
  cases o with
  | mp es ck =>
    injection h with h
    subst h
    refine .mp _ _ _ (by simp) (fun j e e' h1 h2 => ?_)
    rw [List.getElem?_map, h1] at h2
    injection h2 with h2
    subst h2
    exact ⟨rfl, rfl, qeI⟩
  | lp f tm ps a b st p =>
    injection h with h
    subst h
    refine .lp _ _ _ _ _ _ _ _ (by simp) (fun j x y h1 h2 => ?_)
    rw [List.getElem?_map, h1] at h2
    injection h2 with h2
    subst h2
    exact qeI
  | si t p => injection h with h; subst h; exact .si _ _
  | df => injection h with h; subst h; exact .df
theorem qmn {x y : B} (h : cvB s sel x = some y) : BR s sel x y := by
  unfold cvB at h
  split at h
  · obtain ⟨y', h1, h2⟩ := Option.bind_eq_some_iff.1 h
    injection h2 with h2; subst h2; exact .blk _ _ _ (qeu h1)
  · split at h
    · rename_i hc; injection h with h; subst h; exact .row _ _ _ _ (PW.dat hc)
    · cases h
  · obtain ⟨o', h1, h2⟩ := Option.bind_eq_some_iff.1 h
    injection h2 with h2; subst h2; exact .ob _ _ (qms h1)
  · cases h
theorem qcJ : ∀ {l : List Nat} {j : Nat} {G : List (Nat × B)}, cvG s sel l j = some G → GR s sel l j G
  | [], j, G, h => by unfold cvG at h; injection h with h; subst h; trivial
  | i :: l, j, G, h => by
    unfold cvG at h
    obtain ⟨y, h1, h2⟩ := Option.bind_eq_some_iff.1 h
    obtain ⟨l', h3, h4⟩ := Option.bind_eq_some_iff.1 h2
    injection h4 with h4; subst h4
    exact ⟨rfl, qmn h1, qcJ h3⟩
end
def C.ref0 : C → List Nat
  | .ptr i _ => [i]
  | .hd _ i => [i]
  | .own i _ _ _ => [i]
  | _ => []
def C.refs : C → List Nat
  | .fn _ fs caps => (fs ++ caps).flatMap C.ref0
  | c => c.ref0
def R.refs0 : R → List Nat
  | .c x => x.refs
  | .agg xs => xs.flatMap C.refs
  | _ => []
def B.refs : B → List Nat
  | .blk _ cs => cs.flatMap C.refs
  | .row _ _ cs => if cs.all C.dat = true then [] else cs.flatMap C.refs
  | .ob o => o.Rs.flatMap R.refs0
  | .dead => []
def R.refs : R → List Nat
  | .c x => x.refs
  | .agg xs => xs.flatMap C.refs
  | .tup rs => rs.flatMap fun r => match r with | .c x => x.refs | .agg xs => xs.flatMap C.refs | _ => []
  | .any => []
def C.rows0 : C → List Nat
  | .own i _ _ _ => [i]
  | _ => []
def C.rows : C → List Nat
  | .fn _ fs caps => (fs ++ caps).flatMap C.rows0
  | c => c.rows0
def R.rows : R → List Nat
  | .c x => x.rows
  | .agg xs => xs.flatMap C.rows
  | _ => []
def C.ptrs0 : C → List Nat
  | .ptr i _ => [i]
  | .hd _ i => [i]
  | _ => []
def C.ptrs : C → List Nat
  | .fn _ fs caps => (fs ++ caps).flatMap C.ptrs0
  | c => c.ptrs0
def R.ptrs : R → List Nat
  | .c x => x.ptrs
  | .agg xs => xs.flatMap C.ptrs
  | _ => []
def q0K (s : S) : Nat → List Nat → List Nat → List Nat
  | 0, _, acc => acc
  | _ + 1, [], acc => acc
  | n + 1, i :: todo, acc => if acc.contains i = true then q0K s n todo acc else q0K s n ((s.blk i).refs ++ todo) (acc ++ [i])
def q99 (s : S) (l : List Nat) : List Nat := l.filter fun i => (s.blk i).isBlk
def q1D (s : S) (l : List Nat) : List Nat := l.filter fun i => !(s.blk i).isBlk
def qjy (ln : List Nat) (r : R) (hp : List (Nat × B)) : Bool := ln.isEmpty || (r.scl && hp.all fun x => x.2.scl)
def ZY (E : Orc) (s : S) (g : FuncId) (zs : List (List Nat)) (rs : List R) (bl rw ln : List Nat) : RS :=
  (qce s (bl ++ rw) ln zs rs).bind fun rs' => (cvG s (bl ++ rw) (bl ++ rw) 0).bind fun G =>
    if (bl ++ rw).all (fun i => (s.blk i).live) = true ∧ (bl ++ rw).Nodup ∧ ln.all (fun i => (s.blk i).live && !(bl ++ rw).contains i) = true ∧ bl.length ≤ G.length ∧ (List.range G.length).all (fun j => (lk G j .dead).isBlk == decide (j < bl.length)) = true then
      (E (.fn g) bl.length rs' G).bind fun q => if qjy ln q.1 q.2 = true then some (q.1.rn (ren (bl ++ rw) s.nx), s.aft (bl ++ rw) bl.length q.2) else none
    else none
def qaL (E : Orc) (s : S) (g : FuncId) (zs : List (List Nat)) (rs : List R) (l : List Nat) : RS :=
  ZY E s g zs rs (q99 s l) (q1D s l) (((rs.flatMap R.rows).eraseDups).filter fun i => !l.contains i)
def qtj (ow : List Nat) (rs : List R) : List Nat := ow.flatMap fun i => ((rs[i]?).map R.rows).getD []
def q6O (E : Orc) (s : S) (g : FuncId) (ow : List Nat) (zs : List (List Nat)) (rs : List R) : RS := qaL E s g zs rs (q0K s 60 (rs.flatMap R.ptrs ++ qtj ow rs) [])
def cvT (s : S) (sel ln : List Nat) (r : R) : R := (cvR s sel ln [] r).getD .any
def q4d (E : Orc) (s : S) (rid : Nat) (f : FuncId) (as bd : Code) (rs : List R) (bl rw ln : List Nat) : RS :=
  (cvG s (bl ++ rw) (bl ++ rw) 0).bind fun G =>
    if (bl ++ rw).all (fun i => (s.blk i).live) = true ∧ (bl ++ rw).Nodup ∧ ln.all (fun i => (s.blk i).live && !(bl ++ rw).contains i) = true ∧ bl.length ≤ G.length ∧ (List.range G.length).all (fun j => (lk G j .dead).isBlk == decide (j < bl.length)) = true ∧ 0 < bl.length ∧ (bl ++ rw)[bl.length - 1]? = some rid then
      (E (.rd f as bd) bl.length (rs.map (cvT s (bl ++ rw) ln)) G).bind fun q => if qjy ln q.1 q.2 = true then some (q.1.rn (ren (bl ++ rw) s.nx), s.aft (bl ++ rw) bl.length q.2) else none
    else none
def q9j (E : Orc) (s : S) (rid : Nat) (f : FuncId) (as bd : Code) (rs : List R) (l : List Nat) : RS :=
  q4d E s rid f as bd rs (q99 s l ++ [rid]) (q1D s l) (((rs.flatMap R.rows).eraseDups).filter fun i => !l.contains i)
def q2h (E : Orc) (s : S) (rid : Nat) (args : List R) : RS :=
  match s.blk rid with
  | .ob (.lp f tm ps as bd .ready none) => if args.length = ps.length then q9j E s rid f as bd (q6m tm ps args) (q0K s 60 ((q6m tm ps args).flatMap R.ptrs) []) else none
  | _ => none
structure Snd (P : Program) (E : Orc) : Prop where
  fn : ∀ g k args G r G', E (.fn g) k args G = some (r, G') → AC P g args G k fun r' hp' => r' = r ∧ hp' = G'
  rd : ∀ f as bd k tm G r G', E (.rd f as bd) k tm G = some (r, G') → RA P as bd tm G k fun r' hp' => r' = r ∧ hp' = G'
section
variable {P : Program} {E : Orc} {s s' : S} {r : R} {K : KK}
theorem q5M (hE : Snd P E) {g : FuncId} {zs : List (List Nat)} {rs : List R} {bl rw ln : List Nat} (h : ZY E s g zs rs bl rw ln = some (r, s')) (hK : K r s') : q05 P s g rs K := by
  unfold ZY at h
  obtain ⟨rs', h1, h2⟩ := Option.bind_eq_some_iff.1 h
  obtain ⟨G, h3, h4⟩ := Option.bind_eq_some_iff.1 h2
  split at h4
  · rename_i hc
    obtain ⟨c1, c2, c3, c4, c5⟩ := hc
    obtain ⟨q, h5, h6⟩ := Option.bind_eq_some_iff.1 h4
    split at h6
    · rename_i hok
      obtain ⟨rfl, rfl⟩ := zU h6
      have hb : ∀ j, j < G.length → (lk G j .dead).isBlk = decide (j < bl.length) := fun j hj => by
        have := List.all_eq_true.1 c5 j (List.mem_range.2 hj)
        simpa using this
      refine q05.sel (bl ++ rw) ln (hE.fn g bl.length rs' G q.1 q.2 h5) (qcB h1) (qcJ h3) c1 c2 c3 c4 hb ?_
      rintro r hp ⟨rfl, rfl⟩
      refine ⟨?_, hK⟩
      unfold qjy at hok
      simp only [Bool.or_eq_true, Bool.and_eq_true, List.isEmpty_iff] at hok
      exact hok
    · cases h6
  · cases h4
theorem qpb {sel ln : List Nat} {r : R} : AR s sel ln r (cvT s sel ln r) := by
  unfold cvT
  cases h : cvR s sel ln [] r with
  | none => exact .any _
  | some r' => exact qdH h
theorem qew {sel ln : List Nat} : ∀ (rs : List R), ARs s sel ln rs (rs.map (cvT s sel ln))
  | [] => .nil
  | r :: rs => .cons _ _ _ _ qpb (qew rs)
theorem qf0 (hE : Snd P E) {cx : Cx} {ρ : Pl} {a : Act} {w : World} {o : Oper} {next : Act → World → Prop} {Q' : Exit → Act → World → Prop} (hs : Sim cx ρ s a w) {y : Operand} {args : Array Operand} {ts : Array TypeId} {rid : Nat} (ho : o.op = .call { callee := .value y, args, argTypes := ts }) (hy : s.ev y = .c (.hd .yield rid))
    (h : q2h E s rid (args.toList.map s.ev) = some (r, s')) (hn : QY cx (fun r' s'' => r' = r ∧ s'' = s') o a next) : o.wpIn (FW cx.ro) 0 P a w next Q' := by
  unfold q2h at h
  split at h
  · rename_i f tm ps as bd hb
    split at h
    · rename_i hlen
      unfold q9j at h
      generalize q99 s (q0K s 60 ((q6m tm ps (args.toList.map s.ev)).flatMap R.ptrs) []) ++ [rid] = bl at h
      generalize q1D s (q0K s 60 ((q6m tm ps (args.toList.map s.ev)).flatMap R.ptrs) []) = rw at h
      generalize List.filter _ _ = ln at h
      unfold q4d at h
      obtain ⟨G, h3, h4⟩ := Option.bind_eq_some_iff.1 h
      split at h4
      · rename_i hc
        obtain ⟨c1, c2, c3, c4, c5, c6, c7⟩ := hc
        obtain ⟨q, h5, h6⟩ := Option.bind_eq_some_iff.1 h4
        split at h6
        · rename_i hok
          obtain ⟨rfl, rfl⟩ := zU h6
          have hb' : ∀ j, j < G.length → (lk G j .dead).isBlk = decide (j < bl.length) := fun j hj => by
            have := List.all_eq_true.1 c5 j (List.mem_range.2 hj)
            simpa using this
          refine qgx hs ho hy hb (by simpa using hlen) (bl ++ rw) ln (hE.rd f as bd bl.length _ G q.1 q.2 h5) (qew _) (qcJ h3) c1 c2 c3 c4 hb' c6 c7 ?_ hn
          rintro r hp ⟨rfl, rfl⟩
          refine ⟨?_, rfl, rfl⟩
          unfold qjy at hok
          simp only [Bool.or_eq_true, Bool.and_eq_true, List.isEmpty_iff] at hok
          exact hok
        · cases h6
      · cases h4
    · cases h
  · cases h
theorem q7S (hE : Snd P E) {g : FuncId} {ow : List Nat} {zs : List (List Nat)} {rs : List R} (h : q6O E s g ow zs rs = some (r, s')) (hK : K r s') : q05 P s g rs K :=
  q5M hE h hK
end
def fz0 (s : S) (X : List Nat) : C → C
  | .own i sz o n => if X.contains i = true then (match (vis (s.blk i).cells sz o n).bind q76 with | some ds => .d (.sl sz n ds) | none => .any) else .own i sz o n
  | .ptr i o => if X.contains i = true then .any else .ptr i o
  | .hd k i => if X.contains i = true then .any else .hd k i
  | .fn _ _ _ => .any
  | c => c
def fz (s : S) (X : List Nat) : C → C
  | .fn f fs caps => .fn f (fs.map (fz0 s X)) (caps.map (fz0 s X))
  | c => fz0 s X c
def qfv (s : S) (X : List Nat) : R → R
  | .c x => .c (fz s X x)
  | .agg xs => .agg (xs.map (fz s X))
  | _ => .any
def fzR (s : S) (X : List Nat) : R → R
  | .tup rs => .tup (rs.map (qfv s X))
  | r => qfv s X r
def fzB (s : S) (X : List Nat) : B → B
  | .blk t cs => .blk t (cs.map (fz s X))
  | .row e sz cs => .row e sz (cs.map (fz s X))
  | .ob o => .ob (o.mapR (qfv s X))
  | .dead => .dead
def S.frz1 (s : S) (X : List Nat) : S := { s with tm := s.tm.map (fun x => (x.1, fzR s X x.2)), hp := X.map (fun i => (i, B.dead)) ++ s.hp.map (fun x => (x.1, fzB s X x.2)) }
def S.frz (s : S) (X : List Nat) : S := match X with | [] => s | X => s.frz1 X
theorem qnD (s : S) (X : List Nat) (ds : List D) : (ds.map C.d).map (fz s X) = ds.map C.d := by rw [List.map_map]; rfl
theorem qdM (s : S) (X : List Nat) (x : B) : (fzB s X x).isBlk = x.isBlk := by cases x <;> rfl
theorem qgq (s : S) (X : List Nat) (x : B) : (fzB s X x).live = x.live := by cases x <;> rfl
section
variable {cx : Cx} {ρ : Pl} {s : S} {a : Act} {w : World} {X : List Nat}
theorem S.frz1_get (i : Nat) : (s.frz1 X).get i = fzR s X (s.get i) := q5g (fzR s X) s.tm i .any rfl
theorem S.frz1_blk (i : Nat) : (s.frz1 X).blk i = if i ∈ X then .dead else fzB s X (s.blk i) := by
  show lk (X.map (fun i => (i, B.dead)) ++ s.hp.map (fun x => (x.1, fzB s X x.2))) i .dead = _
  rw [q7u, q5g (fzB s X) s.hp i .dead rfl]
  rfl
theorem Sim.frz1 (hs : Sim cx ρ s a w) (hX : ∀ i ∈ X, (s.blk i).isBlk = false) : Sim cx ρ (s.frz1 X) a w ∧ ∀ v r, RR w s.live ρ v r → RR w (s.frz1 X).live ρ v (fzR s X r) := by
  have hlive : ∀ i, (s.frz1 X).live i ↔ s.live i ∧ i ∉ X := fun i => by
    unfold S.live
    rw [S.frz1_blk]
    by_cases hi : i ∈ X
    · rw [if_pos hi]; exact ⟨fun h => (by cases h), fun h => absurd hi h.2⟩
    · rw [if_neg hi, qgq]; exact ⟨fun h => ⟨h, hi⟩, fun h => h.1⟩
  have hocc : ∀ b, Occ (s.frz1 X).live ρ b → Occ s.live ρ b := fun b h => by
    rcases h with h | ⟨i, c, h1, h2⟩
    · exact .inl h
    · exact .inr ⟨i, c, ((hlive i).1 h1).1, h2⟩
  have hno : ∀ id, s.live id → id ∈ X → ∀ b cap, ρ id = some (b, cap) → ¬ Occ (s.frz1 X).live ρ b := fun id hl hid b cap hr hO => by
    rcases hO with h | ⟨i, c, h1, h2⟩
    · rcases hs.out id b cap hl hr with h3 | h3
      · exact hs.sep b h3 h
      · have := hs.oldF b h; omega
    · have h3 := (hlive i).1 h1
      have := hs.inj i id b c cap h3.1 hl h2 hr
      subst this
      exact h3.2 hid
  have c0 : ∀ v x, RC w s.live ρ v x → RC w (s.frz1 X).live ρ v (fz0 s X x) := by
    intro v x h
    cases x with
    | own i sz o n =>
      show RC w _ ρ v (if X.contains i = true then _ else _)
      split
      · rename_i hc
        split
        · rename_i ds hds
          obtain ⟨l, h1, h2⟩ := Option.bind_eq_some_iff.1 hds
          obtain ⟨h3, h4⟩ := qiD h1
          have h5 := q7A h2
          have hl : s.live i := by cases h with | own _ _ _ _ b cap q1 q2 q3 q4 => exact q1 | own0 _ _ q1 q2 => exact q1
          exact .d _ _ (qds hs h (h3.trans h5) (by rw [h5] at h4; simpa using h4) hocc (hno i hl (by simpa using hc)))
        · exact .any _
      · rename_i hc
        have hi : i ∉ X := by simpa using hc
        cases h with
        | own _ _ _ _ b cap q1 q2 q3 q4 => exact .own i sz o n b cap ((hlive i).2 ⟨q1, hi⟩) q2 q3 q4
        | own0 _ _ q1 q2 => exact .own0 i sz ((hlive i).2 ⟨q1, hi⟩) q2
    | ptr i o =>
      show RC w _ ρ v (if X.contains i = true then _ else _)
      split
      · exact .any _
      · rename_i hc
        have hi : i ∉ X := by simpa using hc
        cases h with | ptr _ _ b cap q1 q2 => exact .ptr i o b cap ((hlive i).2 ⟨q1, hi⟩) q2
    | hd k i =>
      show RC w _ ρ v (if X.contains i = true then _ else _)
      split
      · exact .any _
      · rename_i hc
        have hi : i ∉ X := by simpa using hc
        cases h with | hd _ _ b cap q1 q2 => exact .hd k i b cap ((hlive i).2 ⟨q1, hi⟩) q2
    | fn f fs caps => exact .any _
    | d x => exact h.dat' rfl hocc
    | nilp => exact h.dat' rfl hocc
    | nilf => exact h.dat' rfl hocc
    | nilm => exact h.dat' rfl hocc
    | nils => exact h.dat' rfl hocc
    | eptr cs o => exact h.dat' rfl hocc
    | any => exact .any _
  have c1 : ∀ v x, RC w s.live ρ v x → RC w (s.frz1 X).live ρ v (fz s X x) := by
    intro v x h
    cases x with
    | fn f fs caps =>
      cases h with
      | fn _ _ _ us vs h1 h2 h3 h4 =>
        refine .fn f _ _ us vs (by simpa using h1) (fun j c hj => ?_) (by simpa using h3) (fun j c hj => ?_)
        · rw [List.getElem?_map] at hj
          obtain ⟨y, g1, g2⟩ := Option.map_eq_some_iff.1 hj
          exact g2 ▸ c0 _ _ (h2 j y g1)
        · rw [List.getElem?_map] at hj
          obtain ⟨y, g1, g2⟩ := Option.map_eq_some_iff.1 hj
          exact g2 ▸ c0 _ _ (h4 j y g1)
    | _ => exact c0 _ _ h
  have cm : ∀ {vs : Nat → Value} {cs : List C}, (∀ j c, cs[j]? = some c → RC w s.live ρ (vs j) c) → ∀ j c, (cs.map (fz s X))[j]? = some c → RC w (s.frz1 X).live ρ (vs j) c := fun h j c hj => by
    rw [List.getElem?_map] at hj
    obtain ⟨y, g1, g2⟩ := Option.map_eq_some_iff.1 hj
    exact g2 ▸ c1 _ _ (h j y g1)
  have r0 : ∀ v r, RR w s.live ρ v r → RR w (s.frz1 X).live ρ v (qfv s X r) := by
    intro v r h
    cases h with
    | c v x h => exact .c _ _ (c1 _ _ h)
    | agg vs xs h1 h2 => exact .agg _ _ (by simpa using h1) (cm h2)
    | tup vs xs h1 h2 => exact .any _
    | any v => exact .any _
  have r1 : ∀ v r, RR w s.live ρ v r → RR w (s.frz1 X).live ρ v (fzR s X r) := by
    intro v r h
    cases r with
    | tup rs =>
      cases h with
      | tup vs _ h1 h2 =>
        refine .tup _ _ (by simpa using h1) (fun j c hj => ?_)
        rw [List.getElem?_map] at hj
        obtain ⟨y, g1, g2⟩ := Option.map_eq_some_iff.1 hj
        exact g2 ▸ r0 _ _ (h2 j y g1)
    | _ => exact r0 _ _ h
  refine ⟨⟨hs.hd.mono (Nat.le_refl _) (fun _ _ _ => rfl) (fun b _ h => hocc b h), hs.size, fun i => by rw [S.frz1_get]; exact r1 _ _ (hs.tm i), fun i b c hi hr => ?_, fun i hi hr => ?_, fun i b c hi hr => hs.out i b c ((hlive i).1 hi).1 hr,
    fun i j b c c' hi hj hri hrj => hs.inj i j b c c' ((hlive i).1 hi).1 ((hlive j).1 hj).1 hri hrj, fun i hi => hs.nx i ((hlive i).1 hi).1, hs.kept, hs.oldF, fun i hi => ?_, hs.sameF, hs.sep⟩, r1⟩
  · obtain ⟨h1, h2⟩ := (hlive i).1 hi
    obtain ⟨h3, h4⟩ := hs.hp i b c h1 hr
    refine ⟨h3, ?_⟩
    rw [S.frz1_blk, if_neg h2]
    generalize s.blk i = x at h4
    cases x with
    | blk t cs => obtain ⟨vs, g1, g2, g3⟩ := h4; exact ⟨vs, g1, by simpa using g2, cm g3⟩
    | row e sz cs => obtain ⟨vs, g1, g2, g3, g4, g5, g6⟩ := h4; exact ⟨vs, g1, by simpa using g2, g3, g4, g5, cm g6⟩
    | ob o => exact HO.map rfl (fun v x _ hx => r0 v x hx) h4
    | dead => trivial
  · obtain ⟨h1, h2⟩ := (hlive i).1 hi
    obtain ⟨e, sz, h3⟩ := hs.hp0 i h1 hr
    exact ⟨e, sz, by rw [S.frz1_blk, if_neg h2, h3]; rfl⟩
  · obtain ⟨h1, h2⟩ := hs.pin i hi
    have hn : i ∉ X := fun h => by have := hX i h; rw [h2] at this; cases this
    exact ⟨h1, by rw [S.frz1_blk, if_neg hn, qdM, h2]⟩
theorem Sim.frz (hs : Sim cx ρ s a w) (hX : X.all (fun i => !(s.blk i).isBlk) = true) : Sim cx ρ (s.frz X) a w := by
  cases X with
  | nil => exact hs
  | cons x X => exact (hs.frz1 fun i hi => by have := List.all_eq_true.1 hX i hi; simpa using this).1
end
def dz (z : Nat) : C → C
  | .nils => if z = 0 then .nils else .d (.sl z 0 [])
  | c => c
def C.isNils : C → Bool
  | .nils => true
  | _ => false
def dzc (zs0 : List Nat) : List Nat → List C → List C
  | _, [] => []
  | [], x :: r => dz (zs0.headD 0) x :: dzc zs0 zs0.tail r
  | z :: zs, x :: r => dz z x :: dzc zs0 zs r
def B.nilr : B → Bool
  | .row _ _ cs => cs.any C.isNils
  | _ => false
def dzB (Q : TypeId → List Nat) : B → B
  | .row e sz cs => if cs.any C.isNils = true then .row e sz (dzc (Q e) [] cs) else .row e sz cs
  | b => b
def S.dzr (s : S) (Q : TypeId → List Nat) : S := if s.hp.any (fun x => x.2.nilr) = true then { s with hp := s.hp.map fun x => (x.1, dzB Q x.2) } else s
theorem qhg (ds : List D) : (ds.map C.d).any C.isNils = false := by rw [List.any_map]; exact List.any_eq_false.2 fun x _ => by simp [C.isNils]
section
variable {cx : Cx} {ρ : Pl} {s : S} {a : Act} {w : World} {Q : TypeId → List Nat}
theorem qjh {L : Nat → Prop} {v : Value} {x : C} (z : Nat) (h : RC w L ρ v x) : RC w L ρ v (dz z x) := by
  unfold dz
  split
  · split
    · exact h
    · rw [(RR.c _ _ h).inv_nils]; exact .d _ _ (.nil _ _ _ (Nat.zero_le _) (fun _ => rfl))
  · exact h
theorem qcR (zs0 : List Nat) : ∀ (zs : List Nat) (cs : List C), (dzc zs0 zs cs).length = cs.length ∧ ∀ (j : Nat) (y : C), (dzc zs0 zs cs)[j]? = some y → ∃ x z, cs[j]? = some x ∧ y = dz z x
  | zs, [] => by cases zs <;> exact ⟨rfl, fun j y h => by simp [dzc] at h⟩
  | [], x :: r => by
    obtain ⟨h1, h2⟩ := qcR zs0 zs0.tail r
    refine ⟨by simp [dzc, h1], fun j y hj => ?_⟩
    cases j with
    | zero => simp only [dzc, List.getElem?_cons_zero, Option.some.injEq] at hj; exact ⟨x, _, rfl, hj.symm⟩
    | succ j => simp only [dzc, List.getElem?_cons_succ] at hj ⊢; exact h2 j y hj
  | z :: zs, x :: r => by
    obtain ⟨h1, h2⟩ := qcR zs0 zs r
    refine ⟨by simp [dzc, h1], fun j y hj => ?_⟩
    cases j with
    | zero => simp only [dzc, List.getElem?_cons_zero, Option.some.injEq] at hj; exact ⟨x, _, rfl, hj.symm⟩
    | succ j => simp only [dzc, List.getElem?_cons_succ] at hj ⊢; exact h2 j y hj
theorem q9S (e : TypeId) (sz : Nat) (cs : List C) : dzB Q (.row e sz cs) = if cs.any C.isNils = true then .row e sz (dzc (Q e) [] cs) else .row e sz cs := rfl
theorem qhp (b : B) : (dzB Q b).live = b.live := by
  cases b with
  | row e sz cs => rw [q9S]; split <;> rfl
  | _ => rfl
theorem qcA (b : B) : (dzB Q b).isBlk = b.isBlk := by
  cases b with
  | row e sz cs => rw [q9S]; split <;> rfl
  | _ => rfl
theorem S.dzr_blk (s : S) (i : Nat) : (s.dzr Q).blk i = dzB Q (s.blk i) ∨ (s.dzr Q).blk i = s.blk i := by
  unfold S.dzr
  split
  · exact .inl (q5g (dzB Q) s.hp i .dead rfl)
  · exact .inr rfl
theorem S.dzr_live (s : S) : (s.dzr Q).live = s.live := by
  funext i
  unfold S.live
  rcases S.dzr_blk (Q := Q) s i with h | h
  · rw [h, qhp]
  · rw [h]
theorem Sim.dzr (h : Sim cx ρ s a w) (Q : TypeId → List Nat) : Sim cx ρ (s.dzr Q) a w := by
  have hl := S.dzr_live (Q := Q) s
  have hg : ∀ i, (s.dzr Q).get i = s.get i := fun i => by unfold S.dzr; split <;> rfl
  have hn : (s.dzr Q).n = s.n := by unfold S.dzr; split <;> rfl
  have hnx : (s.dzr Q).nx = s.nx := by unfold S.dzr; split <;> rfl
  refine ⟨by rw [hl]; exact h.hd, by rw [hn]; exact h.size, fun i => by rw [hl, hg]; exact h.tm i, fun i b cap hi hr => ?_, fun i hi hr => ?_, by rw [hl]; exact h.out, by rw [hl]; exact h.inj, by rw [hl, hnx]; exact h.nx, h.kept, h.oldF, fun i hi => ?_, h.sameF, h.sep⟩
  · rw [hl] at hi ⊢
    obtain ⟨h1, h2⟩ := h.hp i b cap hi hr
    refine ⟨h1, ?_⟩
    rcases S.dzr_blk (Q := Q) s i with e | e
    · rw [e]
      cases hb : s.blk i with
      | row e' sz cs =>
        rw [hb] at h2
        rw [q9S]
        split
        · obtain ⟨vs, g1, g2, g3, g4, g5, g6⟩ := h2
          obtain ⟨q1, q2⟩ := qcR (Q e') [] cs
          refine ⟨vs, g1, by rw [q1]; exact g2, g3, g4, g5, fun j c hj => ?_⟩
          obtain ⟨x, z, r1, r2⟩ := q2 j c hj
          rw [r2]; exact qjh z (g6 j x r1)
        · exact h2
      | blk t cs => rw [hb] at h2; exact h2
      | ob o => rw [hb] at h2; exact h2
      | dead => rw [hb] at h2; exact h2
    · rw [e]; exact h2
  · rw [hl] at hi
    obtain ⟨e, sz, g⟩ := h.hp0 i hi hr
    rcases S.dzr_blk (Q := Q) s i with e' | e'
    · exact ⟨e, sz, by rw [e', g]; rfl⟩
    · exact ⟨e, sz, by rw [e', g]⟩
  · obtain ⟨h1, h2⟩ := h.pin i hi
    refine ⟨h1, ?_⟩
    rcases S.dzr_blk (Q := Q) s i with e | e
    · rw [e, qcA]; exact h2
    · rw [e]; exact h2
end
end Go.Proofs.YtplfjlcnffcenaaGreat.Vc
namespace Go.Proofs.YtplfjlcnffcenaaGreat.Vc
open Go.RowKit
def cn0 (ids : List Nat) : C → C
  | .ptr i o => match pos i ids with | some j => .ptr j o | none => .any
  | .hd k i => match pos i ids with | some j => .hd k j | none => .any
  | .own i sz o n => match pos i ids with | some j => .own j sz o n | none => .any
  | .fn _ _ _ => .any
  | c => c
def cn (ids : List Nat) : C → C
  | .fn f fs caps => .fn f (fs.map (cn0 ids)) (caps.map (cn0 ids))
  | c => cn0 ids c
def qfa (ids : List Nat) : R → R
  | .c x => .c (cn ids x)
  | .agg xs => .agg (xs.map (cn ids))
  | _ => .any
def cnR (ids : List Nat) : R → R
  | .tup rs => .tup (rs.map (qfa ids))
  | r => qfa ids r
def cnB (ids : List Nat) : B → B
  | .blk t cs => .blk t (cs.map (cn ids))
  | .row e sz cs => .row e sz (cs.map (cn ids))
  | .ob o => .ob (o.mapR (qfa ids))
  | .dead => .dead
def cnH (s : S) (ids : List Nat) : List Nat → Nat → List (Nat × B)
  | [], _ => []
  | i :: l, j => (j, cnB ids (s.blk i)) :: cnH s ids l (j + 1)
theorem qp4 (ids : List Nat) (ds : List D) : (ds.map C.d).map (cn ids) = ds.map C.d := by rw [List.map_map]; rfl
theorem qeg (ids : List Nat) (x : B) : (cnB ids x).isBlk = x.isBlk := by cases x <;> rfl
theorem qgY (ids : List Nat) (x : B) : (cnB ids x).live = x.live := by cases x <;> rfl
theorem qig (s : S) (ids : List Nat) : ∀ (l : List Nat) (k j : Nat), lk (cnH s ids l k) j .dead = if k ≤ j then (match l[j - k]? with | some i => cnB ids (s.blk i) | none => .dead) else .dead
  | [], k, j => by simp [cnH, lk]
  | i :: l, k, j => by
    unfold cnH lk
    by_cases h : k = j
    · subst h; simp
    · rw [if_neg h, qig s ids l (k + 1) j]
      by_cases h2 : k ≤ j
      · rw [if_pos h2, if_pos (by omega), show j - k = (j - (k + 1)) + 1 by omega, List.getElem?_cons_succ]
      · rw [if_neg h2, if_neg (by omega)]
section
variable {cx : Cx} {ρ : Pl} {s : S} {a a' : Act} {w : World} {ids : List Nat}
theorem Sim.canon (hs : Sim cx ρ s a w) (hnd : ids.Nodup) (hl : ids.all (fun i => (s.blk i).live) = true) (hpin : ∀ i, i < cx.k → ids[i]? = some i) {tm : List (Nat × R)} {n : Nat}
    (hd : Hd cx a'.defers w (Occ s.live ρ)) (hz : a'.tmps.size = n) (htm : ∀ i, lk tm i .any = .any ∨ ∃ r, RR w s.live ρ (a'.tmps.getD i undef) r ∧ lk tm i .any = cnR ids r) :
    ∃ ρ', Sim cx ρ' ⟨tm, cnH s ids ids 0, ids.length, n⟩ a' w ∧ ∀ v r, RR w s.live ρ v r → RR w (S.live ⟨tm, cnH s ids ids 0, ids.length, n⟩) ρ' v (cnR ids r) := by
  obtain ⟨s', hs'⟩ : ∃ s' : S, s' = ⟨tm, cnH s ids ids 0, ids.length, n⟩ := ⟨_, rfl⟩
  rw [← hs']
  have hblk : ∀ j, s'.blk j = match ids[j]? with | some i => cnB ids (s.blk i) | none => .dead := fun j => by
    rw [hs']
    show lk (cnH s ids ids 0) j .dead = _
    rw [qig, if_pos (Nat.zero_le _), Nat.sub_zero]
  have hli : ∀ {i j : Nat}, ids[j]? = some i → s.live i := fun {i j} hj => List.all_eq_true.1 hl i (List.mem_of_getElem? hj)
  have hlive : ∀ {i j : Nat}, ids[j]? = some i → s'.live j := fun {i j} hj => by
    unfold S.live
    rw [hblk, hj]
    simp only
    rw [qgY]
    exact hli hj
  have hlive' : ∀ j, s'.live j → ∃ i, ids[j]? = some i := fun j hj => by
    unfold S.live at hj
    rw [hblk] at hj
    cases h : ids[j]? with
    | none => rw [h] at hj; cases hj
    | some i => exact ⟨i, rfl⟩
  obtain ⟨ρ', hρ⟩ : ∃ ρ' : Pl, ρ' = ⟨fun j => (ids[j]?).bind ρ.at_, ρ.F⟩ := ⟨_, rfl⟩
  have hρF : ρ'.F = ρ.F := by rw [hρ]
  have hρi : ∀ {i j : Nat}, ids[j]? = some i → ρ' j = ρ i := fun {i j} hj => by rw [hρ]; show (ids[j]?).bind ρ.at_ = _; rw [hj]; rfl
  have hocc : ∀ b, Occ s'.live ρ' b → Occ s.live ρ b := fun b h => by
    rcases h with h | ⟨j, c, h1, h2⟩
    · exact .inl (hρF ▸ h)
    · obtain ⟨i, hi⟩ := hlive' j h1
      exact .inr ⟨i, c, hli hi, (hρi hi).symm.trans h2⟩
  have c0 : ∀ v x, RC w s.live ρ v x → RC w s'.live ρ' v (cn0 ids x) := by
    intro v x h
    cases x with
    | ptr i o =>
      simp only [cn0]
      split
      · rename_i j hj
        have hj := q5L hj
        cases h with | ptr _ _ b cap q1 q2 => exact .ptr j o b cap (hlive hj) ((hρi hj).trans q2)
      · exact .any _
    | hd k i =>
      simp only [cn0]
      split
      · rename_i j hj
        have hj := q5L hj
        cases h with | hd _ _ b cap q1 q2 => exact .hd k j b cap (hlive hj) ((hρi hj).trans q2)
      · exact .any _
    | own i sz o n =>
      simp only [cn0]
      split
      · rename_i j hj
        have hj := q5L hj
        cases h with
        | own _ _ _ _ b cap q1 q2 q3 q4 => exact .own j sz o n b cap (hlive hj) ((hρi hj).trans q2) q3 q4
        | own0 _ _ q1 q2 => exact .own0 j sz (hlive hj) ((hρi hj).trans q2)
      · exact .any _
    | fn f fs caps => exact .any _
    | d x => exact h.dat' rfl hocc
    | nilp => exact h.dat' rfl hocc
    | nilf => exact h.dat' rfl hocc
    | nilm => exact h.dat' rfl hocc
    | nils => exact h.dat' rfl hocc
    | eptr cs o => exact h.dat' rfl hocc
    | any => exact .any _
  have c1 : ∀ v x, RC w s.live ρ v x → RC w s'.live ρ' v (cn ids x) := by
    intro v x h
    cases x with
    | fn f fs caps =>
      cases h with
      | fn _ _ _ us vs h1 h2 h3 h4 =>
        refine .fn f _ _ us vs (by simpa using h1) (fun j c hj => ?_) (by simpa using h3) (fun j c hj => ?_)
        · rw [List.getElem?_map] at hj
          obtain ⟨y, g1, g2⟩ := Option.map_eq_some_iff.1 hj
          exact g2 ▸ c0 _ _ (h2 j y g1)
        · rw [List.getElem?_map] at hj
          obtain ⟨y, g1, g2⟩ := Option.map_eq_some_iff.1 hj
          exact g2 ▸ c0 _ _ (h4 j y g1)
    | _ => exact c0 _ _ h
  have cm : ∀ {vs : Nat → Value} {cs : List C}, (∀ j c, cs[j]? = some c → RC w s.live ρ (vs j) c) → ∀ j c, (cs.map (cn ids))[j]? = some c → RC w s'.live ρ' (vs j) c := fun h j c hj => by
    rw [List.getElem?_map] at hj
    obtain ⟨y, g1, g2⟩ := Option.map_eq_some_iff.1 hj
    exact g2 ▸ c1 _ _ (h j y g1)
  have r0 : ∀ v r, RR w s.live ρ v r → RR w s'.live ρ' v (qfa ids r) := by
    intro v r h
    cases h with
    | c v x h => exact .c _ _ (c1 _ _ h)
    | agg vs xs h1 h2 => exact .agg _ _ (by simpa using h1) (cm h2)
    | tup vs xs h1 h2 => exact .any _
    | any v => exact .any _
  have r1 : ∀ v r, RR w s.live ρ v r → RR w s'.live ρ' v (cnR ids r) := by
    intro v r h
    cases r with
    | tup rs =>
      cases h with
      | tup vs _ h1 h2 =>
        refine .tup _ _ (by simpa using h1) (fun j c hj => ?_)
        rw [List.getElem?_map] at hj
        obtain ⟨y, g1, g2⟩ := Option.map_eq_some_iff.1 hj
        exact g2 ▸ r0 _ _ (h2 j y g1)
    | _ => exact r0 _ _ h
  refine ⟨ρ', ⟨hd.mono (Nat.le_refl _) (fun _ _ _ => rfl) (fun b _ h => hocc b h), by rw [hz, hs'], fun i => ?_, fun j b c hj hr => ?_, fun j hj hr => ?_, fun j b c hj hr => ?_, fun j j' b c c' hj hj' hrj hrj' => ?_, fun j hj => ?_, hs.kept, fun b hb => hs.oldF b (hρF ▸ hb), fun i hi => ?_, hρF.trans hs.sameF, fun b hb => hρF ▸ hs.sep b hb⟩, r1⟩
  · have : s'.get i = lk tm i .any := by rw [hs']; rfl
    rw [this]
    rcases htm i with h | ⟨r, h1, h2⟩
    · rw [h]; exact .any _
    · rw [h2]; exact r1 _ _ h1
  · obtain ⟨i, hi⟩ := hlive' j hj
    rw [hρi hi] at hr
    obtain ⟨h3, h4⟩ := hs.hp i b c (hli hi) hr
    refine ⟨h3, ?_⟩
    rw [hblk, hi]
    simp only
    generalize s.blk i = x at h4
    cases x with
    | blk t cs => obtain ⟨vs, g1, g2, g3⟩ := h4; exact ⟨vs, g1, by simpa using g2, cm g3⟩
    | row e sz cs => obtain ⟨vs, g1, g2, g3, g4, g5, g6⟩ := h4; exact ⟨vs, g1, by simpa using g2, g3, g4, g5, cm g6⟩
    | ob o => exact HO.map rfl (fun v x _ hx => r0 v x hx) h4
    | dead => trivial
  · obtain ⟨i, hi⟩ := hlive' j hj
    rw [hρi hi] at hr
    obtain ⟨e, sz, h3⟩ := hs.hp0 i (hli hi) hr
    exact ⟨e, sz, by rw [hblk, hi]; simp only; rw [h3]; rfl⟩
  · obtain ⟨i, hi⟩ := hlive' j hj
    rw [hρi hi] at hr
    exact hs.out i b c (hli hi) hr
  · obtain ⟨i, hi⟩ := hlive' j hj
    obtain ⟨i', hi'⟩ := hlive' j' hj'
    rw [hρi hi] at hrj
    rw [hρi hi'] at hrj'
    have := hs.inj i i' b c c' (hli hi) (hli hi') hrj hrj'
    subst this
    obtain ⟨l1, e1⟩ := List.getElem?_eq_some_iff.1 hi
    obtain ⟨l2, e2⟩ := List.getElem?_eq_some_iff.1 hi'
    exact (List.getElem_inj hnd).1 (e1.trans e2.symm)
  · obtain ⟨i, hi⟩ := hlive' j hj
    have := (List.getElem?_eq_some_iff.1 hi).1
    rw [hs']; exact this
  · obtain ⟨h1, h2⟩ := hs.pin i hi
    have hii := hpin i hi
    exact ⟨(hρi hii).trans h1, by rw [hblk, hii]; simp only; rw [qeg, h2]⟩
theorem Sim.row0 (h : Sim cx ρ s a w) {p : Nat} (hp : ¬ s.live p) (e : TypeId) (sz : Nat) : ∃ ρ' : Pl, Sim cx ρ' (s.up [(p, .row e sz [])]) a w ∧ ρ' p = none ∧ (∀ v r, RR w s.live ρ v r → RR w (s.up [(p, .row e sz [])]).live ρ' v r) ∧ ∀ i, s.live i → ρ' i = ρ i := by
  obtain ⟨ρ', hρ⟩ : ∃ ρ' : Pl, ρ' = ⟨fun i => if i = p then none else ρ i, ρ.F⟩ := ⟨_, rfl⟩
  have hρp : ρ' p = none := by rw [hρ]; exact if_pos rfl
  have hρi : ∀ i, i ≠ p → ρ' i = ρ i := fun i hi => by rw [hρ]; exact if_neg hi
  have hne : ∀ i, s.live i → i ≠ p := fun i hi e => hp (e ▸ hi)
  have hl1 : ∀ i, s.live i → (s.up [(p, .row e sz [])]).live i := fun i hi => by
    unfold S.live at hi ⊢
    rw [S.blk_up, if_neg (Ne.symm (hne i hi))]; exact hi
  have hl2 : ∀ i, (s.up [(p, .row e sz [])]).live i → i ≠ p → s.live i := fun i hi hn => by
    unfold S.live at hi ⊢
    rw [S.blk_up, if_neg (Ne.symm hn)] at hi; exact hi
  have hst : q4Y w s.live ρ w (s.up [(p, .row e sz [])]).live ρ' := by
    refine ⟨Nat.le_refl _, fun _ _ _ => rfl, fun b _ hO => ?_, fun i hi => ⟨hl1 i hi, hρi i (hne i hi)⟩⟩
    rcases hO with h | ⟨i, c, h1, h2⟩
    · exact .inl (by rw [hρ] at h; exact h)
    · have hn : i ≠ p := fun e => by rw [e, hρp] at h2; cases h2
      exact .inr ⟨i, c, hl2 i h1 hn, (hρi i hn).symm.trans h2⟩
  have hsome : ∀ i b c, ρ' i = some (b, c) → i ≠ p ∧ ρ i = some (b, c) := fun i b c hr => by
    have hn : i ≠ p := fun e => by rw [e, hρp] at hr; cases hr
    exact ⟨hn, (hρi i hn).symm.trans hr⟩
  refine ⟨ρ', ⟨h.hd.stay hst, h.size, fun i => (h.tm i).stay hst, fun i b c hi hr => ?_, fun i hi hr => ?_, fun i b c hi hr => ?_, fun i j b c c' hi hj hri hrj => ?_, fun i hi => ?_, h.kept, fun b hb => h.oldF b (by rw [hρ] at hb; exact hb), fun i hi => ?_, by rw [hρ]; exact h.sameF, fun b hb => by rw [hρ]; exact h.sep b hb⟩, hρp, fun v r hr => hr.stay hst, fun i hi => hρi i (hne i hi)⟩
  · obtain ⟨h1, h2⟩ := hsome i b c hr
    obtain ⟨h3, h4⟩ := h.hp i b c (hl2 i hi h1) h2
    rw [S.blk_up, if_neg (Ne.symm h1)]
    exact ⟨h3, h4.stay hst rfl⟩
  · by_cases hn : i = p
    · subst hn; exact ⟨e, sz, by rw [S.blk_up, if_pos rfl]⟩
    · rw [S.blk_up, if_neg (Ne.symm hn)]
      exact h.hp0 i (hl2 i hi hn) ((hρi i hn).symm.trans hr)
  · obtain ⟨h1, h2⟩ := hsome i b c hr
    exact h.out i b c (hl2 i hi h1) h2
  · obtain ⟨h1, h2⟩ := hsome i b c hri
    obtain ⟨h3, h4⟩ := hsome j b c' hrj
    exact h.inj i j b c c' (hl2 i hi h1) (hl2 j hj h3) h2 h4
  · show i < max s.nx (p + 1)
    by_cases hn : i = p
    · omega
    · have := h.nx i (hl2 i hi hn); omega
  · obtain ⟨h1, h2⟩ := h.pin i hi
    have hn : i ≠ p := fun e => hp (by rw [← e]; exact B.live_of h2)
    exact ⟨(hρi i hn).trans h1, by rw [S.blk_up, if_neg (Ne.symm hn)]; exact h2⟩
inductive Rw where
  | slot (i : Nat) (e : TypeId) (sz : Nat)
  | cell (i off : Nat) (e : TypeId) (sz : Nat)
  deriving Inhabited
def rw1 (s : S) : Rw → S
  | .slot i e sz => match s.get i with
    | .c .nils => (s.up [(s.nx, .row e sz [])]).put (some i) (.c (.own s.nx sz 0 0))
    | _ => s
  | .cell i off e sz => match s.get i with
    | .c (.ptr id o) => match s.blk id with
      | .blk t cs => match cs[o + off]? with
        | some .nils => (s.up [(s.nx, .row e sz [])]).up [(id, .blk t (cs.set (o + off) (.own s.nx sz 0 0)))]
        | _ => s
      | _ => s
    | _ => s
theorem Sim.rw1 (hs : Sim cx ρ s a w) (x : Rw) : ∃ ρ', Sim cx ρ' (rw1 s x) a w := by
  have hnl : ¬ s.live s.nx := fun h => by have := hs.nx _ h; omega
  cases x with
  | slot i e sz =>
    simp only [Vc.rw1]
    split
    · rename_i hi
      obtain ⟨ρ', h1, h2, h3, -⟩ := hs.row0 hnl e sz
      have hlive : (s.up [(s.nx, .row e sz [])]).live s.nx := by unfold S.live; rw [S.blk_up, if_pos rfl]; rfl
      refine ⟨ρ', ⟨h1.hd, h1.size, fun j => ?_, h1.hp, h1.hp0, h1.out, h1.inj, h1.nx, h1.kept, h1.oldF, h1.pin, h1.sameF, h1.sep⟩⟩
      show RR w _ ρ' _ (lk ((i, R.c (.own s.nx sz 0 0)) :: s.tm) j .any)
      unfold lk
      split
      · rename_i hij
        subst hij
        have := hs.tm i
        rw [hi] at this
        rw [this.inv_nils]
        exact .c _ _ (.own0 _ _ hlive h2)
      · exact h3 _ _ (hs.tm j)
    · exact ⟨ρ, hs⟩
  | cell i off e sz =>
    simp only [Vc.rw1]
    split
    · rename_i id o hi
      split
      · rename_i t cs hb
        split
        · rename_i hc
          obtain ⟨ρ', h1, h2, h3, h4⟩ := hs.row0 hnl e sz
          have hid : s.live id := by unfold S.live; rw [hb]; rfl
          have hne : id ≠ s.nx := fun e => hnl (e ▸ hid)
          have hlive : (s.up [(s.nx, .row e sz [])]).live s.nx := by unfold S.live; rw [S.blk_up, if_pos rfl]; rfl
          have hlid : (s.up [(s.nx, .row e sz [])]).live id := by unfold S.live; rw [S.blk_up, if_neg (Ne.symm hne)]; exact hid
          cases hρ : ρ' id with
          | none =>
            obtain ⟨e', sz', h5⟩ := h1.hp0 id hlid hρ
            rw [S.blk_up, if_neg (Ne.symm hne), hb] at h5
            cases h5
          | some bc =>
            obtain ⟨b, cap⟩ := bc
            have hx : ∀ k, (s.up [(s.nx, .row e sz [])]).blk k = if s.nx = k then .row e sz [] else s.blk k := fun k => S.blk_up _ _ _ _
            have hB := (h1.hp id b cap hlid hρ).2
            rw [hx, if_neg (Ne.symm hne), hb] at hB
            obtain ⟨vs, g1, g2, g3⟩ := hB
            have hcx : id < cx.k → (B.blk t (cs.set (o + off) (.own s.nx sz 0 0))).isBlk = true := fun _ => rfl
            have hl' : ∀ j, ((s.up [(s.nx, .row e sz [])]).up [(id, .blk t (cs.set (o + off) (.own s.nx sz 0 0)))]).live j ↔ (s.up [(s.nx, .row e sz [])]).live j := fun j => by
              unfold S.live
              rw [S.blk_up]
              by_cases hj : id = j
              · subst hj; rw [if_pos rfl]; exact ⟨fun _ => hlid, fun _ => rfl⟩
              · rw [if_neg hj]
            have hst : q4Y w (s.up [(s.nx, .row e sz [])]).live ρ' w ((s.up [(s.nx, .row e sz [])]).up [(id, .blk t (cs.set (o + off) (.own s.nx sz 0 0)))]).live ρ' := by
              refine ⟨Nat.le_refl _, fun _ _ _ => rfl, fun b' _ hO => ?_, fun j hj => ⟨(hl' j).2 hj, rfl⟩⟩
              rcases hO with h | ⟨j, c, q1, q2⟩
              · exact .inl h
              · exact .inr ⟨j, c, (hl' j).1 q1, q2⟩
            refine ⟨ρ', (h1.over hlid hρ rfl hcx rfl (fun _ _ => rfl) rfl rfl rfl ⟨vs, g1, by simpa using g2, fun j c hj => ?_⟩).1⟩
            by_cases hoj : o + off = j
            · subst hoj
              have hlt : o + off < cs.length := (List.getElem?_eq_some_iff.1 hc).1
              rw [List.getElem?_set_self hlt] at hj
              injection hj with hj
              subst hj
              have h6 := g3 _ _ hc
              have h7 := (RR.c _ _ h6).inv_nils
              rw [h7]
              exact .own0 _ _ ((hl' _).2 hlive) h2
            · rw [List.getElem?_set_ne hoj] at hj
              exact (g3 j c hj).stay hst
        · exact ⟨ρ, hs⟩
      · exact ⟨ρ, hs⟩
    · exact ⟨ρ, hs⟩
end
def rwAll : S → List Rw → S
  | s, [] => s
  | s, x :: l => rwAll (rw1 s x) l
theorem Sim.rwAll {cx : Cx} {a : Act} {w : World} : ∀ (l : List Rw) {s : S} {ρ : Pl}, Sim cx ρ s a w → ∃ ρ', Sim cx ρ' (rwAll s l) a w
  | [], _, ρ, hs => ⟨ρ, hs⟩
  | x :: l, _, _, hs => by
    obtain ⟨ρ', h⟩ := hs.rw1 x
    exact Sim.rwAll l h
end Go.Proofs.YtplfjlcnffcenaaGreat.Vc
namespace Go.Proofs.YtplfjlcnffcenaaGreat.Vc
open Go.RowKit
structure Pol where
  q : TypeId → List Nat
  ow : FuncId → List Nat
  fz : FuncId → Bool
  kp : FuncId → Nat → List Nat
  kx : FuncId → Nat → List Nat
  rw : FuncId → Nat → List Rw
  ro : FuncId → Bool
  dm : FuncId → Nat → Nat
  an : FuncId → Nat → List (List Nat)
  rk : FuncId → Nat → List Nat
  pr : FuncId → Option (Nat → List R → List (Nat × B) → Option (R × List (Nat × B)))
def zmk (ow : List Nat) : Nat → List (List Nat) → List (List Nat)
  | _, [] => []
  | i, z :: r => (if ow.contains i = true then [] else z) :: zmk ow (i + 1) r
def q06 (po : Pol) (E : Orc) (s : S) (f : Operand) (args : List Operand) (ts : List TypeId) : RS :=
  match s.ev f with
  | .c (.fn g fs caps) => q6O E s g (po.ow g) (zmk (po.ow g) 0 (fs.map (fun _ => []) ++ ts.map po.q)) (fs.map R.c ++ args.map s.ev ++ caps.map R.c)
  | .c (.hd .yield rid) => q2h E s rid (args.map s.ev)
  | _ => none
def xCl (T : Ty) (po : Pol) (E : Orc) (s : S) (c : Call) : RS :=
  match c.callee, c.args.toList, c.argTypes.toList with
  | .builtin .len, [x], [t] => match T.k t with | .mp _ _ => (q5l T s t x).map fun r => (r, s) | _ => qrB T s t x
  | .builtin .min, [x, y], _ => qsd s x y
  | .builtin .max, [x, y], _ => qrt s x y
  | .builtin .append, [x, y], [t, t'] => if t' = t then q2I T s t x y else none
  | .builtin .copy, [x, y], [t, _] => qfW T s t x y
  | .value f, args, ts => q06 po E s f args ts
  | _, _, _ => none
def xo (P : Program) (T : Ty) (po : Pol) (E : Orc) (s : S) (op : Op) : RS :=
  match op with
  | .move x => some (s.ev x, s)
  | .assign x => some (s.ev x, s)
  | .pick c x y => qga s c x y
  | .alloc t => qaX T s t
  | .box t x => qrv s t x
  | .build t parts => qax T s t parts.toList
  | .buildSlice t len parts => J4 T s t len parts.toList
  | .load t x => qgF T s t x
  | .store t x y => q2k T s t x y
  | .nilCheck x => q2K s x
  | .binOp op t x y _ => qrL P T s op t x y
  | .unOp op _ x => xUn s op x
  | .convert t t' x => qgV T s t t' x
  | .makeFunc f first captured => q3e s f first.toList captured.toList
  | .makeSlice t l c => qbJ T s t l c
  | .slice t x lo hi mx => q8r T s t x lo hi mx
  | .fieldAddr t x f => q1O T s t x f
  | .field t x f => qaA T s t x f
  | .indexAddr t x y => q1Q T s t x y
  | .index t x y => qa7 T s t x y
  | .extract x i => q4Z s x i
  | .call c => xCl T po E s c
  | .makeMap t r => q0U T s s.nx t r
  | .lookup t x y ok => (q1B T s t x y ok).map fun r => (r, s)
  | .mapUpdate t m k x => q1y T s t m k x
  | .insert t m k x => q1y T s t m k x
  | .mapEntry t m k => q7w T s t m k
  | .entryStore _ m st x => qaY s m st x
  | .range t x => q5O T s s.nx t x
  | .next it str => if str = true then qf7 s it else none
  | _ => none
def isY (s : S) : Op → Bool
  | .call { callee := .value f, .. } => (match s.ev f with | .c (.hd .yield _) => true | _ => false)
  | _ => false
def q5C (s : S) (args : List Operand) : List Nat := q1D s (((args.map s.ev).flatMap R.rows).eraseDups)
def qt9 (po : Pol) (s : S) (f : Operand) (args : List Operand) : S :=
  match s.ev f with
  | .c (.fn g _ _) => if po.fz g = true then s.frz (q5C s args) else s
  | _ => s
def qe5 (s : S) (i : Nat) : List Nat := match s.blk i with | .row _ _ cs => cs.flatMap C.rows | _ => []
def qdI (s : S) (i : Nat) : Bool := match s.blk i with | .row _ _ cs => cs.all C.dat | _ => false
def qrV (s : S) (args : List Operand) : S := s.frz ((q5C s args).filter (qdI s))
def pre (po : Pol) (s : S) (op : Op) : S :=
  match op with
  | .buildSlice _ _ parts => qrV s (parts.toList.map Prod.snd)
  | .call { callee := .value f, args, .. } => qt9 po (s.dzr po.q) f args.toList
  | _ => s
def q7I (s : S) : Option Nat → Bool
  | some d => decide (d < s.n)
  | none => true
def tt : R := .c (.d (.bool true))
def ff : R := .c (.d (.bool false))
def S.ly (s : S) (c : Operand) (r : R) : S := match c with | .tmp d => s.put (some d) r | _ => s
def xst (P : Program) (T : Ty) (po : Pol) (E : Orc) (o : Oper) (act : Bool) (s : S) : Option S :=
  if act = true then (xo P T po E (pre po s o.op) o.op).bind fun q => if q7I q.2 o.dst = true then some (q.2.put o.dst q.1) else none
  else if q7I s o.dst = true then some (s.put o.dst (.tup [])) else none
def q9w : List C → Option (List Int)
  | [] => some []
  | c :: l => match c with
    | .d (.int .i64 z) => (q9w l).map (z :: ·)
    | _ => none
def quh (s : S) (dst : Option Nat) (h : List Int → List Int) (id n : Nat) : Option S :=
  match s.blk id with
  | .row e 1 cs => (q9w cs).bind fun zs => if n = zs.length ∧ zs.length < 4611686018427387904 ∧ q7I s dst = true then some (((s.up [(id, .row e 1 ((h zs).map fun z => .d (.int .i64 z)))]).put dst (.tup [])).frz [id]) else none
  | _ => none
def qsC (s : S) (dst : Option Nat) (h : List Int → List Int) : R → Option S
  | .c (.own id 1 0 n) => quh s dst h id n
  | _ => none
def qs3 (T : Ty) (s : S) (dst : Option Nat) (g : FuncId) (args : List Operand) : Option (Option S) :=
  match args with
  | [x] => match T.ip g with
    | some h => some (qsC s dst h (s.ev x))
    | none => none
  | _ => none
def ipX (T : Ty) (s : S) (o : Oper) : Option (Option S) :=
  match o.guard, o.op with
  | none, .call { callee := .value f, args, .. } => match s.ev f with
    | .c (.fn g [] []) => qs3 T s o.dst g args.toList
    | _ => none
  | _, _ => none
def qaj (P : Program) (T : Ty) (po : Pol) (E : Orc) (ops : List Oper) (o : Oper) (s : S) : Option S :=
  match o.guard with
  | none => xst P T po E o true s
  | some (j, want) => match (ops[j]?).bind (·.dst) with
    | some d => match s.get d with
      | .c (.d (.bool b)) => if b = true then xst P T po E o want (s.put (some d) tt) else xst P T po E o (!want) (s.put (some d) ff)
      | .tup [] => xst P T po E o false s
      | _ => none
    | none => none
def qhm (x : Option (Option S)) (y : Option S) : Option S := match x with | some s => s | none => y
def xgd (P : Program) (T : Ty) (po : Pol) (E : Orc) (ops : List Oper) (o : Oper) (s : S) : Option S := qhm (ipX T s o) (qaj P T po E ops o s)
def xr (P : Program) (T : Ty) (po : Pol) (E : Orc) (ops : List Oper) : List Oper → S → Option S
  | [], s => some s
  | o :: l, s => (xgd P T po E ops o s).bind fun s' => xr P T po E ops l s'
def rng : Nat → List Nat → List Nat
  | 0, acc => acc
  | n + 1, acc => rng n (n :: acc)
def qsn (k : Nat) (kp : List Nat) (s : S) (ids : List Nat) : Option S :=
  if ids.Nodup ∧ ids.all (fun i => (s.blk i).live) = true ∧ (rng k []).all (fun i => ids[i]? == some i) = true then some ⟨kp.map (fun i => (i, cnR ids (s.get i))), cnH s ids ids 0, ids.length, s.n⟩ else none
def qiV (k : Nat) (kp : List Nat) (s : S) : Option S := qsn k kp s (q0K s 60 ((rng k []).flatMap (fun i => (s.blk i).refs) ++ (kp.map s.get).flatMap R.refs) (rng k []))
def S.inr (s : S) : List Nat := ((((s.hp.map Prod.fst).eraseDups.flatMap (qe5 s)).eraseDups).filter (qdI s))
def S.fn1 (s : S) : S := s.frz s.inr
def S.fin (s : S) (Q : TypeId → List Nat) : S := ((s.dzr Q).fn1).fn1
def nrm (po : Pol) (f key k : Nat) (s : S) : Option S := qiV k (po.kp f key) (rwAll (s.fin po.q) (po.rw f key))
def qZ : Code → Nat
  | .region id _ _ => id
  | .seq a _ => qZ a
  | .block _ b => qZ b
  | .loop b => qZ b
  | _ => 0
def qaT (ops : List Oper) (i j : Nat) : Bool :=
  match ops[i]?, ops[j]? with
  | some a, some b => (match a.dst with | some d => (q0Z ops b).contains d || decide (b.dst = some d) | none => false) || (match b.dst with | some d => (q0Z ops a).contains d | none => false)
  | _, _ => true
def qlb (ops : List Oper) (m : Nat) (A : List (List Nat)) : Bool :=
  let An := qv7 ops
  let n := ops.length
  (List.range n).all (fun i => (match ops[i]? with | some o => (Zs o).all (fun k => decide (k < i)) && (An.getD i []).all (fun k => (Zs o).contains k || (Zs o).any fun d => (An.getD d []).contains k) | none => false)) &&
  decide (m ≤ n) &&
  (List.range m).all (fun j => (List.range j).all fun i => !qaT ops i j || (An.getD j []).contains i) &&
  (List.range n).all (fun i => decide (i < m) || (List.range i).all fun j => (An.getD i []).contains j) &&
  (List.range m).all (fun i => (A.getD i []).all fun k => (An.getD i []).contains k)
def drq (po : Pol) (f id : Nat) (ops : List Oper) : Bool := qlb ops (po.dm f id) (po.an f id)
def q6h (q : Nat → List Oper → Bool) (rf : Bool) : Code → Bool
  | .region id ops draw => !draw || q id ops.toList
  | .seq a b => q6h q rf a && q6h q rf b
  | .cond _ a b => q6h q rf a && q6h q rf b
  | .block _ c => q6h q rf c
  | .loop c => q6h q rf c
  | .rangeFunc _ _ a b => rf && q6h q false a && q6h q false b
  | _ => true
abbrev XS := Option (Exit × S)
def sqD (k : S → XS) (p : Exit × S) : XS :=
  match p.1 with
  | .normal => k p.2
  | e => some (e, p.2)
def bkD (id : Nat) (p : Exit × S) : XS :=
  match p.1 with
  | .exit i => if i = id then some (.normal, p.2) else some (.exit i, p.2)
  | e => some (e, p.2)
def iter : Nat → (S → XS) → S → XS
  | 0, _, _ => none
  | n + 1, F, s => (F s).bind (sqD (iter n F))
def lpx (po : Pol) (f key k : Nat) (p : Exit × S) : XS :=
  match p.1 with
  | .normal => (nrm po f key k p.2).bind fun s2 => some (.normal, s2)
  | e => (qiV k (po.kx f key) (p.2.fin po.q)).bind fun s2 => some (e, s2)
def qci (s : S) (l : List Nat) : List R := (List.range s.n).map fun i => if l.contains i = true then s.get i else .any
def q39 (s : S) (l : List Nat) : List Nat := q1D s (((l.map s.get).flatMap R.rows).eraseDups)
def qnZ (s : S) : Option Code → XS
  | none => some (.normal, s)
  | some .ret => some (.ret, s)
  | some (.exit i) => some (.exit i, s)
  | _ => none
def qwb (n : Nat) (s : S) : XS :=
  match s.get n with
  | .c (.hd .yield rid) => match s.blk rid with
    | .ob (.lp f tm ps as bd st pd) => if st = .busy then none else qnZ (s.rfx n rid (.lp f tm ps as bd .exhausted pd)) pd
    | _ => none
  | _ => none
def xRF (po : Pol) (E : Orc) (f : Nat) (g : Operand) (ps : List Nat) (as bd : Code) (s : S) : XS :=
  match s.ev g with
  | .c (.fn g' fs caps) => (q6O E (s.rf f (qci s (po.rk f (qZ bd))) ps as bd) g' (po.ow g') [] (fs.map R.c ++ [.c (.hd .yield s.nx)] ++ caps.map R.c)).bind fun q => qwb s.n q.2
  | _ => none
def XD (P : Program) (T : Ty) (po : Pol) (E : Orc) (DR : Nat → List Oper → S → Option S) (LO : (S → XS) → S → XS) (f k : Nat) : Code → S → XS
  | .skip, s => some (.normal, s)
  | .label _, s => some (.normal, s)
  | .ret, s => some (.ret, s)
  | .exit id, s => some (.exit id, s)
  | .seq a b, s => (XD P T po E DR LO f k a s).bind (sqD fun s' => XD P T po E DR LO f k b s')
  | .block id c, s => (XD P T po E DR LO f k c s).bind (bkD id)
  | .cond c x y, s => match s.ev c with
    | .c (.d (.bool b)) => if b = true then XD P T po E DR LO f k x (s.ly c tt) else XD P T po E DR LO f k y (s.ly c ff)
    | _ => none
  | .region id ops draw, s => if draw = true then (DR id ops.toList ((s.dzr po.q).frz (q39 (s.dzr po.q) (po.rk f id)))).bind fun s' => some (.normal, s') else (xr P T po E ops.toList ops.toList s).bind fun s' => some (.normal, s')
  | .rangeFunc g ps as bd, s => xRF po E f g ps.toList as bd ((s.dzr po.q).frz (q39 (s.dzr po.q) (po.rk f (qZ bd))))
  | .loop c, s => (nrm po f (qZ c) k s).bind fun s0 => LO (fun s => (XD P T po E DR LO f k c s).bind (lpx po f (qZ c) k)) s0
  | _, _ => none
section
variable {P : Program} {T : Ty} {po : Pol} {E : Orc} {s s' : S} {r : R} {cx : Cx}
theorem qnx (hE : Snd P E) {c : Call} {K : KK} (hny : ∀ f, c.callee = .value f → ∀ rid, s.ev f ≠ .c (.hd .yield rid)) (h : xCl T po E s c = some (r, s')) (hK : K r s') : qfu P T s s.nx c K := by
  unfold xCl at h; unfold qfu
  split at h
  · rename_i h1 h2 h3
    simp only [h1, h2, h3]
    split at h
    · rename_i hk
      simp only [hk]
      obtain ⟨r', h4, h5⟩ := Option.map_eq_some_iff.1 h
      injection h5 with h5 h6
      subst h5 h6
      exact ⟨_, h4, hK⟩
    · rename_i hk
      split
      · rename_i hk'; exact absurd hk' (hk _ _)
      · exact qla h hK
  · rename_i h1 h2; simp only [h1, h2]; exact qiU h hK
  · rename_i h1 h2; simp only [h1, h2]; exact qjN h hK
  · rename_i h1 h2 h3
    simp only [h1, h2, h3]
    split at h
    · rename_i ht; exact ⟨ht, q42 h hK⟩
    · cases h
  · rename_i h1 h2 h3; simp only [h1, h2, h3]; exact ⟨_, _, h, hK⟩
  · rename_i f h1
    simp only [h1]
    unfold q06 at h
    split at h
    · rename_i g fs caps hf
      exact ⟨g, fs, caps, hf, q7S hE h hK⟩
    · rename_i rid hf; exact absurd hf (hny f h1 rid)
    · cases h
  · cases h
theorem qju (hE : Snd P E) {op : Op} {K : KK} (hy : isY s op = false) (h : xo P T po E s op = some (r, s')) (hK : K r s') : ox P T s s.nx op K := by
  cases op with
  | move x => obtain ⟨rfl, rfl⟩ := zU h; exact hK
  | assign x => obtain ⟨rfl, rfl⟩ := zU h; exact hK
  | pick c x y => exact qhe h hK
  | alloc t => exact qfk h hK
  | box t x => exact qkN h hK
  | build t parts => exact qf1 h hK
  | buildSlice t len parts => exact q6n h hK
  | load t x => exact qgd h hK
  | store t x y => exact q7Z h hK
  | nilCheck x => exact q8d h hK
  | binOp op t x y t' => exact qlN h hK
  | unOp op t x => exact qml h hK
  | convert t t' x => exact qge h hK
  | makeFunc f first captured => exact q8W h hK
  | makeSlice t l c => exact qaO h hK
  | slice t x lo hi mx => exact qet h hK
  | fieldAddr t x f => exact q7Q h hK
  | field t x f => exact qeR h hK
  | indexAddr t x y => exact q7t h hK
  | index t x y => exact qdp h hK
  | extract x i => exact q9U h hK
  | call c =>
    refine qnx hE (fun f hf rid he => ?_) h hK
    obtain ⟨callee, args, ts⟩ := c
    simp only at hf
    subst hf
    simp only [isY, he] at hy
    cases hy
  | makeMap t r => exact ⟨_, _, h, hK⟩
  | lookup t x y ok =>
    obtain ⟨r', h4, h5⟩ := Option.map_eq_some_iff.1 (show (q1B T s t x y ok).map (fun r => (r, s)) = some (r, s') from h)
    injection h5 with h5 h6
    subst h5 h6
    exact ⟨_, h4, hK⟩
  | mapUpdate t m k x => exact ⟨_, _, h, hK⟩
  | insert t m k x => exact ⟨_, _, h, hK⟩
  | mapEntry t m k => exact ⟨_, _, h, hK⟩
  | entryStore t m st x => exact ⟨_, _, h, hK⟩
  | range t x => exact ⟨_, _, h, hK⟩
  | next it str =>
    simp only [xo] at h
    split at h
    · rename_i hs; exact ⟨hs, _, _, h, hK⟩
    · cases h
  | _ => cases h
theorem q1h (s : S) (l : List Nat) : (q1D s l).all (fun i => !(s.blk i).isBlk) = true := by
  rw [List.all_eq_true]; intro i hi
  exact (List.mem_filter.1 hi).2
theorem qpT (po : Pol) (op : Op) {ρ : Pl} {a : Act} {w : World} (hs : Sim cx ρ s a w) : Sim cx ρ (pre po s op) a w := by
  unfold pre
  split
  · exact hs.frz (List.all_eq_true.2 fun i hi => List.all_eq_true.1 (q1h _ _) i (List.mem_filter.1 hi).1)
  · have hs := hs.dzr po.q
    unfold qt9
    split
    · split
      · exact hs.frz (q1h _ _)
      · exact hs
    · exact hs
  · exact hs
theorem Sim.lit {ρ : Pl} {a : Act} {w : World} (hs : Sim cx ρ s a w) {d : Nat} {b : Bool} (h : s.get d = .c (.d (.bool b))) : Sim cx ρ (s.put (some d) (.c (.d (.bool b)))) a w := by
  refine ⟨hs.hd, hs.size, fun i => ?_, hs.hp, hs.hp0, hs.out, hs.inj, hs.nx, hs.kept, hs.oldF, hs.pin, hs.sameF, hs.sep⟩
  show RR w s.live ρ _ (lk ((d, R.c (.d (.bool b))) :: s.tm) i .any)
  unfold lk
  split
  · rename_i hd; subst hd; rw [← h]; exact hs.tm d
  · exact hs.tm i
theorem Sim.ly {ρ : Pl} {a : Act} {w : World} (hs : Sim cx ρ s a w) {c : Operand} {b : Bool} (h : s.ev c = .c (.d (.bool b))) : Sim cx ρ (s.ly c (.c (.d (.bool b)))) a w := by
  cases c with
  | tmp d => exact hs.lit h
  | _ => exact hs
theorem RR.un {w : World} {L : Nat → Prop} {ρ : Pl} : RR w L ρ undef (.tup []) := .tup _ _ rfl (fun j c h => by simp at h)
theorem q2z {s : S} {dst : Option Nat} (h : q7I s dst = true) : ∀ d, dst = some d → d < s.n := fun d hd => by subst hd; simpa [q7I] using h
theorem qic (hA : Ag P T) (hE : Snd P E) {o : Oper} {act : Bool} {ρ : Pl} {a : Act} {w : World} (hs : Sim cx ρ s a w) (h : xst P T po E o act s = some s') {next : Act → World → Prop} {Q : Exit → Act → World → Prop}
    (hn : ∀ ρ' a' w', Sim cx ρ' s' a' w' → next a' w') : if act = true then o.wpIn (FW cx.ro) 0 P a w next Q else next (a.put o.dst undef) w := by
  unfold xst at h
  split
  · rename_i ha
    rw [if_pos ha] at h
    obtain ⟨⟨r, s1⟩, h1, h2⟩ := Option.bind_eq_some_iff.1 h
    simp only at h2
    split at h2
    · rename_i hd
      injection h2 with h2
      subst h2
      have hp := qpT po o.op hs
      by_cases hy : isY (Vc.pre po s o.op) o.op = true
      · have hny : ∃ y args ts rid, o.op = .call { callee := .value y, args, argTypes := ts } ∧ (Vc.pre po s o.op).ev y = .c (.hd .yield rid) := by
          generalize Vc.pre po s o.op = t at hy
          unfold isY at hy
          split at hy
          · rename_i y args ts ho
            split at hy
            · rename_i rid he; exact ⟨_, _, _, rid, ho, he⟩
            · cases hy
          · cases hy
        obtain ⟨y, args, ts, rid, ho, hye⟩ := hny
        have h3 : q2h E (Vc.pre po s o.op) rid (args.toList.map (Vc.pre po s o.op).ev) = some (r, s1) := by
          generalize Vc.pre po s o.op = t at h1 hye
          rw [ho] at h1
          simp only [xo, xCl, q06, hye] at h1
          exact h1
        refine qf0 hE hp ho hye h3 ?_
        rintro r' s2 ρ' v w' ⟨rfl, rfl⟩ h3 h4
        exact hn ρ' _ w' (h3.put (q2z hd) h4)
      have hox : ox P T (Vc.pre po s o.op) (Vc.pre po s o.op).nx o.op (fun r' s' => r' = r ∧ s' = s1) := qju hE (by simpa using hy) h1 ⟨rfl, rfl⟩
      refine q6f (K := fun r' s' => r' = r ∧ s' = s1) hA (fun h => by have := hp.nx _ h; omega) hp hox ?_
      rintro r' s2 ρ' v w' ⟨rfl, rfl⟩ h3 h4
      exact hn ρ' _ w' (h3.put (q2z hd) h4)
    · cases h2
  · rename_i ha
    rw [if_neg ha] at h
    split at h
    · rename_i hd
      injection h with h
      subst h
      exact hn ρ _ w (hs.put (q2z hd) RR.un)
    · cases h
theorem qak : ∀ {cs : List C} {zs : List Int}, q9w cs = some zs → cs = zs.map fun z => .d (.int .i64 z)
  | [], zs, h => by injection h with h; subst h; rfl
  | c :: l, zs, h => by
    unfold q9w at h
    split at h
    · obtain ⟨ys, h1, h2⟩ := Option.map_eq_some_iff.1 h
      subst h2
      rw [qak h1]; rfl
    · cases h
theorem qli (hA : Ag P T) {g : FuncId} {h : List Int → List Int} (hg : T.ip g = some h) {id n : Nat} {e : TypeId} {cs : List C} (hb : s.blk id = .row e 1 cs) {zs : List Int} (hz : q9w cs = some zs) (hn : n = zs.length) (hlt : zs.length < 4611686018427387904) :
    q05 P s g [.c (.own id 1 0 n)] fun r s1 => r = .tup [] ∧ s1 = s.up [(id, .row e 1 ((h zs).map fun z => .d (.int .i64 z)))] := by
  have hI := hA.ip g h hg
  refine ⟨⟨hI.ent⟩, fun cx ρ a w vs hs hv => ?_⟩
  obtain ⟨hvs, hvr⟩ := hv
  have hv0 := hvr 0 _ rfl
  obtain ⟨v0, hv1⟩ : ∃ v0, vs = #[v0] := by
    have : vs.size = 1 := by simpa using hvs
    exact ⟨vs[0], by
      apply Array.ext
      · simpa using hvs
      · intro i hi hi'
        have : i = 0 := by simp at hi'; exact hi'
        subst this; rfl⟩
  subst hv1
  have hv0 : RR w _ ρ v0 _ := hv0
  obtain ⟨hl, hcase⟩ := hv0.inv_own
  have hcs := qak hz
  subst hn
  have hpin : id < cx.k → (B.row e 1 ((h zs).map fun z => C.d (.int .i64 z))).isBlk = true := fun hk => by
    have := (hs.pin id hk).2
    rw [hb] at this
    cases this
  rcases hcase with ⟨b, cap, e1, e2, e3, e4⟩ | ⟨e1, e2, -, e5⟩
  · rw [Nat.zero_mul, Nat.sub_zero] at e4
    rw [Nat.zero_add] at e2
    obtain ⟨hbz, hB⟩ := hs.hp id b cap hl e1
    rw [hb] at hB
    obtain ⟨cur, c1, c2, c3, c4, c5, c6⟩ : HB w _ ρ b cap (.row e 1 cs) := hB
    have hcl : cs.length = zs.length := by rw [hcs, List.length_map]
    have htk : cur.toList.take zs.length = zs.map (Value.int .i64) := by
      apply List.ext_getElem?
      intro j
      by_cases hj : j < zs.length
      · rw [List.getElem?_take_of_lt hj, Array.getElem?_toList, List.getElem?_map, List.getElem?_eq_getElem hj, Option.map_some]
        have := c6 j (.d (.int .i64 zs[j])) (by rw [hcs, List.getElem?_map, List.getElem?_eq_getElem hj]; rfl)
        have hj2 : j < cur.size := by omega
        rw [Array.getD_eq_getD_getElem?, Array.getElem?_eq_getElem hj2, Option.getD_some] at this
        rw [Array.getElem?_eq_getElem hj2]
        have := (RR.c _ _ this).inv_int
        rw [this]
      · rw [List.getElem?_take_eq_none (by omega), List.getElem?_eq_none (by simp; omega)]
    rw [e4]
    refine (hI.row b cap zs w cur e c1 htk hlt).mono fun e' w' => ?_
    rintro ⟨rfl, hgr, cur', d1, d2, d3⟩
    have hHB : HB w' (s.up [(id, B.row e 1 ((h zs).map fun z => C.d (.int .i64 z)))]).live ρ b cap (.row e 1 ((h zs).map fun z => C.d (.int .i64 z))) := by
      refine ⟨cur', d1, by have := hI.len zs; simp only [List.length_map]; omega, d2.trans c3, c4, c5, fun j c hj => ?_⟩
      rw [List.getElem?_map] at hj
      obtain ⟨z, q1, q2⟩ := Option.map_eq_some_iff.1 hj
      subst q2
      have hjl : j < zs.length := by have := (List.getElem?_eq_some_iff.1 q1).1; rw [hI.len] at this; exact this
      have h3 : (cur'.toList.take zs.length)[j]? = some (.int .i64 z) := by rw [d3, List.getElem?_map, q1]; rfl
      rw [List.getElem?_take_of_lt hjl, Array.getElem?_toList] at h3
      rw [Array.getD_eq_getD_getElem?, h3]
      exact .d _ _ (.int _ _)
    have hnew := (hs.overG (id := id) (x := .row e 1 ((h zs).map fun z => C.d (.int .i64 z))) hl e1 rfl hpin hgr.size (fun k hk hne => hgr.block k hk (fun e => hne (Option.some.inj e))) hgr.os hgr.tape hgr.output hHB).1
    exact ⟨_, _, _, ρ, rfl, ⟨rfl, rfl⟩, hnew, .tup _ _ rfl (fun j r hj => by simp at hj)⟩
  · subst e2
    have hz0 : zs = [] := List.eq_nil_of_length_eq_zero e5
    subst hz0
    have hh0 : h [] = [] := List.eq_nil_of_length_eq_zero (hI.len [])
    refine (hI.none_ w).mono fun e' w' => ?_
    rintro ⟨rfl, rfl⟩
    have hcs0 : cs = [] := by rw [hcs]; rfl
    subst hcs0
    refine ⟨_, _, _, ρ, rfl, ⟨rfl, rfl⟩, ?_, .tup _ _ rfl (fun j r hj => by simp at hj)⟩
    rw [hh0]
    refine hs.ext (fun i => rfl) (fun i => ?_) rfl (fun i hi => ?_)
    · rw [S.blk_up]
      by_cases hi : id = i
      · subst hi; rw [if_pos rfl, hb]; rfl
      · rw [if_neg hi]
    · have : s.live i := by
        unfold S.live at hi ⊢
        rw [S.blk_up] at hi
        by_cases hii : id = i
        · subst hii; rw [hb]; rfl
        · rw [if_neg hii] at hi; exact hi
      have h1 := hs.nx i this
      show i < max s.nx (id + 1)
      omega
theorem qhZ (hA : Ag P T) {o : Oper} {ρ : Pl} {a : Act} {w : World} (hs : Sim cx ρ s a w) (h : ipX T s o = some (some s')) {next : Act → World → Prop} {Q : Exit → Act → World → Prop}
    (hn : ∀ ρ' a' w', Sim cx ρ' s' a' w' → next a' w') : o.guard = none ∧ o.wpIn (FW cx.ro) 0 P a w next Q := by
  unfold ipX at h
  split at h
  · rename_i f args ts hg ho
    split at h
    · rename_i g hf
      unfold qs3 at h
      split at h
      · rename_i x hargs
        split at h
        · rename_i h0 hip
          injection h with h
          unfold qsC at h
          split at h
          · rename_i id n hx
            unfold quh at h
            split at h
            · rename_i e cs hb
              obtain ⟨zs, hz, h2⟩ := Option.bind_eq_some_iff.1 h
              split at h2
              · rename_i hc
                obtain ⟨c1, c2, c3⟩ := hc
                injection h2 with h2
                have hcall := qli (s := s) hA hip hb hz c1 c2
                have hox : ox P T s s.nx o.op (fun r s1 => r = .tup [] ∧ s1 = s.up [(id, .row e 1 ((h0 zs).map fun z => .d (.int .i64 z)))]) := by
                  rw [ho]
                  unfold ox qfu
                  simp only [hargs]
                  exact ⟨g, [], [], hf, by rw [List.map_nil, List.nil_append, List.append_nil, List.map_cons, List.map_nil, hx]; exact hcall⟩
                refine ⟨hg, q6f (K := fun r' s1 => r' = .tup [] ∧ s1 = s.up [(id, .row e 1 ((h0 zs).map fun z => .d (.int .i64 z)))]) hA (fun h => by have := hs.nx _ h; omega) hs hox ?_⟩
                rintro r' s2 ρ' v w' ⟨rfl, rfl⟩ h3 h4
                refine hn ρ' _ w' ?_
                rw [← h2]
                refine (h3.put (fun d hd => by have := q2z c3 d hd; exact this) h4).frz ?_
                rw [List.all_cons, List.all_nil, Bool.and_true]
                have e1 : (((s.up [(id, .row e 1 ((h0 zs).map fun z => .d (.int .i64 z)))]).put o.dst (.tup [])).blk id) = (s.up [(id, .row e 1 ((h0 zs).map fun z => .d (.int .i64 z)))]).blk id := by cases o.dst <;> rfl
                rw [e1, S.blk_up]
                simp [B.isBlk]
              · cases h2
            · cases h
          · cases h
        · cases h
      · cases h
    · cases h
  · cases h
theorem qkb (hA : Ag P T) (hE : Snd P E) {ops : Array Oper} {Q' : Exit → Act → World → Prop} : ∀ (l : List Oper) (s s' : S) (ρ : Pl) (a : Act) (w : World), Sim cx ρ s a w → xr P T po E ops.toList l s = some s' →
    (∀ ρ' a' w', Sim cx ρ' s' a' w' → Q' .normal a' w') → wpListIn (FW cx.ro) 0 P ops Q' l a w
  | [], s, s', ρ, a, w, hs, h, hQ => by injection h with h; subst h; exact hQ ρ a w hs
  | o :: l, s, s', ρ, a, w, hs, h, hQ => by
    unfold xr at h
    obtain ⟨s1, h1, h2⟩ := Option.bind_eq_some_iff.1 h
    unfold wpListIn
    have key : ∀ (s0 : S) (act : Bool), Sim cx ρ s0 a w → Region.wanted o (yielded ops a.tmps) = act → xst P T po E o act s0 = some s1 →
        if Region.wanted o (yielded ops a.tmps) = true then o.wpIn (FW cx.ro) 0 P a w (fun a' w' => wpListIn (FW cx.ro) 0 P ops Q' l a' w') Q' else (∀ f, o.about P w a.eval = some f → (FW cx.ro).fn f) ∧ wpListIn (FW cx.ro) 0 P ops Q' l (a.put o.dst undef) w := by
      intro s0 act h3 h4 h5
      have := qic (next := fun a' w' => wpListIn (FW cx.ro) 0 P ops Q' l a' w') (Q := Q') hA hE h3 h5 (fun ρ' a' w' h6 => qkb hA hE l s1 s' ρ' a' w' h6 h2 hQ)
      rw [h4]
      split
      · rename_i ha; rw [if_pos ha] at this; exact this
      · rename_i ha; rw [if_neg ha] at this; exact ⟨q7M, this⟩
    unfold xgd at h1
    cases hi : ipX T s o with
    | some y =>
      rw [hi] at h1
      replace h1 : y = some s1 := h1
      subst h1
      obtain ⟨i1, i2⟩ := qhZ (next := fun a' w' => wpListIn (FW cx.ro) 0 P ops Q' l a' w') (Q := Q') hA hs hi (fun ρ' a' w' h6 => qkb hA hE l s1 s' ρ' a' w' h6 h2 hQ)
      rw [if_pos (by unfold Region.wanted; rw [i1])]
      exact i2
    | none =>
    rw [hi] at h1
    replace h1 : qaj P T po E ops.toList o s = some s1 := h1
    unfold qaj at h1
    split at h1
    · rename_i hg
      exact key s true hs (by unfold Region.wanted; rw [hg]) h1
    · rename_i j want hg
      split at h1
      · rename_i d hd
        split at h1
        · rename_i b hb
          have hgd : gd ops.toList s o.guard = some (b == want) := by unfold gd; rw [hg]; simp only [hd, hb]
          have hw := q0s hs hgd
          split at h1
          · rename_i hbt
            subst hbt
            exact key _ want (hs.lit hb) (by rw [hw]; cases want <;> rfl) h1
          · rename_i hbf
            have hbf : b = false := by cases b <;> simp at hbf ⊢
            subst hbf
            exact key _ (!want) (hs.lit hb) (by rw [hw]; cases want <;> rfl) h1
        · rename_i hb
          have hgd : gd ops.toList s o.guard = some false := by unfold gd; rw [hg]; simp only [hd, hb]
          exact key s false hs (q0s hs hgd) h1
        · cases h1
      · cases h1
theorem qfc {k : Nat} {kp : List Nat} {s1 : S} (hk : cx.k = k) (h : qiV k kp s1 = some s') : Le cx s1 s' := fun ρ1 a w h1 => by
  unfold qiV at h
  unfold qsn at h
  split at h
  · rename_i hc
    injection h with h
    generalize q0K s1 60 _ _ = ids at h hc
    obtain ⟨c1, c2, c3⟩ := hc
    have hr : ∀ (n : Nat) (acc : List Nat) (i : Nat), i < n → i ∈ rng n acc := by
      intro n
      induction n with
      | zero => intro acc i hi; omega
      | succ n ih =>
        intro acc i hi
        unfold rng
        by_cases hn : i = n
        · subst hn
          have : ∀ (m : Nat) (acc : List Nat) (x : Nat), x ∈ acc → x ∈ rng m acc := by
            intro m
            induction m with
            | zero => intro acc x hx; exact hx
            | succ m ih2 => intro acc x hx; exact ih2 _ x (List.mem_cons_of_mem _ hx)
          exact this _ _ _ List.mem_cons_self
        · exact ih _ i (by omega)
    obtain ⟨ρ2, h2, -⟩ := h1.canon (ids := ids) (tm := kp.map (fun i => (i, cnR ids (s1.get i)))) (n := s1.n) (a' := a) c1 c2 (fun i hi => by
      have := List.all_eq_true.1 c3 i (hr k [] i (by omega))
      simpa using this) h1.hd h1.size (fun i => by
      have : ∀ l : List Nat, lk (l.map (fun i => (i, cnR ids (s1.get i)))) i .any = .any ∨ lk (l.map (fun i => (i, cnR ids (s1.get i)))) i .any = cnR ids (s1.get i) := by
        intro l
        induction l with
        | nil => exact .inl rfl
        | cons x l ih =>
          simp only [List.map_cons, lk]
          split
          · rename_i hx; subst hx; exact .inr rfl
          · exact ih
      rcases this kp with h | h
      · exact .inl h
      · exact .inr ⟨_, h1.tm i, h⟩)
    subst h
    exact ⟨ρ2, h2⟩
  · cases h
theorem Sim.fn1 {ρ : Pl} {a : Act} {w : World} (hs : Sim cx ρ s a w) : Sim cx ρ s.fn1 a w := hs.frz (by
  rw [List.all_eq_true]
  intro i hi
  have h := (List.mem_filter.1 hi).2
  unfold qdI at h
  split at h
  · rename_i hb; rw [hb]; rfl
  · cases h)
theorem Sim.fin {ρ : Pl} {a : Act} {w : World} (hs : Sim cx ρ s a w) (Q : TypeId → List Nat) : Sim cx ρ (s.fin Q) a w := ((hs.dzr Q).fn1).fn1
theorem qmz (s : S) (Q : TypeId → List Nat) : Le cx s (s.fin Q) := fun ρ _ _ hs => ⟨ρ, hs.fin Q⟩
theorem qhA {f key k : Nat} (hk : cx.k = k) (h : nrm po f key k s = some s') : Le cx s s' := fun _ _ _ hs => by
  obtain ⟨ρ1, h1⟩ := (hs.fin po.q).rwAll (po.rw f key)
  exact qfc hk h ρ1 _ _ h1
theorem J.weak {c : Code} {Q Q' : Exit → S → Prop} (h : J P cx c Q s) (hq : ∀ e s, Q e s → ∃ s', Le cx s s' ∧ Q' e s') : J P cx c Q' s := fun ρ a w hs =>
  wpIn_mono (h ρ a w hs) fun _ _ _ ⟨s', ρ', h1, h2⟩ => by
    obtain ⟨s'', h3, h4⟩ := hq _ _ h1
    obtain ⟨ρ'', h5⟩ := h3 ρ' _ _ h2
    exact ⟨s'', ρ'', h4, h5⟩
def qst (P : Program) (q : Nat → List Oper → Bool) (k : Nat) (DR : Nat → List Oper → S → Option S) : Prop :=
  ∀ (cx : Cx) (id : Nat) (ops : Array Oper) (s s' : S) (Q : Exit → S → Prop), cx.k = k → q id ops.toList = true → DR id ops.toList s = some s' → Q .normal s' → J P cx (.region id ops true) Q s
theorem qgg (s : S) (l : List Nat) : (qci s l).length = s.n ∧ ∀ i r, (qci s l)[i]? = some r → r = .any ∨ r = s.get i := by
  refine ⟨by simp [qci], fun i r h => ?_⟩
  unfold qci at h
  rw [List.getElem?_map] at h
  obtain ⟨j, h1, h2⟩ := Option.map_eq_some_iff.1 h
  have hj : j = i := by
    have := (List.getElem?_eq_some_iff.1 h1).2
    rw [List.getElem_range] at this
    exact this.symm
  subst hj
  split at h2
  · exact .inr h2.symm
  · exact .inl h2.symm
theorem qnU (hE : Snd P E) {f : Nat} {g : Operand} {ps : Array Tmp} {as bd : Code} {e : Exit} {Q : Exit → S → Prop} (hro : cx.ro = none) (h : xRF po E f g ps.toList as bd s = some (e, s')) (hQ : Q e s') : J P cx (.rangeFunc g ps as bd) Q s := by
  unfold xRF at h
  split at h
  · rename_i g' fs caps hg
    obtain ⟨⟨r, s2⟩, h1, h2⟩ := Option.bind_eq_some_iff.1 h
    refine J.rangeFunc (K := fun r' s2' => r' = r ∧ s2' = s2) hro hg (qgg s _) (q7S hE h1 ⟨rfl, rfl⟩) ?_
    rintro r' s2' ⟨rfl, rfl⟩
    unfold qwb at h2
    simp only at h2
    split at h2
    · rename_i rid hr
      split at h2
      · rename_i f' tm' ps' as' bd' st pd hb
        split at h2
        · cases h2
        · rename_i hst
          refine ⟨rid, f', tm', ps', as', bd', st, pd, hr, hb, hst, ?_⟩
          unfold qnZ at h2
          split at h2
          · injection h2 with h2; injection h2 with h3 h4; subst h3 h4; exact hQ
          · injection h2 with h2; injection h2 with h3 h4; subst h3 h4; exact hQ
          · injection h2 with h2; injection h2 with h3 h4; subst h3 h4; exact hQ
          · cases h2
      · cases h2
    · cases h2
  · cases h
theorem qgj (hA : Ag P T) (hE : Snd P E) {DR : Nat → List Oper → S → Option S} {f k n : Nat} {q : Nat → List Oper → Bool} {rf : Bool} (hD : qst P q k DR) : ∀ (c : Code) (s s' : S) (e : Exit) (cx : Cx) (Q : Exit → S → Prop), q6h q rf c = true → cx.k = k → (rf = true → cx.ro = none) → XD P T po E DR (iter n) f k c s = some (e, s') → Q e s' → J P cx c Q s := by
  intro c
  induction c with
  | skip => intro s s' e cx Q hq hk hro h hQ; injection h with h; injection h with h1 h2; subst h1 h2; exact J.skip hQ
  | label l => intro s s' e cx Q hq hk hro h hQ; injection h with h; injection h with h1 h2; subst h1 h2; exact J.label hQ
  | ret => intro s s' e cx Q hq hk hro h hQ; injection h with h; injection h with h1 h2; subst h1 h2; exact J.ret hQ
  | exit id => intro s s' e cx Q hq hk hro h hQ; injection h with h; injection h with h1 h2; subst h1 h2; exact J.exit hQ
  | seq x y ihx ihy =>
    intro s s' e cx Q hq hk hro h hQ
    unfold XD at h
    obtain ⟨⟨e1, s1⟩, h1, h2⟩ := Option.bind_eq_some_iff.1 h
    have hq : q6h q rf x = true ∧ q6h q rf y = true := (Bool.and_eq_true _ _).mp hq
    refine J.seq (ihx s s1 e1 cx _ hq.1 hk hro h1 ?_)
    unfold sqD at h2
    split at h2
    · rename_i he
      simp only at he
      subst he
      exact ihy _ s' e cx Q hq.2 hk hro h2 hQ
    · rename_i he
      simp only at he
      injection h2 with h2; injection h2 with h3 h4
      simp only at h3 h4
      subst h3 h4
      cases e1 with
      | normal => exact absurd rfl he
      | _ => exact hQ
  | block id x ih =>
    intro s s' e cx Q hq hk hro h hQ
    unfold XD at h
    obtain ⟨⟨e1, s1⟩, h1, h2⟩ := Option.bind_eq_some_iff.1 h
    refine J.block (ih s s1 e1 cx _ hq hk hro h1 ?_)
    unfold bkD at h2
    split at h2
    · rename_i i he
      simp only at he
      subst he
      split at h2
      · rename_i hi
        injection h2 with h2; injection h2 with h3 h4
        simp only at h4
        subst h3 h4
        simp only [Bk, if_pos hi]; exact hQ
      · rename_i hi
        injection h2 with h2; injection h2 with h3 h4
        simp only at h4
        subst h3 h4
        simp only [Bk, if_neg hi]; exact hQ
    · rename_i he
      simp only at he
      injection h2 with h2; injection h2 with h3 h4
      simp only at h3 h4
      subst h3 h4
      cases e1 with
      | exit i => exact absurd rfl (he i)
      | _ => exact hQ
  | cond c x y ihx ihy =>
    intro s s' e cx Q hq hk hro h hQ
    have hq : q6h q rf x = true ∧ q6h q rf y = true := (Bool.and_eq_true _ _).mp hq
    unfold XD at h
    split at h
    · rename_i b hb
      split at h
      · rename_i hbt; subst hbt; exact J.cond hb (fun _ ρ a w hs => ihx _ _ _ _ _ hq.1 hk hro h hQ ρ a w (hs.ly hb)) (fun h => by cases h)
      · rename_i hbt
        have : b = false := by cases b <;> simp at hbt ⊢
        subst this; exact J.cond hb (fun h => by cases h) (fun _ ρ a w hs => ihy _ _ _ _ _ hq.2 hk hro h hQ ρ a w (hs.ly hb))
    · cases h
  | region id ops draw =>
    intro s s' e cx Q hq hk hro h hQ
    unfold XD at h
    split at h
    · rename_i hd
      obtain ⟨s1, h1, h2⟩ := Option.bind_eq_some_iff.1 h
      injection h2 with h2; injection h2 with h3 h4
      subst h3 h4
      subst hd
      exact fun ρ a w hs => hD cx id ops _ s1 Q hk (by simpa [q6h] using hq) h1 hQ ρ a w ((hs.dzr po.q).frz (q1h _ _))
    · rename_i hd
      obtain ⟨s1, h1, h2⟩ := Option.bind_eq_some_iff.1 h
      injection h2 with h2; injection h2 with h3 h4
      subst h3 h4
      have hd : draw = false := by cases draw <;> simp at hd ⊢
      subst hd
      intro ρ a w hs
      exact wpIn_region_list (qkb hA hE ops.toList s s1 ρ a w hs h1 (fun ρ' a' w' h => ⟨s1, ρ', hQ, h⟩))
  | rangeFunc g ps as bd iha ihb =>
    intro s s' e cx Q hq hk hro h hQ
    unfold XD at h
    have hrf : rf = true := by simp only [q6h, Bool.and_eq_true] at hq; exact hq.1.1
    intro ρ a w hs
    exact qnU hE (hro hrf) h hQ ρ a w ((hs.dzr po.q).frz (q1h _ _))
  | loop c ih =>
    intro s s' e cx Q hq hk hro h hQ
    unfold XD at h
    obtain ⟨s0, h0, h1⟩ := Option.bind_eq_some_iff.1 h
    generalize hF : (fun s => (XD P T po E DR (iter n) f k c s).bind (lpx po f (qZ c) k)) = F at h1
    refine J.loop (ι := Nat × S) (fun i => i.2) (fun i => iter i.1 F i.2 = some (e, s')) (fun i => i.1) (n, s0) h1 (qhA hk h0) ?_
    rintro ⟨m, t⟩ hm
    cases m with
    | zero => cases hm
    | succ m =>
      simp only [iter] at hm
      obtain ⟨⟨e1, t1⟩, h2, h3⟩ := Option.bind_eq_some_iff.1 hm
      rw [← hF] at h2
      simp only at h2
      obtain ⟨⟨e2, t2⟩, h4, h5⟩ := Option.bind_eq_some_iff.1 h2
      refine J.weak (ih t t2 e2 cx (fun e0 s0 => e0 = e2 ∧ s0 = t2) hq hk hro h4 ⟨rfl, rfl⟩) ?_
      rintro e0 s0 ⟨rfl, rfl⟩
      unfold lpx at h5
      split at h5
      · rename_i he
        simp only at he h5
        subst he
        obtain ⟨t3, h6, h7⟩ := Option.bind_eq_some_iff.1 h5
        injection h7 with h7; injection h7 with h8 h9
        subst h8 h9
        unfold sqD at h3
        simp only at h3
        exact ⟨t3, qhA hk h6, (m, t3), h3, Le.refl _, Nat.lt_succ_self m⟩
      · rename_i he
        simp only at he h5
        obtain ⟨t3, h6, h7⟩ := Option.bind_eq_some_iff.1 h5
        injection h7 with h7; injection h7 with h8 h9
        subst h8 h9
        unfold sqD at h3
        cases e0 with
        | normal => exact absurd rfl he
        | _ =>
          simp only at h3
          injection h3 with h3; injection h3 with h8 h9
          subst h8 h9
          exact ⟨_, (qmz _ _).trans (qfc hk h6), hQ⟩
  | _ => intro s s' e cx Q hq hk hro h hQ; cases h
end
end Go.Proofs.YtplfjlcnffcenaaGreat.Vc
namespace Go.Proofs.YtplfjlcnffcenaaGreat.Vc
open Go.RowKit
structure Bd where
  code : Code
  n : Nat
  res : List ResultVar
  rt : List TypeId
def ql (P : Program) (po : Pol) (f : FuncId) : Option Bd :=
  match P.funcs[f]? with
  | some fn => match fn.body with
    | some c => if ((fn.name == "runtime.NumGoroutine") || !q6h (drq po f) true c) = true then none else some ⟨c, fn.ntmps, fn.results.toList, fn.resultTypes.toList⟩
    | none => none
  | none => none
def dzL : List Nat → List C → List C
  | _, [] => []
  | zs, x :: r => dz (zs.headD 0) x :: dzL zs.tail r
def dzR (zs : List Nat) : R → R
  | .c x => .c (dz (zs.headD 0) x)
  | .agg xs => .agg (dzL zs xs)
  | r => r
def qbX : List (List Nat) → List R → List R
  | _, [] => []
  | zs, x :: r => dzR (zs.headD []) x :: qbX zs.tail r
def q6r (s : S) (X : List Nat) (rs : List R) : List R := match X with | [] => rs | X => rs.map (fzR s X)
def one : List R → R
  | [r] => r
  | rs => .tup rs
def qa3 (k : Nat) (s : S) (rs : List R) (ids : List Nat) : Option (R × List (Nat × B)) :=
  if ids.Nodup ∧ ids.all (fun i => (s.blk i).live) = true ∧ (rng k []).all (fun i => ids[i]? == some i) = true then some (one (rs.map (cnR ids)), cnH s ids ids 0) else none
def q6l (k : Nat) (s : S) (rs : List R) : Option (R × List (Nat × B)) := qa3 k s rs (q0K s 60 ((rng k []).flatMap (fun i => (s.blk i).refs) ++ rs.flatMap R.refs) (rng k []))
def qc0 (po : Pol) (k : Nat) (rt : List TypeId) (s : S) (rs : List R) (X : List Nat) : Option (R × List (Nat × B)) := q6l k (s.frz X) (qbX (rt.map po.q) (q6r s X rs))
def q6t (po : Pol) (f k : Nat) (rt : List TypeId) (s : S) (rs : List R) : Option (R × List (Nat × B)) := qc0 po k rt s rs (if po.ro f = true then [] else q1D s ((rs.flatMap R.rows).eraseDups))
def qc2 (po : Pol) (f k : Nat) (rt : List TypeId) (s : S) (rs : List R) : Option (R × List (Nat × B)) :=
  if ((rs.flatMap R.rows).flatMap (qe5 s)).isEmpty = true then q6t po f k rt s rs
  else q6t po f k rt s.fn1.fn1 (q6r s.fn1 s.fn1.inr (q6r s s.inr rs))
def qm6 (T : Ty) (po : Pol) (f k : Nat) (bd : Bd) (p : Exit × S) : Option (R × List (Nat × B)) :=
  match p.1 with
  | .normal => (rvs T p.2 bd.res).bind fun rs => qc2 po f k bd.rt (p.2.dzr po.q) rs
  | .ret => (rvs T p.2 bd.res).bind fun rs => qc2 po f k bd.rt (p.2.dzr po.q) rs
  | _ => none
abbrev DRs := Orc → FuncId → Nat → Nat → List Oper → S → Option S
def q3B (P : Program) (T : Ty) (po : Pol) (D : DRs) (E : Orc) (LO : (S → XS) → S → XS) (f k : Nat) (args : List R) (G : List (Nat × B)) (bd : Bd) : Option (R × List (Nat × B)) :=
  if args.length ≤ bd.n then (XD P T po E (D E f k) LO f k bd.code ⟨q0O args 0, G, G.length, bd.n⟩).bind (qm6 T po f k bd) else none
section
variable {P : Program} {T : Ty} {po : Pol} {cx : Cx} {ρ : Pl} {s : S} {a : Act} {w : World}
theorem q9o : ∀ (n : Nat) (acc : List Nat) (i : Nat), i < n ∨ i ∈ acc → i ∈ rng n acc
  | 0, acc, i, h => by rcases h with h | h; omega; exact h
  | n + 1, acc, i, h => by
    unfold rng
    refine q9o n _ i ?_
    rcases h with h | h
    · by_cases hn : i = n
      · exact .inr (by rw [hn]; exact List.mem_cons_self)
      · exact .inl (by omega)
    · exact .inr (List.mem_cons_of_mem _ h)
theorem q8L (hA : Ag P T) (hs : Sim cx ρ s a w) {fn : Func} {rs : List R} (h : rvs T s fn.results.toList = some rs) :
    ∃ vs : List Value, (results fn a.tmps).run P w = .ok (if h : vs.toArray.size = 1 then vs.toArray[0] else .tuple vs.toArray) w ∧ vs.length = rs.length ∧ ∀ j r, rs[j]? = some r → RR w s.live ρ (vs.getD j undef) r := by
  obtain ⟨vs, h1, h2, h3⟩ := qcv (P := P) hA hs _ rs h
  refine ⟨vs, ?_, h2, h3⟩
  rw [qc5, Array.mapM_eq_mapM_toList]
  simp only [map_eq_pure_bind, Sem.run_bind, h1, Result.andThen_ok]
  rfl
theorem qr2 {L : Nat → Prop} {vs : List Value} {rs : List R} (hl : vs.length = rs.length) (h : ∀ j r, rs[j]? = some r → RR w L ρ (vs.getD j undef) r) : RR w L ρ (if h : vs.toArray.size = 1 then vs.toArray[0] else .tuple vs.toArray) (one rs) := by
  by_cases h1 : rs.length = 1
  · obtain ⟨r, rfl⟩ := List.length_eq_one_iff.1 h1
    obtain ⟨v, rfl⟩ := List.length_eq_one_iff.1 (hl.trans h1)
    exact h 0 r rfl
  · have h2 : ¬ vs.toArray.size = 1 := by simpa [hl] using h1
    rw [dif_neg h2]
    have h3 : one rs = .tup rs := by
      cases rs with
      | nil => rfl
      | cons x l => cases l with | nil => exact absurd rfl h1 | cons y l => rfl
    rw [h3]
    exact .tup _ _ (by simpa using hl) (fun j r hj => by have := h j r hj; simpa [Array.getD_eq_getD_getElem?, List.getD] using this)
theorem AC.enter2 (hA : Ag P T) {f : FuncId} {fn : Func} {c : Code} {args : List R} {G : List (Nat × B)} {k : Nat} {Q : R → List (Nat × B) → Prop} (hf : P.funcs[f]? = some fn) (hb : fn.body = some c) (hname : (fn.name == "runtime.NumGoroutine") = false)
    (hle : args.length ≤ fn.ntmps) (h : ∀ cx, cx.k = k → cx.ro = none → J P cx c (fun e s => (e = .normal ∨ e = .ret) ∧ ∃ rs, rvs T s fn.results.toList = some rs ∧
      ∀ ρ a w, Sim cx ρ s a w → ∃ rs' hp' nx' ρ', Q (one rs') hp' ∧ Sim cx ρ' (Zt hp' nx') q6d w ∧ rs'.length = rs.length ∧ ∀ (j : Nat) (r r' : R) (v : Value), rs[j]? = some r → rs'[j]? = some r' → RR w s.live ρ v r → RR w (Zt hp' nx').live ρ' v r') ⟨q0O args 0, G, G.length, fn.ntmps⟩) : AC P f args G k Q := by
  refine ⟨⟨fn, hf, hname, by rw [hb]; rfl⟩, fun cx ρ w vs hw hk hρ hro hs hv => ?_⟩
  refine callsIn_wide.1 (callsIn_of_wp_marks (n := 0) hf hb trivial ?_)
  obtain ⟨hvs, hvr⟩ := hv
  have hs1 : Sim cx ρ ⟨q0O args 0, G, G.length, fn.ntmps⟩ { tmps := vs ++ Array.replicate (fn.ntmps - vs.size) undef, defers := [] } w := by
    refine ⟨hs.hd, by simp; omega, fun i => ?_, hs.hp, hs.hp0, hs.out, hs.inj, hs.nx, hs.kept, hs.oldF, hs.pin, hs.sameF, hs.sep⟩
    show RR w _ ρ _ (lk (q0O args 0) i .any)
    rw [q7m, if_pos (Nat.zero_le _), Nat.sub_zero]
    by_cases hi : i < args.length
    · have h1 := hvr i args[i] (List.getElem?_eq_getElem hi)
      have h2 : (vs ++ Array.replicate (fn.ntmps - vs.size) undef).getD i undef = vs.getD i undef := by
        have : i < vs.size := by omega
        simp [Array.getD_eq_getD_getElem?, Array.getElem?_append, this]
      rw [h2, List.getD, List.getElem?_eq_getElem hi]
      exact h1
    · rw [List.getD, List.getElem?_eq_none (by omega)]
      exact .any _
  have hj := h cx hk hro ρ _ w hs1
  rw [hro] at hj
  refine wpIn_mono hj (fun e a' w' ⟨s', ρ', h1, h2⟩ => ?_)
  obtain ⟨he, rs, h3, h4⟩ := h1
  have key : LeavesInM Fence.wide 0 P fn a'.tmps (fun e w' => ∃ v' r hp' nx' ρ', e = .returned v' ∧ Q r hp' ∧ Sim cx ρ' (Zt hp' nx') q6d w' ∧ RR w' (Zt hp' nx').live ρ' v' r) a'.defers .returning w' := by
    obtain ⟨Ds, hDs, -⟩ := h2.hd.ms
    rw [hDs]
    refine q4q Ds a' w' hDs h2 (fun a2 w2 ht hd2 hs2 => ?_) rfl
    obtain ⟨us, g1, g2, g3⟩ := q8L hA hs2 h3
    obtain ⟨rs', hp', nx', ρ'', g4, g5, g6, g7⟩ := h4 ρ' a2 w2 hs2
    refine ⟨_, g1, _, one rs', hp', nx', ρ'', rfl, g4, g5, qr2 (g2.trans g6.symm) (fun j r' hj => ?_)⟩
    have hj' : j < rs.length := by rw [← g6]; exact (List.getElem?_eq_some_iff.1 hj).1
    exact g7 j _ r' _ (List.getElem?_eq_getElem hj') hj (g3 j _ (List.getElem?_eq_getElem hj'))
  rcases he with rfl | rfl
  · exact key
  · exact key
theorem qhU : ∀ (zs : List Nat) (xs : List C), (dzL zs xs).length = xs.length ∧ ∀ (j : Nat) (y : C), (dzL zs xs)[j]? = some y → ∃ x z, xs[j]? = some x ∧ y = dz z x
  | _, [] => ⟨rfl, fun j y h => by simp [dzL] at h⟩
  | zs, x :: r => by
    obtain ⟨h1, h2⟩ := qhU zs.tail r
    refine ⟨by simp [dzL, h1], fun j y hj => ?_⟩
    cases j with
    | zero => simp only [dzL, List.getElem?_cons_zero, Option.some.injEq] at hj; exact ⟨x, _, rfl, hj.symm⟩
    | succ j => simp only [dzL, List.getElem?_cons_succ] at hj ⊢; exact h2 j y hj
theorem qpB {L : Nat → Prop} {v : Value} {r : R} (zs : List Nat) (h : RR w L ρ v r) : RR w L ρ v (dzR zs r) := by
  cases h with
  | c v x h => exact .c _ _ (qjh _ h)
  | agg vs xs h1 h2 =>
    obtain ⟨g1, g2⟩ := qhU zs xs
    refine .agg _ _ (h1.trans g1.symm) (fun j y hj => ?_)
    obtain ⟨x, z, h3, h4⟩ := g2 j y hj
    rw [h4]; exact qjh z (h2 j x h3)
  | tup vs xs h1 h2 => exact .tup _ _ h1 h2
  | any v => exact .any _
theorem qdt : ∀ (zs : List (List Nat)) (xs : List R), (qbX zs xs).length = xs.length ∧ ∀ (j : Nat) (x y : R), xs[j]? = some x → (qbX zs xs)[j]? = some y → ∃ z, y = dzR z x
  | _, [] => ⟨rfl, fun j x y h => by simp at h⟩
  | zs, x :: r => by
    obtain ⟨h1, h2⟩ := qdt zs.tail r
    refine ⟨by simp [qbX, h1], fun j x' y hj hy => ?_⟩
    cases j with
    | zero => simp only [qbX, List.getElem?_cons_zero, Option.some.injEq] at hj hy; subst hj; exact ⟨_, hy.symm⟩
    | succ j => simp only [qbX, List.getElem?_cons_succ] at hj hy; exact h2 j x' y hj hy
theorem q9c {X : List Nat} {rs : List R} (hX : X.all (fun i => !(s.blk i).isBlk) = true) (hs : Sim cx ρ s a w) : ∀ (j : Nat) (r r1 : R) (v : Value), rs[j]? = some r → (q6r s X rs)[j]? = some r1 → RR w s.live ρ v r → RR w (s.frz X).live ρ v r1 := by
  intro j r r1 v h1 h2 h3
  cases X with
  | nil => rw [show q6r s [] rs = rs from rfl, h1] at h2; injection h2 with h2; subst h2; exact h3
  | cons x X =>
    rw [show q6r s (x :: X) rs = rs.map (fzR s (x :: X)) from rfl, List.getElem?_map, h1] at h2
    injection h2 with h2
    subst h2
    exact (hs.frz1 fun i hi => by have := List.all_eq_true.1 hX i hi; simpa using this).2 v r h3
theorem q56 {f k : Nat} {rt : List TypeId} {rs : List R} {r' : R} {hp' : List (Nat × B)} (hk : cx.k = k) (h : q6t po f k rt s rs = some (r', hp')) (hs : Sim cx ρ s a w) :
    ∃ rs' nx' ρ', r' = one rs' ∧ Sim cx ρ' (Zt hp' nx') q6d w ∧ rs'.length = rs.length ∧ ∀ (j : Nat) (r r' : R) (v : Value), rs[j]? = some r → rs'[j]? = some r' → RR w s.live ρ v r → RR w (Zt hp' nx').live ρ' v r' := by
  unfold q6t qc0 q6l at h
  obtain ⟨X, hX, hXe⟩ : ∃ X, X.all (fun i => !(s.blk i).isBlk) = true ∧ X = (if po.ro f = true then [] else q1D s ((rs.flatMap R.rows).eraseDups)) := by
    refine ⟨_, ?_, rfl⟩
    split
    · rfl
    · exact q1h _ _
  rw [← hXe] at h
  have hs1 := hs.frz hX
  have hfz := q9c (rs := rs) hX hs
  have hfl : (q6r s X rs).length = rs.length := by cases X <;> simp [q6r]
  generalize s.frz X = s1 at h hs1 hfz
  obtain ⟨q1, q2⟩ := qdt (rt.map po.q) (q6r s X rs)
  generalize qbX (rt.map po.q) (q6r s X rs) = rs1 at h q1 q2
  unfold qa3 at h
  split at h
  · rename_i hc
    injection h with h
    generalize q0K s1 60 _ _ = ids at h hc
    obtain ⟨c1, c2, c3⟩ := hc
    injection h with h1 h2
    obtain ⟨ρ2, h3, h4⟩ := hs1.canon (ids := ids) (tm := []) (n := 0) (a' := q6d) c1 c2 (fun i hi => by
      have := List.all_eq_true.1 c3 i (q9o k [] i (.inl (by omega)))
      simpa using this) Hd.none rfl (fun i => .inl rfl)
    subst h2
    refine ⟨rs1.map (cnR ids), ids.length, ρ2, h1.symm, h3, by simp [q1, hfl], fun j r r2 v hj hr2 hv => ?_⟩
    rw [List.getElem?_map] at hr2
    obtain ⟨r1, g1, g2⟩ := Option.map_eq_some_iff.1 hr2
    have hjl : j < (q6r s X rs).length := by rw [hfl]; exact (List.getElem?_eq_some_iff.1 hj).1
    obtain ⟨z, hz⟩ := q2 j _ r1 (List.getElem?_eq_getElem hjl) g1
    subst hz
    rw [← g2]
    exact h4 v _ (qpB z (hfz j r _ v hj (List.getElem?_eq_getElem hjl) hv))
  · cases h
theorem qab (s : S) : s.inr.all (fun i => !(s.blk i).isBlk) = true := by
  rw [List.all_eq_true]
  intro i hi
  have h := (List.mem_filter.1 hi).2
  unfold qdI at h
  split at h
  · rename_i hb; rw [hb]; rfl
  · cases h
theorem q57 (s : S) (X : List Nat) (rs : List R) : (q6r s X rs).length = rs.length := by cases X <;> simp [q6r]
theorem qfU {f k : Nat} {rt : List TypeId} {rs : List R} {r' : R} {hp' : List (Nat × B)} (hk : cx.k = k) (h : qc2 po f k rt s rs = some (r', hp')) (hs : Sim cx ρ s a w) :
    ∃ rs' nx' ρ', r' = one rs' ∧ Sim cx ρ' (Zt hp' nx') q6d w ∧ rs'.length = rs.length ∧ ∀ (j : Nat) (r r' : R) (v : Value), rs[j]? = some r → rs'[j]? = some r' → RR w s.live ρ v r → RR w (Zt hp' nx').live ρ' v r' := by
  unfold qc2 at h
  split at h
  · exact q56 hk h hs
  · obtain ⟨rs', nx', ρ', g1, g2, g3, g4⟩ := q56 hk h hs.fn1.fn1
    refine ⟨rs', nx', ρ', g1, g2, by rw [g3, q57, q57], fun j r r2 v hj hr2 hv => ?_⟩
    have hj1 : j < (q6r s s.inr rs).length := by rw [q57]; exact (List.getElem?_eq_some_iff.1 hj).1
    have hj2 : j < (q6r s.fn1 s.fn1.inr (q6r s s.inr rs)).length := by rw [q57]; exact hj1
    have a1 := q9c (qab s) hs j r _ v hj (List.getElem?_eq_getElem hj1) hv
    have a2 := q9c (qab s.fn1) hs.fn1 j _ _ v (List.getElem?_eq_getElem hj1) (List.getElem?_eq_getElem hj2) a1
    exact g4 j _ _ v (List.getElem?_eq_getElem hj2) hr2 a2
def DOk (P : Program) (po : Pol) (D : DRs) : Prop := ∀ (E : Orc) (f k : Nat), Snd P E → qst P (drq po f) k (D E f k)
theorem qhr (hA : Ag P T) {D : DRs} (hD : DOk P po D) {E : Orc} (hE : Snd P E) {n f k : Nat} {args : List R} {G G' : List (Nat × B)} {r : R} {bd : Bd} (hb : ql P po f = some bd) (h : q3B P T po D E (iter n) f k args G bd = some (r, G')) : AC P f args G k fun r' hp' => r' = r ∧ hp' = G' := by
  unfold ql at hb
  split at hb
  · rename_i fn hf
    split at hb
    · rename_i c hc
      split at hb
      · cases hb
      · rename_i hname
        simp only [Bool.or_eq_true, Bool.not_eq_true', not_or, Bool.not_eq_true, Bool.not_eq_false] at hname
        injection hb with hb
        subst hb
        unfold q3B at h
        split at h
        · rename_i hle
          obtain ⟨⟨e, s1⟩, h1, h2⟩ := Option.bind_eq_some_iff.1 h
          refine AC.enter2 hA hf hc hname.1 hle (fun cx hk hro => ?_)
          refine qgj hA hE (hD E f k hE) _ _ _ _ cx _ hname.2 hk (fun _ => hro) h1 ?_
          have key : (rvs T s1 fn.results.toList).bind (fun rs => qc2 po f k fn.resultTypes.toList (s1.dzr po.q) rs) = some (r, G') → ∃ rs, rvs T s1 fn.results.toList = some rs ∧
              ∀ ρ a w, Sim cx ρ s1 a w → ∃ rs' hp' nx' ρ', (one rs' = r ∧ hp' = G') ∧ Sim cx ρ' (Zt hp' nx') q6d w ∧ rs'.length = rs.length ∧ ∀ (j : Nat) (r r' : R) (v : Value), rs[j]? = some r → rs'[j]? = some r' → RR w s1.live ρ v r → RR w (Zt hp' nx').live ρ' v r' := by
            intro h3
            obtain ⟨rs, h4, h5⟩ := Option.bind_eq_some_iff.1 h3
            refine ⟨rs, h4, fun ρ a w hs => ?_⟩
            obtain ⟨rs', nx', ρ', g1, g2, g3, g4⟩ := qfU hk h5 (hs.dzr po.q)
            rw [S.dzr_live] at g4
            exact ⟨rs', G', nx', ρ', ⟨g1.symm, rfl⟩, g2, g3, g4⟩
          unfold qm6 at h2
          split at h2
          · rename_i he; simp only at he; exact ⟨.inl he, key h2⟩
          · rename_i he; simp only at he; exact ⟨.inr he, key h2⟩
          · cases h2
        · cases h
    · cases hb
  · cases hb
def qsc (st0 : LoopState) (st : LoopState) (pd : Option Code) : B → Option B
  | .ob (.lp f tm ps as bd s0 _) => if s0 = st0 then some (.ob (.lp f tm ps as bd st pd)) else none
  | _ => none
def rdB : B → Option B
  | .ob (.lp f tm ps as bd .ready none) => some (.ob (.lp f tm ps as bd .busy none))
  | _ => none
def qoY : Exit → Option (Option Code)
  | .normal => some none
  | .ret => some (some .ret)
  | .exit i => some (some (.exit i))
  | _ => none
def q9B (k : Nat) (p : Exit × S) : Option (R × List (Nat × B)) :=
  (qoY p.1).bind fun pd => (qsc .busy (if pd.isNone then .ready else .done) pd (p.2.blk (k - 1))).bind fun b => q6l k (p.2.up [(k - 1, b)]) [.c (.d (.bool pd.isNone))]
def q5B (P : Program) (T : Ty) (po : Pol) (D : DRs) (E : Orc) (LO : (S → XS) → S → XS) (f k : Nat) (bd : Code) (p : Exit × S) : Option (R × List (Nat × B)) :=
  match p.1 with
  | .normal => (rdB (p.2.blk (k - 1))).bind fun b => (XD P T po E (D E f k) LO f k bd (p.2.up [(k - 1, b)])).bind (q9B k)
  | _ => none
def q12 (P : Program) (T : Ty) (po : Pol) (D : DRs) (E : Orc) (LO : (S → XS) → S → XS) (f k : Nat) (as bd : Code) (tm : List R) (G : List (Nat × B)) : Option (R × List (Nat × B)) :=
  if 0 < k ∧ q6h (drq po f) false as = true ∧ q6h (drq po f) false bd = true then (XD P T po E (D E f k) LO f k as ⟨q0O tm 0, G, G.length, tm.length⟩).bind (q5B P T po D E LO f k bd) else none
def prx (g : Nat → List R → List (Nat × B) → Option (R × List (Nat × B))) (k : Nat) (args : List R) (G : List (Nat × B)) : Option (R × List (Nat × B)) := g k args G
def pr0 (g : List R → Option (R × List (Nat × B))) (k : Nat) (args : List R) (G : List (Nat × B)) : Option (R × List (Nat × B)) := if k = 0 ∧ G.isEmpty = true then g args else none
def qts (P : Program) (po : Pol) : Prop := ∀ f g k args G r G', po.pr f = some g → g k args G = some (r, G') → AC P f args G k fun r' hp' => r' = r ∧ hp' = G'
theorem qcC {P : Program} {f : FuncId} {g : List R → Option (R × List (Nat × B))} (h : ∀ args r G', g args = some (r, G') → AC P f args [] 0 fun r' hp' => r' = r ∧ hp' = G') {k : Nat} {args : List R} {G G' : List (Nat × B)} {r : R} (hg : pr0 g k args G = some (r, G')) : AC P f args G k fun r' hp' => r' = r ∧ hp' = G' := by
  unfold pr0 at hg
  split at hg
  · rename_i hc
    obtain ⟨rfl, hG⟩ := hc
    rw [List.isEmpty_iff] at hG
    subst hG
    exact h _ _ _ hg
  · cases hg
def fnx (P : Program) (T : Ty) (po : Pol) (D : DRs) (E : Orc) (LO : (S → XS) → S → XS) (f k : Nat) (args : List R) (G : List (Nat × B)) : Option (R × List (Nat × B)) :=
  match po.pr f with
  | some g => prx g k args G
  | none => (ql P po f).bind fun bd => q3B P T po D E LO f k args G bd
def xf (P : Program) (T : Ty) (po : Pol) (D : DRs) : Nat → Orc
  | 0 => fun _ _ _ _ => none
  | n + 1 => fun g k args G => match g with
    | .fn f => fnx P T po D (xf P T po D n) (iter n) f k args G
    | .rd f as bd => q12 P T po D (xf P T po D n) (iter n) f k as bd args G
theorem qj9 {st0 st : LoopState} {pd : Option Code} {x y : B} (h : qsc st0 st pd x = some y) : ∃ f tm ps as bd p0, x = .ob (.lp f tm ps as bd st0 p0) ∧ y = .ob (.lp f tm ps as bd st pd) := by
  unfold qsc at h
  split at h
  · split at h
    · rename_i hst; subst hst; injection h with h; exact ⟨_, _, _, _, _, _, rfl, h.symm⟩
    · cases h
  · cases h
theorem Sim.lrec (hs : Sim cx ρ s a w) {l cap : Nat} (hl : cx.ρ (cx.k - 1) = some (l, cap)) (hk : 0 < cx.k) {f : FuncId} {tm : List R} {ps : List Nat} {as bd : Code} {st : LoopState} {p0 : Option Code} (hb : s.blk (cx.k - 1) = .ob (.lp f tm ps as bd st p0)) :
    ∃ rec : Loop, w.heap[l]? = some (.loop rec) ∧ rec.state = st ∧ rec.pending = p0 ∧ ∀ (st' : LoopState) (pd : Option Code), Sim cx ρ (s.up [(cx.k - 1, .ob (.lp f tm ps as bd st' pd))]) a (w.putObj l (.loop { rec with state := st', pending := pd })) := by
  have hlive : s.live (cx.k - 1) := by unfold S.live; rw [hb]; rfl
  have hρ : ρ (cx.k - 1) = some (l, cap) := (hs.pin _ (by omega)).1.trans hl
  have hB := (hs.hp _ l cap hlive hρ).2
  rw [hb] at hB
  obtain ⟨rec, t1, t2, t3, t4, t5, t6, t7, t8⟩ := hB
  exact ⟨rec, t1, t2, t3, fun st' pd => hs.overO hlive hρ fun hst hO => ⟨_, hO, rfl, rfl, t4, t5, t6, t7, fun j x hj => (t8 j x hj).stay hst⟩⟩
theorem qnC {x y : B} (h : rdB x = some y) : ∃ f tm ps as bd, x = .ob (.lp f tm ps as bd .ready none) ∧ y = .ob (.lp f tm ps as bd .busy none) := by
  unfold rdB at h
  split at h
  · injection h with h; exact ⟨_, _, _, _, _, rfl, h.symm⟩
  · cases h
theorem qaV {k : Nat} {rs : List R} {r' : R} {hp' : List (Nat × B)} (hk : cx.k = k) (h : q6l k s rs = some (r', hp')) (hs : Sim cx ρ s a w) :
    ∃ ids nx' ρ', r' = one (rs.map (cnR ids)) ∧ Sim cx ρ' (Zt hp' nx') q6d w ∧ ∀ v r, RR w s.live ρ v r → RR w (Zt hp' nx').live ρ' v (cnR ids r) := by
  unfold q6l qa3 at h
  split at h
  · rename_i hc
    injection h with h
    generalize q0K s 60 _ _ = ids at h hc
    obtain ⟨c1, c2, c3⟩ := hc
    injection h with h1 h2
    obtain ⟨ρ2, h3, h4⟩ := hs.canon (ids := ids) (tm := []) (n := 0) (a' := q6d) c1 c2 (fun i hi => by
      have := List.all_eq_true.1 c3 i (q9o k [] i (.inl (by omega)))
      simpa using this) Hd.none rfl (fun i => .inl rfl)
    subst h2
    exact ⟨ids, ids.length, ρ2, h1.symm, h3, h4⟩
  · cases h
theorem q3L {r : R} {G' : List (Nat × B)} {l cap : Nat} (hl : cx.ρ (cx.k - 1) = some (l, cap)) (hk0 : 0 < cx.k) {pd : Option Code} (hs : Sim cx ρ s a w)
    (h : ((qsc .busy (if pd.isNone then .ready else .done) pd (s.blk (cx.k - 1))).bind fun b => q6l cx.k (s.up [(cx.k - 1, b)]) [.c (.d (.bool pd.isNone))]) = some (r, G')) :
    ∃ v w', (Instr.endRound l pd).run P w = .ok v w' ∧ ∃ v' r' hp' nx' ρ', Ending.returned v = .returned v' ∧ (r' = r ∧ hp' = G') ∧ Sim cx ρ' (Zt hp' nx') q6d w' ∧ RR w' (Zt hp' nx').live ρ' v' r' := by
  obtain ⟨b, h1, h2⟩ := Option.bind_eq_some_iff.1 h
  obtain ⟨f0, tm0, ps0, as0, bd0, p0, g1, g2⟩ := qj9 h1
  obtain ⟨rec, t1, t2, t3, t4⟩ := hs.lrec hl hk0 g1
  have hs2 := t4 (if pd.isNone then .ready else .done) pd
  subst g2
  obtain ⟨ids, nx', ρ', e1, e2, e3⟩ := qaV rfl h2 hs2
  refine ⟨_, _, run_endRound pd t1, _, r, G', nx', ρ', rfl, ⟨rfl, rfl⟩, e2, ?_⟩
  rw [e1]
  exact e3 _ _ (.c _ _ (.d _ _ (.bool _)))
theorem qdY (hA : Ag P T) {D : DRs} (hD : DOk P po D) {E : Orc} (hE : Snd P E) {n f k : Nat} {as bd : Code} {tm : List R} {G G' : List (Nat × B)} {r : R} (h : q12 P T po D E (iter n) f k as bd tm G = some (r, G')) : RA P as bd tm G k fun r' hp' => r' = r ∧ hp' = G' := by
  unfold q12 at h
  split at h
  · rename_i hc
    obtain ⟨hk0, hca, hcb⟩ := hc
    obtain ⟨⟨e1, s1⟩, h1, h2⟩ := Option.bind_eq_some_iff.1 h
    intro cx ρ w l cap fn vs hw hk hρ hro _ hρk hs hv
    subst hk hρ
    have hs1 : Sim cx cx.ρ ⟨q0O tm 0, G, G.length, tm.length⟩ { tmps := vs, defers := [] } w := by
      refine ⟨hs.hd, hv.1, fun i => ?_, hs.hp, hs.hp0, hs.out, hs.inj, hs.nx, hs.kept, hs.oldF, hs.pin, hs.sameF, hs.sep⟩
      show RR w _ _ _ (lk (q0O tm 0) i .any)
      rw [q7m, if_pos (Nat.zero_le _), Nat.sub_zero]
      by_cases hi : i < tm.length
      · rw [List.getD, List.getElem?_eq_getElem hi]
        exact hv.2 i tm[i] (List.getElem?_eq_getElem hi)
      · rw [List.getD, List.getElem?_eq_none (by omega)]
        exact .any _
    refine roundIn_of_wpIn (F := Fence.wide) (n := 0) trivial ?_
    have ja := qgj (rf := false) hA hE (hD E f cx.k hE) as _ _ _ cx (fun e s => e = e1 ∧ s = s1) hca rfl (fun h => by cases h) h1 ⟨rfl, rfl⟩ cx.ρ _ w hs1
    rw [hro] at ja
    refine wpIn_mono ja ?_
    rintro e a1 w1 ⟨s1', ρ1, ⟨rfl, rfl⟩, hsim⟩
    unfold q5B at h2
    simp only at h2
    cases e with
    | normal =>
      obtain ⟨b, h3, h4⟩ := Option.bind_eq_some_iff.1 h2
      obtain ⟨⟨e2, s2⟩, h5, h6⟩ := Option.bind_eq_some_iff.1 h4
      obtain ⟨f0, tm0, ps0, as0, bd0, g1, g2⟩ := qnC h3
      obtain ⟨rec, t1, t2, t3, t4⟩ := hsim.lrec hρk hk0 g1
      refine ⟨_, run_beginRound t1 t2, ?_⟩
      have hs2 := t4 .busy none
      have hrec : ({ rec with state := .busy, pending := none } : Loop) = { rec with state := .busy } := by rw [← t3]
      rw [hrec, ← g2] at hs2
      have jb := qgj (rf := false) hA hE (hD E f cx.k hE) bd _ _ _ cx (fun e s => e = e2 ∧ s = s2) hcb rfl (fun h => by cases h) h5 ⟨rfl, rfl⟩ ρ1 _ _ hs2
      rw [hro] at jb
      refine wpIn_mono jb ?_
      rintro e a3 w3 ⟨s3', ρ3, ⟨rfl, rfl⟩, hsim3⟩
      unfold q9B at h6
      cases e with
      | normal => exact q3L hρk hk0 hsim3 h6
      | ret => exact q3L hρk hk0 hsim3 h6
      | exit i => exact q3L hρk hk0 hsim3 h6
      | _ => cases h6
    | _ => cases h2
  · cases h
theorem qe1 (hA : Ag P T) {D : DRs} (hD : DOk P po D) (hP : qts P po) : ∀ n, Snd P (xf P T po D n)
  | 0 => ⟨fun _ _ _ _ _ _ h => (by cases h), fun _ _ _ _ _ _ _ _ h => (by cases h)⟩
  | n + 1 => by
    have ih := qe1 hA hD hP n
    refine ⟨fun f k args G r G' h => ?_, fun f as bd k tm G r G' h => ?_⟩
    · replace h : fnx P T po D (xf P T po D n) (iter n) f k args G = some (r, G') := h
      unfold fnx at h
      split at h
      · rename_i g hg
        exact hP f g k args G r G' hg h
      · obtain ⟨bd, h1, h2⟩ := Option.bind_eq_some_iff.1 h
        exact qhr hA hD ih h1 h2
    · exact qdY hA hD ih h
end
end Go.Proofs.YtplfjlcnffcenaaGreat.Vc
namespace Go.Proofs.YtplfjlcnffcenaaGreat.Vc
open Go.RowKit
def OLe (E E' : Orc) : Prop := ∀ f k args G x, E f k args G = some x → E' f k args G = some x
def FLe (F F' : S → XS) : Prop := ∀ s x, F s = some x → F' s = some x
def LLe (L L' : (S → XS) → S → XS) : Prop := ∀ F F', FLe F F' → FLe (L F) (L' F')
noncomputable def Lim (F : S → XS) (s : S) : XS := open Classical in if h : ∃ x n, iter n F s = some x then some (Classical.choose h) else none
theorem q7a {k k' : S → XS} (h : FLe k k') {p : Exit × S} {x : Exit × S} (hx : sqD k p = some x) : sqD k' p = some x := by
  obtain ⟨e, s⟩ := p
  cases e with
  | normal => exact h _ _ hx
  | _ => exact hx
theorem zj {α β : Type} {o o' : Option α} {f f' : α → Option β} (ho : ∀ a, o = some a → o' = some a) (hf : ∀ a b, f a = some b → f' a = some b) {b : β} (h : o.bind f = some b) : o'.bind f' = some b := by
  obtain ⟨a, h1, h2⟩ := Option.bind_eq_some_iff.1 h
  rw [ho a h1]; exact hf a b h2
theorem q1j {n n' : Nat} {F F' : S → XS} (hn : n ≤ n') (hF : FLe F F') : FLe (iter n F) (iter n' F') := by
  induction n generalizing n' with
  | zero => intro s x h; cases h
  | succ n ih =>
    intro s x h
    cases n' with
    | zero => omega
    | succ n' =>
      exact zj (fun a ha => hF s a ha) (fun a b hb => q7a (ih (by omega)) hb) h
theorem q8Z {n : Nat} {F : S → XS} {s : S} {x : Exit × S} (h : iter n F s = some x) : Lim F s = some x := by
  have hex : ∃ x n, iter n F s = some x := ⟨x, n, h⟩
  unfold Lim
  rw [dif_pos hex]
  obtain ⟨m, hm⟩ := Classical.choose_spec hex
  have h1 := q1j (Nat.le_max_left n m) (F := F) (fun _ _ h => h) s _ h
  have h2 := q1j (Nat.le_max_right n m) (F := F) (fun _ _ h => h) s _ hm
  rw [h1] at h2
  injection h2 with h2
  rw [← h2]
theorem q51 {F : S → XS} {s : S} {x : Exit × S} (h : Lim F s = some x) : ∃ n, iter n F s = some x := by
  unfold Lim at h
  split at h
  · rename_i hex
    injection h with h
    obtain ⟨m, hm⟩ := Classical.choose_spec hex
    exact ⟨m, h ▸ hm⟩
  · cases h
theorem q5Y {α : Type} {a b : Option α} (h1 : ∀ x, a = some x → b = some x) (h2 : ∀ x, b = some x → a = some x) : a = b := by
  cases ha : a with
  | none =>
    cases hb : b with
    | none => rfl
    | some y => have := h2 y hb; rw [ha] at this; cases this
  | some x => exact (h1 x ha).symm
theorem qp3 (F : S → XS) (s : S) : Lim F s = (F s).bind (sqD (Lim F)) := by
  refine q5Y (fun x h => ?_) (fun x h => ?_)
  · obtain ⟨n, hn⟩ := q51 h
    cases n with
    | zero => cases hn
    | succ n => exact zj (fun a ha => ha) (fun a b hb => q7a (fun s x h => q8Z h) hb) hn
  · obtain ⟨p, h1, h2⟩ := Option.bind_eq_some_iff.1 h
    obtain ⟨e, t⟩ := p
    cases e with
    | normal =>
      obtain ⟨n, hn⟩ := q51 h2
      refine q8Z (n := n + 1) ?_
      unfold iter
      rw [h1]
      exact hn
    | _ =>
      refine q8Z (n := 1) ?_
      unfold iter
      rw [h1]
      exact h2
theorem qar {n n' : Nat} (h : n ≤ n') : LLe (iter n) (iter n') := fun _ _ hF => q1j h hF
theorem q7b (n : Nat) : LLe (iter n) Lim := fun _ F' hF s x h => q8Z (n := n) (q1j (F' := F') (Nat.le_refl n) hF s x h)
section
variable {P : Program} {T : Ty} {po : Pol}
theorem q5E {E E' : Orc} (hE : OLe E E') {s : S} {g : FuncId} {zs : List (List Nat)} {rs : List R} {bl rw ln : List Nat} {x : R × S} (h : ZY E s g zs rs bl rw ln = some x) : ZY E' s g zs rs bl rw ln = some x := by
  unfold ZY at h ⊢
  refine zj (fun _ h => h) (fun a b h => zj (fun _ h => h) (fun a b h => ?_) h) h
  split at h
  · rename_i hc; simp only [if_pos hc]; exact zj (fun a h => hE _ _ _ _ _ h) (fun _ _ h => h) h
  · cases h
theorem q8R {E E' : Orc} (hE : OLe E E') {s : S} {rid : Nat} {f : FuncId} {as bd : Code} {rs : List R} {bl rw ln : List Nat} {x : R × S} (h : q4d E s rid f as bd rs bl rw ln = some x) : q4d E' s rid f as bd rs bl rw ln = some x := by
  unfold q4d at h ⊢
  refine zj (fun _ h => h) (fun a b h => ?_) h
  split at h
  · rename_i hc; simp only [if_pos hc]; exact zj (fun a h => hE _ _ _ _ _ h) (fun _ _ h => h) h
  · cases h
theorem q9k {E E' : Orc} (hE : OLe E E') {s : S} {rid : Nat} {args : List R} {x : R × S} (h : q2h E s rid args = some x) : q2h E' s rid args = some x := by
  unfold q2h at h ⊢
  split at h
  · split at h
    · rename_i hc; rw [if_pos hc]; exact q8R hE h
    · cases h
  · cases h
theorem q9E {E E' : Orc} (hE : OLe E E') {s : S} {f : Operand} {args : List Operand} {ts : List TypeId} {x : R × S} (h : q06 po E s f args ts = some x) : q06 po E' s f args ts = some x := by
  unfold q06 at h ⊢
  split at h
  · exact q5E hE h
  · exact q9k hE h
  · cases h
theorem qeA {E E' : Orc} (hE : OLe E E') {s : S} {op : Op} {x : R × S} (h : xo P T po E s op = some x) : xo P T po E' s op = some x := by
  cases op with
  | call c =>
    simp only [xo, xCl] at h ⊢
    split at h <;> first
      | exact h
      | exact q9E hE h
  | _ => exact h
theorem qg9 {E E' : Orc} (hE : OLe E E') {f : Nat} {g : Operand} {ps : List Nat} {as bd : Code} {s : S} {x : Exit × S} (h : xRF po E f g ps as bd s = some x) : xRF po E' f g ps as bd s = some x := by
  unfold xRF at h ⊢
  split at h
  · exact zj (fun a h => q5E hE h) (fun _ _ h => h) h
  · cases h
theorem q55 {E E' : Orc} (hE : OLe E E') {o : Oper} {act : Bool} {s s' : S} (h : xst P T po E o act s = some s') : xst P T po E' o act s = some s' := by
  unfold xst at h ⊢
  by_cases hc : act = true
  · rw [if_pos hc] at h ⊢; exact zj (fun _ h => qeA hE h) (fun _ _ h => h) h
  · rw [if_neg hc] at h ⊢; exact h
theorem qeM {E E' : Orc} (hE : OLe E E') {ops : List Oper} {o : Oper} {s s' : S} (h : qaj P T po E ops o s = some s') : qaj P T po E' ops o s = some s' := by
  unfold qaj at h ⊢
  split at h
  · exact q55 hE h
  · split at h
    · split at h
      · split at h
        · rename_i hb; rw [if_pos hb]; exact q55 hE h
        · rename_i hb; rw [if_neg hb]; exact q55 hE h
      · exact q55 hE h
      · cases h
    · cases h
theorem qfN {E E' : Orc} (hE : OLe E E') {ops : List Oper} {o : Oper} {s s' : S} (h : xgd P T po E ops o s = some s') : xgd P T po E' ops o s = some s' := by
  unfold xgd at h ⊢
  cases hi : ipX T s o with
  | some y => simp only [hi, qhm] at h ⊢; exact h
  | none => simp only [hi, qhm] at h ⊢; exact qeM hE h
theorem q9a {E E' : Orc} (hE : OLe E E') {ops : List Oper} : ∀ (l : List Oper) {s s' : S}, xr P T po E ops l s = some s' → xr P T po E' ops l s = some s'
  | [], _, _, h => h
  | o :: l, _, _, h => zj (fun _ h => qfN hE h) (fun _ _ h => q9a hE l h) h
def q7i (D : DRs) : Prop := ∀ E E', OLe E E' → ∀ f k id ops s s', D E f k id ops s = some s' → D E' f k id ops s = some s'
theorem q9R {D : DRs} (hD : q7i D) {E E' : Orc} (hE : OLe E E') {L L' : (S → XS) → S → XS} (hL : LLe L L') {f k : Nat} : ∀ (c : Code), FLe (XD P T po E (D E f k) L f k c) (XD P T po E' (D E' f k) L' f k c) := by
  intro c
  induction c with
  | seq a b iha ihb => intro s x h; exact zj (fun _ h => iha _ _ h) (fun _ _ h => q7a ihb h) h
  | block id c ih => intro s x h; exact zj (fun _ h => ih _ _ h) (fun _ _ h => h) h
  | cond c x y ihx ihy =>
    intro s z h
    unfold XD at h ⊢
    split at h
    · split at h
      · rename_i hb; rw [if_pos hb]; exact ihx _ _ h
      · rename_i hb; rw [if_neg hb]; exact ihy _ _ h
    · cases h
  | region id ops draw =>
    intro s z h
    unfold XD at h ⊢
    split at h
    · rename_i hb; rw [if_pos hb]; exact zj (fun _ h => hD E E' hE f k id _ _ _ h) (fun _ _ h => h) h
    · rename_i hb; rw [if_neg hb]; exact zj (fun _ h => q9a hE _ h) (fun _ _ h => h) h
  | loop c ih =>
    intro s z h
    exact zj (fun _ h => h) (fun a b h => hL _ _ (fun s x h => zj (fun _ h => ih _ _ h) (fun _ _ h => h) h) a b h) h
  | rangeFunc g ps as bd _ _ =>
    intro s z h
    unfold XD at h ⊢
    exact qg9 hE h
  | _ => intro s x h; exact h
theorem q6M {D : DRs} (hD : q7i D) {E E' : Orc} (hE : OLe E E') {L L' : (S → XS) → S → XS} (hL : LLe L L') {f k : Nat} {args : List R} {G : List (Nat × B)} {bd : Bd} {x : R × List (Nat × B)} (h : q3B P T po D E L f k args G bd = some x) : q3B P T po D E' L' f k args G bd = some x := by
  unfold q3B at h ⊢
  split at h
  · rename_i hc; rw [if_pos hc]; exact zj (fun a h => q9R hD hE hL bd.code _ _ h) (fun _ _ h => h) h
  · cases h
theorem q2t {D : DRs} (hD : q7i D) {E E' : Orc} (hE : OLe E E') {L L' : (S → XS) → S → XS} (hL : LLe L L') {f k : Nat} {as bd : Code} {tm : List R} {G : List (Nat × B)} {x : R × List (Nat × B)} (h : q12 P T po D E L f k as bd tm G = some x) : q12 P T po D E' L' f k as bd tm G = some x := by
  unfold q12 at h ⊢
  split at h
  · rename_i hc
    rw [if_pos hc]
    refine zj (fun a h => q9R hD hE hL as _ _ h) (fun p b h => ?_) h
    unfold q5B at h ⊢
    split at h
    · exact zj (fun _ h => h) (fun b c h => zj (fun a h => q9R hD hE hL bd _ _ h) (fun _ _ h => h) h) h
    · cases h
  · cases h
theorem qaU {D : DRs} (hD : q7i D) {E E' : Orc} (hE : OLe E E') {L L' : (S → XS) → S → XS} (hL : LLe L L') {f k : Nat} {args : List R} {G : List (Nat × B)} {x : R × List (Nat × B)} (h : fnx P T po D E L f k args G = some x) : fnx P T po D E' L' f k args G = some x := by
  unfold fnx at h ⊢
  split at h
  · exact h
  · exact zj (fun _ h => h) (fun bd b hb => q6M hD hE hL hb) h
theorem q3X {D : DRs} (hD : q7i D) : ∀ {n m : Nat}, n ≤ m → OLe (xf P T po D n) (xf P T po D m)
  | 0, _, _ => fun _ _ _ _ _ h => by cases h
  | n + 1, 0, h => by omega
  | n + 1, m + 1, h => fun g k args G x hx => by
    unfold xf at hx ⊢
    cases g with
    | fn f => exact qaU hD (q3X hD (by omega)) (qar (by omega)) hx
    | rd f as bd => exact q2t hD (q3X hD (by omega)) (qar (by omega)) hx
noncomputable def EE (P : Program) (T : Ty) (po : Pol) (D : DRs) : Orc := fun f k args G => open Classical in if h : ∃ x n, xf P T po D n f k args G = some x then some (Classical.choose h) else none
theorem qcm {D : DRs} (hD : q7i D) {n : Nat} : OLe (xf P T po D n) (EE P T po D) := fun f k args G x h => by
  have hex : ∃ x n, xf P T po D n f k args G = some x := ⟨x, n, h⟩
  unfold EE
  rw [dif_pos hex]
  obtain ⟨m, hm⟩ := Classical.choose_spec hex
  have h1 := q3X hD (Nat.le_max_left n m) _ _ _ _ _ h
  have h2 := q3X hD (Nat.le_max_right n m) _ _ _ _ _ hm
  rw [h1] at h2
  injection h2 with h2
  rw [← h2]
theorem q5u {D : DRs} {f : Fx} {k : Nat} {args : List R} {G : List (Nat × B)} {x : R × List (Nat × B)} (h : EE P T po D f k args G = some x) : ∃ n, xf P T po D n f k args G = some x := by
  unfold EE at h
  split at h
  · rename_i hex
    injection h with h
    obtain ⟨m, hm⟩ := Classical.choose_spec hex
    exact ⟨m, h ▸ hm⟩
  · cases h
theorem qn1 (hA : Ag P T) {D : DRs} (hD : DOk P po D) (hP : qts P po) : Snd P (EE P T po D) := by
  refine ⟨fun f k args G r G' h => ?_, fun f as bd k tm G r G' h => ?_⟩
  · obtain ⟨n, hn⟩ := q5u h
    exact (qe1 hA hD hP n).fn f k args G r G' hn
  · obtain ⟨n, hn⟩ := q5u h
    exact (qe1 hA hD hP n).rd f as bd k tm G r G' hn
def qpY (P : Program) (T : Ty) (po : Pol) (D : DRs) : Prop := ∀ f k id ops s s', D (EE P T po D) f k id ops s = some s' → ∃ n, D (xf P T po D n) f k id ops s = some s'
theorem zt {α β : Type} {o : Nat → Option α} {o' : Option α} {g : Nat → α → Option β} {g' : α → Option β} (ho : ∀ a, o' = some a → ∃ n, ∀ m, n ≤ m → o m = some a) (hg : ∀ a b, g' a = some b → ∃ n, ∀ m, n ≤ m → g m a = some b) {b : β} (h : o'.bind g' = some b) : ∃ n, ∀ m, n ≤ m → (o m).bind (g m) = some b := by
  obtain ⟨a, h1, h2⟩ := Option.bind_eq_some_iff.1 h
  obtain ⟨n1, h3⟩ := ho a h1
  obtain ⟨n2, h4⟩ := hg a b h2
  exact ⟨max n1 n2, fun m hm => by rw [h3 m (by omega)]; exact h4 m (by omega)⟩
theorem zJ {α : Type} {o : Option α} : ∀ a, o = some a → ∃ n : Nat, ∀ m, n ≤ m → o = some a := fun _ h => ⟨0, fun _ _ => h⟩
theorem qaW {k : Nat → S → XS} {k' : S → XS} (h : ∀ s x, k' s = some x → ∃ n, ∀ m, n ≤ m → k m s = some x) : ∀ p x, sqD k' p = some x → ∃ n, ∀ m, n ≤ m → sqD (k m) p = some x := fun p x hx => by
  obtain ⟨e, t⟩ := p
  cases e with
  | normal => exact h _ _ hx
  | _ => exact ⟨0, fun m _ => hx⟩
section
variable {D : DRs} (hM : q7i D) (hC : qpY P T po D)
include hM
theorem q9K {f : Fx} {k : Nat} {args : List R} {G : List (Nat × B)} : ∀ x, EE P T po D f k args G = some x → ∃ n, ∀ m, n ≤ m → xf P T po D m f k args G = some x := fun x h => by
  obtain ⟨n, hn⟩ := q5u h
  exact ⟨n, fun m hm => q3X hM hm _ _ _ _ _ hn⟩
theorem q5x {s : S} {g : FuncId} {zs : List (List Nat)} {rs : List R} {bl rw ln : List Nat} : ∀ x, ZY (EE P T po D) s g zs rs bl rw ln = some x → ∃ n, ∀ m, n ≤ m → ZY (xf P T po D m) s g zs rs bl rw ln = some x := fun x h => by
  unfold ZY at h ⊢
  refine zt zJ (fun a b h => zt zJ (fun a b h => ?_) h) h
  split at h
  · rename_i hc
    simp only [if_pos hc]
    exact zt (q9K hM) (fun _ => zJ) h
  · cases h
theorem q9z {s : S} {rid : Nat} {args : List R} : ∀ x, q2h (EE P T po D) s rid args = some x → ∃ n, ∀ m, n ≤ m → q2h (xf P T po D m) s rid args = some x := fun x h => by
  unfold q2h at h ⊢
  split at h
  · split at h
    · rename_i hc
      simp only [if_pos hc]
      unfold q9j q4d at h ⊢
      refine zt zJ (fun a b h => ?_) h
      split at h
      · rename_i hc
        simp only [if_pos hc]
        exact zt (q9K hM) (fun _ => zJ) h
      · cases h
    · cases h
  · cases h
theorem q9C {s : S} {f : Operand} {args : List Operand} {ts : List TypeId} : ∀ x, q06 po (EE P T po D) s f args ts = some x → ∃ n, ∀ m, n ≤ m → q06 po (xf P T po D m) s f args ts = some x := fun x h => by
  unfold q06 at h ⊢
  split at h
  · exact q5x hM _ h
  · exact q9z hM _ h
  · cases h
theorem qff {s : S} {op : Op} : ∀ x, xo P T po (EE P T po D) s op = some x → ∃ n, ∀ m, n ≤ m → xo P T po (xf P T po D m) s op = some x := fun x h => by
  cases op with
  | call c =>
    simp only [xo, xCl] at h ⊢
    split at h <;> first
      | exact ⟨0, fun _ _ => h⟩
      | exact q9C hM _ h
  | _ => exact ⟨0, fun _ _ => h⟩
theorem qgL {f : Nat} {g : Operand} {ps : List Nat} {as bd : Code} {s : S} : ∀ x, xRF po (EE P T po D) f g ps as bd s = some x → ∃ n, ∀ m, n ≤ m → xRF po (xf P T po D m) f g ps as bd s = some x := fun x h => by
  unfold xRF at h ⊢
  split at h
  · exact zt (q5x hM) (fun _ => zJ) h
  · cases h
theorem q54 {o : Oper} {act : Bool} {s : S} : ∀ x, xst P T po (EE P T po D) o act s = some x → ∃ n, ∀ m, n ≤ m → xst P T po (xf P T po D m) o act s = some x := fun x h => by
  unfold xst at h ⊢
  by_cases hc : act = true
  · simp only [if_pos hc] at h ⊢; exact zt (qff hM) (fun _ => zJ) h
  · simp only [if_neg hc] at h ⊢; exact ⟨0, fun _ _ => h⟩
theorem qd0 {ops : List Oper} {o : Oper} {s : S} : ∀ x, qaj P T po (EE P T po D) ops o s = some x → ∃ n, ∀ m, n ≤ m → qaj P T po (xf P T po D m) ops o s = some x := fun x h => by
  unfold qaj at h ⊢
  split at h
  · exact q54 hM _ h
  · split at h
    · split at h
      · split at h
        · rename_i hb; simp only [if_pos hb]; exact q54 hM _ h
        · rename_i hb; simp only [if_neg hb]; exact q54 hM _ h
      · exact q54 hM _ h
      · cases h
    · cases h
theorem qfC {ops : List Oper} {o : Oper} {s : S} : ∀ x, xgd P T po (EE P T po D) ops o s = some x → ∃ n, ∀ m, n ≤ m → xgd P T po (xf P T po D m) ops o s = some x := fun x h => by
  unfold xgd at h ⊢
  cases hi : ipX T s o with
  | some y => simp only [hi, qhm] at h ⊢; exact ⟨0, fun _ _ => h⟩
  | none =>
    simp only [hi, qhm] at h ⊢
    exact qd0 hM x h
theorem q9y {ops : List Oper} : ∀ (l : List Oper) (s : S) (x : S), xr P T po (EE P T po D) ops l s = some x → ∃ n, ∀ m, n ≤ m → xr P T po (xf P T po D m) ops l s = some x
  | [], _, _, h => ⟨0, fun _ _ => h⟩
  | o :: l, _, _, h => zt (qfC hM) (fun s x h => q9y l s x h) h
include hC
theorem q9p {f k : Nat} : ∀ (c : Code) (s : S) (x : Exit × S), XD P T po (EE P T po D) (D (EE P T po D) f k) Lim f k c s = some x → ∃ n, ∀ m, n ≤ m → XD P T po (xf P T po D m) (D (xf P T po D m) f k) (iter m) f k c s = some x := by
  intro c
  induction c with
  | seq a b iha ihb => intro s x h; exact zt (iha s) (qaW ihb) h
  | block id c ih => intro s x h; exact zt (ih s) (fun _ => zJ) h
  | cond c x y ihx ihy =>
    intro s z h
    unfold XD at h ⊢
    split at h
    · split at h
      · rename_i hb; simp only [if_pos hb]; exact ihx _ _ h
      · rename_i hb; simp only [if_neg hb]; exact ihy _ _ h
    · cases h
  | region id ops draw =>
    intro s z h
    unfold XD at h ⊢
    split at h
    · rename_i hb
      simp only [if_pos hb]
      refine zt (fun a ha => ?_) (fun _ => zJ) h
      obtain ⟨n, hn⟩ := hC _ _ _ _ _ _ ha
      exact ⟨n, fun m hm => hM _ _ (q3X hM hm) _ _ _ _ _ _ hn⟩
    · rename_i hb; simp only [if_neg hb]; exact zt (q9y hM _ _) (fun _ => zJ) h
  | loop c ih =>
    intro s z h
    unfold XD at h ⊢
    refine zt zJ (fun a b h => ?_) h
    obtain ⟨N, hN⟩ := q51 h
    have hbody : ∀ s x, (XD P T po (EE P T po D) (D (EE P T po D) f k) Lim f k c s).bind (lpx po f (qZ c) k) = some x →
        ∃ n, ∀ m, n ≤ m → (XD P T po (xf P T po D m) (D (xf P T po D m) f k) (iter m) f k c s).bind (lpx po f (qZ c) k) = some x := fun s x h => zt (ih s) (fun _ => zJ) h
    have hit : ∀ (N : Nat) (s : S) (x : Exit × S), iter N (fun s => (XD P T po (EE P T po D) (D (EE P T po D) f k) Lim f k c s).bind (lpx po f (qZ c) k)) s = some x →
        ∃ n, ∀ m, n ≤ m → iter N (fun s => (XD P T po (xf P T po D m) (D (xf P T po D m) f k) (iter m) f k c s).bind (lpx po f (qZ c) k)) s = some x := by
      intro N
      induction N with
      | zero => intro s x h; cases h
      | succ N ihN => intro s x h; exact zt (hbody s) (qaW ihN) h
    obtain ⟨n, hn⟩ := hit N a b hN
    exact ⟨max n N, fun m hm => q1j (by omega) (fun _ _ h => h) _ _ (hn m (by omega))⟩
  | rangeFunc g ps as bd _ _ =>
    intro s z h
    unfold XD at h ⊢
    exact qgL hM _ h
  | _ => intro s x h; exact ⟨0, fun _ _ => h⟩
theorem qa0 {f k : Nat} {as bd : Code} {tm : List R} {G : List (Nat × B)} : ∀ x, q12 P T po D (EE P T po D) Lim f k as bd tm G = some x → ∃ n, ∀ m, n ≤ m → q12 P T po D (xf P T po D m) (iter m) f k as bd tm G = some x := fun x h => by
  unfold q12 at h ⊢
  split at h
  · rename_i hc
    simp only [if_pos hc]
    refine zt (q9p hM hC as _) (fun p b h => ?_) h
    unfold q5B at h ⊢
    split at h
    · exact zt zJ (fun b c h => zt (q9p hM hC bd _) (fun _ => zJ) h) h
    · cases h
  · cases h
theorem qt3 (f : FuncId) (as bd : Code) (k : Nat) (tm : List R) (G : List (Nat × B)) : EE P T po D (.rd f as bd) k tm G = q12 P T po D (EE P T po D) Lim f k as bd tm G := by
  refine q5Y (fun x h => ?_) (fun x h => ?_)
  · obtain ⟨n, hn⟩ := q5u h
    cases n with
    | zero => cases hn
    | succ n => exact q2t hM (qcm hM) (q7b n) hn
  · obtain ⟨n, hn⟩ := qa0 hM hC x h
    exact qcm hM (n := n + 1) _ _ _ _ _ (hn n (Nat.le_refl n))
theorem qo8 (f k : Nat) (args : List R) (G : List (Nat × B)) : EE P T po D (.fn f) k args G = fnx P T po D (EE P T po D) Lim f k args G := by
  refine q5Y (fun x h => ?_) (fun x h => ?_)
  · obtain ⟨n, hn⟩ := q5u h
    cases n with
    | zero => cases hn
    | succ n => exact qaU hM (qcm hM) (q7b n) hn
  · cases hp : po.pr f with
    | some g =>
      unfold fnx at h
      rw [hp] at h
      refine qcm hM (n := 1) _ _ _ _ _ ?_
      show fnx P T po D _ _ f k args G = _
      unfold fnx
      rw [hp]; exact h
    | none =>
    unfold fnx at h
    rw [hp] at h
    obtain ⟨bd, h1, h2⟩ := Option.bind_eq_some_iff.1 h
    have : ∃ n, q3B P T po D (xf P T po D n) (iter n) f k args G bd = some x := by
      unfold q3B at h2 ⊢
      split at h2
      · rename_i hc
        simp only [if_pos hc]
        obtain ⟨n, hn⟩ := zt (q9p hM hC bd.code _) (fun _ => zJ) h2
        exact ⟨n, hn n (Nat.le_refl n)⟩
      · cases h2
    obtain ⟨n, hn⟩ := this
    refine qcm hM (n := n + 1) _ _ _ _ _ ?_
    show fnx P T po D _ _ f k args G = _
    unfold fnx
    rw [hp]
    simp only
    rw [h1]
    exact hn
end
end
end Go.Proofs.YtplfjlcnffcenaaGreat.Vc
namespace Go.Proofs.YtplfjlcnffcenaaGreat.Vc
open Go.RowKit
def qfr (s : S) : Op → List Nat
  | .load _ x => match s.ev x with | .c (.ptr id _) => [id] | _ => []
  | .convert _ _ x => match s.ev x with | .c (.own id _ _ _) => [id] | _ => []
  | .lookup _ x _ _ => match s.ev x with | .c (.hd _ id) => [id] | _ => []
  | .call c => match c.callee, c.args.toList with | .builtin .len, [x] => (match s.ev x with | .c (.hd _ id) => [id] | _ => []) | _, _ => []
  | _ => []
def q60 : Op → Bool
  | .makeMap _ _ => true
  | .range _ _ => true
  | .alloc _ => true
  | .box _ _ => true
  | .buildSlice _ _ _ => true
  | _ => false
section
variable {P : Program} {T : Ty} {s t : S} {p : Nat} {K : KK}
theorem qfj {op : Op} (hop : q0B op = true) (hev : ∀ x ∈ op.operands.toList, t.ev x = s.ev x) (hblk : ∀ id, id ∈ qfr s op → t.blk id = s.blk id) (h : ox P T s p op K) :
    ∃ r us, K r (s.up us) ∧ (us = [] ∨ (q60 op = true ∧ ∃ b, us = [(p, b)])) ∧ ∀ (q : Nat) (K' : KK), (us = [] ∨ q = p) → K' r (t.up us) → ox P T t q op K' := by
  have e1 : ∀ x, x ∈ op.operands.toList → t.ev x = s.ev x := hev
  cases op with
  | move x => have h1 := e1 x (by simp [Op.operands]); exact ⟨_, [], h, .inl rfl, fun q K' hq' hK => by show K' (t.ev x) t; rw [h1]; exact hK⟩
  | assign x => have h1 := e1 x (by simp [Op.operands]); exact ⟨_, [], h, .inl rfl, fun q K' hq' hK => by show K' (t.ev x) t; rw [h1]; exact hK⟩
  | pick c x y =>
    have h1 := e1 c (by simp [Op.operands]); have h2 := e1 x (by simp [Op.operands]); have h3 := e1 y (by simp [Op.operands])
    simp only [ox, q6I] at h ⊢
    split at h
    · rename_i b hb
      exact ⟨_, [], h, .inl rfl, fun q K' hq' hK => by rw [h1, h2, h3, hb]; exact hK⟩
    · cases h
  | alloc ty =>
    simp only [ox, q7z] at h ⊢
    exact ⟨_, _, h.2, .inr ⟨rfl, _, rfl⟩, fun q K' hq' hK => by obtain rfl := hq'.resolve_left (by simp); exact ⟨h.1, hK⟩⟩
  | box ty x =>
    have h1 := e1 x (by simp [Op.operands])
    simp only [ox, qhq] at h ⊢
    obtain ⟨cs, g1, g2, g3⟩ := h
    exact ⟨_, _, g3, .inr ⟨rfl, _, rfl⟩, fun q K' hq' hK => by obtain rfl := hq'.resolve_left (by simp); exact ⟨cs, by rw [h1]; exact g1, g2, hK⟩⟩
  | build ty parts =>
    have hq : ∀ q ∈ parts.toList, t.ev q.2 = s.ev q.2 := fun q hq => e1 q.2 (by simp only [Op.operands]; exact List.mem_map_of_mem (f := fun q : Nat × Operand => q.2) hq)
    simp only [ox, q3z] at h ⊢
    split at h
    · rename_i fs hk
      obtain ⟨g1, cs, g2, g3⟩ := h
      exact ⟨_, [], g3, .inl rfl, fun q K' hq' hK => ⟨g1, cs, by rw [q4W _ _ hq]; exact g2, hK⟩⟩
    · rename_i n e hk
      obtain ⟨g1, cs, g2, g3⟩ := h
      exact ⟨_, [], g3, .inl rfl, fun q K' hq' hK => ⟨g1, cs, by rw [q4W _ _ hq]; exact g2, hK⟩⟩
    · cases h
  | buildSlice ty len parts =>
    have hq : ∀ q ∈ parts.toList, t.ev q.2 = s.ev q.2 := fun q hq => e1 q.2 (by simp only [Op.operands]; exact List.mem_map_of_mem (f := fun q : Nat × Operand => q.2) hq)
    simp only [ox, Jh] at h ⊢
    obtain ⟨e, g1, g2, g3, g4, cs, g5, g6⟩ := h
    exact ⟨_, _, g6, .inr ⟨rfl, _, rfl⟩, fun q K' hq' hK => by obtain rfl := hq'.resolve_left (by simp); exact ⟨e, g1, g2, g3, g4, cs, by rw [q4W _ _ hq]; exact g5, hK⟩⟩
  | load ty x =>
    have h1 := e1 x (by simp [Op.operands])
    simp only [ox, q6P] at h ⊢
    rw [h1]
    split at h
    · rename_i id off he
      obtain ⟨r, g1, g2⟩ := h
      exact ⟨r, [], g2, .inl rfl, fun q K' hq' hK => ⟨r, by rw [hblk id (by simp [qfr, he])]; exact g1, hK⟩⟩
    · obtain ⟨r, g1, g2⟩ := h
      exact ⟨r, [], g2, .inl rfl, fun q K' hq' hK => ⟨r, g1, hK⟩⟩
    · cases h
  | nilCheck x =>
    have h1 := e1 x (by simp [Op.operands])
    simp only [ox, JH] at h ⊢
    rw [h1]
    split at h
    · exact ⟨_, [], h, .inl rfl, fun q K' hq' hK => hK⟩
    · exact ⟨_, [], h, .inl rfl, fun q K' hq' hK => hK⟩
    · exact ⟨_, [], h, .inl rfl, fun q K' hq' hK => hK⟩
    · cases h
  | extract x i =>
    have h1 := e1 x (by simp [Op.operands])
    simp only [ox, q0w] at h ⊢
    rw [h1]
    split at h
    · obtain ⟨r, g1, g2⟩ := h
      exact ⟨r, [], g2, .inl rfl, fun q K' hq' hK => ⟨r, g1, hK⟩⟩
    · cases h
  | fieldAddr ty x f =>
    have h1 := e1 x (by simp [Op.operands])
    simp only [ox, JS] at h ⊢
    rw [h1]
    obtain ⟨fo, ft, g1, g2, g3, h⟩ := h
    split at h
    · exact ⟨_, [], h, .inl rfl, fun q K' hq' hK => ⟨fo, ft, g1, g2, g3, hK⟩⟩
    · exact ⟨_, [], h, .inl rfl, fun q K' hq' hK => ⟨fo, ft, g1, g2, g3, hK⟩⟩
    · cases h
  | field ty x f =>
    have h1 := e1 x (by simp [Op.operands])
    simp only [ox, q4i] at h ⊢
    rw [h1]
    split at h
    · obtain ⟨fo, ft, r, g1, g2, g3⟩ := h
      exact ⟨r, [], g3, .inl rfl, fun q K' hq' hK => ⟨fo, ft, r, g1, g2, hK⟩⟩
    · cases h
  | indexAddr ty x y =>
    have h1 := e1 x (by simp [Op.operands]); have h2 := e1 y (by simp [Op.operands])
    simp only [ox, J2] at h ⊢
    rw [h1, h2]
    split at h
    · obtain ⟨e, g1, g2, g3, g4, g5, g6⟩ := h
      exact ⟨_, [], g6, .inl rfl, fun q K' hq' hK => ⟨e, g1, g2, g3, g4, g5, hK⟩⟩
    · obtain ⟨e, g1, g2, g3, g4, g5, g6⟩ := h
      exact ⟨_, [], g6, .inl rfl, fun q K' hq' hK => ⟨e, g1, g2, g3, g4, g5, hK⟩⟩
    · obtain ⟨n, e, g1, g2, g4, g5, g6⟩ := h
      exact ⟨_, [], g6, .inl rfl, fun q K' hq' hK => ⟨n, e, g1, g2, g4, g5, hK⟩⟩
    · cases h
  | index ty x y =>
    have h1 := e1 x (by simp [Op.operands]); have h2 := e1 y (by simp [Op.operands])
    simp only [ox, q3I] at h ⊢
    rw [h1, h2]
    split at h
    · obtain ⟨n, e, r, g1, g2, g3, g4, g5, g6⟩ := h
      exact ⟨r, [], g6, .inl rfl, fun q K' hq' hK => ⟨n, e, r, g1, g2, g3, g4, g5, hK⟩⟩
    · obtain ⟨g1, g2, c, g3, g4⟩ := h
      exact ⟨_, [], g4, .inl rfl, fun q K' hq' hK => ⟨g1, g2, c, g3, hK⟩⟩
    · cases h
  | unOp op ty x =>
    have h1 := e1 x (by simp [Op.operands])
    simp only [ox, qmb] at h ⊢
    rw [h1]
    split at h
    · rename_i b hb; exact ⟨_, [], h, .inl rfl, fun q K' hq' hK => hK⟩
    · rename_i k n hb; exact ⟨_, [], h, .inl rfl, fun q K' hq' hK => hK⟩
    · cases h
  | binOp op ty x y ty' =>
    have h1 := e1 x (by simp [Op.operands]); have h2 := e1 y (by simp [Op.operands])
    simp only [ox, qbZ] at h ⊢
    rw [h1, h2]
    split at h
    · obtain ⟨g1, g2⟩ := h
      cases op
      all_goals simp only [q8F] at g2 ⊢
      case quo => exact ⟨_, [], g2.2, .inl rfl, fun q K' hq' hK => ⟨g1, g2.1, hK⟩⟩
      case rem => exact ⟨_, [], g2.2, .inl rfl, fun q K' hq' hK => ⟨g1, g2.1, hK⟩⟩
      case shl => exact ⟨_, [], g2.2, .inl rfl, fun q K' hq' hK => ⟨g1, g2.1, hK⟩⟩
      case shr => exact ⟨_, [], g2.2, .inl rfl, fun q K' hq' hK => ⟨g1, g2.1, hK⟩⟩
      all_goals exact ⟨_, [], g2, .inl rfl, fun q K' hq' hK => ⟨g1, hK⟩⟩
    · cases op
      all_goals simp only [q7T] at h ⊢
      case add => exact ⟨_, [], h.2, .inl rfl, fun q K' hq' hK => ⟨h.1, hK⟩⟩
      all_goals first | exact h.elim | exact ⟨_, [], h, .inl rfl, fun q K' hq' hK => hK⟩
    · unfold q8x at h ⊢
      cases op
      all_goals first | exact h.elim | (obtain ⟨b, h1, h2⟩ := h; exact ⟨_, [], h2, .inl rfl, fun q K' hq' hK => ⟨b, h1, hK⟩⟩)
    · unfold q8T at h ⊢
      split at h
      all_goals first | exact h.elim | exact ⟨_, [], h.2, .inl rfl, fun q K' hq' hK => ⟨h.1, hK⟩⟩
  | convert ty ty' x =>
    have h1 := e1 x (by simp [Op.operands])
    simp only [ox, q6N] at h ⊢
    rw [h1]
    split at h
    · exact ⟨_, [], h, .inl rfl, fun q K' hq' hK => hK⟩
    · exact ⟨_, [], h, .inl rfl, fun q K' hq' hK => hK⟩
    · exact ⟨_, [], h.2.2, .inl rfl, fun q K' hq' hK => ⟨h.1, h.2.1, hK⟩⟩
    · rename_i e id sz off n g1 g2 he
      obtain ⟨q1, q2, ns, q3, q4, q5⟩ := h
      exact ⟨_, [], q5, .inl rfl, fun q K' hq' hK => ⟨q1, q2, ns, by rw [hblk id (by simp [qfr, he])]; exact q3, q4, hK⟩⟩
    · obtain ⟨q1, q2, ns, q3, q5⟩ := h
      exact ⟨_, [], q5, .inl rfl, fun q K' hq' hK => ⟨q1, q2, ns, q3, hK⟩⟩
    · exact ⟨_, [], h.2, .inl rfl, fun q K' hq' hK => ⟨h.1, hK⟩⟩
    · cases h
  | makeFunc f first captured =>
    have h1 : ∀ x ∈ first.toList, t.ev x = s.ev x := fun x hx => e1 x (by simp only [Op.operands]; simp only [Array.toList_append, List.mem_append]; exact .inl hx)
    have h2 : ∀ x ∈ captured.toList, t.ev x = s.ev x := fun x hx => e1 x (by simp only [Op.operands]; simp only [Array.toList_append, List.mem_append]; exact .inr hx)
    simp only [ox, JG] at h ⊢
    split at h
    · obtain ⟨fs, caps, q1, q2, q3⟩ := h
      exact ⟨_, [], q3, .inl rfl, fun q K' hq' hK => ⟨fs, caps, by rw [q7s _ h1]; exact q1, by rw [q7s _ h2]; exact q2, hK⟩⟩
    · cases h
  | slice ty x lo hi mx =>
    have h1 := e1 x (by simp [Op.operands])
    have bd : ∀ (y : Option Operand) (z : Int), (∀ u, y = some u → t.ev u = s.ev u) → t.bd y z = s.bd y z := fun y z hy => by
      cases y with
      | none => rfl
      | some u => simp only [S.bd, hy u rfl]
    have b1 := fun z => bd lo z (fun u hu => e1 u (by subst hu; simp [Op.operands]))
    have b2 := fun z => bd hi z (fun u hu => e1 u (by subst hu; simp [Op.operands]))
    simp only [ox, q3D] at h ⊢
    rw [h1]
    split at h
    · obtain ⟨q1, q2, l, r, q3, q4, q5, q6, q7, q8⟩ := h
      exact ⟨_, [], q8, .inl rfl, fun q K' hq' hK => ⟨q1, q2, l, r, by rw [b1]; exact q3, by rw [b2]; exact q4, q5, q6, q7, hK⟩⟩
    · obtain ⟨e, q0, q1, q1', q2, l, r, q3, q4, q5, q6, q7, q8⟩ := h
      exact ⟨_, [], q8, .inl rfl, fun q K' hq' hK => ⟨e, q0, q1, q1', q2, l, r, by rw [b1]; exact q3, by rw [b2]; exact q4, q5, q6, q7, hK⟩⟩
    · rename_i id sz off n he
      obtain ⟨e, q0, q1, q1', q2, l, r, q3, q4, q5, q6, q7, q8, q9⟩ := h
      by_cases hl : l = 0 ∨ l < n
      · exact ⟨_, [], q8 hl, .inl rfl, fun q K' hq' hK => ⟨e, q0, q1, q1', q2, l, r, by rw [b1]; exact q3, by rw [b2]; exact q4, q5, q6, q7, fun _ => hK, fun hn => absurd hl hn⟩⟩
      · exact ⟨_, [], q9 hl, .inl rfl, fun q K' hq' hK => ⟨e, q0, q1, q1', q2, l, r, by rw [b1]; exact q3, by rw [b2]; exact q4, q5, q6, q7, fun hn => absurd hn hl, fun _ => hK⟩⟩
    · obtain ⟨e, q0, q1, q2, q3, q4, q5⟩ := h
      exact ⟨_, [], q5, .inl rfl, fun q K' hq' hK => ⟨e, q0, q1, q2, by rw [b1]; exact q3, by rw [b2]; exact q4, hK⟩⟩
    · cases h
  | call c =>
    obtain ⟨callee, args, ts⟩ := c
    simp only [ox, qfu] at h ⊢
    have e2 : ∀ x ∈ args.toList, t.ev x = s.ev x := fun x hx => e1 x (by simp only [Op.operands, Call.operands]; simp only [Array.toList_append, List.mem_append]; exact .inr hx)
    split at h
    · rename_i x ty q1 q2
      have h1 := e2 x (by rw [q1]; simp)
      split at h
      · obtain ⟨r, g1, g2⟩ := h
        refine ⟨_, [], g2, .inl rfl, fun q K' hq' hK => ⟨r, ?_, hK⟩⟩
        have : q3h t x = q3h s x := by
          unfold q3h
          rw [h1]
          split
          · rfl
          · rename_i id he
            rw [hblk id (by simp only [qfr, q1, he]; simp)]
          · rfl
        unfold q5l at g1 ⊢
        rw [this]; exact g1
      simp only [qc6] at h ⊢
      simp only [h1]
      split at h
      · exact ⟨_, [], h.2, .inl rfl, fun q K' hq' hK => ⟨h.1, hK⟩⟩
      · exact ⟨_, [], h.2, .inl rfl, fun q K' hq' hK => ⟨h.1, hK⟩⟩
      · exact ⟨_, [], h.2, .inl rfl, fun q K' hq' hK => ⟨h.1, hK⟩⟩
      · exact ⟨_, [], h.2, .inl rfl, fun q K' hq' hK => ⟨h.1, hK⟩⟩
      · obtain ⟨n, e, g1, g2⟩ := h
        exact ⟨_, [], g2, .inl rfl, fun q K' hq' hK => ⟨n, e, g1, hK⟩⟩
      · cases h
    · rename_i x y q1
      have h1 := e2 x (by rw [q1]; simp)
      have h2 := e2 y (by rw [q1]; simp)
      simp only [qbA] at h ⊢
      simp only [h1, h2]
      split at h
      · exact ⟨_, [], h, .inl rfl, fun q K' hq' hK => hK⟩
      · cases h
    · rename_i x y q1
      have h1 := e2 x (by rw [q1]; simp)
      have h2 := e2 y (by rw [q1]; simp)
      simp only [qbK] at h ⊢
      simp only [h1, h2]
      split at h
      · exact ⟨_, [], h, .inl rfl, fun q K' hq' hK => hK⟩
      · cases h
    · cases hop
    · cases hop
    · cases hop
    · cases h
  | makeMap ty r =>
    simp only [ox] at h ⊢
    obtain ⟨x, s', g1, g2⟩ := h
    cases r with
    | none =>
      injection g1 with g1
      injection g1 with g3 g4
      subst g3 g4
      exact ⟨_, _, g2, .inr ⟨rfl, _, rfl⟩, fun q K' hq' hK => by obtain rfl := hq'.resolve_left (by simp); exact ⟨_, _, rfl, hK⟩⟩
    | some y =>
      have h1 := e1 y (by simp [Op.operands])
      simp only [q0U] at g1
      split at g1
      · rename_i q1 q2
        injection g1 with g1
        injection g1 with g3 g4
        subst g3 g4
        exact ⟨_, _, g2, .inr ⟨rfl, _, rfl⟩, fun q K' hq' hK => by obtain rfl := hq'.resolve_left (by simp); exact ⟨_, _, by simp only [q0U, q1, h1, q2], hK⟩⟩
      · cases g1
  | lookup ty x y ok =>
    have h1 := e1 x (by simp [Op.operands]); have h2 := e1 y (by simp [Op.operands])
    simp only [ox] at h ⊢
    obtain ⟨r, g1, g2⟩ := h
    refine ⟨_, [], g2, .inl rfl, fun q K' hq' hK => ⟨r, ?_, hK⟩⟩
    have : q3h t x = q3h s x := by
      unfold q3h
      rw [h1]
      split
      · rfl
      · rename_i id he
        rw [hblk id (by simp only [qfr, he]; simp)]
      · rfl
    unfold q1B at g1 ⊢
    rw [this, h2]; exact g1
  | range ty x =>
    have h1 := e1 x (by simp [Op.operands])
    simp only [ox] at h ⊢
    obtain ⟨r, s', g1, g2⟩ := h
    unfold q5O at g1
    split at g1
    · rename_i q1 q2
      injection g1 with g1
      injection g1 with g3 g4
      subst g3 g4
      exact ⟨_, _, g2, .inr ⟨rfl, _, rfl⟩, fun q K' hq' hK => by obtain rfl := hq'.resolve_left (by simp); exact ⟨_, _, by simp only [q5O, q1, h1, q2], hK⟩⟩
    · cases g1
  | _ => cases hop
end
structure Fp where
  rb : List Nat
  wb : List Nat
  X : List Nat
  ks : List Nat
  nw : List Nat
def C.lt0 (n : Nat) : C → Bool
  | .ptr i _ => decide (i < n)
  | .hd _ i => decide (i < n)
  | .own i _ _ _ => decide (i < n)
  | _ => true
def C.ltn (n : Nat) : C → Bool
  | .fn _ fs caps => fs.all (C.lt0 n) && caps.all (C.lt0 n)
  | c => c.lt0 n
def R.lt0 (n : Nat) : R → Bool
  | .c x => x.ltn n
  | .agg xs => xs.all (C.ltn n)
  | _ => true
def R.ltn (n : Nat) : R → Bool
  | .tup rs => rs.all (R.lt0 n)
  | r => r.lt0 n
def B.ltn (n : Nat) : B → Bool
  | .blk _ cs => cs.all (C.ltn n)
  | .row _ _ cs => cs.all (C.ltn n)
  | .ob o => o.Rs.all (R.lt0 n)
  | .dead => true
def C.farF (X : List Nat) : C → Bool
  | .fn _ fs caps => (fs ++ caps).all (C.farL X)
  | x => x.farL X
def R.farL (X : List Nat) : R → Bool
  | .c x => x.farF X
  | .agg xs => xs.all (C.farF X)
  | .tup rs => rs.isEmpty
  | .any => true
def B.farL (X : List Nat) : B → Bool
  | .blk _ cs => cs.all (C.farF X)
  | .row _ _ cs => cs.all (C.farF X)
  | .ob o => o.Rs.all (R.farL X)
  | .dead => true
def q4t (s : S) (X : List Nat) : List Nat := match X with | [] => [] | X => ((s.tm.map (·.1)).eraseDups).filter fun d => !(s.get d).farL X
def qgc (s : S) (id : Nat) : List Nat := ((s.hp.map (·.1)).eraseDups).filter fun i => !(i == id) && !(s.blk i).farL [id]
def R.isA : R → Bool
  | .any => true
  | _ => false
def qwx (s : S) : List Nat := ((s.tm.map (·.1)).eraseDups).filter fun d => (s.get d).isA
def fpA (s : S) (id : Nat) (y : Operand) : Fp := ⟨(s.ev y).rows, id :: qgc s id, [id], q4t s [id] ++ qwx s, []⟩
def qc7 (s : S) : List Operand → Option Fp
  | [x, y] => match s.ev x with
    | .c (.own id _ _ _) => some (fpA s id y)
    | .c .nils => some (fpA s s.nx y)
    | _ => none
  | _ => none
def S.kill (s : S) (ks : List Nat) : S := { s with tm := ks.map (fun d => (d, R.any)) ++ s.tm }
mutual
def D.beq : D → D → Bool
  | .int k a, .int k' b => decide (k = k') && decide (a = b)
  | .bool a, .bool b => a == b
  | .str a, .str b => decide (a.data = b.data)
  | .sl z n cs, .sl z' n' cs' => decide (z = z') && decide (n = n') && D.beqL cs cs'
  | _, _ => false
def D.beqL : List D → List D → Bool
  | [], [] => true
  | x :: l, y :: r => D.beq x y && D.beqL l r
  | _, _ => false
end
mutual
theorem D.beq_eq : ∀ {a b : D}, D.beq a b = true → a = b
  | .int k a, .int k' b, h => by simp only [D.beq, Bool.and_eq_true, decide_eq_true_eq] at h; rw [h.1, h.2]
  | .bool a, .bool b, h => by simp only [D.beq, beq_iff_eq] at h; rw [h]
  | .str ⟨a⟩, .str ⟨b⟩, h => by simp only [D.beq, decide_eq_true_eq] at h; rw [h]
  | .sl z n cs, .sl z' n' cs', h => by simp only [D.beq, Bool.and_eq_true, decide_eq_true_eq] at h; rw [h.1.1, h.1.2, D.beqL_eq h.2]
  | .int _ _, .bool _, h | .int _ _, .str _, h | .int _ _, .sl _ _ _, h | .bool _, .int _ _, h | .bool _, .str _, h | .bool _, .sl _ _ _, h | .str _, .int _ _, h | .str _, .bool _, h | .str _, .sl _ _ _, h | .sl _ _ _, .int _ _, h | .sl _ _ _, .bool _, h | .sl _ _ _, .str _, h => by simp [D.beq] at h
theorem D.beqL_eq : ∀ {a b : List D}, D.beqL a b = true → a = b
  | [], [], _ => rfl
  | x :: l, y :: r, h => by simp only [D.beqL, Bool.and_eq_true] at h; rw [D.beq_eq h.1, D.beqL_eq h.2]
  | [], _ :: _, h | _ :: _, [], h => by simp [D.beqL] at h
end
def C.beq0 : C → C → Bool
  | .d x, .d y => D.beq x y
  | .ptr i o, .ptr i' o' => decide (i = i') && decide (o = o')
  | .hd k i, .hd k' i' => decide (k = k') && decide (i = i')
  | .own i sz o n, .own i' sz' o' n' => decide (i = i') && decide (sz = sz') && decide (o = o') && decide (n = n')
  | .nilp, .nilp | .nilf, .nilf | .nilm, .nilm | .nils, .nils | .any, .any => true
  | _, _ => false
def C.beqL : List C → List C → Bool
  | [], [] => true
  | x :: l, y :: r => C.beq0 x y && C.beqL l r
  | _, _ => false
theorem C.beq0_eq {a b : C} (h : C.beq0 a b = true) : a = b := by
  unfold C.beq0 at h
  split at h
  · rw [D.beq_eq h]
  · simp only [Bool.and_eq_true, decide_eq_true_eq] at h; rw [h.1, h.2]
  · simp only [Bool.and_eq_true, decide_eq_true_eq] at h; rw [h.1, h.2]
  · simp only [Bool.and_eq_true, decide_eq_true_eq] at h; rw [h.1.1.1, h.1.1.2, h.1.2, h.2]
  · rfl
  · rfl
  · rfl
  · rfl
  · rfl
  · cases h
theorem C.beqL_eq : ∀ {a b : List C}, C.beqL a b = true → a = b
  | [], [], _ => rfl
  | x :: l, y :: r, h => by simp only [C.beqL, Bool.and_eq_true] at h; rw [C.beq0_eq h.1, C.beqL_eq h.2]
  | [], _ :: _, h | _ :: _, [], h => by simp [C.beqL] at h
def B.beq : B → B → Bool
  | .blk t cs, .blk t' cs' => decide (t = t') && C.beqL cs cs'
  | .row e sz cs, .row e' sz' cs' => decide (e = e') && decide (sz = sz') && C.beqL cs cs'
  | .dead, .dead => true
  | _, _ => false
theorem B.beq_eq {a b : B} (h : B.beq a b = true) : a = b := by
  unfold B.beq at h
  split at h
  · simp only [Bool.and_eq_true, decide_eq_true_eq] at h; rw [h.1, C.beqL_eq h.2]
  · simp only [Bool.and_eq_true, decide_eq_true_eq] at h; rw [h.1.1, h.1.2, C.beqL_eq h.2]
  · rfl
  · cases h
def wbC (s s1 : S) (bl rw : List Nat) : List Nat := match rw with | [] => bl.filter fun i => !B.beq (s1.blk i) (s.blk i) | rw => bl ++ rw
def q43 (n m : Nat) : List Nat := (List.range (m - n)).map (n + ·)
def qs8 (s s1 : S) (r : R) (bl rw ln : List Nat) : Option Fp :=
  if s1.nx = s.nx ∧ (bl ++ rw).all (fun i => (s1.blk i).ltn s.nx) = true ∧ r.ltn s.nx = true then some ⟨bl ++ rw ++ ln, wbC s s1 bl rw, rw, q4t s rw, []⟩ else some ⟨bl ++ rw ++ ln, wbC s s1 bl rw ++ q43 s.nx s1.nx, rw, q4t s rw, [s.nx]⟩
def qqF (s s1 : S) (r : R) (rs : List R) (l : List Nat) : Option Fp := qs8 s s1 r (q99 s l) (q1D s l) (((rs.flatMap R.rows).eraseDups).filter fun i => !l.contains i)
def qn7 (s s1 : S) (r : R) (ow : List Nat) (rs : List R) : Option Fp := qqF s s1 r rs (q0K s 60 (rs.flatMap R.ptrs ++ qtj ow rs) [])
def fpC (po : Pol) (s s1 : S) (r : R) (f : Operand) (args : List Operand) : Option Fp :=
  match s.ev f with
  | .c (.fn g fs caps) => qn7 s s1 r (po.ow g) (fs.map R.c ++ args.map s.ev ++ caps.map R.c)
  | _ => none
def qdR (po : Pol) (s s1 : S) (r : R) (op : Op) : Option Fp :=
  if q0B op = true then some ⟨qfr s op, if q60 op = true then [s.nx] else [], [], [], []⟩ else
  match op with
  | .store _ x _ => match s.ev x with | .c (.ptr id _) => some ⟨[], [id], [], [], []⟩ | _ => none
  | .makeSlice _ _ _ => some ⟨[], [s.nx], [], [], []⟩
  | .call { callee := .builtin .append, args, .. } => qc7 s args.toList
  | .call { callee := .value f, args, .. } => fpC po s s1 r f args.toList
  | _ => none
abbrev Tx := (R × List (Nat × B)) × Fp
def alC (po : Pol) (s : S) : Op → Option (FuncId × List R)
  | .call { callee := .value f, args, .. } => match s.ev f with
    | .c (.fn g [] []) => if po.ro g = true ∧ (args.toList.map s.ev).all R.dat = true then some (g, args.toList.map s.ev) else none
    | _ => none
  | _ => none
def qns (q : R × List (Nat × B)) : Option (Nat × Nat × Nat × List C) := match q with
  | (.c (.own 0 z 0 n), [(0, .row e z' cs)]) => if z' = z ∧ cs.all C.dat = true then some (z, n, e, cs) else none
  | _ => none
def qrW (s : S) (o : Oper) (q : Option (Nat × Nat × Nat × List C)) : Option (S × Tx) :=
  q.bind fun q => if q7I s o.dst = true then some ((s.up [(s.nx, .row q.2.2.1 q.1 q.2.2.2)]).put o.dst (.c (.own s.nx q.1 0 q.2.1)), (.c (.own s.nx q.1 0 q.2.1), [(s.nx, .row q.2.2.1 q.1 q.2.2.2)]), ⟨[], [s.nx], [], [], []⟩) else none
def qvR (E : Orc) (s : S) (o : Oper) (g : FuncId) (args : List R) : Option (S × Tx) := qrW s o ((E (.fn g) 0 args []).bind qns)
def alX (E : Orc) (s : S) (o : Oper) (x : Option (FuncId × List R)) (y : Option (S × Tx)) : Option (S × Tx) := match x with
  | some q => qvR E s o q.1 q.2
  | none => y
def xsF (P : Program) (T : Ty) (po : Pol) (E : Orc) (o : Oper) (act : Bool) (s : S) : Option (S × Tx) :=
  if act = true then alX E s o (alC po s o.op) <| (xo P T po E s o.op).bind fun q => if q7I q.2 o.dst = true then (qdR po s q.2 q.1 o.op).bind fun fp => some ((q.2.kill fp.ks).put o.dst q.1, (q.1, fp.wb.map fun x => (x, q.2.blk x)), fp) else none
  else if q7I s o.dst = true then some (s.put o.dst (.tup []), (.tup [], []), ⟨[], [], [], [], []⟩) else none
def xgF (P : Program) (T : Ty) (po : Pol) (E : Orc) (ops : List Oper) (o : Oper) (s : S) : Option (S × Tx) :=
  match o.guard with
  | none => xsF P T po E o true s
  | some (j, want) => match (ops[j]?).bind (·.dst) with
    | some d => match s.get d with
      | .c (.d (.bool b)) => if b = true then xsF P T po E o want (s.put (some d) tt) else xsF P T po E o (!want) (s.put (some d) ff)
      | .tup [] => xsF P T po E o false s
      | _ => none
    | none => none
def q1o (a b : Fp) : Bool := a.wb.any (fun x => b.rb.contains x || b.wb.contains x) || a.rb.any (fun x => b.wb.contains x)
def Fp.none? (a : Fp) : Bool := a.rb.isEmpty && a.wb.isEmpty
def okP (A : List (List Nat)) : Nat → List (Nat × Fp) → List Tx → Bool
  | _, _, [] => true
  | j, prev, x :: l => prev.all (fun q => if q1o q.2 x.2 = true then (A.getD j []).contains q.1 else true) && okP A (j + 1) (if x.2.none? = true then prev else (j, x.2) :: prev) l
def qdu (ops : List Oper) (fp : Fp) (i : Nat) (x : Tx) : Bool := (x.1.1.farL fp.X || (match q3k ops i with | some d => fp.ks.contains d | none => true)) && x.1.2.all fun u => fp.wb.contains u.1 || u.2.farL fp.X
def qqj (fp : Fp) (s : S) : Bool := s.tm.all (fun x => fp.ks.contains x.1 || x.2.farL fp.X) && s.hp.all fun u => fp.wb.contains u.1 || u.2.farL fp.X
def qkf (ops : List Oper) (A : List (List Nat)) (fp : Fp) (j : Nat) : Nat → List Tx → Bool
  | _, [] => true
  | i, x :: l => (i == j || (A.getD i []).contains j || qdu ops fp i x) && qkf ops A fp j (i + 1) l
def okX (ops : List Oper) (A : List (List Nat)) (s0 : S) (l : List Tx) : Nat → List Tx → Bool
  | _, [] => true
  | j, x :: r => (if x.2.X.isEmpty = true then true else qqj x.2 s0 && qkf ops A x.2 j 0 l) && okX ops A s0 l (j + 1) r
def qf8 (ops : List Oper) (i : Nat) : List Nat := match ops[i]? with | some o => q0Z ops o ++ o.dst.toList | none => []
def q3d (ops : List Oper) (i j : Nat) (x y : Tx) : Bool := x.2.ks.any (fun d => (qf8 ops j).contains d || y.2.ks.contains d) || y.2.ks.any fun d => (qf8 ops i).contains d
def qkh (ops : List Oper) (A : List (List Nat)) (j : Nat) (y : Tx) : Nat → List Tx → Bool
  | _, [] => true
  | i, x :: l => (!decide (i < j) || !q3d ops i j x y || (A.getD j []).contains i) && qkh ops A j y (i + 1) l
def qm4 (ops : List Oper) (A : List (List Nat)) (l : List Tx) : Nat → List Tx → Bool
  | _, [] => true
  | j, y :: r => qkh ops A j y 0 l && qm4 ops A l (j + 1) r
def okK (ops : List Oper) (A : List (List Nat)) (l : List Tx) : Bool := l.all (fun x => x.2.ks.isEmpty) || qm4 ops A l 0 l
def qqL (lim i : Nat) : Nat → List Tx → Bool
  | _, [] => true
  | j, x :: l => (i == j || x.1.2.all fun u => Nat.blt u.1 lim) && qqL lim i (j + 1) l
def okN (l : List Tx) : Nat → List Tx → Bool
  | _, [] => true
  | j, x :: r => (match x.2.nw with | [] => true | n :: _ => qqL n j 0 l) && okN l (j + 1) r
def xdp (P : Program) (T : Ty) (po : Pol) (E : Orc) (ops : List Oper) (A : List (List Nat)) (s0 : S) : Nat → List Oper → S → List Tx → Option S
  | 0, l, s, acc => if okP A 0 [] acc = true ∧ okX ops A s0 acc 0 acc = true ∧ okK ops A acc = true ∧ okN acc 0 acc = true then xr P T po E ops l s else none
  | m + 1, o :: l, s, acc => (xgF P T po E ops o s).bind fun q => xdp P T po E ops A s0 m l q.1 (acc ++ [q.2])
  | _ + 1, [], _, _ => none
def qq5 : List (Nat × R) → Bool
  | [] => true
  | x :: l => if x.2.isA = true then qq5 l else false
def q2m : List (Nat × R) → List (Nat × R)
  | [] => []
  | x :: l => if x.2.isA = true then (if qq5 l = true then [] else x :: q2m l) else x :: q2m l
def S.strip (s : S) : S := ⟨q2m s.tm, s.hp, s.nx, s.n⟩
def D1 (P : Program) (T : Ty) (po : Pol) : DRs := fun E f _ id ops s => xdp P T po E ops (po.an f id) s.strip (po.dm f id) ops s.strip []
end Go.Proofs.YtplfjlcnffcenaaGreat.Vc
