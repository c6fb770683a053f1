/- Part 3 of a proof. -/
import Derived.Test.YtplfjlcnffcenaaGreatM2
import Derived.Shelf.SlMaps.Clone
import Derived.Test.YtplfjlcnffcenaaGreatProg
import Derived.Shelf.Sort.Plain
import Derived.Shelf.Slices.In.SortNone
import Derived.Sort.OwnSortedInts
set_option linter.unusedVariables false
set_option linter.unusedSimpArgs false
set_option linter.defProp false
set_option linter.unusedSectionVars false
set_option linter.unnecessarySimpa false
namespace Go.Proofs.YtplfjlcnffcenaaGreat.Vc
open Go.RowKit
def qfw (fp : Fp) (t : S) : Prop := fp.X = [] ∨ ((∀ d, d ∉ fp.ks → (t.get d).fgL fp.X = t.get d) ∧ ∀ x, x ∉ fp.wb → (t.blk x).fgL fp.X = t.blk x)
def Loc (P : Program) (o : Oper) (s : S) (r : R) (us : List (Nat × B)) (fp : Fp) : Prop :=
  ∀ (cx : Cx) (ρ : Pl) (t : S) (a : Act) (w : World) (next : Act → World → Prop) (Q : Exit → Act → World → Prop), (∀ y ∈ o.op.operands.toList, t.ev y = s.ev y) → (∀ x, x ∈ fp.rb ∨ x ∈ fp.wb → t.blk x = s.blk x) → qfw fp t → (fp.nw ≠ [] → ∀ x, t.live x → x < s.nx) → Sim cx ρ t a w →
    (∀ ρ' t' v w', (∀ d, d ∉ fp.ks → t'.get d = t.get d) → (∀ x, t'.blk x = lk us x (t.blk x)) → t'.n = t.n → Sim cx ρ' t' a w' → RR w' t'.live ρ' v r → next (a.put o.dst v) w') → o.wpIn (FW cx.ro) 0 P a w next Q
theorem qwo {X : List Nat} {x : C} (h : x.farF X = true) : x.fgL X = x := by
  cases x with
  | ptr i o => simp only [C.farF, C.farL, Bool.not_eq_true'] at h; simp only [C.fgL, h]; rfl
  | hd k i => simp only [C.farF, C.farL, Bool.not_eq_true'] at h; simp only [C.fgL, h]; rfl
  | own i sz o n => simp only [C.farF, C.farL, Bool.not_eq_true'] at h; simp only [C.fgL, h]; rfl
  | fn f fs caps => simp only [C.farF] at h; simp only [C.fgL, h, if_true]
  | _ => rfl
theorem qkV {X : List Nat} {xs : List C} (h : xs.all (C.farF X) = true) : xs.map (C.fgL X) = xs := by
  induction xs with
  | nil => rfl
  | cons x xs ih =>
    simp only [List.all_cons, Bool.and_eq_true] at h
    rw [List.map_cons, qwo h.1, ih h.2]
theorem quj {X : List Nat} {r : R} (h : r.farL X = true) : r.fgL X = r := by
  cases r with
  | c x => simp only [R.farL] at h; simp only [R.fgL]; rw [qwo h]
  | agg xs => simp only [R.farL] at h; simp only [R.fgL]; rw [qkV h]
  | tup rs =>
    simp only [R.farL] at h
    simp only [R.fgL, h, if_true]
    rw [List.isEmpty_iff] at h
    rw [h]
  | any => rfl
theorem qwg {X : List Nat} {b : B} (h : b.farL X = true) : b.fgL X = b := by
  cases b with
  | blk t cs => simp only [B.farL] at h; simp only [B.fgL]; rw [qkV h]
  | row e sz cs => simp only [B.farL] at h; simp only [B.fgL]; rw [qkV h]
  | ob o =>
    simp only [B.farL] at h
    simp only [B.fgL]
    rw [AO.mapR_congr (f := fun x => x) fun x hx => quj (List.all_eq_true.1 h x hx), AO.mapR_id]
  | dead => rfl
section
variable {P : Program} {T : Ty} {po : Pol} {E : Orc} {s s1 : S} {r : R} {o : Oper}
theorem qi2 {α : Type} (i x : Nat) (b z : α) : lk [(i, b)] x z = if i = x then b else z := rfl
theorem qdN {s : S} {op : Op} (h : q0B op = true) : isY s op = false := by
  unfold isY
  split
  · cases h
  · rfl
theorem qly (hA : Ag P T) (hE : Snd P E) (hop : q0B o.op = true) (h : xo P T po E s o.op = some (r, s1)) (hnx : s.blk s.nx = .dead) {X : List Nat} :
    Loc P o s r ((if q60 o.op = true then [s.nx] else []).map fun x => (x, s1.blk x)) ⟨qfr s o.op, if q60 o.op = true then [s.nx] else [], X, [], []⟩ := by
  intro cx ρ t a w next Q hev hblk _ _ hs hn
  have hox := qju hE (K := fun r' s'' => r' = r ∧ s'' = s1) (qdN hop) h ⟨rfl, rfl⟩
  obtain ⟨r', us', ⟨rfl, h2⟩, h3, h4⟩ := qfj (t := t) hop hev (fun id hid => hblk id (.inl hid)) hox
  have fin : ∀ q, ¬ t.live q → (us' = [] ∨ q = s.nx) → o.wpIn (FW cx.ro) 0 P a w next Q := by
    intro q hq hq2
    refine q6f hA hq hs (h4 q (fun r'' s'' => r'' = r' ∧ s'' = t.up us') hq2 ⟨rfl, rfl⟩) ?_
    rintro r'' s'' ρ' v w' ⟨rfl, rfl⟩ g1 g2
    refine hn ρ' (t.up us') v w' (fun d _ => rfl) (fun x => ?_) rfl g1 g2
    rcases h3 with rfl | ⟨ha, b, rfl⟩
    · have : s1 = s := h2.symm
      subst this
      split
      · rename_i ha
        show t.blk x = lk [(s1.nx, s1.blk s1.nx)] x (t.blk x)
        rw [qi2]
        split
        · rename_i hx; subst hx; exact hblk _ (.inr (by rw [if_pos ha]; exact List.mem_cons_self))
        · rfl
      · rfl
    · rw [if_pos ha, S.blk_up]
      show _ = lk [(s.nx, s1.blk s.nx)] x (t.blk x)
      rw [qi2, ← h2, S.blk_up, if_pos rfl]
  by_cases hu : us' = []
  · exact fin t.nx (fun h => by have := hs.nx _ h; omega) (.inl hu)
  · obtain ⟨ha, -⟩ := h3.resolve_left hu
    refine fin s.nx (fun h => ?_) (.inr rfl)
    unfold S.live at h
    rw [hblk s.nx (.inr (by simp [ha])), hnx] at h
    cases h
theorem qgn (hA : Ag P T) {ty : TypeId} {x y : Operand} {id off : Nat} (ho : o.op = .store ty x y) (hx : s.ev x = .c (.ptr id off)) (h : q2k T s ty x y = some (r, s1)) {X : List Nat} : Loc P o s r ([id].map fun x => (x, s1.blk x)) ⟨[], [id], X, [], []⟩ := by
  intro cx ρ t a w next Q hev hblk _ _ hs hn
  have e1 := hev x (by rw [ho]; simp [Op.operands])
  have e2 := hev y (by rw [ho]; simp [Op.operands])
  have hb := hblk id (.inr List.mem_cons_self)
  have hl : s.live id := by
    unfold q2k at h
    rw [hx] at h
    simp only at h
    split at h
    · rename_i ys hys
      split at h
      · rename_i hc
        have hq := hs.ev x
        rw [e1, hx] at hq
        obtain ⟨b, cap, q1, -, -⟩ := hq.inv_ptr
        unfold S.live at q1 ⊢
        rw [hb] at q1
        exact q1
      · cases h
    · cases h
  have ht : q2k T t ty x y = some (r, t.up [(id, s1.blk id)]) := by
    unfold q2k at h ⊢
    rw [e1, e2, hx] at *
    simp only at h ⊢
    rw [hb]
    split at h
    · split at h
      · rename_i hc
        obtain ⟨rfl, rfl⟩ := zU h
        rw [if_pos hc, S.blk_up, if_pos rfl]
      · cases h
    · cases h
  have hox : ox P T t t.nx o.op (fun r' s'' => r' = r ∧ s'' = t.up [(id, s1.blk id)]) := by
    rw [ho]
    simp only [ox]
    exact q7Z (K := fun r' s'' => r' = r ∧ s'' = t.up [(id, s1.blk id)]) ht ⟨rfl, rfl⟩
  refine q6f hA (fun h => by have := hs.nx _ h; omega) hs hox ?_
  rintro r'' s'' ρ' v w' ⟨rfl, rfl⟩ g1 g2
  exact hn ρ' (t.up [(id, s1.blk id)]) v w' (fun d _ => rfl) (fun x => S.blk_up t id x _) rfl g1 g2
theorem qjx (hA : Ag P T) {ty : TypeId} {x y : Operand} (ho : o.op = .makeSlice ty x y) (h : qbJ T s ty x y = some (r, s1)) (hnx : s.blk s.nx = .dead) {X : List Nat} : Loc P o s r ([s.nx].map fun x => (x, s1.blk x)) ⟨[], [s.nx], X, [], []⟩ := by
  intro cx ρ t a w next Q hev hblk _ _ hs hn
  have e1 := hev x (by rw [ho]; simp [Op.operands])
  have e2 := hev y (by rw [ho]; simp [Op.operands])
  have hb := hblk s.nx (.inr List.mem_cons_self)
  have hl : ¬ t.live s.nx := fun h => by unfold S.live at h; rw [hb, hnx] at h; cases h
  have hk := qaO (K := fun r' s'' => r' = r ∧ s'' = s1) h ⟨rfl, rfl⟩
  have hox : ox P T t s.nx o.op (fun r' s'' => r' = r ∧ s'' = t.up [(s.nx, s1.blk s.nx)]) := by
    rw [ho]
    simp only [ox]
    unfold q6u at hk ⊢
    rw [e1, e2]
    split at hk
    · obtain ⟨e, q1, q2, q3, q4, q5, q6, q7, q8, rfl, rfl⟩ := hk
      exact ⟨e, q1, q2, q3, q4, q5, q6, q7, q8, rfl, by rw [S.blk_up, if_pos rfl]⟩
    · cases hk
  refine q6f hA hl hs hox ?_
  rintro r'' s'' ρ' v w' ⟨rfl, rfl⟩ g1 g2
  exact hn ρ' (t.up [(s.nx, s1.blk s.nx)]) v w' (fun d _ => rfl) (fun x => S.blk_up t s.nx x _) rfl g1 g2
theorem q4b {α : Type} (f : Nat → α) : ∀ (l : List Nat) (x : Nat) (z : α), lk (l.map fun i => (i, f i)) x z = if x ∈ l then f x else z
  | [], _, _ => by simp [lk]
  | i :: l, x, z => by
    simp only [List.map_cons, lk, q4b f l x z, List.mem_cons]
    by_cases hx : i = x
    · subst hx; simp
    · rw [if_neg hx]
      by_cases h2 : x ∈ l
      · rw [if_pos h2, if_pos (.inr h2)]
      · rw [if_neg h2, if_neg (by rintro (h | h); exact hx h.symm; exact h2 h)]
theorem quL {id : Nat} {x : C} : x.fgL [id] = x.fg id := by
  have e0 : ∀ i : Nat, [id].contains i = decide (i = id) := fun i => by simp
  have e1 : ∀ x : C, x.farL [id] = x.far id := fun x => by
    cases x with
    | ptr i o => simp only [C.farL, C.far, e0]; by_cases h : i = id <;> simp [h]
    | hd k i => simp only [C.farL, C.far, e0]; by_cases h : i = id <;> simp [h]
    | own i sz o n => simp only [C.farL, C.far, e0]; by_cases h : i = id <;> simp [h]
    | _ => rfl
  cases x with
  | ptr i o => simp only [C.fgL, C.fg, e0, decide_eq_true_eq]
  | hd k i => simp only [C.fgL, C.fg, e0, decide_eq_true_eq]
  | own i sz o n => simp only [C.fgL, C.fg, e0, decide_eq_true_eq]
  | fn f fs caps => simp only [C.fgL, C.fg, funext e1]
  | _ => rfl
theorem qtR {id : Nat} {x : R} : x.fgL [id] = x.fg id := by
  cases x with
  | c x => simp only [R.fgL, R.fg, quL]
  | agg xs => simp only [R.fgL, R.fg]; congr 1; exact List.map_congr_left fun x _ => quL
  | _ => rfl
theorem qvb {id : Nat} {x : B} : x.fgL [id] = x.fg id := by
  have e : C.fgL [id] = C.fg id := funext fun _ => quL
  have e2 : R.fgL [id] = R.fg id := funext fun _ => qtR
  cases x with
  | blk t cs => simp only [B.fgL, B.fg, e]
  | row a sz cs => simp only [B.fgL, B.fg, e]
  | ob o => simp only [B.fgL, B.fg, e2]
  | dead => rfl
theorem qda {t : S} {y : Operand} (h1 : t.ev y = s.ev y) (h2 : ∀ i ∈ (s.ev y).rows, t.blk i = s.blk i) : t.seq y = s.seq y := by
  unfold S.seq
  rw [h1]
  cases he : s.ev y with
  | c x =>
    cases x with
    | own id sz off n => simp only; rw [h2 id (by rw [he]; simp [R.rows, C.rows, C.rows0])]
    | d x => cases x <;> rfl
    | _ => rfl
  | _ => rfl
theorem qo3 (hA : Ag P T) {x y : Operand} {t1 t2 : TypeId} {fp : Fp} (ho : o.op = .call { callee := .builtin .append, args := #[x, y], argTypes := #[t1, t2] }) (he : t2 = t1) (h : q2I T s t1 x y = some (r, s1)) (hf : qc7 s [x, y] = some fp) (hnx : s.blk s.nx = .dead) :
    Loc P o s r (fp.wb.map fun x => (x, s1.blk x)) fp := by
  intro cx ρ t a w next Q hev hblk hfar hltn hs hn
  have e1 := hev x (by rw [ho]; simp [Op.operands, Call.operands])
  have e2 := hev y (by rw [ho]; simp [Op.operands, Call.operands])
  have main : ∀ (id : Nat) (row : B) (p : Nat), fp = fpA s id y → (∀ K : KK, K r ((t.fg id).up [(id, row)]) → q3x T t p t1 x y K) → ¬ t.live p → s1 = (s.fg id).up [(id, row)] → o.wpIn (FW cx.ro) 0 P a w next Q := by
    intro id row p hfp hk hp hs1
    subst hfp
    have hox : ox P T t p o.op (fun r' s'' => r' = r ∧ s'' = (t.fg id).up [(id, row)]) := by
      rw [ho]
      simp only [ox, qfu]
      exact ⟨he, hk _ ⟨rfl, rfl⟩⟩
    refine q6f hA hp hs hox ?_
    rintro r'' s'' ρ' v w' ⟨rfl, rfl⟩ g1 g2
    have hX : (fpA s id y).X = [id] := rfl
    have hfar' := hfar.resolve_left (by rw [hX]; simp)
    rw [hX] at hfar'
    refine hn ρ' ((t.fg id).up [(id, row)]) v w' (fun d hd => ?_) (fun i => ?_) rfl g1 g2
    · show (t.fg id).get d = t.get d
      rw [S.get_fg, ← qtR]; exact hfar'.1 d hd
    · show _ = lk ((id :: qgc s id).map fun x => (x, s1.blk x)) i (t.blk i)
      have L1 : ((t.fg id).up [(id, row)]).blk i = if id = i then row else (t.blk i).fg id := by rw [S.blk_up, S.blk_fg]
      have R1 : s1.blk i = if id = i then row else (s.blk i).fg id := by rw [hs1, S.blk_up, S.blk_fg]
      rw [q4b (fun x => s1.blk x), L1, R1]
      by_cases hi : i ∈ id :: qgc s id
      · rw [if_pos hi, hblk i (.inr hi)]
      · have hii : id ≠ i := fun h => hi (h ▸ List.mem_cons_self)
        rw [if_neg hi, if_neg hii, ← qvb]
        exact hfar'.2 i hi
  have hseq : ∀ id, fp = fpA s id y → t.seq y = s.seq y := fun id hfp => qda e2 fun i hi => hblk i (.inl (by rw [hfp]; exact hi))
  have hk := q42 (K := fun r' s'' => r' = r ∧ s'' = s1) h ⟨rfl, rfl⟩
  obtain ⟨e, m, ys, q1, q2, q3, q4, q5, q6, q7, q8⟩ := hk
  simp only [qc7] at hf
  split at hf
  · rename_i id sz off n hx
    injection hf with hf
    rw [hx] at q8
    simp only at q8
    obtain ⟨p1, p2, cs, p3, p4, p5, p6, p7, p8, p9, p10⟩ := q8
    refine main id (.row e sz (cs ++ ys)) t.nx hf.symm (fun K hK => ?_) (fun h => by have := hs.nx _ h; omega) p10.symm
    refine ⟨e, m, ys, q1, q2, q3, q4, (hseq id hf.symm).trans q5, q6, q7, ?_⟩
    rw [e1, hx]
    simp only
    refine ⟨p1, p2, cs, (hblk id (.inr (by rw [← hf]; exact List.mem_cons_self))).trans p3, p4, p5, p6, p7, p8, ?_⟩
    rw [p9]; exact hK
  · rename_i hx
    injection hf with hf
    rw [hx] at q8
    simp only at q8
    obtain ⟨p1, p2, p3, p4, p5⟩ := q8
    refine main s.nx (.row e (T.sz e) ys) s.nx hf.symm (fun K hK => ?_) (fun h => ?_) p5.symm
    · refine ⟨e, m, ys, q1, q2, q3, q4, (hseq _ hf.symm).trans q5, q6, q7, ?_⟩
      rw [e1, hx]
      simp only
      refine ⟨p1, p2, p3, ?_⟩
      rw [p4]; exact hK
    · unfold S.live at h
      rw [hblk s.nx (.inr (by rw [← hf]; exact List.mem_cons_self)), hnx] at h
      cases h
  · cases hf
theorem q7W {t : S} {sel ln : List Nat} (h : ∀ i ∈ ln, t.blk i = s.blk i) (z : Nat) (x : C) : cv0 t sel ln z x = cv0 s sel ln z x := by
  cases x with
  | own i sz o n =>
    simp only [cv0]
    cases pos i sel with
    | some j => rfl
    | none =>
      simp only
      split
      · rename_i hc; rw [h i (by simpa using hc)]
      · rfl
  | _ => rfl
theorem q6S {t : S} {sel ln : List Nat} (h : ∀ i ∈ ln, t.blk i = s.blk i) : ∀ (xs : List C), qfq t sel ln xs = qfq s sel ln xs
  | [] => rfl
  | x :: r => by simp only [qfq, q7W h, q6S h r]
theorem q7n {t : S} {sel ln : List Nat} (h : ∀ i ∈ ln, t.blk i = s.blk i) (z : Nat) (x : C) : cv t sel ln z x = cv s sel ln z x := by
  cases x with
  | fn f fs caps => simp only [cv, q6S h]
  | _ => simp only [cv, q7W h]
theorem q36 {t : S} {sel ln : List Nat} (h : ∀ i ∈ ln, t.blk i = s.blk i) : ∀ (zs : List Nat) (xs : List C), cvL t sel ln zs xs = cvL s sel ln zs xs
  | zs, [] => by simp only [cvL]
  | zs, x :: r => by simp only [cvL, q7n h, q36 h _ r]
theorem q4e {t : S} {sel ln : List Nat} (h : ∀ i ∈ ln, t.blk i = s.blk i) : ∀ (zs : List (List Nat)) (xs : List R), qce t sel ln zs xs = qce s sel ln zs xs
  | zs, [] => by simp only [qce]
  | zs, x :: r => by
    have : ∀ z, cvR t sel ln z x = cvR s sel ln z x := fun z => by cases x <;> simp only [cvR, q7n h, q36 h]
    simp only [qce, this, q4e h _ r]
theorem qdr {t : S} {sel : List Nat} (o : AO) : cvA t sel o = cvA s sel o := by
  have : qfp t sel = qfp s sel := funext fun r => by
    have hn : ∀ i ∈ ([] : List Nat), t.blk i = s.blk i := fun i hi => by simp at hi
    unfold qfp
    congr 1
    cases r <;> simp only [cvR, q7n hn, q36 hn]
  cases o <;> simp only [cvA, this]
theorem q5t {t : S} {sel : List Nat} : ∀ (l : List Nat) (j : Nat), (∀ i ∈ l, t.blk i = s.blk i) → cvG t sel l j = cvG s sel l j
  | [], _, _ => rfl
  | i :: l, j, h => by
    have : ∀ x, cvB t sel x = cvB s sel x := fun x => by
      cases x with
      | blk ty cs => simp only [cvB]; rw [q36 (s := s) (t := t) (sel := sel) (ln := []) (fun i hi => by simp at hi)]
      | ob o => simp only [cvB]; rw [qdr (s := s) (t := t)]
      | _ => rfl
    simp only [cvG, this, h i List.mem_cons_self, q5t l (j + 1) (fun i hi => h i (List.mem_cons_of_mem _ hi))]
section ren
variable {sel : List Nat} {n n' : Nat}
theorem q8c {j : Nat} (h : ren sel n j < n) : ∃ i, sel[j]? = some i ∧ ∀ m, ren sel m j = i := by
  unfold ren at h
  cases hs : sel[j]? with
  | none => rw [hs] at h; simp only at h; omega
  | some i => exact ⟨i, rfl, fun m => by unfold ren; rw [hs]⟩
theorem q4X {j : Nat} (h : ren sel n j < n) : ren sel n' j = ren sel n j := by
  obtain ⟨i, -, h2⟩ := q8c h
  rw [h2 n', h2 n]
theorem q2V {x : C} (h : (x.rn0 (ren sel n)).lt0 n = true) : x.rn0 (ren sel n') = x.rn0 (ren sel n) := by
  cases x with
  | ptr i o => simp only [C.rn0, C.lt0, decide_eq_true_eq] at h ⊢; rw [q4X h]
  | hd k i => simp only [C.rn0, C.lt0, decide_eq_true_eq] at h ⊢; rw [q4X h]
  | own i sz o m => simp only [C.rn0, C.lt0, decide_eq_true_eq] at h ⊢; rw [q4X h]
  | _ => rfl
theorem q0u {f g : C → C} {p : C → Bool} (hfg : ∀ x, p (f x) = true → g x = f x) : ∀ (xs : List C), (xs.map f).all p = true → xs.map g = xs.map f
  | [], _ => rfl
  | x :: r, h => by
    simp only [List.map_cons, List.all_cons, Bool.and_eq_true] at h ⊢
    rw [hfg x h.1, q0u hfg r h.2]
theorem q7x {x : C} (h : (x.rn (ren sel n)).ltn n = true) : x.rn (ren sel n') = x.rn (ren sel n) := by
  cases x with
  | fn f fs caps =>
    simp only [C.rn, C.ltn, Bool.and_eq_true] at h ⊢
    rw [q0u (p := C.lt0 n) (fun _ h => q2V h) fs h.1, q0u (p := C.lt0 n) (fun _ h => q2V h) caps h.2]
  | ptr i o => exact q2V (x := .ptr i o) h
  | hd k i => exact q2V (x := .hd k i) h
  | own i sz o m => exact q2V (x := .own i sz o m) h
  | _ => rfl
theorem q2Y {x : R} (h : (x.rn0 (ren sel n)).lt0 n = true) : x.rn0 (ren sel n') = x.rn0 (ren sel n) := by
  cases x with
  | c x => simp only [R.rn0, R.lt0] at h ⊢; rw [q7x h]
  | agg xs => simp only [R.rn0, R.lt0] at h ⊢; rw [q0u (p := C.ltn n) (fun _ h => q7x h) xs h]
  | _ => rfl
theorem qgb {x : B} (h : (x.rn (ren sel n)).ltn n = true) : x.rn (ren sel n') = x.rn (ren sel n) := by
  cases x with
  | blk t cs => simp only [B.rn, B.ltn] at h ⊢; rw [q0u (p := C.ltn n) (fun _ h => q7x h) cs h]
  | row e sz cs => simp only [B.rn, B.ltn] at h ⊢; rw [q0u (p := C.ltn n) (fun _ h => q7x h) cs h]
  | ob o =>
    simp only [B.rn, B.ltn, AO.Rs_mapR] at h ⊢
    rw [AO.mapR_congr fun x hx => q2Y (List.all_eq_true.1 h _ (List.mem_map.2 ⟨x, hx, rfl⟩))]
  | dead => rfl
theorem qh1 {x : R} (h : (x.rn (ren sel n)).ltn n = true) : x.rn (ren sel n') = x.rn (ren sel n) := by
  cases x with
  | tup rs =>
    simp only [R.rn, R.ltn] at h ⊢
    congr 1
    induction rs with
    | nil => rfl
    | cons y l ih =>
      simp only [List.map_cons, List.all_cons, Bool.and_eq_true] at h ⊢
      rw [q2Y h.1, ih h.2]
  | c x => exact q2Y (x := .c x) h
  | agg xs => exact q2Y (x := .agg xs) h
  | any => rfl
end ren
theorem q6G {us : List (Nat × B)} {n : Nat} (h : us.foldl (fun m u => max m (u.1 + 1)) n = n) : ∀ u ∈ us, u.1 < n := fun u hu => by
  have := (q2P us n).2 u hu
  omega
theorem q8O (s : S) (X : List Nat) : (s.fgL X).nx = s.nx := by cases X <;> rfl
theorem qh8 (s : S) (X : List Nat) : (s.fgL X).n = s.n := by cases X <;> rfl
theorem q0E {α : Type} : ∀ (l l' : List (Nat × α)) (x : Nat) (z : α), lk (l ++ l') x z = lk l x (lk l' x z)
  | [], _, _, _ => rfl
  | (i, b) :: l, l', x, z => by
    simp only [List.cons_append, lk]
    split
    · rfl
    · exact q0E l l' x z
theorem q4E (s : S) (us : List (Nat × B)) (x : Nat) : (s.up us).blk x = lk us x (s.blk x) := q0E us s.hp x .dead
theorem q8H {α : Type} : ∀ (l : List (Nat × α)) (x : Nat) (z z' : α), (∃ b, (x, b) ∈ l) → lk l x z = lk l x z'
  | [], x, _, _, h => by obtain ⟨b, hb⟩ := h; simp at hb
  | (i, c) :: l, x, z, z', h => by
    simp only [lk]
    split
    · rfl
    · rename_i hn
      refine q8H l x z z' ?_
      obtain ⟨b, hb⟩ := h
      rcases List.mem_cons.1 hb with hb | hb
      · injection hb with h1 h2; exact absurd h1.symm hn
      · exact ⟨b, hb⟩
theorem q0a {α : Type} : ∀ (l : List (Nat × α)) (x : Nat) (z : α), (∀ b, (x, b) ∉ l) → lk l x z = z
  | [], _, _, _ => rfl
  | (i, c) :: l, x, z, h => by
    simp only [lk]
    split
    · rename_i hx; subst hx; exact absurd List.mem_cons_self (h c)
    · exact q0a l x z (fun b hb => h b (List.mem_cons_of_mem _ hb))
theorem q7P {bl rw : List Nat} {i : Nat} (h : i ∈ wbC s s1 bl rw) : i ∈ bl ++ rw := by
  cases rw with
  | nil => exact List.mem_append_left _ (List.mem_filter.1 h).1
  | cons x l => exact h
theorem q71 {bl rw : List Nat} {i : Nat} (h : i ∉ wbC s s1 bl rw) (hi : i ∈ bl ++ rw) : rw = [] ∧ s1.blk i = s.blk i := by
  cases rw with
  | nil =>
    rw [List.append_nil] at hi
    refine ⟨rfl, B.beq_eq ?_⟩
    cases hb : B.beq (s1.blk i) (s.blk i) with
    | true => rfl
    | false => exact absurd (List.mem_filter.2 ⟨hi, by rw [hb]; rfl⟩) h
  | cons x l => exact absurd hi h
theorem q5r {bl rw ln : List Nat} {fp : Fp} (h : qs8 s s1 r bl rw ln = some fp) : ((s1.nx = s.nx ∧ (bl ++ rw).all (fun i => (s1.blk i).ltn s.nx) = true ∧ r.ltn s.nx = true) ∧ fp = ⟨bl ++ rw ++ ln, wbC s s1 bl rw, rw, q4t s rw, []⟩) ∨ fp = ⟨bl ++ rw ++ ln, wbC s s1 bl rw ++ q43 s.nx s1.nx, rw, q4t s rw, [s.nx]⟩ := by
  unfold qs8 at h
  split at h
  · rename_i hc; injection h with h; exact .inl ⟨hc, h.symm⟩
  · injection h with h; exact .inr h.symm
theorem qbf (s : S) (sel : List Nat) (k : Nat) (hp : List (Nat × B)) : s.nx ≤ (s.aft sel k hp).nx ∧ ∀ u ∈ hp.map (fun x => (ren sel s.nx x.1, x.2.rn (ren sel s.nx))) ++ sel.map (fun i => (i, B.dead)), u.1 < (s.aft sel k hp).nx := by
  have h := q2P (hp.map (fun x => (ren sel s.nx x.1, x.2.rn (ren sel s.nx))) ++ sel.map fun i => (i, B.dead)) (s.fgL (sel.drop k)).nx
  rw [q8O] at h
  have e : (s.aft sel k hp).nx = (hp.map (fun x => (ren sel s.nx x.1, x.2.rn (ren sel s.nx))) ++ sel.map fun i => (i, B.dead)).foldl (fun m u => max m (u.1 + 1)) s.nx := by
    show List.foldl _ (s.fgL (sel.drop k)).nx _ = _
    rw [q8O]
  rw [e]; exact h
theorem q8j {n m x : Nat} (h1 : n ≤ x) (h2 : x < m) : x ∈ q43 n m := List.mem_map.2 ⟨x - n, List.mem_range.2 (by omega), by omega⟩
theorem qfD {n m x : Nat} (h : x ∈ q43 n m) : n ≤ x := by
  obtain ⟨y, _, rfl⟩ := List.mem_map.1 h
  omega
theorem qhw (hA : Ag P T) (hE : Snd P E) {f : Operand} {args : Array Operand} {ts : Array TypeId} (ho : o.op = .call { callee := .value f, args := args, argTypes := ts }) {g : FuncId} {fs caps : List C} (hfe : s.ev f = .c (.fn g fs caps))
    {rs : List R} (hrs : fs.map R.c ++ args.toList.map s.ev ++ caps.map R.c = rs) {zs : List (List Nat)} {bl rw' ln : List Nat} (h : ZY E s g zs rs bl rw' ln = some (r, s1)) :
    Loc P o s r ((wbC s s1 bl rw' ++ q43 s.nx s1.nx).map fun x => (x, s1.blk x)) ⟨bl ++ rw' ++ ln, wbC s s1 bl rw' ++ q43 s.nx s1.nx, rw', q4t s rw', [s.nx]⟩ := by
  intro cx ρ t a w next Q hev hblk hfar hltn hs hn
  have hlt2 : ∀ x, t.live x → x < s.nx := hltn (by simp)
  simp only at hblk hfar hn
  obtain ⟨sel, hsel⟩ : ∃ sel, sel = bl ++ rw' := ⟨_, rfl⟩
  have hbs : ∀ i ∈ sel, t.blk i = s.blk i := fun i hi => hblk i (.inl (List.mem_append_left _ (hsel ▸ hi)))
  have hbl : ∀ i ∈ ln, t.blk i = s.blk i := fun i hi => hblk i (.inl (List.mem_append_right _ hi))
  have hwb : ∀ x, x ∈ wbC s s1 bl rw' ++ q43 s.nx s1.nx → t.blk x = s.blk x := fun x hx => hblk x (.inr hx)
  unfold ZY at h
  rw [← hsel] at h
  obtain ⟨rs', g1, h⟩ := Option.bind_eq_some_iff.1 h
  obtain ⟨G, g2, h⟩ := Option.bind_eq_some_iff.1 h
  split at h
  · rename_i hc
    obtain ⟨q, g3, h⟩ := Option.bind_eq_some_iff.1 h
    split at h
    · rename_i hok
      obtain ⟨rfl, rfl⟩ := zU h
      have hX : sel.drop bl.length = rw' := by rw [hsel, List.drop_left]
      obtain ⟨t0, ht0⟩ : ∃ t0 : S, t0 = { t with nx := s.nx } := ⟨_, rfl⟩
      have tb : ∀ i, t0.blk i = t.blk i := fun i => by rw [ht0]; rfl
      have tg : ∀ i, t0.get i = t.get i := fun i => by rw [ht0]; rfl
      have te : ∀ y, t0.ev y = t.ev y := fun y => by rw [ht0]; rfl
      have tn : t0.nx = s.nx := by rw [ht0]
      have hs0 : Sim cx ρ t0 a w := by
        rw [ht0]
        exact ⟨hs.hd, hs.size, hs.tm, hs.hp, hs.hp0, hs.out, hs.inj, fun i hi => hlt2 i hi, hs.kept, hs.oldF, hs.pin, hs.sameF, hs.sep⟩
      have ht : ZY E t0 g zs rs bl rw' ln = some (q.1.rn (ren sel s.nx), t0.aft sel bl.length q.2) := by
        unfold ZY
        rw [← hsel, q4e (fun i hi => (tb i).trans (hbl i hi)), q5t sel 0 (fun i hi => (tb i).trans (hbs i hi)), g1, Option.bind_some, g2, Option.bind_some]
        have hall : ∀ (p : Nat → B → Bool) (l : List Nat), (∀ i ∈ l, t0.blk i = s.blk i) → l.all (fun i => p i (t0.blk i)) = l.all (fun i => p i (s.blk i)) := fun p l hl => by
          induction l with
          | nil => rfl
          | cons i l ih => simp only [List.all_cons, hl i List.mem_cons_self, ih (fun i hi => hl i (List.mem_cons_of_mem _ hi))]
        have e1 := hall (fun _ b => b.live) sel (fun i hi => (tb i).trans (hbs i hi))
        have e2 := hall (fun i b => b.live && !sel.contains i) ln (fun i hi => (tb i).trans (hbl i hi))
        rw [e1, e2, if_pos hc, g3, Option.bind_some, if_pos hok, tn]
      have hoc : q05 P t0 g rs (fun r' s'' => r' = q.1.rn (ren sel s.nx) ∧ s'' = t0.aft sel bl.length q.2) := q5M hE ht ⟨rfl, rfl⟩
      have hargs : ∀ y ∈ args.toList, t0.ev y = s.ev y := fun y hy => (te y).trans (hev y (by
        rw [ho]
        simp only [Op.operands, Call.operands, Array.toList_append, List.mem_append]
        exact .inr hy))
      have hft : t0.ev f = s.ev f := (te f).trans (hev f (by
        rw [ho]
        simp only [Op.operands, Call.operands, Array.toList_append, List.mem_append]
        exact .inl (by simp)))
      have hmap : args.toList.map t0.ev = args.toList.map s.ev := List.map_congr_left hargs
      have hox : ox P T t0 t0.nx o.op (fun r' s'' => r' = q.1.rn (ren sel s.nx) ∧ s'' = t0.aft sel bl.length q.2) := by
        rw [ho]
        simp only [ox, qfu, qb5]
        exact ⟨g, fs, caps, hft.trans hfe, by rw [hmap, hrs]; exact hoc⟩
      refine q6f hA (fun h => by have := hs0.nx _ h; omega) hs0 hox ?_
      rintro r'' s'' ρ' v w' ⟨rfl, rfl⟩ k1 k2
      have hfg : ∀ x, x ∉ sel → x ∉ q43 s.nx (s.aft sel bl.length q.2).nx → (t0.fgL rw').blk x = t.blk x := fun x hx hx2 => by
        rw [S.fgL_blk, tb]
        rcases hfar with h | h
        · rw [if_pos h]
        · split
          · rfl
          · refine h.2 x (fun h => ?_)
            rcases List.mem_append.1 h with h | h
            · exact hx (by rw [hsel]; exact q7P h)
            · exact hx2 h
      refine hn ρ' (t0.aft sel bl.length q.2) v w' (fun d hd => ?_) (fun x => ?_) ?_ k1 k2
      · show (t0.fgL (sel.drop bl.length)).get d = t.get d
        rw [hX, S.fgL_get, tg]
        rcases hfar with h | h
        · rw [if_pos h]
        · split
          · rfl
          · exact h.1 d hd
      · obtain ⟨L, hL⟩ : ∃ L, L = q.2.map (fun x => (ren sel s.nx x.1, x.2.rn (ren sel s.nx))) ++ sel.map (fun i => (i, B.dead)) := ⟨_, rfl⟩
        have e1 : (t0.aft sel bl.length q.2).blk x = lk L x ((t0.fgL rw').blk x) := by
          have : (t0.aft sel bl.length q.2).blk x = lk (q.2.map (fun x => (ren sel t0.nx x.1, x.2.rn (ren sel t0.nx))) ++ sel.map (fun i => (i, B.dead))) x ((t0.fgL (sel.drop bl.length)).blk x) := q4E _ _ x
          rw [this, tn, hX, hL]
        have e2 : (s.aft sel bl.length q.2).blk x = lk L x ((s.fgL rw').blk x) := by
          have : (s.aft sel bl.length q.2).blk x = lk (q.2.map (fun x => (ren sel s.nx x.1, x.2.rn (ren sel s.nx))) ++ sel.map (fun i => (i, B.dead))) x ((s.fgL (sel.drop bl.length)).blk x) := q4E _ _ x
          rw [this, hX, hL]
        obtain ⟨_, hkeys⟩ := qbf s sel bl.length q.2
        rw [← hL] at hkeys
        rw [e1, q4b]
        by_cases hk : ∃ b, (x, b) ∈ L
        · have e3 := q8H L x ((t0.fgL rw').blk x) ((s.fgL rw').blk x) hk
          rw [e3, ← e2]
          by_cases hxw : x ∈ wbC s (s.aft sel bl.length q.2) bl rw' ++ q43 s.nx (s.aft sel bl.length q.2).nx
          · rw [if_pos hxw]
          · rw [if_neg hxw]
            have h1 : x ∉ wbC s (s.aft sel bl.length q.2) bl rw' := fun h => hxw (List.mem_append_left _ h)
            have h2 : x ∉ q43 s.nx (s.aft sel bl.length q.2).nx := fun h => hxw (List.mem_append_right _ h)
            obtain ⟨b, hb⟩ := hk
            have hlt : x < s.nx := by
              rcases Nat.lt_or_ge x s.nx with h | h
              · exact h
              · exact absurd (q8j h (hkeys _ hb)) h2
            have hxs : x ∈ sel := by
              rw [hL] at hb
              rcases List.mem_append.1 hb with hb | hb
              · obtain ⟨y, _, he⟩ := List.mem_map.1 hb
                injection he with he _
                obtain ⟨i, q1, q2⟩ := q8c (by rw [he]; exact hlt)
                rw [← he, q2]; exact List.mem_of_getElem? q1
              · obtain ⟨y, hy, he⟩ := List.mem_map.1 hb
                injection he with he _
                exact he ▸ hy
            rw [(q71 h1 (hsel ▸ hxs)).2, hbs x hxs]
        · have hnk : ∀ b, (x, b) ∉ L := fun b hb => hk ⟨b, hb⟩
          have hxs : x ∉ sel := fun h => hnk .dead (by rw [hL]; exact List.mem_append_right _ (List.mem_map.2 ⟨x, h, rfl⟩))
          rw [q0a L x _ hnk]
          by_cases hxn : x ∈ q43 s.nx (s.aft sel bl.length q.2).nx
          · rw [if_pos (List.mem_append_right _ hxn), e2, q0a L x _ hnk, S.fgL_blk, S.fgL_blk, tb]
            have hge := qfD hxn
            have hd : t.blk x = .dead := by
              by_cases hl : t.live x
              · have := hlt2 x hl; omega
              · exact B.dead_of hl
            rw [hd, ← hwb x (List.mem_append_right _ hxn), hd]
          · rw [hfg x hxs hxn, if_neg (fun h => by
              rcases List.mem_append.1 h with h | h
              · exact hxs (by rw [hsel]; exact q7P h)
              · exact hxn h)]
      · show (t0.fgL (sel.drop bl.length)).n = t.n
        rw [qh8, ht0]
    · cases h
  · cases h
theorem qk1 (hA : Ag P T) (hE : Snd P E) {f : Operand} {args : Array Operand} {ts : Array TypeId} (ho : o.op = .call { callee := .value f, args := args, argTypes := ts }) {fp : Fp} (h : q06 po E s f args.toList ts.toList = some (r, s1)) (hf : fpC po s s1 r f args.toList = some fp)
    : Loc P o s r (fp.wb.map fun x => (x, s1.blk x)) fp := by
  intro cx ρ t a w next Q hev hblk hfar hltn hs hn
  unfold q06 at h
  unfold fpC at hf
  split at h
  · rename_i g fs caps hfe
    rw [hfe] at hf
    simp only at hf
    by_cases hno : False
    · exact hno.elim
    · generalize hrs : fs.map R.c ++ args.toList.map s.ev ++ caps.map R.c = rs at h hf
      generalize zmk (po.ow g) 0 (fs.map (fun _ => []) ++ ts.toList.map po.q) = zs at h
      unfold q6O qaL at h
      unfold qn7 qqF at hf
      generalize q0K s 60 _ _ = l at h hf
      generalize List.filter _ _ = ln at h hf
      generalize q99 s l = bl at h hf
      generalize q1D s l = rw' at h hf
      rcases q5r hf with ⟨⟨c1, c2, c3⟩, rfl⟩ | rfl
      case inr => exact qhw hA hE ho hfe hrs h cx ρ t a w next Q hev hblk hfar hltn hs hn
      simp only at hblk hfar hn
      obtain ⟨sel, hsel⟩ : ∃ sel, sel = bl ++ rw' := ⟨_, rfl⟩
      have hbs : ∀ i ∈ sel, t.blk i = s.blk i := fun i hi => hblk i (.inl (List.mem_append_left _ (hsel ▸ hi)))
      have hbl : ∀ i ∈ ln, t.blk i = s.blk i := fun i hi => hblk i (.inl (List.mem_append_right _ hi))
      have h0 := h
      unfold ZY at h
      rw [← hsel] at h c2
      obtain ⟨rs', g1, h⟩ := Option.bind_eq_some_iff.1 h
      obtain ⟨G, g2, h⟩ := Option.bind_eq_some_iff.1 h
      split at h
      · rename_i hc
        obtain ⟨q, g3, h⟩ := Option.bind_eq_some_iff.1 h
        split at h
        · rename_i hok
          obtain ⟨rfl, rfl⟩ := zU h
          -- the blocks behind the call, by the text and here
          have hus : ∀ u ∈ q.2.map (fun x => (ren sel s.nx x.1, x.2.rn (ren sel s.nx))) ++ sel.map (fun i => (i, B.dead)), u.1 < s.nx := by
            refine q6G ?_
            have : (s.aft sel bl.length q.2).nx = (q.2.map (fun x => (ren sel s.nx x.1, x.2.rn (ren sel s.nx))) ++ sel.map (fun i => (i, B.dead))).foldl (fun m u => max m (u.1 + 1)) (s.fgL (sel.drop bl.length)).nx := rfl
            rw [q8O] at this
            rw [← this]; exact c1
          have hX : sel.drop bl.length = rw' := by rw [hsel, List.drop_left]
          have hin : ∀ x ∈ q.2, ren sel s.nx x.1 ∈ sel := fun x hx => by
            obtain ⟨i, h1, h2⟩ := q8c (hus _ (List.mem_append_left _ (List.mem_map.2 ⟨x, hx, rfl⟩)))
            rw [h2]; exact List.mem_of_getElem? h1
          have hlk : ∀ x z, lk (q.2.map (fun x => (ren sel t.nx x.1, x.2.rn (ren sel t.nx))) ++ sel.map (fun i => (i, B.dead))) x z = lk (q.2.map (fun x => (ren sel s.nx x.1, x.2.rn (ren sel s.nx))) ++ sel.map (fun i => (i, B.dead))) x z := by
            intro x z
            have hfirst : x ∈ sel → (lk (q.2.map (fun x => (ren sel s.nx x.1, x.2.rn (ren sel s.nx))) ++ sel.map (fun i => (i, B.dead))) x z).ltn s.nx = true := fun hx => by
              have h1 := List.all_eq_true.1 c2 x hx
              have h2 : (s.aft sel bl.length q.2).blk x = lk (q.2.map (fun x => (ren sel s.nx x.1, x.2.rn (ren sel s.nx))) ++ sel.map (fun i => (i, B.dead))) x ((s.fgL (sel.drop bl.length)).blk x) := q4E _ _ x
              rw [h2] at h1
              rw [q8H _ x z _ ⟨.dead, List.mem_append_right _ (List.mem_map.2 ⟨x, hx, rfl⟩)⟩]; exact h1
            rw [q0E, q0E]
            have key : ∀ (l : List (Nat × B)) (z : B), (∀ x ∈ l, ren sel s.nx x.1 < s.nx) → (x ∈ sel → (lk (l.map (fun x => (ren sel s.nx x.1, x.2.rn (ren sel s.nx)))) x z).ltn s.nx = true) → (∀ y ∈ l, ren sel s.nx y.1 ∈ sel) →
                lk (l.map (fun x => (ren sel t.nx x.1, x.2.rn (ren sel t.nx)))) x z = lk (l.map (fun x => (ren sel s.nx x.1, x.2.rn (ren sel s.nx)))) x z := by
              intro l
              induction l with
              | nil => intro z _ _ _; rfl
              | cons y l ih =>
                intro z hl hlt hm
                have h1 := hl y List.mem_cons_self
                simp only [List.map_cons, lk, q4X (n' := t.nx) h1] at hlt ⊢
                split
                · rename_i hx
                  rw [if_pos hx] at hlt
                  exact qgb (hlt (hx ▸ hm y List.mem_cons_self))
                · rename_i hx
                  rw [if_neg hx] at hlt
                  exact ih z (fun x hx => hl x (List.mem_cons_of_mem _ hx)) hlt (fun y hy => hm y (List.mem_cons_of_mem _ hy))
            refine key q.2 _ (fun x hx => hus _ (List.mem_append_left _ (List.mem_map.2 ⟨x, hx, rfl⟩))) (fun hx => ?_) hin
            have := hfirst hx
            rw [q0E] at this
            exact this
          have ht : ZY E t g zs rs bl rw' ln = some (q.1.rn (ren sel s.nx), t.aft sel bl.length q.2) := by
            unfold ZY
            rw [← hsel, q4e hbl, q5t sel 0 hbs, g1, Option.bind_some, g2, Option.bind_some]
            have hall : ∀ (p : Nat → B → Bool) (l : List Nat), (∀ i ∈ l, t.blk i = s.blk i) → l.all (fun i => p i (t.blk i)) = l.all (fun i => p i (s.blk i)) := fun p l hl => by
              induction l with
              | nil => rfl
              | cons i l ih => simp only [List.all_cons, hl i List.mem_cons_self, ih (fun i hi => hl i (List.mem_cons_of_mem _ hi))]
            have e1 := hall (fun _ b => b.live) sel hbs
            have e2 := hall (fun i b => b.live && !sel.contains i) ln hbl
            rw [e1, e2, if_pos hc, g3, Option.bind_some, if_pos hok]
            rw [qh1 c3]
          have hoc : q05 P t g rs (fun r' s'' => r' = q.1.rn (ren sel s.nx) ∧ s'' = t.aft sel bl.length q.2) := q5M hE ht ⟨rfl, rfl⟩
          have hargs : ∀ y ∈ args.toList, t.ev y = s.ev y := fun y hy => hev y (by
            rw [ho]
            simp only [Op.operands, Call.operands, Array.toList_append, List.mem_append]
            exact .inr hy)
          have hft : t.ev f = s.ev f := hev f (by
            rw [ho]
            simp only [Op.operands, Call.operands, Array.toList_append, List.mem_append]
            exact .inl (by simp))
          have hmap : args.toList.map t.ev = args.toList.map s.ev := List.map_congr_left hargs
          have hox : ox P T t t.nx o.op (fun r' s'' => r' = q.1.rn (ren sel s.nx) ∧ s'' = t.aft sel bl.length q.2) := by
            rw [ho]
            simp only [ox, qfu, qb5]
            exact ⟨g, fs, caps, hft.trans hfe, by rw [hmap, hrs]; exact hoc⟩
          refine q6f hA (fun h => by have := hs.nx _ h; omega) hs hox ?_
          rintro r'' s'' ρ' v w' ⟨rfl, rfl⟩ k1 k2
          have hfg : ∀ x, x ∉ sel → (t.fgL rw').blk x = t.blk x := fun x hx => by
            rw [S.fgL_blk]
            rcases hfar with h | h
            · rw [if_pos h]
            · split
              · rfl
              · exact h.2 x (fun h => hx (by rw [hsel]; exact q7P h))
          refine hn ρ' (t.aft sel bl.length q.2) v w' (fun d hd => ?_) (fun x => ?_) ?_ k1 k2
          · show (t.fgL (sel.drop bl.length)).get d = t.get d
            rw [hX, S.fgL_get]
            rcases hfar with h | h
            · rw [if_pos h]
            · split
              · rfl
              · exact h.1 d hd
          · have e1 : (t.aft sel bl.length q.2).blk x = lk (q.2.map (fun x => (ren sel t.nx x.1, x.2.rn (ren sel t.nx))) ++ sel.map (fun i => (i, B.dead))) x ((t.fgL (sel.drop bl.length)).blk x) := q4E _ _ x
            have e2 : (s.aft sel bl.length q.2).blk x = lk (q.2.map (fun x => (ren sel s.nx x.1, x.2.rn (ren sel s.nx))) ++ sel.map (fun i => (i, B.dead))) x ((s.fgL (sel.drop bl.length)).blk x) := q4E _ _ x
            rw [e1, hlk, q4b, hX]
            by_cases hx : x ∈ sel
            · have e3 := q8H (q.2.map (fun x => (ren sel s.nx x.1, x.2.rn (ren sel s.nx))) ++ sel.map (fun i => (i, B.dead))) x ((t.fgL rw').blk x) ((s.fgL (sel.drop bl.length)).blk x) ⟨.dead, List.mem_append_right _ (List.mem_map.2 ⟨x, hx, rfl⟩)⟩
              by_cases hxw : x ∈ wbC s (s.aft sel bl.length q.2) bl rw'
              · rw [if_pos hxw, e2]; exact e3
              · rw [if_neg hxw, e3, ← e2, (q71 hxw (hsel ▸ hx)).2, hbs x hx]
            · have hxw : x ∉ wbC s (s.aft sel bl.length q.2) bl rw' := fun h => hx (by rw [hsel]; exact q7P h)
              rw [if_neg hxw, hfg x hx]
              refine q0a _ x _ (fun b hb => ?_)
              rcases List.mem_append.1 hb with hb | hb
              · obtain ⟨y, hy, he⟩ := List.mem_map.1 hb
                injection he with he1 he2
                exact hx (he1 ▸ hin y hy)
              · obtain ⟨y, hy, he⟩ := List.mem_map.1 hb
                injection he with he1 he2
                exact hx (he1 ▸ hy)
          · show (t.fgL (sel.drop bl.length)).n = t.n
            exact qh8 _ _
        · cases h
      · cases h
  · rename_i rid hfe
    rw [hfe] at hf
    cases hf
  · cases h
end
end Go.Proofs.YtplfjlcnffcenaaGreat.Vc
namespace Go.Proofs.YtplfjlcnffcenaaGreat.Vc
open Go.RowKit
def Nb (s : S) : Prop := ∀ i, s.live i → i < s.nx
structure Stp (P : Program) (ops : List Oper) (o : Oper) (s s' : S) (x : Tx) : Prop where
  run : ∃ b, gd ops s o.guard = some b ∧ (b = false → x = ((.tup [], []), ⟨[], [], [], [], []⟩)) ∧ (b = true → Nb s → Loc P o s x.1.1 x.1.2 x.2)
  eff : qfw x.2 s → (∀ d, s'.get d = if o.dst = some d then x.1.1 else if d ∈ x.2.ks then .any else s.get d) ∧ ∀ i, s'.blk i = lk x.1.2 i (s.blk i)
  n : s'.n = s.n
  dst : ∀ d, o.dst = some d → d < s.n
  us : ∀ u ∈ x.1.2, u.1 ∈ x.2.wb
  nb : Nb s → Nb s'
  nwp : x.2.nw = [] ∨ x.2.nw = [s.nx]
section
variable {P : Program} {T : Ty} {po : Pol} {E : Orc} {ops : List Oper} {o : Oper} {s s' : S} {x : Tx}
theorem Nb.put (h : Nb s) (d : Option Nat) (r : R) : Nb (s.put d r) := fun i hi => by
  rw [S.put_nx]; refine h i ?_; unfold S.live at hi ⊢; rwa [S.put_blk] at hi
theorem qjr {us : List (Nat × B)} {i : Nat} {z : B} (h : (lk us i z).live = true) : (∃ u ∈ us, u.1 = i) ∨ z.live = true := by
  induction us with
  | nil => exact .inr h
  | cons y us ih =>
    obtain ⟨j, b⟩ := y
    simp only [lk] at h
    split at h
    · rename_i hj; exact .inl ⟨_, List.mem_cons_self, hj⟩
    · rcases ih h with ⟨u, hu, he⟩ | h
      · exact .inl ⟨u, List.mem_cons_of_mem _ hu, he⟩
      · exact .inr h
theorem Nb.up (h : Nb s) (us : List (Nat × B)) : Nb (s.up us) := fun i hi => by
  unfold S.live at hi
  rw [q4E] at hi
  have hx := q2P us s.nx
  rcases qjr hi with ⟨u, hu, rfl⟩ | h1
  · exact hx.2 u hu
  · exact Nat.lt_of_lt_of_le (h i h1) hx.1
theorem Nb.fgL (h : Nb s) (X : List Nat) : Nb (s.fgL X) := fun i hi => by rw [q8O]; exact h i ((S.fgL_live s X i).1 hi)
theorem Nb.dead (h : Nb s) : s.blk s.nx = .dead := B.dead_of fun hl => by have := h s.nx hl; omega
theorem qfT {s1 : S} (wb : List Nat) (i : Nat) (h : i ∉ wb → s1.blk i = s.blk i) : s1.blk i = lk (wb.map fun x => (x, s1.blk x)) i (s.blk i) := by
  rw [q4b (fun x => s1.blk x)]
  split
  · rfl
  · rename_i hn; exact h hn
theorem qjf {sel : List Nat} {k : Nat} {hp : List (Nat × B)} (hnx : (s.aft sel k hp).nx = s.nx) {i : Nat} (hi : i ∉ sel) : (s.aft sel k hp).blk i = (s.fgL (sel.drop k)).blk i := by
  have hus : ∀ u ∈ hp.map (fun x => (ren sel s.nx x.1, x.2.rn (ren sel s.nx))) ++ sel.map (fun i => (i, B.dead)), u.1 < s.nx := by
    refine q6G ?_
    have : (s.aft sel k hp).nx = (hp.map (fun x => (ren sel s.nx x.1, x.2.rn (ren sel s.nx))) ++ sel.map (fun i => (i, B.dead))).foldl (fun m u => max m (u.1 + 1)) (s.fgL (sel.drop k)).nx := rfl
    rw [q8O] at this
    rw [← this]; exact hnx
  have e1 : (s.aft sel k hp).blk i = lk (hp.map (fun x => (ren sel s.nx x.1, x.2.rn (ren sel s.nx))) ++ sel.map (fun i => (i, B.dead))) i ((s.fgL (sel.drop k)).blk i) := q4E _ _ i
  rw [e1]
  refine q0a _ i _ (fun b hb => ?_)
  rcases List.mem_append.1 hb with hb | hb
  · obtain ⟨y, hy, he⟩ := List.mem_map.1 hb
    injection he with he1 he2
    obtain ⟨j, h1, h2⟩ := q8c (hus _ (List.mem_append_left _ (List.mem_map.2 ⟨y, hy, rfl⟩)))
    rw [h2] at he1
    exact hi (he1 ▸ List.mem_of_getElem? h1)
  · obtain ⟨y, hy, he⟩ := List.mem_map.1 hb
    injection he with he1 he2
    exact hi (he1 ▸ hy)
theorem qh7 {sel : List Nat} {k : Nat} {hp : List (Nat × B)} {i : Nat} (hi : i ∉ sel) (hn : i ∉ q43 s.nx (s.aft sel k hp).nx) : (s.aft sel k hp).blk i = (s.fgL (sel.drop k)).blk i := by
  obtain ⟨_, hkeys⟩ := qbf s sel k hp
  have e1 : (s.aft sel k hp).blk i = lk (hp.map (fun x => (ren sel s.nx x.1, x.2.rn (ren sel s.nx))) ++ sel.map (fun i => (i, B.dead))) i ((s.fgL (sel.drop k)).blk i) := q4E _ _ i
  rw [e1]
  refine q0a _ i _ (fun b hb => ?_)
  have hlt : i < s.nx := by
    rcases Nat.lt_or_ge i s.nx with h | h
    · exact h
    · exact absurd (q8j h (hkeys _ hb)) hn
  rcases List.mem_append.1 hb with hb | hb
  · obtain ⟨y, hy, he⟩ := List.mem_map.1 hb
    injection he with he1 he2
    obtain ⟨j, h1, h2⟩ := q8c (by rw [he1]; exact hlt)
    rw [h2] at he1
    exact hi (he1 ▸ List.mem_of_getElem? h1)
  · obtain ⟨y, hy, he⟩ := List.mem_map.1 hb
    injection he with he1 he2
    exact hi (he1 ▸ hy)
theorem ql8 {s s1 : S} {r : R} {op : Op} {fp : Fp} (h : qdR po s s1 r op = some fp) : fp.nw = [] ∨ fp.nw = [s.nx] := by
  unfold qdR at h
  split at h
  · injection h with h; subst h; exact .inl rfl
  · split at h
    · split at h
      · injection h with h; subst h; exact .inl rfl
      · cases h
    · injection h with h; subst h; exact .inl rfl
    · unfold qc7 at h
      split at h
      · split at h
        · injection h with h; subst h; exact .inl rfl
        · injection h with h; subst h; exact .inl rfl
        · cases h
      · cases h
    · unfold fpC at h
      split at h
      · unfold qn7 qqF at h
        rcases q5r h with ⟨_, rfl⟩ | rfl
        · exact .inl rfl
        · exact .inr rfl
      · cases h
    · cases h
theorem S.kill_get (s : S) (ks : List Nat) (d : Nat) : (s.kill ks).get d = if d ∈ ks then .any else s.get d := by
  show lk (ks.map (fun d => (d, R.any)) ++ s.tm) d .any = _
  rw [q0E, q4b (fun _ => R.any)]
  rfl
theorem S.kill_blk (s : S) (ks : List Nat) (i : Nat) : (s.kill ks).blk i = s.blk i := rfl
theorem Sim.kill {cx : Cx} {ρ : Pl} {a : Act} {w : World} (h : Sim cx ρ s a w) (ks : List Nat) : Sim cx ρ (s.kill ks) a w := by
  refine ⟨h.hd, h.size, fun i => ?_, h.hp, h.hp0, h.out, h.inj, h.nx, h.kept, h.oldF, h.pin, h.sameF, h.sep⟩
  show RR w _ ρ _ ((s.kill ks).get i)
  rw [S.kill_get]
  split
  · exact .any _
  · exact h.tm i
theorem qcG {fp : Fp} (h : qfw fp s) (d : Nat) (hd : d ∉ fp.ks) : (s.fgL fp.X).get d = s.get d := by
  rw [S.fgL_get]
  rcases h with h | h
  · rw [if_pos h]
  · split
    · rfl
    · exact h.1 d hd
theorem qcV {fp : Fp} (h : qfw fp s) {i : Nat} (hi : i ∉ fp.wb) : (s.fgL fp.X).blk i = s.blk i := by
  rw [S.fgL_blk]
  rcases h with h | h
  · rw [if_pos h]
  · split
    · rfl
    · exact h.2 i hi
theorem qpC {op : Op} {g : FuncId} {rs : List R} (h : alC po s op = some (g, rs)) : ∃ f args ts, op = .call { callee := .value f, args := args, argTypes := ts } ∧ s.ev f = .c (.fn g [] []) ∧ rs = args.toList.map s.ev ∧ rs.all R.dat = true := by
  unfold alC at h
  split at h
  · rename_i f args ts
    split at h
    · rename_i g' hf
      split at h
      · rename_i hc
        injection h with h
        injection h with h1 h2
        subst h1 h2
        exact ⟨f, args, ts, rfl, hf, rfl, hc.2⟩
      · cases h
    · cases h
  · cases h
theorem qtd (hA : Ag P T) (hE : Snd P E) {g : FuncId} {rs : List R} (hc : alC po s o.op = some (g, rs)) {z n e : Nat} {cs : List C} {q : R × List (Nat × B)} (hq : E (.fn g) 0 rs [] = some q) (h2 : qns q = some (z, n, e, cs)) (hnx : s.blk s.nx = .dead) :
    Loc P o s (.c (.own s.nx z 0 n)) [(s.nx, .row e z cs)] ⟨[], [s.nx], [], [], []⟩ := by
  obtain ⟨f, args, ts, ho, hf, hrs, hd⟩ := qpC hc
  intro cx ρ t a w next Q hev hblk _ _ hs hn
  have e1 : t.ev f = s.ev f := hev f (by rw [ho]; simp [Op.operands, Call.operands])
  have e2 : args.toList.map t.ev = args.toList.map s.ev := List.map_congr_left fun y hy => hev y (by rw [ho]; simp only [Op.operands, Call.operands, Array.toList_append]; exact List.mem_append_right _ hy)
  have hb := hblk s.nx (.inr List.mem_cons_self)
  have hl : ¬ t.live s.nx := fun h => by unfold S.live at h; rw [hb, hnx] at h; cases h
  unfold qns at h2
  split at h2
  · rename_i z0 n0 e0 z1 cs0
    split at h2
    · rename_i hcc
      obtain ⟨rfl, hcs⟩ := hcc
      injection h2 with h2
      injection h2 with i1 i2; injection i2 with i2 i3; injection i3 with i3 i4
      subst i1 i2 i3 i4
      have hac := hE.fn g 0 rs [] _ _ hq
      have hcall : q05 P t g rs (fun r' s'' => r' = .c (.own s.nx z1 0 n0) ∧ s'' = t.up [(s.nx, .row e0 z1 cs0)]) := q05.fresh hac hd hcs hl ⟨rfl, rfl⟩
      have hox : ox P T t s.nx o.op (fun r' s'' => r' = .c (.own s.nx z1 0 n0) ∧ s'' = t.up [(s.nx, .row e0 z1 cs0)]) := by
        rw [ho]
        unfold ox qfu
        exact ⟨g, [], [], e1.trans hf, by rw [List.map_nil, List.nil_append, List.append_nil, e2, ← hrs]; exact hcall⟩
      refine q6f hA hl hs hox ?_
      rintro r'' s'' ρ' v w' ⟨rfl, rfl⟩ g1 g2
      exact hn ρ' (t.up [(s.nx, .row e0 z1 cs0)]) v w' (fun d _ => rfl) (fun x => S.blk_up t s.nx x _) rfl g1 g2
    · cases h2
  · cases h2
theorem qep (hA : Ag P T) (hE : Snd P E) {act : Bool} (h : xsF P T po E o act s = some (s', x)) :
    (act = false → x = ((.tup [], []), ⟨[], [], [], [], []⟩)) ∧ (act = true → Nb s → Loc P o s x.1.1 x.1.2 x.2) ∧ (Nb s → Nb s') ∧ (qfw x.2 s → (∀ d, s'.get d = if o.dst = some d then x.1.1 else if d ∈ x.2.ks then .any else s.get d) ∧ ∀ i, s'.blk i = lk x.1.2 i (s.blk i)) ∧ s'.n = s.n ∧ (∀ d, o.dst = some d → d < s.n) ∧ (∀ u ∈ x.1.2, u.1 ∈ x.2.wb) ∧ (x.2.nw = [] ∨ x.2.nw = [s.nx]) := by
  unfold xsF at h
  split at h
  · rename_i ha
    subst ha
    cases hal : alC po s o.op with
    | some gr =>
      obtain ⟨g, rs⟩ := gr
      rw [hal] at h
      have h : qrW s o ((E (.fn g) 0 rs []).bind qns) = some (s', x) := h
      unfold qrW at h
      obtain ⟨⟨z, n, e, cs⟩, h1, h2⟩ := Option.bind_eq_some_iff.1 h
      obtain ⟨q, h3, h4⟩ := Option.bind_eq_some_iff.1 h1
      split at h2
      · rename_i hd
        injection h2 with h2
        injection h2 with h5 h6
        subst h5 h6
        refine ⟨(fun h => by cases h), fun _ hb => qtd hA hE hal h3 h4 hb.dead, fun hb => (hb.up _).put _ _, fun hf => ⟨fun d => ?_, fun i => ?_⟩, S.put_n _ _ _, q2z hd, fun u hu => ?_, .inl rfl⟩
        · rw [S.put_get]; simp only [List.not_mem_nil, if_false]; rfl
        · rw [S.put_blk, S.blk_up]; rfl
        · simp only [List.mem_singleton] at hu; subst hu; exact List.mem_cons_self
      · cases h2
    | none =>
    rw [hal] at h
    replace h : ((xo P T po E s o.op).bind fun q => if q7I q.2 o.dst = true then (qdR po s q.2 q.1 o.op).bind fun fp => some ((q.2.kill fp.ks).put o.dst q.1, (q.1, fp.wb.map fun x => (x, q.2.blk x)), fp) else none) = some (s', x) := h
    obtain ⟨⟨r, s1⟩, h1, h2⟩ := Option.bind_eq_some_iff.1 h
    simp only at h2
    split at h2
    · rename_i hd
      obtain ⟨fp, h3, h4⟩ := Option.bind_eq_some_iff.1 h2
      injection h4 with h4
      injection h4 with h4 h5
      subst h4 h5
      have hcore : (Nb s → Loc P o s r (fp.wb.map fun x => (x, s1.blk x)) fp) ∧ (Nb s → Nb s1) ∧ (qfw fp s → (∀ d, d ∉ fp.ks → s1.get d = s.get d) ∧ ∀ i, i ∉ fp.wb → s1.blk i = s.blk i) ∧ s1.n = s.n := by
        unfold qdR at h3
        split at h3
        · rename_i hop
          injection h3 with h3
          subst h3
          have hox := qju hE (K := fun r' s'' => r' = r ∧ s'' = s1) (qdN hop) h1 ⟨rfl, rfl⟩
          obtain ⟨r', us', ⟨rfl, h6⟩, h7, -⟩ := qfj (t := s) hop (fun _ _ => rfl) (fun _ _ => rfl) hox
          refine ⟨fun hb => qly hA hE hop h1 hb.dead, fun hb => h6 ▸ hb.up us', fun _ => ⟨fun d _ => by rw [← h6]; rfl, fun i hi => ?_⟩, by rw [← h6]; rfl⟩
          rcases h7 with rfl | ⟨hal, b, rfl⟩
          · rw [← h6]; rfl
          · rw [← h6, S.blk_up, if_neg]
            rintro rfl
            exact hi (by simp [hal])
        · split at h3
          · rename_i ty y z ho
            split at h3
            · rename_i id off hx
              injection h3 with h3
              subst h3
              rw [ho] at h1
              have h1 : q2k T s ty y z = some (r, s1) := h1
              have hloc := qgn (P := P) hA ho hx h1 (X := [])
              unfold q2k at h1
              rw [hx] at h1
              simp only at h1
              split at h1
              · split at h1
                · obtain ⟨rfl, rfl⟩ := zU h1
                  refine ⟨fun _ => hloc, fun hb => hb.up _, fun _ => ⟨fun d _ => rfl, fun i hi => ?_⟩, rfl⟩
                  rw [S.blk_up, if_neg]
                  rintro rfl
                  exact hi List.mem_cons_self
                · cases h1
              · cases h1
            · cases h3
          · rename_i ty y z ho
            injection h3 with h3
            subst h3
            rw [ho] at h1
            have h1 : qbJ T s ty y z = some (r, s1) := h1
            have hloc := fun hb : Nb s => qjx (P := P) hA ho h1 hb.dead (X := [])
            unfold qbJ at h1
            split at h1
            · split at h1
              · split at h1
                · obtain ⟨rfl, rfl⟩ := zU h1
                  refine ⟨hloc, fun hb => hb.up _, fun _ => ⟨fun d _ => rfl, fun i hi => ?_⟩, rfl⟩
                  rw [S.blk_up, if_neg]
                  rintro rfl
                  exact hi List.mem_cons_self
                · cases h1
              · cases h1
            · cases h1
          · rename_i args ts ho
            obtain ⟨args⟩ := args
            obtain ⟨ts⟩ := ts
            rw [ho] at h1
            have h1 : xCl T po E s { callee := .builtin .append, args := ⟨args⟩, argTypes := ⟨ts⟩ } = some (r, s1) := h1
            match args, ts, h1, h3, ho with
            | [y, z], [t1, t2], h1, h3, ho =>
              simp only [xCl] at h1
              split at h1
              · rename_i ht
                have hloc := fun hb : Nb s => qo3 (P := P) hA ho ht h1 h3 hb.dead
                obtain ⟨id, row, hfp, hs1⟩ : ∃ id row, fp = fpA s id z ∧ s1 = (s.fg id).up [(id, row)] := by
                  have hk := q42 (K := fun r' s'' => r' = r ∧ s'' = s1) h1 ⟨rfl, rfl⟩
                  obtain ⟨e, m, ys, q1, q2, q3, q4, q5, q6, q7, q8⟩ := hk
                  simp only [qc7] at h3
                  split at h3
                  · rename_i id sz off n hx
                    injection h3 with h3
                    rw [hx] at q8
                    simp only at q8
                    obtain ⟨p1, p2, cs, p3, p4, p5, p6, p7, p8, p9, p10⟩ := q8
                    exact ⟨_, _, h3.symm, p10.symm⟩
                  · rename_i hx
                    injection h3 with h3
                    rw [hx] at q8
                    simp only at q8
                    obtain ⟨p1, p2, p3, p4, p5⟩ := q8
                    exact ⟨_, _, h3.symm, p5.symm⟩
                  · cases h3
                subst hs1
                have hX : fp.X = [id] := by rw [hfp]; rfl
                refine ⟨hloc, fun hb => Nb.up (s := s.fg id) (fun i hi => hb i ((S.live_fg s id i).1 hi)) _, fun hf => ?_, rfl⟩
                have hf' := hf.resolve_left (by rw [hX]; simp)
                rw [hX] at hf'
                refine ⟨fun d hd => ?_, fun i hi => ?_⟩
                · show (s.fg id).get d = s.get d
                  rw [S.get_fg, ← qtR]; exact hf'.1 d hd
                · rw [S.blk_up, if_neg (fun h => hi (by rw [hfp, ← h]; exact List.mem_cons_self)), S.blk_fg, ← qvb]
                  exact hf'.2 i hi
              · cases h1
          · rename_i f args ts ho
            rw [ho] at h1
            have h1 : q06 po E s f args.toList ts.toList = some (r, s1) := h1
            have hloc := qk1 (P := P) hA hE ho h1 h3
            unfold q06 at h1
            unfold fpC at h3
            split at h1
            · rename_i g fs caps hfe
              rw [hfe] at h3
              simp only at h3
              by_cases hno : False
              · exact hno.elim
              · unfold q6O qaL ZY at h1
                unfold qn7 qqF at h3
                generalize q0K s 60 _ _ = l at h1 h3
                generalize List.filter _ _ = ln at h1 h3
                generalize q99 s l = bl at h1 h3
                generalize q1D s l = rw' at h1 h3
                have hfc := q5r h3
                obtain ⟨rs', g1, h1⟩ := Option.bind_eq_some_iff.1 h1
                obtain ⟨G, g2, h1⟩ := Option.bind_eq_some_iff.1 h1
                split at h1
                · obtain ⟨q, g3, h1⟩ := Option.bind_eq_some_iff.1 h1
                  split at h1
                  · obtain ⟨rfl, rfl⟩ := zU h1
                    have hX : (bl ++ rw').drop bl.length = rw' := List.drop_left
                    rcases hfc with ⟨⟨c1, c2, c3⟩, rfl⟩ | rfl
                    · refine ⟨fun _ => hloc, fun hb => (hb.fgL _).up _, fun hf => ⟨fun d hd => ?_, fun i hi => ?_⟩, qh8 _ _⟩
                      · show (s.fgL ((bl ++ rw').drop bl.length)).get d = s.get d
                        rw [hX]; exact qcG hf d hd
                      · by_cases his : i ∈ bl ++ rw'
                        · exact (q71 hi his).2
                        · rw [qjf c1 his, hX]; exact qcV hf hi
                    · refine ⟨fun _ => hloc, fun hb => (hb.fgL _).up _, fun hf => ⟨fun d hd => ?_, fun i hi => ?_⟩, qh8 _ _⟩
                      · show (s.fgL ((bl ++ rw').drop bl.length)).get d = s.get d
                        rw [hX]; exact qcG hf d hd
                      · have hi1 : i ∉ wbC s (s.aft (bl ++ rw') bl.length q.2) bl rw' := fun h => hi (List.mem_append_left _ h)
                        by_cases his : i ∈ bl ++ rw'
                        · exact (q71 hi1 his).2
                        · rw [qh7 his (fun h => hi (List.mem_append_right _ h)), hX]; exact qcV hf hi
                  · cases h1
                · cases h1
            · rename_i rid hfe
              rw [hfe] at h3
              cases h3
            · cases h1
          · cases h3
      obtain ⟨k1, k2, k3, k4⟩ := hcore
      have k5 := ql8 h3
      refine ⟨(fun h => by cases h), fun _ => k1, fun hb => Nb.put (s := s1.kill fp.ks) (fun i hi => k2 hb i hi) _ _, fun hf => ⟨fun d => ?_, fun i => ?_⟩, by rw [S.put_n]; exact k4, fun d hdd => ?_, fun u hu => ?_, k5⟩
      · rw [S.put_get, S.kill_get]
        by_cases hk : d ∈ fp.ks
        · simp only [if_pos hk]
        · simp only [if_neg hk, (k3 hf).1 d hk]
      · rw [S.put_blk, S.kill_blk]; exact qfT fp.wb i ((k3 hf).2 i)
      · have := q2z hd d hdd; rw [k4] at this; exact this
      · obtain ⟨y, hy, he⟩ := List.mem_map.1 hu; rw [← he]; exact hy
    · cases h2
  · rename_i ha
    have ha : act = false := by cases act <;> simp at ha ⊢
    subst ha
    split at h
    · rename_i hd
      injection h with h
      injection h with h1 h2
      subst h1 h2
      refine ⟨fun _ => rfl, (fun h => by cases h), fun hb => hb.put _ _, fun _ => ⟨fun d => by rw [S.put_get]; simp, fun i => by rw [S.put_blk]; rfl⟩, S.put_n _ _ _, q2z hd, fun u hu => by simp at hu, .inl rfl⟩
    · cases h
theorem qr1 (hA : Ag P T) (hE : Snd P E) (h : xgF P T po E ops o s = some (s', x)) : Stp P ops o s s' x := by
  unfold xgF at h
  split at h
  · rename_i hg
    obtain ⟨h1, h2, h3, h4, h5, h6, h7, h8⟩ := qep hA hE h
    exact ⟨⟨true, by unfold gd; rw [hg], (fun h => by cases h), fun _ hb => h2 rfl hb⟩, h4, h5, h6, h7, h3, h8⟩
  · rename_i j want hg
    split at h
    · rename_i d hd
      split at h
      · rename_i b hb
        -- a slot laid down anew with what it holds
        have key : ∀ (v : Bool) (act : Bool), s.get d = .c (.d (.bool v)) → (v == want) = act → xsF P T po E o act (s.put (some d) (.c (.d (.bool v)))) = some (s', x) → Stp P ops o s s' x := by
          intro v act hv hact hx
          obtain ⟨h1, h2, h3, h4, h5, h6, h7, h8⟩ := qep hA hE hx
          have hget : ∀ i, (s.put (some d) (.c (.d (.bool v)))).get i = s.get i := fun i => by
            rw [S.put_get]
            split
            · rename_i hi; injection hi with hi; subst hi; exact hv.symm
            · rfl
          have hev : ∀ y, (s.put (some d) (.c (.d (.bool v)))).ev y = s.ev y := fun y => by
            cases y with
            | tmp i => exact hget i
            | _ => rfl
          have hnb : Nb s → Nb (s.put (some d) (.c (.d (.bool v)))) := fun hb => hb.put _ _
          refine ⟨⟨act, by unfold gd; rw [hg]; simp only [hd, hv, hact], h1, fun ha hb => ?_⟩, fun hf => ?_, h5, h6, h7, fun hb => h3 (hnb hb), by rw [S.put_nx] at h8; exact h8⟩
          · have hl := h2 ha (hnb hb)
            intro cx ρ t a w next Q q1 q2 q3 q6 q4 q5
            exact hl cx ρ t a w next Q (fun y hy => (q1 y hy).trans (hev y).symm) (fun i hi => q2 i hi) q3 (fun h x hx => by rw [S.put_nx]; exact q6 h x hx) q4 q5
          · have hf' : qfw x.2 (s.put (some d) (.c (.d (.bool v)))) := by
              rcases hf with hf | hf
              · exact .inl hf
              · exact .inr ⟨fun i hi => by rw [hget]; exact hf.1 i hi, fun i hi => hf.2 i hi⟩
            obtain ⟨e1, e2⟩ := h4 hf'
            exact ⟨fun i => by rw [e1, hget], fun i => e2 i⟩
        split at h
        · rename_i hbt
          subst hbt
          exact key true want hb (by cases want <;> rfl) h
        · rename_i hbt
          have hbf : b = false := by cases b <;> simp at hbt ⊢
          subst hbf
          exact key false (!want) hb (by cases want <;> rfl) h
      · rename_i hb
        obtain ⟨h1, h2, h3, h4, h5, h6, h7, h8⟩ := qep hA hE h
        exact ⟨⟨false, by unfold gd; rw [hg]; simp only [hd, hb], h1, fun h => by cases h⟩, h4, h5, h6, h7, h3, h8⟩
      · cases h
    · cases h
theorem qe8 (hA : Ag P T) (hE : Snd P E) {A : List (List Nat)} {s0 : S} : ∀ (m k : Nat) (l : List Oper) (s s' : S) (acc : List Tx), ops.drop k = l → xdp P T po E ops A s0 m l s acc = some s' →
    ∃ (Sq : Nat → S) (tx : Nat → Tx), Sq 0 = s ∧ (∀ j, j < m → ∃ o, ops[k + j]? = some o ∧ Stp P ops o (Sq j) (Sq (j + 1)) (tx j)) ∧ (okP A 0 [] (acc ++ (List.range m).map tx) = true ∧ okX ops A s0 (acc ++ (List.range m).map tx) 0 (acc ++ (List.range m).map tx) = true ∧ okK ops A (acc ++ (List.range m).map tx) = true ∧ okN (acc ++ (List.range m).map tx) 0 (acc ++ (List.range m).map tx) = true) ∧ xr P T po E ops (ops.drop (k + m)) (Sq m) = some s'
  | 0, k, l, s, s', acc, hl, h => by
    unfold xdp at h
    split at h
    · rename_i hc
      exact ⟨fun _ => s, fun _ => ((.any, []), ⟨[], [], [], [], []⟩), rfl, fun j hj => by omega, by simpa using hc, by rw [Nat.add_zero, hl]; exact h⟩
    · cases h
  | m + 1, k, [], s, s', acc, hl, h => by cases h
  | m + 1, k, o :: l, s, s', acc, hl, h => by
    unfold xdp at h
    obtain ⟨⟨s1, x⟩, h1, h2⟩ := Option.bind_eq_some_iff.1 h
    have hk : ops[k]? = some o := by
      have := List.getElem?_drop (xs := ops) (i := k) (j := 0)
      rw [hl] at this
      simpa using this.symm
    have hl' : ops.drop (k + 1) = l := by
      have := List.drop_drop (l := ops) (i := 1) (j := k)
      rw [hl] at this
      simpa using this.symm
    obtain ⟨Sq, tx, g1, g2, g3, g4⟩ := qe8 hA hE m (k + 1) l s1 s' _ hl' h2
    refine ⟨fun j => if j = 0 then s else Sq (j - 1), fun j => if j = 0 then x else tx (j - 1), rfl, fun j hj => ?_, ?_, ?_⟩
    · cases j with
      | zero =>
        refine ⟨o, hk, ?_⟩
        have := qr1 hA hE h1
        simp only [if_true]
        rw [if_neg (by omega), show 0 + 1 - 1 = 0 from rfl, g1]
        exact this
      | succ j =>
        obtain ⟨o', q1, q2⟩ := g2 j (by omega)
        refine ⟨o', by rw [← q1]; congr 1; omega, ?_⟩
        simpa using q2
    · have : acc ++ (List.range (m + 1)).map (fun j => if j = 0 then x else tx (j - 1)) = acc ++ [x] ++ (List.range m).map tx := by
        rw [List.range_succ_eq_map, List.map_cons, List.map_map, List.append_assoc]
        rfl
      rw [this]; exact g3
    · rw [show k + (m + 1) = k + 1 + m by omega]
      simpa using g4
end
end Go.Proofs.YtplfjlcnffcenaaGreat.Vc
namespace Go.Proofs.YtplfjlcnffcenaaGreat.Vc
open Go.RowKit
def stT (ops : List Oper) (tx : Nat → Tx) (s0 : S) (p : Nat → Bool) : Nat → S
  | 0 => s0
  | i + 1 => if p i = true then (((stT ops tx s0 p i).up (tx i).1.2).kill (tx i).2.ks).put (q3k ops i) (tx i).1.1 else stT ops tx s0 p i
section comb
variable {ops : List Oper} {tx : Nat → Tx} {s0 : S}
theorem q49 {p q : Nat → Bool} {d : Nat} : ∀ k, (∀ i, i < k → q3k ops i = some d ∨ d ∈ (tx i).2.ks → p i = q i) → (stT ops tx s0 p k).get d = (stT ops tx s0 q k).get d
  | 0, _ => rfl
  | k + 1, h => by
    have ih := q49 k (fun i hi => h i (by omega))
    have key : ∀ (p : Nat → Bool), (stT ops tx s0 p (k + 1)).get d = if p k = true then (if q3k ops k = some d then (tx k).1.1 else if d ∈ (tx k).2.ks then .any else (stT ops tx s0 p k).get d) else (stT ops tx s0 p k).get d := fun p => by
      show (if p k = true then _ else _ : S).get d = _
      by_cases hp : p k = true
      · rw [if_pos hp, if_pos hp, S.put_get, S.kill_get, S.up_get]
      · rw [if_neg hp, if_neg hp]
    rw [key, key, ih]
    by_cases hd : q3k ops k = some d ∨ d ∈ (tx k).2.ks
    · rw [h k (by omega) hd]
    · rw [if_neg (fun h => hd (.inl h)), if_neg (fun h => hd (.inr h))]
      split <;> split <;> rfl
theorem q2G {p q : Nat → Bool} {x : Nat} : ∀ k, (∀ i, i < k → (∃ b, (x, b) ∈ (tx i).1.2) → p i = q i) → (stT ops tx s0 p k).blk x = (stT ops tx s0 q k).blk x
  | 0, _ => rfl
  | k + 1, h => by
    have ih := q2G k (fun i hi => h i (by omega))
    have key : ∀ (p : Nat → Bool), (stT ops tx s0 p (k + 1)).blk x = if p k = true then lk (tx k).1.2 x ((stT ops tx s0 p k).blk x) else (stT ops tx s0 p k).blk x := fun p => by
      show (if p k = true then _ else _ : S).blk x = _
      split
      · rw [S.put_blk, S.kill_blk, q4E]
      · rfl
    rw [key, key, ih]
    by_cases hd : ∃ b, (x, b) ∈ (tx k).1.2
    · rw [h k (by omega) hd]
    · rw [q0a _ x _ (fun b hb => hd ⟨b, hb⟩)]
      split <;> split <;> rfl
theorem qdG {p : Nat → Bool} {j : Nat} : ∀ k, j ≤ k → stT ops tx s0 (fun i => p i && decide (i < j)) k = stT ops tx s0 p j
  | 0, h => by
    have : j = 0 := by omega
    subst this; rfl
  | k + 1, h => by
    have heq : ∀ l, l ≤ j → stT ops tx s0 (fun i => p i && decide (i < j)) l = stT ops tx s0 p l := by
      intro l
      induction l with
      | zero => intro _; rfl
      | succ l ih =>
        intro hl
        unfold stT
        rw [ih (by omega)]
        have : decide (l < j) = true := decide_eq_true (by omega)
        simp only [this, Bool.and_true]
    by_cases hj : j = k + 1
    · subst hj; exact heq _ (Nat.le_refl _)
    · have ih := qdG (p := p) (j := j) k (by omega)
      have e1 : ∀ q : Nat → Bool, stT ops tx s0 q (k + 1) = if q k = true then (((stT ops tx s0 q k).up (tx k).1.2).kill (tx k).2.ks).put (q3k ops k) (tx k).1.1 else stT ops tx s0 q k := fun _ => rfl
      rw [e1, if_neg (by simp; omega)]
      exact ih
theorem qbl {α : Type} {Pr : α → Prop} {i : Nat} {z : α} (hz : Pr z) : ∀ {t : List (Nat × α)}, (∀ u ∈ t, u.1 = i → Pr u.2) → Pr (lk t i z)
  | [], _ => hz
  | (j, x) :: t, h => by
    unfold lk
    split
    · rename_i hj; exact h (j, x) List.mem_cons_self hj
    · exact qbl hz (fun u hu => h u (List.mem_cons_of_mem _ hu))
theorem qck {fp : Fp} (h0 : qqj fp s0 = true) (p : Nat → Bool) : ∀ k, (∀ i, i < k → p i = true → qdu ops fp i (tx i) = true) → (∀ d, d ∉ fp.ks → ((stT ops tx s0 p k).get d).fgL fp.X = (stT ops tx s0 p k).get d) ∧ ∀ x, x ∉ fp.wb → ((stT ops tx s0 p k).blk x).fgL fp.X = (stT ops tx s0 p k).blk x
  | 0, _ => by
    simp only [qqj, Bool.and_eq_true, List.all_eq_true, Bool.or_eq_true] at h0
    refine ⟨fun d hd => ?_, fun x hx => ?_⟩
    · refine qbl (Pr := fun r : R => r.fgL fp.X = r) rfl (fun u hu he => ?_)
      rcases h0.1 u hu with h | h
      · exact absurd (by simpa using h) (he ▸ hd)
      · exact quj h
    · refine qbl (Pr := fun r : B => r.fgL fp.X = r) rfl (fun u hu he => ?_)
      rcases h0.2 u hu with h | h
      · exact absurd (by simpa using h) (he ▸ hx)
      · exact qwg h
  | k + 1, h1 => by
    obtain ⟨g1, g2⟩ := qck h0 p k (fun i hi => h1 i (by omega))
    unfold stT
    split
    · rename_i hp
      have hx := h1 k (by omega) hp
      simp only [qdu, Bool.and_eq_true, List.all_eq_true, Bool.or_eq_true] at hx
      refine ⟨fun d hdk => ?_, fun x hxw => ?_⟩
      · rw [S.put_get, S.kill_get, S.up_get]
        split
        · rename_i hd
          rcases hx.1 with h | h
          · exact quj h
          · rw [hd] at h
            exact absurd (by simpa using h) hdk
        · split
          · rfl
          · exact g1 d hdk
      · rw [S.put_blk, S.kill_blk, q4E]
        refine qbl (Pr := fun r : B => r.fgL fp.X = r) (g2 x hxw) (fun u hu he => ?_)
        rcases hx.2 u hu with h | h
        · exact absurd (by simpa using h) (he ▸ hxw)
        · exact qwg h
    · exact ⟨g1, g2⟩
theorem qcH {A : List (List Nat)} {fp : Fp} {j : Nat} : ∀ {l : List Tx} {i : Nat}, qkf ops A fp j i l = true → ∀ (k : Nat) (y : Tx), l[k]? = some y → i + k = j ∨ j ∈ A.getD (i + k) [] ∨ qdu ops fp (i + k) y = true
  | [], i, _, k, y, hk => by simp at hk
  | x :: l, i, h, k, y, hk => by
    simp only [qkf, Bool.and_eq_true, Bool.or_eq_true, beq_iff_eq, List.contains_iff_mem] at h
    cases k with
    | zero =>
      simp only [List.getElem?_cons_zero, Option.some.injEq] at hk
      subst hk
      rcases h.1 with (h | h) | h
      · exact .inl h
      · exact .inr (.inl h)
      · exact .inr (.inr h)
    | succ k =>
      have := qcH h.2 k y (by simpa using hk)
      rw [show i + 1 + k = i + (k + 1) by omega] at this
      exact this
theorem qi1 {A : List (List Nat)} {l0 : List Tx} : ∀ {l : List Tx} {j : Nat}, okX ops A s0 l0 j l = true → ∀ (k : Nat) (x : Tx), l[k]? = some x → x.2.X = [] ∨ (qqj x.2 s0 = true ∧ qkf ops A x.2 (j + k) 0 l0 = true)
  | [], j, _, k, x, hk => by simp at hk
  | y :: l, j, h, k, x, hk => by
    simp only [okX, Bool.and_eq_true] at h
    cases k with
    | zero =>
      simp only [List.getElem?_cons_zero, Option.some.injEq] at hk
      subst hk
      have h1 := h.1
      split at h1
      · rename_i he; exact .inl (by simpa using he)
      · simp only [Bool.and_eq_true] at h1; exact .inr h1
    | succ k =>
      have := qi1 h.2 k x (by simpa using hk)
      rw [show j + 1 + k = j + (k + 1) by omega] at this
      exact this
theorem qdv {A : List (List Nat)} {j : Nat} {y : Tx} : ∀ {l : List Tx} {i : Nat}, qkh ops A j y i l = true → ∀ (k : Nat) (x : Tx), l[k]? = some x → i + k < j → q3d ops (i + k) j x y = true → i + k ∈ A.getD j []
  | [], i, _, k, x, hk => by simp at hk
  | z :: l, i, h, k, x, hk => by
    simp only [qkh, Bool.and_eq_true, Bool.or_eq_true, Bool.not_eq_true', List.contains_iff_mem, decide_eq_false_iff_not] at h
    cases k with
    | zero =>
      simp only [List.getElem?_cons_zero, Option.some.injEq] at hk
      subst hk
      intro h1 h2
      rcases h.1 with (h | h) | h
      · exact absurd h1 h
      · rw [Nat.add_zero] at h2; rw [h] at h2; cases h2
      · exact h
    | succ k =>
      have := qdv h.2 k x (by simpa using hk)
      rw [show i + 1 + k = i + (k + 1) by omega] at this
      exact this
theorem qez {A : List (List Nat)} {l0 : List Tx} : ∀ {l : List Tx} {j : Nat}, qm4 ops A l0 j l = true → ∀ (k : Nat) (y : Tx), l[k]? = some y → qkh ops A (j + k) y 0 l0 = true
  | [], j, _, k, y, hk => by simp at hk
  | z :: l, j, h, k, y, hk => by
    simp only [qm4, Bool.and_eq_true] at h
    cases k with
    | zero => simp only [List.getElem?_cons_zero, Option.some.injEq] at hk; subst hk; exact h.1
    | succ k =>
      have := qez h.2 k y (by simpa using hk)
      rw [show j + 1 + k = j + (k + 1) by omega] at this
      exact this
theorem qob {A : List (List Nat)} {l : List Tx} (h : okK ops A l = true) {i j : Nat} {x y : Tx} (hij : i < j) (hx : l[i]? = some x) (hy : l[j]? = some y) (hc : q3d ops i j x y = true) : i ∈ A.getD j [] := by
  unfold okK at h
  rw [Bool.or_eq_true] at h
  rcases h with h | h
  · rw [List.all_eq_true] at h
    have h1 := h x (List.mem_of_getElem? hx)
    have h2 := h y (List.mem_of_getElem? hy)
    rw [List.isEmpty_iff] at h1 h2
    unfold q3d at hc
    rw [h1, h2] at hc
    cases hc
  · have h1 := qez h j y hy
    rw [Nat.zero_add] at h1
    have h2 := qdv h1 i x hx
    rw [Nat.zero_add] at h2
    exact h2 hij hc
theorem q8Y {i d : Nat} {o : Oper} (ho : ops[i]? = some o) (h : d ∈ q0Z ops o ∨ o.dst = some d) : (qf8 ops i).contains d = true := by
  unfold qf8
  rw [ho]
  simp only [List.contains_iff_mem, List.mem_append]
  rcases h with h | h
  · exact .inl h
  · exact .inr (by rw [h]; simp)
theorem qbx {a b : Fp} (h : a.none? = true) : q1o a b = false := by
  simp only [Fp.none?, Bool.and_eq_true, List.isEmpty_iff] at h
  simp [q1o, h.1, h.2]
theorem qib {A : List (List Nat)} : ∀ {l : List Tx} {j : Nat} {prev : List (Nat × Fp)}, okP A j prev l = true →
    (∀ (k : Nat) (x : Tx), l[k]? = some x → (∀ q ∈ prev, q1o q.2 x.2 = true → q.1 ∈ A.getD (j + k) []) ∧ ∀ (i : Nat) (y : Tx), i < k → l[i]? = some y → q1o y.2 x.2 = true → j + i ∈ A.getD (j + k) [])
  | [], j, prev, _, k, x, hk => by simp at hk
  | x0 :: l, j, prev, h, k, x, hk => by
    simp only [okP, Bool.and_eq_true, List.all_eq_true] at h
    cases k with
    | zero =>
      simp only [List.getElem?_cons_zero, Option.some.injEq] at hk
      subst hk
      refine ⟨fun q hq hc => ?_, fun i y hi => by omega⟩
      have h1 := h.1 q hq
      rw [if_pos hc] at h1
      simpa using h1
    | succ k =>
      obtain ⟨g1, g2⟩ := qib h.2 k x (by simpa using hk)
      have e1 : j + 1 + k = j + (k + 1) := by omega
      rw [e1] at g1 g2
      refine ⟨fun q hq hc => ?_, fun i y hi hy hc => ?_⟩
      · refine g1 q ?_ hc
        split
        · exact hq
        · exact List.mem_cons_of_mem _ hq
      · cases i with
        | zero =>
          simp only [List.getElem?_cons_zero, Option.some.injEq] at hy
          subst hy
          by_cases hn : x0.2.none? = true
          · rw [qbx hn] at hc; cases hc
          · refine g1 (j, x0.2) ?_ hc
            rw [if_neg hn]; exact List.mem_cons_self
        | succ i =>
          have := g2 i y (by omega) (by simpa using hy) hc
          rw [show j + (i + 1) = j + 1 + i by omega]; exact this
end comb
section
variable {P : Program} {T : Ty} {po : Pol} {E : Orc} {cx : Cx}
theorem qng (hA : Ag P T) (hE : Snd P E) {ops : Array Oper} {Q : Exit → Act → World → Prop} {q : Nat} {o : Oper} {s s' : S} {ρ : Pl} {a : Act} {w : World} (hq : ops[q]? = some o) (hs : Sim cx ρ s a w) (h : xr P T po E ops.toList (ops.toList.drop q) s = some s') :
    wpOpIn (FW cx.ro) 0 P ops Q q (fun a' w' => ∃ ρ' s1, Sim cx ρ' s1 a' w' ∧ xr P T po E ops.toList (ops.toList.drop (q + 1)) s1 = some s') a w := by
  have hd : ops.toList.drop q = o :: ops.toList.drop (q + 1) := by
    have hlt : q < ops.toList.length := by have := (Array.getElem?_eq_some_iff.1 hq).1; simpa using this
    rw [List.drop_eq_getElem_cons hlt]
    congr 1
    have := (Array.getElem?_eq_some_iff.1 hq).2
    simpa using this
  rw [hd] at h
  unfold xr at h
  obtain ⟨s1, h1, h2⟩ := Option.bind_eq_some_iff.1 h
  unfold wpOpIn
  rw [hq]
  simp only
  have key : ∀ (s0 : S) (act : Bool), Sim cx ρ s0 a w → Region.wanted o (yielded ops a.tmps) = act → xst P T po E o act s0 = some s1 →
      if Region.wanted o (yielded ops a.tmps) = true then o.wpIn (FW cx.ro) 0 P a w (fun a' w' => ∃ ρ' s1, Sim cx ρ' s1 a' w' ∧ xr P T po E ops.toList (ops.toList.drop (q + 1)) s1 = some s') Q else (∀ f, o.about P w a.eval = some f → (FW cx.ro).fn f) ∧ (fun a' w' => ∃ ρ' s1, Sim cx ρ' s1 a' w' ∧ xr P T po E ops.toList (ops.toList.drop (q + 1)) s1 = some s') (a.put o.dst undef) w := by
    intro s0 act h3 h4 h5
    have := qic (next := fun a' w' => ∃ ρ' s1, Sim cx ρ' s1 a' w' ∧ xr P T po E ops.toList (ops.toList.drop (q + 1)) s1 = some s') (Q := Q) hA hE h3 h5 (fun ρ' a' w' h6 => ⟨ρ', s1, h6, h2⟩)
    rw [h4]
    split
    · rename_i ha; rw [if_pos ha] at this; exact this
    · rename_i ha; rw [if_neg ha] at this; exact ⟨q7M, this⟩
  unfold xgd at h1
  cases hi : ipX T s o with
  | some y =>
    rw [hi] at h1
    replace h1 : y = some s1 := h1
    subst h1
    obtain ⟨i1, i2⟩ := qhZ (next := fun a' w' => ∃ ρ' s1, Sim cx ρ' s1 a' w' ∧ xr P T po E ops.toList (List.drop (q + 1) ops.toList) s1 = some s') (Q := Q) hA hs hi (fun ρ' a' w' h6 => ⟨ρ', _, h6, h2⟩)
    rw [if_pos (by unfold Region.wanted; rw [i1])]
    exact i2
  | none =>
  rw [hi] at h1
  replace h1 : qaj P T po E ops.toList o s = some s1 := h1
  unfold qaj at h1
  split at h1
  · rename_i hg
    exact key s true hs (by unfold Region.wanted; rw [hg]) h1
  · rename_i j want hg
    split at h1
    · rename_i d hd
      split at h1
      · rename_i b hb
        have hgd : gd ops.toList s o.guard = some (b == want) := by unfold gd; rw [hg]; simp only [hd, hb]
        have hw := q0s hs hgd
        split at h1
        · rename_i hbt
          subst hbt
          exact key _ want (hs.lit hb) (by rw [hw]; cases want <;> rfl) h1
        · rename_i hbf
          have hbf : b = false := by cases b <;> simp at hbf ⊢
          subst hbf
          exact key _ (!want) (hs.lit hb) (by rw [hw]; cases want <;> rfl) h1
      · rename_i hb
        have hgd : gd ops.toList s o.guard = some false := by unfold gd; rw [hg]; simp only [hd, hb]
        exact key s false hs (q0s hs hgd) h1
      · cases h1
    · cases h1
theorem qfg {lim i : Nat} : ∀ {l : List Tx} {j : Nat}, qqL lim i j l = true → ∀ (k : Nat) (x : Tx), l[k]? = some x → i ≠ j + k → ∀ u ∈ x.1.2, u.1 < lim
  | [], _, _, k, x, hk => by simp at hk
  | y :: l, j, h, k, x, hk => by
    unfold qqL at h
    rw [Bool.and_eq_true] at h
    intro hne u hu
    cases k with
    | zero =>
      simp only [List.getElem?_cons_zero, Option.some.injEq] at hk
      subst hk
      have h1 := h.1
      rw [Bool.or_eq_true] at h1
      rcases h1 with h1 | h1
      · exact absurd (by simpa using h1) hne
      · have := List.all_eq_true.1 h1 u hu
        rwa [Nat.blt_eq] at this
    | succ k => exact qfg h.2 k x (by simpa using hk) (by omega) u hu
theorem qim {L : List Tx} : ∀ {l : List Tx} {j : Nat}, okN L j l = true → ∀ (k : Nat) (x : Tx), l[k]? = some x → ∀ lim, x.2.nw = [lim] → qqL lim (j + k) 0 L = true
  | [], _, _, k, x, hk => by simp at hk
  | y :: l, j, h, k, x, hk => by
    unfold okN at h
    rw [Bool.and_eq_true] at h
    intro lim hl
    cases k with
    | zero =>
      simp only [List.getElem?_cons_zero, Option.some.injEq] at hk
      subst hk
      have h1 := h.1
      rw [hl] at h1
      exact h1
    | succ k =>
      have := qim h.2 k x (by simpa using hk) lim hl
      rwa [show j + 1 + k = j + (k + 1) by omega] at this
theorem quc (hA : Ag P T) (hE : Snd P E) {id : Nat} {ops : Array Oper} {Q' : Exit → S → Prop} {s s' : S} {m : Nat} {A : List (List Nat)} (hm : P.follows .mixedOrders = true) (hchk : qlb ops.toList m A = true)
    (h : xdp P T po E ops.toList A s m ops.toList s [] = some s') (hQ : Q' .normal s') : J P cx (.region id ops true) Q' s := by
  intro ρ a w hs
  obtain ⟨Sq, tx, r0, r1, ⟨r2, r3, rk, rn⟩, r4⟩ := qe8 hA hE m 0 ops.toList s s' [] rfl h
  rw [List.nil_append] at r2 r3 rk rn
  rw [Nat.zero_add] at r4
  -- the checks
  simp only [qlb, Bool.and_eq_true, List.all_eq_true, List.mem_range, decide_eq_true_eq] at hchk
  obtain ⟨⟨⟨⟨c1, c2⟩, c3⟩, c5⟩, c6⟩ := hchk
  have hlen : ops.toList.length = ops.size := by simp
  have hget : ∀ (i : Nat) (o : Oper), ops[i]? = some o → ops.toList[i]? = some o := fun i o h => by rw [Array.getElem?_toList]; exact h
  have hget' : ∀ (i : Nat) (o : Oper), ops.toList[i]? = some o → ops[i]? = some o := fun i o h => by rw [Array.getElem?_toList] at h; exact h
  have hlt : ∀ (i : Nat) (o : Oper), ops[i]? = some o → i < ops.toList.length := fun i o h => by rw [hlen]; exact (Array.getElem?_eq_some_iff.1 h).1
  obtain ⟨An, hAn⟩ : ∃ An, An = qv7 ops.toList := ⟨_, rfl⟩
  rw [← hAn] at c1 c3 c5 c6
  have d1 : ∀ (i : Nat) (o : Oper), ops[i]? = some o → (∀ k ∈ Zs o, k < i) ∧ ∀ k ∈ An.getD i [], k ∈ Zs o ∨ ∃ d ∈ Zs o, k ∈ An.getD d [] := fun i o ho => by
    have := c1 i (hlt i o ho)
    rw [hget i o ho] at this
    simp only [Bool.and_eq_true, List.all_eq_true, decide_eq_true_eq, Bool.or_eq_true, List.contains_iff_mem, List.any_eq_true] at this
    exact this
  have hanc : ∀ E, Run ops E → ∀ (i : Nat) (o : Oper), ops[i]? = some o → (∀ k ∈ Zs o, k ∈ E) → ∀ k ∈ An.getD i [], k ∈ E := by
    intro E hr i
    induction i using Nat.strongRecOn with
    | _ i ih =>
      intro o ho hE k hk
      rcases (d1 i o ho).2 k hk with h1 | ⟨d, h1, h2⟩
      · exact hE k h1
      · have hdE := hE d h1
        have hdl := hr.lt d hdE
        exact ih d ((d1 i o ho).1 d h1) ops[d] (Array.getElem?_eq_getElem hdl) (fun k' hk' => hr.closed d hdE _ (Array.getElem?_eq_getElem hdl) k' hk') k h2
  have hancE : ∀ E, Run ops E → ∀ j ∈ E, ∀ k ∈ An.getD j [], k ∈ E := fun E hr j hj k hk => by
    have hjl := hr.lt j hj
    exact hanc E hr j ops[j] (Array.getElem?_eq_getElem hjl) (fun k' hk' => hr.closed j hj _ (Array.getElem?_eq_getElem hjl) k' hk') k hk
  have hmn : m ≤ ops.size := by rw [← hlen]; exact c2
  have hop : ∀ i, i < m → ∃ o, ops[i]? = some o := fun i hi => ⟨_, Array.getElem?_eq_getElem (by omega)⟩
  have hst : ∀ j (o : Oper), j < m → ops[j]? = some o → Stp P ops.toList o (Sq j) (Sq (j + 1)) (tx j) := fun j o hj ho => by
    obtain ⟨o', q1, q2⟩ := r1 j hj
    rw [Nat.zero_add, hget j o ho] at q1
    injection q1 with q1
    subst q1; exact q2
  have htx : ∀ i, i < m → ((List.range m).map tx)[i]? = some (tx i) := fun i hi => by simp [hi]
  -- what meets is in order
  have cB : ∀ i j, i < j → j < m → q1o (tx i).2 (tx j).2 = true → i ∈ An.getD j [] := fun i j hij hj hc => by
    have := (qib r2 j (tx j) (htx j hj)).2 i (tx i) hij (htx i (by omega)) hc
    rw [Nat.zero_add, Nat.zero_add] at this
    have h6 := c6 j hj i this
    simpa using h6
  have cS : ∀ i j, i < j → j < m → qaT ops.toList i j = true → i ∈ An.getD j [] := fun i j hij hj hc => by
    have := c3 j hj i hij
    simp only [Bool.or_eq_true, Bool.not_eq_true', List.contains_iff_mem] at this
    rcases this with h1 | h1
    · rw [hc] at h1; cases h1
    · exact h1
  have hdst : ∀ (j : Nat) (o : Oper), ops[j]? = some o → q3k ops.toList j = o.dst := fun j o ho => by unfold q3k; rw [hget j o ho]; rfl
  -- a writer and a reader of one slot; two writers of one slot
  have cS1 : ∀ (i j : Nat) (o o' : Oper) (d : Nat), i < j → j < m → ops[i]? = some o → ops[j]? = some o' → o.dst = some d → (d ∈ q0Z ops.toList o' ∨ o'.dst = some d) → i ∈ An.getD j [] := fun i j o o' d hij hj ho ho' hd hx => by
    refine cS i j hij hj ?_
    unfold qaT
    rw [hget i o ho, hget j o' ho']
    simp only [hd, Bool.or_eq_true, List.contains_iff_mem, decide_eq_true_eq]
    exact .inl hx
  have cS2 : ∀ (i j : Nat) (o o' : Oper) (d : Nat), i < j → j < m → ops[i]? = some o → ops[j]? = some o' → o'.dst = some d → d ∈ q0Z ops.toList o → i ∈ An.getD j [] := fun i j o o' d hij hj ho ho' hd hx => by
    refine cS i j hij hj ?_
    unfold qaT
    rw [hget i o ho, hget j o' ho']
    simp only [hd, Bool.or_eq_true, List.contains_iff_mem]
    exact .inr hx
  -- far
  have hAnlt : ∀ (i : Nat) (o : Oper), ops[i]? = some o → ∀ k ∈ An.getD i [], k < i := by
    intro i
    induction i using Nat.strongRecOn with
    | _ i ih =>
      intro o ho k hk
      rcases (d1 i o ho).2 k hk with h1 | ⟨d, h1, h2⟩
      · exact (d1 i o ho).1 k h1
      · have hd := (d1 i o ho).1 d h1
        have hdl : d < ops.size := by have := hlt i o ho; rw [hlen] at this; omega
        have := ih d hd ops[d] (Array.getElem?_eq_getElem hdl) k h2
        omega
  have cK : ∀ i j, i < j → j < m → q3d ops.toList i j (tx i) (tx j) = true → i ∈ An.getD j [] := fun i j hij hj hc => by
    have := qob rk hij (htx i (by omega)) (htx j hj) hc
    have h6 := c6 j hj i this
    simpa using h6
  have cK1 : ∀ (i j : Nat) (o' : Oper) (d : Nat), i < j → j < m → ops[j]? = some o' → d ∈ (tx i).2.ks → (d ∈ q0Z ops.toList o' ∨ o'.dst = some d) → i ∈ An.getD j [] := fun i j o' d hij hj ho' hd hx => by
    refine cK i j hij hj ?_
    simp only [q3d, Bool.or_eq_true, List.any_eq_true]
    exact .inl ⟨d, hd, .inl (q8Y (hget j o' ho') hx)⟩
  have cK2 : ∀ (i j : Nat) (o : Oper) (d : Nat), i < j → j < m → ops[i]? = some o → d ∈ (tx j).2.ks → (d ∈ q0Z ops.toList o ∨ o.dst = some d) → i ∈ An.getD j [] := fun i j o d hij hj ho hd hx => by
    refine cK i j hij hj ?_
    simp only [q3d, Bool.or_eq_true, List.any_eq_true]
    exact .inr ⟨d, hd, q8Y (hget i o ho) hx⟩
  have cK3 : ∀ (i j : Nat) (d : Nat), i < j → j < m → d ∈ (tx i).2.ks → d ∈ (tx j).2.ks → i ∈ An.getD j [] := fun i j d hij hj hd hd' => by
    refine cK i j hij hj ?_
    simp only [q3d, Bool.or_eq_true, List.any_eq_true, List.contains_iff_mem]
    exact .inl ⟨d, hd, .inr hd'⟩
  have hfar : ∀ c, c < m → ∀ (p : Nat → Bool) (k : Nat), k ≤ m → (∀ i, i < k → p i = true → i ≠ c ∧ c ∉ An.getD i []) → qfw (tx c).2 (stT ops.toList tx s p k) := fun c hc p k hk hp => by
    rcases qi1 r3 c (tx c) (htx c hc) with h1 | ⟨h1, h2⟩
    · exact .inl h1
    · refine .inr (qck h1 p k (fun i hi hpi => ?_))
      obtain ⟨p1, p2⟩ := hp i hi hpi
      have h3 := qcH h2 i (tx i) (htx i (by omega))
      rw [Nat.zero_add, Nat.zero_add] at h3
      rcases h3 with h3 | h3 | h3
      · exact absurd h3 p1
      · exact absurd (by simpa using c6 i (by omega) c h3) p2
      · exact h3
  have farext : ∀ {fp : Fp} {t t' : S}, (∀ d, t'.get d = t.get d) → (∀ x, t'.blk x = t.blk x) → qfw fp t → qfw fp t' := fun h1 h2 h => by
    rcases h with h | h
    · exact .inl h
    · exact .inr ⟨fun d hd => by rw [h1]; exact h.1 d hd, fun x hx => by rw [h2]; exact h.2 x hx⟩
  -- the text's states
  obtain ⟨tp, htp⟩ : ∃ tp : Nat → Bool, tp = fun _ => true := ⟨_, rfl⟩
  have htext : ∀ j, j ≤ m → (∀ d, (Sq j).get d = (stT ops.toList tx s tp j).get d) ∧ (∀ x, (Sq j).blk x = (stT ops.toList tx s tp j).blk x) ∧ (Sq j).n = s.n ∧ Nb (Sq j) := by
    intro j
    induction j with
    | zero => intro _; rw [r0]; exact ⟨fun _ => rfl, fun _ => rfl, rfl, hs.nx⟩
    | succ j ih =>
      intro hj
      obtain ⟨i1, i2, i3, i4⟩ := ih (by omega)
      obtain ⟨o, ho⟩ := hop j (by omega)
      have hstp := hst j o (by omega) ho
      obtain ⟨e1, e2⟩ := hstp.eff (farext i1 i2 (hfar j (by omega) tp j (by omega) (fun i hi _ => ⟨by omega, fun hj' => by
        obtain ⟨oi, hoi⟩ := hop i (by omega)
        have := hAnlt i oi hoi j hj'
        omega⟩)))
      have hs1 : stT ops.toList tx s tp (j + 1) = (((stT ops.toList tx s tp j).up (tx j).1.2).kill (tx j).2.ks).put (q3k ops.toList j) (tx j).1.1 := by
        show (if tp j = true then _ else _) = _
        rw [htp, if_pos rfl]
      refine ⟨fun d => ?_, fun x => ?_, hstp.n.trans i3, hstp.nb i4⟩
      · rw [e1, hs1, S.put_get, S.kill_get, S.up_get, hdst j o ho, i1]
      · rw [e2, hs1, S.put_blk, S.kill_blk, q4E, i2]
  -- the state behind some operations
  let pE : List Nat → Nat → Bool := fun E i => decide (i ∈ E)
  have hcut : ∀ j, j ≤ m → stT ops.toList tx s (fun i => tp i && decide (i < j)) m = stT ops.toList tx s tp j := fun j hj => qdG m hj
  have htpd : ∀ i j, (tp i && decide (i < j)) = decide (i < j) := fun i j => by rw [htp]; simp
  have hkeywb : ∀ i, i < m → ∀ x, (∃ b, (x, b) ∈ (tx i).1.2) → x ∈ (tx i).2.wb := fun i hi x ⟨b, hb⟩ => by
    obtain ⟨o, ho⟩ := hop i hi
    exact (hst i o hi ho).us _ hb
  have htp1 : ∀ j, stT ops.toList tx s tp (j + 1) = (((stT ops.toList tx s tp j).up (tx j).1.2).kill (tx j).2.ks).put (q3k ops.toList j) (tx j).1.1 := fun j => by
    show (if tp j = true then _ else _) = _
    rw [htp, if_pos rfl]
  -- all of the prefix done: the text's state
  have hfull : ∀ L ρ t a w, (∀ i, i ∈ L ↔ i < m) → (∀ d, t.get d = (stT ops.toList tx s (pE L) m).get d) → (∀ x, t.blk x = (stT ops.toList tx s (pE L) m).blk x) → t.n = s.n → Sim cx ρ t a w → Sim cx ρ (Sq m) a w := by
    intro L ρ t a w hL h1 h2 h3 hsim
    obtain ⟨i1, i2, i3, i4⟩ := htext m (Nat.le_refl _)
    have e : ∀ i, i < m → pE L i = (tp i && decide (i < m)) := fun i hi => by rw [htpd]; simp [pE, hL]
    refine hsim.ext (fun d => ?_) (fun x => ?_) (i3.trans h3.symm) i4
    · rw [i1, h1, q49 m (fun i hi _ => e i hi), hcut m (Nat.le_refl _)]
    · rw [i2, h2, q2G m (fun i hi _ => e i hi), hcut m (Nat.le_refl _)]
  refine qbS hm (fun i o ho k hk => (d1 i o ho).1 k hk)
    (fun L a w => ∃ ρ t, Sim cx ρ t a w ∧ (((∀ i ∈ L, i < m) ∧ (∀ d, t.get d = (stT ops.toList tx s (pE L) m).get d) ∧ (∀ x, t.blk x = (stT ops.toList tx s (pE L) m).blk x) ∧ t.n = s.n) ∨ ∃ q, m ≤ q ∧ (∀ i, i ∈ L ↔ i < q) ∧ xr P T po E ops.toList (ops.toList.drop q) t = some s')) ?_ ?_ ⟨ρ, s, hs.drew, .inl ⟨fun i h => by simp at h, fun d => ?_, fun x => ?_, rfl⟩⟩
  rotate_left 2
  · have : (stT ops.toList tx s (pE []) m).get d = (stT ops.toList tx s (fun i => tp i && decide (i < 0)) m).get d := q49 m (fun i _ _ => by simp [pE])
    rw [this, hcut 0 (Nat.zero_le _)]; rfl
  · have : (stT ops.toList tx s (pE []) m).blk x = (stT ops.toList tx s (fun i => tp i && decide (i < 0)) m).blk x := q2G m (fun i _ _ => by simp [pE])
    rw [this, hcut 0 (Nat.zero_le _)]; rfl
  · rintro L a w i o hr ⟨ρ, t, hsim, hcase⟩ hiL ho hdeps
    have hsuf : ∀ q t, m ≤ q → (∀ j, j ∈ L ↔ j < q) → Sim cx ρ t a w → xr P T po E ops.toList (ops.toList.drop q) t = some s' → i = q →
        wpOpIn (FW cx.ro) 0 P ops (fun e a' w' => ∃ s' ρ', Q' e s' ∧ Sim cx ρ' s' a' w') i (fun a' w' => ∃ ρ t, Sim cx ρ t a' w' ∧ (((∀ k ∈ i :: L, k < m) ∧ (∀ d, t.get d = (stT ops.toList tx s (pE (i :: L)) m).get d) ∧ (∀ x, t.blk x = (stT ops.toList tx s (pE (i :: L)) m).blk x) ∧ t.n = s.n) ∨ ∃ q, m ≤ q ∧ (∀ k, k ∈ i :: L ↔ k < q) ∧ xr P T po E ops.toList (ops.toList.drop q) t = some s')) a w := by
      intro q t hq hL hs' hv hiq
      subst hiq
      refine wpOpIn_mono (fun a' w' ⟨ρ', s'', g1, g2⟩ => ?_) (qng hA hE ho hs' hv)
      exact ⟨ρ', s'', g1, .inr ⟨i + 1, by omega, fun k => by rw [List.mem_cons, hL]; omega, g2⟩⟩
    have hin : i < ops.size := (Array.getElem?_eq_some_iff.1 ho).1
    have h5 : m ≤ i → ∀ j, j < i → j ∈ L := fun hmi j hj => by
      have := c5 i (by rw [hlen]; exact hin)
      simp only [Bool.or_eq_true, decide_eq_true_eq, List.all_eq_true, List.mem_range, List.contains_iff_mem] at this
      rcases this with h | h
      · omega
      · exact hanc L hr i o ho hdeps j (h j hj)
    rcases hcase with ⟨hLm, t1, t2, t3⟩ | ⟨q, hq, hL, hv⟩
    · by_cases him : i < m
      · have hstp := hst i o him ho
        obtain ⟨q1, q2, q3, q4⟩ := htext i (by omega)
        -- before and behind
        have hbefore : ∀ k, i ∈ An.getD k [] → k ∈ L → False := fun k hk hkL => hiL (hancE L hr k hkL i hk)
        have hafter : ∀ k, k ∈ An.getD i [] → k ∈ L := fun k hk => hanc L hr i o ho hdeps k hk
        have hslot : ∀ d ∈ q0Z ops.toList o, t.get d = (Sq i).get d := fun d hd => by
          rw [t1, q1, ← hcut i (by omega)]
          refine q49 m (fun k hk hkd => ?_)
          rw [htpd]
          obtain ⟨ok, hok⟩ := hop k hk
          rw [hdst k ok hok] at hkd
          rcases Nat.lt_trichotomy k i with h | h | h
          · rw [decide_eq_true h]
            refine decide_eq_true (hafter k ?_)
            rcases hkd with hkd | hkd
            · exact cS1 k i ok o d h him hok ho hkd (.inl hd)
            · exact cK1 k i o d h him ho hkd (.inl hd)
          · subst h; simp [pE, hiL]
          · rw [decide_eq_false (by omega)]
            refine decide_eq_false fun hkL => hbefore k ?_ hkL
            rcases hkd with hkd | hkd
            · exact cS2 i k o ok d h hk ho hok hkd hd
            · exact cK2 i k o d h hk ho hkd (.inl hd)
        have hblk : ∀ x, x ∈ (tx i).2.rb ∨ x ∈ (tx i).2.wb → t.blk x = (Sq i).blk x := fun x hx => by
          rw [t2, q2, ← hcut i (by omega)]
          refine q2G m (fun k hk hkx => ?_)
          rw [htpd]
          have hkw := hkeywb k hk x hkx
          rcases Nat.lt_trichotomy k i with h | h | h
          · rw [decide_eq_true h]
            refine decide_eq_true (hafter k (cB k i h him ?_))
            simp only [q1o, Bool.or_eq_true, List.any_eq_true, List.contains_iff_mem]
            exact .inl ⟨x, hkw, hx⟩
          · subst h; simp [pE, hiL]
          · rw [decide_eq_false (by omega)]
            refine decide_eq_false fun hkL => hbefore k (cB i k h hk ?_) hkL
            simp only [q1o, Bool.or_eq_true, List.any_eq_true, List.contains_iff_mem]
            rcases hx with hx | hx
            · exact .inr ⟨x, hx, hkw⟩
            · exact .inl ⟨x, hx, .inr hkw⟩
        have hev : ∀ y ∈ o.op.operands.toList, t.ev y = (Sq i).ev y := fun y hy => qpS (fun x hx => hslot x (by
          unfold q0Z qcW
          exact List.mem_append_left _ (List.mem_flatMap.2 ⟨y, hy, hx⟩)))
        have hgd : gd ops.toList t o.guard = gd ops.toList (Sq i) o.guard := by
          unfold gd
          cases hgu : o.guard with
          | none => rfl
          | some jw =>
            obtain ⟨j, want⟩ := jw
            simp only
            cases hd : (ops.toList[j]?).bind (·.dst) with
            | none => rfl
            | some d =>
              simp only
              rw [hslot d (by unfold q0Z; rw [hgu]; exact List.mem_append_right _ (by show d ∈ (q3k ops.toList j).toList; unfold q3k; rw [hd]; simp))]
        have hnew : ∀ k ∈ i :: L, k < m := fun k hk => by
          rcases List.mem_cons.1 hk with rfl | hk
          · exact him
          · exact hLm k hk
        have hdok : ∀ d, o.dst = some d → d < t.n := fun d hd => by rw [t3, ← q3]; exact hstp.dst d hd
        -- the state behind it
        have fin : ∀ (ρ' : Pl) (t' : S) (a' : Act) (w' : World), (∀ d, t'.get d = if o.dst = some d then (tx i).1.1 else if d ∈ (tx i).2.ks then .any else t.get d) → (∀ x, t'.blk x = lk (tx i).1.2 x (t.blk x)) → t'.n = t.n → Sim cx ρ' t' a' w' →
            ∃ ρ t, Sim cx ρ t a' w' ∧ (((∀ k ∈ i :: L, k < m) ∧ (∀ d, t.get d = (stT ops.toList tx s (pE (i :: L)) m).get d) ∧ (∀ x, t.blk x = (stT ops.toList tx s (pE (i :: L)) m).blk x) ∧ t.n = s.n) ∨ ∃ q, m ≤ q ∧ (∀ k, k ∈ i :: L ↔ k < q) ∧ xr P T po E ops.toList (ops.toList.drop q) t = some s') := by
          intro ρ' t' a' w' g1 g2 g3 g4
          refine ⟨ρ', t', g4, .inl ⟨hnew, fun d => ?_, fun x => ?_, g3.trans t3⟩⟩
          · rw [g1]
            have eq1 : o.dst = some d ∨ d ∈ (tx i).2.ks → (stT ops.toList tx s (pE (i :: L)) m).get d = (stT ops.toList tx s (fun k => tp k && decide (k < i + 1)) m).get d := fun hdi => q49 m (fun k hk hkd => by
              rw [htpd]
              obtain ⟨ok, hok⟩ := hop k hk
              rw [hdst k ok hok] at hkd
              rcases Nat.lt_trichotomy k i with h | h | h
              · rw [decide_eq_true (show k < i + 1 by omega)]
                refine decide_eq_true (List.mem_cons_of_mem _ (hafter k ?_))
                rcases hdi with hd | hd
                · rcases hkd with hkd | hkd
                  · exact cS1 k i ok o d h him hok ho hkd (.inr hd)
                  · exact cK1 k i o d h him ho hkd (.inr hd)
                · rcases hkd with hkd | hkd
                  · exact cK2 k i ok d h him hok hd (.inr hkd)
                  · exact cK3 k i d h him hkd hd
              · subst h; simp [pE]
              · rw [decide_eq_false (by omega)]
                refine decide_eq_false fun hkL => ?_
                rcases List.mem_cons.1 hkL with h' | h'
                · omega
                · refine hbefore k ?_ h'
                  rcases hdi with hd | hd
                  · rcases hkd with hkd | hkd
                    · exact cS1 i k o ok d h hk ho hok hd (.inr hkd)
                    · exact cK2 i k o d h hk ho hkd (.inr hd)
                  · rcases hkd with hkd | hkd
                    · exact cK1 i k ok d h hk hok hd (.inr hkd)
                    · exact cK3 i k d h hk hd hkd)
            by_cases hd : o.dst = some d
            · rw [if_pos hd, eq1 (.inl hd), hcut (i + 1) (by omega), htp1, S.put_get, hdst i o ho, if_pos hd]
            · rw [if_neg hd]
              by_cases hdk : d ∈ (tx i).2.ks
              · rw [if_pos hdk, eq1 (.inr hdk), hcut (i + 1) (by omega), htp1, S.put_get, hdst i o ho, if_neg hd, S.kill_get, if_pos hdk]
              · rw [if_neg hdk, t1]
                refine q49 m (fun k hk hkd => ?_)
                have hki : k ≠ i := fun e => by
                  subst e
                  rcases hkd with hkd | hkd
                  · exact hd (by rw [← hdst k o ho]; exact hkd)
                  · exact hdk hkd
                simp [pE, hki]
          · rw [g2]
            by_cases hx : ∃ b, (x, b) ∈ (tx i).1.2
            · have hiw := hkeywb i him x hx
              have e1 : (stT ops.toList tx s (pE (i :: L)) m).blk x = (stT ops.toList tx s (fun k => tp k && decide (k < i + 1)) m).blk x := q2G m (fun k hk hkx => by
                rw [htpd]
                have hkw := hkeywb k hk x hkx
                rcases Nat.lt_trichotomy k i with h | h | h
                · rw [decide_eq_true (show k < i + 1 by omega)]
                  refine decide_eq_true (List.mem_cons_of_mem _ (hafter k (cB k i h him ?_)))
                  simp only [q1o, Bool.or_eq_true, List.any_eq_true, List.contains_iff_mem]
                  exact .inl ⟨x, hkw, .inr hiw⟩
                · subst h; simp [pE]
                · rw [decide_eq_false (by omega)]
                  refine decide_eq_false fun hkL => ?_
                  rcases List.mem_cons.1 hkL with h' | h'
                  · omega
                  · refine hbefore k (cB i k h hk ?_) h'
                    simp only [q1o, Bool.or_eq_true, List.any_eq_true, List.contains_iff_mem]
                    exact .inl ⟨x, hiw, .inr hkw⟩)
              rw [e1, hcut (i + 1) (by omega), htp1, S.put_blk, S.kill_blk, q4E]
              exact q8H _ x _ _ hx
            · rw [q0a _ x _ (fun b hb => hx ⟨b, hb⟩), t2]
              refine q2G m (fun k hk hkx => ?_)
              have hki : k ≠ i := fun e => hx (e ▸ hkx)
              simp [pE, hki]
        obtain ⟨b, hb, hf, ht⟩ := hstp.run
        unfold wpOpIn
        rw [ho]
        simp only
        cases b with
        | false =>
          rw [if_neg (by rw [q0s hsim (hgd.trans hb)]; simp)]
          have hx := hf rfl
          refine ⟨q7M, fin ρ (t.put o.dst (.tup [])) _ _ (fun d => ?_) (fun x => ?_) (S.put_n _ _ _) (hsim.put hdok RR.un)⟩
          · rw [S.put_get, hx]; simp
          · rw [S.put_blk, hx]; rfl
        | true =>
          rw [if_pos (q0s hsim (hgd.trans hb))]
          have hloc := ht rfl q4
          have hnew : (tx i).2.nw ≠ [] → ∀ x, t.live x → x < (Sq i).nx := fun hne x hx => by
            have hnw := hstp.nwp.resolve_left hne
            have hN := qim rn i (tx i) (htx i him) _ hnw
            rw [Nat.zero_add] at hN
            by_cases hkx : ∃ k, k < m ∧ k ≠ i ∧ ∃ b, (x, b) ∈ (tx k).1.2
            · obtain ⟨k, hk, hki, b, hb⟩ := hkx
              exact qfg hN k (tx k) (htx k hk) (by omega) _ hb
            · have e : t.blk x = (Sq i).blk x := by
                rw [t2, q2, ← hcut i (by omega)]
                refine q2G m (fun k hk hb => ?_)
                rw [htpd]
                have hki : k = i := by
                  by_cases h : k = i
                  · exact h
                  · exact absurd ⟨k, hk, h, hb⟩ hkx
                subst hki; simp [pE, hiL]
              refine q4 x ?_
              unfold S.live at hx ⊢
              rw [← e]; exact hx
          refine (hloc cx ρ t a w _ _ hev hblk (farext t1 t2 (hfar i him (pE L) m (Nat.le_refl _) (fun k hk hkL => ?_))) hnew hsim ?_)
          · have hkL : k ∈ L := of_decide_eq_true hkL
            exact ⟨fun e => hiL (e ▸ hkL), fun h => hbefore k h hkL⟩
          intro ρ' t' v w' g1 g2 g3 g4 g5
          refine fin ρ' ((t'.kill (tx i).2.ks).put o.dst (tx i).1.1) _ _ (fun d => ?_) (fun x => ?_) (by rw [S.put_n]; exact g3) ((g4.kill _).put (fun d hd => by show d < t'.n; rw [g3]; exact hdok d hd) g5)
          · rw [S.put_get, S.kill_get]
            by_cases hdk : d ∈ (tx i).2.ks
            · simp only [if_pos hdk]
            · simp only [if_neg hdk, g1 d hdk]
          · rw [S.put_blk, S.kill_blk, g2]
      · have hi : i = m := by
          rcases Nat.lt_or_ge m i with h | h
          · have := hLm m (h5 (by omega) m h); omega
          · omega
        have hL : ∀ j, j ∈ L ↔ j < m := fun j => ⟨fun hj => hLm j hj, fun hj => h5 (by omega) j (by omega)⟩
        exact hsuf m _ (Nat.le_refl _) hL (hfull L ρ t a w hL t1 t2 t3 hsim) r4 hi
    · have hiq : i = q := by
        have h1 : ¬ i < q := fun h => hiL ((hL i).2 h)
        have h2 : ∀ j, j < i → j < q := fun j hj => (hL j).1 (h5 (by omega) j hj)
        rcases Nat.lt_or_ge q i with h | h
        · have := h2 q h; omega
        · omega
      exact hsuf q t hq hL hsim hv hiq
  · rintro L a w hr ⟨ρ, t, hsim, hcase⟩ hall
    rcases hcase with ⟨hLm, t1, t2, t3⟩ | ⟨q, hq, hL, hv⟩
    · have hmn' : ops.size ≤ m := by
        rcases Nat.lt_or_ge m ops.size with h | h
        · have := hLm m (hall m h); omega
        · exact h
      have hL : ∀ j, j ∈ L ↔ j < m := fun j => ⟨fun hj => hLm j hj, fun hj => hall j (by omega)⟩
      have hd : ops.toList.drop m = [] := List.drop_eq_nil_of_le (by rw [hlen]; exact hmn')
      rw [hd] at r4
      injection r4 with r4
      exact ⟨_, ρ, hQ, r4 ▸ hfull L ρ t a w hL t1 t2 t3 hsim⟩
    · have hqn : ops.size ≤ q := by
        rcases Nat.lt_or_ge q ops.size with h | h
        · have := (hL q).1 (hall q h); omega
        · exact h
      have hd : ops.toList.drop q = [] := List.drop_eq_nil_of_le (by rw [hlen]; exact hqn)
      rw [hd] at hv
      injection hv with hv
      exact ⟨_, ρ, hQ, hv ▸ hsim⟩
theorem qfl : ∀ {r : R}, r.isA = true → r = .any
  | .any, _ => rfl
theorem qcK : ∀ {l : List (Nat × R)}, qq5 l = true → ∀ i, lk l i .any = .any
  | [], _, i => rfl
  | x :: l, h, i => by
    unfold qq5 at h
    split at h
    · rename_i hx
      show (if x.1 = i then x.2 else lk l i .any) = _
      rw [qcK h i, qfl hx]
      split <;> rfl
    · cases h
theorem qbd : ∀ (l : List (Nat × R)) (i : Nat), lk (q2m l) i .any = lk l i .any
  | [], i => rfl
  | x :: l, i => by
    unfold q2m
    have ih := qbd l i
    have e : lk (x :: q2m l) i .any = lk (x :: l) i .any := by
      show (if x.1 = i then x.2 else lk (q2m l) i .any) = (if x.1 = i then x.2 else lk l i .any)
      rw [ih]
    split
    · rename_i hx
      split
      · rename_i hl
        show R.any = (if x.1 = i then x.2 else lk l i .any)
        rw [qcK hl i, qfl hx]
        split <;> rfl
      · exact e
    · exact e
theorem Sim.strip {cx : Cx} {ρ : Pl} {s : S} {a : Act} {w : World} (h : Sim cx ρ s a w) : Sim cx ρ s.strip a w :=
  ⟨h.hd, h.size, fun i => by
    show RR w s.live ρ _ (lk (q2m s.tm) i .any)
    rw [qbd]
    exact h.tm i, h.hp, h.hp0, h.out, h.inj, h.nx, h.kept, h.oldF, h.pin, h.sameF, h.sep⟩
theorem quv (hA : Ag P T) (hm : P.follows .mixedOrders = true) : DOk P po (D1 P T po) := fun _ _ _ hE _ _ _ _ _ _ _ hq h hQ ρ a w hs => quc hA hE hm hq h hQ ρ a w hs.strip
end
section
variable {P : Program} {T : Ty} {po : Pol}
theorem q58 {E E' : Orc} (hE : OLe E E') {o : Oper} {act : Bool} {s : S} {x : S × Tx} (h : xsF P T po E o act s = some x) : xsF P T po E' o act s = some x := by
  unfold xsF at h ⊢
  by_cases hc : act = true
  · rw [if_pos hc] at h ⊢
    cases hal : alC po s o.op with
    | some gr => rw [hal] at h; exact zj (fun _ h => zj (fun _ h => hE _ _ _ _ _ h) (fun _ _ h => h) h) (fun _ _ h => h) h
    | none => rw [hal] at h; exact zj (fun _ h => qeA hE h) (fun _ _ h => h) h
  · rw [if_neg hc] at h ⊢; exact h
theorem qho {E E' : Orc} (hE : OLe E E') {ops : List Oper} {o : Oper} {s : S} {x : S × Tx} (h : xgF P T po E ops o s = some x) : xgF P T po E' ops o s = some x := by
  unfold xgF at h ⊢
  split at h
  · exact q58 hE h
  · split at h
    · split at h
      · split at h
        · rename_i hb; rw [if_pos hb]; exact q58 hE h
        · rename_i hb; rw [if_neg hb]; exact q58 hE h
      · exact q58 hE h
      · cases h
    · cases h
theorem qav {E E' : Orc} (hE : OLe E E') {ops : List Oper} {A : List (List Nat)} {s0 : S} : ∀ (m : Nat) (l : List Oper) (s s' : S) (acc : List Tx), xdp P T po E ops A s0 m l s acc = some s' → xdp P T po E' ops A s0 m l s acc = some s'
  | 0, l, s, s', acc, h => by
    unfold xdp at h ⊢
    split at h
    · rename_i hc; rw [if_pos hc]; exact q9a hE l h
    · cases h
  | _ + 1, [], _, _, _, h => by cases h
  | m + 1, o :: l, s, s', acc, h => zj (fun _ h => qho hE h) (fun _ _ h => qav hE m l _ _ _ h) h
theorem q3y : q7i (D1 P T po) := fun _ _ hE _ _ _ _ _ _ h => qav hE _ _ _ _ _ h
section
variable {D : DRs} (hM : q7i D)
include hM
theorem q50 {o : Oper} {act : Bool} {s : S} : ∀ x, xsF P T po (EE P T po D) o act s = some x → ∃ n, ∀ m, n ≤ m → xsF P T po (xf P T po D m) o act s = some x := fun x h => by
  unfold xsF at h ⊢
  by_cases hc : act = true
  · simp only [if_pos hc] at h ⊢
    cases hal : alC po s o.op with
    | some gr => rw [hal] at h; exact zt (fun a h => zt (q9K hM) (fun _ => zJ) h) (fun _ => zJ) h
    | none => rw [hal] at h; exact zt (qff hM) (fun _ => zJ) h
  · simp only [if_neg hc] at h ⊢; exact ⟨0, fun _ _ => h⟩
theorem qgD {ops : List Oper} {o : Oper} {s : S} : ∀ x, xgF P T po (EE P T po D) ops o s = some x → ∃ n, ∀ m, n ≤ m → xgF P T po (xf P T po D m) ops o s = some x := fun x h => by
  unfold xgF at h ⊢
  split at h
  · exact q50 hM _ h
  · split at h
    · split at h
      · split at h
        · rename_i hb; simp only [if_pos hb]; exact q50 hM _ h
        · rename_i hb; simp only [if_neg hb]; exact q50 hM _ h
      · exact q50 hM _ h
      · cases h
    · cases h
theorem qbj {ops : List Oper} {A : List (List Nat)} {s0 : S} : ∀ (k : Nat) (l : List Oper) (s : S) (acc : List Tx) (x : S), xdp P T po (EE P T po D) ops A s0 k l s acc = some x → ∃ n, ∀ m, n ≤ m → xdp P T po (xf P T po D m) ops A s0 k l s acc = some x
  | 0, l, s, acc, x, h => by
    unfold xdp at h ⊢
    split at h
    · rename_i hc; simp only [if_pos hc]; exact q9y hM l s x h
    · cases h
  | _ + 1, [], _, _, _, h => by cases h
  | k + 1, o :: l, s, acc, x, h => zt (qgD hM) (fun q b h => qbj k l q.1 _ b h) h
end
theorem q9u : qpY P T po (D1 P T po) := fun f k id ops s s' h => by
  obtain ⟨n, hn⟩ := qbj q3y _ _ _ _ _ h
  exact ⟨n, hn n (Nat.le_refl n)⟩
end
def qL (k : Nat) : Code → Option Code
  | .loop c => if qZ c = k then some c else qL k c
  | .seq a b => (qL k a).or (qL k b)
  | .cond _ a b => (qL k a).or (qL k b)
  | .block _ c => qL k c
  | .rangeFunc _ _ a b => (qL k a).or (qL k b)
  | _ => none
def JX (k : Nat) : Code → Option (Code × Code)
  | .rangeFunc _ _ a b => if qZ b = k then some (a, b) else none
  | .loop c => JX k c
  | .seq a b => (JX k a).or (JX k b)
  | .cond _ a b => (JX k a).or (JX k b)
  | .block _ c => JX k c
  | _ => none
end Go.Proofs.YtplfjlcnffcenaaGreat.Vc
namespace Go.Proofs.YtplfjlcnffcenaaGreat.Vc
open Go.RowKit
set_option linter.unusedSimpArgs false
def qft : Operand := .const (.slice none 0 0)
def q83 (t bt : TypeId) : Code :=
  (Code.region 0 #[{ dst := some 2, op := .assign qft, type := t, pos := "slices.go:355", after := #[], guard := none }] false).seq
    (((Code.region 1 #[{ dst := some 3, op := .move (.tmp 0), type := t, pos := "slices.go:357", after := #[], guard := none },
        { dst := some 4, op := .binOp .eql t (.tmp 3) qft t, type := bt, pos := "slices.go:357", after := #[{ on := 0, ground := .data }], guard := none }] false).seq
      (Code.cond (.tmp 4) ((Code.region 2 #[{ dst := some 2, op := .assign qft, type := t, pos := "slices.go:358", after := #[], guard := none }] false).seq Code.ret) Code.skip)).seq
      ((Code.region 3 #[{ dst := some 5, op := .buildSlice t 0 #[], type := t, pos := "slices.go:362", after := #[], guard := none },
          { dst := some 6, op := .move (.tmp 0), type := t, pos := "slices.go:362", after := #[], guard := none },
          { dst := some 7, op := .call { callee := .builtin .append, args := #[.tmp 5, .tmp 6], argTypes := #[t, t] }, type := t, pos := "slices.go:362", after := #[{ on := 0, ground := .data }, { on := 1, ground := .data }], guard := none },
          { dst := some 2, op := .assign (.tmp 7), type := t, pos := "slices.go:362", after := #[{ on := 2, ground := .data }, { on := 2, ground := .chain }, { on := 0, ground := .phase }, { on := 1, ground := .phase }, { on := 2, ground := .phase }], guard := none }] false).seq
        Code.ret))
section
variable {P : Program} {T : Ty} {cx : Cx} {ρ : Pl} {s : S} {a : Act} {w : World}
def po1 (z : Nat) (ro : Bool := false) : Pol := { q := fun _ => [z], ow := fun _ => [], fz := fun _ => false, kp := fun _ _ => [], kx := fun _ _ => [], rw := fun _ _ => [], ro := fun _ => ro, dm := fun _ _ => 0, an := fun _ _ => [], rk := fun _ _ => [], pr := fun _ => none }
def E0 : Orc := fun _ _ _ _ => none
theorem qnk : Snd P E0 := ⟨fun _ _ _ _ _ _ h => (by cases h), fun _ _ _ _ _ _ _ _ h => (by cases h)⟩
theorem qtf {q : Nat → List Oper → Bool} {k : Nat} : qst P q k (fun _ _ _ => none) := fun _ _ _ _ _ _ _ _ h => by cases h
def XD0 (P : Program) (T : Ty) (z : Nat) (c : Code) (s : S) : XS := XD P T (po1 z) E0 (fun _ _ _ => none) (iter 0) 0 0 c s
theorem q6K (hA : Ag P T) {z : Nat} {c : Code} {s s' : S} {e : Exit} {Q : Exit → S → Prop} (hq : q6h (fun _ _ => false) false c = true) (hk : cx.k = 0) (h : XD0 P T z c s = some (e, s')) (hQ : Q e s') : J P cx c Q s :=
  qgj (n := 0) hA qnk qtf c s s' e cx Q hq hk (fun h => by cases h) h hQ
theorem J.nilTest (hA : Ag P T) {id : Nat} {m o : Oper} {x d : Nat} {t t' e : TypeId} {sz n : Nat} {ds : List D} {Q : Exit → S → Prop} (hm : m.op = .move (.tmp x)) (hmg : m.guard = none) (hmd : m.dst = some d) (ho : o.op = .binOp .eql t (.tmp d) qft t') (hog : o.guard = none)
    (hk : T.k t = .sl e) (hx : s.get x = .c (.d (.sl sz n ds))) (hd : d < s.n) (hod : ∀ d', o.dst = some d' → d' < s.n)
    (hQ : ∀ b : Bool, (b = true → n = 0 ∧ ds = []) → Q .normal ((s.put (some d) (.c (.d (.sl sz n ds)))).put o.dst (.c (.d (.bool b))))) : J P cx (.region id #[m, o] false) Q s := by
  intro ρ a w hs
  refine wpIn_region_list ?_
  show wpListIn (FW cx.ro) 0 P #[m, o] _ [m, o] a w
  unfold wpListIn
  rw [if_pos (by unfold Region.wanted; rw [hmg])]
  have h1 : ox P T s s.nx m.op (fun r s' => r = s.get x ∧ s' = s) := by rw [hm]; exact ⟨rfl, rfl⟩
  refine q6f hA (fun h => by have := hs.nx _ h; omega) hs h1 ?_
  rintro r s2 ρ1 v w1 ⟨rfl, rfl⟩ hs1 hv
  have hs2 := hs1.put (dst := m.dst) (fun d' hd' => by rw [hmd] at hd'; injection hd' with hd'; rw [← hd']; exact hd) hv
  rw [hmd, hx] at hs2
  unfold wpListIn
  rw [if_pos (by unfold Region.wanted; rw [hog])]
  obtain ⟨d0, i, z, ht⟩ := hA.at_ (t := t) (by rw [hk]; simp)
  have hkd := q18 (ht.kd.trans hk)
  subst hkd
  rw [hx] at hv
  obtain ⟨A, cap, q1, q2, q3, q4, q5, q6⟩ := hv.inv_sl
  refine qwc cx.ro ?_ (fun c hc => by rw [ho] at hc; cases hc)
  have hev : (a.put m.dst v).eval (.tmp d) = v := by
    rw [hmd]
    show (a.tmps.setIfInBounds d v).getD d undef = v
    have hlt : d < a.tmps.size := by rw [hs1.size]; exact hd
    simp [Array.getD_eq_getD_getElem?, hlt]
  have he : execOp (a.put m.dst v).eval o = (do pure (.value (← (do eqGuard .eql t (.tmp d) qft ((a.put m.dst v).eval (.tmp d)) ((a.put m.dst v).eval qft); binOp .eql t ((a.put m.dst v).eval (.tmp d)) ((a.put m.dst v).eval qft))))) := by unfold execOp; simp only [ho]
  have hr : (do eqGuard .eql t (.tmp d) qft ((a.put m.dst v).eval (.tmp d)) ((a.put m.dst v).eval qft); binOp .eql t ((a.put m.dst v).eval (.tmp d)) ((a.put m.dst v).eval qft) : Sem Value).run P w1 = .ok (.bool A.isNone) w1 := by
    rw [hev, q1, eqGuard_at_slice]
    show (do binOp .eql t (.slice A n cap) (.slice none 0 0) : Sem Value).run P w1 = _
    simp only [binOp, Sem.run_bind]
    unfold Op.equal Op.maxDepth Op.equalIn
    simp only [Sem.run_bind, run_underlying ht.ud, Result.andThen_ok]
    cases A <;> rfl
  refine zi he hr ?_
  unfold wpListIn
  rw [hmd]
  refine ⟨_, ρ1, hQ A.isNone (fun hb => ?_), hs2.put hod (.c _ _ (.d _ _ (.bool _)))⟩
  rcases q6 with q6 | ⟨b, off, f, q6, -⟩
  · subst q6
    rw [Nat.zero_mul] at q5
    exact ⟨rfl, List.eq_nil_of_length_eq_zero q5⟩
  · rw [q6] at hb; cases hb
theorem qhl (hA : Ag P T) {f : FuncId} {fn : Func} {t e bt : TypeId} (hf : P.funcs[f]? = some fn) (hb : fn.body = some (q83 t bt)) (hname : (fn.name == "runtime.NumGoroutine") = false) (hn : fn.ntmps = 8) (hr : fn.results.toList = [.tmp 2])
    (hk : T.k t = .sl e) (he : T.k e ≠ .other) (hz : 0 < T.sz e) (hzl : (T.zero e).length = T.sz e) {n : Nat} {ds : List D} (hl : ds.length = n * T.sz e) (hm1 : n ≤ maxLen) (hm2 : n * T.by_ e ≤ 140737488355328) :
    AC P f [.c (.d (.sl (T.sz e) n ds))] [] 0 fun r hp => r = .c (.d (.sl (T.sz e) n ds)) ∧ hp = [] := by
  refine AC.enter2 hA hf hb hname (by rw [hn]; show (1 : Nat) ≤ 8; omega) (fun cx hk0 hro => ?_)
  rw [hn, hr]
  have fin : ∀ (s : S) (r : R), s.get 2 = r → q6t (po1 (T.sz e)) 0 0 [t] s [r] = some (.c (.d (.sl (T.sz e) n ds)), []) → ∃ rs, rvs T s [.tmp 2] = some rs ∧
      ∀ ρ a w, Sim cx ρ s a w → ∃ rs' hp' nx' ρ', (one rs' = .c (.d (.sl (T.sz e) n ds)) ∧ hp' = []) ∧ Sim cx ρ' (Zt hp' nx') q6d w ∧ rs'.length = rs.length ∧ ∀ (j : Nat) (r r' : R) (v : Value), rs[j]? = some r → rs'[j]? = some r' → RR w s.live ρ v r → RR w (Zt hp' nx').live ρ' v r' := by
    intro s r hr h
    refine ⟨[r], by simp [rvs, qiC, hr], fun ρ a w hs => ?_⟩
    obtain ⟨rs', nx', ρ', g1, g2, g3, g4⟩ := q56 hk0 h hs
    exact ⟨rs', [], nx', ρ', ⟨g1.symm, rfl⟩, g2, g3, g4⟩
  unfold q83
  refine J.seq (q6K (z := T.sz e) hA (by rfl) hk0 (s' := ⟨[(2, .c .nils), (0, .c (.d (.sl (T.sz e) n ds)))], [], 0, 8⟩) (e := .normal) (by rfl) ?_)
  refine J.seq (J.seq (J.nilTest hA rfl rfl rfl rfl rfl hk (by rfl) (by show (3 : Nat) < 8; omega) (fun d' h => by injection h with h; subst h; show (4 : Nat) < 8; omega) (fun b hb0 => ?_)))
  cases b with
  | true =>
    obtain ⟨rfl, rfl⟩ := hb0 rfl
    refine J.cond (by rfl) (fun _ => ?_) (fun h => by cases h)
    refine q6K (z := T.sz e) hA (by rfl) hk0 (s' := ⟨[(2, .c .nils), (4, .c (.d (.bool true))), (3, .c (.d (.sl (T.sz e) 0 []))), (2, .c .nils), (0, .c (.d (.sl (T.sz e) 0 [])))], [], 0, 8⟩) (e := .ret) (by rfl) ?_
    refine ⟨.inr rfl, fin _ _ rfl ?_⟩
    have hz0 : T.sz e ≠ 0 := by omega
    simp [q6t, qc0, q6l, qa3, po1, q1D, R.rows, C.rows, C.rows0, S.frz, q6r, qbX, dzR, dz, one, q0K, rng, R.refs, C.refs, C.ref0, cnR, qfa, cn, cn0, cnH, S.get, lk, hz0, S.blk, B.isBlk, R.ptrs, S.frz1, fzR, qfv, fz, fz0, fzB, vis, q1z, hl, List.eraseDups_cons, pos, B.cells]
  | false =>
    refine J.cond (by rfl) (fun h => by cases h) (fun _ => ?_)
    refine J.skip ?_
    have hall : (ds.map C.d).all C.known = true := by rw [List.all_map]; exact List.all_eq_true.2 fun x _ => rfl
    have hfar : (ds.map C.d).all (C.far 0) = true := by rw [List.all_map]; exact List.all_eq_true.2 fun x _ => rfl
    have hdat : (ds.map C.d).all C.dat = true := by rw [List.all_map]; exact List.all_eq_true.2 fun x _ => rfl
    have hfg : (ds.map C.d).map (C.fg 0) = ds.map C.d := by rw [List.map_map]; rfl
    refine q6K (z := T.sz e) hA (by rfl) hk0 (s' := ⟨[(2, .c (.own 0 (T.sz e) 0 n)), (7, .c (.own 0 (T.sz e) 0 n)), (6, .c (.d (.sl (T.sz e) n ds))), (5, .c .any), (4, .c (.d (.bool false))), (3, .c (.d (.sl (T.sz e) n ds))), (2, .c .nils), (0, .c (.d (.sl (T.sz e) n ds)))], [(0, .row e (T.sz e) (ds.map C.d)), (0, .row e (T.sz e) [])], 1, 8⟩) (e := .ret) ?_ ?_
    · simp [XD0, XD, xr, xgd, qaj, qhm, ipX, xst, pre, qrV, q5C, q1D, R.rows, S.frz, xo, xCl, J4, bld, q2I, S.seq, S.ev, S.get, lk, S.put, S.up, S.fg, R.fg, C.fg, B.fg, S.blk, hk, he, hz, hzl, hl, hm1, hm2, hall, hfar, q7I, sqD, q0O, tt, C.known, C.far]
    · refine ⟨.inr rfl, fin _ _ rfl ?_⟩
      have hz0 : T.sz e ≠ 0 := by omega
      simp [q6t, qc0, q6l, qa3, po1, q1D, R.rows, C.rows, C.rows0, S.frz, q6r, qbX, dzR, dz, one, q0K, rng, R.refs, C.refs, C.ref0, cnR, qfa, cn, cn0, cnH, S.get, lk, hz0, S.blk, B.isBlk, R.ptrs, S.frz1, fzR, qfv, fz, fz0, fzB, vis, q1z, hl, List.eraseDups_cons, pos, B.cells]
theorem qd3 (hA : Ag P T) {f : FuncId} {fn : Func} {t e bt : TypeId} (hf : P.funcs[f]? = some fn) (hb : fn.body = some (q83 t bt)) (hname : (fn.name == "runtime.NumGoroutine") = false) (hn : fn.ntmps = 8) (hr : fn.results.toList = [.tmp 2])
    (hk : T.k t = .sl e) (he : T.k e ≠ .other) (hz : 0 < T.sz e) (hzl : (T.zero e).length = T.sz e) {n : Nat} {ds : List D} (hl : ds.length = n * T.sz e) (hm1 : n ≤ maxLen) (hm2 : n * T.by_ e ≤ 140737488355328) :
    AC P f [.c (.d (.sl (T.sz e) n ds))] [] 0 fun r hp => r = .c (.own 0 (T.sz e) 0 n) ∧ hp = [(0, .row e (T.sz e) (ds.map C.d))] := by
  refine AC.enter2 hA hf hb hname (by rw [hn]; show (1 : Nat) ≤ 8; omega) (fun cx hk0 hro => ?_)
  rw [hn, hr]
  have fin : ∀ (s : S) (r : R), s.get 2 = r → q6t (po1 (T.sz e) true) 0 0 [t] s [r] = some (.c (.own 0 (T.sz e) 0 n), [(0, .row e (T.sz e) (ds.map C.d))]) → ∃ rs, rvs T s [.tmp 2] = some rs ∧
      ∀ ρ a w, Sim cx ρ s a w → ∃ rs' hp' nx' ρ', (one rs' = .c (.own 0 (T.sz e) 0 n) ∧ hp' = [(0, .row e (T.sz e) (ds.map C.d))]) ∧ Sim cx ρ' (Zt hp' nx') q6d w ∧ rs'.length = rs.length ∧ ∀ (j : Nat) (r r' : R) (v : Value), rs[j]? = some r → rs'[j]? = some r' → RR w s.live ρ v r → RR w (Zt hp' nx').live ρ' v r' := by
    intro s r hr h
    refine ⟨[r], by simp [rvs, qiC, hr], fun ρ a w hs => ?_⟩
    obtain ⟨rs', nx', ρ', g1, g2, g3, g4⟩ := q56 hk0 h hs
    exact ⟨rs', _, nx', ρ', ⟨g1.symm, rfl⟩, g2, g3, g4⟩
  unfold q83
  refine J.seq (q6K (z := T.sz e) hA (by rfl) hk0 (s' := ⟨[(2, .c .nils), (0, .c (.d (.sl (T.sz e) n ds)))], [], 0, 8⟩) (e := .normal) (by rfl) ?_)
  refine J.seq (J.seq (J.nilTest hA rfl rfl rfl rfl rfl hk (by rfl) (by show (3 : Nat) < 8; omega) (fun d' h => by injection h with h; subst h; show (4 : Nat) < 8; omega) (fun b hb0 => ?_)))
  cases b with
  | true =>
    obtain ⟨rfl, rfl⟩ := hb0 rfl
    refine J.cond (by rfl) (fun _ => ?_) (fun h => by cases h)
    refine q6K (z := T.sz e) hA (by rfl) hk0 (s' := ⟨[(2, .c .nils), (4, .c (.d (.bool true))), (3, .c (.d (.sl (T.sz e) 0 []))), (2, .c .nils), (0, .c (.d (.sl (T.sz e) 0 [])))], [], 0, 8⟩) (e := .ret) (by rfl) ?_
    refine ⟨.inr rfl, [.c .nils], rfl, fun ρ a w hs => ?_⟩
    obtain ⟨ids, nx', ρ', g1, g2, g3⟩ := qaV (rs := []) (r' := .tup []) (hp' := []) hk0 rfl hs
    obtain ⟨ρ2, g4, g5⟩ := Sim.rerow (id := 0) (w' := w) (v := .slice none 0 0) (v' := .slice none 0 0) (e := e) (sz := T.sz e) (n := 0) (cs := []) (us := []) g2 (.inr ⟨rfl, fun h => by unfold S.live S.blk Zt at h; simp [lk, B.live] at h⟩) (World.grownBy.refl w _) (.inl rfl) ⟨by simp, .inl ⟨rfl, rfl⟩⟩ hz (by simp) (by rw [hk0]; omega) (fun j c hj => by simp at hj)
    have hblk : ∀ i, (Zt [(0, B.row e (T.sz e) [])] 1).blk i = (((Zt [] nx').fg 0).up [(0, B.row e (T.sz e) [])]).blk i := fun i => rfl
    have hlive : (Zt [(0, B.row e (T.sz e) [])] 1).live = (((Zt [] nx').fg 0).up [(0, B.row e (T.sz e) [])]).live := by funext i; unfold S.live; rw [hblk]
    refine ⟨[.c (.own 0 (T.sz e) 0 0)], [(0, B.row e (T.sz e) [])], 1, ρ2, ⟨rfl, rfl⟩, g4.ext (fun i => rfl) hblk rfl (fun i hi => ?_), rfl, fun j r r' v hj hj' hv => ?_⟩
    · unfold S.live S.blk Zt at hi
      show i < 1
      rcases Nat.lt_or_ge i 1 with h | h
      · exact h
      · simp [lk, show ¬ 0 = i by omega, B.live] at hi
    · cases j with
      | zero =>
        simp only [List.getElem?_cons_zero, Option.some.injEq] at hj hj'
        subst hj hj'
        rw [hv.inv_nils, hlive]
        exact g5
      | succ j => simp at hj
  | false =>
    refine J.cond (by rfl) (fun h => by cases h) (fun _ => ?_)
    refine J.skip ?_
    have hall : (ds.map C.d).all C.known = true := by rw [List.all_map]; exact List.all_eq_true.2 fun x _ => rfl
    have hfar : (ds.map C.d).all (C.far 0) = true := by rw [List.all_map]; exact List.all_eq_true.2 fun x _ => rfl
    have hdat : (ds.map C.d).all C.dat = true := by rw [List.all_map]; exact List.all_eq_true.2 fun x _ => rfl
    have hfg : (ds.map C.d).map (C.fg 0) = ds.map C.d := by rw [List.map_map]; rfl
    refine q6K (z := T.sz e) hA (by rfl) hk0 (s' := ⟨[(2, .c (.own 0 (T.sz e) 0 n)), (7, .c (.own 0 (T.sz e) 0 n)), (6, .c (.d (.sl (T.sz e) n ds))), (5, .c .any), (4, .c (.d (.bool false))), (3, .c (.d (.sl (T.sz e) n ds))), (2, .c .nils), (0, .c (.d (.sl (T.sz e) n ds)))], [(0, .row e (T.sz e) (ds.map C.d)), (0, .row e (T.sz e) [])], 1, 8⟩) (e := .ret) ?_ ?_
    · simp [XD0, XD, xr, xgd, qaj, qhm, ipX, xst, pre, qrV, q5C, q1D, R.rows, S.frz, xo, xCl, J4, bld, q2I, S.seq, S.ev, S.get, lk, S.put, S.up, S.fg, R.fg, C.fg, B.fg, S.blk, hk, he, hz, hzl, hl, hm1, hm2, hall, hfar, q7I, sqD, q0O, tt, C.known, C.far]
    · refine ⟨.inr rfl, fin _ _ rfl ?_⟩
      have hz0 : T.sz e ≠ 0 := by omega
      have hcn : ∀ ids, (ds.map C.d).map (cn ids) = ds.map C.d := fun ids => by rw [List.map_map]; rfl
      simp [cnB, B.live, B.refs, hcn, hdat, q6t, qc0, q6l, qa3, po1, q1D, R.rows, C.rows, C.rows0, S.frz, q6r, qbX, dzR, dz, one, q0K, rng, R.refs, C.refs, C.ref0, cnR, qfa, cn, cn0, cnH, S.get, lk, hz0, S.blk, B.isBlk, R.ptrs, S.frz1, fzR, qfv, fz, fz0, fzB, vis, q1z, hl, List.eraseDups_cons, pos, B.cells]
def q2E (T : Ty) (e : TypeId) (own : Bool) : List R → Option (R × List (Nat × B))
  | [.c (.d (.sl z n ds))] => if z = T.sz e ∧ ds.length = n * z ∧ n ≤ maxLen ∧ n * T.by_ e ≤ 140737488355328 then (if own = true then some (.c (.own 0 z 0 n), [(0, .row e z (ds.map C.d))]) else some (.c (.d (.sl z n ds)), [])) else none
  | _ => none
theorem q4l (hA : Ag P T) {f : FuncId} {fn : Func} {t e bt : TypeId} (hf : P.funcs[f]? = some fn) (hb : fn.body = some (q83 t bt)) (hname : (fn.name == "runtime.NumGoroutine") = false) (hn : fn.ntmps = 8) (hr : fn.results.toList = [.tmp 2])
    (hk : T.k t = .sl e) (he : T.k e ≠ .other) (hz : 0 < T.sz e) (hzl : (T.zero e).length = T.sz e) {own : Bool} {args : List R} {r : R} {G' : List (Nat × B)} (h : q2E T e own args = some (r, G')) : AC P f args [] 0 fun r' hp' => r' = r ∧ hp' = G' := by
  unfold q2E at h
  split at h
  · split at h
    · rename_i hc
      obtain ⟨rfl, h1, h2, h3⟩ := hc
      split at h
      · injection h with h
        injection h with h4 h5
        subst h4 h5
        exact qd3 hA hf hb hname hn hr hk he hz hzl h1 h2 h3
      · injection h with h
        injection h with h4 h5
        subst h4 h5
        exact qhl hA hf hb hname hn hr hk he hz hzl h1 h2 h3
    · cases h
  · cases h
end
end Go.Proofs.YtplfjlcnffcenaaGreat.Vc
namespace Go.Proofs.YtplfjlcnffcenaaGreat.Vc
open Go.RowKit
set_option linter.unusedSimpArgs false
section
variable {P : Program} {T : Ty} {cx : Cx} {ρ : Pl} {s : S} {a : Act} {w : World}
def quN : AO → Bool
  | .mp _ _ => true
  | _ => false
def q0p : Nat → List R → List (Nat × B) → Option (R × List (Nat × B))
  | 1, [.c (.hd .map 0)], [(0, .ob o)] => if quN o = true then some (.c (.hd .map 1), [(0, .ob o), (1, .ob o)]) else none
  | 0, [.c .nilm], [] => some (.c .nilm, [])
  | _, _, _ => none
theorem q6Z {f : FuncId} {fn : Func} (hf : P.funcs[f]? = some fn) (hname : (fn.name == "runtime.NumGoroutine") = false) (hb : fn.body.isNone = false)
    (h1 : ∀ (b : Nat) (es : Array MapEntry) (clock : Nat) (w : World), w.heap[b]? = some (.map es clock) → Calls P f #[.map (some b)] w fun e w' => e = .returned (.map (some w.heap.size)) ∧ w' = w.alloc (.map es clock))
    (h2 : ∀ w : World, Calls P f #[.map none] w fun e w' => e = .returned (.map none) ∧ w' = w)
    {k : Nat} {args : List R} {G G' : List (Nat × B)} {r : R} (h : q0p k args G = some (r, G')) : AC P f args G k fun r' hp' => r' = r ∧ hp' = G' := by
  refine ⟨⟨fn, hf, hname, hb⟩, fun cx ρ w vs hw hk hρ hro hs hv => ?_⟩
  unfold q0p at h
  split at h
  · rename_i o
    split at h
    · rename_i hmp
      injection h with h
      injection h with h3 h4
      subst h3 h4
      obtain ⟨hvs, hvr⟩ := hv
      have hv0 := hvr 0 _ rfl
      obtain ⟨b, cap, hl, hρ0, hvb⟩ := hv0.inv_hd
      have hvs1 : vs = #[.map (some b)] := by
        apply Array.ext
        · simpa using hvs
        · intro i hi hi'
          have : i = 0 := by simp at hi'; exact hi'
          subst this
          have : vs.getD 0 undef = vs[0] := by simp [Array.getD_eq_getD_getElem?, hi]
          rw [this] at hvb
          exact hvb
      subst hvs1
      obtain ⟨hbz, hB⟩ := hs.hp 0 b cap hl hρ0
      have hB : HO w _ ρ b o := hB
      cases o with
      | mp es ck =>
        obtain ⟨mes, g1, g2, g3⟩ := hB
        refine (h1 b mes ck w g1).mono fun e w' => ?_
        rintro ⟨rfl, rfl⟩
        have hp1 : ¬ (Zt [(0, B.ob (AO.mp es ck))] 1).live 1 := by unfold S.live S.blk Zt; simp [lk, B.live]
        have hst := q3w (w := w) (ρ := ρ) (s := Zt [(0, B.ob (AO.mp es ck))] 1) (x := .ob (.mp es ck)) hp1 (.map mes ck) 0
        have hn : Sim cx (ρ.set 1 w.heap.size 0) ((Zt [(0, B.ob (AO.mp es ck))] 1).up [(1, .ob (.mp es ck))]) q6d (w.alloc (.map mes ck)) :=
          Sim.new hs hp1 ⟨mes, heap_alloc_new w _, g2, fun j e hj => ⟨(g3 j e hj).1, (g3 j e hj).2.1.stay hst, (g3 j e hj).2.2⟩⟩
        have hblk : ∀ i, (Zt [(0, B.ob (AO.mp es ck)), (1, B.ob (AO.mp es ck))] 2).blk i = ((Zt [(0, B.ob (AO.mp es ck))] 1).up [(1, .ob (.mp es ck))]).blk i := fun i => by
          rw [S.blk_up]
          unfold S.blk Zt
          simp only [lk]
          by_cases h0 : 0 = i
          · subst h0; simp
          · by_cases h1 : 1 = i
            · subst h1; simp
            · simp [h0, h1]
        have hlive : (Zt [(0, B.ob (AO.mp es ck)), (1, B.ob (AO.mp es ck))] 2).live = ((Zt [(0, B.ob (AO.mp es ck))] 1).up [(1, .ob (.mp es ck))]).live := by funext i; unfold S.live; rw [hblk]
        refine ⟨_, _, _, 2, ρ.set 1 w.heap.size 0, rfl, ⟨rfl, rfl⟩, hn.ext (fun i => rfl) hblk rfl (fun i hi => ?_), ?_⟩
        · unfold S.live at hi
          show i < 2
          rcases Nat.lt_or_ge i 2 with h | h
          · exact h
          · rw [show (Zt [(0, B.ob (AO.mp es ck)), (1, B.ob (AO.mp es ck))] 2).blk i = .dead by unfold S.blk Zt; simp only [lk]; rw [if_neg (by omega), if_neg (by omega)]] at hi
            cases hi
        · rw [hlive]
          exact .c _ _ (.hd .map 1 w.heap.size 0 (by unfold S.live; rw [S.blk_up, if_pos rfl]; rfl) (show (if 1 = 1 then some (w.heap.size, 0) else ρ 1) = _ from if_pos rfl))
      | _ => cases hmp
    · cases h
  · injection h with h
    injection h with h3 h4
    subst h3 h4
    obtain ⟨hvs, hvr⟩ := hv
    have hvb := (hvr 0 _ rfl).inv_nilm
    have hvs1 : vs = #[.map none] := by
      apply Array.ext
      · simpa using hvs
      · intro i hi hi'
        have : i = 0 := by simp at hi'; exact hi'
        subst this
        have : vs.getD 0 undef = vs[0] := by simp [Array.getD_eq_getD_getElem?, hi]
        rw [this] at hvb
        simpa using hvb
    subst hvs1
    refine (h2 w).mono fun e w' => ?_
    rintro ⟨rfl, rfl⟩
    exact ⟨_, _, _, _, _, rfl, ⟨rfl, rfl⟩, hs, .c _ _ .nilm⟩
  · cases h
end
end Go.Proofs.YtplfjlcnffcenaaGreat.Vc
namespace Go.Proofs.YtplfjlcnffcenaaGreat.Vc
open Go.Shelf
def qpW : Go.Shelf.Ren := ⟨fun | 5 => 90 | 7 => 112 | n => n, fun | 23 => 129 | 25 => 3 | 3 => 4 | 4 => 4 | 20 => 20 | n => n, fun n => n⟩
theorem qmv : SlLaysW.n5 Tryz.prog qpW := {
  mixed := by kernel_rfl
  f5 := ⟨Tryz.f90.name, by kernel_rfl, Tryz.func90.trans (congrArg some (by kernel_rfl))⟩
  f7 := Tryz.func112.trans (congrArg some (by kernel_rfl))
  t4 := Tryz.underlying4
  a4 := Tryz.isAgg4
  z4 := Tryz.sizeOf4
  v4 := Tryz.zeroValue4
  t20 := Tryz.underlying20
  a20 := Tryz.isAgg20
  z20 := Tryz.sizeOf20
  v20 := Tryz.zeroValue20
  t23 := Tryz.underlying129
  a23 := Tryz.isAgg129
  z23 := Tryz.sizeOf129
  v23 := Tryz.zeroValue129 }
end Go.Proofs.YtplfjlcnffcenaaGreat.Vc
namespace Go.Proofs.YtplfjlcnffcenaaGreat.Vc
open Go.RowKit
def qjR (x : Int) : List Int → List Int
  | [] => [x]
  | y :: l => if x ≤ y then x :: y :: l else y :: qjR x l
def q01 : List Int → List Int
  | [] => []
  | x :: l => qjR x (q01 l)
theorem q62 (x : Int) : ∀ l : List Int, (qjR x l).Perm (x :: l)
  | [] => .refl _
  | y :: l => by
    unfold qjR
    split
    · exact .refl _
    · exact ((q62 x l).cons y).trans (.swap x y l)
theorem q0t : ∀ l : List Int, (q01 l).Perm l
  | [] => .refl _
  | x :: l => by
    unfold q01
    exact (q62 x _).trans ((q0t l).cons x)
theorem q63 (x : Int) : ∀ {l : List Int}, l.Pairwise (· ≤ ·) → (qjR x l).Pairwise (· ≤ ·)
  | [], _ => by simp [qjR]
  | y :: l, h => by
    unfold qjR
    obtain ⟨h1, h2⟩ := List.pairwise_cons.1 h
    split
    · rename_i hxy
      exact List.pairwise_cons.2 ⟨fun z hz => by
        rcases List.mem_cons.1 hz with rfl | hz
        · exact hxy
        · exact Int.le_trans hxy (h1 z hz), h⟩
    · rename_i hxy
      exact List.pairwise_cons.2 ⟨fun z hz => by
        rcases List.mem_cons.1 ((q62 x l).mem_iff.1 hz) with rfl | hz
        · omega
        · exact h1 z hz, q63 x h2⟩
theorem q1C : ∀ l : List Int, (q01 l).Pairwise (· ≤ ·)
  | [] => .nil
  | x :: l => q63 x (q1C l)
theorem q5U : ∀ {l m : List Int}, l.Perm m → l.Pairwise (· ≤ ·) → m.Pairwise (· ≤ ·) → l = m
  | [], m, h, _, _ => (List.nil_perm.1 h).symm
  | x :: l, m, h, hl, hm => by
    cases m with
    | nil => exact absurd (List.perm_nil.1 h) (by simp)
    | cons y m =>
      obtain ⟨h1, h2⟩ := List.pairwise_cons.1 hl
      obtain ⟨h3, h4⟩ := List.pairwise_cons.1 hm
      have hxy : x = y := by
        have a1 : y ∈ x :: l := h.mem_iff.2 (List.mem_cons_self ..)
        have a2 : x ∈ y :: m := h.mem_iff.1 (List.mem_cons_self ..)
        rcases List.mem_cons.1 a1 with e | a1
        · exact e.symm
        rcases List.mem_cons.1 a2 with e | a2
        · exact e
        exact Int.le_antisymm (h1 y a1) (h3 x a2)
      subst hxy
      rw [q5U (List.Perm.cons_inv h) h2 h4]
theorem qfX (l : List Int) : (l.mergeSort fun x y => decide (x ≤ y)) = q01 l := by
  refine q5U ((List.mergeSort_perm l _).trans (q0t l).symm) ?_ (q1C l)
  have := List.pairwise_mergeSort (le := fun x y : Int => decide (x ≤ y)) (fun a b c h1 h2 => by simp only [decide_eq_true_eq] at *; omega) (fun a b => by simp only [Bool.or_eq_true, decide_eq_true_eq]; omega) l
  exact this.imp fun h => by simpa using h
theorem JO (l : List Int) : (q01 l).length = l.length := (q0t l).length_eq
theorem qev {P : Program} {f : FuncId} {fn : Func} (hf : P.funcs[f]? = some fn) (hname : (fn.name == "runtime.NumGoroutine") = false) (hb : fn.body.isNone = false)
    (h1 : ∀ (blk off cap : Nat) (zs : List Int) (w : World), Go.Sort.Holds (Value.int .i64) w blk off zs.toArray → blk < w.heap.size → zs.length < 4611686018427387904 →
      Calls P f #[.slice (some ⟨blk, off, none⟩) zs.length cap] w fun e w' => e = .returned (.tuple #[]) ∧ ∃ n os, w' = Go.Sort.grow (Go.Sort.putRow (Value.int .i64) (Go.Sort.ahead w n) blk off (zs.mergeSort fun x y => decide (x ≤ y)).toArray) os)
    (h2 : ∀ (p : Option Addr) (cap : Nat) (w : World), Calls P f #[.slice p 0 cap] w fun e w' => e = .returned (.tuple #[]) ∧ w' = w) : qro P f q01 := by
  refine ⟨⟨fn, hf, hname, hb⟩, JO, fun b cap zs w cur e c1 htk hlt => ?_, fun w => h2 none 0 w⟩
  refine (h1 b 0 cap zs w (holds_of_blockI c1 htk) (Array.getElem?_eq_some_iff.1 c1).1 hlt).mono fun e' w' => ?_
  rintro ⟨rfl, nn, os, rfl⟩
  rw [qfX]
  refine ⟨rfl, grownBy_sortedI _, _, heap_sortedI _ c1, by simp [Go.Sort.putCells], ?_⟩
  have hz : zs.length ≤ cur.size := by
    have := congrArg List.length htk
    simp only [List.length_take, List.length_map, Array.length_toList] at this
    omega
  have := take_putCellsI cur (q01 zs) (by rw [JO]; exact hz)
  rwa [JO] at this
end Go.Proofs.YtplfjlcnffcenaaGreat.Vc
namespace Go.Proofs.YtplfjlcnffcenaaGreat.Vc
open Go.Shelf
def qa1 : Go.Shelf.Ren := ⟨fun | 189 => 59 | 125 => 92 | 257 => 91 | 128 => 122 | 129 => 123 | 294 => 113 | 295 => 114 | 296 => 115 | 297 => 116 | 298 => 117 | 299 => 118 | 216 => 119 | 300 => 120 | 301 => 121 | 328 => 133 | 329 => 134 | 330 => 135 | 331 => 136 | 332 => 137 | 215 => 138 | 343 => 142 | n => n, fun | 28 => 45 | 3 => 3 | 46 => 133 | 0 => 0 | 51 => 157 | 53 => 159 | 4 => 4 | 183 => 150 | 182 => 149 | 131 => 154 | 5 => 5 | 9 => 9 | 218 => 162 | 222 => 166 | 228 => 171 | 229 => 172 | n => n, fun | n => n⟩
theorem qdj : Go.Proofs.Lays.n189 Tryz.prog qa1 := {
  mixed := by kernel_rfl
  f125 := Tryz.func92.trans (congrArg some (by kernel_rfl))
  f128 := Tryz.func122.trans (congrArg some (by kernel_rfl))
  f129 := Tryz.func123.trans (congrArg some (by kernel_rfl))
  f189 := Tryz.func59.trans (congrArg some (by kernel_rfl))
  f215 := Tryz.func138.trans (congrArg some (by kernel_rfl))
  f216 := Tryz.func119.trans (congrArg some (by kernel_rfl))
  f257 := Tryz.func91.trans (congrArg some (by kernel_rfl))
  f294 := Tryz.func113.trans (congrArg some (by kernel_rfl))
  f295 := Tryz.func114.trans (congrArg some (by kernel_rfl))
  f296 := Tryz.func115.trans (congrArg some (by kernel_rfl))
  f297 := Tryz.func116.trans (congrArg some (by kernel_rfl))
  f298 := Tryz.func117.trans (congrArg some (by kernel_rfl))
  f299 := Tryz.func118.trans (congrArg some (by kernel_rfl))
  f300 := Tryz.func120.trans (congrArg some (by kernel_rfl))
  f301 := Tryz.func121.trans (congrArg some (by kernel_rfl))
  f328 := Tryz.func133.trans (congrArg some (by kernel_rfl))
  f329 := Tryz.func134.trans (congrArg some (by kernel_rfl))
  f330 := Tryz.func135.trans (congrArg some (by kernel_rfl))
  f331 := Tryz.func136.trans (congrArg some (by kernel_rfl))
  f332 := Tryz.func137.trans (congrArg some (by kernel_rfl))
  f343 := Tryz.func142.trans (congrArg some (by kernel_rfl))
  t0 := Tryz.underlying0
  a0 := Tryz.isAgg0
  z0 := Tryz.sizeOf0
  v0 := Tryz.zeroValue0
  t3 := Tryz.underlying3
  a3 := Tryz.isAgg3
  z3 := Tryz.sizeOf3
  v3 := Tryz.zeroValue3
  t4 := Tryz.underlying4
  a4 := Tryz.isAgg4
  z4 := Tryz.sizeOf4
  v4 := Tryz.zeroValue4
  t5 := Tryz.underlying5
  a5 := Tryz.isAgg5
  z5 := Tryz.sizeOf5
  v5 := Tryz.zeroValue5
  t9 := Tryz.underlying9
  a9 := Tryz.isAgg9
  z9 := Tryz.sizeOf9
  v9 := Tryz.zeroValue9
  t28 := Tryz.underlying45
  a28 := Tryz.isAgg45
  z28 := Tryz.sizeOf45
  v28 := Tryz.zeroValue45
  t46 := Tryz.underlying133
  a46 := Tryz.isAgg133
  z46 := Tryz.sizeOf133
  v46 := Tryz.zeroValue133
  t51 := Tryz.underlying157
  a51 := Tryz.isAgg157
  z51 := Tryz.sizeOf157
  v51 := Tryz.zeroValue157
  t53 := Tryz.underlying159
  a53 := Tryz.isAgg159
  z53 := Tryz.sizeOf159
  v53 := Tryz.zeroValue159
  t131 := Tryz.underlying154
  a131 := Tryz.isAgg154
  z131 := Tryz.sizeOf154
  v131 := Tryz.zeroValue154
  t182 := Tryz.underlying149
  a182 := Tryz.isAgg149
  z182 := Tryz.sizeOf149
  v182 := Tryz.zeroValue149
  t183 := Tryz.underlying150
  a183 := Tryz.isAgg150
  z183 := Tryz.sizeOf150
  v183 := Tryz.zeroValue150
  t218 := Tryz.underlying162
  a218 := Tryz.isAgg162
  z218 := Tryz.sizeOf162
  v218 := Tryz.zeroValue162
  t222 := Tryz.underlying166
  a222 := Tryz.isAgg166
  z222 := Tryz.sizeOf166
  v222 := Tryz.zeroValue166
  t228 := Tryz.underlying171
  a228 := Tryz.isAgg171
  z228 := Tryz.sizeOf171
  v228 := Tryz.zeroValue171
  t229 := Tryz.underlying172
  a229 := Tryz.isAgg172
  z229 := Tryz.sizeOf172
  v229 := Tryz.zeroValue172 }
theorem qzZ : qro Tryz.prog 59 q01 := qev (fn := Tryz.f59) (by kernel_rfl) (by kernel_rfl) (by kernel_rfl) (Any.slices_Sort_int qdj) (Any.slices_Sort_int_none qdj)
end Go.Proofs.YtplfjlcnffcenaaGreat.Vc
namespace Go.Proofs.YtplfjlcnffcenaaGreat.Vc
def tk (t : TypeId) : Kd := bif Nat.blt t 190 then (bif Nat.blt t 95 then (bif Nat.blt t 47 then (bif Nat.blt t 23 then (bif Nat.blt t 11 then (bif Nat.blt t 5 then (bif Nat.blt t 2 then (bif Nat.blt t 1 then .other else .fn) else (bif Nat.blt t 3 then .int .i64 else (bif Nat.blt t 4 then .int .i64 else .bool))) else (bif Nat.blt t 8 then (bif Nat.blt t 6 then .int .u8 else (bif Nat.blt t 7 then .int .u8 else .st [(0, 2), (1, 3), (2, 4), (3, 6)])) else (bif Nat.blt t 9 then .st [(0, 2), (1, 3), (2, 4), (3, 6)] else (bif Nat.blt t 10 then .str else .str)))) else (bif Nat.blt t 17 then (bif Nat.blt t 14 then (bif Nat.blt t 12 then .str else (bif Nat.blt t 13 then .int .u64 else .st [(0, 9), (1, 12)])) else (bif Nat.blt t 15 then .st [(0, 9), (1, 12)] else (bif Nat.blt t 16 then .ptr 176 else .ptr 179))) else (bif Nat.blt t 20 then (bif Nat.blt t 18 then .ptr 188 else (bif Nat.blt t 19 then .st [(0, 17)] else .st [(0, 17)])) else (bif Nat.blt t 21 then .other else (bif Nat.blt t 22 then .int .i32 else .sl 45))))) else (bif Nat.blt t 35 then (bif Nat.blt t 29 then (bif Nat.blt t 26 then (bif Nat.blt t 24 then .arr 2 3 else (bif Nat.blt t 25 then .arr 2 23 else .sl 9)) else (bif Nat.blt t 27 then .sl 79 else (bif Nat.blt t 28 then .st [(0, 3), (1, 3), (2, 3), (3, 3)] else .st [(0, 3), (1, 3), (2, 3), (3, 3)]))) else (bif Nat.blt t 32 then (bif Nat.blt t 30 then .st [(0, 3), (1, 3), (2, 3), (3, 3), (4, 3), (5, 25), (6, 26), (7, 28)] else (bif Nat.blt t 31 then .st [(0, 3), (1, 3), (2, 3), (3, 3), (4, 3), (5, 25), (6, 26), (7, 28)] else .st [(0, 3), (1, 3), (2, 3)])) else (bif Nat.blt t 33 then .st [(0, 3), (1, 3), (2, 3)] else (bif Nat.blt t 34 then .sl 53 else .st [(0, 30), (11, 3), (12, 32), (15, 33)])))) else (bif Nat.blt t 41 then (bif Nat.blt t 38 then (bif Nat.blt t 36 then .st [(0, 30), (11, 3), (12, 32), (15, 33)] else (bif Nat.blt t 37 then .fn else .sl 30)) else (bif Nat.blt t 39 then .fn else (bif Nat.blt t 40 then .fn else .fn))) else (bif Nat.blt t 44 then (bif Nat.blt t 42 then .int .i64 else (bif Nat.blt t 43 then .fn else .fn)) else (bif Nat.blt t 45 then .fn else (bif Nat.blt t 46 then .sl 3 else .st [(0, 3), (1, 23), (3, 35)])))))) else (bif Nat.blt t 71 then (bif Nat.blt t 59 then (bif Nat.blt t 53 then (bif Nat.blt t 50 then (bif Nat.blt t 48 then .st [(0, 3), (1, 23), (3, 35)] else (bif Nat.blt t 49 then .fn else .fn)) else (bif Nat.blt t 51 then .st [(0, 3), (1, 9)] else (bif Nat.blt t 52 then .st [(0, 3), (1, 9)] else .st [(0, 51), (2, 3), (3, 3), (4, 3), (5, 45), (6, 3), (7, 45)]))) else (bif Nat.blt t 56 then (bif Nat.blt t 54 then .st [(0, 51), (2, 3), (3, 3), (4, 3), (5, 45), (6, 3), (7, 45)] else (bif Nat.blt t 55 then .fn else .fn)) else (bif Nat.blt t 57 then .sl 32 else (bif Nat.blt t 58 then .sl 33 else .other)))) else (bif Nat.blt t 65 then (bif Nat.blt t 62 then (bif Nat.blt t 60 then .fn else (bif Nat.blt t 61 then .fn else .fn)) else (bif Nat.blt t 63 then .fn else (bif Nat.blt t 64 then .arr 3 3 else .other))) else (bif Nat.blt t 68 then (bif Nat.blt t 66 then .fn else (bif Nat.blt t 67 then .fn else .fn)) else (bif Nat.blt t 69 then .ptr 70 else (bif Nat.blt t 70 then .st [(0, 45), (1, 3)] else .st [(0, 45), (1, 3)]))))) else (bif Nat.blt t 83 then (bif Nat.blt t 77 then (bif Nat.blt t 74 then (bif Nat.blt t 72 then .sl 37 else (bif Nat.blt t 73 then .fn else .fn)) else (bif Nat.blt t 75 then .other else (bif Nat.blt t 76 then .fn else .sl 41))) else (bif Nat.blt t 80 then (bif Nat.blt t 78 then .fn else (bif Nat.blt t 79 then .st [(0, 9), (1, 3)] else .st [(0, 9), (1, 3)])) else (bif Nat.blt t 81 then .fn else (bif Nat.blt t 82 then .fn else .fn)))) else (bif Nat.blt t 89 then (bif Nat.blt t 86 then (bif Nat.blt t 84 then .fn else (bif Nat.blt t 85 then .sl 25 else .fn)) else (bif Nat.blt t 87 then .fn else (bif Nat.blt t 88 then .fn else .fn))) else (bif Nat.blt t 92 then (bif Nat.blt t 90 then .fn else (bif Nat.blt t 91 then .fn else .fn)) else (bif Nat.blt t 93 then .fn else (bif Nat.blt t 94 then .fn else .fn))))))) else (bif Nat.blt t 142 then (bif Nat.blt t 118 then (bif Nat.blt t 106 then (bif Nat.blt t 100 then (bif Nat.blt t 97 then (bif Nat.blt t 96 then .fn else .other) else (bif Nat.blt t 98 then .fn else (bif Nat.blt t 99 then .fn else .other))) else (bif Nat.blt t 103 then (bif Nat.blt t 101 then .fn else (bif Nat.blt t 102 then .fn else .fn)) else (bif Nat.blt t 104 then .fn else (bif Nat.blt t 105 then .fn else .fn)))) else (bif Nat.blt t 112 then (bif Nat.blt t 109 then (bif Nat.blt t 107 then .fn else (bif Nat.blt t 108 then .fn else .fn)) else (bif Nat.blt t 110 then .fn else (bif Nat.blt t 111 then .fn else .fn))) else (bif Nat.blt t 115 then (bif Nat.blt t 113 then .fn else (bif Nat.blt t 114 then .fn else .fn)) else (bif Nat.blt t 116 then .fn else (bif Nat.blt t 117 then .fn else .fn))))) else (bif Nat.blt t 130 then (bif Nat.blt t 124 then (bif Nat.blt t 121 then (bif Nat.blt t 119 then .fn else (bif Nat.blt t 120 then .fn else .fn)) else (bif Nat.blt t 122 then .fn else (bif Nat.blt t 123 then .fn else .fn))) else (bif Nat.blt t 127 then (bif Nat.blt t 125 then .st [(0, 3), (1, 3)] else (bif Nat.blt t 126 then .st [(0, 3), (1, 3)] else .other)) else (bif Nat.blt t 128 then .fn else (bif Nat.blt t 129 then .fn else .mp 3 4)))) else (bif Nat.blt t 136 then (bif Nat.blt t 133 then (bif Nat.blt t 131 then .fn else (bif Nat.blt t 132 then .fn else .fn)) else (bif Nat.blt t 134 then .int .u64 else (bif Nat.blt t 135 then .fn else .fn))) else (bif Nat.blt t 139 then (bif Nat.blt t 137 then .fn else (bif Nat.blt t 138 then .fn else .fn)) else (bif Nat.blt t 140 then .fn else (bif Nat.blt t 141 then .fn else .fn)))))) else (bif Nat.blt t 166 then (bif Nat.blt t 154 then (bif Nat.blt t 148 then (bif Nat.blt t 145 then (bif Nat.blt t 143 then .fn else (bif Nat.blt t 144 then .st [(0, 81)] else .st [(0, 81)])) else (bif Nat.blt t 146 then .arr 5 144 else (bif Nat.blt t 147 then .fn else .fn))) else (bif Nat.blt t 151 then (bif Nat.blt t 149 then .fn else (bif Nat.blt t 150 then .int .i64 else .other)) else (bif Nat.blt t 152 then .fn else (bif Nat.blt t 153 then .fn else .fn)))) else (bif Nat.blt t 160 then (bif Nat.blt t 157 then (bif Nat.blt t 155 then .other else (bif Nat.blt t 156 then .fn else .fn)) else (bif Nat.blt t 158 then .int .u32 else (bif Nat.blt t 159 then .fn else .int .u64))) else (bif Nat.blt t 163 then (bif Nat.blt t 161 then .fn else (bif Nat.blt t 162 then .fn else .int .u64)) else (bif Nat.blt t 164 then .fn else (bif Nat.blt t 165 then .fn else .fn))))) else (bif Nat.blt t 178 then (bif Nat.blt t 172 then (bif Nat.blt t 169 then (bif Nat.blt t 167 then .ptr 3 else (bif Nat.blt t 168 then .fn else .fn)) else (bif Nat.blt t 170 then .fn else (bif Nat.blt t 171 then .sl 159 else .ptr 162))) else (bif Nat.blt t 175 then (bif Nat.blt t 173 then .other else (bif Nat.blt t 174 then .fn else .fn)) else (bif Nat.blt t 176 then .st [(0, 17), (1, 17), (2, 17), (3, 9)] else (bif Nat.blt t 177 then .st [(0, 17), (1, 17), (2, 17), (3, 9)] else .arr 0 16)))) else (bif Nat.blt t 184 then (bif Nat.blt t 181 then (bif Nat.blt t 179 then .st [(0, 177)] else (bif Nat.blt t 180 then .st [(0, 177)] else .fn)) else (bif Nat.blt t 182 then .int .u8 else (bif Nat.blt t 183 then .int .u8 else .fn))) else (bif Nat.blt t 187 then (bif Nat.blt t 185 then .ptr 5 else (bif Nat.blt t 186 then .int .i32 else .int .i32)) else (bif Nat.blt t 188 then .st [(0, 12), (1, 12), (2, 157), (3, 181), (4, 5), (5, 5), (6, 182), (7, 183), (8, 184), (9, 185), (10, 186)] else (bif Nat.blt t 189 then .st [(0, 12), (1, 12), (2, 157), (3, 181), (4, 5), (5, 5), (6, 182), (7, 183), (8, 184), (9, 185), (10, 186)] else .other)))))))) else .other
def tz (t : TypeId) : Nat := bif Nat.blt t 190 then (bif Nat.blt t 95 then (bif Nat.blt t 47 then (bif Nat.blt t 23 then (bif Nat.blt t 11 then (bif Nat.blt t 5 then (bif Nat.blt t 2 then (bif Nat.blt t 1 then 0 else 1) else (bif Nat.blt t 3 then 1 else (bif Nat.blt t 4 then 1 else 1))) else (bif Nat.blt t 8 then (bif Nat.blt t 6 then 1 else (bif Nat.blt t 7 then 1 else 4)) else (bif Nat.blt t 9 then 4 else (bif Nat.blt t 10 then 1 else 1)))) else (bif Nat.blt t 17 then (bif Nat.blt t 14 then (bif Nat.blt t 12 then 1 else (bif Nat.blt t 13 then 1 else 2)) else (bif Nat.blt t 15 then 2 else (bif Nat.blt t 16 then 1 else 1))) else (bif Nat.blt t 20 then (bif Nat.blt t 18 then 1 else (bif Nat.blt t 19 then 1 else 1)) else (bif Nat.blt t 21 then 0 else (bif Nat.blt t 22 then 1 else 1))))) else (bif Nat.blt t 35 then (bif Nat.blt t 29 then (bif Nat.blt t 26 then (bif Nat.blt t 24 then 2 else (bif Nat.blt t 25 then 4 else 1)) else (bif Nat.blt t 27 then 1 else (bif Nat.blt t 28 then 4 else 4))) else (bif Nat.blt t 32 then (bif Nat.blt t 30 then 11 else (bif Nat.blt t 31 then 11 else 3)) else (bif Nat.blt t 33 then 3 else (bif Nat.blt t 34 then 1 else 16)))) else (bif Nat.blt t 41 then (bif Nat.blt t 38 then (bif Nat.blt t 36 then 16 else (bif Nat.blt t 37 then 1 else 1)) else (bif Nat.blt t 39 then 1 else (bif Nat.blt t 40 then 1 else 1))) else (bif Nat.blt t 44 then (bif Nat.blt t 42 then 1 else (bif Nat.blt t 43 then 1 else 1)) else (bif Nat.blt t 45 then 1 else (bif Nat.blt t 46 then 1 else 19)))))) else (bif Nat.blt t 71 then (bif Nat.blt t 59 then (bif Nat.blt t 53 then (bif Nat.blt t 50 then (bif Nat.blt t 48 then 19 else (bif Nat.blt t 49 then 1 else 1)) else (bif Nat.blt t 51 then 2 else (bif Nat.blt t 52 then 2 else 8))) else (bif Nat.blt t 56 then (bif Nat.blt t 54 then 8 else (bif Nat.blt t 55 then 1 else 1)) else (bif Nat.blt t 57 then 1 else (bif Nat.blt t 58 then 1 else 0)))) else (bif Nat.blt t 65 then (bif Nat.blt t 62 then (bif Nat.blt t 60 then 1 else (bif Nat.blt t 61 then 1 else 1)) else (bif Nat.blt t 63 then 1 else (bif Nat.blt t 64 then 3 else 0))) else (bif Nat.blt t 68 then (bif Nat.blt t 66 then 1 else (bif Nat.blt t 67 then 1 else 1)) else (bif Nat.blt t 69 then 1 else (bif Nat.blt t 70 then 2 else 2))))) else (bif Nat.blt t 83 then (bif Nat.blt t 77 then (bif Nat.blt t 74 then (bif Nat.blt t 72 then 1 else (bif Nat.blt t 73 then 1 else 1)) else (bif Nat.blt t 75 then 0 else (bif Nat.blt t 76 then 1 else 1))) else (bif Nat.blt t 80 then (bif Nat.blt t 78 then 1 else (bif Nat.blt t 79 then 2 else 2)) else (bif Nat.blt t 81 then 1 else (bif Nat.blt t 82 then 1 else 1)))) else (bif Nat.blt t 89 then (bif Nat.blt t 86 then (bif Nat.blt t 84 then 1 else (bif Nat.blt t 85 then 1 else 1)) else (bif Nat.blt t 87 then 1 else (bif Nat.blt t 88 then 1 else 1))) else (bif Nat.blt t 92 then (bif Nat.blt t 90 then 1 else (bif Nat.blt t 91 then 1 else 1)) else (bif Nat.blt t 93 then 1 else (bif Nat.blt t 94 then 1 else 1))))))) else (bif Nat.blt t 142 then (bif Nat.blt t 118 then (bif Nat.blt t 106 then (bif Nat.blt t 100 then (bif Nat.blt t 97 then (bif Nat.blt t 96 then 1 else 0) else (bif Nat.blt t 98 then 1 else (bif Nat.blt t 99 then 1 else 0))) else (bif Nat.blt t 103 then (bif Nat.blt t 101 then 1 else (bif Nat.blt t 102 then 1 else 1)) else (bif Nat.blt t 104 then 1 else (bif Nat.blt t 105 then 1 else 1)))) else (bif Nat.blt t 112 then (bif Nat.blt t 109 then (bif Nat.blt t 107 then 1 else (bif Nat.blt t 108 then 1 else 1)) else (bif Nat.blt t 110 then 1 else (bif Nat.blt t 111 then 1 else 1))) else (bif Nat.blt t 115 then (bif Nat.blt t 113 then 1 else (bif Nat.blt t 114 then 1 else 1)) else (bif Nat.blt t 116 then 1 else (bif Nat.blt t 117 then 1 else 1))))) else (bif Nat.blt t 130 then (bif Nat.blt t 124 then (bif Nat.blt t 121 then (bif Nat.blt t 119 then 1 else (bif Nat.blt t 120 then 1 else 1)) else (bif Nat.blt t 122 then 1 else (bif Nat.blt t 123 then 1 else 1))) else (bif Nat.blt t 127 then (bif Nat.blt t 125 then 2 else (bif Nat.blt t 126 then 2 else 0)) else (bif Nat.blt t 128 then 1 else (bif Nat.blt t 129 then 1 else 1)))) else (bif Nat.blt t 136 then (bif Nat.blt t 133 then (bif Nat.blt t 131 then 1 else (bif Nat.blt t 132 then 1 else 1)) else (bif Nat.blt t 134 then 1 else (bif Nat.blt t 135 then 1 else 1))) else (bif Nat.blt t 139 then (bif Nat.blt t 137 then 1 else (bif Nat.blt t 138 then 1 else 1)) else (bif Nat.blt t 140 then 1 else (bif Nat.blt t 141 then 1 else 1)))))) else (bif Nat.blt t 166 then (bif Nat.blt t 154 then (bif Nat.blt t 148 then (bif Nat.blt t 145 then (bif Nat.blt t 143 then 1 else (bif Nat.blt t 144 then 1 else 1)) else (bif Nat.blt t 146 then 5 else (bif Nat.blt t 147 then 1 else 1))) else (bif Nat.blt t 151 then (bif Nat.blt t 149 then 1 else (bif Nat.blt t 150 then 1 else 0)) else (bif Nat.blt t 152 then 1 else (bif Nat.blt t 153 then 1 else 1)))) else (bif Nat.blt t 160 then (bif Nat.blt t 157 then (bif Nat.blt t 155 then 0 else (bif Nat.blt t 156 then 1 else 1)) else (bif Nat.blt t 158 then 1 else (bif Nat.blt t 159 then 1 else 1))) else (bif Nat.blt t 163 then (bif Nat.blt t 161 then 1 else (bif Nat.blt t 162 then 1 else 1)) else (bif Nat.blt t 164 then 1 else (bif Nat.blt t 165 then 1 else 1))))) else (bif Nat.blt t 178 then (bif Nat.blt t 172 then (bif Nat.blt t 169 then (bif Nat.blt t 167 then 1 else (bif Nat.blt t 168 then 1 else 1)) else (bif Nat.blt t 170 then 1 else (bif Nat.blt t 171 then 1 else 1))) else (bif Nat.blt t 175 then (bif Nat.blt t 173 then 0 else (bif Nat.blt t 174 then 1 else 1)) else (bif Nat.blt t 176 then 4 else (bif Nat.blt t 177 then 4 else 0)))) else (bif Nat.blt t 184 then (bif Nat.blt t 181 then (bif Nat.blt t 179 then 0 else (bif Nat.blt t 180 then 0 else 1)) else (bif Nat.blt t 182 then 1 else (bif Nat.blt t 183 then 1 else 1))) else (bif Nat.blt t 187 then (bif Nat.blt t 185 then 1 else (bif Nat.blt t 186 then 1 else 1)) else (bif Nat.blt t 188 then 11 else (bif Nat.blt t 189 then 11 else 0)))))))) else 0
def tb (t : TypeId) : Nat := bif Nat.blt t 190 then (bif Nat.blt t 95 then (bif Nat.blt t 47 then (bif Nat.blt t 23 then (bif Nat.blt t 11 then (bif Nat.blt t 5 then (bif Nat.blt t 2 then (bif Nat.blt t 1 then 0 else 8) else (bif Nat.blt t 3 then 8 else (bif Nat.blt t 4 then 8 else 1))) else (bif Nat.blt t 8 then (bif Nat.blt t 6 then 1 else (bif Nat.blt t 7 then 1 else 24)) else (bif Nat.blt t 9 then 24 else (bif Nat.blt t 10 then 16 else 16)))) else (bif Nat.blt t 17 then (bif Nat.blt t 14 then (bif Nat.blt t 12 then 16 else (bif Nat.blt t 13 then 8 else 24)) else (bif Nat.blt t 15 then 24 else (bif Nat.blt t 16 then 8 else 8))) else (bif Nat.blt t 20 then (bif Nat.blt t 18 then 8 else (bif Nat.blt t 19 then 8 else 8)) else (bif Nat.blt t 21 then 0 else (bif Nat.blt t 22 then 4 else 24))))) else (bif Nat.blt t 35 then (bif Nat.blt t 29 then (bif Nat.blt t 26 then (bif Nat.blt t 24 then 16 else (bif Nat.blt t 25 then 32 else 24)) else (bif Nat.blt t 27 then 24 else (bif Nat.blt t 28 then 32 else 32))) else (bif Nat.blt t 32 then (bif Nat.blt t 30 then 120 else (bif Nat.blt t 31 then 120 else 24)) else (bif Nat.blt t 33 then 24 else (bif Nat.blt t 34 then 24 else 176)))) else (bif Nat.blt t 41 then (bif Nat.blt t 38 then (bif Nat.blt t 36 then 176 else (bif Nat.blt t 37 then 8 else 24)) else (bif Nat.blt t 39 then 8 else (bif Nat.blt t 40 then 8 else 8))) else (bif Nat.blt t 44 then (bif Nat.blt t 42 then 8 else (bif Nat.blt t 43 then 8 else 8)) else (bif Nat.blt t 45 then 8 else (bif Nat.blt t 46 then 24 else 200)))))) else (bif Nat.blt t 71 then (bif Nat.blt t 59 then (bif Nat.blt t 53 then (bif Nat.blt t 50 then (bif Nat.blt t 48 then 200 else (bif Nat.blt t 49 then 8 else 8)) else (bif Nat.blt t 51 then 24 else (bif Nat.blt t 52 then 24 else 104))) else (bif Nat.blt t 56 then (bif Nat.blt t 54 then 104 else (bif Nat.blt t 55 then 8 else 8)) else (bif Nat.blt t 57 then 24 else (bif Nat.blt t 58 then 24 else 0)))) else (bif Nat.blt t 65 then (bif Nat.blt t 62 then (bif Nat.blt t 60 then 8 else (bif Nat.blt t 61 then 8 else 8)) else (bif Nat.blt t 63 then 8 else (bif Nat.blt t 64 then 24 else 0))) else (bif Nat.blt t 68 then (bif Nat.blt t 66 then 8 else (bif Nat.blt t 67 then 8 else 8)) else (bif Nat.blt t 69 then 8 else (bif Nat.blt t 70 then 32 else 32))))) else (bif Nat.blt t 83 then (bif Nat.blt t 77 then (bif Nat.blt t 74 then (bif Nat.blt t 72 then 24 else (bif Nat.blt t 73 then 8 else 8)) else (bif Nat.blt t 75 then 0 else (bif Nat.blt t 76 then 8 else 24))) else (bif Nat.blt t 80 then (bif Nat.blt t 78 then 8 else (bif Nat.blt t 79 then 24 else 24)) else (bif Nat.blt t 81 then 8 else (bif Nat.blt t 82 then 8 else 8)))) else (bif Nat.blt t 89 then (bif Nat.blt t 86 then (bif Nat.blt t 84 then 8 else (bif Nat.blt t 85 then 24 else 8)) else (bif Nat.blt t 87 then 8 else (bif Nat.blt t 88 then 8 else 8))) else (bif Nat.blt t 92 then (bif Nat.blt t 90 then 8 else (bif Nat.blt t 91 then 8 else 8)) else (bif Nat.blt t 93 then 8 else (bif Nat.blt t 94 then 8 else 8))))))) else (bif Nat.blt t 142 then (bif Nat.blt t 118 then (bif Nat.blt t 106 then (bif Nat.blt t 100 then (bif Nat.blt t 97 then (bif Nat.blt t 96 then 8 else 0) else (bif Nat.blt t 98 then 8 else (bif Nat.blt t 99 then 8 else 0))) else (bif Nat.blt t 103 then (bif Nat.blt t 101 then 8 else (bif Nat.blt t 102 then 8 else 8)) else (bif Nat.blt t 104 then 8 else (bif Nat.blt t 105 then 8 else 8)))) else (bif Nat.blt t 112 then (bif Nat.blt t 109 then (bif Nat.blt t 107 then 8 else (bif Nat.blt t 108 then 8 else 8)) else (bif Nat.blt t 110 then 8 else (bif Nat.blt t 111 then 8 else 8))) else (bif Nat.blt t 115 then (bif Nat.blt t 113 then 8 else (bif Nat.blt t 114 then 8 else 8)) else (bif Nat.blt t 116 then 8 else (bif Nat.blt t 117 then 8 else 8))))) else (bif Nat.blt t 130 then (bif Nat.blt t 124 then (bif Nat.blt t 121 then (bif Nat.blt t 119 then 8 else (bif Nat.blt t 120 then 8 else 8)) else (bif Nat.blt t 122 then 8 else (bif Nat.blt t 123 then 8 else 8))) else (bif Nat.blt t 127 then (bif Nat.blt t 125 then 16 else (bif Nat.blt t 126 then 16 else 0)) else (bif Nat.blt t 128 then 8 else (bif Nat.blt t 129 then 8 else 8)))) else (bif Nat.blt t 136 then (bif Nat.blt t 133 then (bif Nat.blt t 131 then 8 else (bif Nat.blt t 132 then 8 else 8)) else (bif Nat.blt t 134 then 8 else (bif Nat.blt t 135 then 8 else 8))) else (bif Nat.blt t 139 then (bif Nat.blt t 137 then 8 else (bif Nat.blt t 138 then 8 else 8)) else (bif Nat.blt t 140 then 8 else (bif Nat.blt t 141 then 8 else 8)))))) else (bif Nat.blt t 166 then (bif Nat.blt t 154 then (bif Nat.blt t 148 then (bif Nat.blt t 145 then (bif Nat.blt t 143 then 8 else (bif Nat.blt t 144 then 8 else 8)) else (bif Nat.blt t 146 then 40 else (bif Nat.blt t 147 then 8 else 8))) else (bif Nat.blt t 151 then (bif Nat.blt t 149 then 8 else (bif Nat.blt t 150 then 8 else 0)) else (bif Nat.blt t 152 then 8 else (bif Nat.blt t 153 then 8 else 8)))) else (bif Nat.blt t 160 then (bif Nat.blt t 157 then (bif Nat.blt t 155 then 0 else (bif Nat.blt t 156 then 8 else 8)) else (bif Nat.blt t 158 then 4 else (bif Nat.blt t 159 then 8 else 8))) else (bif Nat.blt t 163 then (bif Nat.blt t 161 then 8 else (bif Nat.blt t 162 then 8 else 8)) else (bif Nat.blt t 164 then 8 else (bif Nat.blt t 165 then 8 else 8))))) else (bif Nat.blt t 178 then (bif Nat.blt t 172 then (bif Nat.blt t 169 then (bif Nat.blt t 167 then 8 else (bif Nat.blt t 168 then 8 else 8)) else (bif Nat.blt t 170 then 8 else (bif Nat.blt t 171 then 24 else 8))) else (bif Nat.blt t 175 then (bif Nat.blt t 173 then 0 else (bif Nat.blt t 174 then 8 else 8)) else (bif Nat.blt t 176 then 40 else (bif Nat.blt t 177 then 40 else 0)))) else (bif Nat.blt t 184 then (bif Nat.blt t 181 then (bif Nat.blt t 179 then 0 else (bif Nat.blt t 180 then 0 else 8)) else (bif Nat.blt t 182 then 1 else (bif Nat.blt t 183 then 1 else 8))) else (bif Nat.blt t 187 then (bif Nat.blt t 185 then 8 else (bif Nat.blt t 186 then 4 else 4)) else (bif Nat.blt t 188 then 48 else (bif Nat.blt t 189 then 48 else 0)))))))) else 0
def t0 (t : TypeId) : List C := bif Nat.blt t 190 then (bif Nat.blt t 95 then (bif Nat.blt t 47 then (bif Nat.blt t 23 then (bif Nat.blt t 11 then (bif Nat.blt t 5 then (bif Nat.blt t 2 then (bif Nat.blt t 1 then [] else [.nilf]) else (bif Nat.blt t 3 then [.d (.int .i64 0)] else (bif Nat.blt t 4 then [.d (.int .i64 0)] else [.d (.bool false)]))) else (bif Nat.blt t 8 then (bif Nat.blt t 6 then [.d (.int .u8 0)] else (bif Nat.blt t 7 then [.d (.int .u8 0)] else [.d (.int .i64 0), .d (.int .i64 0), .d (.bool false), .d (.int .u8 0)])) else (bif Nat.blt t 9 then [.d (.int .i64 0), .d (.int .i64 0), .d (.bool false), .d (.int .u8 0)] else (bif Nat.blt t 10 then [.d (.str ⟨#[]⟩)] else [.d (.str ⟨#[]⟩)])))) else (bif Nat.blt t 17 then (bif Nat.blt t 14 then (bif Nat.blt t 12 then [.d (.str ⟨#[]⟩)] else (bif Nat.blt t 13 then [.d (.int .u64 0)] else [.d (.str ⟨#[]⟩), .d (.int .u64 0)])) else (bif Nat.blt t 15 then [.d (.str ⟨#[]⟩), .d (.int .u64 0)] else (bif Nat.blt t 16 then [.nilp] else [.nilp]))) else (bif Nat.blt t 20 then (bif Nat.blt t 18 then [.nilp] else (bif Nat.blt t 19 then [.nilp] else [.nilp])) else (bif Nat.blt t 21 then [] else (bif Nat.blt t 22 then [.d (.int .i32 0)] else [.nils]))))) else (bif Nat.blt t 35 then (bif Nat.blt t 29 then (bif Nat.blt t 26 then (bif Nat.blt t 24 then [.d (.int .i64 0), .d (.int .i64 0)] else (bif Nat.blt t 25 then [.d (.int .i64 0), .d (.int .i64 0), .d (.int .i64 0), .d (.int .i64 0)] else [.nils])) else (bif Nat.blt t 27 then [.nils] else (bif Nat.blt t 28 then [.d (.int .i64 0), .d (.int .i64 0), .d (.int .i64 0), .d (.int .i64 0)] else [.d (.int .i64 0), .d (.int .i64 0), .d (.int .i64 0), .d (.int .i64 0)]))) else (bif Nat.blt t 32 then (bif Nat.blt t 30 then [.d (.int .i64 0), .d (.int .i64 0), .d (.int .i64 0), .d (.int .i64 0), .d (.int .i64 0), .nils, .nils, .d (.int .i64 0), .d (.int .i64 0), .d (.int .i64 0), .d (.int .i64 0)] else (bif Nat.blt t 31 then [.d (.int .i64 0), .d (.int .i64 0), .d (.int .i64 0), .d (.int .i64 0), .d (.int .i64 0), .nils, .nils, .d (.int .i64 0), .d (.int .i64 0), .d (.int .i64 0), .d (.int .i64 0)] else [.d (.int .i64 0), .d (.int .i64 0), .d (.int .i64 0)])) else (bif Nat.blt t 33 then [.d (.int .i64 0), .d (.int .i64 0), .d (.int .i64 0)] else (bif Nat.blt t 34 then [.nils] else [.d (.int .i64 0), .d (.int .i64 0), .d (.int .i64 0), .d (.int .i64 0), .d (.int .i64 0), .nils, .nils, .d (.int .i64 0), .d (.int .i64 0), .d (.int .i64 0), .d (.int .i64 0), .d (.int .i64 0), .d (.int .i64 0), .d (.int .i64 0), .d (.int .i64 0), .nils])))) else (bif Nat.blt t 41 then (bif Nat.blt t 38 then (bif Nat.blt t 36 then [.d (.int .i64 0), .d (.int .i64 0), .d (.int .i64 0), .d (.int .i64 0), .d (.int .i64 0), .nils, .nils, .d (.int .i64 0), .d (.int .i64 0), .d (.int .i64 0), .d (.int .i64 0), .d (.int .i64 0), .d (.int .i64 0), .d (.int .i64 0), .d (.int .i64 0), .nils] else (bif Nat.blt t 37 then [.nilf] else [.nils])) else (bif Nat.blt t 39 then [.nilf] else (bif Nat.blt t 40 then [.nilf] else [.nilf]))) else (bif Nat.blt t 44 then (bif Nat.blt t 42 then [.d (.int .i64 0)] else (bif Nat.blt t 43 then [.nilf] else [.nilf])) else (bif Nat.blt t 45 then [.nilf] else (bif Nat.blt t 46 then [.nils] else [.d (.int .i64 0), .d (.int .i64 0), .d (.int .i64 0), .d (.int .i64 0), .d (.int .i64 0), .d (.int .i64 0), .d (.int .i64 0), .d (.int .i64 0), .nils, .nils, .d (.int .i64 0), .d (.int .i64 0), .d (.int .i64 0), .d (.int .i64 0), .d (.int .i64 0), .d (.int .i64 0), .d (.int .i64 0), .d (.int .i64 0), .nils])))))) else (bif Nat.blt t 71 then (bif Nat.blt t 59 then (bif Nat.blt t 53 then (bif Nat.blt t 50 then (bif Nat.blt t 48 then [.d (.int .i64 0), .d (.int .i64 0), .d (.int .i64 0), .d (.int .i64 0), .d (.int .i64 0), .d (.int .i64 0), .d (.int .i64 0), .d (.int .i64 0), .nils, .nils, .d (.int .i64 0), .d (.int .i64 0), .d (.int .i64 0), .d (.int .i64 0), .d (.int .i64 0), .d (.int .i64 0), .d (.int .i64 0), .d (.int .i64 0), .nils] else (bif Nat.blt t 49 then [.nilf] else [.nilf])) else (bif Nat.blt t 51 then [.d (.int .i64 0), .d (.str ⟨#[]⟩)] else (bif Nat.blt t 52 then [.d (.int .i64 0), .d (.str ⟨#[]⟩)] else [.d (.int .i64 0), .d (.str ⟨#[]⟩), .d (.int .i64 0), .d (.int .i64 0), .d (.int .i64 0), .nils, .d (.int .i64 0), .nils]))) else (bif Nat.blt t 56 then (bif Nat.blt t 54 then [.d (.int .i64 0), .d (.str ⟨#[]⟩), .d (.int .i64 0), .d (.int .i64 0), .d (.int .i64 0), .nils, .d (.int .i64 0), .nils] else (bif Nat.blt t 55 then [.nilf] else [.nilf])) else (bif Nat.blt t 57 then [.nils] else (bif Nat.blt t 58 then [.nils] else [])))) else (bif Nat.blt t 65 then (bif Nat.blt t 62 then (bif Nat.blt t 60 then [.nilf] else (bif Nat.blt t 61 then [.nilf] else [.nilf])) else (bif Nat.blt t 63 then [.nilf] else (bif Nat.blt t 64 then [.d (.int .i64 0), .d (.int .i64 0), .d (.int .i64 0)] else []))) else (bif Nat.blt t 68 then (bif Nat.blt t 66 then [.nilf] else (bif Nat.blt t 67 then [.nilf] else [.nilf])) else (bif Nat.blt t 69 then [.nilp] else (bif Nat.blt t 70 then [.nils, .d (.int .i64 0)] else [.nils, .d (.int .i64 0)]))))) else (bif Nat.blt t 83 then (bif Nat.blt t 77 then (bif Nat.blt t 74 then (bif Nat.blt t 72 then [.nils] else (bif Nat.blt t 73 then [.nilf] else [.nilf])) else (bif Nat.blt t 75 then [] else (bif Nat.blt t 76 then [.nilf] else [.nils]))) else (bif Nat.blt t 80 then (bif Nat.blt t 78 then [.nilf] else (bif Nat.blt t 79 then [.d (.str ⟨#[]⟩), .d (.int .i64 0)] else [.d (.str ⟨#[]⟩), .d (.int .i64 0)])) else (bif Nat.blt t 81 then [.nilf] else (bif Nat.blt t 82 then [.nilf] else [.nilf])))) else (bif Nat.blt t 89 then (bif Nat.blt t 86 then (bif Nat.blt t 84 then [.nilf] else (bif Nat.blt t 85 then [.nils] else [.nilf])) else (bif Nat.blt t 87 then [.nilf] else (bif Nat.blt t 88 then [.nilf] else [.nilf]))) else (bif Nat.blt t 92 then (bif Nat.blt t 90 then [.nilf] else (bif Nat.blt t 91 then [.nilf] else [.nilf])) else (bif Nat.blt t 93 then [.nilf] else (bif Nat.blt t 94 then [.nilf] else [.nilf]))))))) else (bif Nat.blt t 142 then (bif Nat.blt t 118 then (bif Nat.blt t 106 then (bif Nat.blt t 100 then (bif Nat.blt t 97 then (bif Nat.blt t 96 then [.nilf] else []) else (bif Nat.blt t 98 then [.nilf] else (bif Nat.blt t 99 then [.nilf] else []))) else (bif Nat.blt t 103 then (bif Nat.blt t 101 then [.nilf] else (bif Nat.blt t 102 then [.nilf] else [.nilf])) else (bif Nat.blt t 104 then [.nilf] else (bif Nat.blt t 105 then [.nilf] else [.nilf])))) else (bif Nat.blt t 112 then (bif Nat.blt t 109 then (bif Nat.blt t 107 then [.nilf] else (bif Nat.blt t 108 then [.nilf] else [.nilf])) else (bif Nat.blt t 110 then [.nilf] else (bif Nat.blt t 111 then [.nilf] else [.nilf]))) else (bif Nat.blt t 115 then (bif Nat.blt t 113 then [.nilf] else (bif Nat.blt t 114 then [.nilf] else [.nilf])) else (bif Nat.blt t 116 then [.nilf] else (bif Nat.blt t 117 then [.nilf] else [.nilf]))))) else (bif Nat.blt t 130 then (bif Nat.blt t 124 then (bif Nat.blt t 121 then (bif Nat.blt t 119 then [.nilf] else (bif Nat.blt t 120 then [.nilf] else [.nilf])) else (bif Nat.blt t 122 then [.nilf] else (bif Nat.blt t 123 then [.nilf] else [.nilf]))) else (bif Nat.blt t 127 then (bif Nat.blt t 125 then [.d (.int .i64 0), .d (.int .i64 0)] else (bif Nat.blt t 126 then [.d (.int .i64 0), .d (.int .i64 0)] else [])) else (bif Nat.blt t 128 then [.nilf] else (bif Nat.blt t 129 then [.nilf] else [.nilm])))) else (bif Nat.blt t 136 then (bif Nat.blt t 133 then (bif Nat.blt t 131 then [.nilf] else (bif Nat.blt t 132 then [.nilf] else [.nilf])) else (bif Nat.blt t 134 then [.d (.int .u64 0)] else (bif Nat.blt t 135 then [.nilf] else [.nilf]))) else (bif Nat.blt t 139 then (bif Nat.blt t 137 then [.nilf] else (bif Nat.blt t 138 then [.nilf] else [.nilf])) else (bif Nat.blt t 140 then [.nilf] else (bif Nat.blt t 141 then [.nilf] else [.nilf])))))) else (bif Nat.blt t 166 then (bif Nat.blt t 154 then (bif Nat.blt t 148 then (bif Nat.blt t 145 then (bif Nat.blt t 143 then [.nilf] else (bif Nat.blt t 144 then [.nilf] else [.nilf])) else (bif Nat.blt t 146 then [.nilf, .nilf, .nilf, .nilf, .nilf] else (bif Nat.blt t 147 then [.nilf] else [.nilf]))) else (bif Nat.blt t 151 then (bif Nat.blt t 149 then [.nilf] else (bif Nat.blt t 150 then [.d (.int .i64 0)] else [])) else (bif Nat.blt t 152 then [.nilf] else (bif Nat.blt t 153 then [.nilf] else [.nilf])))) else (bif Nat.blt t 160 then (bif Nat.blt t 157 then (bif Nat.blt t 155 then [] else (bif Nat.blt t 156 then [.nilf] else [.nilf])) else (bif Nat.blt t 158 then [.d (.int .u32 0)] else (bif Nat.blt t 159 then [.nilf] else [.d (.int .u64 0)]))) else (bif Nat.blt t 163 then (bif Nat.blt t 161 then [.nilf] else (bif Nat.blt t 162 then [.nilf] else [.d (.int .u64 0)])) else (bif Nat.blt t 164 then [.nilf] else (bif Nat.blt t 165 then [.nilf] else [.nilf]))))) else (bif Nat.blt t 178 then (bif Nat.blt t 172 then (bif Nat.blt t 169 then (bif Nat.blt t 167 then [.nilp] else (bif Nat.blt t 168 then [.nilf] else [.nilf])) else (bif Nat.blt t 170 then [.nilf] else (bif Nat.blt t 171 then [.nils] else [.nilp]))) else (bif Nat.blt t 175 then (bif Nat.blt t 173 then [] else (bif Nat.blt t 174 then [.nilf] else [.nilf])) else (bif Nat.blt t 176 then [.nilp, .nilp, .nilp, .d (.str ⟨#[]⟩)] else (bif Nat.blt t 177 then [.nilp, .nilp, .nilp, .d (.str ⟨#[]⟩)] else [])))) else (bif Nat.blt t 184 then (bif Nat.blt t 181 then (bif Nat.blt t 179 then [] else (bif Nat.blt t 180 then [] else [.nilf])) else (bif Nat.blt t 182 then [.d (.int .u8 0)] else (bif Nat.blt t 183 then [.d (.int .u8 0)] else [.nilf]))) else (bif Nat.blt t 187 then (bif Nat.blt t 185 then [.nilp] else (bif Nat.blt t 186 then [.d (.int .i32 0)] else [.d (.int .i32 0)])) else (bif Nat.blt t 188 then [.d (.int .u64 0), .d (.int .u64 0), .d (.int .u32 0), .d (.int .u8 0), .d (.int .u8 0), .d (.int .u8 0), .d (.int .u8 0), .nilf, .nilp, .d (.int .i32 0), .d (.int .i32 0)] else (bif Nat.blt t 189 then [.d (.int .u64 0), .d (.int .u64 0), .d (.int .u32 0), .d (.int .u8 0), .d (.int .u8 0), .d (.int .u8 0), .d (.int .u8 0), .nilf, .nilp, .d (.int .i32 0), .d (.int .i32 0)] else [])))))))) else []
def tip : FuncId → Option (List Int → List Int)
  | 59 => some q01
  | _ => none
def T : Ty := ⟨tk, tz, tb, t0, tip⟩
theorem qtW : (List.range 190).all (fun t => decide (T.k t = .other) || Ty.okAt Tryz.prog T t) = true := by kernel_rfl
theorem qmP (t : Nat) (h : 190 ≤ t) : T.k t = .other := by
  have hb : Nat.blt t 190 = false := by
    cases h' : Nat.blt t 190 with
    | false => rfl
    | true => exact absurd (Nat.le_of_ble_eq_true h') (by omega)
  show tk t = .other
  unfold tk
  rw [hb]
  rfl
theorem qyi : ∀ t, T.k t = .other ∨ Ty.okAt Tryz.prog T t = true := fun t => by
  rcases Nat.lt_or_ge t 190 with h | h
  · have := List.all_eq_true.1 qtW t (List.mem_range.2 h)
    simp only [Bool.or_eq_true, decide_eq_true_eq] at this
    exact this
  · exact .inl (qmP t h)
theorem qA7 : ∀ g h, T.ip g = some h → qro Tryz.prog g h := by
  intro g h hg
  replace hg : tip g = some h := hg
  unfold tip at hg
  split at hg
  · injection hg with hg; subst hg; exact qzZ
  · cases hg
theorem qof : Ag Tryz.prog T := ⟨qyi, qA7⟩
theorem k3 : T.k 3 = .int .i64 := rfl
theorem k4 : T.k 4 = .bool := rfl
theorem k9 : T.k 9 = .str := rfl
theorem k22 : T.k 22 = .sl 45 := rfl
theorem k23 : T.k 23 = .arr 2 3 := rfl
theorem k25 : T.k 25 = .sl 9 := rfl
theorem k26 : T.k 26 = .sl 79 := rfl
theorem k28 : T.k 28 = .st [(0, 3), (1, 3), (2, 3), (3, 3)] := rfl
theorem k30 : T.k 30 = .st [(0, 3), (1, 3), (2, 3), (3, 3), (4, 3), (5, 25), (6, 26), (7, 28)] := rfl
theorem k32 : T.k 32 = .st [(0, 3), (1, 3), (2, 3)] := rfl
theorem k33 : T.k 33 = .sl 53 := rfl
theorem k35 : T.k 35 = .st [(0, 30), (11, 3), (12, 32), (15, 33)] := rfl
theorem k37 : T.k 37 = .sl 30 := rfl
theorem k45 : T.k 45 = .sl 3 := rfl
theorem k47 : T.k 47 = .st [(0, 3), (1, 23), (3, 35)] := rfl
theorem k51 : T.k 51 = .st [(0, 3), (1, 9)] := rfl
theorem k53 : T.k 53 = .st [(0, 51), (2, 3), (3, 3), (4, 3), (5, 45), (6, 3), (7, 45)] := rfl
theorem k56 : T.k 56 = .sl 32 := rfl
theorem k57 : T.k 57 = .sl 33 := rfl
theorem k70 : T.k 70 = .st [(0, 45), (1, 3)] := rfl
theorem k79 : T.k 79 = .st [(0, 9), (1, 3)] := rfl
theorem k81 : T.k 81 = .fn := rfl
theorem k84 : T.k 84 = .sl 25 := rfl
theorem qzE : T.k 125 = .st [(0, 3), (1, 3)] := rfl
theorem qxo : T.k 129 = .mp 3 4 := rfl
theorem qxO : T.k 144 = .st [(0, 81)] := rfl
theorem qx8 : T.k 145 = .arr 5 144 := rfl
theorem qxq : T.k 159 = .int .u64 := rfl
theorem qxx : T.k 170 = .sl 159 := rfl
theorem z3 : T.sz 3 = 1 := rfl
theorem z9 : T.sz 9 = 1 := rfl
theorem z23 : T.sz 23 = 2 := rfl
theorem z25 : T.sz 25 = 1 := rfl
theorem z26 : T.sz 26 = 1 := rfl
theorem z28 : T.sz 28 = 4 := rfl
theorem z30 : T.sz 30 = 11 := rfl
theorem z32 : T.sz 32 = 3 := rfl
theorem z33 : T.sz 33 = 1 := rfl
theorem z35 : T.sz 35 = 16 := rfl
theorem z45 : T.sz 45 = 1 := rfl
theorem z46 : T.sz 46 = 19 := rfl
theorem z51 : T.sz 51 = 2 := rfl
theorem z53 : T.sz 53 = 8 := rfl
theorem z79 : T.sz 79 = 2 := rfl
theorem z81 : T.sz 81 = 1 := rfl
theorem qxL : T.sz 125 = 2 := rfl
theorem z131 : T.sz 131 = 1 := rfl
theorem qya : T.sz 144 = 1 := rfl
theorem qyo : T.sz 145 = 5 := rfl
theorem qyO : T.sz 159 = 1 := rfl
theorem z182 : T.sz 182 = 1 := rfl
theorem z183 : T.sz 183 = 1 := rfl
theorem b3 : T.by_ 3 = 8 := rfl
theorem b9 : T.by_ 9 = 16 := rfl
theorem b30 : T.by_ 30 = 120 := rfl
theorem b45 : T.by_ 45 = 24 := rfl
theorem b53 : T.by_ 53 = 104 := rfl
theorem b79 : T.by_ 79 = 24 := rfl
theorem o3 : T.zero 3 = [.d (.int .i64 0)] := rfl
theorem o4 : T.zero 4 = [.d (.bool false)] := rfl
theorem o9 : T.zero 9 = [.d (.str ⟨#[]⟩)] := rfl
theorem o28 : T.zero 28 = [.d (.int .i64 0), .d (.int .i64 0), .d (.int .i64 0), .d (.int .i64 0)] := rfl
theorem o30 : T.zero 30 = [.d (.int .i64 0), .d (.int .i64 0), .d (.int .i64 0), .d (.int .i64 0), .d (.int .i64 0), .nils, .nils, .d (.int .i64 0), .d (.int .i64 0), .d (.int .i64 0), .d (.int .i64 0)] := rfl
theorem o32 : T.zero 32 = [.d (.int .i64 0), .d (.int .i64 0), .d (.int .i64 0)] := rfl
theorem o45 : T.zero 45 = [.nils] := rfl
theorem o51 : T.zero 51 = [.d (.int .i64 0), .d (.str ⟨#[]⟩)] := rfl
theorem o53 : T.zero 53 = [.d (.int .i64 0), .d (.str ⟨#[]⟩), .d (.int .i64 0), .d (.int .i64 0), .d (.int .i64 0), .nils, .d (.int .i64 0), .nils] := rfl
theorem o70 : T.zero 70 = [.nils, .d (.int .i64 0)] := rfl
theorem o79 : T.zero 79 = [.d (.str ⟨#[]⟩), .d (.int .i64 0)] := rfl
theorem qyV : T.zero 125 = [.d (.int .i64 0), .d (.int .i64 0)] := rfl
theorem qzK : T.zero 144 = [.nilf] := rfl
theorem qyZ : T.zero 145 = [.nilf, .nilf, .nilf, .nilf, .nilf] := rfl
end Go.Proofs.YtplfjlcnffcenaaGreat.Vc
