/- Part 3 of a proof. -/
import Derived.Test.YtplfjlcnffcenaaM2
import Derived.Shelf.SlMaps.Clone
import Derived.Test.YtplfjlcnffcenaaProg
import Derived.Shelf.Sort.Plain
import Derived.Shelf.Slices.In.SortNone
import Derived.Sort.OwnSortedInts
import Derived.TacticsInMore
import Derived.Below
set_option linter.unusedVariables false
set_option linter.unusedSimpArgs false
set_option linter.defProp false
set_option linter.unusedSectionVars false
set_option linter.unnecessarySimpa false
namespace Go.Proofs.Ytplfjlcnffcenaa.Vc
open Go.RowKit
def qaD (fp : Fp) (t : S) : Prop := fp.X = [] ∨ ((∀ d, d ∉ fp.ks → (t.get d).fgL fp.X = t.get d) ∧ ∀ x, x ∉ fp.wb → (t.blk x).fgL fp.X = t.blk x)
def Loc (P : Program) (o : Oper) (s : S) (r : R) (us : List (Nat × B)) (fp : Fp) : Prop :=
  ∀ (cx : Cx) (ρ : Pl) (t : S) (a : Act) (w : World) (next : Act → World → Prop) (Q : Exit → Act → World → Prop), (∀ y ∈ o.op.operands.toList, t.ev y = s.ev y) → (∀ x, x ∈ fp.rb ∨ x ∈ fp.wb → t.blk x = s.blk x) → qaD fp t → (fp.nw ≠ [] → ∀ x, t.live x → x < s.nx) → Sim cx ρ t a w →
    (∀ ρ' t' v w', (∀ d, d ∉ fp.ks → t'.get d = t.get d) → (∀ x, t'.blk x = lk us x (t.blk x)) → t'.n = t.n → Sim cx ρ' t' a w' → RR w' t'.live ρ' v r → next (a.put o.dst v) w') → o.wpIn (FW cx.ro) 0 P a w next Q
theorem qn6 {X : List Nat} {x : C} (h : x.farF X = true) : x.fgL X = x := by
  cases x with
  | ptr i o => simp only [C.farF, C.farL, Bool.not_eq_true'] at h; simp only [C.fgL, h]; rfl
  | hd k i => simp only [C.farF, C.farL, Bool.not_eq_true'] at h; simp only [C.fgL, h]; rfl
  | own i sz o n => simp only [C.farF, C.farL, Bool.not_eq_true'] at h; simp only [C.fgL, h]; rfl
  | fn f fs caps => simp only [C.farF] at h; simp only [C.fgL, h, if_true]
  | _ => rfl
theorem qe6 {X : List Nat} {xs : List C} (h : xs.all (C.farF X) = true) : xs.map (C.fgL X) = xs := by
  induction xs with
  | nil => rfl
  | cons x xs ih =>
    simp only [List.all_cons, Bool.and_eq_true] at h
    rw [List.map_cons, qn6 h.1, ih h.2]
theorem qkM {X : List Nat} {r : R} (h : r.farL X = true) : r.fgL X = r := by
  cases r with
  | c x => simp only [R.farL] at h; simp only [R.fgL]; rw [qn6 h]
  | agg xs => simp only [R.farL] at h; simp only [R.fgL]; rw [qe6 h]
  | tup rs =>
    simp only [R.farL] at h
    simp only [R.fgL, h, if_true]
    rw [List.isEmpty_iff] at h
    rw [h]
  | any => rfl
theorem qlP {X : List Nat} {b : B} (h : b.farL X = true) : b.fgL X = b := by
  cases b with
  | blk t cs => simp only [B.farL] at h; simp only [B.fgL]; rw [qe6 h]
  | row e sz cs => simp only [B.farL] at h; simp only [B.fgL]; rw [qe6 h]
  | ob o =>
    simp only [B.farL] at h
    simp only [B.fgL]
    rw [AO.mapR_congr (f := fun x => x) fun x hx => qkM (List.all_eq_true.1 h x hx), AO.mapR_id]
  | dead => rfl
section
variable {P : Program} {T : Ty} {po : Pol} {E : Orc} {s s1 : S} {r : R} {o : Oper}
theorem qcQ {α : Type} (i x : Nat) (b z : α) : lk [(i, b)] x z = if i = x then b else z := rfl
theorem q8Q {s : S} {op : Op} (h : Jm op = true) : isY s op = false := by
  unfold isY
  split
  · cases h
  · rfl
theorem qft (hA : Ag P T) (hE : Snd P E) (hop : Jm o.op = true) (h : xo P T po E s o.op = some (r, s1)) (hnx : s.blk s.nx = .dead) {X : List Nat} :
    Loc P o s r ((if q3l o.op = true then [s.nx] else []).map fun x => (x, s1.blk x)) ⟨qaC s o.op, if q3l o.op = true then [s.nx] else [], X, [], []⟩ := by
  intro cx ρ t a w next Q hev hblk _ _ hs hn
  have hox := qfm hE (K := fun r' s'' => r' = r ∧ s'' = s1) (q8Q hop) h ⟨rfl, rfl⟩
  obtain ⟨r', us', ⟨rfl, h2⟩, h3, h4⟩ := q9R (t := t) hop hev (fun id hid => hblk id (.inl hid)) hox
  have fin : ∀ q, ¬ t.live q → (us' = [] ∨ q = s.nx) → o.wpIn (FW cx.ro) 0 P a w next Q := by
    intro q hq hq2
    refine q3z hA hq hs (h4 q (fun r'' s'' => r'' = r' ∧ s'' = t.up us') hq2 ⟨rfl, rfl⟩) ?_
    rintro r'' s'' ρ' v w' ⟨rfl, rfl⟩ g1 g2
    refine hn ρ' (t.up us') v w' (fun d _ => rfl) (fun x => ?_) rfl g1 g2
    rcases h3 with rfl | ⟨ha, b, rfl⟩
    · have : s1 = s := h2.symm
      subst this
      split
      · rename_i ha
        show t.blk x = lk [(s1.nx, s1.blk s1.nx)] x (t.blk x)
        rw [qcQ]
        split
        · rename_i hx; subst hx; exact hblk _ (.inr (by rw [if_pos ha]; exact List.mem_cons_self))
        · rfl
      · rfl
    · rw [if_pos ha, S.blk_up]
      show _ = lk [(s.nx, s1.blk s.nx)] x (t.blk x)
      rw [qcQ, ← h2, S.blk_up, if_pos rfl]
  by_cases hu : us' = []
  · exact fin t.nx (fun h => by have := hs.nx _ h; omega) (.inl hu)
  · obtain ⟨ha, -⟩ := h3.resolve_left hu
    refine fin s.nx (fun h => ?_) (.inr rfl)
    unfold S.live at h
    rw [hblk s.nx (.inr (by simp [ha])), hnx] at h
    cases h
theorem qcg (hA : Ag P T) {ty : TypeId} {x y : Operand} {id off : Nat} (ho : o.op = .store ty x y) (hx : s.ev x = .c (.ptr id off)) (h : q0u T s ty x y = some (r, s1)) {X : List Nat} : Loc P o s r ([id].map fun x => (x, s1.blk x)) ⟨[], [id], X, [], []⟩ := by
  intro cx ρ t a w next Q hev hblk _ _ hs hn
  have e1 := hev x (by rw [ho]; simp [Op.operands])
  have e2 := hev y (by rw [ho]; simp [Op.operands])
  have hb := hblk id (.inr List.mem_cons_self)
  have hl : s.live id := by
    unfold q0u at h
    rw [hx] at h
    simp only at h
    split at h
    · rename_i ys hys
      split at h
      · rename_i hc
        have hq := hs.ev x
        rw [e1, hx] at hq
        obtain ⟨b, cap, q1, -, -⟩ := hq.inv_ptr
        unfold S.live at q1 ⊢
        rw [hb] at q1
        exact q1
      · cases h
    · cases h
  have ht : q0u T t ty x y = some (r, t.up [(id, s1.blk id)]) := by
    unfold q0u at h ⊢
    rw [e1, e2, hx] at *
    simp only at h ⊢
    rw [hb]
    split at h
    · split at h
      · rename_i hc
        obtain ⟨rfl, rfl⟩ := zo h
        rw [if_pos hc, S.blk_up, if_pos rfl]
      · cases h
    · cases h
  have hox : ox P T t t.nx o.op (fun r' s'' => r' = r ∧ s'' = t.up [(id, s1.blk id)]) := by
    rw [ho]
    simp only [ox]
    exact q5d (K := fun r' s'' => r' = r ∧ s'' = t.up [(id, s1.blk id)]) ht ⟨rfl, rfl⟩
  refine q3z hA (fun h => by have := hs.nx _ h; omega) hs hox ?_
  rintro r'' s'' ρ' v w' ⟨rfl, rfl⟩ g1 g2
  exact hn ρ' (t.up [(id, s1.blk id)]) v w' (fun d _ => rfl) (fun x => S.blk_up t id x _) rfl g1 g2
theorem qez (hA : Ag P T) {ty : TypeId} {x y : Operand} (ho : o.op = .makeSlice ty x y) (h : q7M T s ty x y = some (r, s1)) (hnx : s.blk s.nx = .dead) {X : List Nat} : Loc P o s r ([s.nx].map fun x => (x, s1.blk x)) ⟨[], [s.nx], X, [], []⟩ := by
  intro cx ρ t a w next Q hev hblk _ _ hs hn
  have e1 := hev x (by rw [ho]; simp [Op.operands])
  have e2 := hev y (by rw [ho]; simp [Op.operands])
  have hb := hblk s.nx (.inr List.mem_cons_self)
  have hl : ¬ t.live s.nx := fun h => by unfold S.live at h; rw [hb, hnx] at h; cases h
  have hk := q6u (K := fun r' s'' => r' = r ∧ s'' = s1) h ⟨rfl, rfl⟩
  have hox : ox P T t s.nx o.op (fun r' s'' => r' = r ∧ s'' = t.up [(s.nx, s1.blk s.nx)]) := by
    rw [ho]
    simp only [ox]
    unfold q3F at hk ⊢
    rw [e1, e2]
    split at hk
    · obtain ⟨e, q1, q2, q3, q4, q5, q6, q7, q8, rfl, rfl⟩ := hk
      exact ⟨e, q1, q2, q3, q4, q5, q6, q7, q8, rfl, by rw [S.blk_up, if_pos rfl]⟩
    · cases hk
  refine q3z hA hl hs hox ?_
  rintro r'' s'' ρ' v w' ⟨rfl, rfl⟩ g1 g2
  exact hn ρ' (t.up [(s.nx, s1.blk s.nx)]) v w' (fun d _ => rfl) (fun x => S.blk_up t s.nx x _) rfl g1 g2
theorem q1L {α : Type} (f : Nat → α) : ∀ (l : List Nat) (x : Nat) (z : α), lk (l.map fun i => (i, f i)) x z = if x ∈ l then f x else z
  | [], _, _ => by simp [lk]
  | i :: l, x, z => by
    simp only [List.map_cons, lk, q1L f l x z, List.mem_cons]
    by_cases hx : i = x
    · subst hx; simp
    · rw [if_neg hx]
      by_cases h2 : x ∈ l
      · rw [if_pos h2, if_pos (.inr h2)]
      · rw [if_neg h2, if_neg (by rintro (h | h); exact hx h.symm; exact h2 h)]
theorem qlB {id : Nat} {x : C} : x.fgL [id] = x.fg id := by
  have e0 : ∀ i : Nat, [id].contains i = decide (i = id) := fun i => by simp
  have e1 : ∀ x : C, x.farL [id] = x.far id := fun x => by
    cases x with
    | ptr i o => simp only [C.farL, C.far, e0]; by_cases h : i = id <;> simp [h]
    | hd k i => simp only [C.farL, C.far, e0]; by_cases h : i = id <;> simp [h]
    | own i sz o n => simp only [C.farL, C.far, e0]; by_cases h : i = id <;> simp [h]
    | _ => rfl
  cases x with
  | ptr i o => simp only [C.fgL, C.fg, e0, decide_eq_true_eq]
  | hd k i => simp only [C.fgL, C.fg, e0, decide_eq_true_eq]
  | own i sz o n => simp only [C.fgL, C.fg, e0, decide_eq_true_eq]
  | fn f fs caps => simp only [C.fgL, C.fg, funext e1]
  | _ => rfl
theorem qlw {id : Nat} {x : R} : x.fgL [id] = x.fg id := by
  cases x with
  | c x => simp only [R.fgL, R.fg, qlB]
  | agg xs => simp only [R.fgL, R.fg]; congr 1; exact List.map_congr_left fun x _ => qlB
  | _ => rfl
theorem qmi {id : Nat} {x : B} : x.fgL [id] = x.fg id := by
  have e : C.fgL [id] = C.fg id := funext fun _ => qlB
  have e2 : R.fgL [id] = R.fg id := funext fun _ => qlw
  cases x with
  | blk t cs => simp only [B.fgL, B.fg, e]
  | row a sz cs => simp only [B.fgL, B.fg, e]
  | ob o => simp only [B.fgL, B.fg, e2]
  | dead => rfl
theorem q9o {t : S} {y : Operand} (h1 : t.ev y = s.ev y) (h2 : ∀ i ∈ (s.ev y).rows, t.blk i = s.blk i) : t.seq y = s.seq y := by
  unfold S.seq
  rw [h1]
  cases he : s.ev y with
  | c x =>
    cases x with
    | own id sz off n => simp only; rw [h2 id (by rw [he]; simp [R.rows, C.rows, C.rows0])]
    | d x => cases x <;> rfl
    | _ => rfl
  | _ => rfl
theorem qiR (hA : Ag P T) {x y : Operand} {t1 t2 : TypeId} {fp : Fp} (ho : o.op = .call { callee := .builtin .append, args := #[x, y], argTypes := #[t1, t2] }) (he : t2 = t1) (h : q0M T s t1 x y = some (r, s1)) (hf : q88 s [x, y] = some fp) (hnx : s.blk s.nx = .dead) :
    Loc P o s r (fp.wb.map fun x => (x, s1.blk x)) fp := by
  intro cx ρ t a w next Q hev hblk hfar hltn hs hn
  have e1 := hev x (by rw [ho]; simp [Op.operands, Call.operands])
  have e2 := hev y (by rw [ho]; simp [Op.operands, Call.operands])
  have main : ∀ (id : Nat) (row : B) (p : Nat), fp = fpA s id y → (∀ K : KK, K r ((t.fg id).up [(id, row)]) → q15 T t p t1 x y K) → ¬ t.live p → s1 = (s.fg id).up [(id, row)] → o.wpIn (FW cx.ro) 0 P a w next Q := by
    intro id row p hfp hk hp hs1
    subst hfp
    have hox : ox P T t p o.op (fun r' s'' => r' = r ∧ s'' = (t.fg id).up [(id, row)]) := by
      rw [ho]
      simp only [ox, qaE]
      exact ⟨he, hk _ ⟨rfl, rfl⟩⟩
    refine q3z hA hp hs hox ?_
    rintro r'' s'' ρ' v w' ⟨rfl, rfl⟩ g1 g2
    have hX : (fpA s id y).X = [id] := rfl
    have hfar' := hfar.resolve_left (by rw [hX]; simp)
    rw [hX] at hfar'
    refine hn ρ' ((t.fg id).up [(id, row)]) v w' (fun d hd => ?_) (fun i => ?_) rfl g1 g2
    · show (t.fg id).get d = t.get d
      rw [S.get_fg, ← qlw]; exact hfar'.1 d hd
    · show _ = lk ((id :: qbq s id).map fun x => (x, s1.blk x)) i (t.blk i)
      have L1 : ((t.fg id).up [(id, row)]).blk i = if id = i then row else (t.blk i).fg id := by rw [S.blk_up, S.blk_fg]
      have R1 : s1.blk i = if id = i then row else (s.blk i).fg id := by rw [hs1, S.blk_up, S.blk_fg]
      rw [q1L (fun x => s1.blk x), L1, R1]
      by_cases hi : i ∈ id :: qbq s id
      · rw [if_pos hi, hblk i (.inr hi)]
      · have hii : id ≠ i := fun h => hi (h ▸ List.mem_cons_self)
        rw [if_neg hi, if_neg hii, ← qmi]
        exact hfar'.2 i hi
  have hseq : ∀ id, fp = fpA s id y → t.seq y = s.seq y := fun id hfp => q9o e2 fun i hi => hblk i (.inl (by rw [hfp]; exact hi))
  have hk := q1H (K := fun r' s'' => r' = r ∧ s'' = s1) h ⟨rfl, rfl⟩
  obtain ⟨e, m, ys, q1, q2, q3, q4, q5, q6, q7, q8⟩ := hk
  simp only [q88] at hf
  split at hf
  · rename_i id sz off n hx
    injection hf with hf
    rw [hx] at q8
    simp only at q8
    obtain ⟨p1, p2, cs, p3, p4, p5, p6, p7, p8, p9, p10⟩ := q8
    refine main id (.row e sz (cs ++ ys)) t.nx hf.symm (fun K hK => ?_) (fun h => by have := hs.nx _ h; omega) p10.symm
    refine ⟨e, m, ys, q1, q2, q3, q4, (hseq id hf.symm).trans q5, q6, q7, ?_⟩
    rw [e1, hx]
    simp only
    refine ⟨p1, p2, cs, (hblk id (.inr (by rw [← hf]; exact List.mem_cons_self))).trans p3, p4, p5, p6, p7, p8, ?_⟩
    rw [p9]; exact hK
  · rename_i hx
    injection hf with hf
    rw [hx] at q8
    simp only at q8
    obtain ⟨p1, p2, p3, p4, p5⟩ := q8
    refine main s.nx (.row e (T.sz e) ys) s.nx hf.symm (fun K hK => ?_) (fun h => ?_) p5.symm
    · refine ⟨e, m, ys, q1, q2, q3, q4, (hseq _ hf.symm).trans q5, q6, q7, ?_⟩
      rw [e1, hx]
      simp only
      refine ⟨p1, p2, p3, ?_⟩
      rw [p4]; exact hK
    · unfold S.live at h
      rw [hblk s.nx (.inr (by rw [← hf]; exact List.mem_cons_self)), hnx] at h
      cases h
  · cases hf
theorem q5y {t : S} {sel ln : List Nat} (h : ∀ i ∈ ln, t.blk i = s.blk i) (z : Nat) (x : C) : cv0 t sel ln z x = cv0 s sel ln z x := by
  cases x with
  | own i sz o n =>
    simp only [cv0]
    cases pos i sel with
    | some j => rfl
    | none =>
      simp only
      split
      · rename_i hc; rw [h i (by simpa using hc)]
      · rfl
  | _ => rfl
theorem q3V {t : S} {sel ln : List Nat} (h : ∀ i ∈ ln, t.blk i = s.blk i) : ∀ (xs : List C), qaI t sel ln xs = qaI s sel ln xs
  | [] => rfl
  | x :: r => by simp only [qaI, q5y h, q3V h r]
theorem q4b {t : S} {sel ln : List Nat} (h : ∀ i ∈ ln, t.blk i = s.blk i) (z : Nat) (x : C) : cv t sel ln z x = cv s sel ln z x := by
  cases x with
  | fn f fs caps => simp only [cv, q3V h]
  | _ => simp only [cv, q5y h]
theorem q0Q {t : S} {sel ln : List Nat} (h : ∀ i ∈ ln, t.blk i = s.blk i) : ∀ (zs : List Nat) (xs : List C), cvL t sel ln zs xs = cvL s sel ln zs xs
  | zs, [] => by simp only [cvL]
  | zs, x :: r => by simp only [cvL, q4b h, q0Q h _ r]
theorem q1U {t : S} {sel ln : List Nat} (h : ∀ i ∈ ln, t.blk i = s.blk i) : ∀ (zs : List (List Nat)) (xs : List R), q8h t sel ln zs xs = q8h s sel ln zs xs
  | zs, [] => by simp only [q8h]
  | zs, x :: r => by
    have : ∀ z, cvR t sel ln z x = cvR s sel ln z x := fun z => by cases x <;> simp only [cvR, q4b h, q0Q h]
    simp only [q8h, this, q1U h _ r]
theorem q8x {t : S} {sel : List Nat} (o : AO) : cvA t sel o = cvA s sel o := by
  have : qaB t sel = qaB s sel := funext fun r => by
    have hn : ∀ i ∈ ([] : List Nat), t.blk i = s.blk i := fun i hi => by simp at hi
    unfold qaB
    congr 1
    cases r <;> simp only [cvR, q4b hn, q0Q hn]
  cases o <;> simp only [cvA, this]
theorem q2S {t : S} {sel : List Nat} : ∀ (l : List Nat) (j : Nat), (∀ i ∈ l, t.blk i = s.blk i) → cvG t sel l j = cvG s sel l j
  | [], _, _ => rfl
  | i :: l, j, h => by
    have : ∀ x, cvB t sel x = cvB s sel x := fun x => by
      cases x with
      | blk ty cs => simp only [cvB]; rw [q0Q (s := s) (t := t) (sel := sel) (ln := []) (fun i hi => by simp at hi)]
      | ob o => simp only [cvB]; rw [q8x (s := s) (t := t)]
      | _ => rfl
    simp only [cvG, this, h i List.mem_cons_self, q2S l (j + 1) (fun i hi => h i (List.mem_cons_of_mem _ hi))]
section ren
variable {sel : List Nat} {n n' : Nat}
theorem q4K {j : Nat} (h : ren sel n j < n) : ∃ i, sel[j]? = some i ∧ ∀ m, ren sel m j = i := by
  unfold ren at h
  cases hs : sel[j]? with
  | none => rw [hs] at h; simp only at h; omega
  | some i => exact ⟨i, rfl, fun m => by unfold ren; rw [hs]⟩
theorem q2u {j : Nat} (h : ren sel n j < n) : ren sel n' j = ren sel n j := by
  obtain ⟨i, -, h2⟩ := q4K h
  rw [h2 n', h2 n]
theorem q1i {x : C} (h : (x.rn0 (ren sel n)).lt0 n = true) : x.rn0 (ren sel n') = x.rn0 (ren sel n) := by
  cases x with
  | ptr i o => simp only [C.rn0, C.lt0, decide_eq_true_eq] at h ⊢; rw [q2u h]
  | hd k i => simp only [C.rn0, C.lt0, decide_eq_true_eq] at h ⊢; rw [q2u h]
  | own i sz o m => simp only [C.rn0, C.lt0, decide_eq_true_eq] at h ⊢; rw [q2u h]
  | _ => rfl
theorem Ja {f g : C → C} {p : C → Bool} (hfg : ∀ x, p (f x) = true → g x = f x) : ∀ (xs : List C), (xs.map f).all p = true → xs.map g = xs.map f
  | [], _ => rfl
  | x :: r, h => by
    simp only [List.map_cons, List.all_cons, Bool.and_eq_true] at h ⊢
    rw [hfg x h.1, Ja hfg r h.2]
theorem q4p {x : C} (h : (x.rn (ren sel n)).ltn n = true) : x.rn (ren sel n') = x.rn (ren sel n) := by
  cases x with
  | fn f fs caps =>
    simp only [C.rn, C.ltn, Bool.and_eq_true] at h ⊢
    rw [Ja (p := C.lt0 n) (fun _ h => q1i h) fs h.1, Ja (p := C.lt0 n) (fun _ h => q1i h) caps h.2]
  | ptr i o => exact q1i (x := .ptr i o) h
  | hd k i => exact q1i (x := .hd k i) h
  | own i sz o m => exact q1i (x := .own i sz o m) h
  | _ => rfl
theorem q1o {x : R} (h : (x.rn0 (ren sel n)).lt0 n = true) : x.rn0 (ren sel n') = x.rn0 (ren sel n) := by
  cases x with
  | c x => simp only [R.rn0, R.lt0] at h ⊢; rw [q4p h]
  | agg xs => simp only [R.rn0, R.lt0] at h ⊢; rw [Ja (p := C.ltn n) (fun _ h => q4p h) xs h]
  | _ => rfl
theorem qbz {x : B} (h : (x.rn (ren sel n)).ltn n = true) : x.rn (ren sel n') = x.rn (ren sel n) := by
  cases x with
  | blk t cs => simp only [B.rn, B.ltn] at h ⊢; rw [Ja (p := C.ltn n) (fun _ h => q4p h) cs h]
  | row e sz cs => simp only [B.rn, B.ltn] at h ⊢; rw [Ja (p := C.ltn n) (fun _ h => q4p h) cs h]
  | ob o =>
    simp only [B.rn, B.ltn, AO.Rs_mapR] at h ⊢
    rw [AO.mapR_congr fun x hx => q1o (List.all_eq_true.1 h _ (List.mem_map.2 ⟨x, hx, rfl⟩))]
  | dead => rfl
theorem qck {x : R} (h : (x.rn (ren sel n)).ltn n = true) : x.rn (ren sel n') = x.rn (ren sel n) := by
  cases x with
  | tup rs =>
    simp only [R.rn, R.ltn] at h ⊢
    congr 1
    induction rs with
    | nil => rfl
    | cons y l ih =>
      simp only [List.map_cons, List.all_cons, Bool.and_eq_true] at h ⊢
      rw [q1o h.1, ih h.2]
  | c x => exact q1o (x := .c x) h
  | agg xs => exact q1o (x := .agg xs) h
  | any => rfl
end ren
theorem q3O {us : List (Nat × B)} {n : Nat} (h : us.foldl (fun m u => max m (u.1 + 1)) n = n) : ∀ u ∈ us, u.1 < n := fun u hu => by
  have := (q1r us n).2 u hu
  omega
theorem q4F (s : S) (X : List Nat) : (s.fgL X).nx = s.nx := by cases X <;> rfl
theorem qbW (s : S) (X : List Nat) : (s.fgL X).n = s.n := by cases X <;> rfl
theorem J7 {α : Type} : ∀ (l l' : List (Nat × α)) (x : Nat) (z : α), lk (l ++ l') x z = lk l x (lk l' x z)
  | [], _, _, _ => rfl
  | (i, b) :: l, l', x, z => by
    simp only [List.cons_append, lk]
    split
    · rfl
    · exact J7 l l' x z
theorem q27 (s : S) (us : List (Nat × B)) (x : Nat) : (s.up us).blk x = lk us x (s.blk x) := J7 us s.hp x .dead
theorem q54 {α : Type} : ∀ (l : List (Nat × α)) (x : Nat) (z z' : α), (∃ b, (x, b) ∈ l) → lk l x z = lk l x z'
  | [], x, _, _, h => by obtain ⟨b, hb⟩ := h; simp at hb
  | (i, c) :: l, x, z, z', h => by
    simp only [lk]
    split
    · rfl
    · rename_i hn
      refine q54 l x z z' ?_
      obtain ⟨b, hb⟩ := h
      rcases List.mem_cons.1 hb with hb | hb
      · injection hb with h1 h2; exact absurd h1.symm hn
      · exact ⟨b, hb⟩
theorem ZS {α : Type} : ∀ (l : List (Nat × α)) (x : Nat) (z : α), (∀ b, (x, b) ∉ l) → lk l x z = z
  | [], _, _, _ => rfl
  | (i, c) :: l, x, z, h => by
    simp only [lk]
    split
    · rename_i hx; subst hx; exact absurd List.mem_cons_self (h c)
    · exact ZS l x z (fun b hb => h b (List.mem_cons_of_mem _ hb))
theorem q48 {bl rw : List Nat} {i : Nat} (h : i ∈ wbC s s1 bl rw) : i ∈ bl ++ rw := by
  cases rw with
  | nil => exact List.mem_append_left _ (List.mem_filter.1 h).1
  | cons x l => exact h
theorem q40 {bl rw : List Nat} {i : Nat} (h : i ∉ wbC s s1 bl rw) (hi : i ∈ bl ++ rw) : rw = [] ∧ s1.blk i = s.blk i := by
  cases rw with
  | nil =>
    rw [List.append_nil] at hi
    refine ⟨rfl, B.beq_eq ?_⟩
    cases hb : B.beq (s1.blk i) (s.blk i) with
    | true => rfl
    | false => exact absurd (List.mem_filter.2 ⟨hi, by rw [hb]; rfl⟩) h
  | cons x l => exact absurd hi h
theorem q3d {bl rw ln : List Nat} {fp : Fp} (h : qko s s1 r bl rw ln = some fp) : ((s1.nx = s.nx ∧ (bl ++ rw).all (fun i => (s1.blk i).ltn s.nx) = true ∧ r.ltn s.nx = true) ∧ fp = ⟨bl ++ rw ++ ln, wbC s s1 bl rw, rw, q1Z s rw, []⟩) ∨ fp = ⟨bl ++ rw ++ ln, wbC s s1 bl rw ++ q1u s.nx s1.nx, rw, q1Z s rw, [s.nx]⟩ := by
  unfold qko at h
  split at h
  · rename_i hc; injection h with h; exact .inl ⟨hc, h.symm⟩
  · injection h with h; exact .inr h.symm
theorem q6q (s : S) (sel : List Nat) (k : Nat) (hp : List (Nat × B)) : s.nx ≤ (s.aft sel k hp).nx ∧ ∀ u ∈ hp.map (fun x => (ren sel s.nx x.1, x.2.rn (ren sel s.nx))) ++ sel.map (fun i => (i, B.dead)), u.1 < (s.aft sel k hp).nx := by
  have h := q1r (hp.map (fun x => (ren sel s.nx x.1, x.2.rn (ren sel s.nx))) ++ sel.map fun i => (i, B.dead)) (s.fgL (sel.drop k)).nx
  rw [q4F] at h
  have e : (s.aft sel k hp).nx = (hp.map (fun x => (ren sel s.nx x.1, x.2.rn (ren sel s.nx))) ++ sel.map fun i => (i, B.dead)).foldl (fun m u => max m (u.1 + 1)) s.nx := by
    show List.foldl _ (s.fgL (sel.drop k)).nx _ = _
    rw [q4F]
  rw [e]; exact h
theorem q5e {n m x : Nat} (h1 : n ≤ x) (h2 : x < m) : x ∈ q1u n m := List.mem_map.2 ⟨x - n, List.mem_range.2 (by omega), by omega⟩
theorem qbj {n m x : Nat} (h : x ∈ q1u n m) : n ≤ x := by
  obtain ⟨y, _, rfl⟩ := List.mem_map.1 h
  omega
theorem qb3 (hA : Ag P T) (hE : Snd P E) {f : Operand} {args : Array Operand} {ts : Array TypeId} (ho : o.op = .call { callee := .value f, args := args, argTypes := ts }) {g : FuncId} {fs caps : List C} (hfe : s.ev f = .c (.fn g fs caps))
    {rs : List R} (hrs : fs.map R.c ++ args.toList.map s.ev ++ caps.map R.c = rs) {zs : List (List Nat)} {bl rw' ln : List Nat} (h : Z4 E s g zs rs bl rw' ln = some (r, s1)) :
    Loc P o s r ((wbC s s1 bl rw' ++ q1u s.nx s1.nx).map fun x => (x, s1.blk x)) ⟨bl ++ rw' ++ ln, wbC s s1 bl rw' ++ q1u s.nx s1.nx, rw', q1Z s rw', [s.nx]⟩ := by
  intro cx ρ t a w next Q hev hblk hfar hltn hs hn
  have hlt2 : ∀ x, t.live x → x < s.nx := hltn (by simp)
  simp only at hblk hfar hn
  obtain ⟨sel, hsel⟩ : ∃ sel, sel = bl ++ rw' := ⟨_, rfl⟩
  have hbs : ∀ i ∈ sel, t.blk i = s.blk i := fun i hi => hblk i (.inl (List.mem_append_left _ (hsel ▸ hi)))
  have hbl : ∀ i ∈ ln, t.blk i = s.blk i := fun i hi => hblk i (.inl (List.mem_append_right _ hi))
  have hwb : ∀ x, x ∈ wbC s s1 bl rw' ++ q1u s.nx s1.nx → t.blk x = s.blk x := fun x hx => hblk x (.inr hx)
  unfold Z4 at h
  rw [← hsel] at h
  obtain ⟨rs', g1, h⟩ := Option.bind_eq_some_iff.1 h
  obtain ⟨G, g2, h⟩ := Option.bind_eq_some_iff.1 h
  split at h
  · rename_i hc
    obtain ⟨q, g3, h⟩ := Option.bind_eq_some_iff.1 h
    split at h
    · rename_i hok
      obtain ⟨rfl, rfl⟩ := zo h
      have hX : sel.drop bl.length = rw' := by rw [hsel, List.drop_left]
      obtain ⟨t0, ht0⟩ : ∃ t0 : S, t0 = { t with nx := s.nx } := ⟨_, rfl⟩
      have tb : ∀ i, t0.blk i = t.blk i := fun i => by rw [ht0]; rfl
      have tg : ∀ i, t0.get i = t.get i := fun i => by rw [ht0]; rfl
      have te : ∀ y, t0.ev y = t.ev y := fun y => by rw [ht0]; rfl
      have tn : t0.nx = s.nx := by rw [ht0]
      have hs0 : Sim cx ρ t0 a w := by
        rw [ht0]
        exact ⟨hs.hd, hs.size, hs.tm, hs.hp, hs.hp0, hs.out, hs.inj, fun i hi => hlt2 i hi, hs.kept, hs.oldF, hs.pin, hs.sameF, hs.sep⟩
      have ht : Z4 E t0 g zs rs bl rw' ln = some (q.1.rn (ren sel s.nx), t0.aft sel bl.length q.2) := by
        unfold Z4
        rw [← hsel, q1U (fun i hi => (tb i).trans (hbl i hi)), q2S sel 0 (fun i hi => (tb i).trans (hbs i hi)), g1, Option.bind_some, g2, Option.bind_some]
        have hall : ∀ (p : Nat → B → Bool) (l : List Nat), (∀ i ∈ l, t0.blk i = s.blk i) → l.all (fun i => p i (t0.blk i)) = l.all (fun i => p i (s.blk i)) := fun p l hl => by
          induction l with
          | nil => rfl
          | cons i l ih => simp only [List.all_cons, hl i List.mem_cons_self, ih (fun i hi => hl i (List.mem_cons_of_mem _ hi))]
        have e1 := hall (fun _ b => b.live) sel (fun i hi => (tb i).trans (hbs i hi))
        have e2 := hall (fun i b => b.live && !sel.contains i) ln (fun i hi => (tb i).trans (hbl i hi))
        rw [e1, e2, if_pos hc, g3, Option.bind_some, if_pos hok, tn]
      have hoc : ZO P t0 g rs (fun r' s'' => r' = q.1.rn (ren sel s.nx) ∧ s'' = t0.aft sel bl.length q.2) := q2O hE ht ⟨rfl, rfl⟩
      have hargs : ∀ y ∈ args.toList, t0.ev y = s.ev y := fun y hy => (te y).trans (hev y (by
        rw [ho]
        simp only [Op.operands, Call.operands, Array.toList_append, List.mem_append]
        exact .inr hy))
      have hft : t0.ev f = s.ev f := (te f).trans (hev f (by
        rw [ho]
        simp only [Op.operands, Call.operands, Array.toList_append, List.mem_append]
        exact .inl (by simp)))
      have hmap : args.toList.map t0.ev = args.toList.map s.ev := List.map_congr_left hargs
      have hox : ox P T t0 t0.nx o.op (fun r' s'' => r' = q.1.rn (ren sel s.nx) ∧ s'' = t0.aft sel bl.length q.2) := by
        rw [ho]
        simp only [ox, qaE, q7r]
        exact ⟨g, fs, caps, hft.trans hfe, by rw [hmap, hrs]; exact hoc⟩
      refine q3z hA (fun h => by have := hs0.nx _ h; omega) hs0 hox ?_
      rintro r'' s'' ρ' v w' ⟨rfl, rfl⟩ k1 k2
      have hfg : ∀ x, x ∉ sel → x ∉ q1u s.nx (s.aft sel bl.length q.2).nx → (t0.fgL rw').blk x = t.blk x := fun x hx hx2 => by
        rw [S.fgL_blk, tb]
        rcases hfar with h | h
        · rw [if_pos h]
        · split
          · rfl
          · refine h.2 x (fun h => ?_)
            rcases List.mem_append.1 h with h | h
            · exact hx (by rw [hsel]; exact q48 h)
            · exact hx2 h
      refine hn ρ' (t0.aft sel bl.length q.2) v w' (fun d hd => ?_) (fun x => ?_) ?_ k1 k2
      · show (t0.fgL (sel.drop bl.length)).get d = t.get d
        rw [hX, S.fgL_get, tg]
        rcases hfar with h | h
        · rw [if_pos h]
        · split
          · rfl
          · exact h.1 d hd
      · obtain ⟨L, hL⟩ : ∃ L, L = q.2.map (fun x => (ren sel s.nx x.1, x.2.rn (ren sel s.nx))) ++ sel.map (fun i => (i, B.dead)) := ⟨_, rfl⟩
        have e1 : (t0.aft sel bl.length q.2).blk x = lk L x ((t0.fgL rw').blk x) := by
          have : (t0.aft sel bl.length q.2).blk x = lk (q.2.map (fun x => (ren sel t0.nx x.1, x.2.rn (ren sel t0.nx))) ++ sel.map (fun i => (i, B.dead))) x ((t0.fgL (sel.drop bl.length)).blk x) := q27 _ _ x
          rw [this, tn, hX, hL]
        have e2 : (s.aft sel bl.length q.2).blk x = lk L x ((s.fgL rw').blk x) := by
          have : (s.aft sel bl.length q.2).blk x = lk (q.2.map (fun x => (ren sel s.nx x.1, x.2.rn (ren sel s.nx))) ++ sel.map (fun i => (i, B.dead))) x ((s.fgL (sel.drop bl.length)).blk x) := q27 _ _ x
          rw [this, hX, hL]
        obtain ⟨_, hkeys⟩ := q6q s sel bl.length q.2
        rw [← hL] at hkeys
        rw [e1, q1L]
        by_cases hk : ∃ b, (x, b) ∈ L
        · have e3 := q54 L x ((t0.fgL rw').blk x) ((s.fgL rw').blk x) hk
          rw [e3, ← e2]
          by_cases hxw : x ∈ wbC s (s.aft sel bl.length q.2) bl rw' ++ q1u s.nx (s.aft sel bl.length q.2).nx
          · rw [if_pos hxw]
          · rw [if_neg hxw]
            have h1 : x ∉ wbC s (s.aft sel bl.length q.2) bl rw' := fun h => hxw (List.mem_append_left _ h)
            have h2 : x ∉ q1u s.nx (s.aft sel bl.length q.2).nx := fun h => hxw (List.mem_append_right _ h)
            obtain ⟨b, hb⟩ := hk
            have hlt : x < s.nx := by
              rcases Nat.lt_or_ge x s.nx with h | h
              · exact h
              · exact absurd (q5e h (hkeys _ hb)) h2
            have hxs : x ∈ sel := by
              rw [hL] at hb
              rcases List.mem_append.1 hb with hb | hb
              · obtain ⟨y, _, he⟩ := List.mem_map.1 hb
                injection he with he _
                obtain ⟨i, q1, q2⟩ := q4K (by rw [he]; exact hlt)
                rw [← he, q2]; exact List.mem_of_getElem? q1
              · obtain ⟨y, hy, he⟩ := List.mem_map.1 hb
                injection he with he _
                exact he ▸ hy
            rw [(q40 h1 (hsel ▸ hxs)).2, hbs x hxs]
        · have hnk : ∀ b, (x, b) ∉ L := fun b hb => hk ⟨b, hb⟩
          have hxs : x ∉ sel := fun h => hnk .dead (by rw [hL]; exact List.mem_append_right _ (List.mem_map.2 ⟨x, h, rfl⟩))
          rw [ZS L x _ hnk]
          by_cases hxn : x ∈ q1u s.nx (s.aft sel bl.length q.2).nx
          · rw [if_pos (List.mem_append_right _ hxn), e2, ZS L x _ hnk, S.fgL_blk, S.fgL_blk, tb]
            have hge := qbj hxn
            have hd : t.blk x = .dead := by
              by_cases hl : t.live x
              · have := hlt2 x hl; omega
              · exact B.dead_of hl
            rw [hd, ← hwb x (List.mem_append_right _ hxn), hd]
          · rw [hfg x hxs hxn, if_neg (fun h => by
              rcases List.mem_append.1 h with h | h
              · exact hxs (by rw [hsel]; exact q48 h)
              · exact hxn h)]
      · show (t0.fgL (sel.drop bl.length)).n = t.n
        rw [qbW, ht0]
    · cases h
  · cases h
theorem qeI (hA : Ag P T) (hE : Snd P E) {f : Operand} {args : Array Operand} {ts : Array TypeId} (ho : o.op = .call { callee := .value f, args := args, argTypes := ts }) {fp : Fp} (h : ZQ po E s f args.toList ts.toList = some (r, s1)) (hf : fpC po s s1 r f args.toList = some fp)
    : Loc P o s r (fp.wb.map fun x => (x, s1.blk x)) fp := by
  intro cx ρ t a w next Q hev hblk hfar hltn hs hn
  unfold ZQ at h
  unfold fpC at hf
  split at h
  · rename_i g fs caps hfe
    rw [hfe] at hf
    simp only at hf
    by_cases hno : False
    · exact hno.elim
    · generalize hrs : fs.map R.c ++ args.toList.map s.ev ++ caps.map R.c = rs at h hf
      generalize zmk (po.ow g) 0 (fs.map (fun _ => []) ++ ts.toList.map po.q) = zs at h
      unfold q3G q71 at h
      unfold qip qh4 at hf
      generalize Jk s 60 _ _ = l at h hf
      generalize List.filter _ _ = ln at h hf
      generalize q5M s l = bl at h hf
      generalize q01 s l = rw' at h hf
      rcases q3d hf with ⟨⟨c1, c2, c3⟩, rfl⟩ | rfl
      case inr => exact qb3 hA hE ho hfe hrs h cx ρ t a w next Q hev hblk hfar hltn hs hn
      simp only at hblk hfar hn
      obtain ⟨sel, hsel⟩ : ∃ sel, sel = bl ++ rw' := ⟨_, rfl⟩
      have hbs : ∀ i ∈ sel, t.blk i = s.blk i := fun i hi => hblk i (.inl (List.mem_append_left _ (hsel ▸ hi)))
      have hbl : ∀ i ∈ ln, t.blk i = s.blk i := fun i hi => hblk i (.inl (List.mem_append_right _ hi))
      have h0 := h
      unfold Z4 at h
      rw [← hsel] at h c2
      obtain ⟨rs', g1, h⟩ := Option.bind_eq_some_iff.1 h
      obtain ⟨G, g2, h⟩ := Option.bind_eq_some_iff.1 h
      split at h
      · rename_i hc
        obtain ⟨q, g3, h⟩ := Option.bind_eq_some_iff.1 h
        split at h
        · rename_i hok
          obtain ⟨rfl, rfl⟩ := zo h
          -- the blocks behind the call, by the text and here
          have hus : ∀ u ∈ q.2.map (fun x => (ren sel s.nx x.1, x.2.rn (ren sel s.nx))) ++ sel.map (fun i => (i, B.dead)), u.1 < s.nx := by
            refine q3O ?_
            have : (s.aft sel bl.length q.2).nx = (q.2.map (fun x => (ren sel s.nx x.1, x.2.rn (ren sel s.nx))) ++ sel.map (fun i => (i, B.dead))).foldl (fun m u => max m (u.1 + 1)) (s.fgL (sel.drop bl.length)).nx := rfl
            rw [q4F] at this
            rw [← this]; exact c1
          have hX : sel.drop bl.length = rw' := by rw [hsel, List.drop_left]
          have hin : ∀ x ∈ q.2, ren sel s.nx x.1 ∈ sel := fun x hx => by
            obtain ⟨i, h1, h2⟩ := q4K (hus _ (List.mem_append_left _ (List.mem_map.2 ⟨x, hx, rfl⟩)))
            rw [h2]; exact List.mem_of_getElem? h1
          have hlk : ∀ x z, lk (q.2.map (fun x => (ren sel t.nx x.1, x.2.rn (ren sel t.nx))) ++ sel.map (fun i => (i, B.dead))) x z = lk (q.2.map (fun x => (ren sel s.nx x.1, x.2.rn (ren sel s.nx))) ++ sel.map (fun i => (i, B.dead))) x z := by
            intro x z
            have hfirst : x ∈ sel → (lk (q.2.map (fun x => (ren sel s.nx x.1, x.2.rn (ren sel s.nx))) ++ sel.map (fun i => (i, B.dead))) x z).ltn s.nx = true := fun hx => by
              have h1 := List.all_eq_true.1 c2 x hx
              have h2 : (s.aft sel bl.length q.2).blk x = lk (q.2.map (fun x => (ren sel s.nx x.1, x.2.rn (ren sel s.nx))) ++ sel.map (fun i => (i, B.dead))) x ((s.fgL (sel.drop bl.length)).blk x) := q27 _ _ x
              rw [h2] at h1
              rw [q54 _ x z _ ⟨.dead, List.mem_append_right _ (List.mem_map.2 ⟨x, hx, rfl⟩)⟩]; exact h1
            rw [J7, J7]
            have key : ∀ (l : List (Nat × B)) (z : B), (∀ x ∈ l, ren sel s.nx x.1 < s.nx) → (x ∈ sel → (lk (l.map (fun x => (ren sel s.nx x.1, x.2.rn (ren sel s.nx)))) x z).ltn s.nx = true) → (∀ y ∈ l, ren sel s.nx y.1 ∈ sel) →
                lk (l.map (fun x => (ren sel t.nx x.1, x.2.rn (ren sel t.nx)))) x z = lk (l.map (fun x => (ren sel s.nx x.1, x.2.rn (ren sel s.nx)))) x z := by
              intro l
              induction l with
              | nil => intro z _ _ _; rfl
              | cons y l ih =>
                intro z hl hlt hm
                have h1 := hl y List.mem_cons_self
                simp only [List.map_cons, lk, q2u (n' := t.nx) h1] at hlt ⊢
                split
                · rename_i hx
                  rw [if_pos hx] at hlt
                  exact qbz (hlt (hx ▸ hm y List.mem_cons_self))
                · rename_i hx
                  rw [if_neg hx] at hlt
                  exact ih z (fun x hx => hl x (List.mem_cons_of_mem _ hx)) hlt (fun y hy => hm y (List.mem_cons_of_mem _ hy))
            refine key q.2 _ (fun x hx => hus _ (List.mem_append_left _ (List.mem_map.2 ⟨x, hx, rfl⟩))) (fun hx => ?_) hin
            have := hfirst hx
            rw [J7] at this
            exact this
          have ht : Z4 E t g zs rs bl rw' ln = some (q.1.rn (ren sel s.nx), t.aft sel bl.length q.2) := by
            unfold Z4
            rw [← hsel, q1U hbl, q2S sel 0 hbs, g1, Option.bind_some, g2, Option.bind_some]
            have hall : ∀ (p : Nat → B → Bool) (l : List Nat), (∀ i ∈ l, t.blk i = s.blk i) → l.all (fun i => p i (t.blk i)) = l.all (fun i => p i (s.blk i)) := fun p l hl => by
              induction l with
              | nil => rfl
              | cons i l ih => simp only [List.all_cons, hl i List.mem_cons_self, ih (fun i hi => hl i (List.mem_cons_of_mem _ hi))]
            have e1 := hall (fun _ b => b.live) sel hbs
            have e2 := hall (fun i b => b.live && !sel.contains i) ln hbl
            rw [e1, e2, if_pos hc, g3, Option.bind_some, if_pos hok]
            rw [qck c3]
          have hoc : ZO P t g rs (fun r' s'' => r' = q.1.rn (ren sel s.nx) ∧ s'' = t.aft sel bl.length q.2) := q2O hE ht ⟨rfl, rfl⟩
          have hargs : ∀ y ∈ args.toList, t.ev y = s.ev y := fun y hy => hev y (by
            rw [ho]
            simp only [Op.operands, Call.operands, Array.toList_append, List.mem_append]
            exact .inr hy)
          have hft : t.ev f = s.ev f := hev f (by
            rw [ho]
            simp only [Op.operands, Call.operands, Array.toList_append, List.mem_append]
            exact .inl (by simp))
          have hmap : args.toList.map t.ev = args.toList.map s.ev := List.map_congr_left hargs
          have hox : ox P T t t.nx o.op (fun r' s'' => r' = q.1.rn (ren sel s.nx) ∧ s'' = t.aft sel bl.length q.2) := by
            rw [ho]
            simp only [ox, qaE, q7r]
            exact ⟨g, fs, caps, hft.trans hfe, by rw [hmap, hrs]; exact hoc⟩
          refine q3z hA (fun h => by have := hs.nx _ h; omega) hs hox ?_
          rintro r'' s'' ρ' v w' ⟨rfl, rfl⟩ k1 k2
          have hfg : ∀ x, x ∉ sel → (t.fgL rw').blk x = t.blk x := fun x hx => by
            rw [S.fgL_blk]
            rcases hfar with h | h
            · rw [if_pos h]
            · split
              · rfl
              · exact h.2 x (fun h => hx (by rw [hsel]; exact q48 h))
          refine hn ρ' (t.aft sel bl.length q.2) v w' (fun d hd => ?_) (fun x => ?_) ?_ k1 k2
          · show (t.fgL (sel.drop bl.length)).get d = t.get d
            rw [hX, S.fgL_get]
            rcases hfar with h | h
            · rw [if_pos h]
            · split
              · rfl
              · exact h.1 d hd
          · have e1 : (t.aft sel bl.length q.2).blk x = lk (q.2.map (fun x => (ren sel t.nx x.1, x.2.rn (ren sel t.nx))) ++ sel.map (fun i => (i, B.dead))) x ((t.fgL (sel.drop bl.length)).blk x) := q27 _ _ x
            have e2 : (s.aft sel bl.length q.2).blk x = lk (q.2.map (fun x => (ren sel s.nx x.1, x.2.rn (ren sel s.nx))) ++ sel.map (fun i => (i, B.dead))) x ((s.fgL (sel.drop bl.length)).blk x) := q27 _ _ x
            rw [e1, hlk, q1L, hX]
            by_cases hx : x ∈ sel
            · have e3 := q54 (q.2.map (fun x => (ren sel s.nx x.1, x.2.rn (ren sel s.nx))) ++ sel.map (fun i => (i, B.dead))) x ((t.fgL rw').blk x) ((s.fgL (sel.drop bl.length)).blk x) ⟨.dead, List.mem_append_right _ (List.mem_map.2 ⟨x, hx, rfl⟩)⟩
              by_cases hxw : x ∈ wbC s (s.aft sel bl.length q.2) bl rw'
              · rw [if_pos hxw, e2]; exact e3
              · rw [if_neg hxw, e3, ← e2, (q40 hxw (hsel ▸ hx)).2, hbs x hx]
            · have hxw : x ∉ wbC s (s.aft sel bl.length q.2) bl rw' := fun h => hx (by rw [hsel]; exact q48 h)
              rw [if_neg hxw, hfg x hx]
              refine ZS _ x _ (fun b hb => ?_)
              rcases List.mem_append.1 hb with hb | hb
              · obtain ⟨y, hy, he⟩ := List.mem_map.1 hb
                injection he with he1 he2
                exact hx (he1 ▸ hin y hy)
              · obtain ⟨y, hy, he⟩ := List.mem_map.1 hb
                injection he with he1 he2
                exact hx (he1 ▸ hy)
          · show (t.fgL (sel.drop bl.length)).n = t.n
            exact qbW _ _
        · cases h
      · cases h
  · rename_i rid hfe
    rw [hfe] at hf
    cases hf
  · cases h
end
end Go.Proofs.Ytplfjlcnffcenaa.Vc
namespace Go.Proofs.Ytplfjlcnffcenaa.Vc
open Go.RowKit
def Nb (s : S) : Prop := ∀ i, s.live i → i < s.nx
structure Stp (P : Program) (ops : List Oper) (o : Oper) (s s' : S) (x : Tx) : Prop where
  run : ∃ b, gd ops s o.guard = some b ∧ (b = false → x = ((.tup [], []), ⟨[], [], [], [], []⟩)) ∧ (b = true → Nb s → Loc P o s x.1.1 x.1.2 x.2)
  eff : qaD x.2 s → (∀ d, s'.get d = if o.dst = some d then x.1.1 else if d ∈ x.2.ks then .any else s.get d) ∧ ∀ i, s'.blk i = lk x.1.2 i (s.blk i)
  n : s'.n = s.n
  dst : ∀ d, o.dst = some d → d < s.n
  us : ∀ u ∈ x.1.2, u.1 ∈ x.2.wb
  nb : Nb s → Nb s'
  nwp : x.2.nw = [] ∨ x.2.nw = [s.nx]
section
variable {P : Program} {T : Ty} {po : Pol} {E : Orc} {ops : List Oper} {o : Oper} {s s' : S} {x : Tx}
theorem Nb.put (h : Nb s) (d : Option Nat) (r : R) : Nb (s.put d r) := fun i hi => by
  rw [S.put_nx]; refine h i ?_; unfold S.live at hi ⊢; rwa [S.put_blk] at hi
theorem qfd {us : List (Nat × B)} {i : Nat} {z : B} (h : (lk us i z).live = true) : (∃ u ∈ us, u.1 = i) ∨ z.live = true := by
  induction us with
  | nil => exact .inr h
  | cons y us ih =>
    obtain ⟨j, b⟩ := y
    simp only [lk] at h
    split at h
    · rename_i hj; exact .inl ⟨_, List.mem_cons_self, hj⟩
    · rcases ih h with ⟨u, hu, he⟩ | h
      · exact .inl ⟨u, List.mem_cons_of_mem _ hu, he⟩
      · exact .inr h
theorem Nb.up (h : Nb s) (us : List (Nat × B)) : Nb (s.up us) := fun i hi => by
  unfold S.live at hi
  rw [q27] at hi
  have hx := q1r us s.nx
  rcases qfd hi with ⟨u, hu, rfl⟩ | h1
  · exact hx.2 u hu
  · exact Nat.lt_of_lt_of_le (h i h1) hx.1
theorem Nb.fgL (h : Nb s) (X : List Nat) : Nb (s.fgL X) := fun i hi => by rw [q4F]; exact h i ((S.fgL_live s X i).1 hi)
theorem Nb.dead (h : Nb s) : s.blk s.nx = .dead := B.dead_of fun hl => by have := h s.nx hl; omega
theorem qbR {s1 : S} (wb : List Nat) (i : Nat) (h : i ∉ wb → s1.blk i = s.blk i) : s1.blk i = lk (wb.map fun x => (x, s1.blk x)) i (s.blk i) := by
  rw [q1L (fun x => s1.blk x)]
  split
  · rfl
  · rename_i hn; exact h hn
theorem qeR {sel : List Nat} {k : Nat} {hp : List (Nat × B)} (hnx : (s.aft sel k hp).nx = s.nx) {i : Nat} (hi : i ∉ sel) : (s.aft sel k hp).blk i = (s.fgL (sel.drop k)).blk i := by
  have hus : ∀ u ∈ hp.map (fun x => (ren sel s.nx x.1, x.2.rn (ren sel s.nx))) ++ sel.map (fun i => (i, B.dead)), u.1 < s.nx := by
    refine q3O ?_
    have : (s.aft sel k hp).nx = (hp.map (fun x => (ren sel s.nx x.1, x.2.rn (ren sel s.nx))) ++ sel.map (fun i => (i, B.dead))).foldl (fun m u => max m (u.1 + 1)) (s.fgL (sel.drop k)).nx := rfl
    rw [q4F] at this
    rw [← this]; exact hnx
  have e1 : (s.aft sel k hp).blk i = lk (hp.map (fun x => (ren sel s.nx x.1, x.2.rn (ren sel s.nx))) ++ sel.map (fun i => (i, B.dead))) i ((s.fgL (sel.drop k)).blk i) := q27 _ _ i
  rw [e1]
  refine ZS _ i _ (fun b hb => ?_)
  rcases List.mem_append.1 hb with hb | hb
  · obtain ⟨y, hy, he⟩ := List.mem_map.1 hb
    injection he with he1 he2
    obtain ⟨j, h1, h2⟩ := q4K (hus _ (List.mem_append_left _ (List.mem_map.2 ⟨y, hy, rfl⟩)))
    rw [h2] at he1
    exact hi (he1 ▸ List.mem_of_getElem? h1)
  · obtain ⟨y, hy, he⟩ := List.mem_map.1 hb
    injection he with he1 he2
    exact hi (he1 ▸ hy)
theorem qbE {sel : List Nat} {k : Nat} {hp : List (Nat × B)} {i : Nat} (hi : i ∉ sel) (hn : i ∉ q1u s.nx (s.aft sel k hp).nx) : (s.aft sel k hp).blk i = (s.fgL (sel.drop k)).blk i := by
  obtain ⟨_, hkeys⟩ := q6q s sel k hp
  have e1 : (s.aft sel k hp).blk i = lk (hp.map (fun x => (ren sel s.nx x.1, x.2.rn (ren sel s.nx))) ++ sel.map (fun i => (i, B.dead))) i ((s.fgL (sel.drop k)).blk i) := q27 _ _ i
  rw [e1]
  refine ZS _ i _ (fun b hb => ?_)
  have hlt : i < s.nx := by
    rcases Nat.lt_or_ge i s.nx with h | h
    · exact h
    · exact absurd (q5e h (hkeys _ hb)) hn
  rcases List.mem_append.1 hb with hb | hb
  · obtain ⟨y, hy, he⟩ := List.mem_map.1 hb
    injection he with he1 he2
    obtain ⟨j, h1, h2⟩ := q4K (by rw [he1]; exact hlt)
    rw [h2] at he1
    exact hi (he1 ▸ List.mem_of_getElem? h1)
  · obtain ⟨y, hy, he⟩ := List.mem_map.1 hb
    injection he with he1 he2
    exact hi (he1 ▸ hy)
theorem qdP {s s1 : S} {r : R} {op : Op} {fp : Fp} (h : q96 po s s1 r op = some fp) : fp.nw = [] ∨ fp.nw = [s.nx] := by
  unfold q96 at h
  split at h
  · injection h with h; subst h; exact .inl rfl
  · split at h
    · split at h
      · injection h with h; subst h; exact .inl rfl
      · cases h
    · injection h with h; subst h; exact .inl rfl
    · unfold q88 at h
      split at h
      · split at h
        · injection h with h; subst h; exact .inl rfl
        · injection h with h; subst h; exact .inl rfl
        · cases h
      · cases h
    · unfold fpC at h
      split at h
      · unfold qip qh4 at h
        rcases q3d h with ⟨_, rfl⟩ | rfl
        · exact .inl rfl
        · exact .inr rfl
      · cases h
    · cases h
theorem S.kill_get (s : S) (ks : List Nat) (d : Nat) : (s.kill ks).get d = if d ∈ ks then .any else s.get d := by
  show lk (ks.map (fun d => (d, R.any)) ++ s.tm) d .any = _
  rw [J7, q1L (fun _ => R.any)]
  rfl
theorem S.kill_blk (s : S) (ks : List Nat) (i : Nat) : (s.kill ks).blk i = s.blk i := rfl
theorem Sim.kill {cx : Cx} {ρ : Pl} {a : Act} {w : World} (h : Sim cx ρ s a w) (ks : List Nat) : Sim cx ρ (s.kill ks) a w := by
  refine ⟨h.hd, h.size, fun i => ?_, h.hp, h.hp0, h.out, h.inj, h.nx, h.kept, h.oldF, h.pin, h.sameF, h.sep⟩
  show RR w _ ρ _ ((s.kill ks).get i)
  rw [S.kill_get]
  split
  · exact .any _
  · exact h.tm i
theorem q8B {fp : Fp} (h : qaD fp s) (d : Nat) (hd : d ∉ fp.ks) : (s.fgL fp.X).get d = s.get d := by
  rw [S.fgL_get]
  rcases h with h | h
  · rw [if_pos h]
  · split
    · rfl
    · exact h.1 d hd
theorem qan {fp : Fp} (h : qaD fp s) {i : Nat} (hi : i ∉ fp.wb) : (s.fgL fp.X).blk i = s.blk i := by
  rw [S.fgL_blk]
  rcases h with h | h
  · rw [if_pos h]
  · split
    · rfl
    · exact h.2 i hi
theorem qhr {op : Op} {g : FuncId} {rs : List R} (h : alC po s op = some (g, rs)) : ∃ f args ts, op = .call { callee := .value f, args := args, argTypes := ts } ∧ s.ev f = .c (.fn g [] []) ∧ rs = args.toList.map s.ev ∧ rs.all R.dat = true := by
  unfold alC at h
  split at h
  · rename_i f args ts
    split at h
    · rename_i g' hf
      split at h
      · rename_i hc
        injection h with h
        injection h with h1 h2
        subst h1 h2
        exact ⟨f, args, ts, rfl, hf, rfl, hc.2.2⟩
      · cases h
    · cases h
  · cases h
theorem ql7 (hA : Ag P T) (hE : Snd P E) {g : FuncId} {rs : List R} (hc : alC po s o.op = some (g, rs)) {z n e : Nat} {cs : List C} {q : R × List (Nat × B)} (hq : E (.fn g) 0 rs [] = some q) (h2 : qhf q = some (z, n, e, cs)) (hnx : s.blk s.nx = .dead) :
    Loc P o s (.c (.own s.nx z 0 n)) [(s.nx, .row e z cs)] ⟨[], [s.nx], [], [], []⟩ := by
  obtain ⟨f, args, ts, ho, hf, hrs, hd⟩ := qhr hc
  intro cx ρ t a w next Q hev hblk _ _ hs hn
  have e1 : t.ev f = s.ev f := hev f (by rw [ho]; simp [Op.operands, Call.operands])
  have e2 : args.toList.map t.ev = args.toList.map s.ev := List.map_congr_left fun y hy => hev y (by rw [ho]; simp only [Op.operands, Call.operands, Array.toList_append]; exact List.mem_append_right _ hy)
  have hb := hblk s.nx (.inr List.mem_cons_self)
  have hl : ¬ t.live s.nx := fun h => by unfold S.live at h; rw [hb, hnx] at h; cases h
  unfold qhf at h2
  split at h2
  · rename_i z0 n0 e0 z1 cs0
    split at h2
    · rename_i hcc
      obtain ⟨rfl, hcs⟩ := hcc
      injection h2 with h2
      injection h2 with i1 i2; injection i2 with i2 i3; injection i3 with i3 i4
      subst i1 i2 i3 i4
      have hac := hE.fn g 0 rs [] _ _ hq
      have hcall : ZO P t g rs (fun r' s'' => r' = .c (.own s.nx z1 0 n0) ∧ s'' = t.up [(s.nx, .row e0 z1 cs0)]) := ZO.fresh hac hd hcs hl ⟨rfl, rfl⟩
      have hox : ox P T t s.nx o.op (fun r' s'' => r' = .c (.own s.nx z1 0 n0) ∧ s'' = t.up [(s.nx, .row e0 z1 cs0)]) := by
        rw [ho]
        unfold ox qaE
        exact ⟨g, [], [], e1.trans hf, by rw [List.map_nil, List.nil_append, List.append_nil, e2, ← hrs]; exact hcall⟩
      refine q3z hA hl hs hox ?_
      rintro r'' s'' ρ' v w' ⟨rfl, rfl⟩ g1 g2
      exact hn ρ' (t.up [(s.nx, .row e0 z1 cs0)]) v w' (fun d _ => rfl) (fun x => S.blk_up t s.nx x _) rfl g1 g2
    · cases h2
  · cases h2
theorem q9E (hA : Ag P T) (hE : Snd P E) {act : Bool} (h : xsF P T po E o act s = some (s', x)) :
    (act = false → x = ((.tup [], []), ⟨[], [], [], [], []⟩)) ∧ (act = true → Nb s → Loc P o s x.1.1 x.1.2 x.2) ∧ (Nb s → Nb s') ∧ (qaD x.2 s → (∀ d, s'.get d = if o.dst = some d then x.1.1 else if d ∈ x.2.ks then .any else s.get d) ∧ ∀ i, s'.blk i = lk x.1.2 i (s.blk i)) ∧ s'.n = s.n ∧ (∀ d, o.dst = some d → d < s.n) ∧ (∀ u ∈ x.1.2, u.1 ∈ x.2.wb) ∧ (x.2.nw = [] ∨ x.2.nw = [s.nx]) := by
  unfold xsF at h
  split at h
  · rename_i ha
    subst ha
    cases hal : alC po s o.op with
    | some gr =>
      obtain ⟨g, rs⟩ := gr
      rw [hal] at h
      have h : qjP s o ((E (.fn g) 0 rs []).bind qhf) = some (s', x) := h
      unfold qjP at h
      obtain ⟨⟨z, n, e, cs⟩, h1, h2⟩ := Option.bind_eq_some_iff.1 h
      obtain ⟨q, h3, h4⟩ := Option.bind_eq_some_iff.1 h1
      split at h2
      · rename_i hd
        injection h2 with h2
        injection h2 with h5 h6
        subst h5 h6
        refine ⟨(fun h => by cases h), fun _ hb => ql7 hA hE hal h3 h4 hb.dead, fun hb => (hb.up _).put _ _, fun hf => ⟨fun d => ?_, fun i => ?_⟩, S.put_n _ _ _, q0C hd, fun u hu => ?_, .inl rfl⟩
        · rw [S.put_get]; simp only [List.not_mem_nil, if_false]; rfl
        · rw [S.put_blk, S.blk_up]; rfl
        · simp only [List.mem_singleton] at hu; subst hu; exact List.mem_cons_self
      · cases h2
    | none =>
    rw [hal] at h
    replace h : ((xo P T po E s o.op).bind fun q => if q4x q.2 o.dst = true then (q96 po s q.2 q.1 o.op).bind fun fp => some ((q.2.kill fp.ks).put o.dst q.1, (q.1, fp.wb.map fun x => (x, q.2.blk x)), fp) else none) = some (s', x) := h
    obtain ⟨⟨r, s1⟩, h1, h2⟩ := Option.bind_eq_some_iff.1 h
    simp only at h2
    split at h2
    · rename_i hd
      obtain ⟨fp, h3, h4⟩ := Option.bind_eq_some_iff.1 h2
      injection h4 with h4
      injection h4 with h4 h5
      subst h4 h5
      have hcore : (Nb s → Loc P o s r (fp.wb.map fun x => (x, s1.blk x)) fp) ∧ (Nb s → Nb s1) ∧ (qaD fp s → (∀ d, d ∉ fp.ks → s1.get d = s.get d) ∧ ∀ i, i ∉ fp.wb → s1.blk i = s.blk i) ∧ s1.n = s.n := by
        unfold q96 at h3
        split at h3
        · rename_i hop
          injection h3 with h3
          subst h3
          have hox := qfm hE (K := fun r' s'' => r' = r ∧ s'' = s1) (q8Q hop) h1 ⟨rfl, rfl⟩
          obtain ⟨r', us', ⟨rfl, h6⟩, h7, -⟩ := q9R (t := s) hop (fun _ _ => rfl) (fun _ _ => rfl) hox
          refine ⟨fun hb => qft hA hE hop h1 hb.dead, fun hb => h6 ▸ hb.up us', fun _ => ⟨fun d _ => by rw [← h6]; rfl, fun i hi => ?_⟩, by rw [← h6]; rfl⟩
          rcases h7 with rfl | ⟨hal, b, rfl⟩
          · rw [← h6]; rfl
          · rw [← h6, S.blk_up, if_neg]
            rintro rfl
            exact hi (by simp [hal])
        · split at h3
          · rename_i ty y z ho
            split at h3
            · rename_i id off hx
              injection h3 with h3
              subst h3
              rw [ho] at h1
              have h1 : q0u T s ty y z = some (r, s1) := h1
              have hloc := qcg (P := P) hA ho hx h1 (X := [])
              unfold q0u at h1
              rw [hx] at h1
              simp only at h1
              split at h1
              · split at h1
                · obtain ⟨rfl, rfl⟩ := zo h1
                  refine ⟨fun _ => hloc, fun hb => hb.up _, fun _ => ⟨fun d _ => rfl, fun i hi => ?_⟩, rfl⟩
                  rw [S.blk_up, if_neg]
                  rintro rfl
                  exact hi List.mem_cons_self
                · cases h1
              · cases h1
            · cases h3
          · rename_i ty y z ho
            injection h3 with h3
            subst h3
            rw [ho] at h1
            have h1 : q7M T s ty y z = some (r, s1) := h1
            have hloc := fun hb : Nb s => qez (P := P) hA ho h1 hb.dead (X := [])
            unfold q7M at h1
            split at h1
            · split at h1
              · split at h1
                · obtain ⟨rfl, rfl⟩ := zo h1
                  refine ⟨hloc, fun hb => hb.up _, fun _ => ⟨fun d _ => rfl, fun i hi => ?_⟩, rfl⟩
                  rw [S.blk_up, if_neg]
                  rintro rfl
                  exact hi List.mem_cons_self
                · cases h1
              · cases h1
            · cases h1
          · rename_i args ts ho
            obtain ⟨args⟩ := args
            obtain ⟨ts⟩ := ts
            rw [ho] at h1
            have h1 : xCl T po E s { callee := .builtin .append, args := ⟨args⟩, argTypes := ⟨ts⟩ } = some (r, s1) := h1
            match args, ts, h1, h3, ho with
            | [y, z], [t1, t2], h1, h3, ho =>
              simp only [xCl] at h1
              split at h1
              · rename_i ht
                have hloc := fun hb : Nb s => qiR (P := P) hA ho ht h1 h3 hb.dead
                obtain ⟨id, row, hfp, hs1⟩ : ∃ id row, fp = fpA s id z ∧ s1 = (s.fg id).up [(id, row)] := by
                  have hk := q1H (K := fun r' s'' => r' = r ∧ s'' = s1) h1 ⟨rfl, rfl⟩
                  obtain ⟨e, m, ys, q1, q2, q3, q4, q5, q6, q7, q8⟩ := hk
                  simp only [q88] at h3
                  split at h3
                  · rename_i id sz off n hx
                    injection h3 with h3
                    rw [hx] at q8
                    simp only at q8
                    obtain ⟨p1, p2, cs, p3, p4, p5, p6, p7, p8, p9, p10⟩ := q8
                    exact ⟨_, _, h3.symm, p10.symm⟩
                  · rename_i hx
                    injection h3 with h3
                    rw [hx] at q8
                    simp only at q8
                    obtain ⟨p1, p2, p3, p4, p5⟩ := q8
                    exact ⟨_, _, h3.symm, p5.symm⟩
                  · cases h3
                subst hs1
                have hX : fp.X = [id] := by rw [hfp]; rfl
                refine ⟨hloc, fun hb => Nb.up (s := s.fg id) (fun i hi => hb i ((S.live_fg s id i).1 hi)) _, fun hf => ?_, rfl⟩
                have hf' := hf.resolve_left (by rw [hX]; simp)
                rw [hX] at hf'
                refine ⟨fun d hd => ?_, fun i hi => ?_⟩
                · show (s.fg id).get d = s.get d
                  rw [S.get_fg, ← qlw]; exact hf'.1 d hd
                · rw [S.blk_up, if_neg (fun h => hi (by rw [hfp, ← h]; exact List.mem_cons_self)), S.blk_fg, ← qmi]
                  exact hf'.2 i hi
              · cases h1
          · rename_i f args ts ho
            rw [ho] at h1
            have h1 : ZQ po E s f args.toList ts.toList = some (r, s1) := h1
            have hloc := qeI (P := P) hA hE ho h1 h3
            unfold ZQ at h1
            unfold fpC at h3
            split at h1
            · rename_i g fs caps hfe
              rw [hfe] at h3
              simp only at h3
              by_cases hno : False
              · exact hno.elim
              · unfold q3G q71 Z4 at h1
                unfold qip qh4 at h3
                generalize Jk s 60 _ _ = l at h1 h3
                generalize List.filter _ _ = ln at h1 h3
                generalize q5M s l = bl at h1 h3
                generalize q01 s l = rw' at h1 h3
                have hfc := q3d h3
                obtain ⟨rs', g1, h1⟩ := Option.bind_eq_some_iff.1 h1
                obtain ⟨G, g2, h1⟩ := Option.bind_eq_some_iff.1 h1
                split at h1
                · obtain ⟨q, g3, h1⟩ := Option.bind_eq_some_iff.1 h1
                  split at h1
                  · obtain ⟨rfl, rfl⟩ := zo h1
                    have hX : (bl ++ rw').drop bl.length = rw' := List.drop_left
                    rcases hfc with ⟨⟨c1, c2, c3⟩, rfl⟩ | rfl
                    · refine ⟨fun _ => hloc, fun hb => (hb.fgL _).up _, fun hf => ⟨fun d hd => ?_, fun i hi => ?_⟩, qbW _ _⟩
                      · show (s.fgL ((bl ++ rw').drop bl.length)).get d = s.get d
                        rw [hX]; exact q8B hf d hd
                      · by_cases his : i ∈ bl ++ rw'
                        · exact (q40 hi his).2
                        · rw [qeR c1 his, hX]; exact qan hf hi
                    · refine ⟨fun _ => hloc, fun hb => (hb.fgL _).up _, fun hf => ⟨fun d hd => ?_, fun i hi => ?_⟩, qbW _ _⟩
                      · show (s.fgL ((bl ++ rw').drop bl.length)).get d = s.get d
                        rw [hX]; exact q8B hf d hd
                      · have hi1 : i ∉ wbC s (s.aft (bl ++ rw') bl.length q.2) bl rw' := fun h => hi (List.mem_append_left _ h)
                        by_cases his : i ∈ bl ++ rw'
                        · exact (q40 hi1 his).2
                        · rw [qbE his (fun h => hi (List.mem_append_right _ h)), hX]; exact qan hf hi
                  · cases h1
                · cases h1
            · rename_i rid hfe
              rw [hfe] at h3
              cases h3
            · cases h1
          · cases h3
      obtain ⟨k1, k2, k3, k4⟩ := hcore
      have k5 := qdP h3
      refine ⟨(fun h => by cases h), fun _ => k1, fun hb => Nb.put (s := s1.kill fp.ks) (fun i hi => k2 hb i hi) _ _, fun hf => ⟨fun d => ?_, fun i => ?_⟩, by rw [S.put_n]; exact k4, fun d hdd => ?_, fun u hu => ?_, k5⟩
      · rw [S.put_get, S.kill_get]
        by_cases hk : d ∈ fp.ks
        · simp only [if_pos hk]
        · simp only [if_neg hk, (k3 hf).1 d hk]
      · rw [S.put_blk, S.kill_blk]; exact qbR fp.wb i ((k3 hf).2 i)
      · have := q0C hd d hdd; rw [k4] at this; exact this
      · obtain ⟨y, hy, he⟩ := List.mem_map.1 hu; rw [← he]; exact hy
    · cases h2
  · rename_i ha
    have ha : act = false := by cases act <;> simp at ha ⊢
    subst ha
    split at h
    · rename_i hd
      injection h with h
      injection h with h1 h2
      subst h1 h2
      refine ⟨fun _ => rfl, (fun h => by cases h), fun hb => hb.put _ _, fun _ => ⟨fun d => by rw [S.put_get]; simp, fun i => by rw [S.put_blk]; rfl⟩, S.put_n _ _ _, q0C hd, fun u hu => by simp at hu, .inl rfl⟩
    · cases h
theorem qg5 (hA : Ag P T) (hE : Snd P E) (h : xgF P T po E ops o s = some (s', x)) : Stp P ops o s s' x := by
  unfold xgF at h
  split at h
  · rename_i hg
    obtain ⟨h1, h2, h3, h4, h5, h6, h7, h8⟩ := q9E hA hE h
    exact ⟨⟨true, by unfold gd; rw [hg], (fun h => by cases h), fun _ hb => h2 rfl hb⟩, h4, h5, h6, h7, h3, h8⟩
  · rename_i j want hg
    split at h
    · rename_i d hd
      split at h
      · rename_i b hb
        -- a slot laid down anew with what it holds
        have key : ∀ (v : Bool) (act : Bool), s.get d = .c (.d (.bool v)) → (v == want) = act → xsF P T po E o act (s.put (some d) (.c (.d (.bool v)))) = some (s', x) → Stp P ops o s s' x := by
          intro v act hv hact hx
          obtain ⟨h1, h2, h3, h4, h5, h6, h7, h8⟩ := q9E hA hE hx
          have hget : ∀ i, (s.put (some d) (.c (.d (.bool v)))).get i = s.get i := fun i => by
            rw [S.put_get]
            split
            · rename_i hi; injection hi with hi; subst hi; exact hv.symm
            · rfl
          have hev : ∀ y, (s.put (some d) (.c (.d (.bool v)))).ev y = s.ev y := fun y => by
            cases y with
            | tmp i => exact hget i
            | _ => rfl
          have hnb : Nb s → Nb (s.put (some d) (.c (.d (.bool v)))) := fun hb => hb.put _ _
          refine ⟨⟨act, by unfold gd; rw [hg]; simp only [hd, hv, hact], h1, fun ha hb => ?_⟩, fun hf => ?_, h5, h6, h7, fun hb => h3 (hnb hb), by rw [S.put_nx] at h8; exact h8⟩
          · have hl := h2 ha (hnb hb)
            intro cx ρ t a w next Q q1 q2 q3 q6 q4 q5
            exact hl cx ρ t a w next Q (fun y hy => (q1 y hy).trans (hev y).symm) (fun i hi => q2 i hi) q3 (fun h x hx => by rw [S.put_nx]; exact q6 h x hx) q4 q5
          · have hf' : qaD x.2 (s.put (some d) (.c (.d (.bool v)))) := by
              rcases hf with hf | hf
              · exact .inl hf
              · exact .inr ⟨fun i hi => by rw [hget]; exact hf.1 i hi, fun i hi => hf.2 i hi⟩
            obtain ⟨e1, e2⟩ := h4 hf'
            exact ⟨fun i => by rw [e1, hget], fun i => e2 i⟩
        split at h
        · rename_i hbt
          subst hbt
          exact key true want hb (by cases want <;> rfl) h
        · rename_i hbt
          have hbf : b = false := by cases b <;> simp at hbt ⊢
          subst hbf
          exact key false (!want) hb (by cases want <;> rfl) h
      · rename_i hb
        obtain ⟨h1, h2, h3, h4, h5, h6, h7, h8⟩ := q9E hA hE h
        exact ⟨⟨false, by unfold gd; rw [hg]; simp only [hd, hb], h1, fun h => by cases h⟩, h4, h5, h6, h7, h3, h8⟩
      · cases h
    · cases h
theorem qae (hA : Ag P T) (hE : Snd P E) {A : List (List Nat)} {s0 : S} : ∀ (m k : Nat) (l : List Oper) (s s' : S) (acc : List Tx), ops.drop k = l → xdp P T po E ops A s0 m l s acc = some s' →
    ∃ (Sq : Nat → S) (tx : Nat → Tx), Sq 0 = s ∧ (∀ j, j < m → ∃ o, ops[k + j]? = some o ∧ Stp P ops o (Sq j) (Sq (j + 1)) (tx j)) ∧ (okP A 0 [] (acc ++ (List.range m).map tx) = true ∧ okX ops A s0 (acc ++ (List.range m).map tx) 0 (acc ++ (List.range m).map tx) = true ∧ okK ops A (acc ++ (List.range m).map tx) = true ∧ okN (acc ++ (List.range m).map tx) 0 (acc ++ (List.range m).map tx) = true) ∧ xr P T po E ops (ops.drop (k + m)) (Sq m) = some s'
  | 0, k, l, s, s', acc, hl, h => by
    unfold xdp at h
    split at h
    · rename_i hc
      exact ⟨fun _ => s, fun _ => ((.any, []), ⟨[], [], [], [], []⟩), rfl, fun j hj => by omega, by simpa using hc, by rw [Nat.add_zero, hl]; exact h⟩
    · cases h
  | m + 1, k, [], s, s', acc, hl, h => by cases h
  | m + 1, k, o :: l, s, s', acc, hl, h => by
    unfold xdp at h
    obtain ⟨⟨s1, x⟩, h1, h2⟩ := Option.bind_eq_some_iff.1 h
    have hk : ops[k]? = some o := by
      have := List.getElem?_drop (xs := ops) (i := k) (j := 0)
      rw [hl] at this
      simpa using this.symm
    have hl' : ops.drop (k + 1) = l := by
      have := List.drop_drop (l := ops) (i := 1) (j := k)
      rw [hl] at this
      simpa using this.symm
    obtain ⟨Sq, tx, g1, g2, g3, g4⟩ := qae hA hE m (k + 1) l s1 s' _ hl' h2
    refine ⟨fun j => if j = 0 then s else Sq (j - 1), fun j => if j = 0 then x else tx (j - 1), rfl, fun j hj => ?_, ?_, ?_⟩
    · cases j with
      | zero =>
        refine ⟨o, hk, ?_⟩
        have := qg5 hA hE h1
        simp only [if_true]
        rw [if_neg (by omega), show 0 + 1 - 1 = 0 from rfl, g1]
        exact this
      | succ j =>
        obtain ⟨o', q1, q2⟩ := g2 j (by omega)
        refine ⟨o', by rw [← q1]; congr 1; omega, ?_⟩
        simpa using q2
    · have : acc ++ (List.range (m + 1)).map (fun j => if j = 0 then x else tx (j - 1)) = acc ++ [x] ++ (List.range m).map tx := by
        rw [List.range_succ_eq_map, List.map_cons, List.map_map, List.append_assoc]
        rfl
      rw [this]; exact g3
    · rw [show k + (m + 1) = k + 1 + m by omega]
      simpa using g4
end
end Go.Proofs.Ytplfjlcnffcenaa.Vc
namespace Go.Proofs.Ytplfjlcnffcenaa.Vc
open Go.RowKit
def stT (ops : List Oper) (tx : Nat → Tx) (s0 : S) (p : Nat → Bool) : Nat → S
  | 0 => s0
  | i + 1 => if p i = true then (((stT ops tx s0 p i).up (tx i).1.2).kill (tx i).2.ks).put (q1c ops i) (tx i).1.1 else stT ops tx s0 p i
section comb
variable {ops : List Oper} {tx : Nat → Tx} {s0 : S}
theorem q1O {p q : Nat → Bool} {d : Nat} : ∀ k, (∀ i, i < k → q1c ops i = some d ∨ d ∈ (tx i).2.ks → p i = q i) → (stT ops tx s0 p k).get d = (stT ops tx s0 q k).get d
  | 0, _ => rfl
  | k + 1, h => by
    have ih := q1O k (fun i hi => h i (by omega))
    have key : ∀ (p : Nat → Bool), (stT ops tx s0 p (k + 1)).get d = if p k = true then (if q1c ops k = some d then (tx k).1.1 else if d ∈ (tx k).2.ks then .any else (stT ops tx s0 p k).get d) else (stT ops tx s0 p k).get d := fun p => by
      show (if p k = true then _ else _ : S).get d = _
      by_cases hp : p k = true
      · rw [if_pos hp, if_pos hp, S.put_get, S.kill_get, S.up_get]
      · rw [if_neg hp, if_neg hp]
    rw [key, key, ih]
    by_cases hd : q1c ops k = some d ∨ d ∈ (tx k).2.ks
    · rw [h k (by omega) hd]
    · rw [if_neg (fun h => hd (.inl h)), if_neg (fun h => hd (.inr h))]
      split <;> split <;> rfl
theorem q0G {p q : Nat → Bool} {x : Nat} : ∀ k, (∀ i, i < k → (∃ b, (x, b) ∈ (tx i).1.2) → p i = q i) → (stT ops tx s0 p k).blk x = (stT ops tx s0 q k).blk x
  | 0, _ => rfl
  | k + 1, h => by
    have ih := q0G k (fun i hi => h i (by omega))
    have key : ∀ (p : Nat → Bool), (stT ops tx s0 p (k + 1)).blk x = if p k = true then lk (tx k).1.2 x ((stT ops tx s0 p k).blk x) else (stT ops tx s0 p k).blk x := fun p => by
      show (if p k = true then _ else _ : S).blk x = _
      split
      · rw [S.put_blk, S.kill_blk, q27]
      · rfl
    rw [key, key, ih]
    by_cases hd : ∃ b, (x, b) ∈ (tx k).1.2
    · rw [h k (by omega) hd]
    · rw [ZS _ x _ (fun b hb => hd ⟨b, hb⟩)]
      split <;> split <;> rfl
theorem q90 {p : Nat → Bool} {j : Nat} : ∀ k, j ≤ k → stT ops tx s0 (fun i => p i && decide (i < j)) k = stT ops tx s0 p j
  | 0, h => by
    have : j = 0 := by omega
    subst this; rfl
  | k + 1, h => by
    have heq : ∀ l, l ≤ j → stT ops tx s0 (fun i => p i && decide (i < j)) l = stT ops tx s0 p l := by
      intro l
      induction l with
      | zero => intro _; rfl
      | succ l ih =>
        intro hl
        unfold stT
        rw [ih (by omega)]
        have : decide (l < j) = true := decide_eq_true (by omega)
        simp only [this, Bool.and_true]
    by_cases hj : j = k + 1
    · subst hj; exact heq _ (Nat.le_refl _)
    · have ih := q90 (p := p) (j := j) k (by omega)
      have e1 : ∀ q : Nat → Bool, stT ops tx s0 q (k + 1) = if q k = true then (((stT ops tx s0 q k).up (tx k).1.2).kill (tx k).2.ks).put (q1c ops k) (tx k).1.1 else stT ops tx s0 q k := fun _ => rfl
      rw [e1, if_neg (by simp; omega)]
      exact ih
theorem q6s {α : Type} {Pr : α → Prop} {i : Nat} {z : α} (hz : Pr z) : ∀ {t : List (Nat × α)}, (∀ u ∈ t, u.1 = i → Pr u.2) → Pr (lk t i z)
  | [], _ => hz
  | (j, x) :: t, h => by
    unfold lk
    split
    · rename_i hj; exact h (j, x) List.mem_cons_self hj
    · exact q6s hz (fun u hu => h u (List.mem_cons_of_mem _ hu))
theorem qa7 {fp : Fp} (h0 : qiG fp s0 = true) (p : Nat → Bool) : ∀ k, (∀ i, i < k → p i = true → qal ops fp i (tx i) = true) → (∀ d, d ∉ fp.ks → ((stT ops tx s0 p k).get d).fgL fp.X = (stT ops tx s0 p k).get d) ∧ ∀ x, x ∉ fp.wb → ((stT ops tx s0 p k).blk x).fgL fp.X = (stT ops tx s0 p k).blk x
  | 0, _ => by
    simp only [qiG, Bool.and_eq_true, List.all_eq_true, Bool.or_eq_true] at h0
    refine ⟨fun d hd => ?_, fun x hx => ?_⟩
    · refine q6s (Pr := fun r : R => r.fgL fp.X = r) rfl (fun u hu he => ?_)
      rcases h0.1 u hu with h | h
      · exact absurd (by simpa using h) (he ▸ hd)
      · exact qkM h
    · refine q6s (Pr := fun r : B => r.fgL fp.X = r) rfl (fun u hu he => ?_)
      rcases h0.2 u hu with h | h
      · exact absurd (by simpa using h) (he ▸ hx)
      · exact qlP h
  | k + 1, h1 => by
    obtain ⟨g1, g2⟩ := qa7 h0 p k (fun i hi => h1 i (by omega))
    unfold stT
    split
    · rename_i hp
      have hx := h1 k (by omega) hp
      simp only [qal, Bool.and_eq_true, List.all_eq_true, Bool.or_eq_true] at hx
      refine ⟨fun d hdk => ?_, fun x hxw => ?_⟩
      · rw [S.put_get, S.kill_get, S.up_get]
        split
        · rename_i hd
          rcases hx.1 with h | h
          · exact qkM h
          · rw [hd] at h
            exact absurd (by simpa using h) hdk
        · split
          · rfl
          · exact g1 d hdk
      · rw [S.put_blk, S.kill_blk, q27]
        refine q6s (Pr := fun r : B => r.fgL fp.X = r) (g2 x hxw) (fun u hu he => ?_)
        rcases hx.2 u hu with h | h
        · exact absurd (by simpa using h) (he ▸ hxw)
        · exact qlP h
    · exact ⟨g1, g2⟩
theorem q8s {A : List (List Nat)} {fp : Fp} {j : Nat} : ∀ {l : List Tx} {i : Nat}, qdy ops A fp j i l = true → ∀ (k : Nat) (y : Tx), l[k]? = some y → i + k = j ∨ j ∈ A.getD (i + k) [] ∨ qal ops fp (i + k) y = true
  | [], i, _, k, y, hk => by simp at hk
  | x :: l, i, h, k, y, hk => by
    simp only [qdy, Bool.and_eq_true, Bool.or_eq_true, beq_iff_eq, List.contains_iff_mem] at h
    cases k with
    | zero =>
      simp only [List.getElem?_cons_zero, Option.some.injEq] at hk
      subst hk
      rcases h.1 with (h | h) | h
      · exact .inl h
      · exact .inr (.inl h)
      · exact .inr (.inr h)
    | succ k =>
      have := q8s h.2 k y (by simpa using hk)
      rw [show i + 1 + k = i + (k + 1) by omega] at this
      exact this
theorem qcR {A : List (List Nat)} {l0 : List Tx} : ∀ {l : List Tx} {j : Nat}, okX ops A s0 l0 j l = true → ∀ (k : Nat) (x : Tx), l[k]? = some x → x.2.X = [] ∨ (qiG x.2 s0 = true ∧ qdy ops A x.2 (j + k) 0 l0 = true)
  | [], j, _, k, x, hk => by simp at hk
  | y :: l, j, h, k, x, hk => by
    simp only [okX, Bool.and_eq_true] at h
    cases k with
    | zero =>
      simp only [List.getElem?_cons_zero, Option.some.injEq] at hk
      subst hk
      have h1 := h.1
      split at h1
      · rename_i he; exact .inl (by simpa using he)
      · simp only [Bool.and_eq_true] at h1; exact .inr h1
    | succ k =>
      have := qcR h.2 k x (by simpa using hk)
      rw [show j + 1 + k = j + (k + 1) by omega] at this
      exact this
theorem q8Y {A : List (List Nat)} {j : Nat} {y : Tx} : ∀ {l : List Tx} {i : Nat}, qeL ops A j y i l = true → ∀ (k : Nat) (x : Tx), l[k]? = some x → i + k < j → q0W ops (i + k) j x y = true → i + k ∈ A.getD j []
  | [], i, _, k, x, hk => by simp at hk
  | z :: l, i, h, k, x, hk => by
    simp only [qeL, Bool.and_eq_true, Bool.or_eq_true, Bool.not_eq_true', List.contains_iff_mem, decide_eq_false_iff_not] at h
    cases k with
    | zero =>
      simp only [List.getElem?_cons_zero, Option.some.injEq] at hk
      subst hk
      intro h1 h2
      rcases h.1 with (h | h) | h
      · exact absurd h1 h
      · rw [Nat.add_zero] at h2; rw [h] at h2; cases h2
      · exact h
    | succ k =>
      have := q8Y h.2 k x (by simpa using hk)
      rw [show i + 1 + k = i + (k + 1) by omega] at this
      exact this
theorem qa9 {A : List (List Nat)} {l0 : List Tx} : ∀ {l : List Tx} {j : Nat}, qfL ops A l0 j l = true → ∀ (k : Nat) (y : Tx), l[k]? = some y → qeL ops A (j + k) y 0 l0 = true
  | [], j, _, k, y, hk => by simp at hk
  | z :: l, j, h, k, y, hk => by
    simp only [qfL, Bool.and_eq_true] at h
    cases k with
    | zero => simp only [List.getElem?_cons_zero, Option.some.injEq] at hk; subst hk; exact h.1
    | succ k =>
      have := qa9 h.2 k y (by simpa using hk)
      rw [show j + 1 + k = j + (k + 1) by omega] at this
      exact this
theorem qfX {A : List (List Nat)} {l : List Tx} (h : okK ops A l = true) {i j : Nat} {x y : Tx} (hij : i < j) (hx : l[i]? = some x) (hy : l[j]? = some y) (hc : q0W ops i j x y = true) : i ∈ A.getD j [] := by
  unfold okK at h
  rw [Bool.or_eq_true] at h
  rcases h with h | h
  · rw [List.all_eq_true] at h
    have h1 := h x (List.mem_of_getElem? hx)
    have h2 := h y (List.mem_of_getElem? hy)
    rw [List.isEmpty_iff] at h1 h2
    unfold q0W at hc
    rw [h1, h2] at hc
    cases hc
  · have h1 := qa9 h j y hy
    rw [Nat.zero_add] at h1
    have h2 := q8Y h1 i x hx
    rw [Nat.zero_add] at h2
    exact h2 hij hc
theorem q4V {i d : Nat} {o : Oper} (ho : ops[i]? = some o) (h : d ∈ JB ops o ∨ o.dst = some d) : (q9Y ops i).contains d = true := by
  unfold q9Y
  rw [ho]
  simp only [List.contains_iff_mem, List.mem_append]
  rcases h with h | h
  · exact .inl h
  · exact .inr (by rw [h]; simp)
theorem q80 {a b : Fp} (h : a.none? = true) : q04 a b = false := by
  simp only [Fp.none?, Bool.and_eq_true, List.isEmpty_iff] at h
  simp [q04, h.1, h.2]
theorem qcE {A : List (List Nat)} : ∀ {l : List Tx} {j : Nat} {prev : List (Nat × Fp)}, okP A j prev l = true →
    (∀ (k : Nat) (x : Tx), l[k]? = some x → (∀ q ∈ prev, q04 q.2 x.2 = true → q.1 ∈ A.getD (j + k) []) ∧ ∀ (i : Nat) (y : Tx), i < k → l[i]? = some y → q04 y.2 x.2 = true → j + i ∈ A.getD (j + k) [])
  | [], j, prev, _, k, x, hk => by simp at hk
  | x0 :: l, j, prev, h, k, x, hk => by
    simp only [okP, Bool.and_eq_true, List.all_eq_true] at h
    cases k with
    | zero =>
      simp only [List.getElem?_cons_zero, Option.some.injEq] at hk
      subst hk
      refine ⟨fun q hq hc => ?_, fun i y hi => by omega⟩
      have h1 := h.1 q hq
      rw [if_pos hc] at h1
      simpa using h1
    | succ k =>
      obtain ⟨g1, g2⟩ := qcE h.2 k x (by simpa using hk)
      have e1 : j + 1 + k = j + (k + 1) := by omega
      rw [e1] at g1 g2
      refine ⟨fun q hq hc => ?_, fun i y hi hy hc => ?_⟩
      · refine g1 q ?_ hc
        split
        · exact hq
        · exact List.mem_cons_of_mem _ hq
      · cases i with
        | zero =>
          simp only [List.getElem?_cons_zero, Option.some.injEq] at hy
          subst hy
          by_cases hn : x0.2.none? = true
          · rw [q80 hn] at hc; cases hc
          · refine g1 (j, x0.2) ?_ hc
            rw [if_neg hn]; exact List.mem_cons_self
        | succ i =>
          have := g2 i y (by omega) (by simpa using hy) hc
          rw [show j + (i + 1) = j + 1 + i by omega]; exact this
end comb
section
variable {P : Program} {T : Ty} {po : Pol} {E : Orc} {cx : Cx}
theorem qjb (hA : Ag P T) (hE : Snd P E) {ops : Array Oper} {Q : Exit → Act → World → Prop} {q : Nat} {o : Oper} {s s' : S} {ρ : Pl} {a : Act} {w : World} (hq : ops[q]? = some o) (hs : Sim cx ρ s a w) (h : xr P T po E ops.toList (ops.toList.drop q) s = some s') :
    wpOpIn (FW cx.ro) 0 P ops Q q (fun a' w' => ∃ ρ' s1, Sim cx ρ' s1 a' w' ∧ xr P T po E ops.toList (ops.toList.drop (q + 1)) s1 = some s') a w := by
  have hd : ops.toList.drop q = o :: ops.toList.drop (q + 1) := by
    have hlt : q < ops.toList.length := by have := (Array.getElem?_eq_some_iff.1 hq).1; simpa using this
    rw [List.drop_eq_getElem_cons hlt]
    congr 1
    have := (Array.getElem?_eq_some_iff.1 hq).2
    simpa using this
  rw [hd] at h
  unfold xr at h
  obtain ⟨s1, h1, h2⟩ := Option.bind_eq_some_iff.1 h
  unfold wpOpIn
  rw [hq]
  simp only
  have key : ∀ (s0 : S) (act : Bool), Sim cx ρ s0 a w → Region.wanted o (yielded ops a.tmps) = act → xst P T po E o act s0 = some s1 →
      if Region.wanted o (yielded ops a.tmps) = true then o.wpIn (FW cx.ro) 0 P a w (fun a' w' => ∃ ρ' s1, Sim cx ρ' s1 a' w' ∧ xr P T po E ops.toList (ops.toList.drop (q + 1)) s1 = some s') Q else (∀ f, o.about P w a.eval = some f → (FW cx.ro).fn f) ∧ (fun a' w' => ∃ ρ' s1, Sim cx ρ' s1 a' w' ∧ xr P T po E ops.toList (ops.toList.drop (q + 1)) s1 = some s') (a.put o.dst undef) w := by
    intro s0 act h3 h4 h5
    have := qcK (next := fun a' w' => ∃ ρ' s1, Sim cx ρ' s1 a' w' ∧ xr P T po E ops.toList (ops.toList.drop (q + 1)) s1 = some s') (Q := Q) hA hE h3 h5 (fun ρ' a' w' h6 => ⟨ρ', s1, h6, h2⟩)
    rw [h4]
    split
    · rename_i ha; rw [if_pos ha] at this; exact this
    · rename_i ha; rw [if_neg ha] at this; exact ⟨q4t, this⟩
  unfold xgd at h1
  cases hi : ipX T s o with
  | some y =>
    rw [hi] at h1
    replace h1 : y = some s1 := h1
    subst h1
    obtain ⟨i1, i2⟩ := qcL (next := fun a' w' => ∃ ρ' s1, Sim cx ρ' s1 a' w' ∧ xr P T po E ops.toList (List.drop (q + 1) ops.toList) s1 = some s') (Q := Q) hA hs hi (fun ρ' a' w' h6 => ⟨ρ', _, h6, h2⟩)
    rw [if_pos (by unfold Region.wanted; rw [i1])]
    exact i2
  | none =>
  rw [hi] at h1
  replace h1 : q6o P T po E ops.toList o s = some s1 := h1
  unfold q6o at h1
  split at h1
  · rename_i hg
    exact key s true hs (by unfold Region.wanted; rw [hg]) h1
  · rename_i j want hg
    split at h1
    · rename_i d hd
      split at h1
      · rename_i b hb
        have hgd : gd ops.toList s o.guard = some (b == want) := by unfold gd; rw [hg]; simp only [hd, hb]
        have hw := J8 hs hgd
        split at h1
        · rename_i hbt
          subst hbt
          exact key _ want (hs.lit hb) (by rw [hw]; cases want <;> rfl) h1
        · rename_i hbf
          have hbf : b = false := by cases b <;> simp at hbf ⊢
          subst hbf
          exact key _ (!want) (hs.lit hb) (by rw [hw]; cases want <;> rfl) h1
      · rename_i hb
        have hgd : gd ops.toList s o.guard = some false := by unfold gd; rw [hg]; simp only [hd, hb]
        exact key s false hs (J8 hs hgd) h1
      · cases h1
    · cases h1
theorem q9n {lim i : Nat} : ∀ {l : List Tx} {j : Nat}, qil lim i j l = true → ∀ (k : Nat) (x : Tx), l[k]? = some x → i ≠ j + k → ∀ u ∈ x.1.2, u.1 < lim
  | [], _, _, k, x, hk => by simp at hk
  | y :: l, j, h, k, x, hk => by
    unfold qil at h
    rw [Bool.and_eq_true] at h
    intro hne u hu
    cases k with
    | zero =>
      simp only [List.getElem?_cons_zero, Option.some.injEq] at hk
      subst hk
      have h1 := h.1
      rw [Bool.or_eq_true] at h1
      rcases h1 with h1 | h1
      · exact absurd (by simpa using h1) hne
      · have := List.all_eq_true.1 h1 u hu
        rwa [Nat.blt_eq] at this
    | succ k => exact q9n h.2 k x (by simpa using hk) (by omega) u hu
theorem qde {L : List Tx} : ∀ {l : List Tx} {j : Nat}, okN L j l = true → ∀ (k : Nat) (x : Tx), l[k]? = some x → ∀ lim, x.2.nw = [lim] → qil lim (j + k) 0 L = true
  | [], _, _, k, x, hk => by simp at hk
  | y :: l, j, h, k, x, hk => by
    unfold okN at h
    rw [Bool.and_eq_true] at h
    intro lim hl
    cases k with
    | zero =>
      simp only [List.getElem?_cons_zero, Option.some.injEq] at hk
      subst hk
      have h1 := h.1
      rw [hl] at h1
      exact h1
    | succ k =>
      have := qde h.2 k x (by simpa using hk) lim hl
      rwa [show j + 1 + k = j + (k + 1) by omega] at this
theorem qkN (hA : Ag P T) (hE : Snd P E) {id : Nat} {ops : Array Oper} {Q' : Exit → S → Prop} {s s' : S} {m : Nat} {A : List (List Nat)} (hm : P.follows .mixedOrders = true) (hchk : qeG ops.toList m A = true)
    (h : xdp P T po E ops.toList A s m ops.toList s [] = some s') (hQ : Q' .normal s') : J P cx (.region id ops true) Q' s := by
  intro ρ a w hs
  obtain ⟨Sq, tx, r0, r1, ⟨r2, r3, rk, rn⟩, r4⟩ := qae hA hE m 0 ops.toList s s' [] rfl h
  rw [List.nil_append] at r2 r3 rk rn
  rw [Nat.zero_add] at r4
  -- the checks
  simp only [qeG, Bool.and_eq_true, List.all_eq_true, List.mem_range, decide_eq_true_eq] at hchk
  obtain ⟨⟨⟨⟨c1, c2⟩, c3⟩, c5⟩, c6⟩ := hchk
  have hlen : ops.toList.length = ops.size := by simp
  have hget : ∀ (i : Nat) (o : Oper), ops[i]? = some o → ops.toList[i]? = some o := fun i o h => by rw [Array.getElem?_toList]; exact h
  have hget' : ∀ (i : Nat) (o : Oper), ops.toList[i]? = some o → ops[i]? = some o := fun i o h => by rw [Array.getElem?_toList] at h; exact h
  have hlt : ∀ (i : Nat) (o : Oper), ops[i]? = some o → i < ops.toList.length := fun i o h => by rw [hlen]; exact (Array.getElem?_eq_some_iff.1 h).1
  obtain ⟨An, hAn⟩ : ∃ An, An = qlV ops.toList := ⟨_, rfl⟩
  rw [← hAn] at c1 c3 c5 c6
  have d1 : ∀ (i : Nat) (o : Oper), ops[i]? = some o → (∀ k ∈ QC o, k < i) ∧ ∀ k ∈ An.getD i [], k ∈ QC o ∨ ∃ d ∈ QC o, k ∈ An.getD d [] := fun i o ho => by
    have := c1 i (hlt i o ho)
    rw [hget i o ho] at this
    simp only [Bool.and_eq_true, List.all_eq_true, decide_eq_true_eq, Bool.or_eq_true, List.contains_iff_mem, List.any_eq_true] at this
    exact this
  have hanc : ∀ E, Run ops E → ∀ (i : Nat) (o : Oper), ops[i]? = some o → (∀ k ∈ QC o, k ∈ E) → ∀ k ∈ An.getD i [], k ∈ E := by
    intro E hr i
    induction i using Nat.strongRecOn with
    | _ i ih =>
      intro o ho hE k hk
      rcases (d1 i o ho).2 k hk with h1 | ⟨d, h1, h2⟩
      · exact hE k h1
      · have hdE := hE d h1
        have hdl := hr.lt d hdE
        exact ih d ((d1 i o ho).1 d h1) ops[d] (Array.getElem?_eq_getElem hdl) (fun k' hk' => hr.closed d hdE _ (Array.getElem?_eq_getElem hdl) k' hk') k h2
  have hancE : ∀ E, Run ops E → ∀ j ∈ E, ∀ k ∈ An.getD j [], k ∈ E := fun E hr j hj k hk => by
    have hjl := hr.lt j hj
    exact hanc E hr j ops[j] (Array.getElem?_eq_getElem hjl) (fun k' hk' => hr.closed j hj _ (Array.getElem?_eq_getElem hjl) k' hk') k hk
  have hmn : m ≤ ops.size := by rw [← hlen]; exact c2
  have hop : ∀ i, i < m → ∃ o, ops[i]? = some o := fun i hi => ⟨_, Array.getElem?_eq_getElem (by omega)⟩
  have hst : ∀ j (o : Oper), j < m → ops[j]? = some o → Stp P ops.toList o (Sq j) (Sq (j + 1)) (tx j) := fun j o hj ho => by
    obtain ⟨o', q1, q2⟩ := r1 j hj
    rw [Nat.zero_add, hget j o ho] at q1
    injection q1 with q1
    subst q1; exact q2
  have htx : ∀ i, i < m → ((List.range m).map tx)[i]? = some (tx i) := fun i hi => by simp [hi]
  -- what meets is in order
  have cB : ∀ i j, i < j → j < m → q04 (tx i).2 (tx j).2 = true → i ∈ An.getD j [] := fun i j hij hj hc => by
    have := (qcE r2 j (tx j) (htx j hj)).2 i (tx i) hij (htx i (by omega)) hc
    rw [Nat.zero_add, Nat.zero_add] at this
    have h6 := c6 j hj i this
    simpa using h6
  have cS : ∀ i j, i < j → j < m → q7f ops.toList i j = true → i ∈ An.getD j [] := fun i j hij hj hc => by
    have := c3 j hj i hij
    simp only [Bool.or_eq_true, Bool.not_eq_true', List.contains_iff_mem] at this
    rcases this with h1 | h1
    · rw [hc] at h1; cases h1
    · exact h1
  have hdst : ∀ (j : Nat) (o : Oper), ops[j]? = some o → q1c ops.toList j = o.dst := fun j o ho => by unfold q1c; rw [hget j o ho]; rfl
  -- a writer and a reader of one slot; two writers of one slot
  have cS1 : ∀ (i j : Nat) (o o' : Oper) (d : Nat), i < j → j < m → ops[i]? = some o → ops[j]? = some o' → o.dst = some d → (d ∈ JB ops.toList o' ∨ o'.dst = some d) → i ∈ An.getD j [] := fun i j o o' d hij hj ho ho' hd hx => by
    refine cS i j hij hj ?_
    unfold q7f
    rw [hget i o ho, hget j o' ho']
    simp only [hd, Bool.or_eq_true, List.contains_iff_mem, decide_eq_true_eq]
    exact .inl hx
  have cS2 : ∀ (i j : Nat) (o o' : Oper) (d : Nat), i < j → j < m → ops[i]? = some o → ops[j]? = some o' → o'.dst = some d → d ∈ JB ops.toList o → i ∈ An.getD j [] := fun i j o o' d hij hj ho ho' hd hx => by
    refine cS i j hij hj ?_
    unfold q7f
    rw [hget i o ho, hget j o' ho']
    simp only [hd, Bool.or_eq_true, List.contains_iff_mem]
    exact .inr hx
  -- far
  have hAnlt : ∀ (i : Nat) (o : Oper), ops[i]? = some o → ∀ k ∈ An.getD i [], k < i := by
    intro i
    induction i using Nat.strongRecOn with
    | _ i ih =>
      intro o ho k hk
      rcases (d1 i o ho).2 k hk with h1 | ⟨d, h1, h2⟩
      · exact (d1 i o ho).1 k h1
      · have hd := (d1 i o ho).1 d h1
        have hdl : d < ops.size := by have := hlt i o ho; rw [hlen] at this; omega
        have := ih d hd ops[d] (Array.getElem?_eq_getElem hdl) k h2
        omega
  have cK : ∀ i j, i < j → j < m → q0W ops.toList i j (tx i) (tx j) = true → i ∈ An.getD j [] := fun i j hij hj hc => by
    have := qfX rk hij (htx i (by omega)) (htx j hj) hc
    have h6 := c6 j hj i this
    simpa using h6
  have cK1 : ∀ (i j : Nat) (o' : Oper) (d : Nat), i < j → j < m → ops[j]? = some o' → d ∈ (tx i).2.ks → (d ∈ JB ops.toList o' ∨ o'.dst = some d) → i ∈ An.getD j [] := fun i j o' d hij hj ho' hd hx => by
    refine cK i j hij hj ?_
    simp only [q0W, Bool.or_eq_true, List.any_eq_true]
    exact .inl ⟨d, hd, .inl (q4V (hget j o' ho') hx)⟩
  have cK2 : ∀ (i j : Nat) (o : Oper) (d : Nat), i < j → j < m → ops[i]? = some o → d ∈ (tx j).2.ks → (d ∈ JB ops.toList o ∨ o.dst = some d) → i ∈ An.getD j [] := fun i j o d hij hj ho hd hx => by
    refine cK i j hij hj ?_
    simp only [q0W, Bool.or_eq_true, List.any_eq_true]
    exact .inr ⟨d, hd, q4V (hget i o ho) hx⟩
  have cK3 : ∀ (i j : Nat) (d : Nat), i < j → j < m → d ∈ (tx i).2.ks → d ∈ (tx j).2.ks → i ∈ An.getD j [] := fun i j d hij hj hd hd' => by
    refine cK i j hij hj ?_
    simp only [q0W, Bool.or_eq_true, List.any_eq_true, List.contains_iff_mem]
    exact .inl ⟨d, hd, .inr hd'⟩
  have hfar : ∀ c, c < m → ∀ (p : Nat → Bool) (k : Nat), k ≤ m → (∀ i, i < k → p i = true → i ≠ c ∧ c ∉ An.getD i []) → qaD (tx c).2 (stT ops.toList tx s p k) := fun c hc p k hk hp => by
    rcases qcR r3 c (tx c) (htx c hc) with h1 | ⟨h1, h2⟩
    · exact .inl h1
    · refine .inr (qa7 h1 p k (fun i hi hpi => ?_))
      obtain ⟨p1, p2⟩ := hp i hi hpi
      have h3 := q8s h2 i (tx i) (htx i (by omega))
      rw [Nat.zero_add, Nat.zero_add] at h3
      rcases h3 with h3 | h3 | h3
      · exact absurd h3 p1
      · exact absurd (by simpa using c6 i (by omega) c h3) p2
      · exact h3
  have farext : ∀ {fp : Fp} {t t' : S}, (∀ d, t'.get d = t.get d) → (∀ x, t'.blk x = t.blk x) → qaD fp t → qaD fp t' := fun h1 h2 h => by
    rcases h with h | h
    · exact .inl h
    · exact .inr ⟨fun d hd => by rw [h1]; exact h.1 d hd, fun x hx => by rw [h2]; exact h.2 x hx⟩
  -- the text's states
  obtain ⟨tp, htp⟩ : ∃ tp : Nat → Bool, tp = fun _ => true := ⟨_, rfl⟩
  have htext : ∀ j, j ≤ m → (∀ d, (Sq j).get d = (stT ops.toList tx s tp j).get d) ∧ (∀ x, (Sq j).blk x = (stT ops.toList tx s tp j).blk x) ∧ (Sq j).n = s.n ∧ Nb (Sq j) := by
    intro j
    induction j with
    | zero => intro _; rw [r0]; exact ⟨fun _ => rfl, fun _ => rfl, rfl, hs.nx⟩
    | succ j ih =>
      intro hj
      obtain ⟨i1, i2, i3, i4⟩ := ih (by omega)
      obtain ⟨o, ho⟩ := hop j (by omega)
      have hstp := hst j o (by omega) ho
      obtain ⟨e1, e2⟩ := hstp.eff (farext i1 i2 (hfar j (by omega) tp j (by omega) (fun i hi _ => ⟨by omega, fun hj' => by
        obtain ⟨oi, hoi⟩ := hop i (by omega)
        have := hAnlt i oi hoi j hj'
        omega⟩)))
      have hs1 : stT ops.toList tx s tp (j + 1) = (((stT ops.toList tx s tp j).up (tx j).1.2).kill (tx j).2.ks).put (q1c ops.toList j) (tx j).1.1 := by
        show (if tp j = true then _ else _) = _
        rw [htp, if_pos rfl]
      refine ⟨fun d => ?_, fun x => ?_, hstp.n.trans i3, hstp.nb i4⟩
      · rw [e1, hs1, S.put_get, S.kill_get, S.up_get, hdst j o ho, i1]
      · rw [e2, hs1, S.put_blk, S.kill_blk, q27, i2]
  -- the state behind some operations
  let pE : List Nat → Nat → Bool := fun E i => decide (i ∈ E)
  have hcut : ∀ j, j ≤ m → stT ops.toList tx s (fun i => tp i && decide (i < j)) m = stT ops.toList tx s tp j := fun j hj => q90 m hj
  have htpd : ∀ i j, (tp i && decide (i < j)) = decide (i < j) := fun i j => by rw [htp]; simp
  have hkeywb : ∀ i, i < m → ∀ x, (∃ b, (x, b) ∈ (tx i).1.2) → x ∈ (tx i).2.wb := fun i hi x ⟨b, hb⟩ => by
    obtain ⟨o, ho⟩ := hop i hi
    exact (hst i o hi ho).us _ hb
  have htp1 : ∀ j, stT ops.toList tx s tp (j + 1) = (((stT ops.toList tx s tp j).up (tx j).1.2).kill (tx j).2.ks).put (q1c ops.toList j) (tx j).1.1 := fun j => by
    show (if tp j = true then _ else _) = _
    rw [htp, if_pos rfl]
  -- all of the prefix done: the text's state
  have hfull : ∀ L ρ t a w, (∀ i, i ∈ L ↔ i < m) → (∀ d, t.get d = (stT ops.toList tx s (pE L) m).get d) → (∀ x, t.blk x = (stT ops.toList tx s (pE L) m).blk x) → t.n = s.n → Sim cx ρ t a w → Sim cx ρ (Sq m) a w := by
    intro L ρ t a w hL h1 h2 h3 hsim
    obtain ⟨i1, i2, i3, i4⟩ := htext m (Nat.le_refl _)
    have e : ∀ i, i < m → pE L i = (tp i && decide (i < m)) := fun i hi => by rw [htpd]; simp [pE, hL]
    refine hsim.ext (fun d => ?_) (fun x => ?_) (i3.trans h3.symm) i4
    · rw [i1, h1, q1O m (fun i hi _ => e i hi), hcut m (Nat.le_refl _)]
    · rw [i2, h2, q0G m (fun i hi _ => e i hi), hcut m (Nat.le_refl _)]
  refine q7O hm (fun i o ho k hk => (d1 i o ho).1 k hk)
    (fun L a w => ∃ ρ t, Sim cx ρ t a w ∧ (((∀ i ∈ L, i < m) ∧ (∀ d, t.get d = (stT ops.toList tx s (pE L) m).get d) ∧ (∀ x, t.blk x = (stT ops.toList tx s (pE L) m).blk x) ∧ t.n = s.n) ∨ ∃ q, m ≤ q ∧ (∀ i, i ∈ L ↔ i < q) ∧ xr P T po E ops.toList (ops.toList.drop q) t = some s')) ?_ ?_ ⟨ρ, s, hs.drew, .inl ⟨fun i h => by simp at h, fun d => ?_, fun x => ?_, rfl⟩⟩
  rotate_left 2
  · have : (stT ops.toList tx s (pE []) m).get d = (stT ops.toList tx s (fun i => tp i && decide (i < 0)) m).get d := q1O m (fun i _ _ => by simp [pE])
    rw [this, hcut 0 (Nat.zero_le _)]; rfl
  · have : (stT ops.toList tx s (pE []) m).blk x = (stT ops.toList tx s (fun i => tp i && decide (i < 0)) m).blk x := q0G m (fun i _ _ => by simp [pE])
    rw [this, hcut 0 (Nat.zero_le _)]; rfl
  · rintro L a w i o hr ⟨ρ, t, hsim, hcase⟩ hiL ho hdeps
    have hsuf : ∀ q t, m ≤ q → (∀ j, j ∈ L ↔ j < q) → Sim cx ρ t a w → xr P T po E ops.toList (ops.toList.drop q) t = some s' → i = q →
        wpOpIn (FW cx.ro) 0 P ops (fun e a' w' => ∃ s' ρ', Q' e s' ∧ Sim cx ρ' s' a' w') i (fun a' w' => ∃ ρ t, Sim cx ρ t a' w' ∧ (((∀ k ∈ i :: L, k < m) ∧ (∀ d, t.get d = (stT ops.toList tx s (pE (i :: L)) m).get d) ∧ (∀ x, t.blk x = (stT ops.toList tx s (pE (i :: L)) m).blk x) ∧ t.n = s.n) ∨ ∃ q, m ≤ q ∧ (∀ k, k ∈ i :: L ↔ k < q) ∧ xr P T po E ops.toList (ops.toList.drop q) t = some s')) a w := by
      intro q t hq hL hs' hv hiq
      subst hiq
      refine wpOpIn_mono (fun a' w' ⟨ρ', s'', g1, g2⟩ => ?_) (qjb hA hE ho hs' hv)
      exact ⟨ρ', s'', g1, .inr ⟨i + 1, by omega, fun k => by rw [List.mem_cons, hL]; omega, g2⟩⟩
    have hin : i < ops.size := (Array.getElem?_eq_some_iff.1 ho).1
    have h5 : m ≤ i → ∀ j, j < i → j ∈ L := fun hmi j hj => by
      have := c5 i (by rw [hlen]; exact hin)
      simp only [Bool.or_eq_true, decide_eq_true_eq, List.all_eq_true, List.mem_range, List.contains_iff_mem] at this
      rcases this with h | h
      · omega
      · exact hanc L hr i o ho hdeps j (h j hj)
    rcases hcase with ⟨hLm, t1, t2, t3⟩ | ⟨q, hq, hL, hv⟩
    · by_cases him : i < m
      · have hstp := hst i o him ho
        obtain ⟨q1, q2, q3, q4⟩ := htext i (by omega)
        -- before and behind
        have hbefore : ∀ k, i ∈ An.getD k [] → k ∈ L → False := fun k hk hkL => hiL (hancE L hr k hkL i hk)
        have hafter : ∀ k, k ∈ An.getD i [] → k ∈ L := fun k hk => hanc L hr i o ho hdeps k hk
        have hslot : ∀ d ∈ JB ops.toList o, t.get d = (Sq i).get d := fun d hd => by
          rw [t1, q1, ← hcut i (by omega)]
          refine q1O m (fun k hk hkd => ?_)
          rw [htpd]
          obtain ⟨ok, hok⟩ := hop k hk
          rw [hdst k ok hok] at hkd
          rcases Nat.lt_trichotomy k i with h | h | h
          · rw [decide_eq_true h]
            refine decide_eq_true (hafter k ?_)
            rcases hkd with hkd | hkd
            · exact cS1 k i ok o d h him hok ho hkd (.inl hd)
            · exact cK1 k i o d h him ho hkd (.inl hd)
          · subst h; simp [pE, hiL]
          · rw [decide_eq_false (by omega)]
            refine decide_eq_false fun hkL => hbefore k ?_ hkL
            rcases hkd with hkd | hkd
            · exact cS2 i k o ok d h hk ho hok hkd hd
            · exact cK2 i k o d h hk ho hkd (.inl hd)
        have hblk : ∀ x, x ∈ (tx i).2.rb ∨ x ∈ (tx i).2.wb → t.blk x = (Sq i).blk x := fun x hx => by
          rw [t2, q2, ← hcut i (by omega)]
          refine q0G m (fun k hk hkx => ?_)
          rw [htpd]
          have hkw := hkeywb k hk x hkx
          rcases Nat.lt_trichotomy k i with h | h | h
          · rw [decide_eq_true h]
            refine decide_eq_true (hafter k (cB k i h him ?_))
            simp only [q04, Bool.or_eq_true, List.any_eq_true, List.contains_iff_mem]
            exact .inl ⟨x, hkw, hx⟩
          · subst h; simp [pE, hiL]
          · rw [decide_eq_false (by omega)]
            refine decide_eq_false fun hkL => hbefore k (cB i k h hk ?_) hkL
            simp only [q04, Bool.or_eq_true, List.any_eq_true, List.contains_iff_mem]
            rcases hx with hx | hx
            · exact .inr ⟨x, hx, hkw⟩
            · exact .inl ⟨x, hx, .inr hkw⟩
        have hev : ∀ y ∈ o.op.operands.toList, t.ev y = (Sq i).ev y := fun y hy => qgy (fun x hx => hslot x (by
          unfold JB qaz
          exact List.mem_append_left _ (List.mem_flatMap.2 ⟨y, hy, hx⟩)))
        have hgd : gd ops.toList t o.guard = gd ops.toList (Sq i) o.guard := by
          unfold gd
          cases hgu : o.guard with
          | none => rfl
          | some jw =>
            obtain ⟨j, want⟩ := jw
            simp only
            cases hd : (ops.toList[j]?).bind (·.dst) with
            | none => rfl
            | some d =>
              simp only
              rw [hslot d (by unfold JB; rw [hgu]; exact List.mem_append_right _ (by show d ∈ (q1c ops.toList j).toList; unfold q1c; rw [hd]; simp))]
        have hnew : ∀ k ∈ i :: L, k < m := fun k hk => by
          rcases List.mem_cons.1 hk with rfl | hk
          · exact him
          · exact hLm k hk
        have hdok : ∀ d, o.dst = some d → d < t.n := fun d hd => by rw [t3, ← q3]; exact hstp.dst d hd
        -- the state behind it
        have fin : ∀ (ρ' : Pl) (t' : S) (a' : Act) (w' : World), (∀ d, t'.get d = if o.dst = some d then (tx i).1.1 else if d ∈ (tx i).2.ks then .any else t.get d) → (∀ x, t'.blk x = lk (tx i).1.2 x (t.blk x)) → t'.n = t.n → Sim cx ρ' t' a' w' →
            ∃ ρ t, Sim cx ρ t a' w' ∧ (((∀ k ∈ i :: L, k < m) ∧ (∀ d, t.get d = (stT ops.toList tx s (pE (i :: L)) m).get d) ∧ (∀ x, t.blk x = (stT ops.toList tx s (pE (i :: L)) m).blk x) ∧ t.n = s.n) ∨ ∃ q, m ≤ q ∧ (∀ k, k ∈ i :: L ↔ k < q) ∧ xr P T po E ops.toList (ops.toList.drop q) t = some s') := by
          intro ρ' t' a' w' g1 g2 g3 g4
          refine ⟨ρ', t', g4, .inl ⟨hnew, fun d => ?_, fun x => ?_, g3.trans t3⟩⟩
          · rw [g1]
            have eq1 : o.dst = some d ∨ d ∈ (tx i).2.ks → (stT ops.toList tx s (pE (i :: L)) m).get d = (stT ops.toList tx s (fun k => tp k && decide (k < i + 1)) m).get d := fun hdi => q1O m (fun k hk hkd => by
              rw [htpd]
              obtain ⟨ok, hok⟩ := hop k hk
              rw [hdst k ok hok] at hkd
              rcases Nat.lt_trichotomy k i with h | h | h
              · rw [decide_eq_true (show k < i + 1 by omega)]
                refine decide_eq_true (List.mem_cons_of_mem _ (hafter k ?_))
                rcases hdi with hd | hd
                · rcases hkd with hkd | hkd
                  · exact cS1 k i ok o d h him hok ho hkd (.inr hd)
                  · exact cK1 k i o d h him ho hkd (.inr hd)
                · rcases hkd with hkd | hkd
                  · exact cK2 k i ok d h him hok hd (.inr hkd)
                  · exact cK3 k i d h him hkd hd
              · subst h; simp [pE]
              · rw [decide_eq_false (by omega)]
                refine decide_eq_false fun hkL => ?_
                rcases List.mem_cons.1 hkL with h' | h'
                · omega
                · refine hbefore k ?_ h'
                  rcases hdi with hd | hd
                  · rcases hkd with hkd | hkd
                    · exact cS1 i k o ok d h hk ho hok hd (.inr hkd)
                    · exact cK2 i k o d h hk ho hkd (.inr hd)
                  · rcases hkd with hkd | hkd
                    · exact cK1 i k ok d h hk hok hd (.inr hkd)
                    · exact cK3 i k d h hk hd hkd)
            by_cases hd : o.dst = some d
            · rw [if_pos hd, eq1 (.inl hd), hcut (i + 1) (by omega), htp1, S.put_get, hdst i o ho, if_pos hd]
            · rw [if_neg hd]
              by_cases hdk : d ∈ (tx i).2.ks
              · rw [if_pos hdk, eq1 (.inr hdk), hcut (i + 1) (by omega), htp1, S.put_get, hdst i o ho, if_neg hd, S.kill_get, if_pos hdk]
              · rw [if_neg hdk, t1]
                refine q1O m (fun k hk hkd => ?_)
                have hki : k ≠ i := fun e => by
                  subst e
                  rcases hkd with hkd | hkd
                  · exact hd (by rw [← hdst k o ho]; exact hkd)
                  · exact hdk hkd
                simp [pE, hki]
          · rw [g2]
            by_cases hx : ∃ b, (x, b) ∈ (tx i).1.2
            · have hiw := hkeywb i him x hx
              have e1 : (stT ops.toList tx s (pE (i :: L)) m).blk x = (stT ops.toList tx s (fun k => tp k && decide (k < i + 1)) m).blk x := q0G m (fun k hk hkx => by
                rw [htpd]
                have hkw := hkeywb k hk x hkx
                rcases Nat.lt_trichotomy k i with h | h | h
                · rw [decide_eq_true (show k < i + 1 by omega)]
                  refine decide_eq_true (List.mem_cons_of_mem _ (hafter k (cB k i h him ?_)))
                  simp only [q04, Bool.or_eq_true, List.any_eq_true, List.contains_iff_mem]
                  exact .inl ⟨x, hkw, .inr hiw⟩
                · subst h; simp [pE]
                · rw [decide_eq_false (by omega)]
                  refine decide_eq_false fun hkL => ?_
                  rcases List.mem_cons.1 hkL with h' | h'
                  · omega
                  · refine hbefore k (cB i k h hk ?_) h'
                    simp only [q04, Bool.or_eq_true, List.any_eq_true, List.contains_iff_mem]
                    exact .inl ⟨x, hiw, .inr hkw⟩)
              rw [e1, hcut (i + 1) (by omega), htp1, S.put_blk, S.kill_blk, q27]
              exact q54 _ x _ _ hx
            · rw [ZS _ x _ (fun b hb => hx ⟨b, hb⟩), t2]
              refine q0G m (fun k hk hkx => ?_)
              have hki : k ≠ i := fun e => hx (e ▸ hkx)
              simp [pE, hki]
        obtain ⟨b, hb, hf, ht⟩ := hstp.run
        unfold wpOpIn
        rw [ho]
        simp only
        cases b with
        | false =>
          rw [if_neg (by rw [J8 hsim (hgd.trans hb)]; simp)]
          have hx := hf rfl
          refine ⟨q4t, fin ρ (t.put o.dst (.tup [])) _ _ (fun d => ?_) (fun x => ?_) (S.put_n _ _ _) (hsim.put hdok RR.un)⟩
          · rw [S.put_get, hx]; simp
          · rw [S.put_blk, hx]; rfl
        | true =>
          rw [if_pos (J8 hsim (hgd.trans hb))]
          have hloc := ht rfl q4
          have hnew : (tx i).2.nw ≠ [] → ∀ x, t.live x → x < (Sq i).nx := fun hne x hx => by
            have hnw := hstp.nwp.resolve_left hne
            have hN := qde rn i (tx i) (htx i him) _ hnw
            rw [Nat.zero_add] at hN
            by_cases hkx : ∃ k, k < m ∧ k ≠ i ∧ ∃ b, (x, b) ∈ (tx k).1.2
            · obtain ⟨k, hk, hki, b, hb⟩ := hkx
              exact q9n hN k (tx k) (htx k hk) (by omega) _ hb
            · have e : t.blk x = (Sq i).blk x := by
                rw [t2, q2, ← hcut i (by omega)]
                refine q0G m (fun k hk hb => ?_)
                rw [htpd]
                have hki : k = i := by
                  by_cases h : k = i
                  · exact h
                  · exact absurd ⟨k, hk, h, hb⟩ hkx
                subst hki; simp [pE, hiL]
              refine q4 x ?_
              unfold S.live at hx ⊢
              rw [← e]; exact hx
          refine (hloc cx ρ t a w _ _ hev hblk (farext t1 t2 (hfar i him (pE L) m (Nat.le_refl _) (fun k hk hkL => ?_))) hnew hsim ?_)
          · have hkL : k ∈ L := of_decide_eq_true hkL
            exact ⟨fun e => hiL (e ▸ hkL), fun h => hbefore k h hkL⟩
          intro ρ' t' v w' g1 g2 g3 g4 g5
          refine fin ρ' ((t'.kill (tx i).2.ks).put o.dst (tx i).1.1) _ _ (fun d => ?_) (fun x => ?_) (by rw [S.put_n]; exact g3) ((g4.kill _).put (fun d hd => by show d < t'.n; rw [g3]; exact hdok d hd) g5)
          · rw [S.put_get, S.kill_get]
            by_cases hdk : d ∈ (tx i).2.ks
            · simp only [if_pos hdk]
            · simp only [if_neg hdk, g1 d hdk]
          · rw [S.put_blk, S.kill_blk, g2]
      · have hi : i = m := by
          rcases Nat.lt_or_ge m i with h | h
          · have := hLm m (h5 (by omega) m h); omega
          · omega
        have hL : ∀ j, j ∈ L ↔ j < m := fun j => ⟨fun hj => hLm j hj, fun hj => h5 (by omega) j (by omega)⟩
        exact hsuf m _ (Nat.le_refl _) hL (hfull L ρ t a w hL t1 t2 t3 hsim) r4 hi
    · have hiq : i = q := by
        have h1 : ¬ i < q := fun h => hiL ((hL i).2 h)
        have h2 : ∀ j, j < i → j < q := fun j hj => (hL j).1 (h5 (by omega) j hj)
        rcases Nat.lt_or_ge q i with h | h
        · have := h2 q h; omega
        · omega
      exact hsuf q t hq hL hsim hv hiq
  · rintro L a w hr ⟨ρ, t, hsim, hcase⟩ hall
    rcases hcase with ⟨hLm, t1, t2, t3⟩ | ⟨q, hq, hL, hv⟩
    · have hmn' : ops.size ≤ m := by
        rcases Nat.lt_or_ge m ops.size with h | h
        · have := hLm m (hall m h); omega
        · exact h
      have hL : ∀ j, j ∈ L ↔ j < m := fun j => ⟨fun hj => hLm j hj, fun hj => hall j (by omega)⟩
      have hd : ops.toList.drop m = [] := List.drop_eq_nil_of_le (by rw [hlen]; exact hmn')
      rw [hd] at r4
      injection r4 with r4
      exact ⟨_, ρ, hQ, r4 ▸ hfull L ρ t a w hL t1 t2 t3 hsim⟩
    · have hqn : ops.size ≤ q := by
        rcases Nat.lt_or_ge q ops.size with h | h
        · have := (hL q).1 (hall q h); omega
        · exact h
      have hd : ops.toList.drop q = [] := List.drop_eq_nil_of_le (by rw [hlen]; exact hqn)
      rw [hd] at hv
      injection hv with hv
      exact ⟨_, ρ, hQ, hv ▸ hsim⟩
theorem qla (hA : Ag P T) (hm : P.follows .mixedOrders = true) : DOk P po (D1 P T po) := fun _ _ _ hE _ _ _ _ _ _ _ hq h hQ => qkN hA hE hm hq h hQ
end
section
variable {P : Program} {T : Ty} {po : Pol}
theorem q2m {E E' : Orc} (hE : OLe E E') {o : Oper} {act : Bool} {s : S} {x : S × Tx} (h : xsF P T po E o act s = some x) : xsF P T po E' o act s = some x := by
  unfold xsF at h ⊢
  by_cases hc : act = true
  · rw [if_pos hc] at h ⊢
    cases hal : alC po s o.op with
    | some gr => rw [hal] at h; exact qS (fun _ h => qS (fun _ h => hE _ _ _ _ _ h) (fun _ _ h => h) h) (fun _ _ h => h) h
    | none => rw [hal] at h; exact qS (fun _ h => qa2 hE h) (fun _ _ h => h) h
  · rw [if_neg hc] at h ⊢; exact h
theorem qbG {E E' : Orc} (hE : OLe E E') {ops : List Oper} {o : Oper} {s : S} {x : S × Tx} (h : xgF P T po E ops o s = some x) : xgF P T po E' ops o s = some x := by
  unfold xgF at h ⊢
  split at h
  · exact q2m hE h
  · split at h
    · split at h
      · split at h
        · rename_i hb; rw [if_pos hb]; exact q2m hE h
        · rename_i hb; rw [if_neg hb]; exact q2m hE h
      · exact q2m hE h
      · cases h
    · cases h
theorem q6v {E E' : Orc} (hE : OLe E E') {ops : List Oper} {A : List (List Nat)} {s0 : S} : ∀ (m : Nat) (l : List Oper) (s s' : S) (acc : List Tx), xdp P T po E ops A s0 m l s acc = some s' → xdp P T po E' ops A s0 m l s acc = some s'
  | 0, l, s, s', acc, h => by
    unfold xdp at h ⊢
    split at h
    · rename_i hc; rw [if_pos hc]; exact q6d hE l h
    · cases h
  | _ + 1, [], _, _, _, h => by cases h
  | m + 1, o :: l, s, s', acc, h => qS (fun _ h => qbG hE h) (fun _ _ h => q6v hE m l _ _ _ h) h
theorem q1G : q43 (D1 P T po) := fun _ _ hE _ _ _ _ _ _ h => q6v hE _ _ _ _ _ h
section
variable {D : DRs} (hM : q43 D)
include hM
theorem q2v {o : Oper} {act : Bool} {s : S} : ∀ x, xsF P T po (EE P T po D) o act s = some x → ∃ n, ∀ m, n ≤ m → xsF P T po (xf P T po D m) o act s = some x := fun x h => by
  unfold xsF at h ⊢
  by_cases hc : act = true
  · simp only [if_pos hc] at h ⊢
    cases hal : alC po s o.op with
    | some gr => rw [hal] at h; exact qZ (fun a h => qZ (q5I hM) (fun _ => zf) h) (fun _ => zf) h
    | none => rw [hal] at h; exact qZ (q8M hM) (fun _ => zf) h
  · simp only [if_neg hc] at h ⊢; exact ⟨0, fun _ _ => h⟩
theorem qbl {ops : List Oper} {o : Oper} {s : S} : ∀ x, xgF P T po (EE P T po D) ops o s = some x → ∃ n, ∀ m, n ≤ m → xgF P T po (xf P T po D m) ops o s = some x := fun x h => by
  unfold xgF at h ⊢
  split at h
  · exact q2v hM _ h
  · split at h
    · split at h
      · split at h
        · rename_i hb; simp only [if_pos hb]; exact q2v hM _ h
        · rename_i hb; simp only [if_neg hb]; exact q2v hM _ h
      · exact q2v hM _ h
      · cases h
    · cases h
theorem q6D {ops : List Oper} {A : List (List Nat)} {s0 : S} : ∀ (k : Nat) (l : List Oper) (s : S) (acc : List Tx) (x : S), xdp P T po (EE P T po D) ops A s0 k l s acc = some x → ∃ n, ∀ m, n ≤ m → xdp P T po (xf P T po D m) ops A s0 k l s acc = some x
  | 0, l, s, acc, x, h => by
    unfold xdp at h ⊢
    split at h
    · rename_i hc; simp only [if_pos hc]; exact q67 hM l s x h
    · cases h
  | _ + 1, [], _, _, _, h => by cases h
  | k + 1, o :: l, s, acc, x, h => qZ (qbl hM) (fun q b h => q6D k l q.1 _ b h) h
end
theorem q6c : qhm P T po (D1 P T po) := fun f k id ops s s' h => by
  obtain ⟨n, hn⟩ := q6D q1G _ _ _ _ _ h
  exact ⟨n, hn n (Nat.le_refl n)⟩
end
def zj (k : Nat) : Code → Option Code
  | .loop c => if qI c = k then some c else zj k c
  | .seq a b => (zj k a).or (zj k b)
  | .cond _ a b => (zj k a).or (zj k b)
  | .block _ c => zj k c
  | .rangeFunc _ _ a b => (zj k a).or (zj k b)
  | _ => none
def ZE (k : Nat) : Code → Option (Code × Code)
  | .rangeFunc _ _ a b => if qI b = k then some (a, b) else none
  | .loop c => ZE k c
  | .seq a b => (ZE k a).or (ZE k b)
  | .cond _ a b => (ZE k a).or (ZE k b)
  | .block _ c => ZE k c
  | _ => none
end Go.Proofs.Ytplfjlcnffcenaa.Vc
namespace Go.Proofs.Ytplfjlcnffcenaa.Vc
open Go.RowKit
set_option linter.unusedSimpArgs false
def qaG : Operand := .const (.slice none 0 0)
def q55 (t bt : TypeId) : Code :=
  (Code.region 0 #[{ dst := some 2, op := .assign qaG, type := t, pos := "slices.go:355", after := #[], guard := none }] false).seq
    (((Code.region 1 #[{ dst := some 3, op := .move (.tmp 0), type := t, pos := "slices.go:357", after := #[], guard := none },
        { dst := some 4, op := .binOp .eql t (.tmp 3) qaG t, type := bt, pos := "slices.go:357", after := #[{ on := 0, ground := .data }], guard := none }] false).seq
      (Code.cond (.tmp 4) ((Code.region 2 #[{ dst := some 2, op := .assign qaG, type := t, pos := "slices.go:358", after := #[], guard := none }] false).seq Code.ret) Code.skip)).seq
      ((Code.region 3 #[{ dst := some 5, op := .buildSlice t 0 #[], type := t, pos := "slices.go:362", after := #[], guard := none },
          { dst := some 6, op := .move (.tmp 0), type := t, pos := "slices.go:362", after := #[], guard := none },
          { dst := some 7, op := .call { callee := .builtin .append, args := #[.tmp 5, .tmp 6], argTypes := #[t, t] }, type := t, pos := "slices.go:362", after := #[{ on := 0, ground := .data }, { on := 1, ground := .data }], guard := none },
          { dst := some 2, op := .assign (.tmp 7), type := t, pos := "slices.go:362", after := #[{ on := 2, ground := .data }, { on := 2, ground := .chain }, { on := 0, ground := .phase }, { on := 1, ground := .phase }, { on := 2, ground := .phase }], guard := none }] false).seq
        Code.ret))
section
variable {P : Program} {T : Ty} {cx : Cx} {ρ : Pl} {s : S} {a : Act} {w : World}
def po1 (z : Nat) (ro : Bool := false) : Pol := { q := fun _ => [z], ow := fun _ => [], fz := fun _ => false, kp := fun _ _ => [], kx := fun _ _ => [], rw := fun _ _ => [], ro := fun _ => ro, dm := fun _ _ => 0, an := fun _ _ => [], rk := fun _ _ => [], pr := fun _ => none }
def E0 : Orc := fun _ _ _ _ => none
theorem qjn : Snd P E0 := ⟨fun _ _ _ _ _ _ h => (by cases h), fun _ _ _ _ _ _ _ _ h => (by cases h)⟩
theorem qkX {q : Nat → List Oper → Bool} {k : Nat} : ql1 P q k (fun _ _ _ => none) := fun _ _ _ _ _ _ _ _ h => by cases h
def XD0 (P : Program) (T : Ty) (z : Nat) (c : Code) (s : S) : XS := XD P T (po1 z) E0 (fun _ _ _ => none) (iter 0) 0 0 c s
theorem q3I (hA : Ag P T) {z : Nat} {c : Code} {s s' : S} {e : Exit} {Q : Exit → S → Prop} (hq : q3B (fun _ _ => false) false c = true) (hk : cx.k = 0) (h : XD0 P T z c s = some (e, s')) (hQ : Q e s') : J P cx c Q s :=
  qc8 (n := 0) hA qjn qkX c s s' e cx Q hq hk (fun h => by cases h) h hQ
theorem J.nilTest (hA : Ag P T) {id : Nat} {m o : Oper} {x d : Nat} {t t' e : TypeId} {sz n : Nat} {ds : List D} {Q : Exit → S → Prop} (hm : m.op = .move (.tmp x)) (hmg : m.guard = none) (hmd : m.dst = some d) (ho : o.op = .binOp .eql t (.tmp d) qaG t') (hog : o.guard = none)
    (hk : T.k t = .sl e) (hx : s.get x = .c (.d (.sl sz n ds))) (hd : d < s.n) (hod : ∀ d', o.dst = some d' → d' < s.n)
    (hQ : ∀ b : Bool, (b = true → n = 0 ∧ ds = []) → Q .normal ((s.put (some d) (.c (.d (.sl sz n ds)))).put o.dst (.c (.d (.bool b))))) : J P cx (.region id #[m, o] false) Q s := by
  intro ρ a w hs
  refine wpIn_region_list ?_
  show wpListIn (FW cx.ro) 0 P #[m, o] _ [m, o] a w
  unfold wpListIn
  rw [if_pos (by unfold Region.wanted; rw [hmg])]
  have h1 : ox P T s s.nx m.op (fun r s' => r = s.get x ∧ s' = s) := by rw [hm]; exact ⟨rfl, rfl⟩
  refine q3z hA (fun h => by have := hs.nx _ h; omega) hs h1 ?_
  rintro r s2 ρ1 v w1 ⟨rfl, rfl⟩ hs1 hv
  have hs2 := hs1.put (dst := m.dst) (fun d' hd' => by rw [hmd] at hd'; injection hd' with hd'; rw [← hd']; exact hd) hv
  rw [hmd, hx] at hs2
  unfold wpListIn
  rw [if_pos (by unfold Region.wanted; rw [hog])]
  obtain ⟨d0, i, z, ht⟩ := hA.at_ (t := t) (by rw [hk]; simp)
  have hkd := JE (ht.kd.trans hk)
  subst hkd
  rw [hx] at hv
  obtain ⟨A, cap, q1, q2, q3, q4, q5, q6⟩ := hv.inv_sl
  refine qmY cx.ro ?_ (fun c hc => by rw [ho] at hc; cases hc)
  have hev : (a.put m.dst v).eval (.tmp d) = v := by
    rw [hmd]
    show (a.tmps.setIfInBounds d v).getD d undef = v
    have hlt : d < a.tmps.size := by rw [hs1.size]; exact hd
    simp [Array.getD_eq_getD_getElem?, hlt]
  have he : execOp (a.put m.dst v).eval o = (do pure (.value (← (do eqGuard .eql t (.tmp d) qaG ((a.put m.dst v).eval (.tmp d)) ((a.put m.dst v).eval qaG); binOp .eql t ((a.put m.dst v).eval (.tmp d)) ((a.put m.dst v).eval qaG))))) := by unfold execOp; simp only [ho]
  have hr : (do eqGuard .eql t (.tmp d) qaG ((a.put m.dst v).eval (.tmp d)) ((a.put m.dst v).eval qaG); binOp .eql t ((a.put m.dst v).eval (.tmp d)) ((a.put m.dst v).eval qaG) : Sem Value).run P w1 = .ok (.bool A.isNone) w1 := by
    rw [hev, q1, eqGuard_at_slice]
    show (do binOp .eql t (.slice A n cap) (.slice none 0 0) : Sem Value).run P w1 = _
    simp only [binOp, Sem.run_bind]
    unfold Op.equal Op.maxDepth Op.equalIn
    simp only [Sem.run_bind, run_underlying ht.ud, Result.andThen_ok]
    cases A <;> rfl
  refine qR he hr ?_
  unfold wpListIn
  rw [hmd]
  refine ⟨_, ρ1, hQ A.isNone (fun hb => ?_), hs2.put hod (.c _ _ (.d _ _ (.bool _)))⟩
  rcases q6 with q6 | ⟨b, off, f, q6, -⟩
  · subst q6
    rw [Nat.zero_mul] at q5
    exact ⟨rfl, List.eq_nil_of_length_eq_zero q5⟩
  · rw [q6] at hb; cases hb
theorem qbi (hA : Ag P T) {f : FuncId} {fn : Func} {t e bt : TypeId} (hf : P.funcs[f]? = some fn) (hb : fn.body = some (q55 t bt)) (hname : (fn.name == "runtime.NumGoroutine") = false) (hn : fn.ntmps = 8) (hr : fn.results.toList = [.tmp 2])
    (hk : T.k t = .sl e) (he : T.k e ≠ .other) (hz : 0 < T.sz e) (hzl : (T.zero e).length = T.sz e) {n : Nat} {ds : List D} (hl : ds.length = n * T.sz e) (hm1 : n ≤ maxLen) (hm2 : n * T.by_ e ≤ 140737488355328) :
    AC P f [.c (.d (.sl (T.sz e) n ds))] [] 0 fun r hp => r = .c (.d (.sl (T.sz e) n ds)) ∧ hp = [] := by
  refine AC.enter2 hA hf hb hname (by rw [hn]; show (1 : Nat) ≤ 8; omega) (fun cx hk0 hro => ?_)
  rw [hn, hr]
  have fin : ∀ (s : S) (r : R), s.get 2 = r → q3t (po1 (T.sz e)) 0 0 [t] s [r] = some (.c (.d (.sl (T.sz e) n ds)), []) → ∃ rs, rvs T s [.tmp 2] = some rs ∧
      ∀ ρ a w, Sim cx ρ s a w → ∃ rs' hp' nx' ρ', (one rs' = .c (.d (.sl (T.sz e) n ds)) ∧ hp' = []) ∧ Sim cx ρ' (QE hp' nx') q3y w ∧ rs'.length = rs.length ∧ ∀ (j : Nat) (r r' : R) (v : Value), rs[j]? = some r → rs'[j]? = some r' → RR w s.live ρ v r → RR w (QE hp' nx').live ρ' v r' := by
    intro s r hr h
    refine ⟨[r], by simp [rvs, qd6, hr], fun ρ a w hs => ?_⟩
    obtain ⟨rs', nx', ρ', g1, g2, g3, g4⟩ := q2x hk0 h hs
    exact ⟨rs', [], nx', ρ', ⟨g1.symm, rfl⟩, g2, g3, g4⟩
  unfold q55
  refine J.seq (q3I (z := T.sz e) hA (by rfl) hk0 (s' := ⟨[(2, .c .nils), (0, .c (.d (.sl (T.sz e) n ds)))], [], 0, 8⟩) (e := .normal) (by rfl) ?_)
  refine J.seq (J.seq (J.nilTest hA rfl rfl rfl rfl rfl hk (by rfl) (by show (3 : Nat) < 8; omega) (fun d' h => by injection h with h; subst h; show (4 : Nat) < 8; omega) (fun b hb0 => ?_)))
  cases b with
  | true =>
    obtain ⟨rfl, rfl⟩ := hb0 rfl
    refine J.cond (by rfl) (fun _ => ?_) (fun h => by cases h)
    refine q3I (z := T.sz e) hA (by rfl) hk0 (s' := ⟨[(2, .c .nils), (4, .c (.d (.bool true))), (3, .c (.d (.sl (T.sz e) 0 []))), (2, .c .nils), (0, .c (.d (.sl (T.sz e) 0 [])))], [], 0, 8⟩) (e := .ret) (by rfl) ?_
    refine ⟨.inr rfl, fin _ _ rfl ?_⟩
    have hz0 : T.sz e ≠ 0 := by omega
    simp [q3t, q7C, q3w, q6l, po1, q01, R.rows, C.rows, C.rows0, S.frz, q3u, q7Q, dzR, dz, one, Jk, rng, R.refs, C.refs, C.ref0, cnR, q8u, cn, cn0, cnH, S.get, lk, hz0, S.blk, B.isBlk, R.ptrs, S.frz1, fzR, qaA, fz, fz0, fzB, vis, JV, hl, List.eraseDups_cons, pos, B.cells]
  | false =>
    refine J.cond (by rfl) (fun h => by cases h) (fun _ => ?_)
    refine J.skip ?_
    have hall : (ds.map C.d).all C.known = true := by rw [List.all_map]; exact List.all_eq_true.2 fun x _ => rfl
    have hfar : (ds.map C.d).all (C.far 0) = true := by rw [List.all_map]; exact List.all_eq_true.2 fun x _ => rfl
    have hdat : (ds.map C.d).all C.dat = true := by rw [List.all_map]; exact List.all_eq_true.2 fun x _ => rfl
    have hfg : (ds.map C.d).map (C.fg 0) = ds.map C.d := by rw [List.map_map]; rfl
    refine q3I (z := T.sz e) hA (by rfl) hk0 (s' := ⟨[(2, .c (.own 0 (T.sz e) 0 n)), (7, .c (.own 0 (T.sz e) 0 n)), (6, .c (.d (.sl (T.sz e) n ds))), (5, .c .any), (4, .c (.d (.bool false))), (3, .c (.d (.sl (T.sz e) n ds))), (2, .c .nils), (0, .c (.d (.sl (T.sz e) n ds)))], [(0, .row e (T.sz e) (ds.map C.d)), (0, .row e (T.sz e) [])], 1, 8⟩) (e := .ret) ?_ ?_
    · simp [XD0, XD, xr, xgd, q6o, qbm, ipX, xst, pre, qk2, q2U, q01, R.rows, S.frz, xo, xCl, Z9, bld, q0M, S.seq, S.ev, S.get, lk, S.put, S.up, S.fg, R.fg, C.fg, B.fg, S.blk, hk, he, hz, hzl, hl, hm1, hm2, hall, hfar, q4x, sqD, Jy, tt, C.known, C.far]
    · refine ⟨.inr rfl, fin _ _ rfl ?_⟩
      have hz0 : T.sz e ≠ 0 := by omega
      simp [q3t, q7C, q3w, q6l, po1, q01, R.rows, C.rows, C.rows0, S.frz, q3u, q7Q, dzR, dz, one, Jk, rng, R.refs, C.refs, C.ref0, cnR, q8u, cn, cn0, cnH, S.get, lk, hz0, S.blk, B.isBlk, R.ptrs, S.frz1, fzR, qaA, fz, fz0, fzB, vis, JV, hl, List.eraseDups_cons, pos, B.cells]
theorem q9l (hA : Ag P T) {f : FuncId} {fn : Func} {t e bt : TypeId} (hf : P.funcs[f]? = some fn) (hb : fn.body = some (q55 t bt)) (hname : (fn.name == "runtime.NumGoroutine") = false) (hn : fn.ntmps = 8) (hr : fn.results.toList = [.tmp 2])
    (hk : T.k t = .sl e) (he : T.k e ≠ .other) (hz : 0 < T.sz e) (hzl : (T.zero e).length = T.sz e) {n : Nat} {ds : List D} (hl : ds.length = n * T.sz e) (hm1 : n ≤ maxLen) (hm2 : n * T.by_ e ≤ 140737488355328) :
    AC P f [.c (.d (.sl (T.sz e) n ds))] [] 0 fun r hp => r = .c (.own 0 (T.sz e) 0 n) ∧ hp = [(0, .row e (T.sz e) (ds.map C.d))] := by
  refine AC.enter2 hA hf hb hname (by rw [hn]; show (1 : Nat) ≤ 8; omega) (fun cx hk0 hro => ?_)
  rw [hn, hr]
  have fin : ∀ (s : S) (r : R), s.get 2 = r → q3t (po1 (T.sz e) true) 0 0 [t] s [r] = some (.c (.own 0 (T.sz e) 0 n), [(0, .row e (T.sz e) (ds.map C.d))]) → ∃ rs, rvs T s [.tmp 2] = some rs ∧
      ∀ ρ a w, Sim cx ρ s a w → ∃ rs' hp' nx' ρ', (one rs' = .c (.own 0 (T.sz e) 0 n) ∧ hp' = [(0, .row e (T.sz e) (ds.map C.d))]) ∧ Sim cx ρ' (QE hp' nx') q3y w ∧ rs'.length = rs.length ∧ ∀ (j : Nat) (r r' : R) (v : Value), rs[j]? = some r → rs'[j]? = some r' → RR w s.live ρ v r → RR w (QE hp' nx').live ρ' v r' := by
    intro s r hr h
    refine ⟨[r], by simp [rvs, qd6, hr], fun ρ a w hs => ?_⟩
    obtain ⟨rs', nx', ρ', g1, g2, g3, g4⟩ := q2x hk0 h hs
    exact ⟨rs', _, nx', ρ', ⟨g1.symm, rfl⟩, g2, g3, g4⟩
  unfold q55
  refine J.seq (q3I (z := T.sz e) hA (by rfl) hk0 (s' := ⟨[(2, .c .nils), (0, .c (.d (.sl (T.sz e) n ds)))], [], 0, 8⟩) (e := .normal) (by rfl) ?_)
  refine J.seq (J.seq (J.nilTest hA rfl rfl rfl rfl rfl hk (by rfl) (by show (3 : Nat) < 8; omega) (fun d' h => by injection h with h; subst h; show (4 : Nat) < 8; omega) (fun b hb0 => ?_)))
  cases b with
  | true =>
    obtain ⟨rfl, rfl⟩ := hb0 rfl
    refine J.cond (by rfl) (fun _ => ?_) (fun h => by cases h)
    refine q3I (z := T.sz e) hA (by rfl) hk0 (s' := ⟨[(2, .c .nils), (4, .c (.d (.bool true))), (3, .c (.d (.sl (T.sz e) 0 []))), (2, .c .nils), (0, .c (.d (.sl (T.sz e) 0 [])))], [], 0, 8⟩) (e := .ret) (by rfl) ?_
    refine ⟨.inr rfl, [.c .nils], rfl, fun ρ a w hs => ?_⟩
    obtain ⟨ids, nx', ρ', g1, g2, g3⟩ := q6w (rs := []) (r' := .tup []) (hp' := []) hk0 rfl hs
    obtain ⟨ρ2, g4, g5⟩ := Sim.rerow (id := 0) (w' := w) (v := .slice none 0 0) (v' := .slice none 0 0) (e := e) (sz := T.sz e) (n := 0) (cs := []) (us := []) g2 (.inr ⟨rfl, fun h => by unfold S.live S.blk QE at h; simp [lk, B.live] at h⟩) (World.grownBy.refl w _) (.inl rfl) ⟨by simp, .inl ⟨rfl, rfl⟩⟩ hz (by simp) (by rw [hk0]; omega) (fun j c hj => by simp at hj)
    have hblk : ∀ i, (QE [(0, B.row e (T.sz e) [])] 1).blk i = (((QE [] nx').fg 0).up [(0, B.row e (T.sz e) [])]).blk i := fun i => rfl
    have hlive : (QE [(0, B.row e (T.sz e) [])] 1).live = (((QE [] nx').fg 0).up [(0, B.row e (T.sz e) [])]).live := by funext i; unfold S.live; rw [hblk]
    refine ⟨[.c (.own 0 (T.sz e) 0 0)], [(0, B.row e (T.sz e) [])], 1, ρ2, ⟨rfl, rfl⟩, g4.ext (fun i => rfl) hblk rfl (fun i hi => ?_), rfl, fun j r r' v hj hj' hv => ?_⟩
    · unfold S.live S.blk QE at hi
      show i < 1
      rcases Nat.lt_or_ge i 1 with h | h
      · exact h
      · simp [lk, show ¬ 0 = i by omega, B.live] at hi
    · cases j with
      | zero =>
        simp only [List.getElem?_cons_zero, Option.some.injEq] at hj hj'
        subst hj hj'
        rw [hv.inv_nils, hlive]
        exact g5
      | succ j => simp at hj
  | false =>
    refine J.cond (by rfl) (fun h => by cases h) (fun _ => ?_)
    refine J.skip ?_
    have hall : (ds.map C.d).all C.known = true := by rw [List.all_map]; exact List.all_eq_true.2 fun x _ => rfl
    have hfar : (ds.map C.d).all (C.far 0) = true := by rw [List.all_map]; exact List.all_eq_true.2 fun x _ => rfl
    have hdat : (ds.map C.d).all C.dat = true := by rw [List.all_map]; exact List.all_eq_true.2 fun x _ => rfl
    have hfg : (ds.map C.d).map (C.fg 0) = ds.map C.d := by rw [List.map_map]; rfl
    refine q3I (z := T.sz e) hA (by rfl) hk0 (s' := ⟨[(2, .c (.own 0 (T.sz e) 0 n)), (7, .c (.own 0 (T.sz e) 0 n)), (6, .c (.d (.sl (T.sz e) n ds))), (5, .c .any), (4, .c (.d (.bool false))), (3, .c (.d (.sl (T.sz e) n ds))), (2, .c .nils), (0, .c (.d (.sl (T.sz e) n ds)))], [(0, .row e (T.sz e) (ds.map C.d)), (0, .row e (T.sz e) [])], 1, 8⟩) (e := .ret) ?_ ?_
    · simp [XD0, XD, xr, xgd, q6o, qbm, ipX, xst, pre, qk2, q2U, q01, R.rows, S.frz, xo, xCl, Z9, bld, q0M, S.seq, S.ev, S.get, lk, S.put, S.up, S.fg, R.fg, C.fg, B.fg, S.blk, hk, he, hz, hzl, hl, hm1, hm2, hall, hfar, q4x, sqD, Jy, tt, C.known, C.far]
    · refine ⟨.inr rfl, fin _ _ rfl ?_⟩
      have hz0 : T.sz e ≠ 0 := by omega
      have hcn : ∀ ids, (ds.map C.d).map (cn ids) = ds.map C.d := fun ids => by rw [List.map_map]; rfl
      simp [cnB, B.live, B.refs, hcn, hdat, q3t, q7C, q3w, q6l, po1, q01, R.rows, C.rows, C.rows0, S.frz, q3u, q7Q, dzR, dz, one, Jk, rng, R.refs, C.refs, C.ref0, cnR, q8u, cn, cn0, cnH, S.get, lk, hz0, S.blk, B.isBlk, R.ptrs, S.frz1, fzR, qaA, fz, fz0, fzB, vis, JV, hl, List.eraseDups_cons, pos, B.cells]
def q0y (T : Ty) (e : TypeId) (own : Bool) : List R → Option (R × List (Nat × B))
  | [.c (.d (.sl z n ds))] => if z = T.sz e ∧ ds.length = n * z ∧ n ≤ maxLen ∧ n * T.by_ e ≤ 140737488355328 then (if own = true then some (.c (.own 0 z 0 n), [(0, .row e z (ds.map C.d))]) else some (.c (.d (.sl z n ds)), [])) else none
  | _ => none
theorem q1Q (hA : Ag P T) {f : FuncId} {fn : Func} {t e bt : TypeId} (hf : P.funcs[f]? = some fn) (hb : fn.body = some (q55 t bt)) (hname : (fn.name == "runtime.NumGoroutine") = false) (hn : fn.ntmps = 8) (hr : fn.results.toList = [.tmp 2])
    (hk : T.k t = .sl e) (he : T.k e ≠ .other) (hz : 0 < T.sz e) (hzl : (T.zero e).length = T.sz e) {own : Bool} {args : List R} {r : R} {G' : List (Nat × B)} (h : q0y T e own args = some (r, G')) : AC P f args [] 0 fun r' hp' => r' = r ∧ hp' = G' := by
  unfold q0y at h
  split at h
  · split at h
    · rename_i hc
      obtain ⟨rfl, h1, h2, h3⟩ := hc
      split at h
      · injection h with h
        injection h with h4 h5
        subst h4 h5
        exact q9l hA hf hb hname hn hr hk he hz hzl h1 h2 h3
      · injection h with h
        injection h with h4 h5
        subst h4 h5
        exact qbi hA hf hb hname hn hr hk he hz hzl h1 h2 h3
    · cases h
  · cases h
end
end Go.Proofs.Ytplfjlcnffcenaa.Vc
namespace Go.Proofs.Ytplfjlcnffcenaa.Vc
open Go.RowKit
set_option linter.unusedSimpArgs false
section
variable {P : Program} {T : Ty} {cx : Cx} {ρ : Pl} {s : S} {a : Act} {w : World}
def qkL : AO → Bool
  | .mp _ _ => true
  | _ => false
def Jd : Nat → List R → List (Nat × B) → Option (R × List (Nat × B))
  | 1, [.c (.hd .map 0)], [(0, .ob o)] => if qkL o = true then some (.c (.hd .map 1), [(0, .ob o), (1, .ob o)]) else none
  | 0, [.c .nilm], [] => some (.c .nilm, [])
  | _, _, _ => none
theorem q4C {f : FuncId} {fn : Func} (hf : P.funcs[f]? = some fn) (hname : (fn.name == "runtime.NumGoroutine") = false) (hb : fn.body.isNone = false)
    (h1 : ∀ (b : Nat) (es : Array MapEntry) (clock : Nat) (w : World), w.heap[b]? = some (.map es clock) → Calls P f #[.map (some b)] w fun e w' => e = .returned (.map (some w.heap.size)) ∧ w' = w.alloc (.map es clock))
    (h2 : ∀ w : World, Calls P f #[.map none] w fun e w' => e = .returned (.map none) ∧ w' = w)
    {k : Nat} {args : List R} {G G' : List (Nat × B)} {r : R} (h : Jd k args G = some (r, G')) : AC P f args G k fun r' hp' => r' = r ∧ hp' = G' := by
  refine ⟨⟨fn, hf, hname, hb⟩, fun cx ρ w vs hw hk hρ hro hs hv => ?_⟩
  unfold Jd at h
  split at h
  · rename_i o
    split at h
    · rename_i hmp
      injection h with h
      injection h with h3 h4
      subst h3 h4
      obtain ⟨hvs, hvr⟩ := hv
      have hv0 := hvr 0 _ rfl
      obtain ⟨b, cap, hl, hρ0, hvb⟩ := hv0.inv_hd
      have hvs1 : vs = #[.map (some b)] := by
        apply Array.ext
        · simpa using hvs
        · intro i hi hi'
          have : i = 0 := by simp at hi'; exact hi'
          subst this
          have : vs.getD 0 undef = vs[0] := by simp [Array.getD_eq_getD_getElem?, hi]
          rw [this] at hvb
          exact hvb
      subst hvs1
      obtain ⟨hbz, hB⟩ := hs.hp 0 b cap hl hρ0
      have hB : HO w _ ρ b o := hB
      cases o with
      | mp es ck =>
        obtain ⟨mes, g1, g2, g3⟩ := hB
        refine (h1 b mes ck w g1).mono fun e w' => ?_
        rintro ⟨rfl, rfl⟩
        have hp1 : ¬ (QE [(0, B.ob (AO.mp es ck))] 1).live 1 := by unfold S.live S.blk QE; simp [lk, B.live]
        have hst := q0T (w := w) (ρ := ρ) (s := QE [(0, B.ob (AO.mp es ck))] 1) (x := .ob (.mp es ck)) hp1 (.map mes ck) 0
        have hn : Sim cx (ρ.set 1 w.heap.size 0) ((QE [(0, B.ob (AO.mp es ck))] 1).up [(1, .ob (.mp es ck))]) q3y (w.alloc (.map mes ck)) :=
          Sim.new hs hp1 ⟨mes, heap_alloc_new w _, g2, fun j e hj => ⟨(g3 j e hj).1, (g3 j e hj).2.1.stay hst, (g3 j e hj).2.2⟩⟩
        have hblk : ∀ i, (QE [(0, B.ob (AO.mp es ck)), (1, B.ob (AO.mp es ck))] 2).blk i = ((QE [(0, B.ob (AO.mp es ck))] 1).up [(1, .ob (.mp es ck))]).blk i := fun i => by
          rw [S.blk_up]
          unfold S.blk QE
          simp only [lk]
          by_cases h0 : 0 = i
          · subst h0; simp
          · by_cases h1 : 1 = i
            · subst h1; simp
            · simp [h0, h1]
        have hlive : (QE [(0, B.ob (AO.mp es ck)), (1, B.ob (AO.mp es ck))] 2).live = ((QE [(0, B.ob (AO.mp es ck))] 1).up [(1, .ob (.mp es ck))]).live := by funext i; unfold S.live; rw [hblk]
        refine ⟨_, _, _, 2, ρ.set 1 w.heap.size 0, rfl, ⟨rfl, rfl⟩, hn.ext (fun i => rfl) hblk rfl (fun i hi => ?_), ?_⟩
        · unfold S.live at hi
          show i < 2
          rcases Nat.lt_or_ge i 2 with h | h
          · exact h
          · rw [show (QE [(0, B.ob (AO.mp es ck)), (1, B.ob (AO.mp es ck))] 2).blk i = .dead by unfold S.blk QE; simp only [lk]; rw [if_neg (by omega), if_neg (by omega)]] at hi
            cases hi
        · rw [hlive]
          exact .c _ _ (.hd .map 1 w.heap.size 0 (by unfold S.live; rw [S.blk_up, if_pos rfl]; rfl) (show (if 1 = 1 then some (w.heap.size, 0) else ρ 1) = _ from if_pos rfl))
      | _ => cases hmp
    · cases h
  · injection h with h
    injection h with h3 h4
    subst h3 h4
    obtain ⟨hvs, hvr⟩ := hv
    have hvb := (hvr 0 _ rfl).inv_nilm
    have hvs1 : vs = #[.map none] := by
      apply Array.ext
      · simpa using hvs
      · intro i hi hi'
        have : i = 0 := by simp at hi'; exact hi'
        subst this
        have : vs.getD 0 undef = vs[0] := by simp [Array.getD_eq_getD_getElem?, hi]
        rw [this] at hvb
        simpa using hvb
    subst hvs1
    refine (h2 w).mono fun e w' => ?_
    rintro ⟨rfl, rfl⟩
    exact ⟨_, _, _, _, _, rfl, ⟨rfl, rfl⟩, hs, .c _ _ .nilm⟩
  · cases h
end
end Go.Proofs.Ytplfjlcnffcenaa.Vc
namespace Go.Proofs.Ytplfjlcnffcenaa.Vc
open Go.Shelf
def qi5 : Go.Shelf.Ren := ⟨fun | 5 => 62 | 7 => 74 | n => n, fun | 23 => 109 | 25 => 3 | 3 => 4 | 4 => 4 | 20 => 20 | n => n, fun n => n⟩
theorem qiB : SlLaysW.n5 Try.prog qi5 := {
  mixed := by kernel_rfl
  f5 := ⟨Try.f62.name, by kernel_rfl, Try.func62.trans (congrArg some (by kernel_rfl))⟩
  f7 := Try.func74.trans (congrArg some (by kernel_rfl))
  t4 := Try.underlying4
  a4 := Try.isAgg4
  z4 := Try.sizeOf4
  v4 := Try.zeroValue4
  t20 := Try.underlying20
  a20 := Try.isAgg20
  z20 := Try.sizeOf20
  v20 := Try.zeroValue20
  t23 := Try.underlying109
  a23 := Try.isAgg109
  z23 := Try.sizeOf109
  v23 := Try.zeroValue109 }
end Go.Proofs.Ytplfjlcnffcenaa.Vc
namespace Go.Proofs.Ytplfjlcnffcenaa.Vc
open Go.RowKit
def qfv (x : Int) : List Int → List Int
  | [] => [x]
  | y :: l => if x ≤ y then x :: y :: l else y :: qfv x l
def zP : List Int → List Int
  | [] => []
  | x :: l => qfv x (zP l)
theorem q35 (x : Int) : ∀ l : List Int, (qfv x l).Perm (x :: l)
  | [] => .refl _
  | y :: l => by
    unfold qfv
    split
    · exact .refl _
    · exact ((q35 x l).cons y).trans (.swap x y l)
theorem q0f : ∀ l : List Int, (zP l).Perm l
  | [] => .refl _
  | x :: l => by
    unfold zP
    exact (q35 x _).trans ((q0f l).cons x)
theorem q37 (x : Int) : ∀ {l : List Int}, l.Pairwise (· ≤ ·) → (qfv x l).Pairwise (· ≤ ·)
  | [], _ => by simp [qfv]
  | y :: l, h => by
    unfold qfv
    obtain ⟨h1, h2⟩ := List.pairwise_cons.1 h
    split
    · rename_i hxy
      exact List.pairwise_cons.2 ⟨fun z hz => by
        rcases List.mem_cons.1 hz with rfl | hz
        · exact hxy
        · exact Int.le_trans hxy (h1 z hz), h⟩
    · rename_i hxy
      exact List.pairwise_cons.2 ⟨fun z hz => by
        rcases List.mem_cons.1 ((q35 x l).mem_iff.1 hz) with rfl | hz
        · omega
        · exact h1 z hz, q37 x h2⟩
theorem q03 : ∀ l : List Int, (zP l).Pairwise (· ≤ ·)
  | [] => .nil
  | x :: l => q37 x (q03 l)
theorem q3c : ∀ {l m : List Int}, l.Perm m → l.Pairwise (· ≤ ·) → m.Pairwise (· ≤ ·) → l = m
  | [], m, h, _, _ => (List.nil_perm.1 h).symm
  | x :: l, m, h, hl, hm => by
    cases m with
    | nil => exact absurd (List.perm_nil.1 h) (by simp)
    | cons y m =>
      obtain ⟨h1, h2⟩ := List.pairwise_cons.1 hl
      obtain ⟨h3, h4⟩ := List.pairwise_cons.1 hm
      have hxy : x = y := by
        have a1 : y ∈ x :: l := h.mem_iff.2 (List.mem_cons_self ..)
        have a2 : x ∈ y :: m := h.mem_iff.1 (List.mem_cons_self ..)
        rcases List.mem_cons.1 a1 with e | a1
        · exact e.symm
        rcases List.mem_cons.1 a2 with e | a2
        · exact e
        exact Int.le_antisymm (h1 y a1) (h3 x a2)
      subst hxy
      rw [q3c (List.Perm.cons_inv h) h2 h4]
theorem qbU (l : List Int) : (l.mergeSort fun x y => decide (x ≤ y)) = zP l := by
  refine q3c ((List.mergeSort_perm l _).trans (q0f l).symm) ?_ (q03 l)
  have := List.pairwise_mergeSort (le := fun x y : Int => decide (x ≤ y)) (fun a b c h1 h2 => by simp only [decide_eq_true_eq] at *; omega) (fun a b => by simp only [Bool.or_eq_true, decide_eq_true_eq]; omega) l
  exact this.imp fun h => by simpa using h
theorem QW (l : List Int) : (zP l).length = l.length := (q0f l).length_eq
theorem q8q {P : Program} {f : FuncId} {fn : Func} (hf : P.funcs[f]? = some fn) (hname : (fn.name == "runtime.NumGoroutine") = false) (hb : fn.body.isNone = false)
    (h1 : ∀ (blk off cap : Nat) (zs : List Int) (w : World), Go.Sort.Holds (Value.int .i64) w blk off zs.toArray → blk < w.heap.size → zs.length < 4611686018427387904 →
      Calls P f #[.slice (some ⟨blk, off, none⟩) zs.length cap] w fun e w' => e = .returned (.tuple #[]) ∧ ∃ n os, w' = Go.Sort.grow (Go.Sort.putRow (Value.int .i64) (Go.Sort.ahead w n) blk off (zs.mergeSort fun x y => decide (x ≤ y)).toArray) os)
    (h2 : ∀ (p : Option Addr) (cap : Nat) (w : World), Calls P f #[.slice p 0 cap] w fun e w' => e = .returned (.tuple #[]) ∧ w' = w) : qkt P f zP := by
  refine ⟨⟨fn, hf, hname, hb⟩, QW, fun b cap zs w cur e c1 htk hlt => ?_, fun w => h2 none 0 w⟩
  refine (h1 b 0 cap zs w (holds_of_blockI c1 htk) (Array.getElem?_eq_some_iff.1 c1).1 hlt).mono fun e' w' => ?_
  rintro ⟨rfl, nn, os, rfl⟩
  rw [qbU]
  refine ⟨rfl, grownBy_sortedI _, _, heap_sortedI _ c1, by simp [Go.Sort.putCells], ?_⟩
  have hz : zs.length ≤ cur.size := by
    have := congrArg List.length htk
    simp only [List.length_take, List.length_map, Array.length_toList] at this
    omega
  have := take_putCellsI cur (zP zs) (by rw [QW]; exact hz)
  rwa [QW] at this
end Go.Proofs.Ytplfjlcnffcenaa.Vc
namespace Go.Proofs.Ytplfjlcnffcenaa.Vc
open Go.Shelf
def q68 : Go.Shelf.Ren := ⟨fun | 189 => 40 | 125 => 64 | 257 => 63 | 128 => 84 | 129 => 85 | 294 => 75 | 295 => 76 | 296 => 77 | 297 => 78 | 298 => 79 | 299 => 80 | 216 => 81 | 300 => 82 | 301 => 83 | 328 => 92 | 329 => 93 | 330 => 94 | 331 => 95 | 332 => 96 | 215 => 97 | 343 => 98 | n => n, fun | 28 => 41 | 3 => 3 | 46 => 113 | 0 => 0 | 51 => 134 | 53 => 136 | 4 => 4 | 183 => 127 | 182 => 126 | 131 => 131 | 5 => 5 | 9 => 9 | 218 => 139 | 222 => 143 | 228 => 146 | 229 => 147 | n => n, fun | n => n⟩
theorem qap : Go.Proofs.Lays.n189 Try.prog q68 := {
  mixed := by kernel_rfl
  f125 := Try.func64.trans (congrArg some (by kernel_rfl))
  f128 := Try.func84.trans (congrArg some (by kernel_rfl))
  f129 := Try.func85.trans (congrArg some (by kernel_rfl))
  f189 := Try.func40.trans (congrArg some (by kernel_rfl))
  f215 := Try.func97.trans (congrArg some (by kernel_rfl))
  f216 := Try.func81.trans (congrArg some (by kernel_rfl))
  f257 := Try.func63.trans (congrArg some (by kernel_rfl))
  f294 := Try.func75.trans (congrArg some (by kernel_rfl))
  f295 := Try.func76.trans (congrArg some (by kernel_rfl))
  f296 := Try.func77.trans (congrArg some (by kernel_rfl))
  f297 := Try.func78.trans (congrArg some (by kernel_rfl))
  f298 := Try.func79.trans (congrArg some (by kernel_rfl))
  f299 := Try.func80.trans (congrArg some (by kernel_rfl))
  f300 := Try.func82.trans (congrArg some (by kernel_rfl))
  f301 := Try.func83.trans (congrArg some (by kernel_rfl))
  f328 := Try.func92.trans (congrArg some (by kernel_rfl))
  f329 := Try.func93.trans (congrArg some (by kernel_rfl))
  f330 := Try.func94.trans (congrArg some (by kernel_rfl))
  f331 := Try.func95.trans (congrArg some (by kernel_rfl))
  f332 := Try.func96.trans (congrArg some (by kernel_rfl))
  f343 := Try.func98.trans (congrArg some (by kernel_rfl))
  t0 := Try.underlying0
  a0 := Try.isAgg0
  z0 := Try.sizeOf0
  v0 := Try.zeroValue0
  t3 := Try.underlying3
  a3 := Try.isAgg3
  z3 := Try.sizeOf3
  v3 := Try.zeroValue3
  t4 := Try.underlying4
  a4 := Try.isAgg4
  z4 := Try.sizeOf4
  v4 := Try.zeroValue4
  t5 := Try.underlying5
  a5 := Try.isAgg5
  z5 := Try.sizeOf5
  v5 := Try.zeroValue5
  t9 := Try.underlying9
  a9 := Try.isAgg9
  z9 := Try.sizeOf9
  v9 := Try.zeroValue9
  t28 := Try.underlying41
  a28 := Try.isAgg41
  z28 := Try.sizeOf41
  v28 := Try.zeroValue41
  t46 := Try.underlying113
  a46 := Try.isAgg113
  z46 := Try.sizeOf113
  v46 := Try.zeroValue113
  t51 := Try.underlying134
  a51 := Try.isAgg134
  z51 := Try.sizeOf134
  v51 := Try.zeroValue134
  t53 := Try.underlying136
  a53 := Try.isAgg136
  z53 := Try.sizeOf136
  v53 := Try.zeroValue136
  t131 := Try.underlying131
  a131 := Try.isAgg131
  z131 := Try.sizeOf131
  v131 := Try.zeroValue131
  t182 := Try.underlying126
  a182 := Try.isAgg126
  z182 := Try.sizeOf126
  v182 := Try.zeroValue126
  t183 := Try.underlying127
  a183 := Try.isAgg127
  z183 := Try.sizeOf127
  v183 := Try.zeroValue127
  t218 := Try.underlying139
  a218 := Try.isAgg139
  z218 := Try.sizeOf139
  v218 := Try.zeroValue139
  t222 := Try.underlying143
  a222 := Try.isAgg143
  z222 := Try.sizeOf143
  v222 := Try.zeroValue143
  t228 := Try.underlying146
  a228 := Try.isAgg146
  z228 := Try.sizeOf146
  v228 := Try.zeroValue146
  t229 := Try.underlying147
  a229 := Try.isAgg147
  z229 := Try.sizeOf147
  v229 := Try.zeroValue147 }
theorem qpU : qkt Try.prog 40 zP := q8q (fn := Try.f40) (by kernel_rfl) (by kernel_rfl) (by kernel_rfl) (Any.slices_Sort_int qap) (Any.slices_Sort_int_none qap)
end Go.Proofs.Ytplfjlcnffcenaa.Vc
namespace Go.Proofs.Ytplfjlcnffcenaa.Vc
def tk (t : TypeId) : Kd := bif Nat.blt t 165 then (bif Nat.blt t 82 then (bif Nat.blt t 41 then (bif Nat.blt t 20 then (bif Nat.blt t 10 then (bif Nat.blt t 5 then (bif Nat.blt t 2 then (bif Nat.blt t 1 then .other else .fn) else (bif Nat.blt t 3 then .int .i64 else (bif Nat.blt t 4 then .int .i64 else .bool))) else (bif Nat.blt t 7 then (bif Nat.blt t 6 then .int .u8 else .int .u8) else (bif Nat.blt t 8 then .st [(0, 2), (1, 3), (2, 4), (3, 6)] else (bif Nat.blt t 9 then .st [(0, 2), (1, 3), (2, 4), (3, 6)] else .str)))) else (bif Nat.blt t 15 then (bif Nat.blt t 12 then (bif Nat.blt t 11 then .str else .str) else (bif Nat.blt t 13 then .int .u64 else (bif Nat.blt t 14 then .st [(0, 9), (1, 12)] else .st [(0, 9), (1, 12)]))) else (bif Nat.blt t 17 then (bif Nat.blt t 16 then .ptr 151 else .ptr 154) else (bif Nat.blt t 18 then .ptr 163 else (bif Nat.blt t 19 then .st [(0, 17)] else .st [(0, 17)]))))) else (bif Nat.blt t 30 then (bif Nat.blt t 25 then (bif Nat.blt t 22 then (bif Nat.blt t 21 then .other else .int .i32) else (bif Nat.blt t 23 then .sl 41 else (bif Nat.blt t 24 then .int .u16 else .arr 3 23))) else (bif Nat.blt t 27 then (bif Nat.blt t 26 then .fn else .sl 36) else (bif Nat.blt t 28 then .fn else (bif Nat.blt t 29 then .int .i64 else .other)))) else (bif Nat.blt t 35 then (bif Nat.blt t 32 then (bif Nat.blt t 31 then .fn else .sl 9) else (bif Nat.blt t 33 then .sl 57 else (bif Nat.blt t 34 then .st [(0, 3), (1, 3), (2, 3), (3, 3)] else .st [(0, 3), (1, 3), (2, 3), (3, 3)]))) else (bif Nat.blt t 38 then (bif Nat.blt t 36 then .st [(0, 3), (1, 3), (2, 3), (3, 3), (4, 3), (5, 31), (6, 32), (7, 34)] else (bif Nat.blt t 37 then .st [(0, 3), (1, 3), (2, 3), (3, 3), (4, 3), (5, 31), (6, 32), (7, 34)] else .fn)) else (bif Nat.blt t 39 then .fn else (bif Nat.blt t 40 then .fn else .fn)))))) else (bif Nat.blt t 61 then (bif Nat.blt t 51 then (bif Nat.blt t 46 then (bif Nat.blt t 43 then (bif Nat.blt t 42 then .sl 3 else .sl 52) else (bif Nat.blt t 44 then .fn else (bif Nat.blt t 45 then .st [(0, 3), (1, 3), (2, 3)] else .st [(0, 3), (1, 3), (2, 3)]))) else (bif Nat.blt t 48 then (bif Nat.blt t 47 then .fn else .other) else (bif Nat.blt t 49 then .fn else (bif Nat.blt t 50 then .st [(0, 3), (1, 9)] else .st [(0, 3), (1, 9)])))) else (bif Nat.blt t 56 then (bif Nat.blt t 53 then (bif Nat.blt t 52 then .st [(0, 50), (2, 3), (3, 3), (4, 3), (5, 41), (6, 3), (7, 41)] else .st [(0, 50), (2, 3), (3, 3), (4, 3), (5, 41), (6, 3), (7, 41)]) else (bif Nat.blt t 54 then .other else (bif Nat.blt t 55 then .fn else .fn))) else (bif Nat.blt t 58 then (bif Nat.blt t 57 then .st [(0, 9), (1, 3)] else .st [(0, 9), (1, 3)]) else (bif Nat.blt t 59 then .fn else (bif Nat.blt t 60 then .other else .fn))))) else (bif Nat.blt t 71 then (bif Nat.blt t 66 then (bif Nat.blt t 63 then (bif Nat.blt t 62 then .sl 28 else .fn) else (bif Nat.blt t 64 then .fn else (bif Nat.blt t 65 then .ptr 66 else .st [(0, 41), (1, 3)]))) else (bif Nat.blt t 68 then (bif Nat.blt t 67 then .st [(0, 41), (1, 3)] else .fn) else (bif Nat.blt t 69 then .fn else (bif Nat.blt t 70 then .fn else .fn)))) else (bif Nat.blt t 76 then (bif Nat.blt t 73 then (bif Nat.blt t 72 then .fn else .fn) else (bif Nat.blt t 74 then .sl 31 else (bif Nat.blt t 75 then .fn else .fn))) else (bif Nat.blt t 79 then (bif Nat.blt t 77 then .fn else (bif Nat.blt t 78 then .fn else .fn)) else (bif Nat.blt t 80 then .fn else (bif Nat.blt t 81 then .fn else .fn))))))) else (bif Nat.blt t 123 then (bif Nat.blt t 102 then (bif Nat.blt t 92 then (bif Nat.blt t 87 then (bif Nat.blt t 84 then (bif Nat.blt t 83 then .fn else .other) else (bif Nat.blt t 85 then .fn else (bif Nat.blt t 86 then .fn else .fn))) else (bif Nat.blt t 89 then (bif Nat.blt t 88 then .fn else .fn) else (bif Nat.blt t 90 then .fn else (bif Nat.blt t 91 then .fn else .st [(0, 3), (1, 3)])))) else (bif Nat.blt t 97 then (bif Nat.blt t 94 then (bif Nat.blt t 93 then .st [(0, 3), (1, 3)] else .other) else (bif Nat.blt t 95 then .fn else (bif Nat.blt t 96 then .fn else .fn))) else (bif Nat.blt t 99 then (bif Nat.blt t 98 then .fn else .fn) else (bif Nat.blt t 100 then .fn else (bif Nat.blt t 101 then .fn else .fn))))) else (bif Nat.blt t 112 then (bif Nat.blt t 107 then (bif Nat.blt t 104 then (bif Nat.blt t 103 then .fn else .fn) else (bif Nat.blt t 105 then .fn else (bif Nat.blt t 106 then .fn else .fn))) else (bif Nat.blt t 109 then (bif Nat.blt t 108 then .fn else .fn) else (bif Nat.blt t 110 then .mp 3 4 else (bif Nat.blt t 111 then .fn else .fn)))) else (bif Nat.blt t 117 then (bif Nat.blt t 114 then (bif Nat.blt t 113 then .fn else .int .u64) else (bif Nat.blt t 115 then .fn else (bif Nat.blt t 116 then .fn else .fn))) else (bif Nat.blt t 120 then (bif Nat.blt t 118 then .st [(0, 70)] else (bif Nat.blt t 119 then .st [(0, 70)] else .arr 5 118)) else (bif Nat.blt t 121 then .fn else (bif Nat.blt t 122 then .fn else .fn)))))) else (bif Nat.blt t 144 then (bif Nat.blt t 133 then (bif Nat.blt t 128 then (bif Nat.blt t 125 then (bif Nat.blt t 124 then .fn else .fn) else (bif Nat.blt t 126 then .fn else (bif Nat.blt t 127 then .int .i64 else .other))) else (bif Nat.blt t 130 then (bif Nat.blt t 129 then .fn else .fn) else (bif Nat.blt t 131 then .fn else (bif Nat.blt t 132 then .other else .fn)))) else (bif Nat.blt t 138 then (bif Nat.blt t 135 then (bif Nat.blt t 134 then .fn else .int .u32) else (bif Nat.blt t 136 then .fn else (bif Nat.blt t 137 then .int .u64 else .fn))) else (bif Nat.blt t 141 then (bif Nat.blt t 139 then .fn else (bif Nat.blt t 140 then .int .u64 else .fn)) else (bif Nat.blt t 142 then .fn else (bif Nat.blt t 143 then .fn else .ptr 3))))) else (bif Nat.blt t 154 then (bif Nat.blt t 149 then (bif Nat.blt t 146 then (bif Nat.blt t 145 then .fn else .sl 136) else (bif Nat.blt t 147 then .ptr 139 else (bif Nat.blt t 148 then .other else .fn))) else (bif Nat.blt t 151 then (bif Nat.blt t 150 then .fn else .st [(0, 17), (1, 17), (2, 17), (3, 9)]) else (bif Nat.blt t 152 then .st [(0, 17), (1, 17), (2, 17), (3, 9)] else (bif Nat.blt t 153 then .arr 0 16 else .st [(0, 152)])))) else (bif Nat.blt t 159 then (bif Nat.blt t 156 then (bif Nat.blt t 155 then .st [(0, 152)] else .fn) else (bif Nat.blt t 157 then .int .u8 else (bif Nat.blt t 158 then .int .u8 else .fn))) else (bif Nat.blt t 162 then (bif Nat.blt t 160 then .ptr 5 else (bif Nat.blt t 161 then .int .i32 else .int .i32)) else (bif Nat.blt t 163 then .st [(0, 12), (1, 12), (2, 134), (3, 156), (4, 5), (5, 5), (6, 157), (7, 158), (8, 159), (9, 160), (10, 161)] else (bif Nat.blt t 164 then .st [(0, 12), (1, 12), (2, 134), (3, 156), (4, 5), (5, 5), (6, 157), (7, 158), (8, 159), (9, 160), (10, 161)] else .other)))))))) else .other
def tz (t : TypeId) : Nat := bif Nat.blt t 165 then (bif Nat.blt t 82 then (bif Nat.blt t 41 then (bif Nat.blt t 20 then (bif Nat.blt t 10 then (bif Nat.blt t 5 then (bif Nat.blt t 2 then (bif Nat.blt t 1 then 0 else 1) else (bif Nat.blt t 3 then 1 else (bif Nat.blt t 4 then 1 else 1))) else (bif Nat.blt t 7 then (bif Nat.blt t 6 then 1 else 1) else (bif Nat.blt t 8 then 4 else (bif Nat.blt t 9 then 4 else 1)))) else (bif Nat.blt t 15 then (bif Nat.blt t 12 then (bif Nat.blt t 11 then 1 else 1) else (bif Nat.blt t 13 then 1 else (bif Nat.blt t 14 then 2 else 2))) else (bif Nat.blt t 17 then (bif Nat.blt t 16 then 1 else 1) else (bif Nat.blt t 18 then 1 else (bif Nat.blt t 19 then 1 else 1))))) else (bif Nat.blt t 30 then (bif Nat.blt t 25 then (bif Nat.blt t 22 then (bif Nat.blt t 21 then 0 else 1) else (bif Nat.blt t 23 then 1 else (bif Nat.blt t 24 then 1 else 3))) else (bif Nat.blt t 27 then (bif Nat.blt t 26 then 1 else 1) else (bif Nat.blt t 28 then 1 else (bif Nat.blt t 29 then 1 else 0)))) else (bif Nat.blt t 35 then (bif Nat.blt t 32 then (bif Nat.blt t 31 then 1 else 1) else (bif Nat.blt t 33 then 1 else (bif Nat.blt t 34 then 4 else 4))) else (bif Nat.blt t 38 then (bif Nat.blt t 36 then 11 else (bif Nat.blt t 37 then 11 else 1)) else (bif Nat.blt t 39 then 1 else (bif Nat.blt t 40 then 1 else 1)))))) else (bif Nat.blt t 61 then (bif Nat.blt t 51 then (bif Nat.blt t 46 then (bif Nat.blt t 43 then (bif Nat.blt t 42 then 1 else 1) else (bif Nat.blt t 44 then 1 else (bif Nat.blt t 45 then 3 else 3))) else (bif Nat.blt t 48 then (bif Nat.blt t 47 then 1 else 0) else (bif Nat.blt t 49 then 1 else (bif Nat.blt t 50 then 2 else 2)))) else (bif Nat.blt t 56 then (bif Nat.blt t 53 then (bif Nat.blt t 52 then 8 else 8) else (bif Nat.blt t 54 then 0 else (bif Nat.blt t 55 then 1 else 1))) else (bif Nat.blt t 58 then (bif Nat.blt t 57 then 2 else 2) else (bif Nat.blt t 59 then 1 else (bif Nat.blt t 60 then 0 else 1))))) else (bif Nat.blt t 71 then (bif Nat.blt t 66 then (bif Nat.blt t 63 then (bif Nat.blt t 62 then 1 else 1) else (bif Nat.blt t 64 then 1 else (bif Nat.blt t 65 then 1 else 2))) else (bif Nat.blt t 68 then (bif Nat.blt t 67 then 2 else 1) else (bif Nat.blt t 69 then 1 else (bif Nat.blt t 70 then 1 else 1)))) else (bif Nat.blt t 76 then (bif Nat.blt t 73 then (bif Nat.blt t 72 then 1 else 1) else (bif Nat.blt t 74 then 1 else (bif Nat.blt t 75 then 1 else 1))) else (bif Nat.blt t 79 then (bif Nat.blt t 77 then 1 else (bif Nat.blt t 78 then 1 else 1)) else (bif Nat.blt t 80 then 1 else (bif Nat.blt t 81 then 1 else 1))))))) else (bif Nat.blt t 123 then (bif Nat.blt t 102 then (bif Nat.blt t 92 then (bif Nat.blt t 87 then (bif Nat.blt t 84 then (bif Nat.blt t 83 then 1 else 0) else (bif Nat.blt t 85 then 1 else (bif Nat.blt t 86 then 1 else 1))) else (bif Nat.blt t 89 then (bif Nat.blt t 88 then 1 else 1) else (bif Nat.blt t 90 then 1 else (bif Nat.blt t 91 then 1 else 2)))) else (bif Nat.blt t 97 then (bif Nat.blt t 94 then (bif Nat.blt t 93 then 2 else 0) else (bif Nat.blt t 95 then 1 else (bif Nat.blt t 96 then 1 else 1))) else (bif Nat.blt t 99 then (bif Nat.blt t 98 then 1 else 1) else (bif Nat.blt t 100 then 1 else (bif Nat.blt t 101 then 1 else 1))))) else (bif Nat.blt t 112 then (bif Nat.blt t 107 then (bif Nat.blt t 104 then (bif Nat.blt t 103 then 1 else 1) else (bif Nat.blt t 105 then 1 else (bif Nat.blt t 106 then 1 else 1))) else (bif Nat.blt t 109 then (bif Nat.blt t 108 then 1 else 1) else (bif Nat.blt t 110 then 1 else (bif Nat.blt t 111 then 1 else 1)))) else (bif Nat.blt t 117 then (bif Nat.blt t 114 then (bif Nat.blt t 113 then 1 else 1) else (bif Nat.blt t 115 then 1 else (bif Nat.blt t 116 then 1 else 1))) else (bif Nat.blt t 120 then (bif Nat.blt t 118 then 1 else (bif Nat.blt t 119 then 1 else 5)) else (bif Nat.blt t 121 then 1 else (bif Nat.blt t 122 then 1 else 1)))))) else (bif Nat.blt t 144 then (bif Nat.blt t 133 then (bif Nat.blt t 128 then (bif Nat.blt t 125 then (bif Nat.blt t 124 then 1 else 1) else (bif Nat.blt t 126 then 1 else (bif Nat.blt t 127 then 1 else 0))) else (bif Nat.blt t 130 then (bif Nat.blt t 129 then 1 else 1) else (bif Nat.blt t 131 then 1 else (bif Nat.blt t 132 then 0 else 1)))) else (bif Nat.blt t 138 then (bif Nat.blt t 135 then (bif Nat.blt t 134 then 1 else 1) else (bif Nat.blt t 136 then 1 else (bif Nat.blt t 137 then 1 else 1))) else (bif Nat.blt t 141 then (bif Nat.blt t 139 then 1 else (bif Nat.blt t 140 then 1 else 1)) else (bif Nat.blt t 142 then 1 else (bif Nat.blt t 143 then 1 else 1))))) else (bif Nat.blt t 154 then (bif Nat.blt t 149 then (bif Nat.blt t 146 then (bif Nat.blt t 145 then 1 else 1) else (bif Nat.blt t 147 then 1 else (bif Nat.blt t 148 then 0 else 1))) else (bif Nat.blt t 151 then (bif Nat.blt t 150 then 1 else 4) else (bif Nat.blt t 152 then 4 else (bif Nat.blt t 153 then 0 else 0)))) else (bif Nat.blt t 159 then (bif Nat.blt t 156 then (bif Nat.blt t 155 then 0 else 1) else (bif Nat.blt t 157 then 1 else (bif Nat.blt t 158 then 1 else 1))) else (bif Nat.blt t 162 then (bif Nat.blt t 160 then 1 else (bif Nat.blt t 161 then 1 else 1)) else (bif Nat.blt t 163 then 11 else (bif Nat.blt t 164 then 11 else 0)))))))) else 0
def tb (t : TypeId) : Nat := bif Nat.blt t 165 then (bif Nat.blt t 82 then (bif Nat.blt t 41 then (bif Nat.blt t 20 then (bif Nat.blt t 10 then (bif Nat.blt t 5 then (bif Nat.blt t 2 then (bif Nat.blt t 1 then 0 else 8) else (bif Nat.blt t 3 then 8 else (bif Nat.blt t 4 then 8 else 1))) else (bif Nat.blt t 7 then (bif Nat.blt t 6 then 1 else 1) else (bif Nat.blt t 8 then 24 else (bif Nat.blt t 9 then 24 else 16)))) else (bif Nat.blt t 15 then (bif Nat.blt t 12 then (bif Nat.blt t 11 then 16 else 16) else (bif Nat.blt t 13 then 8 else (bif Nat.blt t 14 then 24 else 24))) else (bif Nat.blt t 17 then (bif Nat.blt t 16 then 8 else 8) else (bif Nat.blt t 18 then 8 else (bif Nat.blt t 19 then 8 else 8))))) else (bif Nat.blt t 30 then (bif Nat.blt t 25 then (bif Nat.blt t 22 then (bif Nat.blt t 21 then 0 else 4) else (bif Nat.blt t 23 then 24 else (bif Nat.blt t 24 then 2 else 6))) else (bif Nat.blt t 27 then (bif Nat.blt t 26 then 8 else 24) else (bif Nat.blt t 28 then 8 else (bif Nat.blt t 29 then 8 else 0)))) else (bif Nat.blt t 35 then (bif Nat.blt t 32 then (bif Nat.blt t 31 then 8 else 24) else (bif Nat.blt t 33 then 24 else (bif Nat.blt t 34 then 32 else 32))) else (bif Nat.blt t 38 then (bif Nat.blt t 36 then 120 else (bif Nat.blt t 37 then 120 else 8)) else (bif Nat.blt t 39 then 8 else (bif Nat.blt t 40 then 8 else 8)))))) else (bif Nat.blt t 61 then (bif Nat.blt t 51 then (bif Nat.blt t 46 then (bif Nat.blt t 43 then (bif Nat.blt t 42 then 24 else 24) else (bif Nat.blt t 44 then 8 else (bif Nat.blt t 45 then 24 else 24))) else (bif Nat.blt t 48 then (bif Nat.blt t 47 then 8 else 0) else (bif Nat.blt t 49 then 8 else (bif Nat.blt t 50 then 24 else 24)))) else (bif Nat.blt t 56 then (bif Nat.blt t 53 then (bif Nat.blt t 52 then 104 else 104) else (bif Nat.blt t 54 then 0 else (bif Nat.blt t 55 then 8 else 8))) else (bif Nat.blt t 58 then (bif Nat.blt t 57 then 24 else 24) else (bif Nat.blt t 59 then 8 else (bif Nat.blt t 60 then 0 else 8))))) else (bif Nat.blt t 71 then (bif Nat.blt t 66 then (bif Nat.blt t 63 then (bif Nat.blt t 62 then 24 else 8) else (bif Nat.blt t 64 then 8 else (bif Nat.blt t 65 then 8 else 32))) else (bif Nat.blt t 68 then (bif Nat.blt t 67 then 32 else 8) else (bif Nat.blt t 69 then 8 else (bif Nat.blt t 70 then 8 else 8)))) else (bif Nat.blt t 76 then (bif Nat.blt t 73 then (bif Nat.blt t 72 then 8 else 8) else (bif Nat.blt t 74 then 24 else (bif Nat.blt t 75 then 8 else 8))) else (bif Nat.blt t 79 then (bif Nat.blt t 77 then 8 else (bif Nat.blt t 78 then 8 else 8)) else (bif Nat.blt t 80 then 8 else (bif Nat.blt t 81 then 8 else 8))))))) else (bif Nat.blt t 123 then (bif Nat.blt t 102 then (bif Nat.blt t 92 then (bif Nat.blt t 87 then (bif Nat.blt t 84 then (bif Nat.blt t 83 then 8 else 0) else (bif Nat.blt t 85 then 8 else (bif Nat.blt t 86 then 8 else 8))) else (bif Nat.blt t 89 then (bif Nat.blt t 88 then 8 else 8) else (bif Nat.blt t 90 then 8 else (bif Nat.blt t 91 then 8 else 16)))) else (bif Nat.blt t 97 then (bif Nat.blt t 94 then (bif Nat.blt t 93 then 16 else 0) else (bif Nat.blt t 95 then 8 else (bif Nat.blt t 96 then 8 else 8))) else (bif Nat.blt t 99 then (bif Nat.blt t 98 then 8 else 8) else (bif Nat.blt t 100 then 8 else (bif Nat.blt t 101 then 8 else 8))))) else (bif Nat.blt t 112 then (bif Nat.blt t 107 then (bif Nat.blt t 104 then (bif Nat.blt t 103 then 8 else 8) else (bif Nat.blt t 105 then 8 else (bif Nat.blt t 106 then 8 else 8))) else (bif Nat.blt t 109 then (bif Nat.blt t 108 then 8 else 8) else (bif Nat.blt t 110 then 8 else (bif Nat.blt t 111 then 8 else 8)))) else (bif Nat.blt t 117 then (bif Nat.blt t 114 then (bif Nat.blt t 113 then 8 else 8) else (bif Nat.blt t 115 then 8 else (bif Nat.blt t 116 then 8 else 8))) else (bif Nat.blt t 120 then (bif Nat.blt t 118 then 8 else (bif Nat.blt t 119 then 8 else 40)) else (bif Nat.blt t 121 then 8 else (bif Nat.blt t 122 then 8 else 8)))))) else (bif Nat.blt t 144 then (bif Nat.blt t 133 then (bif Nat.blt t 128 then (bif Nat.blt t 125 then (bif Nat.blt t 124 then 8 else 8) else (bif Nat.blt t 126 then 8 else (bif Nat.blt t 127 then 8 else 0))) else (bif Nat.blt t 130 then (bif Nat.blt t 129 then 8 else 8) else (bif Nat.blt t 131 then 8 else (bif Nat.blt t 132 then 0 else 8)))) else (bif Nat.blt t 138 then (bif Nat.blt t 135 then (bif Nat.blt t 134 then 8 else 4) else (bif Nat.blt t 136 then 8 else (bif Nat.blt t 137 then 8 else 8))) else (bif Nat.blt t 141 then (bif Nat.blt t 139 then 8 else (bif Nat.blt t 140 then 8 else 8)) else (bif Nat.blt t 142 then 8 else (bif Nat.blt t 143 then 8 else 8))))) else (bif Nat.blt t 154 then (bif Nat.blt t 149 then (bif Nat.blt t 146 then (bif Nat.blt t 145 then 8 else 24) else (bif Nat.blt t 147 then 8 else (bif Nat.blt t 148 then 0 else 8))) else (bif Nat.blt t 151 then (bif Nat.blt t 150 then 8 else 40) else (bif Nat.blt t 152 then 40 else (bif Nat.blt t 153 then 0 else 0)))) else (bif Nat.blt t 159 then (bif Nat.blt t 156 then (bif Nat.blt t 155 then 0 else 8) else (bif Nat.blt t 157 then 1 else (bif Nat.blt t 158 then 1 else 8))) else (bif Nat.blt t 162 then (bif Nat.blt t 160 then 8 else (bif Nat.blt t 161 then 4 else 4)) else (bif Nat.blt t 163 then 48 else (bif Nat.blt t 164 then 48 else 0)))))))) else 0
def t0 (t : TypeId) : List C := bif Nat.blt t 165 then (bif Nat.blt t 82 then (bif Nat.blt t 41 then (bif Nat.blt t 20 then (bif Nat.blt t 10 then (bif Nat.blt t 5 then (bif Nat.blt t 2 then (bif Nat.blt t 1 then [] else [.nilf]) else (bif Nat.blt t 3 then [.d (.int .i64 0)] else (bif Nat.blt t 4 then [.d (.int .i64 0)] else [.d (.bool false)]))) else (bif Nat.blt t 7 then (bif Nat.blt t 6 then [.d (.int .u8 0)] else [.d (.int .u8 0)]) else (bif Nat.blt t 8 then [.d (.int .i64 0), .d (.int .i64 0), .d (.bool false), .d (.int .u8 0)] else (bif Nat.blt t 9 then [.d (.int .i64 0), .d (.int .i64 0), .d (.bool false), .d (.int .u8 0)] else [.d (.str ⟨#[]⟩)])))) else (bif Nat.blt t 15 then (bif Nat.blt t 12 then (bif Nat.blt t 11 then [.d (.str ⟨#[]⟩)] else [.d (.str ⟨#[]⟩)]) else (bif Nat.blt t 13 then [.d (.int .u64 0)] else (bif Nat.blt t 14 then [.d (.str ⟨#[]⟩), .d (.int .u64 0)] else [.d (.str ⟨#[]⟩), .d (.int .u64 0)]))) else (bif Nat.blt t 17 then (bif Nat.blt t 16 then [.nilp] else [.nilp]) else (bif Nat.blt t 18 then [.nilp] else (bif Nat.blt t 19 then [.nilp] else [.nilp]))))) else (bif Nat.blt t 30 then (bif Nat.blt t 25 then (bif Nat.blt t 22 then (bif Nat.blt t 21 then [] else [.d (.int .i32 0)]) else (bif Nat.blt t 23 then [.nils] else (bif Nat.blt t 24 then [.d (.int .u16 0)] else [.d (.int .u16 0), .d (.int .u16 0), .d (.int .u16 0)]))) else (bif Nat.blt t 27 then (bif Nat.blt t 26 then [.nilf] else [.nils]) else (bif Nat.blt t 28 then [.nilf] else (bif Nat.blt t 29 then [.d (.int .i64 0)] else [])))) else (bif Nat.blt t 35 then (bif Nat.blt t 32 then (bif Nat.blt t 31 then [.nilf] else [.nils]) else (bif Nat.blt t 33 then [.nils] else (bif Nat.blt t 34 then [.d (.int .i64 0), .d (.int .i64 0), .d (.int .i64 0), .d (.int .i64 0)] else [.d (.int .i64 0), .d (.int .i64 0), .d (.int .i64 0), .d (.int .i64 0)]))) else (bif Nat.blt t 38 then (bif Nat.blt t 36 then [.d (.int .i64 0), .d (.int .i64 0), .d (.int .i64 0), .d (.int .i64 0), .d (.int .i64 0), .nils, .nils, .d (.int .i64 0), .d (.int .i64 0), .d (.int .i64 0), .d (.int .i64 0)] else (bif Nat.blt t 37 then [.d (.int .i64 0), .d (.int .i64 0), .d (.int .i64 0), .d (.int .i64 0), .d (.int .i64 0), .nils, .nils, .d (.int .i64 0), .d (.int .i64 0), .d (.int .i64 0), .d (.int .i64 0)] else [.nilf])) else (bif Nat.blt t 39 then [.nilf] else (bif Nat.blt t 40 then [.nilf] else [.nilf])))))) else (bif Nat.blt t 61 then (bif Nat.blt t 51 then (bif Nat.blt t 46 then (bif Nat.blt t 43 then (bif Nat.blt t 42 then [.nils] else [.nils]) else (bif Nat.blt t 44 then [.nilf] else (bif Nat.blt t 45 then [.d (.int .i64 0), .d (.int .i64 0), .d (.int .i64 0)] else [.d (.int .i64 0), .d (.int .i64 0), .d (.int .i64 0)]))) else (bif Nat.blt t 48 then (bif Nat.blt t 47 then [.nilf] else []) else (bif Nat.blt t 49 then [.nilf] else (bif Nat.blt t 50 then [.d (.int .i64 0), .d (.str ⟨#[]⟩)] else [.d (.int .i64 0), .d (.str ⟨#[]⟩)])))) else (bif Nat.blt t 56 then (bif Nat.blt t 53 then (bif Nat.blt t 52 then [.d (.int .i64 0), .d (.str ⟨#[]⟩), .d (.int .i64 0), .d (.int .i64 0), .d (.int .i64 0), .nils, .d (.int .i64 0), .nils] else [.d (.int .i64 0), .d (.str ⟨#[]⟩), .d (.int .i64 0), .d (.int .i64 0), .d (.int .i64 0), .nils, .d (.int .i64 0), .nils]) else (bif Nat.blt t 54 then [] else (bif Nat.blt t 55 then [.nilf] else [.nilf]))) else (bif Nat.blt t 58 then (bif Nat.blt t 57 then [.d (.str ⟨#[]⟩), .d (.int .i64 0)] else [.d (.str ⟨#[]⟩), .d (.int .i64 0)]) else (bif Nat.blt t 59 then [.nilf] else (bif Nat.blt t 60 then [] else [.nilf]))))) else (bif Nat.blt t 71 then (bif Nat.blt t 66 then (bif Nat.blt t 63 then (bif Nat.blt t 62 then [.nils] else [.nilf]) else (bif Nat.blt t 64 then [.nilf] else (bif Nat.blt t 65 then [.nilp] else [.nils, .d (.int .i64 0)]))) else (bif Nat.blt t 68 then (bif Nat.blt t 67 then [.nils, .d (.int .i64 0)] else [.nilf]) else (bif Nat.blt t 69 then [.nilf] else (bif Nat.blt t 70 then [.nilf] else [.nilf])))) else (bif Nat.blt t 76 then (bif Nat.blt t 73 then (bif Nat.blt t 72 then [.nilf] else [.nilf]) else (bif Nat.blt t 74 then [.nils] else (bif Nat.blt t 75 then [.nilf] else [.nilf]))) else (bif Nat.blt t 79 then (bif Nat.blt t 77 then [.nilf] else (bif Nat.blt t 78 then [.nilf] else [.nilf])) else (bif Nat.blt t 80 then [.nilf] else (bif Nat.blt t 81 then [.nilf] else [.nilf]))))))) else (bif Nat.blt t 123 then (bif Nat.blt t 102 then (bif Nat.blt t 92 then (bif Nat.blt t 87 then (bif Nat.blt t 84 then (bif Nat.blt t 83 then [.nilf] else []) else (bif Nat.blt t 85 then [.nilf] else (bif Nat.blt t 86 then [.nilf] else [.nilf]))) else (bif Nat.blt t 89 then (bif Nat.blt t 88 then [.nilf] else [.nilf]) else (bif Nat.blt t 90 then [.nilf] else (bif Nat.blt t 91 then [.nilf] else [.d (.int .i64 0), .d (.int .i64 0)])))) else (bif Nat.blt t 97 then (bif Nat.blt t 94 then (bif Nat.blt t 93 then [.d (.int .i64 0), .d (.int .i64 0)] else []) else (bif Nat.blt t 95 then [.nilf] else (bif Nat.blt t 96 then [.nilf] else [.nilf]))) else (bif Nat.blt t 99 then (bif Nat.blt t 98 then [.nilf] else [.nilf]) else (bif Nat.blt t 100 then [.nilf] else (bif Nat.blt t 101 then [.nilf] else [.nilf]))))) else (bif Nat.blt t 112 then (bif Nat.blt t 107 then (bif Nat.blt t 104 then (bif Nat.blt t 103 then [.nilf] else [.nilf]) else (bif Nat.blt t 105 then [.nilf] else (bif Nat.blt t 106 then [.nilf] else [.nilf]))) else (bif Nat.blt t 109 then (bif Nat.blt t 108 then [.nilf] else [.nilf]) else (bif Nat.blt t 110 then [.nilm] else (bif Nat.blt t 111 then [.nilf] else [.nilf])))) else (bif Nat.blt t 117 then (bif Nat.blt t 114 then (bif Nat.blt t 113 then [.nilf] else [.d (.int .u64 0)]) else (bif Nat.blt t 115 then [.nilf] else (bif Nat.blt t 116 then [.nilf] else [.nilf]))) else (bif Nat.blt t 120 then (bif Nat.blt t 118 then [.nilf] else (bif Nat.blt t 119 then [.nilf] else [.nilf, .nilf, .nilf, .nilf, .nilf])) else (bif Nat.blt t 121 then [.nilf] else (bif Nat.blt t 122 then [.nilf] else [.nilf])))))) else (bif Nat.blt t 144 then (bif Nat.blt t 133 then (bif Nat.blt t 128 then (bif Nat.blt t 125 then (bif Nat.blt t 124 then [.nilf] else [.nilf]) else (bif Nat.blt t 126 then [.nilf] else (bif Nat.blt t 127 then [.d (.int .i64 0)] else []))) else (bif Nat.blt t 130 then (bif Nat.blt t 129 then [.nilf] else [.nilf]) else (bif Nat.blt t 131 then [.nilf] else (bif Nat.blt t 132 then [] else [.nilf])))) else (bif Nat.blt t 138 then (bif Nat.blt t 135 then (bif Nat.blt t 134 then [.nilf] else [.d (.int .u32 0)]) else (bif Nat.blt t 136 then [.nilf] else (bif Nat.blt t 137 then [.d (.int .u64 0)] else [.nilf]))) else (bif Nat.blt t 141 then (bif Nat.blt t 139 then [.nilf] else (bif Nat.blt t 140 then [.d (.int .u64 0)] else [.nilf])) else (bif Nat.blt t 142 then [.nilf] else (bif Nat.blt t 143 then [.nilf] else [.nilp]))))) else (bif Nat.blt t 154 then (bif Nat.blt t 149 then (bif Nat.blt t 146 then (bif Nat.blt t 145 then [.nilf] else [.nils]) else (bif Nat.blt t 147 then [.nilp] else (bif Nat.blt t 148 then [] else [.nilf]))) else (bif Nat.blt t 151 then (bif Nat.blt t 150 then [.nilf] else [.nilp, .nilp, .nilp, .d (.str ⟨#[]⟩)]) else (bif Nat.blt t 152 then [.nilp, .nilp, .nilp, .d (.str ⟨#[]⟩)] else (bif Nat.blt t 153 then [] else [])))) else (bif Nat.blt t 159 then (bif Nat.blt t 156 then (bif Nat.blt t 155 then [] else [.nilf]) else (bif Nat.blt t 157 then [.d (.int .u8 0)] else (bif Nat.blt t 158 then [.d (.int .u8 0)] else [.nilf]))) else (bif Nat.blt t 162 then (bif Nat.blt t 160 then [.nilp] else (bif Nat.blt t 161 then [.d (.int .i32 0)] else [.d (.int .i32 0)])) else (bif Nat.blt t 163 then [.d (.int .u64 0), .d (.int .u64 0), .d (.int .u32 0), .d (.int .u8 0), .d (.int .u8 0), .d (.int .u8 0), .d (.int .u8 0), .nilf, .nilp, .d (.int .i32 0), .d (.int .i32 0)] else (bif Nat.blt t 164 then [.d (.int .u64 0), .d (.int .u64 0), .d (.int .u32 0), .d (.int .u8 0), .d (.int .u8 0), .d (.int .u8 0), .d (.int .u8 0), .nilf, .nilp, .d (.int .i32 0), .d (.int .i32 0)] else [])))))))) else []
def tip : FuncId → Option (List Int → List Int)
  | 40 => some zP
  | _ => none
def T : Ty := ⟨tk, tz, tb, t0, tip⟩
theorem qkR : (List.range 165).all (fun t => decide (T.k t = .other) || Ty.okAt Try.prog T t) = true := by kernel_rfl
theorem qjv (t : Nat) (h : 165 ≤ t) : T.k t = .other := by
  have hb : Nat.blt t 165 = false := by
    cases h' : Nat.blt t 165 with
    | false => rfl
    | true => exact absurd (Nat.le_of_ble_eq_true h') (by omega)
  show tk t = .other
  unfold tk
  rw [hb]
  rfl
theorem qpE : ∀ t, T.k t = .other ∨ Ty.okAt Try.prog T t = true := fun t => by
  rcases Nat.lt_or_ge t 165 with h | h
  · have := List.all_eq_true.1 qkR t (List.mem_range.2 h)
    simp only [Bool.or_eq_true, decide_eq_true_eq] at this
    exact this
  · exact .inl (qjv t h)
theorem qnZ : ∀ g h, T.ip g = some h → qkt Try.prog g h := by
  intro g h hg
  replace hg : tip g = some h := hg
  unfold tip at hg
  split at hg
  · injection hg with hg; subst hg; exact qpU
  · cases hg
theorem qhH : Ag Try.prog T := ⟨qpE, qnZ⟩
theorem k3 : T.k 3 = .int .i64 := rfl
theorem k4 : T.k 4 = .bool := rfl
theorem k9 : T.k 9 = .str := rfl
theorem k22 : T.k 22 = .sl 41 := rfl
theorem k26 : T.k 26 = .sl 36 := rfl
theorem k31 : T.k 31 = .sl 9 := rfl
theorem k32 : T.k 32 = .sl 57 := rfl
theorem k34 : T.k 34 = .st [(0, 3), (1, 3), (2, 3), (3, 3)] := rfl
theorem k36 : T.k 36 = .st [(0, 3), (1, 3), (2, 3), (3, 3), (4, 3), (5, 31), (6, 32), (7, 34)] := rfl
theorem k41 : T.k 41 = .sl 3 := rfl
theorem k42 : T.k 42 = .sl 52 := rfl
theorem k45 : T.k 45 = .st [(0, 3), (1, 3), (2, 3)] := rfl
theorem k50 : T.k 50 = .st [(0, 3), (1, 9)] := rfl
theorem k52 : T.k 52 = .st [(0, 50), (2, 3), (3, 3), (4, 3), (5, 41), (6, 3), (7, 41)] := rfl
theorem k57 : T.k 57 = .st [(0, 9), (1, 3)] := rfl
theorem k66 : T.k 66 = .st [(0, 41), (1, 3)] := rfl
theorem k70 : T.k 70 = .fn := rfl
theorem k73 : T.k 73 = .sl 31 := rfl
theorem k92 : T.k 92 = .st [(0, 3), (1, 3)] := rfl
theorem qoI : T.k 109 = .mp 3 4 := rfl
theorem qpV : T.k 118 = .st [(0, 70)] := rfl
theorem qp4 : T.k 119 = .arr 5 118 := rfl
theorem qp3 : T.k 136 = .int .u64 := rfl
theorem qpm : T.k 145 = .sl 136 := rfl
theorem z3 : T.sz 3 = 1 := rfl
theorem z9 : T.sz 9 = 1 := rfl
theorem z23 : T.sz 23 = 1 := rfl
theorem z28 : T.sz 28 = 1 := rfl
theorem z31 : T.sz 31 = 1 := rfl
theorem z32 : T.sz 32 = 1 := rfl
theorem z34 : T.sz 34 = 4 := rfl
theorem z36 : T.sz 36 = 11 := rfl
theorem z41 : T.sz 41 = 1 := rfl
theorem z45 : T.sz 45 = 3 := rfl
theorem z46 : T.sz 46 = 1 := rfl
theorem z50 : T.sz 50 = 2 := rfl
theorem z51 : T.sz 51 = 8 := rfl
theorem z52 : T.sz 52 = 8 := rfl
theorem z57 : T.sz 57 = 2 := rfl
theorem z70 : T.sz 70 = 1 := rfl
theorem z92 : T.sz 92 = 2 := rfl
theorem qnW : T.sz 118 = 1 := rfl
theorem qnM : T.sz 119 = 5 := rfl
theorem qnt : T.sz 136 = 1 := rfl
theorem b3 : T.by_ 3 = 8 := rfl
theorem b9 : T.by_ 9 = 16 := rfl
theorem b36 : T.by_ 36 = 120 := rfl
theorem b41 : T.by_ 41 = 24 := rfl
theorem b52 : T.by_ 52 = 104 := rfl
theorem b57 : T.by_ 57 = 24 := rfl
theorem o3 : T.zero 3 = [.d (.int .i64 0)] := rfl
theorem o4 : T.zero 4 = [.d (.bool false)] := rfl
theorem o9 : T.zero 9 = [.d (.str ⟨#[]⟩)] := rfl
theorem o34 : T.zero 34 = [.d (.int .i64 0), .d (.int .i64 0), .d (.int .i64 0), .d (.int .i64 0)] := rfl
theorem o36 : T.zero 36 = [.d (.int .i64 0), .d (.int .i64 0), .d (.int .i64 0), .d (.int .i64 0), .d (.int .i64 0), .nils, .nils, .d (.int .i64 0), .d (.int .i64 0), .d (.int .i64 0), .d (.int .i64 0)] := rfl
theorem o41 : T.zero 41 = [.nils] := rfl
theorem o45 : T.zero 45 = [.d (.int .i64 0), .d (.int .i64 0), .d (.int .i64 0)] := rfl
theorem o50 : T.zero 50 = [.d (.int .i64 0), .d (.str ⟨#[]⟩)] := rfl
theorem o52 : T.zero 52 = [.d (.int .i64 0), .d (.str ⟨#[]⟩), .d (.int .i64 0), .d (.int .i64 0), .d (.int .i64 0), .nils, .d (.int .i64 0), .nils] := rfl
theorem o57 : T.zero 57 = [.d (.str ⟨#[]⟩), .d (.int .i64 0)] := rfl
theorem o66 : T.zero 66 = [.nils, .d (.int .i64 0)] := rfl
theorem o92 : T.zero 92 = [.d (.int .i64 0), .d (.int .i64 0)] := rfl
theorem qpy : T.zero 118 = [.nilf] := rfl
theorem qpK : T.zero 119 = [.nilf, .nilf, .nilf, .nilf, .nilf] := rfl
end Go.Proofs.Ytplfjlcnffcenaa.Vc
namespace Go.Proofs.Ytplfjlcnffcenaa.Vc
open Go.RowKit
set_option linter.unusedVariables false
def pq (t : TypeId) : List Nat := bif Nat.blt t 146 then (bif Nat.blt t 73 then (bif Nat.blt t 36 then (bif Nat.blt t 18 then [] else (bif Nat.blt t 27 then (bif Nat.blt t 22 then [] else (bif Nat.blt t 24 then (bif Nat.blt t 23 then [1] else []) else (bif Nat.blt t 25 then [] else (bif Nat.blt t 26 then [] else [11])))) else (bif Nat.blt t 31 then [] else (bif Nat.blt t 33 then (bif Nat.blt t 32 then [1] else [2]) else (bif Nat.blt t 34 then [] else (bif Nat.blt t 35 then [] else [0, 0, 0, 0, 0, 1, 2, 0, 0, 0, 0])))))) else (bif Nat.blt t 54 then (bif Nat.blt t 45 then (bif Nat.blt t 40 then (bif Nat.blt t 38 then (bif Nat.blt t 37 then [0, 0, 0, 0, 0, 1, 2, 0, 0, 0, 0] else []) else []) else (bif Nat.blt t 42 then (bif Nat.blt t 41 then [] else [1]) else (bif Nat.blt t 43 then [8] else []))) else (bif Nat.blt t 49 then [] else (bif Nat.blt t 51 then [] else (bif Nat.blt t 52 then [0, 0, 0, 0, 0, 1, 0, 1] else (bif Nat.blt t 53 then [0, 0, 0, 0, 0, 1, 0, 1] else []))))) else (bif Nat.blt t 63 then (bif Nat.blt t 58 then [] else (bif Nat.blt t 60 then [] else (bif Nat.blt t 61 then [] else (bif Nat.blt t 62 then [1] else [])))) else (bif Nat.blt t 68 then (bif Nat.blt t 65 then [] else (bif Nat.blt t 66 then [1, 0] else (bif Nat.blt t 67 then [1, 0] else []))) else [])))) else (bif Nat.blt t 109 then (bif Nat.blt t 91 then (bif Nat.blt t 82 then (bif Nat.blt t 77 then (bif Nat.blt t 75 then (bif Nat.blt t 74 then [1] else []) else []) else []) else []) else []) else (bif Nat.blt t 127 then [] else (bif Nat.blt t 136 then [] else (bif Nat.blt t 141 then [] else (bif Nat.blt t 143 then [] else (bif Nat.blt t 144 then [] else (bif Nat.blt t 145 then [] else [1])))))))) else []
def pow (t : FuncId) : List Nat := bif Nat.blt t 14 then (bif Nat.blt t 7 then [] else (bif Nat.blt t 10 then (bif Nat.blt t 8 then [0] else []) else (bif Nat.blt t 12 then [] else (bif Nat.blt t 13 then [] else [2])))) else []
def pfz (f : FuncId) : Bool := ([6, 11, 16, 18, 21, 25, 34, 37, 38, 39, 42, 49, 62, 69, 71, 72] : List Nat).contains f
def pro (f : FuncId) : Bool := ([21, 37, 42] : List Nat).contains f
def pkp (t : FuncId) (k : Nat) : List Nat := bif Nat.blt t 93 then (bif Nat.blt t 46 then (bif Nat.blt t 23 then (bif Nat.blt t 11 then (bif Nat.blt t 5 then (bif Nat.blt t 2 then [] else (bif Nat.blt t 3 then [] else (bif Nat.blt t 4 then (bif Nat.blt k 14 then (bif Nat.blt k 7 then [] else (bif Nat.blt k 10 then [] else (bif Nat.blt k 12 then [] else (bif Nat.blt k 13 then [] else [7, 8, 9, 11, 12, 13, 121, 122])))) else []) else (bif Nat.blt k 31 then (bif Nat.blt k 15 then (bif Nat.blt k 7 then (bif Nat.blt k 3 then [] else (bif Nat.blt k 5 then (bif Nat.blt k 4 then [1, 5, 26, 27, 28] else []) else [])) else (bif Nat.blt k 11 then [] else (bif Nat.blt k 13 then (bif Nat.blt k 12 then [1, 5, 7, 9, 10, 11, 12, 13, 14, 15, 26, 27, 28, 45, 46, 47] else []) else []))) else (bif Nat.blt k 23 then [] else (bif Nat.blt k 27 then (bif Nat.blt k 25 then (bif Nat.blt k 24 then [] else [1, 5, 7, 12, 13, 18, 26, 27, 28, 120, 121, 122]) else []) else (bif Nat.blt k 29 then [] else (bif Nat.blt k 30 then [] else [1, 5, 7, 12, 13, 18, 21, 23, 26, 27, 28, 120, 121, 122]))))) else [])))) else (bif Nat.blt t 8 then (bif Nat.blt t 6 then (bif Nat.blt k 8 then (bif Nat.blt k 4 then [] else (bif Nat.blt k 6 then [] else (bif Nat.blt k 7 then [] else [1, 2, 3, 4, 56, 57, 58]))) else []) else (bif Nat.blt t 7 then (bif Nat.blt k 4 then (bif Nat.blt k 2 then [] else (bif Nat.blt k 3 then [] else [0, 3, 4])) else []) else [])) else (bif Nat.blt t 9 then [] else (bif Nat.blt t 10 then (bif Nat.blt k 6 then (bif Nat.blt k 3 then [] else (bif Nat.blt k 4 then [] else (bif Nat.blt k 5 then [] else [2, 3, 6]))) else []) else (bif Nat.blt k 16 then (bif Nat.blt k 8 then [] else (bif Nat.blt k 12 then [] else (bif Nat.blt k 14 then (bif Nat.blt k 13 then [1, 52, 53, 54] else []) else (bif Nat.blt k 15 then [] else [1, 4, 52, 53, 54, 58, 59, 60])))) else []))))) else (bif Nat.blt t 17 then (bif Nat.blt t 14 then (bif Nat.blt t 12 then (bif Nat.blt k 6 then (bif Nat.blt k 3 then [] else (bif Nat.blt k 4 then [] else (bif Nat.blt k 5 then [] else [2, 5, 6, 7, 8]))) else []) else (bif Nat.blt t 13 then [] else (bif Nat.blt k 14 then (bif Nat.blt k 7 then [] else (bif Nat.blt k 10 then [] else (bif Nat.blt k 12 then [] else (bif Nat.blt k 13 then [] else [2, 3, 9, 11, 13, 48, 49, 50])))) else []))) else []) else (bif Nat.blt t 20 then (bif Nat.blt t 18 then [] else (bif Nat.blt t 19 then (bif Nat.blt k 7 then (bif Nat.blt k 3 then [] else (bif Nat.blt k 5 then [] else (bif Nat.blt k 6 then [] else [0, 4, 5, 6, 7]))) else []) else [])) else (bif Nat.blt t 21 then [] else (bif Nat.blt t 22 then (bif Nat.blt k 5 then (bif Nat.blt k 2 then [] else (bif Nat.blt k 3 then [] else (bif Nat.blt k 4 then [] else [3, 12, 13]))) else []) else []))))) else (bif Nat.blt t 34 then (bif Nat.blt t 28 then (bif Nat.blt t 25 then (bif Nat.blt t 24 then (bif Nat.blt k 5 then (bif Nat.blt k 2 then [] else (bif Nat.blt k 3 then [] else (bif Nat.blt k 4 then [] else [0, 1, 5]))) else []) else []) else (bif Nat.blt t 26 then (bif Nat.blt k 4 then (bif Nat.blt k 2 then [] else (bif Nat.blt k 3 then [] else [3, 6, 7, 8])) else []) else [])) else (bif Nat.blt t 31 then [] else (bif Nat.blt t 32 then [] else (bif Nat.blt t 33 then [] else (bif Nat.blt k 5 then (bif Nat.blt k 2 then [] else (bif Nat.blt k 3 then [] else (bif Nat.blt k 4 then [] else [1, 2, 20, 21, 22]))) else []))))) else (bif Nat.blt t 40 then (bif Nat.blt t 37 then (bif Nat.blt t 35 then (bif Nat.blt k 4 then (bif Nat.blt k 2 then [] else (bif Nat.blt k 3 then [] else [1, 5, 8, 9, 10])) else []) else []) else (bif Nat.blt t 38 then (bif Nat.blt k 10 then (bif Nat.blt k 5 then [] else (bif Nat.blt k 7 then (bif Nat.blt k 6 then [4, 5, 6, 13, 14, 15] else []) else (bif Nat.blt k 8 then [] else (bif Nat.blt k 9 then [] else [4, 5, 6, 9, 13, 14, 15, 21, 22, 23])))) else []) else (bif Nat.blt t 39 then (bif Nat.blt k 4 then (bif Nat.blt k 2 then [] else (bif Nat.blt k 3 then [] else [1, 5, 8, 9, 10])) else []) else []))) else (bif Nat.blt t 43 then [] else (bif Nat.blt t 44 then (bif Nat.blt k 3 then (bif Nat.blt k 1 then [] else (bif Nat.blt k 2 then [] else [1, 9, 10, 11])) else []) else (bif Nat.blt t 45 then (bif Nat.blt k 9 then (bif Nat.blt k 4 then [] else (bif Nat.blt k 6 then [] else (bif Nat.blt k 7 then [] else (bif Nat.blt k 8 then [] else [1, 4, 6, 7, 8, 29, 30, 31])))) else []) else [])))))) else (bif Nat.blt t 69 then (bif Nat.blt t 57 then (bif Nat.blt t 51 then (bif Nat.blt t 48 then [] else (bif Nat.blt t 49 then (bif Nat.blt k 5 then (bif Nat.blt k 2 then [] else (bif Nat.blt k 3 then [] else (bif Nat.blt k 4 then [] else [0, 1, 5]))) else []) else (bif Nat.blt t 50 then (bif Nat.blt k 6 then (bif Nat.blt k 3 then [] else (bif Nat.blt k 4 then [0, 3, 4] else (bif Nat.blt k 5 then [] else [0, 3, 4, 5]))) else []) else (bif Nat.blt k 3 then (bif Nat.blt k 1 then [] else (bif Nat.blt k 2 then [] else [0, 1, 5])) else [])))) else (bif Nat.blt t 54 then (bif Nat.blt t 52 then [] else (bif Nat.blt t 53 then (bif Nat.blt k 3 then (bif Nat.blt k 1 then [] else (bif Nat.blt k 2 then [] else [0, 1, 7, 8])) else []) else [])) else [])) else (bif Nat.blt t 63 then (bif Nat.blt t 60 then (bif Nat.blt t 58 then [] else (bif Nat.blt t 59 then (bif Nat.blt k 3 then (bif Nat.blt k 1 then [] else (bif Nat.blt k 2 then [] else [0, 1, 7, 8])) else []) else (bif Nat.blt k 3 then (bif Nat.blt k 1 then [] else (bif Nat.blt k 2 then [] else [0, 1, 7, 8])) else []))) else (bif Nat.blt t 61 then [] else (bif Nat.blt t 62 then (bif Nat.blt k 5 then (bif Nat.blt k 2 then [] else (bif Nat.blt k 3 then [] else (bif Nat.blt k 4 then [] else [0, 1, 12, 13]))) else []) else []))) else (bif Nat.blt t 66 then (bif Nat.blt t 64 then (bif Nat.blt k 3 then (bif Nat.blt k 1 then [] else (bif Nat.blt k 2 then [] else [0, 1, 2, 3, 8, 9])) else []) else (bif Nat.blt t 65 then [] else (bif Nat.blt k 6 then (bif Nat.blt k 3 then [] else (bif Nat.blt k 4 then [] else (bif Nat.blt k 5 then [] else [0, 3, 4]))) else []))) else []))) else (bif Nat.blt t 81 then (bif Nat.blt t 75 then (bif Nat.blt t 72 then [] else (bif Nat.blt t 73 then (bif Nat.blt k 5 then (bif Nat.blt k 2 then [] else (bif Nat.blt k 3 then [] else (bif Nat.blt k 4 then [] else [0, 1, 5]))) else []) else (bif Nat.blt t 74 then (bif Nat.blt k 3 then (bif Nat.blt k 1 then [] else (bif Nat.blt k 2 then [] else [1, 2, 10])) else []) else []))) else (bif Nat.blt t 78 then (bif Nat.blt t 76 then (bif Nat.blt k 5 then (bif Nat.blt k 2 then (bif Nat.blt k 1 then [] else [0, 1, 2, 6]) else (bif Nat.blt k 3 then [] else (bif Nat.blt k 4 then [] else [0, 1, 2, 6, 7]))) else []) else (bif Nat.blt t 77 then (bif Nat.blt k 9 then (bif Nat.blt k 4 then [] else (bif Nat.blt k 6 then (bif Nat.blt k 5 then [0, 6, 7, 8, 9] else []) else (bif Nat.blt k 7 then [] else (bif Nat.blt k 8 then [] else [0, 6, 7, 10])))) else []) else (bif Nat.blt k 6 then (bif Nat.blt k 3 then [] else (bif Nat.blt k 4 then [] else (bif Nat.blt k 5 then [] else [0, 1, 6, 7, 8, 9]))) else []))) else (bif Nat.blt t 79 then [] else (bif Nat.blt t 80 then (bif Nat.blt k 3 then (bif Nat.blt k 1 then [] else (bif Nat.blt k 2 then [] else [0, 6, 7])) else []) else (bif Nat.blt k 21 then (bif Nat.blt k 10 then (bif Nat.blt k 5 then (bif Nat.blt k 2 then [] else (bif Nat.blt k 3 then [] else (bif Nat.blt k 4 then [0, 1, 2, 7, 8] else []))) else (bif Nat.blt k 7 then (bif Nat.blt k 6 then [0, 1, 2, 7, 8] else []) else [])) else (bif Nat.blt k 15 then (bif Nat.blt k 12 then [] else (bif Nat.blt k 13 then [] else (bif Nat.blt k 14 then [] else [0, 1, 2, 7, 8, 9]))) else (bif Nat.blt k 18 then [] else (bif Nat.blt k 19 then [] else (bif Nat.blt k 20 then [] else [0, 1, 2, 7, 8, 10]))))) else []))))) else (bif Nat.blt t 87 then (bif Nat.blt t 84 then (bif Nat.blt t 82 then [] else (bif Nat.blt t 83 then (bif Nat.blt k 6 then (bif Nat.blt k 3 then [] else (bif Nat.blt k 4 then [0, 1, 9, 10] else (bif Nat.blt k 5 then [] else [0, 1, 9, 10]))) else []) else (bif Nat.blt k 16 then (bif Nat.blt k 8 then (bif Nat.blt k 4 then (bif Nat.blt k 2 then [] else (bif Nat.blt k 3 then [] else [0, 1, 10, 11])) else (bif Nat.blt k 6 then (bif Nat.blt k 5 then [] else [0, 1, 10, 11]) else [])) else (bif Nat.blt k 12 then [] else (bif Nat.blt k 14 then (bif Nat.blt k 13 then [] else [0, 1, 10, 11]) else (bif Nat.blt k 15 then [] else [0, 1, 10, 11])))) else []))) else (bif Nat.blt t 85 then [] else (bif Nat.blt t 86 then [] else (bif Nat.blt k 6 then (bif Nat.blt k 3 then [] else (bif Nat.blt k 4 then [3, 6, 7, 8] else (bif Nat.blt k 5 then [] else [3, 5, 6, 7, 8]))) else [])))) else (bif Nat.blt t 90 then [] else (bif Nat.blt t 91 then [] else (bif Nat.blt t 92 then [] else (bif Nat.blt k 2 then (bif Nat.blt k 1 then [] else [0, 2, 3, 8]) else [])))))))) else []
def pkx (t : FuncId) (k : Nat) : List Nat := bif Nat.blt t 93 then (bif Nat.blt t 46 then (bif Nat.blt t 23 then (bif Nat.blt t 11 then (bif Nat.blt t 5 then (bif Nat.blt t 2 then [] else (bif Nat.blt t 3 then [] else (bif Nat.blt t 4 then (bif Nat.blt k 14 then (bif Nat.blt k 7 then [] else (bif Nat.blt k 10 then [] else (bif Nat.blt k 12 then [] else (bif Nat.blt k 13 then [] else [6, 7])))) else []) else (bif Nat.blt k 31 then (bif Nat.blt k 15 then (bif Nat.blt k 7 then (bif Nat.blt k 3 then [] else (bif Nat.blt k 5 then (bif Nat.blt k 4 then [4, 5] else []) else [])) else (bif Nat.blt k 11 then [] else (bif Nat.blt k 13 then (bif Nat.blt k 12 then [1, 5, 7, 9, 10, 11, 12, 13, 14, 15, 26, 27, 28] else []) else []))) else (bif Nat.blt k 23 then [] else (bif Nat.blt k 27 then (bif Nat.blt k 25 then (bif Nat.blt k 24 then [] else [1, 4, 5, 26, 27, 28]) else []) else (bif Nat.blt k 29 then [] else (bif Nat.blt k 30 then [] else [1, 4, 5, 7, 12, 13, 18, 26, 27, 28, 120, 121, 122]))))) else [])))) else (bif Nat.blt t 8 then (bif Nat.blt t 6 then (bif Nat.blt k 8 then (bif Nat.blt k 4 then [] else (bif Nat.blt k 6 then [] else (bif Nat.blt k 7 then [] else [0, 1, 2, 3]))) else []) else (bif Nat.blt t 7 then (bif Nat.blt k 4 then (bif Nat.blt k 2 then [] else (bif Nat.blt k 3 then [] else [3])) else []) else [])) else (bif Nat.blt t 9 then [] else (bif Nat.blt t 10 then (bif Nat.blt k 6 then (bif Nat.blt k 3 then [] else (bif Nat.blt k 4 then [] else (bif Nat.blt k 5 then [] else [4]))) else []) else (bif Nat.blt k 16 then (bif Nat.blt k 8 then [] else (bif Nat.blt k 12 then [] else (bif Nat.blt k 14 then (bif Nat.blt k 13 then [1, 2] else []) else (bif Nat.blt k 15 then [] else [1, 2, 52, 53, 54])))) else []))))) else (bif Nat.blt t 17 then (bif Nat.blt t 14 then (bif Nat.blt t 12 then (bif Nat.blt k 6 then (bif Nat.blt k 3 then [] else (bif Nat.blt k 4 then [] else (bif Nat.blt k 5 then [] else [6]))) else []) else (bif Nat.blt t 13 then [] else (bif Nat.blt k 14 then (bif Nat.blt k 7 then [] else (bif Nat.blt k 10 then [] else (bif Nat.blt k 12 then [] else (bif Nat.blt k 13 then [] else [13])))) else []))) else []) else (bif Nat.blt t 20 then (bif Nat.blt t 18 then [] else (bif Nat.blt t 19 then (bif Nat.blt k 7 then (bif Nat.blt k 3 then [] else (bif Nat.blt k 5 then [] else (bif Nat.blt k 6 then [] else [0, 4, 5]))) else []) else [])) else (bif Nat.blt t 21 then [] else (bif Nat.blt t 22 then (bif Nat.blt k 5 then (bif Nat.blt k 2 then [] else (bif Nat.blt k 3 then [] else (bif Nat.blt k 4 then [] else [3]))) else []) else []))))) else (bif Nat.blt t 34 then (bif Nat.blt t 28 then (bif Nat.blt t 25 then (bif Nat.blt t 24 then (bif Nat.blt k 5 then (bif Nat.blt k 2 then [] else (bif Nat.blt k 3 then [] else (bif Nat.blt k 4 then [] else [4]))) else []) else []) else (bif Nat.blt t 26 then (bif Nat.blt k 4 then (bif Nat.blt k 2 then [] else (bif Nat.blt k 3 then [] else [3])) else []) else [])) else (bif Nat.blt t 31 then [] else (bif Nat.blt t 32 then [] else (bif Nat.blt t 33 then [] else (bif Nat.blt k 5 then (bif Nat.blt k 2 then [] else (bif Nat.blt k 3 then [] else (bif Nat.blt k 4 then [] else [1, 2, 4]))) else []))))) else (bif Nat.blt t 40 then (bif Nat.blt t 37 then (bif Nat.blt t 35 then (bif Nat.blt k 4 then (bif Nat.blt k 2 then [] else (bif Nat.blt k 3 then [] else [5])) else []) else []) else (bif Nat.blt t 38 then (bif Nat.blt k 10 then (bif Nat.blt k 5 then [] else (bif Nat.blt k 7 then (bif Nat.blt k 6 then [5, 6] else []) else (bif Nat.blt k 8 then [] else (bif Nat.blt k 9 then [] else [4, 5, 6, 13, 14, 15])))) else []) else (bif Nat.blt t 39 then (bif Nat.blt k 4 then (bif Nat.blt k 2 then [] else (bif Nat.blt k 3 then [] else [5])) else []) else []))) else (bif Nat.blt t 43 then [] else (bif Nat.blt t 44 then (bif Nat.blt k 3 then (bif Nat.blt k 1 then [] else (bif Nat.blt k 2 then [] else [1, 2])) else []) else (bif Nat.blt t 45 then (bif Nat.blt k 9 then (bif Nat.blt k 4 then [] else (bif Nat.blt k 6 then [] else (bif Nat.blt k 7 then [] else (bif Nat.blt k 8 then [] else [4, 5, 6, 7])))) else []) else [])))))) else (bif Nat.blt t 69 then (bif Nat.blt t 57 then (bif Nat.blt t 51 then (bif Nat.blt t 48 then [] else (bif Nat.blt t 49 then (bif Nat.blt k 5 then (bif Nat.blt k 2 then [] else (bif Nat.blt k 3 then [] else (bif Nat.blt k 4 then [] else [4]))) else []) else (bif Nat.blt t 50 then (bif Nat.blt k 6 then (bif Nat.blt k 3 then [] else (bif Nat.blt k 4 then [3] else (bif Nat.blt k 5 then [] else [0, 3, 4, 5]))) else []) else (bif Nat.blt k 3 then (bif Nat.blt k 1 then [] else (bif Nat.blt k 2 then [] else [4])) else [])))) else (bif Nat.blt t 54 then (bif Nat.blt t 52 then [] else (bif Nat.blt t 53 then (bif Nat.blt k 3 then (bif Nat.blt k 1 then [] else (bif Nat.blt k 2 then [] else [4])) else []) else [])) else [])) else (bif Nat.blt t 63 then (bif Nat.blt t 60 then (bif Nat.blt t 58 then [] else (bif Nat.blt t 59 then (bif Nat.blt k 3 then (bif Nat.blt k 1 then [] else (bif Nat.blt k 2 then [] else [4])) else []) else (bif Nat.blt k 3 then (bif Nat.blt k 1 then [] else (bif Nat.blt k 2 then [] else [4])) else []))) else (bif Nat.blt t 61 then [] else (bif Nat.blt t 62 then (bif Nat.blt k 5 then (bif Nat.blt k 2 then [] else (bif Nat.blt k 3 then [] else (bif Nat.blt k 4 then [] else [4]))) else []) else []))) else (bif Nat.blt t 66 then (bif Nat.blt t 64 then (bif Nat.blt k 3 then (bif Nat.blt k 1 then [] else (bif Nat.blt k 2 then [] else [])) else []) else (bif Nat.blt t 65 then [] else (bif Nat.blt k 6 then (bif Nat.blt k 3 then [] else (bif Nat.blt k 4 then [] else (bif Nat.blt k 5 then [] else [3]))) else []))) else []))) else (bif Nat.blt t 81 then (bif Nat.blt t 75 then (bif Nat.blt t 72 then [] else (bif Nat.blt t 73 then (bif Nat.blt k 5 then (bif Nat.blt k 2 then [] else (bif Nat.blt k 3 then [] else (bif Nat.blt k 4 then [] else [0, 1, 5]))) else []) else (bif Nat.blt t 74 then (bif Nat.blt k 3 then (bif Nat.blt k 1 then [] else (bif Nat.blt k 2 then [] else [6])) else []) else []))) else (bif Nat.blt t 78 then (bif Nat.blt t 76 then (bif Nat.blt k 5 then (bif Nat.blt k 2 then (bif Nat.blt k 1 then [] else []) else (bif Nat.blt k 3 then [] else (bif Nat.blt k 4 then [] else [0, 1, 2, 6]))) else []) else (bif Nat.blt t 77 then (bif Nat.blt k 9 then (bif Nat.blt k 4 then [] else (bif Nat.blt k 6 then (bif Nat.blt k 5 then [0, 6, 7, 8] else []) else (bif Nat.blt k 7 then [] else (bif Nat.blt k 8 then [] else [])))) else []) else (bif Nat.blt k 6 then (bif Nat.blt k 3 then [] else (bif Nat.blt k 4 then [] else (bif Nat.blt k 5 then [] else []))) else []))) else (bif Nat.blt t 79 then [] else (bif Nat.blt t 80 then (bif Nat.blt k 3 then (bif Nat.blt k 1 then [] else (bif Nat.blt k 2 then [] else [])) else []) else (bif Nat.blt k 21 then (bif Nat.blt k 10 then (bif Nat.blt k 5 then (bif Nat.blt k 2 then [] else (bif Nat.blt k 3 then [] else (bif Nat.blt k 4 then [6] else []))) else (bif Nat.blt k 7 then (bif Nat.blt k 6 then [0, 1, 2, 7, 8] else []) else [])) else (bif Nat.blt k 15 then (bif Nat.blt k 12 then [] else (bif Nat.blt k 13 then [] else (bif Nat.blt k 14 then [] else [0, 1, 2, 7, 8]))) else (bif Nat.blt k 18 then [] else (bif Nat.blt k 19 then [] else (bif Nat.blt k 20 then [] else [0, 1, 2, 7, 8]))))) else []))))) else (bif Nat.blt t 87 then (bif Nat.blt t 84 then (bif Nat.blt t 82 then [] else (bif Nat.blt t 83 then (bif Nat.blt k 6 then (bif Nat.blt k 3 then [] else (bif Nat.blt k 4 then [9] else (bif Nat.blt k 5 then [] else [0, 1, 9, 10]))) else []) else (bif Nat.blt k 16 then (bif Nat.blt k 8 then (bif Nat.blt k 4 then (bif Nat.blt k 2 then [] else (bif Nat.blt k 3 then [] else [0, 1, 10, 11])) else (bif Nat.blt k 6 then (bif Nat.blt k 5 then [] else [0, 1, 10, 11]) else [])) else (bif Nat.blt k 12 then [] else (bif Nat.blt k 14 then (bif Nat.blt k 13 then [] else [0, 1, 11]) else (bif Nat.blt k 15 then [] else [0, 1, 10, 11])))) else []))) else (bif Nat.blt t 85 then [] else (bif Nat.blt t 86 then [] else (bif Nat.blt k 6 then (bif Nat.blt k 3 then [] else (bif Nat.blt k 4 then [3] else (bif Nat.blt k 5 then [] else [3, 6, 7, 8]))) else [])))) else (bif Nat.blt t 90 then [] else (bif Nat.blt t 91 then [] else (bif Nat.blt t 92 then [] else (bif Nat.blt k 2 then (bif Nat.blt k 1 then [] else []) else [])))))))) else []
def prw (t : FuncId) (k : Nat) : List Rw := bif Nat.blt t 39 then (bif Nat.blt t 19 then (bif Nat.blt t 9 then (bif Nat.blt t 4 then [] else (bif Nat.blt t 6 then (bif Nat.blt t 5 then (bif Nat.blt k 12 then (bif Nat.blt k 6 then [] else (bif Nat.blt k 9 then [] else (bif Nat.blt k 10 then [] else (bif Nat.blt k 11 then [] else [.slot 14 3 1, .slot 15 3 1])))) else []) else []) else (bif Nat.blt t 7 then (bif Nat.blt k 4 then (bif Nat.blt k 2 then [] else (bif Nat.blt k 3 then [] else [.slot 3 36 11])) else []) else []))) else (bif Nat.blt t 14 then (bif Nat.blt t 11 then [] else (bif Nat.blt t 12 then (bif Nat.blt k 6 then (bif Nat.blt k 3 then [] else (bif Nat.blt k 4 then [] else (bif Nat.blt k 5 then [] else [.slot 6 52 8]))) else []) else (bif Nat.blt t 13 then [] else (bif Nat.blt k 14 then (bif Nat.blt k 7 then [] else (bif Nat.blt k 10 then [] else (bif Nat.blt k 12 then [] else (bif Nat.blt k 13 then [] else [.slot 13 52 8])))) else [])))) else (bif Nat.blt t 16 then [] else (bif Nat.blt t 17 then [] else (bif Nat.blt t 18 then [] else (bif Nat.blt k 7 then (bif Nat.blt k 3 then [] else (bif Nat.blt k 5 then [] else (bif Nat.blt k 6 then [] else [.cell 5 6 57 2]))) else [])))))) else (bif Nat.blt t 29 then (bif Nat.blt t 24 then [] else (bif Nat.blt t 26 then (bif Nat.blt t 25 then [] else (bif Nat.blt k 4 then (bif Nat.blt k 2 then [] else (bif Nat.blt k 3 then [] else [.slot 3 9 1])) else [])) else [])) else (bif Nat.blt t 34 then [] else (bif Nat.blt t 36 then (bif Nat.blt t 35 then (bif Nat.blt k 4 then (bif Nat.blt k 2 then [] else (bif Nat.blt k 3 then [] else [.slot 5 3 1])) else []) else []) else (bif Nat.blt t 37 then [] else (bif Nat.blt t 38 then (bif Nat.blt k 10 then (bif Nat.blt k 5 then [] else (bif Nat.blt k 7 then (bif Nat.blt k 6 then [.slot 5 3 1] else []) else (bif Nat.blt k 8 then [] else (bif Nat.blt k 9 then [] else [.slot 5 3 1])))) else []) else (bif Nat.blt k 4 then (bif Nat.blt k 2 then [] else (bif Nat.blt k 3 then [] else [.slot 5 41 1])) else []))))))) else []
def pdm (t : FuncId) (k : Nat) : Nat := bif Nat.blt t 99 then (bif Nat.blt t 49 then (bif Nat.blt t 24 then (bif Nat.blt t 12 then (bif Nat.blt t 6 then (bif Nat.blt t 3 then 0 else (bif Nat.blt t 4 then (bif Nat.blt k 18 then (bif Nat.blt k 9 then (bif Nat.blt k 4 then 0 else (bif Nat.blt k 6 then 0 else (bif Nat.blt k 7 then 14 else 0))) else (bif Nat.blt k 13 then (bif Nat.blt k 11 then (bif Nat.blt k 10 then 36 else 22) else 0) else (bif Nat.blt k 15 then 0 else (bif Nat.blt k 16 then 18 else (bif Nat.blt k 17 then 0 else 11))))) else 0) else (bif Nat.blt t 5 then (bif Nat.blt k 33 then (bif Nat.blt k 16 then (bif Nat.blt k 8 then 0 else (bif Nat.blt k 12 then 0 else (bif Nat.blt k 14 then 0 else (bif Nat.blt k 15 then 0 else 9)))) else (bif Nat.blt k 24 then 0 else (bif Nat.blt k 28 then (bif Nat.blt k 26 then 0 else (bif Nat.blt k 27 then 0 else 55)) else (bif Nat.blt k 30 then 0 else (bif Nat.blt k 31 then 0 else (bif Nat.blt k 32 then 0 else 11)))))) else 0) else (bif Nat.blt k 24 then (bif Nat.blt k 12 then 0 else (bif Nat.blt k 18 then 0 else (bif Nat.blt k 21 then (bif Nat.blt k 19 then 14 else 0) else (bif Nat.blt k 22 then 0 else (bif Nat.blt k 23 then 0 else 11))))) else 0)))) else (bif Nat.blt t 9 then (bif Nat.blt t 7 then 0 else (bif Nat.blt t 8 then (bif Nat.blt k 10 then (bif Nat.blt k 5 then 0 else (bif Nat.blt k 7 then 0 else (bif Nat.blt k 8 then 0 else (bif Nat.blt k 9 then 0 else 19)))) else 0) else 0)) else (bif Nat.blt t 10 then (bif Nat.blt k 8 then (bif Nat.blt k 4 then 0 else (bif Nat.blt k 6 then 0 else (bif Nat.blt k 7 then 0 else 10))) else 0) else (bif Nat.blt t 11 then (bif Nat.blt k 12 then (bif Nat.blt k 6 then 0 else (bif Nat.blt k 9 then 0 else (bif Nat.blt k 10 then 0 else (bif Nat.blt k 11 then 0 else 8)))) else 0) else (bif Nat.blt k 8 then (bif Nat.blt k 4 then 0 else (bif Nat.blt k 6 then 0 else (bif Nat.blt k 7 then 0 else 27))) else 0))))) else (bif Nat.blt t 18 then (bif Nat.blt t 15 then (bif Nat.blt t 13 then 0 else (bif Nat.blt t 14 then (bif Nat.blt k 16 then (bif Nat.blt k 8 then (bif Nat.blt k 4 then 0 else (bif Nat.blt k 6 then (bif Nat.blt k 5 then 11 else 0) else 0)) else (bif Nat.blt k 12 then 0 else (bif Nat.blt k 14 then 0 else (bif Nat.blt k 15 then 0 else 24)))) else 0) else (bif Nat.blt k 11 then (bif Nat.blt k 5 then 0 else (bif Nat.blt k 8 then 0 else (bif Nat.blt k 9 then 0 else (bif Nat.blt k 10 then 0 else 23)))) else 0))) else (bif Nat.blt t 16 then 0 else (bif Nat.blt t 17 then (bif Nat.blt k 5 then (bif Nat.blt k 2 then 0 else (bif Nat.blt k 3 then 0 else (bif Nat.blt k 4 then 0 else 5))) else 0) else 0))) else (bif Nat.blt t 21 then (bif Nat.blt t 19 then (bif Nat.blt k 13 then (bif Nat.blt k 6 then (bif Nat.blt k 3 then (bif Nat.blt k 1 then 0 else (bif Nat.blt k 2 then 16 else 0)) else (bif Nat.blt k 4 then 4 else 0)) else (bif Nat.blt k 9 then (bif Nat.blt k 7 then 0 else (bif Nat.blt k 8 then 0 else 12)) else (bif Nat.blt k 11 then (bif Nat.blt k 10 then 13 else 0) else (bif Nat.blt k 12 then 0 else 7)))) else 0) else 0) else (bif Nat.blt t 22 then (bif Nat.blt k 7 then (bif Nat.blt k 3 then 0 else (bif Nat.blt k 5 then 0 else (bif Nat.blt k 6 then 0 else 19))) else 0) else (bif Nat.blt t 23 then 0 else (bif Nat.blt k 7 then (bif Nat.blt k 3 then 0 else (bif Nat.blt k 5 then 0 else (bif Nat.blt k 6 then 0 else 8))) else 0)))))) else (bif Nat.blt t 36 then (bif Nat.blt t 30 then 0 else (bif Nat.blt t 33 then (bif Nat.blt t 31 then 0 else (bif Nat.blt t 32 then (bif Nat.blt k 2 then (bif Nat.blt k 1 then 0 else 28) else 0) else (bif Nat.blt k 5 then (bif Nat.blt k 2 then (bif Nat.blt k 1 then 0 else 9) else (bif Nat.blt k 3 then 0 else (bif Nat.blt k 4 then 0 else 12))) else 0))) else (bif Nat.blt t 34 then (bif Nat.blt k 11 then (bif Nat.blt k 5 then 0 else (bif Nat.blt k 8 then (bif Nat.blt k 6 then 0 else (bif Nat.blt k 7 then 18 else 0)) else (bif Nat.blt k 9 then 0 else (bif Nat.blt k 10 then 0 else 5)))) else 0) else 0))) else (bif Nat.blt t 42 then 0 else (bif Nat.blt t 45 then (bif Nat.blt t 43 then 0 else (bif Nat.blt t 44 then (bif Nat.blt k 8 then (bif Nat.blt k 4 then 0 else (bif Nat.blt k 6 then 0 else (bif Nat.blt k 7 then 0 else 15))) else 0) else 0)) else (bif Nat.blt t 47 then 0 else (bif Nat.blt t 48 then 0 else (bif Nat.blt k 7 then (bif Nat.blt k 3 then 0 else (bif Nat.blt k 5 then 0 else (bif Nat.blt k 6 then 0 else 8))) else 0))))))) else (bif Nat.blt t 74 then (bif Nat.blt t 61 then 0 else (bif Nat.blt t 67 then (bif Nat.blt t 64 then (bif Nat.blt t 62 then (bif Nat.blt k 7 then (bif Nat.blt k 3 then 0 else (bif Nat.blt k 5 then 0 else (bif Nat.blt k 6 then 0 else 8))) else 0) else (bif Nat.blt t 63 then 0 else (bif Nat.blt k 18 then (bif Nat.blt k 9 then 0 else (bif Nat.blt k 13 then 0 else (bif Nat.blt k 15 then 0 else (bif Nat.blt k 16 then 0 else (bif Nat.blt k 17 then 0 else 12))))) else 0))) else 0) else (bif Nat.blt t 70 then (bif Nat.blt t 68 then (bif Nat.blt k 2 then (bif Nat.blt k 1 then 0 else 9) else 0) else (bif Nat.blt t 69 then (bif Nat.blt k 5 then (bif Nat.blt k 2 then 0 else (bif Nat.blt k 3 then 0 else (bif Nat.blt k 4 then 0 else 9))) else 0) else 0)) else (bif Nat.blt t 72 then 0 else (bif Nat.blt t 73 then (bif Nat.blt k 8 then (bif Nat.blt k 4 then 0 else (bif Nat.blt k 6 then 0 else (bif Nat.blt k 7 then 0 else 7))) else 0) else 0))))) else (bif Nat.blt t 86 then (bif Nat.blt t 80 then (bif Nat.blt t 77 then (bif Nat.blt t 75 then 0 else (bif Nat.blt t 76 then (bif Nat.blt k 7 then (bif Nat.blt k 3 then 0 else (bif Nat.blt k 5 then (bif Nat.blt k 4 then 0 else 13) else (bif Nat.blt k 6 then 0 else 16))) else 0) else (bif Nat.blt k 11 then (bif Nat.blt k 5 then 0 else (bif Nat.blt k 8 then 0 else (bif Nat.blt k 9 then 0 else (bif Nat.blt k 10 then 0 else 18)))) else 0))) else (bif Nat.blt t 78 then (bif Nat.blt k 11 then (bif Nat.blt k 5 then 0 else (bif Nat.blt k 8 then 0 else (bif Nat.blt k 9 then 0 else (bif Nat.blt k 10 then 0 else 18)))) else 0) else (bif Nat.blt t 79 then 0 else (bif Nat.blt k 4 then (bif Nat.blt k 2 then 0 else (bif Nat.blt k 3 then 0 else 14)) else 0)))) else (bif Nat.blt t 83 then (bif Nat.blt t 81 then (bif Nat.blt k 24 then (bif Nat.blt k 12 then (bif Nat.blt k 6 then (bif Nat.blt k 3 then 0 else (bif Nat.blt k 4 then 0 else (bif Nat.blt k 5 then 0 else 13))) else (bif Nat.blt k 9 then 0 else (bif Nat.blt k 10 then 0 else (bif Nat.blt k 11 then 0 else 16)))) else (bif Nat.blt k 18 then (bif Nat.blt k 15 then 0 else (bif Nat.blt k 16 then 0 else (bif Nat.blt k 17 then 9 else 16))) else (bif Nat.blt k 21 then 0 else (bif Nat.blt k 22 then 0 else (bif Nat.blt k 23 then 9 else 16))))) else 0) else (bif Nat.blt t 82 then 0 else (bif Nat.blt k 9 then (bif Nat.blt k 4 then (bif Nat.blt k 2 then (bif Nat.blt k 1 then 0 else 14) else (bif Nat.blt k 3 then 0 else 12)) else (bif Nat.blt k 6 then (bif Nat.blt k 5 then 0 else 12) else (bif Nat.blt k 7 then 0 else (bif Nat.blt k 8 then 0 else 14)))) else 0))) else (bif Nat.blt t 84 then (bif Nat.blt k 22 then (bif Nat.blt k 11 then (bif Nat.blt k 5 then (bif Nat.blt k 2 then (bif Nat.blt k 1 then 0 else 14) else (bif Nat.blt k 3 then 0 else (bif Nat.blt k 4 then 12 else 0))) else (bif Nat.blt k 8 then (bif Nat.blt k 6 then 12 else 0) else (bif Nat.blt k 9 then 14 else (bif Nat.blt k 10 then 0 else 14)))) else (bif Nat.blt k 16 then (bif Nat.blt k 13 then 0 else (bif Nat.blt k 14 then 12 else (bif Nat.blt k 15 then 0 else 12))) else (bif Nat.blt k 19 then (bif Nat.blt k 17 then 0 else (bif Nat.blt k 18 then 0 else 14)) else (bif Nat.blt k 20 then 0 else (bif Nat.blt k 21 then 0 else 14))))) else 0) else 0))) else (bif Nat.blt t 92 then (bif Nat.blt t 89 then (bif Nat.blt t 87 then (bif Nat.blt k 7 then (bif Nat.blt k 3 then 0 else (bif Nat.blt k 5 then 0 else (bif Nat.blt k 6 then 0 else 5))) else 0) else 0) else 0) else (bif Nat.blt t 95 then (bif Nat.blt t 93 then (bif Nat.blt k 7 then (bif Nat.blt k 3 then 0 else (bif Nat.blt k 5 then (bif Nat.blt k 4 then 18 else 0) else (bif Nat.blt k 6 then 12 else 22))) else 0) else (bif Nat.blt t 94 then 0 else (bif Nat.blt k 4 then (bif Nat.blt k 2 then (bif Nat.blt k 1 then 0 else 7) else (bif Nat.blt k 3 then 7 else 7)) else 0))) else (bif Nat.blt t 97 then 0 else (bif Nat.blt t 98 then 0 else (bif Nat.blt k 2 then (bif Nat.blt k 1 then 0 else 8) else 0)))))))) else 0
def pan (t : FuncId) (k : Nat) : List (List Nat) := bif Nat.blt t 99 then (bif Nat.blt t 49 then (bif Nat.blt t 24 then (bif Nat.blt t 12 then (bif Nat.blt t 6 then (bif Nat.blt t 3 then [] else (bif Nat.blt t 4 then (bif Nat.blt k 18 then (bif Nat.blt k 9 then (bif Nat.blt k 4 then [] else (bif Nat.blt k 6 then [] else (bif Nat.blt k 7 then [[], [], [1], [], [], [], [5], [], [], [], [9], [], [], []] else []))) else (bif Nat.blt k 13 then (bif Nat.blt k 11 then (bif Nat.blt k 10 then [[], [], [], [], [], [], [], [], [], [], [], [], [], [], [], [], [], [], [], [], [], [], [], [], [], [], [], [], [21], [], [], [], [], [], [21], []] else [[], [], [], [], [], [], [], [], [], [], [], [], [], [], [], [], [], [], [], [], [], []]) else []) else (bif Nat.blt k 15 then [] else (bif Nat.blt k 16 then [[], [], [], [], [], [], [], [], [], [], [], [], [7, 11], [], [], [], [], []] else (bif Nat.blt k 17 then [] else [[], [], [], [], [], [3], [], [], [], [], []]))))) else []) else (bif Nat.blt t 5 then (bif Nat.blt k 33 then (bif Nat.blt k 16 then (bif Nat.blt k 8 then [] else (bif Nat.blt k 12 then [] else (bif Nat.blt k 14 then [] else (bif Nat.blt k 15 then [] else [[], [], [], [2], [0, 1, 2, 3], [], [], [], [7]])))) else (bif Nat.blt k 24 then [] else (bif Nat.blt k 28 then (bif Nat.blt k 26 then [] else (bif Nat.blt k 27 then [] else [[], [], [], [], [], [], [], [], [], [5], [], [], [], [], [1, 3, 5, 9], [], [1, 3, 5, 9], [], [], [], [1, 3, 5, 9, 16], [], [], [], [], [1, 3, 5, 9, 14, 16, 20], [], [], [], [], [], [1, 3, 5, 9, 14, 16, 20, 25], [], [], [], [], [], [1, 3, 5, 9, 14, 16, 20, 25, 31], [], [], [], [], [], [], [], [], [], [], [1, 3, 5, 9, 14, 16, 20, 25, 31, 37], [], [], [], [1, 3, 5, 9, 14, 16, 20, 25, 31, 37, 48], [], [1, 3, 5, 9, 14, 16, 20, 25, 31, 37]])) else (bif Nat.blt k 30 then [] else (bif Nat.blt k 31 then [] else (bif Nat.blt k 32 then [] else [[], [], [], [], [], [1], [], [], [], [], [7]])))))) else []) else (bif Nat.blt k 24 then (bif Nat.blt k 12 then [] else (bif Nat.blt k 18 then [] else (bif Nat.blt k 21 then (bif Nat.blt k 19 then [[], [], [], [], [], [], [], [], [4, 7], [0, 1, 4, 7, 8], [0, 1, 4, 7, 8, 9], [0, 1, 4, 7, 8, 9], [0, 1, 4, 7, 8, 9], [0, 1, 4, 7, 8, 9]] else []) else (bif Nat.blt k 22 then [] else (bif Nat.blt k 23 then [] else [[], [], [], [], [2, 3], [], [], [], [], [2, 3, 4], [2, 3, 4]]))))) else [])))) else (bif Nat.blt t 9 then (bif Nat.blt t 7 then [] else (bif Nat.blt t 8 then (bif Nat.blt k 10 then (bif Nat.blt k 5 then [] else (bif Nat.blt k 7 then [] else (bif Nat.blt k 8 then [] else (bif Nat.blt k 9 then [] else [[], [], [], [], [], [], [], [], [], [], [], [4], [], [], [], [], [], [4], []])))) else []) else [])) else (bif Nat.blt t 10 then (bif Nat.blt k 8 then (bif Nat.blt k 4 then [] else (bif Nat.blt k 6 then [] else (bif Nat.blt k 7 then [] else [[], [], [], [], [1], [], [], [], [], [6]]))) else []) else (bif Nat.blt t 11 then (bif Nat.blt k 12 then (bif Nat.blt k 6 then [] else (bif Nat.blt k 9 then [] else (bif Nat.blt k 10 then [] else (bif Nat.blt k 11 then [] else [[], [], [], [], [3], [1, 3, 4], [], []])))) else []) else (bif Nat.blt k 8 then (bif Nat.blt k 4 then [] else (bif Nat.blt k 6 then [] else (bif Nat.blt k 7 then [] else [[], [], [], [], [], [], [3], [], [], [], [], [], [8, 10], [], [10], [], [], [10, 14], [], [], [], [], [], [], [19], [], []]))) else []))))) else (bif Nat.blt t 18 then (bif Nat.blt t 15 then (bif Nat.blt t 13 then [] else (bif Nat.blt t 14 then (bif Nat.blt k 16 then (bif Nat.blt k 8 then (bif Nat.blt k 4 then [] else (bif Nat.blt k 6 then (bif Nat.blt k 5 then [[], [], [], [], [], [], [1, 2, 5], [], [], [], []] else []) else [])) else (bif Nat.blt k 12 then [] else (bif Nat.blt k 14 then [] else (bif Nat.blt k 15 then [] else [[], [], [], [], [], [], [], [], [], [], [], [], [10], [], [], [], [], [10, 12, 16], [], [], [19], [9, 10, 11, 12, 13, 14, 15, 16, 17, 18, 19, 20], [2, 4, 7, 10, 12, 16, 17, 19, 20, 21], [2, 4, 7, 10, 12, 16, 17, 19, 20, 21]])))) else []) else (bif Nat.blt k 11 then (bif Nat.blt k 5 then [] else (bif Nat.blt k 8 then [] else (bif Nat.blt k 9 then [] else (bif Nat.blt k 10 then [] else [[], [], [], [], [], [], [], [], [], [], [], [], [], [], [], [], [], [], [1, 3, 6, 8, 12, 14, 17], [], [], [], []])))) else []))) else (bif Nat.blt t 16 then [] else (bif Nat.blt t 17 then (bif Nat.blt k 5 then (bif Nat.blt k 2 then [] else (bif Nat.blt k 3 then [] else (bif Nat.blt k 4 then [] else [[], [], [], [1, 2], [0]]))) else []) else []))) else (bif Nat.blt t 21 then (bif Nat.blt t 19 then (bif Nat.blt k 13 then (bif Nat.blt k 6 then (bif Nat.blt k 3 then (bif Nat.blt k 1 then [] else (bif Nat.blt k 2 then [[], [], [], [], [], [2], [], [], [], [2, 5], [], [2, 5, 7, 9], [], [2, 5, 9], [], []] else [])) else (bif Nat.blt k 4 then [[], [], [], []] else [])) else (bif Nat.blt k 9 then (bif Nat.blt k 7 then [] else (bif Nat.blt k 8 then [] else [[], [], [], [], [], [], [], [1, 3], [], [], [], [1, 3]])) else (bif Nat.blt k 11 then (bif Nat.blt k 10 then [[], [], [], [], [], [], [], [], [], [], [6, 8], [], [5, 6, 8, 10]] else []) else (bif Nat.blt k 12 then [] else [[], [], [], [], [], [], []])))) else []) else []) else (bif Nat.blt t 22 then (bif Nat.blt k 7 then (bif Nat.blt k 3 then [] else (bif Nat.blt k 5 then [] else (bif Nat.blt k 6 then [] else [[], [], [], [], [], [], [], [], [], [8], [], [], [], [], [], [8, 9, 14], [], [], [8, 9, 14, 15]]))) else []) else (bif Nat.blt t 23 then [] else (bif Nat.blt k 7 then (bif Nat.blt k 3 then [] else (bif Nat.blt k 5 then [] else (bif Nat.blt k 6 then [] else [[], [], [], [], [], [], [], []]))) else [])))))) else (bif Nat.blt t 36 then (bif Nat.blt t 30 then [] else (bif Nat.blt t 33 then (bif Nat.blt t 31 then [] else (bif Nat.blt t 32 then (bif Nat.blt k 2 then (bif Nat.blt k 1 then [] else [[], [], [1], [], [], [], [], [], [1, 2, 4], [1, 2, 4, 8], [], [1, 2, 4], [], [], [], [], [1, 2, 4, 8, 9, 11], [1, 2, 4, 8, 9, 11, 16], [], [1, 2, 4, 8, 9, 11], [], [], [], [], [1, 2, 4, 8, 9, 11, 16, 17, 19], [1, 2, 4, 8, 9, 11, 16, 17, 19, 24], [], [1, 2, 4, 8, 9, 11, 16, 17, 19]]) else []) else (bif Nat.blt k 5 then (bif Nat.blt k 2 then (bif Nat.blt k 1 then [] else [[], [], [], [], [], [], [], [], []]) else (bif Nat.blt k 3 then [] else (bif Nat.blt k 4 then [] else [[], [], [], [], [], [], [], [], [], [], [3, 7], []]))) else []))) else (bif Nat.blt t 34 then (bif Nat.blt k 11 then (bif Nat.blt k 5 then [] else (bif Nat.blt k 8 then (bif Nat.blt k 6 then [] else (bif Nat.blt k 7 then [[], [], [], [], [], [], [], [], [5], [], [], [], [], [1, 3, 5, 8], [], [], [], [1, 3, 5, 8]] else [])) else (bif Nat.blt k 9 then [] else (bif Nat.blt k 10 then [] else [[], [], [], [], []])))) else []) else []))) else (bif Nat.blt t 42 then [] else (bif Nat.blt t 45 then (bif Nat.blt t 43 then [] else (bif Nat.blt t 44 then (bif Nat.blt k 8 then (bif Nat.blt k 4 then [] else (bif Nat.blt k 6 then [] else (bif Nat.blt k 7 then [] else [[], [], [], [], [], [], [], [1, 3], [], [1, 3], [], [1, 3], [1, 3, 7, 9, 11], [], [1, 3]]))) else []) else [])) else (bif Nat.blt t 47 then [] else (bif Nat.blt t 48 then [] else (bif Nat.blt k 7 then (bif Nat.blt k 3 then [] else (bif Nat.blt k 5 then [] else (bif Nat.blt k 6 then [] else [[], [], [], [], [], [], [], []]))) else []))))))) else (bif Nat.blt t 74 then (bif Nat.blt t 61 then [] else (bif Nat.blt t 67 then (bif Nat.blt t 64 then (bif Nat.blt t 62 then (bif Nat.blt k 7 then (bif Nat.blt k 3 then [] else (bif Nat.blt k 5 then [] else (bif Nat.blt k 6 then [] else [[], [], [], [], [], [], [], []]))) else []) else (bif Nat.blt t 63 then [] else (bif Nat.blt k 18 then (bif Nat.blt k 9 then [] else (bif Nat.blt k 13 then [] else (bif Nat.blt k 15 then [] else (bif Nat.blt k 16 then [] else (bif Nat.blt k 17 then [] else [[], [], [], [], [], [], [], [], [], [], [], []]))))) else []))) else []) else (bif Nat.blt t 70 then (bif Nat.blt t 68 then (bif Nat.blt k 2 then (bif Nat.blt k 1 then [] else [[], [], [], [], [], [], [], [], [0]]) else []) else (bif Nat.blt t 69 then (bif Nat.blt k 5 then (bif Nat.blt k 2 then [] else (bif Nat.blt k 3 then [] else (bif Nat.blt k 4 then [] else [[], [], [], [], [], [1], [], [], []]))) else []) else [])) else (bif Nat.blt t 72 then [] else (bif Nat.blt t 73 then (bif Nat.blt k 8 then (bif Nat.blt k 4 then [] else (bif Nat.blt k 6 then [] else (bif Nat.blt k 7 then [] else [[], [], [], [0, 1, 2], [], [], []]))) else []) else []))))) else (bif Nat.blt t 86 then (bif Nat.blt t 80 then (bif Nat.blt t 77 then (bif Nat.blt t 75 then [] else (bif Nat.blt t 76 then (bif Nat.blt k 7 then (bif Nat.blt k 3 then [] else (bif Nat.blt k 5 then (bif Nat.blt k 4 then [] else [[], [], [], [], [], [], [], [], [], [], [], [], []]) else (bif Nat.blt k 6 then [] else [[], [], [], [], [], [], [], [], [], [], [], [], [], [], [], [9, 13]]))) else []) else (bif Nat.blt k 11 then (bif Nat.blt k 5 then [] else (bif Nat.blt k 8 then [] else (bif Nat.blt k 9 then [] else (bif Nat.blt k 10 then [] else [[], [], [], [], [], [], [], [], [], [], [], [], [], [], [], [], [], [11, 15]])))) else []))) else (bif Nat.blt t 78 then (bif Nat.blt k 11 then (bif Nat.blt k 5 then [] else (bif Nat.blt k 8 then [] else (bif Nat.blt k 9 then [] else (bif Nat.blt k 10 then [] else [[], [], [], [], [], [], [], [], [], [], [], [], [], [], [], [], [], [11, 15]])))) else []) else (bif Nat.blt t 79 then [] else (bif Nat.blt k 4 then (bif Nat.blt k 2 then [] else (bif Nat.blt k 3 then [] else [[], [], [], [], [], [], [], [], [], [], [], [], [], [7, 11]])) else [])))) else (bif Nat.blt t 83 then (bif Nat.blt t 81 then (bif Nat.blt k 24 then (bif Nat.blt k 12 then (bif Nat.blt k 6 then (bif Nat.blt k 3 then [] else (bif Nat.blt k 4 then [] else (bif Nat.blt k 5 then [] else [[], [], [], [], [], [], [], [], [], [], [], [], []]))) else (bif Nat.blt k 9 then [] else (bif Nat.blt k 10 then [] else (bif Nat.blt k 11 then [] else [[], [], [], [], [], [], [], [], [], [], [], [], [], [], [], [9, 13]])))) else (bif Nat.blt k 18 then (bif Nat.blt k 15 then [] else (bif Nat.blt k 16 then [] else (bif Nat.blt k 17 then [[], [], [], [], [], [], [], [], []] else [[], [], [], [], [], [], [], [], [], [], [], [], [], [], [], [9, 13]]))) else (bif Nat.blt k 21 then [] else (bif Nat.blt k 22 then [] else (bif Nat.blt k 23 then [[], [], [], [], [], [], [], [], []] else [[], [], [], [], [], [], [], [], [], [], [], [], [], [], [], [9, 13]]))))) else []) else (bif Nat.blt t 82 then [] else (bif Nat.blt k 9 then (bif Nat.blt k 4 then (bif Nat.blt k 2 then (bif Nat.blt k 1 then [] else [[], [], [], [], [], [], [], [], [], [], [], [], [], [7, 11]]) else (bif Nat.blt k 3 then [] else [[], [], [], [], [], [], [], [], [], [], [], []])) else (bif Nat.blt k 6 then (bif Nat.blt k 5 then [] else [[], [], [], [], [], [], [], [], [], [], [], []]) else (bif Nat.blt k 7 then [] else (bif Nat.blt k 8 then [] else [[], [], [], [], [], [], [], [], [], [], [], [], [], [7, 11]])))) else []))) else (bif Nat.blt t 84 then (bif Nat.blt k 22 then (bif Nat.blt k 11 then (bif Nat.blt k 5 then (bif Nat.blt k 2 then (bif Nat.blt k 1 then [] else [[], [], [], [], [], [], [], [], [], [], [], [], [], [7, 11]]) else (bif Nat.blt k 3 then [] else (bif Nat.blt k 4 then [[], [], [], [], [], [], [], [], [], [], [], []] else []))) else (bif Nat.blt k 8 then (bif Nat.blt k 6 then [[], [], [], [], [], [], [], [], [], [], [], []] else []) else (bif Nat.blt k 9 then [[], [], [], [], [], [], [], [], [], [], [], [], [], [7, 11]] else (bif Nat.blt k 10 then [] else [[], [], [], [], [], [], [], [], [], [], [], [], [], [7, 11]])))) else (bif Nat.blt k 16 then (bif Nat.blt k 13 then [] else (bif Nat.blt k 14 then [[], [], [], [], [], [], [], [], [], [], [], []] else (bif Nat.blt k 15 then [] else [[], [], [], [], [], [], [], [], [], [], [], []]))) else (bif Nat.blt k 19 then (bif Nat.blt k 17 then [] else (bif Nat.blt k 18 then [] else [[], [], [], [], [], [], [], [], [], [], [], [], [], [7, 11]])) else (bif Nat.blt k 20 then [] else (bif Nat.blt k 21 then [] else [[], [], [], [], [], [], [], [], [], [], [], [], [], [7, 11]]))))) else []) else []))) else (bif Nat.blt t 92 then (bif Nat.blt t 89 then (bif Nat.blt t 87 then (bif Nat.blt k 7 then (bif Nat.blt k 3 then [] else (bif Nat.blt k 5 then [] else (bif Nat.blt k 6 then [] else [[], [], [], [], []]))) else []) else []) else []) else (bif Nat.blt t 95 then (bif Nat.blt t 93 then (bif Nat.blt k 7 then (bif Nat.blt k 3 then [] else (bif Nat.blt k 5 then (bif Nat.blt k 4 then [[], [], [], [], [], [], [], [], [], [], [], [], [], [], [], [], [], []] else []) else (bif Nat.blt k 6 then [[], [], [], [], [], [], [], [], [], [], [], []] else [[], [], [], [], [], [], [], [], [], [], [], [], [], [], [], [], [], [], [], [], [], [13, 19]]))) else []) else (bif Nat.blt t 94 then [] else (bif Nat.blt k 4 then (bif Nat.blt k 2 then (bif Nat.blt k 1 then [] else [[], [], [], [], [], [], []]) else (bif Nat.blt k 3 then [[], [], [], [], [], [], []] else [[], [], [], [], [], [], []])) else []))) else (bif Nat.blt t 97 then [] else (bif Nat.blt t 98 then [] else (bif Nat.blt k 2 then (bif Nat.blt k 1 then [] else [[], [], [], [], [], [], [], []]) else [])))))))) else []
def prk (t : FuncId) (k : Nat) : List Nat := bif Nat.blt t 14 then (bif Nat.blt t 7 then [] else (bif Nat.blt t 10 then [] else (bif Nat.blt t 12 then [] else (bif Nat.blt t 13 then [] else (bif Nat.blt k 16 then (bif Nat.blt k 8 then [] else (bif Nat.blt k 12 then [] else (bif Nat.blt k 14 then [] else (bif Nat.blt k 15 then [] else [11])))) else []))))) else []
def ppr : FuncId → Option (Nat → List R → List (Nat × B) → Option (R × List (Nat × B)))
  | 42 => some (pr0 (q0y T 3 true))
  | 54 => some (pr0 (q0y T 9 false))
  | 55 => some (pr0 (q0y T 57 false))
  | 62 => some (Jd)
  | _ => none
def pol : Pol := ⟨pq, pow, pfz, pkp, pkx, prw, pro, pdm, pan, prk, ppr⟩
theorem qpo : T.ip 6 = none := rfl
theorem qkU : T.ip 10 = none := rfl
theorem qkS : T.ip 12 = none := rfl
theorem qkW : T.ip 20 = none := rfl
theorem qlK : T.ip 26 = none := rfl
theorem qkD : T.ip 28 = none := rfl
theorem qle : T.ip 31 = none := rfl
theorem qlz : T.ip 35 = none := rfl
theorem qlb : T.ip 36 = none := rfl
theorem qlN : T.ip 37 = none := rfl
theorem qkz : T.ip 39 = none := rfl
theorem qlg : T.ip 40 = some zP := rfl
theorem ql2 : T.ip 43 = none := rfl
theorem qlI : T.ip 49 = none := rfl
theorem qkZ : T.ip 56 = none := rfl
theorem qli : T.ip 62 = none := rfl
theorem qkG : T.ip 65 = none := rfl
theorem qlp : T.ip 66 = none := rfl
theorem qkK : T.ip 86 = none := rfl
theorem qlL : T.ip 87 = none := rfl
theorem qha : pol.rk 4 15 = [] := rfl
theorem qj1 : pol.rk 4 27 = [] := rfl
theorem qfU : pol.rk 4 32 = [] := rfl
theorem qfz : pol.rk 10 11 = [] := rfl
theorem qgQ : pol.rk 11 7 = [] := rfl
theorem qgi : pol.rk 13 4 = [] := rfl
theorem qfI : pol.rk 13 15 = [11] := rfl
theorem qdA : pol.rk 14 10 = [] := rfl
theorem qgP : pol.rk 18 1 = [] := rfl
theorem qiC : pol.rk 18 3 = [] := rfl
theorem qh8 : pol.rk 18 8 = [] := rfl
theorem qiQ : pol.rk 18 9 = [] := rfl
theorem qf1 : pol.rk 18 12 = [] := rfl
theorem qia : pol.rk 31 1 = [] := rfl
theorem qh2 : pol.rk 32 1 = [] := rfl
theorem qi0 : pol.rk 32 4 = [] := rfl
theorem qhy : pol.rk 33 6 = [] := rfl
theorem qex : pol.rk 33 10 = [] := rfl
theorem qiP : pol.rk 43 7 = [] := rfl
theorem qgw : pol.rk 61 6 = [] := rfl
theorem qgn : pol.rk 67 1 = [] := rfl
theorem qgM : pol.rk 68 4 = [] := rfl
theorem qjw : pol.rk 72 7 = [] := rfl
theorem qjC : pol.rk 86 6 = [] := rfl
theorem qjA : pol.dm 4 15 = 9 ∧ pol.an 4 15 = [[], [], [], [2], [0, 1, 2, 3], [], [], [], [7]] := ⟨rfl, rfl⟩
theorem qgN : pol.dm 4 27 = 55 ∧ pol.an 4 27 = [[], [], [], [], [], [], [], [], [], [5], [], [], [], [], [1, 3, 5, 9], [], [1, 3, 5, 9], [], [], [], [1, 3, 5, 9, 16], [], [], [], [], [1, 3, 5, 9, 14, 16, 20], [], [], [], [], [], [1, 3, 5, 9, 14, 16, 20, 25], [], [], [], [], [], [1, 3, 5, 9, 14, 16, 20, 25, 31], [], [], [], [], [], [], [], [], [], [], [1, 3, 5, 9, 14, 16, 20, 25, 31, 37], [], [], [], [1, 3, 5, 9, 14, 16, 20, 25, 31, 37, 48], [], [1, 3, 5, 9, 14, 16, 20, 25, 31, 37]] := ⟨rfl, rfl⟩
theorem qhL : pol.dm 4 32 = 11 ∧ pol.an 4 32 = [[], [], [], [], [], [1], [], [], [], [], [7]] := ⟨rfl, rfl⟩
theorem qeB : pol.dm 10 11 = 8 ∧ pol.an 10 11 = [[], [], [], [], [3], [1, 3, 4], [], []] := ⟨rfl, rfl⟩
theorem qhj : pol.dm 11 7 = 27 ∧ pol.an 11 7 = [[], [], [], [], [], [], [3], [], [], [], [], [], [8, 10], [], [10], [], [], [10, 14], [], [], [], [], [], [], [19], [], []] := ⟨rfl, rfl⟩
theorem qh1 : pol.dm 13 4 = 11 ∧ pol.an 13 4 = [[], [], [], [], [], [], [1, 2, 5], [], [], [], []] := ⟨rfl, rfl⟩
theorem qf4 : pol.dm 13 15 = 24 ∧ pol.an 13 15 = [[], [], [], [], [], [], [], [], [], [], [], [], [10], [], [], [], [], [10, 12, 16], [], [], [19], [9, 10, 11, 12, 13, 14, 15, 16, 17, 18, 19, 20], [2, 4, 7, 10, 12, 16, 17, 19, 20, 21], [2, 4, 7, 10, 12, 16, 17, 19, 20, 21]] := ⟨rfl, rfl⟩
theorem qeD : pol.dm 14 10 = 23 ∧ pol.an 14 10 = [[], [], [], [], [], [], [], [], [], [], [], [], [], [], [], [], [], [], [1, 3, 6, 8, 12, 14, 17], [], [], [], []] := ⟨rfl, rfl⟩
theorem qhU : pol.dm 18 1 = 16 ∧ pol.an 18 1 = [[], [], [], [], [], [2], [], [], [], [2, 5], [], [2, 5, 7, 9], [], [2, 5, 9], [], []] := ⟨rfl, rfl⟩
theorem qga : pol.dm 18 3 = 4 ∧ pol.an 18 3 = [[], [], [], []] := ⟨rfl, rfl⟩
theorem qgu : pol.dm 18 8 = 12 ∧ pol.an 18 8 = [[], [], [], [], [], [], [], [1, 3], [], [], [], [1, 3]] := ⟨rfl, rfl⟩
theorem qiU : pol.dm 18 9 = 13 ∧ pol.an 18 9 = [[], [], [], [], [], [], [], [], [], [], [6, 8], [], [5, 6, 8, 10]] := ⟨rfl, rfl⟩
theorem qfy : pol.dm 18 12 = 7 ∧ pol.an 18 12 = [[], [], [], [], [], [], []] := ⟨rfl, rfl⟩
theorem qij : pol.dm 31 1 = 28 ∧ pol.an 31 1 = [[], [], [1], [], [], [], [], [], [1, 2, 4], [1, 2, 4, 8], [], [1, 2, 4], [], [], [], [], [1, 2, 4, 8, 9, 11], [1, 2, 4, 8, 9, 11, 16], [], [1, 2, 4, 8, 9, 11], [], [], [], [], [1, 2, 4, 8, 9, 11, 16, 17, 19], [1, 2, 4, 8, 9, 11, 16, 17, 19, 24], [], [1, 2, 4, 8, 9, 11, 16, 17, 19]] := ⟨rfl, rfl⟩
theorem qgS : pol.dm 32 1 = 9 ∧ pol.an 32 1 = [[], [], [], [], [], [], [], [], []] := ⟨rfl, rfl⟩
theorem qiO : pol.dm 32 4 = 12 ∧ pol.an 32 4 = [[], [], [], [], [], [], [], [], [], [], [3, 7], []] := ⟨rfl, rfl⟩
theorem qfZ : pol.dm 33 6 = 18 ∧ pol.an 33 6 = [[], [], [], [], [], [], [], [], [5], [], [], [], [], [1, 3, 5, 8], [], [], [], [1, 3, 5, 8]] := ⟨rfl, rfl⟩
theorem qeZ : pol.dm 33 10 = 5 ∧ pol.an 33 10 = [[], [], [], [], []] := ⟨rfl, rfl⟩
theorem qir : pol.dm 43 7 = 15 ∧ pol.an 43 7 = [[], [], [], [], [], [], [], [1, 3], [], [1, 3], [], [1, 3], [1, 3, 7, 9, 11], [], [1, 3]] := ⟨rfl, rfl⟩
theorem qiI : pol.dm 61 6 = 8 ∧ pol.an 61 6 = [[], [], [], [], [], [], [], []] := ⟨rfl, rfl⟩
theorem qjz : pol.dm 67 1 = 9 ∧ pol.an 67 1 = [[], [], [], [], [], [], [], [], [0]] := ⟨rfl, rfl⟩
theorem qjh : pol.dm 68 4 = 9 ∧ pol.an 68 4 = [[], [], [], [], [], [1], [], [], []] := ⟨rfl, rfl⟩
theorem qhA : pol.dm 72 7 = 7 ∧ pol.an 72 7 = [[], [], [], [0, 1, 2], [], [], []] := ⟨rfl, rfl⟩
theorem qh5 : pol.dm 86 6 = 5 ∧ pol.an 86 6 = [[], [], [], [], []] := ⟨rfl, rfl⟩
theorem q22 : pol.q 22 = [1] := rfl
theorem q26 : pol.q 26 = [11] := rfl
theorem q31 : pol.q 31 = [1] := rfl
theorem q32 : pol.q 32 = [2] := rfl
theorem q36 : pol.q 36 = [0, 0, 0, 0, 0, 1, 2, 0, 0, 0, 0] := rfl
theorem q41 : pol.q 41 = [1] := rfl
theorem q42 : pol.q 42 = [8] := rfl
theorem q52 : pol.q 52 = [0, 0, 0, 0, 0, 1, 0, 1] := rfl
theorem qnu : pol.q 145 = [1] := rfl
theorem q3 : pol.q 3 = [] := rfl
theorem q4 : pol.q 4 = [] := rfl
theorem q9 : pol.q 9 = [] := rfl
theorem q10 : pol.q 10 = [] := rfl
theorem q21 : pol.q 21 = [] := rfl
theorem q28 : pol.q 28 = [] := rfl
theorem q34 : pol.q 34 = [] := rfl
theorem q45 : pol.q 45 = [] := rfl
theorem q57 : pol.q 57 = [] := rfl
theorem q64 : pol.q 64 = [] := rfl
theorem q76 : pol.q 76 = [] := rfl
theorem q82 : pol.q 82 = [] := rfl
theorem q86 : pol.q 86 = [] := rfl
theorem q92 : pol.q 92 = [] := rfl
theorem qoe : pol.q 104 = [] := rfl
theorem qo3 : pol.q 109 = [] := rfl
theorem qpb : pol.q 119 = [] := rfl
theorem qpL : pol.q 136 = [] := rfl
noncomputable def qiZ : Code := (Try.f2.body).getD .skip
theorem bd2 : qk Try.prog pol 2 = some ⟨qiZ, 1, [], []⟩ := by kernel_rfl
noncomputable def qiX : Code := (Try.f3.body).getD .skip
theorem bd3 : qk Try.prog pol 3 = some ⟨qiX, 177, [.tmp 6], [4]⟩ := by kernel_rfl
noncomputable def q4P : Code := (Try.f4.body).getD .skip
theorem bd4 : qk Try.prog pol 4 = some ⟨q4P, 214, [.tmp 4], [4]⟩ := by kernel_rfl
theorem pw4 : pol.ow 4 = [] ∧ pol.fz 4 = false ∧ pol.ro 4 = false ∧ pol.pr 4 = none := ⟨rfl, rfl, rfl, rfl⟩
noncomputable def qhV : Code := (Try.f5.body).getD .skip
theorem bd5 : qk Try.prog pol 5 = some ⟨qhV, 215, [.tmp 0], [4]⟩ := by kernel_rfl
theorem pw5 : pol.ow 5 = [] ∧ pol.fz 5 = false ∧ pol.ro 5 = false ∧ pol.pr 5 = none := ⟨rfl, rfl, rfl, rfl⟩
noncomputable def q9V : Code := (Try.f6.body).getD .skip
theorem bd6 : qk Try.prog pol 6 = some ⟨q9V, 29, [.tmp 2], [26]⟩ := by kernel_rfl
theorem pw6 : pol.ow 6 = [] ∧ pol.fz 6 = true ∧ pol.ro 6 = false ∧ pol.pr 6 = none := ⟨rfl, rfl, rfl, rfl⟩
noncomputable def qiJ : Code := (Try.f7.body).getD .skip
theorem bd7 : qk Try.prog pol 7 = some ⟨qiJ, 66, [.tmp 8, .tmp 9], [26, 28]⟩ := by kernel_rfl
noncomputable def qbo : Code := (Try.f8.body).getD .skip
theorem bd8 : qk Try.prog pol 8 = some ⟨qbo, 11, [.tmp 4], [4]⟩ := by kernel_rfl
theorem pw8 : pol.ow 8 = [] ∧ pol.fz 8 = false ∧ pol.ro 8 = false ∧ pol.pr 8 = none := ⟨rfl, rfl, rfl, rfl⟩
noncomputable def qfV : Code := (Try.f9.body).getD .skip
theorem bd9 : qk Try.prog pol 9 = some ⟨qfV, 83, [.tmp 4], [4]⟩ := by kernel_rfl
noncomputable def q3S : Code := (Try.f10.body).getD .skip
theorem qfP : qk Try.prog pol 10 = some ⟨q3S, 100, [.tmp 2], [28]⟩ := by kernel_rfl
theorem qlX : pol.ow 10 = [] ∧ pol.fz 10 = false ∧ pol.ro 10 = false ∧ pol.pr 10 = none := ⟨rfl, rfl, rfl, rfl⟩
noncomputable def q4Q : Code := (Try.f11.body).getD .skip
theorem qiS : qk Try.prog pol 11 = some ⟨q4Q, 89, [.tmp 4], [42]⟩ := by kernel_rfl
theorem qmt : pol.ow 11 = [] ∧ pol.fz 11 = true ∧ pol.ro 11 = false ∧ pol.pr 11 = none := ⟨rfl, rfl, rfl, rfl⟩
noncomputable def q7x : Code := (Try.f12.body).getD .skip
theorem qk5 : qk Try.prog pol 12 = some ⟨q7x, 11, [.cell 2 45], [45]⟩ := by kernel_rfl
theorem qlW : pol.ow 12 = [] ∧ pol.fz 12 = false ∧ pol.ro 12 = false ∧ pol.pr 12 = none := ⟨rfl, rfl, rfl, rfl⟩
noncomputable def q4M : Code := (Try.f13.body).getD .skip
theorem qh9 : qk Try.prog pol 13 = some ⟨q4M, 81, [.tmp 6, .tmp 7], [42, 28]⟩ := by kernel_rfl
theorem qmg : pol.ow 13 = [2] ∧ pol.fz 13 = false ∧ pol.ro 13 = false ∧ pol.pr 13 = none := ⟨rfl, rfl, rfl, rfl⟩
noncomputable def q7e : Code := (Try.f14.body).getD .skip
theorem qjJ : qk Try.prog pol 14 = some ⟨q7e, 57, [.tmp 8, .tmp 9], [3, 28]⟩ := by kernel_rfl
theorem qmr : pol.ow 14 = [] ∧ pol.fz 14 = false ∧ pol.ro 14 = false ∧ pol.pr 14 = none := ⟨rfl, rfl, rfl, rfl⟩
noncomputable def q7t : Code := (Try.f15.body).getD .skip
theorem qkc : qk Try.prog pol 15 = some ⟨q7t, 10, [.tmp 4], [4]⟩ := by kernel_rfl
theorem qmP : pol.ow 15 = [] ∧ pol.fz 15 = false ∧ pol.ro 15 = false ∧ pol.pr 15 = none := ⟨rfl, rfl, rfl, rfl⟩
noncomputable def qcV : Code := (Try.f16.body).getD .skip
theorem qob : qk Try.prog pol 16 = some ⟨qcV, 21, [.cell 0 36, .tmp 1], [36, 42]⟩ := by kernel_rfl
noncomputable def qd8 : Code := (Try.f17.body).getD .skip
theorem qnJ : qk Try.prog pol 17 = some ⟨qd8, 56, [.tmp 4], [4]⟩ := by kernel_rfl
noncomputable def q5q : Code := (Try.f18.body).getD .skip
theorem qgF : qk Try.prog pol 18 = some ⟨q5q, 87, [.cell 4 36], [36]⟩ := by kernel_rfl
theorem qmC : pol.ow 18 = [] ∧ pol.fz 18 = true ∧ pol.ro 18 = false ∧ pol.pr 18 = none := ⟨rfl, rfl, rfl, rfl⟩
noncomputable def qcy : Code := (Try.f19.body).getD .skip
theorem qnK : qk Try.prog pol 19 = some ⟨qcy, 8, [.tmp 4], [3]⟩ := by kernel_rfl
noncomputable def q7k : Code := (Try.f20.body).getD .skip
theorem qke : qk Try.prog pol 20 = some ⟨q7k, 9, [.tmp 2], [4]⟩ := by kernel_rfl
theorem qmV : pol.ow 20 = [] ∧ pol.fz 20 = false ∧ pol.ro 20 = false ∧ pol.pr 20 = none := ⟨rfl, rfl, rfl, rfl⟩
noncomputable def qdc : Code := (Try.f21.body).getD .skip
theorem qov : qk Try.prog pol 21 = some ⟨qdc, 38, [.tmp 2], [26]⟩ := by kernel_rfl
noncomputable def q6X : Code := (Try.f22.body).getD .skip
theorem qjX : qk Try.prog pol 22 = some ⟨q6X, 19, [.tmp 6], [4]⟩ := by kernel_rfl
theorem qms : pol.ow 22 = [] ∧ pol.fz 22 = false ∧ pol.ro 22 = false ∧ pol.pr 22 = none := ⟨rfl, rfl, rfl, rfl⟩
noncomputable def qdp : Code := (Try.f23.body).getD .skip
theorem qo2 : qk Try.prog pol 23 = some ⟨qdp, 26, [.tmp 4], [4]⟩ := by kernel_rfl
noncomputable def q7a : Code := (Try.f24.body).getD .skip
theorem qjH : qk Try.prog pol 24 = some ⟨q7a, 15, [.tmp 6], [4]⟩ := by kernel_rfl
theorem qnl : pol.ow 24 = [] ∧ pol.fz 24 = false ∧ pol.ro 24 = false ∧ pol.pr 24 = none := ⟨rfl, rfl, rfl, rfl⟩
noncomputable def q5w : Code := (Try.f25.body).getD .skip
theorem qgv : qk Try.prog pol 25 = some ⟨q5w, 19, [.tmp 2], [31]⟩ := by kernel_rfl
theorem qm7 : pol.ow 25 = [] ∧ pol.fz 25 = true ∧ pol.ro 25 = false ∧ pol.pr 25 = none := ⟨rfl, rfl, rfl, rfl⟩
noncomputable def q78 : Code := (Try.f26.body).getD .skip
theorem qkx : qk Try.prog pol 26 = some ⟨q78, 17, [.tmp 2], [4]⟩ := by kernel_rfl
theorem qn1 : pol.ow 26 = [] ∧ pol.fz 26 = false ∧ pol.ro 26 = false ∧ pol.pr 26 = none := ⟨rfl, rfl, rfl, rfl⟩
noncomputable def q6G : Code := (Try.f27.body).getD .skip
theorem qhC : qk Try.prog pol 27 = some ⟨q6G, 9, [.tmp 4], [4]⟩ := by kernel_rfl
theorem qkE : pol.ow 27 = [] ∧ pol.fz 27 = false ∧ pol.ro 27 = false ∧ pol.pr 27 = none := ⟨rfl, rfl, rfl, rfl⟩
noncomputable def q7s : Code := (Try.f28.body).getD .skip
theorem qkr : qk Try.prog pol 28 = some ⟨q7s, 6, [.tmp 2], [4]⟩ := by kernel_rfl
theorem qmx : pol.ow 28 = [] ∧ pol.fz 28 = false ∧ pol.ro 28 = false ∧ pol.pr 28 = none := ⟨rfl, rfl, rfl, rfl⟩
noncomputable def q7o : Code := (Try.f29.body).getD .skip
theorem qjG : qk Try.prog pol 29 = some ⟨q7o, 9, [.tmp 3], [4]⟩ := by kernel_rfl
theorem qmq : pol.ow 29 = [] ∧ pol.fz 29 = false ∧ pol.ro 29 = false ∧ pol.pr 29 = none := ⟨rfl, rfl, rfl, rfl⟩
noncomputable def q6S : Code := (Try.f30.body).getD .skip
theorem qjR : qk Try.prog pol 30 = some ⟨q6S, 9, [.tmp 4], [4]⟩ := by kernel_rfl
theorem qm6 : pol.ow 30 = [] ∧ pol.fz 30 = false ∧ pol.ro 30 = false ∧ pol.pr 30 = none := ⟨rfl, rfl, rfl, rfl⟩
noncomputable def q6M : Code := (Try.f31.body).getD .skip
theorem qk1 : qk Try.prog pol 31 = some ⟨q6M, 33, [.tmp 2], [28]⟩ := by kernel_rfl
theorem qn7 : pol.ow 31 = [] ∧ pol.fz 31 = false ∧ pol.ro 31 = false ∧ pol.pr 31 = none := ⟨rfl, rfl, rfl, rfl⟩
noncomputable def q73 : Code := (Try.f32.body).getD .skip
theorem qk4 : qk Try.prog pol 32 = some ⟨q73, 35, [.tmp 4], [3]⟩ := by kernel_rfl
theorem qmH : pol.ow 32 = [] ∧ pol.fz 32 = false ∧ pol.ro 32 = false ∧ pol.pr 32 = none := ⟨rfl, rfl, rfl, rfl⟩
noncomputable def q5x : Code := (Try.f33.body).getD .skip
theorem qh3 : qk Try.prog pol 33 = some ⟨q5x, 62, [.tmp 4], [4]⟩ := by kernel_rfl
theorem qlY : pol.ow 33 = [] ∧ pol.fz 33 = false ∧ pol.ro 33 = false ∧ pol.pr 33 = none := ⟨rfl, rfl, rfl, rfl⟩
noncomputable def q50 : Code := (Try.f34.body).getD .skip
theorem qen : qk Try.prog pol 34 = some ⟨q50, 22, [.tmp 4], [41]⟩ := by kernel_rfl
theorem qka : pol.ow 34 = [] ∧ pol.fz 34 = true ∧ pol.ro 34 = false ∧ pol.pr 34 = none := ⟨rfl, rfl, rfl, rfl⟩
noncomputable def q7l : Code := (Try.f35.body).getD .skip
theorem qkp : qk Try.prog pol 35 = some ⟨q7l, 5, [.tmp 2], [3]⟩ := by kernel_rfl
theorem qm2 : pol.ow 35 = [] ∧ pol.fz 35 = false ∧ pol.ro 35 = false ∧ pol.pr 35 = none := ⟨rfl, rfl, rfl, rfl⟩
noncomputable def q6N : Code := (Try.f36.body).getD .skip
theorem qkb : qk Try.prog pol 36 = some ⟨q6N, 5, [.tmp 2], [3]⟩ := by kernel_rfl
theorem qlQ : pol.ow 36 = [] ∧ pol.fz 36 = false ∧ pol.ro 36 = false ∧ pol.pr 36 = none := ⟨rfl, rfl, rfl, rfl⟩
noncomputable def q3Y : Code := (Try.f37.body).getD .skip
theorem qfM : qk Try.prog pol 37 = some ⟨q3Y, 44, [.tmp 2, .tmp 3], [41, 4]⟩ := by kernel_rfl
theorem qmc : pol.ow 37 = [] ∧ pol.fz 37 = true ∧ pol.ro 37 = true ∧ pol.pr 37 = none := ⟨rfl, rfl, rfl, rfl⟩
noncomputable def q4X : Code := (Try.f38.body).getD .skip
theorem qhn : qk Try.prog pol 38 = some ⟨q4X, 22, [.tmp 4], [22]⟩ := by kernel_rfl
theorem qlU : pol.ow 38 = [] ∧ pol.fz 38 = true ∧ pol.ro 38 = false ∧ pol.pr 38 = none := ⟨rfl, rfl, rfl, rfl⟩
noncomputable def q77 : Code := (Try.f39.body).getD .skip
theorem qkg : qk Try.prog pol 39 = some ⟨q77, 5, [.tmp 2], [41]⟩ := by kernel_rfl
theorem qmJ : pol.ow 39 = [] ∧ pol.fz 39 = true ∧ pol.ro 39 = false ∧ pol.pr 39 = none := ⟨rfl, rfl, rfl, rfl⟩
noncomputable def qcw : Code := (Try.f40.body).getD .skip
theorem qoX : qk Try.prog pol 40 = some ⟨qcw, 11, [], []⟩ := by kernel_rfl
theorem qoB : pol.ow 40 = [] ∧ pol.fz 40 = false ∧ pol.ro 40 = false ∧ pol.pr 40 = none := ⟨rfl, rfl, rfl, rfl⟩
noncomputable def q70 : Code := (Try.f41.body).getD .skip
theorem qki : qk Try.prog pol 41 = some ⟨q70, 6, [.tmp 2], [3]⟩ := by kernel_rfl
theorem qmw : pol.ow 41 = [] ∧ pol.fz 41 = false ∧ pol.ro 41 = false ∧ pol.pr 41 = none := ⟨rfl, rfl, rfl, rfl⟩
noncomputable def qd0 : Code := (Try.f42.body).getD .skip
theorem qnG : qk Try.prog pol 42 = some ⟨qd0, 8, [.tmp 2], [41]⟩ := by kernel_rfl
theorem qna : pol.ow 42 = [] ∧ pol.fz 42 = true ∧ pol.ro 42 = true ∧ pol.pr 42 = some (pr0 (q0y T 3 true)) := ⟨rfl, rfl, rfl, rfl⟩
noncomputable def q58 : Code := (Try.f43.body).getD .skip
theorem qjr : qk Try.prog pol 43 = some ⟨q58, 37, [.tmp 2], [28]⟩ := by kernel_rfl
theorem qmF : pol.ow 43 = [] ∧ pol.fz 43 = false ∧ pol.ro 43 = false ∧ pol.pr 43 = none := ⟨rfl, rfl, rfl, rfl⟩
noncomputable def q5v : Code := (Try.f44.body).getD .skip
theorem qgG : qk Try.prog pol 44 = some ⟨q5v, 51, [.cell 4 92, .tmp 5], [92, 28]⟩ := by kernel_rfl
theorem qmE : pol.ow 44 = [] ∧ pol.fz 44 = false ∧ pol.ro 44 = false ∧ pol.pr 44 = none := ⟨rfl, rfl, rfl, rfl⟩
noncomputable def q6R : Code := (Try.f45.body).getD .skip
theorem qjN : qk Try.prog pol 45 = some ⟨q6R, 16, [.tmp 6], [3]⟩ := by kernel_rfl
theorem qmG : pol.ow 45 = [] ∧ pol.fz 45 = false ∧ pol.ro 45 = false ∧ pol.pr 45 = none := ⟨rfl, rfl, rfl, rfl⟩
noncomputable def q6C : Code := (Try.f46.body).getD .skip
theorem qkj : qk Try.prog pol 46 = some ⟨q6C, 32, [.tmp 6], [3]⟩ := by kernel_rfl
theorem qmy : pol.ow 46 = [] ∧ pol.fz 46 = false ∧ pol.ro 46 = false ∧ pol.pr 46 = none := ⟨rfl, rfl, rfl, rfl⟩
noncomputable def q7m : Code := (Try.f47.body).getD .skip
theorem qku : qk Try.prog pol 47 = some ⟨q7m, 26, [.tmp 6], [4]⟩ := by kernel_rfl
theorem qlZ : pol.ow 47 = [] ∧ pol.fz 47 = false ∧ pol.ro 47 = false ∧ pol.pr 47 = none := ⟨rfl, rfl, rfl, rfl⟩
noncomputable def qcv : Code := (Try.f48.body).getD .skip
theorem qo9 : qk Try.prog pol 48 = some ⟨qcv, 26, [.tmp 4], [4]⟩ := by kernel_rfl
noncomputable def q3U : Code := (Try.f49.body).getD .skip
theorem qfR : qk Try.prog pol 49 = some ⟨q3U, 33, [.tmp 2], [31]⟩ := by kernel_rfl
theorem qm1 : pol.ow 49 = [] ∧ pol.fz 49 = true ∧ pol.ro 49 = false ∧ pol.pr 49 = none := ⟨rfl, rfl, rfl, rfl⟩
noncomputable def q5c : Code := (Try.f50.body).getD .skip
theorem qjm : qk Try.prog pol 50 = some ⟨q5c, 18, [.tmp 4], [4]⟩ := by kernel_rfl
theorem qme : pol.ow 50 = [] ∧ pol.fz 50 = false ∧ pol.ro 50 = false ∧ pol.pr 50 = none := ⟨rfl, rfl, rfl, rfl⟩
noncomputable def q6L : Code := (Try.f51.body).getD .skip
theorem qkw : qk Try.prog pol 51 = some ⟨q6L, 39, [.cell 6 34], [34]⟩ := by kernel_rfl
theorem qmA : pol.ow 51 = [] ∧ pol.fz 51 = false ∧ pol.ro 51 = false ∧ pol.pr 51 = none := ⟨rfl, rfl, rfl, rfl⟩
noncomputable def qds : Code := (Try.f52.body).getD .skip
theorem qoD : qk Try.prog pol 52 = some ⟨qds, 19, [.tmp 4], [3]⟩ := by kernel_rfl
noncomputable def qcM : Code := (Try.f53.body).getD .skip
theorem qoV : qk Try.prog pol 53 = some ⟨qcM, 8, [.tmp 3], [4]⟩ := by kernel_rfl
noncomputable def qd3 : Code := (Try.f54.body).getD .skip
theorem qpa : qk Try.prog pol 54 = some ⟨qd3, 8, [.tmp 2], [31]⟩ := by kernel_rfl
noncomputable def qcx : Code := (Try.f55.body).getD .skip
theorem qnn : qk Try.prog pol 55 = some ⟨qcx, 8, [.tmp 2], [32]⟩ := by kernel_rfl
noncomputable def q6r : Code := (Try.f56.body).getD .skip
theorem qk3 : qk Try.prog pol 56 = some ⟨q6r, 17, [.tmp 2], [4]⟩ := by kernel_rfl
theorem qnc : pol.ow 56 = [] ∧ pol.fz 56 = false ∧ pol.ro 56 = false ∧ pol.pr 56 = none := ⟨rfl, rfl, rfl, rfl⟩
noncomputable def q6A : Code := (Try.f57.body).getD .skip
theorem qjO : qk Try.prog pol 57 = some ⟨q6A, 8, [.tmp 4], [3]⟩ := by kernel_rfl
theorem qmI : pol.ow 57 = [] ∧ pol.fz 57 = false ∧ pol.ro 57 = false ∧ pol.pr 57 = none := ⟨rfl, rfl, rfl, rfl⟩
noncomputable def q51 : Code := (Try.f58.body).getD .skip
theorem qfJ : qk Try.prog pol 58 = some ⟨q51, 19, [.tmp 4], [3]⟩ := by kernel_rfl
theorem qkA : pol.ow 58 = [] ∧ pol.fz 58 = false ∧ pol.ro 58 = false ∧ pol.pr 58 = none := ⟨rfl, rfl, rfl, rfl⟩
noncomputable def q4S : Code := (Try.f59.body).getD .skip
theorem qhE : qk Try.prog pol 59 = some ⟨q4S, 19, [.tmp 4], [3]⟩ := by kernel_rfl
theorem qm9 : pol.ow 59 = [] ∧ pol.fz 59 = false ∧ pol.ro 59 = false ∧ pol.pr 59 = none := ⟨rfl, rfl, rfl, rfl⟩
noncomputable def q7u : Code := (Try.f60.body).getD .skip
theorem qjY : qk Try.prog pol 60 = some ⟨q7u, 12, [.tmp 4], [3]⟩ := by kernel_rfl
theorem qlO : pol.ow 60 = [] ∧ pol.fz 60 = false ∧ pol.ro 60 = false ∧ pol.pr 60 = none := ⟨rfl, rfl, rfl, rfl⟩
noncomputable def q5t : Code := (Try.f61.body).getD .skip
theorem qhc : qk Try.prog pol 61 = some ⟨q5t, 26, [.tmp 4], [4]⟩ := by kernel_rfl
theorem qmd : pol.ow 61 = [] ∧ pol.fz 61 = false ∧ pol.ro 61 = false ∧ pol.pr 61 = none := ⟨rfl, rfl, rfl, rfl⟩
noncomputable def qcW : Code := (Try.f62.body).getD .skip
theorem qnH : qk Try.prog pol 62 = some ⟨qcW, 9, [.tmp 2], [109]⟩ := by kernel_rfl
theorem qlR : pol.ow 62 = [] ∧ pol.fz 62 = true ∧ pol.ro 62 = false ∧ pol.pr 62 = some (Jd) := ⟨rfl, rfl, rfl, rfl⟩
noncomputable def qcU : Code := (Try.f63.body).getD .skip
theorem qpY : qk Try.prog pol 63 = some ⟨qcU, 134, [], []⟩ := by kernel_rfl
noncomputable def qcH : Code := (Try.f64.body).getD .skip
theorem qoh : qk Try.prog pol 64 = some ⟨qcH, 8, [.tmp 2], [3]⟩ := by kernel_rfl
noncomputable def q5g : Code := (Try.f65.body).getD .skip
theorem qjF : qk Try.prog pol 65 = some ⟨q5g, 25, [.tmp 2], [3]⟩ := by kernel_rfl
theorem qmj : pol.ow 65 = [] ∧ pol.fz 65 = false ∧ pol.ro 65 = false ∧ pol.pr 65 = none := ⟨rfl, rfl, rfl, rfl⟩
noncomputable def q6K : Code := (Try.f66.body).getD .skip
theorem qjI : qk Try.prog pol 66 = some ⟨q6K, 5, [.tmp 2], [3]⟩ := by kernel_rfl
theorem qlS : pol.ow 66 = [] ∧ pol.fz 66 = false ∧ pol.ro 66 = false ∧ pol.pr 66 = none := ⟨rfl, rfl, rfl, rfl⟩
noncomputable def q7h : Code := (Try.f67.body).getD .skip
theorem qkf : qk Try.prog pol 67 = some ⟨q7h, 25, [.tmp 6], [4]⟩ := by kernel_rfl
theorem qm8 : pol.ow 67 = [] ∧ pol.fz 67 = false ∧ pol.ro 67 = false ∧ pol.pr 67 = none := ⟨rfl, rfl, rfl, rfl⟩
noncomputable def q7i : Code := (Try.f68.body).getD .skip
theorem qjL : qk Try.prog pol 68 = some ⟨q7i, 49, [.cell 4 92, .tmp 5], [92, 28]⟩ := by kernel_rfl
theorem qmk : pol.ow 68 = [] ∧ pol.fz 68 = false ∧ pol.ro 68 = false ∧ pol.pr 68 = none := ⟨rfl, rfl, rfl, rfl⟩
noncomputable def q6F : Code := (Try.f69.body).getD .skip
theorem qkm : qk Try.prog pol 69 = some ⟨q6F, 6, [.cell 0 119], [119]⟩ := by kernel_rfl
theorem qn5 : pol.ow 69 = [] ∧ pol.fz 69 = true ∧ pol.ro 69 = false ∧ pol.pr 69 = none := ⟨rfl, rfl, rfl, rfl⟩
noncomputable def q6T : Code := (Try.f70.body).getD .skip
theorem qjU : qk Try.prog pol 70 = some ⟨q6T, 18, [.tmp 4], [4]⟩ := by kernel_rfl
theorem qmf : pol.ow 70 = [] ∧ pol.fz 70 = false ∧ pol.ro 70 = false ∧ pol.pr 70 = none := ⟨rfl, rfl, rfl, rfl⟩
noncomputable def q79 : Code := (Try.f71.body).getD .skip
theorem qks : qk Try.prog pol 71 = some ⟨q79, 2, [.tmp 0], [31]⟩ := by kernel_rfl
theorem qmp : pol.ow 71 = [] ∧ pol.fz 71 = true ∧ pol.ro 71 = false ∧ pol.pr 71 = none := ⟨rfl, rfl, rfl, rfl⟩
noncomputable def q4J : Code := (Try.f72.body).getD .skip
theorem qgK : qk Try.prog pol 72 = some ⟨q4J, 39, [.tmp 4], [31]⟩ := by kernel_rfl
theorem qlT : pol.ow 72 = [] ∧ pol.fz 72 = true ∧ pol.ro 72 = false ∧ pol.pr 72 = none := ⟨rfl, rfl, rfl, rfl⟩
noncomputable def q5m : Code := (Try.f73.body).getD .skip
theorem qjf : qk Try.prog pol 73 = some ⟨q5m, 21, [.tmp 6], [3]⟩ := by kernel_rfl
theorem qm5 : pol.ow 73 = [] ∧ pol.fz 73 = false ∧ pol.ro 73 = false ∧ pol.pr 73 = none := ⟨rfl, rfl, rfl, rfl⟩
noncomputable def qcA : Code := (Try.f75.body).getD .skip
theorem qou : qk Try.prog pol 75 = some ⟨qcA, 49, [], []⟩ := by kernel_rfl
noncomputable def qcs : Code := (Try.f76.body).getD .skip
theorem qok : qk Try.prog pol 76 = some ⟨qcs, 56, [], []⟩ := by kernel_rfl
noncomputable def qct : Code := (Try.f77.body).getD .skip
theorem qof : qk Try.prog pol 77 = some ⟨qct, 65, [], []⟩ := by kernel_rfl
noncomputable def qcZ : Code := (Try.f78.body).getD .skip
theorem qpx : qk Try.prog pol 78 = some ⟨qcZ, 57, [.tmp 6, .tmp 7], [3, 126]⟩ := by kernel_rfl
noncomputable def qcX : Code := (Try.f79.body).getD .skip
theorem qpt : qk Try.prog pol 79 = some ⟨qcX, 32, [], []⟩ := by kernel_rfl
noncomputable def qcO : Code := (Try.f80.body).getD .skip
theorem qnY : qk Try.prog pol 80 = some ⟨qcO, 133, [.tmp 6], [4]⟩ := by kernel_rfl
noncomputable def qdk : Code := (Try.f81.body).getD .skip
theorem qp1 : qk Try.prog pol 81 = some ⟨qdk, 17, [.tmp 4], [4]⟩ := by kernel_rfl
noncomputable def qcz : Code := (Try.f82.body).getD .skip
theorem qoy : qk Try.prog pol 82 = some ⟨qcz, 84, [.tmp 8], [3]⟩ := by kernel_rfl
noncomputable def qda : Code := (Try.f83.body).getD .skip
theorem qpf : qk Try.prog pol 83 = some ⟨qda, 168, [.tmp 8, .tmp 9], [3, 4]⟩ := by kernel_rfl
noncomputable def q3R : Code := (Try.f86.body).getD .skip
theorem qfS : qk Try.prog pol 86 = some ⟨q3R, 20, [.tmp 2], [136]⟩ := by kernel_rfl
theorem qn8 : pol.ow 86 = [] ∧ pol.fz 86 = false ∧ pol.ro 86 = false ∧ pol.pr 86 = none := ⟨rfl, rfl, rfl, rfl⟩
noncomputable def q6J : Code := (Try.f87.body).getD .skip
theorem qjZ : qk Try.prog pol 87 = some ⟨q6J, 10, [.tmp 2], [136]⟩ := by kernel_rfl
theorem qmT : pol.ow 87 = [] ∧ pol.fz 87 = false ∧ pol.ro 87 = false ∧ pol.pr 87 = none := ⟨rfl, rfl, rfl, rfl⟩
noncomputable def q7j : Code := (Try.f88.body).getD .skip
theorem qkl : qk Try.prog pol 88 = some ⟨q7j, 7, [.tmp 6], [4]⟩ := by kernel_rfl
theorem qma : pol.ow 88 = [] ∧ pol.fz 88 = false ∧ pol.ro 88 = false ∧ pol.pr 88 = none := ⟨rfl, rfl, rfl, rfl⟩
noncomputable def q7n : Code := (Try.f89.body).getD .skip
theorem qk0 : qk Try.prog pol 89 = some ⟨q7n, 9, [.tmp 6], [4]⟩ := by kernel_rfl
theorem qmO : pol.ow 89 = [] ∧ pol.fz 89 = false ∧ pol.ro 89 = false ∧ pol.pr 89 = none := ⟨rfl, rfl, rfl, rfl⟩
noncomputable def q7d : Code := (Try.f90.body).getD .skip
theorem qkn : qk Try.prog pol 90 = some ⟨q7d, 11, [.tmp 6], [4]⟩ := by kernel_rfl
theorem qn3 : pol.ow 90 = [] ∧ pol.fz 90 = false ∧ pol.ro 90 = false ∧ pol.pr 90 = none := ⟨rfl, rfl, rfl, rfl⟩
noncomputable def q6U : Code := (Try.f91.body).getD .skip
theorem qjW : qk Try.prog pol 91 = some ⟨q6U, 22, [.tmp 6], [4]⟩ := by kernel_rfl
theorem qmW : pol.ow 91 = [] ∧ pol.fz 91 = false ∧ pol.ro 91 = false ∧ pol.pr 91 = none := ⟨rfl, rfl, rfl, rfl⟩
noncomputable def qdq : Code := (Try.f92.body).getD .skip
theorem qoc : qk Try.prog pol 92 = some ⟨qdq, 76, [], []⟩ := by kernel_rfl
noncomputable def qd1 : Code := (Try.f93.body).getD .skip
theorem qnO : qk Try.prog pol 93 = some ⟨qd1, 7, [.tmp 2], [113]⟩ := by kernel_rfl
noncomputable def qdv : Code := (Try.f94.body).getD .skip
theorem qp7 : qk Try.prog pol 94 = some ⟨qdv, 33, [.tmp 2], [136]⟩ := by kernel_rfl
noncomputable def qdb : Code := (Try.f95.body).getD .skip
theorem qo8 : qk Try.prog pol 95 = some ⟨qdb, 15, [.tmp 6], [3]⟩ := by kernel_rfl
noncomputable def qdd : Code := (Try.f96.body).getD .skip
theorem qoO : qk Try.prog pol 96 = some ⟨qdd, 36, [.tmp 10], [3]⟩ := by kernel_rfl
noncomputable def qcY : Code := (Try.f97.body).getD .skip
theorem qpQ : qk Try.prog pol 97 = some ⟨qcY, 6, [.tmp 2], [4]⟩ := by kernel_rfl
noncomputable def qcJ : Code := (Try.f98.body).getD .skip
theorem qpP : qk Try.prog pol 98 = some ⟨qcJ, 28, [.tmp 8, .tmp 9], [3, 3]⟩ := by kernel_rfl
theorem qjl : pol.kp 4 30 = [1, 5, 7, 12, 13, 18, 21, 23, 26, 27, 28, 120, 121, 122] ∧ pol.rw 4 30 = [] ∧ pol.kx 4 30 = [1, 4, 5, 7, 12, 13, 18, 26, 27, 28, 120, 121, 122] := ⟨rfl, rfl, rfl⟩
theorem qg8 : pol.kp 4 24 = [1, 5, 7, 12, 13, 18, 26, 27, 28, 120, 121, 122] ∧ pol.rw 4 24 = [] ∧ pol.kx 4 24 = [1, 4, 5, 26, 27, 28] := ⟨rfl, rfl, rfl⟩
theorem qgt : pol.kp 4 11 = [1, 5, 7, 9, 10, 11, 12, 13, 14, 15, 26, 27, 28, 45, 46, 47] ∧ pol.rw 4 11 = [.slot 14 3 1, .slot 15 3 1] ∧ pol.kx 4 11 = [1, 5, 7, 9, 10, 11, 12, 13, 14, 15, 26, 27, 28] := ⟨rfl, rfl, rfl⟩
theorem qkO : pol.kp 4 3 = [1, 5, 26, 27, 28] ∧ pol.rw 4 3 = [] ∧ pol.kx 4 3 = [4, 5] := ⟨rfl, rfl, rfl⟩
theorem qlq : pol.kp 6 3 = [0, 3, 4] ∧ pol.rw 6 3 = [.slot 3 36 11] ∧ pol.kx 6 3 = [3] := ⟨rfl, rfl, rfl⟩
theorem qeh : pol.kp 10 15 = [1, 4, 52, 53, 54, 58, 59, 60] ∧ pol.rw 10 15 = [] ∧ pol.kx 10 15 = [1, 2, 52, 53, 54] := ⟨rfl, rfl, rfl⟩
theorem qfA : pol.kp 10 12 = [1, 52, 53, 54] ∧ pol.rw 10 12 = [] ∧ pol.kx 10 12 = [1, 2] := ⟨rfl, rfl, rfl⟩
theorem qi2 : pol.kp 11 5 = [2, 5, 6, 7, 8] ∧ pol.rw 11 5 = [.slot 6 52 8] ∧ pol.kx 11 5 = [6] := ⟨rfl, rfl, rfl⟩
theorem qdG : pol.kp 13 13 = [2, 3, 9, 11, 13, 48, 49, 50] ∧ pol.rw 13 13 = [.slot 13 52 8] ∧ pol.kx 13 13 = [13] := ⟨rfl, rfl, rfl⟩
theorem qjs : pol.kp 18 6 = [0, 4, 5, 6, 7] ∧ pol.rw 18 6 = [.cell 5 6 57 2] ∧ pol.kx 18 6 = [0, 4, 5] := ⟨rfl, rfl, rfl⟩
theorem qgA : pol.kp 25 3 = [3, 6, 7, 8] ∧ pol.rw 25 3 = [.slot 3 9 1] ∧ pol.kx 25 3 = [3] := ⟨rfl, rfl, rfl⟩
theorem qgH : pol.kp 33 4 = [1, 2, 20, 21, 22] ∧ pol.rw 33 4 = [] ∧ pol.kx 33 4 = [1, 2, 4] := ⟨rfl, rfl, rfl⟩
theorem qhx : pol.kp 34 3 = [1, 5, 8, 9, 10] ∧ pol.rw 34 3 = [.slot 5 3 1] ∧ pol.kx 34 3 = [5] := ⟨rfl, rfl, rfl⟩
theorem qg6 : pol.kp 37 9 = [4, 5, 6, 9, 13, 14, 15, 21, 22, 23] ∧ pol.rw 37 9 = [.slot 5 3 1] ∧ pol.kx 37 9 = [4, 5, 6, 13, 14, 15] := ⟨rfl, rfl, rfl⟩
theorem qhv : pol.kp 37 5 = [4, 5, 6, 13, 14, 15] ∧ pol.rw 37 5 = [.slot 5 3 1] ∧ pol.kx 37 5 = [5, 6] := ⟨rfl, rfl, rfl⟩
theorem qio : pol.kp 38 3 = [1, 5, 8, 9, 10] ∧ pol.rw 38 3 = [.slot 5 41 1] ∧ pol.kx 38 3 = [5] := ⟨rfl, rfl, rfl⟩
theorem qiW : pol.kp 43 2 = [1, 9, 10, 11] ∧ pol.rw 43 2 = [] ∧ pol.kx 43 2 = [1, 2] := ⟨rfl, rfl, rfl⟩
theorem qgk : pol.kp 44 8 = [1, 4, 6, 7, 8, 29, 30, 31] ∧ pol.rw 44 8 = [] ∧ pol.kx 44 8 = [4, 5, 6, 7] := ⟨rfl, rfl, rfl⟩
theorem qi3 : pol.kp 49 5 = [0, 3, 4, 5] ∧ pol.rw 49 5 = [] ∧ pol.kx 49 5 = [0, 3, 4, 5] := ⟨rfl, rfl, rfl⟩
theorem qit : pol.kp 49 3 = [0, 3, 4] ∧ pol.rw 49 3 = [] ∧ pol.kx 49 3 = [3] := ⟨rfl, rfl, rfl⟩
theorem qi9 : pol.kp 50 2 = [0, 1, 5] ∧ pol.rw 50 2 = [] ∧ pol.kx 50 2 = [4] := ⟨rfl, rfl, rfl⟩
theorem qgm : pol.kp 58 2 = [0, 1, 7, 8] ∧ pol.rw 58 2 = [] ∧ pol.kx 58 2 = [4] := ⟨rfl, rfl, rfl⟩
theorem qhX : pol.kp 59 2 = [0, 1, 7, 8] ∧ pol.rw 59 2 = [] ∧ pol.kx 59 2 = [4] := ⟨rfl, rfl, rfl⟩
theorem qj7 : pol.kp 61 4 = [0, 1, 12, 13] ∧ pol.rw 61 4 = [] ∧ pol.kx 61 4 = [4] := ⟨rfl, rfl, rfl⟩
theorem qj5 : pol.kp 65 5 = [0, 3, 4] ∧ pol.rw 65 5 = [] ∧ pol.kx 65 5 = [3] := ⟨rfl, rfl, rfl⟩
theorem qhw : pol.kp 72 4 = [0, 1, 5] ∧ pol.rw 72 4 = [] ∧ pol.kx 72 4 = [0, 1, 5] := ⟨rfl, rfl, rfl⟩
theorem qhJ : pol.kp 73 2 = [1, 2, 10] ∧ pol.rw 73 2 = [] ∧ pol.kx 73 2 = [6] := ⟨rfl, rfl, rfl⟩
theorem qhZ : pol.kp 86 5 = [3, 5, 6, 7, 8] ∧ pol.rw 86 5 = [] ∧ pol.kx 86 5 = [3, 6, 7, 8] := ⟨rfl, rfl, rfl⟩
theorem qgr : pol.kp 86 3 = [3, 6, 7, 8] ∧ pol.rw 86 3 = [] ∧ pol.kx 86 3 = [3] := ⟨rfl, rfl, rfl⟩
noncomputable def qab : Code := (zj 30 q4P).getD .skip
noncomputable def qau : Code := (zj 24 q4P).getD .skip
noncomputable def qak : Code := (zj 11 q4P).getD .skip
noncomputable def qe9 : Code := (zj 3 q4P).getD .skip
noncomputable def qfx : Code := (zj 3 q9V).getD .skip
noncomputable def q6a : Code := (zj 15 q3S).getD .skip
noncomputable def q5A : Code := (zj 12 q3S).getD .skip
noncomputable def q8J : Code := (zj 5 q4Q).getD .skip
noncomputable def q6g : Code := (zj 13 q4M).getD .skip
noncomputable def q9h : Code := (zj 6 q5q).getD .skip
noncomputable def qam : Code := (zj 3 q5w).getD .skip
noncomputable def q8L : Code := (zj 4 q5x).getD .skip
noncomputable def q4I : Code := (zj 3 q50).getD .skip
noncomputable def qar : Code := (zj 9 q3Y).getD .skip
noncomputable def qay : Code := (zj 5 q3Y).getD .skip
noncomputable def qaq : Code := (zj 3 q4X).getD .skip
noncomputable def q9k : Code := (zj 2 q58).getD .skip
noncomputable def q9z : Code := (zj 8 q5v).getD .skip
noncomputable def q7c : Code := (zj 5 q3U).getD .skip
noncomputable def q75 : Code := (zj 3 q3U).getD .skip
noncomputable def qa4 : Code := (zj 2 q5c).getD .skip
noncomputable def q7q : Code := (zj 2 q51).getD .skip
noncomputable def q8n : Code := (zj 2 q4S).getD .skip
noncomputable def q9t : Code := (zj 4 q5t).getD .skip
noncomputable def q9G : Code := (zj 5 q5g).getD .skip
noncomputable def q9u : Code := (zj 4 q4J).getD .skip
noncomputable def q9B : Code := (zj 2 q5m).getD .skip
noncomputable def q9s : Code := (zj 5 q3R).getD .skip
noncomputable def q9A : Code := (zj 3 q3R).getD .skip
noncomputable def bdt (t : Nat) : Option Bd := bif Nat.blt t 99 then (bif Nat.blt t 49 then (bif Nat.blt t 24 then (bif Nat.blt t 12 then (bif Nat.blt t 6 then (bif Nat.blt t 3 then (bif Nat.blt t 1 then none else (bif Nat.blt t 2 then none else some ⟨qiZ, 1, [], []⟩)) else (bif Nat.blt t 4 then some ⟨qiX, 177, [.tmp 6], [4]⟩ else (bif Nat.blt t 5 then some ⟨q4P, 214, [.tmp 4], [4]⟩ else some ⟨qhV, 215, [.tmp 0], [4]⟩))) else (bif Nat.blt t 9 then (bif Nat.blt t 7 then some ⟨q9V, 29, [.tmp 2], [26]⟩ else (bif Nat.blt t 8 then some ⟨qiJ, 66, [.tmp 8, .tmp 9], [26, 28]⟩ else some ⟨qbo, 11, [.tmp 4], [4]⟩)) else (bif Nat.blt t 10 then some ⟨qfV, 83, [.tmp 4], [4]⟩ else (bif Nat.blt t 11 then some ⟨q3S, 100, [.tmp 2], [28]⟩ else some ⟨q4Q, 89, [.tmp 4], [42]⟩)))) else (bif Nat.blt t 18 then (bif Nat.blt t 15 then (bif Nat.blt t 13 then some ⟨q7x, 11, [.cell 2 45], [45]⟩ else (bif Nat.blt t 14 then some ⟨q4M, 81, [.tmp 6, .tmp 7], [42, 28]⟩ else some ⟨q7e, 57, [.tmp 8, .tmp 9], [3, 28]⟩)) else (bif Nat.blt t 16 then some ⟨q7t, 10, [.tmp 4], [4]⟩ else (bif Nat.blt t 17 then some ⟨qcV, 21, [.cell 0 36, .tmp 1], [36, 42]⟩ else some ⟨qd8, 56, [.tmp 4], [4]⟩))) else (bif Nat.blt t 21 then (bif Nat.blt t 19 then some ⟨q5q, 87, [.cell 4 36], [36]⟩ else (bif Nat.blt t 20 then some ⟨qcy, 8, [.tmp 4], [3]⟩ else some ⟨q7k, 9, [.tmp 2], [4]⟩)) else (bif Nat.blt t 22 then some ⟨qdc, 38, [.tmp 2], [26]⟩ else (bif Nat.blt t 23 then some ⟨q6X, 19, [.tmp 6], [4]⟩ else some ⟨qdp, 26, [.tmp 4], [4]⟩))))) else (bif Nat.blt t 36 then (bif Nat.blt t 30 then (bif Nat.blt t 27 then (bif Nat.blt t 25 then some ⟨q7a, 15, [.tmp 6], [4]⟩ else (bif Nat.blt t 26 then some ⟨q5w, 19, [.tmp 2], [31]⟩ else some ⟨q78, 17, [.tmp 2], [4]⟩)) else (bif Nat.blt t 28 then some ⟨q6G, 9, [.tmp 4], [4]⟩ else (bif Nat.blt t 29 then some ⟨q7s, 6, [.tmp 2], [4]⟩ else some ⟨q7o, 9, [.tmp 3], [4]⟩))) else (bif Nat.blt t 33 then (bif Nat.blt t 31 then some ⟨q6S, 9, [.tmp 4], [4]⟩ else (bif Nat.blt t 32 then some ⟨q6M, 33, [.tmp 2], [28]⟩ else some ⟨q73, 35, [.tmp 4], [3]⟩)) else (bif Nat.blt t 34 then some ⟨q5x, 62, [.tmp 4], [4]⟩ else (bif Nat.blt t 35 then some ⟨q50, 22, [.tmp 4], [41]⟩ else some ⟨q7l, 5, [.tmp 2], [3]⟩)))) else (bif Nat.blt t 42 then (bif Nat.blt t 39 then (bif Nat.blt t 37 then some ⟨q6N, 5, [.tmp 2], [3]⟩ else (bif Nat.blt t 38 then some ⟨q3Y, 44, [.tmp 2, .tmp 3], [41, 4]⟩ else some ⟨q4X, 22, [.tmp 4], [22]⟩)) else (bif Nat.blt t 40 then some ⟨q77, 5, [.tmp 2], [41]⟩ else (bif Nat.blt t 41 then some ⟨qcw, 11, [], []⟩ else some ⟨q70, 6, [.tmp 2], [3]⟩))) else (bif Nat.blt t 45 then (bif Nat.blt t 43 then some ⟨qd0, 8, [.tmp 2], [41]⟩ else (bif Nat.blt t 44 then some ⟨q58, 37, [.tmp 2], [28]⟩ else some ⟨q5v, 51, [.cell 4 92, .tmp 5], [92, 28]⟩)) else (bif Nat.blt t 47 then (bif Nat.blt t 46 then some ⟨q6R, 16, [.tmp 6], [3]⟩ else some ⟨q6C, 32, [.tmp 6], [3]⟩) else (bif Nat.blt t 48 then some ⟨q7m, 26, [.tmp 6], [4]⟩ else some ⟨qcv, 26, [.tmp 4], [4]⟩)))))) else (bif Nat.blt t 74 then (bif Nat.blt t 61 then (bif Nat.blt t 55 then (bif Nat.blt t 52 then (bif Nat.blt t 50 then some ⟨q3U, 33, [.tmp 2], [31]⟩ else (bif Nat.blt t 51 then some ⟨q5c, 18, [.tmp 4], [4]⟩ else some ⟨q6L, 39, [.cell 6 34], [34]⟩)) else (bif Nat.blt t 53 then some ⟨qds, 19, [.tmp 4], [3]⟩ else (bif Nat.blt t 54 then some ⟨qcM, 8, [.tmp 3], [4]⟩ else some ⟨qd3, 8, [.tmp 2], [31]⟩))) else (bif Nat.blt t 58 then (bif Nat.blt t 56 then some ⟨qcx, 8, [.tmp 2], [32]⟩ else (bif Nat.blt t 57 then some ⟨q6r, 17, [.tmp 2], [4]⟩ else some ⟨q6A, 8, [.tmp 4], [3]⟩)) else (bif Nat.blt t 59 then some ⟨q51, 19, [.tmp 4], [3]⟩ else (bif Nat.blt t 60 then some ⟨q4S, 19, [.tmp 4], [3]⟩ else some ⟨q7u, 12, [.tmp 4], [3]⟩)))) else (bif Nat.blt t 67 then (bif Nat.blt t 64 then (bif Nat.blt t 62 then some ⟨q5t, 26, [.tmp 4], [4]⟩ else (bif Nat.blt t 63 then some ⟨qcW, 9, [.tmp 2], [109]⟩ else some ⟨qcU, 134, [], []⟩)) else (bif Nat.blt t 65 then some ⟨qcH, 8, [.tmp 2], [3]⟩ else (bif Nat.blt t 66 then some ⟨q5g, 25, [.tmp 2], [3]⟩ else some ⟨q6K, 5, [.tmp 2], [3]⟩))) else (bif Nat.blt t 70 then (bif Nat.blt t 68 then some ⟨q7h, 25, [.tmp 6], [4]⟩ else (bif Nat.blt t 69 then some ⟨q7i, 49, [.cell 4 92, .tmp 5], [92, 28]⟩ else some ⟨q6F, 6, [.cell 0 119], [119]⟩)) else (bif Nat.blt t 72 then (bif Nat.blt t 71 then some ⟨q6T, 18, [.tmp 4], [4]⟩ else some ⟨q79, 2, [.tmp 0], [31]⟩) else (bif Nat.blt t 73 then some ⟨q4J, 39, [.tmp 4], [31]⟩ else some ⟨q5m, 21, [.tmp 6], [3]⟩))))) else (bif Nat.blt t 86 then (bif Nat.blt t 80 then (bif Nat.blt t 77 then (bif Nat.blt t 75 then none else (bif Nat.blt t 76 then some ⟨qcA, 49, [], []⟩ else some ⟨qcs, 56, [], []⟩)) else (bif Nat.blt t 78 then some ⟨qct, 65, [], []⟩ else (bif Nat.blt t 79 then some ⟨qcZ, 57, [.tmp 6, .tmp 7], [3, 126]⟩ else some ⟨qcX, 32, [], []⟩))) else (bif Nat.blt t 83 then (bif Nat.blt t 81 then some ⟨qcO, 133, [.tmp 6], [4]⟩ else (bif Nat.blt t 82 then some ⟨qdk, 17, [.tmp 4], [4]⟩ else some ⟨qcz, 84, [.tmp 8], [3]⟩)) else (bif Nat.blt t 84 then some ⟨qda, 168, [.tmp 8, .tmp 9], [3, 4]⟩ else none))) else (bif Nat.blt t 92 then (bif Nat.blt t 89 then (bif Nat.blt t 87 then some ⟨q3R, 20, [.tmp 2], [136]⟩ else (bif Nat.blt t 88 then some ⟨q6J, 10, [.tmp 2], [136]⟩ else some ⟨q7j, 7, [.tmp 6], [4]⟩)) else (bif Nat.blt t 90 then some ⟨q7n, 9, [.tmp 6], [4]⟩ else (bif Nat.blt t 91 then some ⟨q7d, 11, [.tmp 6], [4]⟩ else some ⟨q6U, 22, [.tmp 6], [4]⟩))) else (bif Nat.blt t 95 then (bif Nat.blt t 93 then some ⟨qdq, 76, [], []⟩ else (bif Nat.blt t 94 then some ⟨qd1, 7, [.tmp 2], [113]⟩ else some ⟨qdv, 33, [.tmp 2], [136]⟩)) else (bif Nat.blt t 97 then (bif Nat.blt t 96 then some ⟨qdb, 15, [.tmp 6], [3]⟩ else some ⟨qdd, 36, [.tmp 10], [3]⟩) else (bif Nat.blt t 98 then some ⟨qcY, 6, [.tmp 2], [4]⟩ else some ⟨qcJ, 28, [.tmp 8, .tmp 9], [3, 3]⟩))))))) else none
theorem qgT : ∀ (f : Nat) (bd : Bd), bdt f = some bd → qk Try.prog pol f = some bd
  | 0, bd, h => by cases h
  | 1, bd, h => by cases h
  | 2, bd, h => bd2.trans h
  | 3, bd, h => bd3.trans h
  | 4, bd, h => bd4.trans h
  | 5, bd, h => bd5.trans h
  | 6, bd, h => bd6.trans h
  | 7, bd, h => bd7.trans h
  | 8, bd, h => bd8.trans h
  | 9, bd, h => bd9.trans h
  | 10, bd, h => qfP.trans h
  | 11, bd, h => qiS.trans h
  | 12, bd, h => qk5.trans h
  | 13, bd, h => qh9.trans h
  | 14, bd, h => qjJ.trans h
  | 15, bd, h => qkc.trans h
  | 16, bd, h => qob.trans h
  | 17, bd, h => qnJ.trans h
  | 18, bd, h => qgF.trans h
  | 19, bd, h => qnK.trans h
  | 20, bd, h => qke.trans h
  | 21, bd, h => qov.trans h
  | 22, bd, h => qjX.trans h
  | 23, bd, h => qo2.trans h
  | 24, bd, h => qjH.trans h
  | 25, bd, h => qgv.trans h
  | 26, bd, h => qkx.trans h
  | 27, bd, h => qhC.trans h
  | 28, bd, h => qkr.trans h
  | 29, bd, h => qjG.trans h
  | 30, bd, h => qjR.trans h
  | 31, bd, h => qk1.trans h
  | 32, bd, h => qk4.trans h
  | 33, bd, h => qh3.trans h
  | 34, bd, h => qen.trans h
  | 35, bd, h => qkp.trans h
  | 36, bd, h => qkb.trans h
  | 37, bd, h => qfM.trans h
  | 38, bd, h => qhn.trans h
  | 39, bd, h => qkg.trans h
  | 40, bd, h => qoX.trans h
  | 41, bd, h => qki.trans h
  | 42, bd, h => qnG.trans h
  | 43, bd, h => qjr.trans h
  | 44, bd, h => qgG.trans h
  | 45, bd, h => qjN.trans h
  | 46, bd, h => qkj.trans h
  | 47, bd, h => qku.trans h
  | 48, bd, h => qo9.trans h
  | 49, bd, h => qfR.trans h
  | 50, bd, h => qjm.trans h
  | 51, bd, h => qkw.trans h
  | 52, bd, h => qoD.trans h
  | 53, bd, h => qoV.trans h
  | 54, bd, h => qpa.trans h
  | 55, bd, h => qnn.trans h
  | 56, bd, h => qk3.trans h
  | 57, bd, h => qjO.trans h
  | 58, bd, h => qfJ.trans h
  | 59, bd, h => qhE.trans h
  | 60, bd, h => qjY.trans h
  | 61, bd, h => qhc.trans h
  | 62, bd, h => qnH.trans h
  | 63, bd, h => qpY.trans h
  | 64, bd, h => qoh.trans h
  | 65, bd, h => qjF.trans h
  | 66, bd, h => qjI.trans h
  | 67, bd, h => qkf.trans h
  | 68, bd, h => qjL.trans h
  | 69, bd, h => qkm.trans h
  | 70, bd, h => qjU.trans h
  | 71, bd, h => qks.trans h
  | 72, bd, h => qgK.trans h
  | 73, bd, h => qjf.trans h
  | 74, bd, h => by cases h
  | 75, bd, h => qou.trans h
  | 76, bd, h => qok.trans h
  | 77, bd, h => qof.trans h
  | 78, bd, h => qpx.trans h
  | 79, bd, h => qpt.trans h
  | 80, bd, h => qnY.trans h
  | 81, bd, h => qp1.trans h
  | 82, bd, h => qoy.trans h
  | 83, bd, h => qpf.trans h
  | 84, bd, h => by cases h
  | 85, bd, h => by cases h
  | 86, bd, h => qfS.trans h
  | 87, bd, h => qjZ.trans h
  | 88, bd, h => qkl.trans h
  | 89, bd, h => qk0.trans h
  | 90, bd, h => qkn.trans h
  | 91, bd, h => qjW.trans h
  | 92, bd, h => qoc.trans h
  | 93, bd, h => qnO.trans h
  | 94, bd, h => qp7.trans h
  | 95, bd, h => qo8.trans h
  | 96, bd, h => qoO.trans h
  | 97, bd, h => qpQ.trans h
  | 98, bd, h => qpP.trans h
  | n + 99, bd, h => by
    have hb : Nat.blt (n + 99) 99 = false := by
      cases h' : Nat.blt (n + 99) 99 with
      | false => rfl
      | true => exact absurd (Nat.le_of_ble_eq_true h') (by omega)
    unfold bdt at h
    rw [hb] at h
    cases h
theorem qll : qkY Try.prog pol := by
  intro f g k args G r G' hf hg
  unfold pol ppr at hf
  simp only at hf
  split at hf
  · injection hf with hf; subst hf; refine qag (fun _ _ _ hg => ?_) hg; exact q1Q qhH (fn := Try.f42) (t := 41) (e := 3) (bt := 4) (by kernel_rfl) (by kernel_rfl) (by kernel_rfl) (by kernel_rfl) (by kernel_rfl) k41 (by rw [k3]; simp) (by rw [z3]; decide) (by kernel_rfl) hg
  · injection hf with hf; subst hf; refine qag (fun _ _ _ hg => ?_) hg; exact q1Q qhH (fn := Try.f54) (t := 31) (e := 9) (bt := 4) (by kernel_rfl) (by kernel_rfl) (by kernel_rfl) (by kernel_rfl) (by kernel_rfl) k31 (by rw [k9]; simp) (by rw [z9]; decide) (by kernel_rfl) hg
  · injection hf with hf; subst hf; refine qag (fun _ _ _ hg => ?_) hg; exact q1Q qhH (fn := Try.f55) (t := 32) (e := 57) (bt := 4) (by kernel_rfl) (by kernel_rfl) (by kernel_rfl) (by kernel_rfl) (by kernel_rfl) k32 (by rw [k57]; simp) (by rw [z57]; decide) (by kernel_rfl) hg
  · injection hf with hf; subst hf; exact q4C (fn := Try.f62) (by kernel_rfl) (by kernel_rfl) (by kernel_rfl) (AnyW.maps_Clone qiB) (AnyW.maps_Clone_nil qiB) hg
  · cases hf
end Go.Proofs.Ytplfjlcnffcenaa.Vc
namespace Go.Proofs.Ytplfjlcnffcenaa.Vc
open Go.RowKit
theorem QZ {α β : Type} {c : Prop} [Decidable c] (a b : Option α) (f : α → Option β) : (if c then a else b).bind f = if c then a.bind f else b.bind f := by split <;> rfl
theorem mixed : (Try.prog).follows .mixedOrders = true := by kernel_rfl
noncomputable def evo : Orc := EE Try.prog T pol (D1 Try.prog T pol)
noncomputable def ev (f : FuncId) : Nat → List R → List (Nat × B) → Option (R × List (Nat × B)) := evo (.fn f)
theorem ql3 {f k : Nat} {args : List R} {G G' : List (Nat × B)} {r : R} (h : ev f k args G = some (r, G')) : AC Try.prog f args G k fun r' hp' => r' = r ∧ hp' = G' := (qj9 qhH (qla qhH mixed) qll).fn f k args G r G' h
noncomputable def bkk (id : Nat) (r : XS) : XS := r.bind (bkD id)
def rgn (o : Option S) : XS := o.bind fun s' => some (.normal, s')
noncomputable def fnn (f k : Nat) (res : List ResultVar) (rt : List TypeId) (r : XS) : Option (R × List (Nat × B)) := r.bind (qfQ T pol f k ⟨.skip, 0, res, rt⟩)
section
variable {f k : Nat} {s : S} {b : Code} {c : Prop} [Decidable c] {x y : XS} {α : Type} {o : Option α} {g : α → XS}
theorem q7E (i : Nat) : bkk i (some (.normal, s)) = some (.normal, s) := rfl
theorem qfH (i : Nat) : bkk i (some (.ret, s)) = some (.ret, s) := rfl
theorem qca (i j : Nat) : bkk i (some (.exit j, s)) = if j = i then some (.normal, s) else some (.exit j, s) := rfl
theorem qb9 (i : Nat) : bkk i none = none := rfl
theorem qfb (i : Nat) : bkk i (if c then x else y) = if c then bkk i x else bkk i y := QZ _ _ _
theorem qb2 (i : Nat) : bkk i (o.bind g) = o.bind fun a => bkk i (g a) := by cases o <;> rfl
theorem qbC : rgn (some s) = some (.normal, s) := rfl
theorem qbX : rgn none = none := rfl
theorem qe1 (x y : Option S) : rgn (if c then x else y) = if c then rgn x else rgn y := QZ _ _ _
theorem qc4 (g : α → Option S) : rgn (o.bind g) = o.bind fun a => rgn (g a) := by cases o <;> rfl
theorem qbD (res : List ResultVar) (rt : List TypeId) (p : Exit × S) : fnn f k res rt (some p) = qfQ T pol f k ⟨.skip, 0, res, rt⟩ p := rfl
theorem qaX (res : List ResultVar) (rt : List TypeId) : fnn f k res rt none = none := rfl
theorem qe3 (res : List ResultVar) (rt : List TypeId) : fnn f k res rt (if c then x else y) = if c then fnn f k res rt x else fnn f k res rt y := QZ _ _ _
theorem qbO (res : List ResultVar) (rt : List TypeId) : fnn f k res rt (o.bind g) = o.bind fun a => fnn f k res rt (g a) := by cases o <;> rfl
end
theorem qdM (f k : Nat) (args : List R) (G : List (Nat × B)) : ev f k args G = match pol.pr f with
  | some g => prx g k args G
  | none => (qk Try.prog pol f).bind fun bd => q1z Try.prog T pol (D1 Try.prog T pol) evo Lim f k args G bd := qht q1G q6c f k args G
section
variable {f k n : Nat} {s : S} {asg bd : Code} {c : Prop} [Decidable c] {x y : XS} {α : Type} {o : Option α} {g : α → XS}
end
def wst (q : RS) (d : Option Nat) : Option S := q.bind fun q => if q4x q.2 d = true then some (q.2.put d q.1) else none
def wsF (q : RS) (s : S) (o : Oper) : Option (S × Tx) := q.bind fun q => if q4x q.2 o.dst = true then (q96 pol s q.2 q.1 o.op).bind fun fp => some ((q.2.kill fp.ks).put o.dst q.1, (q.1, fp.wb.map fun x => (x, q.2.blk x)), fp) else none
def cll (q : Option (R × List (Nat × B))) (s : S) (bl rw ln : List Nat) : RS := q.bind fun q => if qeo ln q.1 q.2 = true then some (q.1.rn (ren (bl ++ rw) s.nx), s.aft (bl ++ rw) bl.length q.2) else none
section
variable {s : S} {o : Oper} {c : Prop} [Decidable c] {α : Type} {v : Option α} {ops l : List Oper} {A : List (List Nat)} {s0 : S} {m : Nat} {acc : List Tx}
theorem qbk (r : R) (d : Option Nat) : wst (some (r, s)) d = if q4x s d = true then some (s.put d r) else none := rfl
theorem qcp (d : Option Nat) : wst none d = none := rfl
theorem qdX (x y : RS) (d : Option Nat) : wst (if c then x else y) d = if c then wst x d else wst y d := QZ _ _ _
theorem qce (g : α → RS) (d : Option Nat) : wst (v.bind g) d = v.bind fun a => wst (g a) d := by cases v <;> rfl
theorem qbM (r : R) (s' : S) : wsF (some (r, s')) s o = if q4x s' o.dst = true then (q96 pol s s' r o.op).bind fun fp => some ((s'.kill fp.ks).put o.dst r, (r, fp.wb.map fun x => (x, s'.blk x)), fp) else none := rfl
theorem qcb : wsF none s o = none := rfl
theorem qfc (x y : RS) : wsF (if c then x else y) s o = if c then wsF x s o else wsF y s o := QZ _ _ _
theorem qbf (g : α → RS) : wsF (v.bind g) s o = v.bind fun a => wsF (g a) s o := by cases v <;> rfl
theorem qcf (r : R) (hp : List (Nat × B)) (bl rw ln : List Nat) : cll (some (r, hp)) s bl rw ln = if qeo ln r hp = true then some (r.rn (ren (bl ++ rw) s.nx), s.aft (bl ++ rw) bl.length hp) else none := rfl
theorem qbY (g : α → Option (R × List (Nat × B))) (bl rw ln : List Nat) : cll (v.bind g) s bl rw ln = v.bind fun a => cll (g a) s bl rw ln := by cases v <;> rfl
end
def ldx (T : Ty) (cs : List C) (off : Nat) (t : TypeId) : Option R :=
  match T.k t with
  | .st _ | .arr _ _ => if off + T.sz t ≤ cs.length then some (.agg ((cs.drop off).take (T.sz t))) else none
  | .other => none
  | _ => (cs[off]?).map .c
theorem qdZ (c : C) (cs : List C) (off : Nat) (t : TypeId) : ld T (c :: cs) off t = ldx T (c :: cs) off t := rfl
section
variable {α : Type} {enc : α → List D} {sz : Nat}
theorem ZM (hsz : ∀ x, (enc x).length = sz) : ∀ l : List α, (l.flatMap enc).length = l.length * sz
  | [] => by simp
  | x :: l => by rw [List.flatMap_cons, List.length_append, hsz, ZM hsz l, List.length_cons, Nat.add_mul]; omega
theorem q59 (hsz : ∀ x, (enc x).length = sz) : ∀ (l : List α) (k : Nat) (x : α), l[k]? = some x → ∃ post, (l.flatMap enc).drop (k * sz) = enc x ++ post
  | [], k, x, h => by simp at h
  | y :: l, 0, x, h => by
    simp only [List.getElem?_cons_zero, Option.some.injEq] at h
    subst h
    exact ⟨l.flatMap enc, by simp⟩
  | y :: l, k + 1, x, h => by
    obtain ⟨post, hp⟩ := q59 hsz l k x (by simpa using h)
    refine ⟨post, ?_⟩
    rw [List.flatMap_cons, show (k + 1) * sz = (enc y).length + k * sz by rw [hsz, Nat.add_mul]; omega, List.drop_length_add_append]
    exact hp
theorem q4a (hsz : ∀ x, (enc x).length = sz) (l : List α) (k fo : Nat) (t : TypeId) (h0 : 0 < T.sz t) (hf : fo + T.sz t ≤ sz) : ld T ((l.flatMap enc).map C.d) (k * sz + fo) t = (l[k]?).bind fun x => ld T ((enc x).map C.d) fo t := by
  have hl := ZM hsz l
  cases hk : l[k]? with
  | none =>
    have hle : l.length ≤ k := by simpa using hk
    have hle2 : l.length * sz ≤ k * sz := Nat.mul_le_mul_right _ hle
    show ld T _ _ t = none
    unfold ld
    split
    · rw [if_neg (by rw [List.length_map, hl]; omega)]
    · rw [if_neg (by rw [List.length_map, hl]; omega)]
    · rfl
    · rw [List.getElem?_eq_none (by rw [List.length_map, hl]; omega)]; rfl
  | some x =>
    obtain ⟨post, hp⟩ := q59 hsz l k x hk
    have hx := hsz x
    have hlen : k * sz + sz ≤ l.length * sz := by
      have : k < l.length := (List.getElem?_eq_some_iff.1 hk).1
      have := Nat.mul_le_mul_right sz (show k + 1 ≤ l.length from this)
      rw [Nat.add_mul] at this; omega
    have hd : ∀ n, n + fo ≤ sz → (((l.flatMap enc).map C.d).drop (k * sz + fo)).take n = (((enc x).map C.d).drop fo).take n := fun n hn => by
      rw [← List.drop_drop, ← List.map_drop, hp, List.map_append, List.drop_append_of_le_length (by simp [hx]; omega), List.take_append_of_le_length (by simp [hx]; omega)]
    show _ = ld T _ fo t
    unfold ld
    split
    · rw [if_pos (by rw [List.length_map, hl]; omega), if_pos (by rw [List.length_map, hx]; omega), hd _ (by omega)]
    · rw [if_pos (by rw [List.length_map, hl]; omega), if_pos (by rw [List.length_map, hx]; omega), hd _ (by omega)]
    · rfl
    · have h1 : (((l.flatMap enc).map C.d).drop (k * sz))[fo]? = ((enc x).map C.d)[fo]? := by
        rw [← List.map_drop, hp, List.map_append, List.getElem?_append_left (by simp [hx]; omega)]
      rw [List.getElem?_drop] at h1
      rw [h1]
theorem q1g (hsz : ∀ x, (enc x).length = 1) (l : List α) (k : Nat) (t : TypeId) (h : T.sz t = 1) : ld T ((l.flatMap enc).map C.d) k t = (l[k]?).bind fun x => ld T ((enc x).map C.d) 0 t := by
  have := q4a hsz l k 0 t (by omega) (by omega)
  rwa [Nat.add_zero, Nat.mul_one] at this
theorem q2n (hsz : ∀ x, (enc x).length = sz) (l : List α) (k : Nat) (t : TypeId) (h0 : 0 < T.sz t) (hf : T.sz t ≤ sz) : ld T ((l.flatMap enc).map C.d) (k * sz) t = (l[k]?).bind fun x => ld T ((enc x).map C.d) 0 t := by
  have := q4a hsz l k 0 t h0 (by omega)
  rwa [Nat.add_zero] at this
end
theorem qeO (i : Nat) (ds : List D) : (ds.map C.d).all (C.far i) = true := by rw [List.all_map]; exact List.all_eq_true.2 fun _ _ => rfl
theorem qai (ds : List D) : (ds.map C.d).all C.known = true := by rw [List.all_map]; exact List.all_eq_true.2 fun _ _ => rfl
theorem qc1 (X : List Nat) (ds : List D) : (ds.map C.d).all (C.farF X) = true := by rw [List.all_map]; exact List.all_eq_true.2 fun _ _ => rfl
theorem qaO (ds : List D) : (ds.map C.d).flatMap C.rows = [] := by rw [List.flatMap_map]; exact List.flatMap_eq_nil_iff.2 fun _ _ => rfl
theorem qgj (b : Builtin) (args : Array Operand) (ts : Array TypeId) : (Call.operands { callee := .builtin b, args := args, argTypes := ts }).toList = args.toList := by simp [Call.operands]
theorem qie (f : Operand) (args : Array Operand) (ts : Array TypeId) : (Call.operands { callee := .value f, args := args, argTypes := ts }).toList = f :: args.toList := by simp [Call.operands]
theorem qgz (i : Nat) (ds : List D) : (ds.map C.d).map (C.fg i) = ds.map C.d := by rw [List.map_map]; rfl
end Go.Proofs.Ytplfjlcnffcenaa.Vc
namespace Go.Proofs.Ytplfjlcnffcenaa.Vc
open Go.RowKit
def ρ0 : Pl := ⟨fun _ => none, fun _ => False⟩
def L0 : Nat → Prop := (QE [] 0).live
theorem qpz (b : Nat) : ¬ Occ L0 ρ0 b := fun h => by
  rcases h with h | ⟨i, c, h1, h2⟩
  · exact h
  · cases h2
theorem rd0 {W : World} {v : Value} {d : D} (h : RD W (fun _ => False) v d) : RD W (Occ L0 ρ0) v d := h.occ fun b hb => qpz b hb
theorem qd4 {W : World} {v : Value} {d : D} (h : PV W [v] [d]) : RR W L0 ρ0 v (.c (.d d)) := .c _ _ (.d _ _ (rd0 (h.2 0 v d rfl rfl)))
theorem qb1 {f : FuncId} {rs : List R} {b : Bool} (h : ev f 0 rs [] = some (.c (.d (.bool b)), [])) {W : World} {vs : Array Value} (hr : RRs W L0 ρ0 vs rs) :
    Calls Try.prog f vs W fun e W' => e = .returned (.bool b) ∧ Below W.heap.size W W' := by
  have hac := ql3 h
  have hnl : ∀ i, ¬ (QE [] 0).live i := fun i h => by cases h
  have hs : Sim ⟨fun _ => False, W, ρ0, 0, none⟩ ρ0 (QE [] 0) q3y W :=
    ⟨Hd.none, rfl, fun i => .any _, fun i b c h => absurd h (hnl i), fun i h => absurd h (hnl i), fun i b c h => absurd h (hnl i), fun i j b c c' h => absurd h (hnl i), fun i h => absurd h (hnl i), qdr.refl _ _, fun b hb => hb.elim, fun i hi => absurd hi (Nat.not_lt_zero _), rfl, fun b hb => hb.elim⟩
  refine (hac.call ⟨fun _ => False, W, ρ0, 0, none⟩ ρ0 W vs rfl rfl rfl rfl hs hr).mono ?_
  rintro e W' ⟨v, r, hp', nx', ρ', rfl, ⟨rfl, rfl⟩, h3, h4⟩
  rw [h4.inv_bool]
  exact ⟨rfl, h3.kept.os, h3.kept.tape, h3.kept.output, h3.kept.size, fun k hk => h3.kept.block k hk (fun h => h)⟩
end Go.Proofs.Ytplfjlcnffcenaa.Vc
