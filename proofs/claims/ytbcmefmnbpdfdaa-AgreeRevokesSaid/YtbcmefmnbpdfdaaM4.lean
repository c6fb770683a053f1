/- Part 4 of a proof. -/
import Derived.Test.YtbcmefmnbpdfdaaM3
set_option linter.unusedVariables false
set_option linter.unusedSimpArgs false
set_option linter.defProp false
set_option linter.unusedSectionVars false
set_option linter.unnecessarySimpa false
namespace Go.Proofs.Ytbcmefmnbpdfdaa.Vc
open Go.RowKit
set_option linter.unusedVariables false
set_option linter.unusedSectionVars false
section
variable {α : Type} {E : α → List D} {n : Nat}
theorem q5f (h : ∀ x, (E x).length = n) : ∀ (v : List α) (a : Nat), (v.flatMap E).drop (a * n) = (v.drop a).flatMap E
  | [], a => by simp
  | x :: v, 0 => by simp
  | x :: v, a + 1 => by
    rw [List.flatMap_cons, show (a + 1) * n = (E x).length + a * n by rw [h, Nat.add_mul]; omega, List.drop_length_add_append]
    exact q5f h v a
theorem q3L (h : ∀ x, (E x).length = n) : ∀ (v : List α) (a : Nat), (v.flatMap E).take (a * n) = (v.take a).flatMap E
  | [], a => by simp
  | x :: v, 0 => by simp
  | x :: v, a + 1 => by
    rw [List.flatMap_cons, show (a + 1) * n = (E x).length + a * n by rw [h, Nat.add_mul]; omega, List.take_length_add_append, List.take_succ_cons, List.flatMap_cons, q3L h v a]
theorem qdR (v w : List α) : v.flatMap E ++ w.flatMap E = (v ++ w).flatMap E := List.flatMap_append.symm
theorem qbI (v w : List α) : (v.flatMap E).map C.d ++ (w.flatMap E).map C.d = ((v ++ w).flatMap E).map C.d := by rw [← List.map_append, qdR]
theorem q3r (v : List α) (x : α) : (v.flatMap E).map C.d ++ (E x).map C.d = ((v ++ [x]).flatMap E).map C.d := by simp
theorem q1W {β γ : Type} (f : β → γ) : ∀ (ys cs : List β) (o : Nat), spl (cs.map f) o (ys.map f) = (spl cs o ys).map f
  | [], cs, o => rfl
  | y :: ys, cs, o => by rw [List.map_cons, spl, spl, ← List.map_set, q1W f ys]
theorem q4o (h : ∀ x, (E x).length = n) {fo : Nat} {d : D} (g : α → α) (hf : fo < n) (hg : ∀ x, E (g x) = (E x).set fo d) : ∀ (v : List α) (i : Nat), (v.flatMap E).set (i * n + fo) d = (v.modify i g).flatMap E
  | [], i => by simp
  | y :: v, 0 => by
    rw [List.flatMap_cons, Nat.zero_mul, Nat.zero_add, List.set_append_left _ _ (by rw [h]; exact hf), ← hg]
    simp
  | y :: v, i + 1 => by
    rw [List.flatMap_cons, show (i + 1) * n + fo = (E y).length + (i * n + fo) by rw [h, Nat.add_mul]; omega, List.set_append_right _ _ (by omega), show (E y).length + (i * n + fo) - (E y).length = i * n + fo by omega, q4o h g hf hg v i]
    simp
end
def eI (x : Int) : List D := [.int .i64 x]
def eS (x : ByteArray) : List D := [.str x]
def eL {α : Type} (n : Nat) (E : α → List D) (v : List α) : List D := [.sl n v.length (v.flatMap E)]
theorem q6Q {α β γ : Type} (f : β → γ) (o : Option α) (g : α → Option β) : (o.bind g).map f = o.bind fun x => (g x).map f := by cases o <;> rfl
theorem qbm (P : Program) (T : Ty) (d : Nat) (t : TypeId) (x y : R) : eqR P T (d + 1) t x y =
    match T.k t, x, y with
    | .int _, .c (.d (.int k a)), .c (.d (.int k' b)) => if k = k' then some (a == b) else none
    | .bool, .c (.d (.bool a)), .c (.d (.bool b)) => some (a == b)
    | .str, .c (.d (.str a)), .c (.d (.str b)) => some (a.toList == b.toList)
    | .st fs, .agg xs, .agg ys => if q1F P t = true then qbD T (eqR P T d) xs ys fs else none
    | _, _, _ => none := by
  generalize hk : T.k t = kd
  unfold eqR
  rw [hk]
  cases kd <;> first
    | rfl
    | (rcases x with (c | _ | _ | _) <;> first
        | rfl
        | (rcases y with (c' | _ | _ | _) <;> first
            | rfl
            | (cases c <;> first
                | rfl
                | (cases c' <;> first
                    | rfl
                    | (rename_i d1 d2; cases d1 <;> first
                        | rfl
                        | (cases d2 <;> rfl))))))
section
variable {α β : Type} {c : Prop} [Decidable c] (a b : List α)
theorem qcl (f : α → Bool) : (if c then a else b).any f = if c then a.any f else b.any f := by split <;> rfl
theorem qbG (f : α → β) : (if c then a else b).map f = if c then a.map f else b.map f := by split <;> rfl
theorem q3d : (if c then a else b).isEmpty = if c then a.isEmpty else b.isEmpty := by split <;> rfl
theorem q2y [BEq α] (x : α) : (if c then a else b).contains x = if c then a.contains x else b.contains x := by split <;> rfl
end
def qgR (op : UnOp) (r : R) (s : S) : RS :=
  match op, r with
  | .not, .c (.d (.bool b)) => some (.c (.d (.bool (!b))), s)
  | .neg, .c (.d (.int k n)) => some (.c (.d (.int k (k.wrap (0 - n)))), s)
  | _, _ => none
theorem qd6 (s : S) (op : UnOp) (x : Operand) : xUn s op x = qgR op (s.ev x) s := by
  unfold xUn qgR
  generalize s.ev x = r
  cases op <;> first
    | rfl
    | (cases r with
       | c c => cases c with
         | d d => cases d <;> rfl
         | _ => rfl
       | _ => rfl)
def lkq (ok : Bool) (z : R) : Option (Nat × R × Nat) → Option R
  | some q => some (tt2 q.2.1 ok true)
  | none => some (tt2 z ok false)
theorem qcq (T : Ty) (s : S) (t : TypeId) (x y : Operand) (ok : Bool) : Zq T s t x y ok =
    match T.k t, q0h s x, (s.ev y).key with
    | .mp k e, some es, some kv => if plK (T.k k) kv = true ∧ es.all (fun q => plK (T.k k) q.1) = true then (zR T e).bind fun z => lkq ok z (fnd kv es 0) else none
    | _, _, _ => none := by
  unfold Zq
  generalize T.k t = kd
  generalize q0h s x = m
  generalize (s.ev y).key = v
  cases kd <;> first
    | rfl
    | (cases m <;> first
        | rfl
        | (cases v <;> first
            | rfl
            | (simp only
               split
               · congr 1
                 funext z
                 cases fnd _ _ _ <;> rfl
               · rfl)))
def zD {α : Type} (a b : Option α) : Prop := ∀ r, a = some r → b = some r
theorem zD.refl {α : Type} (a : Option α) : zD a a := fun _ h => h
theorem zD.none {α : Type} (a : Option α) : zD Option.none a := fun _ h => by cases h
theorem zD.bind {α β : Type} {a b : Option α} {f g : α → Option β} (h : zD a b) (hf : ∀ x, zD (f x) (g x)) : zD (a.bind f) (b.bind g) := fun r hr => by
  obtain ⟨x, h1, h2⟩ := Option.bind_eq_some_iff.1 hr
  rw [h x h1]
  exact hf x r h2
theorem zD.ite {α : Type} {c : Prop} [Decidable c] {a b a' b' : Option α} (h : zD a a') (h' : zD b b') : zD (if c then a else b) (if c then a' else b') := by
  split
  · exact h
  · exact h'
theorem zD.sum {α β γ : Type} {f f' : α → Option γ} {g g' : β → Option γ} {e : α ⊕ β} (h : ∀ x, zD (f x) (f' x)) (h' : ∀ x, zD (g x) (g' x)) : zD (Sum.elim f g e) (Sum.elim f' g' e) := by
  cases e with
  | inl x => exact h x
  | inr x => exact h' x
theorem zD.lim {σ ε : Type} {f g : σ → Option (σ ⊕ ε)} {n : Nat} {x : σ} (h : ∀ x, zD (f x) (g x)) : zD (itT f n x) (zg g x) := by
  have key : ∀ (n : Nat) (x : σ), zD (itT f n x) (itT g n x) := by
    intro n
    induction n with
    | zero => intro x r hr; cases hr
    | succ n ih =>
      intro x
      unfold itT
      refine zD.bind (h x) (fun y => ?_)
      cases y with
      | inl y => exact ih y
      | inr e => exact zD.refl _
  exact fun r hr => q0Y (key n x r hr)
def itR {σ ε : Type} (step : (σ → Option ε) → σ → Option ε) : Nat → σ → Option ε
  | 0, _ => none
  | n + 1, x => step (itR step n) x
theorem zD.rec {σ ε : Type} {c s : (σ → Option ε) → σ → Option ε} {f : σ → Option ε} (hs : ∀ x, f x = s f x) (h : ∀ F F', (∀ y, zD (F y) (F' y)) → ∀ x, zD (c F x) (s F' x)) : ∀ (n : Nat) (x : σ), zD (itR c n x) (f x) := by
  intro n
  induction n with
  | zero => intro x r hr; cases hr
  | succ n ih =>
    intro x
    rw [hs x]
    exact h _ _ ih x
def spr (cs : List C) (o : Nat) (ys : List C) : List C := spl cs o ys
theorem q6u (t : TypeId) (cs ys : List C) (o : Nat) : (B.blk t cs).set o ys = .blk t (spl cs o ys) := rfl
theorem q5j (e : TypeId) (sz : Nat) (cs ys : List C) (o : Nat) : (B.row e sz cs).set o ys = .row e sz (spr cs o ys) := rfl
def xsl (T : Ty) (s : S) (t : TypeId) (x : R) (lo hi : Option Operand) : RS :=
  match x, T.k t with
  | .c (.d (.str b)), .str =>
    match s.bd lo 0, s.bd hi b.size with
    | some l, some h => if 0 ≤ l ∧ l ≤ h ∧ h ≤ b.size then some (.c (.d (.str (b.extract l.toNat h.toNat))), s) else none
    | _, _ => none
  | .c (.d (.sl sz n cs)), .sl e =>
    if T.k e ≠ .other ∧ T.sz e = sz then
      match s.bd lo 0, s.bd hi n with
      | some l, some h => if 0 ≤ l ∧ l ≤ h ∧ h ≤ n then some (.c (.d (.sl sz (h.toNat - l.toNat) ((cs.drop (l.toNat * sz)).take ((h.toNat - l.toNat) * sz)))), s) else none
      | _, _ => none
    else none
  | .c (.own id sz off n), .sl e =>
    if T.k e ≠ .other ∧ T.sz e = sz then
      match s.bd lo 0, s.bd hi n with
      | some l, some h => if 0 ≤ l ∧ l ≤ h ∧ h ≤ n then (if l = 0 ∨ l < n then some (.c (.own id sz (off + l.toNat) (h.toNat - l.toNat)), s) else some (.c (.d (.sl sz 0 [])), s)) else none
      | _, _ => none
    else none
  | .c .nils, .sl e =>
    if T.k e ≠ .other then
      match s.bd lo 0, s.bd hi 0 with
      | some l, some h => if l = 0 ∧ h = 0 then some (.c .nils, s) else none
      | _, _ => none
    else none
  | _, _ => none
theorem q6v (T : Ty) (s : S) (t : TypeId) (x : Operand) (lo hi : Option Operand) : q2t T s t x lo hi none = xsl T s t (s.ev x) lo hi := by
  unfold q2t xsl
  generalize s.ev x = r
  generalize T.k t = kd
  cases r with
  | c c =>
    cases c with
    | d d => cases d <;> cases kd <;> rfl
    | _ => cases kd <;> rfl
  | _ => rfl
section
variable {T : Ty} {s : S} {t : TypeId} {lo hi : Option Operand}
end
def qfR {α : Type} (s : S) (E : α → List D) (n : Nat) (v : List α) (l h : Option Int) : RS :=
  match l, h with
  | some l, some h => if 0 ≤ l ∧ l ≤ h ∧ h ≤ v.length then some (.c (.d (.sl n ((v.drop l.toNat).take (h.toNat - l.toNat)).length (((v.drop l.toNat).take (h.toNat - l.toNat)).flatMap E))), s) else none
  | _, _ => none
theorem qdM {α : Type} {E : α → List D} {n : Nat} (h : ∀ x, (E x).length = n) {T : Ty} {s : S} {t e : TypeId} (v : List α) (lo hi : Option Operand) (hk : T.k t = .sl e) (hz : T.sz e = n) (ho : T.k e ≠ .other) :
    xsl T s t (.c (.d (.sl n v.length (v.flatMap E)))) lo hi = qfR s E n v (s.bd lo 0) (s.bd hi v.length) := by
  unfold xsl
  simp only [hk]
  rw [if_pos ⟨ho, hz⟩]
  unfold qfR
  cases s.bd lo 0 with
  | none => rfl
  | some l =>
    cases s.bd hi v.length with
    | none => rfl
    | some h' =>
      simp only
      split
      · rename_i hc
        rw [q5f h, q3L h, List.length_take, List.length_drop, Nat.min_eq_left (by omega)]
      · rfl
abbrev dI (n : Int) : C := C.d (D.int .i64 n)
abbrev dS (s : ByteArray) : C := C.d (D.str s)
abbrev dL {α : Type} (n : Nat) (E : α → List D) (v : List α) : C := C.d (D.sl n v.length (v.flatMap E))
abbrev dO (i sz n : Nat) : C := C.own i sz 0 n
abbrev dP (i : Nat) : C := C.ptr i 0
abbrev rI (n : Int) : R := R.c (C.d (D.int .i64 n))
abbrev rS (s : ByteArray) : R := R.c (C.d (D.str s))
abbrev rB (b : Bool) : R := R.c (C.d (D.bool b))
abbrev rL {α : Type} (n : Nat) (E : α → List D) (v : List α) : R := R.c (C.d (D.sl n v.length (v.flatMap E)))
abbrev rO (i sz n : Nat) : R := R.c (C.own i sz 0 n)
abbrev rP (i : Nat) : R := R.c (C.ptr i 0)
abbrev bR {α : Type} (e sz : Nat) (E : α → List D) (v : List α) : B := B.row e sz ((v.flatMap E).map C.d)
theorem XLs {E : Orc} {f k key : Nat} {c : Code} {σ ε : Type} {st : σ → S} {ex : ε → XS} {step : σ → Option (σ ⊕ ε)} (hc : lbO f key = c) (hl : okL f c) (hne : ∀ e, ∃ p, ex e = some p ∧ p.1 ≠ .normal)
    (h : ∀ x, lz2 f k key (XE2 E f k c (st x)) = (step x).bind (Sum.elim (fun y => some (.normal, st y)) ex)) (x : σ) : XL2 E f k key (st x) = (zg step x).bind ex := by
  obtain ⟨g, hg⟩ : ∃ g : ε → Exit × S, ∀ e, ex e = some (g e) ∧ (g e).1 ≠ .normal := ⟨fun e => Classical.choose (hne e), fun e => Classical.choose_spec (hne e)⟩
  obtain rfl : ex = fun e => some (g e) := funext fun e => (hg e).1
  exact q3J (ex := g) hc hl (fun e => (hg e).2) h x
theorem q4i {E : Orc} {f k key : Nat} {c : Code} {A1 ε : Type} {st : A1 → S} {ex : ε → XS} {step : A1 → Option ((A1) ⊕ ε)} (hc : lbO f key = c) (hl : okL f c) (hne : ∀ e, ∃ p, ex e = some p ∧ p.1 ≠ .normal)
    (h : ∀ a1, lz2 f k key (XE2 E f k c (st a1)) = (step a1).bind (Sum.elim (fun y => some (.normal, st y)) ex)) (a1 : A1) : XL2 E f k key (st a1) = (zg step a1).bind ex :=
  XLs (st := fun y => st y) hc hl hne (fun a1 => h a1) a1
theorem qgJ {E : Orc} {f k key : Nat} {c : Code} {A1 A2 ε : Type} {st : A1 → A2 → S} {ex : ε → XS} {step : (A1 × A2) → Option ((A1 × A2) ⊕ ε)} (hc : lbO f key = c) (hl : okL f c) (hne : ∀ e, ∃ p, ex e = some p ∧ p.1 ≠ .normal)
    (h : ∀ a1 a2, lz2 f k key (XE2 E f k c (st a1 a2)) = (step (a1, a2)).bind (Sum.elim (fun y => some (.normal, st y.1 y.2)) ex)) (a1 : A1) (a2 : A2) : XL2 E f k key (st a1 a2) = (zg step (a1, a2)).bind ex :=
  XLs (st := fun y => st y.1 y.2) hc hl hne (fun ⟨a1, a2⟩ => h a1 a2) (a1, a2)
theorem q1Y {α : Type} : ∀ (ys pre cs : List α), spl (pre ++ cs) pre.length ys = pre ++ spl cs 0 ys
  | [], _, _ => rfl
  | y :: ys, pre, [] => by
    have e : ∀ (zs : List α) (o : Nat), spl ([] : List α) o zs = [] := fun zs => by
      induction zs with
      | nil => intro o; rfl
      | cons z zs ih => intro o; rw [spl, List.set_nil, ih]
    have e2 : ∀ (zs : List α) (o : Nat), pre.length ≤ o → spl pre o zs = pre := fun zs => by
      induction zs with
      | nil => intro o _; rfl
      | cons z zs ih => intro o ho; rw [spl, List.set_eq_of_length_le ho, ih (o + 1) (by omega)]
    rw [e, List.append_nil, e2 _ _ (Nat.le_refl _)]
  | y :: ys, pre, c :: cs => by
    rw [spl, spl, List.set_append_right _ _ (Nat.le_refl _), Nat.sub_self, List.set_cons_zero]
    have h := q1Y ys (pre ++ [y]) cs
    have h2 := q1Y ys [y] cs
    rw [List.length_append, List.length_singleton, List.append_assoc, List.singleton_append] at h
    rw [List.length_singleton, List.singleton_append] at h2
    rw [h, Nat.zero_add, h2, List.append_assoc]
theorem q5M {α : Type} : ∀ (ys cs : List α), ys.length = cs.length → spl cs 0 ys = ys
  | [], cs, h => by rw [List.eq_nil_of_length_eq_zero h.symm]; rfl
  | y :: ys, [], h => by simp at h
  | y :: ys, c :: cs, h => by
    rw [spl, List.set_cons_zero]
    have := q1Y ys [y] cs
    rw [List.length_singleton, List.singleton_append] at this
    rw [Nat.zero_add, this, q5M ys cs (by simpa using h)]; rfl
theorem qaD {β : Type} {E : β → List D} {n : Nat} (hE : ∀ x, (E x).length = n) (v : List β) (z : List C) (hz : z.length = n) : spl (List.flatten (List.replicate v.length z)) 0 ((v.flatMap E).map C.d) = (v.flatMap E).map C.d :=
  q5M _ _ (by rw [List.length_map, Zz hE, List.length_flatten, List.map_replicate, List.sum_replicate_nat, hz])
theorem q3e (zs0 : List Nat) (h0 : zs0 ≠ []) : ∀ (z : List C) (r : List C) (zs : List Nat), z ≠ [] → z.length = (if zs = [] then zs0 else zs).length → dzc zs0 zs (z ++ r) = dzc zs0 zs z ++ dzc zs0 [] r
  | [], _, _, h, _ => absurd rfl h
  | [x], r, [], _, hl => by
    rw [if_pos rfl] at hl
    cases zs0 with
    | nil => exact absurd rfl h0
    | cons a t =>
      have : t = [] := List.eq_nil_of_length_eq_zero (by simpa using hl.symm)
      subst this
      simp [dzc]
  | [x], r, a :: t, _, hl => by
    rw [if_neg (by simp)] at hl
    have : t = [] := List.eq_nil_of_length_eq_zero (by simpa using hl.symm)
    subst this
    simp [dzc]
  | x :: y :: z, r, [], _, hl => by
    rw [if_pos rfl] at hl
    cases zs0 with
    | nil => exact absurd rfl h0
    | cons a t =>
      have ht : t ≠ [] := fun e => by subst e; simp at hl
      have := q3e (a :: t) h0 (y :: z) r t (by simp) (by rw [if_neg ht]; simpa using hl)
      simp only [List.cons_append, dzc, List.tail_cons, List.headD_cons] at this ⊢
      rw [← this]
  | x :: y :: z, r, a :: t, _, hl => by
    rw [if_neg (by simp)] at hl
    have ht : t ≠ [] := fun e => by subst e; simp at hl
    have := q3e zs0 h0 (y :: z) r t (by simp) (by rw [if_neg ht]; simpa using hl)
    simp only [List.cons_append, dzc] at this ⊢
    rw [← this]
theorem q7h (zs0 : List Nat) (z : List C) (h : z.length = zs0.length) (h0 : z ≠ []) : ∀ n : Nat, dzc zs0 [] (List.flatten (List.replicate n z)) = List.flatten (List.replicate n (dzc zs0 [] z))
  | 0 => rfl
  | n + 1 => by
    have hz : zs0 ≠ [] := fun e => h0 (List.eq_nil_of_length_eq_zero (by rw [h, e]; rfl))
    rw [List.replicate_succ, List.flatten_cons, List.replicate_succ, List.flatten_cons, q3e zs0 hz z _ [] h0 (by rw [if_pos rfl]; exact h), q7h zs0 z h h0 n]
def dzU (Q : TypeId → List Nat) : B → B
  | .row e sz cs => .row e sz (dzc (Q e) [] cs)
  | b => b
theorem qcP (z : Nat) {c : C} (h : c.isNils = false) : dz z c = c := by
  cases c <;> first | rfl | cases h
theorem q2C (zs0 : List Nat) : ∀ {cs : List C} (zs : List Nat), cs.any C.isNils = false → dzc zs0 zs cs = cs
  | [], zs, _ => by cases zs <;> rfl
  | c :: cs, zs, h => by
    rw [List.any_cons, Bool.or_eq_false_iff] at h
    cases zs with
    | nil => rw [dzc, qcP _ h.1, q2C zs0 _ h.2]
    | cons z zs => rw [dzc, qcP _ h.1, q2C zs0 _ h.2]
theorem qgf (Q : TypeId → List Nat) (b : B) : dzB Q b = dzU Q b := by
  cases b with
  | row e sz cs =>
    unfold dzB dzU
    simp only
    split
    · rfl
    · rename_i h
      rw [q2C _ _ (by simpa using h)]
  | _ => rfl
theorem qet (Q : TypeId → List Nat) (b : B) (h : b.nilr = false) : dzU Q b = b := by
  cases b with
  | row e sz cs => unfold dzU; simp only; rw [q2C _ _ h]
  | _ => rfl
theorem qfi (tm : List (Nat × R)) (hp : List (Nat × B)) (nx n : Nat) (Q : TypeId → List Nat) : S.dzr (S.mk tm hp nx n) Q = S.mk tm (hp.map fun x => (x.1, dzU Q x.2)) nx n := by
  unfold S.dzr
  split
  · simp only [qgf]
  · rename_i h
    congr 1
    have h2 : ∀ x ∈ hp, x.2.nilr = false := fun x hx => by
      cases hb : x.2.nilr with
      | false => rfl
      | true => exact absurd (List.any_eq_true.2 ⟨x, hx, hb⟩) h
    refine (List.map_id' hp).symm.trans (List.map_congr_left fun x hx => ?_)
    rw [qet Q x.2 (h2 x hx)]
theorem qbR (Q : TypeId → List Nat) (e sz : Nat) (cs : List C) : dzU Q (.row e sz cs) = .row e sz (dzc (Q e) [] cs) := rfl
theorem qbA (Q : TypeId → List Nat) (t : Nat) (cs : List C) : dzU Q (.blk t cs) = .blk t cs := rfl
theorem qcR (Q : TypeId → List Nat) (o : AO) : dzU Q (.ob o) = .ob o := rfl
theorem q8g (Q : TypeId → List Nat) : dzU Q .dead = .dead := rfl
theorem qbB {α : Type} (x : α) : Option.toArray (some x) = [x].toArray := rfl
theorem qau {α : Type} : Option.toArray (none : Option α) = ([] : List α).toArray := rfl
theorem qcJ {α : Type} (l m : List α) : l.toArray ++ m.toArray = (l ++ m).toArray := by simp
theorem qbi {α : Type} (l : List α) : Array.toList l.toArray = l := rfl
end Go.Proofs.Ytbcmefmnbpdfdaa.Vc
namespace Go.Proofs.Ytbcmefmnbpdfdaa.Vc
open Go.RowKit
set_option linter.unusedVariables false
set_option linter.unusedSimpArgs false
section
variable {κ ν : Type} [DecidableEq κ]
end
section
variable {κ ν : Type} {kE : κ → Value} {vE : ν → R}
variable [DecidableEq κ] (hk : ∀ a b, kq (kE a) (kE b) = decide (a = b))
include hk
end
section
variable {κ ν : Type} {kE : κ → Value} {vE : ν → R} [DecidableEq κ]
end
section
variable {κ ν : Type} {kE : κ → Value} {vE : ν → R} [DecidableEq κ] (hk : ∀ a b, kq (kE a) (kE b) = decide (a = b)) {kt : Kd} (hp : ∀ a, plK kt (kE a) = true)
include hk hp
end
end Go.Proofs.Ytbcmefmnbpdfdaa.Vc
namespace Go.Proofs.Ytbcmefmnbpdfdaa.Vc
open Go.RowKit
set_option linter.unusedSectionVars false
end Go.Proofs.Ytbcmefmnbpdfdaa.Vc
namespace Go.Proofs.Ytbcmefmnbpdfdaa.Vc
open Go.RowKit
set_option linter.defProp false
set_option linter.unusedVariables false
def bx0 := JA_ @S.ly.eq_1 (JA_ @alC.eq_1 (JA_ @alC.eq_2 (JA_ @alX.eq_2 (JA_ @ipX.eq_1 (JA_ @qfM.eq_1 (JA_ @qfM.eq_2 (JA_ @q4y.eq_1 (JA_ @q9l.eq_2 (JA_ @zmk.eq_1 (JA_ @zmk.eq_2 (JA_ @S.fin.eq_1 (JA_ @S.fn1.eq_1 (JA_ @S.inr.eq_1 (JA_ @q6a.eq_1 (JA_ @prx.eq_1 (JA_ @pr0.eq_1 (JA_ @List.isEmpty_nil.{0} (JA_ @List.isEmpty_cons.{0} (JA_ @wbC.eq_1 (JA_ @B.beq.eq_1 (JA_ @B.beq.eq_3 (JA_ @C.beqL.eq_1 (@C.beqL.eq_2)))))))))))))))))))))))
def bx1 := JA_ @C.beq0.eq_1 (JA_ @D.beq.eq_1 (JA_ @D.beq.eq_4 (JA_ @qgY.eq_1 (JA_ @dzc.eq_2 (JA_ @dzc.eq_3 (JA_ @C.isNils.eq_2 (JA_ @q8k (JA_ @Zr.eq_1 (JA_ @q03.eq_1 (JA_ @q03.eq_2 (JA_ @q8C.eq_1 (JA_ @fpA.eq_1 (JA_ @q4D.eq_1 (JA_ @S.kill.eq_1 (JA_ @qbM.eq_1 (JA_ @qbM.eq_2 (@q5o.eq_1)))))))))))))))))
def bx2 := JA_ @qeh.eq_1 (JA_ @okX.eq_1 (JA_ @okX.eq_2 (JA_ @okK.eq_1 (JA_ @okN.eq_1 (JA_ @okN.eq_2 (JA_ @qbz.eq_1 (JA_ @qbz.eq_2 (JA_ @qcp.eq_1 (JA_ @qcp.eq_2 (JA_ @Jh.eq_1 (JA_ @q6T.eq_1 (JA_ @Zb.eq_1 (JA_ @q6i.eq_1 (JA_ @Jq.eq_1 (@J6.eq_1)))))))))))))))
def bx3 := JA_ @q0A.eq_1 (JA_ @q5l.eq_1 (@q5B.eq_1))
def bx4 := JA_ @B.isOb.eq_2 (JA_ @AO.mapR.eq_3 (JA_ @AO.Rs.eq_3 (JA_ @xgd.eq_1 (JA_ @xgF.eq_1 (JA_ @xo.eq_1 (JA_ @xo.eq_2 (JA_ @xo.eq_3 (JA_ @xo.eq_4 (JA_ @xo.eq_5 (JA_ @xo.eq_6 (JA_ @xo.eq_7 (JA_ @xo.eq_8 (JA_ @xo.eq_9 (JA_ @xo.eq_10 (JA_ @xo.eq_11 (JA_ @xo.eq_12 (JA_ @xo.eq_13 (JA_ @xo.eq_14 (JA_ @xo.eq_15 (JA_ @xo.eq_16 (JA_ @xo.eq_17 (JA_ @xo.eq_19 (JA_ @xo.eq_21 (@xo.eq_22))))))))))))))))))))))))
def bx5 := JA_ @xo.eq_29 (JA_ @xo.eq_30 (JA_ @xCl.eq_1 (JA_ @pre.eq_1 (JA_ @pre.eq_2 (JA_ @q5V.eq_1 (JA_ @QI.eq_1 (JA_ @q1H.eq_1 (JA_ @q3Y.eq_1 (JA_ @q3g.eq_1 (JA_ @ZZ.eq_1 (JA_ @Z6.eq_2 (JA_ @Z6.eq_3 (JA_ @qgW.eq_1 (JA_ @q59.eq_1 (JA_ @q59.eq_2 (JA_ @cvR.eq_1 (JA_ @cvR.eq_2 (JA_ @cvL.eq_1 (JA_ @cvL.eq_2 (JA_ @q7i.eq_1 (JA_ @q7i.eq_2 (JA_ @cv.eq_1 (JA_ @cv.eq_2 (JA_ @cv0.eq_1 (@cv0.eq_5)))))))))))))))))))))))))
def bx6 := JA_ @cv0.eq_8 (JA_ @cvG.eq_1 (JA_ @cvG.eq_2 (JA_ @cvB.eq_1 (JA_ @vis.eq_1 (JA_ @q2b.eq_1 (JA_ @q2b.eq_2 (JA_ @Zt (JA_ @qaO.eq_1 (JA_ @pos.eq_2 (JA_ @q8n.eq_1 (JA_ @q8B.eq_1 (JA_ @q3T.eq_1 (JA_ @qfN.eq_1 (JA_ @ZM.eq_1 (JA_ @Zy.eq_1 (JA_ @Zv.eq_1 (JA_ @q0z.eq_1 (JA_ @Jj.eq_1 (JA_ @q4A.eq_1 (JA_ @q4A.eq_2 (JA_ @q4A.eq_3 (JA_ @q4A.eq_5 (JA_ @q4A.eq_10 (JA_ @q4A.eq_11 (@q4A.eq_12)))))))))))))))))))))))))
def bx7 := JA_ @q4A.eq_13 (JA_ @q4A.eq_14 (JA_ @q4A.eq_15 (JA_ @qbL.eq_2 (JA_ @qbL.eq_3 (JA_ @qbL.eq_6 (JA_ @qbL.eq_7 (JA_ @qeR.eq_1 (JA_ @qeR.eq_2 (JA_ @qfw.eq_2 (JA_ @qfG.eq_1 (JA_ @qfA.eq_1 (JA_ @qfq.eq_1 (JA_ @qfV.eq_1 (JA_ @q7I.eq_1 (JA_ @q4a.eq_1 (JA_ @Q7.eq_1 (JA_ @J4.eq_1 (JA_ @q3z.eq_1 (@ZP.eq_1)))))))))))))))))))
def bx8 := JA_ @Kd.isSl.eq_1 (JA_ @nrm.eq_1 (JA_ @qaE.eq_1 (JA_ @qgC.eq_1 (JA_ @rng.eq_1 (JA_ @rng.eq_2 (JA_ @rwAll.eq_1 (JA_ @rwAll.eq_2 (JA_ @rw1.eq_1 (JA_ @rw1.eq_2 (JA_ @cn.eq_1 (JA_ @cn.eq_2 (JA_ @cn0.eq_1 (JA_ @cn0.eq_2 (JA_ @cn0.eq_3 (JA_ @cn0.eq_5 (JA_ @cnR.eq_2 (JA_ @q7o.eq_1 (JA_ @q7o.eq_2 (JA_ @q7o.eq_3 (JA_ @cnB.eq_1 (JA_ @cnB.eq_2 (JA_ @cnB.eq_3 (JA_ @cnH.eq_1 (JA_ @cnH.eq_2 (JA_ @qeW (JA_ @qB.eq_1 (JA_ @qB.eq_2 (JA_ @qcr.eq_1 (JA_ @q4W.eq_1 (JA_ @q1o.eq_1 (JA_ @q4L.eq_1 (@q1l.eq_1))))))))))))))))))))))))))))))))
def bx9 := JA_ @q3t.eq_1 (JA_ @q1f.eq_1 (JA_ @q1f.eq_2 (JA_ @S.frz.eq_1 (JA_ @S.frz.eq_2 (JA_ @S.frz1.eq_1 (JA_ @fz.eq_2 (JA_ @fz0.eq_1 (JA_ @fz0.eq_2 (JA_ @fz0.eq_5 (JA_ @fzR.eq_1 (JA_ @fzR.eq_2 (JA_ @q7m.eq_1 (JA_ @q7m.eq_2 (JA_ @q7m.eq_3 (JA_ @fzB.eq_1 (JA_ @fzB.eq_2 (JA_ @fzB.eq_4 (JA_ @qcN (JA_ @dz.eq_1 (JA_ @dz.eq_2 (JA_ @dzL.eq_1 (JA_ @dzL.eq_2 (JA_ @dzR.eq_1 (JA_ @dzR.eq_2 (JA_ @q4T.eq_1 (JA_ @q4T.eq_2 (JA_ @one.eq_1 (JA_ @one.eq_2 (JA_ @rvs.eq_1 (JA_ @rvs.eq_2 (JA_ @q9V.eq_1 (JA_ @q9V.eq_2 (JA_ @tt.eq_1 (@ff.eq_1))))))))))))))))))))))))))))))))))
def qiz := JA_ @q2i.eq_1 (JA_ @q2i.eq_2 (JA_ @C.ref0.eq_1 (JA_ @C.ref0.eq_2 (JA_ @C.ref0.eq_3 (JA_ @C.ref0.eq_4 (JA_ @C.refs.eq_1 (JA_ @C.refs.eq_2 (JA_ @B.refs.eq_1 (JA_ @B.refs.eq_2 (JA_ @B.refs.eq_3 (JA_ @B.refs.eq_4 (JA_ @R.refs.eq_1 (JA_ @R.refs.eq_2 (JA_ @R.refs.eq_4 (JA_ @C.rows0.eq_1 (JA_ @C.rows0.eq_2 (JA_ @C.rows.eq_1 (JA_ @C.rows.eq_2 (JA_ @R.rows.eq_1 (JA_ @R.rows.eq_2 (JA_ @C.ptrs0.eq_1 (JA_ @C.ptrs0.eq_3 (JA_ @C.ptrs.eq_1 (JA_ @C.ptrs.eq_2 (JA_ @R.ptrs.eq_1 (JA_ @R.ptrs.eq_2 (JA_ @B.isBlk.eq_1 (JA_ @B.isBlk.eq_3 (JA_ @R.scl.eq_1 (JA_ @R.scl.eq_2 (JA_ @R.scl0.eq_1 (@R.scl0.eq_2))))))))))))))))))))))))))))))))
def qjK := JA_ @C.scl.eq_2 (JA_ @C.scl0.eq_1 (JA_ @C.scl0.eq_4 (JA_ @B.scl.eq_1 (JA_ @B.scl.eq_2 (JA_ @C.dat.eq_2 (JA_ @C.dat0.eq_1 (JA_ @ren.eq_1 (JA_ @R.rn.eq_1 (JA_ @R.rn.eq_2 (JA_ @R.rn0.eq_1 (JA_ @R.rn0.eq_2 (JA_ @C.rn.eq_2 (JA_ @C.rn0.eq_3 (JA_ @C.rn0.eq_5 (JA_ @B.rn.eq_1 (JA_ @B.rn.eq_2 (JA_ @qdC (JA_ @S.aft.eq_1 (@S.fgL.eq_1)))))))))))))))))))
def qik := JA_ @C.farL.eq_3 (JA_ @C.farL.eq_5 (JA_ @R.farL.eq_1 (JA_ @B.farL.eq_2 (JA_ @qfp.eq_3 (JA_ @qbD.eq_1 (JA_ @qbD.eq_2 (JA_ @S.ev.eq_1 (JA_ @S.ev.eq_2 (JA_ @S.ev.eq_3 (JA_ @S.get.eq_1 (JA_ @S.blk.eq_1 (JA_ @S.put.eq_1 (JA_ @S.put.eq_2 (@S.up.eq_1))))))))))))))
def qij := JA_ @S.bd.eq_1 (JA_ @S.bd.eq_2 (JA_ @S.seq.eq_1 (JA_ @S.cell1.eq_1 (JA_ @lk.eq_1 (JA_ @lk.eq_2 (JA_ @ZX.eq_1 (JA_ @ZX.eq_2 (JA_ @ZX.eq_3 (JA_ @ZX.eq_6 (JA_ @Z0.eq_1 (JA_ @Z0.eq_2 (JA_ @qbE (JA_ @ldx.eq_1 (JA_ @bld.eq_1 (JA_ @bld.eq_2 (JA_ @spl.eq_1 (JA_ @spl.eq_2 (JA_ @Qa.eq_1 (JA_ @Ty.foff.eq_1 (JA_ @R.cells.eq_1 (JA_ @R.cells.eq_2 (JA_ @R.parts.eq_1 (JA_ @R.parts.eq_2 (JA_ @B.cells.eq_1 (JA_ @B.cells.eq_2 (JA_ @B.live.eq_1 (JA_ @B.live.eq_2 (@C.known.eq_2))))))))))))))))))))))))))))
def qio := JA_ @C.far.eq_5 (JA_ @S.fg.eq_1 (JA_ @R.fg.eq_1 (JA_ @R.fg.eq_2 (JA_ @R.fg.eq_3 (JA_ @R.fg.eq_4 (JA_ @B.fg.eq_1 (JA_ @B.fg.eq_2 (JA_ @B.fg.eq_4 (JA_ @C.fg.eq_1 (JA_ @C.fg.eq_3 (JA_ @C.fg.eq_5 (JA_ @D1.eq_1 (JA_ @QX.eq_1 (JA_ @QX.eq_2 (JA_ @QX.eq_3 (JA_ @QX.eq_4 (JA_ @QX.eq_6 (JA_ @QX.eq_7 (JA_ @QX.eq_8 (JA_ @QX.eq_9 (JA_ @QX.eq_10 (JA_ @QX.eq_11 (JA_ @QX.eq_12 (JA_ @QX.eq_14 (JA_ @QX.eq_15 (@QX.eq_17))))))))))))))))))))))))))
def qjL := JA_ @QX.eq_23 (JA_ @QX.eq_24 (JA_ @q6b.eq_1 (JA_ @q6b.eq_2 (JA_ @q6b.eq_4 (JA_ @q6b.eq_5 (JA_ @q1b.eq_3 (JA_ @q1b.eq_5 (JA_ @q1b.eq_6 (JA_ @q6O.eq_1 (JA_ @q6O.eq_3 (JA_ @q6O.eq_4 (JA_ @q6O.eq_5 (JA_ @fpC.eq_1 (JA_ @qd0.eq_1 (JA_ @qe4.eq_1 (JA_ @qfr.eq_1 (JA_ @C.lt0.eq_4 (JA_ @C.ltn.eq_2 (JA_ @R.lt0.eq_1 (JA_ @R.ltn.eq_2 (JA_ @B.ltn.eq_1 (JA_ @B.ltn.eq_4 (JA_ @Zn.eq_1 (JA_ @Fp.none?.eq_1 (@okP.eq_1)))))))))))))))))))))))))
def qjj := JA_ @okP.eq_2 (JA_ @q8e (JA_ @q7N (JA_ @qbT (JA_ @q80 (JA_ @q8i (JA_ @q8v (JA_ @qbo (JA_ @q7U (JA_ @q7B (JA_ @q8J (JA_ @q4X (JA_ @qb5 (JA_ @q8l (JA_ @q7E (JA_ @qax (JA_ @q7G (JA_ @q8r (JA_ @q81 (JA_ @qck (JA_ @q82 (JA_ @q8s (JA_ @q8N (JA_ @qbX (JA_ @q8h (JA_ @qbQ (JA_ @q5G (JA_ @qaS (JA_ @q8b (JA_ @q7X (@qcH))))))))))))))))))))))))))))))
def qk8 := JA_ @C.farF.eq_2 (JA_ @Go.Op.operands.eq_1 (JA_ @Go.Op.operands.eq_4 (JA_ @Go.Op.operands.eq_5 (JA_ @Go.Op.operands.eq_7 (JA_ @Go.Op.operands.eq_8 (JA_ @Go.Op.operands.eq_9 (JA_ @Go.Op.operands.eq_10 (JA_ @Go.Op.operands.eq_14 (JA_ @Go.Op.operands.eq_23 (JA_ @Go.Op.operands.eq_24 (JA_ @Go.Op.operands.eq_25 (JA_ @Go.Op.operands.eq_26 (JA_ @Go.Op.operands.eq_27 (JA_ @Go.Op.operands.eq_29 (@Go.Op.operands.eq_36)))))))))))))))
def qjz := JA_ @Go.Op.operands.eq_40 (JA_ @qeu (JA_ @qdH (JA_ @qei.eq_1 (JA_ @qei.eq_2 (JA_ @Option.toList_some.{0} (JA_ @Option.toList_none.{0} (JA_ @List.getElem?_nil.{0} (JA_ @List.drop_zero.{0} (JA_ @Int.cast_ofNat_Int (JA_ @Int.le_refl (JA_ @Nat.le_refl (JA_ @Option.bind_assoc.{0,0,0} (JA_ @List.any_nil.{0} (JA_ @List.any_cons.{0} (JA_ @List.getD_cons_zero.{0} (JA_ @List.getD_cons_succ.{0} (JA_ @true_and (JA_ @and_true (JA_ @false_and (JA_ @Option.some.injEq.{0} (JA_ @Prod.mk.injEq.{0,0} (JA_ @Option.bind_some.{0,0} (JA_ @Option.bind_none.{0,0} (JA_ @Option.map_some.{0,0} (JA_ @Option.map_none.{0,0} (JA_ @Option.getD_some.{0} (JA_ @Option.getD_none.{0} (JA_ @ne_eq.{1} (@not_false_eq_true)))))))))))))))))))))))))))))
def qjB := JA_ @or_false (JA_ @Bool.false_eq_true (JA_ @List.map_cons.{0,0} (JA_ @List.map_nil.{0,0} (JA_ @List.all_cons.{0} (JA_ @List.all_nil.{0} (JA_ @Bool.and_true (JA_ @Bool.true_and (JA_ @Bool.and_false (JA_ @Bool.false_and (JA_ @Bool.and_eq_true (JA_ @Bool.or_true (JA_ @Bool.true_or (JA_ @Bool.or_false (JA_ @Bool.false_or (JA_ @List.length_cons.{0} (JA_ @List.length_nil.{0} (JA_ @List.length_map.{0,0} (JA_ @List.getElem?_cons_zero.{0} (JA_ @List.getElem?_cons_succ.{0} (JA_ @List.foldl_cons.{0,0} (JA_ @List.foldl_nil.{0,0} (JA_ @List.cons_append.{0} (JA_ @List.nil_append.{0} (JA_ @List.append_nil.{0} (JA_ @Nat.max_def (JA_ @decide_true (JA_ @decide_false (JA_ @decide_not (JA_ @decide_eq_true_eq (JA_ @Nat.zero_le (JA_ @Nat.zero_mul (JA_ @Nat.mul_one (JA_ @Nat.one_mul (JA_ @Nat.add_zero (JA_ @Nat.zero_add (JA_ @Int.toNat_natCast (@List.mapM_cons.{0,0,0})))))))))))))))))))))))))))))))))))))
def qjr := JA_ @List.mapM_nil.{0,0,0} (JA_ @List.drop_succ_cons.{0} (JA_ @List.drop_nil.{0} (JA_ @List.take_succ_cons.{0} (JA_ @List.replicate_succ.{0} (JA_ @List.replicate_zero.{0} (JA_ @List.set_cons_zero.{0} (JA_ @List.set_cons_succ.{0} (JA_ @and_self (JA_ @Bool.not_true (JA_ @Bool.not_false (JA_ @List.contains_cons.{0} (JA_ @List.contains_nil.{0} (JA_ @List.flatMap_cons.{0,0} (JA_ @List.flatMap_nil.{0,0} (JA_ @List.filter_cons.{0} (JA_ @List.filter_nil.{0} (JA_ @List.eraseDups_cons.{0} (JA_ @List.eraseDups_nil.{0} (JA_ @List.nodup_cons.{0} (JA_ @List.nodup_nil.{0} (JA_ @List.mem_cons.{0} (JA_ @List.not_mem_nil.{0} (JA_ @List.headD_cons.{0} (JA_ @List.headD_nil.{0} (JA_ @List.tail_cons.{0} (JA_ @List.tail_nil.{0} (JA_ @beq_self_eq_true.{0} (JA_ @Q0 (JA_ @List.range_succ (JA_ @List.range_zero (JA_ @ite_self.{1} (JA_ @qbB (JA_ @qau (JA_ @qcJ (JA_ @qbi (@qfi))))))))))))))))))))))))))))))))))))
def qjD := JA_ @qbR (JA_ @qbA (JA_ @qcR (JA_ @q8g (JA_ @q2C (JA_ @q7h (JA_ @Nat.min_self (JA_ @List.take_length.{0} (JA_ @qc4 (JA_ @qd1 (JA_ @qc2 (JA_ @qe7 (JA_ @q8A (JA_ @qbe (JA_ @q7b (@qbn)))))))))))))))
def qjg := JA_ @qb8 (JA_ @q4U (JA_ @qb9 (JA_ @q7M (JA_ @q89 (JA_ @qbh (JA_ @q8d (JA_ @qaF (JA_ @q8a (JA_ @q4S (JA_ @qbs (JA_ @q8Q (JA_ @q8V (JA_ @qb6 (JA_ @q8w (JA_ @qaJ (JA_ @q8t (JA_ @qbk (JA_ @qbb (JA_ @q83 (JA_ @qia (JA_ @qiH (JA_ @qgO (JA_ @qgd (JA_ @qga (JA_ @qcz (JA_ @qed (JA_ @qdi (JA_ @qgB (@qdp)))))))))))))))))))))))))))))
def qjm := JA_ @qe6 (JA_ @qe9 (JA_ @qaA (JA_ @qbY (JA_ @qd5 (JA_ @qc8 (JA_ @qcX (JA_ @qeK (JA_ @Sum.elim_inl.{0,1,0} (JA_ @Sum.elim_inr.{0,1,0} (JA_ @qbI (JA_ @q6u (JA_ @q5j (JA_ @qfR.eq_1 (JA_ @q6v (@qbm)))))))))))))))
def qiy := JA_ @qcl (JA_ @qbG (JA_ @q3d (JA_ @q2y (JA_ @qd6 (JA_ @qgR.eq_1 (JA_ @List.length_append.{0} (JA_ @List.length_modify.{0} (JA_ @q6Q (@List.take_nil.{0})))))))))
theorem qit (a0 a1 a2 a3 : Int) (i : Nat) : ([C.d (D.int .i64 a0), C.d (D.int .i64 a1), C.d (D.int .i64 a2), C.d (D.int .i64 a3)] : List C)[i]? = ([a0, a1, a2, a3][i]?).bind fun x => some (C.d (D.int .i64 x)) := by rw [show ([C.d (D.int .i64 a0), C.d (D.int .i64 a1), C.d (D.int .i64 a2), C.d (D.int .i64 a3)] : List C) = [a0, a1, a2, a3].map (fun x => C.d (D.int .i64 x)) from rfl, List.getElem?_map]; cases ([a0, a1, a2, a3] : List Int)[i]? <;> rfl
theorem qju (a0 a1 a2 a3 a4 : Int) (i : Nat) : ([C.d (D.int .i64 a0), C.d (D.int .i64 a1), C.d (D.int .i64 a2), C.d (D.int .i64 a3), C.d (D.int .i64 a4)] : List C)[i]? = ([a0, a1, a2, a3, a4][i]?).bind fun x => some (C.d (D.int .i64 x)) := by rw [show ([C.d (D.int .i64 a0), C.d (D.int .i64 a1), C.d (D.int .i64 a2), C.d (D.int .i64 a3), C.d (D.int .i64 a4)] : List C) = [a0, a1, a2, a3, a4].map (fun x => C.d (D.int .i64 x)) from rfl, List.getElem?_map]; cases ([a0, a1, a2, a3, a4] : List Int)[i]? <;> rfl
theorem qiQ (a0 a1 a2 a3 a4 a5 : Int) (i : Nat) : ([C.d (D.int .i64 a0), C.d (D.int .i64 a1), C.d (D.int .i64 a2), C.d (D.int .i64 a3), C.d (D.int .i64 a4), C.d (D.int .i64 a5)] : List C)[i]? = ([a0, a1, a2, a3, a4, a5][i]?).bind fun x => some (C.d (D.int .i64 x)) := by rw [show ([C.d (D.int .i64 a0), C.d (D.int .i64 a1), C.d (D.int .i64 a2), C.d (D.int .i64 a3), C.d (D.int .i64 a4), C.d (D.int .i64 a5)] : List C) = [a0, a1, a2, a3, a4, a5].map (fun x => C.d (D.int .i64 x)) from rfl, List.getElem?_map]; cases ([a0, a1, a2, a3, a4, a5] : List Int)[i]? <;> rfl
def bz0 := JA_ @qit (JA_ @qju (@qiQ))
end Go.Proofs.Ytbcmefmnbpdfdaa.Vc
namespace Go.Proofs.Ytbcmefmnbpdfdaa.Vc
open Go.RowKit
set_option linter.unusedVariables false
set_option linter.unusedSimpArgs false
structure qcD (α : Type) where
  a0 : α
  a1 : α
  a2 : α
structure qe where
  Code : ByteArray
  Credits : Int
def qd (x : qe) : List D := [D.str x.Code, D.int .i64 x.Credits]
theorem QZ (x : qe) : qd x = [D.str x.Code, D.int .i64 x.Credits] := rfl
theorem q1j (x : qe) : (qd x).length = 2 := rfl
theorem q1n (x : qe) : qe.mk x.Code x.Credits = x := rfl
structure qm where
  Num : Int
  Add : Int
  Den : Int
  Round : Int
theorem q1g (x : qm) : qm.mk x.Num x.Add x.Den x.Round = x := rfl
structure qa where
  Id : Int
  From : Int
  To : Int
  Begin : Int
  End : Int
  In : List ByteArray
  Out : List qe
  Conv : qm
def qc (x : qa) : List D := [D.int .i64 x.Id, D.int .i64 x.From, D.int .i64 x.To, D.int .i64 x.Begin, D.int .i64 x.End, D.sl 1 x.In.length (x.In.flatMap eS), D.sl 2 x.Out.length (x.Out.flatMap qd), D.int .i64 x.Conv.Num, D.int .i64 x.Conv.Add, D.int .i64 x.Conv.Den, D.int .i64 x.Conv.Round]
theorem qt (x : qa) : qc x = [D.int .i64 x.Id, D.int .i64 x.From, D.int .i64 x.To, D.int .i64 x.Begin, D.int .i64 x.End, D.sl 1 x.In.length (x.In.flatMap eS), D.sl 2 x.Out.length (x.Out.flatMap qd), D.int .i64 x.Conv.Num, D.int .i64 x.Conv.Add, D.int .i64 x.Conv.Den, D.int .i64 x.Conv.Round] := rfl
theorem J0 (x : qa) : (qc x).length = 11 := rfl
theorem J3 (x : qa) : qa.mk x.Id x.From x.To x.Begin x.End x.In x.Out x.Conv = x := rfl
structure qb where
  L : List Int
  At : Int
theorem q0i (x : qb) : qb.mk x.L x.At = x := rfl
theorem qbq : ∀ x : (List Int), ((eL 1 eI) x).length = 1 := fun _ => rfl
theorem q52 (v : List (List Int)) (i : Nat) : ld T ((v.flatMap (eL 1 eI)).map C.d) (i) 41 = (v[i]?).bind fun x => some (.c (.d (D.sl 1 x.length (x.flatMap eI)))) := by rw [q0q qbq v i _ (by decide)]; cases v[i]? with | none => rfl | some x => rfl
theorem Qq : ∀ x : qa, (qc x).length = 11 := J0
theorem qfl (v : List qa) : (v.flatMap qc).length = v.length * 11 := by rw [Zz Qq]
theorem q4J (v : List qa) (i : Nat) : ld T ((v.flatMap qc).map C.d) (i * 11) 36 = (v[i]?).bind fun x => some (.agg [.d (D.int .i64 x.Id), .d (D.int .i64 x.From), .d (D.int .i64 x.To), .d (D.int .i64 x.Begin), .d (D.int .i64 x.End), .d (D.sl 1 x.In.length (x.In.flatMap eS)), .d (D.sl 2 x.Out.length (x.Out.flatMap qd)), .d (D.int .i64 x.Conv.Num), .d (D.int .i64 x.Conv.Add), .d (D.int .i64 x.Conv.Den), .d (D.int .i64 x.Conv.Round)]) := by rw [q2j Qq v i _ (by decide) (by decide)]; cases v[i]? with | none => rfl | some x => rw [Option.bind_some, Option.bind_some, qt]; rfl
theorem q60 (v : List qa) (i : Nat) : ld T ((v.flatMap qc).map C.d) (i * 11) 3 = (v[i]?).bind fun x => some (.c (.d (D.int .i64 x.Id))) := by rw [q2j Qq v i _ (by decide) (by decide)]; cases v[i]? with | none => rfl | some x => rw [Option.bind_some, Option.bind_some, qt]; rfl
theorem q6h (v : List qa) (i : Nat) : ld T ((v.flatMap qc).map C.d) (i * 11 + 3) 3 = (v[i]?).bind fun x => some (.c (.d (D.int .i64 x.Begin))) := by rw [JE Qq v i 3 _ (by decide) (by decide)]; cases v[i]? with | none => rfl | some x => rw [Option.bind_some, Option.bind_some, qt]; rfl
theorem q5d (v : List qa) (i : Nat) : ld T ((v.flatMap qc).map C.d) (i * 11 + 4) 3 = (v[i]?).bind fun x => some (.c (.d (D.int .i64 x.End))) := by rw [JE Qq v i 4 _ (by decide) (by decide)]; cases v[i]? with | none => rfl | some x => rw [Option.bind_some, Option.bind_some, qt]; rfl
theorem q51 (v : List qa) (i : Nat) : ld T ((v.flatMap qc).map C.d) (i * 11 + 5) 31 = (v[i]?).bind fun x => some (.c (.d (D.sl 1 x.In.length (x.In.flatMap eS)))) := by rw [JE Qq v i 5 _ (by decide) (by decide)]; cases v[i]? with | none => rfl | some x => rw [Option.bind_some, Option.bind_some, qt]; rfl
theorem q55 (v : List qa) (i : Nat) : ld T ((v.flatMap qc).map C.d) (i * 11 + 6) 32 = (v[i]?).bind fun x => some (.c (.d (D.sl 2 x.Out.length (x.Out.flatMap qd)))) := by rw [JE Qq v i 6 _ (by decide) (by decide)]; cases v[i]? with | none => rfl | some x => rw [Option.bind_some, Option.bind_some, qt]; rfl
theorem q8X (v : List qa) : spl (List.flatten (List.replicate v.length [C.d (D.int .i64 0), C.d (D.int .i64 0), C.d (D.int .i64 0), C.d (D.int .i64 0), C.d (D.int .i64 0), C.nils, C.nils, C.d (D.int .i64 0), C.d (D.int .i64 0), C.d (D.int .i64 0), C.d (D.int .i64 0)])) 0 ((v.flatMap qc).map C.d) = (v.flatMap qc).map C.d := qaD Qq v _ rfl
theorem qeA (v : List qa) (a_Id : Int) (a_From : Int) (a_To : Int) (a_Begin : Int) (a_End : Int) (a_In : List ByteArray) (a_Out : List qe) (a_Conv_Num : Int) (a_Conv_Add : Int) (a_Conv_Den : Int) (a_Conv_Round : Int) : (v.flatMap qc).map C.d ++ [C.d (D.int .i64 a_Id), C.d (D.int .i64 a_From), C.d (D.int .i64 a_To), C.d (D.int .i64 a_Begin), C.d (D.int .i64 a_End), C.d (D.sl 1 a_In.length (a_In.flatMap eS)), C.d (D.sl 2 a_Out.length (a_Out.flatMap qd)), C.d (D.int .i64 a_Conv_Num), C.d (D.int .i64 a_Conv_Add), C.d (D.int .i64 a_Conv_Den), C.d (D.int .i64 a_Conv_Round)] = ((v ++ [(qa.mk a_Id a_From a_To a_Begin a_End a_In a_Out (qm.mk a_Conv_Num a_Conv_Add a_Conv_Den a_Conv_Round))]).flatMap qc).map C.d := by have h := q3r (E := qc) v (qa.mk a_Id a_From a_To a_Begin a_End a_In a_Out (qm.mk a_Conv_Num a_Conv_Add a_Conv_Den a_Conv_Round)); rw [qt] at h; exact h
theorem q8u (v : List qa) (i : Nat) (b : Int) : spr ((v.flatMap qc).map C.d) (i * 11 + 4) [C.d (D.int .i64 b)] = ((v.modify i fun x => { x with End := b }).flatMap qc).map C.d := by have h := q4o Qq (fo := 4) (d := D.int .i64 b) (fun x => { x with End := b }) (by decide) (fun x => by rw [qt, qt]; rfl) v i; rw [← h]; exact (q1W C.d [D.int .i64 b] _ _)
theorem q7y (v : List qa) (i : Nat) (b : List ByteArray) : spr ((v.flatMap qc).map C.d) (i * 11 + 5) [C.d (D.sl 1 b.length (b.flatMap eS))] = ((v.modify i fun x => { x with In := b }).flatMap qc).map C.d := by have h := q4o Qq (fo := 5) (d := D.sl 1 b.length (b.flatMap eS)) (fun x => { x with In := b }) (by decide) (fun x => by rw [qt, qt]; rfl) v i; rw [← h]; exact (q1W C.d [D.sl 1 b.length (b.flatMap eS)] _ _)
theorem q8T (v : List qa) (i : Nat) (b : List qe) : spr ((v.flatMap qc).map C.d) (i * 11 + 6) [C.d (D.sl 2 b.length (b.flatMap qd))] = ((v.modify i fun x => { x with Out := b }).flatMap qc).map C.d := by have h := q4o Qq (fo := 6) (d := D.sl 2 b.length (b.flatMap qd)) (fun x => { x with Out := b }) (by decide) (fun x => by rw [qt, qt]; rfl) v i; rw [← h]; exact (q1W C.d [D.sl 2 b.length (b.flatMap qd)] _ _)
theorem qec (v : List qa) (a : Nat) : (v.flatMap qc).take (a * 11) = (v.take a).flatMap qc := by have h := q3L Qq v a; exact h
theorem qbH (v : List qa) (a : Nat) : ((v.flatMap qc).map C.d).take (a * 11) = ((v.take a).flatMap qc).map C.d := by rw [← List.map_take, qec]
theorem q5F : ∀ x : ByteArray, (eS x).length = 1 := fun _ => rfl
theorem qgv (v : List ByteArray) : (v.flatMap eS).length = v.length := by rw [Zz q5F, Nat.mul_one]
theorem q7Y (v : List ByteArray) (i : Nat) : ld T ((v.flatMap eS).map C.d) (i) 9 = (v[i]?).bind fun x => some (.c (.d (D.str x))) := by rw [q0q q5F v i _ (by decide)]; cases v[i]? with | none => rfl | some x => rfl
theorem qgZ (v : List ByteArray) (a : ByteArray) : (v.flatMap eS).map C.d ++ [C.d (D.str a)] = ((v ++ [a]).flatMap eS).map C.d := by have h := q3r (E := eS) v a; exact h
theorem qaX (s : S) (v : List ByteArray) (lo hi : Option Operand) : xsl T s 31 (.c (.d (.sl 1 v.length (v.flatMap eS)))) lo hi = qfR s eS 1 v (s.bd lo 0) (s.bd hi v.length) := qdM q5F v lo hi (by rfl) (by rfl) (by decide)
theorem q5x : ∀ x : qe, (qd x).length = 2 := q1j
theorem qdr (v : List qe) : (v.flatMap qd).length = v.length * 2 := by rw [Zz q5x]
theorem q58 (v : List qe) (i : Nat) : ld T ((v.flatMap qd).map C.d) (i * 2) 57 = (v[i]?).bind fun x => some (.agg [.d (D.str x.Code), .d (D.int .i64 x.Credits)]) := by rw [q2j q5x v i _ (by decide) (by decide)]; cases v[i]? with | none => rfl | some x => rw [Option.bind_some, Option.bind_some, QZ]; rfl
theorem qcG (v : List qe) (a_Code : ByteArray) (a_Credits : Int) : (v.flatMap qd).map C.d ++ [C.d (D.str a_Code), C.d (D.int .i64 a_Credits)] = ((v ++ [(qe.mk a_Code a_Credits)]).flatMap qd).map C.d := by have h := q3r (E := qd) v (qe.mk a_Code a_Credits); rw [QZ] at h; exact h
theorem qdt : ∀ x : Int, (eI x).length = 1 := fun _ => rfl
theorem q8p (v : List Int) (i : Nat) : ld T ((v.flatMap eI).map C.d) (i) 3 = (v[i]?).bind fun x => some (.c (.d (D.int .i64 x))) := by rw [q0q qdt v i _ (by decide)]; cases v[i]? with | none => rfl | some x => rfl
theorem qc6 : ∀ x : (List ByteArray), ((eL 1 eS) x).length = 1 := fun _ => rfl
theorem q4H (v : List (List ByteArray)) (i : Nat) : ld T ((v.flatMap (eL 1 eS)).map C.d) (i) 31 = (v[i]?).bind fun x => some (.c (.d (D.sl 1 x.length (x.flatMap eS)))) := by rw [q0q qc6 v i _ (by decide)]; cases v[i]? with | none => rfl | some x => rfl
end Go.Proofs.Ytbcmefmnbpdfdaa.Vc
namespace Go.Proofs.Ytbcmefmnbpdfdaa.Vc
open Go.RowKit
set_option linter.defProp false
set_option linter.unusedVariables false
theorem qfY : q1F Try.prog 34 = true := by kernel_rfl
theorem qg6 : q1F Try.prog 57 = true := by kernel_rfl
def by0 := JA_ @k3 (JA_ @z3 (JA_ @q3 (JA_ @k4 (JA_ @q4 (@k5)))))
def by1 := JA_ @k9 (JA_ @z9 (JA_ @b9 (JA_ @o9 (@q9))))
def by2 := JA_ @q21 (JA_ @k22 (JA_ @q22 (JA_ @k23 (JA_ @z23 (@k24)))))
def by3 := JA_ @k26 (JA_ @q26 (JA_ @q28 (JA_ @k31 (JA_ @z31 (JA_ @q31 (JA_ @k32 (JA_ @z32 (JA_ @q32 (JA_ @k34 (@z34))))))))))
def by4 := JA_ @o34 (JA_ @q34 (JA_ @k36 (JA_ @z36 (JA_ @b36 (JA_ @o36 (JA_ @q36 (JA_ @k41 (@z41))))))))
def by6 := JA_ @k57 (JA_ @z57 (JA_ @b57 (JA_ @o57 (@q57))))
def by7 := JA_ @q64 (JA_ @k66 (@o66))
def by8 := @k73
def by9 := @q76
def qil := @qim
def qip := @qji
def qjF := JA_ @qfY (JA_ @qg6 (JA_ @pw3 (JA_ @pw5 (JA_ @pw6 (JA_ @pw7 (JA_ @pw8 (JA_ @pw9 (@qhV))))))))
def qk2 := JA_ @qh6 (JA_ @qhi (JA_ @qhR (JA_ @qhh (JA_ @qhv (JA_ @qhq (JA_ @qhu (JA_ @qh4 (JA_ @qhJ (JA_ @qg1 (JA_ @qhI (JA_ @qhK (JA_ @qhs (JA_ @qh0 (JA_ @qht (JA_ @qhT (JA_ @qhW (JA_ @qhy (@qho))))))))))))))))))
def qiw := JA_ @qh3 (JA_ @qhP (JA_ @qhg (JA_ @qhH (JA_ @qhn (JA_ @qh1 (JA_ @qgX (JA_ @qhw (JA_ @qhb (JA_ @qhN (JA_ @qhm (@qhk)))))))))))
def qic := JA_ @qjE (JA_ @qg8 (JA_ @qgr (JA_ @qg5 (JA_ @qgK (@qgh)))))
def qif := JA_ @qgL (@qgM)
def qih := JA_ @qdd (JA_ @qgq (JA_ @qgs (JA_ @qcm (JA_ @qaV (JA_ @qdX (JA_ @qe3 (JA_ @qe8 (@qeF))))))))
def qje := JA_ @qdG (JA_ @qdc (JA_ @qcL (JA_ @qfe (JA_ @qcE (JA_ @qeJ (JA_ @qdK (@qeP)))))))
def qis := JA_ @qgm (JA_ @qgA (JA_ @qd9 (JA_ @qda (JA_ @qf7 (JA_ @qgz (JA_ @qgw (JA_ @qaQ (JA_ @qex (JA_ @qf0 (JA_ @qcF (JA_ @qcM (JA_ @qc5 (JA_ @qew (JA_ @qfc (JA_ @qdO (JA_ @qdl (@qdF)))))))))))))))))
def qig := JA_ @qf2 (JA_ @qg0 (JA_ @qfZ (JA_ @qcZ (JA_ @qfb (@qe5)))))
def qiT := JA_ @qgt (JA_ @qg7 (JA_ @qci (JA_ @qeQ (JA_ @qcK (JA_ @qdb (JA_ @qdv (JA_ @qce (JA_ @qeZ (JA_ @qf1 (JA_ @qcW (JA_ @qdq (JA_ @qcy (@qeT)))))))))))))
def bt0 := JA_ @q52 (JA_ @qfl (JA_ @q4J (JA_ @q60 (JA_ @q6h (JA_ @q5d (JA_ @q51 (@q55)))))))
def bt1 := JA_ @q8X (JA_ @qeA (JA_ @q8u (JA_ @q7y (JA_ @q8T (JA_ @qbH (JA_ @qgv (JA_ @q7Y (@qgZ))))))))
def bt2 := JA_ @qaX (JA_ @qdr (JA_ @q58 (JA_ @qcG (@q8p))))
def bt4 := @q4H
def bt5 := JA_ @q1g (@J3)
def bt6 := JA_ @q1n (@q0i)
def bA := JA_ @bx0 (JA_ @bx1 (JA_ @bx2 (JA_ @bx3 (JA_ @bx4 (JA_ @bx5 (JA_ @bx6 (JA_ @bx7 (JA_ @bx8 (JA_ @bx9 (JA_ @qiz (JA_ @qjK (JA_ @qik (JA_ @qij (JA_ @qio (JA_ @qjL (JA_ @qjj (JA_ @qk8 (JA_ @qjz (JA_ @qjB (JA_ @qjr (JA_ @qjD (JA_ @qjg (JA_ @qjm (JA_ @qiy (JA_ @bz0 (JA_ @by0 (JA_ @by1 (JA_ @by2 (JA_ @by3 (JA_ @by4 (JA_ @by6 (JA_ @by7 (JA_ @by8 (JA_ @by9 (JA_ @qil (JA_ @qip (JA_ @qjF (JA_ @qk2 (JA_ @qiw (JA_ @qic (JA_ @qif (JA_ @qih (JA_ @qje (JA_ @qis (JA_ @qig (JA_ @qiT (JA_ @bt0 (JA_ @bt1 (JA_ @bt2 (JA_ @bt4 (JA_ @bt5 (@bt6))))))))))))))))))))))))))))))))))))))))))))))))))))
def bZ := JA_ @List.length_append.{0} (JA_ @List.length_modify.{0} (JA_ @List.length_cons.{0} (JA_ @List.length_nil.{0} (JA_ @Nat.zero_add (JA_ @List.flatMap_cons.{0,0} (JA_ @List.flatMap_nil.{0,0} (JA_ @List.map_cons.{0,0} (JA_ @List.map_nil.{0,0} (JA_ @eS.eq_1 (JA_ @List.cons_append.{0} (JA_ @List.nil_append.{0} (JA_ @List.append_nil.{0} (JA_ @List.flatMap_append.{0,0} (@QZ))))))))))))))
theorem gA {P : Prop} (h : P := by simp -implicitDefEqProofs (maxSteps := 10000000) only [bA, Int.reduceToNat, Int.reduceLT, Int.reduceLE, Int.reduceAdd, Int.reduceSub, Int.reduceMul, Int.reduceNeg, Int.reduceEq, Int.reduceNe, Int.reduceBEq, Int.reduceBNe, Nat.reduceLT, Nat.reduceAdd, Nat.reduceMul, Nat.reduceSub, Nat.reduceEqDiff, Nat.reduceLeDiff, Nat.reduceBEq, Nat.reduceBNe, ↓reduceIte, reduceCtorEq, pure, bind, w64, zh, Qy, Option.or_some, Option.or_none, Option.none_or, Option.some_or, *] <;> simp only [rL, dL, bR, bZ, Nat.reduceAdd]) : P := h
end Go.Proofs.Ytbcmefmnbpdfdaa.Vc
namespace Go.Proofs.Ytbcmefmnbpdfdaa.Vc
open Go.RowKit
set_option linter.unusedVariables false
section
variable {β : Type}
def frN (n : Nat) (k : Nat → β) : β := match n with | 0 => k 0 | m + 1 => k (m + 1)
theorem Qm (n : Nat) (k : Nat → β) : frN n k = k n := by cases n <;> rfl
def frI (i : Int) (k : Int → β) : β := match i with | .ofNat n => frN n fun n => k (.ofNat n) | .negSucc n => frN n fun n => k (.negSucc n)
theorem q9I (i : Int) (k : Int → β) : frI i k = k i := by cases i <;> simp only [frI, Qm]
def frB (b : Bool) (k : Bool → β) : β := match b with | true => k true | false => k false
theorem qar (b : Bool) (k : Bool → β) : frB b k = k b := by cases b <;> rfl
noncomputable def frD (d : D) : (D → β) → β :=
  D.rec (motive_1 := fun _ => (D → β) → β) (motive_2 := fun _ => (List D → β) → β)
    (fun k n K => frI n fun n => K (.int k n)) (fun b K => frB b fun b => K (.bool b)) (fun s K => K (.str s)) (fun sz n _ ih K => frN sz fun sz => frN n fun n => ih fun cs => K (.sl sz n cs))
    (fun K => K []) (fun _ _ ih1 ih2 K => ih1 fun x => ih2 fun l => K (x :: l)) d
noncomputable def qeq (d : List D) : (List D → β) → β :=
  D.rec_1 (motive_1 := fun _ => (D → β) → β) (motive_2 := fun _ => (List D → β) → β)
    (fun k n K => frI n fun n => K (.int k n)) (fun b K => frB b fun b => K (.bool b)) (fun s K => K (.str s)) (fun sz n _ ih K => frN sz fun sz => frN n fun n => ih fun cs => K (.sl sz n cs))
    (fun K => K []) (fun _ _ ih1 ih2 K => ih1 fun x => ih2 fun l => K (x :: l)) d
mutual
theorem qaa : ∀ (d : D) (K : D → β), frD d K = K d
  | .int k n, K => by show frI n (fun n => K (.int k n)) = _; rw [q9I]
  | .bool b, K => by show frB b (fun b => K (.bool b)) = _; rw [qar]
  | .str s, K => rfl
  | .sl sz n cs, K => by show frN sz (fun sz => frN n fun n => qeq cs fun cs => K (.sl sz n cs)) = _; rw [Qm, Qm, q3B cs]
theorem q3B : ∀ (d : List D) (K : List D → β), qeq d K = K d
  | [], K => rfl
  | x :: l, K => (qaa x _).trans (q3B l _)
end
noncomputable def frC (c : C) : (C → β) → β :=
  C.rec (motive_1 := fun _ => (C → β) → β) (motive_2 := fun _ => (List C → β) → β)
    (fun x K => frD x fun x => K (.d x)) (fun i o K => frN i fun i => frN o fun o => K (.ptr i o)) (fun h i K => frN i fun i => K (.hd h i)) (fun K => K .nilm) (fun K => K .nilp) (fun K => K .nilf) (fun K => K .nils)
    (fun cs o K => qeq cs fun cs => frN o fun o => K (.eptr cs o)) (fun i sz o n K => frN i fun i => frN sz fun sz => frN o fun o => frN n fun n => K (.own i sz o n))
    (fun f _ _ ih1 ih2 K => ih1 fun fs => ih2 fun caps => K (.fn f fs caps)) (fun K => K .any)
    (fun K => K []) (fun _ _ ih1 ih2 K => ih1 fun x => ih2 fun l => K (x :: l)) c
noncomputable def qfa (c : List C) : (List C → β) → β :=
  C.rec_1 (motive_1 := fun _ => (C → β) → β) (motive_2 := fun _ => (List C → β) → β)
    (fun x K => frD x fun x => K (.d x)) (fun i o K => frN i fun i => frN o fun o => K (.ptr i o)) (fun h i K => frN i fun i => K (.hd h i)) (fun K => K .nilm) (fun K => K .nilp) (fun K => K .nilf) (fun K => K .nils)
    (fun cs o K => qeq cs fun cs => frN o fun o => K (.eptr cs o)) (fun i sz o n K => frN i fun i => frN sz fun sz => frN o fun o => frN n fun n => K (.own i sz o n))
    (fun f _ _ ih1 ih2 K => ih1 fun fs => ih2 fun caps => K (.fn f fs caps)) (fun K => K .any)
    (fun K => K []) (fun _ _ ih1 ih2 K => ih1 fun x => ih2 fun l => K (x :: l)) c
mutual
theorem q9C : ∀ (c : C) (K : C → β), frC c K = K c
  | .d x, K => by show frD x (fun x => K (.d x)) = _; rw [qaa]
  | .ptr i o, K => by show frN i (fun i => frN o fun o => K (.ptr i o)) = _; rw [Qm, Qm]
  | .hd h i, K => by show frN i (fun i => K (.hd h i)) = _; rw [Qm]
  | .nilm, K => rfl
  | .nilp, K => rfl
  | .nilf, K => rfl
  | .nils, K => rfl
  | .eptr cs o, K => by show qeq cs (fun cs => frN o fun o => K (.eptr cs o)) = _; rw [q3B, Qm]
  | .own i sz o n, K => by show frN i (fun i => frN sz fun sz => frN o fun o => frN n fun n => K (.own i sz o n)) = _; rw [Qm, Qm, Qm, Qm]
  | .fn f fs caps, K => (JF fs _).trans (JF caps _)
  | .any, K => rfl
theorem JF : ∀ (c : List C) (K : List C → β), qfa c K = K c
  | [], K => rfl
  | x :: l, K => (q9C x _).trans (JF l _)
end
noncomputable def frR (r : R) : (R → β) → β :=
  R.rec (motive_1 := fun _ => (R → β) → β) (motive_2 := fun _ => (List R → β) → β)
    (fun x K => frC x fun x => K (.c x)) (fun xs K => qfa xs fun xs => K (.agg xs)) (fun _ ih K => ih fun xs => K (.tup xs)) (fun K => K .any)
    (fun K => K []) (fun _ _ ih1 ih2 K => ih1 fun x => ih2 fun l => K (x :: l)) r
noncomputable def qdP (r : List R) : (List R → β) → β :=
  R.rec_1 (motive_1 := fun _ => (R → β) → β) (motive_2 := fun _ => (List R → β) → β)
    (fun x K => frC x fun x => K (.c x)) (fun xs K => qfa xs fun xs => K (.agg xs)) (fun _ ih K => ih fun xs => K (.tup xs)) (fun K => K .any)
    (fun K => K []) (fun _ _ ih1 ih2 K => ih1 fun x => ih2 fun l => K (x :: l)) r
mutual
theorem q2J : ∀ (r : R) (K : R → β), frR r K = K r
  | .c x, K => q9C x _
  | .agg xs, K => JF xs _
  | .tup xs, K => q0D xs _
  | .any, K => rfl
theorem q0D : ∀ (r : List R) (K : List R → β), qdP r K = K r
  | [], K => rfl
  | x :: l, K => (q2J x _).trans (q0D l _)
end
def frV (v : Value) (K : Value → β) : β := match v with | .int k n => frI n fun n => K (.int k n) | .bool b => frB b fun b => K (.bool b) | v => K v
theorem qeL (v : Value) (K : Value → β) : frV v K = K v := by cases v <;> simp only [frV, q9I, qar]
noncomputable def frM (l : List (Value × R × Nat)) : (List (Value × R × Nat) → β) → β :=
  List.rec (motive := fun _ => (List (Value × R × Nat) → β) → β) (fun K => K []) (fun x _ ih K => match x with | (v, r, b) => frV v fun v => frR r fun r => frN b fun b => ih fun l => K ((v, r, b) :: l)) l
theorem q7K (v : Value) (r : R) (b : Nat) (l : List (Value × R × Nat)) (K : List (Value × R × Nat) → β) : frM ((v, r, b) :: l) K = frV v fun v => frR r fun r => frN b fun b => frM l fun l => K ((v, r, b) :: l) := rfl
theorem qao : ∀ (l : List (Value × R × Nat)) (K : List (Value × R × Nat) → β), frM l K = K l
  | [], K => rfl
  | (v, r, b) :: l, K => by rw [q7K, qeL, q2J, Qm, qao l]
def frP (p : Option Code) (K : Option Code → β) : β := match p with | none => K none | some c => K (some c)
theorem qeb (p : Option Code) (K : Option Code → β) : frP p K = K p := by cases p <;> rfl
noncomputable def qgx (b : B) (K : B → β) : β := match b with
  | .blk t cs => qfa cs fun cs => K (.blk t cs)
  | .row e sz cs => qfa cs fun cs => K (.row e sz cs)
  | .ob (.mp es ck) => frM es fun es => frN ck fun ck => K (.ob (.mp es ck))
  | .ob (.si s p) => frN p fun p => K (.ob (.si s p))
  | .ob (.lp f tm ps a c st pd) => qdP tm fun tm => frP pd fun pd => K (.ob (.lp f tm ps a c st pd))
  | .ob .df => K (.ob .df)
  | .dead => K .dead
theorem qb3 (b : B) (K : B → β) : qgx b K = K b := by
  cases b with
  | blk t cs => exact JF cs _
  | row e sz cs => exact JF cs _
  | ob o =>
    cases o with
    | mp es ck => show frM es (fun es => frN ck fun ck => K (.ob (.mp es ck))) = _; rw [qao, Qm]
    | si s p => show frN p (fun p => K (.ob (.si s p))) = _; rw [Qm]
    | lp f tm ps a c st pd => show qdP tm (fun tm => frP pd fun pd => K (.ob (.lp f tm ps a c st pd))) = _; rw [q0D, qeb]
    | df => rfl
  | dead => rfl
noncomputable def frT (l : List (Nat × R)) : (List (Nat × R) → β) → β :=
  List.rec (motive := fun _ => (List (Nat × R) → β) → β) (fun K => K []) (fun x _ ih K => match x with | (i, r) => frR r fun r => ih fun l => K ((i, r) :: l)) l
theorem q9r : ∀ (l : List (Nat × R)) (K : List (Nat × R) → β), frT l K = K l
  | [], K => rfl
  | (i, r) :: l, K => (q2J r _).trans (q9r l _)
noncomputable def frH (l : List (Nat × B)) : (List (Nat × B) → β) → β :=
  List.rec (motive := fun _ => (List (Nat × B) → β) → β) (fun K => K []) (fun x _ ih K => match x with | (i, r) => frN i fun i => qgx r fun r => ih fun l => K ((i, r) :: l)) l
theorem q8j (i : Nat) (r : B) (l : List (Nat × B)) (K : List (Nat × B) → β) : frH ((i, r) :: l) K = frN i fun i => qgx r fun r => frH l fun l => K ((i, r) :: l) := rfl
theorem q1G : ∀ (l : List (Nat × B)) (K : List (Nat × B) → β), frH l K = K l
  | [], K => rfl
  | (i, r) :: l, K => by rw [q8j, Qm, qb3, q1G l]
noncomputable def frS (s : S) (K : S → β) : β := match s with | ⟨tm, hp, nx, n⟩ => frT tm fun tm => frH hp fun hp => frN nx fun nx => K ⟨tm, hp, nx, n⟩
theorem q0T (s : S) (K : S → β) : frS s K = K s := by
  obtain ⟨tm, hp, nx, n⟩ := s
  show frT tm (fun tm => frH hp fun hp => frN nx fun nx => K ⟨tm, hp, nx, n⟩) = _
  rw [q9r, q1G, Qm]
end
section
variable (P : Program) (T : Ty) (po : Pol) (E : Orc)
noncomputable def kxr (ops : List Oper) : List Oper → S → Option S
  | [], s => some s
  | o :: l, s => (xgd P T po E ops o s).bind fun s' => frS s' fun s' => kxr ops l s'
noncomputable def q5a {β : Type} (l : List Nat) : (List Nat → β) → β :=
  List.rec (motive := fun _ => (List Nat → β) → β) (fun K => K []) (fun x _ ih K => frN x fun x => ih fun l => K (x :: l)) l
theorem q00 {β : Type} : ∀ (l : List Nat) (K : List Nat → β), q5a l K = K l
  | [], K => rfl
  | x :: l, K => by show frN x (fun x => q5a l fun l => K (x :: l)) = _; rw [Qm, q00 l]
noncomputable def frX {β : Type} (x : Tx) (K : Tx → β) : β := match x with | ((r, us), ⟨rb, wb, X, ks, nw⟩) => frR r fun r => frH us fun us => q5a rb fun rb => q5a wb fun wb => q5a X fun X => q5a ks fun ks => q5a nw fun nw => K ((r, us), ⟨rb, wb, X, ks, nw⟩)
theorem qfj {β : Type} (x : Tx) (K : Tx → β) : frX x K = K x := by
  obtain ⟨⟨r, us⟩, ⟨rb, wb, X, ks, nw⟩⟩ := x
  show (frR r fun r => frH us fun us => q5a rb fun rb => q5a wb fun wb => q5a X fun X => q5a ks fun ks => q5a nw fun nw => K ((r, us), ⟨rb, wb, X, ks, nw⟩)) = _
  rw [q2J, q1G, q00, q00, q00, q00, q00]
noncomputable def qcB (ops : List Oper) (A : List (List Nat)) (s0 : S) : Nat → List Oper → S → List Tx → Option S
  | 0, l, s, acc => if okP A 0 [] acc = true ∧ okX ops A s0 acc 0 acc = true ∧ okK ops A acc = true ∧ okN acc 0 acc = true then kxr P T po E ops l s else none
  | m + 1, o :: l, s, acc => (xgF P T po E ops o s).bind fun q => frS q.1 fun s1 => frX q.2 fun x => qcB ops A s0 m l s1 (acc ++ [x])
  | _ + 1, [], _, _ => none
theorem q6f (ops : List Oper) : ∀ (l : List Oper) (s : S), kxr P T po E ops l s = xr P T po E ops l s
  | [], s => rfl
  | o :: l, s => by
    unfold kxr xr
    congr 1
    funext s'
    rw [q0T, q6f ops l]
theorem q5W (ops : List Oper) (A : List (List Nat)) (s0 : S) : ∀ (m : Nat) (l : List Oper) (s : S) (acc : List Tx), qcB P T po E ops A s0 m l s acc = xdp P T po E ops A s0 m l s acc
  | 0, l, s, acc => by unfold qcB xdp; rw [q6f]
  | m + 1, o :: l, s, acc => by
    unfold qcB xdp
    congr 1
    funext q
    rw [q0T, qfj, q5W ops A s0 m l]
  | _ + 1, [], _, _ => rfl
noncomputable def qgb (x : XS) : XS := x.bind fun p => frS p.2 fun s => some (p.1, s)
theorem q5K (x : XS) : qgb x = x := by
  cases x with
  | none => rfl
  | some p => show frS p.2 (fun s => some (p.1, s)) = _; rw [q0T]
noncomputable def kXD (LO : (S → XS) → S → XS) (f k : Nat) : Code → S → XS
  | .skip, s => some (.normal, s)
  | .label _, s => some (.normal, s)
  | .ret, s => some (.ret, s)
  | .exit id, s => some (.exit id, s)
  | .seq a b, s => (kXD LO f k a s).bind (sqD fun s' => kXD LO f k b s')
  | .block id c, s => (kXD LO f k c s).bind (bkD id)
  | .cond c x y, s => match s.ev c with
    | .c (.d (.bool b)) => if b = true then kXD LO f k x (s.ly c tt) else kXD LO f k y (s.ly c ff)
    | _ => none
  | .region id ops draw, s => if draw = true then frS ((s.dzr po.q).frz (J6 (s.dzr po.q) (po.rk f id))) fun s => (qcB P T po E ops.toList (po.an f id) s (po.dm f id) ops.toList s []).bind fun s' => some (.normal, s') else (kxr P T po E ops.toList ops.toList s).bind fun s' => some (.normal, s')
  | .rangeFunc g ps a b, s => qgb (frS ((s.dzr po.q).frz (J6 (s.dzr po.q) (po.rk f (qB b)))) fun s => xRF po E f g ps.toList a b s)
  | .loop c, s => (nrm po f (qB c) k s).bind fun s0 => frS s0 fun s0 => LO (fun s => qgb ((kXD LO f k c s).bind (lpx po f (qB c) k))) s0
  | _, _ => none
theorem q72 (LO : (S → XS) → S → XS) (f k : Nat) : ∀ (c : Code) (s : S), kXD P T po E LO f k c s = XD P T po E (D1 P T po E f k) LO f k c s := by
  intro c
  induction c with
  | seq a b iha ihb => intro s; unfold kXD XD; rw [iha]; congr 1; funext p; unfold sqD; split <;> first | exact ihb _ | rfl
  | block id c ih => intro s; unfold kXD XD; rw [ih]
  | cond c x y ihx ihy =>
    intro s
    unfold kXD XD
    rw [ihx, ihy]
    generalize s.ev c = r
    cases r with
    | c x =>
      cases x with
      | d d => cases d <;> rfl
      | _ => rfl
    | _ => rfl
  | region id ops draw =>
    intro s
    unfold kXD XD
    rw [q0T, q5W, q6f]
    rfl
  | rangeFunc g ps a b _ _ => intro s; unfold kXD XD; rw [q5K, q0T]
  | loop c ih =>
    intro s
    unfold kXD XD
    congr 1
    funext s0
    rw [q0T]
    congr 1
    funext s
    rw [q5K, ih]
  | _ => intro s; rfl
noncomputable def frF (x : Option (R × List (Nat × B))) : Option (R × List (Nat × B)) := x.bind fun q => frR q.1 fun r => frH q.2 fun hp => some (r, hp)
theorem q5X (x : Option (R × List (Nat × B))) : frF x = x := by
  cases x with
  | none => rfl
  | some q => show frR q.1 (fun r => frH q.2 fun hp => some (r, hp)) = _; rw [q2J, q1G]
noncomputable def qb1 (LO : (S → XS) → S → XS) (f k : Nat) (args : List R) (G : List (Nat × B)) (bd : Bd) : Option (R × List (Nat × B)) :=
  if args.length ≤ bd.n then qdP args fun args => frH G fun G => frF ((kXD P T po E LO f k bd.code ⟨Z0 args 0, G, G.length, bd.n⟩).bind (qcr T po f k bd)) else none
noncomputable def q67 (LO : (S → XS) → S → XS) (f k : Nat) (a b : Code) (tm : List R) (G : List (Nat × B)) : Option (R × List (Nat × B)) :=
  if 0 < k ∧ q1d (drq po f) false a = true ∧ q1d (drq po f) false b = true then qdP tm fun tm => frH G fun G => frF ((kXD P T po E LO f k a ⟨Z0 tm 0, G, G.length, tm.length⟩).bind fun p =>
    match p.1 with
    | .normal => (rdB (p.2.blk (k - 1))).bind fun x => frS (p.2.up [(k - 1, x)]) fun s => (kXD P T po E LO f k b s).bind (q3M k)
    | _ => none) else none
theorem q8F (LO : (S → XS) → S → XS) (f k : Nat) (args : List R) (G : List (Nat × B)) (bd : Bd) : qb1 P T po E LO f k args G bd = Jv P T po (D1 P T po) E LO f k args G bd := by
  unfold qb1 Jv
  rw [q0D, q1G, q5X, q72]
theorem q7a (LO : (S → XS) → S → XS) (f k : Nat) (a b : Code) (tm : List R) (G : List (Nat × B)) : q67 P T po E LO f k a b tm G = Zd P T po (D1 P T po) E LO f k a b tm G := by
  unfold q67 Zd
  rw [q0D, q1G, q5X, q72]
  congr 1
  congr 1
  funext p
  obtain ⟨e, t⟩ := p
  unfold q0B
  cases e with
  | normal =>
    simp only
    congr 1
    funext x
    rw [q0T, q72]
  | _ => rfl
end
noncomputable def kf (P : Program) (T : Ty) (po : Pol) (bt : Nat → Option Bd) (tab : Orc) : Nat → Orc
  | 0 => fun _ _ _ _ => none
  | n + 1 => fun g k args G => match tab g k args G with
    | some x => some x
    | none => match g with
      | .fn f => (match po.pr f with | some g => frF (prx g k args G) | none => (bt f).bind fun bd => qb1 P T po (kf P T po bt tab n) (iter n) f k args G bd)
      | .rd f a b => q67 P T po (kf P T po bt tab n) (iter n) f k a b args G
theorem qdo {P : Program} {T : Ty} {po : Pol} {bt : Nat → Option Bd} {tab : Orc} (hb : ∀ f bd, bt f = some bd → qh P po f = some bd) (ht : OLe tab (EE P T po (D1 P T po))) : ∀ n, OLe (kf P T po bt tab n) (EE P T po (D1 P T po))
  | 0 => fun _ _ _ _ _ h => by cases h
  | n + 1 => fun g k args G x h => by
    have ih := qdo hb ht n
    unfold kf at h
    split at h
    · rename_i y hy
      injection h with h
      subst h
      exact ht _ _ _ _ _ hy
    · cases g with
      | fn f =>
        simp only at h
        rw [qdQ JM q3l]
        unfold fnx
        cases hg : po.pr f with
        | some g =>
          rw [hg] at h
          simp only [q5X] at h
          exact h
        | none =>
          rw [hg] at h
          obtain ⟨bd, h1, h2⟩ := Option.bind_eq_some_iff.1 h
          rw [q8F] at h2
          simp only [hb f bd h1, Option.bind_some]
          exact q1z JM ih (q24 n) h2
      | rd f a b =>
        simp only at h
        rw [qgu JM q3l]
        rw [q7a] at h
        exact ZW JM ih (q24 n) h
def qhO : Orc := fun _ _ _ _ => none
theorem qb0 {E : Orc} : OLe qhO E := fun _ _ _ _ _ h => by cases h
end Go.Proofs.Ytbcmefmnbpdfdaa.Vc
