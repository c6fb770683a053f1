/- Part 4 of a proof. -/
import Derived.Test.YtplfjlcnffcenaaM3
set_option linter.unusedVariables false
set_option linter.unusedSimpArgs false
set_option linter.defProp false
set_option linter.unusedSectionVars false
set_option linter.unnecessarySimpa false
namespace Go.Proofs.Ytplfjlcnffcenaa.Vc
open Go.RowKit
set_option linter.unusedVariables false
set_option maxRecDepth 100000
abbrev w64 (n : Int) : Int := IntKind.i64.wrap n
def Qs : Code → List Code
  | .loop c => c :: Qs c
  | .seq a b => Qs a ++ Qs b
  | .cond _ a b => Qs a ++ Qs b
  | .block _ c => Qs c
  | .rangeFunc _ _ a b => Qs a ++ Qs b
  | _ => []
def Q9 : Code → List (Code × Code)
  | .rangeFunc _ _ a b => (a, b) :: (Q9 a ++ Q9 b)
  | .loop c => Q9 c
  | .seq a b => Q9 a ++ Q9 b
  | .cond _ a b => Q9 a ++ Q9 b
  | .block _ c => Q9 c
  | _ => []
theorem q3e : ∀ (c b : Code), b ∈ Qs c → (∀ b' ∈ Qs b, b' ∈ Qs c) ∧ ∀ q ∈ Q9 b, q ∈ Q9 c := by
  intro c
  induction c with
  | loop c ih =>
    intro b hb
    rcases List.mem_cons.1 hb with rfl | hb
    · exact ⟨fun b' h => List.mem_cons_of_mem _ h, fun q h => h⟩
    · exact ⟨fun b' h => List.mem_cons_of_mem _ ((ih b hb).1 b' h), fun q h => (ih b hb).2 q h⟩
  | seq a c iha ihc =>
    intro b hb
    rcases List.mem_append.1 hb with hb | hb
    · exact ⟨fun b' h => List.mem_append_left _ ((iha b hb).1 b' h), fun q h => List.mem_append_left _ ((iha b hb).2 q h)⟩
    · exact ⟨fun b' h => List.mem_append_right _ ((ihc b hb).1 b' h), fun q h => List.mem_append_right _ ((ihc b hb).2 q h)⟩
  | cond x a c iha ihc =>
    intro b hb
    rcases List.mem_append.1 hb with hb | hb
    · exact ⟨fun b' h => List.mem_append_left _ ((iha b hb).1 b' h), fun q h => List.mem_append_left _ ((iha b hb).2 q h)⟩
    · exact ⟨fun b' h => List.mem_append_right _ ((ihc b hb).1 b' h), fun q h => List.mem_append_right _ ((ihc b hb).2 q h)⟩
  | rangeFunc g ps a c iha ihc =>
    intro b hb
    rcases List.mem_append.1 hb with hb | hb
    · exact ⟨fun b' h => List.mem_append_left _ ((iha b hb).1 b' h), fun q h => List.mem_cons_of_mem _ (List.mem_append_left _ ((iha b hb).2 q h))⟩
    · exact ⟨fun b' h => List.mem_append_right _ ((ihc b hb).1 b' h), fun q h => List.mem_cons_of_mem _ (List.mem_append_right _ ((ihc b hb).2 q h))⟩
  | block id c ih => intro b hb; exact ih b hb
  | _ => intro b hb; cases hb
noncomputable def q2N (f : Nat) : Code := ((qk Try.prog pol f).map Bd.code).getD .skip
noncomputable def lbO (f key : Nat) : Code := (zj key (q2N f)).getD .skip
noncomputable def raO (f key : Nat) : Code := ((ZE key (q2N f)).getD (.skip, .skip)).1
noncomputable def rbO (f key : Nat) : Code := ((ZE key (q2N f)).getD (.skip, .skip)).2
structure okL (f : Nat) (c : Code) : Prop where
  lo : ∀ b ∈ Qs c, lbO f (qI b) = b
  ro : ∀ q ∈ Q9 c, raO f (qI q.2) = q.1 ∧ rbO f (qI q.2) = q.2
theorem qA {f : Nat} {c : Code} (hc : q2N f = c) (h : (Qs c).map (fun b => (zj (qI b) c).getD .skip) = Qs c) (h' : (Q9 c).map (fun q => (ZE (qI q.2) c).getD (.skip, .skip)) = Q9 c) : okL f c := by
  refine ⟨fun b hb => ?_, fun q hq => ?_⟩
  · unfold lbO
    rw [hc]
    obtain ⟨i, hi, rfl⟩ := List.mem_iff_getElem.1 hb
    have h1 : ((Qs c).map (fun b => (zj (qI b) c).getD .skip))[i]? = (Qs c)[i]? := by rw [h]
    rw [List.getElem?_map, List.getElem?_eq_getElem hi] at h1
    simpa using h1
  · unfold raO rbO
    rw [hc]
    obtain ⟨i, hi, rfl⟩ := List.mem_iff_getElem.1 hq
    have h1 : ((Q9 c).map (fun q => (ZE (qI q.2) c).getD (.skip, .skip)))[i]? = (Q9 c)[i]? := by rw [h']
    rw [List.getElem?_map, List.getElem?_eq_getElem hi] at h1
    simp only [Option.map_some, Option.some.injEq] at h1
    rw [h1]
    exact ⟨rfl, rfl⟩
noncomputable def XEo (E : Orc) (f k : Nat) : Code → S → XS := XD Try.prog T pol E (D1 Try.prog T pol E f k) Lim f k
noncomputable def XL2 (E : Orc) (f k key : Nat) (s : S) : XS := Lim (fun s => (XEo E f k (lbO f key) s).bind (lpx pol f key k)) s
def cnd (r : R) (x y : XS) : XS :=
  match r with
  | .c (.d (.bool b)) => if b = true then x else y
  | _ => none
noncomputable def XE2 (E : Orc) (f k : Nat) : Code → S → XS
  | .skip, s => some (.normal, s)
  | .label _, s => some (.normal, s)
  | .ret, s => some (.ret, s)
  | .exit id, s => some (.exit id, s)
  | .seq a b, s => (XE2 E f k a s).bind (sqD fun s' => XE2 E f k b s')
  | .block id c, s => (XE2 E f k c s).bind (bkD id)
  | .cond c x y, s => cnd (s.ev c) (XE2 E f k x (s.ly c tt)) (XE2 E f k y (s.ly c ff))
  | .loop c, s => (nrm pol f (qI c) k s).bind fun s0 => XL2 E f k (qI c) s0
  | .rangeFunc g ps _ b, s => xRF pol E f g ps.toList (raO f (qI b)) (rbO f (qI b)) ((s.dzr pol.q).frz (q1b (s.dzr pol.q) (pol.rk f (qI b))))
  | c, s => XEo E f k c s
section
variable {E : Orc} {f k : Nat} {s : S}
theorem qlD (a b : Code) : XEo E f k (.seq a b) s = (XEo E f k a s).bind (sqD fun s' => XEo E f k b s') := rfl
theorem qfw (i : Nat) (b : Code) : XEo E f k (.block i b) s = (XEo E f k b s).bind (bkD i) := rfl
theorem qjD (p : Operand) (a b : Code) : XEo E f k (.cond p a b) s = cnd (s.ev p) (XEo E f k a (s.ly p tt)) (XEo E f k b (s.ly p ff)) := rfl
theorem qiH (b : Code) : XEo E f k (.loop b) s = (nrm pol f (qI b) k s).bind fun s0 => Lim (fun s => (XEo E f k b s).bind (lpx pol f (qI b) k)) s0 := rfl
theorem qh7 : XEo E f k .skip s = some (.normal, s) := rfl
theorem qfn (l : Nat) : XEo E f k (.label l) s = some (.normal, s) := rfl
theorem qkJ : XEo E f k .ret s = some (.ret, s) := rfl
theorem qiY (i : Nat) : XEo E f k (.exit i) s = some (.exit i, s) := rfl
theorem qet (g : Operand) (ps : Array Tmp) (asg bd : Code) : XEo E f k (.rangeFunc g ps asg bd) s = xRF pol E f g ps.toList asg bd ((s.dzr pol.q).frz (q1b (s.dzr pol.q) (pol.rk f (qI bd)))) := rfl
theorem qkV (a b : Code) : XE2 E f k (.seq a b) s = (XE2 E f k a s).bind (sqD fun s' => XE2 E f k b s') := rfl
theorem qdB (i : Nat) (b : Code) : XE2 E f k (.block i b) s = (XE2 E f k b s).bind (bkD i) := rfl
theorem qiD (p : Operand) (a b : Code) : XE2 E f k (.cond p a b) s = cnd (s.ev p) (XE2 E f k a (s.ly p tt)) (XE2 E f k b (s.ly p ff)) := rfl
theorem qfG (g : Operand) (ps : Array Tmp) (asg bd : Code) : XE2 E f k (.rangeFunc g ps asg bd) s = xRF pol E f g ps.toList (raO f (qI bd)) (rbO f (qI bd)) ((s.dzr pol.q).frz (q1b (s.dzr pol.q) (pol.rk f (qI bd)))) := rfl
theorem qjj (b : Code) : XE2 E f k (.loop b) s = (nrm pol f (qI b) k s).bind fun s0 => XL2 E f k (qI b) s0 := rfl
end
theorem q9x {E : Orc} {f k : Nat} : ∀ (c : Code), okL f c → ∀ s, XEo E f k c s = XE2 E f k c s := by
  intro c
  induction c with
  | seq a b iha ihb =>
    intro h s
    have h1 := iha ⟨fun x hx => h.lo x (List.mem_append_left _ hx), fun x hx => h.ro x (List.mem_append_left _ hx)⟩
    have h2 := ihb ⟨fun x hx => h.lo x (List.mem_append_right _ hx), fun x hx => h.ro x (List.mem_append_right _ hx)⟩
    rw [qlD, qkV, h1, funext h2]
  | block id c ih => intro h s; rw [qfw, qdB, ih ⟨h.lo, h.ro⟩ s]
  | cond x a b iha ihb =>
    intro h s
    have h1 := iha ⟨fun x hx => h.lo x (List.mem_append_left _ hx), fun x hx => h.ro x (List.mem_append_left _ hx)⟩
    have h2 := ihb ⟨fun x hx => h.lo x (List.mem_append_right _ hx), fun x hx => h.ro x (List.mem_append_right _ hx)⟩
    rw [qjD, qiD, h1, h2]
  | loop c ih =>
    intro h s
    rw [qiH, qjj]
    unfold XL2
    rw [h.lo c List.mem_cons_self]
  | rangeFunc g ps a b _ _ =>
    intro h s
    obtain ⟨h1, h2⟩ := h.ro (a, b) List.mem_cons_self
    rw [qet, qfG]
    rw [h1, h2]
  | skip => intro _ s; rw [qh7]; rfl
  | label => intro _ s; rw [qfn]; rfl
  | ret => intro _ s; rw [qkJ]; rfl
  | exit => intro _ s; rw [qiY]; rfl
  | _ => intro _ s; unfold XE2; rfl
noncomputable def th2 (E : Orc) (f k : Nat) (r : XS) (b : Code) : XS := r.bind (sqD fun s' => XE2 E f k b s')
noncomputable def lp2 (E : Orc) (f k key : Nat) (o : Option S) : XS := o.bind fun s => XL2 E f k key s
def lz2 (f k key : Nat) (r : XS) : XS := r.bind (lpx pol f key k)
def ly2 (e : Exit) (o : Option S) : XS := o.bind fun s => some (e, s)
noncomputable def rs2 (E : Orc) (ops : List Oper) (o : Option S) (l : List Oper) : Option S := o.bind fun s => xr Try.prog T pol E ops l s
noncomputable def qcT (E : Orc) (ops : List Oper) (A : List (List Nat)) (s0 : S) (m : Nat) (o : Option (S × Tx)) (l : List Oper) (acc : List Tx) : Option S := o.bind fun q => xdp Try.prog T pol E ops A s0 m l q.1 (acc ++ [q.2])
section
variable {E : Orc} {f k key : Nat} {s : S} {b : Code} {c : Prop} [Decidable c] {x y : XS} {α β : Type} {o : Option α} {g : α → XS} {h : β → XS} {e : α ⊕ β}
theorem qeA : XE2 E f k .skip s = some (.normal, s) := rfl
theorem qiu : XE2 E f k .ret s = some (.ret, s) := rfl
theorem qeU (i : Nat) : XE2 E f k (.exit i) s = some (.exit i, s) := rfl
theorem qi8 (a : Code) : XE2 E f k (.seq a b) s = th2 E f k (XE2 E f k a s) b := rfl
theorem qbu (i : Nat) : XE2 E f k (.block i b) s = bkk i (XE2 E f k b s) := rfl
theorem qek (p : Operand) (a b : Code) : XE2 E f k (.cond p a b) s = match s.ev p with | .c (.d (.bool t)) => if t = true then XE2 E f k a (s.ly p tt) else XE2 E f k b (s.ly p ff) | _ => none := rfl
theorem q9H (i : Nat) (ops : Array Oper) : XE2 E f k (.region i ops false) s = rgn (xr Try.prog T pol E ops.toList ops.toList s) := rfl
theorem qeQ (i : Nat) (ops : Array Oper) : XE2 E f k (.region i ops true) s = rgn (D1 Try.prog T pol E f k i ops.toList ((s.dzr pol.q).frz (q1b (s.dzr pol.q) (pol.rk f i)))) := rfl
theorem qe0 : XE2 E f k (.loop b) s = lp2 E f k (qI b) (nrm pol f (qI b) k s) := rfl
theorem q8d : th2 E f k (some (.normal, s)) b = XE2 E f k b s := rfl
theorem qf2 : th2 E f k (some (.ret, s)) b = some (.ret, s) := rfl
theorem qbr (i : Nat) : th2 E f k (some (.exit i, s)) b = some (.exit i, s) := rfl
theorem qaQ : th2 E f k none b = none := rfl
theorem qfk : th2 E f k (if c then x else y) b = if c then th2 E f k x b else th2 E f k y b := QZ _ _ _
theorem qaZ : th2 E f k (o.bind g) b = o.bind fun a => th2 E f k (g a) b := by cases o <;> rfl
theorem qfC : th2 E f k (Sum.elim g h e) b = Sum.elim (fun a => th2 E f k (g a) b) (fun a => th2 E f k (h a) b) e := by cases e <;> rfl
theorem qb0 : lp2 E f k key (some s) = XL2 E f k key s := rfl
theorem q7F : lz2 f k key (some (.normal, s)) = ly2 .normal (nrm pol f key k s) := rfl
theorem qfB : lz2 f k key (some (.ret, s)) = ly2 .ret (qfl k (pol.kx f key) (s.fin pol.q)) := rfl
theorem qcl (i : Nat) : lz2 f k key (some (.exit i, s)) = ly2 (.exit i) (qfl k (pol.kx f key) (s.fin pol.q)) := rfl
theorem qaU : lz2 f k key none = none := rfl
theorem qef : lz2 f k key (if c then x else y) = if c then lz2 f k key x else lz2 f k key y := QZ _ _ _
theorem qc6 : lz2 f k key (o.bind g) = o.bind fun a => lz2 f k key (g a) := by cases o <;> rfl
theorem qdJ : lz2 f k key (Sum.elim g h e) = Sum.elim (fun a => lz2 f k key (g a)) (fun a => lz2 f k key (h a)) e := by cases e <;> rfl
theorem qbe (x : Exit) : ly2 x (some s) = some (x, s) := rfl
theorem qeF (i : Nat) : bkk i (Sum.elim g h e) = Sum.elim (fun a => bkk i (g a)) (fun a => bkk i (h a)) e := by cases e <;> rfl
theorem qeE (res : List ResultVar) (rt : List TypeId) : fnn f k res rt (Sum.elim g h e) = Sum.elim (fun a => fnn f k res rt (g a)) (fun a => fnn f k res rt (h a)) e := by cases e <;> rfl
end
section
variable {E : Orc} {α β γ : Type} {e : α ⊕ β}
theorem qbK {δ : Type} (g : α → Option γ) (h : β → Option γ) (F : γ → Option δ) : (Sum.elim g h e).bind F = Sum.elim (fun a => (g a).bind F) (fun a => (h a).bind F) e := by cases e <;> rfl
end
section
variable {E : Orc} {s : S} {o : Oper} {c : Prop} [Decidable c] {α β : Type} {v : Option α} {e : α ⊕ β} {ops l : List Oper} {A : List (List Nat)} {s0 : S} {m : Nat} {acc : List Tx}
theorem qpk : xst Try.prog T pol E o true s = wst (xo Try.prog T pol E (pre pol s o.op) o.op) o.dst := rfl
theorem qnA : xst Try.prog T pol E o false s = if q4x s o.dst = true then some (s.put o.dst (.tup [])) else none := rfl
theorem qlu : xsF Try.prog T pol E o true s = alX E s o (alC pol s o.op) (wsF (xo Try.prog T pol E s o.op) s o) := rfl
theorem qlm : xsF Try.prog T pol E o false s = if q4x s o.dst = true then some (s.put o.dst (.tup []), (.tup [], []), ⟨[], [], [], [], []⟩) else none := rfl
theorem qkI : xr Try.prog T pol E ops [] s = some s := rfl
theorem qjc : xr Try.prog T pol E ops (o :: l) s = rs2 E ops (xgd Try.prog T pol E ops o s) l := rfl
theorem qjk : rs2 E ops (some s) l = xr Try.prog T pol E ops l s := rfl
theorem qgf : rs2 E ops none l = none := rfl
theorem qkP (x y : Option S) : rs2 E ops (if c then x else y) l = if c then rs2 E ops x l else rs2 E ops y l := QZ _ _ _
theorem qhs (g : α → Option S) : rs2 E ops (v.bind g) l = v.bind fun a => rs2 E ops (g a) l := by cases v <;> rfl
theorem qiV : xdp Try.prog T pol E ops A s0 0 l s acc = if okP A 0 [] acc = true ∧ okX ops A s0 acc 0 acc = true ∧ okK ops A acc = true ∧ okN acc 0 acc = true then xr Try.prog T pol E ops l s else none := by cases l <;> rfl
theorem qjp : xdp Try.prog T pol E ops A s0 (m + 1) (o :: l) s acc = qcT E ops A s0 m (xgF Try.prog T pol E ops o s) l acc := rfl
theorem qel (x : Tx) : qcT E ops A s0 m (some (s, x)) l acc = xdp Try.prog T pol E ops A s0 m l s (acc ++ [x]) := rfl
theorem qem : qcT E ops A s0 m none l acc = none := rfl
theorem qif (x y : Option (S × Tx)) : qcT E ops A s0 m (if c then x else y) l acc = if c then qcT E ops A s0 m x l acc else qcT E ops A s0 m y l acc := QZ _ _ _
theorem qeH (g : α → Option (S × Tx)) : qcT E ops A s0 m (v.bind g) l acc = v.bind fun a => qcT E ops A s0 m (g a) l acc := by cases v <;> rfl
theorem qhP (g : FuncId) (zs : List (List Nat)) (rs : List R) (bl rw ln : List Nat) : Z4 E s g zs rs bl rw ln = (q8h s (bl ++ rw) ln zs rs).bind fun rs' => (cvG s (bl ++ rw) (bl ++ rw) 0).bind fun G =>
    if (bl ++ rw).all (fun i => (s.blk i).live) = true ∧ (bl ++ rw).Nodup ∧ ln.all (fun i => (s.blk i).live && !(bl ++ rw).contains i) = true ∧ bl.length ≤ G.length ∧ (List.range G.length).all (fun j => (lk G j .dead).isBlk == decide (j < bl.length)) = true then cll (E (.fn g) bl.length rs' G) s bl rw ln else none := rfl
end
theorem qgR (g k : Nat) (a : List R) (G : List (Nat × B)) : evo (.fn g) k a G = ev g k a G := rfl
noncomputable def qeP (E : Orc) (f k : Nat) (args : List R) (G : List (Nat × B)) : Option (R × List (Nat × B)) := (qk Try.prog pol f).bind fun bd => q1z Try.prog T pol (D1 Try.prog T pol) E Lim f k args G bd
theorem qf {f n : Nat} {c : Code} {res : List ResultVar} {rt : List TypeId} (hb : qk Try.prog pol f = some ⟨c, n, res, rt⟩) : q2N f = c := by unfold q2N; rw [hb]; rfl
theorem qaK {E : Orc} {f n : Nat} {c : Code} {res : List ResultVar} {rt : List TypeId} (hb : qk Try.prog pol f = some ⟨c, n, res, rt⟩) (hl : okL f c) (k : Nat) (args : List R) (G : List (Nat × B)) :
    qeP E f k args G = if args.length ≤ n then fnn f k res rt (XE2 E f k c ⟨Jy args 0, G, G.length, n⟩) else none := by
  unfold qeP
  rw [hb, Option.bind_some]
  unfold q1z
  split
  · show Option.bind (XEo E f k c _) _ = _
    rw [q9x c hl]
    rfl
  · rfl
theorem qdz {f k : Nat} (hp : pol.pr f = none) (args : List R) (G : List (Nat × B)) : ev f k args G = qeP evo f k args G := by rw [qdM, hp]; rfl
theorem qx {f n : Nat} {c : Code} {res : List ResultVar} {rt : List TypeId} (hb : qk Try.prog pol f = some ⟨c, n, res, rt⟩) (hp : pol.pr f = none) (hl : okL f c) (k : Nat) (args : List R) (G : List (Nat × B)) :
    ev f k args G = if args.length ≤ n then fnn f k res rt (XE2 evo f k c ⟨Jy args 0, G, G.length, n⟩) else none := by
  rw [qdz hp, qaK hb hl]
section
variable {σ ε : Type}
def itT (step : σ → Option (σ ⊕ ε)) : Nat → σ → Option ε
  | 0, _ => none
  | n + 1, x => (step x).bind (Sum.elim (itT step n) some)
theorem q47 {step : σ → Option (σ ⊕ ε)} : ∀ {n m : Nat}, n ≤ m → ∀ x r, itT step n x = some r → itT step m x = some r
  | 0, _, _, x, r, h => by cases h
  | n + 1, 0, h, _, _, _ => by omega
  | n + 1, m + 1, h, x, r, hx => by
    unfold itT at hx ⊢
    obtain ⟨a, h1, h2⟩ := Option.bind_eq_some_iff.1 hx
    rw [h1, Option.bind_some]
    cases a with
    | inl y => exact q47 (by omega) y r h2
    | inr e => exact h2
noncomputable def qT (step : σ → Option (σ ⊕ ε)) (x : σ) : Option ε := open Classical in if h : ∃ r n, itT step n x = some r then some (Classical.choose h) else none
theorem q2M {step : σ → Option (σ ⊕ ε)} {n : Nat} {x : σ} {r : ε} (h : itT step n x = some r) : qT step x = some r := by
  have hex : ∃ r n, itT step n x = some r := ⟨r, n, h⟩
  unfold qT
  rw [dif_pos hex]
  obtain ⟨m, hm⟩ := Classical.choose_spec hex
  have h1 := q47 (Nat.le_max_left n m) _ _ h
  have h2 := q47 (Nat.le_max_right n m) _ _ hm
  rw [h1] at h2
  injection h2 with h2
  rw [← h2]
theorem q2X {step : σ → Option (σ ⊕ ε)} {x : σ} {r : ε} (h : qT step x = some r) : ∃ n, itT step n x = some r := by
  unfold qT at h
  split at h
  · rename_i hex
    injection h with h
    obtain ⟨m, hm⟩ := Classical.choose_spec hex
    exact ⟨m, h ▸ hm⟩
  · cases h
theorem q9p (step : σ → Option (σ ⊕ ε)) (x : σ) : qT step x = (step x).bind (Sum.elim (qT step) some) := by
  refine q2W (fun r h => ?_) (fun r h => ?_)
  · obtain ⟨n, hn⟩ := q2X h
    cases n with
    | zero => cases hn
    | succ n =>
      unfold itT at hn
      obtain ⟨a, h1, h2⟩ := Option.bind_eq_some_iff.1 hn
      rw [h1, Option.bind_some]
      cases a with
      | inl y => exact q2M h2
      | inr e => exact h2
  · obtain ⟨a, h1, h2⟩ := Option.bind_eq_some_iff.1 h
    cases a with
    | inl y =>
      obtain ⟨n, hn⟩ := q2X h2
      refine q2M (n := n + 1) ?_
      unfold itT
      rw [h1]; exact hn
    | inr e =>
      refine q2M (n := 1) ?_
      unfold itT
      rw [h1]; exact h2
end
theorem qed {F : S → XS} {σ ε : Type} {st : σ → S} {ex : ε → Exit × S} {step : σ → Option (σ ⊕ ε)} (hne : ∀ e, (ex e).1 ≠ .normal)
    (h : ∀ x, F (st x) = (step x).bind (Sum.elim (fun y => some (.normal, st y)) (fun e => some (ex e)))) (x : σ) : Lim F (st x) = (qT step x).bind fun e => some (ex e) := by
  have hit : ∀ (n : Nat) (x : σ), iter n F (st x) = (itT step n x).bind fun e => some (ex e) := by
    intro n
    induction n with
    | zero => intro x; rfl
    | succ n ih =>
      intro x
      unfold iter itT
      rw [h x]
      cases step x with
      | none => rfl
      | some a =>
        cases a with
        | inl y => exact ih y
        | inr e =>
          show sqD (iter n F) (ex e) = some (ex e)
          have := hne e
          generalize ex e = q at this
          obtain ⟨z, t⟩ := q
          cases z <;> first | exact absurd rfl this | rfl
  refine q2W (fun r hr => ?_) (fun r hr => ?_)
  · obtain ⟨n, hn⟩ := q2o hr
    rw [hit n x] at hn
    obtain ⟨e, h1, h2⟩ := Option.bind_eq_some_iff.1 hn
    rw [q2M h1]; exact h2
  · obtain ⟨e, h1, h2⟩ := Option.bind_eq_some_iff.1 hr
    obtain ⟨n, hn⟩ := q2X h1
    refine q4Y (n := n) ?_
    rw [hit n x, hn]; exact h2
theorem q4g {E : Orc} {f k key : Nat} {c : Code} {σ ε : Type} {st : σ → S} {ex : ε → Exit × S} {step : σ → Option (σ ⊕ ε)} (hc : lbO f key = c) (hl : okL f c) (hne : ∀ e, (ex e).1 ≠ .normal)
    (h : ∀ x, lz2 f k key (XE2 E f k c (st x)) = (step x).bind (Sum.elim (fun y => some (.normal, st y)) (fun e => some (ex e)))) (x : σ) : XL2 E f k key (st x) = (qT step x).bind fun e => some (ex e) := by
  refine qed hne (fun x => ?_) x
  rw [hc, q9x c hl]
  exact h x
noncomputable def xk (E : Orc) (f k key : Nat) (r : XS) : XS := r.bind fun p => match p.1 with | .normal => XL2 E f k key p.2 | e => some (e, p.2)
section
variable {E : Orc} {f k key : Nat} {s : S} {c : Prop} [Decidable c] {α β : Type} {o : Option α} {g : α → XS} {h : β → XS} {e : α ⊕ β}
theorem q9T : xk E f k key (some (.normal, s)) = XL2 E f k key s := rfl
theorem qfg (i : Nat) : xk E f k key (some (.exit i, s)) = some (.exit i, s) := rfl
theorem qgW : xk E f k key (some (.ret, s)) = some (.ret, s) := rfl
theorem qdH : xk E f k key none = none := rfl
theorem qiq (x y : XS) : xk E f k key (if c then x else y) = if c then xk E f k key x else xk E f k key y := QZ _ _ _
theorem qeS : xk E f k key (o.bind g) = o.bind fun a => xk E f k key (g a) := by cases o <;> rfl
theorem qjB : xk E f k key (Sum.elim g h e) = Sum.elim (fun a => xk E f k key (g a)) (fun a => xk E f k key (h a)) e := by cases e <;> rfl
end
theorem qeu {E : Orc} {f k key : Nat} {c : Code} {s : S} (hc : lbO f key = c) (hl : okL f c) : XL2 E f k key s = xk E f k key (lz2 f k key (XE2 E f k c s)) := by
  unfold XL2
  rw [qjx, hc, q9x c hl]
  show (lz2 f k key (XE2 E f k c s)).bind _ = _
  unfold xk
  congr 1
  funext p
  obtain ⟨e, t⟩ := p
  cases e <;> first | rfl | (show Lim _ t = Lim _ t; rw [hc])
theorem zp {α : Type} {c : Prop} [Decidable c] (x y : α) : (if c then some x else some y) = some (if c then x else y) := by split <;> rfl
theorem zX {f key : Nat} {c b : Code} (hc : q2N f = c) (h : (zj key c).getD .skip = b) : lbO f key = b := by unfold lbO; rw [hc]; exact h
theorem zm {f : Nat} {c b : Code} (hl : okL f c) (hb : b ∈ Qs c) : okL f b := ⟨fun x hx => hl.lo x ((q3e c b hb).1 x hx), fun q hq => hl.ro q ((q3e c b hb).2 q hq)⟩
section
variable {f k key : Nat} {s : S} {c : Prop} [Decidable c] {α β : Type} {o : Option α} {g : α → XS} {h : β → XS} {e : α ⊕ β}
end
section
variable {σ ε : Type} (f k : Nat) (enc : σ → List R × List (Nat × B)) (ex : ε → R × List (Nat × B))
variable {f k enc ex}
end
end Go.Proofs.Ytplfjlcnffcenaa.Vc
namespace Go.Proofs.Ytplfjlcnffcenaa.Vc
open Go.RowKit
set_option linter.unusedVariables false
set_option linter.unusedSectionVars false
section
variable {α : Type} {E : α → List D} {n : Nat}
theorem q9y (h : ∀ x, (E x).length = n) : ∀ (v : List α) (a : Nat), (v.flatMap E).drop (a * n) = (v.drop a).flatMap E
  | [], a => by simp
  | x :: v, 0 => by simp
  | x :: v, a + 1 => by
    rw [List.flatMap_cons, show (a + 1) * n = (E x).length + a * n by rw [h, Nat.add_mul]; omega, List.drop_length_add_append]
    exact q9y h v a
theorem q5Q (h : ∀ x, (E x).length = n) : ∀ (v : List α) (a : Nat), (v.flatMap E).take (a * n) = (v.take a).flatMap E
  | [], a => by simp
  | x :: v, 0 => by simp
  | x :: v, a + 1 => by
    rw [List.flatMap_cons, show (a + 1) * n = (E x).length + a * n by rw [h, Nat.add_mul]; omega, List.take_length_add_append, List.take_succ_cons, List.flatMap_cons, q5Q h v a]
theorem qhS (v w : List α) : v.flatMap E ++ w.flatMap E = (v ++ w).flatMap E := List.flatMap_append.symm
theorem qeM (v w : List α) : (v.flatMap E).map C.d ++ (w.flatMap E).map C.d = ((v ++ w).flatMap E).map C.d := by rw [← List.map_append, qhS]
theorem q3a (v : List α) (x : α) : (v.flatMap E).map C.d ++ (E x).map C.d = ((v ++ [x]).flatMap E).map C.d := by simp
end
def eI (x : Int) : List D := [.int .i64 x]
def eS (x : ByteArray) : List D := [.str x]
def qfK (x : Int) : List D := [.int .u64 x]
def eL {α : Type} (n : Nat) (E : α → List D) (v : List α) : List D := [.sl n v.length (v.flatMap E)]
theorem q93 {α β γ : Type} (f : β → γ) (o : Option α) (g : α → Option β) : (o.bind g).map f = o.bind fun x => (g x).map f := by cases o <;> rfl
theorem qfi (P : Program) (T : Ty) (d : Nat) (t : TypeId) (x y : R) : eqR P T (d + 1) t x y =
    match T.k t, x, y with
    | .int _, .c (.d (.int k a)), .c (.d (.int k' b)) => if k = k' then some (a == b) else none
    | .bool, .c (.d (.bool a)), .c (.d (.bool b)) => some (a == b)
    | .str, .c (.d (.str a)), .c (.d (.str b)) => some (a.toList == b.toList)
    | .st fs, .agg xs, .agg ys => if q5k P t = true then qdY T (eqR P T d) xs ys fs else none
    | _, _, _ => none := by
  generalize hk : T.k t = kd
  unfold eqR
  rw [hk]
  cases kd <;> first
    | rfl
    | (rcases x with (c | _ | _ | _) <;> first
        | rfl
        | (rcases y with (c' | _ | _ | _) <;> first
            | rfl
            | (cases c <;> first
                | rfl
                | (cases c' <;> first
                    | rfl
                    | (rename_i d1 d2; cases d1 <;> first
                        | rfl
                        | (cases d2 <;> rfl))))))
section
variable {α β : Type} {c : Prop} [Decidable c] (a b : List α)
theorem qeK (f : α → Bool) : (if c then a else b).any f = if c then a.any f else b.any f := by split <;> rfl
theorem qfq (f : α → β) : (if c then a else b).map f = if c then a.map f else b.map f := by split <;> rfl
theorem q5D : (if c then a else b).isEmpty = if c then a.isEmpty else b.isEmpty := by split <;> rfl
theorem q5o [BEq α] (x : α) : (if c then a else b).contains x = if c then a.contains x else b.contains x := by split <;> rfl
end
def qjV (op : UnOp) (r : R) (s : S) : RS :=
  match op, r with
  | .not, .c (.d (.bool b)) => some (.c (.d (.bool (!b))), s)
  | .neg, .c (.d (.int k n)) => some (.c (.d (.int k (k.wrap (0 - n)))), s)
  | _, _ => none
theorem qg7 (s : S) (op : UnOp) (x : Operand) : xUn s op x = qjV op (s.ev x) s := by
  unfold xUn qjV
  generalize s.ev x = r
  cases op <;> first
    | rfl
    | (cases r with
       | c c => cases c with
         | d d => cases d <;> rfl
         | _ => rfl
       | _ => rfl)
def lkq (ok : Bool) (z : R) : Option (Nat × R × Nat) → Option R
  | some q => some (tt2 q.2.1 ok true)
  | none => some (tt2 z ok false)
theorem q7N (T : Ty) (s : S) (t : TypeId) (x y : Operand) (ok : Bool) : q09 T s t x y ok =
    match T.k t, q0V s x, (s.ev y).key with
    | .mp k e, some es, some kv => if plK (T.k k) kv = true ∧ es.all (fun q => plK (T.k k) q.1) = true then (zR T e).bind fun z => lkq ok z (fnd kv es 0) else none
    | _, _, _ => none := by
  unfold q09
  generalize T.k t = kd
  generalize q0V s x = m
  generalize (s.ev y).key = v
  cases kd <;> first
    | rfl
    | (cases m <;> first
        | rfl
        | (cases v <;> first
            | rfl
            | (simp only
               split
               · congr 1
                 funext z
                 cases fnd _ _ _ <;> rfl
               · rfl)))
theorem q8W (xs ys : List C) : (xs ++ ys).flatMap C.rows = xs.flatMap C.rows ++ ys.flatMap C.rows := List.flatMap_append
theorem qaJ (f : C → C) (ds : List D) (ys : List C) : (ds.map C.d ++ ys).map f = (ds.map C.d).map f ++ ys.map f := List.map_append
def Ql {α : Type} (a b : Option α) : Prop := ∀ r, a = some r → b = some r
theorem Ql.refl {α : Type} (a : Option α) : Ql a a := fun _ h => h
theorem Ql.none {α : Type} (a : Option α) : Ql Option.none a := fun _ h => by cases h
theorem Ql.bind {α β : Type} {a b : Option α} {f g : α → Option β} (h : Ql a b) (hf : ∀ x, Ql (f x) (g x)) : Ql (a.bind f) (b.bind g) := fun r hr => by
  obtain ⟨x, h1, h2⟩ := Option.bind_eq_some_iff.1 hr
  rw [h x h1]
  exact hf x r h2
theorem Ql.ite {α : Type} {c : Prop} [Decidable c] {a b a' b' : Option α} (h : Ql a a') (h' : Ql b b') : Ql (if c then a else b) (if c then a' else b') := by
  split
  · exact h
  · exact h'
theorem Ql.sum {α β γ : Type} {f f' : α → Option γ} {g g' : β → Option γ} {e : α ⊕ β} (h : ∀ x, Ql (f x) (f' x)) (h' : ∀ x, Ql (g x) (g' x)) : Ql (Sum.elim f g e) (Sum.elim f' g' e) := by
  cases e with
  | inl x => exact h x
  | inr x => exact h' x
theorem Ql.lim {σ ε : Type} {f g : σ → Option (σ ⊕ ε)} {n : Nat} {x : σ} (h : ∀ x, Ql (f x) (g x)) : Ql (itT f n x) (qT g x) := by
  have key : ∀ (n : Nat) (x : σ), Ql (itT f n x) (itT g n x) := by
    intro n
    induction n with
    | zero => intro x r hr; cases hr
    | succ n ih =>
      intro x
      unfold itT
      refine Ql.bind (h x) (fun y => ?_)
      cases y with
      | inl y => exact ih y
      | inr e => exact Ql.refl _
  exact fun r hr => q2M (key n x r hr)
def itR {σ ε : Type} (step : (σ → Option ε) → σ → Option ε) : Nat → σ → Option ε
  | 0, _ => none
  | n + 1, x => step (itR step n) x
theorem Ql.rec {σ ε : Type} {c s : (σ → Option ε) → σ → Option ε} {f : σ → Option ε} (hs : ∀ x, f x = s f x) (h : ∀ F F', (∀ y, Ql (F y) (F' y)) → ∀ x, Ql (c F x) (s F' x)) : ∀ (n : Nat) (x : σ), Ql (itR c n x) (f x) := by
  intro n
  induction n with
  | zero => intro x r hr; cases hr
  | succ n ih =>
    intro x
    rw [hs x]
    exact h _ _ ih x
theorem q8S (t : TypeId) (cs ys : List C) (o : Nat) : (B.blk t cs).set o ys = .blk t (spl cs o ys) := rfl
def xsl (T : Ty) (s : S) (t : TypeId) (x : R) (lo hi : Option Operand) : RS :=
  match x, T.k t with
  | .c (.d (.str b)), .str =>
    match s.bd lo 0, s.bd hi b.size with
    | some l, some h => if 0 ≤ l ∧ l ≤ h ∧ h ≤ b.size then some (.c (.d (.str (b.extract l.toNat h.toNat))), s) else none
    | _, _ => none
  | .c (.d (.sl sz n cs)), .sl e =>
    if T.k e ≠ .other ∧ T.sz e = sz then
      match s.bd lo 0, s.bd hi n with
      | some l, some h => if 0 ≤ l ∧ l ≤ h ∧ h ≤ n then some (.c (.d (.sl sz (h.toNat - l.toNat) ((cs.drop (l.toNat * sz)).take ((h.toNat - l.toNat) * sz)))), s) else none
      | _, _ => none
    else none
  | .c (.own id sz off n), .sl e =>
    if T.k e ≠ .other ∧ T.sz e = sz then
      match s.bd lo 0, s.bd hi n with
      | some l, some h => if 0 ≤ l ∧ l ≤ h ∧ h ≤ n then (if l = 0 ∨ l < n then some (.c (.own id sz (off + l.toNat) (h.toNat - l.toNat)), s) else some (.c (.d (.sl sz 0 [])), s)) else none
      | _, _ => none
    else none
  | .c .nils, .sl e =>
    if T.k e ≠ .other then
      match s.bd lo 0, s.bd hi 0 with
      | some l, some h => if l = 0 ∧ h = 0 then some (.c .nils, s) else none
      | _, _ => none
    else none
  | _, _ => none
theorem qav (T : Ty) (s : S) (t : TypeId) (x : Operand) (lo hi : Option Operand) : q5b T s t x lo hi none = xsl T s t (s.ev x) lo hi := by
  unfold q5b xsl
  generalize s.ev x = r
  generalize T.k t = kd
  cases r with
  | c c =>
    cases c with
    | d d => cases d <;> cases kd <;> rfl
    | _ => cases kd <;> rfl
  | _ => rfl
section
variable {T : Ty} {s : S} {t : TypeId} {lo hi : Option Operand}
end
def qk8 {α : Type} (s : S) (E : α → List D) (n : Nat) (v : List α) (l h : Option Int) : RS :=
  match l, h with
  | some l, some h => if 0 ≤ l ∧ l ≤ h ∧ h ≤ v.length then some (.c (.d (.sl n ((v.drop l.toNat).take (h.toNat - l.toNat)).length (((v.drop l.toNat).take (h.toNat - l.toNat)).flatMap E))), s) else none
  | _, _ => none
theorem qiA {α : Type} {E : α → List D} {n : Nat} (h : ∀ x, (E x).length = n) {T : Ty} {s : S} {t e : TypeId} (v : List α) (lo hi : Option Operand) (hk : T.k t = .sl e) (hz : T.sz e = n) (ho : T.k e ≠ .other) :
    xsl T s t (.c (.d (.sl n v.length (v.flatMap E)))) lo hi = qk8 s E n v (s.bd lo 0) (s.bd hi v.length) := by
  unfold xsl
  simp only [hk]
  rw [if_pos ⟨ho, hz⟩]
  unfold qk8
  cases s.bd lo 0 with
  | none => rfl
  | some l =>
    cases s.bd hi v.length with
    | none => rfl
    | some h' =>
      simp only
      split
      · rename_i hc
        rw [q9y h, q5Q h, List.length_take, List.length_drop, Nat.min_eq_left (by omega)]
      · rfl
abbrev dI (n : Int) : C := C.d (D.int .i64 n)
abbrev dS (s : ByteArray) : C := C.d (D.str s)
abbrev dL {α : Type} (n : Nat) (E : α → List D) (v : List α) : C := C.d (D.sl n v.length (v.flatMap E))
abbrev dO (i sz n : Nat) : C := C.own i sz 0 n
abbrev dP (i : Nat) : C := C.ptr i 0
abbrev rI (n : Int) : R := R.c (C.d (D.int .i64 n))
abbrev rS (s : ByteArray) : R := R.c (C.d (D.str s))
abbrev rB (b : Bool) : R := R.c (C.d (D.bool b))
abbrev rL {α : Type} (n : Nat) (E : α → List D) (v : List α) : R := R.c (C.d (D.sl n v.length (v.flatMap E)))
abbrev rO (i sz n : Nat) : R := R.c (C.own i sz 0 n)
abbrev rP (i : Nat) : R := R.c (C.ptr i 0)
abbrev bR {α : Type} (e sz : Nat) (E : α → List D) (v : List α) : B := B.row e sz ((v.flatMap E).map C.d)
theorem XLs {E : Orc} {f k key : Nat} {c : Code} {σ ε : Type} {st : σ → S} {ex : ε → XS} {step : σ → Option (σ ⊕ ε)} (hc : lbO f key = c) (hl : okL f c) (hne : ∀ e, ∃ p, ex e = some p ∧ p.1 ≠ .normal)
    (h : ∀ x, lz2 f k key (XE2 E f k c (st x)) = (step x).bind (Sum.elim (fun y => some (.normal, st y)) ex)) (x : σ) : XL2 E f k key (st x) = (qT step x).bind ex := by
  obtain ⟨g, hg⟩ : ∃ g : ε → Exit × S, ∀ e, ex e = some (g e) ∧ (g e).1 ≠ .normal := ⟨fun e => Classical.choose (hne e), fun e => Classical.choose_spec (hne e)⟩
  obtain rfl : ex = fun e => some (g e) := funext fun e => (hg e).1
  exact q4g (ex := g) hc hl (fun e => (hg e).2) h x
theorem q5z {E : Orc} {f k key : Nat} {c : Code} {A1 ε : Type} {st : A1 → S} {ex : ε → XS} {step : A1 → Option ((A1) ⊕ ε)} (hc : lbO f key = c) (hl : okL f c) (hne : ∀ e, ∃ p, ex e = some p ∧ p.1 ≠ .normal)
    (h : ∀ a1, lz2 f k key (XE2 E f k c (st a1)) = (step a1).bind (Sum.elim (fun y => some (.normal, st y)) ex)) (a1 : A1) : XL2 E f k key (st a1) = (qT step a1).bind ex :=
  XLs (st := fun y => st y) hc hl hne (fun a1 => h a1) a1
theorem qaH {E : Orc} {f k key : Nat} {c : Code} {A1 A2 ε : Type} {st : A1 → A2 → S} {ex : ε → XS} {step : (A1 × A2) → Option ((A1 × A2) ⊕ ε)} (hc : lbO f key = c) (hl : okL f c) (hne : ∀ e, ∃ p, ex e = some p ∧ p.1 ≠ .normal)
    (h : ∀ a1 a2, lz2 f k key (XE2 E f k c (st a1 a2)) = (step (a1, a2)).bind (Sum.elim (fun y => some (.normal, st y.1 y.2)) ex)) (a1 : A1) (a2 : A2) : XL2 E f k key (st a1 a2) = (qT step (a1, a2)).bind ex :=
  XLs (st := fun y => st y.1 y.2) hc hl hne (fun ⟨a1, a2⟩ => h a1 a2) (a1, a2)
theorem qpJ {E : Orc} {f k key : Nat} {c : Code} {A1 A2 A3 ε : Type} {st : A1 → A2 → A3 → S} {ex : ε → XS} {step : (A1 × A2 × A3) → Option ((A1 × A2 × A3) ⊕ ε)} (hc : lbO f key = c) (hl : okL f c) (hne : ∀ e, ∃ p, ex e = some p ∧ p.1 ≠ .normal)
    (h : ∀ a1 a2 a3, lz2 f k key (XE2 E f k c (st a1 a2 a3)) = (step (a1, a2, a3)).bind (Sum.elim (fun y => some (.normal, st y.1 y.2.1 y.2.2)) ex)) (a1 : A1) (a2 : A2) (a3 : A3) : XL2 E f k key (st a1 a2 a3) = (qT step (a1, a2, a3)).bind ex :=
  XLs (st := fun y => st y.1 y.2.1 y.2.2) hc hl hne (fun ⟨a1, a2, a3⟩ => h a1 a2 a3) (a1, a2, a3)
theorem qm4 {E : Orc} {f k key : Nat} {c : Code} {A1 A2 A3 A4 ε : Type} {st : A1 → A2 → A3 → A4 → S} {ex : ε → XS} {step : (A1 × A2 × A3 × A4) → Option ((A1 × A2 × A3 × A4) ⊕ ε)} (hc : lbO f key = c) (hl : okL f c) (hne : ∀ e, ∃ p, ex e = some p ∧ p.1 ≠ .normal)
    (h : ∀ a1 a2 a3 a4, lz2 f k key (XE2 E f k c (st a1 a2 a3 a4)) = (step (a1, a2, a3, a4)).bind (Sum.elim (fun y => some (.normal, st y.1 y.2.1 y.2.2.1 y.2.2.2)) ex)) (a1 : A1) (a2 : A2) (a3 : A3) (a4 : A4) : XL2 E f k key (st a1 a2 a3 a4) = (qT step (a1, a2, a3, a4)).bind ex :=
  XLs (st := fun y => st y.1 y.2.1 y.2.2.1 y.2.2.2) hc hl hne (fun ⟨a1, a2, a3, a4⟩ => h a1 a2 a3 a4) (a1, a2, a3, a4)
theorem qoL {E : Orc} {f k key : Nat} {c : Code} {A1 A2 A3 A4 A5 ε : Type} {st : A1 → A2 → A3 → A4 → A5 → S} {ex : ε → XS} {step : (A1 × A2 × A3 × A4 × A5) → Option ((A1 × A2 × A3 × A4 × A5) ⊕ ε)} (hc : lbO f key = c) (hl : okL f c) (hne : ∀ e, ∃ p, ex e = some p ∧ p.1 ≠ .normal)
    (h : ∀ a1 a2 a3 a4 a5, lz2 f k key (XE2 E f k c (st a1 a2 a3 a4 a5)) = (step (a1, a2, a3, a4, a5)).bind (Sum.elim (fun y => some (.normal, st y.1 y.2.1 y.2.2.1 y.2.2.2.1 y.2.2.2.2)) ex)) (a1 : A1) (a2 : A2) (a3 : A3) (a4 : A4) (a5 : A5) : XL2 E f k key (st a1 a2 a3 a4 a5) = (qT step (a1, a2, a3, a4, a5)).bind ex :=
  XLs (st := fun y => st y.1 y.2.1 y.2.2.1 y.2.2.2.1 y.2.2.2.2) hc hl hne (fun ⟨a1, a2, a3, a4, a5⟩ => h a1 a2 a3 a4 a5) (a1, a2, a3, a4, a5)
def dzU (Q : TypeId → List Nat) : B → B
  | .row e sz cs => .row e sz (dzc (Q e) [] cs)
  | b => b
theorem qid (z : Nat) {c : C} (h : c.isNils = false) : dz z c = c := by
  cases c <;> first | rfl | cases h
theorem q4L (zs0 : List Nat) : ∀ {cs : List C} (zs : List Nat), cs.any C.isNils = false → dzc zs0 zs cs = cs
  | [], zs, _ => by cases zs <;> rfl
  | c :: cs, zs, h => by
    rw [List.any_cons, Bool.or_eq_false_iff] at h
    cases zs with
    | nil => rw [dzc, qid _ h.1, q4L zs0 _ h.2]
    | cons z zs => rw [dzc, qid _ h.1, q4L zs0 _ h.2]
theorem qkT (Q : TypeId → List Nat) (b : B) : dzB Q b = dzU Q b := by
  cases b with
  | row e sz cs =>
    unfold dzB dzU
    simp only
    split
    · rfl
    · rename_i h
      rw [q4L _ _ (by simpa using h)]
  | _ => rfl
theorem qig (Q : TypeId → List Nat) (b : B) (h : b.nilr = false) : dzU Q b = b := by
  cases b with
  | row e sz cs => unfold dzU; simp only; rw [q4L _ _ h]
  | _ => rfl
theorem qj6 (tm : List (Nat × R)) (hp : List (Nat × B)) (nx n : Nat) (Q : TypeId → List Nat) : S.dzr (S.mk tm hp nx n) Q = S.mk tm (hp.map fun x => (x.1, dzU Q x.2)) nx n := by
  unfold S.dzr
  split
  · simp only [qkT]
  · rename_i h
    congr 1
    have h2 : ∀ x ∈ hp, x.2.nilr = false := fun x hx => by
      cases hb : x.2.nilr with
      | false => rfl
      | true => exact absurd (List.any_eq_true.2 ⟨x, hx, hb⟩) h
    refine (List.map_id' hp).symm.trans (List.map_congr_left fun x hx => ?_)
    rw [qig Q x.2 (h2 x hx)]
theorem qfh (Q : TypeId → List Nat) (e sz : Nat) (cs : List C) : dzU Q (.row e sz cs) = .row e sz (dzc (Q e) [] cs) := rfl
theorem qe4 (Q : TypeId → List Nat) (t : Nat) (cs : List C) : dzU Q (.blk t cs) = .blk t cs := rfl
theorem qhi (Q : TypeId → List Nat) (o : AO) : dzU Q (.ob o) = .ob o := rfl
theorem qbZ (Q : TypeId → List Nat) : dzU Q .dead = .dead := rfl
theorem qdU {α : Type} (x : α) : Option.toArray (some x) = [x].toArray := rfl
theorem qf7 {α : Type} : Option.toArray (none : Option α) = ([] : List α).toArray := rfl
theorem qhM {α : Type} (l m : List α) : l.toArray ++ m.toArray = (l ++ m).toArray := by simp
theorem qdF {α : Type} (l : List α) : Array.toList l.toArray = l := rfl
end Go.Proofs.Ytplfjlcnffcenaa.Vc
namespace Go.Proofs.Ytplfjlcnffcenaa.Vc
open Go.RowKit
set_option linter.unusedVariables false
set_option linter.unusedSimpArgs false
def mpE {κ ν : Type} (kE : κ → Value) (vE : ν → R) : List (κ × ν) → Nat → List (Value × R × Nat)
  | [], _ => []
  | p :: M, i => (kE p.1, vE p.2, i) :: mpE kE vE M (i + 1)
def mpB {κ ν : Type} (kE : κ → Value) (vE : ν → R) (M : List (κ × ν)) : AO := .mp (mpE kE vE M 0) M.length
def q0O (k : IntKind) (n : Int) : Value := .int k n
section
variable {κ ν : Type} [DecidableEq κ]
def q8g (M : List (κ × ν)) (k : κ) : Nat := match M with
  | [] => 0
  | p :: M => if k = p.1 then 0 else q8g M k + 1
def q3X (z : ν) (M : List (κ × ν)) (k : κ) : ν := match M with
  | [] => z
  | p :: M => if k = p.1 then p.2 else q3X z M k
def q8i (M : List (κ × ν)) (k : κ) : Bool := match M with
  | [] => false
  | p :: M => if k = p.1 then true else q8i M k
def q44 (M : List (κ × ν)) (k : κ) (v : ν) : List (κ × ν) := match M with
  | [] => [(k, v)]
  | p :: M => if k = p.1 then (k, v) :: M else p :: q44 M k v
end
section
variable {κ ν : Type} {kE : κ → Value} {vE : ν → R}
theorem qdD : ∀ (M : List (κ × ν)) (i : Nat), (mpE kE vE M i).length = M.length
  | [], _ => rfl
  | p :: M, i => by rw [mpE, List.length_cons, qdD M, List.length_cons]
theorem q60 {f : Value × R × Nat → Bool} (hf : ∀ k r i, f (kE k, r, i) = true) : ∀ (M : List (κ × ν)) (i : Nat), (mpE kE vE M i).all f = true
  | [], _ => rfl
  | p :: M, i => by rw [mpE, List.all_cons, hf, q60 hf M]; rfl
theorem q4h {f : R → R} (hf : ∀ v, f (vE v) = vE v) (M : List (κ × ν)) : AO.mapR f (mpB kE vE M) = mpB kE vE M := by
  have : ∀ (M : List (κ × ν)) (i : Nat), (mpE kE vE M i).map (fun e => (e.1, f e.2.1, e.2.2)) = mpE kE vE M i := by
    intro M
    induction M with
    | nil => intro i; rfl
    | cons p M ih => intro i; rw [mpE, List.map_cons, ih, hf]
  unfold mpB
  show AO.mp _ _ = _
  rw [this]
theorem qdC {f : R → Bool} (hf : ∀ v, f (vE v) = true) (M : List (κ × ν)) : (mpB kE vE M).Rs.all f = true := by
  have : ∀ (M : List (κ × ν)) (i : Nat), ((mpE kE vE M i).map (·.2.1)).all f = true := by
    intro M
    induction M with
    | nil => intro i; rfl
    | cons p M ih => intro i; rw [mpE, List.map_cons, List.all_cons, ih, hf]; rfl
  exact this M 0
theorem qaT {f : R → List Nat} (hf : ∀ v, f (vE v) = []) (M : List (κ × ν)) : (mpB kE vE M).Rs.flatMap f = [] := by
  have : ∀ (M : List (κ × ν)) (i : Nat), ((mpE kE vE M i).map (·.2.1)).flatMap f = [] := by
    intro M
    induction M with
    | nil => intro i; rfl
    | cons p M ih => intro i; rw [mpE, List.map_cons, List.flatMap_cons, ih, hf]; rfl
  exact this M 0
variable [DecidableEq κ] (hk : ∀ a b, kq (kE a) (kE b) = decide (a = b))
include hk
theorem q9Q (k : κ) : ∀ (M : List (κ × ν)) (i : Nat) (z : ν), fnd (kE k) (mpE kE vE M i) i = if q8i M k = true then some (i + q8g M k, vE (q3X z M k), i + q8g M k) else none
  | [], i, z => rfl
  | p :: M, i, z => by
    rw [mpE, fnd]
    simp only [hk, q8i, q8g, q3X, decide_eq_true_eq]
    by_cases h : k = p.1
    · simp [h]
    · simp only [if_neg h]
      rw [q9Q k M (i + 1) z]
      split
      · rw [show i + 1 + q8g M k = i + (q8g M k + 1) by omega]
      · rfl
theorem qkQ (z : ν) (ok : Bool) (k : κ) (M : List (κ × ν)) : lkq ok (vE z) (fnd (kE k) (mpE kE vE M 0) 0) = some (tt2 (vE (q3X z M k)) ok (q8i M k)) := by
  rw [q9Q hk k M 0 z]
  cases hm : q8i M k
  · have : q3X z M k = z := by
      clear hk
      induction M with
      | nil => rfl
      | cons p M ih =>
        rw [q8i] at hm
        rw [q3X]
        split
        · rename_i h; rw [if_pos h] at hm; cases hm
        · rename_i h; rw [if_neg h] at hm; exact ih hm
    rw [this]; rfl
  · rfl
end
section
variable {κ ν : Type} {kE : κ → Value} {vE : ν → R} [DecidableEq κ]
theorem q6n (k : κ) (v : ν) : ∀ (M : List (κ × ν)) (i : Nat), q8i M k = true → (mpE kE vE M i).set (q8g M k) (kE k, vE v, i + q8g M k) = mpE kE vE (q44 M k v) i ∧ (q44 M k v).length = M.length
  | [], _, h => by cases h
  | p :: M, i, h => by
    rw [q8i] at h
    by_cases hp : k = p.1
    · simp only [mpE, q8g, q44, if_pos hp]
      exact ⟨rfl, rfl⟩
    · rw [if_neg hp] at h
      obtain ⟨a, b⟩ := q6n k v M (i + 1) h
      simp only [mpE, q8g, q44, if_neg hp, List.length_cons, List.set_cons_succ]
      rw [show i + (q8g M k + 1) = i + 1 + q8g M k by omega, a, b]
      exact ⟨rfl, rfl⟩
theorem q74 (k : κ) (v : ν) : ∀ (M : List (κ × ν)) (i : Nat), q8i M k = false → mpE kE vE M i ++ [(kE k, vE v, i + M.length)] = mpE kE vE (q44 M k v) i ∧ (q44 M k v).length = M.length + 1
  | [], i, _ => ⟨rfl, rfl⟩
  | p :: M, i, h => by
    rw [q8i] at h
    by_cases hp : k = p.1
    · rw [if_pos hp] at h; cases h
    · rw [if_neg hp] at h
      obtain ⟨a, b⟩ := q74 k v M (i + 1) h
      simp only [mpE, q44, if_neg hp, List.length_cons, List.cons_append]
      rw [show i + (M.length + 1) = i + 1 + M.length by omega, a, b]
      exact ⟨rfl, rfl⟩
end
def mpq : B → Option (List (Value × R × Nat))
  | .ob (.mp es _) => some es
  | _ => none
def mpo (s : S) : R → Option (List (Value × R × Nat))
  | .c .nilm => some []
  | .c (.hd .map id) => mpq (s.blk id)
  | _ => none
theorem qaR (s : S) (x : Operand) : q0V s x = mpo s (s.ev x) := by
  unfold q0V mpo mpq
  generalize s.ev x = r
  cases r with
  | c c =>
    cases c with
    | hd k id => cases k <;> rfl
    | _ => rfl
  | _ => rfl
theorem qlG {κ ν : Type} (kE : κ → Value) (vE : ν → R) (M : List (κ × ν)) : mpq (.ob (mpB kE vE M)) = some (mpE kE vE M 0) := rfl
def mup (kt : Kd) (kv : Value) (r : R) : B → Option B
  | .ob (.mp es ck) => if plK kt kv = true ∧ es.all (fun q => plK kt q.1) = true then
      (match fnd kv es 0 with
        | some q => some (.ob (.mp (es.set q.1 (kv, r, q.2.2)) ck))
        | none => some (.ob (.mp (es ++ [(kv, r, ck)]) (ck + 1)))) else none
  | _ => none
def xmu (T : Ty) (s : S) (t : TypeId) (m : R) (kv : Option Value) (r : R) : Option (R × S) :=
  match T.k t, m, kv with
  | .mp kt _, .c (.hd .map id), some kv => (mup (T.k kt) kv r (s.blk id)).bind fun b => some (.any, s.up [(id, b)])
  | _, _, _ => none
theorem qju (T : Ty) (s : S) (t : TypeId) (m : R) (kv : Option Value) (r : R) : xmu T s t m kv r =
  match T.k t, m, kv with
  | .mp kt _, .c (.hd .map id), some kv => (mup (T.k kt) kv r (s.blk id)).bind fun b => some (.any, s.up [(id, b)])
  | _, _, _ => none := rfl
theorem q7I (T : Ty) (s : S) (t : TypeId) (m k x : Operand) : JT T s t m k x = xmu T s t (s.ev m) (s.ev k).key (s.ev x) := by
  unfold JT xmu mup
  generalize T.k t = kd
  generalize s.ev m = r
  generalize (s.ev k).key = kv
  cases kd with
  | mp kt e =>
    cases r with
    | c c =>
      cases c with
      | hd h id =>
        cases h with
        | map =>
          cases kv with
          | none => rfl
          | some kv =>
            simp only
            generalize s.blk id = b
            cases b with
            | ob o =>
              cases o with
              | mp es ck =>
                simp only
                split
                · cases fnd kv es 0 <;> rfl
                · rfl
              | _ => rfl
            | _ => rfl
        | _ => rfl
      | _ => rfl
    | _ => rfl
  | _ => rfl
section
variable {κ ν : Type} {kE : κ → Value} {vE : ν → R} [DecidableEq κ] (hk : ∀ a b, kq (kE a) (kE b) = decide (a = b)) {kt : Kd} (hp : ∀ a, plK kt (kE a) = true)
include hk hp
theorem qlC (k : κ) (v : ν) (M : List (κ × ν)) : mup kt (kE k) (vE v) (.ob (mpB kE vE M)) = some (.ob (mpB kE vE (q44 M k v))) := by
  unfold mpB mup
  simp only
  rw [if_pos ⟨hp k, q60 (fun k r i => hp k) M 0⟩, q9Q hk k M 0 v]
  cases hm : q8i M k
  · obtain ⟨a, b⟩ := q74 (kE := kE) (vE := vE) k v M 0 hm
    simp only [Bool.false_eq_true, if_false]
    rw [Nat.zero_add] at a
    rw [a, b]
  · obtain ⟨a, b⟩ := q6n (kE := kE) (vE := vE) k v M 0 hm
    simp only [if_true]
    rw [Nat.zero_add] at a ⊢
    rw [a, b]
end
theorem qea {κ ν : Type} {kE : κ → Value} {vE : ν → R} {s : S} {sel : List Nat} (h : ∀ v, qaB s sel (vE v) = vE v) (M : List (κ × ν)) : cvA s sel (mpB kE vE M) = some (mpB kE vE M) := by
  have : ∀ (M : List (κ × ν)) (i : Nat), (mpE kE vE M i).map (fun e => (e.1, qaB s sel e.2.1, e.2.2)) = mpE kE vE M i := by
    intro M
    induction M with
    | nil => intro i; rfl
    | cons p M ih => intro i; rw [mpE, List.map_cons, ih, h]
  show some (AO.mp ((mpE kE vE M 0).map fun e => (e.1, qaB s sel e.2.1, e.2.2)) M.length) = _
  rw [this]; rfl
theorem qcD (k : IntKind) (a b : Int) : kq (q0O k a) (q0O k b) = decide (a = b) := rfl
end Go.Proofs.Ytplfjlcnffcenaa.Vc
namespace Go.Proofs.Ytplfjlcnffcenaa.Vc
open Go.RowKit
set_option linter.unusedSectionVars false
theorem qc5 {κ ν : Type} (kE : κ → Value) (vE : ν → R) (M : List (κ × ν)) : qkL (mpB kE vE M) = true := rfl
theorem q5h (o : AO) : Jd 1 [.c (.hd .map 0)] [(0, .ob o)] = if qkL o = true then some (.c (.hd .map 1), [(0, .ob o), (1, .ob o)]) else none := rfl
theorem q6V : ∀ l : List Int, q5Z ((l.flatMap eI).map C.d) = some l
  | [] => rfl
  | x :: l => by
    rw [List.flatMap_cons, List.map_append]
    show (q5Z ((l.flatMap eI).map C.d)).map (x :: ·) = _
    rw [q6V l]; rfl
theorem q3L : ∀ l : List Int, (l.map fun z => C.d (.int .i64 z)) = (l.flatMap eI).map C.d
  | [] => rfl
  | x :: l => by
    rw [List.flatMap_cons, List.map_append, List.map_cons, q3L l]; rfl
end Go.Proofs.Ytplfjlcnffcenaa.Vc
namespace Go.Proofs.Ytplfjlcnffcenaa.Vc
open Go.RowKit
set_option linter.defProp false
set_option linter.unusedVariables false
def bx0 := JA_ @qk2.eq_1 (JA_ @q9b.eq_1 (JA_ @q8U.eq_1 (JA_ @S.ly.eq_1 (JA_ @alC.eq_1 (JA_ @alC.eq_2 (JA_ @alX.eq_1 (JA_ @alX.eq_2 (JA_ @qmh.eq_1 (JA_ @qhf.eq_1 (JA_ @qjP.eq_1 (JA_ @ipX.eq_1 (JA_ @qkh.eq_1 (JA_ @qkh.eq_2 (JA_ @qlh.eq_1 (JA_ @qkH.eq_1 (JA_ @q6o.eq_1 (JA_ @qbm.eq_1 (JA_ @qbm.eq_2 (JA_ @zmk.eq_1 (JA_ @zmk.eq_2 (JA_ @S.fin.eq_1 (JA_ @S.fn1.eq_1 (JA_ @S.inr.eq_1 (JA_ @prx.eq_1 (JA_ @pr0.eq_1 (JA_ @List.isEmpty_nil.{0} (JA_ @List.isEmpty_cons.{0} (JA_ @wbC.eq_1 (JA_ @B.beq.eq_1 (JA_ @C.beqL.eq_1 (@C.beqL.eq_2)))))))))))))))))))))))))))))))
def bx1 := JA_ @C.beq0.eq_1 (JA_ @D.beq.eq_1 (JA_ @D.beq.eq_4 (JA_ @qkB.eq_1 (JA_ @dzc.eq_2 (JA_ @C.isNils.eq_2 (JA_ @qbg (JA_ @List.any_append.{0} (JA_ @q0y.eq_1 (JA_ @q1Z.eq_1 (JA_ @q1Z.eq_2 (JA_ @qbq.eq_1 (JA_ @fpA.eq_1 (JA_ @q88.eq_1 (JA_ @S.kill.eq_1 (JA_ @qdy.eq_1 (@qdy.eq_2))))))))))))))))
def bx2 := JA_ @qal.eq_1 (JA_ @qiG.eq_1 (JA_ @okX.eq_1 (JA_ @okX.eq_2 (JA_ @okK.eq_1 (JA_ @okN.eq_1 (JA_ @okN.eq_2 (JA_ @q1u.eq_1 (JA_ @qeL.eq_1 (JA_ @qeL.eq_2 (JA_ @qfL.eq_1 (JA_ @qfL.eq_2 (JA_ @q0W.eq_1 (JA_ @q9Y.eq_1 (JA_ @JB.eq_1 (JA_ @qaz.eq_1 (JA_ @q1c.eq_1 (@q1b.eq_1)))))))))))))))))
def bx3 := JA_ @q38.eq_1 (JA_ @q9j.eq_1 (JA_ @D.key.eq_1 (JA_ @R.key.eq_1 (JA_ @plK.eq_1 (JA_ @zR.eq_1 (@tt2.eq_1))))))
def bx4 := JA_ @B.isOb.eq_2 (JA_ @AO.mapR.eq_3 (JA_ @AO.Rs.eq_3 (JA_ @xgd.eq_1 (JA_ @xgF.eq_1 (JA_ @xo.eq_1 (JA_ @xo.eq_2 (JA_ @xo.eq_3 (JA_ @xo.eq_4 (JA_ @xo.eq_5 (JA_ @xo.eq_6 (JA_ @xo.eq_7 (JA_ @xo.eq_8 (JA_ @xo.eq_9 (JA_ @xo.eq_10 (JA_ @xo.eq_11 (JA_ @xo.eq_12 (JA_ @xo.eq_13 (JA_ @xo.eq_14 (JA_ @xo.eq_16 (JA_ @xo.eq_17 (JA_ @xo.eq_18 (JA_ @xo.eq_19 (JA_ @xo.eq_20 (JA_ @xo.eq_21 (@xo.eq_22)))))))))))))))))))))))))
def bx5 := JA_ @xo.eq_23 (JA_ @xo.eq_24 (JA_ @xo.eq_25 (JA_ @xo.eq_29 (JA_ @xo.eq_30 (JA_ @xo.eq_31 (JA_ @xCl.eq_1 (JA_ @pre.eq_1 (JA_ @pre.eq_2 (JA_ @pre.eq_3 (JA_ @q2U.eq_1 (JA_ @ZQ.eq_1 (JA_ @q3G.eq_1 (JA_ @q71.eq_1 (JA_ @q5M.eq_1 (JA_ @q01.eq_1 (JA_ @Jk.eq_2 (JA_ @Jk.eq_3 (JA_ @ql4.eq_1 (JA_ @q8h.eq_1 (JA_ @q8h.eq_2 (JA_ @cvR.eq_1 (JA_ @cvR.eq_2 (JA_ @cvL.eq_1 (JA_ @cvL.eq_2 (JA_ @qaI.eq_1 (JA_ @qaI.eq_2 (JA_ @cv.eq_1 (JA_ @cv.eq_2 (JA_ @cv0.eq_1 (@cv0.eq_5))))))))))))))))))))))))))))))
def bx6 := JA_ @cv0.eq_8 (JA_ @cv0.eq_9 (JA_ @cv0.eq_10 (JA_ @cvG.eq_1 (JA_ @cvG.eq_2 (JA_ @cvB.eq_1 (JA_ @cvB.eq_3 (JA_ @vis.eq_1 (JA_ @q4k.eq_1 (JA_ @q4k.eq_2 (JA_ @JV (JA_ @qeo.eq_1 (JA_ @pos.eq_1 (JA_ @pos.eq_2 (JA_ @qb6.eq_1 (JA_ @qb4.eq_1 (JA_ @q7v.eq_1 (JA_ @qjQ.eq_1 (JA_ @q0u.eq_1 (JA_ @q0e.eq_1 (JA_ @q0b.eq_1 (JA_ @q2w.eq_1 (JA_ @q1k.eq_1 (JA_ @q6z.eq_1 (JA_ @q6z.eq_2 (JA_ @q6z.eq_3 (JA_ @q6z.eq_4 (JA_ @q6z.eq_5 (@q6z.eq_10))))))))))))))))))))))))))))
def bx7 := JA_ @q6z.eq_11 (JA_ @q6z.eq_12 (JA_ @q6z.eq_13 (JA_ @q6z.eq_14 (JA_ @q6z.eq_15 (JA_ @qdS.eq_2 (JA_ @qdS.eq_3 (JA_ @qdS.eq_6 (JA_ @qdS.eq_7 (JA_ @qiL.eq_1 (JA_ @qiL.eq_2 (JA_ @qkv.eq_2 (JA_ @qjS.eq_1 (JA_ @qjK.eq_1 (JA_ @qkq.eq_1 (JA_ @qk7.eq_1 (JA_ @qby.eq_1 (JA_ @q6W.eq_1 (JA_ @q6P.eq_1 (JA_ @q6Q.eq_1 (JA_ @Z9.eq_1 (JA_ @q1f.eq_1 (@q0M.eq_1))))))))))))))))))))))
def bx8 := JA_ @Kd.isSl.eq_1 (JA_ @nrm.eq_1 (JA_ @qfl.eq_1 (JA_ @qlx.eq_1 (JA_ @rng.eq_1 (JA_ @rng.eq_2 (JA_ @rwAll.eq_1 (JA_ @rwAll.eq_2 (JA_ @rw1.eq_1 (JA_ @rw1.eq_2 (JA_ @cn.eq_1 (JA_ @cn.eq_2 (JA_ @cn0.eq_1 (JA_ @cn0.eq_2 (JA_ @cn0.eq_3 (JA_ @cn0.eq_5 (JA_ @cnR.eq_2 (JA_ @q8u.eq_1 (JA_ @q8u.eq_2 (JA_ @q8u.eq_3 (JA_ @cnB.eq_1 (JA_ @cnB.eq_2 (JA_ @cnB.eq_3 (JA_ @cnH.eq_1 (JA_ @cnH.eq_2 (JA_ @qhI (JA_ @qI.eq_1 (JA_ @qI.eq_2 (JA_ @qfQ.eq_1 (JA_ @q7V.eq_1 (@q3t.eq_1))))))))))))))))))))))))))))))
def bx9 := JA_ @q7C.eq_1 (JA_ @q3w.eq_1 (JA_ @q6l.eq_1 (JA_ @q3u.eq_1 (JA_ @q3u.eq_2 (JA_ @S.frz.eq_1 (JA_ @S.frz.eq_2 (JA_ @S.frz1.eq_1 (JA_ @fz.eq_2 (JA_ @fz0.eq_1 (JA_ @fz0.eq_2 (JA_ @fz0.eq_5 (JA_ @fzR.eq_1 (JA_ @fzR.eq_2 (JA_ @qaA.eq_1 (JA_ @qaA.eq_2 (JA_ @qaA.eq_3 (JA_ @fzB.eq_1 (JA_ @fzB.eq_2 (JA_ @fzB.eq_4 (JA_ @qjg (JA_ @dz.eq_1 (JA_ @dz.eq_2 (JA_ @dzL.eq_1 (JA_ @dzL.eq_2 (JA_ @dzR.eq_1 (JA_ @dzR.eq_2 (JA_ @q7Q.eq_1 (JA_ @q7Q.eq_2 (JA_ @one.eq_1 (JA_ @one.eq_2 (JA_ @rvs.eq_1 (JA_ @rvs.eq_2 (JA_ @qd6.eq_1 (@qd6.eq_2))))))))))))))))))))))))))))))))))
def qoR := JA_ @tt.eq_1 (JA_ @ff.eq_1 (JA_ @q4x.eq_1 (JA_ @q4x.eq_2 (JA_ @C.ref0.eq_1 (JA_ @C.ref0.eq_2 (JA_ @C.ref0.eq_3 (JA_ @C.ref0.eq_4 (JA_ @C.refs.eq_1 (JA_ @C.refs.eq_2 (JA_ @B.refs.eq_1 (JA_ @B.refs.eq_2 (JA_ @B.refs.eq_3 (JA_ @B.refs.eq_4 (JA_ @R.refs.eq_1 (JA_ @R.refs.eq_2 (JA_ @R.refs.eq_4 (JA_ @C.rows0.eq_1 (JA_ @C.rows0.eq_2 (JA_ @C.rows.eq_1 (JA_ @C.rows.eq_2 (JA_ @R.rows.eq_1 (JA_ @R.rows.eq_2 (JA_ @C.ptrs0.eq_1 (JA_ @C.ptrs0.eq_2 (JA_ @C.ptrs0.eq_3 (JA_ @C.ptrs.eq_1 (JA_ @C.ptrs.eq_2 (JA_ @R.ptrs.eq_1 (JA_ @R.ptrs.eq_2 (JA_ @B.isBlk.eq_1 (JA_ @B.isBlk.eq_2 (JA_ @B.isBlk.eq_3 (JA_ @R.scl.eq_1 (JA_ @R.scl.eq_2 (JA_ @R.scl0.eq_1 (@R.scl0.eq_2))))))))))))))))))))))))))))))))))))
def qol := JA_ @C.scl.eq_1 (JA_ @C.scl.eq_2 (JA_ @C.scl0.eq_1 (JA_ @C.scl0.eq_4 (JA_ @B.scl.eq_1 (JA_ @B.scl.eq_2 (JA_ @B.scl.eq_3 (JA_ @C.dat.eq_1 (JA_ @C.dat.eq_2 (JA_ @C.dat0.eq_1 (JA_ @C.dat0.eq_8 (JA_ @ren.eq_1 (JA_ @R.rn.eq_1 (JA_ @R.rn.eq_2 (JA_ @R.rn0.eq_1 (JA_ @R.rn0.eq_2 (JA_ @C.rn.eq_1 (JA_ @C.rn.eq_2 (JA_ @C.rn0.eq_2 (JA_ @C.rn0.eq_3 (JA_ @C.rn0.eq_5 (JA_ @B.rn.eq_1 (JA_ @B.rn.eq_2 (JA_ @B.rn.eq_3 (JA_ @qhT (@S.aft.eq_1)))))))))))))))))))))))))
def qoS := JA_ @S.fgL.eq_1 (JA_ @C.farL.eq_1 (JA_ @C.farL.eq_3 (JA_ @C.farL.eq_5 (JA_ @R.farL.eq_1 (JA_ @R.farL.eq_2 (JA_ @B.farL.eq_1 (JA_ @B.farL.eq_2 (JA_ @qjM.eq_3 (JA_ @qdY.eq_1 (JA_ @qdY.eq_2 (JA_ @S.ev.eq_1 (JA_ @S.ev.eq_2 (JA_ @S.ev.eq_3 (JA_ @S.get.eq_1 (JA_ @S.blk.eq_1 (@S.put.eq_1))))))))))))))))
def qpg := JA_ @S.put.eq_2 (JA_ @S.up.eq_1 (JA_ @S.bd.eq_1 (JA_ @S.bd.eq_2 (JA_ @S.seq.eq_1 (JA_ @S.cell1.eq_1 (JA_ @lk.eq_1 (JA_ @lk.eq_2 (JA_ @q0B.eq_1 (JA_ @q0B.eq_2 (JA_ @q0B.eq_3 (JA_ @q0B.eq_6 (JA_ @Jy.eq_1 (JA_ @Jy.eq_2 (JA_ @qdZ (JA_ @ldx.eq_1 (JA_ @bld.eq_1 (JA_ @bld.eq_2 (JA_ @spl.eq_1 (JA_ @spl.eq_2 (JA_ @Z7.eq_1 (JA_ @Ty.foff.eq_1 (JA_ @R.cells.eq_1 (JA_ @R.cells.eq_2 (JA_ @R.parts.eq_1 (JA_ @R.parts.eq_2 (JA_ @B.cells.eq_1 (JA_ @B.cells.eq_2 (JA_ @B.live.eq_1 (JA_ @B.live.eq_2 (@C.known.eq_2))))))))))))))))))))))))))))))
def qpN := JA_ @C.far.eq_3 (JA_ @C.far.eq_5 (JA_ @S.fg.eq_1 (JA_ @R.fg.eq_1 (JA_ @R.fg.eq_2 (JA_ @R.fg.eq_3 (JA_ @R.fg.eq_4 (JA_ @B.fg.eq_1 (JA_ @B.fg.eq_2 (JA_ @B.fg.eq_3 (JA_ @B.fg.eq_4 (JA_ @C.fg.eq_1 (JA_ @C.fg.eq_2 (JA_ @C.fg.eq_3 (JA_ @C.fg.eq_4 (JA_ @C.fg.eq_5 (JA_ @D1.eq_1 (JA_ @Jm.eq_1 (JA_ @Jm.eq_2 (JA_ @Jm.eq_3 (JA_ @Jm.eq_4 (JA_ @Jm.eq_6 (JA_ @Jm.eq_7 (JA_ @Jm.eq_8 (JA_ @Jm.eq_9 (JA_ @Jm.eq_10 (JA_ @Jm.eq_14 (JA_ @Jm.eq_15 (JA_ @Jm.eq_17 (@Jm.eq_19)))))))))))))))))))))))))))))
def qom := JA_ @Jm.eq_23 (JA_ @Jm.eq_24 (JA_ @qaC.eq_1 (JA_ @qaC.eq_4 (JA_ @qaC.eq_5 (JA_ @q3l.eq_3 (JA_ @q3l.eq_5 (JA_ @q3l.eq_6 (JA_ @q96.eq_1 (JA_ @q96.eq_3 (JA_ @q96.eq_4 (JA_ @q96.eq_5 (JA_ @fpC.eq_1 (JA_ @qip.eq_1 (JA_ @qh4.eq_1 (JA_ @qko.eq_1 (JA_ @C.lt0.eq_3 (JA_ @C.lt0.eq_4 (JA_ @C.ltn.eq_2 (JA_ @R.lt0.eq_1 (JA_ @R.ltn.eq_1 (JA_ @R.ltn.eq_2 (JA_ @B.ltn.eq_1 (@q04.eq_1)))))))))))))))))))))))
def qp8 := JA_ @Fp.none?.eq_1 (JA_ @okP.eq_1 (JA_ @okP.eq_2 (JA_ @qbk (JA_ @qcp (JA_ @qdX (JA_ @qce (JA_ @qbM (JA_ @qcb (JA_ @qfc (JA_ @qbf (JA_ @qcf (JA_ @qbY (JA_ @q7E (JA_ @qfH (JA_ @qca (JA_ @qb9 (JA_ @qfb (JA_ @qb2 (JA_ @qbC (JA_ @qbX (JA_ @qe1 (JA_ @qc4 (JA_ @qbD (JA_ @qaX (JA_ @qe3 (JA_ @qbO (JA_ @qeO (JA_ @qai (JA_ @qdQ (JA_ @qc1 (JA_ @qaO (@qgz))))))))))))))))))))))))))))))))
def qpr := JA_ @C.farF.eq_2 (JA_ @Go.Op.operands.eq_1 (JA_ @Go.Op.operands.eq_4 (JA_ @Go.Op.operands.eq_5 (JA_ @Go.Op.operands.eq_7 (JA_ @Go.Op.operands.eq_8 (JA_ @Go.Op.operands.eq_14 (JA_ @Go.Op.operands.eq_20 (JA_ @Go.Op.operands.eq_23 (JA_ @Go.Op.operands.eq_24 (JA_ @Go.Op.operands.eq_25 (JA_ @Go.Op.operands.eq_26 (JA_ @Go.Op.operands.eq_27 (JA_ @Go.Op.operands.eq_29 (@Go.Op.operands.eq_36))))))))))))))
def qnq := JA_ @Go.Op.operands.eq_40 (JA_ @qgj (JA_ @qie (JA_ @qhb.eq_1 (JA_ @qhb.eq_2 (JA_ @Option.toList_some.{0} (JA_ @Option.toList_none.{0} (JA_ @List.all_append.{0} (JA_ @List.getElem?_nil.{0} (JA_ @List.drop_zero.{0} (JA_ @Int.cast_ofNat_Int (JA_ @Int.le_refl (JA_ @Nat.le_refl (JA_ @Option.bind_assoc.{0,0,0} (JA_ @List.any_nil.{0} (JA_ @List.any_cons.{0} (JA_ @List.getD_cons_zero.{0} (JA_ @List.getD_cons_succ.{0} (JA_ @true_and (JA_ @and_true (JA_ @and_false (JA_ @false_and (JA_ @Option.some.injEq.{0} (JA_ @Prod.mk.injEq.{0,0} (JA_ @Option.bind_some.{0,0} (JA_ @Option.bind_none.{0,0} (JA_ @Option.map_some.{0,0} (JA_ @Option.map_none.{0,0} (JA_ @Option.getD_some.{0} (JA_ @Option.getD_none.{0} (JA_ @ne_eq.{1} (@not_false_eq_true)))))))))))))))))))))))))))))))
def qph := JA_ @or_false (JA_ @Bool.false_eq_true (JA_ @List.map_cons.{0,0} (JA_ @List.map_nil.{0,0} (JA_ @List.all_cons.{0} (JA_ @List.all_nil.{0} (JA_ @Bool.and_true (JA_ @Bool.true_and (JA_ @Bool.and_false (JA_ @Bool.false_and (JA_ @Bool.and_eq_true (JA_ @Bool.or_true (JA_ @Bool.true_or (JA_ @Bool.or_false (JA_ @Bool.false_or (JA_ @List.length_cons.{0} (JA_ @List.length_nil.{0} (JA_ @List.length_map.{0,0} (JA_ @List.getElem?_cons_zero.{0} (JA_ @List.getElem?_cons_succ.{0} (JA_ @List.foldl_cons.{0,0} (JA_ @List.foldl_nil.{0,0} (JA_ @List.cons_append.{0} (JA_ @List.nil_append.{0} (JA_ @List.append_nil.{0} (JA_ @Nat.max_def (JA_ @decide_true (JA_ @decide_false (JA_ @decide_not (JA_ @decide_eq_true_eq (JA_ @Nat.zero_le (JA_ @Nat.zero_mul (JA_ @Nat.mul_one (JA_ @Nat.one_mul (JA_ @Nat.add_zero (@Nat.zero_add)))))))))))))))))))))))))))))))))))
def qod := JA_ @Int.toNat_natCast (JA_ @List.mapM_cons.{0,0,0} (JA_ @List.mapM_nil.{0,0,0} (JA_ @List.drop_succ_cons.{0} (JA_ @List.drop_nil.{0} (JA_ @List.take_succ_cons.{0} (JA_ @List.take_zero.{0} (JA_ @List.replicate_succ.{0} (JA_ @List.replicate_zero.{0} (JA_ @List.set_cons_zero.{0} (JA_ @List.set_cons_succ.{0} (JA_ @and_self (JA_ @Bool.not_true (JA_ @Bool.not_false (JA_ @List.contains_cons.{0} (JA_ @List.contains_nil.{0} (JA_ @List.flatMap_cons.{0,0} (JA_ @List.flatMap_nil.{0,0} (JA_ @List.filter_cons.{0} (JA_ @List.filter_nil.{0} (JA_ @List.eraseDups_cons.{0} (JA_ @List.eraseDups_nil.{0} (JA_ @List.nodup_cons.{0} (JA_ @List.nodup_nil.{0} (JA_ @List.mem_cons.{0} (JA_ @List.not_mem_nil.{0} (JA_ @List.headD_cons.{0} (JA_ @List.headD_nil.{0} (JA_ @List.tail_cons.{0} (JA_ @List.tail_nil.{0} (JA_ @beq_self_eq_true.{0} (JA_ @QZ (JA_ @List.range_succ (JA_ @List.range_zero (JA_ @ite_self.{1} (JA_ @Option.isSome_some.{0} (JA_ @R.dat.eq_1 (@R.dat.eq_2)))))))))))))))))))))))))))))))))))))
def qpG := JA_ @qdU (JA_ @qf7 (JA_ @qhM (JA_ @qdF (JA_ @qj6 (JA_ @qfh (JA_ @qe4 (JA_ @qhi (JA_ @qbZ (JA_ @q4L (JA_ @qaR (JA_ @mpo.eq_2 (JA_ @qlG (JA_ @q7I (JA_ @qju (@qeA)))))))))))))))
def qnU := JA_ @qiu (JA_ @qeU (JA_ @qi8 (JA_ @qbu (JA_ @qek (JA_ @q9H (JA_ @qeQ (JA_ @qe0 (JA_ @q8d (JA_ @qf2 (JA_ @qbr (JA_ @qaQ (JA_ @qfk (JA_ @qaZ (JA_ @qfC (JA_ @qb0 (JA_ @q7F (JA_ @qfB (JA_ @qcl (JA_ @qaU (JA_ @qef (JA_ @qc6 (JA_ @qdJ (JA_ @qbe (JA_ @qeF (JA_ @qeE (JA_ @qbK (JA_ @qpk (JA_ @qnA (JA_ @qlu (@qlm))))))))))))))))))))))))))))))
def qoq := JA_ @qkI (JA_ @qjc (JA_ @qjk (JA_ @qgf (JA_ @qkP (JA_ @qhs (JA_ @qiV (JA_ @qjp (JA_ @qel (JA_ @qem (JA_ @qif (JA_ @qeH (JA_ @qhP (JA_ @qgR (JA_ @Sum.elim_inl.{0,1,0} (JA_ @Sum.elim_inr.{0,1,0} (JA_ @qeM (JA_ @q8S (JA_ @qk8.eq_1 (@qav)))))))))))))))))))
def qpR := JA_ @qfi (JA_ @qeK (JA_ @qfq (JA_ @q5D (JA_ @q5o (JA_ @qg7 (JA_ @qjV.eq_1 (JA_ @qjV.eq_2 (JA_ @List.length_append.{0} (JA_ @q7N (JA_ @q93 (JA_ @List.take_nil.{0} (JA_ @q8W (JA_ @qaJ (JA_ @qc5 (@q5h)))))))))))))))
def qoQ := JA_ @q6V (@q3L)
theorem qnE (a0 a1 a2 : Int) (i : Nat) : ([C.d (D.int .i64 a0), C.d (D.int .i64 a1), C.d (D.int .i64 a2)] : List C)[i]? = ([a0, a1, a2][i]?).bind fun x => some (C.d (D.int .i64 x)) := by rw [show ([C.d (D.int .i64 a0), C.d (D.int .i64 a1), C.d (D.int .i64 a2)] : List C) = [a0, a1, a2].map (fun x => C.d (D.int .i64 x)) from rfl, List.getElem?_map]; cases ([a0, a1, a2] : List Int)[i]? <;> rfl
theorem qnx (a0 a1 a2 a3 : Int) (i : Nat) : ([C.d (D.int .i64 a0), C.d (D.int .i64 a1), C.d (D.int .i64 a2), C.d (D.int .i64 a3)] : List C)[i]? = ([a0, a1, a2, a3][i]?).bind fun x => some (C.d (D.int .i64 x)) := by rw [show ([C.d (D.int .i64 a0), C.d (D.int .i64 a1), C.d (D.int .i64 a2), C.d (D.int .i64 a3)] : List C) = [a0, a1, a2, a3].map (fun x => C.d (D.int .i64 x)) from rfl, List.getElem?_map]; cases ([a0, a1, a2, a3] : List Int)[i]? <;> rfl
theorem qpq (a0 a1 a2 a3 a4 : Int) (i : Nat) : ([C.d (D.int .i64 a0), C.d (D.int .i64 a1), C.d (D.int .i64 a2), C.d (D.int .i64 a3), C.d (D.int .i64 a4)] : List C)[i]? = ([a0, a1, a2, a3, a4][i]?).bind fun x => some (C.d (D.int .i64 x)) := by rw [show ([C.d (D.int .i64 a0), C.d (D.int .i64 a1), C.d (D.int .i64 a2), C.d (D.int .i64 a3), C.d (D.int .i64 a4)] : List C) = [a0, a1, a2, a3, a4].map (fun x => C.d (D.int .i64 x)) from rfl, List.getElem?_map]; cases ([a0, a1, a2, a3, a4] : List Int)[i]? <;> rfl
theorem qq2 (a0 a1 a2 a3 a4 a5 : Int) (i : Nat) : ([C.d (D.int .i64 a0), C.d (D.int .i64 a1), C.d (D.int .i64 a2), C.d (D.int .i64 a3), C.d (D.int .i64 a4), C.d (D.int .i64 a5)] : List C)[i]? = ([a0, a1, a2, a3, a4, a5][i]?).bind fun x => some (C.d (D.int .i64 x)) := by rw [show ([C.d (D.int .i64 a0), C.d (D.int .i64 a1), C.d (D.int .i64 a2), C.d (D.int .i64 a3), C.d (D.int .i64 a4), C.d (D.int .i64 a5)] : List C) = [a0, a1, a2, a3, a4, a5].map (fun x => C.d (D.int .i64 x)) from rfl, List.getElem?_map]; cases ([a0, a1, a2, a3, a4, a5] : List Int)[i]? <;> rfl
theorem qpw (a b c : Int) (i : Nat) : ([C.d (D.sl 1 0 []), C.d (D.sl 1 1 [D.int .i64 a]), C.d (D.sl 1 2 [D.int .i64 b, D.int .i64 c])] : List C)[i]? = (([[], [a], [b, c]] : List (List Int))[i]?).bind fun x => some (C.d (D.sl 1 x.length (x.flatMap eI))) := by rw [show ([C.d (D.sl 1 0 []), C.d (D.sl 1 1 [D.int .i64 a]), C.d (D.sl 1 2 [D.int .i64 b, D.int .i64 c])] : List C) = ([[], [a], [b, c]] : List (List Int)).map (fun x => C.d (D.sl 1 x.length (x.flatMap eI))) from rfl, List.getElem?_map]; cases ([[], [a], [b, c]] : List (List Int))[i]? <;> rfl
theorem qpW {β : Type} (T : Ty) (f1 f2 f3 f4 : FuncId) (i : Nat) (t : TypeId) (K : R → Option β) (h : ld T [] 0 t = none) : (ld T (List.take 1 (List.drop i [C.nilf, C.fn f1 [] [], C.fn f2 [] [], C.fn f3 [] [], C.fn f4 [] []])) 0 t).bind K = if i = 0 then (ld T [C.nilf] 0 t).bind K else if i = 1 then (ld T [C.fn f1 [] []] 0 t).bind K else if i = 2 then (ld T [C.fn f2 [] []] 0 t).bind K else if i = 3 then (ld T [C.fn f3 [] []] 0 t).bind K else if i = 4 then (ld T [C.fn f4 [] []] 0 t).bind K else none := by rcases i with _|_|_|_|_|i <;> simp [h]
theorem qfD (T : Ty) (off : Nat) (t : TypeId) : ld T [] off t = ldx T [] off t := rfl
theorem qhl (l : List Int) : ((zP l).length = l.length) = True := eq_true (QW l)
theorem qjE (l : List Int) : D.sl 1 l.length ((zP l).flatMap eI) = D.sl 1 (zP l).length ((zP l).flatMap eI) := by rw [QW]
def bz0 := JA_ @qnE (JA_ @qnx (JA_ @qpq (@qq2)))
def bz1 := JA_ @qpw (JA_ @qpW (JA_ @qfD (JA_ @qhl (@qjE))))
end Go.Proofs.Ytplfjlcnffcenaa.Vc
namespace Go.Proofs.Ytplfjlcnffcenaa.Vc
open Go.RowKit
set_option linter.unusedVariables false
set_option linter.unusedSimpArgs false
structure qi where
  Code : ByteArray
  Credits : Int
def qg (x : qi) : List D := [D.str x.Code, D.int .i64 x.Credits]
theorem Z2 (x : qi) : qg x = [D.str x.Code, D.int .i64 x.Credits] := rfl
theorem q3p (x : qi) : (qg x).length = 2 := rfl
theorem q3x (x : qi) : qi.mk x.Code x.Credits = x := rfl
structure qh where
  Num : Int
  Add : Int
  Den : Int
  Round : Int
theorem q3o (x : qh) : qh.mk x.Num x.Add x.Den x.Round = x := rfl
structure qb where
  Id : Int
  From : Int
  To : Int
  Begin : Int
  End : Int
  In : List ByteArray
  Out : List qi
  Conv : qh
def qo (x : qb) : List D := [D.int .i64 x.Id, D.int .i64 x.From, D.int .i64 x.To, D.int .i64 x.Begin, D.int .i64 x.End, D.sl 1 x.In.length (x.In.flatMap eS), D.sl 2 x.Out.length (x.Out.flatMap qg), D.int .i64 x.Conv.Num, D.int .i64 x.Conv.Add, D.int .i64 x.Conv.Den, D.int .i64 x.Conv.Round]
theorem ZN (x : qb) : qo x = [D.int .i64 x.Id, D.int .i64 x.From, D.int .i64 x.To, D.int .i64 x.Begin, D.int .i64 x.End, D.sl 1 x.In.length (x.In.flatMap eS), D.sl 2 x.Out.length (x.Out.flatMap qg), D.int .i64 x.Conv.Num, D.int .i64 x.Conv.Add, D.int .i64 x.Conv.Den, D.int .i64 x.Conv.Round] := rfl
theorem q0K (x : qb) : (qo x).length = 11 := rfl
theorem q0x (x : qb) : qb.mk x.Id x.From x.To x.Begin x.End x.In x.Out x.Conv = x := rfl
structure qV where
  School : Int
  Code : ByteArray
theorem q2f (x : qV) : qV.mk x.School x.Code = x := rfl
structure qa where
  Course : qV
  Credits : Int
  Grade : Int
  Day : Int
  Sources : List Int
  Bundle : Int
  Path : List Int
def qd (x : qa) : List D := [D.int .i64 x.Course.School, D.str x.Course.Code, D.int .i64 x.Credits, D.int .i64 x.Grade, D.int .i64 x.Day, D.sl 1 x.Sources.length (x.Sources.flatMap eI), D.int .i64 x.Bundle, D.sl 1 x.Path.length (x.Path.flatMap eI)]
theorem QD (x : qa) : qd x = [D.int .i64 x.Course.School, D.str x.Course.Code, D.int .i64 x.Credits, D.int .i64 x.Grade, D.int .i64 x.Day, D.sl 1 x.Sources.length (x.Sources.flatMap eI), D.int .i64 x.Bundle, D.sl 1 x.Path.length (x.Path.flatMap eI)] := rfl
theorem JZ (x : qa) : (qd x).length = 8 := rfl
theorem q00 (x : qa) : qa.mk x.Course x.Credits x.Grade x.Day x.Sources x.Bundle x.Path = x := rfl
structure qt where
  Worst : Int
  Best : Int
  Pass : Int
theorem q2J (x : qt) : qt.mk x.Worst x.Best x.Pass = x := rfl
structure qc where
  L : List Int
  At : Int
theorem q2b (x : qc) : qc.mk x.L x.At = x := rfl
structure qX where
  N : Int
  D : Int
theorem q91 : ∀ x : (List Int), ((eL 1 eI) x).length = 1 := fun _ => rfl
theorem qib (v : List (List Int)) : (v.flatMap (eL 1 eI)).length = v.length := by rw [ZM q91, Nat.mul_one]
theorem q7S (v : List (List Int)) (i : Nat) : ld T ((v.flatMap (eL 1 eI)).map C.d) (i) 41 = (v[i]?).bind fun x => some (.c (.d (D.sl 1 x.length (x.flatMap eI)))) := by rw [q1g q91 v i _ (by decide)]; cases v[i]? with | none => rfl | some x => rfl
theorem qgI (v : List (List Int)) (a : List Int) : (v.flatMap (eL 1 eI)).map C.d ++ [C.d (D.sl 1 a.length (a.flatMap eI))] = ((v ++ [a]).flatMap (eL 1 eI)).map C.d := by have h := q3a (E := (eL 1 eI)) v a; exact h
theorem q9L : ∀ x : qb, (qo x).length = 11 := q0K
theorem qho (v : List qb) : (v.flatMap qo).length = v.length * 11 := by rw [ZM q9L]
theorem q81 (v : List qb) (i : Nat) : ld T ((v.flatMap qo).map C.d) (i * 11) 36 = (v[i]?).bind fun x => some (.agg [.d (D.int .i64 x.Id), .d (D.int .i64 x.From), .d (D.int .i64 x.To), .d (D.int .i64 x.Begin), .d (D.int .i64 x.End), .d (D.sl 1 x.In.length (x.In.flatMap eS)), .d (D.sl 2 x.Out.length (x.Out.flatMap qg)), .d (D.int .i64 x.Conv.Num), .d (D.int .i64 x.Conv.Add), .d (D.int .i64 x.Conv.Den), .d (D.int .i64 x.Conv.Round)]) := by rw [q2n q9L v i _ (by decide) (by decide)]; cases v[i]? with | none => rfl | some x => rw [Option.bind_some, Option.bind_some, ZN]; rfl
theorem qgC (v : List qb) (a_Id : Int) (a_From : Int) (a_To : Int) (a_Begin : Int) (a_End : Int) (a_In : List ByteArray) (a_Out : List qi) (a_Conv_Num : Int) (a_Conv_Add : Int) (a_Conv_Den : Int) (a_Conv_Round : Int) : (v.flatMap qo).map C.d ++ [C.d (D.int .i64 a_Id), C.d (D.int .i64 a_From), C.d (D.int .i64 a_To), C.d (D.int .i64 a_Begin), C.d (D.int .i64 a_End), C.d (D.sl 1 a_In.length (a_In.flatMap eS)), C.d (D.sl 2 a_Out.length (a_Out.flatMap qg)), C.d (D.int .i64 a_Conv_Num), C.d (D.int .i64 a_Conv_Add), C.d (D.int .i64 a_Conv_Den), C.d (D.int .i64 a_Conv_Round)] = ((v ++ [(qb.mk a_Id a_From a_To a_Begin a_End a_In a_Out (qh.mk a_Conv_Num a_Conv_Add a_Conv_Den a_Conv_Round))]).flatMap qo).map C.d := by have h := q3a (E := qo) v (qb.mk a_Id a_From a_To a_Begin a_End a_In a_Out (qh.mk a_Conv_Num a_Conv_Add a_Conv_Den a_Conv_Round)); rw [ZN] at h; exact h
theorem q9M : ∀ x : ByteArray, (eS x).length = 1 := fun _ => rfl
theorem qlF (v : List ByteArray) : (v.flatMap eS).length = v.length := by rw [ZM q9M, Nat.mul_one]
theorem qbI (v : List ByteArray) (i : Nat) : ld T ((v.flatMap eS).map C.d) (i) 9 = (v[i]?).bind fun x => some (.c (.d (D.str x))) := by rw [q1g q9M v i _ (by decide)]; cases v[i]? with | none => rfl | some x => rfl
theorem qkF (v : List ByteArray) (a : ByteArray) : (v.flatMap eS).map C.d ++ [C.d (D.str a)] = ((v ++ [a]).flatMap eS).map C.d := by have h := q3a (E := eS) v a; exact h
theorem qdT (s : S) (v : List ByteArray) (lo hi : Option Operand) : xsl T s 31 (.c (.d (.sl 1 v.length (v.flatMap eS)))) lo hi = qk8 s eS 1 v (s.bd lo 0) (s.bd hi v.length) := qiA q9M v lo hi (by rfl) (by rfl) (by decide)
theorem q4n : ∀ x : qi, (qg x).length = 2 := q3p
theorem qih (v : List qi) : (v.flatMap qg).length = v.length * 2 := by rw [ZM q4n]
theorem q8b (v : List qi) (i : Nat) : ld T ((v.flatMap qg).map C.d) (i * 2) 57 = (v[i]?).bind fun x => some (.agg [.d (D.str x.Code), .d (D.int .i64 x.Credits)]) := by rw [q2n q4n v i _ (by decide) (by decide)]; cases v[i]? with | none => rfl | some x => rw [Option.bind_some, Option.bind_some, Z2]; rfl
theorem qa6 (v : List qi) (i : Nat) : ld T ((v.flatMap qg).map C.d) (i * 2) 9 = (v[i]?).bind fun x => some (.c (.d (D.str x.Code))) := by rw [q2n q4n v i _ (by decide) (by decide)]; cases v[i]? with | none => rfl | some x => rw [Option.bind_some, Option.bind_some, Z2]; rfl
theorem q9v (v : List qi) (i : Nat) : ld T ((v.flatMap qg).map C.d) (i * 2 + 1) 3 = (v[i]?).bind fun x => some (.c (.d (D.int .i64 x.Credits))) := by rw [q4a q4n v i 1 _ (by decide) (by decide)]; cases v[i]? with | none => rfl | some x => rw [Option.bind_some, Option.bind_some, Z2]; rfl
theorem qgb (v : List qi) (a_Code : ByteArray) (a_Credits : Int) : (v.flatMap qg).map C.d ++ [C.d (D.str a_Code), C.d (D.int .i64 a_Credits)] = ((v ++ [(qi.mk a_Code a_Credits)]).flatMap qg).map C.d := by have h := q3a (E := qg) v (qi.mk a_Code a_Credits); rw [Z2] at h; exact h
theorem q8P : ∀ x : Int, (eI x).length = 1 := fun _ => rfl
theorem qlf (v : List Int) : (v.flatMap eI).length = v.length := by rw [ZM q8P, Nat.mul_one]
theorem qc3 (v : List Int) (i : Nat) : ld T ((v.flatMap eI).map C.d) (i) 3 = (v[i]?).bind fun x => some (.c (.d (D.int .i64 x))) := by rw [q1g q8P v i _ (by decide)]; cases v[i]? with | none => rfl | some x => rfl
theorem qkC (v : List Int) (a : Int) : (v.flatMap eI).map C.d ++ [C.d (D.int .i64 a)] = ((v ++ [a]).flatMap eI).map C.d := by have h := q3a (E := eI) v a; exact h
theorem qlA (v : List Int) (a : Nat) : (v.flatMap eI).take (a) = (v.take a).flatMap eI := by have h := q5Q q8P v a; rwa [Nat.mul_one] at h
theorem qgg (v : List Int) (a : Nat) : ((v.flatMap eI).map C.d).take (a) = ((v.take a).flatMap eI).map C.d := by rw [← List.map_take, qlA]
theorem q5Y : ∀ x : qa, (qd x).length = 8 := JZ
theorem qhG (v : List qa) : (v.flatMap qd).length = v.length * 8 := by rw [ZM q5Y]
theorem q87 (v : List qa) (i : Nat) : ld T ((v.flatMap qd).map C.d) (i * 8) 52 = (v[i]?).bind fun x => some (.agg [.d (D.int .i64 x.Course.School), .d (D.str x.Course.Code), .d (D.int .i64 x.Credits), .d (D.int .i64 x.Grade), .d (D.int .i64 x.Day), .d (D.sl 1 x.Sources.length (x.Sources.flatMap eI)), .d (D.int .i64 x.Bundle), .d (D.sl 1 x.Path.length (x.Path.flatMap eI))]) := by rw [q2n q5Y v i _ (by decide) (by decide)]; cases v[i]? with | none => rfl | some x => rw [Option.bind_some, Option.bind_some, QD]; rfl
theorem q7L (v : List qa) (i : Nat) : ld T ((v.flatMap qd).map C.d) (i * 8 + 7) 41 = (v[i]?).bind fun x => some (.c (.d (D.sl 1 x.Path.length (x.Path.flatMap eI)))) := by rw [q4a q5Y v i 7 _ (by decide) (by decide)]; cases v[i]? with | none => rfl | some x => rw [Option.bind_some, Option.bind_some, QD]; rfl
theorem q7T (v : List qa) : ld T ((v.flatMap qd).map C.d) 7 41 = (v[0]?).bind fun x => some (.c (.d (D.sl 1 x.Path.length (x.Path.flatMap eI)))) := by have h := q7L v 0; rwa [Nat.zero_mul, Nat.zero_add] at h
theorem qf9 : ∀ x : (List ByteArray), ((eL 1 eS) x).length = 1 := fun _ => rfl
theorem q85 (v : List (List ByteArray)) (i : Nat) : ld T ((v.flatMap (eL 1 eS)).map C.d) (i) 31 = (v[i]?).bind fun x => some (.c (.d (D.sl 1 x.length (x.flatMap eS)))) := by rw [q1g qf9 v i _ (by decide)]; cases v[i]? with | none => rfl | some x => rfl
theorem qbQ : ∀ x : Int, (qfK x).length = 1 := fun _ => rfl
theorem q4T (v : List Int) (i : Nat) : ld T ((v.flatMap qfK).map C.d) (i) 136 = (v[i]?).bind fun x => some (.c (.d (D.int .u64 x))) := by rw [q1g qbQ v i _ (by decide)]; cases v[i]? with | none => rfl | some x => rfl
def zQ (v : Bool) : R := R.c (C.d (D.bool v))
theorem qdO (id : Nat) (M : List (Int × Bool)) : AO.mapR (R.fg id) (mpB (q0O .i64) zQ M) = mpB (q0O .i64) zQ M := q4h (vE := zQ) (fun v => rfl) M
theorem qeT (f : Nat → Nat) (M : List (Int × Bool)) : AO.mapR (R.rn0 f) (mpB (q0O .i64) zQ M) = mpB (q0O .i64) zQ M := q4h (vE := zQ) (fun v => rfl) M
theorem qec (ids : List Nat) (M : List (Int × Bool)) : AO.mapR (q8u ids) (mpB (q0O .i64) zQ M) = mpB (q0O .i64) zQ M := q4h (vE := zQ) (fun v => rfl) M
theorem qeJ (M : List (Int × Bool)) : (mpB (q0O .i64) zQ M).Rs.all (R.scl0) = true := qdC (fun v => rfl) M
theorem qeY (M : List (Int × Bool)) : (mpB (q0O .i64) zQ M).Rs.flatMap R.refs0 = [] := qaT (fun v => rfl) M
theorem qcq (s : S) (sel : List Nat) (M : List (Int × Bool)) : cvA s sel (mpB (q0O .i64) zQ M) = some (mpB (q0O .i64) zQ M) := qea (fun v => rfl) M
theorem q8C (M : List (Int × Bool)) : ((mpE (q0O .i64) zQ M 0).all fun q => plK (Kd.int .i64) q.1) = true := q60 (fun k r i => rfl) M 0
theorem qaM (ok : Bool) (k : Int) (M : List (Int × Bool)) : lkq ok (R.c (C.d (D.bool false))) (fnd (Value.int .i64 k) (mpE (q0O .i64) zQ M 0) 0) = some (tt2 (R.c (C.d (D.bool (q3X false M k)))) ok (q8i M k)) := qkQ (vE := zQ) (kE := (q0O .i64)) (qcD _) (false) ok k M
theorem qaP (k : Int) (v : Bool) (M : List (Int × Bool)) : mup (Kd.int .i64) (Value.int .i64 k) (R.c (C.d (D.bool v))) (.ob (mpB (q0O .i64) zQ M)) = some (.ob (mpB (q0O .i64) zQ (q44 M k v))) := qlC (vE := zQ) (kE := (q0O .i64)) (qcD _) (fun a => rfl) k v M
theorem qew (s : S) (p : Nat) : Jz T s p 109 none = some (.c (.hd .map p), s.up [(p, .ob (mpB (q0O .i64) zQ ([] : List (Int × Bool))))]) := rfl
end Go.Proofs.Ytplfjlcnffcenaa.Vc
namespace Go.Proofs.Ytplfjlcnffcenaa.Vc
open Go.RowKit
set_option linter.defProp false
set_option linter.unusedVariables false
theorem qly : q5k Try.prog 50 = true := by kernel_rfl
def by0 := JA_ @k3 (JA_ @z3 (JA_ @b3 (JA_ @o3 (JA_ @q3 (JA_ @k4 (JA_ @o4 (@q4)))))))
def by1 := JA_ @k9 (JA_ @z9 (JA_ @b9 (JA_ @o9 (@q9))))
def by2 := JA_ @q21 (JA_ @k22 (@q22))
def by3 := JA_ @k26 (JA_ @q26 (JA_ @q28 (JA_ @k31 (JA_ @z31 (JA_ @q31 (JA_ @k32 (JA_ @z32 (JA_ @q32 (JA_ @k34 (@z34))))))))))
def by4 := JA_ @o34 (JA_ @q34 (JA_ @k36 (JA_ @z36 (JA_ @b36 (JA_ @o36 (JA_ @q36 (JA_ @k41 (JA_ @z41 (JA_ @b41 (JA_ @o41 (JA_ @q41 (@k42))))))))))))
def by5 := JA_ @q42 (JA_ @k45 (JA_ @z45 (JA_ @o45 (JA_ @q45 (JA_ @k50 (JA_ @z50 (@o50)))))))
def by6 := JA_ @k52 (JA_ @z52 (JA_ @b52 (JA_ @o52 (JA_ @q52 (JA_ @k57 (JA_ @z57 (JA_ @b57 (JA_ @o57 (@q57)))))))))
def by7 := JA_ @q64 (JA_ @k66 (@o66))
def by8 := JA_ @k70 (JA_ @z70 (@k73))
def by9 := JA_ @q76 (@q82)
def qp9 := JA_ @q86 (JA_ @k92 (JA_ @z92 (JA_ @o92 (@q92))))
def qoK := JA_ @qoe (JA_ @qoI (@qo3))
def qnS := JA_ @qpV (@qnW)
def qog := JA_ @qpy (JA_ @qp4 (JA_ @qnM (JA_ @qpK (@qpb))))
def qpS := JA_ @qp3 (JA_ @qnt (@qpL))
def qns := JA_ @qpm (@qnu)
def qoA := JA_ @qly (JA_ @pw4 (JA_ @pw5 (JA_ @pw6 (JA_ @pw8 (JA_ @qlX (@qmt))))))
def qnL := JA_ @qlW (JA_ @qmg (JA_ @qmr (JA_ @qmP (JA_ @qmC (JA_ @qmV (JA_ @qms (JA_ @qnl (JA_ @qm7 (JA_ @qn1 (JA_ @qkE (JA_ @qmx (JA_ @qmq (JA_ @qm6 (JA_ @qn7 (JA_ @qmH (JA_ @qlY (JA_ @qka (JA_ @qm2 (JA_ @qlQ (JA_ @qmc (JA_ @qlU (JA_ @qmJ (JA_ @qoB (JA_ @qmw (JA_ @qna (JA_ @qmF (JA_ @qmE (JA_ @qmG (JA_ @qmy (JA_ @qlZ (JA_ @qm1 (JA_ @qme (@qmA)))))))))))))))))))))))))))))))))
def qpp := JA_ @qnc (JA_ @qmI (JA_ @qkA (JA_ @qm9 (JA_ @qlO (JA_ @qmd (JA_ @qlR (JA_ @qmj (JA_ @qlS (JA_ @qm8 (JA_ @qmk (JA_ @qn5 (JA_ @qmf (JA_ @qmp (JA_ @qlT (JA_ @qm5 (JA_ @qn8 (JA_ @qmT (JA_ @qma (JA_ @qmO (JA_ @qn3 (@qmW)))))))))))))))))))))
def qoF := JA_ @qpo (JA_ @qkU (JA_ @qkS (JA_ @qkW (JA_ @qlK (JA_ @qkD (JA_ @qle (JA_ @qlz (JA_ @qlb (@qlN)))))))))
def qno := JA_ @qkz (JA_ @qlg (JA_ @ql2 (JA_ @qlI (JA_ @qkZ (JA_ @qli (JA_ @qkG (@qlp)))))))
def qnC := JA_ @qkK (JA_ @qlL (JA_ @qjl (JA_ @qg8 (JA_ @qgt (JA_ @qkO (JA_ @qlq (JA_ @qeh (JA_ @qfA (JA_ @qi2 (JA_ @qdG (JA_ @qjs (JA_ @qgA (JA_ @qgH (JA_ @qhx (JA_ @qg6 (JA_ @qhv (JA_ @qio (@qiW))))))))))))))))))
def qoT := JA_ @qgk (JA_ @qi3 (JA_ @qit (JA_ @qi9 (JA_ @qgm (JA_ @qhX (JA_ @qj7 (JA_ @qj5 (JA_ @qhw (JA_ @qhJ (JA_ @qhZ (@qgr)))))))))))
def qnX := JA_ @qjA (JA_ @qgN (JA_ @qhL (JA_ @qeB (JA_ @qhj (JA_ @qh1 (JA_ @qf4 (JA_ @qeD (JA_ @qhU (JA_ @qga (JA_ @qgu (JA_ @qiU (JA_ @qfy (JA_ @qij (JA_ @qgS (JA_ @qiO (JA_ @qfZ (JA_ @qeZ (JA_ @qir (@qiI)))))))))))))))))))
def qo6 := JA_ @qjz (JA_ @qjh (JA_ @qhA (@qh5)))
def qos := JA_ @qha (JA_ @qj1 (JA_ @qfU (JA_ @qfz (JA_ @qgQ (JA_ @qgi (JA_ @qfI (JA_ @qdA (JA_ @qgP (JA_ @qiC (JA_ @qh8 (JA_ @qiQ (JA_ @qf1 (JA_ @qia (JA_ @qh2 (JA_ @qi0 (JA_ @qhy (JA_ @qex (JA_ @qiP (JA_ @qgw (JA_ @qgn (JA_ @qgM (@qjw))))))))))))))))))))))
def qnF := @qjC
def bt0 := JA_ @qib (JA_ @q7S (JA_ @qgI (JA_ @qho (@q81))))
def bt1 := JA_ @qgC (JA_ @qlF (JA_ @qbI (@qkF)))
def bt2 := JA_ @qdT (JA_ @qih (JA_ @q8b (JA_ @qa6 (JA_ @q9v (JA_ @qgb (JA_ @qlf (@qc3)))))))
def bt3 := JA_ @qkC (JA_ @qgg (JA_ @qhG (JA_ @q87 (@q7T))))
def bt4 := @q85
def bt5 := JA_ @q4T (JA_ @qdO (JA_ @qeT (JA_ @qec (JA_ @qeJ (JA_ @qeY (JA_ @qcq (JA_ @q8C (JA_ @qaM (JA_ @qaP (JA_ @qew (JA_ @q3o (JA_ @q0x (JA_ @q2J (@q2f))))))))))))))
def bt6 := JA_ @q00 (JA_ @q3x (@q2b))
def bA := JA_ @bx0 (JA_ @bx1 (JA_ @bx2 (JA_ @bx3 (JA_ @bx4 (JA_ @bx5 (JA_ @bx6 (JA_ @bx7 (JA_ @bx8 (JA_ @bx9 (JA_ @qoR (JA_ @qol (JA_ @qoS (JA_ @qpg (JA_ @qpN (JA_ @qom (JA_ @qp8 (JA_ @qpr (JA_ @qnq (JA_ @qph (JA_ @qod (JA_ @qpG (JA_ @qnU (JA_ @qoq (JA_ @qpR (JA_ @qoQ (JA_ @bz0 (JA_ @bz1 (JA_ @by0 (JA_ @by1 (JA_ @by2 (JA_ @by3 (JA_ @by4 (JA_ @by5 (JA_ @by6 (JA_ @by7 (JA_ @by8 (JA_ @by9 (JA_ @qp9 (JA_ @qoK (JA_ @qnS (JA_ @qog (JA_ @qpS (JA_ @qns (JA_ @qoA (JA_ @qnL (JA_ @qpp (JA_ @qoF (JA_ @qno (JA_ @qnC (JA_ @qoT (JA_ @qnX (JA_ @qo6 (JA_ @qos (JA_ @qnF (JA_ @bt0 (JA_ @bt1 (JA_ @bt2 (JA_ @bt3 (JA_ @bt4 (JA_ @bt5 (@bt6)))))))))))))))))))))))))))))))))))))))))))))))))))))))))))))
def bZ := JA_ @List.length_append.{0} (JA_ @List.length_cons.{0} (JA_ @List.length_nil.{0} (JA_ @Nat.zero_add (JA_ @List.flatMap_cons.{0,0} (JA_ @List.flatMap_nil.{0,0} (JA_ @List.map_cons.{0,0} (JA_ @List.map_nil.{0,0} (JA_ @eI.eq_1 (JA_ @eS.eq_1 (JA_ @List.cons_append.{0} (JA_ @List.nil_append.{0} (JA_ @List.append_nil.{0} (JA_ @List.flatMap_append.{0,0} (JA_ @List.map_append.{0,0} (JA_ @QD (@Z2))))))))))))))))
theorem gA {P : Prop} (h : P := by simp -implicitDefEqProofs (maxSteps := 10000000) only [bA, Int.reduceToNat, Int.reduceLT, Int.reduceLE, Int.reduceAdd, Int.reduceSub, Int.reduceMul, Int.reduceNeg, Int.reduceEq, Int.reduceNe, Int.reduceBEq, Int.reduceBNe, Nat.reduceLT, Nat.reduceAdd, Nat.reduceMul, Nat.reduceSub, Nat.reduceEqDiff, Nat.reduceLeDiff, Nat.reduceBEq, Nat.reduceBNe, ↓reduceIte, reduceCtorEq, pure, bind, w64, zj, ZE, Option.or_some, Option.or_none, Option.none_or, Option.some_or, *] <;> simp only [rL, dL, bR, bZ, Nat.reduceAdd]) : P := h
end Go.Proofs.Ytplfjlcnffcenaa.Vc
namespace Go.Proofs.Ytplfjlcnffcenaa.Vc
open Go.RowKit
set_option linter.unusedVariables false
section
variable {β : Type}
def frN (n : Nat) (k : Nat → β) : β := match n with | 0 => k 0 | m + 1 => k (m + 1)
theorem Zl (n : Nat) (k : Nat → β) : frN n k = k n := by cases n <;> rfl
def frI (i : Int) (k : Int → β) : β := match i with | .ofNat n => frN n fun n => k (.ofNat n) | .negSucc n => frN n fun n => k (.negSucc n)
theorem qcN (i : Int) (k : Int → β) : frI i k = k i := by cases i <;> simp only [frI, Zl]
def frB (b : Bool) (k : Bool → β) : β := match b with | true => k true | false => k false
theorem qdo (b : Bool) (k : Bool → β) : frB b k = k b := by cases b <;> rfl
noncomputable def frD (d : D) : (D → β) → β :=
  D.rec (motive_1 := fun _ => (D → β) → β) (motive_2 := fun _ => (List D → β) → β)
    (fun k n K => frI n fun n => K (.int k n)) (fun b K => frB b fun b => K (.bool b)) (fun s K => K (.str s)) (fun sz n _ ih K => frN sz fun sz => frN n fun n => ih fun cs => K (.sl sz n cs))
    (fun K => K []) (fun _ _ ih1 ih2 K => ih1 fun x => ih2 fun l => K (x :: l)) d
noncomputable def qgs (d : List D) : (List D → β) → β :=
  D.rec_1 (motive_1 := fun _ => (D → β) → β) (motive_2 := fun _ => (List D → β) → β)
    (fun k n K => frI n fun n => K (.int k n)) (fun b K => frB b fun b => K (.bool b)) (fun s K => K (.str s)) (fun sz n _ ih K => frN sz fun sz => frN n fun n => ih fun cs => K (.sl sz n cs))
    (fun K => K []) (fun _ _ ih1 ih2 K => ih1 fun x => ih2 fun l => K (x :: l)) d
mutual
theorem qd9 : ∀ (d : D) (K : D → β), frD d K = K d
  | .int k n, K => by show frI n (fun n => K (.int k n)) = _; rw [qcN]
  | .bool b, K => by show frB b (fun b => K (.bool b)) = _; rw [qdo]
  | .str s, K => rfl
  | .sl sz n cs, K => by show frN sz (fun sz => frN n fun n => qgs cs fun cs => K (.sl sz n cs)) = _; rw [Zl, Zl, q5B cs]
theorem q5B : ∀ (d : List D) (K : List D → β), qgs d K = K d
  | [], K => rfl
  | x :: l, K => (qd9 x _).trans (q5B l _)
end
noncomputable def frC (c : C) : (C → β) → β :=
  C.rec (motive_1 := fun _ => (C → β) → β) (motive_2 := fun _ => (List C → β) → β)
    (fun x K => frD x fun x => K (.d x)) (fun i o K => frN i fun i => frN o fun o => K (.ptr i o)) (fun h i K => frN i fun i => K (.hd h i)) (fun K => K .nilm) (fun K => K .nilp) (fun K => K .nilf) (fun K => K .nils)
    (fun cs o K => qgs cs fun cs => frN o fun o => K (.eptr cs o)) (fun i sz o n K => frN i fun i => frN sz fun sz => frN o fun o => frN n fun n => K (.own i sz o n))
    (fun f _ _ ih1 ih2 K => ih1 fun fs => ih2 fun caps => K (.fn f fs caps)) (fun K => K .any)
    (fun K => K []) (fun _ _ ih1 ih2 K => ih1 fun x => ih2 fun l => K (x :: l)) c
noncomputable def qiy (c : List C) : (List C → β) → β :=
  C.rec_1 (motive_1 := fun _ => (C → β) → β) (motive_2 := fun _ => (List C → β) → β)
    (fun x K => frD x fun x => K (.d x)) (fun i o K => frN i fun i => frN o fun o => K (.ptr i o)) (fun h i K => frN i fun i => K (.hd h i)) (fun K => K .nilm) (fun K => K .nilp) (fun K => K .nilf) (fun K => K .nils)
    (fun cs o K => qgs cs fun cs => frN o fun o => K (.eptr cs o)) (fun i sz o n K => frN i fun i => frN sz fun sz => frN o fun o => frN n fun n => K (.own i sz o n))
    (fun f _ _ ih1 ih2 K => ih1 fun fs => ih2 fun caps => K (.fn f fs caps)) (fun K => K .any)
    (fun K => K []) (fun _ _ ih1 ih2 K => ih1 fun x => ih2 fun l => K (x :: l)) c
mutual
theorem qcI : ∀ (c : C) (K : C → β), frC c K = K c
  | .d x, K => by show frD x (fun x => K (.d x)) = _; rw [qd9]
  | .ptr i o, K => by show frN i (fun i => frN o fun o => K (.ptr i o)) = _; rw [Zl, Zl]
  | .hd h i, K => by show frN i (fun i => K (.hd h i)) = _; rw [Zl]
  | .nilm, K => rfl
  | .nilp, K => rfl
  | .nilf, K => rfl
  | .nils, K => rfl
  | .eptr cs o, K => by show qgs cs (fun cs => frN o fun o => K (.eptr cs o)) = _; rw [q5B, Zl]
  | .own i sz o n, K => by show frN i (fun i => frN sz fun sz => frN o fun o => frN n fun n => K (.own i sz o n)) = _; rw [Zl, Zl, Zl, Zl]
  | .fn f fs caps, K => (q1E fs _).trans (q1E caps _)
  | .any, K => rfl
theorem q1E : ∀ (c : List C) (K : List C → β), qiy c K = K c
  | [], K => rfl
  | x :: l, K => (qcI x _).trans (q1E l _)
end
noncomputable def frR (r : R) : (R → β) → β :=
  R.rec (motive_1 := fun _ => (R → β) → β) (motive_2 := fun _ => (List R → β) → β)
    (fun x K => frC x fun x => K (.c x)) (fun xs K => qiy xs fun xs => K (.agg xs)) (fun _ ih K => ih fun xs => K (.tup xs)) (fun K => K .any)
    (fun K => K []) (fun _ _ ih1 ih2 K => ih1 fun x => ih2 fun l => K (x :: l)) r
noncomputable def qhR (r : List R) : (List R → β) → β :=
  R.rec_1 (motive_1 := fun _ => (R → β) → β) (motive_2 := fun _ => (List R → β) → β)
    (fun x K => frC x fun x => K (.c x)) (fun xs K => qiy xs fun xs => K (.agg xs)) (fun _ ih K => ih fun xs => K (.tup xs)) (fun K => K .any)
    (fun K => K []) (fun _ _ ih1 ih2 K => ih1 fun x => ih2 fun l => K (x :: l)) r
mutual
theorem q4Z : ∀ (r : R) (K : R → β), frR r K = K r
  | .c x, K => qcI x _
  | .agg xs, K => q1E xs _
  | .tup xs, K => q2C xs _
  | .any, K => rfl
theorem q2C : ∀ (r : List R) (K : List R → β), qhR r K = K r
  | [], K => rfl
  | x :: l, K => (q4Z x _).trans (q2C l _)
end
def frV (v : Value) (K : Value → β) : β := match v with | .int k n => frI n fun n => K (.int k n) | .bool b => frB b fun b => K (.bool b) | v => K v
theorem qi4 (v : Value) (K : Value → β) : frV v K = K v := by cases v <;> simp only [frV, qcN, qdo]
noncomputable def frM (l : List (Value × R × Nat)) : (List (Value × R × Nat) → β) → β :=
  List.rec (motive := fun _ => (List (Value × R × Nat) → β) → β) (fun K => K []) (fun x _ ih K => match x with | (v, r, b) => frV v fun v => frR r fun r => frN b fun b => ih fun l => K ((v, r, b) :: l)) l
theorem qbh (v : Value) (r : R) (b : Nat) (l : List (Value × R × Nat)) (K : List (Value × R × Nat) → β) : frM ((v, r, b) :: l) K = frV v fun v => frR r fun r => frN b fun b => frM l fun l => K ((v, r, b) :: l) := rfl
theorem qdl : ∀ (l : List (Value × R × Nat)) (K : List (Value × R × Nat) → β), frM l K = K l
  | [], K => rfl
  | (v, r, b) :: l, K => by rw [qbh, qi4, q4Z, Zl, qdl l]
def frP (p : Option Code) (K : Option Code → β) : β := match p with | none => K none | some c => K (some c)
theorem qjd (p : Option Code) (K : Option Code → β) : frP p K = K p := by cases p <;> rfl
noncomputable def qlM (b : B) (K : B → β) : β := match b with
  | .blk t cs => qiy cs fun cs => K (.blk t cs)
  | .row e sz cs => qiy cs fun cs => K (.row e sz cs)
  | .ob (.mp es ck) => frM es fun es => frN ck fun ck => K (.ob (.mp es ck))
  | .ob (.si s p) => frN p fun p => K (.ob (.si s p))
  | .ob (.lp f tm ps a c st pd) => qhR tm fun tm => frP pd fun pd => K (.ob (.lp f tm ps a c st pd))
  | .ob .df => K (.ob .df)
  | .dead => K .dead
theorem qdx (b : B) (K : B → β) : qlM b K = K b := by
  cases b with
  | blk t cs => exact q1E cs _
  | row e sz cs => exact q1E cs _
  | ob o =>
    cases o with
    | mp es ck => show frM es (fun es => frN ck fun ck => K (.ob (.mp es ck))) = _; rw [qdl, Zl]
    | si s p => show frN p (fun p => K (.ob (.si s p))) = _; rw [Zl]
    | lp f tm ps a c st pd => show qhR tm (fun tm => frP pd fun pd => K (.ob (.lp f tm ps a c st pd))) = _; rw [q2C, qjd]
    | df => rfl
  | dead => rfl
noncomputable def frT (l : List (Nat × R)) : (List (Nat × R) → β) → β :=
  List.rec (motive := fun _ => (List (Nat × R) → β) → β) (fun K => K []) (fun x _ ih K => match x with | (i, r) => frR r fun r => ih fun l => K ((i, r) :: l)) l
theorem qcS : ∀ (l : List (Nat × R)) (K : List (Nat × R) → β), frT l K = K l
  | [], K => rfl
  | (i, r) :: l, K => (q4Z r _).trans (qcS l _)
noncomputable def frH (l : List (Nat × B)) : (List (Nat × B) → β) → β :=
  List.rec (motive := fun _ => (List (Nat × B) → β) → β) (fun K => K []) (fun x _ ih K => match x with | (i, r) => frN i fun i => qlM r fun r => ih fun l => K ((i, r) :: l)) l
theorem qaL (i : Nat) (r : B) (l : List (Nat × B)) (K : List (Nat × B) → β) : frH ((i, r) :: l) K = frN i fun i => qlM r fun r => frH l fun l => K ((i, r) :: l) := rfl
theorem q3H : ∀ (l : List (Nat × B)) (K : List (Nat × B) → β), frH l K = K l
  | [], K => rfl
  | (i, r) :: l, K => by rw [qaL, Zl, qdx, q3H l]
noncomputable def frS (s : S) (K : S → β) : β := match s with | ⟨tm, hp, nx, n⟩ => frT tm fun tm => frH hp fun hp => frN nx fun nx => K ⟨tm, hp, nx, n⟩
theorem q3b (s : S) (K : S → β) : frS s K = K s := by
  obtain ⟨tm, hp, nx, n⟩ := s
  show frT tm (fun tm => frH hp fun hp => frN nx fun nx => K ⟨tm, hp, nx, n⟩) = _
  rw [qcS, q3H, Zl]
end
section
variable (P : Program) (T : Ty) (po : Pol) (E : Orc)
noncomputable def kxr (ops : List Oper) : List Oper → S → Option S
  | [], s => some s
  | o :: l, s => (xgd P T po E ops o s).bind fun s' => frS s' fun s' => kxr ops l s'
noncomputable def q8f {β : Type} (l : List Nat) : (List Nat → β) → β :=
  List.rec (motive := fun _ => (List Nat → β) → β) (fun K => K []) (fun x _ ih K => frN x fun x => ih fun l => K (x :: l)) l
theorem q1B {β : Type} : ∀ (l : List Nat) (K : List Nat → β), q8f l K = K l
  | [], K => rfl
  | x :: l, K => by show frN x (fun x => q8f l fun l => K (x :: l)) = _; rw [Zl, q1B l]
noncomputable def frX {β : Type} (x : Tx) (K : Tx → β) : β := match x with | ((r, us), ⟨rb, wb, X, ks, nw⟩) => frR r fun r => frH us fun us => q8f rb fun rb => q8f wb fun wb => q8f X fun X => q8f ks fun ks => q8f nw fun nw => K ((r, us), ⟨rb, wb, X, ks, nw⟩)
theorem qj0 {β : Type} (x : Tx) (K : Tx → β) : frX x K = K x := by
  obtain ⟨⟨r, us⟩, ⟨rb, wb, X, ks, nw⟩⟩ := x
  show (frR r fun r => frH us fun us => q8f rb fun rb => q8f wb fun wb => q8f X fun X => q8f ks fun ks => q8f nw fun nw => K ((r, us), ⟨rb, wb, X, ks, nw⟩)) = _
  rw [q4Z, q3H, q1B, q1B, q1B, q1B, q1B]
noncomputable def qiK (ops : List Oper) (A : List (List Nat)) (s0 : S) : Nat → List Oper → S → List Tx → Option S
  | 0, l, s, acc => if okP A 0 [] acc = true ∧ okX ops A s0 acc 0 acc = true ∧ okK ops A acc = true ∧ okN acc 0 acc = true then kxr P T po E ops l s else none
  | m + 1, o :: l, s, acc => (xgF P T po E ops o s).bind fun q => frS q.1 fun s1 => frX q.2 fun x => qiK ops A s0 m l s1 (acc ++ [x])
  | _ + 1, [], _, _ => none
theorem q8k (ops : List Oper) : ∀ (l : List Oper) (s : S), kxr P T po E ops l s = xr P T po E ops l s
  | [], s => rfl
  | o :: l, s => by
    unfold kxr xr
    congr 1
    funext s'
    rw [q3b, q8k ops l]
theorem q9U (ops : List Oper) (A : List (List Nat)) (s0 : S) : ∀ (m : Nat) (l : List Oper) (s : S) (acc : List Tx), qiK P T po E ops A s0 m l s acc = xdp P T po E ops A s0 m l s acc
  | 0, l, s, acc => by unfold qiK xdp; rw [q8k]
  | m + 1, o :: l, s, acc => by
    unfold qiK xdp
    congr 1
    funext q
    rw [q3b, qj0, q9U ops A s0 m l]
  | _ + 1, [], _, _ => rfl
noncomputable def ql8 (x : XS) : XS := x.bind fun p => frS p.2 fun s => some (p.1, s)
theorem q9w (x : XS) : ql8 x = x := by
  cases x with
  | none => rfl
  | some p => show frS p.2 (fun s => some (p.1, s)) = _; rw [q3b]
noncomputable def kXD (LO : (S → XS) → S → XS) (f k : Nat) : Code → S → XS
  | .skip, s => some (.normal, s)
  | .label _, s => some (.normal, s)
  | .ret, s => some (.ret, s)
  | .exit id, s => some (.exit id, s)
  | .seq a b, s => (kXD LO f k a s).bind (sqD fun s' => kXD LO f k b s')
  | .block id c, s => (kXD LO f k c s).bind (bkD id)
  | .cond c x y, s => match s.ev c with
    | .c (.d (.bool b)) => if b = true then kXD LO f k x (s.ly c tt) else kXD LO f k y (s.ly c ff)
    | _ => none
  | .region id ops draw, s => if draw = true then frS ((s.dzr po.q).frz (q1b (s.dzr po.q) (po.rk f id))) fun s => (qiK P T po E ops.toList (po.an f id) s (po.dm f id) ops.toList s []).bind fun s' => some (.normal, s') else (kxr P T po E ops.toList ops.toList s).bind fun s' => some (.normal, s')
  | .rangeFunc g ps a b, s => ql8 (frS ((s.dzr po.q).frz (q1b (s.dzr po.q) (po.rk f (qI b)))) fun s => xRF po E f g ps.toList a b s)
  | .loop c, s => (nrm po f (qI c) k s).bind fun s0 => frS s0 fun s0 => LO (fun s => ql8 ((kXD LO f k c s).bind (lpx po f (qI c) k))) s0
  | _, _ => none
theorem qaw (LO : (S → XS) → S → XS) (f k : Nat) : ∀ (c : Code) (s : S), kXD P T po E LO f k c s = XD P T po E (D1 P T po E f k) LO f k c s := by
  intro c
  induction c with
  | seq a b iha ihb => intro s; unfold kXD XD; rw [iha]; congr 1; funext p; unfold sqD; split <;> first | exact ihb _ | rfl
  | block id c ih => intro s; unfold kXD XD; rw [ih]
  | cond c x y ihx ihy =>
    intro s
    unfold kXD XD
    rw [ihx, ihy]
    generalize s.ev c = r
    cases r with
    | c x =>
      cases x with
      | d d => cases d <;> rfl
      | _ => rfl
    | _ => rfl
  | region id ops draw =>
    intro s
    unfold kXD XD
    rw [q3b, q9U, q8k]
    rfl
  | rangeFunc g ps a b _ _ => intro s; unfold kXD XD; rw [q9w, q3b]
  | loop c ih =>
    intro s
    unfold kXD XD
    congr 1
    funext s0
    rw [q3b]
    congr 1
    funext s
    rw [q9w, ih]
  | _ => intro s; rfl
noncomputable def frF (x : Option (R × List (Nat × B))) : Option (R × List (Nat × B)) := x.bind fun q => frR q.1 fun r => frH q.2 fun hp => some (r, hp)
theorem q9J (x : Option (R × List (Nat × B))) : frF x = x := by
  cases x with
  | none => rfl
  | some q => show frR q.1 (fun r => frH q.2 fun hp => some (r, hp)) = _; rw [q4Z, q3H]
noncomputable def qeN (LO : (S → XS) → S → XS) (f k : Nat) (args : List R) (G : List (Nat × B)) (bd : Bd) : Option (R × List (Nat × B)) :=
  if args.length ≤ bd.n then qhR args fun args => frH G fun G => frF ((kXD P T po E LO f k bd.code ⟨Jy args 0, G, G.length, bd.n⟩).bind (qfQ T po f k bd)) else none
noncomputable def q9f (LO : (S → XS) → S → XS) (f k : Nat) (a b : Code) (tm : List R) (G : List (Nat × B)) : Option (R × List (Nat × B)) :=
  if 0 < k ∧ q3B (drq po f) false a = true ∧ q3B (drq po f) false b = true then qhR tm fun tm => frH G fun G => frF ((kXD P T po E LO f k a ⟨Jy tm 0, G, G.length, tm.length⟩).bind fun p =>
    match p.1 with
    | .normal => (rdB (p.2.blk (k - 1))).bind fun x => frS (p.2.up [(k - 1, x)]) fun s => (kXD P T po E LO f k b s).bind (q5O k)
    | _ => none) else none
theorem qbH (LO : (S → XS) → S → XS) (f k : Nat) (args : List R) (G : List (Nat × B)) (bd : Bd) : qeN P T po E LO f k args G bd = q1z P T po (D1 P T po) E LO f k args G bd := by
  unfold qeN q1z
  rw [q2C, q3H, q9J, qaw]
theorem qa1 (LO : (S → XS) → S → XS) (f k : Nat) (a b : Code) (tm : List R) (G : List (Nat × B)) : q9f P T po E LO f k a b tm G = JC P T po (D1 P T po) E LO f k a b tm G := by
  unfold q9f JC
  rw [q2C, q3H, q9J, qaw]
  congr 1
  congr 1
  funext p
  obtain ⟨e, t⟩ := p
  unfold q2P
  cases e with
  | normal =>
    simp only
    congr 1
    funext x
    rw [q3b, qaw]
  | _ => rfl
end
noncomputable def kf (P : Program) (T : Ty) (po : Pol) (bt : Nat → Option Bd) (tab : Orc) : Nat → Orc
  | 0 => fun _ _ _ _ => none
  | n + 1 => fun g k args G => match tab g k args G with
    | some x => some x
    | none => match g with
      | .fn f => (match po.pr f with | some g => frF (prx g k args G) | none => (bt f).bind fun bd => qeN P T po (kf P T po bt tab n) (iter n) f k args G bd)
      | .rd f a b => q9f P T po (kf P T po bt tab n) (iter n) f k a b args G
theorem qgD {P : Program} {T : Ty} {po : Pol} {bt : Nat → Option Bd} {tab : Orc} (hb : ∀ f bd, bt f = some bd → qk P po f = some bd) (ht : OLe tab (EE P T po (D1 P T po))) : ∀ n, OLe (kf P T po bt tab n) (EE P T po (D1 P T po))
  | 0 => fun _ _ _ _ _ h => by cases h
  | n + 1 => fun g k args G x h => by
    have ih := qgD hb ht n
    unfold kf at h
    split at h
    · rename_i y hy
      injection h with h
      subst h
      exact ht _ _ _ _ _ hy
    · cases g with
      | fn f =>
        simp only at h
        rw [qht q1G q6c]
        unfold fnx
        cases hg : po.pr f with
        | some g =>
          rw [hg] at h
          simp only [q9J] at h
          exact h
        | none =>
          rw [hg] at h
          obtain ⟨bd, h1, h2⟩ := Option.bind_eq_some_iff.1 h
          rw [qbH] at h2
          simp only [hb f bd h1, Option.bind_some]
          exact q3T q1G ih (q4r n) h2
      | rd f a b =>
        simp only at h
        rw [qlJ q1G q6c]
        rw [qa1] at h
        exact q0J q1G ih (q4r n) h
def qn9 : Orc := fun _ _ _ _ => none
theorem qf5 {E : Orc} : OLe qn9 E := fun _ _ _ _ _ h => by cases h
end Go.Proofs.Ytplfjlcnffcenaa.Vc
