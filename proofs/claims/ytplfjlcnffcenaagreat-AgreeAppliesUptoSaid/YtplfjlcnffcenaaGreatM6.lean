/- Part 6 of a proof. -/
import Derived.Test.YtplfjlcnffcenaaGreatM5
set_option linter.unusedVariables false
set_option linter.unusedSimpArgs false
set_option linter.defProp false
set_option linter.unusedSectionVars false
set_option linter.unnecessarySimpa false
namespace Go.Proofs.YtplfjlcnffcenaaGreat.Vc
open Go.RowKit
set_option linter.unusedVariables false
set_option linter.unusedSimpArgs false
set_option maxRecDepth 20000
set_option maxHeartbeats 8000000
set_option linter.defProp false
theorem q4k : ev 6 0 [] [] = some (rB true, []) := qcw
theorem lo4 : okL 4 q8a := qw (qg bd4) (by kernel_rfl) (by kernel_rfl)
def cx4 := JA_ @q8a.eq_1 (JA_ @Tryz.f4.eq_1 @bd4)
theorem qup : lbO 4 4 = qjV := zo (qg bd4) rfl
theorem qtT : okL 4 qjV := qH lo4 (List.mem_of_getElem? (i := 0) (by kernel_rfl))
theorem qi4 : lbO 4 12 = qaD := zo (qg bd4) rfl
theorem qiB : okL 4 qaD := qH lo4 (List.mem_of_getElem? (i := 1) (by kernel_rfl))
theorem qo0 : lbO 4 15 = qdl := zo (qg bd4) rfl
theorem qmU : okL 4 qdl := qH lo4 (List.mem_of_getElem? (i := 2) (by kernel_rfl))
theorem qra : lbO 4 18 = qfb := zo (qg bd4) rfl
theorem qoq : okL 4 qfb := qH lo4 (List.mem_of_getElem? (i := 3) (by kernel_rfl))
theorem lo7 : okL 7 qdm := qw (qg bd7) (by kernel_rfl) (by kernel_rfl)
def cx7 := JA_ @qdm.eq_1 (JA_ @Tryz.f7.eq_1 @bd7)
theorem qt1 : lbO 7 3 = ql0 := zo (qg bd7) rfl
theorem qsT : okL 7 ql0 := qH lo7 (List.mem_of_getElem? (i := 0) (by kernel_rfl))
theorem qvN : okL 26 q8e := qw (qg qr8) (by kernel_rfl) (by kernel_rfl)
def quY := JA_ @q8e.eq_1 (JA_ @Tryz.f26.eq_1 @qr8)
theorem qoO : lbO 26 6 = qei := zo (qg qr8) rfl
theorem qnf : okL 26 qei := qH qvN (List.mem_of_getElem? (i := 0) (by kernel_rfl))
theorem qA2 : okL 49 qac := qw (qg qrr) (by kernel_rfl) (by kernel_rfl)
def qzw := JA_ @qac.eq_1 (JA_ @Tryz.f49.eq_1 @qrr)
theorem qxZ : okL 15 qbg := qw (qg qsb) (by kernel_rfl) (by kernel_rfl)
def qxw := JA_ @qbg.eq_1 (JA_ @Tryz.f15.eq_1 @qsb)
noncomputable def QA (n : Int) (m : Int) : Option Int := if m = 0 then none else if m = 0 then none else some (Int.tmod (w64 (Int.tmod n m + m)) m)
theorem Jf : ∀ (n m : Int), ev 15 0 [rI n, rI m] [] = (QA n m).bind (fun (e : Int) => some (rI e, [])) :=
  fun n m => by
    rw [qu qsb qw5.2.2.2 qxZ]
    have := qxw; have := @QA.eq_1; exact gA
noncomputable def qo (n : Int) (d : qj) : Option (Int × qj) := if ((d.L.length : Nat) : Int) ≤ d.At then some (0, d) else if 0 ≤ w64 (w64 (d.At + 1) - 1) ∧ w64 (w64 (d.At + 1) - 1) < ((d.L.length : Nat) : Int) then Option.bind d.L[Int.toNat (w64 (w64 (d.At + 1) - 1))]? fun (a : Int) => Option.bind (QA a n) fun (a2 : Int) => some (a2, qj.mk d.L (w64 (d.At + 1))) else none
theorem zD : ∀ (n : Int) (d_L : List Int) (d_At : Int), ev 49 1 [rP 0, rI n] [(0, B.blk 70 [dL 1 eI d_L, dI d_At])] = (qo n (qj.mk d_L d_At)).bind (fun (e : Int × qj) => some (rI e.1, [(0, B.blk 70 [dL 1 eI e.2.L, dI e.2.At])])) :=
  fun n d_L d_At => by
    rw [qu qrr qvy.2.2.2 qA2]
    have := qzw; have := @Jf; have := @qo.eq_1; exact gA
theorem qtm : okL 74 q6J := qw (qg qm2) (by kernel_rfl) (by kernel_rfl)
def qnr := JA_ @q6J.eq_1 (JA_ @Tryz.f74.eq_1 @qm2)
theorem qii : lbO 74 3 = qaw := zo (qg qm2) rfl
theorem qit : okL 74 qaw := qH qtm (List.mem_of_getElem? (i := 0) (by kernel_rfl))
theorem qin : lbO 74 5 = qag := zo (qg qm2) rfl
theorem qi3 : okL 74 qag := qH qtm (List.mem_of_getElem? (i := 1) (by kernel_rfl))
theorem qyy : okL 32 qba := qw (qg qs4) (by kernel_rfl) (by kernel_rfl)
def qA3 := JA_ @qba.eq_1 (JA_ @Tryz.f32.eq_1 @qs4)
noncomputable def Jy : Option (List ByteArray) :=
  some [ByteArray.mk (List.toArray [65, 49]), ByteArray.mk (List.toArray [66, 49]), ByteArray.mk (List.toArray [66, 50]), ByteArray.mk (List.toArray [67, 49]), ByteArray.mk (List.toArray [68, 49]), ByteArray.mk (List.toArray [69, 57])]
noncomputable def qs : List ByteArray :=
  [ByteArray.mk (List.toArray [65, 49]), ByteArray.mk (List.toArray [66, 49]), ByteArray.mk (List.toArray [66, 50]), ByteArray.mk (List.toArray [67, 49]), ByteArray.mk (List.toArray [68, 49]), ByteArray.mk (List.toArray [69, 57])]
theorem q4f : Jy = some (qs) := by
  unfold Jy qs
  simp only [za]
theorem Z2 : ev 32 0 [] [] = some (R.c (C.d (D.sl 1 (qs).length ((qs).flatMap eS))), []) :=
  by
    have h : ev 32 0 [] [] = (Jy).bind (fun (e : List ByteArray) => some (rL 1 eS e, [])) := by
      rw [qu qs4 qwU.2.2.2 qyy]
      have := qA3; have := @Jy.eq_1; exact gA
    rw [q4f] at h
    exact h
theorem qvn : okL 45 q8V := qw (qg qpk) (by kernel_rfl) (by kernel_rfl)
def qws := JA_ @q8V.eq_1 (JA_ @Tryz.f45.eq_1 @qpk)
theorem qqT : lbO 45 2 = qdg := zo (qg qpk) rfl
theorem qoI : okL 45 qdg := qH qvn (List.mem_of_getElem? (i := 0) (by kernel_rfl))
noncomputable def Qx (l : List ByteArray) (s : ByteArray) : Int → Option (Int ⊕ (Unit ⊕ Unit)) | k => if k < ((l.length : Nat) : Int) then if 0 ≤ k ∧ k < ((l.length : Nat) : Int) then Option.bind l[Int.toNat k]? fun (a : ByteArray) => if (ByteArray.toList a == ByteArray.toList s) = Bool.true then some (Sum.inr (Sum.inl ())) else some (Sum.inl (w64 (k + 1))) else none else some (Sum.inr (Sum.inr ()))
theorem q3H : ∀ (l : List ByteArray) (s : ByteArray) (k : Int), XL2 evo 45 0 2 ⟨[(0, rL 1 eS l), (1, rS s), (5, rI k)], [], 0, 18⟩ = (qA (Qx l s) k).bind (Sum.elim (fun (e : Unit) => some (Go.Exit.ret, ⟨[(4, rB Bool.true)], [], 0, 18⟩)) (fun (e : Unit) => some (Go.Exit.exit 0, ⟨[(4, R.any)], [], 0, 18⟩))) :=
  fun l s k => by
    revert k; exact q4j qqT qoI (fun e => by rcases e with _ | _ <;> exact ⟨_, rfl, fun h => by cases h⟩) fun x => by
      have := qws; have := @qdg.eq_1; have := @Qx.eq_1; exact gA
noncomputable def Qb (l : List ByteArray) (s : ByteArray) : Option Bool := Option.bind (qA (Qx l s) 0) fun (a : Sum Unit Unit) => Sum.elim (fun (a2 : Unit) => some Bool.true) (fun (a3 : Unit) => some Bool.false) a
theorem Zw : ∀ (l : List ByteArray) (s : ByteArray), ev 45 0 [rL 1 eS l, rS s] [] = (Qb l s).bind (fun (e : Bool) => some (rB e, [])) :=
  fun l s => by
    rw [qu qpk qwi.2.2.2 qvn]
    have := qws; have := @q3H; have := @Qb.eq_1; exact gA
theorem q4p : ∀  (s : ByteArray), ev 45 0 [R.c (C.d (D.sl 1 0 [])), rS s] [] = (Qb [] s).bind (fun (e : Bool) => some (rB e, [])) := by
  intro s; have h := Zw [] s
  first
    | exact h
    | (simp only [rL, dL, bR, bZ, Nat.reduceAdd] at h; exact h)
noncomputable def JT (fu : Nat) (l : List ByteArray) (s : ByteArray) : Option Bool := Option.bind (itT (Qx l s) fu 0) fun (a : Sum Unit Unit) => Sum.elim (fun (a2 : Unit) => some Bool.true) (fun (a3 : Unit) => some Bool.false) a
theorem q0i (fu : Nat) (l : List ByteArray) (s : ByteArray) : ZZ (JT fu l s) (Qb l s) := by
  unfold JT Qb
  repeat (first
    | with_reducible exact ZZ.refl _
    | with_reducible exact ZZ.none _
    | with_reducible refine ZZ.bind ?_ (fun _ => ?_)
    | with_reducible refine ZZ.ite ?_ ?_
    | with_reducible refine ZZ.sum (fun _ => ?_) (fun _ => ?_)
    | with_reducible refine ZZ.lim (fun _ => ?_))
noncomputable def QF (d : qj) (many : Int) : Int → Option (Int ⊕ Int) | k => if 0 ≤ k ∧ k < ((qs.length : Nat) : Int) then Option.bind qs[Int.toNat k]? fun (a : ByteArray) => Option.bind (Qb [] a) fun (a2 : Bool) => if a2 = Bool.true then some (Sum.inl (Int.tmod (w64 (k + 1)) 6)) else some (Sum.inr k) else none
theorem q3o : ∀ (d_L : List Int) (d_At many k : Int), XL2 evo 74 1 5 ⟨[(0, rP 0), (3, R.c (C.nils)), (4, rI many), (5, rI k)], [(0, B.blk 70 [dL 1 eI d_L, dI d_At])], 1, 33⟩ = (qA (QF (qj.mk d_L d_At) many) k).bind (fun (e : Int) => some (Go.Exit.exit 2, ⟨[(0, rP 0), (3, R.c (C.nils)), (4, rI many), (5, rI e)], [(0, B.blk 70 [dL 1 eI d_L, dI d_At])], 1, 33⟩)) :=
  fun d_L d_At many k => by
    revert k; exact q4j qin qi3 (fun e => by exact ⟨_, rfl, fun h => by cases h⟩) fun x => by
      have := qnr; have := @qag.eq_1; have := @Z2; have := @q4p; have := @QF.eq_1; exact gA
noncomputable def JK (fu : Nat) (d : qj) (many : Int) : Int → Option (Int ⊕ Int) | k => if 0 ≤ k ∧ k < ((qs.length : Nat) : Int) then Option.bind qs[Int.toNat k]? fun (a : ByteArray) => Option.bind (JT fu [] a) fun (a2 : Bool) => if a2 = Bool.true then some (Sum.inl (Int.tmod (w64 (k + 1)) 6)) else some (Sum.inr k) else none
theorem q3t (fu : Nat) (d : qj) (many : Int) : ∀ x, ZZ (JK fu d many x) (QF d many x) := by
  rintro k
  unfold JK QF
  try dsimp only
  repeat (first
    | with_reducible exact ZZ.refl _
    | with_reducible exact ZZ.none _
    | with_reducible apply q0i
    | with_reducible refine ZZ.bind ?_ (fun _ => ?_)
    | with_reducible refine ZZ.ite ?_ ?_
    | with_reducible refine ZZ.sum (fun _ => ?_) (fun _ => ?_)
    | with_reducible refine ZZ.lim (fun _ => ?_))
theorem qpt : okL 104 q5c := qw (qg qeF) (by kernel_rfl) (by kernel_rfl)
def qmu := JA_ @q5c.eq_1 (JA_ @Tryz.f104.eq_1 @qeF)
theorem qlf : lbO 104 4 = q9v := zo (qg qeF) rfl
theorem qkS : okL 104 q9v := qH qpt (List.mem_of_getElem? (i := 0) (by kernel_rfl))
noncomputable def Ja (l : List ByteArray) (s : ByteArray) : Int → Option (Int ⊕ Int) | at0 => if 0 < at0 then if 0 ≤ w64 (at0 - 1) ∧ w64 (at0 - 1) < ((l.length : Nat) : Int) then Option.bind l[Int.toNat (w64 (at0 - 1))]? fun (a : ByteArray) => if (!(Go.Op.bytesLess (ByteArray.toList a) (ByteArray.toList s) || ByteArray.toList a == ByteArray.toList s)) = Bool.true then some (Sum.inl (w64 (at0 - 1))) else some (Sum.inr at0) else none else some (Sum.inr at0)
theorem q3C : ∀ (l : List ByteArray) (s : ByteArray) (at0 : Int), XL2 evo 104 0 4 ⟨[(0, rL 1 eS l), (1, rS s), (5, rI at0)], [], 0, 39⟩ = (qA (Ja l s) at0).bind (fun (e : Int) => some (Go.Exit.exit 0, ⟨[(0, rL 1 eS l), (1, rS s), (5, rI e)], [], 0, 39⟩)) :=
  fun l s at0 => by
    revert at0; exact q4j qlf qkS (fun e => by exact ⟨_, rfl, fun h => by cases h⟩) fun x => by
      have := qmu; have := @q9v.eq_1; have := @Ja.eq_1; exact gA
noncomputable def QO (l : List ByteArray) (s : ByteArray) : Option (List ByteArray) := Option.bind (Qb l s) fun (a : Bool) => if a = Bool.true then some l else Option.bind (qA (Ja l s) ((l.length : Nat) : Int)) fun (a2 : Int) => if 0 ≤ a2 ∧ a2 ≤ ((l.length : Nat) : Int) then if (List.take (Int.toNat a2 - 0) l).length ≤ Go.maxLen ∧ (List.take (Int.toNat a2 - 0) l).length * 16 ≤ 140737488355328 then if (List.take (Int.toNat a2 - 0) l).length + 1 ≤ Go.maxLen ∧ ((List.take (Int.toNat a2 - 0) l).length + 1) * 16 ≤ 140737488355328 then if 0 ≤ a2 ∧ a2 ≤ ((l.length : Nat) : Int) then if (List.take (Int.toNat a2 - 0) l).length + 1 + (List.take (l.length - Int.toNat a2) (List.drop (Int.toNat a2) l)).length ≤ Go.maxLen ∧ ((List.take (Int.toNat a2 - 0) l).length + 1 + (List.take (l.length - Int.toNat a2) (List.drop (Int.toNat a2) l)).length) * 16 ≤ 140737488355328 then some ((List.take (Int.toNat a2 - 0) l ++ [s]) ++ List.take (l.length - Int.toNat a2) (List.drop (Int.toNat a2) l)) else none else none else none else none else none
theorem q2g : ∀ (l : List ByteArray) (s : ByteArray), ev 104 0 [rL 1 eS l, rS s] [] = (QO l s).bind (fun (e : List ByteArray) => some (rL 1 eS e, [])) :=
  fun l s => by
    rw [qu qeF qoo.2.2.2 qpt]
    have := qmu; have := @Zw; have := @q3C; have := @QO.eq_1; exact gA
theorem q47 : ∀  (s : ByteArray), ev 104 0 [R.c (C.d (D.sl 1 0 [])), rS s] [] = (QO [] s).bind (fun (e : List ByteArray) => some (rL 1 eS e, [])) := by
  intro s; have h := q2g [] s
  first
    | exact h
    | (simp only [rL, dL, bR, bZ, Nat.reduceAdd] at h; exact h)
noncomputable def q0G (fu : Nat) (l : List ByteArray) (s : ByteArray) : Option (List ByteArray) := Option.bind (JT fu l s) fun (a : Bool) => if a = Bool.true then some l else Option.bind (itT (Ja l s) fu ((l.length : Nat) : Int)) fun (a2 : Int) => if 0 ≤ a2 ∧ a2 ≤ ((l.length : Nat) : Int) then if (List.take (Int.toNat a2 - 0) l).length ≤ Go.maxLen ∧ (List.take (Int.toNat a2 - 0) l).length * 16 ≤ 140737488355328 then if (List.take (Int.toNat a2 - 0) l).length + 1 ≤ Go.maxLen ∧ ((List.take (Int.toNat a2 - 0) l).length + 1) * 16 ≤ 140737488355328 then if 0 ≤ a2 ∧ a2 ≤ ((l.length : Nat) : Int) then if (List.take (Int.toNat a2 - 0) l).length + 1 + (List.take (l.length - Int.toNat a2) (List.drop (Int.toNat a2) l)).length ≤ Go.maxLen ∧ ((List.take (Int.toNat a2 - 0) l).length + 1 + (List.take (l.length - Int.toNat a2) (List.drop (Int.toNat a2) l)).length) * 16 ≤ 140737488355328 then some ((List.take (Int.toNat a2 - 0) l ++ [s]) ++ List.take (l.length - Int.toNat a2) (List.drop (Int.toNat a2) l)) else none else none else none else none else none
theorem q2l (fu : Nat) (l : List ByteArray) (s : ByteArray) : ZZ (q0G fu l s) (QO l s) := by
  unfold q0G QO
  repeat (first
    | with_reducible exact ZZ.refl _
    | with_reducible exact ZZ.none _
    | with_reducible apply q0i
    | with_reducible refine ZZ.bind ?_ (fun _ => ?_)
    | with_reducible refine ZZ.ite ?_ ?_
    | with_reducible refine ZZ.sum (fun _ => ?_) (fun _ => ?_)
    | with_reducible refine ZZ.lim (fun _ => ?_))
noncomputable def Qp (d : qj) (out : List ByteArray) (many : Int) : Int → Option (Int ⊕ Int) | k => if 0 ≤ k ∧ k < ((qs.length : Nat) : Int) then Option.bind qs[Int.toNat k]? fun (a : ByteArray) => Option.bind (Qb out a) fun (a2 : Bool) => if a2 = Bool.true then some (Sum.inl (Int.tmod (w64 (k + 1)) 6)) else some (Sum.inr k) else none
theorem q24 : ∀ (d_L : List Int) (d_At : Int) (out : List ByteArray) (many k : Int), XL2 evo 74 1 5 ⟨[(0, rP 0), (3, rL 1 eS out), (4, rI many), (5, rI k)], [(0, B.blk 70 [dL 1 eI d_L, dI d_At])], 1, 33⟩ = (qA (Qp (qj.mk d_L d_At) out many) k).bind (fun (e : Int) => some (Go.Exit.exit 2, ⟨[(0, rP 0), (3, rL 1 eS out), (4, rI many), (5, rI e)], [(0, B.blk 70 [dL 1 eI d_L, dI d_At])], 1, 33⟩)) :=
  fun d_L d_At out many k => by
    revert k; exact q4j qin qi3 (fun e => by exact ⟨_, rfl, fun h => by cases h⟩) fun x => by
      have := qnr; have := @qag.eq_1; have := @Z2; have := @Zw; have := @Qp.eq_1; exact gA
noncomputable def J1 (fu : Nat) (d : qj) (out : List ByteArray) (many : Int) : Int → Option (Int ⊕ Int) | k => if 0 ≤ k ∧ k < ((qs.length : Nat) : Int) then Option.bind qs[Int.toNat k]? fun (a : ByteArray) => Option.bind (JT fu out a) fun (a2 : Bool) => if a2 = Bool.true then some (Sum.inl (Int.tmod (w64 (k + 1)) 6)) else some (Sum.inr k) else none
theorem q1T (fu : Nat) (d : qj) (out : List ByteArray) (many : Int) : ∀ x, ZZ (J1 fu d out many x) (Qp d out many x) := by
  rintro k
  unfold J1 Qp
  try dsimp only
  repeat (first
    | with_reducible exact ZZ.refl _
    | with_reducible exact ZZ.none _
    | with_reducible apply q0i
    | with_reducible refine ZZ.bind ?_ (fun _ => ?_)
    | with_reducible refine ZZ.ite ?_ ?_
    | with_reducible refine ZZ.sum (fun _ => ?_) (fun _ => ?_)
    | with_reducible refine ZZ.lim (fun _ => ?_))
noncomputable def zX (many : Int) : (qj × List ByteArray) → Option ((qj × List ByteArray) ⊕ (qj × List ByteArray)) | (d, out) => if ((out.length : Nat) : Int) < many then Option.bind (qo 6 d) fun (a : Prod Int qj) => Option.bind (qA (Qp a.2 out many) a.1) fun (a2 : Int) => if 0 ≤ a2 ∧ a2 < ((qs.length : Nat) : Int) then Option.bind qs[Int.toNat a2]? fun (a3 : ByteArray) => Option.bind (QO out a3) fun (a4 : List ByteArray) => some (Sum.inl (a.2, a4)) else none else some (Sum.inr (d, out))
theorem q1W : ∀ (d_L : List Int) (d_At : Int) (out : List ByteArray) (many : Int), XL2 evo 74 1 3 ⟨[(0, rP 0), (3, rL 1 eS out), (4, rI many)], [(0, B.blk 70 [dL 1 eI d_L, dI d_At])], 1, 33⟩ = (qA (zX many) ((qj.mk d_L d_At), out)).bind (fun (e : qj × List ByteArray) => some (Go.Exit.exit 0, ⟨[(3, rL 1 eS e.2)], [(0, B.blk 70 [dL 1 eI e.1.L, dI e.1.At])], 1, 33⟩)) :=
  fun d_L d_At out many => by
    have h := q7D (E := evo) (f := 74) (k := 1) (st := fun x : qj × List ByteArray => (⟨[(0, rP 0), (3, rL 1 eS x.2), (4, rI many)], [(0, B.blk 70 [dL 1 eI x.1.L, dI x.1.At])], 1, 33⟩ : S)) (ex := fun (e : qj × List ByteArray) => (Go.Exit.exit 0, ⟨[(3, rL 1 eS e.2)], [(0, B.blk 70 [dL 1 eI e.1.L, dI e.1.At])], 1, 33⟩)) (step := (zX many)) qii qit (fun e h => by cases h) (fun x => by
      obtain ⟨d, out⟩ := x; have := qnr; have := @qaw.eq_1; have := @zD; have := @q24; have := @Z2; have := @q2g; have := @zX.eq_1; exact gA) ((qj.mk d_L d_At), out)
    exact h
noncomputable def Zo (d : qj) (many : Int) : Option ((qj × List ByteArray) ⊕ Unit) := if 0 < many then Option.bind (qo 6 d) fun (a : Prod Int qj) => Option.bind (qA (QF a.2 many) a.1) fun (a2 : Int) => if 0 ≤ a2 ∧ a2 < ((qs.length : Nat) : Int) then Option.bind qs[Int.toNat a2]? fun (a3 : ByteArray) => Option.bind (QO [] a3) fun (a4 : List ByteArray) => Option.bind (qA (zX many) (a.2, a4)) fun (e0 : Prod qj (List ByteArray)) => some (Sum.inl (e0.1, e0.2)) else none else some (Sum.inr ())
theorem q20 : ∀ (d_L : List Int) (d_At many : Int), XL2 evo 74 1 3 ⟨[(0, rP 0), (3, R.c (C.nils)), (4, rI many)], [(0, B.blk 70 [dL 1 eI d_L, dI d_At])], 1, 33⟩ = (Zo (qj.mk d_L d_At) many).bind (Sum.elim (fun (e : qj × List ByteArray) => some (Go.Exit.exit 0, ⟨[(3, rL 1 eS e.2)], [(0, B.blk 70 [dL 1 eI e.1.L, dI e.1.At])], 1, 33⟩)) (fun (e : Unit) => some (Go.Exit.exit 0, ⟨[(3, R.c (C.nils))], [(0, B.blk 70 [dL 1 eI d_L, dI d_At])], 1, 33⟩))) :=
  fun d_L d_At many => by
    rw [qeD qii qit]
    have := qnr; have := @qaw.eq_1; have := @q80; have := @qe4; have := @qiw; have := @qfi; have := @qi5; have := @qdF; have := @qhQ; have := @q1W; have := @zD; have := @q3o; have := @Z2; have := @q47; have := @Zo.eq_1; exact gA
noncomputable def QN (d : qj) : Option (List ByteArray × qj) := Option.bind (qo 6 d) fun (a : Prod Int qj) => if 0 ≤ a.1 ∧ a.1 < 6 then Option.bind [(1 : Int), 1, 1, 2, 2, 3][Int.toNat a.1]? fun (a2 : Int) => Option.bind (Zo a.2 a2) fun (a3 : Sum (Prod qj (List ByteArray)) Unit) => Sum.elim (fun (a4 : Prod qj (List ByteArray)) => some (a4.2, a4.1)) (fun (a5 : Unit) => some ([], a.2)) a3 else none
theorem q5q : ∀ (d_L : List Int) (d_At : Int), ev 74 1 [rP 0] [(0, B.blk 70 [dL 1 eI d_L, dI d_At])] = (QN (qj.mk d_L d_At)).bind (fun (e : List ByteArray × qj) => some (rL 1 eS e.1, [(0, B.blk 70 [dL 1 eI e.2.L, dI e.2.At])])) :=
  fun d_L d_At => by
    rw [qu qm2 qv4.2.2.2 qtm]
    have := qnr; have := @zD; have := @q20; have := @QN.eq_1; exact gA
noncomputable def qR (b1_Id : Int) (b1_From : Int) (b1_To : Int) (b1_Begin : Int) (b1_End : Int) (b1_Conv_Num : Int) (b1_Conv_Add : Int) (b1_Conv_Den : Int) (b1_Conv_Round : Int) (b2_Id : Int) (b2_From : Int) (b2_To : Int) (b2_Begin : Int) (b2_End : Int) (b2_In : List ByteArray) (b2_Conv_Num : Int) (b2_Conv_Add : Int) (b2_Conv_Den : Int) (b2_Conv_Round : Int) (t6 : List ByteArray) : (List qh × qj × Int) → Option ((List qh × qj × Int) ⊕ (List qh × qj)) | (w3, b0, t7) => if t7 < ((t6.length : Nat) : Int) then if (b2_From != b2_To) = Bool.true then if 0 ≤ t7 ∧ t7 < ((t6.length : Nat) : Int) then Option.bind t6[Int.toNat t7]? fun (a : ByteArray) => Option.bind (qo 4 b0) fun (a2 : Prod Int qj) => if 0 ≤ a2.1 ∧ a2.1 < 4 then Option.bind [(5 : Int), 6, 10, 3][Int.toNat a2.1]? fun (a3 : Int) => if w3.length + 1 ≤ Go.maxLen ∧ (w3.length + 1) * 24 ≤ 140737488355328 then some (Sum.inl (w3 ++ [qh.mk a a3], a2.2, w64 (t7 + 1))) else none else none else none else if 0 ≤ t7 ∧ t7 < ((t6.length : Nat) : Int) then Option.bind t6[Int.toNat t7]? fun (a4 : ByteArray) => Option.bind (Qb b2_In a4) fun (a5 : Bool) => if (!a5) = Bool.true then if 0 ≤ t7 ∧ t7 < ((t6.length : Nat) : Int) then Option.bind t6[Int.toNat t7]? fun (a6 : ByteArray) => Option.bind (qo 4 b0) fun (a7 : Prod Int qj) => if 0 ≤ a7.1 ∧ a7.1 < 4 then Option.bind [(5 : Int), 6, 10, 3][Int.toNat a7.1]? fun (a8 : Int) => if w3.length + 1 ≤ Go.maxLen ∧ (w3.length + 1) * 24 ≤ 140737488355328 then some (Sum.inl (w3 ++ [qh.mk a6 a8], a7.2, w64 (t7 + 1))) else none else none else none else some (Sum.inl (w3, b0, w64 (t7 + 1))) else none else some (Sum.inr (w3, b0))
theorem q2a : ∀ (w3 : List qh) (b0_L : List Int) (b0_At b1_Id b1_From b1_To b1_Begin b1_End b1_Conv_Num b1_Conv_Add b1_Conv_Den b1_Conv_Round b2_Id b2_From b2_To b2_Begin b2_End : Int) (b2_In : List ByteArray) (b2_Conv_Num b2_Conv_Add b2_Conv_Den b2_Conv_Round : Int) (t6 : List ByteArray) (t7 : Int) (w3_len : Nat), w3_len = w3.length → XL2 evo 26 1 6 ⟨[(0, rP 0), (4, rP 1), (5, rP 2), (6, rL 1 eS t6), (7, rI t7)], [(0, B.blk 70 [dL 1 eI b0_L, dI b0_At]), (1, B.blk 30 [dI b1_Id, dI b1_From, dI b1_To, dI b1_Begin, dI b1_End, C.nils, C.nils, dI b1_Conv_Num, dI b1_Conv_Add, dI b1_Conv_Den, dI b1_Conv_Round]), (2, B.blk 30 [dI b2_Id, dI b2_From, dI b2_To, dI b2_Begin, dI b2_End, dL 1 eS b2_In, dO 3 2 w3_len, dI b2_Conv_Num, dI b2_Conv_Add, dI b2_Conv_Den, dI b2_Conv_Round]), (3, bR 79 2 qe w3)], 4, 87⟩ = (qA (qR b1_Id b1_From b1_To b1_Begin b1_End b1_Conv_Num b1_Conv_Add b1_Conv_Den b1_Conv_Round b2_Id b2_From b2_To b2_Begin b2_End b2_In b2_Conv_Num b2_Conv_Add b2_Conv_Den b2_Conv_Round t6) (w3, (qj.mk b0_L b0_At), t7)).bind (fun (e : List qh × qj) => some (Go.Exit.exit 0, ⟨[(0, rP 0), (4, rP 1), (5, rP 2)], [(0, B.blk 70 [dL 1 eI e.2.L, dI e.2.At]), (1, B.blk 30 [dI b1_Id, dI b1_From, dI b1_To, dI b1_Begin, dI b1_End, C.nils, C.nils, dI b1_Conv_Num, dI b1_Conv_Add, dI b1_Conv_Den, dI b1_Conv_Round]), (2, B.blk 30 [dI b2_Id, dI b2_From, dI b2_To, dI b2_Begin, dI b2_End, dL 1 eS b2_In, dO 3 2 e.1.length, dI b2_Conv_Num, dI b2_Conv_Add, dI b2_Conv_Den, dI b2_Conv_Round]), (3, bR 79 2 qe e.1)], 4, 87⟩)) :=
  by
  intro w3 b0_L b0_At b1_Id b1_From b1_To b1_Begin b1_End b1_Conv_Num b1_Conv_Add b1_Conv_Den b1_Conv_Round b2_Id b2_From b2_To b2_Begin b2_End b2_In b2_Conv_Num b2_Conv_Add b2_Conv_Den b2_Conv_Round t6 t7 w3_len h0
  subst h0
  have h := q7D (E := evo) (f := 26) (k := 1) (st := fun x : List qh × qj × Int => (⟨[(0, rP 0), (4, rP 1), (5, rP 2), (6, rL 1 eS t6), (7, rI x.2.2)], [(0, B.blk 70 [dL 1 eI x.2.1.L, dI x.2.1.At]), (1, B.blk 30 [dI b1_Id, dI b1_From, dI b1_To, dI b1_Begin, dI b1_End, C.nils, C.nils, dI b1_Conv_Num, dI b1_Conv_Add, dI b1_Conv_Den, dI b1_Conv_Round]), (2, B.blk 30 [dI b2_Id, dI b2_From, dI b2_To, dI b2_Begin, dI b2_End, dL 1 eS b2_In, dO 3 2 x.1.length, dI b2_Conv_Num, dI b2_Conv_Add, dI b2_Conv_Den, dI b2_Conv_Round]), (3, bR 79 2 qe x.1)], 4, 87⟩ : S)) (ex := fun (e : List qh × qj) => (Go.Exit.exit 0, ⟨[(0, rP 0), (4, rP 1), (5, rP 2)], [(0, B.blk 70 [dL 1 eI e.2.L, dI e.2.At]), (1, B.blk 30 [dI b1_Id, dI b1_From, dI b1_To, dI b1_Begin, dI b1_End, C.nils, C.nils, dI b1_Conv_Num, dI b1_Conv_Add, dI b1_Conv_Den, dI b1_Conv_Round]), (2, B.blk 30 [dI b2_Id, dI b2_From, dI b2_To, dI b2_Begin, dI b2_End, dL 1 eS b2_In, dO 3 2 e.1.length, dI b2_Conv_Num, dI b2_Conv_Add, dI b2_Conv_Den, dI b2_Conv_Round]), (3, bR 79 2 qe e.1)], 4, 87⟩)) (step := (qR b1_Id b1_From b1_To b1_Begin b1_End b1_Conv_Num b1_Conv_Add b1_Conv_Den b1_Conv_Round b2_Id b2_From b2_To b2_Begin b2_End b2_In b2_Conv_Num b2_Conv_Add b2_Conv_Den b2_Conv_Round t6)) qoO qnf (fun e h => by cases h) (fun x => by
    obtain ⟨w3, b0, t7⟩ := x; have := quY; have := @qei.eq_1; have := @zD; have := @Zw; have := @qR.eq_1; exact gA) (w3, (qj.mk b0_L b0_At), t7)
  exact h
theorem q0R : ∀  (b0_L : List Int) (b0_At b1_Id b1_From b1_To b1_Begin b1_End b1_Conv_Num b1_Conv_Add b1_Conv_Den b1_Conv_Round b2_Id b2_From b2_To b2_Begin b2_End : Int) (b2_In : List ByteArray) (b2_Conv_Num b2_Conv_Add b2_Conv_Den b2_Conv_Round : Int) (t6 : List ByteArray) (t7 : Int), XL2 evo 26 1 6 ⟨[(0, rP 0), (4, rP 1), (5, rP 2), (6, rL 1 eS t6), (7, rI t7)], [(0, B.blk 70 [dL 1 eI b0_L, dI b0_At]), (1, B.blk 30 [dI b1_Id, dI b1_From, dI b1_To, dI b1_Begin, dI b1_End, C.nils, C.nils, dI b1_Conv_Num, dI b1_Conv_Add, dI b1_Conv_Den, dI b1_Conv_Round]), (2, B.blk 30 [dI b2_Id, dI b2_From, dI b2_To, dI b2_Begin, dI b2_End, dL 1 eS b2_In, dO 3 2 0, dI b2_Conv_Num, dI b2_Conv_Add, dI b2_Conv_Den, dI b2_Conv_Round]), (3, B.row 79 2 [])], 4, 87⟩ = (qA (qR b1_Id b1_From b1_To b1_Begin b1_End b1_Conv_Num b1_Conv_Add b1_Conv_Den b1_Conv_Round b2_Id b2_From b2_To b2_Begin b2_End b2_In b2_Conv_Num b2_Conv_Add b2_Conv_Den b2_Conv_Round t6) ([], (qj.mk b0_L b0_At), t7)).bind (fun (e : List qh × qj) => some (Go.Exit.exit 0, ⟨[(0, rP 0), (4, rP 1), (5, rP 2)], [(0, B.blk 70 [dL 1 eI e.2.L, dI e.2.At]), (1, B.blk 30 [dI b1_Id, dI b1_From, dI b1_To, dI b1_Begin, dI b1_End, C.nils, C.nils, dI b1_Conv_Num, dI b1_Conv_Add, dI b1_Conv_Den, dI b1_Conv_Round]), (2, B.blk 30 [dI b2_Id, dI b2_From, dI b2_To, dI b2_Begin, dI b2_End, dL 1 eS b2_In, dO 3 2 e.1.length, dI b2_Conv_Num, dI b2_Conv_Add, dI b2_Conv_Den, dI b2_Conv_Round]), (3, bR 79 2 qe e.1)], 4, 87⟩)) := by
  intro b0_L b0_At b1_Id b1_From b1_To b1_Begin b1_End b1_Conv_Num b1_Conv_Add b1_Conv_Den b1_Conv_Round b2_Id b2_From b2_To b2_Begin b2_End b2_In b2_Conv_Num b2_Conv_Add b2_Conv_Den b2_Conv_Round t6 t7; have h := q2a [] ((qj.mk b0_L b0_At)).L ((qj.mk b0_L b0_At)).At b1_Id b1_From b1_To b1_Begin b1_End b1_Conv_Num b1_Conv_Add b1_Conv_Den b1_Conv_Round b2_Id b2_From b2_To b2_Begin b2_End b2_In b2_Conv_Num b2_Conv_Add b2_Conv_Den b2_Conv_Round t6 t7 _ rfl
  first
    | exact h
    | (simp only [rL, dL, bR, bZ, Nat.reduceAdd] at h; exact h)
theorem qzQ : okL 75 qbt := qw (qg qs0) (by kernel_rfl) (by kernel_rfl)
def qxi := JA_ @qbt.eq_1 (JA_ @Tryz.f75.eq_1 @qs0)
noncomputable def q09 (from0 : Int) (to : Int) (round : Int) : Option qd := if (w64 (w64 (10 * from0) + to) == 12) = Bool.true then some (qd.mk (-4) 500 100 round) else if (w64 (w64 (10 * from0) + to) == 13) = Bool.true then some (qd.mk 1 0 5 round) else if (w64 (w64 (10 * from0) + to) == 21) = Bool.true then some (qd.mk (-25) 125 1 round) else if (w64 (w64 (10 * from0) + to) == 23) = Bool.true then some (qd.mk (-5) 25 1 round) else if (w64 (w64 (10 * from0) + to) == 31) = Bool.true then some (qd.mk 5 0 1 round) else if (w64 (w64 (10 * from0) + to) == 32) = Bool.true then some (qd.mk (-1) 25 5 round) else some (qd.mk 1 0 1 round)
noncomputable def zc (from0 : Int) (to : Int) (round : Int) : qd := if (w64 (w64 (10 * from0) + to) == 12) = Bool.true then qd.mk (-4) 500 100 round else if (w64 (w64 (10 * from0) + to) == 13) = Bool.true then qd.mk 1 0 5 round else if (w64 (w64 (10 * from0) + to) == 21) = Bool.true then qd.mk (-25) 125 1 round else if (w64 (w64 (10 * from0) + to) == 23) = Bool.true then qd.mk (-5) 25 1 round else if (w64 (w64 (10 * from0) + to) == 31) = Bool.true then qd.mk 5 0 1 round else if (w64 (w64 (10 * from0) + to) == 32) = Bool.true then qd.mk (-1) 25 5 round else qd.mk 1 0 1 round
theorem q4K (from0 to round : Int) : q09 from0 to round = some (zc from0 to round) := by
  unfold q09 zc
  simp only [za]
theorem q5K : ∀ (from0 to round : Int), ev 75 0 [rI from0, rI to, rI round] [] = some (R.agg [dI (zc from0 to round).Num, dI (zc from0 to round).Add, dI (zc from0 to round).Den, dI (zc from0 to round).Round], []) :=
  fun from0 to round => by
    have h : ev 75 0 [rI from0, rI to, rI round] [] = (q09 from0 to round).bind (fun (e : qd) => some (R.agg [dI e.Num, dI e.Add, dI e.Den, dI e.Round], [])) := by
      rw [qu qs0 qv0.2.2.2 qzQ]
      have := qxi; have := @q09.eq_1; exact gA
    rw [q4K] at h
    exact h
noncomputable def Zu (x1 : Int) (v : qj) : Option (qa × qj) := Option.bind (qo 3 v) fun (a : Prod Int qj) => Option.bind (qo 3 a.2) fun (a2 : Prod Int qj) => Option.bind (qo 5 a2.2) fun (a3 : Prod Int qj) => if 0 ≤ a3.1 ∧ a3.1 < 5 then Option.bind [(0 : Int), 0, 0, 50, 200][Int.toNat a3.1]? fun (a4 : Int) => Option.bind (QN a3.2) fun (a5 : Prod (List ByteArray) qj) => Option.bind (qo 4 a5.2) fun (a6 : Prod Int qj) => if (a6.1 == 0) = Bool.true then Option.bind (qo 400 a6.2) fun (a7 : Prod Int qj) => Option.bind (QN a7.2) fun (a8 : Prod (List ByteArray) qj) => Option.bind (qA (qR 0 0 0 0 0 0 0 0 0 x1 (w64 (1 + a.1)) (w64 (1 + a2.1)) a4 (w64 (a4 + a7.1)) a5.1 0 0 0 0 a8.1) ([], (a8.2, 0))) fun (a9 : Prod (List qh) qj) => if (((a9.1.length : Nat) : Int) == 0) = Bool.true then Option.bind (qo 4 a9.2) fun (a10 : Prod Int qj) => some (qa.mk x1 (w64 (1 + a.1)) (w64 (1 + a2.1)) a4 (w64 (a4 + a7.1)) a5.1 [qh.mk (ByteArray.mk (List.toArray [90, 57])) 5] (zc (w64 (1 + a.1)) (w64 (1 + a2.1)) (w64 (1 + a10.1))), a10.2) else Option.bind (qo 4 a9.2) fun (a11 : Prod Int qj) => some (qa.mk x1 (w64 (1 + a.1)) (w64 (1 + a2.1)) a4 (w64 (a4 + a7.1)) a5.1 a9.1 (zc (w64 (1 + a.1)) (w64 (1 + a2.1)) (w64 (1 + a11.1))), a11.2) else Option.bind (QN a6.2) fun (a12 : Prod (List ByteArray) qj) => Option.bind (qA (qR 0 0 0 0 0 0 0 0 0 x1 (w64 (1 + a.1)) (w64 (1 + a2.1)) a4 0 a5.1 0 0 0 0 a12.1) ([], (a12.2, 0))) fun (a13 : Prod (List qh) qj) => if (((a13.1.length : Nat) : Int) == 0) = Bool.true then Option.bind (qo 4 a13.2) fun (a14 : Prod Int qj) => some (qa.mk x1 (w64 (1 + a.1)) (w64 (1 + a2.1)) a4 0 a5.1 [qh.mk (ByteArray.mk (List.toArray [90, 57])) 5] (zc (w64 (1 + a.1)) (w64 (1 + a2.1)) (w64 (1 + a14.1))), a14.2) else Option.bind (qo 4 a13.2) fun (a15 : Prod Int qj) => some (qa.mk x1 (w64 (1 + a.1)) (w64 (1 + a2.1)) a4 0 a5.1 a13.1 (zc (w64 (1 + a.1)) (w64 (1 + a2.1)) (w64 (1 + a15.1))), a15.2) else none
theorem q3N : ∀ (x1 : Int) (v_L : List Int) (v_At : Int), ev 26 1 [rP 0, rI x1] [(0, B.blk 70 [dL 1 eI v_L, dI v_At])] = (Zu x1 (qj.mk v_L v_At)).bind (fun (e : qa × qj) => some (R.agg [dI e.1.Id, dI e.1.From, dI e.1.To, dI e.1.Begin, dI e.1.End, dL 1 eS e.1.In, dL 2 qe e.1.Out, dI e.1.Conv.Num, dI e.1.Conv.Add, dI e.1.Conv.Den, dI e.1.Conv.Round], [(0, B.blk 70 [dL 1 eI e.2.L, dI e.2.At])])) :=
  fun x1 v_L v_At => by
    rw [qu qr8 qwX.2.2.2 qvN]
    have := quY; have := @zD; have := @q5q; have := @q0R; have := @q5K; have := @Zu.eq_1; exact gA
noncomputable def Qv (l : List (List Int)) : (List qa × Int) → Option ((List qa × Int) ⊕ (List qa)) | (out, k) => if k < ((l.length : Nat) : Int) then if k < 4 then if 0 ≤ k ∧ k < ((l.length : Nat) : Int) then Option.bind l[Int.toNat k]? fun (a : List Int) => Option.bind (Zu (w64 (3 + w64 (2 * k))) (qj.mk a 0)) fun (a2 : Prod qa qj) => if out.length + 1 ≤ Go.maxLen ∧ (out.length + 1) * 120 ≤ 140737488355328 then some (Sum.inl (out ++ [a2.1], w64 (k + 1))) else none else none else some (Sum.inr out) else some (Sum.inr out)
theorem q2W : ∀ (out : List qa) (l : List (List Int)) (k : Int) (zr : Nat), zr = out.length → XL2 evo 7 0 3 ⟨[(0, rL 1 (eL 1 eI) l), (3, rO 0 11 zr), (4, rI k)], [(0, bR 30 11 qn out)], 1, 29⟩ = (qA (Qv l) (out, k)).bind (fun (e : List qa) => some (Go.Exit.exit 0, ⟨[(3, rO 0 11 e.length)], [(0, bR 30 11 qn e)], 1, 29⟩)) :=
  by
  intro out l k zr h0
  subst h0
  revert k; revert out; exact q7B qt1 qsT (fun e => by exact ⟨_, rfl, fun h => by cases h⟩) fun out k => by
    have := cx7; have := @ql0.eq_1; have := @q3N; have := @Qv.eq_1; exact gA
theorem q1l : ∀  (l : List (List Int)) (k : Int), XL2 evo 7 0 3 ⟨[(0, rL 1 (eL 1 eI) l), (3, rO 0 11 0), (4, rI k)], [(0, B.row 30 11 [])], 1, 29⟩ = (qA (Qv l) ([], k)).bind (fun (e : List qa) => some (Go.Exit.exit 0, ⟨[(3, rO 0 11 e.length)], [(0, bR 30 11 qn e)], 1, 29⟩)) := by
  intro l k; have h := q2W [] l k _ rfl
  first
    | exact h
    | (simp only [rL, dL, bR, bZ, Nat.reduceAdd] at h; exact h)
noncomputable def Jp (l : List (List Int)) : Option (List qa) := Option.bind (qA (Qv l) ([], 0)) fun (a : List qa) => some a
theorem q69 : ∀ (l : List (List Int)), ev 7 0 [rL 1 (eL 1 eI) l] [] = (Jp l).bind (fun (e : List qa) => some (rO 0 11 e.length, [(0, bR 30 11 qn e)])) :=
  fun l => by
    rw [qu bd7 pw7.2.2.2 lo7]
    have := cx7; have := @q1l; have := @Jp.eq_1; exact gA
theorem lo8 : okL 8 qc1 := qw (qg bd8) (by kernel_rfl) (by kernel_rfl)
def cx8 := JA_ @qc1.eq_1 (JA_ @Tryz.f8.eq_1 @bd8)
theorem qsz : lbO 8 4 = qlT := zo (qg bd8) rfl
theorem qsB : okL 8 qlT := qH lo8 (List.mem_of_getElem? (i := 0) (by kernel_rfl))
theorem qsO : lbO 8 8 = qlu := zo (qg bd8) rfl
theorem qsF : okL 8 qlu := qH lo8 (List.mem_of_getElem? (i := 1) (by kernel_rfl))
noncomputable def Qj (b0 : qa) (b1_Id : Int) (b1_From : Int) (b1_To : Int) (b1_Begin : Int) (b1_End : Int) (b1_Conv_Num : Int) (b1_Conv_Add : Int) (b1_Conv_Den : Int) (b1_Conv_Round : Int) (b2_Id : Int) (b2_From : Int) (b2_To : Int) (b2_Begin : Int) (b2_End : Int) (b2_Conv_Num : Int) (b2_Conv_Add : Int) (b2_Conv_Den : Int) (b2_Conv_Round : Int) : (List ByteArray × Int) → Option ((List ByteArray × Int) ⊕ (List ByteArray)) | (w3, t4) => if t4 < ((b0.In.length : Nat) : Int) then if t4 < 5 then if 0 ≤ t4 ∧ t4 < ((b0.In.length : Nat) : Int) then Option.bind b0.In[Int.toNat t4]? fun (a : ByteArray) => if 0 ≤ t4 ∧ t4 < ((b0.In.length : Nat) : Int) then Option.bind b0.In[Int.toNat t4]? fun (a2 : ByteArray) => if 0 ≤ min ((ByteArray.size a2 : Nat) : Int) 12 ∧ min ((ByteArray.size a2 : Nat) : Int) 12 ≤ ((ByteArray.size a : Nat) : Int) then if w3.length + 1 ≤ Go.maxLen ∧ (w3.length + 1) * 16 ≤ 140737488355328 then some (Sum.inl (w3 ++ [ByteArray.extract a 0 (Int.toNat (min ((ByteArray.size a2 : Nat) : Int) 12))], w64 (t4 + 1))) else none else none else none else none else some (Sum.inr w3) else some (Sum.inr w3)
theorem q3J : ∀ (w3 : List ByteArray) (b0_Id b0_From b0_To b0_Begin b0_End : Int) (b0_In : List ByteArray) (b0_Out : List qh) (b0_Conv_Num b0_Conv_Add b0_Conv_Den b0_Conv_Round b1_Id b1_From b1_To b1_Begin b1_End b1_Conv_Num b1_Conv_Add b1_Conv_Den b1_Conv_Round b2_Id b2_From b2_To b2_Begin b2_End b2_Conv_Num b2_Conv_Add b2_Conv_Den b2_Conv_Round t4 : Int) (w3_len : Nat), w3_len = w3.length → XL2 evo 8 0 4 ⟨[(1, rP 0), (2, rP 1), (3, rP 2), (4, rI t4)], [(0, B.blk 30 [dI b0_Id, dI b0_From, dI b0_To, dI b0_Begin, dI b0_End, dL 1 eS b0_In, dL 2 qe b0_Out, dI b0_Conv_Num, dI b0_Conv_Add, dI b0_Conv_Den, dI b0_Conv_Round]), (1, B.blk 30 [dI b1_Id, dI b1_From, dI b1_To, dI b1_Begin, dI b1_End, C.nils, C.nils, dI b1_Conv_Num, dI b1_Conv_Add, dI b1_Conv_Den, dI b1_Conv_Round]), (2, B.blk 30 [dI b2_Id, dI b2_From, dI b2_To, dI b2_Begin, dI b2_End, dO 3 1 w3_len, C.nils, dI b2_Conv_Num, dI b2_Conv_Add, dI b2_Conv_Den, dI b2_Conv_Round]), (3, bR 9 1 eS w3)], 4, 77⟩ = (qA (Qj (qa.mk b0_Id b0_From b0_To b0_Begin b0_End b0_In b0_Out (qd.mk b0_Conv_Num b0_Conv_Add b0_Conv_Den b0_Conv_Round)) b1_Id b1_From b1_To b1_Begin b1_End b1_Conv_Num b1_Conv_Add b1_Conv_Den b1_Conv_Round b2_Id b2_From b2_To b2_Begin b2_End b2_Conv_Num b2_Conv_Add b2_Conv_Den b2_Conv_Round) (w3, t4)).bind (fun (e : List ByteArray) => some (Go.Exit.exit 0, ⟨[(1, rP 0), (2, rP 1), (3, rP 2)], [(0, B.blk 30 [dI b0_Id, dI b0_From, dI b0_To, dI b0_Begin, dI b0_End, dL 1 eS b0_In, dL 2 qe b0_Out, dI b0_Conv_Num, dI b0_Conv_Add, dI b0_Conv_Den, dI b0_Conv_Round]), (1, B.blk 30 [dI b1_Id, dI b1_From, dI b1_To, dI b1_Begin, dI b1_End, C.nils, C.nils, dI b1_Conv_Num, dI b1_Conv_Add, dI b1_Conv_Den, dI b1_Conv_Round]), (2, B.blk 30 [dI b2_Id, dI b2_From, dI b2_To, dI b2_Begin, dI b2_End, dO 3 1 e.length, C.nils, dI b2_Conv_Num, dI b2_Conv_Add, dI b2_Conv_Den, dI b2_Conv_Round]), (3, bR 9 1 eS e)], 4, 77⟩)) :=
  by
  intro w3 b0_Id b0_From b0_To b0_Begin b0_End b0_In b0_Out b0_Conv_Num b0_Conv_Add b0_Conv_Den b0_Conv_Round b1_Id b1_From b1_To b1_Begin b1_End b1_Conv_Num b1_Conv_Add b1_Conv_Den b1_Conv_Round b2_Id b2_From b2_To b2_Begin b2_End b2_Conv_Num b2_Conv_Add b2_Conv_Den b2_Conv_Round t4 w3_len h0
  subst h0
  revert t4; revert w3; exact q7B qsz qsB (fun e => by exact ⟨_, rfl, fun h => by cases h⟩) fun w3 t4 => by
    have := cx8; have := @qlT.eq_1; have := @Qj.eq_1; exact gA
theorem q1Z : ∀  (b0_Id b0_From b0_To b0_Begin b0_End : Int) (b0_In : List ByteArray) (b0_Out : List qh) (b0_Conv_Num b0_Conv_Add b0_Conv_Den b0_Conv_Round b1_Id b1_From b1_To b1_Begin b1_End b1_Conv_Num b1_Conv_Add b1_Conv_Den b1_Conv_Round b2_Id b2_From b2_To b2_Begin b2_End b2_Conv_Num b2_Conv_Add b2_Conv_Den b2_Conv_Round t4 : Int), XL2 evo 8 0 4 ⟨[(1, rP 0), (2, rP 1), (3, rP 2), (4, rI t4)], [(0, B.blk 30 [dI b0_Id, dI b0_From, dI b0_To, dI b0_Begin, dI b0_End, dL 1 eS b0_In, dL 2 qe b0_Out, dI b0_Conv_Num, dI b0_Conv_Add, dI b0_Conv_Den, dI b0_Conv_Round]), (1, B.blk 30 [dI b1_Id, dI b1_From, dI b1_To, dI b1_Begin, dI b1_End, C.nils, C.nils, dI b1_Conv_Num, dI b1_Conv_Add, dI b1_Conv_Den, dI b1_Conv_Round]), (2, B.blk 30 [dI b2_Id, dI b2_From, dI b2_To, dI b2_Begin, dI b2_End, dO 3 1 0, C.nils, dI b2_Conv_Num, dI b2_Conv_Add, dI b2_Conv_Den, dI b2_Conv_Round]), (3, B.row 9 1 [])], 4, 77⟩ = (qA (Qj (qa.mk b0_Id b0_From b0_To b0_Begin b0_End b0_In b0_Out (qd.mk b0_Conv_Num b0_Conv_Add b0_Conv_Den b0_Conv_Round)) b1_Id b1_From b1_To b1_Begin b1_End b1_Conv_Num b1_Conv_Add b1_Conv_Den b1_Conv_Round b2_Id b2_From b2_To b2_Begin b2_End b2_Conv_Num b2_Conv_Add b2_Conv_Den b2_Conv_Round) ([], t4)).bind (fun (e : List ByteArray) => some (Go.Exit.exit 0, ⟨[(1, rP 0), (2, rP 1), (3, rP 2)], [(0, B.blk 30 [dI b0_Id, dI b0_From, dI b0_To, dI b0_Begin, dI b0_End, dL 1 eS b0_In, dL 2 qe b0_Out, dI b0_Conv_Num, dI b0_Conv_Add, dI b0_Conv_Den, dI b0_Conv_Round]), (1, B.blk 30 [dI b1_Id, dI b1_From, dI b1_To, dI b1_Begin, dI b1_End, C.nils, C.nils, dI b1_Conv_Num, dI b1_Conv_Add, dI b1_Conv_Den, dI b1_Conv_Round]), (2, B.blk 30 [dI b2_Id, dI b2_From, dI b2_To, dI b2_Begin, dI b2_End, dO 3 1 e.length, C.nils, dI b2_Conv_Num, dI b2_Conv_Add, dI b2_Conv_Den, dI b2_Conv_Round]), (3, bR 9 1 eS e)], 4, 77⟩)) := by
  intro b0_Id b0_From b0_To b0_Begin b0_End b0_In b0_Out b0_Conv_Num b0_Conv_Add b0_Conv_Den b0_Conv_Round b1_Id b1_From b1_To b1_Begin b1_End b1_Conv_Num b1_Conv_Add b1_Conv_Den b1_Conv_Round b2_Id b2_From b2_To b2_Begin b2_End b2_Conv_Num b2_Conv_Add b2_Conv_Den b2_Conv_Round t4; have h := q3J [] ((qa.mk b0_Id b0_From b0_To b0_Begin b0_End b0_In b0_Out (qd.mk b0_Conv_Num b0_Conv_Add b0_Conv_Den b0_Conv_Round))).Id ((qa.mk b0_Id b0_From b0_To b0_Begin b0_End b0_In b0_Out (qd.mk b0_Conv_Num b0_Conv_Add b0_Conv_Den b0_Conv_Round))).From ((qa.mk b0_Id b0_From b0_To b0_Begin b0_End b0_In b0_Out (qd.mk b0_Conv_Num b0_Conv_Add b0_Conv_Den b0_Conv_Round))).To ((qa.mk b0_Id b0_From b0_To b0_Begin b0_End b0_In b0_Out (qd.mk b0_Conv_Num b0_Conv_Add b0_Conv_Den b0_Conv_Round))).Begin ((qa.mk b0_Id b0_From b0_To b0_Begin b0_End b0_In b0_Out (qd.mk b0_Conv_Num b0_Conv_Add b0_Conv_Den b0_Conv_Round))).End ((qa.mk b0_Id b0_From b0_To b0_Begin b0_End b0_In b0_Out (qd.mk b0_Conv_Num b0_Conv_Add b0_Conv_Den b0_Conv_Round))).In ((qa.mk b0_Id b0_From b0_To b0_Begin b0_End b0_In b0_Out (qd.mk b0_Conv_Num b0_Conv_Add b0_Conv_Den b0_Conv_Round))).Out ((qa.mk b0_Id b0_From b0_To b0_Begin b0_End b0_In b0_Out (qd.mk b0_Conv_Num b0_Conv_Add b0_Conv_Den b0_Conv_Round))).Conv.Num ((qa.mk b0_Id b0_From b0_To b0_Begin b0_End b0_In b0_Out (qd.mk b0_Conv_Num b0_Conv_Add b0_Conv_Den b0_Conv_Round))).Conv.Add ((qa.mk b0_Id b0_From b0_To b0_Begin b0_End b0_In b0_Out (qd.mk b0_Conv_Num b0_Conv_Add b0_Conv_Den b0_Conv_Round))).Conv.Den ((qa.mk b0_Id b0_From b0_To b0_Begin b0_End b0_In b0_Out (qd.mk b0_Conv_Num b0_Conv_Add b0_Conv_Den b0_Conv_Round))).Conv.Round b1_Id b1_From b1_To b1_Begin b1_End b1_Conv_Num b1_Conv_Add b1_Conv_Den b1_Conv_Round b2_Id b2_From b2_To b2_Begin b2_End b2_Conv_Num b2_Conv_Add b2_Conv_Den b2_Conv_Round t4 _ rfl
  first
    | exact h
    | (simp only [rL, dL, bR, bZ, Nat.reduceAdd] at h; exact h)
noncomputable def Ql (w3 : List ByteArray) (b0 : qa) (b1_Id : Int) (b1_From : Int) (b1_To : Int) (b1_Begin : Int) (b1_End : Int) (b1_Conv_Num : Int) (b1_Conv_Add : Int) (b1_Conv_Den : Int) (b1_Conv_Round : Int) (b2_Id : Int) (b2_From : Int) (b2_To : Int) (b2_Begin : Int) (b2_End : Int) (b2_Conv_Num : Int) (b2_Conv_Add : Int) (b2_Conv_Den : Int) (b2_Conv_Round : Int) : (List qh × Int) → Option ((List qh × Int) ⊕ (List qh)) | (w4, t5) => if t5 < ((b0.Out.length : Nat) : Int) then if t5 < 5 then if 0 ≤ t5 ∧ t5 < ((b0.Out.length : Nat) : Int) then Option.bind b0.Out[Int.toNat t5]? fun (a : qh) => if 0 ≤ t5 ∧ t5 < ((b0.Out.length : Nat) : Int) then Option.bind b0.Out[Int.toNat t5]? fun (a2 : qh) => if 0 ≤ min ((ByteArray.size a2.Code : Nat) : Int) 12 ∧ min ((ByteArray.size a2.Code : Nat) : Int) 12 ≤ ((ByteArray.size a.Code : Nat) : Int) then if 0 ≤ t5 ∧ t5 < ((b0.Out.length : Nat) : Int) then Option.bind b0.Out[Int.toNat t5]? fun (a3 : qh) => if w4.length + 1 ≤ Go.maxLen ∧ (w4.length + 1) * 24 ≤ 140737488355328 then some (Sum.inl (w4 ++ [qh.mk (ByteArray.extract a.Code 0 (Int.toNat (min ((ByteArray.size a2.Code : Nat) : Int) 12))) a3.Credits], w64 (t5 + 1))) else none else none else none else none else none else some (Sum.inr w4) else some (Sum.inr w4)
theorem q3Z : ∀ (w3 : List ByteArray) (w4 : List qh) (b0_Id b0_From b0_To b0_Begin b0_End : Int) (b0_In : List ByteArray) (b0_Out : List qh) (b0_Conv_Num b0_Conv_Add b0_Conv_Den b0_Conv_Round b1_Id b1_From b1_To b1_Begin b1_End b1_Conv_Num b1_Conv_Add b1_Conv_Den b1_Conv_Round b2_Id b2_From b2_To b2_Begin b2_End b2_Conv_Num b2_Conv_Add b2_Conv_Den b2_Conv_Round t5 : Int) (w3_len w4_len : Nat), w3_len = w3.length → w4_len = w4.length → XL2 evo 8 0 8 ⟨[(1, rP 0), (2, rP 1), (3, rP 2), (5, rI t5)], [(0, B.blk 30 [dI b0_Id, dI b0_From, dI b0_To, dI b0_Begin, dI b0_End, dL 1 eS b0_In, dL 2 qe b0_Out, dI b0_Conv_Num, dI b0_Conv_Add, dI b0_Conv_Den, dI b0_Conv_Round]), (1, B.blk 30 [dI b1_Id, dI b1_From, dI b1_To, dI b1_Begin, dI b1_End, C.nils, C.nils, dI b1_Conv_Num, dI b1_Conv_Add, dI b1_Conv_Den, dI b1_Conv_Round]), (2, B.blk 30 [dI b2_Id, dI b2_From, dI b2_To, dI b2_Begin, dI b2_End, dO 3 1 w3_len, dO 4 2 w4_len, dI b2_Conv_Num, dI b2_Conv_Add, dI b2_Conv_Den, dI b2_Conv_Round]), (3, bR 9 1 eS w3), (4, bR 79 2 qe w4)], 5, 77⟩ = (qA (Ql w3 (qa.mk b0_Id b0_From b0_To b0_Begin b0_End b0_In b0_Out (qd.mk b0_Conv_Num b0_Conv_Add b0_Conv_Den b0_Conv_Round)) b1_Id b1_From b1_To b1_Begin b1_End b1_Conv_Num b1_Conv_Add b1_Conv_Den b1_Conv_Round b2_Id b2_From b2_To b2_Begin b2_End b2_Conv_Num b2_Conv_Add b2_Conv_Den b2_Conv_Round) (w4, t5)).bind (fun (e : List qh) => some (Go.Exit.exit 2, ⟨[(2, rP 0), (3, rP 1)], [(0, B.blk 30 [dI b1_Id, dI b1_From, dI b1_To, dI b1_Begin, dI b1_End, C.nils, C.nils, dI b1_Conv_Num, dI b1_Conv_Add, dI b1_Conv_Den, dI b1_Conv_Round]), (1, B.blk 30 [dI b2_Id, dI b2_From, dI b2_To, dI b2_Begin, dI b2_End, dO 2 1 w3.length, dO 3 2 e.length, dI b2_Conv_Num, dI b2_Conv_Add, dI b2_Conv_Den, dI b2_Conv_Round]), (2, bR 9 1 eS w3), (3, bR 79 2 qe e)], 4, 77⟩)) :=
  by
  intro w3 w4 b0_Id b0_From b0_To b0_Begin b0_End b0_In b0_Out b0_Conv_Num b0_Conv_Add b0_Conv_Den b0_Conv_Round b1_Id b1_From b1_To b1_Begin b1_End b1_Conv_Num b1_Conv_Add b1_Conv_Den b1_Conv_Round b2_Id b2_From b2_To b2_Begin b2_End b2_Conv_Num b2_Conv_Add b2_Conv_Den b2_Conv_Round t5 w3_len w4_len h0 h1
  subst h0 h1
  revert t5; revert w4; exact q7B qsO qsF (fun e => by exact ⟨_, rfl, fun h => by cases h⟩) fun w4 t5 => by
    have := cx8; have := @qlu.eq_1; have := @Ql.eq_1; exact gA
theorem q1V : ∀  (w3 : List ByteArray) (b0_Id b0_From b0_To b0_Begin b0_End : Int) (b0_In : List ByteArray) (b0_Out : List qh) (b0_Conv_Num b0_Conv_Add b0_Conv_Den b0_Conv_Round b1_Id b1_From b1_To b1_Begin b1_End b1_Conv_Num b1_Conv_Add b1_Conv_Den b1_Conv_Round b2_Id b2_From b2_To b2_Begin b2_End b2_Conv_Num b2_Conv_Add b2_Conv_Den b2_Conv_Round t5 : Int) (w3_len : Nat), w3_len = w3.length → XL2 evo 8 0 8 ⟨[(1, rP 0), (2, rP 1), (3, rP 2), (5, rI t5)], [(0, B.blk 30 [dI b0_Id, dI b0_From, dI b0_To, dI b0_Begin, dI b0_End, dL 1 eS b0_In, dL 2 qe b0_Out, dI b0_Conv_Num, dI b0_Conv_Add, dI b0_Conv_Den, dI b0_Conv_Round]), (1, B.blk 30 [dI b1_Id, dI b1_From, dI b1_To, dI b1_Begin, dI b1_End, C.nils, C.nils, dI b1_Conv_Num, dI b1_Conv_Add, dI b1_Conv_Den, dI b1_Conv_Round]), (2, B.blk 30 [dI b2_Id, dI b2_From, dI b2_To, dI b2_Begin, dI b2_End, dO 3 1 w3_len, dO 4 2 0, dI b2_Conv_Num, dI b2_Conv_Add, dI b2_Conv_Den, dI b2_Conv_Round]), (3, bR 9 1 eS w3), (4, B.row 79 2 [])], 5, 77⟩ = (qA (Ql w3 (qa.mk b0_Id b0_From b0_To b0_Begin b0_End b0_In b0_Out (qd.mk b0_Conv_Num b0_Conv_Add b0_Conv_Den b0_Conv_Round)) b1_Id b1_From b1_To b1_Begin b1_End b1_Conv_Num b1_Conv_Add b1_Conv_Den b1_Conv_Round b2_Id b2_From b2_To b2_Begin b2_End b2_Conv_Num b2_Conv_Add b2_Conv_Den b2_Conv_Round) ([], t5)).bind (fun (e : List qh) => some (Go.Exit.exit 2, ⟨[(2, rP 0), (3, rP 1)], [(0, B.blk 30 [dI b1_Id, dI b1_From, dI b1_To, dI b1_Begin, dI b1_End, C.nils, C.nils, dI b1_Conv_Num, dI b1_Conv_Add, dI b1_Conv_Den, dI b1_Conv_Round]), (1, B.blk 30 [dI b2_Id, dI b2_From, dI b2_To, dI b2_Begin, dI b2_End, dO 2 1 w3.length, dO 3 2 e.length, dI b2_Conv_Num, dI b2_Conv_Add, dI b2_Conv_Den, dI b2_Conv_Round]), (2, bR 9 1 eS w3), (3, bR 79 2 qe e)], 4, 77⟩)) := by
  intro w3 b0_Id b0_From b0_To b0_Begin b0_End b0_In b0_Out b0_Conv_Num b0_Conv_Add b0_Conv_Den b0_Conv_Round b1_Id b1_From b1_To b1_Begin b1_End b1_Conv_Num b1_Conv_Add b1_Conv_Den b1_Conv_Round b2_Id b2_From b2_To b2_Begin b2_End b2_Conv_Num b2_Conv_Add b2_Conv_Den b2_Conv_Round t5 w3_len h0; subst h0; have h := q3Z w3 [] ((qa.mk b0_Id b0_From b0_To b0_Begin b0_End b0_In b0_Out (qd.mk b0_Conv_Num b0_Conv_Add b0_Conv_Den b0_Conv_Round))).Id ((qa.mk b0_Id b0_From b0_To b0_Begin b0_End b0_In b0_Out (qd.mk b0_Conv_Num b0_Conv_Add b0_Conv_Den b0_Conv_Round))).From ((qa.mk b0_Id b0_From b0_To b0_Begin b0_End b0_In b0_Out (qd.mk b0_Conv_Num b0_Conv_Add b0_Conv_Den b0_Conv_Round))).To ((qa.mk b0_Id b0_From b0_To b0_Begin b0_End b0_In b0_Out (qd.mk b0_Conv_Num b0_Conv_Add b0_Conv_Den b0_Conv_Round))).Begin ((qa.mk b0_Id b0_From b0_To b0_Begin b0_End b0_In b0_Out (qd.mk b0_Conv_Num b0_Conv_Add b0_Conv_Den b0_Conv_Round))).End ((qa.mk b0_Id b0_From b0_To b0_Begin b0_End b0_In b0_Out (qd.mk b0_Conv_Num b0_Conv_Add b0_Conv_Den b0_Conv_Round))).In ((qa.mk b0_Id b0_From b0_To b0_Begin b0_End b0_In b0_Out (qd.mk b0_Conv_Num b0_Conv_Add b0_Conv_Den b0_Conv_Round))).Out ((qa.mk b0_Id b0_From b0_To b0_Begin b0_End b0_In b0_Out (qd.mk b0_Conv_Num b0_Conv_Add b0_Conv_Den b0_Conv_Round))).Conv.Num ((qa.mk b0_Id b0_From b0_To b0_Begin b0_End b0_In b0_Out (qd.mk b0_Conv_Num b0_Conv_Add b0_Conv_Den b0_Conv_Round))).Conv.Add ((qa.mk b0_Id b0_From b0_To b0_Begin b0_End b0_In b0_Out (qd.mk b0_Conv_Num b0_Conv_Add b0_Conv_Den b0_Conv_Round))).Conv.Den ((qa.mk b0_Id b0_From b0_To b0_Begin b0_End b0_In b0_Out (qd.mk b0_Conv_Num b0_Conv_Add b0_Conv_Den b0_Conv_Round))).Conv.Round b1_Id b1_From b1_To b1_Begin b1_End b1_Conv_Num b1_Conv_Add b1_Conv_Den b1_Conv_Round b2_Id b2_From b2_To b2_Begin b2_End b2_Conv_Num b2_Conv_Add b2_Conv_Den b2_Conv_Round t5 _ _ rfl rfl
  first
    | exact h
    | (simp only [rL, dL, bR, bZ, Nat.reduceAdd] at h; exact h)
noncomputable def JU (x0 : qa) : Option qa := Option.bind (qA (Qj x0 0 0 0 0 0 0 0 0 0 x0.Id x0.From x0.To x0.Begin x0.End x0.Conv.Num x0.Conv.Add x0.Conv.Den x0.Conv.Round) ([], 0)) fun (a : List ByteArray) => Option.bind (qA (Ql a x0 0 0 0 0 0 0 0 0 0 x0.Id x0.From x0.To x0.Begin x0.End x0.Conv.Num x0.Conv.Add x0.Conv.Den x0.Conv.Round) ([], 0)) fun (a2 : List qh) => some (qa.mk x0.Id x0.From x0.To x0.Begin x0.End a a2 x0.Conv)
theorem q6o : ∀ (x0_Id x0_From x0_To x0_Begin x0_End : Int) (x0_In : List ByteArray) (x0_Out : List qh) (x0_Conv_Num x0_Conv_Add x0_Conv_Den x0_Conv_Round : Int), ev 8 0 [R.agg [dI x0_Id, dI x0_From, dI x0_To, dI x0_Begin, dI x0_End, dL 1 eS x0_In, dL 2 qe x0_Out, dI x0_Conv_Num, dI x0_Conv_Add, dI x0_Conv_Den, dI x0_Conv_Round]] [] = (JU (qa.mk x0_Id x0_From x0_To x0_Begin x0_End x0_In x0_Out (qd.mk x0_Conv_Num x0_Conv_Add x0_Conv_Den x0_Conv_Round))).bind (fun (e : qa) => some (R.agg [dI e.Id, dI e.From, dI e.To, dI e.Begin, dI e.End, dL 1 eS e.In, dL 2 qe e.Out, dI e.Conv.Num, dI e.Conv.Add, dI e.Conv.Den, dI e.Conv.Round], [])) :=
  fun x0_Id x0_From x0_To x0_Begin x0_End x0_In x0_Out x0_Conv_Num x0_Conv_Add x0_Conv_Den x0_Conv_Round => by
    rw [qu bd8 pw8.2.2.2 lo8]
    have := cx8; have := @q1Z; have := @q1V; have := @JU.eq_1; exact gA
theorem lo9 : okL 9 qfG := qw (qg bd9) (by kernel_rfl) (by kernel_rfl)
def cx9 := JA_ @qfG.eq_1 (JA_ @Tryz.f9.eq_1 @bd9)
theorem qyM : okL 31 qb6 := qw (qg qrG) (by kernel_rfl) (by kernel_rfl)
def qyx := JA_ @qb6.eq_1 (JA_ @Tryz.f31.eq_1 @qrG)
noncomputable def Jo (a : qa) : Option (Int × Int × Int × Int × Int × Int × Int × Int × Int × List ByteArray × List qh) := if a.In.length ≤ Go.maxLen ∧ a.In.length * 16 ≤ 140737488355328 then if a.Out.length ≤ Go.maxLen ∧ a.Out.length * 24 ≤ 140737488355328 then some (a.Id, a.From, a.To, a.Begin, a.End, a.Conv.Num, a.Conv.Add, a.Conv.Den, a.Conv.Round, a.In, a.Out) else none else none
theorem q5S : ∀ (a_Id a_From a_To a_Begin a_End : Int) (a_In : List ByteArray) (a_Out : List qh) (a_Conv_Num a_Conv_Add a_Conv_Den a_Conv_Round : Int), ev 31 0 [R.agg [dI a_Id, dI a_From, dI a_To, dI a_Begin, dI a_End, dL 1 eS a_In, dL 2 qe a_Out, dI a_Conv_Num, dI a_Conv_Add, dI a_Conv_Den, dI a_Conv_Round]] [] = (Jo (qa.mk a_Id a_From a_To a_Begin a_End a_In a_Out (qd.mk a_Conv_Num a_Conv_Add a_Conv_Den a_Conv_Round))).bind (fun (e : Int × Int × Int × Int × Int × Int × Int × Int × Int × List ByteArray × List qh) => some (R.agg [dI e.1, dI e.2.1, dI e.2.2.1, dI e.2.2.2.1, dI e.2.2.2.2.1, dO 0 1 e.2.2.2.2.2.2.2.2.2.1.length, dO 1 2 e.2.2.2.2.2.2.2.2.2.2.length, dI e.2.2.2.2.2.1, dI e.2.2.2.2.2.2.1, dI e.2.2.2.2.2.2.2.1, dI e.2.2.2.2.2.2.2.2.1], [(0, bR 9 1 eS e.2.2.2.2.2.2.2.2.2.1), (1, bR 79 2 qe e.2.2.2.2.2.2.2.2.2.2)])) :=
  fun a_Id a_From a_To a_Begin a_End a_In a_Out a_Conv_Num a_Conv_Add a_Conv_Den a_Conv_Round => by
    rw [qu qrG qwn.2.2.2 qyM]
    have := qyx; have := @Jo.eq_1; exact gA
noncomputable def J0 (x0 : qa) (x1 : Z6 Int) : Option qa := Option.bind (Jo x0) fun (a : Prod Int (Prod Int (Prod Int (Prod Int (Prod Int (Prod Int (Prod Int (Prod Int (Prod Int (Prod (List ByteArray) (List qh))))))))))) => Option.bind (QA x1.a1 36) fun (a2 : Int) => Option.bind (QA x1.a0 13) fun (a3 : Int) => if (a3 == 0) = Bool.true then some (qa.mk (w64 (Int.tmod a2 4 - 1)) a.2.1 a.2.2.1 a.2.2.2.1 a.2.2.2.2.1 a.2.2.2.2.2.2.2.2.2.1 a.2.2.2.2.2.2.2.2.2.2 (qd.mk a.2.2.2.2.2.1 a.2.2.2.2.2.2.1 a.2.2.2.2.2.2.2.1 a.2.2.2.2.2.2.2.2.1)) else if (a3 == 1) = Bool.true then some (qa.mk a.1 (w64 (Int.tmod a2 11 - 1)) a.2.2.1 a.2.2.2.1 a.2.2.2.2.1 a.2.2.2.2.2.2.2.2.2.1 a.2.2.2.2.2.2.2.2.2.2 (qd.mk a.2.2.2.2.2.1 a.2.2.2.2.2.2.1 a.2.2.2.2.2.2.2.1 a.2.2.2.2.2.2.2.2.1)) else if (a3 == 2) = Bool.true then some (qa.mk a.1 a.2.1 (w64 (Int.tmod a2 11 - 1)) a.2.2.2.1 a.2.2.2.2.1 a.2.2.2.2.2.2.2.2.2.1 a.2.2.2.2.2.2.2.2.2.2 (qd.mk a.2.2.2.2.2.1 a.2.2.2.2.2.2.1 a.2.2.2.2.2.2.2.1 a.2.2.2.2.2.2.2.2.1)) else if (a3 == 3) = Bool.true then if 0 ≤ Int.tmod a2 4 ∧ Int.tmod a2 4 < 4 then Option.bind [(-1), 0, 100000, 100001][Int.toNat (Int.tmod a2 4)]? fun (a4 : Int) => some (qa.mk a.1 a.2.1 a.2.2.1 a4 a.2.2.2.2.1 a.2.2.2.2.2.2.2.2.2.1 a.2.2.2.2.2.2.2.2.2.2 (qd.mk a.2.2.2.2.2.1 a.2.2.2.2.2.2.1 a.2.2.2.2.2.2.2.1 a.2.2.2.2.2.2.2.2.1)) else none else if (a3 == 4) = Bool.true then if 0 ≤ Int.tmod a2 6 ∧ Int.tmod a2 6 < 6 then Option.bind [(-1), w64 (x0.Begin - 1), x0.Begin, 100000, 100001, 0][Int.toNat (Int.tmod a2 6)]? fun (a5 : Int) => some (qa.mk a.1 a.2.1 a.2.2.1 a.2.2.2.1 a5 a.2.2.2.2.2.2.2.2.2.1 a.2.2.2.2.2.2.2.2.2.2 (qd.mk a.2.2.2.2.2.1 a.2.2.2.2.2.2.1 a.2.2.2.2.2.2.2.1 a.2.2.2.2.2.2.2.2.1)) else none else if (a3 == 5) = Bool.true then if 0 ≤ Int.tmod a2 6 ∧ Int.tmod a2 6 < ((qs.length : Nat) : Int) then Option.bind qs[Int.toNat (Int.tmod a2 6)]? fun (a6 : ByteArray) => if a.2.2.2.2.2.2.2.2.2.1.length + 1 ≤ Go.maxLen ∧ (a.2.2.2.2.2.2.2.2.2.1.length + 1) * 16 ≤ 140737488355328 then some (qa.mk a.1 a.2.1 a.2.2.1 a.2.2.2.1 a.2.2.2.2.1 (a.2.2.2.2.2.2.2.2.2.1 ++ [a6]) a.2.2.2.2.2.2.2.2.2.2 (qd.mk a.2.2.2.2.2.1 a.2.2.2.2.2.2.1 a.2.2.2.2.2.2.2.1 a.2.2.2.2.2.2.2.2.1)) else none else none else if (a3 == 6) = Bool.true then if w64 (((a.2.2.2.2.2.2.2.2.2.1.length : Nat) : Int) + 1) = 0 then none else if 0 ≤ Int.tmod a2 (w64 (((a.2.2.2.2.2.2.2.2.2.1.length : Nat) : Int) + 1)) ∧ Int.tmod a2 (w64 (((a.2.2.2.2.2.2.2.2.2.1.length : Nat) : Int) + 1)) ≤ ((a.2.2.2.2.2.2.2.2.2.1.length : Nat) : Int) then some (qa.mk a.1 a.2.1 a.2.2.1 a.2.2.2.1 a.2.2.2.2.1 (List.take (Int.toNat (Int.tmod a2 (w64 (((a.2.2.2.2.2.2.2.2.2.1.length : Nat) : Int) + 1)))) a.2.2.2.2.2.2.2.2.2.1) a.2.2.2.2.2.2.2.2.2.2 (qd.mk a.2.2.2.2.2.1 a.2.2.2.2.2.2.1 a.2.2.2.2.2.2.2.1 a.2.2.2.2.2.2.2.2.1)) else none else if (a3 == 7) = Bool.true then if 0 ≤ Int.tmod a2 6 ∧ Int.tmod a2 6 < ((qs.length : Nat) : Int) then Option.bind qs[Int.toNat (Int.tmod a2 6)]? fun (a7 : ByteArray) => if a.2.2.2.2.2.2.2.2.2.2.length + 1 ≤ Go.maxLen ∧ (a.2.2.2.2.2.2.2.2.2.2.length + 1) * 24 ≤ 140737488355328 then some (qa.mk a.1 a.2.1 a.2.2.1 a.2.2.2.1 a.2.2.2.2.1 a.2.2.2.2.2.2.2.2.2.1 (a.2.2.2.2.2.2.2.2.2.2 ++ [qh.mk a7 a2]) (qd.mk a.2.2.2.2.2.1 a.2.2.2.2.2.2.1 a.2.2.2.2.2.2.2.1 a.2.2.2.2.2.2.2.2.1)) else none else none else if (a3 == 8) = Bool.true then if w64 (((a.2.2.2.2.2.2.2.2.2.2.length : Nat) : Int) + 1) = 0 then none else if 0 ≤ Int.tmod a2 (w64 (((a.2.2.2.2.2.2.2.2.2.2.length : Nat) : Int) + 1)) ∧ Int.tmod a2 (w64 (((a.2.2.2.2.2.2.2.2.2.2.length : Nat) : Int) + 1)) ≤ ((a.2.2.2.2.2.2.2.2.2.2.length : Nat) : Int) then some (qa.mk a.1 a.2.1 a.2.2.1 a.2.2.2.1 a.2.2.2.2.1 a.2.2.2.2.2.2.2.2.2.1 (List.take (Int.toNat (Int.tmod a2 (w64 (((a.2.2.2.2.2.2.2.2.2.2.length : Nat) : Int) + 1)))) a.2.2.2.2.2.2.2.2.2.2) (qd.mk a.2.2.2.2.2.1 a.2.2.2.2.2.2.1 a.2.2.2.2.2.2.2.1 a.2.2.2.2.2.2.2.2.1)) else none else if (a3 == 9) = Bool.true then if 0 < ((a.2.2.2.2.2.2.2.2.2.2.length : Nat) : Int) then if ((a.2.2.2.2.2.2.2.2.2.2.length : Nat) : Int) = 0 then none else if 0 ≤ Int.tmod a2 4 ∧ Int.tmod a2 4 < 4 then Option.bind [(0 : Int), 1, 60, 61][Int.toNat (Int.tmod a2 4)]? fun (a8 : Int) => if 0 ≤ Int.tmod a2 ((a.2.2.2.2.2.2.2.2.2.2.length : Nat) : Int) ∧ Int.tmod a2 ((a.2.2.2.2.2.2.2.2.2.2.length : Nat) : Int) < ((a.2.2.2.2.2.2.2.2.2.2.length : Nat) : Int) then if Int.toNat (Int.tmod a2 ((a.2.2.2.2.2.2.2.2.2.2.length : Nat) : Int)) * 2 + 1 + 1 ≤ a.2.2.2.2.2.2.2.2.2.2.length * 2 then some (qa.mk a.1 a.2.1 a.2.2.1 a.2.2.2.1 a.2.2.2.2.1 a.2.2.2.2.2.2.2.2.2.1 (List.modify a.2.2.2.2.2.2.2.2.2.2 (Int.toNat (Int.tmod a2 ((a.2.2.2.2.2.2.2.2.2.2.length : Nat) : Int))) (fun (x : qh) => qh.mk x.Code a8)) (qd.mk a.2.2.2.2.2.1 a.2.2.2.2.2.2.1 a.2.2.2.2.2.2.2.1 a.2.2.2.2.2.2.2.2.1)) else none else none else none else some (qa.mk a.1 a.2.1 a.2.2.1 a.2.2.2.1 a.2.2.2.2.1 a.2.2.2.2.2.2.2.2.2.1 a.2.2.2.2.2.2.2.2.2.2 (qd.mk a.2.2.2.2.2.1 a.2.2.2.2.2.2.1 a.2.2.2.2.2.2.2.1 a.2.2.2.2.2.2.2.2.1)) else if (a3 == 10) = Bool.true then if 0 ≤ Int.tmod a2 4 ∧ Int.tmod a2 4 < 4 then Option.bind [(0 : Int), 1, 1000, 1001][Int.toNat (Int.tmod a2 4)]? fun (a9 : Int) => some (qa.mk a.1 a.2.1 a.2.2.1 a.2.2.2.1 a.2.2.2.2.1 a.2.2.2.2.2.2.2.2.2.1 a.2.2.2.2.2.2.2.2.2.2 (qd.mk a.2.2.2.2.2.1 a.2.2.2.2.2.2.1 a9 a.2.2.2.2.2.2.2.2.1)) else none else if (a3 == 11) = Bool.true then some (qa.mk a.1 a.2.1 a.2.2.1 a.2.2.2.1 a.2.2.2.2.1 a.2.2.2.2.2.2.2.2.2.1 a.2.2.2.2.2.2.2.2.2.2 (qd.mk a.2.2.2.2.2.1 a.2.2.2.2.2.2.1 a.2.2.2.2.2.2.2.1 (Int.tmod a2 6))) else if (a3 == 12) = Bool.true then if 0 < ((a.2.2.2.2.2.2.2.2.2.1.length : Nat) : Int) then if 0 ≤ Int.tmod a2 5 ∧ Int.tmod a2 5 < 5 then Option.bind [ByteArray.mk (List.toArray []), ByteArray.mk (List.toArray [97]), ByteArray.mk (List.toArray [65, 49]), ByteArray.mk (List.toArray [90]), ByteArray.mk (List.toArray [65, 66, 67, 68, 69, 70, 71, 72, 73])][Int.toNat (Int.tmod a2 5)]? fun (a10 : ByteArray) => if 0 < ((a.2.2.2.2.2.2.2.2.2.1.length : Nat) : Int) then if 1 ≤ a.2.2.2.2.2.2.2.2.2.1.length then some (qa.mk a.1 a.2.1 a.2.2.1 a.2.2.2.1 a.2.2.2.2.1 (List.set a.2.2.2.2.2.2.2.2.2.1 0 a10) a.2.2.2.2.2.2.2.2.2.2 (qd.mk a.2.2.2.2.2.1 a.2.2.2.2.2.2.1 a.2.2.2.2.2.2.2.1 a.2.2.2.2.2.2.2.2.1)) else none else none else none else some (qa.mk a.1 a.2.1 a.2.2.1 a.2.2.2.1 a.2.2.2.2.1 a.2.2.2.2.2.2.2.2.2.1 a.2.2.2.2.2.2.2.2.2.2 (qd.mk a.2.2.2.2.2.1 a.2.2.2.2.2.2.1 a.2.2.2.2.2.2.2.1 a.2.2.2.2.2.2.2.2.1)) else some (qa.mk a.1 a.2.1 a.2.2.1 a.2.2.2.1 a.2.2.2.2.1 a.2.2.2.2.2.2.2.2.2.1 a.2.2.2.2.2.2.2.2.2.2 (qd.mk a.2.2.2.2.2.1 a.2.2.2.2.2.2.1 a.2.2.2.2.2.2.2.1 a.2.2.2.2.2.2.2.2.1))
theorem q2i : ∀ (x0_Id x0_From x0_To x0_Begin x0_End : Int) (x0_In : List ByteArray) (x0_Out : List qh) (x0_Conv_Num x0_Conv_Add x0_Conv_Den x0_Conv_Round x1_0 x1_1 : Int), ev 9 0 [R.agg [dI x0_Id, dI x0_From, dI x0_To, dI x0_Begin, dI x0_End, dL 1 eS x0_In, dL 2 qe x0_Out, dI x0_Conv_Num, dI x0_Conv_Add, dI x0_Conv_Den, dI x0_Conv_Round], R.agg [dI x1_0, dI x1_1]] [] = (J0 (qa.mk x0_Id x0_From x0_To x0_Begin x0_End x0_In x0_Out (qd.mk x0_Conv_Num x0_Conv_Add x0_Conv_Den x0_Conv_Round)) (Z6.mk x1_0 x1_1)).bind (fun (e : qa) => some (R.agg [dI e.Id, dI e.From, dI e.To, dI e.Begin, dI e.End, dL 1 eS e.In, dL 2 qe e.Out, dI e.Conv.Num, dI e.Conv.Add, dI e.Conv.Den, dI e.Conv.Round], [])) :=
  fun x0_Id x0_From x0_To x0_Begin x0_End x0_In x0_Out x0_Conv_Num x0_Conv_Add x0_Conv_Den x0_Conv_Round x1_0 x1_1 => by
    rw [qu bd9 pw9.2.2.2 lo9]
    have := cx9; have := @q5S; have := @Jf; have := @Z2; have := @J0.eq_1; exact gA
theorem qwV : okL 14 q8J := qw (qg qqt) (by kernel_rfl) (by kernel_rfl)
def qwO := JA_ @q8J.eq_1 (JA_ @Tryz.f14.eq_1 @qqt)
theorem qoi : lbO 14 5 = qdZ := zo (qg qqt) rfl
theorem qmX : okL 14 qdZ := qH qwV (List.mem_of_getElem? (i := 0) (by kernel_rfl))
noncomputable def zL (b0 : qa) (t7 : List Int) : (List qb × qj × Int) → Option ((List qb × qj × Int) ⊕ (List qb)) | (w2, b1, t8) => if t8 < ((b0.In.length : Nat) : Int) then if 0 ≤ t8 ∧ t8 < ((b0.In.length : Nat) : Int) then Option.bind b0.In[Int.toNat t8]? fun (a : ByteArray) => Option.bind (qo 3 b1) fun (a2 : Prod Int qj) => if 0 ≤ a2.1 ∧ a2.1 < 3 then Option.bind [(5 : Int), 6, 10][Int.toNat a2.1]? fun (a3 : Int) => Option.bind (qo 21 a2.2) fun (a4 : Prod Int qj) => Option.bind (qo 600 a4.2) fun (a5 : Prod Int qj) => if (b0.From == 2) = Bool.true then Option.bind (qo 3 a5.2) fun (a6 : Prod Int qj) => if (a6.1 == 0) = Bool.true then if 2 ≤ Go.maxLen then if t7.length ≤ Go.maxLen ∧ t7.length * 8 ≤ 140737488355328 then if w2.length + 1 ≤ Go.maxLen ∧ (w2.length + 1) * 104 ≤ 140737488355328 then some (Sum.inl (w2 ++ [qb.mk (qt.mk b0.From a) a3 (w64 (1 + Int.tmod (w64 (Int.tdiv (w64 (5 * a4.1)) 5)) 5)) a5.1 [w64 (w64 (w64 (1000000 * b0.From) + 1) + t8), w64 (8000001 + w64 (10 * t8))] 0 t7], a6.2, w64 (t8 + 1))) else none else none else none else if t7.length ≤ Go.maxLen ∧ t7.length * 8 ≤ 140737488355328 then if w2.length + 1 ≤ Go.maxLen ∧ (w2.length + 1) * 104 ≤ 140737488355328 then some (Sum.inl (w2 ++ [qb.mk (qt.mk b0.From a) a3 (w64 (1 + Int.tmod (w64 (Int.tdiv (w64 (5 * a4.1)) 5)) 5)) a5.1 [w64 (w64 (w64 (1000000 * b0.From) + 1) + t8)] 0 t7], a6.2, w64 (t8 + 1))) else none else none else if (b0.From == 3) = Bool.true then Option.bind (qo 3 a5.2) fun (a7 : Prod Int qj) => if (a7.1 == 0) = Bool.true then if 2 ≤ Go.maxLen then if t7.length ≤ Go.maxLen ∧ t7.length * 8 ≤ 140737488355328 then if w2.length + 1 ≤ Go.maxLen ∧ (w2.length + 1) * 104 ≤ 140737488355328 then some (Sum.inl (w2 ++ [qb.mk (qt.mk b0.From a) a3 (w64 (Int.tdiv (w64 (5 * a4.1)) 5)) a5.1 [w64 (w64 (w64 (1000000 * b0.From) + 1) + t8), w64 (8000001 + w64 (10 * t8))] 0 t7], a7.2, w64 (t8 + 1))) else none else none else none else if t7.length ≤ Go.maxLen ∧ t7.length * 8 ≤ 140737488355328 then if w2.length + 1 ≤ Go.maxLen ∧ (w2.length + 1) * 104 ≤ 140737488355328 then some (Sum.inl (w2 ++ [qb.mk (qt.mk b0.From a) a3 (w64 (Int.tdiv (w64 (5 * a4.1)) 5)) a5.1 [w64 (w64 (w64 (1000000 * b0.From) + 1) + t8)] 0 t7], a7.2, w64 (t8 + 1))) else none else none else Option.bind (qo 3 a5.2) fun (a8 : Prod Int qj) => if (a8.1 == 0) = Bool.true then if 2 ≤ Go.maxLen then if t7.length ≤ Go.maxLen ∧ t7.length * 8 ≤ 140737488355328 then if w2.length + 1 ≤ Go.maxLen ∧ (w2.length + 1) * 104 ≤ 140737488355328 then some (Sum.inl (w2 ++ [qb.mk (qt.mk b0.From a) a3 (w64 (5 * a4.1)) a5.1 [w64 (w64 (w64 (1000000 * b0.From) + 1) + t8), w64 (8000001 + w64 (10 * t8))] 0 t7], a8.2, w64 (t8 + 1))) else none else none else none else if t7.length ≤ Go.maxLen ∧ t7.length * 8 ≤ 140737488355328 then if w2.length + 1 ≤ Go.maxLen ∧ (w2.length + 1) * 104 ≤ 140737488355328 then some (Sum.inl (w2 ++ [qb.mk (qt.mk b0.From a) a3 (w64 (5 * a4.1)) a5.1 [w64 (w64 (w64 (1000000 * b0.From) + 1) + t8)] 0 t7], a8.2, w64 (t8 + 1))) else none else none else none else none else some (Sum.inr w2)
theorem q2C : ∀ (w2 : List qb) (b0_Id b0_From b0_To b0_Begin b0_End : Int) (b0_In : List ByteArray) (b0_Out : List qh) (b0_Conv_Num b0_Conv_Add b0_Conv_Den b0_Conv_Round : Int) (b1_L : List Int) (b1_At : Int) (t7 : List Int) (t8 : Int) (w2_len : Nat), w2_len = w2.length → XL2 evo 14 0 5 ⟨[(2, rP 0), (5, rP 1), (6, rO 2 8 w2_len), (7, rL 1 eI t7), (8, rI t8)], [(0, B.blk 30 [dI b0_Id, dI b0_From, dI b0_To, dI b0_Begin, dI b0_End, dL 1 eS b0_In, dL 2 qe b0_Out, dI b0_Conv_Num, dI b0_Conv_Add, dI b0_Conv_Den, dI b0_Conv_Round]), (1, B.blk 70 [dL 1 eI b1_L, dI b1_At]), (2, bR 53 8 qc w2)], 3, 89⟩ = (qA (zL (qa.mk b0_Id b0_From b0_To b0_Begin b0_End b0_In b0_Out (qd.mk b0_Conv_Num b0_Conv_Add b0_Conv_Den b0_Conv_Round)) t7) (w2, (qj.mk b1_L b1_At), t8)).bind (fun (e : List qb) => some (Go.Exit.exit 0, ⟨[(6, rO 0 8 e.length)], [(0, bR 53 8 qc e)], 1, 89⟩)) :=
  by
  intro w2 b0_Id b0_From b0_To b0_Begin b0_End b0_In b0_Out b0_Conv_Num b0_Conv_Add b0_Conv_Den b0_Conv_Round b1_L b1_At t7 t8 w2_len h0
  subst h0
  have h := q7D (E := evo) (f := 14) (k := 0) (st := fun x : List qb × qj × Int => (⟨[(2, rP 0), (5, rP 1), (6, rO 2 8 x.1.length), (7, rL 1 eI t7), (8, rI x.2.2)], [(0, B.blk 30 [dI b0_Id, dI b0_From, dI b0_To, dI b0_Begin, dI b0_End, dL 1 eS b0_In, dL 2 qe b0_Out, dI b0_Conv_Num, dI b0_Conv_Add, dI b0_Conv_Den, dI b0_Conv_Round]), (1, B.blk 70 [dL 1 eI x.2.1.L, dI x.2.1.At]), (2, bR 53 8 qc x.1)], 3, 89⟩ : S)) (ex := fun (e : List qb) => (Go.Exit.exit 0, ⟨[(6, rO 0 8 e.length)], [(0, bR 53 8 qc e)], 1, 89⟩)) (step := (zL (qa.mk b0_Id b0_From b0_To b0_Begin b0_End b0_In b0_Out (qd.mk b0_Conv_Num b0_Conv_Add b0_Conv_Den b0_Conv_Round)) t7)) qoi qmX (fun e h => by cases h) (fun x => by
    obtain ⟨w2, b1, t8⟩ := x; have := qwO; have := @qdZ.eq_1; have := @zD; have := @zL.eq_1; exact gA) (w2, (qj.mk b1_L b1_At), t8)
  exact h
theorem q1a : ∀  (b0_Id b0_From b0_To b0_Begin b0_End : Int) (b0_In : List ByteArray) (b0_Out : List qh) (b0_Conv_Num b0_Conv_Add b0_Conv_Den b0_Conv_Round : Int) (b1_L : List Int) (b1_At : Int) (t7 : List Int) (t8 : Int), XL2 evo 14 0 5 ⟨[(2, rP 0), (5, rP 1), (6, rO 2 8 0), (7, rL 1 eI t7), (8, rI t8)], [(0, B.blk 30 [dI b0_Id, dI b0_From, dI b0_To, dI b0_Begin, dI b0_End, dL 1 eS b0_In, dL 2 qe b0_Out, dI b0_Conv_Num, dI b0_Conv_Add, dI b0_Conv_Den, dI b0_Conv_Round]), (1, B.blk 70 [dL 1 eI b1_L, dI b1_At]), (2, B.row 53 8 [])], 3, 89⟩ = (qA (zL (qa.mk b0_Id b0_From b0_To b0_Begin b0_End b0_In b0_Out (qd.mk b0_Conv_Num b0_Conv_Add b0_Conv_Den b0_Conv_Round)) t7) ([], (qj.mk b1_L b1_At), t8)).bind (fun (e : List qb) => some (Go.Exit.exit 0, ⟨[(6, rO 0 8 e.length)], [(0, bR 53 8 qc e)], 1, 89⟩)) := by
  intro b0_Id b0_From b0_To b0_Begin b0_End b0_In b0_Out b0_Conv_Num b0_Conv_Add b0_Conv_Den b0_Conv_Round b1_L b1_At t7 t8; have h := q2C [] ((qa.mk b0_Id b0_From b0_To b0_Begin b0_End b0_In b0_Out (qd.mk b0_Conv_Num b0_Conv_Add b0_Conv_Den b0_Conv_Round))).Id ((qa.mk b0_Id b0_From b0_To b0_Begin b0_End b0_In b0_Out (qd.mk b0_Conv_Num b0_Conv_Add b0_Conv_Den b0_Conv_Round))).From ((qa.mk b0_Id b0_From b0_To b0_Begin b0_End b0_In b0_Out (qd.mk b0_Conv_Num b0_Conv_Add b0_Conv_Den b0_Conv_Round))).To ((qa.mk b0_Id b0_From b0_To b0_Begin b0_End b0_In b0_Out (qd.mk b0_Conv_Num b0_Conv_Add b0_Conv_Den b0_Conv_Round))).Begin ((qa.mk b0_Id b0_From b0_To b0_Begin b0_End b0_In b0_Out (qd.mk b0_Conv_Num b0_Conv_Add b0_Conv_Den b0_Conv_Round))).End ((qa.mk b0_Id b0_From b0_To b0_Begin b0_End b0_In b0_Out (qd.mk b0_Conv_Num b0_Conv_Add b0_Conv_Den b0_Conv_Round))).In ((qa.mk b0_Id b0_From b0_To b0_Begin b0_End b0_In b0_Out (qd.mk b0_Conv_Num b0_Conv_Add b0_Conv_Den b0_Conv_Round))).Out ((qa.mk b0_Id b0_From b0_To b0_Begin b0_End b0_In b0_Out (qd.mk b0_Conv_Num b0_Conv_Add b0_Conv_Den b0_Conv_Round))).Conv.Num ((qa.mk b0_Id b0_From b0_To b0_Begin b0_End b0_In b0_Out (qd.mk b0_Conv_Num b0_Conv_Add b0_Conv_Den b0_Conv_Round))).Conv.Add ((qa.mk b0_Id b0_From b0_To b0_Begin b0_End b0_In b0_Out (qd.mk b0_Conv_Num b0_Conv_Add b0_Conv_Den b0_Conv_Round))).Conv.Den ((qa.mk b0_Id b0_From b0_To b0_Begin b0_End b0_In b0_Out (qd.mk b0_Conv_Num b0_Conv_Add b0_Conv_Den b0_Conv_Round))).Conv.Round ((qj.mk b1_L b1_At)).L ((qj.mk b1_L b1_At)).At t7 t8 _ rfl
  first
    | exact h
    | (simp only [rL, dL, bR, bZ, Nat.reduceAdd] at h; exact h)
noncomputable def ZJ (x0 : qa) (x1 : List Int) : Option (List qb) := Option.bind (qo 3 (qj.mk x1 0)) fun (a : Prod Int qj) => if 0 ≤ a.1 ∧ a.1 < 3 then Option.bind [[], [(20 : Int)], [(20 : Int), 31]][Int.toNat a.1]? fun (a2 : List Int) => Option.bind (qA (zL x0 a2) ([], (a.2, 0))) fun (a3 : List qb) => some a3 else none
theorem q4N : ∀ (x0_Id x0_From x0_To x0_Begin x0_End : Int) (x0_In : List ByteArray) (x0_Out : List qh) (x0_Conv_Num x0_Conv_Add x0_Conv_Den x0_Conv_Round : Int) (x1 : List Int), ev 14 0 [R.agg [dI x0_Id, dI x0_From, dI x0_To, dI x0_Begin, dI x0_End, dL 1 eS x0_In, dL 2 qe x0_Out, dI x0_Conv_Num, dI x0_Conv_Add, dI x0_Conv_Den, dI x0_Conv_Round], rL 1 eI x1] [] = (ZJ (qa.mk x0_Id x0_From x0_To x0_Begin x0_End x0_In x0_Out (qd.mk x0_Conv_Num x0_Conv_Add x0_Conv_Den x0_Conv_Round)) x1).bind (fun (e : List qb) => some (rL 8 qc e, [])) :=
  fun x0_Id x0_From x0_To x0_Begin x0_End x0_In x0_Out x0_Conv_Num x0_Conv_Add x0_Conv_Den x0_Conv_Round x1 => by
    rw [qu qqt qww.2.2.2 qwV]
    have := qwO; have := @zD; have := @q1a; have := @ZJ.eq_1; exact gA
theorem qxp : okL 17 qbk := qw (qg qrS) (by kernel_rfl) (by kernel_rfl)
def qxb := JA_ @qbk.eq_1 (JA_ @Tryz.f17.eq_1 @qrS)
noncomputable def q1K (school : Int) : Option qf := if (school == 2) = Bool.true then some (qf.mk 5 1 3) else if (school == 3) = Bool.true then some (qf.mk 0 20 10) else some (qf.mk 0 100 50)
noncomputable def Zc (school : Int) : qf := if (school == 2) = Bool.true then qf.mk 5 1 3 else if (school == 3) = Bool.true then qf.mk 0 20 10 else qf.mk 0 100 50
theorem q6j (school : Int) : q1K school = some (Zc school) := by
  unfold q1K Zc
  simp only [za]
theorem q72 : ∀ (school : Int), ev 17 0 [rI school] [] = some (R.agg [dI (Zc school).Worst, dI (Zc school).Best, dI (Zc school).Pass], []) :=
  fun school => by
    have h : ev 17 0 [rI school] [] = (q1K school).bind (fun (e : qf) => some (R.agg [dI e.Worst, dI e.Best, dI e.Pass], [])) := by
      rw [qu qrS qwD.2.2.2 qxp]
      have := qxb; have := @q1K.eq_1; exact gA
    rw [q6j] at h
    exact h
theorem qzb : okL 16 qaN := qw (qg qrx) (by kernel_rfl) (by kernel_rfl)
def qyu := JA_ @qaN.eq_1 (JA_ @Tryz.f16.eq_1 @qrx)
theorem qxd : okL 50 qbb := qw (qg qrH) (by kernel_rfl) (by kernel_rfl)
def qy3 := JA_ @qbb.eq_1 (JA_ @Tryz.f50.eq_1 @qrH)
theorem qvg : okL 18 q91 := qw (qg qog) (by kernel_rfl) (by kernel_rfl)
def qvL := JA_ @q91.eq_1 (JA_ @Tryz.f18.eq_1 @qog)
theorem qlm : lbO 18 13 = q9N := zo (qg qog) rfl
theorem qlq : okL 18 q9N := qH qvg (List.mem_of_getElem? (i := 0) (by kernel_rfl))
theorem qvt : okL 21 q8D := qw (qg qp6) (by kernel_rfl) (by kernel_rfl)
def qwE := JA_ @q8D.eq_1 (JA_ @Tryz.f21.eq_1 @qp6)
theorem qoh : lbO 21 4 = qem := zo (qg qp6) rfl
theorem qn5 : okL 21 qem := qH qvt (List.mem_of_getElem? (i := 0) (by kernel_rfl))
theorem qti : okL 10 q6z := qw (qg qm1) (by kernel_rfl) (by kernel_rfl)
def qtP := JA_ @q6z.eq_1 (JA_ @Tryz.f10.eq_1 @qm1)
theorem qkW : lbO 10 12 = q9r := zo (qg qm1) rfl
theorem qk9 : okL 10 q9r := qH qti (List.mem_of_getElem? (i := 0) (by kernel_rfl))
theorem qjP : lbO 10 15 = q9b := zo (qg qm1) rfl
theorem qjG : okL 10 q9b := qH qti (List.mem_of_getElem? (i := 1) (by kernel_rfl))
theorem qx3 : okL 33 qa9 := qw (qg qrZ) (by kernel_rfl) (by kernel_rfl)
def qxa := JA_ @qa9.eq_1 (JA_ @Tryz.f33.eq_1 @qrZ)
noncomputable def J7 (n : Int) (low : Int) (high : Int) : Option Bool := if n < low then some Bool.true else some (decide (high < n))
noncomputable def qC (n : Int) (low : Int) (high : Int) : Bool := if n < low then Bool.true else decide (high < n)
theorem q2X (n low high : Int) : J7 n low high = some (qC n low high) := by
  unfold J7 qC
  simp only [za]
theorem q0C : ∀ (n low high : Int), ev 33 0 [rI n, rI low, rI high] [] = some (rB (qC n low high), []) :=
  fun n low high => by
    have h : ev 33 0 [rI n, rI low, rI high] [] = (J7 n low high).bind (fun (e : Bool) => some (rB e, [])) := by
      rw [qu qrZ qx0.2.2.2 qx3]
      have := qxa; have := @J7.eq_1; exact gA
    rw [q2X] at h
    exact h
theorem qzn : okL 34 qaF := qw (qg qrX) (by kernel_rfl) (by kernel_rfl)
def qzz := JA_ @qaF.eq_1 (JA_ @Tryz.f34.eq_1 @qrX)
noncomputable def q0c (day : Int) : Option Bool := if 0 ≤ day then some (decide (day ≤ 100000)) else some Bool.false
noncomputable def Qk (day : Int) : Bool := if 0 ≤ day then decide (day ≤ 100000) else Bool.false
theorem q4M (day : Int) : q0c day = some (Qk day) := by
  unfold q0c Qk
  simp only [za]
theorem q5Q : ∀ (day : Int), ev 34 0 [rI day] [] = some (rB (Qk day), []) :=
  fun day => by
    have h : ev 34 0 [rI day] [] = (q0c day).bind (fun (e : Bool) => some (rB e, [])) := by
      rw [qu qrX quX.2.2.2 qzn]
      have := qzz; have := @q0c.eq_1; exact gA
    rw [q4M] at h
    exact h
theorem qwH : okL 35 q89 := qw (qg qpK) (by kernel_rfl) (by kernel_rfl)
def qve := JA_ @q89.eq_1 (JA_ @Tryz.f35.eq_1 @qpK)
theorem qov : lbO 35 3 = qcY := zo (qg qpK) rfl
theorem qpL : okL 35 qcY := qH qwH (List.mem_of_getElem? (i := 0) (by kernel_rfl))
noncomputable def Q8 (t6 : List qh) (t7 : Int) : (List ByteArray × Int) → Option ((List ByteArray × Int) ⊕ (List ByteArray)) | (out, t8) => if t8 < t7 then if 0 ≤ t8 ∧ t8 < ((t6.length : Nat) : Int) then Option.bind t6[Int.toNat t8]? fun (a : qh) => if out.length + 1 ≤ Go.maxLen ∧ (out.length + 1) * 16 ≤ 140737488355328 then some (Sum.inl (out ++ [a.Code], w64 (t8 + 1))) else none else none else some (Sum.inr out)
theorem q2v : ∀ (out : List ByteArray) (t6 : List qh) (t7 t8 : Int) (zr : Nat), zr = out.length → XL2 evo 35 0 3 ⟨[(3, rO 0 1 zr), (6, rL 2 qe t6), (7, rI t7), (8, rI t8)], [(0, bR 9 1 eS out)], 1, 19⟩ = (qA (Q8 t6 t7) (out, t8)).bind (fun (e : List ByteArray) => some (Go.Exit.exit 0, ⟨[(3, rO 0 1 e.length)], [(0, bR 9 1 eS e)], 1, 19⟩)) :=
  by
  intro out t6 t7 t8 zr h0
  subst h0
  revert t8; revert out; exact q7B qov qpL (fun e => by exact ⟨_, rfl, fun h => by cases h⟩) fun out t8 => by
    have := qve; have := @qcY.eq_1; have := @Q8.eq_1; exact gA
theorem q15 : ∀  (t6 : List qh) (t7 t8 : Int), XL2 evo 35 0 3 ⟨[(3, rO 0 1 0), (6, rL 2 qe t6), (7, rI t7), (8, rI t8)], [(0, B.row 9 1 [])], 1, 19⟩ = (qA (Q8 t6 t7) ([], t8)).bind (fun (e : List ByteArray) => some (Go.Exit.exit 0, ⟨[(3, rO 0 1 e.length)], [(0, bR 9 1 eS e)], 1, 19⟩)) := by
  intro t6 t7 t8; have h := q2v [] t6 t7 t8 _ rfl
  first
    | exact h
    | (simp only [rL, dL, bR, bZ, Nat.reduceAdd] at h; exact h)
noncomputable def QQ (l : List qh) : Option (List ByteArray) := Option.bind (qA (Q8 l ((l.length : Nat) : Int)) ([], 0)) fun (a : List ByteArray) => some a
theorem q4R : ∀ (l : List qh), ev 35 0 [rL 2 qe l] [] = (QQ l).bind (fun (e : List ByteArray) => some (rL 1 eS e, [])) :=
  fun l => by
    rw [qu qpK qw4.2.2.2 qwH]
    have := qve; have := @q15; have := @QQ.eq_1; exact gA
theorem qx6 : okL 36 qaQ := qw (qg qrN) (by kernel_rfl) (by kernel_rfl)
def qz3 := JA_ @qaQ.eq_1 (JA_ @Tryz.f36.eq_1 @qrN)
theorem qzD : okL 80 qaC := qw (qg qrM) (by kernel_rfl) (by kernel_rfl)
def qxk := JA_ @qaC.eq_1 (JA_ @Tryz.f80.eq_1 @qrM)
theorem qqV : okL 107 q5f := qw (qg qcI) (by kernel_rfl) (by kernel_rfl)
def qpu := JA_ @q5f.eq_1 (JA_ @Tryz.f107.eq_1 @qcI)
theorem qkT : lbO 107 2 = q93 := zo (qg qcI) rfl
theorem qk5 : okL 107 q93 := qH qqV (List.mem_of_getElem? (i := 0) (by kernel_rfl))
theorem qzH : okL 79 qbo := qw (qg qsm) (by kernel_rfl) (by kernel_rfl)
def qA6 := JA_ @qbo.eq_1 (JA_ @Tryz.f79.eq_1 @qsm)
noncomputable def ZT (c : Int) : Option Bool := if c < 65 then if c < 48 then some Bool.true else some (decide (57 < c)) else if 90 < c then if c < 48 then some Bool.true else some (decide (57 < c)) else some Bool.false
noncomputable def Qn (c : Int) : Bool := if c < 65 then if c < 48 then Bool.true else decide (57 < c) else if 90 < c then if c < 48 then Bool.true else decide (57 < c) else Bool.false
theorem q2H (c : Int) : ZT c = some (Qn c) := by
  unfold ZT Qn
  simp only [za]
theorem q2Q : ∀ (c : Int), ev 79 0 [R.c (C.d (D.int .i32 c))] [] = some (rB (Qn c), []) :=
  fun c => by
    have h : ev 79 0 [R.c (C.d (D.int .i32 c))] [] = (ZT c).bind (fun (e : Bool) => some (rB e, [])) := by
      rw [qu qsm qvV.2.2.2 qzH]
      have := qA6; have := @ZT.eq_1; exact gA
    rw [q2H] at h
    exact h
noncomputable def qW (it0_s : ByteArray) (truth : Bool) : Nat → Option (Nat ⊕ (Int ⊕ Unit)) | it0_p => if it0_p < ByteArray.size it0_s then if (Qn (((@Go.Utf8.decode it0_s it0_p).1 : Nat) : Int) == truth) = Bool.true then some (Sum.inr (Sum.inl ((it0_p : Nat) : Int))) else some (Sum.inl (it0_p + (@Go.Utf8.decode it0_s it0_p).2)) else some (Sum.inr (Sum.inr ()))
theorem q0o : ∀ (it0_s : ByteArray) (it0_p : Nat) (truth : Bool), XL2 evo 107 0 2 ⟨[(1, R.c (C.fn 79 [] [])), (2, rB truth), (10, R.c (C.hd .iter 0))], [(0, B.ob (AO.si it0_s it0_p))], 1, 21⟩ = (qA (qW it0_s truth) it0_p).bind (Sum.elim (fun (e : Int) => some (Go.Exit.ret, ⟨[(6, rI e)], [], 0, 21⟩)) (fun (e : Unit) => some (Go.Exit.exit 0, ⟨[(6, R.any)], [], 0, 21⟩))) :=
  fun it0_s it0_p truth => by
    revert it0_p; exact q4j qkT qk5 (fun e => by rcases e with _ | _ <;> exact ⟨_, rfl, fun h => by cases h⟩) fun x => by
      have := qpu; have := @q93.eq_1; have := @q2Q; have := @qW.eq_1; exact gA
noncomputable def QV (s : ByteArray) (truth : Bool) : Option Int := Option.bind (qA (qW s truth) 0) fun (a : Sum Int Unit) => Sum.elim (fun (a2 : Int) => some a2) (fun (a3 : Unit) => some (-1)) a
theorem q1c : ∀ (s : ByteArray) (truth : Bool), ev 107 0 [rS s, R.c (C.fn 79 [] []), rB truth] [] = (QV s truth).bind (fun (e : Int) => some (rI e, [])) :=
  fun s truth => by
    rw [qu qcI qmS.2.2.2 qqV]
    have := qpu; have := @q0o; have := @QV.eq_1; exact gA
noncomputable def QR (s : ByteArray) : Option Int := Option.bind (QV s Bool.true) fun (e0 : Int) => some e0
theorem q19 : ∀ (s : ByteArray), ev 80 0 [rS s, R.c (C.fn 79 [] [])] [] = (QR s).bind (fun (e : Int) => some (rI e, [])) :=
  fun s => by
    rw [qu qrM qvF.2.2.2 qzD]
    have := qxk; have := @q1c; have := @QR.eq_1; exact gA
noncomputable def ZK (s : ByteArray) : Option Bool := if (!(ByteArray.toList s == ByteArray.toList (ByteArray.mk (List.toArray [])))) = Bool.true then if ((ByteArray.size s : Nat) : Int) ≤ 8 then Option.bind (QR s) fun (a : Int) => some (decide (a < 0)) else some Bool.false else some Bool.false
theorem q4O : ∀ (s : ByteArray), ev 36 0 [rS s] [] = (ZK s).bind (fun (e : Bool) => some (rB e, [])) :=
  fun s => by
    rw [qu qrN qwf.2.2.2 qx6]
    have := qz3; have := @q19; have := @ZK.eq_1; exact gA
noncomputable def zZ (w1 : List (List ByteArray)) (b0 : qa) (t4 : List ByteArray) (t53 : Int) (t54 : Int) (t58 : List ByteArray) (t59 : Int) : Int → Option (Int ⊕ (Int ⊕ Unit)) | t60 => if t60 < t59 then if 0 ≤ t60 ∧ t60 < ((t58.length : Nat) : Int) then Option.bind t58[Int.toNat t60]? fun (a : ByteArray) => Option.bind (ZK a) fun (a2 : Bool) => if (!a2) = Bool.true then some (Sum.inr (Sum.inl 12)) else if 0 < t60 then if 0 ≤ w64 (t60 - 1) ∧ w64 (t60 - 1) < ((t4.length : Nat) : Int) then Option.bind t4[Int.toNat (w64 (t60 - 1))]? fun (a3 : ByteArray) => if (!(Go.Op.bytesLess (ByteArray.toList a3) (ByteArray.toList a))) = Bool.true then some (Sum.inr (Sum.inl 7)) else some (Sum.inl (w64 (t60 + 1))) else none else some (Sum.inl (w64 (t60 + 1))) else none else some (Sum.inr (Sum.inr ()))
theorem q2d : ∀ (w1 : List (List ByteArray)) (b0_Id b0_From b0_To b0_Begin b0_End : Int) (b0_In : List ByteArray) (b0_Out : List qh) (b0_Conv_Num b0_Conv_Add b0_Conv_Den b0_Conv_Round : Int) (t4 : List ByteArray) (t53 t54 : Int) (t58 : List ByteArray) (t59 t60 : Int) (w1_len : Nat), w1_len = w1.length → XL2 evo 10 0 15 ⟨[(1, rP 0), (4, rL 1 eS t4), (52, rO 1 1 w1_len), (53, rI t53), (54, rI t54), (58, rL 1 eS t58), (59, rI t59), (60, rI t60)], [(0, B.blk 30 [dI b0_Id, dI b0_From, dI b0_To, dI b0_Begin, dI b0_End, dL 1 eS b0_In, dL 2 qe b0_Out, dI b0_Conv_Num, dI b0_Conv_Add, dI b0_Conv_Den, dI b0_Conv_Round]), (1, bR 25 1 (eL 1 eS) w1)], 2, 100⟩ = (qA (zZ w1 (qa.mk b0_Id b0_From b0_To b0_Begin b0_End b0_In b0_Out (qd.mk b0_Conv_Num b0_Conv_Add b0_Conv_Den b0_Conv_Round)) t4 t53 t54 t58 t59) t60).bind (Sum.elim (fun (e : Int) => some (Go.Exit.ret, ⟨[(1, rP 0), (2, rI e), (52, rO 1 1 w1.length), (53, rI t53), (54, rI t54)], [(0, B.blk 30 [dI b0_Id, dI b0_From, dI b0_To, dI b0_Begin, dI b0_End, dL 1 eS b0_In, dL 2 qe b0_Out, dI b0_Conv_Num, dI b0_Conv_Add, dI b0_Conv_Den, dI b0_Conv_Round]), (1, bR 25 1 (eL 1 eS) w1)], 2, 100⟩)) (fun (e : Unit) => some (Go.Exit.exit 3, ⟨[(1, rP 0), (2, R.any), (52, rO 1 1 w1.length), (53, rI t53), (54, rI t54)], [(0, B.blk 30 [dI b0_Id, dI b0_From, dI b0_To, dI b0_Begin, dI b0_End, dL 1 eS b0_In, dL 2 qe b0_Out, dI b0_Conv_Num, dI b0_Conv_Add, dI b0_Conv_Den, dI b0_Conv_Round]), (1, bR 25 1 (eL 1 eS) w1)], 2, 100⟩))) :=
  by
  intro w1 b0_Id b0_From b0_To b0_Begin b0_End b0_In b0_Out b0_Conv_Num b0_Conv_Add b0_Conv_Den b0_Conv_Round t4 t53 t54 t58 t59 t60 w1_len h0
  subst h0
  revert t60; exact q4j qjP qjG (fun e => by rcases e with _ | _ <;> exact ⟨_, rfl, fun h => by cases h⟩) fun x => by
    have := qtP; have := @q9b.eq_1; have := @q4O; have := @zZ.eq_1; exact gA
noncomputable def qK (w1 : List (List ByteArray)) (b0 : qa) (t53 : Int) : Int → Option (Int ⊕ (Int ⊕ Unit)) | t54 => if t54 < t53 then if 0 ≤ t54 ∧ t54 < ((w1.length : Nat) : Int) then Option.bind w1[Int.toNat t54]? fun (a : List ByteArray) => Option.bind (qA (zZ w1 b0 a t53 t54 a ((a.length : Nat) : Int)) 0) fun (a2 : Sum Int Unit) => Sum.elim (fun (a3 : Int) => some (Sum.inr (Sum.inl a3))) (fun (a4 : Unit) => some (Sum.inl (w64 (t54 + 1)))) a2 else none else some (Sum.inr (Sum.inr ()))
theorem q27 : ∀ (w1 : List (List ByteArray)) (b0_Id b0_From b0_To b0_Begin b0_End : Int) (b0_In : List ByteArray) (b0_Out : List qh) (b0_Conv_Num b0_Conv_Add b0_Conv_Den b0_Conv_Round t53 t54 : Int) (w1_len : Nat), w1_len = w1.length → XL2 evo 10 0 12 ⟨[(1, rP 0), (52, rO 1 1 w1_len), (53, rI t53), (54, rI t54)], [(0, B.blk 30 [dI b0_Id, dI b0_From, dI b0_To, dI b0_Begin, dI b0_End, dL 1 eS b0_In, dL 2 qe b0_Out, dI b0_Conv_Num, dI b0_Conv_Add, dI b0_Conv_Den, dI b0_Conv_Round]), (1, bR 25 1 (eL 1 eS) w1)], 2, 100⟩ = (qA (qK w1 (qa.mk b0_Id b0_From b0_To b0_Begin b0_End b0_In b0_Out (qd.mk b0_Conv_Num b0_Conv_Add b0_Conv_Den b0_Conv_Round)) t53) t54).bind (Sum.elim (fun (e : Int) => some (Go.Exit.ret, ⟨[(1, rP 0), (2, rI e)], [(0, B.blk 30 [dI b0_Id, dI b0_From, dI b0_To, dI b0_Begin, dI b0_End, dL 1 eS b0_In, dL 2 qe b0_Out, dI b0_Conv_Num, dI b0_Conv_Add, dI b0_Conv_Den, dI b0_Conv_Round])], 1, 100⟩)) (fun (e : Unit) => some (Go.Exit.exit 1, ⟨[(1, rP 0), (2, R.any)], [(0, B.blk 30 [dI b0_Id, dI b0_From, dI b0_To, dI b0_Begin, dI b0_End, dL 1 eS b0_In, dL 2 qe b0_Out, dI b0_Conv_Num, dI b0_Conv_Add, dI b0_Conv_Den, dI b0_Conv_Round])], 1, 100⟩))) :=
  by
  intro w1 b0_Id b0_From b0_To b0_Begin b0_End b0_In b0_Out b0_Conv_Num b0_Conv_Add b0_Conv_Den b0_Conv_Round t53 t54 w1_len h0
  subst h0
  revert t54; exact q4j qkW qk9 (fun e => by rcases e with _ | _ <;> exact ⟨_, rfl, fun h => by cases h⟩) fun x => by
    have := qtP; have := @q9r.eq_1; have := @q2d; have := @qK.eq_1; exact gA
theorem q0V : ∀ (w10 w11 : List ByteArray) (b0_Id b0_From b0_To b0_Begin b0_End : Int) (b0_In : List ByteArray) (b0_Out : List qh) (b0_Conv_Num b0_Conv_Add b0_Conv_Den b0_Conv_Round t53 t54 : Int), XL2 evo 10 0 12 ⟨[(1, rP 0), (52, rO 1 1 2), (53, rI t53), (54, rI t54)], [(0, B.blk 30 [dI b0_Id, dI b0_From, dI b0_To, dI b0_Begin, dI b0_End, dL 1 eS b0_In, dL 2 qe b0_Out, dI b0_Conv_Num, dI b0_Conv_Add, dI b0_Conv_Den, dI b0_Conv_Round]), (1, B.row 25 1 [dL 1 eS w10, dL 1 eS w11])], 2, 100⟩ = (qA (qK [w10, w11] (qa.mk b0_Id b0_From b0_To b0_Begin b0_End b0_In b0_Out (qd.mk b0_Conv_Num b0_Conv_Add b0_Conv_Den b0_Conv_Round)) t53) t54).bind (Sum.elim (fun (e : Int) => some (Go.Exit.ret, ⟨[(1, rP 0), (2, rI e)], [(0, B.blk 30 [dI b0_Id, dI b0_From, dI b0_To, dI b0_Begin, dI b0_End, dL 1 eS b0_In, dL 2 qe b0_Out, dI b0_Conv_Num, dI b0_Conv_Add, dI b0_Conv_Den, dI b0_Conv_Round])], 1, 100⟩)) (fun (e : Unit) => some (Go.Exit.exit 1, ⟨[(1, rP 0), (2, R.any)], [(0, B.blk 30 [dI b0_Id, dI b0_From, dI b0_To, dI b0_Begin, dI b0_End, dL 1 eS b0_In, dL 2 qe b0_Out, dI b0_Conv_Num, dI b0_Conv_Add, dI b0_Conv_Den, dI b0_Conv_Round])], 1, 100⟩))) := by
  intro w10 w11 b0_Id b0_From b0_To b0_Begin b0_End b0_In b0_Out b0_Conv_Num b0_Conv_Add b0_Conv_Den b0_Conv_Round t53 t54; have h := q27 [w10, w11] ((qa.mk b0_Id b0_From b0_To b0_Begin b0_End b0_In b0_Out (qd.mk b0_Conv_Num b0_Conv_Add b0_Conv_Den b0_Conv_Round))).Id ((qa.mk b0_Id b0_From b0_To b0_Begin b0_End b0_In b0_Out (qd.mk b0_Conv_Num b0_Conv_Add b0_Conv_Den b0_Conv_Round))).From ((qa.mk b0_Id b0_From b0_To b0_Begin b0_End b0_In b0_Out (qd.mk b0_Conv_Num b0_Conv_Add b0_Conv_Den b0_Conv_Round))).To ((qa.mk b0_Id b0_From b0_To b0_Begin b0_End b0_In b0_Out (qd.mk b0_Conv_Num b0_Conv_Add b0_Conv_Den b0_Conv_Round))).Begin ((qa.mk b0_Id b0_From b0_To b0_Begin b0_End b0_In b0_Out (qd.mk b0_Conv_Num b0_Conv_Add b0_Conv_Den b0_Conv_Round))).End ((qa.mk b0_Id b0_From b0_To b0_Begin b0_End b0_In b0_Out (qd.mk b0_Conv_Num b0_Conv_Add b0_Conv_Den b0_Conv_Round))).In ((qa.mk b0_Id b0_From b0_To b0_Begin b0_End b0_In b0_Out (qd.mk b0_Conv_Num b0_Conv_Add b0_Conv_Den b0_Conv_Round))).Out ((qa.mk b0_Id b0_From b0_To b0_Begin b0_End b0_In b0_Out (qd.mk b0_Conv_Num b0_Conv_Add b0_Conv_Den b0_Conv_Round))).Conv.Num ((qa.mk b0_Id b0_From b0_To b0_Begin b0_End b0_In b0_Out (qd.mk b0_Conv_Num b0_Conv_Add b0_Conv_Den b0_Conv_Round))).Conv.Add ((qa.mk b0_Id b0_From b0_To b0_Begin b0_End b0_In b0_Out (qd.mk b0_Conv_Num b0_Conv_Add b0_Conv_Den b0_Conv_Round))).Conv.Den ((qa.mk b0_Id b0_From b0_To b0_Begin b0_End b0_In b0_Out (qd.mk b0_Conv_Num b0_Conv_Add b0_Conv_Den b0_Conv_Round))).Conv.Round t53 t54 _ rfl
  first
    | exact h
    | (simp only [rL, dL, bR, bZ, Nat.reduceAdd] at h; exact h)
theorem qvr : okL 37 qap := qw (qg qmo) (by kernel_rfl) (by kernel_rfl)
def qvO := JA_ @qap.eq_1 (JA_ @Tryz.f37.eq_1 @qmo)
theorem qsP : okL 81 q8B := qw (qg qm8) (by kernel_rfl) (by kernel_rfl)
def qrA := JA_ @q8B.eq_1 (JA_ @Tryz.f81.eq_1 @qm8)
theorem qhY : lbO 81 2 = qaf := zo (qg qm8) rfl
theorem qhT : okL 81 qaf := qH qsP (List.mem_of_getElem? (i := 0) (by kernel_rfl))
theorem qyP : okL 38 qaJ := qw (qg qs7) (by kernel_rfl) (by kernel_rfl)
def qyF := JA_ @qaJ.eq_1 (JA_ @Tryz.f38.eq_1 @qs7)
noncomputable def ZI (g : qh) : Option Bool :=
  some (qC g.Credits 1 60)
noncomputable def qY (g : qh) : Bool :=
  qC g.Credits 1 60
theorem q2A (g : qh) : ZI g = some (qY g) := by
  unfold ZI qY
  simp only [za]
theorem q3q : ∀ (g_Code : ByteArray) (g_Credits : Int), ev 38 0 [R.agg [dS g_Code, dI g_Credits]] [] = some (rB (qY (qh.mk g_Code g_Credits)), []) :=
  fun g_Code g_Credits => by
    have h : ev 38 0 [R.agg [dS g_Code, dI g_Credits]] [] = (ZI (qh.mk g_Code g_Credits)).bind (fun (e : Bool) => some (rB e, [])) := by
      rw [qu qs7 quT.2.2.2 qyP]
      have := qyF; have := @q0C; have := @ZI.eq_1; exact gA
    rw [q2A] at h
    exact h
noncomputable def qz (s : List qh) (t7 : Int) : Int → Option (Int ⊕ (Int ⊕ Unit)) | t8 => if t8 < t7 then if 0 ≤ t8 ∧ t8 < ((s.length : Nat) : Int) then Option.bind s[Int.toNat t8]? fun (a : qh) => if qY a = Bool.true then some (Sum.inr (Sum.inl t8)) else some (Sum.inl (w64 (t8 + 1))) else none else some (Sum.inr (Sum.inr ()))
theorem Z0 : ∀ (s : List qh) (t7 t8 : Int), XL2 evo 81 0 2 ⟨[(0, rL 2 qe s), (1, R.c (C.fn 38 [] [])), (7, rI t7), (8, rI t8)], [], 0, 19⟩ = (qA (qz s t7) t8).bind (Sum.elim (fun (e : Int) => some (Go.Exit.ret, ⟨[(4, rI e)], [], 0, 19⟩)) (fun (e : Unit) => some (Go.Exit.exit 0, ⟨[(4, R.any)], [], 0, 19⟩))) :=
  fun s t7 t8 => by
    revert t8; exact q4j qhY qhT (fun e => by rcases e with _ | _ <;> exact ⟨_, rfl, fun h => by cases h⟩) fun x => by
      have := qrA; have := @qaf.eq_1; have := @q3q; have := @qz.eq_1; exact gA
noncomputable def zb (s : List qh) : Option Int := Option.bind (qA (qz s ((s.length : Nat) : Int)) 0) fun (a : Sum Int Unit) => Sum.elim (fun (a2 : Int) => some a2) (fun (a3 : Unit) => some (-1)) a
theorem Zh : ∀ (s : List qh), ev 81 0 [rL 2 qe s, R.c (C.fn 38 [] [])] [] = (zb s).bind (fun (e : Int) => some (rI e, [])) :=
  fun s => by
    rw [qu qm8 qu7.2.2.2 qsP]
    have := qrA; have := @Z0; have := @zb.eq_1; exact gA
noncomputable def qv (s : List qh) : Option Bool := Option.bind (zb s) fun (a : Int) => some (decide (0 ≤ a))
theorem QZ : ∀ (s : List qh), ev 37 0 [rL 2 qe s, R.c (C.fn 38 [] [])] [] = (qv s).bind (fun (e : Bool) => some (rB e, [])) :=
  fun s => by
    rw [qu qmo qtE.2.2.2 qvr]
    have := qvO; have := @Zh; have := @qv.eq_1; exact gA
theorem qxH : okL 39 qaS := qw (qg qs9) (by kernel_rfl) (by kernel_rfl)
def qxy := JA_ @qaS.eq_1 (JA_ @Tryz.f39.eq_1 @qs9)
theorem qxE : okL 40 qau := qw (qg qrI) (by kernel_rfl) (by kernel_rfl)
def qxj := JA_ @qau.eq_1 (JA_ @Tryz.f40.eq_1 @qrI)
theorem qvP : okL 82 q8y := qw (qg qnV) (by kernel_rfl) (by kernel_rfl)
def qwG := JA_ @q8y.eq_1 (JA_ @Tryz.f82.eq_1 @qnV)
theorem qo2 : lbO 82 2 = qdD := zo (qg qnV) rfl
theorem qmx : okL 82 qdD := qH qvP (List.mem_of_getElem? (i := 0) (by kernel_rfl))
noncomputable def qJ (s : List ByteArray) (v : ByteArray) (t7 : Int) : Int → Option (Int ⊕ (Int ⊕ Unit)) | t8 => if t8 < t7 then if 0 ≤ t8 ∧ t8 < ((s.length : Nat) : Int) then Option.bind s[Int.toNat t8]? fun (a : ByteArray) => if (ByteArray.toList v == ByteArray.toList a) = Bool.true then some (Sum.inr (Sum.inl t8)) else some (Sum.inl (w64 (t8 + 1))) else none else some (Sum.inr (Sum.inr ()))
theorem ZG : ∀ (s : List ByteArray) (v : ByteArray) (t7 t8 : Int), XL2 evo 82 0 2 ⟨[(0, rL 1 eS s), (1, rS v), (7, rI t7), (8, rI t8)], [], 0, 19⟩ = (qA (qJ s v t7) t8).bind (Sum.elim (fun (e : Int) => some (Go.Exit.ret, ⟨[(4, rI e)], [], 0, 19⟩)) (fun (e : Unit) => some (Go.Exit.exit 0, ⟨[(4, R.any)], [], 0, 19⟩))) :=
  fun s v t7 t8 => by
    revert t8; exact q4j qo2 qmx (fun e => by rcases e with _ | _ <;> exact ⟨_, rfl, fun h => by cases h⟩) fun x => by
      have := qwG; have := @qdD.eq_1; have := @qJ.eq_1; exact gA
noncomputable def zP (s : List ByteArray) (v : ByteArray) : Option Int := Option.bind (qA (qJ s v ((s.length : Nat) : Int)) 0) fun (a : Sum Int Unit) => Sum.elim (fun (a2 : Int) => some a2) (fun (a3 : Unit) => some (-1)) a
theorem J3 : ∀ (s : List ByteArray) (v : ByteArray), ev 82 0 [rL 1 eS s, rS v] [] = (zP s v).bind (fun (e : Int) => some (rI e, [])) :=
  fun s v => by
    rw [qu qnV qvh.2.2.2 qvP]
    have := qwG; have := @ZG; have := @zP.eq_1; exact gA
noncomputable def qX (s : List ByteArray) (v : ByteArray) : Option Bool := Option.bind (zP s v) fun (a : Int) => some (decide (0 ≤ a))
theorem ZF : ∀ (s : List ByteArray) (v : ByteArray), ev 40 0 [rL 1 eS s, rS v] [] = (qX s v).bind (fun (e : Bool) => some (rB e, [])) :=
  fun s v => by
    rw [qu qrI qwN.2.2.2 qxE]
    have := qxj; have := @J3; have := @qX.eq_1; exact gA
noncomputable def ZL (g : qh) (v : qa) : Option Bool := Option.bind (qX v.In g.Code) fun (a : Bool) => some a
theorem q2S : ∀ (g_Code : ByteArray) (g_Credits v_Id v_From v_To v_Begin v_End : Int) (v_In : List ByteArray) (v_Out : List qh) (v_Conv_Num v_Conv_Add v_Conv_Den v_Conv_Round : Int), ev 39 1 [R.agg [dS g_Code, dI g_Credits], rP 0] [(0, B.blk 30 [dI v_Id, dI v_From, dI v_To, dI v_Begin, dI v_End, dL 1 eS v_In, dL 2 qe v_Out, dI v_Conv_Num, dI v_Conv_Add, dI v_Conv_Den, dI v_Conv_Round])] = (ZL (qh.mk g_Code g_Credits) (qa.mk v_Id v_From v_To v_Begin v_End v_In v_Out (qd.mk v_Conv_Num v_Conv_Add v_Conv_Den v_Conv_Round))).bind (fun (e : Bool) => some (rB e, [(0, B.blk 30 [dI v_Id, dI v_From, dI v_To, dI v_Begin, dI v_End, dL 1 eS v_In, dL 2 qe v_Out, dI v_Conv_Num, dI v_Conv_Add, dI v_Conv_Den, dI v_Conv_Round])])) :=
  fun g_Code g_Credits v_Id v_From v_To v_Begin v_End v_In v_Out v_Conv_Num v_Conv_Add v_Conv_Den v_Conv_Round => by
    rw [qu qs9 qvo.2.2.2 qxH]
    have := qxy; have := @ZF; have := @ZL.eq_1; exact gA
noncomputable def qy (b0 : qa) (s : List qh) (t7 : Int) : Int → Option (Int ⊕ (Int ⊕ Unit)) | t8 => if t8 < t7 then if 0 ≤ t8 ∧ t8 < ((s.length : Nat) : Int) then Option.bind s[Int.toNat t8]? fun (a : qh) => Option.bind (ZL a b0) fun (a2 : Bool) => if a2 = Bool.true then some (Sum.inr (Sum.inl t8)) else some (Sum.inl (w64 (t8 + 1))) else none else some (Sum.inr (Sum.inr ()))
theorem QJ : ∀ (b0_Id b0_From b0_To b0_Begin b0_End : Int) (b0_In : List ByteArray) (b0_Out : List qh) (b0_Conv_Num b0_Conv_Add b0_Conv_Den b0_Conv_Round : Int) (s : List qh) (t7 t8 : Int), XL2 evo 81 1 2 ⟨[(0, rL 2 qe s), (1, R.c (C.fn 39 [] [dP 0])), (7, rI t7), (8, rI t8)], [(0, B.blk 30 [dI b0_Id, dI b0_From, dI b0_To, dI b0_Begin, dI b0_End, dL 1 eS b0_In, dL 2 qe b0_Out, dI b0_Conv_Num, dI b0_Conv_Add, dI b0_Conv_Den, dI b0_Conv_Round])], 1, 19⟩ = (qA (qy (qa.mk b0_Id b0_From b0_To b0_Begin b0_End b0_In b0_Out (qd.mk b0_Conv_Num b0_Conv_Add b0_Conv_Den b0_Conv_Round)) s t7) t8).bind (Sum.elim (fun (e : Int) => some (Go.Exit.ret, ⟨[(4, rI e)], [(0, B.blk 30 [dI b0_Id, dI b0_From, dI b0_To, dI b0_Begin, dI b0_End, dL 1 eS b0_In, dL 2 qe b0_Out, dI b0_Conv_Num, dI b0_Conv_Add, dI b0_Conv_Den, dI b0_Conv_Round])], 1, 19⟩)) (fun (e : Unit) => some (Go.Exit.exit 0, ⟨[(4, R.any)], [(0, B.blk 30 [dI b0_Id, dI b0_From, dI b0_To, dI b0_Begin, dI b0_End, dL 1 eS b0_In, dL 2 qe b0_Out, dI b0_Conv_Num, dI b0_Conv_Add, dI b0_Conv_Den, dI b0_Conv_Round])], 1, 19⟩))) :=
  fun b0_Id b0_From b0_To b0_Begin b0_End b0_In b0_Out b0_Conv_Num b0_Conv_Add b0_Conv_Den b0_Conv_Round s t7 t8 => by
    revert t8; exact q4j qhY qhT (fun e => by rcases e with _ | _ <;> exact ⟨_, rfl, fun h => by cases h⟩) fun x => by
      have := qrA; have := @qaf.eq_1; have := @q2S; have := @qy.eq_1; exact gA
noncomputable def qV (s : List qh) (b0 : qa) : Option Int := Option.bind (qA (qy b0 s ((s.length : Nat) : Int)) 0) fun (a : Sum Int Unit) => Sum.elim (fun (a2 : Int) => some a2) (fun (a3 : Unit) => some (-1)) a
theorem Z4 : ∀ (s : List qh) (b0_Id b0_From b0_To b0_Begin b0_End : Int) (b0_In : List ByteArray) (b0_Out : List qh) (b0_Conv_Num b0_Conv_Add b0_Conv_Den b0_Conv_Round : Int), ev 81 1 [rL 2 qe s, R.c (C.fn 39 [] [dP 0])] [(0, B.blk 30 [dI b0_Id, dI b0_From, dI b0_To, dI b0_Begin, dI b0_End, dL 1 eS b0_In, dL 2 qe b0_Out, dI b0_Conv_Num, dI b0_Conv_Add, dI b0_Conv_Den, dI b0_Conv_Round])] = (qV s (qa.mk b0_Id b0_From b0_To b0_Begin b0_End b0_In b0_Out (qd.mk b0_Conv_Num b0_Conv_Add b0_Conv_Den b0_Conv_Round))).bind (fun (e : Int) => some (rI e, [(0, B.blk 30 [dI b0_Id, dI b0_From, dI b0_To, dI b0_Begin, dI b0_End, dL 1 eS b0_In, dL 2 qe b0_Out, dI b0_Conv_Num, dI b0_Conv_Add, dI b0_Conv_Den, dI b0_Conv_Round])])) :=
  fun s b0_Id b0_From b0_To b0_Begin b0_End b0_In b0_Out b0_Conv_Num b0_Conv_Add b0_Conv_Den b0_Conv_Round => by
    rw [qu qm8 qu7.2.2.2 qsP]
    have := qrA; have := @QJ; have := @qV.eq_1; exact gA
noncomputable def qr (s : List qh) (b0 : qa) : Option Bool := Option.bind (qV s b0) fun (a : Int) => some (decide (0 ≤ a))
theorem QK : ∀ (s : List qh) (b0_Id b0_From b0_To b0_Begin b0_End : Int) (b0_In : List ByteArray) (b0_Out : List qh) (b0_Conv_Num b0_Conv_Add b0_Conv_Den b0_Conv_Round : Int), ev 37 1 [rL 2 qe s, R.c (C.fn 39 [] [dP 0])] [(0, B.blk 30 [dI b0_Id, dI b0_From, dI b0_To, dI b0_Begin, dI b0_End, dL 1 eS b0_In, dL 2 qe b0_Out, dI b0_Conv_Num, dI b0_Conv_Add, dI b0_Conv_Den, dI b0_Conv_Round])] = (qr s (qa.mk b0_Id b0_From b0_To b0_Begin b0_End b0_In b0_Out (qd.mk b0_Conv_Num b0_Conv_Add b0_Conv_Den b0_Conv_Round))).bind (fun (e : Bool) => some (rB e, [(0, B.blk 30 [dI b0_Id, dI b0_From, dI b0_To, dI b0_Begin, dI b0_End, dL 1 eS b0_In, dL 2 qe b0_Out, dI b0_Conv_Num, dI b0_Conv_Add, dI b0_Conv_Den, dI b0_Conv_Round])])) :=
  fun s b0_Id b0_From b0_To b0_Begin b0_End b0_In b0_Out b0_Conv_Num b0_Conv_Add b0_Conv_Den b0_Conv_Round => by
    rw [qu qmo qtE.2.2.2 qvr]
    have := qvO; have := @Z4; have := @qr.eq_1; exact gA
theorem qyD : okL 41 qah := qw (qg qrJ) (by kernel_rfl) (by kernel_rfl)
def qyf := JA_ @qah.eq_1 (JA_ @Tryz.f41.eq_1 @qrJ)
theorem qyj : okL 83 qb0 := qw (qg qrs) (by kernel_rfl) (by kernel_rfl)
def qzs := JA_ @qb0.eq_1 (JA_ @Tryz.f83.eq_1 @qrs)
noncomputable def QU (n : Int) (a : Int) (b : Int) : Option Int :=
  some (max (min a b) (min n (max a b)))
noncomputable def qk (n : Int) (a : Int) (b : Int) : Int :=
  max (min a b) (min n (max a b))
theorem q0J (n a b : Int) : QU n a b = some (qk n a b) := by
  unfold QU qk
  simp only [za]
theorem zH : ∀ (n a b : Int), ev 83 0 [rI n, rI a, rI b] [] = some (rI (qk n a b), []) :=
  fun n a b => by
    have h : ev 83 0 [rI n, rI a, rI b] [] = (QU n a b).bind (fun (e : Int) => some (rI e, [])) := by
      rw [qu qrs qva.2.2.2 qyj]
      have := qzs; have := @QU.eq_1; exact gA
    rw [q0J] at h
    exact h
noncomputable def Zp (c : qd) : Option Int := if (qk c.Den 1 1000 != c.Den) = Bool.true then some 3 else if (qk c.Num (-1000) 1000 != c.Num) = Bool.true then some 3 else if (qk c.Add (-1000) 1000 != c.Add) = Bool.true then some 3 else if (qk c.Round 1 4 != c.Round) = Bool.true then some 3 else some 0
noncomputable def qp (c : qd) : Int := if (qk c.Den 1 1000 != c.Den) = Bool.true then 3 else if (qk c.Num (-1000) 1000 != c.Num) = Bool.true then 3 else if (qk c.Add (-1000) 1000 != c.Add) = Bool.true then 3 else if (qk c.Round 1 4 != c.Round) = Bool.true then 3 else 0
theorem q1q (c : qd) : Zp c = some (qp c) := by
  unfold Zp qp
  simp only [za]
theorem Jv : ∀ (c_Num c_Add c_Den c_Round : Int), ev 41 0 [R.agg [dI c_Num, dI c_Add, dI c_Den, dI c_Round]] [] = some (rI (qp (qd.mk c_Num c_Add c_Den c_Round)), []) :=
  fun c_Num c_Add c_Den c_Round => by
    have h : ev 41 0 [R.agg [dI c_Num, dI c_Add, dI c_Den, dI c_Round]] [] = (Zp (qd.mk c_Num c_Add c_Den c_Round)).bind (fun (e : Int) => some (rI e, [])) := by
      rw [qu qrJ qwY.2.2.2 qyD]
      have := qyf; have := @zH; have := @Zp.eq_1; exact gA
    rw [q1q] at h
    exact h
noncomputable def Q0 (x0 : qa) : Option Int := if x0.Id < 1 then some 1 else if qC x0.From 1 8 = Bool.true then some 1 else if qC x0.To 1 8 = Bool.true then some 1 else if (!(Qk x0.Begin)) = Bool.true then some 23 else if (x0.End != 0) = Bool.true then if (!(Qk x0.End)) = Bool.true then some 23 else if x0.End < x0.Begin then some 23 else if qC ((x0.In.length : Nat) : Int) 1 3 = Bool.true then some 2 else if qC ((x0.Out.length : Nat) : Int) 1 3 = Bool.true then some 2 else Option.bind (QQ x0.Out) fun (a : List ByteArray) => Option.bind (qA (qK [x0.In, a] x0 2) 0) fun (a2 : Sum Int Unit) => Sum.elim (fun (a3 : Int) => some a3) (fun (a4 : Unit) => Option.bind (qv x0.Out) fun (a5 : Bool) => if a5 = Bool.true then some 3 else if (x0.From == x0.To) = Bool.true then Option.bind (qr x0.Out x0) fun (a6 : Bool) => if a6 = Bool.true then some 14 else some (qp x0.Conv) else some (qp x0.Conv)) a2 else if qC ((x0.In.length : Nat) : Int) 1 3 = Bool.true then some 2 else if qC ((x0.Out.length : Nat) : Int) 1 3 = Bool.true then some 2 else Option.bind (QQ x0.Out) fun (a7 : List ByteArray) => Option.bind (qA (qK [x0.In, a7] x0 2) 0) fun (a8 : Sum Int Unit) => Sum.elim (fun (a9 : Int) => some a9) (fun (a10 : Unit) => Option.bind (qv x0.Out) fun (a11 : Bool) => if a11 = Bool.true then some 3 else if (x0.From == x0.To) = Bool.true then Option.bind (qr x0.Out x0) fun (a12 : Bool) => if a12 = Bool.true then some 14 else some (qp x0.Conv) else some (qp x0.Conv)) a8
theorem q4C : ∀ (x0_Id x0_From x0_To x0_Begin x0_End : Int) (x0_In : List ByteArray) (x0_Out : List qh) (x0_Conv_Num x0_Conv_Add x0_Conv_Den x0_Conv_Round : Int), ev 10 0 [R.agg [dI x0_Id, dI x0_From, dI x0_To, dI x0_Begin, dI x0_End, dL 1 eS x0_In, dL 2 qe x0_Out, dI x0_Conv_Num, dI x0_Conv_Add, dI x0_Conv_Den, dI x0_Conv_Round]] [] = (Q0 (qa.mk x0_Id x0_From x0_To x0_Begin x0_End x0_In x0_Out (qd.mk x0_Conv_Num x0_Conv_Add x0_Conv_Den x0_Conv_Round))).bind (fun (e : Int) => some (rI e, [])) :=
  fun x0_Id x0_From x0_To x0_Begin x0_End x0_In x0_Out x0_Conv_Num x0_Conv_Add x0_Conv_Den x0_Conv_Round => by
    rw [qu qm1 qwm.2.2.2 qti]
    have := qtP; have := @q0C; have := @q5Q; have := @q4R; have := @q0V; have := @QZ; have := @QK; have := @Jv; have := @Q0.eq_1; exact gA
theorem qv6 : okL 66 q8S := qw (qg qqc) (by kernel_rfl) (by kernel_rfl)
def qwp := JA_ @q8S.eq_1 (JA_ @Tryz.f66.eq_1 @qqc)
theorem qnO : lbO 66 4 = qen := zo (qg qqc) rfl
theorem qmh : okL 66 qen := qH qv6 (List.mem_of_getElem? (i := 0) (by kernel_rfl))
noncomputable def qU (s1 : List Int) (s2 : List Int) (t12 : Int) : Int → Option (Int ⊕ (Unit ⊕ Unit)) | t13 => if t13 < t12 then if 0 ≤ t13 ∧ t13 < ((s1.length : Nat) : Int) then Option.bind s1[Int.toNat t13]? fun (a : Int) => if 0 ≤ t13 ∧ t13 < ((s2.length : Nat) : Int) then Option.bind s2[Int.toNat t13]? fun (a2 : Int) => if (a != a2) = Bool.true then some (Sum.inr (Sum.inl ())) else some (Sum.inl (w64 (t13 + 1))) else none else none else some (Sum.inr (Sum.inr ()))
theorem JE : ∀ (s1 s2 : List Int) (t12 t13 : Int), XL2 evo 66 0 4 ⟨[(0, rL 1 eI s1), (1, rL 1 eI s2), (12, rI t12), (13, rI t13)], [], 0, 26⟩ = (qA (qU s1 s2 t12) t13).bind (Sum.elim (fun (e : Unit) => some (Go.Exit.ret, ⟨[(4, rB Bool.false)], [], 0, 26⟩)) (fun (e : Unit) => some (Go.Exit.exit 0, ⟨[(4, R.any)], [], 0, 26⟩))) :=
  fun s1 s2 t12 t13 => by
    revert t13; exact q4j qnO qmh (fun e => by rcases e with _ | _ <;> exact ⟨_, rfl, fun h => by cases h⟩) fun x => by
      have := qwp; have := @qen.eq_1; have := @qU.eq_1; exact gA
noncomputable def zW (s1 : List Int) (s2 : List Int) : Option Bool := if (((s1.length : Nat) : Int) != ((s2.length : Nat) : Int)) = Bool.true then some Bool.false else Option.bind (qA (qU s1 s2 ((s1.length : Nat) : Int)) 0) fun (a : Sum Unit Unit) => Sum.elim (fun (a2 : Unit) => some Bool.false) (fun (a3 : Unit) => some Bool.true) a
theorem q0h : ∀ (s1 s2 : List Int), ev 66 0 [rL 1 eI s1, rL 1 eI s2] [] = (zW s1 s2).bind (fun (e : Bool) => some (rB e, [])) :=
  fun s1 s2 => by
    rw [qu qqc qwT.2.2.2 qv6]
    have := qwp; have := @JE; have := @zW.eq_1; exact gA
noncomputable def zQ (a : qa) (l : List qb) (t20 : List qb) (t21 : Int) : Int → Option (Int ⊕ (Unit ⊕ Unit)) | t22 => if t22 < t21 then if 0 ≤ t22 ∧ t22 < ((t20.length : Nat) : Int) then Option.bind t20[Int.toNat t22]? fun (a2 : qb) => if 0 ≤ t22 ∧ t22 < ((a.In.length : Nat) : Int) then Option.bind a.In[Int.toNat t22]? fun (a3 : ByteArray) => if (!(a2.Course.School == a.From && ByteArray.toList a2.Course.Code == ByteArray.toList a3)) = Bool.true then some (Sum.inr (Sum.inl ())) else if 0 < ((l.length : Nat) : Int) then Option.bind l[0]? fun (a4 : qb) => Option.bind (zW a2.Path a4.Path) fun (a5 : Bool) => if (!a5) = Bool.true then some (Sum.inr (Sum.inl ())) else some (Sum.inl (w64 (t22 + 1))) else none else none else none else some (Sum.inr (Sum.inr ()))
theorem q1i : ∀ (a_Id a_From a_To a_Begin a_End : Int) (a_In : List ByteArray) (a_Out : List qh) (a_Conv_Num a_Conv_Add a_Conv_Den a_Conv_Round : Int) (l t20 : List qb) (t21 t22 : Int), XL2 evo 21 0 4 ⟨[(1, rL 8 qc l), (2, rP 0), (20, rL 8 qc t20), (21, rI t21), (22, rI t22)], [(0, B.blk 30 [dI a_Id, dI a_From, dI a_To, dI a_Begin, dI a_End, dL 1 eS a_In, dL 2 qe a_Out, dI a_Conv_Num, dI a_Conv_Add, dI a_Conv_Den, dI a_Conv_Round])], 1, 62⟩ = (qA (zQ (qa.mk a_Id a_From a_To a_Begin a_End a_In a_Out (qd.mk a_Conv_Num a_Conv_Add a_Conv_Den a_Conv_Round)) l t20 t21) t22).bind (Sum.elim (fun (e : Unit) => some (Go.Exit.ret, ⟨[(1, rL 8 qc l), (2, rP 0), (4, rB Bool.false)], [(0, B.blk 30 [dI a_Id, dI a_From, dI a_To, dI a_Begin, dI a_End, dL 1 eS a_In, dL 2 qe a_Out, dI a_Conv_Num, dI a_Conv_Add, dI a_Conv_Den, dI a_Conv_Round])], 1, 62⟩)) (fun (e : Unit) => some (Go.Exit.exit 0, ⟨[(1, rL 8 qc l), (2, rP 0), (4, R.any)], [(0, B.blk 30 [dI a_Id, dI a_From, dI a_To, dI a_Begin, dI a_End, dL 1 eS a_In, dL 2 qe a_Out, dI a_Conv_Num, dI a_Conv_Add, dI a_Conv_Den, dI a_Conv_Round])], 1, 62⟩))) :=
  fun a_Id a_From a_To a_Begin a_End a_In a_Out a_Conv_Num a_Conv_Add a_Conv_Den a_Conv_Round l t20 t21 t22 => by
    revert t22; exact q4j qoh qn5 (fun e => by rcases e with _ | _ <;> exact ⟨_, rfl, fun h => by cases h⟩) fun x => by
      have := qwE; have := @qem.eq_1; have := @q0h; have := @zQ.eq_1; exact gA
theorem quW : okL 57 q7V := qw (qg qol) (by kernel_rfl) (by kernel_rfl)
def qvv := JA_ @q7V.eq_1 (JA_ @Tryz.f57.eq_1 @qol)
theorem qpU : lbO 57 3 = qeY := zo (qg qol) rfl
theorem qmO : okL 57 qeY := qH quW (List.mem_of_getElem? (i := 0) (by kernel_rfl))
theorem qyH : okL 58 qa8 := qw (qg qrT) (by kernel_rfl) (by kernel_rfl)
def qxz := JA_ @qa8.eq_1 (JA_ @Tryz.f58.eq_1 @qrT)
noncomputable def ZR (a : qb) : Option (List Int) :=
  some a.Sources
noncomputable def QI (a : qb) : List Int :=
  a.Sources
theorem q2r (a : qb) : ZR a = some (QI a) := by
  unfold ZR QI
  simp only [za]
theorem q34 : ∀ (a_Course_School : Int) (a_Course_Code : ByteArray) (a_Credits a_Grade a_Day : Int) (a_Sources : List Int) (a_Bundle : Int) (a_Path : List Int), ev 58 0 [R.agg [dI a_Course_School, dS a_Course_Code, dI a_Credits, dI a_Grade, dI a_Day, dL 1 eI a_Sources, dI a_Bundle, dL 1 eI a_Path]] [] = some (R.c (C.d (D.sl 1 (QI (qb.mk (qt.mk a_Course_School a_Course_Code) a_Credits a_Grade a_Day a_Sources a_Bundle a_Path)).length ((QI (qb.mk (qt.mk a_Course_School a_Course_Code) a_Credits a_Grade a_Day a_Sources a_Bundle a_Path)).flatMap eI))), []) :=
  fun a_Course_School a_Course_Code a_Credits a_Grade a_Day a_Sources a_Bundle a_Path => by
    have h : ev 58 0 [R.agg [dI a_Course_School, dS a_Course_Code, dI a_Credits, dI a_Grade, dI a_Day, dL 1 eI a_Sources, dI a_Bundle, dL 1 eI a_Path]] [] = (ZR (qb.mk (qt.mk a_Course_School a_Course_Code) a_Credits a_Grade a_Day a_Sources a_Bundle a_Path)).bind (fun (e : List Int) => some (rL 1 eI e, [])) := by
      rw [qu qrT qvu.2.2.2 qyH]
      have := qxz; have := @ZR.eq_1; exact gA
    rw [q2r] at h
    exact h
noncomputable def zu (t8 : List qb) (t9 : Int) : (List (List Int) × Int) → Option ((List (List Int) × Int) ⊕ (List (List Int))) | (out, t10) => if t10 < t9 then if 0 ≤ t10 ∧ t10 < ((t8.length : Nat) : Int) then Option.bind t8[Int.toNat t10]? fun (a : qb) => if out.length + 1 ≤ Go.maxLen ∧ (out.length + 1) * 24 ≤ 140737488355328 then some (Sum.inl (out ++ [QI a], w64 (t10 + 1))) else none else none else some (Sum.inr out)
theorem q0q : ∀ (out : List (List Int)) (t8 : List qb) (t9 t10 : Int) (zr : Nat), zr = out.length → XL2 evo 57 0 3 ⟨[(1, R.c (C.fn 58 [] [])), (5, rO 0 1 zr), (8, rL 8 qc t8), (9, rI t9), (10, rI t10)], [(0, bR 45 1 (eL 1 eI) out)], 1, 22⟩ = (qA (zu t8 t9) (out, t10)).bind (fun (e : List (List Int)) => some (Go.Exit.exit 0, ⟨[(5, rO 0 1 e.length)], [(0, bR 45 1 (eL 1 eI) e)], 1, 22⟩)) :=
  by
  intro out t8 t9 t10 zr h0
  subst h0
  revert t10; revert out; exact q7B qpU qmO (fun e => by exact ⟨_, rfl, fun h => by cases h⟩) fun out t10 => by
    have := qvv; have := @qeY.eq_1; have := @q34; have := @zu.eq_1; exact gA
theorem JW : ∀  (t8 : List qb) (t9 t10 : Int), XL2 evo 57 0 3 ⟨[(1, R.c (C.fn 58 [] [])), (5, rO 0 1 0), (8, rL 8 qc t8), (9, rI t9), (10, rI t10)], [(0, B.row 45 1 [])], 1, 22⟩ = (qA (zu t8 t9) ([], t10)).bind (fun (e : List (List Int)) => some (Go.Exit.exit 0, ⟨[(5, rO 0 1 e.length)], [(0, bR 45 1 (eL 1 eI) e)], 1, 22⟩)) := by
  intro t8 t9 t10; have h := q0q [] t8 t9 t10 _ rfl
  first
    | exact h
    | (simp only [rL, dL, bR, bZ, Nat.reduceAdd] at h; exact h)
noncomputable def Q6 (l : List qb) : Option (List (List Int)) := Option.bind (qA (zu l ((l.length : Nat) : Int)) ([], 0)) fun (a : List (List Int)) => some a
theorem Ji : ∀ (l : List qb), ev 57 0 [rL 8 qc l, R.c (C.fn 58 [] [])] [] = (Q6 l).bind (fun (e : List (List Int)) => some (rL 1 (eL 1 eI) e, [])) :=
  fun l => by
    rw [qu qol qw0.2.2.2 quW]
    have := qvv; have := @JW; have := @Q6.eq_1; exact gA
theorem qtl : okL 56 q6L := qw (qg qm9) (by kernel_rfl) (by kernel_rfl)
def quQ := JA_ @q6L.eq_1 (JA_ @Tryz.f56.eq_1 @qm9)
theorem qoR : lbO 56 5 = qey := zo (qg qm9) rfl
theorem qq3 : okL 56 qey := qH qtl (List.mem_of_getElem? (i := 0) (by kernel_rfl))
theorem qpV : lbO 56 9 = qeT := zo (qg qm9) rfl
theorem qmG : okL 56 qeT := qH qtl (List.mem_of_getElem? (i := 1) (by kernel_rfl))
noncomputable def zn (m0 : List (Int × Bool)) : Option Unit :=
  some ()
noncomputable def Qi (m0 : List (Int × Bool)) : Unit :=
  ()
theorem Zl (m0 : List (Int × Bool)) : zn m0 = some (Qi m0) := by
  unfold zn Qi
  simp only [za]
theorem Zr : ∀ (m0 : List (Int × Bool)), ev 90 1 [R.c (C.hd .map 0)] [(0, B.ob (mpB (q2J .i64) Qu m0))] = some (R.c (C.hd .map 1), [(0, B.ob (mpB (q2J .i64) Qu m0)), (1, B.ob (mpB (q2J .i64) Qu m0))]) :=
  fun m0 => by
    have h : ev 90 1 [R.c (C.hd .map 0)] [(0, B.ob (mpB (q2J .i64) Qu m0))] = (zn m0).bind (fun (e : Unit) => some (R.c (C.hd .map 1), [(0, B.ob (mpB (q2J .i64) Qu m0)), (1, B.ob (mpB (q2J .i64) Qu m0))])) := by
      rw [qjm, qvk.2.2.2]
      have := @zn.eq_1; exact gA
    rw [Zl] at h
    exact h
noncomputable def Qq (m2 : List (Int × Bool)) (t13 : List (List Int)) (t14 : Int) (t15 : Int) (t21 : List Int) (t22 : Int) : (List Int × (List (Int × Bool)) × Bool × Int) → Option ((List Int × (List (Int × Bool)) × Bool × Int) ⊕ (List Int × (List (Int × Bool)) × Bool)) | (out, m0, apart, t23) => if t23 < t22 then if 0 ≤ t23 ∧ t23 < ((t21.length : Nat) : Int) then Option.bind t21[Int.toNat t23]? fun (a : Int) => if q6C Bool.false m2 a = Bool.true then if (!(q6C Bool.false m0 a)) = Bool.true then if out.length + 1 ≤ Go.maxLen ∧ (out.length + 1) * 8 ≤ 140737488355328 then some (Sum.inl (out ++ [a], q7R m0 a Bool.true, Bool.false, w64 (t23 + 1))) else none else some (Sum.inl (out, q7R m0 a Bool.true, Bool.false, w64 (t23 + 1))) else if (!(q6C Bool.false m0 a)) = Bool.true then if out.length + 1 ≤ Go.maxLen ∧ (out.length + 1) * 8 ≤ 140737488355328 then some (Sum.inl (out ++ [a], q7R m0 a Bool.true, apart, w64 (t23 + 1))) else none else some (Sum.inl (out, q7R m0 a Bool.true, apart, w64 (t23 + 1))) else none else some (Sum.inr (out, m0, apart))
theorem q3g : ∀ (out : List Int) (m0 m2 : List (Int × Bool)) (apart : Bool) (t13 : List (List Int)) (t14 t15 : Int) (t21 : List Int) (t22 t23 : Int) (zr : Nat), zr = out.length → XL2 evo 56 0 9 ⟨[(4, R.c (C.hd .map 0)), (5, rO 1 1 zr), (6, rB apart), (9, R.c (C.hd .map 2)), (13, rL 1 (eL 1 eI) t13), (14, rI t14), (15, rI t15), (21, rL 1 eI t21), (22, rI t22), (23, rI t23)], [(0, B.ob (mpB (q2J .i64) Qu m0)), (1, bR 3 1 eI out), (2, B.ob (mpB (q2J .i64) Qu m2))], 3, 44⟩ = (qA (Qq m2 t13 t14 t15 t21 t22) (out, m0, apart, t23)).bind (fun (e : List Int × (List (Int × Bool)) × Bool) => some (Go.Exit.exit 2, ⟨[(4, R.c (C.hd .map 0)), (5, rO 1 1 e.1.length), (6, rB e.2.2), (13, rL 1 (eL 1 eI) t13), (14, rI t14), (15, rI t15)], [(0, B.ob (mpB (q2J .i64) Qu e.2.1)), (1, bR 3 1 eI e.1)], 2, 44⟩)) :=
  by
  intro out m0 m2 apart t13 t14 t15 t21 t22 t23 zr h0
  subst h0
  revert t23; revert apart; revert m0; revert out; exact qvQ qpV qmG (fun e => by exact ⟨_, rfl, fun h => by cases h⟩) fun out m0 apart t23 => by
    have := quQ; have := @qeT.eq_1; have := @Qq.eq_1; exact gA
noncomputable def Qs (t13 : List (List Int)) (t14 : Int) : (List Int × (List (Int × Bool)) × Bool × Int) → Option ((List Int × (List (Int × Bool)) × Bool × Int) ⊕ (List Int × Bool)) | (out, m0, apart, t15) => if t15 < t14 then if 0 ≤ t15 ∧ t15 < ((t13.length : Nat) : Int) then Option.bind t13[Int.toNat t15]? fun (a : List Int) => Option.bind (qA (Qq m0 t13 t14 t15 a ((a.length : Nat) : Int)) (out, (m0, (apart, 0)))) fun (a2 : Prod (List Int) (Prod (List (Prod Int Bool)) Bool)) => some (Sum.inl (a2.1, a2.2.1, a2.2.2, w64 (t15 + 1))) else none else some (Sum.inr (out, apart))
theorem q2U : ∀ (out : List Int) (m0 : List (Int × Bool)) (apart : Bool) (t13 : List (List Int)) (t14 t15 : Int) (zr : Nat), zr = out.length → XL2 evo 56 0 5 ⟨[(4, R.c (C.hd .map 0)), (5, rO 1 1 zr), (6, rB apart), (13, rL 1 (eL 1 eI) t13), (14, rI t14), (15, rI t15)], [(0, B.ob (mpB (q2J .i64) Qu m0)), (1, bR 3 1 eI out)], 2, 44⟩ = (qA (Qs t13 t14) (out, m0, apart, t15)).bind (fun (e : List Int × Bool) => some (Go.Exit.exit 0, ⟨[(5, rO 0 1 e.1.length), (6, rB e.2)], [(0, bR 3 1 eI e.1)], 1, 44⟩)) :=
  by
  intro out m0 apart t13 t14 t15 zr h0
  subst h0
  revert t15; revert apart; revert m0; revert out; exact qvQ qoR qq3 (fun e => by exact ⟨_, rfl, fun h => by cases h⟩) fun out m0 apart t15 => by
    have := quQ; have := @qey.eq_1; have := @Zr; have := @q3g; have := @Qs.eq_1; exact gA
theorem q1p : ∀  (m0 : List (Int × Bool)) (apart : Bool) (t13 : List (List Int)) (t14 t15 : Int), XL2 evo 56 0 5 ⟨[(4, R.c (C.hd .map 0)), (5, rO 1 1 0), (6, rB apart), (13, rL 1 (eL 1 eI) t13), (14, rI t14), (15, rI t15)], [(0, B.ob (mpB (q2J .i64) Qu m0)), (1, B.row 3 1 [])], 2, 44⟩ = (qA (Qs t13 t14) ([], m0, apart, t15)).bind (fun (e : List Int × Bool) => some (Go.Exit.exit 0, ⟨[(5, rO 0 1 e.1.length), (6, rB e.2)], [(0, bR 3 1 eI e.1)], 1, 44⟩)) := by
  intro m0 apart t13 t14 t15; have h := q2U [] m0 apart t13 t14 t15 _ rfl
  first
    | exact h
    | (simp only [rL, dL, bR, bZ, Nat.reduceAdd] at h; exact h)
noncomputable def ZE (lists : List (List Int)) : Option (Bool × List Int) := Option.bind (qA (Qs lists ((lists.length : Nat) : Int)) ([], ([], (Bool.true, 0)))) fun (a : Prod (List Int) Bool) => some (a.2, a.1)
theorem q1H : ∀ (lists : List (List Int)), ev 56 0 [rL 1 (eL 1 eI) lists] [] = (ZE lists).bind (fun (e : Bool × List Int) => some (R.tup [rO 0 1 e.2.length, rB e.1], [(0, bR 3 1 eI e.2)])) :=
  fun lists => by
    rw [qu qm9 qv1.2.2.2 qtl]
    have := quQ; have := @q1p; have := @ZE.eq_1; exact gA
theorem qzo : okL 60 qal := qw (qg qs1) (by kernel_rfl) (by kernel_rfl)
def qxN := JA_ @qal.eq_1 (JA_ @Tryz.f60.eq_1 @qs1)
theorem qrF : okL 51 q8k := qw (qg qku) (by kernel_rfl) (by kernel_rfl)
def qm7 := JA_ @q8k.eq_1 (JA_ @Tryz.f51.eq_1 @qku)
theorem qd1 : lbO 51 3 = q8b := zo (qg qku) rfl
theorem qdi : okL 51 q8b := qH qrF (List.mem_of_getElem? (i := 0) (by kernel_rfl))
theorem qxu : okL 94 qam := qw (qg qrn) (by kernel_rfl) (by kernel_rfl)
def qzp := JA_ @qam.eq_1 (JA_ @Tryz.f94.eq_1 @qrn)
noncomputable def Jc (a : qb) : Option Int :=
  some a.Day
noncomputable def Zy (a : qb) : Int :=
  a.Day
theorem q3c (a : qb) : Jc a = some (Zy a) := by
  unfold Jc Zy
  simp only [za]
theorem q4g : ∀ (a_Course_School : Int) (a_Course_Code : ByteArray) (a_Credits a_Grade a_Day : Int) (a_Sources : List Int) (a_Bundle : Int) (a_Path : List Int), ev 94 0 [R.agg [dI a_Course_School, dS a_Course_Code, dI a_Credits, dI a_Grade, dI a_Day, dL 1 eI a_Sources, dI a_Bundle, dL 1 eI a_Path]] [] = some (rI (Zy (qb.mk (qt.mk a_Course_School a_Course_Code) a_Credits a_Grade a_Day a_Sources a_Bundle a_Path)), []) :=
  fun a_Course_School a_Course_Code a_Credits a_Grade a_Day a_Sources a_Bundle a_Path => by
    have h : ev 94 0 [R.agg [dI a_Course_School, dS a_Course_Code, dI a_Credits, dI a_Grade, dI a_Day, dL 1 eI a_Sources, dI a_Bundle, dL 1 eI a_Path]] [] = (Jc (qb.mk (qt.mk a_Course_School a_Course_Code) a_Credits a_Grade a_Day a_Sources a_Bundle a_Path)).bind (fun (e : Int) => some (rI e, [])) := by
      rw [qu qrn qwI.2.2.2 qxu]
      have := qzp; have := @Jc.eq_1; exact gA
    rw [q3c] at h
    exact h
noncomputable def zf (t8 : List qb) (t9 : Int) : (List Int × Int) → Option ((List Int × Int) ⊕ (List Int)) | (out, t10) => if t10 < t9 then if 0 ≤ t10 ∧ t10 < ((t8.length : Nat) : Int) then Option.bind t8[Int.toNat t10]? fun (a : qb) => if out.length + 1 ≤ Go.maxLen ∧ (out.length + 1) * 8 ≤ 140737488355328 then some (Sum.inl (out ++ [Zy a], w64 (t10 + 1))) else none else none else some (Sum.inr out)
theorem q03 : ∀ (out : List Int) (t8 : List qb) (t9 t10 : Int) (zr : Nat), zr = out.length → XL2 evo 51 0 3 ⟨[(1, R.c (C.fn 94 [] [])), (5, rO 0 1 zr), (8, rL 8 qc t8), (9, rI t9), (10, rI t10)], [(0, bR 3 1 eI out)], 1, 22⟩ = (qA (zf t8 t9) (out, t10)).bind (fun (e : List Int) => some (Go.Exit.exit 0, ⟨[(5, rO 0 1 e.length)], [(0, bR 3 1 eI e)], 1, 22⟩)) :=
  by
  intro out t8 t9 t10 zr h0
  subst h0
  revert t10; revert out; exact q7B qd1 qdi (fun e => by exact ⟨_, rfl, fun h => by cases h⟩) fun out t10 => by
    have := qm7; have := @q8b.eq_1; have := @q4g; have := @zf.eq_1; exact gA
theorem Jq : ∀  (t8 : List qb) (t9 t10 : Int), XL2 evo 51 0 3 ⟨[(1, R.c (C.fn 94 [] [])), (5, rO 0 1 0), (8, rL 8 qc t8), (9, rI t9), (10, rI t10)], [(0, B.row 3 1 [])], 1, 22⟩ = (qA (zf t8 t9) ([], t10)).bind (fun (e : List Int) => some (Go.Exit.exit 0, ⟨[(5, rO 0 1 e.length)], [(0, bR 3 1 eI e)], 1, 22⟩)) := by
  intro t8 t9 t10; have h := q03 [] t8 t9 t10 _ rfl
  first
    | exact h
    | (simp only [rL, dL, bR, bZ, Nat.reduceAdd] at h; exact h)
noncomputable def Qf (l : List qb) : Option (List Int) := Option.bind (qA (zf l ((l.length : Nat) : Int)) ([], 0)) fun (a : List Int) => some a
theorem q0Q : ∀ (l : List qb), ev 51 0 [rL 8 qc l, R.c (C.fn 94 [] [])] [] = (Qf l).bind (fun (e : List Int) => some (rL 1 eI e, [])) :=
  fun l => by
    rw [qu qku qrq.2.2.2 qrF]
    have := qm7; have := @Jq; have := @Qf.eq_1; exact gA
theorem qvC : okL 93 q84 := qw (qg qmk) (by kernel_rfl) (by kernel_rfl)
def qwh := JA_ @q84.eq_1 (JA_ @Tryz.f93.eq_1 @qmk)
theorem qrc : lbO 93 5 = qdc := zo (qg qmk) rfl
theorem qrg : okL 93 qdc := qH qvC (List.mem_of_getElem? (i := 0) (by kernel_rfl))
noncomputable def ze (x : List Int) : (Int × Int) → Option ((Int × Int) ⊕ Int) | (m, i) => if i < ((x.length : Nat) : Int) then if 0 ≤ i ∧ i < ((x.length : Nat) : Int) then Option.bind x[Int.toNat i]? fun (a : Int) => some (Sum.inl (max m a, w64 (i + 1))) else none else some (Sum.inr m)
theorem q02 : ∀ (x : List Int) (m i : Int), XL2 evo 93 0 5 ⟨[(0, rL 1 eI x), (3, rI m), (4, rI i)], [], 0, 25⟩ = (qA (ze x) (m, i)).bind (fun (e : Int) => some (Go.Exit.exit 0, ⟨[(3, rI e)], [], 0, 25⟩)) :=
  fun x m i => by
    revert i; revert m; exact q7B qrc qrg (fun e => by exact ⟨_, rfl, fun h => by cases h⟩) fun m i => by
      have := qwh; have := @qdc.eq_1; have := @ze.eq_1; exact gA
noncomputable def QB (x : List Int) : Option Int := if ((x.length : Nat) : Int) < 1 then none else if 0 < ((x.length : Nat) : Int) then Option.bind x[0]? fun (a : Int) => Option.bind (qA (ze x) (a, 1)) fun (a2 : Int) => some a2 else none
theorem q0W : ∀ (x : List Int), ev 93 0 [rL 1 eI x] [] = (QB x).bind (fun (e : Int) => some (rI e, [])) :=
  fun x => by
    rw [qu qmk qvI.2.2.2 qvC]
    have := qwh; have := @q02; have := @QB.eq_1; exact gA
noncomputable def ZD (l : List qb) : Option Int := Option.bind (Qf l) fun (a : List Int) => Option.bind (QB a) fun (e0 : Int) => some e0
theorem q1t : ∀ (l : List qb), ev 60 0 [rL 8 qc l] [] = (ZD l).bind (fun (e : Int) => some (rI e, [])) :=
  fun l => by
    rw [qu qs1 qx1.2.2.2 qzo]
    have := qxN; have := @q0Q; have := @q0W; have := @ZD.eq_1; exact gA
theorem qx2 : okL 12 qb3 := qw (qg qsa) (by kernel_rfl) (by kernel_rfl)
def qzi := JA_ @qb3.eq_1 (JA_ @Tryz.f12.eq_1 @qsa)
theorem qxe : okL 47 qae := qw (qg qsk) (by kernel_rfl) (by kernel_rfl)
def qxV := JA_ @qae.eq_1 (JA_ @Tryz.f47.eq_1 @qsk)
noncomputable def JB (day : Int) (begin : Int) (end0 : Int) : Option Bool := if begin ≤ day then if (end0 == 0) = Bool.true then some Bool.true else some (decide (day < end0)) else some Bool.false
noncomputable def Z7 (day : Int) (begin : Int) (end0 : Int) : Bool := if begin ≤ day then if (end0 == 0) = Bool.true then Bool.true else decide (day < end0) else Bool.false
theorem q3P (day begin end0 : Int) : JB day begin end0 = some (Z7 day begin end0) := by
  unfold JB Z7
  simp only [za]
theorem q4D : ∀ (day begin end0 : Int), ev 47 0 [rI day, rI begin, rI end0] [] = some (rB (Z7 day begin end0), []) :=
  fun day begin end0 => by
    have h : ev 47 0 [rI day, rI begin, rI end0] [] = (JB day begin end0).bind (fun (e : Bool) => some (rB e, [])) := by
      rw [qu qsk qw7.2.2.2 qxe]
      have := qxV; have := @JB.eq_1; exact gA
    rw [q3P] at h
    exact h
noncomputable def JA (a : qa) (day : Int) : Option Bool :=
  some (Z7 day a.Begin a.End)
noncomputable def Za (a : qa) (day : Int) : Bool :=
  Z7 day a.Begin a.End
theorem q3S (a : qa) (day : Int) : JA a day = some (Za a day) := by
  unfold JA Za
  simp only [za]
theorem q4B : ∀ (a_Id a_From a_To a_Begin a_End : Int) (a_In : List ByteArray) (a_Out : List qh) (a_Conv_Num a_Conv_Add a_Conv_Den a_Conv_Round day : Int), ev 12 0 [R.agg [dI a_Id, dI a_From, dI a_To, dI a_Begin, dI a_End, dL 1 eS a_In, dL 2 qe a_Out, dI a_Conv_Num, dI a_Conv_Add, dI a_Conv_Den, dI a_Conv_Round], rI day] [] = some (rB (Za (qa.mk a_Id a_From a_To a_Begin a_End a_In a_Out (qd.mk a_Conv_Num a_Conv_Add a_Conv_Den a_Conv_Round)) day), []) :=
  fun a_Id a_From a_To a_Begin a_End a_In a_Out a_Conv_Num a_Conv_Add a_Conv_Den a_Conv_Round day => by
    have h : ev 12 0 [R.agg [dI a_Id, dI a_From, dI a_To, dI a_Begin, dI a_End, dL 1 eS a_In, dL 2 qe a_Out, dI a_Conv_Num, dI a_Conv_Add, dI a_Conv_Den, dI a_Conv_Round], rI day] [] = (JA (qa.mk a_Id a_From a_To a_Begin a_End a_In a_Out (qd.mk a_Conv_Num a_Conv_Add a_Conv_Den a_Conv_Round)) day).bind (fun (e : Bool) => some (rB e, [])) := by
      rw [qu qsa qwt.2.2.2 qx2]
      have := qzi; have := @q4D; have := @JA.eq_1; exact gA
    rw [q3S] at h
    exact h
noncomputable def Q3 (a : qa) (l : List qb) : Option Bool := Option.bind (Q0 a) fun (a2 : Int) => if (a2 != 0) = Bool.true then some Bool.false else if (((l.length : Nat) : Int) != ((a.In.length : Nat) : Int)) = Bool.true then some Bool.false else Option.bind (qA (zQ a l l ((l.length : Nat) : Int)) 0) fun (a3 : Sum Unit Unit) => Sum.elim (fun (a4 : Unit) => some Bool.false) (fun (a5 : Unit) => Option.bind (Q6 l) fun (a6 : List (List Int)) => Option.bind (ZE a6) fun (a7 : Prod Bool (List Int)) => if a7.1 = Bool.true then Option.bind (ZD l) fun (a8 : Int) => some (Za a a8) else some Bool.false) a3
theorem q0g : ∀ (a_Id a_From a_To a_Begin a_End : Int) (a_In : List ByteArray) (a_Out : List qh) (a_Conv_Num a_Conv_Add a_Conv_Den a_Conv_Round : Int) (l : List qb), ev 21 0 [R.agg [dI a_Id, dI a_From, dI a_To, dI a_Begin, dI a_End, dL 1 eS a_In, dL 2 qe a_Out, dI a_Conv_Num, dI a_Conv_Add, dI a_Conv_Den, dI a_Conv_Round], rL 8 qc l] [] = (Q3 (qa.mk a_Id a_From a_To a_Begin a_End a_In a_Out (qd.mk a_Conv_Num a_Conv_Add a_Conv_Den a_Conv_Round)) l).bind (fun (e : Bool) => some (rB e, [])) :=
  fun a_Id a_From a_To a_Begin a_End a_In a_Out a_Conv_Num a_Conv_Add a_Conv_Den a_Conv_Round l => by
    rw [qu qp6 quZ.2.2.2 qvt]
    have := qwE; have := @q4C; have := @q1i; have := @Ji; have := @q1H; have := @q1t; have := @q4B; have := @Q3.eq_1; exact gA
theorem qzf : okL 52 qaK := qw (qg qsh) (by kernel_rfl) (by kernel_rfl)
def qzj := JA_ @qaK.eq_1 (JA_ @Tryz.f52.eq_1 @qsh)
noncomputable def ZP (x : qb) : Option Int :=
  some x.Grade
noncomputable def Zq (x : qb) : Int :=
  x.Grade
theorem q2y (x : qb) : ZP x = some (Zq x) := by
  unfold ZP Zq
  simp only [za]
theorem q31 : ∀ (x_Course_School : Int) (x_Course_Code : ByteArray) (x_Credits x_Grade x_Day : Int) (x_Sources : List Int) (x_Bundle : Int) (x_Path : List Int), ev 52 0 [R.agg [dI x_Course_School, dS x_Course_Code, dI x_Credits, dI x_Grade, dI x_Day, dL 1 eI x_Sources, dI x_Bundle, dL 1 eI x_Path]] [] = some (rI (Zq (qb.mk (qt.mk x_Course_School x_Course_Code) x_Credits x_Grade x_Day x_Sources x_Bundle x_Path)), []) :=
  fun x_Course_School x_Course_Code x_Credits x_Grade x_Day x_Sources x_Bundle x_Path => by
    have h : ev 52 0 [R.agg [dI x_Course_School, dS x_Course_Code, dI x_Credits, dI x_Grade, dI x_Day, dL 1 eI x_Sources, dI x_Bundle, dL 1 eI x_Path]] [] = (ZP (qb.mk (qt.mk x_Course_School x_Course_Code) x_Credits x_Grade x_Day x_Sources x_Bundle x_Path)).bind (fun (e : Int) => some (rI e, [])) := by
      rw [qu qsh qv8.2.2.2 qzf]
      have := qzj; have := @ZP.eq_1; exact gA
    rw [q2y] at h
    exact h
noncomputable def zh (t8 : List qb) (t9 : Int) : (List Int × Int) → Option ((List Int × Int) ⊕ (List Int)) | (out, t10) => if t10 < t9 then if 0 ≤ t10 ∧ t10 < ((t8.length : Nat) : Int) then Option.bind t8[Int.toNat t10]? fun (a : qb) => if out.length + 1 ≤ Go.maxLen ∧ (out.length + 1) * 8 ≤ 140737488355328 then some (Sum.inl (out ++ [Zq a], w64 (t10 + 1))) else none else none else some (Sum.inr out)
theorem q00 : ∀ (out : List Int) (t8 : List qb) (t9 t10 : Int) (zr : Nat), zr = out.length → XL2 evo 51 0 3 ⟨[(1, R.c (C.fn 52 [] [])), (5, rO 0 1 zr), (8, rL 8 qc t8), (9, rI t9), (10, rI t10)], [(0, bR 3 1 eI out)], 1, 22⟩ = (qA (zh t8 t9) (out, t10)).bind (fun (e : List Int) => some (Go.Exit.exit 0, ⟨[(5, rO 0 1 e.length)], [(0, bR 3 1 eI e)], 1, 22⟩)) :=
  by
  intro out t8 t9 t10 zr h0
  subst h0
  revert t10; revert out; exact q7B qd1 qdi (fun e => by exact ⟨_, rfl, fun h => by cases h⟩) fun out t10 => by
    have := qm7; have := @q8b.eq_1; have := @q31; have := @zh.eq_1; exact gA
theorem Jr : ∀  (t8 : List qb) (t9 t10 : Int), XL2 evo 51 0 3 ⟨[(1, R.c (C.fn 52 [] [])), (5, rO 0 1 0), (8, rL 8 qc t8), (9, rI t9), (10, rI t10)], [(0, B.row 3 1 [])], 1, 22⟩ = (qA (zh t8 t9) ([], t10)).bind (fun (e : List Int) => some (Go.Exit.exit 0, ⟨[(5, rO 0 1 e.length)], [(0, bR 3 1 eI e)], 1, 22⟩)) := by
  intro t8 t9 t10; have h := q00 [] t8 t9 t10 _ rfl
  first
    | exact h
    | (simp only [rL, dL, bR, bZ, Nat.reduceAdd] at h; exact h)
noncomputable def Qh (l : List qb) : Option (List Int) := Option.bind (qA (zh l ((l.length : Nat) : Int)) ([], 0)) fun (a : List Int) => some a
theorem q0L : ∀ (l : List qb), ev 51 0 [rL 8 qc l, R.c (C.fn 52 [] [])] [] = (Qh l).bind (fun (e : List Int) => some (rL 1 eI e, [])) :=
  fun l => by
    rw [qu qku qrq.2.2.2 qrF]
    have := qm7; have := @Jr; have := @Qh.eq_1; exact gA
theorem qyr : okL 54 qaM := qw (qg qrQ) (by kernel_rfl) (by kernel_rfl)
def qzM := JA_ @qaM.eq_1 (JA_ @Tryz.f54.eq_1 @qrQ)
noncomputable def ZU (x : qb) : Option Int :=
  some x.Credits
noncomputable def Zk (x : qb) : Int :=
  x.Credits
theorem q2p (x : qb) : ZU x = some (Zk x) := by
  unfold ZU Zk
  simp only [za]
theorem q3m : ∀ (x_Course_School : Int) (x_Course_Code : ByteArray) (x_Credits x_Grade x_Day : Int) (x_Sources : List Int) (x_Bundle : Int) (x_Path : List Int), ev 54 0 [R.agg [dI x_Course_School, dS x_Course_Code, dI x_Credits, dI x_Grade, dI x_Day, dL 1 eI x_Sources, dI x_Bundle, dL 1 eI x_Path]] [] = some (rI (Zk (qb.mk (qt.mk x_Course_School x_Course_Code) x_Credits x_Grade x_Day x_Sources x_Bundle x_Path)), []) :=
  fun x_Course_School x_Course_Code x_Credits x_Grade x_Day x_Sources x_Bundle x_Path => by
    have h : ev 54 0 [R.agg [dI x_Course_School, dS x_Course_Code, dI x_Credits, dI x_Grade, dI x_Day, dL 1 eI x_Sources, dI x_Bundle, dL 1 eI x_Path]] [] = (ZU (qb.mk (qt.mk x_Course_School x_Course_Code) x_Credits x_Grade x_Day x_Sources x_Bundle x_Path)).bind (fun (e : Int) => some (rI e, [])) := by
      rw [qu qrQ qwW.2.2.2 qyr]
      have := qzM; have := @ZU.eq_1; exact gA
    rw [q2p] at h
    exact h
end Go.Proofs.YtplfjlcnffcenaaGreat.Vc
namespace Go.Proofs.YtplfjlcnffcenaaGreat.Vc
open Go.RowKit
set_option linter.unusedVariables false
set_option linter.unusedSimpArgs false
set_option maxRecDepth 20000
set_option maxHeartbeats 8000000
set_option linter.defProp false
noncomputable def zg (t8 : List qb) (t9 : Int) : (List Int × Int) → Option ((List Int × Int) ⊕ (List Int)) | (out, t10) => if t10 < t9 then if 0 ≤ t10 ∧ t10 < ((t8.length : Nat) : Int) then Option.bind t8[Int.toNat t10]? fun (a : qb) => if out.length + 1 ≤ Go.maxLen ∧ (out.length + 1) * 8 ≤ 140737488355328 then some (Sum.inl (out ++ [Zk a], w64 (t10 + 1))) else none else none else some (Sum.inr out)
theorem JY : ∀ (out : List Int) (t8 : List qb) (t9 t10 : Int) (zr : Nat), zr = out.length → XL2 evo 51 0 3 ⟨[(1, R.c (C.fn 54 [] [])), (5, rO 0 1 zr), (8, rL 8 qc t8), (9, rI t9), (10, rI t10)], [(0, bR 3 1 eI out)], 1, 22⟩ = (qA (zg t8 t9) (out, t10)).bind (fun (e : List Int) => some (Go.Exit.exit 0, ⟨[(5, rO 0 1 e.length)], [(0, bR 3 1 eI e)], 1, 22⟩)) :=
  by
  intro out t8 t9 t10 zr h0
  subst h0
  revert t10; revert out; exact q7B qd1 qdi (fun e => by exact ⟨_, rfl, fun h => by cases h⟩) fun out t10 => by
    have := qm7; have := @q8b.eq_1; have := @q3m; have := @zg.eq_1; exact gA
theorem Js : ∀  (t8 : List qb) (t9 t10 : Int), XL2 evo 51 0 3 ⟨[(1, R.c (C.fn 54 [] [])), (5, rO 0 1 0), (8, rL 8 qc t8), (9, rI t9), (10, rI t10)], [(0, B.row 3 1 [])], 1, 22⟩ = (qA (zg t8 t9) ([], t10)).bind (fun (e : List Int) => some (Go.Exit.exit 0, ⟨[(5, rO 0 1 e.length)], [(0, bR 3 1 eI e)], 1, 22⟩)) := by
  intro t8 t9 t10; have h := JY [] t8 t9 t10 _ rfl
  first
    | exact h
    | (simp only [rL, dL, bR, bZ, Nat.reduceAdd] at h; exact h)
noncomputable def Qe (l : List qb) : Option (List Int) := Option.bind (qA (zg l ((l.length : Nat) : Int)) ([], 0)) fun (a : List Int) => some a
theorem q0X : ∀ (l : List qb), ev 51 0 [rL 8 qc l, R.c (C.fn 54 [] [])] [] = (Qe l).bind (fun (e : List Int) => some (rL 1 eI e, [])) :=
  fun l => by
    rw [qu qku qrq.2.2.2 qrF]
    have := qm7; have := @Js; have := @Qe.eq_1; exact gA
theorem qyT : okL 53 qaB := qw (qg qrD) (by kernel_rfl) (by kernel_rfl)
def qz6 := JA_ @qaB.eq_1 (JA_ @Tryz.f53.eq_1 @qrD)
theorem qwe : okL 86 q82 := qw (qg qnz) (by kernel_rfl) (by kernel_rfl)
def qwM := JA_ @q82.eq_1 (JA_ @Tryz.f86.eq_1 @qnz)
theorem qoe : lbO 86 2 = qcQ := zo (qg qnz) rfl
theorem qqM : okL 86 qcQ := qH qwe (List.mem_of_getElem? (i := 0) (by kernel_rfl))
noncomputable def zB (w1 : List Int) (s : qf) (t10 : Int) : Int → Option (Int ⊕ (Unit ⊕ Unit)) | t11 => if t11 < t10 then if 0 ≤ t11 ∧ t11 < ((w1.length : Nat) : Int) then Option.bind w1[Int.toNat t11]? fun (a : Int) => if (qk a (-1000) 1000 != a) = Bool.true then some (Sum.inr (Sum.inl ())) else some (Sum.inl (w64 (t11 + 1))) else none else some (Sum.inr (Sum.inr ()))
theorem q2o : ∀ (w1 : List Int) (s_Worst s_Best s_Pass t10 t11 : Int) (w1_len : Nat), w1_len = w1.length → XL2 evo 86 0 2 ⟨[(1, rP 0), (9, rO 1 1 w1_len), (10, rI t10), (11, rI t11)], [(0, B.blk 32 [dI s_Worst, dI s_Best, dI s_Pass]), (1, bR 3 1 eI w1)], 2, 37⟩ = (qA (zB w1 (qf.mk s_Worst s_Best s_Pass) t10) t11).bind (Sum.elim (fun (e : Unit) => some (Go.Exit.ret, ⟨[(1, rP 0), (2, rI 10)], [(0, B.blk 32 [dI s_Worst, dI s_Best, dI s_Pass])], 1, 37⟩)) (fun (e : Unit) => some (Go.Exit.exit 0, ⟨[(1, rP 0), (2, R.any)], [(0, B.blk 32 [dI s_Worst, dI s_Best, dI s_Pass])], 1, 37⟩))) :=
  by
  intro w1 s_Worst s_Best s_Pass t10 t11 w1_len h0
  subst h0
  revert t11; exact q4j qoe qqM (fun e => by rcases e with _ | _ <;> exact ⟨_, rfl, fun h => by cases h⟩) fun x => by
    have := qwM; have := @qcQ.eq_1; have := @zH; have := @zB.eq_1; exact gA
theorem q1e : ∀ (w10 w11 s_Worst s_Best s_Pass t10 t11 : Int), XL2 evo 86 0 2 ⟨[(1, rP 0), (9, rO 1 1 2), (10, rI t10), (11, rI t11)], [(0, B.blk 32 [dI s_Worst, dI s_Best, dI s_Pass]), (1, B.row 3 1 [dI w10, dI w11])], 2, 37⟩ = (qA (zB [w10, w11] (qf.mk s_Worst s_Best s_Pass) t10) t11).bind (Sum.elim (fun (e : Unit) => some (Go.Exit.ret, ⟨[(1, rP 0), (2, rI 10)], [(0, B.blk 32 [dI s_Worst, dI s_Best, dI s_Pass])], 1, 37⟩)) (fun (e : Unit) => some (Go.Exit.exit 0, ⟨[(1, rP 0), (2, R.any)], [(0, B.blk 32 [dI s_Worst, dI s_Best, dI s_Pass])], 1, 37⟩))) := by
  intro w10 w11 s_Worst s_Best s_Pass t10 t11; have h := q2o [w10, w11] ((qf.mk s_Worst s_Best s_Pass)).Worst ((qf.mk s_Worst s_Best s_Pass)).Best ((qf.mk s_Worst s_Best s_Pass)).Pass t10 t11 _ rfl
  first
    | exact h
    | (simp only [rL, dL, bR, bZ, Nat.reduceAdd] at h; exact h)
noncomputable def Zj (s : qf) : Option Int := Option.bind (qA (zB [s.Worst, s.Best] s 2) 0) fun (a : Sum Unit Unit) => Sum.elim (fun (a2 : Unit) => some 10) (fun (a3 : Unit) => if (s.Worst == s.Best) = Bool.true then some 10 else if (qk s.Pass s.Worst s.Best != s.Pass) = Bool.true then some 10 else some 0) a
theorem q0Y : ∀ (s_Worst s_Best s_Pass : Int), ev 86 0 [R.agg [dI s_Worst, dI s_Best, dI s_Pass]] [] = (Zj (qf.mk s_Worst s_Best s_Pass)).bind (fun (e : Int) => some (rI e, [])) :=
  fun s_Worst s_Best s_Pass => by
    rw [qu qnz qwC.2.2.2 qwe]
    have := qwM; have := @q1e; have := @zH; have := @Zj.eq_1; exact gA
theorem qvi : okL 87 q88 := qw (qg qnK) (by kernel_rfl) (by kernel_rfl)
def qwy := JA_ @q88.eq_1 (JA_ @Tryz.f87.eq_1 @qnK)
theorem qnX : lbO 87 8 = qef := zo (qg qnK) rfl
theorem qon : okL 87 qef := qH qvi (List.mem_of_getElem? (i := 0) (by kernel_rfl))
theorem quG : okL 108 q7r := qw (qg qgf) (by kernel_rfl) (by kernel_rfl)
def qug := JA_ @q7r.eq_1 (JA_ @Tryz.f108.eq_1 @qgf)
noncomputable def Jd (g : Int) (n : Int) (v : Int) (v2 : Int) : Option (Bool × Int × Int) := if (qk g (-1000) 1000 == g) = Bool.true then some (qk n 1 60 == n, w64 (v + w64 (g * n)), w64 (v2 + n)) else some (Bool.false, w64 (v + w64 (g * n)), w64 (v2 + n))
noncomputable def qE (g : Int) (n : Int) (v : Int) (v2 : Int) : Bool × Int × Int := if (qk g (-1000) 1000 == g) = Bool.true then (qk n 1 60 == n, w64 (v + w64 (g * n)), w64 (v2 + n)) else (Bool.false, w64 (v + w64 (g * n)), w64 (v2 + n))
theorem q3l (g n v v2 : Int) : Jd g n v v2 = some (qE g n v v2) := by
  unfold Jd qE
  simp only [za]
theorem q4n : ∀ (g n v v2 : Int), ev 108 2 [rI g, rI n, rP 0, rP 1] [(0, B.blk 3 [dI v]), (1, B.blk 3 [dI v2])] = some (rB (qE g n v v2).1, [(0, B.blk 3 [dI (qE g n v v2).2.1]), (1, B.blk 3 [dI (qE g n v v2).2.2])]) :=
  fun g n v v2 => by
    have h : ev 108 2 [rI g, rI n, rP 0, rP 1] [(0, B.blk 3 [dI v]), (1, B.blk 3 [dI v2])] = (Jd g n v v2).bind (fun (e : Bool × Int × Int) => some (rB e.1, [(0, B.blk 3 [dI e.2.1]), (1, B.blk 3 [dI e.2.2])])) := by
      rw [qu qgf qqP.2.2.2 quG]
      have := qug; have := @zH; have := @Jd.eq_1; exact gA
    rw [q3l] at h
    exact h
noncomputable def zK (b0 : qq) (credits : List Int) (t29 : List Int) (t30 : Int) : (Int × Int × Int) → Option ((Int × Int × Int) ⊕ ((qq × Int × Int) ⊕ (Int × Int))) | (sum, all, t31) => if t31 < t30 then if 0 ≤ t31 ∧ t31 < ((t29.length : Nat) : Int) then Option.bind t29[Int.toNat t31]? fun (a : Int) => if 0 ≤ t31 ∧ t31 < ((credits.length : Nat) : Int) then Option.bind credits[Int.toNat t31]? fun (a2 : Int) => if (!(qE a a2 sum all).1) = Bool.true then some (Sum.inr (Sum.inl (qq.mk 0 0, (qE a a2 sum all).2.1, (qE a a2 sum all).2.2))) else some (Sum.inl ((qE a a2 sum all).2.1, (qE a a2 sum all).2.2, w64 (t31 + 1))) else none else none else some (Sum.inr (Sum.inr (sum, all)))
theorem q3i : ∀ (b0_N b0_D sum all : Int) (credits t29 : List Int) (t30 t31 : Int), XL2 evo 87 0 8 ⟨[(1, rL 1 eI credits), (4, rP 0), (6, rP 1), (7, rP 2), (8, R.c (C.fn 108 [] [dP 1, dP 2])), (29, rL 1 eI t29), (30, rI t30), (31, rI t31)], [(0, B.blk 125 [dI b0_N, dI b0_D]), (1, B.blk 3 [dI sum]), (2, B.blk 3 [dI all])], 3, 51⟩ = (qA (zK (qq.mk b0_N b0_D) credits t29 t30) (sum, all, t31)).bind (Sum.elim (fun (e : qq × Int × Int) => some (Go.Exit.ret, ⟨[(4, rP 0), (5, rI 3), (6, rP 1), (7, rP 2)], [(0, B.blk 125 [dI e.1.N, dI e.1.D]), (1, B.blk 3 [dI e.2.1]), (2, B.blk 3 [dI e.2.2])], 3, 51⟩)) (fun (e : Int × Int) => some (Go.Exit.exit 1, ⟨[(4, rP 0), (5, R.any), (6, rP 1), (7, rP 2)], [(0, B.blk 125 [dI b0_N, dI b0_D]), (1, B.blk 3 [dI e.1]), (2, B.blk 3 [dI e.2])], 3, 51⟩))) :=
  fun b0_N b0_D sum all credits t29 t30 t31 => by
    revert t31; revert all; revert sum; exact qtS qnX qon (fun e => by rcases e with _ | _ <;> exact ⟨_, rfl, fun h => by cases h⟩) fun sum all t31 => by
      have := qwy; have := @qef.eq_1; have := @q4n; have := @zK.eq_1; exact gA
theorem quq : okL 109 q7c := qw (qg qgt) (by kernel_rfl) (by kernel_rfl)
def qut := JA_ @q7c.eq_1 (JA_ @Tryz.f109.eq_1 @qgt)
theorem qtt : okL 128 q74 := qw (qg qgQ) (by kernel_rfl) (by kernel_rfl)
def qtw := JA_ @q74.eq_1 (JA_ @Tryz.f128.eq_1 @qgQ)
noncomputable def q08 (n : Int) : Option Int := if n < 0 then some (Go.IntKind.wrap Go.IntKind.u64 (0 - Go.IntKind.wrap Go.IntKind.u64 n)) else some (Go.IntKind.wrap Go.IntKind.u64 n)
noncomputable def qx (n : Int) : Int := if n < 0 then Go.IntKind.wrap Go.IntKind.u64 (0 - Go.IntKind.wrap Go.IntKind.u64 n) else Go.IntKind.wrap Go.IntKind.u64 n
theorem q4P (n : Int) : q08 n = some (qx n) := by
  unfold q08 qx
  simp only [za]
theorem q5Z : ∀ (n : Int), ev 128 0 [rI n] [] = some (R.c (C.d (D.int .u64 (qx n))), []) :=
  fun n => by
    have h : ev 128 0 [rI n] [] = (q08 n).bind (fun (e : Int) => some (R.c (C.d (D.int .u64 e)), [])) := by
      rw [qu qgQ qqR.2.2.2 qtt]
      have := qtw; have := @q08.eq_1; exact gA
    rw [q4P] at h
    exact h
theorem qk8 : okL 127 q3A := qw (qg qbD) (by kernel_rfl) (by kernel_rfl)
def qjw := JA_ @q3A.eq_1 (JA_ @Tryz.f127.eq_1 @qbD)
theorem qlH : lbO 127 3 = qa2 := zo (qg qbD) rfl
theorem qki : okL 127 qa2 := qH qk8 (List.mem_of_getElem? (i := 0) (by kernel_rfl))
theorem qlv : lbO 127 5 = q97 := zo (qg qbD) rfl
theorem qlF : okL 127 q97 := qH qk8 (List.mem_of_getElem? (i := 1) (by kernel_rfl))
noncomputable def Qz (t6 : List Int) (t7 : Int) (t8 : Int) : (Int × Int) → Option ((Int × Int) ⊕ Int) | (a, b) => if (b != 0) = Bool.true then if b = 0 then none else some (Sum.inl (b, Int.tmod a b)) else some (Sum.inr a)
theorem q3V : ∀ (a b : Int) (t6 : List Int) (t7 t8 : Int), XL2 evo 127 0 5 ⟨[(3, R.c (C.d (D.int .u64 a))), (5, R.c (C.d (D.int .u64 b))), (6, rL 1 qmc t6), (7, rI t7), (8, rI t8)], [], 0, 20⟩ = (qA (Qz t6 t7 t8) (a, b)).bind (fun (e : Int) => some (Go.Exit.exit 2, ⟨[(3, R.c (C.d (D.int .u64 e))), (6, rL 1 qmc t6), (7, rI t7), (8, rI t8)], [], 0, 20⟩)) :=
  fun a b t6 t7 t8 => by
    revert b; revert a; exact q7B qlv qlF (fun e => by exact ⟨_, rfl, fun h => by cases h⟩) fun a b => by
      have := qjw; have := @q97.eq_1; have := @Qz.eq_1; exact gA
noncomputable def Q2 (t6 : List Int) (t7 : Int) : (Int × Int) → Option ((Int × Int) ⊕ Int) | (a, t8) => if t8 < t7 then if 0 ≤ t8 ∧ t8 < ((t6.length : Nat) : Int) then Option.bind t6[Int.toNat t8]? fun (a2 : Int) => Option.bind (qA (Qz t6 t7 t8) (a, a2)) fun (a3 : Int) => some (Sum.inl (a3, w64 (t8 + 1))) else none else some (Sum.inr a)
theorem q48 : ∀ (a : Int) (t6 : List Int) (t7 t8 : Int), XL2 evo 127 0 3 ⟨[(3, R.c (C.d (D.int .u64 a))), (6, rL 1 qmc t6), (7, rI t7), (8, rI t8)], [], 0, 20⟩ = (qA (Q2 t6 t7) (a, t8)).bind (fun (e : Int) => some (Go.Exit.exit 0, ⟨[(3, R.c (C.d (D.int .u64 e)))], [], 0, 20⟩)) :=
  fun a t6 t7 t8 => by
    revert t8; revert a; exact q7B qlH qki (fun e => by exact ⟨_, rfl, fun h => by cases h⟩) fun a t8 => by
      have := qjw; have := @qa2.eq_1; have := @q3V; have := @Q2.eq_1; exact gA
noncomputable def ZA (l : List Int) : Option Int := Option.bind (qA (Q2 l ((l.length : Nat) : Int)) (0, 0)) fun (a : Int) => some a
theorem q6e : ∀ (l : List Int), ev 127 0 [rL 1 qmc l] [] = (ZA l).bind (fun (e : Int) => some (R.c (C.d (D.int .u64 e)), [])) :=
  fun l => by
    rw [qu qbD qoB.2.2.2 qk8]
    have := qjw; have := @q48; have := @ZA.eq_1; exact gA
theorem q3T : ∀ (l0 l1 : Int) , ev 127 0 [R.c (C.d (D.sl 1 2 [D.int .u64 l0, D.int .u64 l1]))] [] = (ZA [l0, l1]).bind (fun (e : Int) => some (R.c (C.d (D.int .u64 e)), [])) := by
  intro l0 l1; have h := q6e [l0, l1]
  first
    | exact h
    | (simp only [rL, dL, bR, bZ, Nat.reduceAdd] at h; exact h)
noncomputable def ZC (n : Int) (d : Int) : Option (qq × Int) := if (d == 0) = Bool.true then some (qq.mk 0 0, 1) else Option.bind (ZA [qx n, qx d]) fun (a : Int) => if a = 0 then none else if a = 0 then none else if 1073741824 < Go.IntKind.wrap Go.IntKind.u64 (Int.tdiv (qx n) a) then some (qq.mk 0 0, 3) else if 1073741824 < Go.IntKind.wrap Go.IntKind.u64 (Int.tdiv (qx d) a) then some (qq.mk 0 0, 3) else if (!(decide (n < 0) == decide (d < 0))) = Bool.true then some (qq.mk (w64 (0 - w64 (Go.IntKind.wrap Go.IntKind.u64 (Int.tdiv (qx n) a)))) (w64 (Go.IntKind.wrap Go.IntKind.u64 (Int.tdiv (qx d) a))), 0) else some (qq.mk (w64 (Go.IntKind.wrap Go.IntKind.u64 (Int.tdiv (qx n) a))) (w64 (Go.IntKind.wrap Go.IntKind.u64 (Int.tdiv (qx d) a))), 0)
theorem q7v : ∀ (n d : Int), ev 109 0 [rI n, rI d] [] = (ZC n d).bind (fun (e : qq × Int) => some (R.tup [R.agg [dI e.1.N, dI e.1.D], rI e.2], [])) :=
  fun n d => by
    rw [qu qgt qmm.2.2.2 quq]
    have := qut; have := @q5Z; have := @q3T; have := @ZC.eq_1; exact gA
noncomputable def Zg (grades : List Int) (credits : List Int) : Option (qq × Int) := if (((grades.length : Nat) : Int) != ((credits.length : Nat) : Int)) = Bool.true then some (qq.mk 0 0, 1) else if (((grades.length : Nat) : Int) == 0) = Bool.true then some (qq.mk 0 0, 1) else if 2000 < ((grades.length : Nat) : Int) then some (qq.mk 0 0, 2) else Option.bind (qA (zK (qq.mk 0 0) credits grades ((grades.length : Nat) : Int)) (0, (0, 0))) fun (a : Sum (Prod qq (Prod Int Int)) (Prod Int Int)) => Sum.elim (fun (a2 : Prod qq (Prod Int Int)) => some (a2.1, 3)) (fun (a3 : Prod Int Int) => Option.bind (ZC a3.1 a3.2) fun (e0 : Prod qq Int) => some (e0.1, e0.2)) a
theorem q66 : ∀ (grades credits : List Int), ev 87 0 [rL 1 eI grades, rL 1 eI credits] [] = (Zg grades credits).bind (fun (e : qq × Int) => some (R.tup [R.agg [dI e.1.N, dI e.1.D], rI e.2], [])) :=
  fun grades credits => by
    rw [qu qnK qvp.2.2.2 qvi]
    have := qwy; have := @q3i; have := @q7v; have := @Zg.eq_1; exact gA
theorem qxQ : okL 88 qao := qw (qg qrw) (by kernel_rfl) (by kernel_rfl)
def qzx := JA_ @qao.eq_1 (JA_ @Tryz.f88.eq_1 @qrw)
theorem qtL : okL 110 q77 := qw (qg qg6) (by kernel_rfl) (by kernel_rfl)
def qui := JA_ @q77.eq_1 (JA_ @Tryz.f110.eq_1 @qg6)
theorem q1U : ev 110 0 [] [] = some (R.agg [C.nilf, C.fn 129 [] [], C.fn 130 [] [], C.fn 131 [] [], C.fn 132 [] []], []) :=
  by
    rw [qu qg6 qp0.2.2.2 qtL]
    have := qui; exact gA
theorem qu4 : okL 129 q7C := qw (qg qgo) (by kernel_rfl) (by kernel_rfl)
def qt8 := JA_ @q7C.eq_1 (JA_ @Tryz.f129.eq_1 @qgo)
noncomputable def QS (low : Int) (rest : Int) (d : Int) : Option Unit :=
  some ()
noncomputable def Jn (low : Int) (rest : Int) (d : Int) : Unit :=
  ()
theorem q0I (low rest d : Int) : QS low rest d = some (Jn low rest d) := by
  unfold QS Jn
  simp only [za]
theorem q13 : ∀ (low rest d : Int), ev 129 0 [rI low, rI rest, rI d] [] = some (rB Bool.false, []) :=
  fun low rest d => by
    have h : ev 129 0 [rI low, rI rest, rI d] [] = (QS low rest d).bind (fun (e : Unit) => some (rB Bool.false, [])) := by
      rw [qu qgo qox.2.2.2 qu4]
      have := qt8; have := @QS.eq_1; exact gA
    rw [q0I] at h
    exact h
theorem qt5 : okL 130 q7d := qw (qg qgZ) (by kernel_rfl) (by kernel_rfl)
def qsI := JA_ @q7d.eq_1 (JA_ @Tryz.f130.eq_1 @qgZ)
noncomputable def QX (low : Int) (rest : Int) (d : Int) : Option Bool :=
  some (decide (0 < rest))
noncomputable def zy (low : Int) (rest : Int) (d : Int) : Bool :=
  decide (0 < rest)
theorem q0M (low rest d : Int) : QX low rest d = some (zy low rest d) := by
  unfold QX zy
  simp only [za]
theorem q17 : ∀ (low rest d : Int), ev 130 0 [rI low, rI rest, rI d] [] = some (rB (zy low rest d), []) :=
  fun low rest d => by
    have h : ev 130 0 [rI low, rI rest, rI d] [] = (QX low rest d).bind (fun (e : Bool) => some (rB e, [])) := by
      rw [qu qgZ qoN.2.2.2 qt5]
      have := qsI; have := @QX.eq_1; exact gA
    rw [q0M] at h
    exact h
theorem qul : okL 131 q7g := qw (qg qgB) (by kernel_rfl) (by kernel_rfl)
def qsy := JA_ @q7g.eq_1 (JA_ @Tryz.f131.eq_1 @qgB)
noncomputable def QP (low : Int) (rest : Int) (d : Int) : Option Bool :=
  some (decide (d ≤ w64 (2 * rest)))
noncomputable def zz (low : Int) (rest : Int) (d : Int) : Bool :=
  decide (d ≤ w64 (2 * rest))
theorem q0T (low rest d : Int) : QP low rest d = some (zz low rest d) := by
  unfold QP zz
  simp only [za]
theorem q1f : ∀ (low rest d : Int), ev 131 0 [rI low, rI rest, rI d] [] = some (rB (zz low rest d), []) :=
  fun low rest d => by
    have h : ev 131 0 [rI low, rI rest, rI d] [] = (QP low rest d).bind (fun (e : Bool) => some (rB e, [])) := by
      rw [qu qgB qmr.2.2.2 qul]
      have := qsy; have := @QP.eq_1; exact gA
    rw [q0T] at h
    exact h
theorem qu8 : okL 132 q7O := qw (qg qgu) (by kernel_rfl) (by kernel_rfl)
def quS := JA_ @q7O.eq_1 (JA_ @Tryz.f132.eq_1 @qgu)
noncomputable def QW (low : Int) (rest : Int) (d : Int) : Option Bool := if d < w64 (2 * rest) then some Bool.true else if (w64 (2 * rest) == d) = Bool.true then some (Int.tmod low 2 != 0) else some Bool.false
noncomputable def zx (low : Int) (rest : Int) (d : Int) : Bool := if d < w64 (2 * rest) then Bool.true else if (w64 (2 * rest) == d) = Bool.true then Int.tmod low 2 != 0 else Bool.false
theorem q0N (low rest d : Int) : QW low rest d = some (zx low rest d) := by
  unfold QW zx
  simp only [za]
theorem q1b : ∀ (low rest d : Int), ev 132 0 [rI low, rI rest, rI d] [] = some (rB (zx low rest d), []) :=
  fun low rest d => by
    have h : ev 132 0 [rI low, rI rest, rI d] [] = (QW low rest d).bind (fun (e : Bool) => some (rB e, [])) := by
      rw [qu qgu qmV.2.2.2 qu8]
      have := quS; have := @QW.eq_1; exact gA
    rw [q0N] at h
    exact h
noncomputable def Z9 (n : Int) (d : Int) (how : Int) : Option Int := if d = 0 then none else if d = 0 then none else if Int.tmod n d < 0 then if 0 ≤ how ∧ how < 5 then if Int.toNat how ≤ 4 then if Int.toNat how = 0 then none else if Int.toNat how = 1 then some (w64 (w64 (Int.tdiv n d) - 1)) else if Int.toNat how = 2 then if zy (w64 (w64 (Int.tdiv n d) - 1)) (w64 (n - w64 (w64 (w64 (Int.tdiv n d) - 1) * d))) d = Bool.true then some (w64 (w64 (w64 (Int.tdiv n d) - 1) + 1)) else some (w64 (w64 (Int.tdiv n d) - 1)) else if Int.toNat how = 3 then if zz (w64 (w64 (Int.tdiv n d) - 1)) (w64 (n - w64 (w64 (w64 (Int.tdiv n d) - 1) * d))) d = Bool.true then some (w64 (w64 (w64 (Int.tdiv n d) - 1) + 1)) else some (w64 (w64 (Int.tdiv n d) - 1)) else if Int.toNat how = 4 then if zx (w64 (w64 (Int.tdiv n d) - 1)) (w64 (n - w64 (w64 (w64 (Int.tdiv n d) - 1) * d))) d = Bool.true then some (w64 (w64 (w64 (Int.tdiv n d) - 1) + 1)) else some (w64 (w64 (Int.tdiv n d) - 1)) else none else none else none else if 0 ≤ how ∧ how < 5 then if Int.toNat how ≤ 4 then if Int.toNat how = 0 then none else if Int.toNat how = 1 then some (w64 (Int.tdiv n d)) else if Int.toNat how = 2 then if zy (w64 (Int.tdiv n d)) (w64 (n - w64 (w64 (Int.tdiv n d) * d))) d = Bool.true then some (w64 (w64 (Int.tdiv n d) + 1)) else some (w64 (Int.tdiv n d)) else if Int.toNat how = 3 then if zz (w64 (Int.tdiv n d)) (w64 (n - w64 (w64 (Int.tdiv n d) * d))) d = Bool.true then some (w64 (w64 (Int.tdiv n d) + 1)) else some (w64 (Int.tdiv n d)) else if Int.toNat how = 4 then if zx (w64 (Int.tdiv n d)) (w64 (n - w64 (w64 (Int.tdiv n d) * d))) d = Bool.true then some (w64 (w64 (Int.tdiv n d) + 1)) else some (w64 (Int.tdiv n d)) else none else none else none
theorem q3j : ∀ (n d how : Int), ev 88 0 [rI n, rI d, rI how] [] = (Z9 n d how).bind (fun (e : Int) => some (rI e, [])) :=
  fun n d how => by
    rw [qu qrw qvK.2.2.2 qxQ]
    have := qzx; have := @q1U; have := @q13; have := @q17; have := @q1f; have := @q1b; have := @Z9.eq_1; exact gA
noncomputable def Zf (c : qd) (to : qf) (grades : List Int) (credits : List Int) : Option (Int × Int) := if (qp c != 0) = Bool.true then some (0, qp c) else Option.bind (Zj to) fun (a : Int) => if (a != 0) = Bool.true then some (0, a) else Option.bind (Zg grades credits) fun (a2 : Prod qq Int) => if (a2.2 != 0) = Bool.true then some (0, a2.2) else Option.bind (Z9 (w64 (w64 (a2.1.N * c.Num) + w64 (c.Add * a2.1.D))) (w64 (a2.1.D * c.Den)) c.Round) fun (a3 : Int) => some (qk a3 to.Worst to.Best, 0)
theorem q38 : ∀ (c_Num c_Add c_Den c_Round to_Worst to_Best to_Pass : Int) (grades credits : List Int), ev 53 0 [R.agg [dI c_Num, dI c_Add, dI c_Den, dI c_Round], R.agg [dI to_Worst, dI to_Best, dI to_Pass], rL 1 eI grades, rL 1 eI credits] [] = (Zf (qd.mk c_Num c_Add c_Den c_Round) (qf.mk to_Worst to_Best to_Pass) grades credits).bind (fun (e : Int × Int) => some (R.tup [rI e.1, rI e.2], [])) :=
  fun c_Num c_Add c_Den c_Round to_Worst to_Best to_Pass grades credits => by
    rw [qu qrD qw6.2.2.2 qyT]
    have := qz6; have := @Jv; have := @q0Y; have := @q66; have := @q3j; have := @zH; have := @Zf.eq_1; exact gA
theorem qzT : okL 55 qb9 := qw (qg qrK) (by kernel_rfl) (by kernel_rfl)
def qzk := JA_ @qb9.eq_1 (JA_ @Tryz.f55.eq_1 @qrK)
theorem qz7 : okL 89 qbq := qw (qg qru) (by kernel_rfl) (by kernel_rfl)
def qxG := JA_ @qbq.eq_1 (JA_ @Tryz.f89.eq_1 @qru)
theorem qsU : okL 111 q7j := qw (qg qh0) (by kernel_rfl) (by kernel_rfl)
def qta := JA_ @q7j.eq_1 (JA_ @Tryz.f111.eq_1 @qh0)
noncomputable def Jx (s : qf) (g : Int) : Option Bool := Option.bind (Zj s) fun (a : Int) => if (a == 0) = Bool.true then some (qk g s.Worst s.Best == g) else some Bool.false
theorem q4A : ∀ (s_Worst s_Best s_Pass g : Int), ev 111 0 [R.agg [dI s_Worst, dI s_Best, dI s_Pass], rI g] [] = (Jx (qf.mk s_Worst s_Best s_Pass) g).bind (fun (e : Bool) => some (rB e, [])) :=
  fun s_Worst s_Best s_Pass g => by
    rw [qu qh0 qpa.2.2.2 qsU]
    have := qta; have := @q0Y; have := @zH; have := @Jx.eq_1; exact gA
noncomputable def ZV (s : qf) (g : Int) (min : Int) : Option Bool := Option.bind (Jx s g) fun (a : Bool) => if a = Bool.true then if (g == min) = Bool.true then some Bool.true else some (decide (min < g) == decide (s.Worst < s.Best)) else some Bool.false
theorem q3n : ∀ (s_Worst s_Best s_Pass g min : Int), ev 89 0 [R.agg [dI s_Worst, dI s_Best, dI s_Pass], rI g, rI min] [] = (ZV (qf.mk s_Worst s_Best s_Pass) g min).bind (fun (e : Bool) => some (rB e, [])) :=
  fun s_Worst s_Best s_Pass g min => by
    rw [qu qru qwJ.2.2.2 qz7]
    have := qxG; have := @q4A; have := @ZV.eq_1; exact gA
noncomputable def Zv (s : qf) (g : Int) : Option Bool := Option.bind (ZV s g s.Pass) fun (e0 : Bool) => some e0
theorem q3F : ∀ (s_Worst s_Best s_Pass g : Int), ev 55 0 [R.agg [dI s_Worst, dI s_Best, dI s_Pass], rI g] [] = (Zv (qf.mk s_Worst s_Best s_Pass) g).bind (fun (e : Bool) => some (rB e, [])) :=
  fun s_Worst s_Best s_Pass g => by
    rw [qu qrK qvw.2.2.2 qzT]
    have := qzk; have := @q3n; have := @Zv.eq_1; exact gA
noncomputable def zI (s : List Int) : Option Unit := if s.length ≤ Go.maxLen ∧ s.length * 8 ≤ 140737488355328 then some () else none
theorem q0j : ∀ (s : List Int), ev 61 0 [rL 1 eI s] [] = (zI s).bind (fun (e : Unit) => some (rO 0 1 s.length, [(0, bR 3 1 eI s)])) :=
  fun s => by
    rw [qjm, qwu.2.2.2]
    have := @zI.eq_1; exact gA
noncomputable def zN (b0 : qa) (t2 : List qb) (t9 : Int) (t11 : List Int) (t48 : List qh) (t49 : Int) : (List qb × Int) → Option ((List qb × Int) ⊕ (List qb)) | (w1, t50) => if t50 < t49 then if 0 ≤ t50 ∧ t50 < ((t48.length : Nat) : Int) then Option.bind t48[Int.toNat t50]? fun (a : qh) => Option.bind (ZD t2) fun (a2 : Int) => Option.bind (zI t11) fun (a3 : Unit) => if 0 < ((t2.length : Nat) : Int) then Option.bind t2[0]? fun (a4 : qb) => Option.bind (zI a4.Path) fun (a5 : Unit) => if a4.Path.length + 1 ≤ Go.maxLen ∧ (a4.Path.length + 1) * 8 ≤ 140737488355328 then if w1.length + 1 ≤ Go.maxLen ∧ (w1.length + 1) * 104 ≤ 140737488355328 then some (Sum.inl (w1 ++ [qb.mk (qt.mk b0.To a.Code) a.Credits t9 a2 t11 0 (a4.Path ++ [b0.Id])], w64 (t50 + 1))) else none else none else none else none else some (Sum.inr w1)
theorem q29 : ∀ (w1 : List qb) (b0_Id b0_From b0_To b0_Begin b0_End : Int) (b0_In : List ByteArray) (b0_Out : List qh) (b0_Conv_Num b0_Conv_Add b0_Conv_Den b0_Conv_Round : Int) (t2 : List qb) (t9 : Int) (t11 : List Int) (t48 : List qh) (t49 t50 : Int) (w1_len : Nat), w1_len = w1.length → XL2 evo 18 0 13 ⟨[(2, rL 8 qc t2), (3, rP 0), (9, rI t9), (11, rL 1 eI t11), (13, rO 1 8 w1_len), (48, rL 2 qe t48), (49, rI t49), (50, rI t50)], [(0, B.blk 30 [dI b0_Id, dI b0_From, dI b0_To, dI b0_Begin, dI b0_End, dL 1 eS b0_In, dL 2 qe b0_Out, dI b0_Conv_Num, dI b0_Conv_Add, dI b0_Conv_Den, dI b0_Conv_Round]), (1, bR 53 8 qc w1)], 2, 81⟩ = (qA (zN (qa.mk b0_Id b0_From b0_To b0_Begin b0_End b0_In b0_Out (qd.mk b0_Conv_Num b0_Conv_Add b0_Conv_Den b0_Conv_Round)) t2 t9 t11 t48 t49) (w1, t50)).bind (fun (e : List qb) => some (Go.Exit.exit 0, ⟨[(13, rO 0 8 e.length)], [(0, bR 53 8 qc e)], 1, 81⟩)) :=
  by
  intro w1 b0_Id b0_From b0_To b0_Begin b0_End b0_In b0_Out b0_Conv_Num b0_Conv_Add b0_Conv_Den b0_Conv_Round t2 t9 t11 t48 t49 t50 w1_len h0
  subst h0
  revert t50; revert w1; exact q7B qlm qlq (fun e => by exact ⟨_, rfl, fun h => by cases h⟩) fun w1 t50 => by
    have := qvL; have := @q9N.eq_1; have := @q1t; have := @q0j; have := @zN.eq_1; exact gA
theorem q0H : ∀  (b0_Id b0_From b0_To b0_Begin b0_End : Int) (b0_In : List ByteArray) (b0_Out : List qh) (b0_Conv_Num b0_Conv_Add b0_Conv_Den b0_Conv_Round : Int) (t2 : List qb) (t9 : Int) (t11 : List Int) (t48 : List qh) (t49 t50 : Int), XL2 evo 18 0 13 ⟨[(2, rL 8 qc t2), (3, rP 0), (9, rI t9), (11, rL 1 eI t11), (13, rO 1 8 0), (48, rL 2 qe t48), (49, rI t49), (50, rI t50)], [(0, B.blk 30 [dI b0_Id, dI b0_From, dI b0_To, dI b0_Begin, dI b0_End, dL 1 eS b0_In, dL 2 qe b0_Out, dI b0_Conv_Num, dI b0_Conv_Add, dI b0_Conv_Den, dI b0_Conv_Round]), (1, B.row 53 8 [])], 2, 81⟩ = (qA (zN (qa.mk b0_Id b0_From b0_To b0_Begin b0_End b0_In b0_Out (qd.mk b0_Conv_Num b0_Conv_Add b0_Conv_Den b0_Conv_Round)) t2 t9 t11 t48 t49) ([], t50)).bind (fun (e : List qb) => some (Go.Exit.exit 0, ⟨[(13, rO 0 8 e.length)], [(0, bR 53 8 qc e)], 1, 81⟩)) := by
  intro b0_Id b0_From b0_To b0_Begin b0_End b0_In b0_Out b0_Conv_Num b0_Conv_Add b0_Conv_Den b0_Conv_Round t2 t9 t11 t48 t49 t50; have h := q29 [] ((qa.mk b0_Id b0_From b0_To b0_Begin b0_End b0_In b0_Out (qd.mk b0_Conv_Num b0_Conv_Add b0_Conv_Den b0_Conv_Round))).Id ((qa.mk b0_Id b0_From b0_To b0_Begin b0_End b0_In b0_Out (qd.mk b0_Conv_Num b0_Conv_Add b0_Conv_Den b0_Conv_Round))).From ((qa.mk b0_Id b0_From b0_To b0_Begin b0_End b0_In b0_Out (qd.mk b0_Conv_Num b0_Conv_Add b0_Conv_Den b0_Conv_Round))).To ((qa.mk b0_Id b0_From b0_To b0_Begin b0_End b0_In b0_Out (qd.mk b0_Conv_Num b0_Conv_Add b0_Conv_Den b0_Conv_Round))).Begin ((qa.mk b0_Id b0_From b0_To b0_Begin b0_End b0_In b0_Out (qd.mk b0_Conv_Num b0_Conv_Add b0_Conv_Den b0_Conv_Round))).End ((qa.mk b0_Id b0_From b0_To b0_Begin b0_End b0_In b0_Out (qd.mk b0_Conv_Num b0_Conv_Add b0_Conv_Den b0_Conv_Round))).In ((qa.mk b0_Id b0_From b0_To b0_Begin b0_End b0_In b0_Out (qd.mk b0_Conv_Num b0_Conv_Add b0_Conv_Den b0_Conv_Round))).Out ((qa.mk b0_Id b0_From b0_To b0_Begin b0_End b0_In b0_Out (qd.mk b0_Conv_Num b0_Conv_Add b0_Conv_Den b0_Conv_Round))).Conv.Num ((qa.mk b0_Id b0_From b0_To b0_Begin b0_End b0_In b0_Out (qd.mk b0_Conv_Num b0_Conv_Add b0_Conv_Den b0_Conv_Round))).Conv.Add ((qa.mk b0_Id b0_From b0_To b0_Begin b0_End b0_In b0_Out (qd.mk b0_Conv_Num b0_Conv_Add b0_Conv_Den b0_Conv_Round))).Conv.Den ((qa.mk b0_Id b0_From b0_To b0_Begin b0_End b0_In b0_Out (qd.mk b0_Conv_Num b0_Conv_Add b0_Conv_Den b0_Conv_Round))).Conv.Round t2 t9 t11 t48 t49 t50 _ rfl
  first
    | exact h
    | (simp only [rL, dL, bR, bZ, Nat.reduceAdd] at h; exact h)
noncomputable def ZN (x0 : qa) (x1 : qf) (x2 : List qb) : Option (List qb × Int) := Option.bind (Q3 x0 x2) fun (a : Bool) => if (!a) = Bool.true then some ([], 33) else Option.bind (Qh x2) fun (a2 : List Int) => Option.bind (Qe x2) fun (a3 : List Int) => Option.bind (Zf x0.Conv x1 a2 a3) fun (a4 : Prod Int Int) => if (a4.2 != 0) = Bool.true then some ([], a4.2) else Option.bind (Zv x1 a4.1) fun (a5 : Bool) => if (!a5) = Bool.true then some ([], 0) else Option.bind (Q6 x2) fun (a6 : List (List Int)) => Option.bind (ZE a6) fun (a7 : Prod Bool (List Int)) => if a7.2.length < 4611686018427387904 then Option.bind (qA (zN x0 x2 a4.1 (@q01 a7.2) x0.Out ((x0.Out.length : Nat) : Int)) ([], 0)) fun (a8 : List qb) => some (a8, 0) else none
theorem q4I : ∀ (x0_Id x0_From x0_To x0_Begin x0_End : Int) (x0_In : List ByteArray) (x0_Out : List qh) (x0_Conv_Num x0_Conv_Add x0_Conv_Den x0_Conv_Round x1_Worst x1_Best x1_Pass : Int) (x2 : List qb), ev 18 0 [R.agg [dI x0_Id, dI x0_From, dI x0_To, dI x0_Begin, dI x0_End, dL 1 eS x0_In, dL 2 qe x0_Out, dI x0_Conv_Num, dI x0_Conv_Add, dI x0_Conv_Den, dI x0_Conv_Round], R.agg [dI x1_Worst, dI x1_Best, dI x1_Pass], rL 8 qc x2] [] = (ZN (qa.mk x0_Id x0_From x0_To x0_Begin x0_End x0_In x0_Out (qd.mk x0_Conv_Num x0_Conv_Add x0_Conv_Den x0_Conv_Round)) (qf.mk x1_Worst x1_Best x1_Pass) x2).bind (fun (e : List qb × Int) => some (R.tup [rL 8 qc e.1, rI e.2], [])) :=
  fun x0_Id x0_From x0_To x0_Begin x0_End x0_In x0_Out x0_Conv_Num x0_Conv_Add x0_Conv_Den x0_Conv_Round x1_Worst x1_Best x1_Pass x2 => by
    rw [qu qog qw9.2.2.2 qvg]
    have := qvL; have := @q0g; have := @q0L; have := @q0X; have := @q38; have := @q3F; have := @Ji; have := @q1H; have := @q0H; have := @ZN.eq_1; exact gA
theorem qtk : okL 19 q6U := qw (qg qmd) (by kernel_rfl) (by kernel_rfl)
def quC := JA_ @q6U.eq_1 (JA_ @Tryz.f19.eq_1 @qmd)
theorem qqZ : lbO 19 5 = qea := zo (qg qmd) rfl
theorem qqD : okL 19 qea := qH qtk (List.mem_of_getElem? (i := 0) (by kernel_rfl))
theorem qjE : lbO 19 16 = q9G := zo (qg qmd) rfl
theorem qkK : okL 19 q9G := qH qtk (List.mem_of_getElem? (i := 1) (by kernel_rfl))
theorem qth : okL 22 q6A := qw (qg qm5) (by kernel_rfl) (by kernel_rfl)
def qsG := JA_ @q6A.eq_1 (JA_ @Tryz.f22.eq_1 @qm5)
theorem qrm : lbO 22 4 = qdb := zo (qg qm5) rfl
theorem qmT : okL 22 qdb := qH qth (List.mem_of_getElem? (i := 0) (by kernel_rfl))
theorem qoP : lbO 22 9 = qcq := zo (qg qm5) rfl
theorem qmQ : okL 22 qcq := qH qth (List.mem_of_getElem? (i := 1) (by kernel_rfl))
theorem quB : okL 11 q6V := qw (qg qlZ) (by kernel_rfl) (by kernel_rfl)
def qtv := JA_ @q6V.eq_1 (JA_ @Tryz.f11.eq_1 @qlZ)
theorem qjz : lbO 11 15 = q9O := zo (qg qlZ) rfl
theorem qj2 : okL 11 q9O := qH quB (List.mem_of_getElem? (i := 0) (by kernel_rfl))
theorem qiO : lbO 11 20 = q9s := zo (qg qlZ) rfl
theorem qlS : okL 11 q9s := qH quB (List.mem_of_getElem? (i := 1) (by kernel_rfl))
theorem qzL : okL 42 qb7 := qw (qg qs2) (by kernel_rfl) (by kernel_rfl)
def qxF := JA_ @qb7.eq_1 (JA_ @Tryz.f42.eq_1 @qs2)
noncomputable def JC (day : Int) : Option Bool := if 0 ≤ day then some (decide (day ≤ 100000)) else some Bool.false
noncomputable def QH (day : Int) : Bool := if 0 ≤ day then decide (day ≤ 100000) else Bool.false
theorem q3W (day : Int) : JC day = some (QH day) := by
  unfold JC QH
  simp only [za]
theorem q4z : ∀ (day : Int), ev 42 0 [rI day] [] = some (rB (QH day), []) :=
  fun day => by
    have h : ev 42 0 [rI day] [] = (JC day).bind (fun (e : Bool) => some (rB e, [])) := by
      rw [qu qs2 qv9.2.2.2 qzL]
      have := qxF; have := @JC.eq_1; exact gA
    rw [q3W] at h
    exact h
theorem qvD : okL 43 q8m := qw (qg qnJ) (by kernel_rfl) (by kernel_rfl)
def qvH := JA_ @q8m.eq_1 (JA_ @Tryz.f43.eq_1 @qnJ)
theorem qmA : lbO 43 2 = qdw := zo (qg qnJ) rfl
theorem qqr : okL 43 qdw := qH qvD (List.mem_of_getElem? (i := 0) (by kernel_rfl))
theorem qvZ : okL 84 q8l := qw (qg qrj) (by kernel_rfl) (by kernel_rfl)
def qvU := JA_ @q8l.eq_1 (JA_ @Tryz.f84.eq_1 @qrj)
theorem qor : lbO 84 2 = qdW := zo (qg qrj) rfl
theorem qnB : okL 84 qdW := qH qvZ (List.mem_of_getElem? (i := 0) (by kernel_rfl))
noncomputable def QG (s : ByteArray) : Int → Option (Int ⊕ (Unit ⊕ Unit)) | k => if k < ((ByteArray.size s : Nat) : Int) then if 0 ≤ k then Option.bind (Array.toList (ByteArray.data s))[Int.toNat k]? fun (a : UInt8) => if 65 ≤ ((UInt8.toNat a : Nat) : Int) then if 0 ≤ k then Option.bind (Array.toList (ByteArray.data s))[Int.toNat k]? fun (a2 : UInt8) => if 0 ≤ k then Option.bind (Array.toList (ByteArray.data s))[Int.toNat k]? fun (a3 : UInt8) => if 48 ≤ ((UInt8.toNat a3 : Nat) : Int) then if 0 ≤ k then Option.bind (Array.toList (ByteArray.data s))[Int.toNat k]? fun (a4 : UInt8) => if (!(decide (((UInt8.toNat a2 : Nat) : Int) ≤ 90))) = Bool.true then if (!(decide (((UInt8.toNat a4 : Nat) : Int) ≤ 57))) = Bool.true then some (Sum.inr (Sum.inl ())) else some (Sum.inl (w64 (k + 1))) else some (Sum.inl (w64 (k + 1))) else none else if (!(decide (((UInt8.toNat a2 : Nat) : Int) ≤ 90))) = Bool.true then some (Sum.inr (Sum.inl ())) else some (Sum.inl (w64 (k + 1))) else none else none else if 0 ≤ k then Option.bind (Array.toList (ByteArray.data s))[Int.toNat k]? fun (a5 : UInt8) => if 48 ≤ ((UInt8.toNat a5 : Nat) : Int) then if 0 ≤ k then Option.bind (Array.toList (ByteArray.data s))[Int.toNat k]? fun (a6 : UInt8) => if (!(decide (((UInt8.toNat a6 : Nat) : Int) ≤ 57))) = Bool.true then some (Sum.inr (Sum.inl ())) else some (Sum.inl (w64 (k + 1))) else none else some (Sum.inr (Sum.inl ())) else none else none else some (Sum.inr (Sum.inr ()))
theorem q3a : ∀ (s : ByteArray) (k : Int), XL2 evo 84 0 2 ⟨[(0, rS s), (3, rI k)], [], 0, 46⟩ = (qA (QG s) k).bind (Sum.elim (fun (e : Unit) => some (Go.Exit.ret, ⟨[(0, rS s), (2, rB Bool.false)], [], 0, 46⟩)) (fun (e : Unit) => some (Go.Exit.exit 0, ⟨[(0, rS s), (2, R.any)], [], 0, 46⟩))) :=
  fun s k => by
    revert k; exact q4j qor qnB (fun e => by rcases e with _ | _ <;> exact ⟨_, rfl, fun h => by cases h⟩) fun x => by
      have := qvU; have := @qdW.eq_1; have := @QG.eq_1; exact gA
noncomputable def Jk (s : ByteArray) : Option Bool := Option.bind (qA (QG s) 0) fun (a : Sum Unit Unit) => Sum.elim (fun (a2 : Unit) => some Bool.false) (fun (a3 : Unit) => if 1 ≤ ((ByteArray.size s : Nat) : Int) then some (decide (((ByteArray.size s : Nat) : Int) ≤ 8)) else some Bool.false) a
theorem q5R : ∀ (s : ByteArray), ev 84 0 [rS s] [] = (Jk s).bind (fun (e : Bool) => some (rB e, [])) :=
  fun s => by
    rw [qu qrj qvM.2.2.2 qvZ]
    have := qvU; have := @q3a; have := @Jk.eq_1; exact gA
noncomputable def Q9 (l : List ByteArray) : Int → Option (Int ⊕ (Int ⊕ Unit)) | k => if k < ((l.length : Nat) : Int) then if 0 ≤ k ∧ k < ((l.length : Nat) : Int) then Option.bind l[Int.toNat k]? fun (a : ByteArray) => Option.bind (Jk a) fun (a2 : Bool) => if (!a2) = Bool.true then some (Sum.inr (Sum.inl 12)) else if 0 < k then if 0 ≤ w64 (k - 1) ∧ w64 (k - 1) < ((l.length : Nat) : Int) then Option.bind l[Int.toNat (w64 (k - 1))]? fun (a3 : ByteArray) => if 0 ≤ k ∧ k < ((l.length : Nat) : Int) then Option.bind l[Int.toNat k]? fun (a4 : ByteArray) => if (!(Go.Op.bytesLess (ByteArray.toList a3) (ByteArray.toList a4))) = Bool.true then some (Sum.inr (Sum.inl 7)) else some (Sum.inl (w64 (k + 1))) else none else none else some (Sum.inl (w64 (k + 1))) else none else some (Sum.inr (Sum.inr ()))
theorem q2x : ∀ (l : List ByteArray) (k : Int), XL2 evo 43 0 2 ⟨[(0, rL 1 eS l), (3, rI k)], [], 0, 32⟩ = (qA (Q9 l) k).bind (Sum.elim (fun (e : Int) => some (Go.Exit.ret, ⟨[(2, rI e)], [], 0, 32⟩)) (fun (e : Unit) => some (Go.Exit.exit 0, ⟨[(2, R.any)], [], 0, 32⟩))) :=
  fun l k => by
    revert k; exact q4j qmA qqr (fun e => by rcases e with _ | _ <;> exact ⟨_, rfl, fun h => by cases h⟩) fun x => by
      have := qvH; have := @qdw.eq_1; have := @q5R; have := @Q9.eq_1; exact gA
noncomputable def Q1 (l : List ByteArray) : Option Int := Option.bind (qA (Q9 l) 0) fun (a : Sum Int Unit) => Sum.elim (fun (a2 : Int) => some a2) (fun (a3 : Unit) => some 0) a
theorem q4Q : ∀ (l : List ByteArray), ev 43 0 [rL 1 eS l] [] = (Q1 l).bind (fun (e : Int) => some (rI e, [])) :=
  fun l => by
    rw [qu qnJ qvE.2.2.2 qvD]
    have := qvH; have := @q2x; have := @Q1.eq_1; exact gA
theorem qvf : okL 44 q7Y := qw (qg qpf) (by kernel_rfl) (by kernel_rfl)
def qwZ := JA_ @q7Y.eq_1 (JA_ @Tryz.f44.eq_1 @qpf)
theorem qp8 : lbO 44 3 = qcj := zo (qg qpf) rfl
theorem qre : okL 44 qcj := qH qvf (List.mem_of_getElem? (i := 0) (by kernel_rfl))
noncomputable def Qt (a : qa) : (List ByteArray × Int) → Option ((List ByteArray × Int) ⊕ (List ByteArray)) | (out, k) => if k < ((a.Out.length : Nat) : Int) then if 0 ≤ k ∧ k < ((a.Out.length : Nat) : Int) then Option.bind a.Out[Int.toNat k]? fun (a2 : qh) => if out.length + 1 ≤ Go.maxLen ∧ (out.length + 1) * 16 ≤ 140737488355328 then some (Sum.inl (out ++ [a2.Code], w64 (k + 1))) else none else none else some (Sum.inr out)
theorem q35 : ∀ (out : List ByteArray) (a_Id a_From a_To a_Begin a_End : Int) (a_In : List ByteArray) (a_Out : List qh) (a_Conv_Num a_Conv_Add a_Conv_Den a_Conv_Round k : Int) (zr : Nat), zr = out.length → XL2 evo 44 0 3 ⟨[(1, rP 0), (3, rO 1 1 zr), (4, rI k)], [(0, B.blk 30 [dI a_Id, dI a_From, dI a_To, dI a_Begin, dI a_End, dL 1 eS a_In, dL 2 qe a_Out, dI a_Conv_Num, dI a_Conv_Add, dI a_Conv_Den, dI a_Conv_Round]), (1, bR 9 1 eS out)], 2, 22⟩ = (qA (Qt (qa.mk a_Id a_From a_To a_Begin a_End a_In a_Out (qd.mk a_Conv_Num a_Conv_Add a_Conv_Den a_Conv_Round))) (out, k)).bind (fun (e : List ByteArray) => some (Go.Exit.exit 0, ⟨[(3, rO 0 1 e.length)], [(0, bR 9 1 eS e)], 1, 22⟩)) :=
  by
  intro out a_Id a_From a_To a_Begin a_End a_In a_Out a_Conv_Num a_Conv_Add a_Conv_Den a_Conv_Round k zr h0
  subst h0
  revert k; revert out; exact q7B qp8 qre (fun e => by exact ⟨_, rfl, fun h => by cases h⟩) fun out k => by
    have := qwZ; have := @qcj.eq_1; have := @Qt.eq_1; exact gA
theorem q1g : ∀  (a_Id a_From a_To a_Begin a_End : Int) (a_In : List ByteArray) (a_Out : List qh) (a_Conv_Num a_Conv_Add a_Conv_Den a_Conv_Round k : Int), XL2 evo 44 0 3 ⟨[(1, rP 0), (3, rO 1 1 0), (4, rI k)], [(0, B.blk 30 [dI a_Id, dI a_From, dI a_To, dI a_Begin, dI a_End, dL 1 eS a_In, dL 2 qe a_Out, dI a_Conv_Num, dI a_Conv_Add, dI a_Conv_Den, dI a_Conv_Round]), (1, B.row 9 1 [])], 2, 22⟩ = (qA (Qt (qa.mk a_Id a_From a_To a_Begin a_End a_In a_Out (qd.mk a_Conv_Num a_Conv_Add a_Conv_Den a_Conv_Round))) ([], k)).bind (fun (e : List ByteArray) => some (Go.Exit.exit 0, ⟨[(3, rO 0 1 e.length)], [(0, bR 9 1 eS e)], 1, 22⟩)) := by
  intro a_Id a_From a_To a_Begin a_End a_In a_Out a_Conv_Num a_Conv_Add a_Conv_Den a_Conv_Round k; have h := q35 [] ((qa.mk a_Id a_From a_To a_Begin a_End a_In a_Out (qd.mk a_Conv_Num a_Conv_Add a_Conv_Den a_Conv_Round))).Id ((qa.mk a_Id a_From a_To a_Begin a_End a_In a_Out (qd.mk a_Conv_Num a_Conv_Add a_Conv_Den a_Conv_Round))).From ((qa.mk a_Id a_From a_To a_Begin a_End a_In a_Out (qd.mk a_Conv_Num a_Conv_Add a_Conv_Den a_Conv_Round))).To ((qa.mk a_Id a_From a_To a_Begin a_End a_In a_Out (qd.mk a_Conv_Num a_Conv_Add a_Conv_Den a_Conv_Round))).Begin ((qa.mk a_Id a_From a_To a_Begin a_End a_In a_Out (qd.mk a_Conv_Num a_Conv_Add a_Conv_Den a_Conv_Round))).End ((qa.mk a_Id a_From a_To a_Begin a_End a_In a_Out (qd.mk a_Conv_Num a_Conv_Add a_Conv_Den a_Conv_Round))).In ((qa.mk a_Id a_From a_To a_Begin a_End a_In a_Out (qd.mk a_Conv_Num a_Conv_Add a_Conv_Den a_Conv_Round))).Out ((qa.mk a_Id a_From a_To a_Begin a_End a_In a_Out (qd.mk a_Conv_Num a_Conv_Add a_Conv_Den a_Conv_Round))).Conv.Num ((qa.mk a_Id a_From a_To a_Begin a_End a_In a_Out (qd.mk a_Conv_Num a_Conv_Add a_Conv_Den a_Conv_Round))).Conv.Add ((qa.mk a_Id a_From a_To a_Begin a_End a_In a_Out (qd.mk a_Conv_Num a_Conv_Add a_Conv_Den a_Conv_Round))).Conv.Den ((qa.mk a_Id a_From a_To a_Begin a_End a_In a_Out (qd.mk a_Conv_Num a_Conv_Add a_Conv_Den a_Conv_Round))).Conv.Round k _ rfl
  first
    | exact h
    | (simp only [rL, dL, bR, bZ, Nat.reduceAdd] at h; exact h)
noncomputable def Zb (a : qa) : Option (List ByteArray) := Option.bind (qA (Qt a) ([], 0)) fun (a2 : List ByteArray) => some a2
theorem q5I : ∀ (a_Id a_From a_To a_Begin a_End : Int) (a_In : List ByteArray) (a_Out : List qh) (a_Conv_Num a_Conv_Add a_Conv_Den a_Conv_Round : Int), ev 44 0 [R.agg [dI a_Id, dI a_From, dI a_To, dI a_Begin, dI a_End, dL 1 eS a_In, dL 2 qe a_Out, dI a_Conv_Num, dI a_Conv_Add, dI a_Conv_Den, dI a_Conv_Round]] [] = (Zb (qa.mk a_Id a_From a_To a_Begin a_End a_In a_Out (qd.mk a_Conv_Num a_Conv_Add a_Conv_Den a_Conv_Round))).bind (fun (e : List ByteArray) => some (rL 1 eS e, [])) :=
  fun a_Id a_From a_To a_Begin a_End a_In a_Out a_Conv_Num a_Conv_Add a_Conv_Den a_Conv_Round => by
    rw [qu qpf qwj.2.2.2 qvf]
    have := qwZ; have := @q1g; have := @Zb.eq_1; exact gA
noncomputable def qS (b0 : qa) : Int → Option (Int ⊕ (Unit ⊕ Unit)) | t6 => if t6 < ((b0.Out.length : Nat) : Int) then if 0 ≤ t6 ∧ t6 < ((b0.Out.length : Nat) : Int) then Option.bind b0.Out[Int.toNat t6]? fun (a : qh) => if a.Credits < 1 then some (Sum.inr (Sum.inl ())) else if 0 ≤ t6 ∧ t6 < ((b0.Out.length : Nat) : Int) then Option.bind b0.Out[Int.toNat t6]? fun (a2 : qh) => if 60 < a2.Credits then some (Sum.inr (Sum.inl ())) else some (Sum.inl (w64 (t6 + 1))) else none else none else some (Sum.inr (Sum.inr ()))
theorem q2f : ∀ (b0_Id b0_From b0_To b0_Begin b0_End : Int) (b0_In : List ByteArray) (b0_Out : List qh) (b0_Conv_Num b0_Conv_Add b0_Conv_Den b0_Conv_Round t6 : Int), XL2 evo 11 0 15 ⟨[(1, rP 0), (6, rI t6)], [(0, B.blk 30 [dI b0_Id, dI b0_From, dI b0_To, dI b0_Begin, dI b0_End, dL 1 eS b0_In, dL 2 qe b0_Out, dI b0_Conv_Num, dI b0_Conv_Add, dI b0_Conv_Den, dI b0_Conv_Round])], 1, 137⟩ = (qA (qS (qa.mk b0_Id b0_From b0_To b0_Begin b0_End b0_In b0_Out (qd.mk b0_Conv_Num b0_Conv_Add b0_Conv_Den b0_Conv_Round))) t6).bind (Sum.elim (fun (e : Unit) => some (Go.Exit.ret, ⟨[(1, rP 0), (2, rI 3)], [(0, B.blk 30 [dI b0_Id, dI b0_From, dI b0_To, dI b0_Begin, dI b0_End, dL 1 eS b0_In, dL 2 qe b0_Out, dI b0_Conv_Num, dI b0_Conv_Add, dI b0_Conv_Den, dI b0_Conv_Round])], 1, 137⟩)) (fun (e : Unit) => some (Go.Exit.exit 0, ⟨[(1, rP 0), (2, R.any)], [(0, B.blk 30 [dI b0_Id, dI b0_From, dI b0_To, dI b0_Begin, dI b0_End, dL 1 eS b0_In, dL 2 qe b0_Out, dI b0_Conv_Num, dI b0_Conv_Add, dI b0_Conv_Den, dI b0_Conv_Round])], 1, 137⟩))) :=
  fun b0_Id b0_From b0_To b0_Begin b0_End b0_In b0_Out b0_Conv_Num b0_Conv_Add b0_Conv_Den b0_Conv_Round t6 => by
    revert t6; exact q4j qjz qj2 (fun e => by rcases e with _ | _ <;> exact ⟨_, rfl, fun h => by cases h⟩) fun x => by
      have := qtv; have := @q9O.eq_1; have := @qS.eq_1; exact gA
noncomputable def qT (b0 : qa) : Int → Option (Int ⊕ (Unit ⊕ Unit)) | t7 => if t7 < ((b0.Out.length : Nat) : Int) then if (b0.From == b0.To) = Bool.true then if 0 ≤ t7 ∧ t7 < ((b0.Out.length : Nat) : Int) then Option.bind b0.Out[Int.toNat t7]? fun (a : qh) => Option.bind (Qb b0.In a.Code) fun (a2 : Bool) => if a2 = Bool.true then some (Sum.inr (Sum.inl ())) else some (Sum.inl (w64 (t7 + 1))) else none else some (Sum.inl (w64 (t7 + 1))) else some (Sum.inr (Sum.inr ()))
theorem q2e : ∀ (b0_Id b0_From b0_To b0_Begin b0_End : Int) (b0_In : List ByteArray) (b0_Out : List qh) (b0_Conv_Num b0_Conv_Add b0_Conv_Den b0_Conv_Round t7 : Int), XL2 evo 11 0 20 ⟨[(1, rP 0), (7, rI t7)], [(0, B.blk 30 [dI b0_Id, dI b0_From, dI b0_To, dI b0_Begin, dI b0_End, dL 1 eS b0_In, dL 2 qe b0_Out, dI b0_Conv_Num, dI b0_Conv_Add, dI b0_Conv_Den, dI b0_Conv_Round])], 1, 137⟩ = (qA (qT (qa.mk b0_Id b0_From b0_To b0_Begin b0_End b0_In b0_Out (qd.mk b0_Conv_Num b0_Conv_Add b0_Conv_Den b0_Conv_Round))) t7).bind (Sum.elim (fun (e : Unit) => some (Go.Exit.ret, ⟨[(1, rP 0), (2, rI 14)], [(0, B.blk 30 [dI b0_Id, dI b0_From, dI b0_To, dI b0_Begin, dI b0_End, dL 1 eS b0_In, dL 2 qe b0_Out, dI b0_Conv_Num, dI b0_Conv_Add, dI b0_Conv_Den, dI b0_Conv_Round])], 1, 137⟩)) (fun (e : Unit) => some (Go.Exit.exit 2, ⟨[(1, rP 0), (2, R.any)], [(0, B.blk 30 [dI b0_Id, dI b0_From, dI b0_To, dI b0_Begin, dI b0_End, dL 1 eS b0_In, dL 2 qe b0_Out, dI b0_Conv_Num, dI b0_Conv_Add, dI b0_Conv_Den, dI b0_Conv_Round])], 1, 137⟩))) :=
  fun b0_Id b0_From b0_To b0_Begin b0_End b0_In b0_Out b0_Conv_Num b0_Conv_Add b0_Conv_Den b0_Conv_Round t7 => by
    revert t7; exact q4j qiO qlS (fun e => by rcases e with _ | _ <;> exact ⟨_, rfl, fun h => by cases h⟩) fun x => by
      have := qtv; have := @q9s.eq_1; have := @Zw; have := @qT.eq_1; exact gA
theorem qyb : okL 46 qbn := qw (qg qsf) (by kernel_rfl) (by kernel_rfl)
def qzJ := JA_ @qbn.eq_1 (JA_ @Tryz.f46.eq_1 @qsf)
theorem qxm : okL 85 qaa := qw (qg qs5) (by kernel_rfl) (by kernel_rfl)
def qzY := JA_ @qaa.eq_1 (JA_ @Tryz.f85.eq_1 @qs5)
noncomputable def q0e (n : Int) (most : Int) : Option Bool := if w64 (0 - most) ≤ n then some (decide (n ≤ most)) else some Bool.false
noncomputable def qO (n : Int) (most : Int) : Bool := if w64 (0 - most) ≤ n then decide (n ≤ most) else Bool.false
theorem q4G (n most : Int) : q0e n most = some (qO n most) := by
  unfold q0e qO
  simp only [za]
theorem JP : ∀ (n most : Int), ev 85 0 [rI n, rI most] [] = some (rB (qO n most), []) :=
  fun n most => by
    have h : ev 85 0 [rI n, rI most] [] = (q0e n most).bind (fun (e : Bool) => some (rB e, [])) := by
      rw [qu qs5 qwF.2.2.2 qxm]
      have := qzY; have := @q0e.eq_1; exact gA
    rw [q4G] at h
    exact h
noncomputable def Zi (c : qd) : Option Int := if c.Den < 1 then some 3 else if 1000 < c.Den then some 3 else if (!(qO c.Num 1000)) = Bool.true then some 3 else if (!(qO c.Add 1000)) = Bool.true then some 3 else if c.Round < 1 then some 3 else if 4 < c.Round then some 3 else some 0
noncomputable def qB (c : qd) : Int := if c.Den < 1 then 3 else if 1000 < c.Den then 3 else if (!(qO c.Num 1000)) = Bool.true then 3 else if (!(qO c.Add 1000)) = Bool.true then 3 else if c.Round < 1 then 3 else if 4 < c.Round then 3 else 0
theorem q1E (c : qd) : Zi c = some (qB c) := by
  unfold Zi qB
  simp only [za]
theorem Jw : ∀ (c_Num c_Add c_Den c_Round : Int), ev 46 0 [R.agg [dI c_Num, dI c_Add, dI c_Den, dI c_Round]] [] = some (rI (qB (qd.mk c_Num c_Add c_Den c_Round)), []) :=
  fun c_Num c_Add c_Den c_Round => by
    have h : ev 46 0 [R.agg [dI c_Num, dI c_Add, dI c_Den, dI c_Round]] [] = (Zi (qd.mk c_Num c_Add c_Den c_Round)).bind (fun (e : Int) => some (rI e, [])) := by
      rw [qu qsf qvm.2.2.2 qyb]
      have := qzJ; have := @JP; have := @Zi.eq_1; exact gA
    rw [q1E] at h
    exact h
noncomputable def ZQ (x0 : qa) : Option Int := if x0.Id < 1 then some 1 else if x0.From < 1 then some 1 else if 8 < x0.From then some 1 else if x0.To < 1 then some 1 else if 8 < x0.To then some 1 else if (!(QH x0.Begin)) = Bool.true then some 23 else if (x0.End != 0) = Bool.true then if (!(QH x0.End)) = Bool.true then some 23 else if x0.End < x0.Begin then some 23 else if ((x0.In.length : Nat) : Int) < 1 then some 2 else if 3 < ((x0.In.length : Nat) : Int) then some 2 else if ((x0.Out.length : Nat) : Int) < 1 then some 2 else if 3 < ((x0.Out.length : Nat) : Int) then some 2 else Option.bind (Q1 x0.In) fun (a : Int) => if (a == 0) = Bool.true then Option.bind (Zb x0) fun (a2 : List ByteArray) => Option.bind (Q1 a2) fun (a3 : Int) => if (a3 != 0) = Bool.true then some a3 else Option.bind (qA (qS x0) 0) fun (a4 : Sum Unit Unit) => Sum.elim (fun (a5 : Unit) => some 3) (fun (a6 : Unit) => Option.bind (qA (qT x0) 0) fun (a7 : Sum Unit Unit) => Sum.elim (fun (a8 : Unit) => some 14) (fun (a9 : Unit) => some (qB x0.Conv)) a7) a4 else if (a != 0) = Bool.true then some a else Option.bind (qA (qS x0) 0) fun (a10 : Sum Unit Unit) => Sum.elim (fun (a11 : Unit) => some 3) (fun (a12 : Unit) => Option.bind (qA (qT x0) 0) fun (a13 : Sum Unit Unit) => Sum.elim (fun (a14 : Unit) => some 14) (fun (a15 : Unit) => some (qB x0.Conv)) a13) a10 else if ((x0.In.length : Nat) : Int) < 1 then some 2 else if 3 < ((x0.In.length : Nat) : Int) then some 2 else if ((x0.Out.length : Nat) : Int) < 1 then some 2 else if 3 < ((x0.Out.length : Nat) : Int) then some 2 else Option.bind (Q1 x0.In) fun (a16 : Int) => if (a16 == 0) = Bool.true then Option.bind (Zb x0) fun (a17 : List ByteArray) => Option.bind (Q1 a17) fun (a18 : Int) => if (a18 != 0) = Bool.true then some a18 else Option.bind (qA (qS x0) 0) fun (a19 : Sum Unit Unit) => Sum.elim (fun (a20 : Unit) => some 3) (fun (a21 : Unit) => Option.bind (qA (qT x0) 0) fun (a22 : Sum Unit Unit) => Sum.elim (fun (a23 : Unit) => some 14) (fun (a24 : Unit) => some (qB x0.Conv)) a22) a19 else if (a16 != 0) = Bool.true then some a16 else Option.bind (qA (qS x0) 0) fun (a25 : Sum Unit Unit) => Sum.elim (fun (a26 : Unit) => some 3) (fun (a27 : Unit) => Option.bind (qA (qT x0) 0) fun (a28 : Sum Unit Unit) => Sum.elim (fun (a29 : Unit) => some 14) (fun (a30 : Unit) => some (qB x0.Conv)) a28) a25
theorem q4L : ∀ (x0_Id x0_From x0_To x0_Begin x0_End : Int) (x0_In : List ByteArray) (x0_Out : List qh) (x0_Conv_Num x0_Conv_Add x0_Conv_Den x0_Conv_Round : Int), ev 11 0 [R.agg [dI x0_Id, dI x0_From, dI x0_To, dI x0_Begin, dI x0_End, dL 1 eS x0_In, dL 2 qe x0_Out, dI x0_Conv_Num, dI x0_Conv_Add, dI x0_Conv_Den, dI x0_Conv_Round]] [] = (ZQ (qa.mk x0_Id x0_From x0_To x0_Begin x0_End x0_In x0_Out (qd.mk x0_Conv_Num x0_Conv_Add x0_Conv_Den x0_Conv_Round))).bind (fun (e : Int) => some (rI e, [])) :=
  fun x0_Id x0_From x0_To x0_Begin x0_End x0_In x0_Out x0_Conv_Num x0_Conv_Add x0_Conv_Den x0_Conv_Round => by
    rw [qu qlZ qv3.2.2.2 quB]
    have := qtv; have := @q4z; have := @q4Q; have := @q5I; have := @q2f; have := @q2e; have := @Jw; have := @ZQ.eq_1; exact gA
theorem qwd : okL 67 q8w := qw (qg qpP) (by kernel_rfl) (by kernel_rfl)
def qw1 := JA_ @q8w.eq_1 (JA_ @Tryz.f67.eq_1 @qpP)
theorem qqA : lbO 67 4 = qcL := zo (qg qpP) rfl
theorem qoc : okL 67 qcL := qH qwd (List.mem_of_getElem? (i := 0) (by kernel_rfl))
noncomputable def zY (a : List Int) (b : List Int) : Int → Option (Int ⊕ (Unit ⊕ Unit)) | k => if k < ((a.length : Nat) : Int) then if 0 ≤ k ∧ k < ((a.length : Nat) : Int) then Option.bind a[Int.toNat k]? fun (a2 : Int) => if 0 ≤ k ∧ k < ((b.length : Nat) : Int) then Option.bind b[Int.toNat k]? fun (a3 : Int) => if (a2 != a3) = Bool.true then some (Sum.inr (Sum.inl ())) else some (Sum.inl (w64 (k + 1))) else none else none else some (Sum.inr (Sum.inr ()))
theorem q14 : ∀ (a b : List Int) (k : Int), XL2 evo 67 0 4 ⟨[(0, rL 1 eI a), (1, rL 1 eI b), (5, rI k)], [], 0, 26⟩ = (qA (zY a b) k).bind (Sum.elim (fun (e : Unit) => some (Go.Exit.ret, ⟨[(4, rB Bool.false)], [], 0, 26⟩)) (fun (e : Unit) => some (Go.Exit.exit 0, ⟨[(4, R.any)], [], 0, 26⟩))) :=
  fun a b k => by
    revert k; exact q4j qqA qoc (fun e => by rcases e with _ | _ <;> exact ⟨_, rfl, fun h => by cases h⟩) fun x => by
      have := qw1; have := @qcL.eq_1; have := @zY.eq_1; exact gA
noncomputable def Qc (a : List Int) (b : List Int) : Option Bool := if (((a.length : Nat) : Int) != ((b.length : Nat) : Int)) = Bool.true then some Bool.false else Option.bind (qA (zY a b) 0) fun (a2 : Sum Unit Unit) => Sum.elim (fun (a3 : Unit) => some Bool.false) (fun (a4 : Unit) => some Bool.true) a2
theorem JQ : ∀ (a b : List Int), ev 67 0 [rL 1 eI a, rL 1 eI b] [] = (Qc a b).bind (fun (e : Bool) => some (rB e, [])) :=
  fun a b => by
    rw [qu qpP quU.2.2.2 qwd]
    have := qw1; have := @q14; have := @Qc.eq_1; exact gA
theorem quw : okL 68 q6R := qw (qg qm3) (by kernel_rfl) (by kernel_rfl)
def qsZ := JA_ @q6R.eq_1 (JA_ @Tryz.f68.eq_1 @qm3)
theorem qr9 : lbO 68 2 = qd7 := zo (qg qm3) rfl
theorem qq4 : okL 68 qd7 := qH quw (List.mem_of_getElem? (i := 0) (by kernel_rfl))
theorem qnb : lbO 68 5 = qcy := zo (qg qm3) rfl
theorem qmR : okL 68 qcy := qH quw (List.mem_of_getElem? (i := 1) (by kernel_rfl))
noncomputable def zM (a : List Int) (b : List Int) (k : Int) : Int → Option (Int ⊕ (Unit ⊕ Unit)) | i => if i < ((b.length : Nat) : Int) then if 0 ≤ k ∧ k < ((a.length : Nat) : Int) then Option.bind a[Int.toNat k]? fun (a2 : Int) => if 0 ≤ i ∧ i < ((b.length : Nat) : Int) then Option.bind b[Int.toNat i]? fun (a3 : Int) => if (a2 == a3) = Bool.true then some (Sum.inr (Sum.inl ())) else some (Sum.inl (w64 (i + 1))) else none else none else some (Sum.inr (Sum.inr ()))
theorem q2c : ∀ (a b : List Int) (k i : Int), XL2 evo 68 0 5 ⟨[(0, rL 1 eI a), (1, rL 1 eI b), (5, rI k), (6, rI i)], [], 0, 28⟩ = (qA (zM a b k) i).bind (Sum.elim (fun (e : Unit) => some (Go.Exit.ret, ⟨[(0, rL 1 eI a), (1, rL 1 eI b), (4, rB Bool.true), (5, rI k)], [], 0, 28⟩)) (fun (e : Unit) => some (Go.Exit.exit 2, ⟨[(0, rL 1 eI a), (1, rL 1 eI b), (4, R.any), (5, rI k)], [], 0, 28⟩))) :=
  fun a b k i => by
    revert i; exact q4j qnb qmR (fun e => by rcases e with _ | _ <;> exact ⟨_, rfl, fun h => by cases h⟩) fun x => by
      have := qsZ; have := @qcy.eq_1; have := @zM.eq_1; exact gA
noncomputable def Qo (a : List Int) (b : List Int) : Int → Option (Int ⊕ (Unit ⊕ Unit)) | k => if k < ((a.length : Nat) : Int) then Option.bind (qA (zM a b k) 0) fun (a2 : Sum Unit Unit) => Sum.elim (fun (a3 : Unit) => some (Sum.inr (Sum.inl ()))) (fun (a4 : Unit) => some (Sum.inl (w64 (k + 1)))) a2 else some (Sum.inr (Sum.inr ()))
theorem q1Y : ∀ (a b : List Int) (k : Int), XL2 evo 68 0 2 ⟨[(0, rL 1 eI a), (1, rL 1 eI b), (5, rI k)], [], 0, 28⟩ = (qA (Qo a b) k).bind (Sum.elim (fun (e : Unit) => some (Go.Exit.ret, ⟨[(4, rB Bool.true)], [], 0, 28⟩)) (fun (e : Unit) => some (Go.Exit.exit 0, ⟨[(4, R.any)], [], 0, 28⟩))) :=
  fun a b k => by
    revert k; exact q4j qr9 qq4 (fun e => by rcases e with _ | _ <;> exact ⟨_, rfl, fun h => by cases h⟩) fun x => by
      have := qsZ; have := @qd7.eq_1; have := @q2c; have := @Qo.eq_1; exact gA
noncomputable def Qy (a : List Int) (b : List Int) : Option Bool := Option.bind (qA (Qo a b) 0) fun (a2 : Sum Unit Unit) => Sum.elim (fun (a3 : Unit) => some Bool.true) (fun (a4 : Unit) => some Bool.false) a2
theorem q0v : ∀ (a b : List Int), ev 68 0 [rL 1 eI a, rL 1 eI b] [] = (Qy a b).bind (fun (e : Bool) => some (rB e, [])) :=
  fun a b => by
    rw [qu qm3 qwl.2.2.2 quw]
    have := qsZ; have := @q1Y; have := @Qy.eq_1; exact gA
theorem q2b : ∀ (b0 : Int) (a : List Int), ev 68 0 [rL 1 eI a, R.c (C.d (D.sl 1 1 [D.int .i64 b0]))] [] = (Qy a [b0]).bind (fun (e : Bool) => some (rB e, [])) := by
  intro b0 a; have h := q0v a [b0]
  first
    | exact h
    | (simp only [rL, dL, bR, bZ, Nat.reduceAdd] at h; exact h)
noncomputable def zF (b0 : qa) (t1 : List qb) (t5 : Int) : Int → Option (Int ⊕ (Unit ⊕ Unit)) | t6 => if t6 < t5 then if 0 ≤ t6 ∧ t6 < ((t1.length : Nat) : Int) then Option.bind t1[Int.toNat t6]? fun (a : qb) => if 0 ≤ t5 ∧ t5 < ((t1.length : Nat) : Int) then Option.bind t1[Int.toNat t5]? fun (a2 : qb) => Option.bind (Qc a.Path a2.Path) fun (a3 : Bool) => if (!a3) = Bool.true then some (Sum.inr (Sum.inl ())) else if 0 ≤ t6 ∧ t6 < ((t1.length : Nat) : Int) then Option.bind t1[Int.toNat t6]? fun (a4 : qb) => if 0 ≤ t5 ∧ t5 < ((t1.length : Nat) : Int) then Option.bind t1[Int.toNat t5]? fun (a5 : qb) => Option.bind (Qy a4.Sources a5.Sources) fun (a6 : Bool) => if a6 = Bool.true then some (Sum.inr (Sum.inl ())) else some (Sum.inl (w64 (t6 + 1))) else none else none else none else none else some (Sum.inr (Sum.inr ()))
theorem q1u : ∀ (b0_Id b0_From b0_To b0_Begin b0_End : Int) (b0_In : List ByteArray) (b0_Out : List qh) (b0_Conv_Num b0_Conv_Add b0_Conv_Den b0_Conv_Round : Int) (t1 : List qb) (t5 t6 : Int), XL2 evo 22 0 9 ⟨[(1, rL 8 qc t1), (2, rP 0), (5, rI t5), (6, rI t6)], [(0, B.blk 30 [dI b0_Id, dI b0_From, dI b0_To, dI b0_Begin, dI b0_End, dL 1 eS b0_In, dL 2 qe b0_Out, dI b0_Conv_Num, dI b0_Conv_Add, dI b0_Conv_Den, dI b0_Conv_Round])], 1, 74⟩ = (qA (zF (qa.mk b0_Id b0_From b0_To b0_Begin b0_End b0_In b0_Out (qd.mk b0_Conv_Num b0_Conv_Add b0_Conv_Den b0_Conv_Round)) t1 t5) t6).bind (Sum.elim (fun (e : Unit) => some (Go.Exit.ret, ⟨[(1, rL 8 qc t1), (2, rP 0), (4, rB Bool.false), (5, rI t5)], [(0, B.blk 30 [dI b0_Id, dI b0_From, dI b0_To, dI b0_Begin, dI b0_End, dL 1 eS b0_In, dL 2 qe b0_Out, dI b0_Conv_Num, dI b0_Conv_Add, dI b0_Conv_Den, dI b0_Conv_Round])], 1, 74⟩)) (fun (e : Unit) => some (Go.Exit.exit 2, ⟨[(1, rL 8 qc t1), (2, rP 0), (4, R.any), (5, rI t5)], [(0, B.blk 30 [dI b0_Id, dI b0_From, dI b0_To, dI b0_Begin, dI b0_End, dL 1 eS b0_In, dL 2 qe b0_Out, dI b0_Conv_Num, dI b0_Conv_Add, dI b0_Conv_Den, dI b0_Conv_Round])], 1, 74⟩))) :=
  fun b0_Id b0_From b0_To b0_Begin b0_End b0_In b0_Out b0_Conv_Num b0_Conv_Add b0_Conv_Den b0_Conv_Round t1 t5 t6 => by
    revert t6; exact q4j qoP qmQ (fun e => by rcases e with _ | _ <;> exact ⟨_, rfl, fun h => by cases h⟩) fun x => by
      have := qsG; have := @qcq.eq_1; have := @JQ; have := @q0v; have := @zF.eq_1; exact gA
noncomputable def Q7 (b0 : qa) (t1 : List qb) : Int → Option (Int ⊕ (Unit ⊕ Unit)) | t5 => if t5 < ((t1.length : Nat) : Int) then if 0 ≤ t5 ∧ t5 < ((t1.length : Nat) : Int) then Option.bind t1[Int.toNat t5]? fun (a : qb) => if 0 ≤ t5 ∧ t5 < ((b0.In.length : Nat) : Int) then Option.bind b0.In[Int.toNat t5]? fun (a2 : ByteArray) => if (!(a.Course.School == b0.From && ByteArray.toList a.Course.Code == ByteArray.toList a2)) = Bool.true then some (Sum.inr (Sum.inl ())) else Option.bind (qA (zF b0 t1 t5) 0) fun (a3 : Sum Unit Unit) => Sum.elim (fun (a4 : Unit) => some (Sum.inr (Sum.inl ()))) (fun (a5 : Unit) => some (Sum.inl (w64 (t5 + 1)))) a3 else none else none else some (Sum.inr (Sum.inr ()))
theorem q1A : ∀ (b0_Id b0_From b0_To b0_Begin b0_End : Int) (b0_In : List ByteArray) (b0_Out : List qh) (b0_Conv_Num b0_Conv_Add b0_Conv_Den b0_Conv_Round : Int) (t1 : List qb) (t5 : Int), XL2 evo 22 0 4 ⟨[(1, rL 8 qc t1), (2, rP 0), (5, rI t5)], [(0, B.blk 30 [dI b0_Id, dI b0_From, dI b0_To, dI b0_Begin, dI b0_End, dL 1 eS b0_In, dL 2 qe b0_Out, dI b0_Conv_Num, dI b0_Conv_Add, dI b0_Conv_Den, dI b0_Conv_Round])], 1, 74⟩ = (qA (Q7 (qa.mk b0_Id b0_From b0_To b0_Begin b0_End b0_In b0_Out (qd.mk b0_Conv_Num b0_Conv_Add b0_Conv_Den b0_Conv_Round)) t1) t5).bind (Sum.elim (fun (e : Unit) => some (Go.Exit.ret, ⟨[(1, rL 8 qc t1), (2, rP 0), (4, rB Bool.false)], [(0, B.blk 30 [dI b0_Id, dI b0_From, dI b0_To, dI b0_Begin, dI b0_End, dL 1 eS b0_In, dL 2 qe b0_Out, dI b0_Conv_Num, dI b0_Conv_Add, dI b0_Conv_Den, dI b0_Conv_Round])], 1, 74⟩)) (fun (e : Unit) => some (Go.Exit.exit 0, ⟨[(1, rL 8 qc t1), (2, rP 0), (4, R.any)], [(0, B.blk 30 [dI b0_Id, dI b0_From, dI b0_To, dI b0_Begin, dI b0_End, dL 1 eS b0_In, dL 2 qe b0_Out, dI b0_Conv_Num, dI b0_Conv_Add, dI b0_Conv_Den, dI b0_Conv_Round])], 1, 74⟩))) :=
  fun b0_Id b0_From b0_To b0_Begin b0_End b0_In b0_Out b0_Conv_Num b0_Conv_Add b0_Conv_Den b0_Conv_Round t1 t5 => by
    revert t5; exact q4j qrm qmT (fun e => by rcases e with _ | _ <;> exact ⟨_, rfl, fun h => by cases h⟩) fun x => by
      have := qsG; have := @qdb.eq_1; have := @q1u; have := @Q7.eq_1; exact gA
theorem qwS : okL 64 q8G := qw (qg qmH) (by kernel_rfl) (by kernel_rfl)
def qwz := JA_ @q8G.eq_1 (JA_ @Tryz.f64.eq_1 @qmH)
theorem qqW : lbO 64 3 = qeC := zo (qg qmH) rfl
theorem qmg : okL 64 qeC := qH qwS (List.mem_of_getElem? (i := 0) (by kernel_rfl))
noncomputable def zT (l : List qb) : (Int × Int) → Option ((Int × Int) ⊕ Int) | (day, k) => if k < ((l.length : Nat) : Int) then if (k == 0) = Bool.true then if 0 ≤ k ∧ k < ((l.length : Nat) : Int) then Option.bind l[Int.toNat k]? fun (a : qb) => some (Sum.inl (a.Day, w64 (k + 1))) else none else if 0 ≤ k ∧ k < ((l.length : Nat) : Int) then Option.bind l[Int.toNat k]? fun (a2 : qb) => if day < a2.Day then if 0 ≤ k ∧ k < ((l.length : Nat) : Int) then Option.bind l[Int.toNat k]? fun (a3 : qb) => some (Sum.inl (a3.Day, w64 (k + 1))) else none else some (Sum.inl (day, w64 (k + 1))) else none else some (Sum.inr day)
theorem q2M : ∀ (l : List qb) (day k : Int), XL2 evo 64 0 3 ⟨[(0, rL 8 qc l), (3, rI day), (4, rI k)], [], 0, 28⟩ = (qA (zT l) (day, k)).bind (fun (e : Int) => some (Go.Exit.exit 0, ⟨[(3, rI e)], [], 0, 28⟩)) :=
  fun l day k => by
    revert k; revert day; exact q7B qqW qmg (fun e => by exact ⟨_, rfl, fun h => by cases h⟩) fun day k => by
      have := qwz; have := @qeC.eq_1; have := @zT.eq_1; exact gA
noncomputable def ZB (l : List qb) : Option Int := Option.bind (qA (zT l) (0, 0)) fun (a : Int) => some a
theorem q1x : ∀ (l : List qb), ev 64 0 [rL 8 qc l] [] = (ZB l).bind (fun (e : Int) => some (rI e, [])) :=
  fun l => by
    rw [qu qmH qw3.2.2.2 qwS]
    have := qwz; have := @q2M; have := @ZB.eq_1; exact gA
theorem qA9 : okL 13 qbi := qw (qg qrO) (by kernel_rfl) (by kernel_rfl)
def qyN := JA_ @qbi.eq_1 (JA_ @Tryz.f13.eq_1 @qrO)
theorem qxY : okL 48 qbv := qw (qg qrE) (by kernel_rfl) (by kernel_rfl)
def qz4 := JA_ @qbv.eq_1 (JA_ @Tryz.f48.eq_1 @qrE)
noncomputable def Jb (day : Int) (begin : Int) (end0 : Int) : Option Bool := if begin ≤ day then if (end0 == 0) = Bool.true then some Bool.true else some (decide (day < end0)) else some Bool.false
noncomputable def Z1 (day : Int) (begin : Int) (end0 : Int) : Bool := if begin ≤ day then if (end0 == 0) = Bool.true then Bool.true else decide (day < end0) else Bool.false
theorem q2Z (day begin end0 : Int) : Jb day begin end0 = some (Z1 day begin end0) := by
  unfold Jb Z1
  simp only [za]
theorem q3Y : ∀ (day begin end0 : Int), ev 48 0 [rI day, rI begin, rI end0] [] = some (rB (Z1 day begin end0), []) :=
  fun day begin end0 => by
    have h : ev 48 0 [rI day, rI begin, rI end0] [] = (Jb day begin end0).bind (fun (e : Bool) => some (rB e, [])) := by
      rw [qu qrE qvl.2.2.2 qxY]
      have := qz4; have := @Jb.eq_1; exact gA
    rw [q2Z] at h
    exact h
noncomputable def Jz (a : qa) (day : Int) : Option Bool :=
  some (Z1 day a.Begin a.End)
noncomputable def ZM (a : qa) (day : Int) : Bool :=
  Z1 day a.Begin a.End
theorem q3M (a : qa) (day : Int) : Jz a day = some (ZM a day) := by
  unfold Jz ZM
  simp only [za]
theorem q4w : ∀ (a_Id a_From a_To a_Begin a_End : Int) (a_In : List ByteArray) (a_Out : List qh) (a_Conv_Num a_Conv_Add a_Conv_Den a_Conv_Round day : Int), ev 13 0 [R.agg [dI a_Id, dI a_From, dI a_To, dI a_Begin, dI a_End, dL 1 eS a_In, dL 2 qe a_Out, dI a_Conv_Num, dI a_Conv_Add, dI a_Conv_Den, dI a_Conv_Round], rI day] [] = some (rB (ZM (qa.mk a_Id a_From a_To a_Begin a_End a_In a_Out (qd.mk a_Conv_Num a_Conv_Add a_Conv_Den a_Conv_Round)) day), []) :=
  fun a_Id a_From a_To a_Begin a_End a_In a_Out a_Conv_Num a_Conv_Add a_Conv_Den a_Conv_Round day => by
    have h : ev 13 0 [R.agg [dI a_Id, dI a_From, dI a_To, dI a_Begin, dI a_End, dL 1 eS a_In, dL 2 qe a_Out, dI a_Conv_Num, dI a_Conv_Add, dI a_Conv_Den, dI a_Conv_Round], rI day] [] = (Jz (qa.mk a_Id a_From a_To a_Begin a_End a_In a_Out (qd.mk a_Conv_Num a_Conv_Add a_Conv_Den a_Conv_Round)) day).bind (fun (e : Bool) => some (rB e, [])) := by
      rw [qu qrO qvs.2.2.2 qA9]
      have := qyN; have := @q3Y; have := @Jz.eq_1; exact gA
    rw [q3M] at h
    exact h
noncomputable def Qr (x0 : qa) (x1 : List qb) : Option Bool := Option.bind (ZQ x0) fun (a : Int) => if (a != 0) = Bool.true then some Bool.false else if (((x1.length : Nat) : Int) != ((x0.In.length : Nat) : Int)) = Bool.true then some Bool.false else Option.bind (qA (Q7 x0 x1) 0) fun (a2 : Sum Unit Unit) => Sum.elim (fun (a3 : Unit) => some Bool.false) (fun (a4 : Unit) => Option.bind (ZB x1) fun (a5 : Int) => some (ZM x0 a5)) a2
theorem q0d : ∀ (x0_Id x0_From x0_To x0_Begin x0_End : Int) (x0_In : List ByteArray) (x0_Out : List qh) (x0_Conv_Num x0_Conv_Add x0_Conv_Den x0_Conv_Round : Int) (x1 : List qb), ev 22 0 [R.agg [dI x0_Id, dI x0_From, dI x0_To, dI x0_Begin, dI x0_End, dL 1 eS x0_In, dL 2 qe x0_Out, dI x0_Conv_Num, dI x0_Conv_Add, dI x0_Conv_Den, dI x0_Conv_Round], rL 8 qc x1] [] = (Qr (qa.mk x0_Id x0_From x0_To x0_Begin x0_End x0_In x0_Out (qd.mk x0_Conv_Num x0_Conv_Add x0_Conv_Den x0_Conv_Round)) x1).bind (fun (e : Bool) => some (rB e, [])) :=
  fun x0_Id x0_From x0_To x0_Begin x0_End x0_In x0_Out x0_Conv_Num x0_Conv_Add x0_Conv_Den x0_Conv_Round x1 => by
    rw [qu qm5 qvX.2.2.2 qth]
    have := qsG; have := @q4L; have := @q1A; have := @q1x; have := @q4w; have := @Qr.eq_1; exact gA
noncomputable def zV (b0 : qa) (b1 : qf) (t2 : List qb) : (List Int × List Int × Int) → Option ((List Int × List Int × Int) ⊕ (List Int × List Int)) | (w2, w3, t10) => if t10 < ((t2.length : Nat) : Int) then if 0 ≤ t10 ∧ t10 < ((t2.length : Nat) : Int) then Option.bind t2[Int.toNat t10]? fun (a : qb) => if w2.length + 1 ≤ Go.maxLen ∧ (w2.length + 1) * 8 ≤ 140737488355328 then if 0 ≤ t10 ∧ t10 < ((t2.length : Nat) : Int) then Option.bind t2[Int.toNat t10]? fun (a2 : qb) => if w3.length + 1 ≤ Go.maxLen ∧ (w3.length + 1) * 8 ≤ 140737488355328 then some (Sum.inl (w2 ++ [a.Grade], w3 ++ [a2.Credits], w64 (t10 + 1))) else none else none else none else none else some (Sum.inr (w2, w3))
theorem q2B : ∀ (w2 w3 : List Int) (b0_Id b0_From b0_To b0_Begin b0_End : Int) (b0_In : List ByteArray) (b0_Out : List qh) (b0_Conv_Num b0_Conv_Add b0_Conv_Den b0_Conv_Round b1_Worst b1_Best b1_Pass : Int) (t2 : List qb) (t10 : Int) (w2_len w3_len : Nat), w2_len = w2.length → w3_len = w3.length → XL2 evo 19 0 5 ⟨[(2, rL 8 qc t2), (3, rP 0), (4, rP 1), (8, rO 2 1 w2_len), (9, rO 3 1 w3_len), (10, rI t10)], [(0, B.blk 30 [dI b0_Id, dI b0_From, dI b0_To, dI b0_Begin, dI b0_End, dL 1 eS b0_In, dL 2 qe b0_Out, dI b0_Conv_Num, dI b0_Conv_Add, dI b0_Conv_Den, dI b0_Conv_Round]), (1, B.blk 32 [dI b1_Worst, dI b1_Best, dI b1_Pass]), (2, bR 3 1 eI w2), (3, bR 3 1 eI w3)], 4, 103⟩ = (qA (zV (qa.mk b0_Id b0_From b0_To b0_Begin b0_End b0_In b0_Out (qd.mk b0_Conv_Num b0_Conv_Add b0_Conv_Den b0_Conv_Round)) (qf.mk b1_Worst b1_Best b1_Pass) t2) (w2, w3, t10)).bind (fun (e : List Int × List Int) => some (Go.Exit.exit 0, ⟨[(2, rL 8 qc t2), (3, rP 0), (4, rP 1), (8, rO 2 1 e.1.length), (9, rO 3 1 e.2.length)], [(0, B.blk 30 [dI b0_Id, dI b0_From, dI b0_To, dI b0_Begin, dI b0_End, dL 1 eS b0_In, dL 2 qe b0_Out, dI b0_Conv_Num, dI b0_Conv_Add, dI b0_Conv_Den, dI b0_Conv_Round]), (1, B.blk 32 [dI b1_Worst, dI b1_Best, dI b1_Pass]), (2, bR 3 1 eI e.1), (3, bR 3 1 eI e.2)], 4, 103⟩)) :=
  by
  intro w2 w3 b0_Id b0_From b0_To b0_Begin b0_End b0_In b0_Out b0_Conv_Num b0_Conv_Add b0_Conv_Den b0_Conv_Round b1_Worst b1_Best b1_Pass t2 t10 w2_len w3_len h0 h1
  subst h0 h1
  revert t10; revert w3; revert w2; exact qtS qqZ qqD (fun e => by exact ⟨_, rfl, fun h => by cases h⟩) fun w2 w3 t10 => by
    have := quC; have := @qea.eq_1; have := @zV.eq_1; exact gA
theorem q1d : ∀  (b0_Id b0_From b0_To b0_Begin b0_End : Int) (b0_In : List ByteArray) (b0_Out : List qh) (b0_Conv_Num b0_Conv_Add b0_Conv_Den b0_Conv_Round b1_Worst b1_Best b1_Pass : Int) (t2 : List qb) (t10 : Int), XL2 evo 19 0 5 ⟨[(2, rL 8 qc t2), (3, rP 0), (4, rP 1), (8, rO 2 1 0), (9, rO 3 1 0), (10, rI t10)], [(0, B.blk 30 [dI b0_Id, dI b0_From, dI b0_To, dI b0_Begin, dI b0_End, dL 1 eS b0_In, dL 2 qe b0_Out, dI b0_Conv_Num, dI b0_Conv_Add, dI b0_Conv_Den, dI b0_Conv_Round]), (1, B.blk 32 [dI b1_Worst, dI b1_Best, dI b1_Pass]), (2, B.row 3 1 []), (3, B.row 3 1 [])], 4, 103⟩ = (qA (zV (qa.mk b0_Id b0_From b0_To b0_Begin b0_End b0_In b0_Out (qd.mk b0_Conv_Num b0_Conv_Add b0_Conv_Den b0_Conv_Round)) (qf.mk b1_Worst b1_Best b1_Pass) t2) ([], [], t10)).bind (fun (e : List Int × List Int) => some (Go.Exit.exit 0, ⟨[(2, rL 8 qc t2), (3, rP 0), (4, rP 1), (8, rO 2 1 e.1.length), (9, rO 3 1 e.2.length)], [(0, B.blk 30 [dI b0_Id, dI b0_From, dI b0_To, dI b0_Begin, dI b0_End, dL 1 eS b0_In, dL 2 qe b0_Out, dI b0_Conv_Num, dI b0_Conv_Add, dI b0_Conv_Den, dI b0_Conv_Round]), (1, B.blk 32 [dI b1_Worst, dI b1_Best, dI b1_Pass]), (2, bR 3 1 eI e.1), (3, bR 3 1 eI e.2)], 4, 103⟩)) := by
  intro b0_Id b0_From b0_To b0_Begin b0_End b0_In b0_Out b0_Conv_Num b0_Conv_Add b0_Conv_Den b0_Conv_Round b1_Worst b1_Best b1_Pass t2 t10; have h := q2B [] [] ((qa.mk b0_Id b0_From b0_To b0_Begin b0_End b0_In b0_Out (qd.mk b0_Conv_Num b0_Conv_Add b0_Conv_Den b0_Conv_Round))).Id ((qa.mk b0_Id b0_From b0_To b0_Begin b0_End b0_In b0_Out (qd.mk b0_Conv_Num b0_Conv_Add b0_Conv_Den b0_Conv_Round))).From ((qa.mk b0_Id b0_From b0_To b0_Begin b0_End b0_In b0_Out (qd.mk b0_Conv_Num b0_Conv_Add b0_Conv_Den b0_Conv_Round))).To ((qa.mk b0_Id b0_From b0_To b0_Begin b0_End b0_In b0_Out (qd.mk b0_Conv_Num b0_Conv_Add b0_Conv_Den b0_Conv_Round))).Begin ((qa.mk b0_Id b0_From b0_To b0_Begin b0_End b0_In b0_Out (qd.mk b0_Conv_Num b0_Conv_Add b0_Conv_Den b0_Conv_Round))).End ((qa.mk b0_Id b0_From b0_To b0_Begin b0_End b0_In b0_Out (qd.mk b0_Conv_Num b0_Conv_Add b0_Conv_Den b0_Conv_Round))).In ((qa.mk b0_Id b0_From b0_To b0_Begin b0_End b0_In b0_Out (qd.mk b0_Conv_Num b0_Conv_Add b0_Conv_Den b0_Conv_Round))).Out ((qa.mk b0_Id b0_From b0_To b0_Begin b0_End b0_In b0_Out (qd.mk b0_Conv_Num b0_Conv_Add b0_Conv_Den b0_Conv_Round))).Conv.Num ((qa.mk b0_Id b0_From b0_To b0_Begin b0_End b0_In b0_Out (qd.mk b0_Conv_Num b0_Conv_Add b0_Conv_Den b0_Conv_Round))).Conv.Add ((qa.mk b0_Id b0_From b0_To b0_Begin b0_End b0_In b0_Out (qd.mk b0_Conv_Num b0_Conv_Add b0_Conv_Den b0_Conv_Round))).Conv.Den ((qa.mk b0_Id b0_From b0_To b0_Begin b0_End b0_In b0_Out (qd.mk b0_Conv_Num b0_Conv_Add b0_Conv_Den b0_Conv_Round))).Conv.Round ((qf.mk b1_Worst b1_Best b1_Pass)).Worst ((qf.mk b1_Worst b1_Best b1_Pass)).Best ((qf.mk b1_Worst b1_Best b1_Pass)).Pass t2 t10 _ _ rfl rfl
  first
    | exact h
    | (simp only [rL, dL, bR, bZ, Nat.reduceAdd] at h; exact h)
theorem qxJ : okL 62 qb2 := qw (qg qry) (by kernel_rfl) (by kernel_rfl)
def qzS := JA_ @qb2.eq_1 (JA_ @Tryz.f62.eq_1 @qry)
theorem qyg : okL 95 qbs := qw (qg qrR) (by kernel_rfl) (by kernel_rfl)
def qA4 := JA_ @qbs.eq_1 (JA_ @Tryz.f95.eq_1 @qrR)
noncomputable def JD (s : qf) : Option Int := if (min s.Worst s.Best == max s.Worst s.Best) = Bool.true then some 10 else if (!(qO (min s.Worst s.Best) 1000)) = Bool.true then some 10 else if (!(qO (max s.Worst s.Best) 1000)) = Bool.true then some 10 else if s.Pass < min s.Worst s.Best then some 10 else if max s.Worst s.Best < s.Pass then some 10 else some 0
noncomputable def zm (s : qf) : Int := if (min s.Worst s.Best == max s.Worst s.Best) = Bool.true then 10 else if (!(qO (min s.Worst s.Best) 1000)) = Bool.true then 10 else if (!(qO (max s.Worst s.Best) 1000)) = Bool.true then 10 else if s.Pass < min s.Worst s.Best then 10 else if max s.Worst s.Best < s.Pass then 10 else 0
theorem q4m (s : qf) : JD s = some (zm s) := by
  unfold JD zm
  simp only [za]
theorem q11 : ∀ (s_Worst s_Best s_Pass : Int), ev 95 0 [R.agg [dI s_Worst, dI s_Best, dI s_Pass]] [] = some (rI (zm (qf.mk s_Worst s_Best s_Pass)), []) :=
  fun s_Worst s_Best s_Pass => by
    have h : ev 95 0 [R.agg [dI s_Worst, dI s_Best, dI s_Pass]] [] = (JD (qf.mk s_Worst s_Best s_Pass)).bind (fun (e : Int) => some (rI e, [])) := by
      rw [qu qrR qvY.2.2.2 qyg]
      have := qA4; have := @JP; have := @JD.eq_1; exact gA
    rw [q4m] at h
    exact h
theorem qwL : okL 96 q8u := qw (qg qnq) (by kernel_rfl) (by kernel_rfl)
def qvW := JA_ @q8u.eq_1 (JA_ @Tryz.f96.eq_1 @qnq)
theorem qme : lbO 96 8 = qdf := zo (qg qnq) rfl
theorem qmE : okL 96 qdf := qH qwL (List.mem_of_getElem? (i := 0) (by kernel_rfl))
noncomputable def zS (b0 : qq) (t0 : List Int) (t1 : List Int) : (Int × Int × Int) → Option ((Int × Int × Int) ⊕ ((qq × Int × Int) ⊕ (Int × Int))) | (t6, t7, t8) => if t8 < ((t0.length : Nat) : Int) then if 0 ≤ t8 ∧ t8 < ((t0.length : Nat) : Int) then Option.bind t0[Int.toNat t8]? fun (a : Int) => if (!(qO a 1000)) = Bool.true then some (Sum.inr (Sum.inl (qq.mk 0 0, t6, t7))) else if 0 ≤ t8 ∧ t8 < ((t1.length : Nat) : Int) then Option.bind t1[Int.toNat t8]? fun (a2 : Int) => if a2 < 1 then some (Sum.inr (Sum.inl (qq.mk 0 0, t6, t7))) else if 0 ≤ t8 ∧ t8 < ((t1.length : Nat) : Int) then Option.bind t1[Int.toNat t8]? fun (a3 : Int) => if 60 < a3 then some (Sum.inr (Sum.inl (qq.mk 0 0, t6, t7))) else if 0 ≤ t8 ∧ t8 < ((t0.length : Nat) : Int) then Option.bind t0[Int.toNat t8]? fun (a4 : Int) => if 0 ≤ t8 ∧ t8 < ((t1.length : Nat) : Int) then Option.bind t1[Int.toNat t8]? fun (a5 : Int) => if 0 ≤ t8 ∧ t8 < ((t1.length : Nat) : Int) then Option.bind t1[Int.toNat t8]? fun (a6 : Int) => some (Sum.inl (w64 (t6 + w64 (a4 * a5)), w64 (t7 + a6), w64 (t8 + 1))) else none else none else none else none else none else none else some (Sum.inr (Sum.inr (t6, t7)))
theorem q3s : ∀ (b0_N b0_D : Int) (t0 t1 : List Int) (t6 t7 t8 : Int), XL2 evo 96 0 8 ⟨[(0, rL 1 eI t0), (1, rL 1 eI t1), (4, rP 0), (6, rI t6), (7, rI t7), (8, rI t8)], [(0, B.blk 125 [dI b0_N, dI b0_D])], 1, 73⟩ = (qA (zS (qq.mk b0_N b0_D) t0 t1) (t6, t7, t8)).bind (Sum.elim (fun (e : qq × Int × Int) => some (Go.Exit.ret, ⟨[(4, rP 0), (5, rI 3), (6, rI e.2.1), (7, rI e.2.2)], [(0, B.blk 125 [dI e.1.N, dI e.1.D])], 1, 73⟩)) (fun (e : Int × Int) => some (Go.Exit.exit 0, ⟨[(4, rP 0), (5, R.any), (6, rI e.1), (7, rI e.2)], [(0, B.blk 125 [dI b0_N, dI b0_D])], 1, 73⟩))) :=
  fun b0_N b0_D t0 t1 t6 t7 t8 => by
    revert t8; revert t7; revert t6; exact qtS qme qmE (fun e => by rcases e with _ | _ <;> exact ⟨_, rfl, fun h => by cases h⟩) fun t6 t7 t8 => by
      have := qvW; have := @qdf.eq_1; have := @JP; have := @zS.eq_1; exact gA
theorem qtq : okL 124 q7q := qw (qg qgm) (by kernel_rfl) (by kernel_rfl)
def qu9 := JA_ @q7q.eq_1 (JA_ @Tryz.f124.eq_1 @qgm)
theorem qt6 : okL 140 q7e := qw (qg qfP) (by kernel_rfl) (by kernel_rfl)
def quf := JA_ @q7e.eq_1 (JA_ @Tryz.f140.eq_1 @qfP)
noncomputable def q04 (n : Int) : Option Int := if n < 0 then some (Go.IntKind.wrap Go.IntKind.u64 (0 - Go.IntKind.wrap Go.IntKind.u64 n)) else some (Go.IntKind.wrap Go.IntKind.u64 n)
noncomputable def zA (n : Int) : Int := if n < 0 then Go.IntKind.wrap Go.IntKind.u64 (0 - Go.IntKind.wrap Go.IntKind.u64 n) else Go.IntKind.wrap Go.IntKind.u64 n
theorem q4J (n : Int) : q04 n = some (zA n) := by
  unfold q04 zA
  simp only [za]
theorem q5b : ∀ (n : Int), ev 140 0 [rI n] [] = some (R.c (C.d (D.int .u64 (zA n))), []) :=
  fun n => by
    have h : ev 140 0 [rI n] [] = (q04 n).bind (fun (e : Int) => some (R.c (C.d (D.int .u64 e)), [])) := by
      rw [qu qfP qq7.2.2.2 qt6]
      have := quf; have := @q04.eq_1; exact gA
    rw [q4J] at h
    exact h
theorem qmM : okL 139 q5F := qw (qg qf2) (by kernel_rfl) (by kernel_rfl)
def qnm := JA_ @q5F.eq_1 (JA_ @Tryz.f139.eq_1 @qf2)
theorem qiL : lbO 139 1 = q9g := zo (qg qf2) rfl
theorem qlK : okL 139 q9g := qH qmM (List.mem_of_getElem? (i := 0) (by kernel_rfl))
noncomputable def Z3 : (Int × Int) → Option ((Int × Int) ⊕ Int) | (a, b) => if (b != 0) = Bool.true then if b = 0 then none else some (Sum.inl (b, Int.tmod a b)) else some (Sum.inr a)
theorem q3G : ∀ (a b : Int), XL2 evo 139 0 1 ⟨[(0, R.c (C.d (D.int .u64 a))), (1, R.c (C.d (D.int .u64 b)))], [], 0, 12⟩ = (qA Z3 (a, b)).bind (fun (e : Int) => some (Go.Exit.exit 0, ⟨[(0, R.c (C.d (D.int .u64 e)))], [], 0, 12⟩)) :=
  fun a b => by
    revert b; revert a; exact q7B qiL qlK (fun e => by exact ⟨_, rfl, fun h => by cases h⟩) fun a b => by
      have := qnm; have := @q9g.eq_1; have := @Z3.eq_1; exact gA
noncomputable def JR (a : Int) (b : Int) : Option Int := Option.bind (qA Z3 (a, b)) fun (a2 : Int) => some a2
theorem q6g : ∀ (a b : Int), ev 139 0 [R.c (C.d (D.int .u64 a)), R.c (C.d (D.int .u64 b))] [] = (JR a b).bind (fun (e : Int) => some (R.c (C.d (D.int .u64 e)), [])) :=
  fun a b => by
    rw [qu qf2 qqa.2.2.2 qmM]
    have := qnm; have := @q3G; have := @JR.eq_1; exact gA
noncomputable def J5 (n : Int) (d : Int) : Option (qq × Int) := if (d == 0) = Bool.true then some (qq.mk 0 0, 1) else Option.bind (JR (zA n) (zA d)) fun (a : Int) => if a = 0 then none else if a = 0 then none else if 1073741824 < Go.IntKind.wrap Go.IntKind.u64 (Int.tdiv (zA n) a) then some (qq.mk 0 0, 3) else if 1073741824 < Go.IntKind.wrap Go.IntKind.u64 (Int.tdiv (zA d) a) then some (qq.mk 0 0, 3) else if (!(decide (n < 0) == decide (d < 0))) = Bool.true then some (qq.mk (w64 (0 - w64 (Go.IntKind.wrap Go.IntKind.u64 (Int.tdiv (zA n) a)))) (w64 (Go.IntKind.wrap Go.IntKind.u64 (Int.tdiv (zA d) a))), 0) else some (qq.mk (w64 (Go.IntKind.wrap Go.IntKind.u64 (Int.tdiv (zA n) a))) (w64 (Go.IntKind.wrap Go.IntKind.u64 (Int.tdiv (zA d) a))), 0)
theorem q78 : ∀ (n d : Int), ev 124 0 [rI n, rI d] [] = (J5 n d).bind (fun (e : qq × Int) => some (R.tup [R.agg [dI e.1.N, dI e.1.D], rI e.2], [])) :=
  fun n d => by
    rw [qu qgm qqY.2.2.2 qtq]
    have := qu9; have := @q5b; have := @q6g; have := @J5.eq_1; exact gA
noncomputable def QL (x0 : List Int) (x1 : List Int) : Option (qq × Int) := if (((x0.length : Nat) : Int) != ((x1.length : Nat) : Int)) = Bool.true then some (qq.mk 0 0, 1) else if (((x0.length : Nat) : Int) == 0) = Bool.true then some (qq.mk 0 0, 1) else if 2000 < ((x0.length : Nat) : Int) then some (qq.mk 0 0, 2) else Option.bind (qA (zS (qq.mk 0 0) x0 x1) (0, (0, 0))) fun (a : Sum (Prod qq (Prod Int Int)) (Prod Int Int)) => Sum.elim (fun (a2 : Prod qq (Prod Int Int)) => some (a2.1, 3)) (fun (a3 : Prod Int Int) => Option.bind (J5 a3.1 a3.2) fun (e0 : Prod qq Int) => some (e0.1, e0.2)) a
theorem q65 : ∀ (x0 x1 : List Int), ev 96 0 [rL 1 eI x0, rL 1 eI x1] [] = (QL x0 x1).bind (fun (e : qq × Int) => some (R.tup [R.agg [dI e.1.N, dI e.1.D], rI e.2], [])) :=
  fun x0 x1 => by
    rw [qu qnq qvq.2.2.2 qwL]
    have := qvW; have := @q3s; have := @q78; have := @QL.eq_1; exact gA
theorem qxg : okL 97 qbe := qw (qg qrC) (by kernel_rfl) (by kernel_rfl)
def qys := JA_ @qbe.eq_1 (JA_ @Tryz.f97.eq_1 @qrC)
noncomputable def QC (n : Int) (d : Int) (how : Int) : Option Int := if d = 0 then none else if n < w64 (w64 (Int.tdiv n d) * d) then if (how == 1) = Bool.true then some (w64 (w64 (Int.tdiv n d) - 1)) else if (how == 2) = Bool.true then if 0 < w64 (n - w64 (w64 (w64 (Int.tdiv n d) - 1) * d)) then some (w64 (w64 (w64 (Int.tdiv n d) - 1) + 1)) else some (w64 (w64 (Int.tdiv n d) - 1)) else if d < w64 (2 * w64 (n - w64 (w64 (w64 (Int.tdiv n d) - 1) * d))) then some (w64 (w64 (w64 (Int.tdiv n d) - 1) + 1)) else if (w64 (2 * w64 (n - w64 (w64 (w64 (Int.tdiv n d) - 1) * d))) == d) = Bool.true then if (how == 3) = Bool.true then some (w64 (w64 (w64 (Int.tdiv n d) - 1) + 1)) else if (Int.tmod (w64 (w64 (Int.tdiv n d) - 1)) 2 != 0) = Bool.true then some (w64 (w64 (w64 (Int.tdiv n d) - 1) + 1)) else some (w64 (w64 (Int.tdiv n d) - 1)) else some (w64 (w64 (Int.tdiv n d) - 1)) else if (how == 1) = Bool.true then some (w64 (Int.tdiv n d)) else if (how == 2) = Bool.true then if 0 < w64 (n - w64 (w64 (Int.tdiv n d) * d)) then some (w64 (w64 (Int.tdiv n d) + 1)) else some (w64 (Int.tdiv n d)) else if d < w64 (2 * w64 (n - w64 (w64 (Int.tdiv n d) * d))) then some (w64 (w64 (Int.tdiv n d) + 1)) else if (w64 (2 * w64 (n - w64 (w64 (Int.tdiv n d) * d))) == d) = Bool.true then if (how == 3) = Bool.true then some (w64 (w64 (Int.tdiv n d) + 1)) else if (Int.tmod (w64 (Int.tdiv n d)) 2 != 0) = Bool.true then some (w64 (w64 (Int.tdiv n d) + 1)) else some (w64 (Int.tdiv n d)) else some (w64 (Int.tdiv n d))
theorem q3f : ∀ (n d how : Int), ev 97 0 [rI n, rI d, rI how] [] = (QC n d how).bind (fun (e : Int) => some (rI e, [])) :=
  fun n d how => by
    rw [qu qrC qvx.2.2.2 qxg]
    have := qys; have := @QC.eq_1; exact gA
noncomputable def Zd (c : qd) (to : qf) (grades : List Int) (credits : List Int) : Option (Int × Int) := if (qB c == 0) = Bool.true then if (zm to != 0) = Bool.true then some (0, zm to) else Option.bind (QL grades credits) fun (a : Prod qq Int) => if (a.2 != 0) = Bool.true then some (0, a.2) else Option.bind (QC (w64 (w64 (a.1.N * c.Num) + w64 (c.Add * a.1.D))) (w64 (a.1.D * c.Den)) c.Round) fun (a2 : Int) => some (max (min to.Worst to.Best) (min a2 (max to.Worst to.Best)), 0) else if (qB c != 0) = Bool.true then some (0, qB c) else Option.bind (QL grades credits) fun (a3 : Prod qq Int) => if (a3.2 != 0) = Bool.true then some (0, a3.2) else Option.bind (QC (w64 (w64 (a3.1.N * c.Num) + w64 (c.Add * a3.1.D))) (w64 (a3.1.D * c.Den)) c.Round) fun (a4 : Int) => some (max (min to.Worst to.Best) (min a4 (max to.Worst to.Best)), 0)
theorem q3u : ∀ (c_Num c_Add c_Den c_Round to_Worst to_Best to_Pass : Int) (grades credits : List Int), ev 62 0 [R.agg [dI c_Num, dI c_Add, dI c_Den, dI c_Round], R.agg [dI to_Worst, dI to_Best, dI to_Pass], rL 1 eI grades, rL 1 eI credits] [] = (Zd (qd.mk c_Num c_Add c_Den c_Round) (qf.mk to_Worst to_Best to_Pass) grades credits).bind (fun (e : Int × Int) => some (R.tup [rI e.1, rI e.2], [])) :=
  fun c_Num c_Add c_Den c_Round to_Worst to_Best to_Pass grades credits => by
    rw [qu qry qwa.2.2.2 qxJ]
    have := qzS; have := @Jw; have := @q11; have := @q65; have := @q3f; have := @Zd.eq_1; exact gA
theorem qyS : okL 63 qbm := qw (qg qsj) (by kernel_rfl) (by kernel_rfl)
def qzm := JA_ @qbm.eq_1 (JA_ @Tryz.f63.eq_1 @qsj)
theorem qzW : okL 98 qaG := qw (qg qs6) (by kernel_rfl) (by kernel_rfl)
def qxP := JA_ @qaG.eq_1 (JA_ @Tryz.f98.eq_1 @qs6)
theorem qsq : okL 125 q7h := qw (qg qgO) (by kernel_rfl) (by kernel_rfl)
def qss := JA_ @q7h.eq_1 (JA_ @Tryz.f125.eq_1 @qgO)
noncomputable def JF (s : qf) (g : Int) : Option Bool := if (zm s == 0) = Bool.true then if min s.Worst s.Best ≤ g then some (decide (g ≤ max s.Worst s.Best)) else some Bool.false else some Bool.false
noncomputable def QE (s : qf) (g : Int) : Bool := if (zm s == 0) = Bool.true then if min s.Worst s.Best ≤ g then decide (g ≤ max s.Worst s.Best) else Bool.false else Bool.false
theorem q4a (s : qf) (g : Int) : JF s g = some (QE s g) := by
  unfold JF QE
  simp only [za]
theorem q4x : ∀ (s_Worst s_Best s_Pass g : Int), ev 125 0 [R.agg [dI s_Worst, dI s_Best, dI s_Pass], rI g] [] = some (rB (QE (qf.mk s_Worst s_Best s_Pass) g), []) :=
  fun s_Worst s_Best s_Pass g => by
    have h : ev 125 0 [R.agg [dI s_Worst, dI s_Best, dI s_Pass], rI g] [] = (JF (qf.mk s_Worst s_Best s_Pass) g).bind (fun (e : Bool) => some (rB e, [])) := by
      rw [qu qgO qqI.2.2.2 qsq]
      have := qss; have := @q11; have := @JF.eq_1; exact gA
    rw [q4a] at h
    exact h
noncomputable def ZO (s : qf) (g : Int) (least : Int) : Option Bool := if (!(QE s g)) = Bool.true then some Bool.false else if s.Worst < s.Best then some (decide (least ≤ g)) else some (decide (g ≤ least))
noncomputable def Qm (s : qf) (g : Int) (least : Int) : Bool := if (!(QE s g)) = Bool.true then Bool.false else if s.Worst < s.Best then decide (least ≤ g) else decide (g ≤ least)
theorem q2D (s : qf) (g least : Int) : ZO s g least = some (Qm s g least) := by
  unfold ZO Qm
  simp only [za]
theorem q3p : ∀ (s_Worst s_Best s_Pass g least : Int), ev 98 0 [R.agg [dI s_Worst, dI s_Best, dI s_Pass], rI g, rI least] [] = some (rB (Qm (qf.mk s_Worst s_Best s_Pass) g least), []) :=
  fun s_Worst s_Best s_Pass g least => by
    have h : ev 98 0 [R.agg [dI s_Worst, dI s_Best, dI s_Pass], rI g, rI least] [] = (ZO (qf.mk s_Worst s_Best s_Pass) g least).bind (fun (e : Bool) => some (rB e, [])) := by
      rw [qu qs6 qvA.2.2.2 qzW]
      have := qxP; have := @q4x; have := @ZO.eq_1; exact gA
    rw [q2D] at h
    exact h
noncomputable def Je (s : qf) (g : Int) : Option Bool :=
  some (Qm s g s.Pass)
noncomputable def Qa (s : qf) (g : Int) : Bool :=
  Qm s g s.Pass
theorem q3b (s : qf) (g : Int) : Je s g = some (Qa s g) := by
  unfold Je Qa
  simp only [za]
theorem q40 : ∀ (s_Worst s_Best s_Pass g : Int), ev 63 0 [R.agg [dI s_Worst, dI s_Best, dI s_Pass], rI g] [] = some (rB (Qa (qf.mk s_Worst s_Best s_Pass) g), []) :=
  fun s_Worst s_Best s_Pass g => by
    have h : ev 63 0 [R.agg [dI s_Worst, dI s_Best, dI s_Pass], rI g] [] = (Je (qf.mk s_Worst s_Best s_Pass) g).bind (fun (e : Bool) => some (rB e, [])) := by
      rw [qu qsj qwB.2.2.2 qyS]
      have := qzm; have := @q3p; have := @Je.eq_1; exact gA
    rw [q3b] at h
    exact h
theorem qrY : okL 65 q5H := qw (qg qkj) (by kernel_rfl) (by kernel_rfl)
def qrU := JA_ @q5H.eq_1 (JA_ @Tryz.f65.eq_1 @qkj)
theorem qnu : lbO 65 3 = qej := zo (qg qkj) rfl
theorem qpj : okL 65 qej := qH qrY (List.mem_of_getElem? (i := 0) (by kernel_rfl))
theorem qnw : lbO 65 6 = qeq := zo (qg qkj) rfl
theorem qmK : okL 65 qeq := qH qrY (List.mem_of_getElem? (i := 1) (by kernel_rfl))
theorem qlI : lbO 65 12 = q9t := zo (qg qkj) rfl
theorem qlw : okL 65 q9t := qH qrY (List.mem_of_getElem? (i := 2) (by kernel_rfl))
theorem qxl : okL 99 qb8 := qw (qg qsl) (by kernel_rfl) (by kernel_rfl)
def qxr := JA_ @qb8.eq_1 (JA_ @Tryz.f99.eq_1 @qsl)
noncomputable def JL (l : List Int) (n : Int) : Option Bool := Option.bind (Qy l [n]) fun (e0 : Bool) => some e0
theorem q6k : ∀ (l : List Int) (n : Int), ev 99 0 [rL 1 eI l, rI n] [] = (JL l n).bind (fun (e : Bool) => some (rB e, [])) :=
  fun l n => by
    rw [qu qsl qwQ.2.2.2 qxl]
    have := qxr; have := @q2b; have := @JL.eq_1; exact gA
noncomputable def zw (t0 : List qb) (t4 : Int) (t5 : Int) : (List Int × Int) → Option ((List Int × Int) ⊕ (List Int)) | (w0, t7) => if 0 < t7 then if 0 ≤ w64 (t7 - 1) ∧ w64 (t7 - 1) < ((w0.length : Nat) : Int) then Option.bind w0[Int.toNat (w64 (t7 - 1))]? fun (a : Int) => if 0 ≤ t7 ∧ t7 < ((w0.length : Nat) : Int) then Option.bind w0[Int.toNat t7]? fun (a2 : Int) => if a2 < a then if 0 ≤ t7 ∧ t7 < ((w0.length : Nat) : Int) then Option.bind w0[Int.toNat t7]? fun (a3 : Int) => if 0 ≤ w64 (t7 - 1) ∧ w64 (t7 - 1) < ((w0.length : Nat) : Int) then Option.bind w0[Int.toNat (w64 (t7 - 1))]? fun (a4 : Int) => if 0 ≤ w64 (t7 - 1) ∧ w64 (t7 - 1) < ((w0.length : Nat) : Int) then if Int.toNat (w64 (t7 - 1)) + 1 ≤ w0.length then if 0 ≤ t7 ∧ t7 < ((w0.length : Nat) : Int) then if Int.toNat t7 + 1 ≤ w0.length then some (Sum.inl (List.set (List.set w0 (Int.toNat (w64 (t7 - 1))) a3) (Int.toNat t7) a4, w64 (t7 - 1))) else none else none else none else none else none else none else some (Sum.inr w0) else none else none else some (Sum.inr w0)
theorem q16 : ∀ (w0 : List Int) (t0 : List qb) (t4 t5 t7 : Int) (w0_len : Nat), w0_len = w0.length → XL2 evo 65 0 12 ⟨[(0, rL 8 qc t0), (3, rO 0 1 w0_len), (4, rI t4), (5, rI t5), (7, rI t7)], [(0, bR 3 1 eI w0)], 1, 75⟩ = (qA (zw t0 t4 t5) (w0, t7)).bind (fun (e : List Int) => some (Go.Exit.exit 4, ⟨[(0, rL 8 qc t0), (3, rO 0 1 e.length), (4, rI t4), (5, rI t5)], [(0, bR 3 1 eI e)], 1, 75⟩)) :=
  by
  intro w0 t0 t4 t5 t7 w0_len h0
  subst h0
  revert t7; revert w0; exact q7B qlI qlw (fun e => by exact ⟨_, rfl, fun h => by cases h⟩) fun w0 t7 => by
    have := qrU; have := @q9t.eq_1; have := @zw.eq_1; exact gA
noncomputable def zG (t0 : List qb) (t4 : Int) : (List Int × Int) → Option ((List Int × Int) ⊕ (List Int)) | (w0, t5) => if 0 ≤ t4 ∧ t4 < ((t0.length : Nat) : Int) then Option.bind t0[Int.toNat t4]? fun (a : qb) => if t5 < ((a.Sources.length : Nat) : Int) then if 0 ≤ t4 ∧ t4 < ((t0.length : Nat) : Int) then Option.bind t0[Int.toNat t4]? fun (a2 : qb) => if 0 ≤ t5 ∧ t5 < ((a2.Sources.length : Nat) : Int) then Option.bind a2.Sources[Int.toNat t5]? fun (a3 : Int) => Option.bind (JL w0 a3) fun (a4 : Bool) => if a4 = Bool.true then some (Sum.inl (w0, w64 (t5 + 1))) else if w0.length + 1 ≤ Go.maxLen ∧ (w0.length + 1) * 8 ≤ 140737488355328 then Option.bind (qA (zw t0 t4 t5) (w0 ++ [a3], w64 (((w0.length + 1 : Nat) : Int) - 1))) fun (a5 : List Int) => some (Sum.inl (a5, w64 (t5 + 1))) else none else none else none else some (Sum.inr w0) else none
theorem q1s : ∀ (w0 : List Int) (t0 : List qb) (t4 t5 : Int) (w0_len : Nat), w0_len = w0.length → XL2 evo 65 0 6 ⟨[(0, rL 8 qc t0), (3, rO 0 1 w0_len), (4, rI t4), (5, rI t5)], [(0, bR 3 1 eI w0)], 1, 75⟩ = (qA (zG t0 t4) (w0, t5)).bind (fun (e : List Int) => some (Go.Exit.exit 2, ⟨[(0, rL 8 qc t0), (3, rO 0 1 e.length), (4, rI t4)], [(0, bR 3 1 eI e)], 1, 75⟩)) :=
  by
  intro w0 t0 t4 t5 w0_len h0
  subst h0
  revert t5; revert w0; exact q7B qnw qmK (fun e => by exact ⟨_, rfl, fun h => by cases h⟩) fun w0 t5 => by
    have := qrU; have := @qeq.eq_1; have := @q6k; have := @q16; have := @zG.eq_1; exact gA
noncomputable def zE (t0 : List qb) : (List Int × Int) → Option ((List Int × Int) ⊕ (List Int)) | (w0, t4) => if t4 < ((t0.length : Nat) : Int) then Option.bind (qA (zG t0 t4) (w0, 0)) fun (a : List Int) => some (Sum.inl (a, w64 (t4 + 1))) else some (Sum.inr w0)
theorem q1r : ∀ (w0 : List Int) (t0 : List qb) (t4 : Int) (w0_len : Nat), w0_len = w0.length → XL2 evo 65 0 3 ⟨[(0, rL 8 qc t0), (3, rO 0 1 w0_len), (4, rI t4)], [(0, bR 3 1 eI w0)], 1, 75⟩ = (qA (zE t0) (w0, t4)).bind (fun (e : List Int) => some (Go.Exit.exit 0, ⟨[(3, rO 0 1 e.length)], [(0, bR 3 1 eI e)], 1, 75⟩)) :=
  by
  intro w0 t0 t4 w0_len h0
  subst h0
  revert t4; revert w0; exact q7B qnu qpj (fun e => by exact ⟨_, rfl, fun h => by cases h⟩) fun w0 t4 => by
    have := qrU; have := @qej.eq_1; have := @q1s; have := @zE.eq_1; exact gA
theorem q0A : ∀  (t0 : List qb) (t4 : Int), XL2 evo 65 0 3 ⟨[(0, rL 8 qc t0), (3, rO 0 1 0), (4, rI t4)], [(0, B.row 3 1 [])], 1, 75⟩ = (qA (zE t0) ([], t4)).bind (fun (e : List Int) => some (Go.Exit.exit 0, ⟨[(3, rO 0 1 e.length)], [(0, bR 3 1 eI e)], 1, 75⟩)) := by
  intro t0 t4; have h := q1r [] t0 t4 _ rfl
  first
    | exact h
    | (simp only [rL, dL, bR, bZ, Nat.reduceAdd] at h; exact h)
noncomputable def QD (x0 : List qb) : Option (List Int) := Option.bind (qA (zE x0) ([], 0)) fun (a : List Int) => some a
theorem q3r : ∀ (x0 : List qb), ev 65 0 [rL 8 qc x0] [] = (QD x0).bind (fun (e : List Int) => some (rL 1 eI e, [])) :=
  fun x0 => by
    rw [qu qkj qvc.2.2.2 qrY]
    have := qrU; have := @q0A; have := @QD.eq_1; exact gA
noncomputable def zO (b0 : qa) (t2 : List qb) (t11 : Int) : (List qb × Int) → Option ((List qb × Int) ⊕ (List qb)) | (w1, t14) => if t14 < ((b0.Out.length : Nat) : Int) then if 0 ≤ t14 ∧ t14 < ((b0.Out.length : Nat) : Int) then Option.bind b0.Out[Int.toNat t14]? fun (a : qh) => if 0 ≤ t14 ∧ t14 < ((b0.Out.length : Nat) : Int) then Option.bind b0.Out[Int.toNat t14]? fun (a2 : qh) => Option.bind (ZB t2) fun (a3 : Int) => Option.bind (QD t2) fun (a4 : List Int) => if 0 < ((t2.length : Nat) : Int) then Option.bind t2[0]? fun (a5 : qb) => if a5.Path.length ≤ Go.maxLen ∧ a5.Path.length * 8 ≤ 140737488355328 then if a5.Path.length + 1 ≤ Go.maxLen ∧ (a5.Path.length + 1) * 8 ≤ 140737488355328 then if w1.length + 1 ≤ Go.maxLen ∧ (w1.length + 1) * 104 ≤ 140737488355328 then some (Sum.inl (w1 ++ [qb.mk (qt.mk b0.To a.Code) a2.Credits t11 a3 a4 0 (a5.Path ++ [b0.Id])], w64 (t14 + 1))) else none else none else none else none else none else none else some (Sum.inr w1)
theorem q1X : ∀ (w1 : List qb) (b0_Id b0_From b0_To b0_Begin b0_End : Int) (b0_In : List ByteArray) (b0_Out : List qh) (b0_Conv_Num b0_Conv_Add b0_Conv_Den b0_Conv_Round : Int) (t2 : List qb) (t11 t14 : Int) (w1_len : Nat), w1_len = w1.length → XL2 evo 19 0 16 ⟨[(2, rL 8 qc t2), (3, rP 0), (11, rI t11), (13, rO 1 8 w1_len), (14, rI t14)], [(0, B.blk 30 [dI b0_Id, dI b0_From, dI b0_To, dI b0_Begin, dI b0_End, dL 1 eS b0_In, dL 2 qe b0_Out, dI b0_Conv_Num, dI b0_Conv_Add, dI b0_Conv_Den, dI b0_Conv_Round]), (1, bR 53 8 qc w1)], 2, 103⟩ = (qA (zO (qa.mk b0_Id b0_From b0_To b0_Begin b0_End b0_In b0_Out (qd.mk b0_Conv_Num b0_Conv_Add b0_Conv_Den b0_Conv_Round)) t2 t11) (w1, t14)).bind (fun (e : List qb) => some (Go.Exit.exit 2, ⟨[(13, rO 0 8 e.length)], [(0, bR 53 8 qc e)], 1, 103⟩)) :=
  by
  intro w1 b0_Id b0_From b0_To b0_Begin b0_End b0_In b0_Out b0_Conv_Num b0_Conv_Add b0_Conv_Den b0_Conv_Round t2 t11 t14 w1_len h0
  subst h0
  revert t14; revert w1; exact q7B qjE qkK (fun e => by exact ⟨_, rfl, fun h => by cases h⟩) fun w1 t14 => by
    have := quC; have := @q9G.eq_1; have := @q1x; have := @q3r; have := @zO.eq_1; exact gA
theorem q0S : ∀  (b0_Id b0_From b0_To b0_Begin b0_End : Int) (b0_In : List ByteArray) (b0_Out : List qh) (b0_Conv_Num b0_Conv_Add b0_Conv_Den b0_Conv_Round : Int) (t2 : List qb) (t11 t14 : Int), XL2 evo 19 0 16 ⟨[(2, rL 8 qc t2), (3, rP 0), (11, rI t11), (13, rO 1 8 0), (14, rI t14)], [(0, B.blk 30 [dI b0_Id, dI b0_From, dI b0_To, dI b0_Begin, dI b0_End, dL 1 eS b0_In, dL 2 qe b0_Out, dI b0_Conv_Num, dI b0_Conv_Add, dI b0_Conv_Den, dI b0_Conv_Round]), (1, B.row 53 8 [])], 2, 103⟩ = (qA (zO (qa.mk b0_Id b0_From b0_To b0_Begin b0_End b0_In b0_Out (qd.mk b0_Conv_Num b0_Conv_Add b0_Conv_Den b0_Conv_Round)) t2 t11) ([], t14)).bind (fun (e : List qb) => some (Go.Exit.exit 2, ⟨[(13, rO 0 8 e.length)], [(0, bR 53 8 qc e)], 1, 103⟩)) := by
  intro b0_Id b0_From b0_To b0_Begin b0_End b0_In b0_Out b0_Conv_Num b0_Conv_Add b0_Conv_Den b0_Conv_Round t2 t11 t14; have h := q1X [] ((qa.mk b0_Id b0_From b0_To b0_Begin b0_End b0_In b0_Out (qd.mk b0_Conv_Num b0_Conv_Add b0_Conv_Den b0_Conv_Round))).Id ((qa.mk b0_Id b0_From b0_To b0_Begin b0_End b0_In b0_Out (qd.mk b0_Conv_Num b0_Conv_Add b0_Conv_Den b0_Conv_Round))).From ((qa.mk b0_Id b0_From b0_To b0_Begin b0_End b0_In b0_Out (qd.mk b0_Conv_Num b0_Conv_Add b0_Conv_Den b0_Conv_Round))).To ((qa.mk b0_Id b0_From b0_To b0_Begin b0_End b0_In b0_Out (qd.mk b0_Conv_Num b0_Conv_Add b0_Conv_Den b0_Conv_Round))).Begin ((qa.mk b0_Id b0_From b0_To b0_Begin b0_End b0_In b0_Out (qd.mk b0_Conv_Num b0_Conv_Add b0_Conv_Den b0_Conv_Round))).End ((qa.mk b0_Id b0_From b0_To b0_Begin b0_End b0_In b0_Out (qd.mk b0_Conv_Num b0_Conv_Add b0_Conv_Den b0_Conv_Round))).In ((qa.mk b0_Id b0_From b0_To b0_Begin b0_End b0_In b0_Out (qd.mk b0_Conv_Num b0_Conv_Add b0_Conv_Den b0_Conv_Round))).Out ((qa.mk b0_Id b0_From b0_To b0_Begin b0_End b0_In b0_Out (qd.mk b0_Conv_Num b0_Conv_Add b0_Conv_Den b0_Conv_Round))).Conv.Num ((qa.mk b0_Id b0_From b0_To b0_Begin b0_End b0_In b0_Out (qd.mk b0_Conv_Num b0_Conv_Add b0_Conv_Den b0_Conv_Round))).Conv.Add ((qa.mk b0_Id b0_From b0_To b0_Begin b0_End b0_In b0_Out (qd.mk b0_Conv_Num b0_Conv_Add b0_Conv_Den b0_Conv_Round))).Conv.Den ((qa.mk b0_Id b0_From b0_To b0_Begin b0_End b0_In b0_Out (qd.mk b0_Conv_Num b0_Conv_Add b0_Conv_Den b0_Conv_Round))).Conv.Round t2 t11 t14 _ rfl
  first
    | exact h
    | (simp only [rL, dL, bR, bZ, Nat.reduceAdd] at h; exact h)
noncomputable def ZS (x0 : qa) (x1 : qf) (x2 : List qb) : Option (List qb × Int) := Option.bind (Qr x0 x2) fun (a : Bool) => if (!a) = Bool.true then some ([], 33) else Option.bind (qA (zV x0 x1 x2) ([], ([], 0))) fun (a2 : Prod (List Int) (List Int)) => Option.bind (Zd x0.Conv x1 a2.1 a2.2) fun (a3 : Prod Int Int) => if (a3.2 != 0) = Bool.true then some ([], a3.2) else if (!(Qa x1 a3.1)) = Bool.true then some ([], 0) else Option.bind (qA (zO x0 x2 a3.1) ([], 0)) fun (a4 : List qb) => some (a4, 0)
theorem q4F : ∀ (x0_Id x0_From x0_To x0_Begin x0_End : Int) (x0_In : List ByteArray) (x0_Out : List qh) (x0_Conv_Num x0_Conv_Add x0_Conv_Den x0_Conv_Round x1_Worst x1_Best x1_Pass : Int) (x2 : List qb), ev 19 0 [R.agg [dI x0_Id, dI x0_From, dI x0_To, dI x0_Begin, dI x0_End, dL 1 eS x0_In, dL 2 qe x0_Out, dI x0_Conv_Num, dI x0_Conv_Add, dI x0_Conv_Den, dI x0_Conv_Round], R.agg [dI x1_Worst, dI x1_Best, dI x1_Pass], rL 8 qc x2] [] = (ZS (qa.mk x0_Id x0_From x0_To x0_Begin x0_End x0_In x0_Out (qd.mk x0_Conv_Num x0_Conv_Add x0_Conv_Den x0_Conv_Round)) (qf.mk x1_Worst x1_Best x1_Pass) x2).bind (fun (e : List qb × Int) => some (R.tup [rL 8 qc e.1, rI e.2], [])) :=
  fun x0_Id x0_From x0_To x0_Begin x0_End x0_In x0_Out x0_Conv_Num x0_Conv_Add x0_Conv_Den x0_Conv_Round x1_Worst x1_Best x1_Pass x2 => by
    rw [qu qmd qv5.2.2.2 qtk]
    have := quC; have := @q0d; have := @q1d; have := @q3u; have := @q40; have := @q0S; have := @ZS.eq_1; exact gA
theorem qwk : okL 20 q8C := qw (qg qoC) (by kernel_rfl) (by kernel_rfl)
def qvT := JA_ @q8C.eq_1 (JA_ @Tryz.f20.eq_1 @qoC)
theorem qom : lbO 20 4 = qdQ := zo (qg qoC) rfl
theorem qny : okL 20 qdQ := qH qwk (List.mem_of_getElem? (i := 0) (by kernel_rfl))
theorem qyK : okL 30 qas := qw (qg qrp) (by kernel_rfl) (by kernel_rfl)
def qza := JA_ @qas.eq_1 (JA_ @Tryz.f30.eq_1 @qrp)
noncomputable def Jj (a : qb) (b : qb) : Option Bool := Option.bind (Qc a.Sources b.Sources) fun (a2 : Bool) => Option.bind (Qc a.Path b.Path) fun (a3 : Bool) => if a2 = Bool.true then if a3 = Bool.true then if (a.Course.School == b.Course.School) = Bool.true ∧ (ByteArray.toList a.Course.Code == ByteArray.toList b.Course.Code) = Bool.true then if (a.Credits == b.Credits) = Bool.true then if (a.Grade == b.Grade) = Bool.true then if (a.Day == b.Day) = Bool.true then some (a.Bundle == b.Bundle) else some Bool.false else some Bool.false else some Bool.false else some Bool.false else some Bool.false else some Bool.false
theorem q5D : ∀ (a_Course_School : Int) (a_Course_Code : ByteArray) (a_Credits a_Grade a_Day : Int) (a_Sources : List Int) (a_Bundle : Int) (a_Path : List Int) (b_Course_School : Int) (b_Course_Code : ByteArray) (b_Credits b_Grade b_Day : Int) (b_Sources : List Int) (b_Bundle : Int) (b_Path : List Int), ev 30 0 [R.agg [dI a_Course_School, dS a_Course_Code, dI a_Credits, dI a_Grade, dI a_Day, dL 1 eI a_Sources, dI a_Bundle, dL 1 eI a_Path], R.agg [dI b_Course_School, dS b_Course_Code, dI b_Credits, dI b_Grade, dI b_Day, dL 1 eI b_Sources, dI b_Bundle, dL 1 eI b_Path]] [] = (Jj (qb.mk (qt.mk a_Course_School a_Course_Code) a_Credits a_Grade a_Day a_Sources a_Bundle a_Path) (qb.mk (qt.mk b_Course_School b_Course_Code) b_Credits b_Grade b_Day b_Sources b_Bundle b_Path)).bind (fun (e : Bool) => some (rB e, [])) :=
  fun a_Course_School a_Course_Code a_Credits a_Grade a_Day a_Sources a_Bundle a_Path b_Course_School b_Course_Code b_Credits b_Grade b_Day b_Sources b_Bundle b_Path => by
    rw [qu qrp qvG.2.2.2 qyK]
    have := qza; have := @JQ; have := @Jj.eq_1; exact gA
noncomputable def Q5 (a : List qb) (b : List qb) : Int → Option (Int ⊕ (Unit ⊕ Unit)) | k => if k < ((a.length : Nat) : Int) then if 0 ≤ k ∧ k < ((a.length : Nat) : Int) then Option.bind a[Int.toNat k]? fun (a2 : qb) => if 0 ≤ k ∧ k < ((b.length : Nat) : Int) then Option.bind b[Int.toNat k]? fun (a3 : qb) => Option.bind (Jj a2 a3) fun (a4 : Bool) => if (!a4) = Bool.true then some (Sum.inr (Sum.inl ())) else some (Sum.inl (w64 (k + 1))) else none else none else some (Sum.inr (Sum.inr ()))
theorem q1m : ∀ (a b : List qb) (k : Int), XL2 evo 20 0 4 ⟨[(0, rL 8 qc a), (1, rL 8 qc b), (5, rI k)], [], 0, 29⟩ = (qA (Q5 a b) k).bind (Sum.elim (fun (e : Unit) => some (Go.Exit.ret, ⟨[(4, rB Bool.false)], [], 0, 29⟩)) (fun (e : Unit) => some (Go.Exit.exit 0, ⟨[(4, R.any)], [], 0, 29⟩))) :=
  fun a b k => by
    revert k; exact q4j qom qny (fun e => by rcases e with _ | _ <;> exact ⟨_, rfl, fun h => by cases h⟩) fun x => by
      have := qvT; have := @qdQ.eq_1; have := @q5D; have := @Q5.eq_1; exact gA
noncomputable def Z8 (a : List qb) (b : List qb) : Option Bool := if (((a.length : Nat) : Int) != ((b.length : Nat) : Int)) = Bool.true then some Bool.false else Option.bind (qA (Q5 a b) 0) fun (a2 : Sum Unit Unit) => Sum.elim (fun (a3 : Unit) => some Bool.false) (fun (a4 : Unit) => some Bool.true) a2
theorem q2N : ∀ (a b : List qb), ev 20 0 [rL 8 qc a, rL 8 qc b] [] = (Z8 a b).bind (fun (e : Bool) => some (rB e, [])) :=
  fun a b => by
    rw [qu qoC qvz.2.2.2 qwk]
    have := qvT; have := @q1m; have := @Z8.eq_1; exact gA
noncomputable def Jg (a : qb) : Option (Int × ByteArray × Int × Int × Int × Int × List Int × List Int) := if a.Sources.length ≤ Go.maxLen ∧ a.Sources.length * 8 ≤ 140737488355328 then if a.Path.length ≤ Go.maxLen ∧ a.Path.length * 8 ≤ 140737488355328 then some (a.Course.School, a.Course.Code, a.Credits, a.Grade, a.Day, a.Bundle, a.Sources, a.Path) else none else none
theorem q5N : ∀ (a_Course_School : Int) (a_Course_Code : ByteArray) (a_Credits a_Grade a_Day : Int) (a_Sources : List Int) (a_Bundle : Int) (a_Path : List Int), ev 50 0 [R.agg [dI a_Course_School, dS a_Course_Code, dI a_Credits, dI a_Grade, dI a_Day, dL 1 eI a_Sources, dI a_Bundle, dL 1 eI a_Path]] [] = (Jg (qb.mk (qt.mk a_Course_School a_Course_Code) a_Credits a_Grade a_Day a_Sources a_Bundle a_Path)).bind (fun (e : Int × ByteArray × Int × Int × Int × Int × List Int × List Int) => some (R.agg [dI e.1, dS e.2.1, dI e.2.2.1, dI e.2.2.2.1, dI e.2.2.2.2.1, dO 0 1 e.2.2.2.2.2.2.1.length, dI e.2.2.2.2.2.1, dO 1 1 e.2.2.2.2.2.2.2.length], [(0, bR 3 1 eI e.2.2.2.2.2.2.1), (1, bR 3 1 eI e.2.2.2.2.2.2.2)])) :=
  fun a_Course_School a_Course_Code a_Credits a_Grade a_Day a_Sources a_Bundle a_Path => by
    rw [qu qrH qvB.2.2.2 qxd]
    have := qy3; have := @Jg.eq_1; exact gA
noncomputable def JM (x0 : qb) (x1 : Z6 Int) : Option qb := Option.bind (Jg x0) fun (a : Prod Int (Prod ByteArray (Prod Int (Prod Int (Prod Int (Prod Int (Prod (List Int) (List Int)))))))) => Option.bind (QA x1.a1 40) fun (a2 : Int) => Option.bind (QA x1.a0 8) fun (a3 : Int) => if (a3 == 0) = Bool.true then some (qb.mk (qt.mk (Int.tmod a2 9) a.2.1) a.2.2.1 a.2.2.2.1 a.2.2.2.2.1 a.2.2.2.2.2.2.1 a.2.2.2.2.2.1 a.2.2.2.2.2.2.2) else if (a3 == 1) = Bool.true then if 0 ≤ Int.tmod a2 4 ∧ Int.tmod a2 4 < 4 then Option.bind [ByteArray.mk (List.toArray [65, 49]), ByteArray.mk (List.toArray [66, 49]), ByteArray.mk (List.toArray []), ByteArray.mk (List.toArray [65])][Int.toNat (Int.tmod a2 4)]? fun (a4 : ByteArray) => some (qb.mk (qt.mk a.1 a4) a.2.2.1 a.2.2.2.1 a.2.2.2.2.1 a.2.2.2.2.2.2.1 a.2.2.2.2.2.1 a.2.2.2.2.2.2.2) else none else if (a3 == 2) = Bool.true then some (qb.mk (qt.mk a.1 a.2.1) a2 a.2.2.2.1 a.2.2.2.2.1 a.2.2.2.2.2.2.1 a.2.2.2.2.2.1 a.2.2.2.2.2.2.2) else if (a3 == 3) = Bool.true then some (qb.mk (qt.mk a.1 a.2.1) a.2.2.1 (w64 (w64 (5 * a2) - 50)) a.2.2.2.2.1 a.2.2.2.2.2.2.1 a.2.2.2.2.2.1 a.2.2.2.2.2.2.2) else if (a3 == 4) = Bool.true then some (qb.mk (qt.mk a.1 a.2.1) a.2.2.1 a.2.2.2.1 (w64 (20 * a2)) a.2.2.2.2.2.2.1 a.2.2.2.2.2.1 a.2.2.2.2.2.2.2) else if (a3 == 5) = Bool.true then if a.2.2.2.2.2.2.1.length + 1 ≤ Go.maxLen ∧ (a.2.2.2.2.2.2.1.length + 1) * 8 ≤ 140737488355328 then some (qb.mk (qt.mk a.1 a.2.1) a.2.2.1 a.2.2.2.1 a.2.2.2.2.1 (a.2.2.2.2.2.2.1 ++ [w64 (1000000 + a2)]) a.2.2.2.2.2.1 a.2.2.2.2.2.2.2) else none else if (a3 == 6) = Bool.true then some (qb.mk (qt.mk a.1 a.2.1) a.2.2.1 a.2.2.2.1 a.2.2.2.2.1 a.2.2.2.2.2.2.1 (w64 (Int.tmod a2 5 - 1)) a.2.2.2.2.2.2.2) else if (a3 == 7) = Bool.true then if a.2.2.2.2.2.2.2.length + 1 ≤ Go.maxLen ∧ (a.2.2.2.2.2.2.2.length + 1) * 8 ≤ 140737488355328 then some (qb.mk (qt.mk a.1 a.2.1) a.2.2.1 a.2.2.2.1 a.2.2.2.2.1 a.2.2.2.2.2.2.1 a.2.2.2.2.2.1 (a.2.2.2.2.2.2.2 ++ [Int.tmod a2 3])) else none else some (qb.mk (qt.mk a.1 a.2.1) a.2.2.1 a.2.2.2.1 a.2.2.2.2.1 a.2.2.2.2.2.2.1 a.2.2.2.2.2.1 a.2.2.2.2.2.2.2)
theorem q6b : ∀ (x0_Course_School : Int) (x0_Course_Code : ByteArray) (x0_Credits x0_Grade x0_Day : Int) (x0_Sources : List Int) (x0_Bundle : Int) (x0_Path : List Int) (x1_0 x1_1 : Int), ev 16 0 [R.agg [dI x0_Course_School, dS x0_Course_Code, dI x0_Credits, dI x0_Grade, dI x0_Day, dL 1 eI x0_Sources, dI x0_Bundle, dL 1 eI x0_Path], R.agg [dI x1_0, dI x1_1]] [] = (JM (qb.mk (qt.mk x0_Course_School x0_Course_Code) x0_Credits x0_Grade x0_Day x0_Sources x0_Bundle x0_Path) (Z6.mk x1_0 x1_1)).bind (fun (e : qb) => some (R.agg [dI e.Course.School, dS e.Course.Code, dI e.Credits, dI e.Grade, dI e.Day, dL 1 eI e.Sources, dI e.Bundle, dL 1 eI e.Path], [])) :=
  fun x0_Course_School x0_Course_Code x0_Credits x0_Grade x0_Day x0_Sources x0_Bundle x0_Path x1_0 x1_1 => by
    rw [qu qrx qwR.2.2.2 qzb]
    have := qyu; have := @q5N; have := @Jf; have := @JM.eq_1; exact gA
end Go.Proofs.YtplfjlcnffcenaaGreat.Vc
