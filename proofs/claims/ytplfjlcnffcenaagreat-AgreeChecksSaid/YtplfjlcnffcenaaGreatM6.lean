/- Part 6 of a proof. -/
import Derived.Test.YtplfjlcnffcenaaGreatM5
import Derived.Laws.RangeAny
import Derived.Laws.Strings
import Derived.Test.YtplfjlcnffcenaaGreatRows
import Derived.ChangeSlices
import Derived.OpenShut
import Derived.Carry
import Derived.ChangeSame
import Derived.ChangeMaps5
import Derived.WideShapes
import Derived.ProofKit
import Derived.Deep.DeepHandedRow
import Derived.Lib.LaidTab
import Derived.Stop.LaidErr
set_option linter.unusedVariables false
set_option linter.unusedSimpArgs false
set_option linter.defProp false
set_option linter.unusedSectionVars false
set_option linter.unnecessarySimpa false
namespace Go.Proofs.YtplfjlcnffcenaaGreat.Vc
open Go.RowKit
set_option linter.unusedVariables false
set_option linter.unusedSimpArgs false
set_option maxRecDepth 20000
set_option maxHeartbeats 8000000
set_option linter.defProp false
theorem q0f : ev 6 0 [] [] = some (rB true, []) := q6v
theorem lo3 : okL 3 q5u := qT (qg bd3) (by kernel_rfl) (by kernel_rfl)
def cx3 := JA_ @q5u.eq_1 (JA_ @Tryz.f3.eq_1 @bd3)
theorem qji : lbO 3 3 = qc8 := Q4 (qg bd3) rfl
theorem qhN : okL 3 qc8 := zx lo3 (List.mem_of_getElem? (i := 0) (by kernel_rfl))
theorem qje : lbO 3 7 = qbV := Q4 (qg bd3) rfl
theorem qjD : okL 3 qbV := zx lo3 (List.mem_of_getElem? (i := 1) (by kernel_rfl))
theorem lo7 : okL 7 q7b := qT (qg bd7) (by kernel_rfl) (by kernel_rfl)
def cx7 := JA_ @q7b.eq_1 (JA_ @Tryz.f7.eq_1 @bd7)
theorem qjx : lbO 7 3 = qcS := Q4 (qg bd7) rfl
theorem qj9 : okL 7 qcS := zx lo7 (List.mem_of_getElem? (i := 0) (by kernel_rfl))
theorem qkb : okL 26 q2Y := qT (qg qes) (by kernel_rfl) (by kernel_rfl)
def qk6 := JA_ @q2Y.eq_1 (JA_ @Tryz.f26.eq_1 @qes)
theorem qfn : lbO 26 6 = q6B := Q4 (qg qes) rfl
theorem qek : okL 26 q6B := zx qkb (List.mem_of_getElem? (i := 0) (by kernel_rfl))
theorem qkX : okL 49 q51 := qT (qg qh8) (by kernel_rfl) (by kernel_rfl)
def qlL := JA_ @q51.eq_1 (JA_ @Tryz.f49.eq_1 @qh8)
theorem qmI : okL 15 q5o := qT (qg qho) (by kernel_rfl) (by kernel_rfl)
def qmA := JA_ @q5o.eq_1 (JA_ @Tryz.f15.eq_1 @qho)
noncomputable def Q7 (n : Int) (m : Int) : Option Int :=
  if m = 0 then none
  else if m = 0 then none
  else some (Int.tmod (w64 (Int.tmod n m + m)) m)
theorem ZX : ∀ (n m : Int), ev 15 0 [rI n, rI m] [] = (Q7 n m).bind (fun (e : Int) => some (rI e, [])) :=
  fun n m => by
    rw [qQ qho qkh.2.2.2 qmI]
    have := qmA; have := @Q7.eq_1; exact gA
noncomputable def qj (n : Int) (d : qe) : Option (Int × qe) :=
  if ((d.L.length : Nat) : Int) ≤ d.At then some (0, d)
  else if 0 ≤ w64 (w64 (d.At + 1) - 1) ∧ w64 (w64 (d.At + 1) - 1) < ((d.L.length : Nat) : Int) then Option.bind d.L[Int.toNat (w64 (w64 (d.At + 1) - 1))]? fun (a : Int) =>
    Option.bind (Q7 a n) fun (a2 : Int) =>
    some (a2, qe.mk d.L (w64 (d.At + 1)))
  else none
theorem zg : ∀ (n : Int) (d_L : List Int) (d_At : Int), ev 49 1 [rP 0, rI n] [(0, B.blk 70 [dL 1 eI d_L, dI d_At])] = (qj n (qe.mk d_L d_At)).bind (fun (e : Int × qe) => some (rI e.1, [(0, B.blk 70 [dL 1 eI e.2.L, dI e.2.At])])) :=
  fun n d_L d_At => by
    rw [qQ qh8 qkK.2.2.2 qkX]
    have := qlL; have := @ZX; have := @qj.eq_1; exact gA
theorem qiM : okL 74 q29 := qT (qg qe2) (by kernel_rfl) (by kernel_rfl)
def qeX := JA_ @q29.eq_1 (JA_ @Tryz.f74.eq_1 @qe2)
theorem qbE : lbO 74 3 = q4y := Q4 (qg qe2) rfl
theorem qbC : okL 74 q4y := zx qiM (List.mem_of_getElem? (i := 0) (by kernel_rfl))
theorem qaV : lbO 74 5 = q4Y := Q4 (qg qe2) rfl
theorem qbb : okL 74 q4Y := zx qiM (List.mem_of_getElem? (i := 1) (by kernel_rfl))
theorem qkQ : okL 32 q5j := qT (qg qhp) (by kernel_rfl) (by kernel_rfl)
def qld := JA_ @q5j.eq_1 (JA_ @Tryz.f32.eq_1 @qhp)
noncomputable def QF : Option (List ByteArray) :=
  some [ByteArray.mk (List.toArray [65, 49]), ByteArray.mk (List.toArray [66, 49]), ByteArray.mk (List.toArray [66, 50]), ByteArray.mk (List.toArray [67, 49]), ByteArray.mk (List.toArray [68, 49]), ByteArray.mk (List.toArray [69, 57])]
noncomputable def qi : List ByteArray :=
  [ByteArray.mk (List.toArray [65, 49]), ByteArray.mk (List.toArray [66, 49]), ByteArray.mk (List.toArray [66, 50]), ByteArray.mk (List.toArray [67, 49]), ByteArray.mk (List.toArray [68, 49]), ByteArray.mk (List.toArray [69, 57])]
theorem JO : QF = some (qi) := by
  unfold QF qi
  simp only [zJ]
theorem zQ : ev 32 0 [] [] = some (R.c (C.d (D.sl 1 (qi).length ((qi).flatMap eS))), []) :=
  by
    have h : ev 32 0 [] [] = (QF).bind (fun (e : List ByteArray) => some (rL 1 eS e, [])) := by
      rw [qQ qhp qkf.2.2.2 qkQ]
      have := qld; have := @QF.eq_1; exact gA
    rw [JO] at h
    exact h
theorem qka : okL 45 q3h := qT (qg qea) (by kernel_rfl) (by kernel_rfl)
def qk0 := JA_ @q3h.eq_1 (JA_ @Tryz.f45.eq_1 @qea)
theorem qfE : lbO 45 2 = q7J := Q4 (qg qea) rfl
theorem qgS : okL 45 q7J := zx qka (List.mem_of_getElem? (i := 0) (by kernel_rfl))
noncomputable def zw (l : List ByteArray) (s : ByteArray) : Int → Option (Int ⊕ (Unit ⊕ Unit))
  | k =>
    if k < ((l.length : Nat) : Int) then if 0 ≤ k ∧ k < ((l.length : Nat) : Int) then Option.bind l[Int.toNat k]? fun (a : ByteArray) =>
        if (ByteArray.toList a == ByteArray.toList s) = Bool.true then some (Sum.inr (Sum.inl ()))
        else some (Sum.inl (w64 (k + 1)))
      else none
    else some (Sum.inr (Sum.inr ()))
theorem q00 : ∀ (l : List ByteArray) (s : ByteArray) (k : Int), XL2 evo 45 0 2 ⟨[(0, rL 1 eS l), (1, rS s), (5, rI k)], [], 0, 18⟩ = (qS (zw l s) k).bind (Sum.elim (fun (e : Unit) => some (Go.Exit.ret, ⟨[(4, rB Bool.true)], [], 0, 18⟩)) (fun (e : Unit) => some (Go.Exit.exit 0, ⟨[(4, R.any)], [], 0, 18⟩))) :=
  fun l s k => by
    revert k; exact q3F qfE qgS (fun e => by rcases e with _ | _ <;> exact ⟨_, rfl, fun h => by cases h⟩) fun x => by
      have := qk0; have := @q7J.eq_1; have := @zw.eq_1; exact gA
noncomputable def ze (l : List ByteArray) (s : ByteArray) : Option Bool :=
  Option.bind (qS (zw l s) 0) fun (a : Sum Unit Unit) =>
  Sum.elim (fun (a2 : Unit) => some Bool.true) (fun (a3 : Unit) => some Bool.false) a
theorem Q6 : ∀ (l : List ByteArray) (s : ByteArray), ev 45 0 [rL 1 eS l, rS s] [] = (ze l s).bind (fun (e : Bool) => some (rB e, [])) :=
  fun l s => by
    rw [qQ qea qkz.2.2.2 qka]
    have := qk0; have := @q00; have := @ze.eq_1; exact gA
theorem JT : ∀  (s : ByteArray), ev 45 0 [R.c (C.d (D.sl 1 0 [])), rS s] [] = (ze [] s).bind (fun (e : Bool) => some (rB e, [])) := by
  intro s; have h := Q6 [] s
  first
    | exact h
    | (simp only [rL, dL, bR, bZ, Nat.reduceAdd] at h; exact h)
noncomputable def QJ (fu : Nat) (l : List ByteArray) (s : ByteArray) : Option Bool :=
  Option.bind (itT (zw l s) fu 0) fun (a : Sum Unit Unit) =>
  Sum.elim (fun (a2 : Unit) => some Bool.true) (fun (a3 : Unit) => some Bool.false) a
theorem Z1 (fu : Nat) (l : List ByteArray) (s : ByteArray) : Qi (QJ fu l s) (ze l s) := by
  unfold QJ ze
  repeat (first
    | with_reducible exact Qi.refl _
    | with_reducible exact Qi.none _
    | with_reducible refine Qi.bind ?_ (fun _ => ?_)
    | with_reducible refine Qi.ite ?_ ?_
    | with_reducible refine Qi.sum (fun _ => ?_) (fun _ => ?_)
    | with_reducible refine Qi.lim (fun _ => ?_))
noncomputable def zA (d : qe) (many : Int) : Int → Option (Int ⊕ Int)
  | k =>
    if 0 ≤ k ∧ k < ((qi.length : Nat) : Int) then Option.bind qi[Int.toNat k]? fun (a : ByteArray) =>
      Option.bind (ze [] a) fun (a2 : Bool) =>
      if a2 = Bool.true then some (Sum.inl (Int.tmod (w64 (k + 1)) 6))
      else some (Sum.inr k)
    else none
theorem Jw : ∀ (d_L : List Int) (d_At many k : Int), XL2 evo 74 1 5 ⟨[(0, rP 0), (3, R.c (C.nils)), (4, rI many), (5, rI k)], [(0, B.blk 70 [dL 1 eI d_L, dI d_At])], 1, 33⟩ = (qS (zA (qe.mk d_L d_At) many) k).bind (fun (e : Int) => some (Go.Exit.exit 2, ⟨[(0, rP 0), (3, R.c (C.nils)), (4, rI many), (5, rI e)], [(0, B.blk 70 [dL 1 eI d_L, dI d_At])], 1, 33⟩)) :=
  fun d_L d_At many k => by
    revert k; exact q3F qaV qbb (fun e => by exact ⟨_, rfl, fun h => by cases h⟩) fun x => by
      have := qeX; have := @q4Y.eq_1; have := @zQ; have := @JT; have := @zA.eq_1; exact gA
noncomputable def QL (fu : Nat) (d : qe) (many : Int) : Int → Option (Int ⊕ Int)
  | k =>
    if 0 ≤ k ∧ k < ((qi.length : Nat) : Int) then Option.bind qi[Int.toNat k]? fun (a : ByteArray) =>
      Option.bind (QJ fu [] a) fun (a2 : Bool) =>
      if a2 = Bool.true then some (Sum.inl (Int.tmod (w64 (k + 1)) 6))
      else some (Sum.inr k)
    else none
theorem Jq (fu : Nat) (d : qe) (many : Int) : ∀ x, Qi (QL fu d many x) (zA d many x) := by
  rintro k
  unfold QL zA
  try dsimp only
  repeat (first
    | with_reducible exact Qi.refl _
    | with_reducible exact Qi.none _
    | with_reducible apply Z1
    | with_reducible refine Qi.bind ?_ (fun _ => ?_)
    | with_reducible refine Qi.ite ?_ ?_
    | with_reducible refine Qi.sum (fun _ => ?_) (fun _ => ?_)
    | with_reducible refine Qi.lim (fun _ => ?_))
theorem qfY : okL 104 q1C := qT (qg q6E) (by kernel_rfl) (by kernel_rfl)
def qeo := JA_ @q1C.eq_1 (JA_ @Tryz.f104.eq_1 @q6E)
theorem qde : lbO 104 4 = q4b := Q4 (qg q6E) rfl
theorem qcW : okL 104 q4b := zx qfY (List.mem_of_getElem? (i := 0) (by kernel_rfl))
noncomputable def Qp (l : List ByteArray) (s : ByteArray) : Int → Option (Int ⊕ Int)
  | at0 =>
    if 0 < at0 then if 0 ≤ w64 (at0 - 1) ∧ w64 (at0 - 1) < ((l.length : Nat) : Int) then Option.bind l[Int.toNat (w64 (at0 - 1))]? fun (a : ByteArray) =>
        if (!(Go.Op.bytesLess (ByteArray.toList a) (ByteArray.toList s) || ByteArray.toList a == ByteArray.toList s)) = Bool.true then some (Sum.inl (w64 (at0 - 1)))
        else some (Sum.inr at0)
      else none
    else some (Sum.inr at0)
theorem JJ : ∀ (l : List ByteArray) (s : ByteArray) (at0 : Int), XL2 evo 104 0 4 ⟨[(0, rL 1 eS l), (1, rS s), (5, rI at0)], [], 0, 39⟩ = (qS (Qp l s) at0).bind (fun (e : Int) => some (Go.Exit.exit 0, ⟨[(0, rL 1 eS l), (1, rS s), (5, rI e)], [], 0, 39⟩)) :=
  fun l s at0 => by
    revert at0; exact q3F qde qcW (fun e => by exact ⟨_, rfl, fun h => by cases h⟩) fun x => by
      have := qeo; have := @q4b.eq_1; have := @Qp.eq_1; exact gA
noncomputable def zH (l : List ByteArray) (s : ByteArray) : Option (List ByteArray) :=
  Option.bind (ze l s) fun (a : Bool) =>
  if a = Bool.true then some l
  else Option.bind (qS (Qp l s) ((l.length : Nat) : Int)) fun (a2 : Int) =>
  if 0 ≤ a2 ∧ a2 ≤ ((l.length : Nat) : Int) then if (List.take (Int.toNat a2 - 0) l).length ≤ Go.maxLen ∧ (List.take (Int.toNat a2 - 0) l).length * 16 ≤ 140737488355328 then if (List.take (Int.toNat a2 - 0) l).length + 1 ≤ Go.maxLen ∧ ((List.take (Int.toNat a2 - 0) l).length + 1) * 16 ≤ 140737488355328 then if 0 ≤ a2 ∧ a2 ≤ ((l.length : Nat) : Int) then if (List.take (Int.toNat a2 - 0) l).length + 1 + (List.take (l.length - Int.toNat a2) (List.drop (Int.toNat a2) l)).length ≤ Go.maxLen ∧ ((List.take (Int.toNat a2 - 0) l).length + 1 + (List.take (l.length - Int.toNat a2) (List.drop (Int.toNat a2) l)).length) * 16 ≤ 140737488355328 then some ((List.take (Int.toNat a2 - 0) l ++ [s]) ++ List.take (l.length - Int.toNat a2) (List.drop (Int.toNat a2) l))
          else none
        else none
      else none
    else none
  else none
theorem ZZ : ∀ (l : List ByteArray) (s : ByteArray), ev 104 0 [rL 1 eS l, rS s] [] = (zH l s).bind (fun (e : List ByteArray) => some (rL 1 eS e, [])) :=
  fun l s => by
    rw [qQ q6E qfI.2.2.2 qfY]
    have := qeo; have := @Q6; have := @JJ; have := @zH.eq_1; exact gA
theorem JV : ∀  (s : ByteArray), ev 104 0 [R.c (C.d (D.sl 1 0 [])), rS s] [] = (zH [] s).bind (fun (e : List ByteArray) => some (rL 1 eS e, [])) := by
  intro s; have h := ZZ [] s
  first
    | exact h
    | (simp only [rL, dL, bR, bZ, Nat.reduceAdd] at h; exact h)
noncomputable def Zc (fu : Nat) (l : List ByteArray) (s : ByteArray) : Option (List ByteArray) :=
  Option.bind (QJ fu l s) fun (a : Bool) =>
  if a = Bool.true then some l
  else Option.bind (itT (Qp l s) fu ((l.length : Nat) : Int)) fun (a2 : Int) =>
  if 0 ≤ a2 ∧ a2 ≤ ((l.length : Nat) : Int) then if (List.take (Int.toNat a2 - 0) l).length ≤ Go.maxLen ∧ (List.take (Int.toNat a2 - 0) l).length * 16 ≤ 140737488355328 then if (List.take (Int.toNat a2 - 0) l).length + 1 ≤ Go.maxLen ∧ ((List.take (Int.toNat a2 - 0) l).length + 1) * 16 ≤ 140737488355328 then if 0 ≤ a2 ∧ a2 ≤ ((l.length : Nat) : Int) then if (List.take (Int.toNat a2 - 0) l).length + 1 + (List.take (l.length - Int.toNat a2) (List.drop (Int.toNat a2) l)).length ≤ Go.maxLen ∧ ((List.take (Int.toNat a2 - 0) l).length + 1 + (List.take (l.length - Int.toNat a2) (List.drop (Int.toNat a2) l)).length) * 16 ≤ 140737488355328 then some ((List.take (Int.toNat a2 - 0) l ++ [s]) ++ List.take (l.length - Int.toNat a2) (List.drop (Int.toNat a2) l))
          else none
        else none
      else none
    else none
  else none
theorem ZY (fu : Nat) (l : List ByteArray) (s : ByteArray) : Qi (Zc fu l s) (zH l s) := by
  unfold Zc zH
  repeat (first
    | with_reducible exact Qi.refl _
    | with_reducible exact Qi.none _
    | with_reducible apply Z1
    | with_reducible refine Qi.bind ?_ (fun _ => ?_)
    | with_reducible refine Qi.ite ?_ ?_
    | with_reducible refine Qi.sum (fun _ => ?_) (fun _ => ?_)
    | with_reducible refine Qi.lim (fun _ => ?_))
noncomputable def zl (d : qe) (out : List ByteArray) (many : Int) : Int → Option (Int ⊕ Int)
  | k =>
    if 0 ≤ k ∧ k < ((qi.length : Nat) : Int) then Option.bind qi[Int.toNat k]? fun (a : ByteArray) =>
      Option.bind (ze out a) fun (a2 : Bool) =>
      if a2 = Bool.true then some (Sum.inl (Int.tmod (w64 (k + 1)) 6))
      else some (Sum.inr k)
    else none
theorem ZM : ∀ (d_L : List Int) (d_At : Int) (out : List ByteArray) (many k : Int), XL2 evo 74 1 5 ⟨[(0, rP 0), (3, rL 1 eS out), (4, rI many), (5, rI k)], [(0, B.blk 70 [dL 1 eI d_L, dI d_At])], 1, 33⟩ = (qS (zl (qe.mk d_L d_At) out many) k).bind (fun (e : Int) => some (Go.Exit.exit 2, ⟨[(0, rP 0), (3, rL 1 eS out), (4, rI many), (5, rI e)], [(0, B.blk 70 [dL 1 eI d_L, dI d_At])], 1, 33⟩)) :=
  fun d_L d_At out many k => by
    revert k; exact q3F qaV qbb (fun e => by exact ⟨_, rfl, fun h => by cases h⟩) fun x => by
      have := qeX; have := @q4Y.eq_1; have := @zQ; have := @Q6; have := @zl.eq_1; exact gA
noncomputable def Qj (fu : Nat) (d : qe) (out : List ByteArray) (many : Int) : Int → Option (Int ⊕ Int)
  | k =>
    if 0 ≤ k ∧ k < ((qi.length : Nat) : Int) then Option.bind qi[Int.toNat k]? fun (a : ByteArray) =>
      Option.bind (QJ fu out a) fun (a2 : Bool) =>
      if a2 = Bool.true then some (Sum.inl (Int.tmod (w64 (k + 1)) 6))
      else some (Sum.inr k)
    else none
theorem ZU (fu : Nat) (d : qe) (out : List ByteArray) (many : Int) : ∀ x, Qi (Qj fu d out many x) (zl d out many x) := by
  rintro k
  unfold Qj zl
  try dsimp only
  repeat (first
    | with_reducible exact Qi.refl _
    | with_reducible exact Qi.none _
    | with_reducible apply Z1
    | with_reducible refine Qi.bind ?_ (fun _ => ?_)
    | with_reducible refine Qi.ite ?_ ?_
    | with_reducible refine Qi.sum (fun _ => ?_) (fun _ => ?_)
    | with_reducible refine Qi.lim (fun _ => ?_))
noncomputable def qX (many : Int) : (qe × List ByteArray) → Option ((qe × List ByteArray) ⊕ (qe × List ByteArray))
  | (d, out) =>
    if ((out.length : Nat) : Int) < many then Option.bind (qj 6 d) fun (a : Prod Int qe) =>
      Option.bind (qS (zl a.2 out many) a.1) fun (a2 : Int) =>
      if 0 ≤ a2 ∧ a2 < ((qi.length : Nat) : Int) then Option.bind qi[Int.toNat a2]? fun (a3 : ByteArray) =>
        Option.bind (zH out a3) fun (a4 : List ByteArray) =>
        some (Sum.inl (a.2, a4))
      else none
    else some (Sum.inr (d, out))
theorem ZV : ∀ (d_L : List Int) (d_At : Int) (out : List ByteArray) (many : Int), XL2 evo 74 1 3 ⟨[(0, rP 0), (3, rL 1 eS out), (4, rI many)], [(0, B.blk 70 [dL 1 eI d_L, dI d_At])], 1, 33⟩ = (qS (qX many) ((qe.mk d_L d_At), out)).bind (fun (e : qe × List ByteArray) => some (Go.Exit.exit 0, ⟨[(3, rL 1 eS e.2)], [(0, B.blk 70 [dL 1 eI e.1.L, dI e.1.At])], 1, 33⟩)) :=
  fun d_L d_At out many => by
    have h := q4t (E := evo) (f := 74) (k := 1) (st := fun x : qe × List ByteArray => (⟨[(0, rP 0), (3, rL 1 eS x.2), (4, rI many)], [(0, B.blk 70 [dL 1 eI x.1.L, dI x.1.At])], 1, 33⟩ : S)) (ex := fun (e : qe × List ByteArray) => (Go.Exit.exit 0, ⟨[(3, rL 1 eS e.2)], [(0, B.blk 70 [dL 1 eI e.1.L, dI e.1.At])], 1, 33⟩)) (step := (qX many)) qbE qbC (fun e h => by cases h) (fun x => by
      obtain ⟨d, out⟩ := x; have := qeX; have := @q4y.eq_1; have := @zg; have := @ZM; have := @zQ; have := @ZZ; have := @qX.eq_1; exact gA) ((qe.mk d_L d_At), out)
    exact h
noncomputable def zY (d : qe) (many : Int) : Option ((qe × List ByteArray) ⊕ Unit) :=
  if 0 < many then Option.bind (qj 6 d) fun (a : Prod Int qe) =>
    Option.bind (qS (zA a.2 many) a.1) fun (a2 : Int) =>
    if 0 ≤ a2 ∧ a2 < ((qi.length : Nat) : Int) then Option.bind qi[Int.toNat a2]? fun (a3 : ByteArray) =>
      Option.bind (zH [] a3) fun (a4 : List ByteArray) =>
      Option.bind (qS (qX many) (a.2, a4)) fun (e0 : Prod qe (List ByteArray)) =>
      some (Sum.inl (e0.1, e0.2))
    else none
  else some (Sum.inr ())
theorem ZS : ∀ (d_L : List Int) (d_At many : Int), XL2 evo 74 1 3 ⟨[(0, rP 0), (3, R.c (C.nils)), (4, rI many)], [(0, B.blk 70 [dL 1 eI d_L, dI d_At])], 1, 33⟩ = (zY (qe.mk d_L d_At) many).bind (Sum.elim (fun (e : qe × List ByteArray) => some (Go.Exit.exit 0, ⟨[(3, rL 1 eS e.2)], [(0, B.blk 70 [dL 1 eI e.1.L, dI e.1.At])], 1, 33⟩)) (fun (e : Unit) => some (Go.Exit.exit 0, ⟨[(3, R.c (C.nils))], [(0, B.blk 70 [dL 1 eI d_L, dI d_At])], 1, 33⟩))) :=
  fun d_L d_At many => by
    rw [qd4 qbE qbC]
    have := qeX; have := @q4y.eq_1; have := @q6c; have := @qcl; have := @qej; have := @qdG; have := @qgb; have := @qcx; have := @qft; have := @ZV; have := @zg; have := @Jw; have := @zQ; have := @JV; have := @zY.eq_1; exact gA
noncomputable def zE (d : qe) : Option (List ByteArray × qe) :=
  Option.bind (qj 6 d) fun (a : Prod Int qe) =>
  if 0 ≤ a.1 ∧ a.1 < 6 then Option.bind [(1 : Int), 1, 1, 2, 2, 3][Int.toNat a.1]? fun (a2 : Int) =>
    Option.bind (zY a.2 a2) fun (a3 : Sum (Prod qe (List ByteArray)) Unit) =>
    Sum.elim (fun (a4 : Prod qe (List ByteArray)) => some (a4.2, a4.1)) (fun (a5 : Unit) => some ([], a.2)) a3
  else none
theorem q1J : ∀ (d_L : List Int) (d_At : Int), ev 74 1 [rP 0] [(0, B.blk 70 [dL 1 eI d_L, dI d_At])] = (zE (qe.mk d_L d_At)).bind (fun (e : List ByteArray × qe) => some (rL 1 eS e.1, [(0, B.blk 70 [dL 1 eI e.2.L, dI e.2.At])])) :=
  fun d_L d_At => by
    rw [qQ qe2 qjN.2.2.2 qiM]
    have := qeX; have := @zg; have := @ZS; have := @zE.eq_1; exact gA
noncomputable def qx (b1_Id : Int) (b1_From : Int) (b1_To : Int) (b1_Begin : Int) (b1_End : Int) (b1_Conv_Num : Int) (b1_Conv_Add : Int) (b1_Conv_Den : Int) (b1_Conv_Round : Int) (b2_Id : Int) (b2_From : Int) (b2_To : Int) (b2_Begin : Int) (b2_End : Int) (b2_In : List ByteArray) (b2_Conv_Num : Int) (b2_Conv_Add : Int) (b2_Conv_Den : Int) (b2_Conv_Round : Int) (t6 : List ByteArray) : (List qd × qe × Int) → Option ((List qd × qe × Int) ⊕ (List qd × qe))
  | (w3, b0, t7) =>
    if t7 < ((t6.length : Nat) : Int) then if (b2_From != b2_To) = Bool.true then if 0 ≤ t7 ∧ t7 < ((t6.length : Nat) : Int) then Option.bind t6[Int.toNat t7]? fun (a : ByteArray) =>
          Option.bind (qj 4 b0) fun (a2 : Prod Int qe) =>
          if 0 ≤ a2.1 ∧ a2.1 < 4 then Option.bind [(5 : Int), 6, 10, 3][Int.toNat a2.1]? fun (a3 : Int) =>
            if w3.length + 1 ≤ Go.maxLen ∧ (w3.length + 1) * 24 ≤ 140737488355328 then some (Sum.inl (w3 ++ [qd.mk a a3], a2.2, w64 (t7 + 1)))
            else none
          else none
        else none
      else if 0 ≤ t7 ∧ t7 < ((t6.length : Nat) : Int) then Option.bind t6[Int.toNat t7]? fun (a4 : ByteArray) =>
        Option.bind (ze b2_In a4) fun (a5 : Bool) =>
        if (!a5) = Bool.true then if 0 ≤ t7 ∧ t7 < ((t6.length : Nat) : Int) then Option.bind t6[Int.toNat t7]? fun (a6 : ByteArray) =>
            Option.bind (qj 4 b0) fun (a7 : Prod Int qe) =>
            if 0 ≤ a7.1 ∧ a7.1 < 4 then Option.bind [(5 : Int), 6, 10, 3][Int.toNat a7.1]? fun (a8 : Int) =>
              if w3.length + 1 ≤ Go.maxLen ∧ (w3.length + 1) * 24 ≤ 140737488355328 then some (Sum.inl (w3 ++ [qd.mk a6 a8], a7.2, w64 (t7 + 1)))
              else none
            else none
          else none
        else some (Sum.inl (w3, b0, w64 (t7 + 1)))
      else none
    else some (Sum.inr (w3, b0))
theorem ZP : ∀ (w3 : List qd) (b0_L : List Int) (b0_At b1_Id b1_From b1_To b1_Begin b1_End b1_Conv_Num b1_Conv_Add b1_Conv_Den b1_Conv_Round b2_Id b2_From b2_To b2_Begin b2_End : Int) (b2_In : List ByteArray) (b2_Conv_Num b2_Conv_Add b2_Conv_Den b2_Conv_Round : Int) (t6 : List ByteArray) (t7 : Int) (w3_len : Nat), w3_len = w3.length → XL2 evo 26 1 6 ⟨[(0, rP 0), (4, rP 1), (5, rP 2), (6, rL 1 eS t6), (7, rI t7)], [(0, B.blk 70 [dL 1 eI b0_L, dI b0_At]), (1, B.blk 30 [dI b1_Id, dI b1_From, dI b1_To, dI b1_Begin, dI b1_End, C.nils, C.nils, dI b1_Conv_Num, dI b1_Conv_Add, dI b1_Conv_Den, dI b1_Conv_Round]), (2, B.blk 30 [dI b2_Id, dI b2_From, dI b2_To, dI b2_Begin, dI b2_End, dL 1 eS b2_In, dO 3 2 w3_len, dI b2_Conv_Num, dI b2_Conv_Add, dI b2_Conv_Den, dI b2_Conv_Round]), (3, bR 79 2 qc w3)], 4, 87⟩ = (qS (qx b1_Id b1_From b1_To b1_Begin b1_End b1_Conv_Num b1_Conv_Add b1_Conv_Den b1_Conv_Round b2_Id b2_From b2_To b2_Begin b2_End b2_In b2_Conv_Num b2_Conv_Add b2_Conv_Den b2_Conv_Round t6) (w3, (qe.mk b0_L b0_At), t7)).bind (fun (e : List qd × qe) => some (Go.Exit.exit 0, ⟨[(0, rP 0), (4, rP 1), (5, rP 2)], [(0, B.blk 70 [dL 1 eI e.2.L, dI e.2.At]), (1, B.blk 30 [dI b1_Id, dI b1_From, dI b1_To, dI b1_Begin, dI b1_End, C.nils, C.nils, dI b1_Conv_Num, dI b1_Conv_Add, dI b1_Conv_Den, dI b1_Conv_Round]), (2, B.blk 30 [dI b2_Id, dI b2_From, dI b2_To, dI b2_Begin, dI b2_End, dL 1 eS b2_In, dO 3 2 e.1.length, dI b2_Conv_Num, dI b2_Conv_Add, dI b2_Conv_Den, dI b2_Conv_Round]), (3, bR 79 2 qc e.1)], 4, 87⟩)) :=
  by
  intro w3 b0_L b0_At b1_Id b1_From b1_To b1_Begin b1_End b1_Conv_Num b1_Conv_Add b1_Conv_Den b1_Conv_Round b2_Id b2_From b2_To b2_Begin b2_End b2_In b2_Conv_Num b2_Conv_Add b2_Conv_Den b2_Conv_Round t6 t7 w3_len h0
  subst h0
  have h := q4t (E := evo) (f := 26) (k := 1) (st := fun x : List qd × qe × Int => (⟨[(0, rP 0), (4, rP 1), (5, rP 2), (6, rL 1 eS t6), (7, rI x.2.2)], [(0, B.blk 70 [dL 1 eI x.2.1.L, dI x.2.1.At]), (1, B.blk 30 [dI b1_Id, dI b1_From, dI b1_To, dI b1_Begin, dI b1_End, C.nils, C.nils, dI b1_Conv_Num, dI b1_Conv_Add, dI b1_Conv_Den, dI b1_Conv_Round]), (2, B.blk 30 [dI b2_Id, dI b2_From, dI b2_To, dI b2_Begin, dI b2_End, dL 1 eS b2_In, dO 3 2 x.1.length, dI b2_Conv_Num, dI b2_Conv_Add, dI b2_Conv_Den, dI b2_Conv_Round]), (3, bR 79 2 qc x.1)], 4, 87⟩ : S)) (ex := fun (e : List qd × qe) => (Go.Exit.exit 0, ⟨[(0, rP 0), (4, rP 1), (5, rP 2)], [(0, B.blk 70 [dL 1 eI e.2.L, dI e.2.At]), (1, B.blk 30 [dI b1_Id, dI b1_From, dI b1_To, dI b1_Begin, dI b1_End, C.nils, C.nils, dI b1_Conv_Num, dI b1_Conv_Add, dI b1_Conv_Den, dI b1_Conv_Round]), (2, B.blk 30 [dI b2_Id, dI b2_From, dI b2_To, dI b2_Begin, dI b2_End, dL 1 eS b2_In, dO 3 2 e.1.length, dI b2_Conv_Num, dI b2_Conv_Add, dI b2_Conv_Den, dI b2_Conv_Round]), (3, bR 79 2 qc e.1)], 4, 87⟩)) (step := (qx b1_Id b1_From b1_To b1_Begin b1_End b1_Conv_Num b1_Conv_Add b1_Conv_Den b1_Conv_Round b2_Id b2_From b2_To b2_Begin b2_End b2_In b2_Conv_Num b2_Conv_Add b2_Conv_Den b2_Conv_Round t6)) qfn qek (fun e h => by cases h) (fun x => by
    obtain ⟨w3, b0, t7⟩ := x; have := qk6; have := @q6B.eq_1; have := @zg; have := @Q6; have := @qx.eq_1; exact gA) (w3, (qe.mk b0_L b0_At), t7)
  exact h
theorem Zd : ∀  (b0_L : List Int) (b0_At b1_Id b1_From b1_To b1_Begin b1_End b1_Conv_Num b1_Conv_Add b1_Conv_Den b1_Conv_Round b2_Id b2_From b2_To b2_Begin b2_End : Int) (b2_In : List ByteArray) (b2_Conv_Num b2_Conv_Add b2_Conv_Den b2_Conv_Round : Int) (t6 : List ByteArray) (t7 : Int), XL2 evo 26 1 6 ⟨[(0, rP 0), (4, rP 1), (5, rP 2), (6, rL 1 eS t6), (7, rI t7)], [(0, B.blk 70 [dL 1 eI b0_L, dI b0_At]), (1, B.blk 30 [dI b1_Id, dI b1_From, dI b1_To, dI b1_Begin, dI b1_End, C.nils, C.nils, dI b1_Conv_Num, dI b1_Conv_Add, dI b1_Conv_Den, dI b1_Conv_Round]), (2, B.blk 30 [dI b2_Id, dI b2_From, dI b2_To, dI b2_Begin, dI b2_End, dL 1 eS b2_In, dO 3 2 0, dI b2_Conv_Num, dI b2_Conv_Add, dI b2_Conv_Den, dI b2_Conv_Round]), (3, B.row 79 2 [])], 4, 87⟩ = (qS (qx b1_Id b1_From b1_To b1_Begin b1_End b1_Conv_Num b1_Conv_Add b1_Conv_Den b1_Conv_Round b2_Id b2_From b2_To b2_Begin b2_End b2_In b2_Conv_Num b2_Conv_Add b2_Conv_Den b2_Conv_Round t6) ([], (qe.mk b0_L b0_At), t7)).bind (fun (e : List qd × qe) => some (Go.Exit.exit 0, ⟨[(0, rP 0), (4, rP 1), (5, rP 2)], [(0, B.blk 70 [dL 1 eI e.2.L, dI e.2.At]), (1, B.blk 30 [dI b1_Id, dI b1_From, dI b1_To, dI b1_Begin, dI b1_End, C.nils, C.nils, dI b1_Conv_Num, dI b1_Conv_Add, dI b1_Conv_Den, dI b1_Conv_Round]), (2, B.blk 30 [dI b2_Id, dI b2_From, dI b2_To, dI b2_Begin, dI b2_End, dL 1 eS b2_In, dO 3 2 e.1.length, dI b2_Conv_Num, dI b2_Conv_Add, dI b2_Conv_Den, dI b2_Conv_Round]), (3, bR 79 2 qc e.1)], 4, 87⟩)) := by
  intro b0_L b0_At b1_Id b1_From b1_To b1_Begin b1_End b1_Conv_Num b1_Conv_Add b1_Conv_Den b1_Conv_Round b2_Id b2_From b2_To b2_Begin b2_End b2_In b2_Conv_Num b2_Conv_Add b2_Conv_Den b2_Conv_Round t6 t7; have h := ZP [] ((qe.mk b0_L b0_At)).L ((qe.mk b0_L b0_At)).At b1_Id b1_From b1_To b1_Begin b1_End b1_Conv_Num b1_Conv_Add b1_Conv_Den b1_Conv_Round b2_Id b2_From b2_To b2_Begin b2_End b2_In b2_Conv_Num b2_Conv_Add b2_Conv_Den b2_Conv_Round t6 t7 _ rfl
  first
    | exact h
    | (simp only [rL, dL, bR, bZ, Nat.reduceAdd] at h; exact h)
theorem qlx : okL 75 q50 := qT (qg qhH) (by kernel_rfl) (by kernel_rfl)
def qmJ := JA_ @q50.eq_1 (JA_ @Tryz.f75.eq_1 @qhH)
noncomputable def QR (from0 : Int) (to : Int) (round : Int) : Option qb :=
  if (w64 (w64 (10 * from0) + to) == 12) = Bool.true then some (qb.mk (-4) 500 100 round)
  else if (w64 (w64 (10 * from0) + to) == 13) = Bool.true then some (qb.mk 1 0 5 round)
  else if (w64 (w64 (10 * from0) + to) == 21) = Bool.true then some (qb.mk (-25) 125 1 round)
  else if (w64 (w64 (10 * from0) + to) == 23) = Bool.true then some (qb.mk (-5) 25 1 round)
  else if (w64 (w64 (10 * from0) + to) == 31) = Bool.true then some (qb.mk 5 0 1 round)
  else if (w64 (w64 (10 * from0) + to) == 32) = Bool.true then some (qb.mk (-1) 25 5 round)
  else some (qb.mk 1 0 1 round)
noncomputable def qG (from0 : Int) (to : Int) (round : Int) : qb :=
  if (w64 (w64 (10 * from0) + to) == 12) = Bool.true then qb.mk (-4) 500 100 round
  else if (w64 (w64 (10 * from0) + to) == 13) = Bool.true then qb.mk 1 0 5 round
  else if (w64 (w64 (10 * from0) + to) == 21) = Bool.true then qb.mk (-25) 125 1 round
  else if (w64 (w64 (10 * from0) + to) == 23) = Bool.true then qb.mk (-5) 25 1 round
  else if (w64 (w64 (10 * from0) + to) == 31) = Bool.true then qb.mk 5 0 1 round
  else if (w64 (w64 (10 * from0) + to) == 32) = Bool.true then qb.mk (-1) 25 5 round
  else qb.mk 1 0 1 round
theorem q0x (from0 to round : Int) : QR from0 to round = some (qG from0 to round) := by
  unfold QR qG
  simp only [zJ]
theorem q13 : ∀ (from0 to round : Int), ev 75 0 [rI from0, rI to, rI round] [] = some (R.agg [dI (qG from0 to round).Num, dI (qG from0 to round).Add, dI (qG from0 to round).Den, dI (qG from0 to round).Round], []) :=
  fun from0 to round => by
    have h : ev 75 0 [rI from0, rI to, rI round] [] = (QR from0 to round).bind (fun (e : qb) => some (R.agg [dI e.Num, dI e.Add, dI e.Den, dI e.Round], [])) := by
      rw [qQ qhH qkA.2.2.2 qlx]
      have := qmJ; have := @QR.eq_1; exact gA
    rw [q0x] at h
    exact h
noncomputable def Q5 (x1 : Int) (v : qe) : Option (qa × qe) :=
  Option.bind (qj 3 v) fun (a : Prod Int qe) =>
  Option.bind (qj 3 a.2) fun (a2 : Prod Int qe) =>
  Option.bind (qj 5 a2.2) fun (a3 : Prod Int qe) =>
  if 0 ≤ a3.1 ∧ a3.1 < 5 then Option.bind [(0 : Int), 0, 0, 50, 200][Int.toNat a3.1]? fun (a4 : Int) =>
    Option.bind (zE a3.2) fun (a5 : Prod (List ByteArray) qe) =>
    Option.bind (qj 4 a5.2) fun (a6 : Prod Int qe) =>
    if (a6.1 == 0) = Bool.true then Option.bind (qj 400 a6.2) fun (a7 : Prod Int qe) =>
      Option.bind (zE a7.2) fun (a8 : Prod (List ByteArray) qe) =>
      Option.bind (qS (qx 0 0 0 0 0 0 0 0 0 x1 (w64 (1 + a.1)) (w64 (1 + a2.1)) a4 (w64 (a4 + a7.1)) a5.1 0 0 0 0 a8.1) ([], (a8.2, 0))) fun (a9 : Prod (List qd) qe) =>
      if (((a9.1.length : Nat) : Int) == 0) = Bool.true then Option.bind (qj 4 a9.2) fun (a10 : Prod Int qe) =>
        some (qa.mk x1 (w64 (1 + a.1)) (w64 (1 + a2.1)) a4 (w64 (a4 + a7.1)) a5.1 [qd.mk (ByteArray.mk (List.toArray [90, 57])) 5] (qG (w64 (1 + a.1)) (w64 (1 + a2.1)) (w64 (1 + a10.1))), a10.2)
      else Option.bind (qj 4 a9.2) fun (a11 : Prod Int qe) =>
      some (qa.mk x1 (w64 (1 + a.1)) (w64 (1 + a2.1)) a4 (w64 (a4 + a7.1)) a5.1 a9.1 (qG (w64 (1 + a.1)) (w64 (1 + a2.1)) (w64 (1 + a11.1))), a11.2)
    else Option.bind (zE a6.2) fun (a12 : Prod (List ByteArray) qe) =>
    Option.bind (qS (qx 0 0 0 0 0 0 0 0 0 x1 (w64 (1 + a.1)) (w64 (1 + a2.1)) a4 0 a5.1 0 0 0 0 a12.1) ([], (a12.2, 0))) fun (a13 : Prod (List qd) qe) =>
    if (((a13.1.length : Nat) : Int) == 0) = Bool.true then Option.bind (qj 4 a13.2) fun (a14 : Prod Int qe) =>
      some (qa.mk x1 (w64 (1 + a.1)) (w64 (1 + a2.1)) a4 0 a5.1 [qd.mk (ByteArray.mk (List.toArray [90, 57])) 5] (qG (w64 (1 + a.1)) (w64 (1 + a2.1)) (w64 (1 + a14.1))), a14.2)
    else Option.bind (qj 4 a13.2) fun (a15 : Prod Int qe) =>
    some (qa.mk x1 (w64 (1 + a.1)) (w64 (1 + a2.1)) a4 0 a5.1 a13.1 (qG (w64 (1 + a.1)) (w64 (1 + a2.1)) (w64 (1 + a15.1))), a15.2)
  else none
theorem q04 : ∀ (x1 : Int) (v_L : List Int) (v_At : Int), ev 26 1 [rP 0, rI x1] [(0, B.blk 70 [dL 1 eI v_L, dI v_At])] = (Q5 x1 (qe.mk v_L v_At)).bind (fun (e : qa × qe) => some (R.agg [dI e.1.Id, dI e.1.From, dI e.1.To, dI e.1.Begin, dI e.1.End, dL 1 eS e.1.In, dL 2 qc e.1.Out, dI e.1.Conv.Num, dI e.1.Conv.Add, dI e.1.Conv.Den, dI e.1.Conv.Round], [(0, B.blk 70 [dL 1 eI e.2.L, dI e.2.At])])) :=
  fun x1 v_L v_At => by
    rw [qQ qes qjS.2.2.2 qkb]
    have := qk6; have := @zg; have := @q1J; have := @Zd; have := @q13; have := @Q5.eq_1; exact gA
noncomputable def zo (l : List (List Int)) : (List qa × Int) → Option ((List qa × Int) ⊕ (List qa))
  | (out, k) =>
    if k < ((l.length : Nat) : Int) then if k < 4 then if 0 ≤ k ∧ k < ((l.length : Nat) : Int) then Option.bind l[Int.toNat k]? fun (a : List Int) =>
          Option.bind (Q5 (w64 (3 + w64 (2 * k))) (qe.mk a 0)) fun (a2 : Prod qa qe) =>
          if out.length + 1 ≤ Go.maxLen ∧ (out.length + 1) * 120 ≤ 140737488355328 then some (Sum.inl (out ++ [a2.1], w64 (k + 1)))
          else none
        else none
      else some (Sum.inr out)
    else some (Sum.inr out)
theorem JD : ∀ (out : List qa) (l : List (List Int)) (k : Int) (out_len : Nat), out_len = out.length → XL2 evo 7 0 3 ⟨[(0, rL 1 (eL 1 eI) l), (3, rO 0 11 out_len), (4, rI k)], [(0, bR 30 11 qp out)], 1, 29⟩ = (qS (zo l) (out, k)).bind (fun (e : List qa) => some (Go.Exit.exit 0, ⟨[(3, rO 0 11 e.length)], [(0, bR 30 11 qp e)], 1, 29⟩)) :=
  by
  intro out l k out_len h0
  subst h0
  revert k; revert out; exact qgo qjx qj9 (fun e => by exact ⟨_, rfl, fun h => by cases h⟩) fun out k => by
    have := cx7; have := @qcS.eq_1; have := @q04; have := @zo.eq_1; exact gA
theorem Zw : ∀  (l : List (List Int)) (k : Int), XL2 evo 7 0 3 ⟨[(0, rL 1 (eL 1 eI) l), (3, rO 0 11 0), (4, rI k)], [(0, B.row 30 11 [])], 1, 29⟩ = (qS (zo l) ([], k)).bind (fun (e : List qa) => some (Go.Exit.exit 0, ⟨[(3, rO 0 11 e.length)], [(0, bR 30 11 qp e)], 1, 29⟩)) := by
  intro l k; have h := JD [] l k _ rfl
  first
    | exact h
    | (simp only [rL, dL, bR, bZ, Nat.reduceAdd] at h; exact h)
noncomputable def Qw (l : List (List Int)) : Option (List qa) :=
  Option.bind (qS (zo l) ([], 0)) fun (a : List qa) =>
  some a
theorem q1h : ∀ (l : List (List Int)), ev 7 0 [rL 1 (eL 1 eI) l] [] = (Qw l).bind (fun (e : List qa) => some (rO 0 11 e.length, [(0, bR 30 11 qp e)])) :=
  fun l => by
    rw [qQ bd7 pw7.2.2.2 lo7]
    have := cx7; have := @Zw; have := @Qw.eq_1; exact gA
theorem lo8 : okL 8 q5C := qT (qg bd8) (by kernel_rfl) (by kernel_rfl)
def cx8 := JA_ @q5C.eq_1 (JA_ @Tryz.f8.eq_1 @bd8)
theorem qjA : lbO 8 4 = qcw := Q4 (qg bd8) rfl
theorem qiQ : okL 8 qcw := zx lo8 (List.mem_of_getElem? (i := 0) (by kernel_rfl))
theorem qjg : lbO 8 8 = qc0 := Q4 (qg bd8) rfl
theorem qia : okL 8 qc0 := zx lo8 (List.mem_of_getElem? (i := 1) (by kernel_rfl))
noncomputable def zj (b0 : qa) (b1_Id : Int) (b1_From : Int) (b1_To : Int) (b1_Begin : Int) (b1_End : Int) (b1_Conv_Num : Int) (b1_Conv_Add : Int) (b1_Conv_Den : Int) (b1_Conv_Round : Int) (b2_Id : Int) (b2_From : Int) (b2_To : Int) (b2_Begin : Int) (b2_End : Int) (b2_Conv_Num : Int) (b2_Conv_Add : Int) (b2_Conv_Den : Int) (b2_Conv_Round : Int) : (List ByteArray × Int) → Option ((List ByteArray × Int) ⊕ (List ByteArray))
  | (w3, t4) =>
    if t4 < ((b0.In.length : Nat) : Int) then if t4 < 5 then if 0 ≤ t4 ∧ t4 < ((b0.In.length : Nat) : Int) then Option.bind b0.In[Int.toNat t4]? fun (a : ByteArray) =>
          if 0 ≤ t4 ∧ t4 < ((b0.In.length : Nat) : Int) then Option.bind b0.In[Int.toNat t4]? fun (a2 : ByteArray) =>
            if 0 ≤ min ((ByteArray.size a2 : Nat) : Int) 12 ∧ min ((ByteArray.size a2 : Nat) : Int) 12 ≤ ((ByteArray.size a : Nat) : Int) then if w3.length + 1 ≤ Go.maxLen ∧ (w3.length + 1) * 16 ≤ 140737488355328 then some (Sum.inl (w3 ++ [ByteArray.extract a 0 (Int.toNat (min ((ByteArray.size a2 : Nat) : Int) 12))], w64 (t4 + 1)))
              else none
            else none
          else none
        else none
      else some (Sum.inr w3)
    else some (Sum.inr w3)
theorem q0b : ∀ (w3 : List ByteArray) (b0_Id b0_From b0_To b0_Begin b0_End : Int) (b0_In : List ByteArray) (b0_Out : List qd) (b0_Conv_Num b0_Conv_Add b0_Conv_Den b0_Conv_Round b1_Id b1_From b1_To b1_Begin b1_End b1_Conv_Num b1_Conv_Add b1_Conv_Den b1_Conv_Round b2_Id b2_From b2_To b2_Begin b2_End b2_Conv_Num b2_Conv_Add b2_Conv_Den b2_Conv_Round t4 : Int) (w3_len : Nat), w3_len = w3.length → XL2 evo 8 0 4 ⟨[(1, rP 0), (2, rP 1), (3, rP 2), (4, rI t4)], [(0, B.blk 30 [dI b0_Id, dI b0_From, dI b0_To, dI b0_Begin, dI b0_End, dL 1 eS b0_In, dL 2 qc b0_Out, dI b0_Conv_Num, dI b0_Conv_Add, dI b0_Conv_Den, dI b0_Conv_Round]), (1, B.blk 30 [dI b1_Id, dI b1_From, dI b1_To, dI b1_Begin, dI b1_End, C.nils, C.nils, dI b1_Conv_Num, dI b1_Conv_Add, dI b1_Conv_Den, dI b1_Conv_Round]), (2, B.blk 30 [dI b2_Id, dI b2_From, dI b2_To, dI b2_Begin, dI b2_End, dO 3 1 w3_len, C.nils, dI b2_Conv_Num, dI b2_Conv_Add, dI b2_Conv_Den, dI b2_Conv_Round]), (3, bR 9 1 eS w3)], 4, 77⟩ = (qS (zj (qa.mk b0_Id b0_From b0_To b0_Begin b0_End b0_In b0_Out (qb.mk b0_Conv_Num b0_Conv_Add b0_Conv_Den b0_Conv_Round)) b1_Id b1_From b1_To b1_Begin b1_End b1_Conv_Num b1_Conv_Add b1_Conv_Den b1_Conv_Round b2_Id b2_From b2_To b2_Begin b2_End b2_Conv_Num b2_Conv_Add b2_Conv_Den b2_Conv_Round) (w3, t4)).bind (fun (e : List ByteArray) => some (Go.Exit.exit 0, ⟨[(1, rP 0), (2, rP 1), (3, rP 2)], [(0, B.blk 30 [dI b0_Id, dI b0_From, dI b0_To, dI b0_Begin, dI b0_End, dL 1 eS b0_In, dL 2 qc b0_Out, dI b0_Conv_Num, dI b0_Conv_Add, dI b0_Conv_Den, dI b0_Conv_Round]), (1, B.blk 30 [dI b1_Id, dI b1_From, dI b1_To, dI b1_Begin, dI b1_End, C.nils, C.nils, dI b1_Conv_Num, dI b1_Conv_Add, dI b1_Conv_Den, dI b1_Conv_Round]), (2, B.blk 30 [dI b2_Id, dI b2_From, dI b2_To, dI b2_Begin, dI b2_End, dO 3 1 e.length, C.nils, dI b2_Conv_Num, dI b2_Conv_Add, dI b2_Conv_Den, dI b2_Conv_Round]), (3, bR 9 1 eS e)], 4, 77⟩)) :=
  by
  intro w3 b0_Id b0_From b0_To b0_Begin b0_End b0_In b0_Out b0_Conv_Num b0_Conv_Add b0_Conv_Den b0_Conv_Round b1_Id b1_From b1_To b1_Begin b1_End b1_Conv_Num b1_Conv_Add b1_Conv_Den b1_Conv_Round b2_Id b2_From b2_To b2_Begin b2_End b2_Conv_Num b2_Conv_Add b2_Conv_Den b2_Conv_Round t4 w3_len h0
  subst h0
  revert t4; revert w3; exact qgo qjA qiQ (fun e => by exact ⟨_, rfl, fun h => by cases h⟩) fun w3 t4 => by
    have := cx8; have := @qcw.eq_1; have := @zj.eq_1; exact gA
theorem ZQ : ∀  (b0_Id b0_From b0_To b0_Begin b0_End : Int) (b0_In : List ByteArray) (b0_Out : List qd) (b0_Conv_Num b0_Conv_Add b0_Conv_Den b0_Conv_Round b1_Id b1_From b1_To b1_Begin b1_End b1_Conv_Num b1_Conv_Add b1_Conv_Den b1_Conv_Round b2_Id b2_From b2_To b2_Begin b2_End b2_Conv_Num b2_Conv_Add b2_Conv_Den b2_Conv_Round t4 : Int), XL2 evo 8 0 4 ⟨[(1, rP 0), (2, rP 1), (3, rP 2), (4, rI t4)], [(0, B.blk 30 [dI b0_Id, dI b0_From, dI b0_To, dI b0_Begin, dI b0_End, dL 1 eS b0_In, dL 2 qc b0_Out, dI b0_Conv_Num, dI b0_Conv_Add, dI b0_Conv_Den, dI b0_Conv_Round]), (1, B.blk 30 [dI b1_Id, dI b1_From, dI b1_To, dI b1_Begin, dI b1_End, C.nils, C.nils, dI b1_Conv_Num, dI b1_Conv_Add, dI b1_Conv_Den, dI b1_Conv_Round]), (2, B.blk 30 [dI b2_Id, dI b2_From, dI b2_To, dI b2_Begin, dI b2_End, dO 3 1 0, C.nils, dI b2_Conv_Num, dI b2_Conv_Add, dI b2_Conv_Den, dI b2_Conv_Round]), (3, B.row 9 1 [])], 4, 77⟩ = (qS (zj (qa.mk b0_Id b0_From b0_To b0_Begin b0_End b0_In b0_Out (qb.mk b0_Conv_Num b0_Conv_Add b0_Conv_Den b0_Conv_Round)) b1_Id b1_From b1_To b1_Begin b1_End b1_Conv_Num b1_Conv_Add b1_Conv_Den b1_Conv_Round b2_Id b2_From b2_To b2_Begin b2_End b2_Conv_Num b2_Conv_Add b2_Conv_Den b2_Conv_Round) ([], t4)).bind (fun (e : List ByteArray) => some (Go.Exit.exit 0, ⟨[(1, rP 0), (2, rP 1), (3, rP 2)], [(0, B.blk 30 [dI b0_Id, dI b0_From, dI b0_To, dI b0_Begin, dI b0_End, dL 1 eS b0_In, dL 2 qc b0_Out, dI b0_Conv_Num, dI b0_Conv_Add, dI b0_Conv_Den, dI b0_Conv_Round]), (1, B.blk 30 [dI b1_Id, dI b1_From, dI b1_To, dI b1_Begin, dI b1_End, C.nils, C.nils, dI b1_Conv_Num, dI b1_Conv_Add, dI b1_Conv_Den, dI b1_Conv_Round]), (2, B.blk 30 [dI b2_Id, dI b2_From, dI b2_To, dI b2_Begin, dI b2_End, dO 3 1 e.length, C.nils, dI b2_Conv_Num, dI b2_Conv_Add, dI b2_Conv_Den, dI b2_Conv_Round]), (3, bR 9 1 eS e)], 4, 77⟩)) := by
  intro b0_Id b0_From b0_To b0_Begin b0_End b0_In b0_Out b0_Conv_Num b0_Conv_Add b0_Conv_Den b0_Conv_Round b1_Id b1_From b1_To b1_Begin b1_End b1_Conv_Num b1_Conv_Add b1_Conv_Den b1_Conv_Round b2_Id b2_From b2_To b2_Begin b2_End b2_Conv_Num b2_Conv_Add b2_Conv_Den b2_Conv_Round t4; have h := q0b [] ((qa.mk b0_Id b0_From b0_To b0_Begin b0_End b0_In b0_Out (qb.mk b0_Conv_Num b0_Conv_Add b0_Conv_Den b0_Conv_Round))).Id ((qa.mk b0_Id b0_From b0_To b0_Begin b0_End b0_In b0_Out (qb.mk b0_Conv_Num b0_Conv_Add b0_Conv_Den b0_Conv_Round))).From ((qa.mk b0_Id b0_From b0_To b0_Begin b0_End b0_In b0_Out (qb.mk b0_Conv_Num b0_Conv_Add b0_Conv_Den b0_Conv_Round))).To ((qa.mk b0_Id b0_From b0_To b0_Begin b0_End b0_In b0_Out (qb.mk b0_Conv_Num b0_Conv_Add b0_Conv_Den b0_Conv_Round))).Begin ((qa.mk b0_Id b0_From b0_To b0_Begin b0_End b0_In b0_Out (qb.mk b0_Conv_Num b0_Conv_Add b0_Conv_Den b0_Conv_Round))).End ((qa.mk b0_Id b0_From b0_To b0_Begin b0_End b0_In b0_Out (qb.mk b0_Conv_Num b0_Conv_Add b0_Conv_Den b0_Conv_Round))).In ((qa.mk b0_Id b0_From b0_To b0_Begin b0_End b0_In b0_Out (qb.mk b0_Conv_Num b0_Conv_Add b0_Conv_Den b0_Conv_Round))).Out ((qa.mk b0_Id b0_From b0_To b0_Begin b0_End b0_In b0_Out (qb.mk b0_Conv_Num b0_Conv_Add b0_Conv_Den b0_Conv_Round))).Conv.Num ((qa.mk b0_Id b0_From b0_To b0_Begin b0_End b0_In b0_Out (qb.mk b0_Conv_Num b0_Conv_Add b0_Conv_Den b0_Conv_Round))).Conv.Add ((qa.mk b0_Id b0_From b0_To b0_Begin b0_End b0_In b0_Out (qb.mk b0_Conv_Num b0_Conv_Add b0_Conv_Den b0_Conv_Round))).Conv.Den ((qa.mk b0_Id b0_From b0_To b0_Begin b0_End b0_In b0_Out (qb.mk b0_Conv_Num b0_Conv_Add b0_Conv_Den b0_Conv_Round))).Conv.Round b1_Id b1_From b1_To b1_Begin b1_End b1_Conv_Num b1_Conv_Add b1_Conv_Den b1_Conv_Round b2_Id b2_From b2_To b2_Begin b2_End b2_Conv_Num b2_Conv_Add b2_Conv_Den b2_Conv_Round t4 _ rfl
  first
    | exact h
    | (simp only [rL, dL, bR, bZ, Nat.reduceAdd] at h; exact h)
noncomputable def zh (w3 : List ByteArray) (b0 : qa) (b1_Id : Int) (b1_From : Int) (b1_To : Int) (b1_Begin : Int) (b1_End : Int) (b1_Conv_Num : Int) (b1_Conv_Add : Int) (b1_Conv_Den : Int) (b1_Conv_Round : Int) (b2_Id : Int) (b2_From : Int) (b2_To : Int) (b2_Begin : Int) (b2_End : Int) (b2_Conv_Num : Int) (b2_Conv_Add : Int) (b2_Conv_Den : Int) (b2_Conv_Round : Int) : (List qd × Int) → Option ((List qd × Int) ⊕ (List qd))
  | (w4, t5) =>
    if t5 < ((b0.Out.length : Nat) : Int) then if t5 < 5 then if 0 ≤ t5 ∧ t5 < ((b0.Out.length : Nat) : Int) then Option.bind b0.Out[Int.toNat t5]? fun (a : qd) =>
          if 0 ≤ t5 ∧ t5 < ((b0.Out.length : Nat) : Int) then Option.bind b0.Out[Int.toNat t5]? fun (a2 : qd) =>
            if 0 ≤ min ((ByteArray.size a2.Code : Nat) : Int) 12 ∧ min ((ByteArray.size a2.Code : Nat) : Int) 12 ≤ ((ByteArray.size a.Code : Nat) : Int) then if 0 ≤ t5 ∧ t5 < ((b0.Out.length : Nat) : Int) then Option.bind b0.Out[Int.toNat t5]? fun (a3 : qd) =>
                if w4.length + 1 ≤ Go.maxLen ∧ (w4.length + 1) * 24 ≤ 140737488355328 then some (Sum.inl (w4 ++ [qd.mk (ByteArray.extract a.Code 0 (Int.toNat (min ((ByteArray.size a2.Code : Nat) : Int) 12))) a3.Credits], w64 (t5 + 1)))
                else none
              else none
            else none
          else none
        else none
      else some (Sum.inr w4)
    else some (Sum.inr w4)
theorem q05 : ∀ (w3 : List ByteArray) (w4 : List qd) (b0_Id b0_From b0_To b0_Begin b0_End : Int) (b0_In : List ByteArray) (b0_Out : List qd) (b0_Conv_Num b0_Conv_Add b0_Conv_Den b0_Conv_Round b1_Id b1_From b1_To b1_Begin b1_End b1_Conv_Num b1_Conv_Add b1_Conv_Den b1_Conv_Round b2_Id b2_From b2_To b2_Begin b2_End b2_Conv_Num b2_Conv_Add b2_Conv_Den b2_Conv_Round t5 : Int) (w3_len w4_len : Nat), w3_len = w3.length → w4_len = w4.length → XL2 evo 8 0 8 ⟨[(1, rP 0), (2, rP 1), (3, rP 2), (5, rI t5)], [(0, B.blk 30 [dI b0_Id, dI b0_From, dI b0_To, dI b0_Begin, dI b0_End, dL 1 eS b0_In, dL 2 qc b0_Out, dI b0_Conv_Num, dI b0_Conv_Add, dI b0_Conv_Den, dI b0_Conv_Round]), (1, B.blk 30 [dI b1_Id, dI b1_From, dI b1_To, dI b1_Begin, dI b1_End, C.nils, C.nils, dI b1_Conv_Num, dI b1_Conv_Add, dI b1_Conv_Den, dI b1_Conv_Round]), (2, B.blk 30 [dI b2_Id, dI b2_From, dI b2_To, dI b2_Begin, dI b2_End, dO 3 1 w3_len, dO 4 2 w4_len, dI b2_Conv_Num, dI b2_Conv_Add, dI b2_Conv_Den, dI b2_Conv_Round]), (3, bR 9 1 eS w3), (4, bR 79 2 qc w4)], 5, 77⟩ = (qS (zh w3 (qa.mk b0_Id b0_From b0_To b0_Begin b0_End b0_In b0_Out (qb.mk b0_Conv_Num b0_Conv_Add b0_Conv_Den b0_Conv_Round)) b1_Id b1_From b1_To b1_Begin b1_End b1_Conv_Num b1_Conv_Add b1_Conv_Den b1_Conv_Round b2_Id b2_From b2_To b2_Begin b2_End b2_Conv_Num b2_Conv_Add b2_Conv_Den b2_Conv_Round) (w4, t5)).bind (fun (e : List qd) => some (Go.Exit.exit 2, ⟨[(2, rP 0), (3, rP 1)], [(0, B.blk 30 [dI b1_Id, dI b1_From, dI b1_To, dI b1_Begin, dI b1_End, C.nils, C.nils, dI b1_Conv_Num, dI b1_Conv_Add, dI b1_Conv_Den, dI b1_Conv_Round]), (1, B.blk 30 [dI b2_Id, dI b2_From, dI b2_To, dI b2_Begin, dI b2_End, dO 2 1 w3.length, dO 3 2 e.length, dI b2_Conv_Num, dI b2_Conv_Add, dI b2_Conv_Den, dI b2_Conv_Round]), (2, bR 9 1 eS w3), (3, bR 79 2 qc e)], 4, 77⟩)) :=
  by
  intro w3 w4 b0_Id b0_From b0_To b0_Begin b0_End b0_In b0_Out b0_Conv_Num b0_Conv_Add b0_Conv_Den b0_Conv_Round b1_Id b1_From b1_To b1_Begin b1_End b1_Conv_Num b1_Conv_Add b1_Conv_Den b1_Conv_Round b2_Id b2_From b2_To b2_Begin b2_End b2_Conv_Num b2_Conv_Add b2_Conv_Den b2_Conv_Round t5 w3_len w4_len h0 h1
  subst h0 h1
  revert t5; revert w4; exact qgo qjg qia (fun e => by exact ⟨_, rfl, fun h => by cases h⟩) fun w4 t5 => by
    have := cx8; have := @qc0.eq_1; have := @zh.eq_1; exact gA
theorem ZR : ∀  (w3 : List ByteArray) (b0_Id b0_From b0_To b0_Begin b0_End : Int) (b0_In : List ByteArray) (b0_Out : List qd) (b0_Conv_Num b0_Conv_Add b0_Conv_Den b0_Conv_Round b1_Id b1_From b1_To b1_Begin b1_End b1_Conv_Num b1_Conv_Add b1_Conv_Den b1_Conv_Round b2_Id b2_From b2_To b2_Begin b2_End b2_Conv_Num b2_Conv_Add b2_Conv_Den b2_Conv_Round t5 : Int) (w3_len : Nat), w3_len = w3.length → XL2 evo 8 0 8 ⟨[(1, rP 0), (2, rP 1), (3, rP 2), (5, rI t5)], [(0, B.blk 30 [dI b0_Id, dI b0_From, dI b0_To, dI b0_Begin, dI b0_End, dL 1 eS b0_In, dL 2 qc b0_Out, dI b0_Conv_Num, dI b0_Conv_Add, dI b0_Conv_Den, dI b0_Conv_Round]), (1, B.blk 30 [dI b1_Id, dI b1_From, dI b1_To, dI b1_Begin, dI b1_End, C.nils, C.nils, dI b1_Conv_Num, dI b1_Conv_Add, dI b1_Conv_Den, dI b1_Conv_Round]), (2, B.blk 30 [dI b2_Id, dI b2_From, dI b2_To, dI b2_Begin, dI b2_End, dO 3 1 w3_len, dO 4 2 0, dI b2_Conv_Num, dI b2_Conv_Add, dI b2_Conv_Den, dI b2_Conv_Round]), (3, bR 9 1 eS w3), (4, B.row 79 2 [])], 5, 77⟩ = (qS (zh w3 (qa.mk b0_Id b0_From b0_To b0_Begin b0_End b0_In b0_Out (qb.mk b0_Conv_Num b0_Conv_Add b0_Conv_Den b0_Conv_Round)) b1_Id b1_From b1_To b1_Begin b1_End b1_Conv_Num b1_Conv_Add b1_Conv_Den b1_Conv_Round b2_Id b2_From b2_To b2_Begin b2_End b2_Conv_Num b2_Conv_Add b2_Conv_Den b2_Conv_Round) ([], t5)).bind (fun (e : List qd) => some (Go.Exit.exit 2, ⟨[(2, rP 0), (3, rP 1)], [(0, B.blk 30 [dI b1_Id, dI b1_From, dI b1_To, dI b1_Begin, dI b1_End, C.nils, C.nils, dI b1_Conv_Num, dI b1_Conv_Add, dI b1_Conv_Den, dI b1_Conv_Round]), (1, B.blk 30 [dI b2_Id, dI b2_From, dI b2_To, dI b2_Begin, dI b2_End, dO 2 1 w3.length, dO 3 2 e.length, dI b2_Conv_Num, dI b2_Conv_Add, dI b2_Conv_Den, dI b2_Conv_Round]), (2, bR 9 1 eS w3), (3, bR 79 2 qc e)], 4, 77⟩)) := by
  intro w3 b0_Id b0_From b0_To b0_Begin b0_End b0_In b0_Out b0_Conv_Num b0_Conv_Add b0_Conv_Den b0_Conv_Round b1_Id b1_From b1_To b1_Begin b1_End b1_Conv_Num b1_Conv_Add b1_Conv_Den b1_Conv_Round b2_Id b2_From b2_To b2_Begin b2_End b2_Conv_Num b2_Conv_Add b2_Conv_Den b2_Conv_Round t5 w3_len h0; subst h0; have h := q05 w3 [] ((qa.mk b0_Id b0_From b0_To b0_Begin b0_End b0_In b0_Out (qb.mk b0_Conv_Num b0_Conv_Add b0_Conv_Den b0_Conv_Round))).Id ((qa.mk b0_Id b0_From b0_To b0_Begin b0_End b0_In b0_Out (qb.mk b0_Conv_Num b0_Conv_Add b0_Conv_Den b0_Conv_Round))).From ((qa.mk b0_Id b0_From b0_To b0_Begin b0_End b0_In b0_Out (qb.mk b0_Conv_Num b0_Conv_Add b0_Conv_Den b0_Conv_Round))).To ((qa.mk b0_Id b0_From b0_To b0_Begin b0_End b0_In b0_Out (qb.mk b0_Conv_Num b0_Conv_Add b0_Conv_Den b0_Conv_Round))).Begin ((qa.mk b0_Id b0_From b0_To b0_Begin b0_End b0_In b0_Out (qb.mk b0_Conv_Num b0_Conv_Add b0_Conv_Den b0_Conv_Round))).End ((qa.mk b0_Id b0_From b0_To b0_Begin b0_End b0_In b0_Out (qb.mk b0_Conv_Num b0_Conv_Add b0_Conv_Den b0_Conv_Round))).In ((qa.mk b0_Id b0_From b0_To b0_Begin b0_End b0_In b0_Out (qb.mk b0_Conv_Num b0_Conv_Add b0_Conv_Den b0_Conv_Round))).Out ((qa.mk b0_Id b0_From b0_To b0_Begin b0_End b0_In b0_Out (qb.mk b0_Conv_Num b0_Conv_Add b0_Conv_Den b0_Conv_Round))).Conv.Num ((qa.mk b0_Id b0_From b0_To b0_Begin b0_End b0_In b0_Out (qb.mk b0_Conv_Num b0_Conv_Add b0_Conv_Den b0_Conv_Round))).Conv.Add ((qa.mk b0_Id b0_From b0_To b0_Begin b0_End b0_In b0_Out (qb.mk b0_Conv_Num b0_Conv_Add b0_Conv_Den b0_Conv_Round))).Conv.Den ((qa.mk b0_Id b0_From b0_To b0_Begin b0_End b0_In b0_Out (qb.mk b0_Conv_Num b0_Conv_Add b0_Conv_Den b0_Conv_Round))).Conv.Round b1_Id b1_From b1_To b1_Begin b1_End b1_Conv_Num b1_Conv_Add b1_Conv_Den b1_Conv_Round b2_Id b2_From b2_To b2_Begin b2_End b2_Conv_Num b2_Conv_Add b2_Conv_Den b2_Conv_Round t5 _ _ rfl rfl
  first
    | exact h
    | (simp only [rL, dL, bR, bZ, Nat.reduceAdd] at h; exact h)
end Go.Proofs.YtplfjlcnffcenaaGreat.Vc
namespace Go.Proofs.YtplfjlcnffcenaaGreat.Vc
open Go.RowKit
set_option linter.unusedVariables false
set_option linter.unusedSimpArgs false
set_option maxRecDepth 20000
set_option maxHeartbeats 8000000
set_option linter.defProp false
noncomputable def QN (x0 : qa) : Option qa :=
  Option.bind (qS (zj x0 0 0 0 0 0 0 0 0 0 x0.Id x0.From x0.To x0.Begin x0.End x0.Conv.Num x0.Conv.Add x0.Conv.Den x0.Conv.Round) ([], 0)) fun (a : List ByteArray) =>
  Option.bind (qS (zh a x0 0 0 0 0 0 0 0 0 0 x0.Id x0.From x0.To x0.Begin x0.End x0.Conv.Num x0.Conv.Add x0.Conv.Den x0.Conv.Round) ([], 0)) fun (a2 : List qd) =>
  some (qa.mk x0.Id x0.From x0.To x0.Begin x0.End a a2 x0.Conv)
theorem q1T : ∀ (x0_Id x0_From x0_To x0_Begin x0_End : Int) (x0_In : List ByteArray) (x0_Out : List qd) (x0_Conv_Num x0_Conv_Add x0_Conv_Den x0_Conv_Round : Int), ev 8 0 [R.agg [dI x0_Id, dI x0_From, dI x0_To, dI x0_Begin, dI x0_End, dL 1 eS x0_In, dL 2 qc x0_Out, dI x0_Conv_Num, dI x0_Conv_Add, dI x0_Conv_Den, dI x0_Conv_Round]] [] = (QN (qa.mk x0_Id x0_From x0_To x0_Begin x0_End x0_In x0_Out (qb.mk x0_Conv_Num x0_Conv_Add x0_Conv_Den x0_Conv_Round))).bind (fun (e : qa) => some (R.agg [dI e.Id, dI e.From, dI e.To, dI e.Begin, dI e.End, dL 1 eS e.In, dL 2 qc e.Out, dI e.Conv.Num, dI e.Conv.Add, dI e.Conv.Den, dI e.Conv.Round], [])) :=
  fun x0_Id x0_From x0_To x0_Begin x0_End x0_In x0_Out x0_Conv_Num x0_Conv_Add x0_Conv_Den x0_Conv_Round => by
    rw [qQ bd8 pw8.2.2.2 lo8]
    have := cx8; have := @ZQ; have := @ZR; have := @QN.eq_1; exact gA
theorem lo9 : okL 9 q9m := qT (qg bd9) (by kernel_rfl) (by kernel_rfl)
def cx9 := JA_ @q9m.eq_1 (JA_ @Tryz.f9.eq_1 @bd9)
theorem qnh : okL 31 q4S := qT (qg qhm) (by kernel_rfl) (by kernel_rfl)
def qnk := JA_ @q4S.eq_1 (JA_ @Tryz.f31.eq_1 @qhm)
noncomputable def Qv (a : qa) : Option (Int × Int × Int × Int × Int × Int × Int × Int × Int × List ByteArray × List qd) :=
  if a.In.length ≤ Go.maxLen ∧ a.In.length * 16 ≤ 140737488355328 then if a.Out.length ≤ Go.maxLen ∧ a.Out.length * 24 ≤ 140737488355328 then some (a.Id, a.From, a.To, a.Begin, a.End, a.Conv.Num, a.Conv.Add, a.Conv.Den, a.Conv.Round, a.In, a.Out)
    else none
  else none
theorem q1A : ∀ (a_Id a_From a_To a_Begin a_End : Int) (a_In : List ByteArray) (a_Out : List qd) (a_Conv_Num a_Conv_Add a_Conv_Den a_Conv_Round : Int), ev 31 0 [R.agg [dI a_Id, dI a_From, dI a_To, dI a_Begin, dI a_End, dL 1 eS a_In, dL 2 qc a_Out, dI a_Conv_Num, dI a_Conv_Add, dI a_Conv_Den, dI a_Conv_Round]] [] = (Qv (qa.mk a_Id a_From a_To a_Begin a_End a_In a_Out (qb.mk a_Conv_Num a_Conv_Add a_Conv_Den a_Conv_Round))).bind (fun (e : Int × Int × Int × Int × Int × Int × Int × Int × Int × List ByteArray × List qd) => some (R.agg [dI e.1, dI e.2.1, dI e.2.2.1, dI e.2.2.2.1, dI e.2.2.2.2.1, dO 0 1 e.2.2.2.2.2.2.2.2.2.1.length, dO 1 2 e.2.2.2.2.2.2.2.2.2.2.length, dI e.2.2.2.2.2.1, dI e.2.2.2.2.2.2.1, dI e.2.2.2.2.2.2.2.1, dI e.2.2.2.2.2.2.2.2.1], [(0, bR 9 1 eS e.2.2.2.2.2.2.2.2.2.1), (1, bR 79 2 qc e.2.2.2.2.2.2.2.2.2.2)])) :=
  fun a_Id a_From a_To a_Begin a_End a_In a_Out a_Conv_Num a_Conv_Add a_Conv_Den a_Conv_Round => by
    rw [qQ qhm qk7.2.2.2 qnh]
    have := qnk; have := @Qv.eq_1; exact gA
noncomputable def Ql (x0 : qa) (x1 : Z3 Int) : Option qa :=
  Option.bind (Qv x0) fun (a : Prod Int (Prod Int (Prod Int (Prod Int (Prod Int (Prod Int (Prod Int (Prod Int (Prod Int (Prod (List ByteArray) (List qd))))))))))) =>
  Option.bind (Q7 x1.a1 36) fun (a2 : Int) =>
  Option.bind (Q7 x1.a0 13) fun (a3 : Int) =>
  if (a3 == 0) = Bool.true then some (qa.mk (w64 (Int.tmod a2 4 - 1)) a.2.1 a.2.2.1 a.2.2.2.1 a.2.2.2.2.1 a.2.2.2.2.2.2.2.2.2.1 a.2.2.2.2.2.2.2.2.2.2 (qb.mk a.2.2.2.2.2.1 a.2.2.2.2.2.2.1 a.2.2.2.2.2.2.2.1 a.2.2.2.2.2.2.2.2.1))
  else if (a3 == 1) = Bool.true then some (qa.mk a.1 (w64 (Int.tmod a2 11 - 1)) a.2.2.1 a.2.2.2.1 a.2.2.2.2.1 a.2.2.2.2.2.2.2.2.2.1 a.2.2.2.2.2.2.2.2.2.2 (qb.mk a.2.2.2.2.2.1 a.2.2.2.2.2.2.1 a.2.2.2.2.2.2.2.1 a.2.2.2.2.2.2.2.2.1))
  else if (a3 == 2) = Bool.true then some (qa.mk a.1 a.2.1 (w64 (Int.tmod a2 11 - 1)) a.2.2.2.1 a.2.2.2.2.1 a.2.2.2.2.2.2.2.2.2.1 a.2.2.2.2.2.2.2.2.2.2 (qb.mk a.2.2.2.2.2.1 a.2.2.2.2.2.2.1 a.2.2.2.2.2.2.2.1 a.2.2.2.2.2.2.2.2.1))
  else if (a3 == 3) = Bool.true then if 0 ≤ Int.tmod a2 4 ∧ Int.tmod a2 4 < 4 then Option.bind [(-1), 0, 100000, 100001][Int.toNat (Int.tmod a2 4)]? fun (a4 : Int) =>
      some (qa.mk a.1 a.2.1 a.2.2.1 a4 a.2.2.2.2.1 a.2.2.2.2.2.2.2.2.2.1 a.2.2.2.2.2.2.2.2.2.2 (qb.mk a.2.2.2.2.2.1 a.2.2.2.2.2.2.1 a.2.2.2.2.2.2.2.1 a.2.2.2.2.2.2.2.2.1))
    else none
  else if (a3 == 4) = Bool.true then if 0 ≤ Int.tmod a2 6 ∧ Int.tmod a2 6 < 6 then Option.bind [(-1), w64 (x0.Begin - 1), x0.Begin, 100000, 100001, 0][Int.toNat (Int.tmod a2 6)]? fun (a5 : Int) =>
      some (qa.mk a.1 a.2.1 a.2.2.1 a.2.2.2.1 a5 a.2.2.2.2.2.2.2.2.2.1 a.2.2.2.2.2.2.2.2.2.2 (qb.mk a.2.2.2.2.2.1 a.2.2.2.2.2.2.1 a.2.2.2.2.2.2.2.1 a.2.2.2.2.2.2.2.2.1))
    else none
  else if (a3 == 5) = Bool.true then if 0 ≤ Int.tmod a2 6 ∧ Int.tmod a2 6 < ((qi.length : Nat) : Int) then Option.bind qi[Int.toNat (Int.tmod a2 6)]? fun (a6 : ByteArray) =>
      if a.2.2.2.2.2.2.2.2.2.1.length + 1 ≤ Go.maxLen ∧ (a.2.2.2.2.2.2.2.2.2.1.length + 1) * 16 ≤ 140737488355328 then some (qa.mk a.1 a.2.1 a.2.2.1 a.2.2.2.1 a.2.2.2.2.1 (a.2.2.2.2.2.2.2.2.2.1 ++ [a6]) a.2.2.2.2.2.2.2.2.2.2 (qb.mk a.2.2.2.2.2.1 a.2.2.2.2.2.2.1 a.2.2.2.2.2.2.2.1 a.2.2.2.2.2.2.2.2.1))
      else none
    else none
  else if (a3 == 6) = Bool.true then if w64 (((a.2.2.2.2.2.2.2.2.2.1.length : Nat) : Int) + 1) = 0 then none
    else if 0 ≤ Int.tmod a2 (w64 (((a.2.2.2.2.2.2.2.2.2.1.length : Nat) : Int) + 1)) ∧ Int.tmod a2 (w64 (((a.2.2.2.2.2.2.2.2.2.1.length : Nat) : Int) + 1)) ≤ ((a.2.2.2.2.2.2.2.2.2.1.length : Nat) : Int) then some (qa.mk a.1 a.2.1 a.2.2.1 a.2.2.2.1 a.2.2.2.2.1 (List.take (Int.toNat (Int.tmod a2 (w64 (((a.2.2.2.2.2.2.2.2.2.1.length : Nat) : Int) + 1)))) a.2.2.2.2.2.2.2.2.2.1) a.2.2.2.2.2.2.2.2.2.2 (qb.mk a.2.2.2.2.2.1 a.2.2.2.2.2.2.1 a.2.2.2.2.2.2.2.1 a.2.2.2.2.2.2.2.2.1))
    else none
  else if (a3 == 7) = Bool.true then if 0 ≤ Int.tmod a2 6 ∧ Int.tmod a2 6 < ((qi.length : Nat) : Int) then Option.bind qi[Int.toNat (Int.tmod a2 6)]? fun (a7 : ByteArray) =>
      if a.2.2.2.2.2.2.2.2.2.2.length + 1 ≤ Go.maxLen ∧ (a.2.2.2.2.2.2.2.2.2.2.length + 1) * 24 ≤ 140737488355328 then some (qa.mk a.1 a.2.1 a.2.2.1 a.2.2.2.1 a.2.2.2.2.1 a.2.2.2.2.2.2.2.2.2.1 (a.2.2.2.2.2.2.2.2.2.2 ++ [qd.mk a7 a2]) (qb.mk a.2.2.2.2.2.1 a.2.2.2.2.2.2.1 a.2.2.2.2.2.2.2.1 a.2.2.2.2.2.2.2.2.1))
      else none
    else none
  else if (a3 == 8) = Bool.true then if w64 (((a.2.2.2.2.2.2.2.2.2.2.length : Nat) : Int) + 1) = 0 then none
    else if 0 ≤ Int.tmod a2 (w64 (((a.2.2.2.2.2.2.2.2.2.2.length : Nat) : Int) + 1)) ∧ Int.tmod a2 (w64 (((a.2.2.2.2.2.2.2.2.2.2.length : Nat) : Int) + 1)) ≤ ((a.2.2.2.2.2.2.2.2.2.2.length : Nat) : Int) then some (qa.mk a.1 a.2.1 a.2.2.1 a.2.2.2.1 a.2.2.2.2.1 a.2.2.2.2.2.2.2.2.2.1 (List.take (Int.toNat (Int.tmod a2 (w64 (((a.2.2.2.2.2.2.2.2.2.2.length : Nat) : Int) + 1)))) a.2.2.2.2.2.2.2.2.2.2) (qb.mk a.2.2.2.2.2.1 a.2.2.2.2.2.2.1 a.2.2.2.2.2.2.2.1 a.2.2.2.2.2.2.2.2.1))
    else none
  else if (a3 == 9) = Bool.true then if 0 < ((a.2.2.2.2.2.2.2.2.2.2.length : Nat) : Int) then if ((a.2.2.2.2.2.2.2.2.2.2.length : Nat) : Int) = 0 then none
      else if 0 ≤ Int.tmod a2 4 ∧ Int.tmod a2 4 < 4 then Option.bind [(0 : Int), 1, 60, 61][Int.toNat (Int.tmod a2 4)]? fun (a8 : Int) =>
        if 0 ≤ Int.tmod a2 ((a.2.2.2.2.2.2.2.2.2.2.length : Nat) : Int) ∧ Int.tmod a2 ((a.2.2.2.2.2.2.2.2.2.2.length : Nat) : Int) < ((a.2.2.2.2.2.2.2.2.2.2.length : Nat) : Int) then if Int.toNat (Int.tmod a2 ((a.2.2.2.2.2.2.2.2.2.2.length : Nat) : Int)) * 2 + 1 + 1 ≤ a.2.2.2.2.2.2.2.2.2.2.length * 2 then some (qa.mk a.1 a.2.1 a.2.2.1 a.2.2.2.1 a.2.2.2.2.1 a.2.2.2.2.2.2.2.2.2.1 (List.modify a.2.2.2.2.2.2.2.2.2.2 (Int.toNat (Int.tmod a2 ((a.2.2.2.2.2.2.2.2.2.2.length : Nat) : Int))) (fun (x : qd) => qd.mk x.Code a8)) (qb.mk a.2.2.2.2.2.1 a.2.2.2.2.2.2.1 a.2.2.2.2.2.2.2.1 a.2.2.2.2.2.2.2.2.1))
          else none
        else none
      else none
    else some (qa.mk a.1 a.2.1 a.2.2.1 a.2.2.2.1 a.2.2.2.2.1 a.2.2.2.2.2.2.2.2.2.1 a.2.2.2.2.2.2.2.2.2.2 (qb.mk a.2.2.2.2.2.1 a.2.2.2.2.2.2.1 a.2.2.2.2.2.2.2.1 a.2.2.2.2.2.2.2.2.1))
  else if (a3 == 10) = Bool.true then if 0 ≤ Int.tmod a2 4 ∧ Int.tmod a2 4 < 4 then Option.bind [(0 : Int), 1, 1000, 1001][Int.toNat (Int.tmod a2 4)]? fun (a9 : Int) =>
      some (qa.mk a.1 a.2.1 a.2.2.1 a.2.2.2.1 a.2.2.2.2.1 a.2.2.2.2.2.2.2.2.2.1 a.2.2.2.2.2.2.2.2.2.2 (qb.mk a.2.2.2.2.2.1 a.2.2.2.2.2.2.1 a9 a.2.2.2.2.2.2.2.2.1))
    else none
  else if (a3 == 11) = Bool.true then some (qa.mk a.1 a.2.1 a.2.2.1 a.2.2.2.1 a.2.2.2.2.1 a.2.2.2.2.2.2.2.2.2.1 a.2.2.2.2.2.2.2.2.2.2 (qb.mk a.2.2.2.2.2.1 a.2.2.2.2.2.2.1 a.2.2.2.2.2.2.2.1 (Int.tmod a2 6)))
  else if (a3 == 12) = Bool.true then if 0 < ((a.2.2.2.2.2.2.2.2.2.1.length : Nat) : Int) then if 0 ≤ Int.tmod a2 5 ∧ Int.tmod a2 5 < 5 then Option.bind [ByteArray.mk (List.toArray []), ByteArray.mk (List.toArray [97]), ByteArray.mk (List.toArray [65, 49]), ByteArray.mk (List.toArray [90]), ByteArray.mk (List.toArray [65, 66, 67, 68, 69, 70, 71, 72, 73])][Int.toNat (Int.tmod a2 5)]? fun (a10 : ByteArray) =>
        if 0 < ((a.2.2.2.2.2.2.2.2.2.1.length : Nat) : Int) then if 1 ≤ a.2.2.2.2.2.2.2.2.2.1.length then some (qa.mk a.1 a.2.1 a.2.2.1 a.2.2.2.1 a.2.2.2.2.1 (List.set a.2.2.2.2.2.2.2.2.2.1 0 a10) a.2.2.2.2.2.2.2.2.2.2 (qb.mk a.2.2.2.2.2.1 a.2.2.2.2.2.2.1 a.2.2.2.2.2.2.2.1 a.2.2.2.2.2.2.2.2.1))
          else none
        else none
      else none
    else some (qa.mk a.1 a.2.1 a.2.2.1 a.2.2.2.1 a.2.2.2.2.1 a.2.2.2.2.2.2.2.2.2.1 a.2.2.2.2.2.2.2.2.2.2 (qb.mk a.2.2.2.2.2.1 a.2.2.2.2.2.2.1 a.2.2.2.2.2.2.2.1 a.2.2.2.2.2.2.2.2.1))
  else some (qa.mk a.1 a.2.1 a.2.2.1 a.2.2.2.1 a.2.2.2.2.1 a.2.2.2.2.2.2.2.2.2.1 a.2.2.2.2.2.2.2.2.2.2 (qb.mk a.2.2.2.2.2.1 a.2.2.2.2.2.2.1 a.2.2.2.2.2.2.2.1 a.2.2.2.2.2.2.2.2.1))
theorem q1L : ∀ (x0_Id x0_From x0_To x0_Begin x0_End : Int) (x0_In : List ByteArray) (x0_Out : List qd) (x0_Conv_Num x0_Conv_Add x0_Conv_Den x0_Conv_Round x1_0 x1_1 : Int), ev 9 0 [R.agg [dI x0_Id, dI x0_From, dI x0_To, dI x0_Begin, dI x0_End, dL 1 eS x0_In, dL 2 qc x0_Out, dI x0_Conv_Num, dI x0_Conv_Add, dI x0_Conv_Den, dI x0_Conv_Round], R.agg [dI x1_0, dI x1_1]] [] = (Ql (qa.mk x0_Id x0_From x0_To x0_Begin x0_End x0_In x0_Out (qb.mk x0_Conv_Num x0_Conv_Add x0_Conv_Den x0_Conv_Round)) (Z3.mk x1_0 x1_1)).bind (fun (e : qa) => some (R.agg [dI e.Id, dI e.From, dI e.To, dI e.Begin, dI e.End, dL 1 eS e.In, dL 2 qc e.Out, dI e.Conv.Num, dI e.Conv.Add, dI e.Conv.Den, dI e.Conv.Round], [])) :=
  fun x0_Id x0_From x0_To x0_Begin x0_End x0_In x0_Out x0_Conv_Num x0_Conv_Add x0_Conv_Den x0_Conv_Round x1_0 x1_1 => by
    rw [qQ bd9 pw9.2.2.2 lo9]
    have := cx9; have := @q1A; have := @ZX; have := @zQ; have := @Ql.eq_1; exact gA
theorem qim : okL 10 q2m := qT (qg qe6) (by kernel_rfl) (by kernel_rfl)
def qi6 := JA_ @q2m.eq_1 (JA_ @Tryz.f10.eq_1 @qe6)
theorem qcf : lbO 10 12 = q3K := Q4 (qg qe6) rfl
theorem qdW : okL 10 q3K := zx qim (List.mem_of_getElem? (i := 0) (by kernel_rfl))
theorem qda : lbO 10 15 = q4m := Q4 (qg qe6) rfl
theorem qcg : okL 10 q4m := zx qim (List.mem_of_getElem? (i := 1) (by kernel_rfl))
theorem qn9 : okL 33 q4K := qT (qg qhE) (by kernel_rfl) (by kernel_rfl)
def qnp := JA_ @q4K.eq_1 (JA_ @Tryz.f33.eq_1 @qhE)
noncomputable def Qt (n : Int) (low : Int) (high : Int) : Option Bool :=
  if n < low then some Bool.true
  else some (decide (high < n))
noncomputable def qr (n : Int) (low : Int) (high : Int) : Bool :=
  if n < low then Bool.true
  else decide (high < n)
theorem Jv (n low high : Int) : Qt n low high = some (qr n low high) := by
  unfold Qt qr
  simp only [zJ]
theorem Z4 : ∀ (n low high : Int), ev 33 0 [rI n, rI low, rI high] [] = some (rB (qr n low high), []) :=
  fun n low high => by
    have h : ev 33 0 [rI n, rI low, rI high] [] = (Qt n low high).bind (fun (e : Bool) => some (rB e, [])) := by
      rw [qQ qhE qky.2.2.2 qn9]
      have := qnp; have := @Qt.eq_1; exact gA
    rw [Jv] at h
    exact h
theorem qnn : okL 34 q5k := qT (qg qhK) (by kernel_rfl) (by kernel_rfl)
def qmr := JA_ @q5k.eq_1 (JA_ @Tryz.f34.eq_1 @qhK)
noncomputable def QO (day : Int) : Option Bool :=
  if 0 ≤ day then some (decide (day ≤ 100000))
  else some Bool.false
noncomputable def zi (day : Int) : Bool :=
  if 0 ≤ day then decide (day ≤ 100000)
  else Bool.false
theorem q0G (day : Int) : QO day = some (zi day) := by
  unfold QO zi
  simp only [zJ]
theorem q1y : ∀ (day : Int), ev 34 0 [rI day] [] = some (rB (zi day), []) :=
  fun day => by
    have h : ev 34 0 [rI day] [] = (QO day).bind (fun (e : Bool) => some (rB e, [])) := by
      rw [qQ qhK qjU.2.2.2 qnn]
      have := qmr; have := @QO.eq_1; exact gA
    rw [q0G] at h
    exact h
theorem qkN : okL 35 q3r := qT (qg qeE) (by kernel_rfl) (by kernel_rfl)
def qkP := JA_ @q3r.eq_1 (JA_ @Tryz.f35.eq_1 @qeE)
theorem qgt : lbO 35 3 = q84 := Q4 (qg qeE) rfl
theorem qfi : okL 35 q84 := zx qkN (List.mem_of_getElem? (i := 0) (by kernel_rfl))
noncomputable def zd (t6 : List qd) (t7 : Int) : (List ByteArray × Int) → Option ((List ByteArray × Int) ⊕ (List ByteArray))
  | (out, t8) =>
    if t8 < t7 then if 0 ≤ t8 ∧ t8 < ((t6.length : Nat) : Int) then Option.bind t6[Int.toNat t8]? fun (a : qd) =>
        if out.length + 1 ≤ Go.maxLen ∧ (out.length + 1) * 16 ≤ 140737488355328 then some (Sum.inl (out ++ [a.Code], w64 (t8 + 1)))
        else none
      else none
    else some (Sum.inr out)
theorem Jb : ∀ (out : List ByteArray) (t6 : List qd) (t7 t8 : Int) (out_len : Nat), out_len = out.length → XL2 evo 35 0 3 ⟨[(3, rO 0 1 out_len), (6, rL 2 qc t6), (7, rI t7), (8, rI t8)], [(0, bR 9 1 eS out)], 1, 19⟩ = (qS (zd t6 t7) (out, t8)).bind (fun (e : List ByteArray) => some (Go.Exit.exit 0, ⟨[(3, rO 0 1 e.length)], [(0, bR 9 1 eS e)], 1, 19⟩)) :=
  by
  intro out t6 t7 t8 out_len h0
  subst h0
  revert t8; revert out; exact qgo qgt qfi (fun e => by exact ⟨_, rfl, fun h => by cases h⟩) fun out t8 => by
    have := qkP; have := @q84.eq_1; have := @zd.eq_1; exact gA
theorem Zm : ∀  (t6 : List qd) (t7 t8 : Int), XL2 evo 35 0 3 ⟨[(3, rO 0 1 0), (6, rL 2 qc t6), (7, rI t7), (8, rI t8)], [(0, B.row 9 1 [])], 1, 19⟩ = (qS (zd t6 t7) ([], t8)).bind (fun (e : List ByteArray) => some (Go.Exit.exit 0, ⟨[(3, rO 0 1 e.length)], [(0, bR 9 1 eS e)], 1, 19⟩)) := by
  intro t6 t7 t8; have h := Jb [] t6 t7 t8 _ rfl
  first
    | exact h
    | (simp only [rL, dL, bR, bZ, Nat.reduceAdd] at h; exact h)
noncomputable def zI (l : List qd) : Option (List ByteArray) :=
  Option.bind (qS (zd l ((l.length : Nat) : Int)) ([], 0)) fun (a : List ByteArray) =>
  some a
theorem q0C : ∀ (l : List qd), ev 35 0 [rL 2 qc l] [] = (zI l).bind (fun (e : List ByteArray) => some (rL 1 eS e, [])) :=
  fun l => by
    rw [qQ qeE qkL.2.2.2 qkN]
    have := qkP; have := @Zm; have := @zI.eq_1; exact gA
theorem qnl : okL 36 q4V := qT (qg qhl) (by kernel_rfl) (by kernel_rfl)
def qnc := JA_ @q4V.eq_1 (JA_ @Tryz.f36.eq_1 @qhl)
theorem qmx : okL 80 q4T := qT (qg qhs) (by kernel_rfl) (by kernel_rfl)
def qm2 := JA_ @q4T.eq_1 (JA_ @Tryz.f80.eq_1 @qhs)
theorem qgJ : okL 107 q17 := qT (qg q8f) (by kernel_rfl) (by kernel_rfl)
def qgx := JA_ @q17.eq_1 (JA_ @Tryz.f107.eq_1 @q8f)
theorem qco : lbO 107 2 = q4r := Q4 (qg q8f) rfl
theorem qdL : okL 107 q4r := zx qgJ (List.mem_of_getElem? (i := 0) (by kernel_rfl))
theorem qlf : okL 79 q4C := qT (qg qh9) (by kernel_rfl) (by kernel_rfl)
def qlV := JA_ @q4C.eq_1 (JA_ @Tryz.f79.eq_1 @qh9)
noncomputable def Qf (c : Int) : Option Bool :=
  if c < 65 then if c < 48 then some Bool.true
    else some (decide (57 < c))
  else if 90 < c then if c < 48 then some Bool.true
    else some (decide (57 < c))
  else some Bool.false
noncomputable def zm (c : Int) : Bool :=
  if c < 65 then if c < 48 then Bool.true
    else decide (57 < c)
  else if 90 < c then if c < 48 then Bool.true
    else decide (57 < c)
  else Bool.false
theorem Jc (c : Int) : Qf c = some (zm c) := by
  unfold Qf zm
  simp only [zJ]
theorem Ju : ∀ (c : Int), ev 79 0 [R.c (C.d (D.int .i32 c))] [] = some (rB (zm c), []) :=
  fun c => by
    have h : ev 79 0 [R.c (C.d (D.int .i32 c))] [] = (Qf c).bind (fun (e : Bool) => some (rB e, [])) := by
      rw [qQ qh9 qko.2.2.2 qlf]
      have := qlV; have := @Qf.eq_1; exact gA
    rw [Jc] at h
    exact h
noncomputable def qA (it0_s : ByteArray) (truth : Bool) : Nat → Option (Nat ⊕ (Int ⊕ Unit))
  | it0_p =>
    if it0_p < ByteArray.size it0_s then if (zm (((@Go.Utf8.decode it0_s it0_p).1 : Nat) : Int) == truth) = Bool.true then some (Sum.inr (Sum.inl ((it0_p : Nat) : Int)))
      else some (Sum.inl (it0_p + (@Go.Utf8.decode it0_s it0_p).2))
    else some (Sum.inr (Sum.inr ()))
theorem QY : ∀ (it0_s : ByteArray) (it0_p : Nat) (truth : Bool), XL2 evo 107 0 2 ⟨[(1, R.c (C.fn 79 [] [])), (2, rB truth), (10, R.c (C.hd .iter 0))], [(0, B.ob (AO.si it0_s it0_p))], 1, 21⟩ = (qS (qA it0_s truth) it0_p).bind (Sum.elim (fun (e : Int) => some (Go.Exit.ret, ⟨[(6, rI e)], [], 0, 21⟩)) (fun (e : Unit) => some (Go.Exit.exit 0, ⟨[(6, R.any)], [], 0, 21⟩))) :=
  fun it0_s it0_p truth => by
    revert it0_p; exact q3F qco qdL (fun e => by rcases e with _ | _ <;> exact ⟨_, rfl, fun h => by cases h⟩) fun x => by
      have := qgx; have := @q4r.eq_1; have := @Ju; have := @qA.eq_1; exact gA
noncomputable def zL (s : ByteArray) (truth : Bool) : Option Int :=
  Option.bind (qS (qA s truth) 0) fun (a : Sum Int Unit) =>
  Sum.elim (fun (a2 : Int) => some a2) (fun (a3 : Unit) => some (-1)) a
theorem Zl : ∀ (s : ByteArray) (truth : Bool), ev 107 0 [rS s, R.c (C.fn 79 [] []), rB truth] [] = (zL s truth).bind (fun (e : Int) => some (rI e, [])) :=
  fun s truth => by
    rw [qQ q8f qep.2.2.2 qgJ]
    have := qgx; have := @QY; have := @zL.eq_1; exact gA
noncomputable def zF (s : ByteArray) : Option Int :=
  Option.bind (zL s Bool.true) fun (e0 : Int) =>
  some e0
theorem Zn : ∀ (s : ByteArray), ev 80 0 [rS s, R.c (C.fn 79 [] [])] [] = (zF s).bind (fun (e : Int) => some (rI e, [])) :=
  fun s => by
    rw [qQ qhs qjQ.2.2.2 qmx]
    have := qm2; have := @Zl; have := @zF.eq_1; exact gA
noncomputable def Qb (s : ByteArray) : Option Bool :=
  if (!(ByteArray.toList s == ByteArray.toList (ByteArray.mk (List.toArray [])))) = Bool.true then if ((ByteArray.size s : Nat) : Int) ≤ 8 then Option.bind (zF s) fun (a : Int) =>
      some (decide (a < 0))
    else some Bool.false
  else some Bool.false
theorem q0t : ∀ (s : ByteArray), ev 36 0 [rS s] [] = (Qb s).bind (fun (e : Bool) => some (rB e, [])) :=
  fun s => by
    rw [qQ qhl qkB.2.2.2 qnl]
    have := qnc; have := @Zn; have := @Qb.eq_1; exact gA
noncomputable def qW (w1 : List (List ByteArray)) (b0 : qa) (t4 : List ByteArray) (t53 : Int) (t54 : Int) (t58 : List ByteArray) (t59 : Int) : Int → Option (Int ⊕ (Int ⊕ Unit))
  | t60 =>
    if t60 < t59 then if 0 ≤ t60 ∧ t60 < ((t58.length : Nat) : Int) then Option.bind t58[Int.toNat t60]? fun (a : ByteArray) =>
        Option.bind (Qb a) fun (a2 : Bool) =>
        if (!a2) = Bool.true then some (Sum.inr (Sum.inl 12))
        else if 0 < t60 then if 0 ≤ w64 (t60 - 1) ∧ w64 (t60 - 1) < ((t4.length : Nat) : Int) then Option.bind t4[Int.toNat (w64 (t60 - 1))]? fun (a3 : ByteArray) =>
            if (!(Go.Op.bytesLess (ByteArray.toList a3) (ByteArray.toList a))) = Bool.true then some (Sum.inr (Sum.inl 7))
            else some (Sum.inl (w64 (t60 + 1)))
          else none
        else some (Sum.inl (w64 (t60 + 1)))
      else none
    else some (Sum.inr (Sum.inr ()))
theorem ZL : ∀ (w1 : List (List ByteArray)) (b0_Id b0_From b0_To b0_Begin b0_End : Int) (b0_In : List ByteArray) (b0_Out : List qd) (b0_Conv_Num b0_Conv_Add b0_Conv_Den b0_Conv_Round : Int) (t4 : List ByteArray) (t53 t54 : Int) (t58 : List ByteArray) (t59 t60 : Int) (w1_len : Nat), w1_len = w1.length → XL2 evo 10 0 15 ⟨[(1, rP 0), (4, rL 1 eS t4), (52, rO 1 1 w1_len), (53, rI t53), (54, rI t54), (58, rL 1 eS t58), (59, rI t59), (60, rI t60)], [(0, B.blk 30 [dI b0_Id, dI b0_From, dI b0_To, dI b0_Begin, dI b0_End, dL 1 eS b0_In, dL 2 qc b0_Out, dI b0_Conv_Num, dI b0_Conv_Add, dI b0_Conv_Den, dI b0_Conv_Round]), (1, bR 25 1 (eL 1 eS) w1)], 2, 100⟩ = (qS (qW w1 (qa.mk b0_Id b0_From b0_To b0_Begin b0_End b0_In b0_Out (qb.mk b0_Conv_Num b0_Conv_Add b0_Conv_Den b0_Conv_Round)) t4 t53 t54 t58 t59) t60).bind (Sum.elim (fun (e : Int) => some (Go.Exit.ret, ⟨[(1, rP 0), (2, rI e), (52, rO 1 1 w1.length), (53, rI t53), (54, rI t54)], [(0, B.blk 30 [dI b0_Id, dI b0_From, dI b0_To, dI b0_Begin, dI b0_End, dL 1 eS b0_In, dL 2 qc b0_Out, dI b0_Conv_Num, dI b0_Conv_Add, dI b0_Conv_Den, dI b0_Conv_Round]), (1, bR 25 1 (eL 1 eS) w1)], 2, 100⟩)) (fun (e : Unit) => some (Go.Exit.exit 3, ⟨[(1, rP 0), (2, R.any), (52, rO 1 1 w1.length), (53, rI t53), (54, rI t54)], [(0, B.blk 30 [dI b0_Id, dI b0_From, dI b0_To, dI b0_Begin, dI b0_End, dL 1 eS b0_In, dL 2 qc b0_Out, dI b0_Conv_Num, dI b0_Conv_Add, dI b0_Conv_Den, dI b0_Conv_Round]), (1, bR 25 1 (eL 1 eS) w1)], 2, 100⟩))) :=
  by
  intro w1 b0_Id b0_From b0_To b0_Begin b0_End b0_In b0_Out b0_Conv_Num b0_Conv_Add b0_Conv_Den b0_Conv_Round t4 t53 t54 t58 t59 t60 w1_len h0
  subst h0
  revert t60; exact q3F qda qcg (fun e => by rcases e with _ | _ <;> exact ⟨_, rfl, fun h => by cases h⟩) fun x => by
    have := qi6; have := @q4m.eq_1; have := @q0t; have := @qW.eq_1; exact gA
noncomputable def qs (w1 : List (List ByteArray)) (b0 : qa) (t53 : Int) : Int → Option (Int ⊕ (Int ⊕ Unit))
  | t54 =>
    if t54 < t53 then if 0 ≤ t54 ∧ t54 < ((w1.length : Nat) : Int) then Option.bind w1[Int.toNat t54]? fun (a : List ByteArray) =>
        Option.bind (qS (qW w1 b0 a t53 t54 a ((a.length : Nat) : Int)) 0) fun (a2 : Sum Int Unit) =>
        Sum.elim (fun (a3 : Int) => some (Sum.inr (Sum.inl a3))) (fun (a4 : Unit) => some (Sum.inl (w64 (t54 + 1)))) a2
      else none
    else some (Sum.inr (Sum.inr ()))
theorem ZI : ∀ (w1 : List (List ByteArray)) (b0_Id b0_From b0_To b0_Begin b0_End : Int) (b0_In : List ByteArray) (b0_Out : List qd) (b0_Conv_Num b0_Conv_Add b0_Conv_Den b0_Conv_Round t53 t54 : Int) (w1_len : Nat), w1_len = w1.length → XL2 evo 10 0 12 ⟨[(1, rP 0), (52, rO 1 1 w1_len), (53, rI t53), (54, rI t54)], [(0, B.blk 30 [dI b0_Id, dI b0_From, dI b0_To, dI b0_Begin, dI b0_End, dL 1 eS b0_In, dL 2 qc b0_Out, dI b0_Conv_Num, dI b0_Conv_Add, dI b0_Conv_Den, dI b0_Conv_Round]), (1, bR 25 1 (eL 1 eS) w1)], 2, 100⟩ = (qS (qs w1 (qa.mk b0_Id b0_From b0_To b0_Begin b0_End b0_In b0_Out (qb.mk b0_Conv_Num b0_Conv_Add b0_Conv_Den b0_Conv_Round)) t53) t54).bind (Sum.elim (fun (e : Int) => some (Go.Exit.ret, ⟨[(1, rP 0), (2, rI e)], [(0, B.blk 30 [dI b0_Id, dI b0_From, dI b0_To, dI b0_Begin, dI b0_End, dL 1 eS b0_In, dL 2 qc b0_Out, dI b0_Conv_Num, dI b0_Conv_Add, dI b0_Conv_Den, dI b0_Conv_Round])], 1, 100⟩)) (fun (e : Unit) => some (Go.Exit.exit 1, ⟨[(1, rP 0), (2, R.any)], [(0, B.blk 30 [dI b0_Id, dI b0_From, dI b0_To, dI b0_Begin, dI b0_End, dL 1 eS b0_In, dL 2 qc b0_Out, dI b0_Conv_Num, dI b0_Conv_Add, dI b0_Conv_Den, dI b0_Conv_Round])], 1, 100⟩))) :=
  by
  intro w1 b0_Id b0_From b0_To b0_Begin b0_End b0_In b0_Out b0_Conv_Num b0_Conv_Add b0_Conv_Den b0_Conv_Round t53 t54 w1_len h0
  subst h0
  revert t54; exact q3F qcf qdW (fun e => by rcases e with _ | _ <;> exact ⟨_, rfl, fun h => by cases h⟩) fun x => by
    have := qi6; have := @q3K.eq_1; have := @ZL; have := @qs.eq_1; exact gA
theorem Ze : ∀ (w10 w11 : List ByteArray) (b0_Id b0_From b0_To b0_Begin b0_End : Int) (b0_In : List ByteArray) (b0_Out : List qd) (b0_Conv_Num b0_Conv_Add b0_Conv_Den b0_Conv_Round t53 t54 : Int), XL2 evo 10 0 12 ⟨[(1, rP 0), (52, rO 1 1 2), (53, rI t53), (54, rI t54)], [(0, B.blk 30 [dI b0_Id, dI b0_From, dI b0_To, dI b0_Begin, dI b0_End, dL 1 eS b0_In, dL 2 qc b0_Out, dI b0_Conv_Num, dI b0_Conv_Add, dI b0_Conv_Den, dI b0_Conv_Round]), (1, B.row 25 1 [dL 1 eS w10, dL 1 eS w11])], 2, 100⟩ = (qS (qs [w10, w11] (qa.mk b0_Id b0_From b0_To b0_Begin b0_End b0_In b0_Out (qb.mk b0_Conv_Num b0_Conv_Add b0_Conv_Den b0_Conv_Round)) t53) t54).bind (Sum.elim (fun (e : Int) => some (Go.Exit.ret, ⟨[(1, rP 0), (2, rI e)], [(0, B.blk 30 [dI b0_Id, dI b0_From, dI b0_To, dI b0_Begin, dI b0_End, dL 1 eS b0_In, dL 2 qc b0_Out, dI b0_Conv_Num, dI b0_Conv_Add, dI b0_Conv_Den, dI b0_Conv_Round])], 1, 100⟩)) (fun (e : Unit) => some (Go.Exit.exit 1, ⟨[(1, rP 0), (2, R.any)], [(0, B.blk 30 [dI b0_Id, dI b0_From, dI b0_To, dI b0_Begin, dI b0_End, dL 1 eS b0_In, dL 2 qc b0_Out, dI b0_Conv_Num, dI b0_Conv_Add, dI b0_Conv_Den, dI b0_Conv_Round])], 1, 100⟩))) := by
  intro w10 w11 b0_Id b0_From b0_To b0_Begin b0_End b0_In b0_Out b0_Conv_Num b0_Conv_Add b0_Conv_Den b0_Conv_Round t53 t54; have h := ZI [w10, w11] ((qa.mk b0_Id b0_From b0_To b0_Begin b0_End b0_In b0_Out (qb.mk b0_Conv_Num b0_Conv_Add b0_Conv_Den b0_Conv_Round))).Id ((qa.mk b0_Id b0_From b0_To b0_Begin b0_End b0_In b0_Out (qb.mk b0_Conv_Num b0_Conv_Add b0_Conv_Den b0_Conv_Round))).From ((qa.mk b0_Id b0_From b0_To b0_Begin b0_End b0_In b0_Out (qb.mk b0_Conv_Num b0_Conv_Add b0_Conv_Den b0_Conv_Round))).To ((qa.mk b0_Id b0_From b0_To b0_Begin b0_End b0_In b0_Out (qb.mk b0_Conv_Num b0_Conv_Add b0_Conv_Den b0_Conv_Round))).Begin ((qa.mk b0_Id b0_From b0_To b0_Begin b0_End b0_In b0_Out (qb.mk b0_Conv_Num b0_Conv_Add b0_Conv_Den b0_Conv_Round))).End ((qa.mk b0_Id b0_From b0_To b0_Begin b0_End b0_In b0_Out (qb.mk b0_Conv_Num b0_Conv_Add b0_Conv_Den b0_Conv_Round))).In ((qa.mk b0_Id b0_From b0_To b0_Begin b0_End b0_In b0_Out (qb.mk b0_Conv_Num b0_Conv_Add b0_Conv_Den b0_Conv_Round))).Out ((qa.mk b0_Id b0_From b0_To b0_Begin b0_End b0_In b0_Out (qb.mk b0_Conv_Num b0_Conv_Add b0_Conv_Den b0_Conv_Round))).Conv.Num ((qa.mk b0_Id b0_From b0_To b0_Begin b0_End b0_In b0_Out (qb.mk b0_Conv_Num b0_Conv_Add b0_Conv_Den b0_Conv_Round))).Conv.Add ((qa.mk b0_Id b0_From b0_To b0_Begin b0_End b0_In b0_Out (qb.mk b0_Conv_Num b0_Conv_Add b0_Conv_Den b0_Conv_Round))).Conv.Den ((qa.mk b0_Id b0_From b0_To b0_Begin b0_End b0_In b0_Out (qb.mk b0_Conv_Num b0_Conv_Add b0_Conv_Den b0_Conv_Round))).Conv.Round t53 t54 _ rfl
  first
    | exact h
    | (simp only [rL, dL, bR, bZ, Nat.reduceAdd] at h; exact h)
theorem qjM : okL 37 q4x := qT (qg qgN) (by kernel_rfl) (by kernel_rfl)
def qkI := JA_ @q4x.eq_1 (JA_ @Tryz.f37.eq_1 @qgN)
theorem qiN : okL 81 q3t := qT (qg qe7) (by kernel_rfl) (by kernel_rfl)
def qhf := JA_ @q3t.eq_1 (JA_ @Tryz.f81.eq_1 @qe7)
theorem qaT : lbO 81 2 = q4E := Q4 (qg qe7) rfl
theorem qaO : okL 81 q4E := zx qiN (List.mem_of_getElem? (i := 0) (by kernel_rfl))
theorem qmv : okL 38 q5h := qT (qg qha) (by kernel_rfl) (by kernel_rfl)
def qkR := JA_ @q5h.eq_1 (JA_ @Tryz.f38.eq_1 @qha)
noncomputable def Qa (g : qd) : Option Bool :=
  some (qr g.Credits 1 60)
noncomputable def qD (g : qd) : Bool :=
  qr g.Credits 1 60
theorem J6 (g : qd) : Qa g = some (qD g) := by
  unfold Qa qD
  simp only [zJ]
theorem JE : ∀ (g_Code : ByteArray) (g_Credits : Int), ev 38 0 [R.agg [dS g_Code, dI g_Credits]] [] = some (rB (qD (qd.mk g_Code g_Credits)), []) :=
  fun g_Code g_Credits => by
    have h : ev 38 0 [R.agg [dS g_Code, dI g_Credits]] [] = (Qa (qd.mk g_Code g_Credits)).bind (fun (e : Bool) => some (rB e, [])) := by
      rw [qQ qha qk8.2.2.2 qmv]
      have := qkR; have := @Z4; have := @Qa.eq_1; exact gA
    rw [J6] at h
    exact h
noncomputable def qo (s : List qd) (t7 : Int) : Int → Option (Int ⊕ (Int ⊕ Unit))
  | t8 =>
    if t8 < t7 then if 0 ≤ t8 ∧ t8 < ((s.length : Nat) : Int) then Option.bind s[Int.toNat t8]? fun (a : qd) =>
        if qD a = Bool.true then some (Sum.inr (Sum.inl t8))
        else some (Sum.inl (w64 (t8 + 1)))
      else none
    else some (Sum.inr (Sum.inr ()))
theorem zM : ∀ (s : List qd) (t7 t8 : Int), XL2 evo 81 0 2 ⟨[(0, rL 2 qc s), (1, R.c (C.fn 38 [] [])), (7, rI t7), (8, rI t8)], [], 0, 19⟩ = (qS (qo s t7) t8).bind (Sum.elim (fun (e : Int) => some (Go.Exit.ret, ⟨[(4, rI e)], [], 0, 19⟩)) (fun (e : Unit) => some (Go.Exit.exit 0, ⟨[(4, R.any)], [], 0, 19⟩))) :=
  fun s t7 t8 => by
    revert t8; exact q3F qaT qaO (fun e => by rcases e with _ | _ <;> exact ⟨_, rfl, fun h => by cases h⟩) fun x => by
      have := qhf; have := @q4E.eq_1; have := @JE; have := @qo.eq_1; exact gA
noncomputable def qF (s : List qd) : Option Int :=
  Option.bind (qS (qo s ((s.length : Nat) : Int)) 0) fun (a : Sum Int Unit) =>
  Sum.elim (fun (a2 : Int) => some a2) (fun (a3 : Unit) => some (-1)) a
theorem zU : ∀ (s : List qd), ev 81 0 [rL 2 qc s, R.c (C.fn 38 [] [])] [] = (qF s).bind (fun (e : Int) => some (rI e, [])) :=
  fun s => by
    rw [qQ qe7 qjG.2.2.2 qiN]
    have := qhf; have := @zM; have := @qF.eq_1; exact gA
noncomputable def qk (s : List qd) : Option Bool :=
  Option.bind (qF s) fun (a : Int) =>
  some (decide (0 ≤ a))
theorem zP : ∀ (s : List qd), ev 37 0 [rL 2 qc s, R.c (C.fn 38 [] [])] [] = (qk s).bind (fun (e : Bool) => some (rB e, [])) :=
  fun s => by
    rw [qQ qgN qhR.2.2.2 qjM]
    have := qkI; have := @zU; have := @qk.eq_1; exact gA
theorem qm1 : okL 39 q4I := qT (qg qhL) (by kernel_rfl) (by kernel_rfl)
def qmW := JA_ @q4I.eq_1 (JA_ @Tryz.f39.eq_1 @qhL)
theorem ql0 : okL 40 q5n := qT (qg qhi) (by kernel_rfl) (by kernel_rfl)
def qlS := JA_ @q5n.eq_1 (JA_ @Tryz.f40.eq_1 @qhi)
theorem qjW : okL 82 q34 := qT (qg qgT) (by kernel_rfl) (by kernel_rfl)
def qkm := JA_ @q34.eq_1 (JA_ @Tryz.f82.eq_1 @qgT)
theorem qf6 : lbO 82 2 = q8j := Q4 (qg qgT) rfl
theorem qei : okL 82 q8j := zx qjW (List.mem_of_getElem? (i := 0) (by kernel_rfl))
noncomputable def qt (s : List ByteArray) (v : ByteArray) (t7 : Int) : Int → Option (Int ⊕ (Int ⊕ Unit))
  | t8 =>
    if t8 < t7 then if 0 ≤ t8 ∧ t8 < ((s.length : Nat) : Int) then Option.bind s[Int.toNat t8]? fun (a : ByteArray) =>
        if (ByteArray.toList v == ByteArray.toList a) = Bool.true then some (Sum.inr (Sum.inl t8))
        else some (Sum.inl (w64 (t8 + 1)))
      else none
    else some (Sum.inr (Sum.inr ()))
theorem Q8 : ∀ (s : List ByteArray) (v : ByteArray) (t7 t8 : Int), XL2 evo 82 0 2 ⟨[(0, rL 1 eS s), (1, rS v), (7, rI t7), (8, rI t8)], [], 0, 19⟩ = (qS (qt s v t7) t8).bind (Sum.elim (fun (e : Int) => some (Go.Exit.ret, ⟨[(4, rI e)], [], 0, 19⟩)) (fun (e : Unit) => some (Go.Exit.exit 0, ⟨[(4, R.any)], [], 0, 19⟩))) :=
  fun s v t7 t8 => by
    revert t8; exact q3F qf6 qei (fun e => by rcases e with _ | _ <;> exact ⟨_, rfl, fun h => by cases h⟩) fun x => by
      have := qkm; have := @q8j.eq_1; have := @qt.eq_1; exact gA
noncomputable def qR (s : List ByteArray) (v : ByteArray) : Option Int :=
  Option.bind (qS (qt s v ((s.length : Nat) : Int)) 0) fun (a : Sum Int Unit) =>
  Sum.elim (fun (a2 : Int) => some a2) (fun (a3 : Unit) => some (-1)) a
theorem Qm : ∀ (s : List ByteArray) (v : ByteArray), ev 82 0 [rL 1 eS s, rS v] [] = (qR s v).bind (fun (e : Int) => some (rI e, [])) :=
  fun s v => by
    rw [qQ qgT qke.2.2.2 qjW]
    have := qkm; have := @Q8; have := @qR.eq_1; exact gA
noncomputable def qE (s : List ByteArray) (v : ByteArray) : Option Bool :=
  Option.bind (qR s v) fun (a : Int) =>
  some (decide (0 ≤ a))
theorem Q9 : ∀ (s : List ByteArray) (v : ByteArray), ev 40 0 [rL 1 eS s, rS v] [] = (qE s v).bind (fun (e : Bool) => some (rB e, [])) :=
  fun s v => by
    rw [qQ qhi qk4.2.2.2 ql0]
    have := qlS; have := @Qm; have := @qE.eq_1; exact gA
noncomputable def Qe (g : qd) (v : qa) : Option Bool :=
  Option.bind (qE v.In g.Code) fun (a : Bool) =>
  some a
theorem Jr : ∀ (g_Code : ByteArray) (g_Credits v_Id v_From v_To v_Begin v_End : Int) (v_In : List ByteArray) (v_Out : List qd) (v_Conv_Num v_Conv_Add v_Conv_Den v_Conv_Round : Int), ev 39 1 [R.agg [dS g_Code, dI g_Credits], rP 0] [(0, B.blk 30 [dI v_Id, dI v_From, dI v_To, dI v_Begin, dI v_End, dL 1 eS v_In, dL 2 qc v_Out, dI v_Conv_Num, dI v_Conv_Add, dI v_Conv_Den, dI v_Conv_Round])] = (Qe (qd.mk g_Code g_Credits) (qa.mk v_Id v_From v_To v_Begin v_End v_In v_Out (qb.mk v_Conv_Num v_Conv_Add v_Conv_Den v_Conv_Round))).bind (fun (e : Bool) => some (rB e, [(0, B.blk 30 [dI v_Id, dI v_From, dI v_To, dI v_Begin, dI v_End, dL 1 eS v_In, dL 2 qc v_Out, dI v_Conv_Num, dI v_Conv_Add, dI v_Conv_Den, dI v_Conv_Round])])) :=
  fun g_Code g_Credits v_Id v_From v_To v_Begin v_End v_In v_Out v_Conv_Num v_Conv_Add v_Conv_Den v_Conv_Round => by
    rw [qQ qhL qjK.2.2.2 qm1]
    have := qmW; have := @Q9; have := @Qe.eq_1; exact gA
noncomputable def ql (b0 : qa) (s : List qd) (t7 : Int) : Int → Option (Int ⊕ (Int ⊕ Unit))
  | t8 =>
    if t8 < t7 then if 0 ≤ t8 ∧ t8 < ((s.length : Nat) : Int) then Option.bind s[Int.toNat t8]? fun (a : qd) =>
        Option.bind (Qe a b0) fun (a2 : Bool) =>
        if a2 = Bool.true then some (Sum.inr (Sum.inl t8))
        else some (Sum.inl (w64 (t8 + 1)))
      else none
    else some (Sum.inr (Sum.inr ()))
theorem zC : ∀ (b0_Id b0_From b0_To b0_Begin b0_End : Int) (b0_In : List ByteArray) (b0_Out : List qd) (b0_Conv_Num b0_Conv_Add b0_Conv_Den b0_Conv_Round : Int) (s : List qd) (t7 t8 : Int), XL2 evo 81 1 2 ⟨[(0, rL 2 qc s), (1, R.c (C.fn 39 [] [dP 0])), (7, rI t7), (8, rI t8)], [(0, B.blk 30 [dI b0_Id, dI b0_From, dI b0_To, dI b0_Begin, dI b0_End, dL 1 eS b0_In, dL 2 qc b0_Out, dI b0_Conv_Num, dI b0_Conv_Add, dI b0_Conv_Den, dI b0_Conv_Round])], 1, 19⟩ = (qS (ql (qa.mk b0_Id b0_From b0_To b0_Begin b0_End b0_In b0_Out (qb.mk b0_Conv_Num b0_Conv_Add b0_Conv_Den b0_Conv_Round)) s t7) t8).bind (Sum.elim (fun (e : Int) => some (Go.Exit.ret, ⟨[(4, rI e)], [(0, B.blk 30 [dI b0_Id, dI b0_From, dI b0_To, dI b0_Begin, dI b0_End, dL 1 eS b0_In, dL 2 qc b0_Out, dI b0_Conv_Num, dI b0_Conv_Add, dI b0_Conv_Den, dI b0_Conv_Round])], 1, 19⟩)) (fun (e : Unit) => some (Go.Exit.exit 0, ⟨[(4, R.any)], [(0, B.blk 30 [dI b0_Id, dI b0_From, dI b0_To, dI b0_Begin, dI b0_End, dL 1 eS b0_In, dL 2 qc b0_Out, dI b0_Conv_Num, dI b0_Conv_Add, dI b0_Conv_Den, dI b0_Conv_Round])], 1, 19⟩))) :=
  fun b0_Id b0_From b0_To b0_Begin b0_End b0_In b0_Out b0_Conv_Num b0_Conv_Add b0_Conv_Den b0_Conv_Round s t7 t8 => by
    revert t8; exact q3F qaT qaO (fun e => by rcases e with _ | _ <;> exact ⟨_, rfl, fun h => by cases h⟩) fun x => by
      have := qhf; have := @q4E.eq_1; have := @Jr; have := @ql.eq_1; exact gA
noncomputable def qy (s : List qd) (b0 : qa) : Option Int :=
  Option.bind (qS (ql b0 s ((s.length : Nat) : Int)) 0) fun (a : Sum Int Unit) =>
  Sum.elim (fun (a2 : Int) => some a2) (fun (a3 : Unit) => some (-1)) a
theorem zS : ∀ (s : List qd) (b0_Id b0_From b0_To b0_Begin b0_End : Int) (b0_In : List ByteArray) (b0_Out : List qd) (b0_Conv_Num b0_Conv_Add b0_Conv_Den b0_Conv_Round : Int), ev 81 1 [rL 2 qc s, R.c (C.fn 39 [] [dP 0])] [(0, B.blk 30 [dI b0_Id, dI b0_From, dI b0_To, dI b0_Begin, dI b0_End, dL 1 eS b0_In, dL 2 qc b0_Out, dI b0_Conv_Num, dI b0_Conv_Add, dI b0_Conv_Den, dI b0_Conv_Round])] = (qy s (qa.mk b0_Id b0_From b0_To b0_Begin b0_End b0_In b0_Out (qb.mk b0_Conv_Num b0_Conv_Add b0_Conv_Den b0_Conv_Round))).bind (fun (e : Int) => some (rI e, [(0, B.blk 30 [dI b0_Id, dI b0_From, dI b0_To, dI b0_Begin, dI b0_End, dL 1 eS b0_In, dL 2 qc b0_Out, dI b0_Conv_Num, dI b0_Conv_Add, dI b0_Conv_Den, dI b0_Conv_Round])])) :=
  fun s b0_Id b0_From b0_To b0_Begin b0_End b0_In b0_Out b0_Conv_Num b0_Conv_Add b0_Conv_Den b0_Conv_Round => by
    rw [qQ qe7 qjG.2.2.2 qiN]
    have := qhf; have := @zC; have := @qy.eq_1; exact gA
noncomputable def qh (s : List qd) (b0 : qa) : Option Bool :=
  Option.bind (qy s b0) fun (a : Int) =>
  some (decide (0 ≤ a))
theorem zD : ∀ (s : List qd) (b0_Id b0_From b0_To b0_Begin b0_End : Int) (b0_In : List ByteArray) (b0_Out : List qd) (b0_Conv_Num b0_Conv_Add b0_Conv_Den b0_Conv_Round : Int), ev 37 1 [rL 2 qc s, R.c (C.fn 39 [] [dP 0])] [(0, B.blk 30 [dI b0_Id, dI b0_From, dI b0_To, dI b0_Begin, dI b0_End, dL 1 eS b0_In, dL 2 qc b0_Out, dI b0_Conv_Num, dI b0_Conv_Add, dI b0_Conv_Den, dI b0_Conv_Round])] = (qh s (qa.mk b0_Id b0_From b0_To b0_Begin b0_End b0_In b0_Out (qb.mk b0_Conv_Num b0_Conv_Add b0_Conv_Den b0_Conv_Round))).bind (fun (e : Bool) => some (rB e, [(0, B.blk 30 [dI b0_Id, dI b0_From, dI b0_To, dI b0_Begin, dI b0_End, dL 1 eS b0_In, dL 2 qc b0_Out, dI b0_Conv_Num, dI b0_Conv_Add, dI b0_Conv_Den, dI b0_Conv_Round])])) :=
  fun s b0_Id b0_From b0_To b0_Begin b0_End b0_In b0_Out b0_Conv_Num b0_Conv_Add b0_Conv_Den b0_Conv_Round => by
    rw [qQ qgN qhR.2.2.2 qjM]
    have := qkI; have := @zS; have := @qh.eq_1; exact gA
theorem qmk : okL 41 q5a := qT (qg qhB) (by kernel_rfl) (by kernel_rfl)
def qn1 := JA_ @q5a.eq_1 (JA_ @Tryz.f41.eq_1 @qhB)
theorem qmg : okL 83 q4w := qT (qg qhv) (by kernel_rfl) (by kernel_rfl)
def qmP := JA_ @q4w.eq_1 (JA_ @Tryz.f83.eq_1 @qhv)
noncomputable def zK (n : Int) (a : Int) (b : Int) : Option Int :=
  some (max (min a b) (min n (max a b)))
noncomputable def qn (n : Int) (a : Int) (b : Int) : Int :=
  max (min a b) (min n (max a b))
theorem Zf (n a b : Int) : zK n a b = some (qn n a b) := by
  unfold zK qn
  simp only [zJ]
theorem Zo : ∀ (n a b : Int), ev 83 0 [rI n, rI a, rI b] [] = some (rI (qn n a b), []) :=
  fun n a b => by
    have h : ev 83 0 [rI n, rI a, rI b] [] = (zK n a b).bind (fun (e : Int) => some (rI e, [])) := by
      rw [qQ qhv qkx.2.2.2 qmg]
      have := qmP; have := @zK.eq_1; exact gA
    rw [Zf] at h
    exact h
noncomputable def Q1 (c : qb) : Option Int :=
  if (qn c.Den 1 1000 != c.Den) = Bool.true then some 3
  else if (qn c.Num (-1000) 1000 != c.Num) = Bool.true then some 3
  else if (qn c.Add (-1000) 1000 != c.Add) = Bool.true then some 3
  else if (qn c.Round 1 4 != c.Round) = Bool.true then some 3
  else some 0
noncomputable def qm (c : qb) : Int :=
  if (qn c.Den 1 1000 != c.Den) = Bool.true then 3
  else if (qn c.Num (-1000) 1000 != c.Num) = Bool.true then 3
  else if (qn c.Add (-1000) 1000 != c.Add) = Bool.true then 3
  else if (qn c.Round 1 4 != c.Round) = Bool.true then 3
  else 0
theorem Zv (c : qb) : Q1 c = some (qm c) := by
  unfold Q1 qm
  simp only [zJ]
theorem ZK : ∀ (c_Num c_Add c_Den c_Round : Int), ev 41 0 [R.agg [dI c_Num, dI c_Add, dI c_Den, dI c_Round]] [] = some (rI (qm (qb.mk c_Num c_Add c_Den c_Round)), []) :=
  fun c_Num c_Add c_Den c_Round => by
    have h : ev 41 0 [R.agg [dI c_Num, dI c_Add, dI c_Den, dI c_Round]] [] = (Q1 (qb.mk c_Num c_Add c_Den c_Round)).bind (fun (e : Int) => some (rI e, [])) := by
      rw [qQ qhB qk1.2.2.2 qmk]
      have := qn1; have := @Zo; have := @Q1.eq_1; exact gA
    rw [Zv] at h
    exact h
noncomputable def Qd (x0 : qa) : Option Int :=
  if x0.Id < 1 then some 1
  else if qr x0.From 1 8 = Bool.true then some 1
  else if qr x0.To 1 8 = Bool.true then some 1
  else if (!(zi x0.Begin)) = Bool.true then some 23
  else if (x0.End != 0) = Bool.true then if (!(zi x0.End)) = Bool.true then some 23
    else if x0.End < x0.Begin then some 23
    else if qr ((x0.In.length : Nat) : Int) 1 3 = Bool.true then some 2
    else if qr ((x0.Out.length : Nat) : Int) 1 3 = Bool.true then some 2
    else Option.bind (zI x0.Out) fun (a : List ByteArray) =>
    Option.bind (qS (qs [x0.In, a] x0 2) 0) fun (a2 : Sum Int Unit) =>
    Sum.elim (fun (a3 : Int) => some a3) (fun (a4 : Unit) => Option.bind (qk x0.Out) fun (a5 : Bool) =>
      if a5 = Bool.true then some 3
      else if (x0.From == x0.To) = Bool.true then Option.bind (qh x0.Out x0) fun (a6 : Bool) =>
        if a6 = Bool.true then some 14
        else some (qm x0.Conv)
      else some (qm x0.Conv)) a2
  else if qr ((x0.In.length : Nat) : Int) 1 3 = Bool.true then some 2
  else if qr ((x0.Out.length : Nat) : Int) 1 3 = Bool.true then some 2
  else Option.bind (zI x0.Out) fun (a7 : List ByteArray) =>
  Option.bind (qS (qs [x0.In, a7] x0 2) 0) fun (a8 : Sum Int Unit) =>
  Sum.elim (fun (a9 : Int) => some a9) (fun (a10 : Unit) => Option.bind (qk x0.Out) fun (a11 : Bool) =>
    if a11 = Bool.true then some 3
    else if (x0.From == x0.To) = Bool.true then Option.bind (qh x0.Out x0) fun (a12 : Bool) =>
      if a12 = Bool.true then some 14
      else some (qm x0.Conv)
    else some (qm x0.Conv)) a8
theorem q0y : ∀ (x0_Id x0_From x0_To x0_Begin x0_End : Int) (x0_In : List ByteArray) (x0_Out : List qd) (x0_Conv_Num x0_Conv_Add x0_Conv_Den x0_Conv_Round : Int), ev 10 0 [R.agg [dI x0_Id, dI x0_From, dI x0_To, dI x0_Begin, dI x0_End, dL 1 eS x0_In, dL 2 qc x0_Out, dI x0_Conv_Num, dI x0_Conv_Add, dI x0_Conv_Den, dI x0_Conv_Round]] [] = (Qd (qa.mk x0_Id x0_From x0_To x0_Begin x0_End x0_In x0_Out (qb.mk x0_Conv_Num x0_Conv_Add x0_Conv_Den x0_Conv_Round))).bind (fun (e : Int) => some (rI e, [])) :=
  fun x0_Id x0_From x0_To x0_Begin x0_End x0_In x0_Out x0_Conv_Num x0_Conv_Add x0_Conv_Den x0_Conv_Round => by
    rw [qQ qe6 qkE.2.2.2 qim]
    have := qi6; have := @Z4; have := @q1y; have := @q0C; have := @Ze; have := @zP; have := @zD; have := @ZK; have := @Qd.eq_1; exact gA
theorem qhT : okL 11 q2g := qT (qg qe3) (by kernel_rfl) (by kernel_rfl)
def qjv := JA_ @q2g.eq_1 (JA_ @Tryz.f11.eq_1 @qe3)
theorem qdB : lbO 11 15 = q4g := Q4 (qg qe3) rfl
theorem qcD : okL 11 q4g := zx qhT (List.mem_of_getElem? (i := 0) (by kernel_rfl))
theorem qcm : lbO 11 20 = q3V := Q4 (qg qe3) rfl
theorem qc7 : okL 11 q3V := zx qhT (List.mem_of_getElem? (i := 1) (by kernel_rfl))
theorem qmL : okL 42 q56 := qT (qg qht) (by kernel_rfl) (by kernel_rfl)
def qmu := JA_ @q56.eq_1 (JA_ @Tryz.f42.eq_1 @qht)
noncomputable def QB (day : Int) : Option Bool :=
  if 0 ≤ day then some (decide (day ≤ 100000))
  else some Bool.false
noncomputable def zB (day : Int) : Bool :=
  if 0 ≤ day then decide (day ≤ 100000)
  else Bool.false
theorem q0j (day : Int) : QB day = some (zB day) := by
  unfold QB zB
  simp only [zJ]
theorem q0A : ∀ (day : Int), ev 42 0 [rI day] [] = some (rB (zB day), []) :=
  fun day => by
    have h : ev 42 0 [rI day] [] = (QB day).bind (fun (e : Bool) => some (rB e, [])) := by
      rw [qQ qht qkF.2.2.2 qmL]
      have := qmu; have := @QB.eq_1; exact gA
    rw [q0j] at h
    exact h
theorem qkc : okL 43 q31 := qT (qg qfC) (by kernel_rfl) (by kernel_rfl)
def qki := JA_ @q31.eq_1 (JA_ @Tryz.f43.eq_1 @qfC)
theorem qfF : lbO 43 2 = q8m := Q4 (qg qfC) rfl
theorem qh5 : okL 43 q8m := zx qkc (List.mem_of_getElem? (i := 0) (by kernel_rfl))
theorem qjL : okL 84 q3s := qT (qg qec) (by kernel_rfl) (by kernel_rfl)
def qkt := JA_ @q3s.eq_1 (JA_ @Tryz.f84.eq_1 @qec)
theorem qgZ : lbO 84 2 = q6j := Q4 (qg qec) rfl
theorem qg5 : okL 84 q6j := zx qjL (List.mem_of_getElem? (i := 0) (by kernel_rfl))
end Go.Proofs.YtplfjlcnffcenaaGreat.Vc
namespace Go.Proofs.YtplfjlcnffcenaaGreat.Vc
open Go.RowKit
set_option linter.unusedVariables false
set_option linter.unusedSimpArgs false
set_option maxRecDepth 20000
set_option maxHeartbeats 8000000
set_option linter.defProp false
noncomputable def zz (s : ByteArray) : Int → Option (Int ⊕ (Unit ⊕ Unit))
  | k =>
    if k < ((ByteArray.size s : Nat) : Int) then if 0 ≤ k then Option.bind (Array.toList (ByteArray.data s))[Int.toNat k]? fun (a : UInt8) =>
        if 65 ≤ ((UInt8.toNat a : Nat) : Int) then if 0 ≤ k then Option.bind (Array.toList (ByteArray.data s))[Int.toNat k]? fun (a2 : UInt8) =>
            if 0 ≤ k then Option.bind (Array.toList (ByteArray.data s))[Int.toNat k]? fun (a3 : UInt8) =>
              if 48 ≤ ((UInt8.toNat a3 : Nat) : Int) then if 0 ≤ k then Option.bind (Array.toList (ByteArray.data s))[Int.toNat k]? fun (a4 : UInt8) =>
                  if (!(decide (((UInt8.toNat a2 : Nat) : Int) ≤ 90))) = Bool.true then if (!(decide (((UInt8.toNat a4 : Nat) : Int) ≤ 57))) = Bool.true then some (Sum.inr (Sum.inl ()))
                    else some (Sum.inl (w64 (k + 1)))
                  else some (Sum.inl (w64 (k + 1)))
                else none
              else if (!(decide (((UInt8.toNat a2 : Nat) : Int) ≤ 90))) = Bool.true then some (Sum.inr (Sum.inl ()))
              else some (Sum.inl (w64 (k + 1)))
            else none
          else none
        else if 0 ≤ k then Option.bind (Array.toList (ByteArray.data s))[Int.toNat k]? fun (a5 : UInt8) =>
          if 48 ≤ ((UInt8.toNat a5 : Nat) : Int) then if 0 ≤ k then Option.bind (Array.toList (ByteArray.data s))[Int.toNat k]? fun (a6 : UInt8) =>
              if (!(decide (((UInt8.toNat a6 : Nat) : Int) ≤ 57))) = Bool.true then some (Sum.inr (Sum.inl ()))
              else some (Sum.inl (w64 (k + 1)))
            else none
          else some (Sum.inr (Sum.inl ()))
        else none
      else none
    else some (Sum.inr (Sum.inr ()))
theorem JI : ∀ (s : ByteArray) (k : Int), XL2 evo 84 0 2 ⟨[(0, rS s), (3, rI k)], [], 0, 46⟩ = (qS (zz s) k).bind (Sum.elim (fun (e : Unit) => some (Go.Exit.ret, ⟨[(0, rS s), (2, rB Bool.false)], [], 0, 46⟩)) (fun (e : Unit) => some (Go.Exit.exit 0, ⟨[(0, rS s), (2, R.any)], [], 0, 46⟩))) :=
  fun s k => by
    revert k; exact q3F qgZ qg5 (fun e => by rcases e with _ | _ <;> exact ⟨_, rfl, fun h => by cases h⟩) fun x => by
      have := qkt; have := @q6j.eq_1; have := @zz.eq_1; exact gA
noncomputable def Qy (s : ByteArray) : Option Bool :=
  Option.bind (qS (zz s) 0) fun (a : Sum Unit Unit) =>
  Sum.elim (fun (a2 : Unit) => some Bool.false) (fun (a3 : Unit) => if 1 ≤ ((ByteArray.size s : Nat) : Int) then some (decide (((ByteArray.size s : Nat) : Int) ≤ 8))
    else some Bool.false) a
theorem q14 : ∀ (s : ByteArray), ev 84 0 [rS s] [] = (Qy s).bind (fun (e : Bool) => some (rB e, [])) :=
  fun s => by
    rw [qQ qec qkH.2.2.2 qjL]
    have := qkt; have := @JI; have := @Qy.eq_1; exact gA
noncomputable def zc (l : List ByteArray) : Int → Option (Int ⊕ (Int ⊕ Unit))
  | k =>
    if k < ((l.length : Nat) : Int) then if 0 ≤ k ∧ k < ((l.length : Nat) : Int) then Option.bind l[Int.toNat k]? fun (a : ByteArray) =>
        Option.bind (Qy a) fun (a2 : Bool) =>
        if (!a2) = Bool.true then some (Sum.inr (Sum.inl 12))
        else if 0 < k then if 0 ≤ w64 (k - 1) ∧ w64 (k - 1) < ((l.length : Nat) : Int) then Option.bind l[Int.toNat (w64 (k - 1))]? fun (a3 : ByteArray) =>
            if 0 ≤ k ∧ k < ((l.length : Nat) : Int) then Option.bind l[Int.toNat k]? fun (a4 : ByteArray) =>
              if (!(Go.Op.bytesLess (ByteArray.toList a3) (ByteArray.toList a4))) = Bool.true then some (Sum.inr (Sum.inl 7))
              else some (Sum.inl (w64 (k + 1)))
            else none
          else none
        else some (Sum.inl (w64 (k + 1)))
      else none
    else some (Sum.inr (Sum.inr ()))
theorem J7 : ∀ (l : List ByteArray) (k : Int), XL2 evo 43 0 2 ⟨[(0, rL 1 eS l), (3, rI k)], [], 0, 32⟩ = (qS (zc l) k).bind (Sum.elim (fun (e : Int) => some (Go.Exit.ret, ⟨[(2, rI e)], [], 0, 32⟩)) (fun (e : Unit) => some (Go.Exit.exit 0, ⟨[(2, R.any)], [], 0, 32⟩))) :=
  fun l k => by
    revert k; exact q3F qfF qh5 (fun e => by rcases e with _ | _ <;> exact ⟨_, rfl, fun h => by cases h⟩) fun x => by
      have := qki; have := @q8m.eq_1; have := @q14; have := @zc.eq_1; exact gA
noncomputable def qY (l : List ByteArray) : Option Int :=
  Option.bind (qS (zc l) 0) fun (a : Sum Int Unit) =>
  Sum.elim (fun (a2 : Int) => some a2) (fun (a3 : Unit) => some 0) a
theorem q0r : ∀ (l : List ByteArray), ev 43 0 [rL 1 eS l] [] = (qY l).bind (fun (e : Int) => some (rI e, [])) :=
  fun l => by
    rw [qQ qfC qkd.2.2.2 qkc]
    have := qki; have := @J7; have := @qY.eq_1; exact gA
theorem qkl : okL 44 q3w := qT (qg qgm) (by kernel_rfl) (by kernel_rfl)
def qkD := JA_ @q3w.eq_1 (JA_ @Tryz.f44.eq_1 @qgm)
theorem qfH : lbO 44 3 = q7l := Q4 (qg qgm) rfl
theorem qgP : okL 44 q7l := zx qkl (List.mem_of_getElem? (i := 0) (by kernel_rfl))
noncomputable def zp (a : qa) : (List ByteArray × Int) → Option ((List ByteArray × Int) ⊕ (List ByteArray))
  | (out, k) =>
    if k < ((a.Out.length : Nat) : Int) then if 0 ≤ k ∧ k < ((a.Out.length : Nat) : Int) then Option.bind a.Out[Int.toNat k]? fun (a2 : qd) =>
        if out.length + 1 ≤ Go.maxLen ∧ (out.length + 1) * 16 ≤ 140737488355328 then some (Sum.inl (out ++ [a2.Code], w64 (k + 1)))
        else none
      else none
    else some (Sum.inr out)
theorem Jh : ∀ (out : List ByteArray) (a_Id a_From a_To a_Begin a_End : Int) (a_In : List ByteArray) (a_Out : List qd) (a_Conv_Num a_Conv_Add a_Conv_Den a_Conv_Round k : Int) (out_len : Nat), out_len = out.length → XL2 evo 44 0 3 ⟨[(1, rP 0), (3, rO 1 1 out_len), (4, rI k)], [(0, B.blk 30 [dI a_Id, dI a_From, dI a_To, dI a_Begin, dI a_End, dL 1 eS a_In, dL 2 qc a_Out, dI a_Conv_Num, dI a_Conv_Add, dI a_Conv_Den, dI a_Conv_Round]), (1, bR 9 1 eS out)], 2, 22⟩ = (qS (zp (qa.mk a_Id a_From a_To a_Begin a_End a_In a_Out (qb.mk a_Conv_Num a_Conv_Add a_Conv_Den a_Conv_Round))) (out, k)).bind (fun (e : List ByteArray) => some (Go.Exit.exit 0, ⟨[(3, rO 0 1 e.length)], [(0, bR 9 1 eS e)], 1, 22⟩)) :=
  by
  intro out a_Id a_From a_To a_Begin a_End a_In a_Out a_Conv_Num a_Conv_Add a_Conv_Den a_Conv_Round k out_len h0
  subst h0
  revert k; revert out; exact qgo qfH qgP (fun e => by exact ⟨_, rfl, fun h => by cases h⟩) fun out k => by
    have := qkD; have := @q7l.eq_1; have := @zp.eq_1; exact gA
theorem Zq : ∀  (a_Id a_From a_To a_Begin a_End : Int) (a_In : List ByteArray) (a_Out : List qd) (a_Conv_Num a_Conv_Add a_Conv_Den a_Conv_Round k : Int), XL2 evo 44 0 3 ⟨[(1, rP 0), (3, rO 1 1 0), (4, rI k)], [(0, B.blk 30 [dI a_Id, dI a_From, dI a_To, dI a_Begin, dI a_End, dL 1 eS a_In, dL 2 qc a_Out, dI a_Conv_Num, dI a_Conv_Add, dI a_Conv_Den, dI a_Conv_Round]), (1, B.row 9 1 [])], 2, 22⟩ = (qS (zp (qa.mk a_Id a_From a_To a_Begin a_End a_In a_Out (qb.mk a_Conv_Num a_Conv_Add a_Conv_Den a_Conv_Round))) ([], k)).bind (fun (e : List ByteArray) => some (Go.Exit.exit 0, ⟨[(3, rO 0 1 e.length)], [(0, bR 9 1 eS e)], 1, 22⟩)) := by
  intro a_Id a_From a_To a_Begin a_End a_In a_Out a_Conv_Num a_Conv_Add a_Conv_Den a_Conv_Round k; have h := Jh [] ((qa.mk a_Id a_From a_To a_Begin a_End a_In a_Out (qb.mk a_Conv_Num a_Conv_Add a_Conv_Den a_Conv_Round))).Id ((qa.mk a_Id a_From a_To a_Begin a_End a_In a_Out (qb.mk a_Conv_Num a_Conv_Add a_Conv_Den a_Conv_Round))).From ((qa.mk a_Id a_From a_To a_Begin a_End a_In a_Out (qb.mk a_Conv_Num a_Conv_Add a_Conv_Den a_Conv_Round))).To ((qa.mk a_Id a_From a_To a_Begin a_End a_In a_Out (qb.mk a_Conv_Num a_Conv_Add a_Conv_Den a_Conv_Round))).Begin ((qa.mk a_Id a_From a_To a_Begin a_End a_In a_Out (qb.mk a_Conv_Num a_Conv_Add a_Conv_Den a_Conv_Round))).End ((qa.mk a_Id a_From a_To a_Begin a_End a_In a_Out (qb.mk a_Conv_Num a_Conv_Add a_Conv_Den a_Conv_Round))).In ((qa.mk a_Id a_From a_To a_Begin a_End a_In a_Out (qb.mk a_Conv_Num a_Conv_Add a_Conv_Den a_Conv_Round))).Out ((qa.mk a_Id a_From a_To a_Begin a_End a_In a_Out (qb.mk a_Conv_Num a_Conv_Add a_Conv_Den a_Conv_Round))).Conv.Num ((qa.mk a_Id a_From a_To a_Begin a_End a_In a_Out (qb.mk a_Conv_Num a_Conv_Add a_Conv_Den a_Conv_Round))).Conv.Add ((qa.mk a_Id a_From a_To a_Begin a_End a_In a_Out (qb.mk a_Conv_Num a_Conv_Add a_Conv_Den a_Conv_Round))).Conv.Den ((qa.mk a_Id a_From a_To a_Begin a_End a_In a_Out (qb.mk a_Conv_Num a_Conv_Add a_Conv_Den a_Conv_Round))).Conv.Round k _ rfl
  first
    | exact h
    | (simp only [rL, dL, bR, bZ, Nat.reduceAdd] at h; exact h)
noncomputable def zV (a : qa) : Option (List ByteArray) :=
  Option.bind (qS (zp a) ([], 0)) fun (a2 : List ByteArray) =>
  some a2
theorem q1t : ∀ (a_Id a_From a_To a_Begin a_End : Int) (a_In : List ByteArray) (a_Out : List qd) (a_Conv_Num a_Conv_Add a_Conv_Den a_Conv_Round : Int), ev 44 0 [R.agg [dI a_Id, dI a_From, dI a_To, dI a_Begin, dI a_End, dL 1 eS a_In, dL 2 qc a_Out, dI a_Conv_Num, dI a_Conv_Add, dI a_Conv_Den, dI a_Conv_Round]] [] = (zV (qa.mk a_Id a_From a_To a_Begin a_End a_In a_Out (qb.mk a_Conv_Num a_Conv_Add a_Conv_Den a_Conv_Round))).bind (fun (e : List ByteArray) => some (rL 1 eS e, [])) :=
  fun a_Id a_From a_To a_Begin a_End a_In a_Out a_Conv_Num a_Conv_Add a_Conv_Den a_Conv_Round => by
    rw [qQ qgm qkM.2.2.2 qkl]
    have := qkD; have := @Zq; have := @zV.eq_1; exact gA
noncomputable def qv (b0 : qa) : Int → Option (Int ⊕ (Unit ⊕ Unit))
  | t6 =>
    if t6 < ((b0.Out.length : Nat) : Int) then if 0 ≤ t6 ∧ t6 < ((b0.Out.length : Nat) : Int) then Option.bind b0.Out[Int.toNat t6]? fun (a : qd) =>
        if a.Credits < 1 then some (Sum.inr (Sum.inl ()))
        else if 0 ≤ t6 ∧ t6 < ((b0.Out.length : Nat) : Int) then Option.bind b0.Out[Int.toNat t6]? fun (a2 : qd) =>
          if 60 < a2.Credits then some (Sum.inr (Sum.inl ()))
          else some (Sum.inl (w64 (t6 + 1)))
        else none
      else none
    else some (Sum.inr (Sum.inr ()))
theorem ZT : ∀ (b0_Id b0_From b0_To b0_Begin b0_End : Int) (b0_In : List ByteArray) (b0_Out : List qd) (b0_Conv_Num b0_Conv_Add b0_Conv_Den b0_Conv_Round t6 : Int), XL2 evo 11 0 15 ⟨[(1, rP 0), (6, rI t6)], [(0, B.blk 30 [dI b0_Id, dI b0_From, dI b0_To, dI b0_Begin, dI b0_End, dL 1 eS b0_In, dL 2 qc b0_Out, dI b0_Conv_Num, dI b0_Conv_Add, dI b0_Conv_Den, dI b0_Conv_Round])], 1, 137⟩ = (qS (qv (qa.mk b0_Id b0_From b0_To b0_Begin b0_End b0_In b0_Out (qb.mk b0_Conv_Num b0_Conv_Add b0_Conv_Den b0_Conv_Round))) t6).bind (Sum.elim (fun (e : Unit) => some (Go.Exit.ret, ⟨[(1, rP 0), (2, rI 3)], [(0, B.blk 30 [dI b0_Id, dI b0_From, dI b0_To, dI b0_Begin, dI b0_End, dL 1 eS b0_In, dL 2 qc b0_Out, dI b0_Conv_Num, dI b0_Conv_Add, dI b0_Conv_Den, dI b0_Conv_Round])], 1, 137⟩)) (fun (e : Unit) => some (Go.Exit.exit 0, ⟨[(1, rP 0), (2, R.any)], [(0, B.blk 30 [dI b0_Id, dI b0_From, dI b0_To, dI b0_Begin, dI b0_End, dL 1 eS b0_In, dL 2 qc b0_Out, dI b0_Conv_Num, dI b0_Conv_Add, dI b0_Conv_Den, dI b0_Conv_Round])], 1, 137⟩))) :=
  fun b0_Id b0_From b0_To b0_Begin b0_End b0_In b0_Out b0_Conv_Num b0_Conv_Add b0_Conv_Den b0_Conv_Round t6 => by
    revert t6; exact q3F qdB qcD (fun e => by rcases e with _ | _ <;> exact ⟨_, rfl, fun h => by cases h⟩) fun x => by
      have := qjv; have := @q4g.eq_1; have := @qv.eq_1; exact gA
noncomputable def qw (b0 : qa) : Int → Option (Int ⊕ (Unit ⊕ Unit))
  | t7 =>
    if t7 < ((b0.Out.length : Nat) : Int) then if (b0.From == b0.To) = Bool.true then if 0 ≤ t7 ∧ t7 < ((b0.Out.length : Nat) : Int) then Option.bind b0.Out[Int.toNat t7]? fun (a : qd) =>
          Option.bind (ze b0.In a.Code) fun (a2 : Bool) =>
          if a2 = Bool.true then some (Sum.inr (Sum.inl ()))
          else some (Sum.inl (w64 (t7 + 1)))
        else none
      else some (Sum.inl (w64 (t7 + 1)))
    else some (Sum.inr (Sum.inr ()))
theorem ZW : ∀ (b0_Id b0_From b0_To b0_Begin b0_End : Int) (b0_In : List ByteArray) (b0_Out : List qd) (b0_Conv_Num b0_Conv_Add b0_Conv_Den b0_Conv_Round t7 : Int), XL2 evo 11 0 20 ⟨[(1, rP 0), (7, rI t7)], [(0, B.blk 30 [dI b0_Id, dI b0_From, dI b0_To, dI b0_Begin, dI b0_End, dL 1 eS b0_In, dL 2 qc b0_Out, dI b0_Conv_Num, dI b0_Conv_Add, dI b0_Conv_Den, dI b0_Conv_Round])], 1, 137⟩ = (qS (qw (qa.mk b0_Id b0_From b0_To b0_Begin b0_End b0_In b0_Out (qb.mk b0_Conv_Num b0_Conv_Add b0_Conv_Den b0_Conv_Round))) t7).bind (Sum.elim (fun (e : Unit) => some (Go.Exit.ret, ⟨[(1, rP 0), (2, rI 14)], [(0, B.blk 30 [dI b0_Id, dI b0_From, dI b0_To, dI b0_Begin, dI b0_End, dL 1 eS b0_In, dL 2 qc b0_Out, dI b0_Conv_Num, dI b0_Conv_Add, dI b0_Conv_Den, dI b0_Conv_Round])], 1, 137⟩)) (fun (e : Unit) => some (Go.Exit.exit 2, ⟨[(1, rP 0), (2, R.any)], [(0, B.blk 30 [dI b0_Id, dI b0_From, dI b0_To, dI b0_Begin, dI b0_End, dL 1 eS b0_In, dL 2 qc b0_Out, dI b0_Conv_Num, dI b0_Conv_Add, dI b0_Conv_Den, dI b0_Conv_Round])], 1, 137⟩))) :=
  fun b0_Id b0_From b0_To b0_Begin b0_End b0_In b0_Out b0_Conv_Num b0_Conv_Add b0_Conv_Den b0_Conv_Round t7 => by
    revert t7; exact q3F qcm qc7 (fun e => by rcases e with _ | _ <;> exact ⟨_, rfl, fun h => by cases h⟩) fun x => by
      have := qjv; have := @q3V.eq_1; have := @Q6; have := @qw.eq_1; exact gA
theorem qmN : okL 46 q5l := qT (qg qhd) (by kernel_rfl) (by kernel_rfl)
def qmD := JA_ @q5l.eq_1 (JA_ @Tryz.f46.eq_1 @qhd)
theorem qmt : okL 85 q4H := qT (qg qhD) (by kernel_rfl) (by kernel_rfl)
def qlI := JA_ @q4H.eq_1 (JA_ @Tryz.f85.eq_1 @qhD)
noncomputable def QU (n : Int) (most : Int) : Option Bool :=
  if w64 (0 - most) ≤ n then some (decide (n ≤ most))
  else some Bool.false
noncomputable def qZ (n : Int) (most : Int) : Bool :=
  if w64 (0 - most) ≤ n then decide (n ≤ most)
  else Bool.false
theorem q0B (n most : Int) : QU n most = some (qZ n most) := by
  unfold QU qZ
  simp only [zJ]
theorem q1s : ∀ (n most : Int), ev 85 0 [rI n, rI most] [] = some (rB (qZ n most), []) :=
  fun n most => by
    have h : ev 85 0 [rI n, rI most] [] = (QU n most).bind (fun (e : Bool) => some (rB e, [])) := by
      rw [qQ qhD qkO.2.2.2 qmt]
      have := qlI; have := @QU.eq_1; exact gA
    rw [q0B] at h
    exact h
noncomputable def zX (c : qb) : Option Int :=
  if c.Den < 1 then some 3
  else if 1000 < c.Den then some 3
  else if (!(qZ c.Num 1000)) = Bool.true then some 3
  else if (!(qZ c.Add 1000)) = Bool.true then some 3
  else if c.Round < 1 then some 3
  else if 4 < c.Round then some 3
  else some 0
noncomputable def qu (c : qb) : Int :=
  if c.Den < 1 then 3
  else if 1000 < c.Den then 3
  else if (!(qZ c.Num 1000)) = Bool.true then 3
  else if (!(qZ c.Add 1000)) = Bool.true then 3
  else if c.Round < 1 then 3
  else if 4 < c.Round then 3
  else 0
theorem ZA (c : qb) : zX c = some (qu c) := by
  unfold zX qu
  simp only [zJ]
theorem ZO : ∀ (c_Num c_Add c_Den c_Round : Int), ev 46 0 [R.agg [dI c_Num, dI c_Add, dI c_Den, dI c_Round]] [] = some (rI (qu (qb.mk c_Num c_Add c_Den c_Round)), []) :=
  fun c_Num c_Add c_Den c_Round => by
    have h : ev 46 0 [R.agg [dI c_Num, dI c_Add, dI c_Den, dI c_Round]] [] = (zX (qb.mk c_Num c_Add c_Den c_Round)).bind (fun (e : Int) => some (rI e, [])) := by
      rw [qQ qhd qkw.2.2.2 qmN]
      have := qmD; have := @q1s; have := @zX.eq_1; exact gA
    rw [ZA] at h
    exact h
noncomputable def Qg (x0 : qa) : Option Int :=
  if x0.Id < 1 then some 1
  else if x0.From < 1 then some 1
  else if 8 < x0.From then some 1
  else if x0.To < 1 then some 1
  else if 8 < x0.To then some 1
  else if (!(zB x0.Begin)) = Bool.true then some 23
  else if (x0.End != 0) = Bool.true then if (!(zB x0.End)) = Bool.true then some 23
    else if x0.End < x0.Begin then some 23
    else if ((x0.In.length : Nat) : Int) < 1 then some 2
    else if 3 < ((x0.In.length : Nat) : Int) then some 2
    else if ((x0.Out.length : Nat) : Int) < 1 then some 2
    else if 3 < ((x0.Out.length : Nat) : Int) then some 2
    else Option.bind (qY x0.In) fun (a : Int) =>
    if (a == 0) = Bool.true then Option.bind (zV x0) fun (a2 : List ByteArray) =>
      Option.bind (qY a2) fun (a3 : Int) =>
      if (a3 != 0) = Bool.true then some a3
      else Option.bind (qS (qv x0) 0) fun (a4 : Sum Unit Unit) =>
      Sum.elim (fun (a5 : Unit) => some 3) (fun (a6 : Unit) => Option.bind (qS (qw x0) 0) fun (a7 : Sum Unit Unit) =>
        Sum.elim (fun (a8 : Unit) => some 14) (fun (a9 : Unit) => some (qu x0.Conv)) a7) a4
    else if (a != 0) = Bool.true then some a
    else Option.bind (qS (qv x0) 0) fun (a10 : Sum Unit Unit) =>
    Sum.elim (fun (a11 : Unit) => some 3) (fun (a12 : Unit) => Option.bind (qS (qw x0) 0) fun (a13 : Sum Unit Unit) =>
      Sum.elim (fun (a14 : Unit) => some 14) (fun (a15 : Unit) => some (qu x0.Conv)) a13) a10
  else if ((x0.In.length : Nat) : Int) < 1 then some 2
  else if 3 < ((x0.In.length : Nat) : Int) then some 2
  else if ((x0.Out.length : Nat) : Int) < 1 then some 2
  else if 3 < ((x0.Out.length : Nat) : Int) then some 2
  else Option.bind (qY x0.In) fun (a16 : Int) =>
  if (a16 == 0) = Bool.true then Option.bind (zV x0) fun (a17 : List ByteArray) =>
    Option.bind (qY a17) fun (a18 : Int) =>
    if (a18 != 0) = Bool.true then some a18
    else Option.bind (qS (qv x0) 0) fun (a19 : Sum Unit Unit) =>
    Sum.elim (fun (a20 : Unit) => some 3) (fun (a21 : Unit) => Option.bind (qS (qw x0) 0) fun (a22 : Sum Unit Unit) =>
      Sum.elim (fun (a23 : Unit) => some 14) (fun (a24 : Unit) => some (qu x0.Conv)) a22) a19
  else if (a16 != 0) = Bool.true then some a16
  else Option.bind (qS (qv x0) 0) fun (a25 : Sum Unit Unit) =>
  Sum.elim (fun (a26 : Unit) => some 3) (fun (a27 : Unit) => Option.bind (qS (qw x0) 0) fun (a28 : Sum Unit Unit) =>
    Sum.elim (fun (a29 : Unit) => some 14) (fun (a30 : Unit) => some (qu x0.Conv)) a28) a25
theorem q0v : ∀ (x0_Id x0_From x0_To x0_Begin x0_End : Int) (x0_In : List ByteArray) (x0_Out : List qd) (x0_Conv_Num x0_Conv_Add x0_Conv_Den x0_Conv_Round : Int), ev 11 0 [R.agg [dI x0_Id, dI x0_From, dI x0_To, dI x0_Begin, dI x0_End, dL 1 eS x0_In, dL 2 qc x0_Out, dI x0_Conv_Num, dI x0_Conv_Add, dI x0_Conv_Den, dI x0_Conv_Round]] [] = (Qg (qa.mk x0_Id x0_From x0_To x0_Begin x0_End x0_In x0_Out (qb.mk x0_Conv_Num x0_Conv_Add x0_Conv_Den x0_Conv_Round))).bind (fun (e : Int) => some (rI e, [])) :=
  fun x0_Id x0_From x0_To x0_Begin x0_End x0_In x0_Out x0_Conv_Num x0_Conv_Add x0_Conv_Den x0_Conv_Round => by
    rw [qQ qe3 qkg.2.2.2 qhT]
    have := qjv; have := @q0A; have := @q0r; have := @q1t; have := @ZT; have := @ZW; have := @ZO; have := @Qg.eq_1; exact gA
theorem qmF : okL 12 q5i := qT (qg qhz) (by kernel_rfl) (by kernel_rfl)
def qmK := JA_ @q5i.eq_1 (JA_ @Tryz.f12.eq_1 @qhz)
theorem qkW : okL 47 q5g := qT (qg qhc) (by kernel_rfl) (by kernel_rfl)
def qmm := JA_ @q5g.eq_1 (JA_ @Tryz.f47.eq_1 @qhc)
noncomputable def QD (day : Int) (begin : Int) (end0 : Int) : Option Bool :=
  if begin ≤ day then if (end0 == 0) = Bool.true then some Bool.true
    else some (decide (day < end0))
  else some Bool.false
noncomputable def zW (day : Int) (begin : Int) (end0 : Int) : Bool :=
  if begin ≤ day then if (end0 == 0) = Bool.true then Bool.true
    else decide (day < end0)
  else Bool.false
theorem JQ (day begin end0 : Int) : QD day begin end0 = some (zW day begin end0) := by
  unfold QD zW
  simp only [zJ]
theorem q0s : ∀ (day begin end0 : Int), ev 47 0 [rI day, rI begin, rI end0] [] = some (rB (zW day begin end0), []) :=
  fun day begin end0 => by
    have h : ev 47 0 [rI day, rI begin, rI end0] [] = (QD day begin end0).bind (fun (e : Bool) => some (rB e, [])) := by
      rw [qQ qhc qku.2.2.2 qkW]
      have := qmm; have := @QD.eq_1; exact gA
    rw [JQ] at h
    exact h
noncomputable def QA (a : qa) (day : Int) : Option Bool :=
  some (zW day a.Begin a.End)
noncomputable def zr (a : qa) (day : Int) : Bool :=
  zW day a.Begin a.End
theorem JS (a : qa) (day : Int) : QA a day = some (zr a day) := by
  unfold QA zr
  simp only [zJ]
theorem q0u : ∀ (a_Id a_From a_To a_Begin a_End : Int) (a_In : List ByteArray) (a_Out : List qd) (a_Conv_Num a_Conv_Add a_Conv_Den a_Conv_Round day : Int), ev 12 0 [R.agg [dI a_Id, dI a_From, dI a_To, dI a_Begin, dI a_End, dL 1 eS a_In, dL 2 qc a_Out, dI a_Conv_Num, dI a_Conv_Add, dI a_Conv_Den, dI a_Conv_Round], rI day] [] = some (rB (zr (qa.mk a_Id a_From a_To a_Begin a_End a_In a_Out (qb.mk a_Conv_Num a_Conv_Add a_Conv_Den a_Conv_Round)) day), []) :=
  fun a_Id a_From a_To a_Begin a_End a_In a_Out a_Conv_Num a_Conv_Add a_Conv_Den a_Conv_Round day => by
    have h : ev 12 0 [R.agg [dI a_Id, dI a_From, dI a_To, dI a_Begin, dI a_End, dL 1 eS a_In, dL 2 qc a_Out, dI a_Conv_Num, dI a_Conv_Add, dI a_Conv_Den, dI a_Conv_Round], rI day] [] = (QA (qa.mk a_Id a_From a_To a_Begin a_End a_In a_Out (qb.mk a_Conv_Num a_Conv_Add a_Conv_Den a_Conv_Round)) day).bind (fun (e : Bool) => some (rB e, [])) := by
      rw [qQ qhz qkJ.2.2.2 qmF]
      have := qmK; have := @q0s; have := @QA.eq_1; exact gA
    rw [JS] at h
    exact h
theorem qlQ : okL 13 q4D := qT (qg qhw) (by kernel_rfl) (by kernel_rfl)
def qlC := JA_ @q4D.eq_1 (JA_ @Tryz.f13.eq_1 @qhw)
theorem qnf : okL 48 q4R := qT (qg qhg) (by kernel_rfl) (by kernel_rfl)
def qlT := JA_ @q4R.eq_1 (JA_ @Tryz.f48.eq_1 @qhg)
noncomputable def Qs (day : Int) (begin : Int) (end0 : Int) : Option Bool :=
  if begin ≤ day then if (end0 == 0) = Bool.true then some Bool.true
    else some (decide (day < end0))
  else some Bool.false
noncomputable def zN (day : Int) (begin : Int) (end0 : Int) : Bool :=
  if begin ≤ day then if (end0 == 0) = Bool.true then Bool.true
    else decide (day < end0)
  else Bool.false
theorem Jy (day begin end0 : Int) : Qs day begin end0 = some (zN day begin end0) := by
  unfold Qs zN
  simp only [zJ]
theorem JZ : ∀ (day begin end0 : Int), ev 48 0 [rI day, rI begin, rI end0] [] = some (rB (zN day begin end0), []) :=
  fun day begin end0 => by
    have h : ev 48 0 [rI day, rI begin, rI end0] [] = (Qs day begin end0).bind (fun (e : Bool) => some (rB e, [])) := by
      rw [qQ qhg qkr.2.2.2 qnf]
      have := qlT; have := @Qs.eq_1; exact gA
    rw [Jy] at h
    exact h
noncomputable def QC (a : qa) (day : Int) : Option Bool :=
  some (zN day a.Begin a.End)
noncomputable def zq (a : qa) (day : Int) : Bool :=
  zN day a.Begin a.End
theorem q0i (a : qa) (day : Int) : QC a day = some (zq a day) := by
  unfold QC zq
  simp only [zJ]
theorem q0z : ∀ (a_Id a_From a_To a_Begin a_End : Int) (a_In : List ByteArray) (a_Out : List qd) (a_Conv_Num a_Conv_Add a_Conv_Den a_Conv_Round day : Int), ev 13 0 [R.agg [dI a_Id, dI a_From, dI a_To, dI a_Begin, dI a_End, dL 1 eS a_In, dL 2 qc a_Out, dI a_Conv_Num, dI a_Conv_Add, dI a_Conv_Den, dI a_Conv_Round], rI day] [] = some (rB (zq (qa.mk a_Id a_From a_To a_Begin a_End a_In a_Out (qb.mk a_Conv_Num a_Conv_Add a_Conv_Den a_Conv_Round)) day), []) :=
  fun a_Id a_From a_To a_Begin a_End a_In a_Out a_Conv_Num a_Conv_Add a_Conv_Den a_Conv_Round day => by
    have h : ev 13 0 [R.agg [dI a_Id, dI a_From, dI a_To, dI a_Begin, dI a_End, dL 1 eS a_In, dL 2 qc a_Out, dI a_Conv_Num, dI a_Conv_Add, dI a_Conv_Den, dI a_Conv_Round], rI day] [] = (QC (qa.mk a_Id a_From a_To a_Begin a_End a_In a_Out (qb.mk a_Conv_Num a_Conv_Add a_Conv_Den a_Conv_Round)) day).bind (fun (e : Bool) => some (rB e, [])) := by
      rw [qQ qhw qkj.2.2.2 qlQ]
      have := qlC; have := @JZ; have := @QC.eq_1; exact gA
    rw [q0i] at h
    exact h
noncomputable def qB (w2 : List qa) (w3 : List qa) (b0 : Z3 (Z3 Int)) (b1 : qz) (t7 : Bool) (t21 : Int) (t22 : Int) (t37 : Int) : Int → Option (Int ⊕ (Unit ⊕ Unit))
  | t38 =>
    if t38 < t37 then if 0 ≤ t38 ∧ t38 < ((w3.length : Nat) : Int) then Option.bind w3[Int.toNat t38]? fun (a : qa) =>
        Option.bind (Qd a) fun (a2 : Int) =>
        Option.bind (Qg a) fun (a3 : Int) =>
        if (a2 != a3) = Bool.true then some (Sum.inr (Sum.inl ()))
        else if (!(zr a b1.Day == zq a b1.Day)) = Bool.true then some (Sum.inr (Sum.inl ()))
        else if (!(zr a (w64 (a.End - 1)) == zq a (w64 (a.End - 1)))) = Bool.true then some (Sum.inr (Sum.inl ()))
        else if (!(zr a a.Begin == zq a a.Begin)) = Bool.true then some (Sum.inr (Sum.inl ()))
        else some (Sum.inl (w64 (t38 + 1)))
      else none
    else some (Sum.inr (Sum.inr ()))
theorem QW : ∀ (w2 w3 : List qa) (b0_0_0 b0_0_1 b0_1_0 b0_1_1 b1_Agreement_Id b1_Agreement_From b1_Agreement_To b1_Agreement_Begin b1_Agreement_End : Int) (b1_Agreement_In : List ByteArray) (b1_Agreement_Out : List qd) (b1_Agreement_Conv_Num b1_Agreement_Conv_Add b1_Agreement_Conv_Den b1_Agreement_Conv_Round b1_Day b1_Scale_Worst b1_Scale_Best b1_Scale_Pass : Int) (b1_L : List qP) (t7 : Bool) (t21 t22 t37 t38 : Int) (w2_len w3_len : Nat), w2_len = w2.length → w3_len = w3.length → XL2 evo 3 0 7 ⟨[(4, rP 0), (5, rP 1), (7, rB t7), (20, rO 2 11 w2_len), (21, rI t21), (22, rI t22), (36, rO 3 11 w3_len), (37, rI t37), (38, rI t38)], [(0, B.blk 24 [dI b0_0_0, dI b0_0_1, dI b0_1_0, dI b0_1_1]), (1, B.blk 35 [dI b1_Agreement_Id, dI b1_Agreement_From, dI b1_Agreement_To, dI b1_Agreement_Begin, dI b1_Agreement_End, dL 1 eS b1_Agreement_In, dL 2 qc b1_Agreement_Out, dI b1_Agreement_Conv_Num, dI b1_Agreement_Conv_Add, dI b1_Agreement_Conv_Den, dI b1_Agreement_Conv_Round, dI b1_Day, dI b1_Scale_Worst, dI b1_Scale_Best, dI b1_Scale_Pass, dL 8 qq b1_L]), (2, bR 30 11 qp w2), (3, bR 30 11 qp w3)], 4, 85⟩ = (qS (qB w2 w3 (Z3.mk (Z3.mk b0_0_0 b0_0_1) (Z3.mk b0_1_0 b0_1_1)) (qz.mk (qa.mk b1_Agreement_Id b1_Agreement_From b1_Agreement_To b1_Agreement_Begin b1_Agreement_End b1_Agreement_In b1_Agreement_Out (qb.mk b1_Agreement_Conv_Num b1_Agreement_Conv_Add b1_Agreement_Conv_Den b1_Agreement_Conv_Round)) b1_Day (qM.mk b1_Scale_Worst b1_Scale_Best b1_Scale_Pass) b1_L) t7 t21 t22 t37) t38).bind (Sum.elim (fun (e : Unit) => some (Go.Exit.ret, ⟨[(4, rP 0), (5, rP 1), (6, rB Bool.false), (7, rB t7), (20, rO 2 11 w2.length), (21, rI t21), (22, rI t22)], [(0, B.blk 24 [dI b0_0_0, dI b0_0_1, dI b0_1_0, dI b0_1_1]), (1, B.blk 35 [dI b1_Agreement_Id, dI b1_Agreement_From, dI b1_Agreement_To, dI b1_Agreement_Begin, dI b1_Agreement_End, dL 1 eS b1_Agreement_In, dL 2 qc b1_Agreement_Out, dI b1_Agreement_Conv_Num, dI b1_Agreement_Conv_Add, dI b1_Agreement_Conv_Den, dI b1_Agreement_Conv_Round, dI b1_Day, dI b1_Scale_Worst, dI b1_Scale_Best, dI b1_Scale_Pass, dL 8 qq b1_L]), (2, bR 30 11 qp w2)], 3, 85⟩)) (fun (e : Unit) => some (Go.Exit.exit 2, ⟨[(4, rP 0), (5, rP 1), (6, R.any), (7, rB t7), (20, rO 2 11 w2.length), (21, rI t21), (22, rI t22)], [(0, B.blk 24 [dI b0_0_0, dI b0_0_1, dI b0_1_0, dI b0_1_1]), (1, B.blk 35 [dI b1_Agreement_Id, dI b1_Agreement_From, dI b1_Agreement_To, dI b1_Agreement_Begin, dI b1_Agreement_End, dL 1 eS b1_Agreement_In, dL 2 qc b1_Agreement_Out, dI b1_Agreement_Conv_Num, dI b1_Agreement_Conv_Add, dI b1_Agreement_Conv_Den, dI b1_Agreement_Conv_Round, dI b1_Day, dI b1_Scale_Worst, dI b1_Scale_Best, dI b1_Scale_Pass, dL 8 qq b1_L]), (2, bR 30 11 qp w2)], 3, 85⟩))) :=
  by
  intro w2 w3 b0_0_0 b0_0_1 b0_1_0 b0_1_1 b1_Agreement_Id b1_Agreement_From b1_Agreement_To b1_Agreement_Begin b1_Agreement_End b1_Agreement_In b1_Agreement_Out b1_Agreement_Conv_Num b1_Agreement_Conv_Add b1_Agreement_Conv_Den b1_Agreement_Conv_Round b1_Day b1_Scale_Worst b1_Scale_Best b1_Scale_Pass b1_L t7 t21 t22 t37 t38 w2_len w3_len h0 h1
  subst h0 h1
  revert t38; exact q3F qje qjD (fun e => by rcases e with _ | _ <;> exact ⟨_, rfl, fun h => by cases h⟩) fun x => by
    have := cx3; have := @qbV.eq_1; have := @q0y; have := @q0v; have := @q0u; have := @q0z; have := @qB.eq_1; exact gA
theorem QE : ∀ (w30_Id w30_From w30_To w30_Begin w30_End : Int) (w30_In : List ByteArray) (w30_Out : List qd) (w30_Conv_Num w30_Conv_Add w30_Conv_Den w30_Conv_Round w31_Id w31_From w31_To w31_Begin w31_End : Int) (w31_In : List ByteArray) (w31_Out : List qd) (w31_Conv_Num w31_Conv_Add w31_Conv_Den w31_Conv_Round w32_Id w32_From w32_To w32_Begin w32_End : Int) (w32_In : List ByteArray) (w32_Out : List qd) (w32_Conv_Num w32_Conv_Add w32_Conv_Den w32_Conv_Round : Int) (w2 : List qa) (b0_0_0 b0_0_1 b0_1_0 b0_1_1 b1_Agreement_Id b1_Agreement_From b1_Agreement_To b1_Agreement_Begin b1_Agreement_End : Int) (b1_Agreement_In : List ByteArray) (b1_Agreement_Out : List qd) (b1_Agreement_Conv_Num b1_Agreement_Conv_Add b1_Agreement_Conv_Den b1_Agreement_Conv_Round b1_Day b1_Scale_Worst b1_Scale_Best b1_Scale_Pass : Int) (b1_L : List qP) (t7 : Bool) (t21 t22 t37 t38 : Int) (w2_len : Nat), w2_len = w2.length → XL2 evo 3 0 7 ⟨[(4, rP 0), (5, rP 1), (7, rB t7), (20, rO 2 11 w2_len), (21, rI t21), (22, rI t22), (36, rO 3 11 3), (37, rI t37), (38, rI t38)], [(0, B.blk 24 [dI b0_0_0, dI b0_0_1, dI b0_1_0, dI b0_1_1]), (1, B.blk 35 [dI b1_Agreement_Id, dI b1_Agreement_From, dI b1_Agreement_To, dI b1_Agreement_Begin, dI b1_Agreement_End, dL 1 eS b1_Agreement_In, dL 2 qc b1_Agreement_Out, dI b1_Agreement_Conv_Num, dI b1_Agreement_Conv_Add, dI b1_Agreement_Conv_Den, dI b1_Agreement_Conv_Round, dI b1_Day, dI b1_Scale_Worst, dI b1_Scale_Best, dI b1_Scale_Pass, dL 8 qq b1_L]), (2, bR 30 11 qp w2), (3, B.row 30 11 [dI w30_Id, dI w30_From, dI w30_To, dI w30_Begin, dI w30_End, dL 1 eS w30_In, dL 2 qc w30_Out, dI w30_Conv_Num, dI w30_Conv_Add, dI w30_Conv_Den, dI w30_Conv_Round, dI w31_Id, dI w31_From, dI w31_To, dI w31_Begin, dI w31_End, dL 1 eS w31_In, dL 2 qc w31_Out, dI w31_Conv_Num, dI w31_Conv_Add, dI w31_Conv_Den, dI w31_Conv_Round, dI w32_Id, dI w32_From, dI w32_To, dI w32_Begin, dI w32_End, dL 1 eS w32_In, dL 2 qc w32_Out, dI w32_Conv_Num, dI w32_Conv_Add, dI w32_Conv_Den, dI w32_Conv_Round])], 4, 85⟩ = (qS (qB w2 [(qa.mk w30_Id w30_From w30_To w30_Begin w30_End w30_In w30_Out (qb.mk w30_Conv_Num w30_Conv_Add w30_Conv_Den w30_Conv_Round)), (qa.mk w31_Id w31_From w31_To w31_Begin w31_End w31_In w31_Out (qb.mk w31_Conv_Num w31_Conv_Add w31_Conv_Den w31_Conv_Round)), (qa.mk w32_Id w32_From w32_To w32_Begin w32_End w32_In w32_Out (qb.mk w32_Conv_Num w32_Conv_Add w32_Conv_Den w32_Conv_Round))] (Z3.mk (Z3.mk b0_0_0 b0_0_1) (Z3.mk b0_1_0 b0_1_1)) (qz.mk (qa.mk b1_Agreement_Id b1_Agreement_From b1_Agreement_To b1_Agreement_Begin b1_Agreement_End b1_Agreement_In b1_Agreement_Out (qb.mk b1_Agreement_Conv_Num b1_Agreement_Conv_Add b1_Agreement_Conv_Den b1_Agreement_Conv_Round)) b1_Day (qM.mk b1_Scale_Worst b1_Scale_Best b1_Scale_Pass) b1_L) t7 t21 t22 t37) t38).bind (Sum.elim (fun (e : Unit) => some (Go.Exit.ret, ⟨[(4, rP 0), (5, rP 1), (6, rB Bool.false), (7, rB t7), (20, rO 2 11 w2.length), (21, rI t21), (22, rI t22)], [(0, B.blk 24 [dI b0_0_0, dI b0_0_1, dI b0_1_0, dI b0_1_1]), (1, B.blk 35 [dI b1_Agreement_Id, dI b1_Agreement_From, dI b1_Agreement_To, dI b1_Agreement_Begin, dI b1_Agreement_End, dL 1 eS b1_Agreement_In, dL 2 qc b1_Agreement_Out, dI b1_Agreement_Conv_Num, dI b1_Agreement_Conv_Add, dI b1_Agreement_Conv_Den, dI b1_Agreement_Conv_Round, dI b1_Day, dI b1_Scale_Worst, dI b1_Scale_Best, dI b1_Scale_Pass, dL 8 qq b1_L]), (2, bR 30 11 qp w2)], 3, 85⟩)) (fun (e : Unit) => some (Go.Exit.exit 2, ⟨[(4, rP 0), (5, rP 1), (6, R.any), (7, rB t7), (20, rO 2 11 w2.length), (21, rI t21), (22, rI t22)], [(0, B.blk 24 [dI b0_0_0, dI b0_0_1, dI b0_1_0, dI b0_1_1]), (1, B.blk 35 [dI b1_Agreement_Id, dI b1_Agreement_From, dI b1_Agreement_To, dI b1_Agreement_Begin, dI b1_Agreement_End, dL 1 eS b1_Agreement_In, dL 2 qc b1_Agreement_Out, dI b1_Agreement_Conv_Num, dI b1_Agreement_Conv_Add, dI b1_Agreement_Conv_Den, dI b1_Agreement_Conv_Round, dI b1_Day, dI b1_Scale_Worst, dI b1_Scale_Best, dI b1_Scale_Pass, dL 8 qq b1_L]), (2, bR 30 11 qp w2)], 3, 85⟩))) := by
  intro w30_Id w30_From w30_To w30_Begin w30_End w30_In w30_Out w30_Conv_Num w30_Conv_Add w30_Conv_Den w30_Conv_Round w31_Id w31_From w31_To w31_Begin w31_End w31_In w31_Out w31_Conv_Num w31_Conv_Add w31_Conv_Den w31_Conv_Round w32_Id w32_From w32_To w32_Begin w32_End w32_In w32_Out w32_Conv_Num w32_Conv_Add w32_Conv_Den w32_Conv_Round w2 b0_0_0 b0_0_1 b0_1_0 b0_1_1 b1_Agreement_Id b1_Agreement_From b1_Agreement_To b1_Agreement_Begin b1_Agreement_End b1_Agreement_In b1_Agreement_Out b1_Agreement_Conv_Num b1_Agreement_Conv_Add b1_Agreement_Conv_Den b1_Agreement_Conv_Round b1_Day b1_Scale_Worst b1_Scale_Best b1_Scale_Pass b1_L t7 t21 t22 t37 t38 w2_len h0; subst h0; have h := QW w2 [(qa.mk w30_Id w30_From w30_To w30_Begin w30_End w30_In w30_Out (qb.mk w30_Conv_Num w30_Conv_Add w30_Conv_Den w30_Conv_Round)), (qa.mk w31_Id w31_From w31_To w31_Begin w31_End w31_In w31_Out (qb.mk w31_Conv_Num w31_Conv_Add w31_Conv_Den w31_Conv_Round)), (qa.mk w32_Id w32_From w32_To w32_Begin w32_End w32_In w32_Out (qb.mk w32_Conv_Num w32_Conv_Add w32_Conv_Den w32_Conv_Round))] ((Z3.mk (Z3.mk b0_0_0 b0_0_1) (Z3.mk b0_1_0 b0_1_1))).a0.a0 ((Z3.mk (Z3.mk b0_0_0 b0_0_1) (Z3.mk b0_1_0 b0_1_1))).a0.a1 ((Z3.mk (Z3.mk b0_0_0 b0_0_1) (Z3.mk b0_1_0 b0_1_1))).a1.a0 ((Z3.mk (Z3.mk b0_0_0 b0_0_1) (Z3.mk b0_1_0 b0_1_1))).a1.a1 ((qz.mk (qa.mk b1_Agreement_Id b1_Agreement_From b1_Agreement_To b1_Agreement_Begin b1_Agreement_End b1_Agreement_In b1_Agreement_Out (qb.mk b1_Agreement_Conv_Num b1_Agreement_Conv_Add b1_Agreement_Conv_Den b1_Agreement_Conv_Round)) b1_Day (qM.mk b1_Scale_Worst b1_Scale_Best b1_Scale_Pass) b1_L)).Agreement.Id ((qz.mk (qa.mk b1_Agreement_Id b1_Agreement_From b1_Agreement_To b1_Agreement_Begin b1_Agreement_End b1_Agreement_In b1_Agreement_Out (qb.mk b1_Agreement_Conv_Num b1_Agreement_Conv_Add b1_Agreement_Conv_Den b1_Agreement_Conv_Round)) b1_Day (qM.mk b1_Scale_Worst b1_Scale_Best b1_Scale_Pass) b1_L)).Agreement.From ((qz.mk (qa.mk b1_Agreement_Id b1_Agreement_From b1_Agreement_To b1_Agreement_Begin b1_Agreement_End b1_Agreement_In b1_Agreement_Out (qb.mk b1_Agreement_Conv_Num b1_Agreement_Conv_Add b1_Agreement_Conv_Den b1_Agreement_Conv_Round)) b1_Day (qM.mk b1_Scale_Worst b1_Scale_Best b1_Scale_Pass) b1_L)).Agreement.To ((qz.mk (qa.mk b1_Agreement_Id b1_Agreement_From b1_Agreement_To b1_Agreement_Begin b1_Agreement_End b1_Agreement_In b1_Agreement_Out (qb.mk b1_Agreement_Conv_Num b1_Agreement_Conv_Add b1_Agreement_Conv_Den b1_Agreement_Conv_Round)) b1_Day (qM.mk b1_Scale_Worst b1_Scale_Best b1_Scale_Pass) b1_L)).Agreement.Begin ((qz.mk (qa.mk b1_Agreement_Id b1_Agreement_From b1_Agreement_To b1_Agreement_Begin b1_Agreement_End b1_Agreement_In b1_Agreement_Out (qb.mk b1_Agreement_Conv_Num b1_Agreement_Conv_Add b1_Agreement_Conv_Den b1_Agreement_Conv_Round)) b1_Day (qM.mk b1_Scale_Worst b1_Scale_Best b1_Scale_Pass) b1_L)).Agreement.End ((qz.mk (qa.mk b1_Agreement_Id b1_Agreement_From b1_Agreement_To b1_Agreement_Begin b1_Agreement_End b1_Agreement_In b1_Agreement_Out (qb.mk b1_Agreement_Conv_Num b1_Agreement_Conv_Add b1_Agreement_Conv_Den b1_Agreement_Conv_Round)) b1_Day (qM.mk b1_Scale_Worst b1_Scale_Best b1_Scale_Pass) b1_L)).Agreement.In ((qz.mk (qa.mk b1_Agreement_Id b1_Agreement_From b1_Agreement_To b1_Agreement_Begin b1_Agreement_End b1_Agreement_In b1_Agreement_Out (qb.mk b1_Agreement_Conv_Num b1_Agreement_Conv_Add b1_Agreement_Conv_Den b1_Agreement_Conv_Round)) b1_Day (qM.mk b1_Scale_Worst b1_Scale_Best b1_Scale_Pass) b1_L)).Agreement.Out ((qz.mk (qa.mk b1_Agreement_Id b1_Agreement_From b1_Agreement_To b1_Agreement_Begin b1_Agreement_End b1_Agreement_In b1_Agreement_Out (qb.mk b1_Agreement_Conv_Num b1_Agreement_Conv_Add b1_Agreement_Conv_Den b1_Agreement_Conv_Round)) b1_Day (qM.mk b1_Scale_Worst b1_Scale_Best b1_Scale_Pass) b1_L)).Agreement.Conv.Num ((qz.mk (qa.mk b1_Agreement_Id b1_Agreement_From b1_Agreement_To b1_Agreement_Begin b1_Agreement_End b1_Agreement_In b1_Agreement_Out (qb.mk b1_Agreement_Conv_Num b1_Agreement_Conv_Add b1_Agreement_Conv_Den b1_Agreement_Conv_Round)) b1_Day (qM.mk b1_Scale_Worst b1_Scale_Best b1_Scale_Pass) b1_L)).Agreement.Conv.Add ((qz.mk (qa.mk b1_Agreement_Id b1_Agreement_From b1_Agreement_To b1_Agreement_Begin b1_Agreement_End b1_Agreement_In b1_Agreement_Out (qb.mk b1_Agreement_Conv_Num b1_Agreement_Conv_Add b1_Agreement_Conv_Den b1_Agreement_Conv_Round)) b1_Day (qM.mk b1_Scale_Worst b1_Scale_Best b1_Scale_Pass) b1_L)).Agreement.Conv.Den ((qz.mk (qa.mk b1_Agreement_Id b1_Agreement_From b1_Agreement_To b1_Agreement_Begin b1_Agreement_End b1_Agreement_In b1_Agreement_Out (qb.mk b1_Agreement_Conv_Num b1_Agreement_Conv_Add b1_Agreement_Conv_Den b1_Agreement_Conv_Round)) b1_Day (qM.mk b1_Scale_Worst b1_Scale_Best b1_Scale_Pass) b1_L)).Agreement.Conv.Round ((qz.mk (qa.mk b1_Agreement_Id b1_Agreement_From b1_Agreement_To b1_Agreement_Begin b1_Agreement_End b1_Agreement_In b1_Agreement_Out (qb.mk b1_Agreement_Conv_Num b1_Agreement_Conv_Add b1_Agreement_Conv_Den b1_Agreement_Conv_Round)) b1_Day (qM.mk b1_Scale_Worst b1_Scale_Best b1_Scale_Pass) b1_L)).Day ((qz.mk (qa.mk b1_Agreement_Id b1_Agreement_From b1_Agreement_To b1_Agreement_Begin b1_Agreement_End b1_Agreement_In b1_Agreement_Out (qb.mk b1_Agreement_Conv_Num b1_Agreement_Conv_Add b1_Agreement_Conv_Den b1_Agreement_Conv_Round)) b1_Day (qM.mk b1_Scale_Worst b1_Scale_Best b1_Scale_Pass) b1_L)).Scale.Worst ((qz.mk (qa.mk b1_Agreement_Id b1_Agreement_From b1_Agreement_To b1_Agreement_Begin b1_Agreement_End b1_Agreement_In b1_Agreement_Out (qb.mk b1_Agreement_Conv_Num b1_Agreement_Conv_Add b1_Agreement_Conv_Den b1_Agreement_Conv_Round)) b1_Day (qM.mk b1_Scale_Worst b1_Scale_Best b1_Scale_Pass) b1_L)).Scale.Best ((qz.mk (qa.mk b1_Agreement_Id b1_Agreement_From b1_Agreement_To b1_Agreement_Begin b1_Agreement_End b1_Agreement_In b1_Agreement_Out (qb.mk b1_Agreement_Conv_Num b1_Agreement_Conv_Add b1_Agreement_Conv_Den b1_Agreement_Conv_Round)) b1_Day (qM.mk b1_Scale_Worst b1_Scale_Best b1_Scale_Pass) b1_L)).Scale.Pass ((qz.mk (qa.mk b1_Agreement_Id b1_Agreement_From b1_Agreement_To b1_Agreement_Begin b1_Agreement_End b1_Agreement_In b1_Agreement_Out (qb.mk b1_Agreement_Conv_Num b1_Agreement_Conv_Add b1_Agreement_Conv_Den b1_Agreement_Conv_Round)) b1_Day (qM.mk b1_Scale_Worst b1_Scale_Best b1_Scale_Pass) b1_L)).L t7 t21 t22 t37 t38 _ _ rfl rfl
  first
    | exact h
    | (simp only [rL, dL, bR, bZ, Nat.reduceAdd] at h; exact h)
noncomputable def qJ (w2 : List qa) (b0 : Z3 (Z3 Int)) (b1 : qz) (t7 : Bool) (t21 : Int) : Int → Option (Int ⊕ (Unit ⊕ Unit))
  | t22 =>
    if t22 < t21 then if 0 ≤ t22 ∧ t22 < ((w2.length : Nat) : Int) then Option.bind w2[Int.toNat t22]? fun (a : qa) =>
        Option.bind (Ql a b0.a0) fun (a2 : qa) =>
        Option.bind (Ql a2 b0.a1) fun (a3 : qa) =>
        Option.bind (qS (qB w2 [a, a2, a3] b0 b1 t7 t21 t22 3) 0) fun (a4 : Sum Unit Unit) =>
        Sum.elim (fun (a5 : Unit) => some (Sum.inr (Sum.inl ()))) (fun (a6 : Unit) => some (Sum.inl (w64 (t22 + 1)))) a4
      else none
    else some (Sum.inr (Sum.inr ()))
theorem QZ : ∀ (w2 : List qa) (b0_0_0 b0_0_1 b0_1_0 b0_1_1 b1_Agreement_Id b1_Agreement_From b1_Agreement_To b1_Agreement_Begin b1_Agreement_End : Int) (b1_Agreement_In : List ByteArray) (b1_Agreement_Out : List qd) (b1_Agreement_Conv_Num b1_Agreement_Conv_Add b1_Agreement_Conv_Den b1_Agreement_Conv_Round b1_Day b1_Scale_Worst b1_Scale_Best b1_Scale_Pass : Int) (b1_L : List qP) (t7 : Bool) (t21 t22 : Int) (w2_len : Nat), w2_len = w2.length → XL2 evo 3 0 3 ⟨[(4, rP 0), (5, rP 1), (7, rB t7), (20, rO 2 11 w2_len), (21, rI t21), (22, rI t22)], [(0, B.blk 24 [dI b0_0_0, dI b0_0_1, dI b0_1_0, dI b0_1_1]), (1, B.blk 35 [dI b1_Agreement_Id, dI b1_Agreement_From, dI b1_Agreement_To, dI b1_Agreement_Begin, dI b1_Agreement_End, dL 1 eS b1_Agreement_In, dL 2 qc b1_Agreement_Out, dI b1_Agreement_Conv_Num, dI b1_Agreement_Conv_Add, dI b1_Agreement_Conv_Den, dI b1_Agreement_Conv_Round, dI b1_Day, dI b1_Scale_Worst, dI b1_Scale_Best, dI b1_Scale_Pass, dL 8 qq b1_L]), (2, bR 30 11 qp w2)], 3, 85⟩ = (qS (qJ w2 (Z3.mk (Z3.mk b0_0_0 b0_0_1) (Z3.mk b0_1_0 b0_1_1)) (qz.mk (qa.mk b1_Agreement_Id b1_Agreement_From b1_Agreement_To b1_Agreement_Begin b1_Agreement_End b1_Agreement_In b1_Agreement_Out (qb.mk b1_Agreement_Conv_Num b1_Agreement_Conv_Add b1_Agreement_Conv_Den b1_Agreement_Conv_Round)) b1_Day (qM.mk b1_Scale_Worst b1_Scale_Best b1_Scale_Pass) b1_L) t7 t21) t22).bind (Sum.elim (fun (e : Unit) => some (Go.Exit.ret, ⟨[(6, rB Bool.false), (7, rB t7)], [], 0, 85⟩)) (fun (e : Unit) => some (Go.Exit.exit 0, ⟨[(6, R.any), (7, rB t7)], [], 0, 85⟩))) :=
  by
  intro w2 b0_0_0 b0_0_1 b0_1_0 b0_1_1 b1_Agreement_Id b1_Agreement_From b1_Agreement_To b1_Agreement_Begin b1_Agreement_End b1_Agreement_In b1_Agreement_Out b1_Agreement_Conv_Num b1_Agreement_Conv_Add b1_Agreement_Conv_Den b1_Agreement_Conv_Round b1_Day b1_Scale_Worst b1_Scale_Best b1_Scale_Pass b1_L t7 t21 t22 w2_len h0
  subst h0
  revert t22; exact q3F qji qhN (fun e => by rcases e with _ | _ <;> exact ⟨_, rfl, fun h => by cases h⟩) fun x => by
    have := cx3; have := @qc8.eq_1; have := @q1L; have := @QE; have := @qJ.eq_1; exact gA
noncomputable def zn (x0 : List (List Int)) (x1 : Z3 (Z3 Int)) (x2 : qz) : Option Bool :=
  Option.bind (Qw x0) fun (a : List qa) =>
  Option.bind (QN x2.Agreement) fun (a2 : qa) =>
  if a.length + 1 ≤ Go.maxLen ∧ (a.length + 1) * 120 ≤ 140737488355328 then Option.bind (qS (qJ (a ++ [a2]) x1 x2 Bool.true ((a.length + 1 : Nat) : Int)) 0) fun (a3 : Sum Unit Unit) =>
    Sum.elim (fun (a4 : Unit) => some Bool.false) (fun (a5 : Unit) => some Bool.true) a3
  else none
theorem Zk : ∀ (x0 : List (List Int)) (x1_0_0 x1_0_1 x1_1_0 x1_1_1 x2_Agreement_Id x2_Agreement_From x2_Agreement_To x2_Agreement_Begin x2_Agreement_End : Int) (x2_Agreement_In : List ByteArray) (x2_Agreement_Out : List qd) (x2_Agreement_Conv_Num x2_Agreement_Conv_Add x2_Agreement_Conv_Den x2_Agreement_Conv_Round x2_Day x2_Scale_Worst x2_Scale_Best x2_Scale_Pass : Int) (x2_L : List qP), ev 3 0 [rL 1 (eL 1 eI) x0, R.agg [dI x1_0_0, dI x1_0_1, dI x1_1_0, dI x1_1_1], R.agg [dI x2_Agreement_Id, dI x2_Agreement_From, dI x2_Agreement_To, dI x2_Agreement_Begin, dI x2_Agreement_End, dL 1 eS x2_Agreement_In, dL 2 qc x2_Agreement_Out, dI x2_Agreement_Conv_Num, dI x2_Agreement_Conv_Add, dI x2_Agreement_Conv_Den, dI x2_Agreement_Conv_Round, dI x2_Day, dI x2_Scale_Worst, dI x2_Scale_Best, dI x2_Scale_Pass, dL 8 qq x2_L]] [] = (zn x0 (Z3.mk (Z3.mk x1_0_0 x1_0_1) (Z3.mk x1_1_0 x1_1_1)) (qz.mk (qa.mk x2_Agreement_Id x2_Agreement_From x2_Agreement_To x2_Agreement_Begin x2_Agreement_End x2_Agreement_In x2_Agreement_Out (qb.mk x2_Agreement_Conv_Num x2_Agreement_Conv_Add x2_Agreement_Conv_Den x2_Agreement_Conv_Round)) x2_Day (qM.mk x2_Scale_Worst x2_Scale_Best x2_Scale_Pass) x2_L)).bind (fun (e : Bool) => some (rB e, [])) :=
  fun x0 x1_0_0 x1_0_1 x1_1_0 x1_1_1 x2_Agreement_Id x2_Agreement_From x2_Agreement_To x2_Agreement_Begin x2_Agreement_End x2_Agreement_In x2_Agreement_Out x2_Agreement_Conv_Num x2_Agreement_Conv_Add x2_Agreement_Conv_Den x2_Agreement_Conv_Round x2_Day x2_Scale_Worst x2_Scale_Best x2_Scale_Pass x2_L => by
    rw [qQ bd3 pw3.2.2.2 lo3]
    have := cx3; have := @q0f; have := @q1h; have := @q1T; have := @QZ; have := @zn.eq_1; exact gA
end Go.Proofs.YtplfjlcnffcenaaGreat.Vc

namespace Go.Proofs.YtplfjlcnffcenaaGreat.Vc
open Go.RowKit
set_option linter.unusedVariables false
set_option linter.unusedSimpArgs false
section
variable {τ ε : Type} {step : τ → Option (τ ⊕ ε)}
theorem zy {x y : τ} (h : step x = some (.inl y)) : qS step x = qS step y := by
  rw [q8c, h]; rfl
theorem qV {x : τ} {e : ε} (h : step x = some (.inr e)) : qS step x = some e := by
  rw [q8c, h]; rfl
theorem q4Q {e : ε} (st : Nat → τ) (i0 n : Nat) (h0 : i0 ≤ n) (h : ∀ i, i0 ≤ i → i < n → step (st i) = some (.inl (st (i + 1)))) (hn : step (st n) = some (.inr e)) : qS step (st i0) = some e := by
  have key : ∀ j i, j + i = n → i0 ≤ i → qS step (st i) = some e := by
    intro j
    induction j with
    | zero => intro i hi _; rw [Nat.zero_add] at hi; subst hi; exact qV hn
    | succ j ih => intro i hi h1; rw [zy (h i h1 (by omega))]; exact ih (i + 1) (by omega) (by omega)
  exact key (n - i0) i0 (by omega) (Nat.le_refl _)
def q5J {α β ε : Type} (g : β → α → β ⊕ ε) (fin : β → ε) : List α → β → ε
  | [], b => fin b
  | a :: l, b => match g b a with
    | .inl b' => q5J g fin l b'
    | .inr e => e
theorem q5D {α β : Type} (l : List α) (st : β → Nat → τ) (g : β → α → β ⊕ ε) (fin : β → ε)
    (h : ∀ b i a, l[i]? = some a → step (st b i) = some (match g b a with | .inl b' => .inl (st b' (i + 1)) | .inr e => .inr e)) (hn : ∀ b, step (st b l.length) = some (.inr (fin b))) (b : β) : qS step (st b 0) = some (q5J g fin l b) := by
  have key : ∀ (r : List α) (i : Nat) (b : β), r.length + i = l.length → (∀ j, r[j]? = l[i + j]?) → qS step (st b i) = some (q5J g fin r b) := by
    intro r
    induction r with
    | nil =>
      intro i b hi _
      have hi : i = l.length := by simpa using hi
      subst hi; exact qV (hn b)
    | cons a r ih =>
      intro i b hi hr
      have ha : l[i]? = some a := by have := hr 0; simpa using this.symm
      have h1 := h b i a ha
      unfold q5J
      cases hg : g b a with
      | inl b' =>
        rw [hg] at h1
        rw [zy h1]
        refine ih (i + 1) b' (by simp at hi; omega) fun j => ?_
        have := hr (j + 1)
        rw [show i + 1 + j = i + (j + 1) by omega, ← this]; rfl
      | inr e =>
        rw [hg] at h1
        exact qV h1
  exact key l 0 b (by simp) (by simp)
theorem q8i {α : Type} (l : List α) (st : Nat → τ) (p : α → Option ε) (d : ε)
    (h : ∀ i a, l[i]? = some a → step (st i) = some (match p a with | some e => .inr e | none => .inl (st (i + 1)))) (hn : step (st l.length) = some (.inr d)) : qS step (st 0) = some ((l.findSome? p).getD d) := by
  have h1 := q5D (ε := ε) (β := Unit) l (fun _ i => st i) (fun _ a => match p a with | some e => .inr e | none => .inl ()) (fun _ => d) (fun b i a ha => by
    rw [h i a ha]; cases p a <;> rfl) (fun _ => hn) ()
  rw [h1]
  congr 1
  have : ∀ l : List α, q5J (ε := ε) (fun (_ : Unit) a => match p a with | some e => .inr e | none => .inl ()) (fun _ => d) l () = (l.findSome? p).getD d := by
    intro l
    induction l with
    | nil => rfl
    | cons a l ih =>
      unfold q5J
      rw [List.findSome?_cons]
      cases p a with
      | none => simpa using ih
      | some e => rfl
  exact this l
def q2Z {α β ε : Type} (g : Nat → β → α → β ⊕ ε) (fin : β → ε) : List α → Nat → β → ε
  | [], _, b => fin b
  | a :: l, i, b => match g i b a with
    | .inl b' => q2Z g fin l (i + 1) b'
    | .inr e => e
theorem q2l {α β : Type} (l : List α) (st : β → Nat → τ) (g : Nat → β → α → β ⊕ ε) (fin : β → ε)
    (h : ∀ b i a, l[i]? = some a → step (st b i) = some (match g i b a with | .inl b' => .inl (st b' (i + 1)) | .inr e => .inr e)) (hn : ∀ b, step (st b l.length) = some (.inr (fin b))) (b : β) : qS step (st b 0) = some (q2Z g fin l 0 b) := by
  have key : ∀ (r : List α) (i : Nat) (b : β), r.length + i = l.length → (∀ j, r[j]? = l[i + j]?) → qS step (st b i) = some (q2Z g fin r i b) := by
    intro r
    induction r with
    | nil =>
      intro i b hi _
      have hi : i = l.length := by simpa using hi
      subst hi; exact qV (hn b)
    | cons a r ih =>
      intro i b hi hr
      have ha : l[i]? = some a := by have := hr 0; simpa using this.symm
      have h1 := h b i a ha
      unfold q2Z
      cases hg : g i b a with
      | inl b' =>
        rw [hg] at h1
        rw [zy h1]
        refine ih (i + 1) b' (by simp at hi; omega) fun j => ?_
        have := hr (j + 1)
        rw [show i + 1 + j = i + (j + 1) by omega, ← this]; rfl
      | inr e =>
        rw [hg] at h1
        exact qV h1
  exact key l 0 b (by simp) (by simp)
end
theorem Jo {α : Type} {l : List α} {i : Nat} {a : α} (h : l[i]? = some a) : i < l.length := (List.getElem?_eq_some_iff.1 h).1
theorem Qz {n : Int} (h0 : -9223372036854775808 ≤ n) (h1 : n ≤ 9223372036854775807) : w64 n = n := wi n h0 h1
theorem zu {i n : Nat} (h : i < n) (hn : n ≤ 9223372036854775807) : w64 ((i : Int) + 1) = ((i + 1 : Nat) : Int) := by
  rw [Qz (by omega) (by omega)]; omega
end Go.Proofs.YtplfjlcnffcenaaGreat.Vc
namespace Go.Proofs.YtplfjlcnffcenaaGreat.Vc
open Go.RowKit
set_option linter.unusedVariables false
set_option linter.unusedSimpArgs false
structure J1 (d : qe) : Prop where
  lo : 0 ≤ d.At
  hi : d.At ≤ (d.L.length : Int)
  len : d.L.length ≤ 9223372036854775807
theorem q7r (x m : Int) (h0 : 0 < m) (h1 : m ≤ 1000000) : ∃ v, Q7 x m = some v ∧ 0 ≤ v ∧ v < m := by
  have e1 := Int.tmod_lt_of_pos x h0
  have e2 : -m < Int.tmod x m := by
    have := Int.tmod_lt_of_pos (-x) h0
    rw [Int.neg_tmod] at this; omega
  have e3 : w64 (Int.tmod x m + m) = Int.tmod x m + m := Qz (by omega) (by omega)
  refine ⟨Int.tmod (Int.tmod x m + m) m, ?_, Int.tmod_nonneg _ (by omega), Int.tmod_lt_of_pos _ h0⟩
  unfold Q7
  repeat rw [if_neg (by omega)]
  rw [e3]
theorem Z0 {d : qe} (h : J1 d) {most : Int} (h0 : 0 < most) (h1 : most ≤ 1000000) : ∃ v d', qj most d = some (v, d') ∧ 0 ≤ v ∧ v < most ∧ J1 d' := by
  obtain ⟨a, b, c⟩ := h
  unfold qj
  by_cases he : (d.L.length : Int) ≤ d.At
  · exact ⟨0, d, if_pos he, Int.le_refl _, h0, ⟨a, b, c⟩⟩
  · obtain ⟨x, hx⟩ : ∃ x, d.L[Int.toNat d.At]? = some x := ⟨_, List.getElem?_eq_getElem (by omega)⟩
    obtain ⟨v, e1, e2, e3⟩ := q7r x most h0 h1
    have e6 : w64 (d.At + 1) = d.At + 1 := Qz (by omega) (by omega)
    have e7 : w64 (d.At + 1 - 1) = d.At := by rw [Qz (by omega) (by omega)]; omega
    refine ⟨v, ⟨d.L, d.At + 1⟩, ?_, e2, e3, ⟨by show 0 ≤ d.At + 1; omega, by show d.At + 1 ≤ d.L.length; omega, c⟩⟩
    rw [if_neg he, e6, e7, if_pos ⟨a, by omega⟩, hx, Option.bind_some, e1, Option.bind_some]
noncomputable def cod (i : Nat) : ByteArray := qi.getD i (ByteArray.mk (List.toArray [90, 57]))
noncomputable def sd (l : List Nat) : List ByteArray := l.map cod
structure Ix (l : List Nat) : Prop where
  lt : ∀ i ∈ l, i < 7
  up : l.Pairwise (· < ·)
  len : l.length ≤ 3
theorem Ix.filter {l : List Nat} (h : Ix l) (p : Nat → Bool) : Ix (l.filter p) := ⟨fun i hi => h.lt i ((List.mem_filter.1 hi).1), h.up.filter p, Nat.le_trans (List.length_filter_le p l) h.len⟩
def fk (l : List Nat) (k : Nat) : Nat := if l.contains k then (if l.contains ((k + 1) % 6) then (k + 2) % 6 else (k + 1) % 6) else k
def qbN (k : Nat) : List Nat → List Nat
  | [] => [k]
  | x :: l => if x < k then x :: qbN k l else k :: x :: l
def six : List (List Nat) := [0, 1, 2, 3, 4, 5].flatMap fun i => [i] :: ([0, 1, 2, 3, 4, 5].filter fun j => decide (i < j)).map fun j => [i, j]
def q3I (n : Nat) (l : List Nat) : Bool := l.all (fun i => decide (i < 6)) && (match l with | [] => true | [_] => true | [a, b] => decide (a < b) | [a, b, c] => decide (a < b) && decide (b < c) | _ => false) && l.length == n
theorem q5S : ([] :: six).all (fun l => [0, 1, 2, 3, 4, 5].all fun k => q3I (l.length + 1) (qbN (fk l k) l) && decide (fk l k < 6)) = true := by decide
theorem lt6 {a : Nat} (h : a < 6) : a ∈ [0, 1, 2, 3, 4, 5] := by
  have : a = 0 ∨ a = 1 ∨ a = 2 ∨ a = 3 ∨ a = 4 ∨ a = 5 := by omega
  rcases this with rfl | rfl | rfl | rfl | rfl | rfl <;> decide
theorem q6i {l : List Nat} {n : Nat} (h : q3I n l = true) (hn : n ≤ 2) : l ∈ [] :: six := by
  unfold q3I at h
  simp only [Bool.and_eq_true, beq_iff_eq, List.all_eq_true, decide_eq_true_eq] at h
  obtain ⟨⟨h1, h2⟩, h3⟩ := h
  match l with
  | [] => exact List.mem_cons_self
  | [a] =>
    refine List.mem_cons_of_mem _ (List.mem_flatMap.2 ⟨a, lt6 (h1 a (by simp)), List.mem_cons_self⟩)
  | [a, b] =>
    have hab : a < b := by simpa using h2
    refine List.mem_cons_of_mem _ (List.mem_flatMap.2 ⟨a, lt6 (h1 a (by simp)), List.mem_cons_of_mem _ (List.mem_map.2 ⟨b, List.mem_filter.2 ⟨lt6 (h1 b (by simp)), by simpa using hab⟩, rfl⟩)⟩)
  | a :: b :: c :: l => simp only [List.length_cons] at h3; omega
theorem q0I {n : Nat} {l : List Nat} (h : q3I n l = true) : l.length = n := by
  unfold q3I at h
  simp only [Bool.and_eq_true, beq_iff_eq] at h
  exact h.2
theorem qdR {n : Nat} {l : List Nat} (h : q3I n l = true) (hn : n ≤ 3) : Ix l := by
  have hl := q0I h
  unfold q3I at h
  simp only [Bool.and_eq_true, beq_iff_eq, List.all_eq_true, decide_eq_true_eq] at h
  obtain ⟨⟨h1, h2⟩, h3⟩ := h
  refine ⟨fun i hi => by have := h1 i hi; omega, ?_, by omega⟩
  match l with
  | [] => exact .nil
  | [a] => simp
  | [a, b] => have : a < b := by simpa using h2
              simp [this]
  | [a, b, c] =>
    have h4 : a < b ∧ b < c := by simpa using h2
    obtain ⟨h4, h5⟩ := h4
    simp [h4, h5, Nat.lt_trans h4 h5]
  | a :: b :: c :: d :: l => simp only [List.length_cons] at h3; omega
theorem qc6 {n : Nat} {l : List Nat} (h : q3I n l = true) : ∀ i ∈ l, i < 6 := by
  unfold q3I at h
  simp only [Bool.and_eq_true, beq_iff_eq, List.all_eq_true, decide_eq_true_eq] at h
  exact h.1.1
theorem qa2 (d : qe) (many : Int) : ([] :: six).all (fun l => [0, 1, 2, 3, 4, 5].all fun k => decide (itT (Qj 20 d (sd l) many) 20 ((k : Nat) : Int) = some ((fk l k : Nat) : Int)) && decide (Zc 20 (sd l) (cod (fk l k)) = some (sd (qbN (fk l k) l)))) = true := by kernel_rfl
theorem q8b (d : qe) (many : Int) : ([0, 1, 2, 3, 4, 5].all fun k => decide (itT (QL 20 d many) 20 ((k : Nat) : Int) = some ((k : Nat) : Int)) && decide (Zc 20 [] (cod k) = some (sd [k]))) = true := by kernel_rfl
theorem q3Y {k : Nat} (h : k < 6) : (0 : Int) ≤ ((k : Nat) : Int) ∧ ((k : Nat) : Int) < ((qi.length : Nat) : Int) ∧ qi[Int.toNat ((k : Nat) : Int)]? = some (cod k) := by
  have e : qi.length = 6 := rfl
  refine ⟨by omega, by omega, ?_⟩
  rw [Int.toNat_natCast, cod, List.getD_eq_getElem?_getD, List.getElem?_eq_getElem (by omega)]
  rfl
theorem q7K {l : List Nat} {n : Nat} (h : q3I n l = true) (hn : n ≤ 2) {k : Nat} (hk : k < 6) (d : qe) (many : Int) : qS (zl d (sd l) many) ((k : Nat) : Int) = some ((fk l k : Nat) : Int) ∧ fk l k < 6 ∧ zH (sd l) (cod (fk l k)) = some (sd (qbN (fk l k) l)) ∧ q3I (n + 1) (qbN (fk l k) l) = true := by
  have h1 := List.all_eq_true.1 (List.all_eq_true.1 (qa2 d many) l (q6i h hn)) k (lt6 hk)
  have h2 := List.all_eq_true.1 (List.all_eq_true.1 q5S l (q6i h hn)) k (lt6 hk)
  rw [Bool.and_eq_true, decide_eq_true_eq, decide_eq_true_eq] at h1
  rw [Bool.and_eq_true, decide_eq_true_eq, q0I h] at h2
  exact ⟨Qi.lim (ZU 20 d (sd l) many) _ h1.1, h2.2, ZY 20 _ _ _ h1.2, h2.1⟩
theorem qfg {many : Int} (hm : many ≤ 3) : ∀ (j : Nat) (l : List Nat) (d : qe), q3I l.length l = true → ((l.length + j : Nat) : Int) = many → J1 d → ∃ l' d', qS (qX many) (d, sd l) = some (d', sd l') ∧ q3I many.toNat l' = true ∧ J1 d'
  | 0, l, d, h, hj, hd => by
    refine ⟨l, d, qV ?_, by rw [← hj]; exact h, hd⟩
    unfold qX
    dsimp only
    rw [if_neg (by unfold sd; rw [List.length_map]; omega)]
  | j + 1, l, d, h, hj, hd => by
    obtain ⟨v, d1, e1, v0, v1, hd1⟩ := Z0 hd (most := 6) (by decide) (by decide)
    obtain ⟨k, rfl⟩ : ∃ k : Nat, v = k := ⟨v.toNat, by omega⟩
    obtain ⟨s1, s2, s3, s4⟩ := q7K h (by omega) (show k < 6 by omega) d1 many
    obtain ⟨c1, c2, c3⟩ := q3Y s2
    have hl := q0I s4
    obtain ⟨l', d', r1, r2, r3⟩ := qfg hm j (qbN (fk l k) l) d1 (by rw [hl]; exact s4) (by rw [hl]; omega) hd1
    refine ⟨l', d', ?_, r2, r3⟩
    rw [zy (y := (d1, sd (qbN (fk l k) l))) ?_, r1]
    unfold qX
    dsimp only
    rw [if_pos (by unfold sd; rw [List.length_map]; omega), e1, Option.bind_some]
    simp only
    rw [s1, Option.bind_some, if_pos ⟨c1, c2⟩, c3, Option.bind_some, s3, Option.bind_some]
theorem q8v {d : qe} (hd : J1 d) : ∃ l d', zE d = some (sd l, d') ∧ Ix l ∧ 1 ≤ l.length ∧ (∀ i ∈ l, i < 6) ∧ J1 d' := by
  obtain ⟨v, d1, e1, v0, v1, hd1⟩ := Z0 hd (most := 6) (by decide) (by decide)
  obtain ⟨m, hm, hm1, hm3⟩ : ∃ m : Int, [(1 : Int), (1 : Int), (1 : Int), (2 : Int), (2 : Int), (3 : Int)][Int.toNat v]? = some m ∧ 1 ≤ m ∧ m ≤ 3 := by
    have : v = 0 ∨ v = 1 ∨ v = 2 ∨ v = 3 ∨ v = 4 ∨ v = 5 := by omega
    rcases this with rfl | rfl | rfl | rfl | rfl | rfl <;> exact ⟨_, rfl, by decide, by decide⟩
  obtain ⟨w, d2, e2, w0, w1, hd2⟩ := Z0 hd1 (most := 6) (by decide) (by decide)
  obtain ⟨k, rfl⟩ : ∃ k : Nat, w = k := ⟨w.toNat, by omega⟩
  have hk : k < 6 := by omega
  have h1 := List.all_eq_true.1 (q8b d2 m) k (lt6 hk)
  rw [Bool.and_eq_true, decide_eq_true_eq, decide_eq_true_eq] at h1
  have s1 : qS (zA d2 m) ((k : Nat) : Int) = some ((k : Nat) : Int) := Qi.lim (Jq 20 d2 m) _ h1.1
  have s3 : zH [] (cod k) = some (sd [k]) := ZY 20 _ _ _ h1.2
  obtain ⟨c1, c2, c3⟩ := q3Y hk
  have ok1 : q3I 1 [k] = true := by unfold q3I; simp [hk]
  obtain ⟨l', d', r1, r2, r3⟩ := qfg hm3 (m.toNat - 1) [k] d2 ok1 (by simp only [List.length_singleton]; omega) hd2
  have hl := q0I r2
  refine ⟨l', d', ?_, qdR r2 (by omega), by omega, qc6 r2, r3⟩
  unfold zE
  rw [e1, Option.bind_some]
  simp only
  rw [if_pos ⟨v0, v1⟩, hm, Option.bind_some]
  unfold zY
  rw [if_pos (by omega), e2, Option.bind_some]
  simp only
  rw [s1, Option.bind_some, if_pos ⟨c1, c2⟩, c3, Option.bind_some, s3, Option.bind_some, r1, Option.bind_some, Option.bind_some, Sum.elim_inl]
end Go.Proofs.YtplfjlcnffcenaaGreat.Vc
namespace Go.Proofs.YtplfjlcnffcenaaGreat.Vc
open Go.RowKit
set_option linter.unusedVariables false
set_option linter.unusedSimpArgs false
def okB (b : Nat) : Bool := (decide (65 ≤ b) && decide (b ≤ 90)) || (decide (48 ≤ b) && decide (b ≤ 57))
theorem q2V (c : Nat) : zm (c : Int) = !okB c := by
  unfold zm okB
  rw [Bool.eq_iff_iff]
  simp only [Bool.not_eq_true', Bool.or_eq_false_iff, Bool.and_eq_false_iff, decide_eq_false_iff_not]
  split
  · split
    · simp only [true_iff]; omega
    · simp only [decide_eq_true_eq]; omega
  · split
    · split
      · simp only [true_iff]; omega
      · simp only [decide_eq_true_eq]; omega
    · simp only [Bool.false_eq_true, false_iff]; omega
def qgs (s : ByteArray) : Prop := ∀ (i : Nat) (h : i < s.size), okB (s[i]'h).toNat = true
noncomputable def q1o (s : ByteArray) : Bool := decide (1 ≤ s.size) && decide (s.size ≤ 8) && @decide (qgs s) (Classical.propDecidable _)
theorem q58 (s : ByteArray) : ∀ (j p : Nat), j + p = s.size → ∃ e : Int ⊕ Unit, qS (qA s true) p = some e ∧ (match e with
      | .inl k => 0 ≤ k ∧ ¬ qgs s
      | .inr _ => ∀ (i : Nat) (h : i < s.size), p ≤ i → okB (s[i]'h).toNat = true)
  | 0, p, hj => by
    refine ⟨.inr (), qV ?_, fun i h hp => by omega⟩
    unfold qA
    dsimp only
    rw [if_neg (by omega)]
  | j + 1, p, hj => by
    have hp : p < s.size := by omega
    by_cases ha : (s[p]'hp).toNat < 128
    · have hd := decode_ascii s p hp ha
      by_cases hb : okB (s[p]'hp).toNat = true
      · obtain ⟨e, e1, e2⟩ := q58 s j (p + 1) (by omega)
        refine ⟨e, ?_, ?_⟩
        · rw [zy (y := p + 1) ?_, e1]
          unfold qA
          dsimp only
          rw [if_pos hp, hd]
          dsimp only
          rw [q2V, hb, if_neg (by decide)]
        · cases e with
          | inl k => exact e2
          | inr u =>
            intro i h hpi
            by_cases hip : i = p
            · subst hip; exact hb
            · exact e2 i h (by omega)
      · refine ⟨.inl (p : Int), qV ?_, by omega, fun q => hb (q p hp)⟩
        unfold qA
        dsimp only
        rw [if_pos hp, hd]
        dsimp only
        rw [q2V, Bool.eq_false_iff.2 hb, if_pos (by decide)]
    · obtain ⟨h1, h2⟩ := decode_high s p hp (by omega)
      have hb : ∀ c : Nat, 128 ≤ c → okB c = false := fun c hc => by
        unfold okB
        simp only [Bool.or_eq_false_iff, Bool.and_eq_false_iff, decide_eq_false_iff_not]
        omega
      refine ⟨.inl (p : Int), qV ?_, by omega, fun q => by
        have := q p hp
        rw [hb _ (by omega)] at this
        exact absurd this (by decide)⟩
      unfold qA
      dsimp only
      rw [if_pos hp, q2V, hb _ h1, if_pos (by decide)]
theorem q8H (s : ByteArray) : Qb s = some (q1o s) := by
  have hz : (ByteArray.toList s == ByteArray.toList (ByteArray.mk (List.toArray []))) = decide (s.size = 0) := by
    rw [Bool.eq_iff_iff, beq_iff_eq, decide_eq_true_eq, ByteArray.toList_eq, ByteArray.toList_eq]
    show s.data.toList = [] ↔ s.data.size = 0
    rw [← Array.length_toList, List.length_eq_zero_iff]
  unfold Qb q1o
  rw [hz]
  by_cases h0 : s.size = 0
  · rw [decide_eq_true h0, if_neg (by decide), decide_eq_false (show ¬ 1 ≤ s.size by omega)]; rfl
  rw [decide_eq_false h0, if_pos (by decide), decide_eq_true (show 1 ≤ s.size by omega)]
  by_cases h8 : s.size ≤ 8
  · obtain ⟨e, e1, e2⟩ := q58 s s.size 0 (by omega)
    rw [if_pos (by omega), decide_eq_true h8]
    unfold zF zL
    rw [e1, Option.bind_some]
    cases e with
    | inl k =>
      rw [Sum.elim_inl, Option.bind_some, Option.bind_some, decide_eq_false (show ¬ k < 0 by have := e2.1; omega)]
      rw [@decide_eq_false _ (Classical.propDecidable _) e2.2]; rfl
    | inr u =>
      rw [Sum.elim_inr, Option.bind_some, Option.bind_some, decide_eq_true (show (-(1 : Int)) < 0 by decide)]
      have hA : qgs s := fun i h => e2 i h (Nat.zero_le _)
      rw [@decide_eq_true _ (Classical.propDecidable _) hA]; rfl
  · rw [if_neg (by omega), decide_eq_false h8]; rfl
theorem q2x {α : Type} {step : Int → Option (Int ⊕ (Unit ⊕ Unit))} (l : List α) (q : α → Bool) (h : ∀ (i : Nat) (a : α), l[i]? = some a → step (i : Int) = some (if q a = true then .inr (.inl ()) else .inl ((i + 1 : Nat) : Int))) (hn : step (l.length : Int) = some (.inr (.inr ()))) :
    qS step ((0 : Nat) : Int) = some (if l.any q = true then .inl () else .inr ()) := by
  have key : ∀ (r : List α) (i : Nat), r.length + i = l.length → (∀ j, r[j]? = l[i + j]?) → qS step (i : Int) = some (if r.any q = true then .inl () else .inr ()) := by
    intro r
    induction r with
    | nil =>
      intro i hi _
      have hi : i = l.length := by simpa using hi
      subst hi
      exact qV hn
    | cons a r ih =>
      intro i hi hr
      have ha : l[i]? = some a := by have := hr 0; simpa using this.symm
      simp only [List.length_cons] at hi
      have hs := h i a ha
      by_cases hq : q a = true
      · rw [if_pos hq] at hs
        rw [qV hs, List.any_cons, hq, Bool.true_or, if_pos rfl]
      · rw [if_neg hq] at hs
        rw [zy hs, ih (i + 1) (by omega) (fun j => by
          have := hr (j + 1)
          rw [show i + 1 + j = i + (j + 1) by omega, ← this]; rfl), List.any_cons, Bool.eq_false_iff.2 hq, Bool.false_or]
  exact key l 0 (by simp) (by simp)
theorem q2B {α : Type} {step : Int → Option (Int ⊕ (Int ⊕ Unit))} (l : List α) (q : α → Bool) (h : ∀ (i : Nat) (a : α), l[i]? = some a → step (i : Int) = some (if q a = true then .inr (.inl (i : Int)) else .inl ((i + 1 : Nat) : Int))) (hn : step (l.length : Int) = some (.inr (.inr ()))) :
    ∃ e : Int ⊕ Unit, qS step ((0 : Nat) : Int) = some e ∧ ((Sum.elim (fun (a2 : Int) => some a2) (fun (_ : Unit) => some (-(1 : Int))) e).bind fun a => some (decide ((0 : Int) ≤ a))) = some (l.any q) := by
  have key : ∀ (r : List α) (i : Nat), r.length + i = l.length → (∀ j, r[j]? = l[i + j]?) → ∃ e : Int ⊕ Unit, qS step (i : Int) = some e ∧ ((Sum.elim (fun (a2 : Int) => some a2) (fun (_ : Unit) => some (-(1 : Int))) e).bind fun a => some (decide ((0 : Int) ≤ a))) = some (r.any q) := by
    intro r
    induction r with
    | nil =>
      intro i hi _
      have hi : i = l.length := by simpa using hi
      subst hi
      exact ⟨.inr (), qV hn, rfl⟩
    | cons a r ih =>
      intro i hi hr
      have ha : l[i]? = some a := by have := hr 0; simpa using this.symm
      simp only [List.length_cons] at hi
      have hs := h i a ha
      by_cases hq : q a = true
      · rw [if_pos hq] at hs
        refine ⟨.inl (i : Int), qV hs, ?_⟩
        rw [Sum.elim_inl, Option.bind_some, List.any_cons, hq, Bool.true_or, decide_eq_true (by omega)]
      · rw [if_neg hq] at hs
        obtain ⟨e, e1, e2⟩ := ih (i + 1) (by omega) (fun j => by
          have := hr (j + 1)
          rw [show i + 1 + j = i + (j + 1) by omega, ← this]; rfl)
        exact ⟨e, by rw [zy hs, e1], by rw [e2, List.any_cons, Bool.eq_false_iff.2 hq, Bool.false_or]⟩
  exact key l 0 (by simp) (by simp)
theorem q8L {s : ByteArray} (hs : s.size ≤ 1000) : Qy s = some (q1o s) := by
  have hlen : s.data.toList.length = s.size := by rw [Array.length_toList]; rfl
  have nd : ∀ (p : Prop) [Decidable p], ((!decide p) = true) ↔ ¬ p := by intro p _; simp
  have h1 := q2x (step := zz s) s.data.toList (fun b => !okB b.toNat) (fun i a ha => by
    have hi := Jo ha
    have hw : w64 ((i : Int) + 1) = ((i + 1 : Nat) : Int) := zu (n := 10000) (by omega) (by omega)
    have h0 : (0 : Int) ≤ (i : Int) := by omega
    have hok : (!okB a.toNat) = true ↔ ¬ ((65 ≤ a.toNat ∧ a.toNat ≤ 90) ∨ (48 ≤ a.toNat ∧ a.toNat ≤ 57)) := by unfold okB; simp; omega
    unfold zz
    simp only [if_pos h0, Int.toNat_natCast, ha, Option.bind_some, hw, nd]
    rw [if_pos (show (i : Int) < ((s.size : Nat) : Int) by omega)]
    by_cases hq : (!okB a.toNat) = true
    · rw [if_pos hq]
      have hq' := hok.1 hq
      repeat' split
      all_goals first | rfl | (exfalso; omega)
    · rw [if_neg hq]
      have hq' : (65 ≤ a.toNat ∧ a.toNat ≤ 90) ∨ (48 ≤ a.toNat ∧ a.toNat ≤ 57) := Decidable.byContradiction fun q => hq (hok.2 q)
      repeat' split
      all_goals first | rfl | (exfalso; omega)) (by
    unfold zz
    rw [if_neg (by omega)])
  have hall : (s.data.toList.any fun b => !okB b.toNat) = !(@decide (qgs s) (Classical.propDecidable _)) := by
    rw [Bool.eq_iff_iff, Bool.not_eq_true', List.any_eq_true, decide_eq_false_iff_not]
    constructor
    · rintro ⟨b, hb, hb2⟩ hA
      obtain ⟨i, hi, e⟩ := List.getElem_of_mem hb
      have := hA i (by omega)
      have e2 : (s[i]'(by omega)) = b := by rw [← e]; rfl
      rw [e2] at this
      rw [this] at hb2
      exact absurd hb2 (by decide)
    · intro hA
      refine Classical.byContradiction fun hn => hA fun i hi => ?_
      refine Classical.byContradiction fun hk => hn ⟨s[i]'hi, ?_, by simpa using hk⟩
      have : (s[i]'hi) = s.data.toList[i]'(by omega) := rfl
      rw [this]
      exact List.getElem_mem _
  unfold Qy
  change Option.bind (qS _ ((0 : Nat) : Int)) _ = _
  rw [h1, hall, Option.bind_some]
  unfold q1o
  by_cases hA : qgs s
  · rw [@decide_eq_true _ (Classical.propDecidable _) hA, if_neg (show ¬ ((!true) = true) by decide), Sum.elim_inr, Bool.and_true]
    by_cases h1 : 1 ≤ s.size
    · rw [if_pos (by omega), decide_eq_true h1, Bool.true_and]
      congr 1
      rw [Bool.eq_iff_iff, decide_eq_true_eq, decide_eq_true_eq]
      omega
    · rw [if_neg (by omega), decide_eq_false h1, Bool.false_and]
  · rw [@decide_eq_false _ (Classical.propDecidable _) hA, if_pos (show (!false) = true by decide), Sum.elim_inl, Bool.and_false]
end Go.Proofs.YtplfjlcnffcenaaGreat.Vc
namespace Go.Proofs.YtplfjlcnffcenaaGreat.Vc
open Go.RowKit
set_option linter.unusedVariables false
set_option linter.unusedSimpArgs false
structure q5X (a : qa) : Prop where
  id : 1 ≤ a.Id
  fr : 1 ≤ a.From ∧ a.From ≤ 3
  to : 1 ≤ a.To ∧ a.To ≤ 3
  be : 0 ≤ a.Begin ∧ a.Begin ≤ 100000
  en : a.End = 0 ∨ (a.Begin ≤ a.End ∧ a.End ≤ 100000)
  inn : ∃ l, Ix l ∧ 1 ≤ l.length ∧ a.In = sd l
  out : ∃ l, Ix l ∧ 1 ≤ l.length ∧ a.Out.map (·.Code) = sd l
  cr : ∀ g ∈ a.Out, 1 ≤ g.Credits ∧ g.Credits ≤ 60
  ci : a.From = a.To → ∀ g ∈ a.Out, ∀ c ∈ a.In, (g.Code.toList == c.toList) = false
  cv : qm a.Conv = 0
theorem lt7 {a : Nat} (h : a < 7) : a ∈ [0, 1, 2, 3, 4, 5, 6] := by
  have : a = 0 ∨ a = 1 ∨ a = 2 ∨ a = 3 ∨ a = 4 ∨ a = 5 ∨ a = 6 := by omega
  rcases this with rfl | rfl | rfl | rfl | rfl | rfl | rfl <;> decide
theorem q4s (l : List qd) (h : l.length ≤ 1000) : zI l = some (l.map (·.Code)) := by
  have key : ∀ (r : List qd) (i : Nat) (out : List ByteArray), r.length + i = l.length → (∀ j, r[j]? = l[i + j]?) → out.length ≤ i → qS (zd l ((l.length : Nat) : Int)) (out, (i : Int)) = some (out ++ r.map (·.Code)) := by
    intro r
    induction r with
    | nil =>
      intro i out hi _ _
      refine qV ?_
      unfold zd
      dsimp only
      rw [if_neg (by simp at hi; omega), List.map_nil, List.append_nil]
    | cons a r ih =>
      intro i out hi hr ho
      simp only [List.length_cons] at hi
      have ha : l[i]? = some a := by have := hr 0; simpa using this.symm
      have hw : w64 ((i : Int) + 1) = ((i + 1 : Nat) : Int) := zu (n := 10000) (by omega) (by omega)
      have hm : (1000000 : Nat) ≤ Go.maxLen := by decide
      rw [zy (y := (out ++ [a.Code], ((i + 1 : Nat) : Int))) ?_, ih (i + 1) _ (by omega) (fun j => ?_) (by rw [List.length_append, List.length_singleton]; omega), List.map_cons, List.append_assoc, List.singleton_append]
      · have := hr (j + 1)
        rw [show i + 1 + j = i + (j + 1) by omega, ← this]; rfl
      · unfold zd
        dsimp only
        rw [if_pos (by omega), if_pos ⟨by omega, by omega⟩, Int.toNat_natCast, ha, Option.bind_some, if_pos ⟨by omega, by omega⟩, hw]
  have := key l 0 [] (by simp) (by simp) (Nat.le_refl _)
  unfold zI
  change Option.bind (qS _ ([], ((0 : Nat) : Int))) _ = _
  rw [this, Option.bind_some, List.nil_append]
end Go.Proofs.YtplfjlcnffcenaaGreat.Vc
namespace Go.Proofs.YtplfjlcnffcenaaGreat.Vc
open Go.RowKit
set_option linter.unusedVariables false
set_option linter.unusedSimpArgs false
theorem q6l {l : List ByteArray} (hl : l.length ≤ 1000) (v : ByteArray) : ze l v = some (l.any fun c => c.toList == v.toList) := by
  have h1 := q8i (step := zw l v) l (fun i => (i : Int)) (fun c => if (c.toList == v.toList) = true then some (Sum.inl ()) else none) (Sum.inr ()) (fun i a ha => by
      have hi := Jo ha
      have hw : w64 ((i : Int) + 1) = ((i + 1 : Nat) : Int) := zu (n := 10000) (by omega) (by omega)
      unfold zw
      rw [if_pos (by omega), if_pos ⟨by omega, by omega⟩, Int.toNat_natCast, ha, Option.bind_some, hw]
      by_cases h : (a.toList == v.toList) = true
      · rw [if_pos h, if_pos h]
      · rw [if_neg h, if_neg h]) (by
      unfold zw
      rw [if_neg (by omega)])
  unfold ze
  change Option.bind (qS _ ((0 : Nat) : Int)) _ = _
  rw [h1, Option.bind_some]
  have : ∀ l : List ByteArray, Sum.elim (fun (_ : Unit) => some true) (fun (_ : Unit) => some false) ((l.findSome? fun c => if (c.toList == v.toList) = true then some (Sum.inl ()) else none).getD (Sum.inr ())) = some (l.any fun c => c.toList == v.toList) := by
    intro l
    induction l with
    | nil => rfl
    | cons c l ih =>
      rw [List.findSome?_cons, List.any_cons]
      by_cases h : (c.toList == v.toList) = true
      · rw [if_pos h, h]; rfl
      · rw [if_neg h]
        have h' : (c.toList == v.toList) = false := by simpa using h
        rw [h', Bool.false_or]
        exact ih
  exact this l
def q1P (F T0 : Int) (I : List ByteArray) (c : ByteArray) : Bool := (F != T0) || !(I.any fun x => x.toList == c.toList)
theorem qdu {v : Int} (h0 : 0 ≤ v) (h1 : v < 4) : ∃ m, [(5 : Int), (6 : Int), (10 : Int), (3 : Int)][Int.toNat v]? = some m ∧ 1 ≤ m ∧ m ≤ 60 := by
  have : v = 0 ∨ v = 1 ∨ v = 2 ∨ v = 3 := by omega
  rcases this with rfl | rfl | rfl | rfl <;> exact ⟨_, rfl, by decide, by decide⟩
theorem q3J (z1 z2 z3 z4 z5 z6 z7 z8 z9 x1 F T0 B0 E0 : Int) (I : List ByteArray) (hI : I.length ≤ 1000) (y1 y2 y3 y4 : Int) (L : List ByteArray) (hL : L.length ≤ 1000) :
    ∀ (r : List ByteArray) (i : Nat) (w : List qd) (d : qe), r.length + i = L.length → (∀ j, r[j]? = L[i + j]?) → w.length ≤ i → J1 d →
    ∃ w' d', qS (qx z1 z2 z3 z4 z5 z6 z7 z8 z9 x1 F T0 B0 E0 I y1 y2 y3 y4 L) (w, d, (i : Int)) = some (w ++ w', d') ∧ J1 d' ∧ w'.map (·.Code) = r.filter (q1P F T0 I) ∧ ∀ g ∈ w', 1 ≤ g.Credits ∧ g.Credits ≤ 60
  | [], i, w, d, hi, _, _, hd => by
    refine ⟨[], d, qV ?_, hd, rfl, fun g h => by simp at h⟩
    unfold qx
    dsimp only
    rw [if_neg (by simp at hi; omega), List.append_nil]
  | c :: r, i, w, d, hi, hr, hw, hd => by
    simp only [List.length_cons] at hi
    have ha : L[i]? = some c := by have := hr 0; simpa using this.symm
    have hws : w64 ((i : Int) + 1) = ((i + 1 : Nat) : Int) := zu (n := 10000) (by omega) (by omega)
    have hm : (1000000 : Nat) ≤ Go.maxLen := by decide
    have hr' : ∀ j, r[j]? = L[i + 1 + j]? := fun j => by
      have := hr (j + 1)
      rw [show i + 1 + j = i + (j + 1) by omega, ← this]; rfl
    obtain ⟨v, d1, e1, v0, v1, hd1⟩ := Z0 hd (most := 4) (by decide) (by decide)
    obtain ⟨m, hm1, hm2, hm3⟩ := qdu v0 v1
    by_cases hk : q1P F T0 I c = true
    · obtain ⟨w', d', q1, q2, q3, q4⟩ := q3J z1 z2 z3 z4 z5 z6 z7 z8 z9 x1 F T0 B0 E0 I hI y1 y2 y3 y4 L hL r (i + 1) (w ++ [⟨c, m⟩]) d1 (by omega) hr' (by rw [List.length_append, List.length_singleton]; omega) hd1
      refine ⟨⟨c, m⟩ :: w', d', ?_, q2, by rw [List.map_cons, List.filter_cons, if_pos hk, q3], fun g hg => ?_⟩
      · rw [zy (y := (w ++ [⟨c, m⟩], d1, ((i + 1 : Nat) : Int))) ?_, q1, List.append_assoc, List.singleton_append]
        unfold qx
        dsimp only
        rw [if_pos (by omega)]
        by_cases hF : (F != T0) = true
        · rw [if_pos hF, if_pos ⟨by omega, by omega⟩, Int.toNat_natCast, ha, Option.bind_some, e1, Option.bind_some]
          dsimp only
          rw [if_pos ⟨v0, v1⟩, hm1, Option.bind_some, if_pos ⟨by omega, by omega⟩, hws]
        · have hany : (I.any fun x => x.toList == c.toList) = false := by
            unfold q1P at hk
            rw [Bool.eq_false_iff.2 hF, Bool.false_or] at hk
            simpa using hk
          rw [if_neg hF, if_pos ⟨by omega, by omega⟩, Int.toNat_natCast, ha, Option.bind_some, q6l hI, Option.bind_some, hany, if_pos (by decide), if_pos ⟨by omega, by omega⟩, Option.bind_some, e1, Option.bind_some]
          dsimp only
          rw [if_pos ⟨v0, v1⟩, hm1, Option.bind_some, if_pos ⟨by omega, by omega⟩, hws]
      · rcases List.mem_cons.1 hg with rfl | hg
        · exact ⟨hm2, hm3⟩
        · exact q4 g hg
    · obtain ⟨w', d', q1, q2, q3, q4⟩ := q3J z1 z2 z3 z4 z5 z6 z7 z8 z9 x1 F T0 B0 E0 I hI y1 y2 y3 y4 L hL r (i + 1) w d (by omega) hr' (by omega) hd
      refine ⟨w', d', ?_, q2, by rw [List.filter_cons, if_neg hk, q3], q4⟩
      rw [zy (y := (w, d, ((i + 1 : Nat) : Int))) ?_, q1]
      unfold q1P at hk
      rw [Bool.not_eq_true, Bool.or_eq_false_iff] at hk
      have hany : (I.any fun x => x.toList == c.toList) = true := by simpa using hk.2
      unfold qx
      dsimp only
      rw [if_pos (by omega), if_neg (by rw [hk.1]; decide), if_pos ⟨by omega, by omega⟩, Int.toNat_natCast, ha, Option.bind_some, q6l hI, Option.bind_some, hany, if_neg (by decide), hws]
theorem q9p : ([(0 : Int), 1, 2].all fun f => [(0 : Int), 1, 2].all fun t => [(0 : Int), 1, 2, 3].all fun r => decide (qm (qG (w64 (1 + f)) (w64 (1 + t)) (w64 (1 + r))) = 0)) = true := by kernel_rfl
theorem qdA {f t r : Int} (f0 : 0 ≤ f) (f1 : f < 3) (t0 : 0 ≤ t) (t1 : t < 3) (r0 : 0 ≤ r) (r1 : r < 4) : qm (qG (w64 (1 + f)) (w64 (1 + t)) (w64 (1 + r))) = 0 := by
  have m3 : ∀ {x : Int}, 0 ≤ x → x < 3 → x ∈ [(0 : Int), 1, 2] := fun {x} a b => by
    have : x = 0 ∨ x = 1 ∨ x = 2 := by omega
    rcases this with rfl | rfl | rfl <;> decide
  have m4 : r ∈ [(0 : Int), 1, 2, 3] := by
    have : r = 0 ∨ r = 1 ∨ r = 2 ∨ r = 3 := by omega
    rcases this with rfl | rfl | rfl | rfl <;> decide
  exact of_decide_eq_true (List.all_eq_true.1 (List.all_eq_true.1 (List.all_eq_true.1 q9p f (m3 f0 f1)) t (m3 t0 t1)) r m4)
theorem qfB : ([0, 1, 2, 3, 4, 5].all fun i => !((cod 6).toList == (cod i).toList)) = true := by kernel_rfl
theorem qed {id F T0 B0 E0 : Int} {li lo : List Nat} {w : List qd} {cv : qb} (hid : 1 ≤ id) (hF : 1 ≤ F ∧ F ≤ 3) (hT : 1 ≤ T0 ∧ T0 ≤ 3) (hB : 0 ≤ B0 ∧ B0 ≤ 100000) (hE : E0 = 0 ∨ (B0 ≤ E0 ∧ E0 ≤ 100000)) (hli : Ix li) (hl1 : 1 ≤ li.length) (hl6 : ∀ i ∈ li, i < 6)
    (hlo : Ix lo) (hw : w.map (·.Code) = (sd lo).filter (q1P F T0 (sd li))) (hcr : ∀ g ∈ w, 1 ≤ g.Credits ∧ g.Credits ≤ 60) (hcv : qm cv = 0) :
    q5X ⟨id, F, T0, B0, E0, sd li, if ((w.length : Int) == 0) = true then [⟨ByteArray.mk (List.toArray [90, 57]), 5⟩] else w, cv⟩ := by
  have hfl : (sd lo).filter (q1P F T0 (sd li)) = sd (lo.filter fun i => q1P F T0 (sd li) (cod i)) := by
    unfold sd; rw [List.filter_map]; rfl
  refine ⟨hid, hF, hT, hB, hE, ⟨li, hli, hl1, rfl⟩, ?_, ?_, ?_, hcv⟩
  · show ∃ l, Ix l ∧ 1 ≤ l.length ∧ (if ((w.length : Int) == 0) = true then [qd.mk (ByteArray.mk (List.toArray [90, 57])) 5] else w).map (·.Code) = sd l
    by_cases h0 : ((w.length : Int) == 0) = true
    · rw [if_pos h0]
      exact ⟨[6], ⟨fun i hi => by simp at hi; omega, by simp, by simp⟩, Nat.le_refl _, rfl⟩
    · rw [if_neg h0]
      refine ⟨_, hlo.filter _, ?_, hw.trans hfl⟩
      have : w.length = (lo.filter fun i => q1P F T0 (sd li) (cod i)).length := by
        have := congrArg List.length (hw.trans hfl)
        rw [List.length_map] at this
        rw [this]
        unfold sd
        rw [List.length_map]
      rw [← this]
      have : (w.length : Int) ≠ 0 := by simpa using h0
      omega
  · show ∀ g ∈ (if ((w.length : Int) == 0) = true then [qd.mk (ByteArray.mk (List.toArray [90, 57])) 5] else w), 1 ≤ g.Credits ∧ g.Credits ≤ 60
    split
    · intro g hg
      simp only [List.mem_singleton] at hg
      subst hg
      exact ⟨by decide, by decide⟩
    · exact hcr
  · show F = T0 → ∀ g ∈ (if ((w.length : Int) == 0) = true then [qd.mk (ByteArray.mk (List.toArray [90, 57])) 5] else w), ∀ c ∈ sd li, (g.Code.toList == c.toList) = false
    intro hFT
    split
    · intro g hg c hc
      simp only [List.mem_singleton] at hg
      subst hg
      obtain ⟨i, hi, rfl⟩ := List.mem_map.1 hc
      have := List.all_eq_true.1 qfB i (lt6 (hl6 i hi))
      rw [Bool.not_eq_true'] at this
      exact this
    · intro g hg c hc
      have hm : g.Code ∈ (sd lo).filter (q1P F T0 (sd li)) := by rw [← hw]; exact List.mem_map.2 ⟨g, hg, rfl⟩
      have hk := (List.mem_filter.1 hm).2
      unfold q1P at hk
      rw [hFT, show (T0 != T0) = false by simp, Bool.false_or, Bool.not_eq_true'] at hk
      have := List.any_eq_false.1 hk c hc
      have h2 : (c.toList == g.Code.toList) = false := by simpa using this
      rw [beq_eq_false_iff_ne] at h2 ⊢
      exact fun e => h2 e.symm
theorem q6J {id : Int} (hid : 1 ≤ id) {d : qe} (hd : J1 d) : ∃ a d', Q5 id d = some (a, d') ∧ q5X a ∧ a.Id = id := by
  obtain ⟨f, d1, e1, f0, f1, hd1⟩ := Z0 hd (most := 3) (by decide) (by decide)
  obtain ⟨t, d2, e2, t0, t1, hd2⟩ := Z0 hd1 (most := 3) (by decide) (by decide)
  obtain ⟨b, d3, e3, b0, b1, hd3⟩ := Z0 hd2 (most := 5) (by decide) (by decide)
  obtain ⟨B0, hB, hB0, hB1⟩ : ∃ m : Int, [(0 : Int), (0 : Int), (0 : Int), (50 : Int), (200 : Int)][Int.toNat b]? = some m ∧ 0 ≤ m ∧ m ≤ 200 := by
    have : b = 0 ∨ b = 1 ∨ b = 2 ∨ b = 3 ∨ b = 4 := by omega
    rcases this with rfl | rfl | rfl | rfl | rfl <;> exact ⟨_, rfl, by decide, by decide⟩
  obtain ⟨li, d4, e4, hli, hl1, hl6, hd4⟩ := q8v hd3
  obtain ⟨q, d5, e5, q0, q1, hd5⟩ := Z0 hd4 (most := 4) (by decide) (by decide)
  have hwf : w64 (1 + f) = 1 + f := Qz (by omega) (by omega)
  have hwt : w64 (1 + t) = 1 + t := Qz (by omega) (by omega)
  have hlen : (sd li).length ≤ 1000 := by unfold sd; rw [List.length_map]; have := hli.len; omega
  have fin : ∀ (E0 : Int) (d6 : qe), J1 d6 → (E0 = 0 ∨ (B0 ≤ E0 ∧ E0 ≤ 100000)) → ∃ a d', (Option.bind (zE d6) fun (a12 : Prod (List ByteArray) qe) =>
      Option.bind (qS (qx (0 : Int) (0 : Int) (0 : Int) (0 : Int) (0 : Int) (0 : Int) (0 : Int) (0 : Int) (0 : Int) id (w64 ((1 : Int) + f)) (w64 ((1 : Int) + t)) B0 E0 (sd li) (0 : Int) (0 : Int) (0 : Int) (0 : Int) a12.1) ([], (a12.2, (0 : Int)))) fun (a13 : Prod (List qd) qe) =>
      if (((a13.1.length : Nat) : Int) == (0 : Int)) = Bool.true then Option.bind (qj (4 : Int) a13.2) fun (a14 : Prod Int qe) =>
        some (qa.mk id (w64 ((1 : Int) + f)) (w64 ((1 : Int) + t)) B0 E0 (sd li) [qd.mk (ByteArray.mk (List.toArray [90, 57])) (5 : Int)] (qG (w64 ((1 : Int) + f)) (w64 ((1 : Int) + t)) (w64 ((1 : Int) + a14.1))), a14.2)
      else Option.bind (qj (4 : Int) a13.2) fun (a15 : Prod Int qe) =>
      some (qa.mk id (w64 ((1 : Int) + f)) (w64 ((1 : Int) + t)) B0 E0 (sd li) a13.1 (qG (w64 ((1 : Int) + f)) (w64 ((1 : Int) + t)) (w64 ((1 : Int) + a15.1))), a15.2)) = some (a, d') ∧ q5X a ∧ a.Id = id := by
    intro E0 d6 hd6 hE
    obtain ⟨lo, d7, e7, hlo, -, -, hd7⟩ := q8v hd6
    have hlo3 : (sd lo).length ≤ 1000 := by unfold sd; rw [List.length_map]; have := hlo.len; omega
    obtain ⟨w, d8, e8, hd8, hw, hcr⟩ := q3J 0 0 0 0 0 0 0 0 0 id (w64 (1 + f)) (w64 (1 + t)) B0 E0 (sd li) hlen 0 0 0 0 (sd lo) hlo3 (sd lo) 0 [] d7 (by simp) (by simp) (Nat.le_refl _) hd7
    obtain ⟨r, d9, e9, r0, r1, hd9⟩ := Z0 hd8 (most := 4) (by decide) (by decide)
    have hok := qed (E0 := E0) (w := w) hid (F := w64 (1 + f)) (T0 := w64 (1 + t)) (by rw [hwf]; omega) (by rw [hwt]; omega) (B0 := B0) (by omega) hE hli hl1 hl6 hlo hw hcr (qdA f0 f1 t0 t1 r0 r1)
    rw [e7, Option.bind_some]
    dsimp only
    rw [List.nil_append] at e8
    have e8' : qS (qx (0 : Int) (0 : Int) (0 : Int) (0 : Int) (0 : Int) (0 : Int) (0 : Int) (0 : Int) (0 : Int) id (w64 ((1 : Int) + f)) (w64 ((1 : Int) + t)) B0 E0 (sd li) (0 : Int) (0 : Int) (0 : Int) (0 : Int) (sd lo)) ([], (d7, (0 : Int))) = some (w, d8) := e8
    rw [e8', Option.bind_some]
    dsimp only
    rw [e9]
    simp only [Option.bind_some]
    by_cases h0 : ((w.length : Int) == 0) = true
    · rw [if_pos h0] at hok ⊢
      exact ⟨_, _, rfl, hok, rfl⟩
    · rw [if_neg h0] at hok ⊢
      exact ⟨_, _, rfl, hok, rfl⟩
  unfold Q5
  rw [e1, Option.bind_some]
  dsimp only
  rw [e2, Option.bind_some]
  dsimp only
  rw [e3, Option.bind_some]
  dsimp only
  rw [if_pos ⟨b0, b1⟩, hB, Option.bind_some, e4, Option.bind_some]
  dsimp only
  rw [e5, Option.bind_some]
  dsimp only
  by_cases hq : (q == 0) = true
  · obtain ⟨e, d6, e6, g0, g1, hd6⟩ := Z0 hd5 (most := 400) (by decide) (by decide)
    rw [if_pos hq, e6, Option.bind_some]
    have hwe : w64 (B0 + e) = B0 + e := Qz (by omega) (by omega)
    exact fin (w64 (B0 + e)) d6 hd6 (by rw [hwe]; omega)
  · rw [if_neg hq]
    exact fin 0 d5 hd5 (.inl rfl)
structure qaK (M : List qa) : Prop where
  len : M.length ≤ 4
  ok : ∀ (i : Nat) (a : qa), M[i]? = some a → q5X a ∧ a.Id = 3 + 2 * (i : Int)
theorem qcy (l : List (List Int)) (hl : l.length ≤ 9223372036854775807) (hx : ∀ x ∈ l, x.length ≤ 9223372036854775807) : ∃ M, Qw l = some M ∧ qaK M := by
  have key : ∀ (j i : Nat) (out : List qa), j + i = min l.length 4 → out.length = i → (∀ (k : Nat) (a : qa), out[k]? = some a → q5X a ∧ a.Id = 3 + 2 * (k : Int)) → ∃ M, qS (zo l) (out, (i : Int)) = some M ∧ qaK M := by
    intro j
    induction j with
    | zero =>
      intro i out hi ho hk
      refine ⟨out, qV ?_, by omega, hk⟩
      unfold zo
      dsimp only
      by_cases h : (i : Int) < ((l.length : Nat) : Int)
      · rw [if_pos h, if_neg (by omega)]
      · rw [if_neg h]
    | succ j ih =>
      intro i out hi ho hk
      have hil : i < l.length := by omega
      have hws : w64 ((i : Int) + 1) = ((i + 1 : Nat) : Int) := zu (n := 10000) (by omega) (by omega)
      have hw2 : w64 (2 * (i : Int)) = 2 * (i : Int) := Qz (by omega) (by omega)
      have hw3 : w64 (3 + 2 * (i : Int)) = 3 + 2 * (i : Int) := Qz (by omega) (by omega)
      have hm : (1000000 : Nat) ≤ Go.maxLen := by decide
      obtain ⟨a, d', e1, e2, e3⟩ := q6J (id := 3 + 2 * (i : Int)) (by omega) (d := ⟨l[i], 0⟩) ⟨Int.le_refl _, by show (0 : Int) ≤ _; omega, hx _ (List.getElem_mem hil)⟩
      obtain ⟨M, q1, q2⟩ := ih (i + 1) (out ++ [a]) (by omega) (by rw [List.length_append, List.length_singleton, ho]) (fun k b hb => by
        rcases Nat.lt_or_ge k out.length with h | h
        · rw [List.getElem?_append_left h] at hb; exact hk k b hb
        · rw [List.getElem?_append_right h] at hb
          have hk0 : k - out.length = 0 := by
            have := (List.getElem?_eq_some_iff.1 hb).1
            simp at this; omega
          rw [hk0] at hb
          simp only [List.getElem?_cons_zero, Option.some.injEq] at hb
          subst hb
          have : k = i := by omega
          subst this
          exact ⟨e2, e3⟩)
      refine ⟨M, ?_, q2⟩
      rw [zy (y := (out ++ [a], ((i + 1 : Nat) : Int))) ?_, q1]
      unfold zo
      dsimp only
      rw [if_pos (by omega), if_pos (by omega), if_pos ⟨by omega, by omega⟩, Int.toNat_natCast, List.getElem?_eq_getElem hil, Option.bind_some, hw2, hw3, e1, Option.bind_some, if_pos ⟨by omega, by omega⟩, hws]
  obtain ⟨M, h1, h2⟩ := key (min l.length 4) 0 [] (by omega) rfl (fun k a h => by simp at h)
  refine ⟨M, ?_, h2⟩
  unfold Qw
  change Option.bind (qS _ ([], ((0 : Nat) : Int))) _ = _
  rw [h1, Option.bind_some]
end Go.Proofs.YtplfjlcnffcenaaGreat.Vc
namespace Go.Proofs.YtplfjlcnffcenaaGreat.Vc
open Go.RowKit
set_option linter.unusedVariables false
set_option linter.unusedSimpArgs false
structure Bnd (n : Nat) (x : qa) : Prop where
  li : x.In.length ≤ n
  lo : x.Out.length ≤ n
  ci : ∀ c ∈ x.In, c.size ≤ 12
  co : ∀ g ∈ x.Out, g.Code.size ≤ 12
noncomputable def q3a (l : List ByteArray) (i : Nat) (c : ByteArray) : Unit ⊕ (Int ⊕ Unit) :=
  if q1o c = true then (if 0 < i then (match l[i - 1]? with | some p => if Go.Op.bytesLess p.toList c.toList = true then .inl () else .inr (.inl 7) | none => .inl ()) else .inl ()) else .inr (.inl 12)
noncomputable def QQ (l : List ByteArray) : Int ⊕ Unit := q2Z (fun i (_ : Unit) c => q3a l i c) (fun _ => .inr ()) l 0 ()
theorem q2p (l0 : List ByteArray) : ∀ (l : List ByteArray) (i : Nat) (e : Int), q2Z (fun i (_ : Unit) c => q3a l0 i c) (fun _ => (.inr () : Int ⊕ Unit)) l i () = .inl e → e ≠ 0
  | [], i, e, h => by unfold q2Z at h; cases h
  | a :: l, i, e, h => by
    unfold q2Z at h
    cases hg : q3a l0 i a with
    | inl u => rw [hg] at h; exact q2p l0 l (i + 1) e h
    | inr v =>
      rw [hg] at h
      have h : v = .inl e := h
      subst h
      unfold q3a at hg
      split at hg
      · split at hg
        · split at hg
          · split at hg
            · cases hg
            · injection hg with hg; injection hg with hg; omega
          · cases hg
        · cases hg
      · injection hg with hg; injection hg with hg; omega
theorem qk5 (w1 : List (List ByteArray)) (b0 : qa) (t53 t54 : Int) {l : List ByteArray} (hl : l.length ≤ 1000) : qS (qW w1 b0 l t53 t54 l ((l.length : Nat) : Int)) (0 : Int) = some (QQ l) := by
  have := q2l (step := qW w1 b0 l t53 t54 l ((l.length : Nat) : Int)) l (fun (_ : Unit) i => (i : Int)) (fun i (_ : Unit) c => q3a l i c) (fun _ => .inr ()) (fun b i a ha => by
    have hi := Jo ha
    have hw : w64 ((i : Int) + 1) = ((i + 1 : Nat) : Int) := zu (n := 10000) (by omega) (by omega)
    unfold qW q3a
    rw [if_pos (by omega), if_pos ⟨by omega, by omega⟩, Int.toNat_natCast, ha, Option.bind_some, q8H, Option.bind_some, hw]
    by_cases hc : q1o a = true
    · rw [if_pos hc, if_neg (by rw [hc]; decide)]
      by_cases h0 : 0 < i
      · have hw2 : w64 ((i : Int) - 1) = ((i - 1 : Nat) : Int) := by rw [Qz (by omega) (by omega)]; omega
        have hp : l[i - 1]? = some l[i - 1] := List.getElem?_eq_getElem (by omega)
        rw [if_pos (by omega), if_pos h0, hw2, if_pos ⟨by omega, by omega⟩, Int.toNat_natCast, hp, Option.bind_some]
        dsimp only
        by_cases hb : Go.Op.bytesLess l[i - 1].toList a.toList = true
        · rw [hb, if_neg (by decide), if_pos rfl]
        · rw [Bool.eq_false_iff.2 hb, if_pos (by decide), if_neg (by decide)]
      · rw [if_neg (by omega), if_neg h0]
    · rw [if_neg hc, if_pos (by rw [Bool.eq_false_iff.2 hc]; decide)]) (fun b => by
    unfold qW
    rw [if_neg (by omega)]) ()
  exact this
theorem qlE {l : List ByteArray} (hl : l.length ≤ 1000) (hs : ∀ c ∈ l, c.size ≤ 12) : qS (zc l) (0 : Int) = some (QQ l) := by
  have := q2l (step := zc l) l (fun (_ : Unit) i => (i : Int)) (fun i (_ : Unit) c => q3a l i c) (fun _ => .inr ()) (fun b i a ha => by
    have hi := Jo ha
    have hw : w64 ((i : Int) + 1) = ((i + 1 : Nat) : Int) := zu (n := 10000) (by omega) (by omega)
    have hsz := hs a (List.mem_of_getElem? ha)
    unfold zc q3a
    rw [if_pos (by omega), if_pos ⟨by omega, by omega⟩, Int.toNat_natCast, ha, Option.bind_some, q8L (by omega), Option.bind_some, hw]
    by_cases hc : q1o a = true
    · rw [if_pos hc, if_neg (by rw [hc]; decide)]
      by_cases h0 : 0 < i
      · have hw2 : w64 ((i : Int) - 1) = ((i - 1 : Nat) : Int) := by rw [Qz (by omega) (by omega)]; omega
        have hp : l[i - 1]? = some l[i - 1] := List.getElem?_eq_getElem (by omega)
        rw [if_pos (by omega), if_pos h0, hw2, if_pos ⟨by omega, by omega⟩, Int.toNat_natCast, hp, Option.bind_some, if_pos ⟨by omega, by omega⟩, Option.bind_some]
        dsimp only
        by_cases hb : Go.Op.bytesLess l[i - 1].toList a.toList = true
        · rw [hb, if_neg (by decide), if_pos rfl]
        · rw [Bool.eq_false_iff.2 hb, if_pos (by decide), if_neg (by decide)]
      · rw [if_neg (by omega), if_neg h0]
    · rw [if_neg hc, if_pos (by rw [Bool.eq_false_iff.2 hc]; decide)]) (fun b => by
    unfold zc
    rw [if_neg (by omega)]) ()
  exact this
theorem qle (b0 : qa) {I O : List ByteArray} (hI : I.length ≤ 1000) (hO : O.length ≤ 1000) : qS (qs [I, O] b0 (2 : Int)) (0 : Int) = some (match QQ I with | .inl e => .inl e | .inr _ => QQ O) := by
  have hw0 : w64 ((0 : Int) + 1) = 1 := Qz (by omega) (by omega)
  have hw1 : w64 ((1 : Int) + 1) = 2 := Qz (by omega) (by omega)
  have s0 : qs [I, O] b0 (2 : Int) (0 : Int) = some (match QQ I with | .inl e => .inr (.inl e) | .inr _ => .inl 1) := by
    unfold qs
    rw [if_pos (by decide), if_pos (by simp), show [I, O][Int.toNat 0]? = some I from rfl, Option.bind_some, qk5 _ _ _ _ hI, Option.bind_some, hw0]
    cases QQ I <;> rfl
  have s1 : qs [I, O] b0 (2 : Int) (1 : Int) = some (match QQ O with | .inl e => .inr (.inl e) | .inr _ => .inl 2) := by
    unfold qs
    rw [if_pos (by decide), if_pos (by simp), show [I, O][Int.toNat 1]? = some O from rfl, Option.bind_some, qk5 _ _ _ _ hO, Option.bind_some, hw1]
    cases QQ O <;> rfl
  have s2 : qs [I, O] b0 (2 : Int) (2 : Int) = some (.inr (.inr ())) := by
    unfold qs
    rw [if_neg (by decide)]
  cases hIe : QQ I with
  | inl e => rw [hIe] at s0; exact qV s0
  | inr u =>
    rw [hIe] at s0
    rw [zy s0]
    cases hOe : QQ O with
    | inl e => rw [hOe] at s1; exact qV s1
    | inr u => rw [hOe] at s1; rw [zy s1, qV s2]
theorem qeW {l : List qd} (hl : l.length ≤ 1000) : qk l = some (l.any fun g => qD g) := by
  obtain ⟨e, e1, e2⟩ := q2B (step := qo l (l.length : Int)) l (fun g => qD g) (fun i a ha => by
    have hi := Jo ha
    have hw : w64 ((i : Int) + 1) = ((i + 1 : Nat) : Int) := zu (n := 10000) (by omega) (by omega)
    unfold qo
    rw [if_pos (by omega), if_pos ⟨by omega, by omega⟩, Int.toNat_natCast, ha, Option.bind_some, hw]
    by_cases h : qD a = true
    · rw [if_pos h, if_pos h]
    · rw [if_neg h, if_neg h]) (by
    unfold qo
    rw [if_neg (by omega)])
  unfold qk qF
  change Option.bind (Option.bind (qS _ ((0 : Nat) : Int)) _) _ = _
  rw [e1, Option.bind_some]
  exact e2
theorem qc5 {l : List ByteArray} (hl : l.length ≤ 1000) (v : ByteArray) : qE l v = some (l.any fun c => v.toList == c.toList) := by
  obtain ⟨e, e1, e2⟩ := q2B (step := qt l v (l.length : Int)) l (fun c => v.toList == c.toList) (fun i a ha => by
    have hi := Jo ha
    have hw : w64 ((i : Int) + 1) = ((i + 1 : Nat) : Int) := zu (n := 10000) (by omega) (by omega)
    unfold qt
    rw [if_pos (by omega), if_pos ⟨by omega, by omega⟩, Int.toNat_natCast, ha, Option.bind_some, hw]
    by_cases h : (v.toList == a.toList) = true
    · rw [if_pos h, if_pos h]
    · rw [if_neg h, if_neg h]) (by
    unfold qt
    rw [if_neg (by omega)])
  unfold qE qR
  change Option.bind (Option.bind (qS _ ((0 : Nat) : Int)) _) _ = _
  rw [e1, Option.bind_some]
  exact e2
noncomputable def q1j (x : qa) (g : qd) : Bool := x.In.any fun c => c.toList == g.Code.toList
theorem qcF {x : qa} (hi : x.In.length ≤ 1000) (ho : x.Out.length ≤ 1000) : qh x.Out x = some (x.Out.any (q1j x)) := by
  obtain ⟨e, e1, e2⟩ := q2B (step := ql x x.Out (x.Out.length : Int)) x.Out (q1j x) (fun i a ha => by
    have hi := Jo ha
    have hw : w64 ((i : Int) + 1) = ((i + 1 : Nat) : Int) := zu (n := 10000) (by omega) (by omega)
    have hc : (x.In.any fun c => a.Code.toList == c.toList) = q1j x a := by
      unfold q1j
      congr 1
      funext c
      exact BEq.comm
    unfold ql
    rw [if_pos (by omega), if_pos ⟨by omega, by omega⟩, Int.toNat_natCast, ha, Option.bind_some, Qe, qc5 (by omega), Option.bind_some, Option.bind_some, hc, hw]
    by_cases h : q1j x a = true
    · rw [if_pos h, if_pos h]
    · rw [if_neg h, if_neg h]) (by
    unfold ql
    rw [if_neg (by omega)])
  unfold qh qy
  change Option.bind (Option.bind (qS _ ((0 : Nat) : Int)) _) _ = _
  rw [e1, Option.bind_some]
  exact e2
theorem bey (n lo hi : Int) : (qr n lo hi = true) ↔ (n < lo ∨ hi < n) := by
  unfold qr
  by_cases h : n < lo
  · rw [if_pos h]; simp [h]
  · rw [if_neg h, decide_eq_true_eq]; simp [h]
theorem qdK {x : qa} (hl : x.Out.length ≤ 1000) : qS (qv x) (0 : Int) = some (if (x.Out.any fun g => qD g) = true then .inl () else .inr ()) := by
  exact q2x (step := qv x) x.Out (fun g => qD g) (fun i a ha => by
    have hi := Jo ha
    have hw : w64 ((i : Int) + 1) = ((i + 1 : Nat) : Int) := zu (n := 10000) (by omega) (by omega)
    have hb : qD a = true ↔ (a.Credits < 1 ∨ 60 < a.Credits) := bey _ _ _
    unfold qv
    rw [if_pos (by omega), if_pos ⟨by omega, by omega⟩, Int.toNat_natCast, ha, Option.bind_some, hw]
    by_cases h1 : a.Credits < 1
    · rw [if_pos h1, if_pos (hb.2 (.inl h1))]
    · rw [if_neg h1, if_pos ⟨by omega, by omega⟩, Option.bind_some]
      by_cases h2 : 60 < a.Credits
      · rw [if_pos h2, if_pos (hb.2 (.inr h2))]
      · rw [if_neg h2, if_neg (fun q => (hb.1 q).elim h1 h2)]) (by
    unfold qv
    rw [if_neg (by omega)])
theorem qa9 {x : qa} (hi : x.In.length ≤ 1000) (ho : x.Out.length ≤ 1000) : qS (qw x) (0 : Int) = some (if (x.From == x.To && x.Out.any (q1j x)) = true then .inl () else .inr ()) := by
  have h1 := q2x (step := qw x) x.Out (fun g => x.From == x.To && q1j x g) (fun i a ha => by
    have hi := Jo ha
    have hw : w64 ((i : Int) + 1) = ((i + 1 : Nat) : Int) := zu (n := 10000) (by omega) (by omega)
    unfold qw
    rw [if_pos (by omega), hw]
    by_cases hf : (x.From == x.To) = true
    · rw [if_pos hf, if_pos ⟨by omega, by omega⟩, Int.toNat_natCast, ha, Option.bind_some, q6l (by omega), Option.bind_some, hf, Bool.true_and]
      by_cases h : q1j x a = true
      · rw [if_pos h]; exact if_pos h
      · rw [if_neg h]; exact if_neg h
    · rw [if_neg hf, Bool.eq_false_iff.2 hf, Bool.false_and, if_neg (by decide)]) (by
    unfold qw
    rw [if_neg (by omega)])
  have h2 : (x.Out.any fun g => x.From == x.To && q1j x g) = (x.From == x.To && x.Out.any (q1j x)) := by
    cases x.From == x.To
    · simp
    · simp
  rw [h2] at h1
  exact h1
theorem qd9 (c : qb) : qm c = qu c := by
  have hlim : ∀ n lo hi : Int, lo ≤ hi → ((qn n lo hi != n) = true ↔ ¬ (lo ≤ n ∧ n ≤ hi)) := fun n lo hi h => by
    unfold qn
    rw [bne_iff_ne]
    omega
  have hnear : ∀ n : Int, ((!(qZ n 1000)) = true ↔ ¬ (-1000 ≤ n ∧ n ≤ 1000)) := fun n => by
    unfold qZ
    rw [show w64 ((0 : Int) - 1000) = -1000 from Qz (by omega) (by omega)]
    by_cases h : -1000 ≤ n
    · rw [if_pos h]; simp [h]
    · rw [if_neg h]; simp [h]
  unfold qm qu
  simp only [hlim _ 1 1000 (by decide), hlim _ (-1000) 1000 (by decide), hlim _ 1 4 (by decide), hnear]
  repeat' split
  all_goals first | rfl | (exfalso; omega)
theorem qct {x : qa} (hl : x.Out.length ≤ 1000) : zV x = some (x.Out.map (·.Code)) := by
  have key : ∀ (r : List qd) (i : Nat) (out : List ByteArray), r.length + i = x.Out.length → (∀ j, r[j]? = x.Out[i + j]?) → out.length ≤ i → qS (zp x) (out, (i : Int)) = some (out ++ r.map (·.Code)) := by
    intro r
    induction r with
    | nil =>
      intro i out hi _ _
      refine qV ?_
      unfold zp
      dsimp only
      rw [if_neg (by simp at hi; omega), List.map_nil, List.append_nil]
    | cons a r ih =>
      intro i out hi hr ho
      simp only [List.length_cons] at hi
      have ha : x.Out[i]? = some a := by have := hr 0; simpa using this.symm
      have hw : w64 ((i : Int) + 1) = ((i + 1 : Nat) : Int) := zu (n := 10000) (by omega) (by omega)
      have hm : (1000000 : Nat) ≤ Go.maxLen := by decide
      rw [zy (y := (out ++ [a.Code], ((i + 1 : Nat) : Int))) ?_, ih (i + 1) _ (by omega) (fun j => ?_) (by rw [List.length_append, List.length_singleton]; omega), List.map_cons, List.append_assoc, List.singleton_append]
      · have := hr (j + 1)
        rw [show i + 1 + j = i + (j + 1) by omega, ← this]; rfl
      · unfold zp
        dsimp only
        rw [if_pos (by omega), if_pos ⟨by omega, by omega⟩, Int.toNat_natCast, ha, Option.bind_some, if_pos ⟨by omega, by omega⟩, hw]
  have := key x.Out 0 [] (by simp) (by simp) (Nat.le_refl _)
  unfold zV
  change Option.bind (qS _ ([], ((0 : Nat) : Int))) _ = _
  rw [this, Option.bind_some, List.nil_append]
theorem q5R {x : qa} (h : Bnd 1000 x) : ∃ e, Qd x = some e ∧ Qg x = some e := by
  obtain ⟨h1, h2, h3, h4⟩ := h
  have hol : (x.Out.map (·.Code)).length ≤ 1000 := by rw [List.length_map]; exact h2
  have hos : ∀ c ∈ x.Out.map (·.Code), c.size ≤ 12 := fun c hc => by obtain ⟨g, hg, rfl⟩ := List.mem_map.1 hc; exact h4 g hg
  have rc : ∀ l : List ByteArray, l.length ≤ 1000 → (∀ c ∈ l, c.size ≤ 12) → qY l = some (match QQ l with | .inl e => e | .inr _ => 0) := fun l hl hs => by
    unfold qY
    rw [qlE hl hs, Option.bind_some]
    cases QQ l <;> rfl
  have tailR : ∃ e, (Option.bind (qY x.In) fun (a : Int) =>
    if (a == (0 : Int)) = Bool.true then Option.bind (zV x) fun (a2 : List ByteArray) =>
      Option.bind (qY a2) fun (a3 : Int) =>
      if (a3 != (0 : Int)) = Bool.true then some a3
      else Option.bind (qS (qv x) (0 : Int)) fun (a4 : Sum Unit Unit) =>
      Sum.elim (fun (a5 : Unit) => some (3 : Int)) (fun (a6 : Unit) => Option.bind (qS (qw x) (0 : Int)) fun (a7 : Sum Unit Unit) =>
        Sum.elim (fun (a8 : Unit) => some (14 : Int)) (fun (a9 : Unit) => some (qu x.Conv)) a7) a4
    else if (a != (0 : Int)) = Bool.true then some a
    else Option.bind (qS (qv x) (0 : Int)) fun (a10 : Sum Unit Unit) =>
    Sum.elim (fun (a11 : Unit) => some (3 : Int)) (fun (a12 : Unit) => Option.bind (qS (qw x) (0 : Int)) fun (a13 : Sum Unit Unit) =>
      Sum.elim (fun (a14 : Unit) => some (14 : Int)) (fun (a15 : Unit) => some (qu x.Conv)) a13) a10) = some e ∧
     (Option.bind (zI x.Out) fun (a : List ByteArray) =>
    Option.bind (qS (qs [x.In, a] x (2 : Int)) (0 : Int)) fun (a2 : Sum Int Unit) =>
    Sum.elim (fun (a3 : Int) => some a3) (fun (a4 : Unit) => Option.bind (qk x.Out) fun (a5 : Bool) =>
      if a5 = Bool.true then some (3 : Int)
      else if (x.From == x.To) = Bool.true then Option.bind (qh x.Out x) fun (a6 : Bool) =>
        if a6 = Bool.true then some (14 : Int)
        else some (qm x.Conv)
      else some (qm x.Conv)) a2) = some e := by
    rw [rc _ h1 h3, q4s _ h2, qct h2, Option.bind_some, Option.bind_some, Option.bind_some, qle _ h1 hol, Option.bind_some, rc _ hol hos, Option.bind_some, qdK h2, qa9 h1 h2, qeW h2, qcF h1 h2, Option.bind_some, Option.bind_some, Option.bind_some, Option.bind_some, qd9]
    cases hIe : QQ x.In with
    | inl e =>
      have hne := q2p _ _ _ _ hIe
      dsimp only
      refine ⟨e, ?_, rfl⟩
      rw [if_neg (by simpa using hne), if_pos (by simpa using hne)]
    | inr u =>
      dsimp only
      rw [if_pos (by decide)]
      cases hOe : QQ (x.Out.map (·.Code)) with
      | inl e =>
        have hne := q2p _ _ _ _ hOe
        dsimp only
        refine ⟨e, ?_, rfl⟩
        rw [if_pos (by simpa using hne)]
      | inr u =>
        dsimp only
        rw [if_neg (by decide), Sum.elim_inr]
        by_cases hf : (x.Out.any fun g => qD g) = true
        · rw [if_pos hf, if_pos hf, Sum.elim_inl]
          exact ⟨_, rfl, rfl⟩
        · rw [if_neg hf, if_neg hf, Sum.elim_inr]
          by_cases hft : (x.From == x.To) = true
          · rw [if_pos hft, hft, Bool.true_and]
            by_cases hc : (x.Out.any (q1j x)) = true
            · rw [if_pos hc, if_pos hc, Sum.elim_inl]; exact ⟨_, rfl, rfl⟩
            · rw [if_neg hc, if_neg hc, Sum.elim_inr]; exact ⟨_, rfl, rfl⟩
          · rw [if_neg hft, Bool.eq_false_iff.2 hft, Bool.false_and, if_neg (by decide), Sum.elim_inr]; exact ⟨_, rfl, rfl⟩
  obtain ⟨e, t1, t2⟩ := tailR
  have L : ∃ e', (if qr ((x.In.length : Nat) : Int) (1 : Int) (3 : Int) = Bool.true then some (2 : Int)
    else if qr ((x.Out.length : Nat) : Int) (1 : Int) (3 : Int) = Bool.true then some (2 : Int) else some e) = some e' ∧
    (if ((x.In.length : Nat) : Int) < (1 : Int) then some (2 : Int)
    else if (3 : Int) < ((x.In.length : Nat) : Int) then some (2 : Int)
    else if ((x.Out.length : Nat) : Int) < (1 : Int) then some (2 : Int)
    else if (3 : Int) < ((x.Out.length : Nat) : Int) then some (2 : Int) else some e) = some e' := by
    by_cases d1 : ((x.In.length : Nat) : Int) < (1 : Int)
    · rw [if_pos ((bey _ _ _).2 (.inl d1)), if_pos d1]; exact ⟨_, rfl, rfl⟩
    by_cases d2 : (3 : Int) < ((x.In.length : Nat) : Int)
    · rw [if_pos ((bey _ _ _).2 (.inr d2)), if_neg d1, if_pos d2]; exact ⟨_, rfl, rfl⟩
    rw [if_neg (fun q => ((bey _ _ _).1 q).elim d1 d2), if_neg d1, if_neg d2]
    by_cases d3 : ((x.Out.length : Nat) : Int) < (1 : Int)
    · rw [if_pos ((bey _ _ _).2 (.inl d3)), if_pos d3]; exact ⟨_, rfl, rfl⟩
    by_cases d4 : (3 : Int) < ((x.Out.length : Nat) : Int)
    · rw [if_pos ((bey _ _ _).2 (.inr d4)), if_neg d3, if_pos d4]; exact ⟨_, rfl, rfl⟩
    rw [if_neg (fun q => ((bey _ _ _).1 q).elim d3 d4), if_neg d3, if_neg d4]
    exact ⟨_, rfl, rfl⟩
  obtain ⟨e', l1, l2⟩ := L
  have hr : ∀ n, zB n = zi n := fun _ => rfl
  unfold Qd Qg
  rw [t1, t2, l1, l2, hr, hr]
  by_cases c1 : x.Id < 1
  · rw [if_pos c1, if_pos c1]; exact ⟨_, rfl, rfl⟩
  rw [if_neg c1, if_neg c1]
  by_cases c2 : x.From < 1
  · rw [if_pos ((bey _ _ _).2 (.inl c2)), if_pos c2]; exact ⟨_, rfl, rfl⟩
  by_cases c3 : 8 < x.From
  · rw [if_pos ((bey _ _ _).2 (.inr c3)), if_neg c2, if_pos c3]; exact ⟨_, rfl, rfl⟩
  rw [if_neg (fun q => ((bey _ _ _).1 q).elim c2 c3), if_neg c2, if_neg c3]
  by_cases c4 : x.To < 1
  · rw [if_pos ((bey _ _ _).2 (.inl c4)), if_pos c4]; exact ⟨_, rfl, rfl⟩
  by_cases c5 : 8 < x.To
  · rw [if_pos ((bey _ _ _).2 (.inr c5)), if_neg c4, if_pos c5]; exact ⟨_, rfl, rfl⟩
  rw [if_neg (fun q => ((bey _ _ _).1 q).elim c4 c5), if_neg c4, if_neg c5]
  by_cases c6 : (!(zi x.Begin)) = true
  · rw [if_pos c6]; exact ⟨_, rfl, rfl⟩
  rw [if_neg c6]
  by_cases c7 : (x.End != 0) = true
  · rw [if_pos c7]
    by_cases c8 : (!(zi x.End)) = true
    · rw [if_pos c8]; exact ⟨_, rfl, rfl⟩
    rw [if_neg c8]
    by_cases c9 : x.End < x.Begin
    · rw [if_pos c9]; exact ⟨_, rfl, rfl⟩
    rw [if_neg c9]
    exact ⟨_, rfl, rfl⟩
  · rw [if_neg c7]
    exact ⟨_, rfl, rfl⟩
end Go.Proofs.YtplfjlcnffcenaaGreat.Vc
namespace Go.Proofs.YtplfjlcnffcenaaGreat.Vc
open Go.RowKit
set_option linter.unusedVariables false
set_option linter.unusedSimpArgs false
theorem tbl {α : Type} (l : List α) {i : Int} (h0 : 0 ≤ i) (h1 : i < (l.length : Int)) : ∃ v, v ∈ l ∧ l[Int.toNat i]? = some v :=
  ⟨l[Int.toNat i]'(by omega), List.getElem_mem _, List.getElem?_eq_getElem _⟩
theorem qaa : ([0, 1, 2, 3, 4, 5, 6].all fun i => decide ((cod i).size ≤ 12)) = true := by kernel_rfl
theorem q8h {i : Nat} (h : i < 7) : (cod i).size ≤ 12 := of_decide_eq_true (List.all_eq_true.1 qaa i (lt7 h))
theorem q44 (l : List qd) (i : Nat) (v : Int) : (List.modify l i (fun (x : qd) => qd.mk x.Code v)).map (·.Code) = l.map (·.Code) := by
  apply List.ext_getElem?
  intro j
  rw [List.getElem?_map, List.getElem?_map, List.getElem?_modify]
  by_cases h : i = j
  · simp only [h, if_true]; cases l[j]? <;> rfl
  · simp only [h, if_false]; cases l[j]? <;> rfl
theorem qdn {x : qa} (h1 : x.In.length ≤ 1000) (h2 : x.Out.length ≤ 1000) : Qv x = some (x.Id, x.From, x.To, x.Begin, x.End, x.Conv.Num, x.Conv.Add, x.Conv.Den, x.Conv.Round, x.In, x.Out) := by
  have hm : (1000000 : Nat) ≤ Go.maxLen := by decide
  unfold Qv
  rw [if_pos ⟨by omega, by omega⟩, if_pos ⟨by omega, by omega⟩]
theorem qb6 {n : Nat} (hn : n ≤ 100) {x : qa} (h : Bnd n x) (q : Z3 Int) : ∃ y, Ql x q = some y ∧ Bnd (n + 1) y := by
  obtain ⟨h1, h2, h3, h4⟩ := h
  have hm : (1000000 : Nat) ≤ Go.maxLen := by decide
  obtain ⟨m, e1, m0, m1⟩ := q7r q.a1 36 (by decide) (by decide)
  obtain ⟨k, e2, k0, k1⟩ := q7r q.a0 13 (by decide) (by decide)
  have same : ∀ y : qa, y.In = x.In → y.Out = x.Out → Bnd (n + 1) y := fun y g1 g2 => ⟨by rw [g1]; omega, by rw [g2]; omega, by rw [g1]; exact h3, by rw [g2]; exact h4⟩
  have inn : ∀ y : qa, y.Out = x.Out → y.In.length ≤ n + 1 → (∀ c ∈ y.In, c.size ≤ 12) → Bnd (n + 1) y := fun y g1 g2 g3 => ⟨g2, by rw [g1]; omega, g3, by rw [g1]; exact h4⟩
  have onn : ∀ y : qa, y.In = x.In → y.Out.length ≤ n + 1 → (∀ g ∈ y.Out, g.Code.size ≤ 12) → Bnd (n + 1) y := fun y g1 g2 g3 => ⟨by rw [g1]; omega, g2, by rw [g1]; exact h3, g3⟩
  have t40 := Int.tmod_nonneg 4 m0
  have t41 := Int.tmod_lt_of_pos m (show (0 : Int) < 4 by decide)
  have t50 := Int.tmod_nonneg 5 m0
  have t51 := Int.tmod_lt_of_pos m (show (0 : Int) < 5 by decide)
  have t60 := Int.tmod_nonneg 6 m0
  have t61 := Int.tmod_lt_of_pos m (show (0 : Int) < 6 by decide)
  have wi1 : w64 (((x.In.length : Nat) : Int) + (1 : Int)) = ((x.In.length : Nat) : Int) + 1 := Qz (by omega) (by omega)
  have wo1 : w64 (((x.Out.length : Nat) : Int) + (1 : Int)) = ((x.Out.length : Nat) : Int) + 1 := Qz (by omega) (by omega)
  unfold Ql
  rw [qdn (by omega) (by omega), Option.bind_some, e1, Option.bind_some, e2, Option.bind_some]
  dsimp only
  by_cases c0 : (k == 0) = true
  · rw [if_pos c0]; exact ⟨_, rfl, same _ rfl rfl⟩
  rw [if_neg c0]
  by_cases c1 : (k == 1) = true
  · rw [if_pos c1]; exact ⟨_, rfl, same _ rfl rfl⟩
  rw [if_neg c1]
  by_cases c2 : (k == 2) = true
  · rw [if_pos c2]; exact ⟨_, rfl, same _ rfl rfl⟩
  rw [if_neg c2]
  by_cases c3 : (k == 3) = true
  · obtain ⟨v, -, hv⟩ := tbl [(-(1 : Int)), (0 : Int), (100000 : Int), (100001 : Int)] t40 t41
    rw [if_pos c3, if_pos ⟨t40, t41⟩, hv, Option.bind_some]
    exact ⟨_, rfl, same _ rfl rfl⟩
  rw [if_neg c3]
  by_cases c4 : (k == 4) = true
  · obtain ⟨v, -, hv⟩ := tbl [(-(1 : Int)), w64 (x.Begin - (1 : Int)), x.Begin, (100000 : Int), (100001 : Int), (0 : Int)] t60 t61
    rw [if_pos c4, if_pos ⟨t60, t61⟩, hv, Option.bind_some]
    exact ⟨_, rfl, same _ rfl rfl⟩
  rw [if_neg c4]
  obtain ⟨j, hj⟩ : ∃ j : Nat, Int.tmod m 6 = j := ⟨(Int.tmod m 6).toNat, by omega⟩
  obtain ⟨g1, g2, g3⟩ := q3Y (k := j) (by omega)
  have g4 := q8h (i := j) (by omega)
  rw [hj]
  by_cases c5 : (k == 5) = true
  · rw [if_pos c5, if_pos ⟨g1, g2⟩, g3, Option.bind_some, if_pos ⟨by omega, by omega⟩]
    refine ⟨_, rfl, inn _ rfl ?_ ?_⟩
    · show (x.In ++ [cod j]).length ≤ n + 1
      rw [List.length_append, List.length_singleton]; omega
    · show ∀ c ∈ x.In ++ [cod j], c.size ≤ 12
      intro c hc
      rcases List.mem_append.1 hc with hc | hc
      · exact h3 c hc
      · rw [List.mem_singleton] at hc; rw [hc]; exact g4
  rw [if_neg c5]
  by_cases c6 : (k == 6) = true
  · have u0 := Int.tmod_nonneg (((x.In.length : Nat) : Int) + 1) m0
    have u1 := Int.tmod_lt_of_pos m (show (0 : Int) < ((x.In.length : Nat) : Int) + 1 by omega)
    rw [if_pos c6, wi1, if_neg (by omega), if_pos ⟨u0, by omega⟩]
    refine ⟨_, rfl, inn _ rfl ?_ ?_⟩
    · show (List.take _ x.In).length ≤ n + 1
      rw [List.length_take]; omega
    · show ∀ c ∈ List.take _ x.In, c.size ≤ 12
      exact fun c hc => h3 c (List.mem_of_mem_take hc)
  rw [if_neg c6]
  by_cases c7 : (k == 7) = true
  · rw [if_pos c7, if_pos ⟨g1, g2⟩, g3, Option.bind_some, if_pos ⟨by omega, by omega⟩]
    refine ⟨_, rfl, onn _ rfl ?_ ?_⟩
    · show (x.Out ++ [qd.mk (cod j) m]).length ≤ n + 1
      rw [List.length_append, List.length_singleton]; omega
    · show ∀ g ∈ x.Out ++ [qd.mk (cod j) m], g.Code.size ≤ 12
      intro c hc
      rcases List.mem_append.1 hc with hc | hc
      · exact h4 c hc
      · rw [List.mem_singleton] at hc; rw [hc]; exact g4
  rw [if_neg c7]
  by_cases c8 : (k == 8) = true
  · have u0 := Int.tmod_nonneg (((x.Out.length : Nat) : Int) + 1) m0
    have u1 := Int.tmod_lt_of_pos m (show (0 : Int) < ((x.Out.length : Nat) : Int) + 1 by omega)
    rw [if_pos c8, wo1, if_neg (by omega), if_pos ⟨u0, by omega⟩]
    refine ⟨_, rfl, onn _ rfl ?_ ?_⟩
    · show (List.take _ x.Out).length ≤ n + 1
      rw [List.length_take]; omega
    · show ∀ g ∈ List.take _ x.Out, g.Code.size ≤ 12
      exact fun c hc => h4 c (List.mem_of_mem_take hc)
  rw [if_neg c8]
  by_cases c9 : (k == 9) = true
  · rw [if_pos c9]
    by_cases hl : (0 : Int) < ((x.Out.length : Nat) : Int)
    · obtain ⟨v, -, hv⟩ := tbl [(0 : Int), (1 : Int), (60 : Int), (61 : Int)] t40 t41
      have u0 := Int.tmod_nonneg ((x.Out.length : Nat) : Int) m0
      have u1 := Int.tmod_lt_of_pos m hl
      rw [if_pos hl, if_neg (by omega), if_pos ⟨t40, t41⟩, hv, Option.bind_some, if_pos ⟨u0, u1⟩, if_pos (by omega)]
      refine ⟨_, rfl, onn _ rfl ?_ ?_⟩
      · show (List.modify x.Out _ _).length ≤ n + 1
        rw [List.length_modify]; omega
      · show ∀ g ∈ List.modify x.Out _ (fun (x : qd) => qd.mk x.Code v), g.Code.size ≤ 12
        intro g hg
        have h5 := List.mem_map_of_mem (f := fun g : qd => g.Code) hg
        rw [q44] at h5
        obtain ⟨g', h6, h7⟩ := List.mem_map.1 h5
        rw [← h7]
        exact h4 g' h6
    · rw [if_neg hl]; exact ⟨_, rfl, same _ rfl rfl⟩
  rw [if_neg c9]
  by_cases c10 : (k == 10) = true
  · obtain ⟨v, -, hv⟩ := tbl [(0 : Int), (1 : Int), (1000 : Int), (1001 : Int)] t40 t41
    rw [if_pos c10, if_pos ⟨t40, t41⟩, hv, Option.bind_some]
    exact ⟨_, rfl, same _ rfl rfl⟩
  rw [if_neg c10]
  by_cases c11 : (k == 11) = true
  · rw [if_pos c11]; exact ⟨_, rfl, same _ rfl rfl⟩
  rw [if_neg c11]
  by_cases c12 : (k == 12) = true
  · rw [if_pos c12]
    by_cases hl : (0 : Int) < ((x.In.length : Nat) : Int)
    · obtain ⟨v, hv0, hv⟩ := tbl [ByteArray.mk (List.toArray []), ByteArray.mk (List.toArray [97]), ByteArray.mk (List.toArray [65, 49]), ByteArray.mk (List.toArray [90]), ByteArray.mk (List.toArray [65, 66, 67, 68, 69, 70, 71, 72, 73])] t50 t51
      have hvs : v.size ≤ 12 := by
        simp only [List.mem_cons, List.not_mem_nil, or_false] at hv0
        rcases hv0 with rfl | rfl | rfl | rfl | rfl <;> decide
      rw [if_pos hl, if_pos ⟨t50, t51⟩, hv, Option.bind_some, if_pos hl, if_pos (by omega)]
      refine ⟨_, rfl, inn _ rfl ?_ ?_⟩
      · show (List.set x.In 0 v).length ≤ n + 1
        rw [List.length_set]; omega
      · show ∀ c ∈ List.set x.In 0 v, c.size ≤ 12
        intro c hc
        rcases List.mem_or_eq_of_mem_set hc with hc | hc
        · exact h3 c hc
        · rw [hc]; exact hvs
    · rw [if_neg hl]; exact ⟨_, rfl, same _ rfl rfl⟩
  rw [if_neg c12]
  exact ⟨_, rfl, same _ rfl rfl⟩
end Go.Proofs.YtplfjlcnffcenaaGreat.Vc
namespace Go.Proofs.YtplfjlcnffcenaaGreat.Vc
open Go.RowKit
set_option linter.unusedVariables false
set_option linter.unusedSimpArgs false
theorem Bnd.mono {n m : Nat} (hnm : n ≤ m) {x : qa} (h : Bnd n x) : Bnd m x := ⟨Nat.le_trans h.li hnm, Nat.le_trans h.lo hnm, h.ci, h.co⟩
theorem q5b (a : ByteArray) {k : Nat} (hk : k ≤ 12) : (ByteArray.extract a 0 k).size ≤ 12 := by
  rw [ByteArray.size_extract]; omega
theorem qaE (x : qa) (z1 z2 z3 z4 z5 z6 z7 z8 z9 y1 y2 y3 y4 y5 y6 y7 y8 y9 : Int) : ∀ (j i : Nat) (w : List ByteArray), j + i = min x.In.length 5 → w.length = i → (∀ c ∈ w, c.size ≤ 12) →
    ∃ w', qS (zj x z1 z2 z3 z4 z5 z6 z7 z8 z9 y1 y2 y3 y4 y5 y6 y7 y8 y9) (w, (i : Int)) = some w' ∧ w'.length ≤ 5 ∧ ∀ c ∈ w', c.size ≤ 12
  | 0, i, w, hi, hw, hc => by
    refine ⟨w, qV ?_, by omega, hc⟩
    unfold zj
    dsimp only
    by_cases h : (i : Int) < ((x.In.length : Nat) : Int)
    · rw [if_pos h, if_neg (by omega)]
    · rw [if_neg h]
  | j + 1, i, w, hi, hw, hc => by
    have hil : i < x.In.length := by omega
    have hws : w64 ((i : Int) + 1) = ((i + 1 : Nat) : Int) := zu (n := 10000) (by omega) (by omega)
    have hm : (1000000 : Nat) ≤ Go.maxLen := by decide
    have ha : x.In[i]? = some x.In[i] := List.getElem?_eq_getElem hil
    have he := q5b x.In[i] (k := Int.toNat (min ((ByteArray.size x.In[i] : Nat) : Int) (12 : Int))) (by omega)
    obtain ⟨w', q1, q2⟩ := qaE x z1 z2 z3 z4 z5 z6 z7 z8 z9 y1 y2 y3 y4 y5 y6 y7 y8 y9 j (i + 1) (w ++ [ByteArray.extract x.In[i] 0 (Int.toNat (min ((ByteArray.size x.In[i] : Nat) : Int) (12 : Int)))]) (by omega) (by rw [List.length_append, List.length_singleton, hw]) (fun c h => by
      rcases List.mem_append.1 h with h | h
      · exact hc c h
      · rw [List.mem_singleton] at h; rw [h]; exact he)
    refine ⟨w', ?_, q2⟩
    rw [zy (y := (w ++ [ByteArray.extract x.In[i] 0 (Int.toNat (min ((ByteArray.size x.In[i] : Nat) : Int) (12 : Int)))], ((i + 1 : Nat) : Int))) ?_, q1]
    unfold zj
    dsimp only
    rw [if_pos (by omega), if_pos (by omega), if_pos ⟨by omega, by omega⟩, Int.toNat_natCast, ha, Option.bind_some, if_pos ⟨by omega, by omega⟩, Option.bind_some, if_pos ⟨by omega, by omega⟩, if_pos ⟨by omega, by omega⟩, hws]
theorem q6Z (I : List ByteArray) (x : qa) (z1 z2 z3 z4 z5 z6 z7 z8 z9 y1 y2 y3 y4 y5 y6 y7 y8 y9 : Int) : ∀ (j i : Nat) (w : List qd), j + i = min x.Out.length 5 → w.length = i → (∀ g ∈ w, g.Code.size ≤ 12) →
    ∃ w', qS (zh I x z1 z2 z3 z4 z5 z6 z7 z8 z9 y1 y2 y3 y4 y5 y6 y7 y8 y9) (w, (i : Int)) = some w' ∧ w'.length ≤ 5 ∧ ∀ g ∈ w', g.Code.size ≤ 12
  | 0, i, w, hi, hw, hc => by
    refine ⟨w, qV ?_, by omega, hc⟩
    unfold zh
    dsimp only
    by_cases h : (i : Int) < ((x.Out.length : Nat) : Int)
    · rw [if_pos h, if_neg (by omega)]
    · rw [if_neg h]
  | j + 1, i, w, hi, hw, hc => by
    have hil : i < x.Out.length := by omega
    have hws : w64 ((i : Int) + 1) = ((i + 1 : Nat) : Int) := zu (n := 10000) (by omega) (by omega)
    have hm : (1000000 : Nat) ≤ Go.maxLen := by decide
    have ha : x.Out[i]? = some x.Out[i] := List.getElem?_eq_getElem hil
    have he := q5b x.Out[i].Code (k := Int.toNat (min ((ByteArray.size x.Out[i].Code : Nat) : Int) (12 : Int))) (by omega)
    obtain ⟨w', q1, q2⟩ := q6Z I x z1 z2 z3 z4 z5 z6 z7 z8 z9 y1 y2 y3 y4 y5 y6 y7 y8 y9 j (i + 1) (w ++ [qd.mk (ByteArray.extract x.Out[i].Code 0 (Int.toNat (min ((ByteArray.size x.Out[i].Code : Nat) : Int) (12 : Int)))) x.Out[i].Credits]) (by omega) (by rw [List.length_append, List.length_singleton, hw]) (fun c h => by
      rcases List.mem_append.1 h with h | h
      · exact hc c h
      · rw [List.mem_singleton] at h; rw [h]; exact he)
    refine ⟨w', ?_, q2⟩
    rw [zy (y := (w ++ [qd.mk (ByteArray.extract x.Out[i].Code 0 (Int.toNat (min ((ByteArray.size x.Out[i].Code : Nat) : Int) (12 : Int)))) x.Out[i].Credits], ((i + 1 : Nat) : Int))) ?_, q1]
    unfold zh
    dsimp only
    rw [if_pos (by omega), if_pos (by omega), if_pos ⟨by omega, by omega⟩, Int.toNat_natCast, ha, Option.bind_some, if_pos ⟨by omega, by omega⟩, Option.bind_some, if_pos ⟨by omega, by omega⟩, if_pos ⟨by omega, by omega⟩, Option.bind_some, if_pos ⟨by omega, by omega⟩, hws]
theorem qfV (x : qa) : ∃ y, QN x = some y ∧ Bnd 5 y := by
  obtain ⟨I, i1, i2, i3⟩ := qaE x 0 0 0 0 0 0 0 0 0 x.Id x.From x.To x.Begin x.End x.Conv.Num x.Conv.Add x.Conv.Den x.Conv.Round (min x.In.length 5) 0 [] (by omega) rfl (fun c h => by simp at h)
  obtain ⟨O, o1, o2, o3⟩ := q6Z I x 0 0 0 0 0 0 0 0 0 x.Id x.From x.To x.Begin x.End x.Conv.Num x.Conv.Add x.Conv.Den x.Conv.Round (min x.Out.length 5) 0 [] (by omega) rfl (fun c h => by simp at h)
  refine ⟨⟨x.Id, x.From, x.To, x.Begin, x.End, I, O, x.Conv⟩, ?_, i2, o2, i3, o3⟩
  unfold QN
  have i1' : qS (zj x (0 : Int) (0 : Int) (0 : Int) (0 : Int) (0 : Int) (0 : Int) (0 : Int) (0 : Int) (0 : Int) x.Id x.From x.To x.Begin x.End x.Conv.Num x.Conv.Add x.Conv.Den x.Conv.Round) ([], (0 : Int)) = some I := i1
  have o1' : qS (zh I x (0 : Int) (0 : Int) (0 : Int) (0 : Int) (0 : Int) (0 : Int) (0 : Int) (0 : Int) (0 : Int) x.Id x.From x.To x.Begin x.End x.Conv.Num x.Conv.Add x.Conv.Den x.Conv.Round) ([], (0 : Int)) = some O := o1
  rw [i1', Option.bind_some, o1', Option.bind_some]
theorem qdV {a : qa} (h : q5X a) : Bnd 5 a := by
  obtain ⟨l, hl, hl1, hI⟩ := h.inn
  obtain ⟨m, hm, hm1, hO⟩ := h.out
  have hll := hl.len
  have hml := hm.len
  have hOl : a.Out.length = m.length := by have := congrArg List.length hO; unfold sd at this; simpa using this
  refine ⟨by rw [hI]; unfold sd; rw [List.length_map]; omega, by omega, ?_, ?_⟩
  · rw [hI]
    intro c hc
    obtain ⟨i, hi, rfl⟩ := List.mem_map.1 hc
    exact q8h (hl.lt i hi)
  · intro g hg
    have h1 : g.Code ∈ a.Out.map (·.Code) := List.mem_map.2 ⟨g, hg, rfl⟩
    rw [hO] at h1
    obtain ⟨i, hi, e⟩ := List.mem_map.1 h1
    rw [← e]
    exact q8h (hm.lt i hi)
theorem qac (w2 w3 : List qa) (b0 : Z3 (Z3 Int)) (b1 : qz) (t7 : Bool) (t21 t22 : Int) (hw3 : w3.length = 3) (hb : ∀ x ∈ w3, Bnd 1000 x) : qS (qB w2 w3 b0 b1 t7 t21 t22 (3 : Int)) (0 : Int) = some (.inr ()) := by
  have hv : ∀ (a : qa) (d : Int), zq a d = zr a d := fun _ _ => rfl
  refine q4Q (step := qB w2 w3 b0 b1 t7 t21 t22 (3 : Int)) (e := .inr ()) (fun i => (i : Int)) 0 3 (Nat.zero_le _) (fun i _ hi => ?_) ?_
  · have hw : w64 ((i : Int) + 1) = ((i + 1 : Nat) : Int) := zu (n := 10000) (by omega) (by omega)
    have hil : i < w3.length := by omega
    obtain ⟨e, e1, e2⟩ := q5R (hb _ (List.getElem_mem hil))
    unfold qB
    rw [if_pos (by omega), if_pos ⟨by omega, by omega⟩, Int.toNat_natCast, List.getElem?_eq_getElem hil, Option.bind_some, e1, Option.bind_some, e2, Option.bind_some, if_neg (by simp), hv, hv, hv, if_neg (by simp), if_neg (by simp), if_neg (by simp), hw]
  · unfold qB
    rw [if_neg (by decide)]
theorem q0E (x0 : List (List Int)) (x1 : Z3 (Z3 Int)) (x2 : qz) (hl : x0.length ≤ maxLen) (hx : ∀ x ∈ x0, x.length ≤ maxLen) : zn x0 x1 x2 = some true := by
  have hm : Go.maxLen = 9223372036854775807 := by decide
  obtain ⟨M, e1, hM⟩ := qcy x0 (by omega) (fun x hx' => by have := hx x hx'; omega)
  have hlen := hM.len
  obtain ⟨c, e2, hc⟩ := qfV x2.Agreement
  have hall : ∀ a ∈ M ++ [c], Bnd 5 a := by
    intro a ha
    rcases List.mem_append.1 ha with ha | ha
    · obtain ⟨k, hk, e⟩ := List.getElem_of_mem ha
      exact qdV (hM.ok k a (by rw [List.getElem?_eq_getElem hk, e])).1
    · rw [List.mem_singleton] at ha; rw [ha]; exact hc
  have hll : (M ++ [c]).length = M.length + 1 := by rw [List.length_append, List.length_singleton]
  have hloop : qS (qJ (M ++ [c]) x1 x2 true ((M.length + 1 : Nat) : Int)) (0 : Int) = some (.inr ()) := by
    refine q4Q (step := qJ (M ++ [c]) x1 x2 true ((M.length + 1 : Nat) : Int)) (e := .inr ()) (fun i => (i : Int)) 0 (M.length + 1) (Nat.zero_le _) (fun i _ hi => ?_) ?_
    · have hw : w64 ((i : Int) + 1) = ((i + 1 : Nat) : Int) := zu (n := 10000) (by omega) (by omega)
      have hil : i < (M ++ [c]).length := by omega
      have hb := hall _ (List.getElem_mem hil)
      have ha : (M ++ [c])[i]? = some (M ++ [c])[i] := List.getElem?_eq_getElem hil
      generalize (M ++ [c])[i] = a at hb ha
      obtain ⟨a2, o1, b2⟩ := qb6 (by decide) hb x1.a0
      obtain ⟨a3, o2, b3⟩ := qb6 (by decide) b2 x1.a1
      unfold qJ
      rw [if_pos (by omega), if_pos ⟨by omega, by omega⟩, Int.toNat_natCast, ha, Option.bind_some, o1, Option.bind_some, o2, Option.bind_some, qac _ _ _ _ _ _ _ rfl (fun x hx => by
        simp only [List.mem_cons, List.not_mem_nil, or_false] at hx
        rcases hx with rfl | rfl | rfl
        · exact hb.mono (by decide)
        · exact b2.mono (by decide)
        · exact b3.mono (by decide)), Option.bind_some, Sum.elim_inr, hw]
    · unfold qJ
      rw [if_neg (by omega)]
  unfold zn
  rw [e1, Option.bind_some, e2, Option.bind_some, if_pos ⟨by omega, by omega⟩, hloop, Option.bind_some, Sum.elim_inr]
end Go.Proofs.YtplfjlcnffcenaaGreat.Vc
namespace Go.Proofs.YtplfjlcnffcenaaGreat.Vc
open Go.RowKit
set_option linter.unusedVariables false
set_option maxRecDepth 100000
theorem za {α : Type} (ds : List α) (o s : Nat) : ds.drop o = (ds.drop o).take s ++ ds.drop (o + s) := by
  rw [← List.drop_drop]; exact (List.take_append_drop s _).symm
theorem q0k {X : Type} {E : X → List D} {W : X → Prop} {sz : Nat} (hz : 0 < sz) : ∀ (m : Nat) (es : List D), es.length = m * sz → (∀ i, i < m → ∃ x, (es.drop (i * sz)).take sz = E x ∧ W x) → ∃ l : List X, es = l.flatMap E ∧ l.length = m ∧ ∀ x ∈ l, W x
  | 0, es, hl, _ => ⟨[], by rw [Nat.zero_mul] at hl; exact List.eq_nil_of_length_eq_zero hl, rfl, by simp⟩
  | m + 1, es, hl, h => by
    obtain ⟨x, hx, wx⟩ := h 0 (by omega)
    obtain ⟨l, g1, g2, g3⟩ := q0k hz m (es.drop sz) (by rw [List.length_drop, hl, Nat.add_mul]; omega) fun i hi => by
      obtain ⟨y, hy, wy⟩ := h (i + 1) (by omega)
      refine ⟨y, ?_, wy⟩
      rw [List.drop_drop, show sz + i * sz = (i + 1) * sz by rw [Nat.add_mul, Nat.one_mul, Nat.add_comm]]; exact hy
    refine ⟨x :: l, ?_, by simp [g2], fun y hy => ?_⟩
    · rw [Nat.zero_mul, List.drop_zero] at hx
      rw [List.flatMap_cons, ← g1, ← hx, List.take_append_drop]
    · rcases List.mem_cons.1 hy with rfl | hy
      · exact wx
      · exact g3 y hy
abbrev qjq : List TypeId := [22, 45, 3, 24, 23, 35, 30, 25, 9, 26, 79, 28, 32, 33, 53, 51]
theorem q6Y : qjO Tryz.prog qjq = true := by kernel_rfl
theorem ty3 : ∀ (n : Nat) (ds : List D), qK Tryz.prog n 3 ds → ∃ v : Int, ds = [D.int .i64 v] ∧ (Lit.int .i64 v).wf = true := by
  intro n ds h
  cases n with
  | zero => exact h.elim
  | succ n =>
    unfold qK at h
    rw [Tryz.underlying3] at h
    obtain ⟨z, h1, h2⟩ := h
    exact ⟨z, h1, h2⟩
theorem cz3 : Tryz.prog.cellsOf 3 = 1 := by kernel_rfl
theorem qjk : ∀ (n : Nat) (ds : List D), qK Tryz.prog n 45 ds → ∃ v : List Int, ds = [D.sl 1 v.length (v.flatMap eI)] ∧ (v.length ≤ maxLen ∧ ∀ y ∈ v, (Lit.int .i64 y).wf = true) := by
  intro n ds h
  cases n with
  | zero => exact h.elim
  | succ n =>
    unfold qK at h
    rw [Tryz.underlying45] at h
    obtain ⟨m, es, h1, h2, h3, h4⟩ := h
    rw [cz3] at h1 h3 h4
    obtain ⟨l, g1, g2, g3⟩ := q0k (E := eI) (W := fun y => (Lit.int .i64 y).wf = true) (sz := 1) (by decide) m es h3 fun i hi => by
      obtain ⟨v, q1, q2⟩ := ty3 n _ (h4 i hi)
      exact ⟨v, q1.trans (rfl), q2⟩
    refine ⟨l, ?_, by omega, g3⟩
    rw [h1, g1, g2]
theorem qjm : Tryz.prog.cellsOf 45 = 1 := by kernel_rfl
theorem ty22 : ∀ (n : Nat) (ds : List D), qK Tryz.prog n 22 ds → ∃ v : List (List Int), ds = [D.sl 1 v.length (v.flatMap (eL 1 eI))] ∧ (v.length ≤ maxLen ∧ ∀ y ∈ v, (y.length ≤ maxLen ∧ ∀ yy ∈ y, (Lit.int .i64 yy).wf = true)) := by
  intro n ds h
  cases n with
  | zero => exact h.elim
  | succ n =>
    unfold qK at h
    rw [Tryz.underlying22] at h
    obtain ⟨m, es, h1, h2, h3, h4⟩ := h
    rw [qjm] at h1 h3 h4
    obtain ⟨l, g1, g2, g3⟩ := q0k (E := (eL 1 eI)) (W := fun y => (y.length ≤ maxLen ∧ ∀ yy ∈ y, (Lit.int .i64 yy).wf = true)) (sz := 1) (by decide) m es h3 fun i hi => by
      obtain ⟨v, q1, q2⟩ := qjk n _ (h4 i hi)
      exact ⟨v, q1.trans (rfl), q2⟩
    refine ⟨l, ?_, by omega, g3⟩
    rw [h1, g1, g2]
theorem qeF : Tryz.prog.cellsOf 23 = 2 := by kernel_rfl
theorem qkp : ∀ (n : Nat) (ds : List D), qK Tryz.prog n 23 ds → ∃ v : Z3 Int, ds = [D.int .i64 v.a0, D.int .i64 v.a1] ∧ ((Lit.int .i64 v.a0).wf = true ∧ (Lit.int .i64 v.a1).wf = true) := by
  intro n ds h
  cases n with
  | zero => exact h.elim
  | succ n =>
    unfold qK at h
    rw [Tryz.underlying23] at h
    obtain ⟨hl, hf⟩ := h
    rw [qeF] at hl
    have h0 : qK Tryz.prog n 3 ((ds.drop 0).take (Tryz.prog.cellsOf 3)) := by
      have := hf 0 (by decide)
      rwa [cz3] at this ⊢
    rw [cz3] at h0
    obtain ⟨v0, e0, w0⟩ := ty3 _ _ h0
    have c0 := za ds 0 1
    rw [e0] at c0
    have h1 : qK Tryz.prog n 3 ((ds.drop 1).take (Tryz.prog.cellsOf 3)) := by
      have := hf 1 (by decide)
      rwa [cz3] at this ⊢
    rw [cz3] at h1
    obtain ⟨v1, e1, w1⟩ := ty3 _ _ h1
    have c1 := za ds 1 1
    rw [e1] at c1
    have cl : ds.drop 2 = [] := List.drop_eq_nil_of_le (by omega)
    refine ⟨⟨v0, v1⟩, ?_, ⟨w0, w1⟩⟩
    have c : ds.drop 0 = _ := c0
    simp only [Nat.reduceAdd] at c0 c1 c
    rw [c1, cl] at c
    exact c
theorem qmV : Tryz.prog.cellsOf 24 = 4 := by kernel_rfl
theorem ty24 : ∀ (n : Nat) (ds : List D), qK Tryz.prog n 24 ds → ∃ v : Z3 (Z3 Int), ds = [D.int .i64 v.a0.a0, D.int .i64 v.a0.a1, D.int .i64 v.a1.a0, D.int .i64 v.a1.a1] ∧ (((Lit.int .i64 v.a0.a0).wf = true ∧ (Lit.int .i64 v.a0.a1).wf = true) ∧ ((Lit.int .i64 v.a1.a0).wf = true ∧ (Lit.int .i64 v.a1.a1).wf = true)) := by
  intro n ds h
  cases n with
  | zero => exact h.elim
  | succ n =>
    unfold qK at h
    rw [Tryz.underlying24] at h
    obtain ⟨hl, hf⟩ := h
    rw [qmV] at hl
    have h0 : qK Tryz.prog n 23 ((ds.drop 0).take (Tryz.prog.cellsOf 23)) := by
      have := hf 0 (by decide)
      rwa [qeF] at this ⊢
    rw [qeF] at h0
    obtain ⟨v0, e0, w0⟩ := qkp _ _ h0
    have c0 := za ds 0 2
    rw [e0] at c0
    have h1 : qK Tryz.prog n 23 ((ds.drop 2).take (Tryz.prog.cellsOf 23)) := by
      have := hf 1 (by decide)
      rwa [qeF] at this ⊢
    rw [qeF] at h1
    obtain ⟨v1, e1, w1⟩ := qkp _ _ h1
    have c1 := za ds 2 2
    rw [e1] at c1
    have cl : ds.drop 4 = [] := List.drop_eq_nil_of_le (by omega)
    refine ⟨⟨v0, v1⟩, ?_, ⟨w0, w1⟩⟩
    have c : ds.drop 0 = _ := c0
    simp only [Nat.reduceAdd] at c0 c1 c
    rw [c1, cl] at c
    exact c
theorem ty9 : ∀ (n : Nat) (ds : List D), qK Tryz.prog n 9 ds → ∃ v : ByteArray, ds = [D.str v] ∧ v.size ≤ maxLen := by
  intro n ds h
  cases n with
  | zero => exact h.elim
  | succ n =>
    unfold qK at h
    rw [Tryz.underlying9] at h
    obtain ⟨s, h1, h2⟩ := h
    exact ⟨s, h1, h2⟩
theorem cz9 : Tryz.prog.cellsOf 9 = 1 := by kernel_rfl
theorem qlo : ∀ (n : Nat) (ds : List D), qK Tryz.prog n 25 ds → ∃ v : List ByteArray, ds = [D.sl 1 v.length (v.flatMap eS)] ∧ (v.length ≤ maxLen ∧ ∀ y ∈ v, y.size ≤ maxLen) := by
  intro n ds h
  cases n with
  | zero => exact h.elim
  | succ n =>
    unfold qK at h
    rw [Tryz.underlying25] at h
    obtain ⟨m, es, h1, h2, h3, h4⟩ := h
    rw [cz9] at h1 h3 h4
    obtain ⟨l, g1, g2, g3⟩ := q0k (E := eS) (W := fun y => y.size ≤ maxLen) (sz := 1) (by decide) m es h3 fun i hi => by
      obtain ⟨v, q1, q2⟩ := ty9 n _ (h4 i hi)
      exact ⟨v, q1.trans (rfl), q2⟩
    refine ⟨l, ?_, by omega, g3⟩
    rw [h1, g1, g2]
theorem qjJ : Tryz.prog.cellsOf 79 = 2 := by kernel_rfl
def ZF (x : qd) : Prop := x.Code.size ≤ maxLen ∧ (Lit.int .i64 x.Credits).wf = true
theorem qnm : ∀ (n : Nat) (ds : List D), qK Tryz.prog n 79 ds → ∃ v : qd, ds = [D.str v.Code, D.int .i64 v.Credits] ∧ ZF v := by
  intro n ds h
  cases n with
  | zero => exact h.elim
  | succ n =>
    unfold qK at h
    rw [Tryz.underlying79] at h
    obtain ⟨hl, hf⟩ := h
    rw [qjJ] at hl
    have h0 : qK Tryz.prog n 9 ((ds.drop 0).take (Tryz.prog.cellsOf 9)) := hf _ (List.mem_of_getElem? (i := 0) rfl)
    rw [cz9] at h0
    obtain ⟨v0, e0, w0⟩ := ty9 _ _ h0
    have c0 := za ds 0 1
    rw [e0] at c0
    have h1 : qK Tryz.prog n 3 ((ds.drop 1).take (Tryz.prog.cellsOf 3)) := hf _ (List.mem_of_getElem? (i := 1) rfl)
    rw [cz3] at h1
    obtain ⟨v1, e1, w1⟩ := ty3 _ _ h1
    have c1 := za ds 1 1
    rw [e1] at c1
    have cl : ds.drop 2 = [] := List.drop_eq_nil_of_le (by omega)
    refine ⟨⟨v0, v1⟩, ?_, ⟨w0, w1⟩⟩
    have c : ds.drop 0 = _ := c0
    simp only [Nat.reduceAdd] at c0 c1 c
    rw [c1, cl] at c
    exact c
theorem qll : ∀ (n : Nat) (ds : List D), qK Tryz.prog n 26 ds → ∃ v : List qd, ds = [D.sl 2 v.length (v.flatMap qc)] ∧ (v.length ≤ maxLen ∧ ∀ y ∈ v, ZF y) := by
  intro n ds h
  cases n with
  | zero => exact h.elim
  | succ n =>
    unfold qK at h
    rw [Tryz.underlying26] at h
    obtain ⟨m, es, h1, h2, h3, h4⟩ := h
    rw [qjJ] at h1 h3 h4
    obtain ⟨l, g1, g2, g3⟩ := q0k (E := qc) (W := fun y => ZF y) (sz := 2) (by decide) m es h3 fun i hi => by
      obtain ⟨v, q1, q2⟩ := qnm n _ (h4 i hi)
      exact ⟨v, q1.trans ((zt v).symm), q2⟩
    refine ⟨l, ?_, by omega, g3⟩
    rw [h1, g1, g2]
theorem qjY : Tryz.prog.cellsOf 28 = 4 := by kernel_rfl
def q2n (x : qb) : Prop := (Lit.int .i64 x.Num).wf = true ∧ (Lit.int .i64 x.Add).wf = true ∧ (Lit.int .i64 x.Den).wf = true ∧ (Lit.int .i64 x.Round).wf = true
theorem qmb : ∀ (n : Nat) (ds : List D), qK Tryz.prog n 28 ds → ∃ v : qb, ds = [D.int .i64 v.Num, D.int .i64 v.Add, D.int .i64 v.Den, D.int .i64 v.Round] ∧ q2n v := by
  intro n ds h
  cases n with
  | zero => exact h.elim
  | succ n =>
    unfold qK at h
    rw [Tryz.underlying28] at h
    obtain ⟨hl, hf⟩ := h
    rw [qjY] at hl
    have h0 : qK Tryz.prog n 3 ((ds.drop 0).take (Tryz.prog.cellsOf 3)) := hf _ (List.mem_of_getElem? (i := 0) rfl)
    rw [cz3] at h0
    obtain ⟨v0, e0, w0⟩ := ty3 _ _ h0
    have c0 := za ds 0 1
    rw [e0] at c0
    have h1 : qK Tryz.prog n 3 ((ds.drop 1).take (Tryz.prog.cellsOf 3)) := hf _ (List.mem_of_getElem? (i := 1) rfl)
    rw [cz3] at h1
    obtain ⟨v1, e1, w1⟩ := ty3 _ _ h1
    have c1 := za ds 1 1
    rw [e1] at c1
    have h2 : qK Tryz.prog n 3 ((ds.drop 2).take (Tryz.prog.cellsOf 3)) := hf _ (List.mem_of_getElem? (i := 2) rfl)
    rw [cz3] at h2
    obtain ⟨v2, e2, w2⟩ := ty3 _ _ h2
    have c2 := za ds 2 1
    rw [e2] at c2
    have h3 : qK Tryz.prog n 3 ((ds.drop 3).take (Tryz.prog.cellsOf 3)) := hf _ (List.mem_of_getElem? (i := 3) rfl)
    rw [cz3] at h3
    obtain ⟨v3, e3, w3⟩ := ty3 _ _ h3
    have c3 := za ds 3 1
    rw [e3] at c3
    have cl : ds.drop 4 = [] := List.drop_eq_nil_of_le (by omega)
    refine ⟨⟨v0, v1, v2, v3⟩, ?_, ⟨w0, w1, w2, w3⟩⟩
    have c : ds.drop 0 = _ := c0
    simp only [Nat.reduceAdd] at c0 c1 c2 c3 c
    rw [c1, c2, c3, cl] at c
    exact c
theorem qmU : Tryz.prog.cellsOf 25 = 1 := by kernel_rfl
theorem qlp : Tryz.prog.cellsOf 26 = 1 := by kernel_rfl
theorem qkG : Tryz.prog.cellsOf 30 = 11 := by kernel_rfl
def Zy (x : qa) : Prop := (Lit.int .i64 x.Id).wf = true ∧ (Lit.int .i64 x.From).wf = true ∧ (Lit.int .i64 x.To).wf = true ∧ (Lit.int .i64 x.Begin).wf = true ∧ (Lit.int .i64 x.End).wf = true ∧ (x.In.length ≤ maxLen ∧ ∀ y ∈ x.In, y.size ≤ maxLen) ∧ (x.Out.length ≤ maxLen ∧ ∀ y ∈ x.Out, ZF y) ∧ q2n x.Conv
theorem qna : ∀ (n : Nat) (ds : List D), qK Tryz.prog n 30 ds → ∃ v : qa, ds = [D.int .i64 v.Id, D.int .i64 v.From, D.int .i64 v.To, D.int .i64 v.Begin, D.int .i64 v.End, D.sl 1 v.In.length (v.In.flatMap eS), D.sl 2 v.Out.length (v.Out.flatMap qc), D.int .i64 v.Conv.Num, D.int .i64 v.Conv.Add, D.int .i64 v.Conv.Den, D.int .i64 v.Conv.Round] ∧ Zy v := by
  intro n ds h
  cases n with
  | zero => exact h.elim
  | succ n =>
    unfold qK at h
    rw [Tryz.underlying30] at h
    obtain ⟨hl, hf⟩ := h
    rw [qkG] at hl
    have h0 : qK Tryz.prog n 3 ((ds.drop 0).take (Tryz.prog.cellsOf 3)) := hf _ (List.mem_of_getElem? (i := 0) rfl)
    rw [cz3] at h0
    obtain ⟨v0, e0, w0⟩ := ty3 _ _ h0
    have c0 := za ds 0 1
    rw [e0] at c0
    have h1 : qK Tryz.prog n 3 ((ds.drop 1).take (Tryz.prog.cellsOf 3)) := hf _ (List.mem_of_getElem? (i := 1) rfl)
    rw [cz3] at h1
    obtain ⟨v1, e1, w1⟩ := ty3 _ _ h1
    have c1 := za ds 1 1
    rw [e1] at c1
    have h2 : qK Tryz.prog n 3 ((ds.drop 2).take (Tryz.prog.cellsOf 3)) := hf _ (List.mem_of_getElem? (i := 2) rfl)
    rw [cz3] at h2
    obtain ⟨v2, e2, w2⟩ := ty3 _ _ h2
    have c2 := za ds 2 1
    rw [e2] at c2
    have h3 : qK Tryz.prog n 3 ((ds.drop 3).take (Tryz.prog.cellsOf 3)) := hf _ (List.mem_of_getElem? (i := 3) rfl)
    rw [cz3] at h3
    obtain ⟨v3, e3, w3⟩ := ty3 _ _ h3
    have c3 := za ds 3 1
    rw [e3] at c3
    have h4 : qK Tryz.prog n 3 ((ds.drop 4).take (Tryz.prog.cellsOf 3)) := hf _ (List.mem_of_getElem? (i := 4) rfl)
    rw [cz3] at h4
    obtain ⟨v4, e4, w4⟩ := ty3 _ _ h4
    have c4 := za ds 4 1
    rw [e4] at c4
    have h5 : qK Tryz.prog n 25 ((ds.drop 5).take (Tryz.prog.cellsOf 25)) := hf _ (List.mem_of_getElem? (i := 5) rfl)
    rw [qmU] at h5
    obtain ⟨v5, e5, w5⟩ := qlo _ _ h5
    have c5 := za ds 5 1
    rw [e5] at c5
    have h6 : qK Tryz.prog n 26 ((ds.drop 6).take (Tryz.prog.cellsOf 26)) := hf _ (List.mem_of_getElem? (i := 6) rfl)
    rw [qlp] at h6
    obtain ⟨v6, e6, w6⟩ := qll _ _ h6
    have c6 := za ds 6 1
    rw [e6] at c6
    have h7 : qK Tryz.prog n 28 ((ds.drop 7).take (Tryz.prog.cellsOf 28)) := hf _ (List.mem_of_getElem? (i := 7) rfl)
    rw [qjY] at h7
    obtain ⟨v7, e7, w7⟩ := qmb _ _ h7
    have c7 := za ds 7 4
    rw [e7] at c7
    have cl : ds.drop 11 = [] := List.drop_eq_nil_of_le (by omega)
    refine ⟨⟨v0, v1, v2, v3, v4, v5, v6, v7⟩, ?_, ⟨w0, w1, w2, w3, w4, w5, w6, w7⟩⟩
    have c : ds.drop 0 = _ := c0
    simp only [Nat.reduceAdd] at c0 c1 c2 c3 c4 c5 c6 c7 c
    rw [c1, c2, c3, c4, c5, c6, c7, cl] at c
    exact c
theorem qjR : Tryz.prog.cellsOf 32 = 3 := by kernel_rfl
def q1B (x : qM) : Prop := (Lit.int .i64 x.Worst).wf = true ∧ (Lit.int .i64 x.Best).wf = true ∧ (Lit.int .i64 x.Pass).wf = true
theorem ql7 : ∀ (n : Nat) (ds : List D), qK Tryz.prog n 32 ds → ∃ v : qM, ds = [D.int .i64 v.Worst, D.int .i64 v.Best, D.int .i64 v.Pass] ∧ q1B v := by
  intro n ds h
  cases n with
  | zero => exact h.elim
  | succ n =>
    unfold qK at h
    rw [Tryz.underlying32] at h
    obtain ⟨hl, hf⟩ := h
    rw [qjR] at hl
    have h0 : qK Tryz.prog n 3 ((ds.drop 0).take (Tryz.prog.cellsOf 3)) := hf _ (List.mem_of_getElem? (i := 0) rfl)
    rw [cz3] at h0
    obtain ⟨v0, e0, w0⟩ := ty3 _ _ h0
    have c0 := za ds 0 1
    rw [e0] at c0
    have h1 : qK Tryz.prog n 3 ((ds.drop 1).take (Tryz.prog.cellsOf 3)) := hf _ (List.mem_of_getElem? (i := 1) rfl)
    rw [cz3] at h1
    obtain ⟨v1, e1, w1⟩ := ty3 _ _ h1
    have c1 := za ds 1 1
    rw [e1] at c1
    have h2 : qK Tryz.prog n 3 ((ds.drop 2).take (Tryz.prog.cellsOf 3)) := hf _ (List.mem_of_getElem? (i := 2) rfl)
    rw [cz3] at h2
    obtain ⟨v2, e2, w2⟩ := ty3 _ _ h2
    have c2 := za ds 2 1
    rw [e2] at c2
    have cl : ds.drop 3 = [] := List.drop_eq_nil_of_le (by omega)
    refine ⟨⟨v0, v1, v2⟩, ?_, ⟨w0, w1, w2⟩⟩
    have c : ds.drop 0 = _ := c0
    simp only [Nat.reduceAdd] at c0 c1 c2 c
    rw [c1, c2, cl] at c
    exact c
theorem qjP : Tryz.prog.cellsOf 51 = 2 := by kernel_rfl
def q0o (x : JK) : Prop := (Lit.int .i64 x.School).wf = true ∧ x.Code.size ≤ maxLen
theorem qm3 : ∀ (n : Nat) (ds : List D), qK Tryz.prog n 51 ds → ∃ v : JK, ds = [D.int .i64 v.School, D.str v.Code] ∧ q0o v := by
  intro n ds h
  cases n with
  | zero => exact h.elim
  | succ n =>
    unfold qK at h
    rw [Tryz.underlying51] at h
    obtain ⟨hl, hf⟩ := h
    rw [qjP] at hl
    have h0 : qK Tryz.prog n 3 ((ds.drop 0).take (Tryz.prog.cellsOf 3)) := hf _ (List.mem_of_getElem? (i := 0) rfl)
    rw [cz3] at h0
    obtain ⟨v0, e0, w0⟩ := ty3 _ _ h0
    have c0 := za ds 0 1
    rw [e0] at c0
    have h1 : qK Tryz.prog n 9 ((ds.drop 1).take (Tryz.prog.cellsOf 9)) := hf _ (List.mem_of_getElem? (i := 1) rfl)
    rw [cz9] at h1
    obtain ⟨v1, e1, w1⟩ := ty9 _ _ h1
    have c1 := za ds 1 1
    rw [e1] at c1
    have cl : ds.drop 2 = [] := List.drop_eq_nil_of_le (by omega)
    refine ⟨⟨v0, v1⟩, ?_, ⟨w0, w1⟩⟩
    have c : ds.drop 0 = _ := c0
    simp only [Nat.reduceAdd] at c0 c1 c
    rw [c1, cl] at c
    exact c
theorem qk9 : Tryz.prog.cellsOf 53 = 8 := by kernel_rfl
def zZ (x : qP) : Prop := q0o x.Course ∧ (Lit.int .i64 x.Credits).wf = true ∧ (Lit.int .i64 x.Grade).wf = true ∧ (Lit.int .i64 x.Day).wf = true ∧ (x.Sources.length ≤ maxLen ∧ ∀ y ∈ x.Sources, (Lit.int .i64 y).wf = true) ∧ (Lit.int .i64 x.Bundle).wf = true ∧ (x.Path.length ≤ maxLen ∧ ∀ y ∈ x.Path, (Lit.int .i64 y).wf = true)
theorem qmH : ∀ (n : Nat) (ds : List D), qK Tryz.prog n 53 ds → ∃ v : qP, ds = [D.int .i64 v.Course.School, D.str v.Course.Code, D.int .i64 v.Credits, D.int .i64 v.Grade, D.int .i64 v.Day, D.sl 1 v.Sources.length (v.Sources.flatMap eI), D.int .i64 v.Bundle, D.sl 1 v.Path.length (v.Path.flatMap eI)] ∧ zZ v := by
  intro n ds h
  cases n with
  | zero => exact h.elim
  | succ n =>
    unfold qK at h
    rw [Tryz.underlying53] at h
    obtain ⟨hl, hf⟩ := h
    rw [qk9] at hl
    have h0 : qK Tryz.prog n 51 ((ds.drop 0).take (Tryz.prog.cellsOf 51)) := hf _ (List.mem_of_getElem? (i := 0) rfl)
    rw [qjP] at h0
    obtain ⟨v0, e0, w0⟩ := qm3 _ _ h0
    have c0 := za ds 0 2
    rw [e0] at c0
    have h1 : qK Tryz.prog n 3 ((ds.drop 2).take (Tryz.prog.cellsOf 3)) := hf _ (List.mem_of_getElem? (i := 1) rfl)
    rw [cz3] at h1
    obtain ⟨v1, e1, w1⟩ := ty3 _ _ h1
    have c1 := za ds 2 1
    rw [e1] at c1
    have h2 : qK Tryz.prog n 3 ((ds.drop 3).take (Tryz.prog.cellsOf 3)) := hf _ (List.mem_of_getElem? (i := 2) rfl)
    rw [cz3] at h2
    obtain ⟨v2, e2, w2⟩ := ty3 _ _ h2
    have c2 := za ds 3 1
    rw [e2] at c2
    have h3 : qK Tryz.prog n 3 ((ds.drop 4).take (Tryz.prog.cellsOf 3)) := hf _ (List.mem_of_getElem? (i := 3) rfl)
    rw [cz3] at h3
    obtain ⟨v3, e3, w3⟩ := ty3 _ _ h3
    have c3 := za ds 4 1
    rw [e3] at c3
    have h4 : qK Tryz.prog n 45 ((ds.drop 5).take (Tryz.prog.cellsOf 45)) := hf _ (List.mem_of_getElem? (i := 4) rfl)
    rw [qjm] at h4
    obtain ⟨v4, e4, w4⟩ := qjk _ _ h4
    have c4 := za ds 5 1
    rw [e4] at c4
    have h5 : qK Tryz.prog n 3 ((ds.drop 6).take (Tryz.prog.cellsOf 3)) := hf _ (List.mem_of_getElem? (i := 5) rfl)
    rw [cz3] at h5
    obtain ⟨v5, e5, w5⟩ := ty3 _ _ h5
    have c5 := za ds 6 1
    rw [e5] at c5
    have h6 : qK Tryz.prog n 45 ((ds.drop 7).take (Tryz.prog.cellsOf 45)) := hf _ (List.mem_of_getElem? (i := 6) rfl)
    rw [qjm] at h6
    obtain ⟨v6, e6, w6⟩ := qjk _ _ h6
    have c6 := za ds 7 1
    rw [e6] at c6
    have cl : ds.drop 8 = [] := List.drop_eq_nil_of_le (by omega)
    refine ⟨⟨v0, v1, v2, v3, v4, v5, v6⟩, ?_, ⟨w0, w1, w2, w3, w4, w5, w6⟩⟩
    have c : ds.drop 0 = _ := c0
    simp only [Nat.reduceAdd] at c0 c1 c2 c3 c4 c5 c6 c
    rw [c1, c2, c3, c4, c5, c6, cl] at c
    exact c
theorem qlk : ∀ (n : Nat) (ds : List D), qK Tryz.prog n 33 ds → ∃ v : List qP, ds = [D.sl 8 v.length (v.flatMap qq)] ∧ (v.length ≤ maxLen ∧ ∀ y ∈ v, zZ y) := by
  intro n ds h
  cases n with
  | zero => exact h.elim
  | succ n =>
    unfold qK at h
    rw [Tryz.underlying33] at h
    obtain ⟨m, es, h1, h2, h3, h4⟩ := h
    rw [qk9] at h1 h3 h4
    obtain ⟨l, g1, g2, g3⟩ := q0k (E := qq) (W := fun y => zZ y) (sz := 8) (by decide) m es h3 fun i hi => by
      obtain ⟨v, q1, q2⟩ := qmH n _ (h4 i hi)
      exact ⟨v, q1.trans ((ZJ v).symm), q2⟩
    refine ⟨l, ?_, by omega, g3⟩
    rw [h1, g1, g2]
theorem qlH : Tryz.prog.cellsOf 33 = 1 := by kernel_rfl
theorem qkV : Tryz.prog.cellsOf 35 = 16 := by kernel_rfl
def q1a (x : qz) : Prop := Zy x.Agreement ∧ (Lit.int .i64 x.Day).wf = true ∧ q1B x.Scale ∧ (x.L.length ≤ maxLen ∧ ∀ y ∈ x.L, zZ y)
theorem ty35 : ∀ (n : Nat) (ds : List D), qK Tryz.prog n 35 ds → ∃ v : qz, ds = [D.int .i64 v.Agreement.Id, D.int .i64 v.Agreement.From, D.int .i64 v.Agreement.To, D.int .i64 v.Agreement.Begin, D.int .i64 v.Agreement.End, D.sl 1 v.Agreement.In.length (v.Agreement.In.flatMap eS), D.sl 2 v.Agreement.Out.length (v.Agreement.Out.flatMap qc), D.int .i64 v.Agreement.Conv.Num, D.int .i64 v.Agreement.Conv.Add, D.int .i64 v.Agreement.Conv.Den, D.int .i64 v.Agreement.Conv.Round, D.int .i64 v.Day, D.int .i64 v.Scale.Worst, D.int .i64 v.Scale.Best, D.int .i64 v.Scale.Pass, D.sl 8 v.L.length (v.L.flatMap qq)] ∧ q1a v := by
  intro n ds h
  cases n with
  | zero => exact h.elim
  | succ n =>
    unfold qK at h
    rw [Tryz.underlying35] at h
    obtain ⟨hl, hf⟩ := h
    rw [qkV] at hl
    have h0 : qK Tryz.prog n 30 ((ds.drop 0).take (Tryz.prog.cellsOf 30)) := hf _ (List.mem_of_getElem? (i := 0) rfl)
    rw [qkG] at h0
    obtain ⟨v0, e0, w0⟩ := qna _ _ h0
    have c0 := za ds 0 11
    rw [e0] at c0
    have h1 : qK Tryz.prog n 3 ((ds.drop 11).take (Tryz.prog.cellsOf 3)) := hf _ (List.mem_of_getElem? (i := 1) rfl)
    rw [cz3] at h1
    obtain ⟨v1, e1, w1⟩ := ty3 _ _ h1
    have c1 := za ds 11 1
    rw [e1] at c1
    have h2 : qK Tryz.prog n 32 ((ds.drop 12).take (Tryz.prog.cellsOf 32)) := hf _ (List.mem_of_getElem? (i := 2) rfl)
    rw [qjR] at h2
    obtain ⟨v2, e2, w2⟩ := ql7 _ _ h2
    have c2 := za ds 12 3
    rw [e2] at c2
    have h3 : qK Tryz.prog n 33 ((ds.drop 15).take (Tryz.prog.cellsOf 33)) := hf _ (List.mem_of_getElem? (i := 3) rfl)
    rw [qlH] at h3
    obtain ⟨v3, e3, w3⟩ := qlk _ _ h3
    have c3 := za ds 15 1
    rw [e3] at c3
    have cl : ds.drop 16 = [] := List.drop_eq_nil_of_le (by omega)
    refine ⟨⟨v0, v1, v2, v3⟩, ?_, ⟨w0, w1, w2, w3⟩⟩
    have c : ds.drop 0 = _ := c0
    simp only [Nat.reduceAdd] at c0 c1 c2 c3 c
    rw [c1, c2, c3, cl] at c
    exact c
end Go.Proofs.YtplfjlcnffcenaaGreat.Vc
namespace Go.Proofs.YtplfjlcnffcenaaGreat.Vc
open Go.RowKit
theorem q1n (x0 : List (List Int)) (w0 : x0.length ≤ maxLen ∧ ∀ y ∈ x0, (y.length ≤ maxLen ∧ ∀ yy ∈ y, (Lit.int .i64 yy).wf = true)) (x1 : Z3 (Z3 Int)) (_ : ((Lit.int .i64 x1.a0.a0).wf = true ∧ (Lit.int .i64 x1.a0.a1).wf = true) ∧ ((Lit.int .i64 x1.a1.a0).wf = true ∧ (Lit.int .i64 x1.a1.a1).wf = true)) (x2 : qz) (_ : q1a x2) : zn x0 x1 x2 = some true :=
  q0E x0 x1 x2 w0.1 (fun y hy => (w0.2 y hy).1)
end Go.Proofs.YtplfjlcnffcenaaGreat.Vc
namespace Go.Proofs.YtplfjlcnffcenaaGreat
open Go.ChangeShapes Go.WideShapes Go.ChangeAt Go.RowKit Go.ChangeMaps
theorem own : ownKnob Tryz.prog.godebug = none := by kernel_rfl
theorem qcz : laidOutB Tryz.prog = true := by kernel_rfl
section
variable {H : Type} {enc : TypeId × Value → H} {P : Program} {W W' : World}
theorem q2s {t e : TypeId} {n base : Nat} {r : Reach} {v : Value} (ht : P.underlying t = some (.array n e)) (h : Value.okWide P W r base t v) : ∃ cs, v = .agg cs ∧ cs.size = P.cellsOf t := by
  unfold Value.okWide at h
  rw [ht] at h
  obtain ⟨cs, h1, h2, -⟩ := h
  exact ⟨cs, h1, h2⟩
theorem q3f (hl : laidOutB P = true) (hb : Below W.heap.size W W') : ∀ {ts : List TypeId} {vs : List Value} {ds : List (DataW H)} {ps : List MemPlace}, (∀ t ∈ ts, P.readableRec t = true ∧ t < P.types.size) →
    DataW.TrodAll enc P W 0 (fun _ => true) true ts vs ds ps → (∀ p ∈ ps, p.block < W.heap.size) → DataW.TrodAll enc P W' 0 (fun b => decide (b < W.heap.size)) true ts vs ds ps
  | [], _, _, _, _, h, _ => by
    obtain ⟨rfl, rfl, rfl⟩ := trodAll_nil h
    exact trodAll_mk0
  | t :: ts, _, _, _, ht, h, hlt => by
    obtain ⟨v, vs, d, ds, p, q, rfl, rfl, rfl, h1, h2⟩ := trodAll_cons h
    exact trodAll_cons_mk (Below.trod hl (ht t List.mem_cons_self).1 (ht t List.mem_cons_self).2 h1 hb (fun x hx => hlt x (List.mem_append_left _ hx)))
      (q3f hl hb (fun u hu => ht u (List.mem_cons_of_mem _ hu)) h2 (fun x hx => hlt x (List.mem_append_right _ hx)))
theorem q8G {f : Func} {s : ChangeSpec} {apart fresh handsOn : Bool} {args : Array Value} {ds gs : List (DataW H)} {before : List MemPlace} {tb : TypeId} (hl : laidOutB P = true)
    (hts : ∀ t ∈ f.params.toList, P.readableRec t = true ∧ t < P.types.size) (hr : f.resultTypes = #[tb]) (htb : P.underlying tb = some .bool) (hv : s.vars = [])
    (h1 : (s.fn H (ds ++ gs)).results = [.lit (.bool true)]) (h2 : (s.fn H (ds ++ gs)).args = ds) (h3 : (s.fn H (ds ++ gs)).vars = [])
    (hW : DataW.Whole enc P f.params.toList s.vars apart W args.toList ds gs before) (hb : Below W.heap.size W W') :
    s.post enc P f apart fresh handsOn false W args (.bool true) W' := by
  have hlt : ∀ p ∈ before, p.block < W.heap.size := fun p hp => hW.lt p hp
  have hW2 := hW
  obtain ⟨pa, pv, hA, hV, hp, -, -⟩ := hW2
  rw [hv] at hV
  obtain ⟨rfl, rfl⟩ := trodVars_none hV
  rw [List.append_nil] at hp
  subst hp
  refine ⟨ds, [], before, [], before, [], hW, ?_, ?_, ?_, ?_, fun h => by cases h⟩
  · rw [h1, hr]
    exact trodAll_mk1 (shut_bool htb true)
  · rw [h2]
    exact q3f hl hb hts hA hlt
  · rw [h3, hv]
    exact hV
  · exact World.keptBut_mono (fun p hp => ⟨hp, .inr (.inl hp)⟩) (hb.frame (· ∈ before))
end
end Go.Proofs.YtplfjlcnffcenaaGreat
