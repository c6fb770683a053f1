/- Part 6 of a proof. -/
import Derived.Test.YtplfjlcnffcenaaM5
import Derived.Test.YtplfjlcnffcenaaRows
import Derived.ChangeSlices
import Derived.OpenShut
import Derived.Carry
import Derived.ChangeSame
import Derived.ChangeMaps5
import Derived.WideShapes
import Derived.ProofKit
import Derived.Deep.DeepHandedRow
import Derived.Lib.LaidTab
import Derived.Stop.LaidErr
set_option linter.unusedVariables false
set_option linter.unusedSimpArgs false
set_option linter.defProp false
set_option linter.unusedSectionVars false
set_option linter.unnecessarySimpa false
namespace Go.Proofs.Ytplfjlcnffcenaa.Vc
open Go.RowKit
set_option linter.unusedVariables false
set_option linter.unusedSimpArgs false
set_option maxRecDepth 20000
set_option linter.defProp false
theorem q1K : ev 5 0 [] [] = some (rB true, []) := q9S
theorem lo4 : okL 4 q4P := qA (qf bd4) (by kernel_rfl) (by kernel_rfl)
def cx4 := JA_ @q4P.eq_1 (JA_ @Try.f4.eq_1 @bd4)
theorem ql5 : lbO 4 3 = qe9 := zX (qf bd4) rfl
theorem qlr : okL 4 qe9 := zm lo4 (List.mem_of_getElem? (i := 0) (by kernel_rfl))
theorem qhY : lbO 4 11 = qak := zX (qf bd4) rfl
theorem qgX : okL 4 qak := zm lo4 (List.mem_of_getElem? (i := 1) (by kernel_rfl))
theorem qgU : lbO 4 24 = qau := zX (qf bd4) rfl
theorem qiw : okL 4 qau := zm lo4 (List.mem_of_getElem? (i := 2) (by kernel_rfl))
theorem qh0 : lbO 4 30 = qab := zX (qf bd4) rfl
theorem qgY : okL 4 qab := zm lo4 (List.mem_of_getElem? (i := 3) (by kernel_rfl))
theorem lo6 : okL 6 q9V := qA (qf bd6) (by kernel_rfl) (by kernel_rfl)
def cx6 := JA_ @q9V.eq_1 (JA_ @Try.f6.eq_1 @bd6)
theorem qld : lbO 6 3 = qfx := zX (qf bd6) rfl
theorem qln : okL 6 qfx := zm lo6 (List.mem_of_getElem? (i := 0) (by kernel_rfl))
theorem qn4 : okL 18 q5q := qA (qf qgF) (by kernel_rfl) (by kernel_rfl)
def qmS := JA_ @q5q.eq_1 (JA_ @Try.f18.eq_1 @qgF)
theorem qhB : lbO 18 6 = q9h := zX (qf qgF) rfl
theorem qgd : okL 18 q9h := zm qn4 (List.mem_of_getElem? (i := 0) (by kernel_rfl))
theorem qnD : okL 32 q73 := qA (qf qk4) (by kernel_rfl) (by kernel_rfl)
def qnI := JA_ @q73.eq_1 (JA_ @Try.f32.eq_1 @qk4)
theorem qoW : okL 60 q7u := qA (qf qjY) (by kernel_rfl) (by kernel_rfl)
def qoi := JA_ @q7u.eq_1 (JA_ @Try.f60.eq_1 @qjY)
noncomputable def ZC (n : Int) (m : Int) : Option Int :=
  if m = 0 then none
  else if m = 0 then none
  else some (Int.tmod (w64 (Int.tmod n m + m)) m)
theorem q3C : ∀ (n m : Int), ev 60 0 [rI n, rI m] [] = (ZC n m).bind (fun (e : Int) => some (rI e, [])) :=
  fun n m => by
    rw [qx qjY qlO.2.2.2 qoW]
    have := qoi; have := @ZC.eq_1; exact gA
noncomputable def qj (n : Int) (d : qc) : Option (Int × qc) :=
  if ((d.L.length : Nat) : Int) ≤ d.At then some (0, d)
  else if 0 ≤ w64 (w64 (d.At + 1) - 1) ∧ w64 (w64 (d.At + 1) - 1) < ((d.L.length : Nat) : Int) then Option.bind d.L[Int.toNat (w64 (w64 (d.At + 1) - 1))]? fun (a : Int) =>
    Option.bind (ZC a n) fun (a2 : Int) =>
    some (a2, qc.mk d.L (w64 (d.At + 1)))
  else none
theorem zc : ∀ (n : Int) (d_L : List Int) (d_At : Int), ev 32 1 [rP 0, rI n] [(0, B.blk 66 [dL 1 eI d_L, dI d_At])] = (qj n (qc.mk d_L d_At)).bind (fun (e : Int × qc) => some (rI e.1, [(0, B.blk 66 [dL 1 eI e.2.L, dI e.2.At])])) :=
  fun n d_L d_At => by
    rw [qx qk4 qmH.2.2.2 qnD]
    have := qnI; have := @q3C; have := @qj.eq_1; exact gA
theorem ql6 : okL 49 q3U := qA (qf qfR) (by kernel_rfl) (by kernel_rfl)
def qhe := JA_ @q3U.eq_1 (JA_ @Try.f49.eq_1 @qfR)
theorem qdu : lbO 49 3 = q75 := zX (qf qfR) rfl
theorem qdh : okL 49 q75 := zm ql6 (List.mem_of_getElem? (i := 0) (by kernel_rfl))
theorem qdn : lbO 49 5 = q7c := zX (qf qfR) rfl
theorem qdg : okL 49 q7c := zm ql6 (List.mem_of_getElem? (i := 1) (by kernel_rfl))
theorem qnR : okL 71 q79 := qA (qf qks) (by kernel_rfl) (by kernel_rfl)
def qpZ := JA_ @q79.eq_1 (JA_ @Try.f71.eq_1 @qks)
noncomputable def Zv : Option (List ByteArray) :=
  some [ByteArray.mk (List.toArray [65, 49]), ByteArray.mk (List.toArray [66, 49]), ByteArray.mk (List.toArray [66, 50]), ByteArray.mk (List.toArray [67, 49]), ByteArray.mk (List.toArray [68, 49]), ByteArray.mk (List.toArray [69, 57])]
noncomputable def qs : List ByteArray :=
  [ByteArray.mk (List.toArray [65, 49]), ByteArray.mk (List.toArray [66, 49]), ByteArray.mk (List.toArray [66, 50]), ByteArray.mk (List.toArray [67, 49]), ByteArray.mk (List.toArray [68, 49]), ByteArray.mk (List.toArray [69, 57])]
theorem q1w : Zv = some (qs) := by
  unfold Zv qs
  simp only [zp]
theorem QH : ev 71 0 [] [] = some (R.c (C.d (D.sl 1 (qs).length ((qs).flatMap eS))), []) :=
  by
    have h : ev 71 0 [] [] = (Zv).bind (fun (e : List ByteArray) => some (rL 1 eS e, [])) := by
      rw [qx qks qmp.2.2.2 qnR]
      have := qpZ; have := @Zv.eq_1; exact gA
    rw [q1w] at h
    exact h
theorem qnk : okL 50 q5c := qA (qf qjm) (by kernel_rfl) (by kernel_rfl)
def qnj := JA_ @q5c.eq_1 (JA_ @Try.f50.eq_1 @qjm)
theorem qg2 : lbO 50 2 = qa4 := zX (qf qjm) rfl
theorem qji : okL 50 qa4 := zm qnk (List.mem_of_getElem? (i := 0) (by kernel_rfl))
noncomputable def zZ (l : List ByteArray) (s : ByteArray) : Int → Option (Int ⊕ (Unit ⊕ Unit))
  | k =>
    if k < ((l.length : Nat) : Int) then if 0 ≤ k ∧ k < ((l.length : Nat) : Int) then Option.bind l[Int.toNat k]? fun (a : ByteArray) =>
        if (ByteArray.toList a == ByteArray.toList s) = Bool.true then some (Sum.inr (Sum.inl ()))
        else some (Sum.inl (w64 (k + 1)))
      else none
    else some (Sum.inr (Sum.inr ()))
theorem q1J : ∀ (l : List ByteArray) (s : ByteArray) (k : Int), XL2 evo 50 0 2 ⟨[(0, rL 1 eS l), (1, rS s), (5, rI k)], [], 0, 18⟩ = (qT (zZ l s) k).bind (Sum.elim (fun (e : Unit) => some (Go.Exit.ret, ⟨[(4, rB Bool.true)], [], 0, 18⟩)) (fun (e : Unit) => some (Go.Exit.exit 0, ⟨[(4, R.any)], [], 0, 18⟩))) :=
  fun l s k => by
    revert k; exact q5z qg2 qji (fun e => by rcases e with _ | _ <;> exact ⟨_, rfl, fun h => by cases h⟩) fun x => by
      have := qnj; have := @qa4.eq_1; have := @zZ.eq_1; exact gA
noncomputable def zN (l : List ByteArray) (s : ByteArray) : Option Bool :=
  Option.bind (qT (zZ l s) 0) fun (a : Sum Unit Unit) =>
  Sum.elim (fun (a2 : Unit) => some Bool.true) (fun (a3 : Unit) => some Bool.false) a
theorem Zh : ∀ (l : List ByteArray) (s : ByteArray), ev 50 0 [rL 1 eS l, rS s] [] = (zN l s).bind (fun (e : Bool) => some (rB e, [])) :=
  fun l s => by
    rw [qx qjm qme.2.2.2 qnk]
    have := qnj; have := @q1J; have := @zN.eq_1; exact gA
theorem q1W : ∀  (s : ByteArray), ev 50 0 [R.c (C.d (D.sl 1 0 [])), rS s] [] = (zN [] s).bind (fun (e : Bool) => some (rB e, [])) := by
  intro s; have h := Zh [] s
  first
    | exact h
    | (simp only [rL, dL, bR, bZ, Nat.reduceAdd] at h; exact h)
noncomputable def ZH (fu : Nat) (l : List ByteArray) (s : ByteArray) : Option Bool :=
  Option.bind (itT (zZ l s) fu 0) fun (a : Sum Unit Unit) =>
  Sum.elim (fun (a2 : Unit) => some Bool.true) (fun (a3 : Unit) => some Bool.false) a
theorem ZX (fu : Nat) (l : List ByteArray) (s : ByteArray) : Ql (ZH fu l s) (zN l s) := by
  unfold ZH zN
  repeat (first
    | with_reducible exact Ql.refl _
    | with_reducible exact Ql.none _
    | with_reducible refine Ql.bind ?_ (fun _ => ?_)
    | with_reducible refine Ql.ite ?_ ?_
    | with_reducible refine Ql.sum (fun _ => ?_) (fun _ => ?_)
    | with_reducible refine Ql.lim (fun _ => ?_))
noncomputable def Q3 (d : qc) (many : Int) : Int → Option (Int ⊕ Int)
  | k =>
    if 0 ≤ k ∧ k < ((qs.length : Nat) : Int) then Option.bind qs[Int.toNat k]? fun (a : ByteArray) =>
      Option.bind (zN [] a) fun (a2 : Bool) =>
      if a2 = Bool.true then some (Sum.inl (Int.tmod (w64 (k + 1)) 6))
      else some (Sum.inr k)
    else none
theorem q16 : ∀ (d_L : List Int) (d_At many k : Int), XL2 evo 49 1 5 ⟨[(0, rP 0), (3, R.c (C.nils)), (4, rI many), (5, rI k)], [(0, B.blk 66 [dL 1 eI d_L, dI d_At])], 1, 33⟩ = (qT (Q3 (qc.mk d_L d_At) many) k).bind (fun (e : Int) => some (Go.Exit.exit 2, ⟨[(0, rP 0), (3, R.c (C.nils)), (4, rI many), (5, rI e)], [(0, B.blk 66 [dL 1 eI d_L, dI d_At])], 1, 33⟩)) :=
  fun d_L d_At many k => by
    revert k; exact q5z qdn qdg (fun e => by exact ⟨_, rfl, fun h => by cases h⟩) fun x => by
      have := qhe; have := @q7c.eq_1; have := @QH; have := @q1W; have := @Q3.eq_1; exact gA
noncomputable def ZB (fu : Nat) (d : qc) (many : Int) : Int → Option (Int ⊕ Int)
  | k =>
    if 0 ≤ k ∧ k < ((qs.length : Nat) : Int) then Option.bind qs[Int.toNat k]? fun (a : ByteArray) =>
      Option.bind (ZH fu [] a) fun (a2 : Bool) =>
      if a2 = Bool.true then some (Sum.inl (Int.tmod (w64 (k + 1)) 6))
      else some (Sum.inr k)
    else none
theorem q19 (fu : Nat) (d : qc) (many : Int) : ∀ x, Ql (ZB fu d many x) (Q3 d many x) := by
  rintro k
  unfold ZB Q3
  try dsimp only
  repeat (first
    | with_reducible exact Ql.refl _
    | with_reducible exact Ql.none _
    | with_reducible apply ZX
    | with_reducible refine Ql.bind ?_ (fun _ => ?_)
    | with_reducible refine Ql.ite ?_ ?_
    | with_reducible refine Ql.sum (fun _ => ?_) (fun _ => ?_)
    | with_reducible refine Ql.lim (fun _ => ?_))
theorem qmN : okL 72 q4J := qA (qf qgK) (by kernel_rfl) (by kernel_rfl)
def qmZ := JA_ @q4J.eq_1 (JA_ @Try.f72.eq_1 @qgK)
theorem qgJ : lbO 72 4 = q9u := zX (qf qgK) rfl
theorem qg0 : okL 72 q9u := zm qmN (List.mem_of_getElem? (i := 0) (by kernel_rfl))
noncomputable def Za (l : List ByteArray) (s : ByteArray) : Int → Option (Int ⊕ Int)
  | at0 =>
    if 0 < at0 then if 0 ≤ w64 (at0 - 1) ∧ w64 (at0 - 1) < ((l.length : Nat) : Int) then Option.bind l[Int.toNat (w64 (at0 - 1))]? fun (a : ByteArray) =>
        if (!(Go.Op.bytesLess (ByteArray.toList a) (ByteArray.toList s) || ByteArray.toList a == ByteArray.toList s)) = Bool.true then some (Sum.inl (w64 (at0 - 1)))
        else some (Sum.inr at0)
      else none
    else some (Sum.inr at0)
theorem q1D : ∀ (l : List ByteArray) (s : ByteArray) (at0 : Int), XL2 evo 72 0 4 ⟨[(0, rL 1 eS l), (1, rS s), (5, rI at0)], [], 0, 39⟩ = (qT (Za l s) at0).bind (fun (e : Int) => some (Go.Exit.exit 0, ⟨[(0, rL 1 eS l), (1, rS s), (5, rI e)], [], 0, 39⟩)) :=
  fun l s at0 => by
    revert at0; exact q5z qgJ qg0 (fun e => by exact ⟨_, rfl, fun h => by cases h⟩) fun x => by
      have := qmZ; have := @q9u.eq_1; have := @Za.eq_1; exact gA
noncomputable def Qb (l : List ByteArray) (s : ByteArray) : Option (List ByteArray) :=
  Option.bind (zN l s) fun (a : Bool) =>
  if a = Bool.true then some l
  else Option.bind (qT (Za l s) ((l.length : Nat) : Int)) fun (a2 : Int) =>
  if 0 ≤ a2 ∧ a2 ≤ ((l.length : Nat) : Int) then if (List.take (Int.toNat a2 - 0) l).length ≤ Go.maxLen ∧ (List.take (Int.toNat a2 - 0) l).length * 16 ≤ 140737488355328 then if (List.take (Int.toNat a2 - 0) l).length + 1 ≤ Go.maxLen ∧ ((List.take (Int.toNat a2 - 0) l).length + 1) * 16 ≤ 140737488355328 then if 0 ≤ a2 ∧ a2 ≤ ((l.length : Nat) : Int) then if (List.take (Int.toNat a2 - 0) l).length + 1 + (List.take (l.length - Int.toNat a2) (List.drop (Int.toNat a2) l)).length ≤ Go.maxLen ∧ ((List.take (Int.toNat a2 - 0) l).length + 1 + (List.take (l.length - Int.toNat a2) (List.drop (Int.toNat a2) l)).length) * 16 ≤ 140737488355328 then some ((List.take (Int.toNat a2 - 0) l ++ [s]) ++ List.take (l.length - Int.toNat a2) (List.drop (Int.toNat a2) l))
          else none
        else none
      else none
    else none
  else none
theorem q0r : ∀ (l : List ByteArray) (s : ByteArray), ev 72 0 [rL 1 eS l, rS s] [] = (Qb l s).bind (fun (e : List ByteArray) => some (rL 1 eS e, [])) :=
  fun l s => by
    rw [qx qgK qlT.2.2.2 qmN]
    have := qmZ; have := @Zh; have := @q1D; have := @Qb.eq_1; exact gA
theorem q1X : ∀  (s : ByteArray), ev 72 0 [R.c (C.d (D.sl 1 0 [])), rS s] [] = (Qb [] s).bind (fun (e : List ByteArray) => some (rL 1 eS e, [])) := by
  intro s; have h := q0r [] s
  first
    | exact h
    | (simp only [rL, dL, bR, bZ, Nat.reduceAdd] at h; exact h)
noncomputable def Jv (fu : Nat) (l : List ByteArray) (s : ByteArray) : Option (List ByteArray) :=
  Option.bind (ZH fu l s) fun (a : Bool) =>
  if a = Bool.true then some l
  else Option.bind (itT (Za l s) fu ((l.length : Nat) : Int)) fun (a2 : Int) =>
  if 0 ≤ a2 ∧ a2 ≤ ((l.length : Nat) : Int) then if (List.take (Int.toNat a2 - 0) l).length ≤ Go.maxLen ∧ (List.take (Int.toNat a2 - 0) l).length * 16 ≤ 140737488355328 then if (List.take (Int.toNat a2 - 0) l).length + 1 ≤ Go.maxLen ∧ ((List.take (Int.toNat a2 - 0) l).length + 1) * 16 ≤ 140737488355328 then if 0 ≤ a2 ∧ a2 ≤ ((l.length : Nat) : Int) then if (List.take (Int.toNat a2 - 0) l).length + 1 + (List.take (l.length - Int.toNat a2) (List.drop (Int.toNat a2) l)).length ≤ Go.maxLen ∧ ((List.take (Int.toNat a2 - 0) l).length + 1 + (List.take (l.length - Int.toNat a2) (List.drop (Int.toNat a2) l)).length) * 16 ≤ 140737488355328 then some ((List.take (Int.toNat a2 - 0) l ++ [s]) ++ List.take (l.length - Int.toNat a2) (List.drop (Int.toNat a2) l))
          else none
        else none
      else none
    else none
  else none
theorem q0s (fu : Nat) (l : List ByteArray) (s : ByteArray) : Ql (Jv fu l s) (Qb l s) := by
  unfold Jv Qb
  repeat (first
    | with_reducible exact Ql.refl _
    | with_reducible exact Ql.none _
    | with_reducible apply ZX
    | with_reducible refine Ql.bind ?_ (fun _ => ?_)
    | with_reducible refine Ql.ite ?_ ?_
    | with_reducible refine Ql.sum (fun _ => ?_) (fun _ => ?_)
    | with_reducible refine Ql.lim (fun _ => ?_))
noncomputable def zI (d : qc) (out : List ByteArray) (many : Int) : Int → Option (Int ⊕ Int)
  | k =>
    if 0 ≤ k ∧ k < ((qs.length : Nat) : Int) then Option.bind qs[Int.toNat k]? fun (a : ByteArray) =>
      Option.bind (zN out a) fun (a2 : Bool) =>
      if a2 = Bool.true then some (Sum.inl (Int.tmod (w64 (k + 1)) 6))
      else some (Sum.inr k)
    else none
theorem q0q : ∀ (d_L : List Int) (d_At : Int) (out : List ByteArray) (many k : Int), XL2 evo 49 1 5 ⟨[(0, rP 0), (3, rL 1 eS out), (4, rI many), (5, rI k)], [(0, B.blk 66 [dL 1 eI d_L, dI d_At])], 1, 33⟩ = (qT (zI (qc.mk d_L d_At) out many) k).bind (fun (e : Int) => some (Go.Exit.exit 2, ⟨[(0, rP 0), (3, rL 1 eS out), (4, rI many), (5, rI e)], [(0, B.blk 66 [dL 1 eI d_L, dI d_At])], 1, 33⟩)) :=
  fun d_L d_At out many k => by
    revert k; exact q5z qdn qdg (fun e => by exact ⟨_, rfl, fun h => by cases h⟩) fun x => by
      have := qhe; have := @q7c.eq_1; have := @QH; have := @Zh; have := @zI.eq_1; exact gA
noncomputable def Z6 (fu : Nat) (d : qc) (out : List ByteArray) (many : Int) : Int → Option (Int ⊕ Int)
  | k =>
    if 0 ≤ k ∧ k < ((qs.length : Nat) : Int) then Option.bind qs[Int.toNat k]? fun (a : ByteArray) =>
      Option.bind (ZH fu out a) fun (a2 : Bool) =>
      if a2 = Bool.true then some (Sum.inl (Int.tmod (w64 (k + 1)) 6))
      else some (Sum.inr k)
    else none
theorem q0j (fu : Nat) (d : qc) (out : List ByteArray) (many : Int) : ∀ x, Ql (Z6 fu d out many x) (zI d out many x) := by
  rintro k
  unfold Z6 zI
  try dsimp only
  repeat (first
    | with_reducible exact Ql.refl _
    | with_reducible exact Ql.none _
    | with_reducible apply ZX
    | with_reducible refine Ql.bind ?_ (fun _ => ?_)
    | with_reducible refine Ql.ite ?_ ?_
    | with_reducible refine Ql.sum (fun _ => ?_) (fun _ => ?_)
    | with_reducible refine Ql.lim (fun _ => ?_))
noncomputable def zr (many : Int) : (qc × List ByteArray) → Option ((qc × List ByteArray) ⊕ (qc × List ByteArray))
  | (d, out) =>
    if ((out.length : Nat) : Int) < many then Option.bind (qj 6 d) fun (a : Prod Int qc) =>
      Option.bind (qT (zI a.2 out many) a.1) fun (a2 : Int) =>
      if 0 ≤ a2 ∧ a2 < ((qs.length : Nat) : Int) then Option.bind qs[Int.toNat a2]? fun (a3 : ByteArray) =>
        Option.bind (Qb out a3) fun (a4 : List ByteArray) =>
        some (Sum.inl (a.2, a4))
      else none
    else some (Sum.inr (d, out))
theorem q0k : ∀ (d_L : List Int) (d_At : Int) (out : List ByteArray) (many : Int), XL2 evo 49 1 3 ⟨[(0, rP 0), (3, rL 1 eS out), (4, rI many)], [(0, B.blk 66 [dL 1 eI d_L, dI d_At])], 1, 33⟩ = (qT (zr many) ((qc.mk d_L d_At), out)).bind (fun (e : qc × List ByteArray) => some (Go.Exit.exit 0, ⟨[(3, rL 1 eS e.2)], [(0, B.blk 66 [dL 1 eI e.1.L, dI e.1.At])], 1, 33⟩)) :=
  fun d_L d_At out many => by
    have h := q4g (E := evo) (f := 49) (k := 1) (st := fun x : qc × List ByteArray => (⟨[(0, rP 0), (3, rL 1 eS x.2), (4, rI many)], [(0, B.blk 66 [dL 1 eI x.1.L, dI x.1.At])], 1, 33⟩ : S)) (ex := fun (e : qc × List ByteArray) => (Go.Exit.exit 0, ⟨[(3, rL 1 eS e.2)], [(0, B.blk 66 [dL 1 eI e.1.L, dI e.1.At])], 1, 33⟩)) (step := (zr many)) qdu qdh (fun e h => by cases h) (fun x => by
      obtain ⟨d, out⟩ := x; have := qhe; have := @q75.eq_1; have := @zc; have := @q0q; have := @QH; have := @q0r; have := @zr.eq_1; exact gA) ((qc.mk d_L d_At), out)
    exact h
noncomputable def Qu (d : qc) (many : Int) : Option ((qc × List ByteArray) ⊕ Unit) :=
  if 0 < many then Option.bind (qj 6 d) fun (a : Prod Int qc) =>
    Option.bind (qT (Q3 a.2 many) a.1) fun (a2 : Int) =>
    if 0 ≤ a2 ∧ a2 < ((qs.length : Nat) : Int) then Option.bind qs[Int.toNat a2]? fun (a3 : ByteArray) =>
      Option.bind (Qb [] a3) fun (a4 : List ByteArray) =>
      Option.bind (qT (zr many) (a.2, a4)) fun (e0 : Prod qc (List ByteArray)) =>
      some (Sum.inl (e0.1, e0.2))
    else none
  else some (Sum.inr ())
theorem q0m : ∀ (d_L : List Int) (d_At many : Int), XL2 evo 49 1 3 ⟨[(0, rP 0), (3, R.c (C.nils)), (4, rI many)], [(0, B.blk 66 [dL 1 eI d_L, dI d_At])], 1, 33⟩ = (Qu (qc.mk d_L d_At) many).bind (Sum.elim (fun (e : qc × List ByteArray) => some (Go.Exit.exit 0, ⟨[(3, rL 1 eS e.2)], [(0, B.blk 66 [dL 1 eI e.1.L, dI e.1.At])], 1, 33⟩)) (fun (e : Unit) => some (Go.Exit.exit 0, ⟨[(3, R.c (C.nils))], [(0, B.blk 66 [dL 1 eI d_L, dI d_At])], 1, 33⟩))) :=
  fun d_L d_At many => by
    rw [qeu qdu qdh]
    have := qhe; have := @q75.eq_1; have := @q9T; have := @qfg; have := @qgW; have := @qdH; have := @qiq; have := @qeS; have := @qjB; have := @q0k; have := @zc; have := @q16; have := @QH; have := @q1X; have := @Qu.eq_1; exact gA
noncomputable def Q8 (d : qc) : Option (List ByteArray × qc) :=
  Option.bind (qj 6 d) fun (a : Prod Int qc) =>
  if 0 ≤ a.1 ∧ a.1 < 6 then Option.bind [(1 : Int), 1, 1, 2, 2, 3][Int.toNat a.1]? fun (a2 : Int) =>
    Option.bind (Qu a.2 a2) fun (a3 : Sum (Prod qc (List ByteArray)) Unit) =>
    Sum.elim (fun (a4 : Prod qc (List ByteArray)) => some (a4.2, a4.1)) (fun (a5 : Unit) => some ([], a.2)) a3
  else none
theorem q3j : ∀ (d_L : List Int) (d_At : Int), ev 49 1 [rP 0] [(0, B.blk 66 [dL 1 eI d_L, dI d_At])] = (Q8 (qc.mk d_L d_At)).bind (fun (e : List ByteArray × qc) => some (rL 1 eS e.1, [(0, B.blk 66 [dL 1 eI e.2.L, dI e.2.At])])) :=
  fun d_L d_At => by
    rw [qx qfR qm1.2.2.2 ql6]
    have := qhe; have := @zc; have := @q0m; have := @Q8.eq_1; exact gA
noncomputable def qz (b1_Id : Int) (b1_From : Int) (b1_To : Int) (b1_Begin : Int) (b1_End : Int) (b1_Conv_Num : Int) (b1_Conv_Add : Int) (b1_Conv_Den : Int) (b1_Conv_Round : Int) (b2_Id : Int) (b2_From : Int) (b2_To : Int) (b2_Begin : Int) (b2_End : Int) (b2_In : List ByteArray) (b2_Conv_Num : Int) (b2_Conv_Add : Int) (b2_Conv_Den : Int) (b2_Conv_Round : Int) (t6 : List ByteArray) : (List qi × qc × Int) → Option ((List qi × qc × Int) ⊕ (List qi × qc))
  | (w3, b0, t7) =>
    if t7 < ((t6.length : Nat) : Int) then if (b2_From != b2_To) = Bool.true then if 0 ≤ t7 ∧ t7 < ((t6.length : Nat) : Int) then Option.bind t6[Int.toNat t7]? fun (a : ByteArray) =>
          Option.bind (qj 4 b0) fun (a2 : Prod Int qc) =>
          if 0 ≤ a2.1 ∧ a2.1 < 4 then Option.bind [(5 : Int), 6, 10, 3][Int.toNat a2.1]? fun (a3 : Int) =>
            if w3.length + 1 ≤ Go.maxLen ∧ (w3.length + 1) * 24 ≤ 140737488355328 then some (Sum.inl (w3 ++ [qi.mk a a3], a2.2, w64 (t7 + 1)))
            else none
          else none
        else none
      else if 0 ≤ t7 ∧ t7 < ((t6.length : Nat) : Int) then Option.bind t6[Int.toNat t7]? fun (a4 : ByteArray) =>
        Option.bind (zN b2_In a4) fun (a5 : Bool) =>
        if (!a5) = Bool.true then if 0 ≤ t7 ∧ t7 < ((t6.length : Nat) : Int) then Option.bind t6[Int.toNat t7]? fun (a6 : ByteArray) =>
            Option.bind (qj 4 b0) fun (a7 : Prod Int qc) =>
            if 0 ≤ a7.1 ∧ a7.1 < 4 then Option.bind [(5 : Int), 6, 10, 3][Int.toNat a7.1]? fun (a8 : Int) =>
              if w3.length + 1 ≤ Go.maxLen ∧ (w3.length + 1) * 24 ≤ 140737488355328 then some (Sum.inl (w3 ++ [qi.mk a6 a8], a7.2, w64 (t7 + 1)))
              else none
            else none
          else none
        else some (Sum.inl (w3, b0, w64 (t7 + 1)))
      else none
    else some (Sum.inr (w3, b0))
theorem q0n : ∀ (w3 : List qi) (b0_L : List Int) (b0_At b1_Id b1_From b1_To b1_Begin b1_End b1_Conv_Num b1_Conv_Add b1_Conv_Den b1_Conv_Round b2_Id b2_From b2_To b2_Begin b2_End : Int) (b2_In : List ByteArray) (b2_Conv_Num b2_Conv_Add b2_Conv_Den b2_Conv_Round : Int) (t6 : List ByteArray) (t7 : Int) (w3_len : Nat), w3_len = w3.length → XL2 evo 18 1 6 ⟨[(0, rP 0), (4, rP 1), (5, rP 2), (6, rL 1 eS t6), (7, rI t7)], [(0, B.blk 66 [dL 1 eI b0_L, dI b0_At]), (1, B.blk 36 [dI b1_Id, dI b1_From, dI b1_To, dI b1_Begin, dI b1_End, C.nils, C.nils, dI b1_Conv_Num, dI b1_Conv_Add, dI b1_Conv_Den, dI b1_Conv_Round]), (2, B.blk 36 [dI b2_Id, dI b2_From, dI b2_To, dI b2_Begin, dI b2_End, dL 1 eS b2_In, dO 3 2 w3_len, dI b2_Conv_Num, dI b2_Conv_Add, dI b2_Conv_Den, dI b2_Conv_Round]), (3, bR 57 2 qg w3)], 4, 87⟩ = (qT (qz b1_Id b1_From b1_To b1_Begin b1_End b1_Conv_Num b1_Conv_Add b1_Conv_Den b1_Conv_Round b2_Id b2_From b2_To b2_Begin b2_End b2_In b2_Conv_Num b2_Conv_Add b2_Conv_Den b2_Conv_Round t6) (w3, (qc.mk b0_L b0_At), t7)).bind (fun (e : List qi × qc) => some (Go.Exit.exit 0, ⟨[(0, rP 0), (4, rP 1), (5, rP 2)], [(0, B.blk 66 [dL 1 eI e.2.L, dI e.2.At]), (1, B.blk 36 [dI b1_Id, dI b1_From, dI b1_To, dI b1_Begin, dI b1_End, C.nils, C.nils, dI b1_Conv_Num, dI b1_Conv_Add, dI b1_Conv_Den, dI b1_Conv_Round]), (2, B.blk 36 [dI b2_Id, dI b2_From, dI b2_To, dI b2_Begin, dI b2_End, dL 1 eS b2_In, dO 3 2 e.1.length, dI b2_Conv_Num, dI b2_Conv_Add, dI b2_Conv_Den, dI b2_Conv_Round]), (3, bR 57 2 qg e.1)], 4, 87⟩)) :=
  by
  intro w3 b0_L b0_At b1_Id b1_From b1_To b1_Begin b1_End b1_Conv_Num b1_Conv_Add b1_Conv_Den b1_Conv_Round b2_Id b2_From b2_To b2_Begin b2_End b2_In b2_Conv_Num b2_Conv_Add b2_Conv_Den b2_Conv_Round t6 t7 w3_len h0
  subst h0
  have h := q4g (E := evo) (f := 18) (k := 1) (st := fun x : List qi × qc × Int => (⟨[(0, rP 0), (4, rP 1), (5, rP 2), (6, rL 1 eS t6), (7, rI x.2.2)], [(0, B.blk 66 [dL 1 eI x.2.1.L, dI x.2.1.At]), (1, B.blk 36 [dI b1_Id, dI b1_From, dI b1_To, dI b1_Begin, dI b1_End, C.nils, C.nils, dI b1_Conv_Num, dI b1_Conv_Add, dI b1_Conv_Den, dI b1_Conv_Round]), (2, B.blk 36 [dI b2_Id, dI b2_From, dI b2_To, dI b2_Begin, dI b2_End, dL 1 eS b2_In, dO 3 2 x.1.length, dI b2_Conv_Num, dI b2_Conv_Add, dI b2_Conv_Den, dI b2_Conv_Round]), (3, bR 57 2 qg x.1)], 4, 87⟩ : S)) (ex := fun (e : List qi × qc) => (Go.Exit.exit 0, ⟨[(0, rP 0), (4, rP 1), (5, rP 2)], [(0, B.blk 66 [dL 1 eI e.2.L, dI e.2.At]), (1, B.blk 36 [dI b1_Id, dI b1_From, dI b1_To, dI b1_Begin, dI b1_End, C.nils, C.nils, dI b1_Conv_Num, dI b1_Conv_Add, dI b1_Conv_Den, dI b1_Conv_Round]), (2, B.blk 36 [dI b2_Id, dI b2_From, dI b2_To, dI b2_Begin, dI b2_End, dL 1 eS b2_In, dO 3 2 e.1.length, dI b2_Conv_Num, dI b2_Conv_Add, dI b2_Conv_Den, dI b2_Conv_Round]), (3, bR 57 2 qg e.1)], 4, 87⟩)) (step := (qz b1_Id b1_From b1_To b1_Begin b1_End b1_Conv_Num b1_Conv_Add b1_Conv_Den b1_Conv_Round b2_Id b2_From b2_To b2_Begin b2_End b2_In b2_Conv_Num b2_Conv_Add b2_Conv_Den b2_Conv_Round t6)) qhB qgd (fun e h => by cases h) (fun x => by
    obtain ⟨w3, b0, t7⟩ := x; have := qmS; have := @q9h.eq_1; have := @zc; have := @Zh; have := @qz.eq_1; exact gA) (w3, (qc.mk b0_L b0_At), t7)
  exact h
theorem Jx : ∀  (b0_L : List Int) (b0_At b1_Id b1_From b1_To b1_Begin b1_End b1_Conv_Num b1_Conv_Add b1_Conv_Den b1_Conv_Round b2_Id b2_From b2_To b2_Begin b2_End : Int) (b2_In : List ByteArray) (b2_Conv_Num b2_Conv_Add b2_Conv_Den b2_Conv_Round : Int) (t6 : List ByteArray) (t7 : Int), XL2 evo 18 1 6 ⟨[(0, rP 0), (4, rP 1), (5, rP 2), (6, rL 1 eS t6), (7, rI t7)], [(0, B.blk 66 [dL 1 eI b0_L, dI b0_At]), (1, B.blk 36 [dI b1_Id, dI b1_From, dI b1_To, dI b1_Begin, dI b1_End, C.nils, C.nils, dI b1_Conv_Num, dI b1_Conv_Add, dI b1_Conv_Den, dI b1_Conv_Round]), (2, B.blk 36 [dI b2_Id, dI b2_From, dI b2_To, dI b2_Begin, dI b2_End, dL 1 eS b2_In, dO 3 2 0, dI b2_Conv_Num, dI b2_Conv_Add, dI b2_Conv_Den, dI b2_Conv_Round]), (3, B.row 57 2 [])], 4, 87⟩ = (qT (qz b1_Id b1_From b1_To b1_Begin b1_End b1_Conv_Num b1_Conv_Add b1_Conv_Den b1_Conv_Round b2_Id b2_From b2_To b2_Begin b2_End b2_In b2_Conv_Num b2_Conv_Add b2_Conv_Den b2_Conv_Round t6) ([], (qc.mk b0_L b0_At), t7)).bind (fun (e : List qi × qc) => some (Go.Exit.exit 0, ⟨[(0, rP 0), (4, rP 1), (5, rP 2)], [(0, B.blk 66 [dL 1 eI e.2.L, dI e.2.At]), (1, B.blk 36 [dI b1_Id, dI b1_From, dI b1_To, dI b1_Begin, dI b1_End, C.nils, C.nils, dI b1_Conv_Num, dI b1_Conv_Add, dI b1_Conv_Den, dI b1_Conv_Round]), (2, B.blk 36 [dI b2_Id, dI b2_From, dI b2_To, dI b2_Begin, dI b2_End, dL 1 eS b2_In, dO 3 2 e.1.length, dI b2_Conv_Num, dI b2_Conv_Add, dI b2_Conv_Den, dI b2_Conv_Round]), (3, bR 57 2 qg e.1)], 4, 87⟩)) := by
  intro b0_L b0_At b1_Id b1_From b1_To b1_Begin b1_End b1_Conv_Num b1_Conv_Add b1_Conv_Den b1_Conv_Round b2_Id b2_From b2_To b2_Begin b2_End b2_In b2_Conv_Num b2_Conv_Add b2_Conv_Den b2_Conv_Round t6 t7; have h := q0n [] ((qc.mk b0_L b0_At)).L ((qc.mk b0_L b0_At)).At b1_Id b1_From b1_To b1_Begin b1_End b1_Conv_Num b1_Conv_Add b1_Conv_Den b1_Conv_Round b2_Id b2_From b2_To b2_Begin b2_End b2_In b2_Conv_Num b2_Conv_Add b2_Conv_Den b2_Conv_Round t6 t7 _ rfl
  first
    | exact h
    | (simp only [rL, dL, bR, bZ, Nat.reduceAdd] at h; exact h)
theorem qoC : okL 51 q6L := qA (qf qkw) (by kernel_rfl) (by kernel_rfl)
def qpj := JA_ @q6L.eq_1 (JA_ @Try.f51.eq_1 @qkw)
noncomputable def ZR (from0 : Int) (to : Int) (round : Int) : Option qh :=
  if (w64 (w64 (10 * from0) + to) == 12) = Bool.true then some (qh.mk (-4) 500 100 round)
  else if (w64 (w64 (10 * from0) + to) == 13) = Bool.true then some (qh.mk 1 0 5 round)
  else if (w64 (w64 (10 * from0) + to) == 21) = Bool.true then some (qh.mk (-25) 125 1 round)
  else if (w64 (w64 (10 * from0) + to) == 23) = Bool.true then some (qh.mk (-5) 25 1 round)
  else if (w64 (w64 (10 * from0) + to) == 31) = Bool.true then some (qh.mk 5 0 1 round)
  else if (w64 (w64 (10 * from0) + to) == 32) = Bool.true then some (qh.mk (-1) 25 5 round)
  else some (qh.mk 1 0 1 round)
noncomputable def qK (from0 : Int) (to : Int) (round : Int) : qh :=
  if (w64 (w64 (10 * from0) + to) == 12) = Bool.true then qh.mk (-4) 500 100 round
  else if (w64 (w64 (10 * from0) + to) == 13) = Bool.true then qh.mk 1 0 5 round
  else if (w64 (w64 (10 * from0) + to) == 21) = Bool.true then qh.mk (-25) 125 1 round
  else if (w64 (w64 (10 * from0) + to) == 23) = Bool.true then qh.mk (-5) 25 1 round
  else if (w64 (w64 (10 * from0) + to) == 31) = Bool.true then qh.mk 5 0 1 round
  else if (w64 (w64 (10 * from0) + to) == 32) = Bool.true then qh.mk (-1) 25 5 round
  else qh.mk 1 0 1 round
theorem q2d (from0 to round : Int) : ZR from0 to round = some (qK from0 to round) := by
  unfold ZR qK
  simp only [zp]
theorem q3n : ∀ (from0 to round : Int), ev 51 0 [rI from0, rI to, rI round] [] = some (R.agg [dI (qK from0 to round).Num, dI (qK from0 to round).Add, dI (qK from0 to round).Den, dI (qK from0 to round).Round], []) :=
  fun from0 to round => by
    have h : ev 51 0 [rI from0, rI to, rI round] [] = (ZR from0 to round).bind (fun (e : qh) => some (R.agg [dI e.Num, dI e.Add, dI e.Den, dI e.Round], [])) := by
      rw [qx qkw qmA.2.2.2 qoC]
      have := qpj; have := @ZR.eq_1; exact gA
    rw [q2d] at h
    exact h
noncomputable def QF (x1 : Int) (v : qc) : Option (qb × qc) :=
  Option.bind (qj 3 v) fun (a : Prod Int qc) =>
  Option.bind (qj 3 a.2) fun (a2 : Prod Int qc) =>
  Option.bind (qj 5 a2.2) fun (a3 : Prod Int qc) =>
  if 0 ≤ a3.1 ∧ a3.1 < 5 then Option.bind [(0 : Int), 0, 0, 50, 200][Int.toNat a3.1]? fun (a4 : Int) =>
    Option.bind (Q8 a3.2) fun (a5 : Prod (List ByteArray) qc) =>
    Option.bind (qj 4 a5.2) fun (a6 : Prod Int qc) =>
    if (a6.1 == 0) = Bool.true then Option.bind (qj 400 a6.2) fun (a7 : Prod Int qc) =>
      Option.bind (Q8 a7.2) fun (a8 : Prod (List ByteArray) qc) =>
      Option.bind (qT (qz 0 0 0 0 0 0 0 0 0 x1 (w64 (1 + a.1)) (w64 (1 + a2.1)) a4 (w64 (a4 + a7.1)) a5.1 0 0 0 0 a8.1) ([], (a8.2, 0))) fun (a9 : Prod (List qi) qc) =>
      if (((a9.1.length : Nat) : Int) == 0) = Bool.true then Option.bind (qj 4 a9.2) fun (a10 : Prod Int qc) =>
        some (qb.mk x1 (w64 (1 + a.1)) (w64 (1 + a2.1)) a4 (w64 (a4 + a7.1)) a5.1 [qi.mk (ByteArray.mk (List.toArray [90, 57])) 5] (qK (w64 (1 + a.1)) (w64 (1 + a2.1)) (w64 (1 + a10.1))), a10.2)
      else Option.bind (qj 4 a9.2) fun (a11 : Prod Int qc) =>
      some (qb.mk x1 (w64 (1 + a.1)) (w64 (1 + a2.1)) a4 (w64 (a4 + a7.1)) a5.1 a9.1 (qK (w64 (1 + a.1)) (w64 (1 + a2.1)) (w64 (1 + a11.1))), a11.2)
    else Option.bind (Q8 a6.2) fun (a12 : Prod (List ByteArray) qc) =>
    Option.bind (qT (qz 0 0 0 0 0 0 0 0 0 x1 (w64 (1 + a.1)) (w64 (1 + a2.1)) a4 0 a5.1 0 0 0 0 a12.1) ([], (a12.2, 0))) fun (a13 : Prod (List qi) qc) =>
    if (((a13.1.length : Nat) : Int) == 0) = Bool.true then Option.bind (qj 4 a13.2) fun (a14 : Prod Int qc) =>
      some (qb.mk x1 (w64 (1 + a.1)) (w64 (1 + a2.1)) a4 0 a5.1 [qi.mk (ByteArray.mk (List.toArray [90, 57])) 5] (qK (w64 (1 + a.1)) (w64 (1 + a2.1)) (w64 (1 + a14.1))), a14.2)
    else Option.bind (qj 4 a13.2) fun (a15 : Prod Int qc) =>
    some (qb.mk x1 (w64 (1 + a.1)) (w64 (1 + a2.1)) a4 0 a5.1 a13.1 (qK (w64 (1 + a.1)) (w64 (1 + a2.1)) (w64 (1 + a15.1))), a15.2)
  else none
theorem q1N : ∀ (x1 : Int) (v_L : List Int) (v_At : Int), ev 18 1 [rP 0, rI x1] [(0, B.blk 66 [dL 1 eI v_L, dI v_At])] = (QF x1 (qc.mk v_L v_At)).bind (fun (e : qb × qc) => some (R.agg [dI e.1.Id, dI e.1.From, dI e.1.To, dI e.1.Begin, dI e.1.End, dL 1 eS e.1.In, dL 2 qg e.1.Out, dI e.1.Conv.Num, dI e.1.Conv.Add, dI e.1.Conv.Den, dI e.1.Conv.Round], [(0, B.blk 66 [dL 1 eI e.2.L, dI e.2.At])])) :=
  fun x1 v_L v_At => by
    rw [qx qgF qmC.2.2.2 qn4]
    have := qmS; have := @zc; have := @q3j; have := @Jx; have := @q3n; have := @QF.eq_1; exact gA
noncomputable def zM (l : List (List Int)) : (List qb × Int) → Option ((List qb × Int) ⊕ (List qb))
  | (out, k) =>
    if k < ((l.length : Nat) : Int) then if k < 4 then if 0 ≤ k ∧ k < ((l.length : Nat) : Int) then Option.bind l[Int.toNat k]? fun (a : List Int) =>
          Option.bind (QF (w64 (3 + w64 (2 * k))) (qc.mk a 0)) fun (a2 : Prod qb qc) =>
          if out.length + 1 ≤ Go.maxLen ∧ (out.length + 1) * 120 ≤ 140737488355328 then some (Sum.inl (out ++ [a2.1], w64 (k + 1)))
          else none
        else none
      else some (Sum.inr out)
    else some (Sum.inr out)
theorem q12 : ∀ (out : List qb) (l : List (List Int)) (k : Int) (qY : Nat), qY = out.length → XL2 evo 6 0 3 ⟨[(0, rL 1 (eL 1 eI) l), (3, rO 0 11 qY), (4, rI k)], [(0, bR 36 11 qo out)], 1, 29⟩ = (qT (zM l) (out, k)).bind (fun (e : List qb) => some (Go.Exit.exit 0, ⟨[(3, rO 0 11 e.length)], [(0, bR 36 11 qo e)], 1, 29⟩)) :=
  by
  intro out l k qY h0
  subst h0
  revert k; revert out; exact qaH qld qln (fun e => by exact ⟨_, rfl, fun h => by cases h⟩) fun out k => by
    have := cx6; have := @qfx.eq_1; have := @q1N; have := @zM.eq_1; exact gA
theorem q06 : ∀  (l : List (List Int)) (k : Int), XL2 evo 6 0 3 ⟨[(0, rL 1 (eL 1 eI) l), (3, rO 0 11 0), (4, rI k)], [(0, B.row 36 11 [])], 1, 29⟩ = (qT (zM l) ([], k)).bind (fun (e : List qb) => some (Go.Exit.exit 0, ⟨[(3, rO 0 11 e.length)], [(0, bR 36 11 qo e)], 1, 29⟩)) := by
  intro l k; have h := q12 [] l k _ rfl
  first
    | exact h
    | (simp only [rL, dL, bR, bZ, Nat.reduceAdd] at h; exact h)
noncomputable def Zm (l : List (List Int)) : Option (List qb) :=
  Option.bind (qT (zM l) ([], 0)) fun (a : List qb) =>
  some a
theorem q2Q : ∀ (l : List (List Int)), ev 6 0 [rL 1 (eL 1 eI) l] [] = (Zm l).bind (fun (e : List qb) => some (rL 11 qo e, [])) :=
  fun l => by
    rw [qx bd6 pw6.2.2.2 lo6]
    have := cx6; have := @q06; have := @Zm.eq_1; exact gA
theorem qn2 : okL 11 q4Q := qA (qf qiS) (by kernel_rfl) (by kernel_rfl)
def qne := JA_ @q4Q.eq_1 (JA_ @Try.f11.eq_1 @qiS)
theorem qgO : lbO 11 5 = q8J := zX (qf qiS) rfl
theorem qhq : okL 11 q8J := zm qn2 (List.mem_of_getElem? (i := 0) (by kernel_rfl))
noncomputable def zh (b0 : qb) (t7 : List Int) : (List qa × qc × Int) → Option ((List qa × qc × Int) ⊕ (List qa))
  | (w2, b1, t8) =>
    if t8 < ((b0.In.length : Nat) : Int) then if 0 ≤ t8 ∧ t8 < ((b0.In.length : Nat) : Int) then Option.bind b0.In[Int.toNat t8]? fun (a : ByteArray) =>
        Option.bind (qj 3 b1) fun (a2 : Prod Int qc) =>
        if 0 ≤ a2.1 ∧ a2.1 < 3 then Option.bind [(5 : Int), 6, 10][Int.toNat a2.1]? fun (a3 : Int) =>
          Option.bind (qj 21 a2.2) fun (a4 : Prod Int qc) =>
          Option.bind (qj 600 a4.2) fun (a5 : Prod Int qc) =>
          if (b0.From == 2) = Bool.true then Option.bind (qj 3 a5.2) fun (a6 : Prod Int qc) =>
            if (a6.1 == 0) = Bool.true then if 2 ≤ Go.maxLen then if t7.length ≤ Go.maxLen ∧ t7.length * 8 ≤ 140737488355328 then if w2.length + 1 ≤ Go.maxLen ∧ (w2.length + 1) * 104 ≤ 140737488355328 then some (Sum.inl (w2 ++ [qa.mk (qV.mk b0.From a) a3 (w64 (1 + Int.tmod (w64 (Int.tdiv (w64 (5 * a4.1)) 5)) 5)) a5.1 [w64 (w64 (w64 (1000000 * b0.From) + 1) + t8), w64 (8000001 + w64 (10 * t8))] 0 t7], a6.2, w64 (t8 + 1)))
                  else none
                else none
              else none
            else if t7.length ≤ Go.maxLen ∧ t7.length * 8 ≤ 140737488355328 then if w2.length + 1 ≤ Go.maxLen ∧ (w2.length + 1) * 104 ≤ 140737488355328 then some (Sum.inl (w2 ++ [qa.mk (qV.mk b0.From a) a3 (w64 (1 + Int.tmod (w64 (Int.tdiv (w64 (5 * a4.1)) 5)) 5)) a5.1 [w64 (w64 (w64 (1000000 * b0.From) + 1) + t8)] 0 t7], a6.2, w64 (t8 + 1)))
              else none
            else none
          else if (b0.From == 3) = Bool.true then Option.bind (qj 3 a5.2) fun (a7 : Prod Int qc) =>
            if (a7.1 == 0) = Bool.true then if 2 ≤ Go.maxLen then if t7.length ≤ Go.maxLen ∧ t7.length * 8 ≤ 140737488355328 then if w2.length + 1 ≤ Go.maxLen ∧ (w2.length + 1) * 104 ≤ 140737488355328 then some (Sum.inl (w2 ++ [qa.mk (qV.mk b0.From a) a3 (w64 (Int.tdiv (w64 (5 * a4.1)) 5)) a5.1 [w64 (w64 (w64 (1000000 * b0.From) + 1) + t8), w64 (8000001 + w64 (10 * t8))] 0 t7], a7.2, w64 (t8 + 1)))
                  else none
                else none
              else none
            else if t7.length ≤ Go.maxLen ∧ t7.length * 8 ≤ 140737488355328 then if w2.length + 1 ≤ Go.maxLen ∧ (w2.length + 1) * 104 ≤ 140737488355328 then some (Sum.inl (w2 ++ [qa.mk (qV.mk b0.From a) a3 (w64 (Int.tdiv (w64 (5 * a4.1)) 5)) a5.1 [w64 (w64 (w64 (1000000 * b0.From) + 1) + t8)] 0 t7], a7.2, w64 (t8 + 1)))
              else none
            else none
          else Option.bind (qj 3 a5.2) fun (a8 : Prod Int qc) =>
          if (a8.1 == 0) = Bool.true then if 2 ≤ Go.maxLen then if t7.length ≤ Go.maxLen ∧ t7.length * 8 ≤ 140737488355328 then if w2.length + 1 ≤ Go.maxLen ∧ (w2.length + 1) * 104 ≤ 140737488355328 then some (Sum.inl (w2 ++ [qa.mk (qV.mk b0.From a) a3 (w64 (5 * a4.1)) a5.1 [w64 (w64 (w64 (1000000 * b0.From) + 1) + t8), w64 (8000001 + w64 (10 * t8))] 0 t7], a8.2, w64 (t8 + 1)))
                else none
              else none
            else none
          else if t7.length ≤ Go.maxLen ∧ t7.length * 8 ≤ 140737488355328 then if w2.length + 1 ≤ Go.maxLen ∧ (w2.length + 1) * 104 ≤ 140737488355328 then some (Sum.inl (w2 ++ [qa.mk (qV.mk b0.From a) a3 (w64 (5 * a4.1)) a5.1 [w64 (w64 (w64 (1000000 * b0.From) + 1) + t8)] 0 t7], a8.2, w64 (t8 + 1)))
            else none
          else none
        else none
      else none
    else some (Sum.inr w2)
theorem q0F : ∀ (w2 : List qa) (b0_Id b0_From b0_To b0_Begin b0_End : Int) (b0_In : List ByteArray) (b0_Out : List qi) (b0_Conv_Num b0_Conv_Add b0_Conv_Den b0_Conv_Round : Int) (b1_L : List Int) (b1_At : Int) (t7 : List Int) (t8 : Int) (w2_len : Nat), w2_len = w2.length → XL2 evo 11 0 5 ⟨[(2, rP 0), (5, rP 1), (6, rO 2 8 w2_len), (7, rL 1 eI t7), (8, rI t8)], [(0, B.blk 36 [dI b0_Id, dI b0_From, dI b0_To, dI b0_Begin, dI b0_End, dL 1 eS b0_In, dL 2 qg b0_Out, dI b0_Conv_Num, dI b0_Conv_Add, dI b0_Conv_Den, dI b0_Conv_Round]), (1, B.blk 66 [dL 1 eI b1_L, dI b1_At]), (2, bR 52 8 qd w2)], 3, 89⟩ = (qT (zh (qb.mk b0_Id b0_From b0_To b0_Begin b0_End b0_In b0_Out (qh.mk b0_Conv_Num b0_Conv_Add b0_Conv_Den b0_Conv_Round)) t7) (w2, (qc.mk b1_L b1_At), t8)).bind (fun (e : List qa) => some (Go.Exit.exit 0, ⟨[(6, rO 0 8 e.length)], [(0, bR 52 8 qd e)], 1, 89⟩)) :=
  by
  intro w2 b0_Id b0_From b0_To b0_Begin b0_End b0_In b0_Out b0_Conv_Num b0_Conv_Add b0_Conv_Den b0_Conv_Round b1_L b1_At t7 t8 w2_len h0
  subst h0
  have h := q4g (E := evo) (f := 11) (k := 0) (st := fun x : List qa × qc × Int => (⟨[(2, rP 0), (5, rP 1), (6, rO 2 8 x.1.length), (7, rL 1 eI t7), (8, rI x.2.2)], [(0, B.blk 36 [dI b0_Id, dI b0_From, dI b0_To, dI b0_Begin, dI b0_End, dL 1 eS b0_In, dL 2 qg b0_Out, dI b0_Conv_Num, dI b0_Conv_Add, dI b0_Conv_Den, dI b0_Conv_Round]), (1, B.blk 66 [dL 1 eI x.2.1.L, dI x.2.1.At]), (2, bR 52 8 qd x.1)], 3, 89⟩ : S)) (ex := fun (e : List qa) => (Go.Exit.exit 0, ⟨[(6, rO 0 8 e.length)], [(0, bR 52 8 qd e)], 1, 89⟩)) (step := (zh (qb.mk b0_Id b0_From b0_To b0_Begin b0_End b0_In b0_Out (qh.mk b0_Conv_Num b0_Conv_Add b0_Conv_Den b0_Conv_Round)) t7)) qgO qhq (fun e h => by cases h) (fun x => by
    obtain ⟨w2, b1, t8⟩ := x; have := qne; have := @q8J.eq_1; have := @zc; have := @zh.eq_1; exact gA) (w2, (qc.mk b1_L b1_At), t8)
  exact h
theorem JF : ∀  (b0_Id b0_From b0_To b0_Begin b0_End : Int) (b0_In : List ByteArray) (b0_Out : List qi) (b0_Conv_Num b0_Conv_Add b0_Conv_Den b0_Conv_Round : Int) (b1_L : List Int) (b1_At : Int) (t7 : List Int) (t8 : Int), XL2 evo 11 0 5 ⟨[(2, rP 0), (5, rP 1), (6, rO 2 8 0), (7, rL 1 eI t7), (8, rI t8)], [(0, B.blk 36 [dI b0_Id, dI b0_From, dI b0_To, dI b0_Begin, dI b0_End, dL 1 eS b0_In, dL 2 qg b0_Out, dI b0_Conv_Num, dI b0_Conv_Add, dI b0_Conv_Den, dI b0_Conv_Round]), (1, B.blk 66 [dL 1 eI b1_L, dI b1_At]), (2, B.row 52 8 [])], 3, 89⟩ = (qT (zh (qb.mk b0_Id b0_From b0_To b0_Begin b0_End b0_In b0_Out (qh.mk b0_Conv_Num b0_Conv_Add b0_Conv_Den b0_Conv_Round)) t7) ([], (qc.mk b1_L b1_At), t8)).bind (fun (e : List qa) => some (Go.Exit.exit 0, ⟨[(6, rO 0 8 e.length)], [(0, bR 52 8 qd e)], 1, 89⟩)) := by
  intro b0_Id b0_From b0_To b0_Begin b0_End b0_In b0_Out b0_Conv_Num b0_Conv_Add b0_Conv_Den b0_Conv_Round b1_L b1_At t7 t8; have h := q0F [] ((qb.mk b0_Id b0_From b0_To b0_Begin b0_End b0_In b0_Out (qh.mk b0_Conv_Num b0_Conv_Add b0_Conv_Den b0_Conv_Round))).Id ((qb.mk b0_Id b0_From b0_To b0_Begin b0_End b0_In b0_Out (qh.mk b0_Conv_Num b0_Conv_Add b0_Conv_Den b0_Conv_Round))).From ((qb.mk b0_Id b0_From b0_To b0_Begin b0_End b0_In b0_Out (qh.mk b0_Conv_Num b0_Conv_Add b0_Conv_Den b0_Conv_Round))).To ((qb.mk b0_Id b0_From b0_To b0_Begin b0_End b0_In b0_Out (qh.mk b0_Conv_Num b0_Conv_Add b0_Conv_Den b0_Conv_Round))).Begin ((qb.mk b0_Id b0_From b0_To b0_Begin b0_End b0_In b0_Out (qh.mk b0_Conv_Num b0_Conv_Add b0_Conv_Den b0_Conv_Round))).End ((qb.mk b0_Id b0_From b0_To b0_Begin b0_End b0_In b0_Out (qh.mk b0_Conv_Num b0_Conv_Add b0_Conv_Den b0_Conv_Round))).In ((qb.mk b0_Id b0_From b0_To b0_Begin b0_End b0_In b0_Out (qh.mk b0_Conv_Num b0_Conv_Add b0_Conv_Den b0_Conv_Round))).Out ((qb.mk b0_Id b0_From b0_To b0_Begin b0_End b0_In b0_Out (qh.mk b0_Conv_Num b0_Conv_Add b0_Conv_Den b0_Conv_Round))).Conv.Num ((qb.mk b0_Id b0_From b0_To b0_Begin b0_End b0_In b0_Out (qh.mk b0_Conv_Num b0_Conv_Add b0_Conv_Den b0_Conv_Round))).Conv.Add ((qb.mk b0_Id b0_From b0_To b0_Begin b0_End b0_In b0_Out (qh.mk b0_Conv_Num b0_Conv_Add b0_Conv_Den b0_Conv_Round))).Conv.Den ((qb.mk b0_Id b0_From b0_To b0_Begin b0_End b0_In b0_Out (qh.mk b0_Conv_Num b0_Conv_Add b0_Conv_Den b0_Conv_Round))).Conv.Round ((qc.mk b1_L b1_At)).L ((qc.mk b1_L b1_At)).At t7 t8 _ rfl
  first
    | exact h
    | (simp only [rL, dL, bR, bZ, Nat.reduceAdd] at h; exact h)
noncomputable def QV (x0 : qb) (x1 : List Int) : Option (List qa) :=
  Option.bind (qj 3 (qc.mk x1 0)) fun (a : Prod Int qc) =>
  if 0 ≤ a.1 ∧ a.1 < 3 then Option.bind [[], [(20 : Int)], [(20 : Int), 31]][Int.toNat a.1]? fun (a2 : List Int) =>
    Option.bind (qT (zh x0 a2) ([], (a.2, 0))) fun (a3 : List qa) =>
    some a3
  else none
theorem q2i : ∀ (x0_Id x0_From x0_To x0_Begin x0_End : Int) (x0_In : List ByteArray) (x0_Out : List qi) (x0_Conv_Num x0_Conv_Add x0_Conv_Den x0_Conv_Round : Int) (x1 : List Int), ev 11 0 [R.agg [dI x0_Id, dI x0_From, dI x0_To, dI x0_Begin, dI x0_End, dL 1 eS x0_In, dL 2 qg x0_Out, dI x0_Conv_Num, dI x0_Conv_Add, dI x0_Conv_Den, dI x0_Conv_Round], rL 1 eI x1] [] = (QV (qb.mk x0_Id x0_From x0_To x0_Begin x0_End x0_In x0_Out (qh.mk x0_Conv_Num x0_Conv_Add x0_Conv_Den x0_Conv_Round)) x1).bind (fun (e : List qa) => some (rL 8 qd e, [])) :=
  fun x0_Id x0_From x0_To x0_Begin x0_End x0_In x0_Out x0_Conv_Num x0_Conv_Add x0_Conv_Den x0_Conv_Round x1 => by
    rw [qx qiS qmt.2.2.2 qn2]
    have := qne; have := @zc; have := @JF; have := @QV.eq_1; exact gA
theorem qpu : okL 12 q7x := qA (qf qk5) (by kernel_rfl) (by kernel_rfl)
def qoj := JA_ @q7x.eq_1 (JA_ @Try.f12.eq_1 @qk5)
noncomputable def q0g (school : Int) : Option qt :=
  if (school == 2) = Bool.true then some (qt.mk 5 1 3)
  else if (school == 3) = Bool.true then some (qt.mk 0 20 10)
  else some (qt.mk 0 100 50)
noncomputable def qv (school : Int) : qt :=
  if (school == 2) = Bool.true then qt.mk 5 1 3
  else if (school == 3) = Bool.true then qt.mk 0 20 10
  else qt.mk 0 100 50
theorem q3s (school : Int) : q0g school = some (qv school) := by
  unfold q0g qv
  simp only [zp]
theorem q4q : ∀ (school : Int), ev 12 0 [rI school] [] = some (R.agg [dI (qv school).Worst, dI (qv school).Best, dI (qv school).Pass], []) :=
  fun school => by
    have h : ev 12 0 [rI school] [] = (q0g school).bind (fun (e : qt) => some (R.agg [dI e.Worst, dI e.Best, dI e.Pass], [])) := by
      rw [qx qk5 qlW.2.2.2 qpu]
      have := qoj; have := @q0g.eq_1; exact gA
    rw [q3s] at h
    exact h
theorem qmK : okL 13 q4M := qA (qf qh9) (by kernel_rfl) (by kernel_rfl)
def qnb := JA_ @q4M.eq_1 (JA_ @Try.f13.eq_1 @qh9)
theorem qf8 : lbO 13 13 = q6g := zX (qf qh9) rfl
theorem qfu : okL 13 q6g := zm qmK (List.mem_of_getElem? (i := 0) (by kernel_rfl))
theorem qng : okL 33 q5x := qA (qf qh3) (by kernel_rfl) (by kernel_rfl)
def qnf := JA_ @q5x.eq_1 (JA_ @Try.f33.eq_1 @qh3)
theorem qhz : lbO 33 4 = q8L := zX (qf qh3) rfl
theorem qgc : okL 33 q8L := zm qng (List.mem_of_getElem? (i := 0) (by kernel_rfl))
theorem qlH : okL 10 q3S := qA (qf qfP) (by kernel_rfl) (by kernel_rfl)
def qlo := JA_ @q3S.eq_1 (JA_ @Try.f10.eq_1 @qfP)
theorem qfs : lbO 10 12 = q5A := zX (qf qfP) rfl
theorem qev : okL 10 q5A := zm qlH (List.mem_of_getElem? (i := 0) (by kernel_rfl))
theorem qfp : lbO 10 15 = q6a := zX (qf qfP) rfl
theorem qfo : okL 10 q6a := zm qlH (List.mem_of_getElem? (i := 1) (by kernel_rfl))
theorem qoM : okL 24 q7a := qA (qf qjH) (by kernel_rfl) (by kernel_rfl)
def qnT := JA_ @q7a.eq_1 (JA_ @Try.f24.eq_1 @qjH)
noncomputable def Zc (n : Int) (low : Int) (high : Int) : Option Bool :=
  if n < low then some Bool.true
  else some (decide (high < n))
noncomputable def qy (n : Int) (low : Int) (high : Int) : Bool :=
  if n < low then Bool.true
  else decide (high < n)
theorem q0S (n low high : Int) : Zc n low high = some (qy n low high) := by
  unfold Zc qy
  simp only [zp]
theorem Jg : ∀ (n low high : Int), ev 24 0 [rI n, rI low, rI high] [] = some (rB (qy n low high), []) :=
  fun n low high => by
    have h : ev 24 0 [rI n, rI low, rI high] [] = (Zc n low high).bind (fun (e : Bool) => some (rB e, [])) := by
      rw [qx qjH qnl.2.2.2 qoM]
      have := qnT; have := @Zc.eq_1; exact gA
    rw [q0S] at h
    exact h
theorem qpc : okL 20 q7k := qA (qf qke) (by kernel_rfl) (by kernel_rfl)
def qoZ := JA_ @q7k.eq_1 (JA_ @Try.f20.eq_1 @qke)
noncomputable def ZU (day : Int) : Option Bool :=
  if 0 ≤ day then some (decide (day ≤ 100000))
  else some Bool.false
noncomputable def zY (day : Int) : Bool :=
  if 0 ≤ day then decide (day ≤ 100000)
  else Bool.false
theorem q2c (day : Int) : ZU day = some (zY day) := by
  unfold ZU zY
  simp only [zp]
theorem q3k : ∀ (day : Int), ev 20 0 [rI day] [] = some (rB (zY day), []) :=
  fun day => by
    have h : ev 20 0 [rI day] [] = (ZU day).bind (fun (e : Bool) => some (rB e, [])) := by
      rw [qx qke qmV.2.2.2 qpc]
      have := qoZ; have := @ZU.eq_1; exact gA
    rw [q2c] at h
    exact h
theorem qmQ : okL 25 q5w := qA (qf qgv) (by kernel_rfl) (by kernel_rfl)
def qmo := JA_ @q5w.eq_1 (JA_ @Try.f25.eq_1 @qgv)
theorem qgq : lbO 25 3 = qam := zX (qf qgv) rfl
theorem qiz : okL 25 qam := zm qmQ (List.mem_of_getElem? (i := 0) (by kernel_rfl))
noncomputable def zA (t6 : List qi) (t7 : Int) : (List ByteArray × Int) → Option ((List ByteArray × Int) ⊕ (List ByteArray))
  | (out, t8) =>
    if t8 < t7 then if 0 ≤ t8 ∧ t8 < ((t6.length : Nat) : Int) then Option.bind t6[Int.toNat t8]? fun (a : qi) =>
        if out.length + 1 ≤ Go.maxLen ∧ (out.length + 1) * 16 ≤ 140737488355328 then some (Sum.inl (out ++ [a.Code], w64 (t8 + 1)))
        else none
      else none
    else some (Sum.inr out)
theorem q0L : ∀ (out : List ByteArray) (t6 : List qi) (t7 t8 : Int) (qY : Nat), qY = out.length → XL2 evo 25 0 3 ⟨[(3, rO 0 1 qY), (6, rL 2 qg t6), (7, rI t7), (8, rI t8)], [(0, bR 9 1 eS out)], 1, 19⟩ = (qT (zA t6 t7) (out, t8)).bind (fun (e : List ByteArray) => some (Go.Exit.exit 0, ⟨[(3, rO 0 1 e.length)], [(0, bR 9 1 eS e)], 1, 19⟩)) :=
  by
  intro out t6 t7 t8 qY h0
  subst h0
  revert t8; revert out; exact qaH qgq qiz (fun e => by exact ⟨_, rfl, fun h => by cases h⟩) fun out t8 => by
    have := qmo; have := @qam.eq_1; have := @zA.eq_1; exact gA
theorem JL : ∀  (t6 : List qi) (t7 t8 : Int), XL2 evo 25 0 3 ⟨[(3, rO 0 1 0), (6, rL 2 qg t6), (7, rI t7), (8, rI t8)], [(0, B.row 9 1 [])], 1, 19⟩ = (qT (zA t6 t7) ([], t8)).bind (fun (e : List ByteArray) => some (Go.Exit.exit 0, ⟨[(3, rO 0 1 e.length)], [(0, bR 9 1 eS e)], 1, 19⟩)) := by
  intro t6 t7 t8; have h := q0L [] t6 t7 t8 _ rfl
  first
    | exact h
    | (simp only [rL, dL, bR, bZ, Nat.reduceAdd] at h; exact h)
noncomputable def Qc (l : List qi) : Option (List ByteArray) :=
  Option.bind (qT (zA l ((l.length : Nat) : Int)) ([], 0)) fun (a : List ByteArray) =>
  some a
theorem q29 : ∀ (l : List qi), ev 25 0 [rL 2 qg l] [] = (Qc l).bind (fun (e : List ByteArray) => some (rL 1 eS e, [])) :=
  fun l => by
    rw [qx qgv qm7.2.2.2 qmQ]
    have := qmo; have := @JL; have := @Qc.eq_1; exact gA
theorem qps : okL 26 q78 := qA (qf qkx) (by kernel_rfl) (by kernel_rfl)
def qpT := JA_ @q78.eq_1 (JA_ @Try.f26.eq_1 @qkx)
theorem qpF : okL 57 q6A := qA (qf qjO) (by kernel_rfl) (by kernel_rfl)
def qp0 := JA_ @q6A.eq_1 (JA_ @Try.f57.eq_1 @qjO)
theorem qni : okL 73 q5m := qA (qf qjf) (by kernel_rfl) (by kernel_rfl)
def qn0 := JA_ @q5m.eq_1 (JA_ @Try.f73.eq_1 @qjf)
theorem qgE : lbO 73 2 = q9B := zX (qf qjf) rfl
theorem qiE : okL 73 q9B := zm qni (List.mem_of_getElem? (i := 0) (by kernel_rfl))
theorem qow : okL 56 q6r := qA (qf qk3) (by kernel_rfl) (by kernel_rfl)
def qnB := JA_ @q6r.eq_1 (JA_ @Try.f56.eq_1 @qk3)
noncomputable def QS (c : Int) : Option Bool :=
  if c < 65 then if c < 48 then some Bool.true
    else some (decide (57 < c))
  else if 90 < c then if c < 48 then some Bool.true
    else some (decide (57 < c))
  else some Bool.false
noncomputable def Qv (c : Int) : Bool :=
  if c < 65 then if c < 48 then Bool.true
    else decide (57 < c)
  else if 90 < c then if c < 48 then Bool.true
    else decide (57 < c)
  else Bool.false
theorem q0N (c : Int) : QS c = some (Qv c) := by
  unfold QS Qv
  simp only [zp]
theorem q1l : ∀ (c : Int), ev 56 0 [R.c (C.d (D.int .i32 c))] [] = some (rB (Qv c), []) :=
  fun c => by
    have h : ev 56 0 [R.c (C.d (D.int .i32 c))] [] = (QS c).bind (fun (e : Bool) => some (rB e, [])) := by
      rw [qx qk3 qnc.2.2.2 qow]
      have := qnB; have := @QS.eq_1; exact gA
    rw [q0N] at h
    exact h
noncomputable def zT (it0_s : ByteArray) (truth : Bool) : Nat → Option (Nat ⊕ (Int ⊕ Unit))
  | it0_p =>
    if it0_p < ByteArray.size it0_s then if (Qv (((@Go.Utf8.decode it0_s it0_p).1 : Nat) : Int) == truth) = Bool.true then some (Sum.inr (Sum.inl ((it0_p : Nat) : Int)))
      else some (Sum.inl (it0_p + (@Go.Utf8.decode it0_s it0_p).2))
    else some (Sum.inr (Sum.inr ()))
theorem ZY : ∀ (it0_s : ByteArray) (it0_p : Nat) (truth : Bool), XL2 evo 73 0 2 ⟨[(1, R.c (C.fn 56 [] [])), (2, rB truth), (10, R.c (C.hd .iter 0))], [(0, B.ob (AO.si it0_s it0_p))], 1, 21⟩ = (qT (zT it0_s truth) it0_p).bind (Sum.elim (fun (e : Int) => some (Go.Exit.ret, ⟨[(6, rI e)], [], 0, 21⟩)) (fun (e : Unit) => some (Go.Exit.exit 0, ⟨[(6, R.any)], [], 0, 21⟩))) :=
  fun it0_s it0_p truth => by
    revert it0_p; exact q5z qgE qiE (fun e => by rcases e with _ | _ <;> exact ⟨_, rfl, fun h => by cases h⟩) fun x => by
      have := qn0; have := @q9B.eq_1; have := @q1l; have := @zT.eq_1; exact gA
noncomputable def zO (s : ByteArray) (truth : Bool) : Option Int :=
  Option.bind (qT (zT s truth) 0) fun (a : Sum Int Unit) =>
  Sum.elim (fun (a2 : Int) => some a2) (fun (a3 : Unit) => some (-1)) a
theorem JH : ∀ (s : ByteArray) (truth : Bool), ev 73 0 [rS s, R.c (C.fn 56 [] []), rB truth] [] = (zO s truth).bind (fun (e : Int) => some (rI e, [])) :=
  fun s truth => by
    rw [qx qjf qm5.2.2.2 qni]
    have := qn0; have := @ZY; have := @zO.eq_1; exact gA
noncomputable def QL (fu : Nat) (s : ByteArray) (truth : Bool) : Option Int :=
  Option.bind (itT (zT s truth) fu 0) fun (a : Sum Int Unit) =>
  Sum.elim (fun (a2 : Int) => some a2) (fun (a3 : Unit) => some (-1)) a
theorem JG (fu : Nat) (s : ByteArray) (truth : Bool) : Ql (QL fu s truth) (zO s truth) := by
  unfold QL zO
  repeat (first
    | with_reducible exact Ql.refl _
    | with_reducible exact Ql.none _
    | with_reducible refine Ql.bind ?_ (fun _ => ?_)
    | with_reducible refine Ql.ite ?_ ?_
    | with_reducible refine Ql.sum (fun _ => ?_) (fun _ => ?_)
    | with_reducible refine Ql.lim (fun _ => ?_))
noncomputable def zK (s : ByteArray) : Option Int :=
  Option.bind (zO s Bool.true) fun (e0 : Int) =>
  some e0
theorem JN : ∀ (s : ByteArray), ev 57 0 [rS s, R.c (C.fn 56 [] [])] [] = (zK s).bind (fun (e : Int) => some (rI e, [])) :=
  fun s => by
    rw [qx qjO qmI.2.2.2 qpF]
    have := qp0; have := @JH; have := @zK.eq_1; exact gA
noncomputable def QJ (fu : Nat) (s : ByteArray) : Option Int :=
  Option.bind (QL fu s Bool.true) fun (e0 : Int) =>
  some e0
theorem JM (fu : Nat) (s : ByteArray) : Ql (QJ fu s) (zK s) := by
  unfold QJ zK
  repeat (first
    | with_reducible exact Ql.refl _
    | with_reducible exact Ql.none _
    | with_reducible apply JG
    | with_reducible refine Ql.bind ?_ (fun _ => ?_)
    | with_reducible refine Ql.ite ?_ ?_
    | with_reducible refine Ql.sum (fun _ => ?_) (fun _ => ?_)
    | with_reducible refine Ql.lim (fun _ => ?_))
noncomputable def Qt (s : ByteArray) : Option Bool :=
  if (!(ByteArray.toList s == ByteArray.toList (ByteArray.mk (List.toArray [])))) = Bool.true then if ((ByteArray.size s : Nat) : Int) ≤ 8 then Option.bind (zK s) fun (a : Int) =>
      some (decide (a < 0))
    else some Bool.false
  else some Bool.false
theorem q2j : ∀ (s : ByteArray), ev 26 0 [rS s] [] = (Qt s).bind (fun (e : Bool) => some (rB e, [])) :=
  fun s => by
    rw [qx qkx qn1.2.2.2 qps]
    have := qpT; have := @JN; have := @Qt.eq_1; exact gA
noncomputable def Jn (fu : Nat) (s : ByteArray) : Option Bool :=
  if (!(ByteArray.toList s == ByteArray.toList (ByteArray.mk (List.toArray [])))) = Bool.true then if ((ByteArray.size s : Nat) : Int) ≤ 8 then Option.bind (QJ fu s) fun (a : Int) =>
      some (decide (a < 0))
    else some Bool.false
  else some Bool.false
theorem q2a (fu : Nat) (s : ByteArray) : Ql (Jn fu s) (Qt s) := by
  unfold Jn Qt
  repeat (first
    | with_reducible exact Ql.refl _
    | with_reducible exact Ql.none _
    | with_reducible apply JM
    | with_reducible refine Ql.bind ?_ (fun _ => ?_)
    | with_reducible refine Ql.ite ?_ ?_
    | with_reducible refine Ql.sum (fun _ => ?_) (fun _ => ?_)
    | with_reducible refine Ql.lim (fun _ => ?_))
noncomputable def zH (w1 : List (List ByteArray)) (b0 : qb) (t4 : List ByteArray) (t53 : Int) (t54 : Int) (t58 : List ByteArray) (t59 : Int) : Int → Option (Int ⊕ (Int ⊕ Unit))
  | t60 =>
    if t60 < t59 then if 0 ≤ t60 ∧ t60 < ((t58.length : Nat) : Int) then Option.bind t58[Int.toNat t60]? fun (a : ByteArray) =>
        Option.bind (Qt a) fun (a2 : Bool) =>
        if (!a2) = Bool.true then some (Sum.inr (Sum.inl 12))
        else if 0 < t60 then if 0 ≤ w64 (t60 - 1) ∧ w64 (t60 - 1) < ((t4.length : Nat) : Int) then Option.bind t4[Int.toNat (w64 (t60 - 1))]? fun (a3 : ByteArray) =>
            if (!(Go.Op.bytesLess (ByteArray.toList a3) (ByteArray.toList a))) = Bool.true then some (Sum.inr (Sum.inl 7))
            else some (Sum.inl (w64 (t60 + 1)))
          else none
        else some (Sum.inl (w64 (t60 + 1)))
      else none
    else some (Sum.inr (Sum.inr ()))
theorem q0i : ∀ (w1 : List (List ByteArray)) (b0_Id b0_From b0_To b0_Begin b0_End : Int) (b0_In : List ByteArray) (b0_Out : List qi) (b0_Conv_Num b0_Conv_Add b0_Conv_Den b0_Conv_Round : Int) (t4 : List ByteArray) (t53 t54 : Int) (t58 : List ByteArray) (t59 t60 : Int) (w1_len : Nat), w1_len = w1.length → XL2 evo 10 0 15 ⟨[(1, rP 0), (4, rL 1 eS t4), (52, rO 1 1 w1_len), (53, rI t53), (54, rI t54), (58, rL 1 eS t58), (59, rI t59), (60, rI t60)], [(0, B.blk 36 [dI b0_Id, dI b0_From, dI b0_To, dI b0_Begin, dI b0_End, dL 1 eS b0_In, dL 2 qg b0_Out, dI b0_Conv_Num, dI b0_Conv_Add, dI b0_Conv_Den, dI b0_Conv_Round]), (1, bR 31 1 (eL 1 eS) w1)], 2, 100⟩ = (qT (zH w1 (qb.mk b0_Id b0_From b0_To b0_Begin b0_End b0_In b0_Out (qh.mk b0_Conv_Num b0_Conv_Add b0_Conv_Den b0_Conv_Round)) t4 t53 t54 t58 t59) t60).bind (Sum.elim (fun (e : Int) => some (Go.Exit.ret, ⟨[(1, rP 0), (2, rI e), (52, rO 1 1 w1.length), (53, rI t53), (54, rI t54)], [(0, B.blk 36 [dI b0_Id, dI b0_From, dI b0_To, dI b0_Begin, dI b0_End, dL 1 eS b0_In, dL 2 qg b0_Out, dI b0_Conv_Num, dI b0_Conv_Add, dI b0_Conv_Den, dI b0_Conv_Round]), (1, bR 31 1 (eL 1 eS) w1)], 2, 100⟩)) (fun (e : Unit) => some (Go.Exit.exit 3, ⟨[(1, rP 0), (2, R.any), (52, rO 1 1 w1.length), (53, rI t53), (54, rI t54)], [(0, B.blk 36 [dI b0_Id, dI b0_From, dI b0_To, dI b0_Begin, dI b0_End, dL 1 eS b0_In, dL 2 qg b0_Out, dI b0_Conv_Num, dI b0_Conv_Add, dI b0_Conv_Den, dI b0_Conv_Round]), (1, bR 31 1 (eL 1 eS) w1)], 2, 100⟩))) :=
  by
  intro w1 b0_Id b0_From b0_To b0_Begin b0_End b0_In b0_Out b0_Conv_Num b0_Conv_Add b0_Conv_Den b0_Conv_Round t4 t53 t54 t58 t59 t60 w1_len h0
  subst h0
  revert t60; exact q5z qfp qfo (fun e => by rcases e with _ | _ <;> exact ⟨_, rfl, fun h => by cases h⟩) fun x => by
    have := qlo; have := @q6a.eq_1; have := @q2j; have := @zH.eq_1; exact gA
end Go.Proofs.Ytplfjlcnffcenaa.Vc
namespace Go.Proofs.Ytplfjlcnffcenaa.Vc
open Go.RowKit
set_option linter.unusedVariables false
set_option linter.unusedSimpArgs false
set_option maxRecDepth 20000
set_option linter.defProp false
noncomputable def qG (w1 : List (List ByteArray)) (b0 : qb) (t53 : Int) : Int → Option (Int ⊕ (Int ⊕ Unit))
  | t54 =>
    if t54 < t53 then if 0 ≤ t54 ∧ t54 < ((w1.length : Nat) : Int) then Option.bind w1[Int.toNat t54]? fun (a : List ByteArray) =>
        Option.bind (qT (zH w1 b0 a t53 t54 a ((a.length : Nat) : Int)) 0) fun (a2 : Sum Int Unit) =>
        Sum.elim (fun (a3 : Int) => some (Sum.inr (Sum.inl a3))) (fun (a4 : Unit) => some (Sum.inl (w64 (t54 + 1)))) a2
      else none
    else some (Sum.inr (Sum.inr ()))
theorem q0p : ∀ (w1 : List (List ByteArray)) (b0_Id b0_From b0_To b0_Begin b0_End : Int) (b0_In : List ByteArray) (b0_Out : List qi) (b0_Conv_Num b0_Conv_Add b0_Conv_Den b0_Conv_Round t53 t54 : Int) (w1_len : Nat), w1_len = w1.length → XL2 evo 10 0 12 ⟨[(1, rP 0), (52, rO 1 1 w1_len), (53, rI t53), (54, rI t54)], [(0, B.blk 36 [dI b0_Id, dI b0_From, dI b0_To, dI b0_Begin, dI b0_End, dL 1 eS b0_In, dL 2 qg b0_Out, dI b0_Conv_Num, dI b0_Conv_Add, dI b0_Conv_Den, dI b0_Conv_Round]), (1, bR 31 1 (eL 1 eS) w1)], 2, 100⟩ = (qT (qG w1 (qb.mk b0_Id b0_From b0_To b0_Begin b0_End b0_In b0_Out (qh.mk b0_Conv_Num b0_Conv_Add b0_Conv_Den b0_Conv_Round)) t53) t54).bind (Sum.elim (fun (e : Int) => some (Go.Exit.ret, ⟨[(1, rP 0), (2, rI e)], [(0, B.blk 36 [dI b0_Id, dI b0_From, dI b0_To, dI b0_Begin, dI b0_End, dL 1 eS b0_In, dL 2 qg b0_Out, dI b0_Conv_Num, dI b0_Conv_Add, dI b0_Conv_Den, dI b0_Conv_Round])], 1, 100⟩)) (fun (e : Unit) => some (Go.Exit.exit 1, ⟨[(1, rP 0), (2, R.any)], [(0, B.blk 36 [dI b0_Id, dI b0_From, dI b0_To, dI b0_Begin, dI b0_End, dL 1 eS b0_In, dL 2 qg b0_Out, dI b0_Conv_Num, dI b0_Conv_Add, dI b0_Conv_Den, dI b0_Conv_Round])], 1, 100⟩))) :=
  by
  intro w1 b0_Id b0_From b0_To b0_Begin b0_End b0_In b0_Out b0_Conv_Num b0_Conv_Add b0_Conv_Den b0_Conv_Round t53 t54 w1_len h0
  subst h0
  revert t54; exact q5z qfs qev (fun e => by rcases e with _ | _ <;> exact ⟨_, rfl, fun h => by cases h⟩) fun x => by
    have := qlo; have := @q5A.eq_1; have := @q0i; have := @qG.eq_1; exact gA
theorem Jj : ∀ (w10 w11 : List ByteArray) (b0_Id b0_From b0_To b0_Begin b0_End : Int) (b0_In : List ByteArray) (b0_Out : List qi) (b0_Conv_Num b0_Conv_Add b0_Conv_Den b0_Conv_Round t53 t54 : Int), XL2 evo 10 0 12 ⟨[(1, rP 0), (52, rO 1 1 2), (53, rI t53), (54, rI t54)], [(0, B.blk 36 [dI b0_Id, dI b0_From, dI b0_To, dI b0_Begin, dI b0_End, dL 1 eS b0_In, dL 2 qg b0_Out, dI b0_Conv_Num, dI b0_Conv_Add, dI b0_Conv_Den, dI b0_Conv_Round]), (1, B.row 31 1 [dL 1 eS w10, dL 1 eS w11])], 2, 100⟩ = (qT (qG [w10, w11] (qb.mk b0_Id b0_From b0_To b0_Begin b0_End b0_In b0_Out (qh.mk b0_Conv_Num b0_Conv_Add b0_Conv_Den b0_Conv_Round)) t53) t54).bind (Sum.elim (fun (e : Int) => some (Go.Exit.ret, ⟨[(1, rP 0), (2, rI e)], [(0, B.blk 36 [dI b0_Id, dI b0_From, dI b0_To, dI b0_Begin, dI b0_End, dL 1 eS b0_In, dL 2 qg b0_Out, dI b0_Conv_Num, dI b0_Conv_Add, dI b0_Conv_Den, dI b0_Conv_Round])], 1, 100⟩)) (fun (e : Unit) => some (Go.Exit.exit 1, ⟨[(1, rP 0), (2, R.any)], [(0, B.blk 36 [dI b0_Id, dI b0_From, dI b0_To, dI b0_Begin, dI b0_End, dL 1 eS b0_In, dL 2 qg b0_Out, dI b0_Conv_Num, dI b0_Conv_Add, dI b0_Conv_Den, dI b0_Conv_Round])], 1, 100⟩))) := by
  intro w10 w11 b0_Id b0_From b0_To b0_Begin b0_End b0_In b0_Out b0_Conv_Num b0_Conv_Add b0_Conv_Den b0_Conv_Round t53 t54; have h := q0p [w10, w11] ((qb.mk b0_Id b0_From b0_To b0_Begin b0_End b0_In b0_Out (qh.mk b0_Conv_Num b0_Conv_Add b0_Conv_Den b0_Conv_Round))).Id ((qb.mk b0_Id b0_From b0_To b0_Begin b0_End b0_In b0_Out (qh.mk b0_Conv_Num b0_Conv_Add b0_Conv_Den b0_Conv_Round))).From ((qb.mk b0_Id b0_From b0_To b0_Begin b0_End b0_In b0_Out (qh.mk b0_Conv_Num b0_Conv_Add b0_Conv_Den b0_Conv_Round))).To ((qb.mk b0_Id b0_From b0_To b0_Begin b0_End b0_In b0_Out (qh.mk b0_Conv_Num b0_Conv_Add b0_Conv_Den b0_Conv_Round))).Begin ((qb.mk b0_Id b0_From b0_To b0_Begin b0_End b0_In b0_Out (qh.mk b0_Conv_Num b0_Conv_Add b0_Conv_Den b0_Conv_Round))).End ((qb.mk b0_Id b0_From b0_To b0_Begin b0_End b0_In b0_Out (qh.mk b0_Conv_Num b0_Conv_Add b0_Conv_Den b0_Conv_Round))).In ((qb.mk b0_Id b0_From b0_To b0_Begin b0_End b0_In b0_Out (qh.mk b0_Conv_Num b0_Conv_Add b0_Conv_Den b0_Conv_Round))).Out ((qb.mk b0_Id b0_From b0_To b0_Begin b0_End b0_In b0_Out (qh.mk b0_Conv_Num b0_Conv_Add b0_Conv_Den b0_Conv_Round))).Conv.Num ((qb.mk b0_Id b0_From b0_To b0_Begin b0_End b0_In b0_Out (qh.mk b0_Conv_Num b0_Conv_Add b0_Conv_Den b0_Conv_Round))).Conv.Add ((qb.mk b0_Id b0_From b0_To b0_Begin b0_End b0_In b0_Out (qh.mk b0_Conv_Num b0_Conv_Add b0_Conv_Den b0_Conv_Round))).Conv.Den ((qb.mk b0_Id b0_From b0_To b0_Begin b0_End b0_In b0_Out (qh.mk b0_Conv_Num b0_Conv_Add b0_Conv_Den b0_Conv_Round))).Conv.Round t53 t54 _ rfl
  first
    | exact h
    | (simp only [rL, dL, bR, bZ, Nat.reduceAdd] at h; exact h)
theorem qmu : okL 27 q6G := qA (qf qhC) (by kernel_rfl) (by kernel_rfl)
def qml := JA_ @q6G.eq_1 (JA_ @Try.f27.eq_1 @qhC)
theorem qlj : okL 58 q51 := qA (qf qfJ) (by kernel_rfl) (by kernel_rfl)
def qkd := JA_ @q51.eq_1 (JA_ @Try.f58.eq_1 @qfJ)
theorem qd2 : lbO 58 2 = q7q := zX (qf qfJ) rfl
theorem qcB : okL 58 q7q := zm qlj (List.mem_of_getElem? (i := 0) (by kernel_rfl))
theorem qny : okL 28 q7s := qA (qf qkr) (by kernel_rfl) (by kernel_rfl)
def qpM := JA_ @q7s.eq_1 (JA_ @Try.f28.eq_1 @qkr)
noncomputable def Z3 (g : qi) : Option Bool :=
  some (qy g.Credits 1 60)
noncomputable def Q4 (g : qi) : Bool :=
  qy g.Credits 1 60
theorem q0w (g : qi) : Z3 g = some (Q4 g) := by
  unfold Z3 Q4
  simp only [zp]
theorem q1q : ∀ (g_Code : ByteArray) (g_Credits : Int), ev 28 0 [R.agg [dS g_Code, dI g_Credits]] [] = some (rB (Q4 (qi.mk g_Code g_Credits)), []) :=
  fun g_Code g_Credits => by
    have h : ev 28 0 [R.agg [dS g_Code, dI g_Credits]] [] = (Z3 (qi.mk g_Code g_Credits)).bind (fun (e : Bool) => some (rB e, [])) := by
      rw [qx qkr qmx.2.2.2 qny]
      have := qpM; have := @Jg; have := @Z3.eq_1; exact gA
    rw [q0w] at h
    exact h
noncomputable def qr (s : List qi) (t7 : Int) : Int → Option (Int ⊕ (Int ⊕ Unit))
  | t8 =>
    if t8 < t7 then if 0 ≤ t8 ∧ t8 < ((s.length : Nat) : Int) then Option.bind s[Int.toNat t8]? fun (a : qi) =>
        if Q4 a = Bool.true then some (Sum.inr (Sum.inl t8))
        else some (Sum.inl (w64 (t8 + 1)))
      else none
    else some (Sum.inr (Sum.inr ()))
theorem Qj : ∀ (s : List qi) (t7 t8 : Int), XL2 evo 58 0 2 ⟨[(0, rL 2 qg s), (1, R.c (C.fn 28 [] [])), (7, rI t7), (8, rI t8)], [], 0, 19⟩ = (qT (qr s t7) t8).bind (Sum.elim (fun (e : Int) => some (Go.Exit.ret, ⟨[(4, rI e)], [], 0, 19⟩)) (fun (e : Unit) => some (Go.Exit.exit 0, ⟨[(4, R.any)], [], 0, 19⟩))) :=
  fun s t7 t8 => by
    revert t8; exact q5z qd2 qcB (fun e => by rcases e with _ | _ <;> exact ⟨_, rfl, fun h => by cases h⟩) fun x => by
      have := qkd; have := @q7q.eq_1; have := @q1q; have := @qr.eq_1; exact gA
noncomputable def qJ (s : List qi) : Option Int :=
  Option.bind (qT (qr s ((s.length : Nat) : Int)) 0) fun (a : Sum Int Unit) =>
  Sum.elim (fun (a2 : Int) => some a2) (fun (a3 : Unit) => some (-1)) a
theorem Qo : ∀ (s : List qi), ev 58 0 [rL 2 qg s, R.c (C.fn 28 [] [])] [] = (qJ s).bind (fun (e : Int) => some (rI e, [])) :=
  fun s => by
    rw [qx qfJ qkA.2.2.2 qlj]
    have := qkd; have := @Qj; have := @qJ.eq_1; exact gA
noncomputable def qn (s : List qi) : Option Bool :=
  Option.bind (qJ s) fun (a : Int) =>
  some (decide (0 ≤ a))
theorem Qk : ∀ (s : List qi), ev 27 0 [rL 2 qg s, R.c (C.fn 28 [] [])] [] = (qn s).bind (fun (e : Bool) => some (rB e, [])) :=
  fun s => by
    rw [qx qhC qkE.2.2.2 qmu]
    have := qml; have := @Qo; have := @qn.eq_1; exact gA
theorem qoH : okL 29 q7o := qA (qf qjG) (by kernel_rfl) (by kernel_rfl)
def qoa := JA_ @q7o.eq_1 (JA_ @Try.f29.eq_1 @qjG)
theorem qoz : okL 30 q6S := qA (qf qjR) (by kernel_rfl) (by kernel_rfl)
def qp6 := JA_ @q6S.eq_1 (JA_ @Try.f30.eq_1 @qjR)
theorem qmB : okL 59 q4S := qA (qf qhE) (by kernel_rfl) (by kernel_rfl)
def qmv := JA_ @q4S.eq_1 (JA_ @Try.f59.eq_1 @qhE)
theorem qh6 : lbO 59 2 = q8n := zX (qf qhE) rfl
theorem qiT : okL 59 q8n := zm qmB (List.mem_of_getElem? (i := 0) (by kernel_rfl))
noncomputable def qw (s : List ByteArray) (v : ByteArray) (t7 : Int) : Int → Option (Int ⊕ (Int ⊕ Unit))
  | t8 =>
    if t8 < t7 then if 0 ≤ t8 ∧ t8 < ((s.length : Nat) : Int) then Option.bind s[Int.toNat t8]? fun (a : ByteArray) =>
        if (ByteArray.toList v == ByteArray.toList a) = Bool.true then some (Sum.inr (Sum.inl t8))
        else some (Sum.inl (w64 (t8 + 1)))
      else none
    else some (Sum.inr (Sum.inr ()))
theorem QO : ∀ (s : List ByteArray) (v : ByteArray) (t7 t8 : Int), XL2 evo 59 0 2 ⟨[(0, rL 1 eS s), (1, rS v), (7, rI t7), (8, rI t8)], [], 0, 19⟩ = (qT (qw s v t7) t8).bind (Sum.elim (fun (e : Int) => some (Go.Exit.ret, ⟨[(4, rI e)], [], 0, 19⟩)) (fun (e : Unit) => some (Go.Exit.exit 0, ⟨[(4, R.any)], [], 0, 19⟩))) :=
  fun s v t7 t8 => by
    revert t8; exact q5z qh6 qiT (fun e => by rcases e with _ | _ <;> exact ⟨_, rfl, fun h => by cases h⟩) fun x => by
      have := qmv; have := @q8n.eq_1; have := @qw.eq_1; exact gA
noncomputable def zl (s : List ByteArray) (v : ByteArray) : Option Int :=
  Option.bind (qT (qw s v ((s.length : Nat) : Int)) 0) fun (a : Sum Int Unit) =>
  Sum.elim (fun (a2 : Int) => some a2) (fun (a3 : Unit) => some (-1)) a
theorem Z8 : ∀ (s : List ByteArray) (v : ByteArray), ev 59 0 [rL 1 eS s, rS v] [] = (zl s v).bind (fun (e : Int) => some (rI e, [])) :=
  fun s v => by
    rw [qx qhE qm9.2.2.2 qmB]
    have := qmv; have := @QO; have := @zl.eq_1; exact gA
noncomputable def qH (s : List ByteArray) (v : ByteArray) : Option Bool :=
  Option.bind (zl s v) fun (a : Int) =>
  some (decide (0 ≤ a))
theorem QP : ∀ (s : List ByteArray) (v : ByteArray), ev 30 0 [rL 1 eS s, rS v] [] = (qH s v).bind (fun (e : Bool) => some (rB e, [])) :=
  fun s v => by
    rw [qx qjR qm6.2.2.2 qoz]
    have := qp6; have := @Z8; have := @qH.eq_1; exact gA
noncomputable def QT (g : qi) (v : qb) : Option Bool :=
  Option.bind (qH v.In g.Code) fun (a : Bool) =>
  some a
theorem q1d : ∀ (g_Code : ByteArray) (g_Credits v_Id v_From v_To v_Begin v_End : Int) (v_In : List ByteArray) (v_Out : List qi) (v_Conv_Num v_Conv_Add v_Conv_Den v_Conv_Round : Int), ev 29 1 [R.agg [dS g_Code, dI g_Credits], rP 0] [(0, B.blk 36 [dI v_Id, dI v_From, dI v_To, dI v_Begin, dI v_End, dL 1 eS v_In, dL 2 qg v_Out, dI v_Conv_Num, dI v_Conv_Add, dI v_Conv_Den, dI v_Conv_Round])] = (QT (qi.mk g_Code g_Credits) (qb.mk v_Id v_From v_To v_Begin v_End v_In v_Out (qh.mk v_Conv_Num v_Conv_Add v_Conv_Den v_Conv_Round))).bind (fun (e : Bool) => some (rB e, [(0, B.blk 36 [dI v_Id, dI v_From, dI v_To, dI v_Begin, dI v_End, dL 1 eS v_In, dL 2 qg v_Out, dI v_Conv_Num, dI v_Conv_Add, dI v_Conv_Den, dI v_Conv_Round])])) :=
  fun g_Code g_Credits v_Id v_From v_To v_Begin v_End v_In v_Out v_Conv_Num v_Conv_Add v_Conv_Den v_Conv_Round => by
    rw [qx qjG qmq.2.2.2 qoH]
    have := qoa; have := @QP; have := @QT.eq_1; exact gA
noncomputable def qq (b0 : qb) (s : List qi) (t7 : Int) : Int → Option (Int ⊕ (Int ⊕ Unit))
  | t8 =>
    if t8 < t7 then if 0 ≤ t8 ∧ t8 < ((s.length : Nat) : Int) then Option.bind s[Int.toNat t8]? fun (a : qi) =>
        Option.bind (QT a b0) fun (a2 : Bool) =>
        if a2 = Bool.true then some (Sum.inr (Sum.inl t8))
        else some (Sum.inl (w64 (t8 + 1)))
      else none
    else some (Sum.inr (Sum.inr ()))
theorem Q7 : ∀ (b0_Id b0_From b0_To b0_Begin b0_End : Int) (b0_In : List ByteArray) (b0_Out : List qi) (b0_Conv_Num b0_Conv_Add b0_Conv_Den b0_Conv_Round : Int) (s : List qi) (t7 t8 : Int), XL2 evo 58 1 2 ⟨[(0, rL 2 qg s), (1, R.c (C.fn 29 [] [dP 0])), (7, rI t7), (8, rI t8)], [(0, B.blk 36 [dI b0_Id, dI b0_From, dI b0_To, dI b0_Begin, dI b0_End, dL 1 eS b0_In, dL 2 qg b0_Out, dI b0_Conv_Num, dI b0_Conv_Add, dI b0_Conv_Den, dI b0_Conv_Round])], 1, 19⟩ = (qT (qq (qb.mk b0_Id b0_From b0_To b0_Begin b0_End b0_In b0_Out (qh.mk b0_Conv_Num b0_Conv_Add b0_Conv_Den b0_Conv_Round)) s t7) t8).bind (Sum.elim (fun (e : Int) => some (Go.Exit.ret, ⟨[(4, rI e)], [(0, B.blk 36 [dI b0_Id, dI b0_From, dI b0_To, dI b0_Begin, dI b0_End, dL 1 eS b0_In, dL 2 qg b0_Out, dI b0_Conv_Num, dI b0_Conv_Add, dI b0_Conv_Den, dI b0_Conv_Round])], 1, 19⟩)) (fun (e : Unit) => some (Go.Exit.exit 0, ⟨[(4, R.any)], [(0, B.blk 36 [dI b0_Id, dI b0_From, dI b0_To, dI b0_Begin, dI b0_End, dL 1 eS b0_In, dL 2 qg b0_Out, dI b0_Conv_Num, dI b0_Conv_Add, dI b0_Conv_Den, dI b0_Conv_Round])], 1, 19⟩))) :=
  fun b0_Id b0_From b0_To b0_Begin b0_End b0_In b0_Out b0_Conv_Num b0_Conv_Add b0_Conv_Den b0_Conv_Round s t7 t8 => by
    revert t8; exact q5z qd2 qcB (fun e => by rcases e with _ | _ <;> exact ⟨_, rfl, fun h => by cases h⟩) fun x => by
      have := qkd; have := @q7q.eq_1; have := @q1d; have := @qq.eq_1; exact gA
noncomputable def qC (s : List qi) (b0 : qb) : Option Int :=
  Option.bind (qT (qq b0 s ((s.length : Nat) : Int)) 0) fun (a : Sum Int Unit) =>
  Sum.elim (fun (a2 : Int) => some a2) (fun (a3 : Unit) => some (-1)) a
theorem Qn : ∀ (s : List qi) (b0_Id b0_From b0_To b0_Begin b0_End : Int) (b0_In : List ByteArray) (b0_Out : List qi) (b0_Conv_Num b0_Conv_Add b0_Conv_Den b0_Conv_Round : Int), ev 58 1 [rL 2 qg s, R.c (C.fn 29 [] [dP 0])] [(0, B.blk 36 [dI b0_Id, dI b0_From, dI b0_To, dI b0_Begin, dI b0_End, dL 1 eS b0_In, dL 2 qg b0_Out, dI b0_Conv_Num, dI b0_Conv_Add, dI b0_Conv_Den, dI b0_Conv_Round])] = (qC s (qb.mk b0_Id b0_From b0_To b0_Begin b0_End b0_In b0_Out (qh.mk b0_Conv_Num b0_Conv_Add b0_Conv_Den b0_Conv_Round))).bind (fun (e : Int) => some (rI e, [(0, B.blk 36 [dI b0_Id, dI b0_From, dI b0_To, dI b0_Begin, dI b0_End, dL 1 eS b0_In, dL 2 qg b0_Out, dI b0_Conv_Num, dI b0_Conv_Add, dI b0_Conv_Den, dI b0_Conv_Round])])) :=
  fun s b0_Id b0_From b0_To b0_Begin b0_End b0_In b0_Out b0_Conv_Num b0_Conv_Add b0_Conv_Den b0_Conv_Round => by
    rw [qx qfJ qkA.2.2.2 qlj]
    have := qkd; have := @Q7; have := @qC.eq_1; exact gA
noncomputable def ql (s : List qi) (b0 : qb) : Option Bool :=
  Option.bind (qC s b0) fun (a : Int) =>
  some (decide (0 ≤ a))
theorem Q6 : ∀ (s : List qi) (b0_Id b0_From b0_To b0_Begin b0_End : Int) (b0_In : List ByteArray) (b0_Out : List qi) (b0_Conv_Num b0_Conv_Add b0_Conv_Den b0_Conv_Round : Int), ev 27 1 [rL 2 qg s, R.c (C.fn 29 [] [dP 0])] [(0, B.blk 36 [dI b0_Id, dI b0_From, dI b0_To, dI b0_Begin, dI b0_End, dL 1 eS b0_In, dL 2 qg b0_Out, dI b0_Conv_Num, dI b0_Conv_Add, dI b0_Conv_Den, dI b0_Conv_Round])] = (ql s (qb.mk b0_Id b0_From b0_To b0_Begin b0_End b0_In b0_Out (qh.mk b0_Conv_Num b0_Conv_Add b0_Conv_Den b0_Conv_Round))).bind (fun (e : Bool) => some (rB e, [(0, B.blk 36 [dI b0_Id, dI b0_From, dI b0_To, dI b0_Begin, dI b0_End, dL 1 eS b0_In, dL 2 qg b0_Out, dI b0_Conv_Num, dI b0_Conv_Add, dI b0_Conv_Den, dI b0_Conv_Round])])) :=
  fun s b0_Id b0_From b0_To b0_Begin b0_End b0_In b0_Out b0_Conv_Num b0_Conv_Add b0_Conv_Den b0_Conv_Round => by
    rw [qx qhC qkE.2.2.2 qmu]
    have := qml; have := @Qn; have := @ql.eq_1; exact gA
theorem qoN : okL 31 q6M := qA (qf qk1) (by kernel_rfl) (by kernel_rfl)
def qo0 := JA_ @q6M.eq_1 (JA_ @Try.f31.eq_1 @qk1)
theorem qor : okL 45 q6R := qA (qf qjN) (by kernel_rfl) (by kernel_rfl)
def qoY := JA_ @q6R.eq_1 (JA_ @Try.f45.eq_1 @qjN)
noncomputable def Qe (n : Int) (a : Int) (b : Int) : Option Int :=
  some (max (min a b) (min n (max a b)))
noncomputable def qe (n : Int) (a : Int) (b : Int) : Int :=
  max (min a b) (min n (max a b))
theorem Ju (n a b : Int) : Qe n a b = some (qe n a b) := by
  unfold Qe qe
  simp only [zp]
theorem zd : ∀ (n a b : Int), ev 45 0 [rI n, rI a, rI b] [] = some (rI (qe n a b), []) :=
  fun n a b => by
    have h : ev 45 0 [rI n, rI a, rI b] [] = (Qe n a b).bind (fun (e : Int) => some (rI e, [])) := by
      rw [qx qjN qmG.2.2.2 qor]
      have := qoY; have := @Qe.eq_1; exact gA
    rw [Ju] at h
    exact h
noncomputable def Qx (c : qh) : Option Int :=
  if (qe c.Den 1 1000 != c.Den) = Bool.true then some 3
  else if (qe c.Num (-1000) 1000 != c.Num) = Bool.true then some 3
  else if (qe c.Add (-1000) 1000 != c.Add) = Bool.true then some 3
  else if (qe c.Round 1 4 != c.Round) = Bool.true then some 3
  else some 0
noncomputable def qm (c : qh) : Int :=
  if (qe c.Den 1 1000 != c.Den) = Bool.true then 3
  else if (qe c.Num (-1000) 1000 != c.Num) = Bool.true then 3
  else if (qe c.Add (-1000) 1000 != c.Add) = Bool.true then 3
  else if (qe c.Round 1 4 != c.Round) = Bool.true then 3
  else 0
theorem JU (c : qh) : Qx c = some (qm c) := by
  unfold Qx qm
  simp only [zp]
theorem Zt : ∀ (c_Num c_Add c_Den c_Round : Int), ev 31 0 [R.agg [dI c_Num, dI c_Add, dI c_Den, dI c_Round]] [] = some (rI (qm (qh.mk c_Num c_Add c_Den c_Round)), []) :=
  fun c_Num c_Add c_Den c_Round => by
    have h : ev 31 0 [R.agg [dI c_Num, dI c_Add, dI c_Den, dI c_Round]] [] = (Qx (qh.mk c_Num c_Add c_Den c_Round)).bind (fun (e : Int) => some (rI e, [])) := by
      rw [qx qk1 qn7.2.2.2 qoN]
      have := qo0; have := @zd; have := @Qx.eq_1; exact gA
    rw [JU] at h
    exact h
noncomputable def QU (x0 : qb) : Option Int :=
  if x0.Id < 1 then some 1
  else if qy x0.From 1 8 = Bool.true then some 1
  else if qy x0.To 1 8 = Bool.true then some 1
  else if (!(zY x0.Begin)) = Bool.true then some 23
  else if (x0.End != 0) = Bool.true then if (!(zY x0.End)) = Bool.true then some 23
    else if x0.End < x0.Begin then some 23
    else if qy ((x0.In.length : Nat) : Int) 1 3 = Bool.true then some 2
    else if qy ((x0.Out.length : Nat) : Int) 1 3 = Bool.true then some 2
    else Option.bind (Qc x0.Out) fun (a : List ByteArray) =>
    Option.bind (qT (qG [x0.In, a] x0 2) 0) fun (a2 : Sum Int Unit) =>
    Sum.elim (fun (a3 : Int) => some a3) (fun (a4 : Unit) => Option.bind (qn x0.Out) fun (a5 : Bool) =>
      if a5 = Bool.true then some 3
      else if (x0.From == x0.To) = Bool.true then Option.bind (ql x0.Out x0) fun (a6 : Bool) =>
        if a6 = Bool.true then some 14
        else some (qm x0.Conv)
      else some (qm x0.Conv)) a2
  else if qy ((x0.In.length : Nat) : Int) 1 3 = Bool.true then some 2
  else if qy ((x0.Out.length : Nat) : Int) 1 3 = Bool.true then some 2
  else Option.bind (Qc x0.Out) fun (a7 : List ByteArray) =>
  Option.bind (qT (qG [x0.In, a7] x0 2) 0) fun (a8 : Sum Int Unit) =>
  Sum.elim (fun (a9 : Int) => some a9) (fun (a10 : Unit) => Option.bind (qn x0.Out) fun (a11 : Bool) =>
    if a11 = Bool.true then some 3
    else if (x0.From == x0.To) = Bool.true then Option.bind (ql x0.Out x0) fun (a12 : Bool) =>
      if a12 = Bool.true then some 14
      else some (qm x0.Conv)
    else some (qm x0.Conv)) a8
theorem q2h : ∀ (x0_Id x0_From x0_To x0_Begin x0_End : Int) (x0_In : List ByteArray) (x0_Out : List qi) (x0_Conv_Num x0_Conv_Add x0_Conv_Den x0_Conv_Round : Int), ev 10 0 [R.agg [dI x0_Id, dI x0_From, dI x0_To, dI x0_Begin, dI x0_End, dL 1 eS x0_In, dL 2 qg x0_Out, dI x0_Conv_Num, dI x0_Conv_Add, dI x0_Conv_Den, dI x0_Conv_Round]] [] = (QU (qb.mk x0_Id x0_From x0_To x0_Begin x0_End x0_In x0_Out (qh.mk x0_Conv_Num x0_Conv_Add x0_Conv_Den x0_Conv_Round))).bind (fun (e : Int) => some (rI e, [])) :=
  fun x0_Id x0_From x0_To x0_Begin x0_End x0_In x0_Out x0_Conv_Num x0_Conv_Add x0_Conv_Den x0_Conv_Round => by
    rw [qx qfP qlX.2.2.2 qlH]
    have := qlo; have := @Jg; have := @q3k; have := @q29; have := @Jj; have := @Qk; have := @Q6; have := @Zt; have := @QU.eq_1; exact gA
theorem qm0 : okL 61 q5t := qA (qf qhc) (by kernel_rfl) (by kernel_rfl)
def qmR := JA_ @q5t.eq_1 (JA_ @Try.f61.eq_1 @qhc)
theorem qg4 : lbO 61 4 = q9t := zX (qf qhc) rfl
theorem qhQ : okL 61 q9t := zm qm0 (List.mem_of_getElem? (i := 0) (by kernel_rfl))
noncomputable def qB (s1 : List Int) (s2 : List Int) (t12 : Int) : Int → Option (Int ⊕ (Unit ⊕ Unit))
  | t13 =>
    if t13 < t12 then if 0 ≤ t13 ∧ t13 < ((s1.length : Nat) : Int) then Option.bind s1[Int.toNat t13]? fun (a : Int) =>
        if 0 ≤ t13 ∧ t13 < ((s2.length : Nat) : Int) then Option.bind s2[Int.toNat t13]? fun (a2 : Int) =>
          if (a != a2) = Bool.true then some (Sum.inr (Sum.inl ()))
          else some (Sum.inl (w64 (t13 + 1)))
        else none
      else none
    else some (Sum.inr (Sum.inr ()))
theorem Zy : ∀ (s1 s2 : List Int) (t12 t13 : Int), XL2 evo 61 0 4 ⟨[(0, rL 1 eI s1), (1, rL 1 eI s2), (12, rI t12), (13, rI t13)], [], 0, 26⟩ = (qT (qB s1 s2 t12) t13).bind (Sum.elim (fun (e : Unit) => some (Go.Exit.ret, ⟨[(4, rB Bool.false)], [], 0, 26⟩)) (fun (e : Unit) => some (Go.Exit.exit 0, ⟨[(4, R.any)], [], 0, 26⟩))) :=
  fun s1 s2 t12 t13 => by
    revert t13; exact q5z qg4 qhQ (fun e => by rcases e with _ | _ <;> exact ⟨_, rfl, fun h => by cases h⟩) fun x => by
      have := qmR; have := @q9t.eq_1; have := @qB.eq_1; exact gA
noncomputable def zq (s1 : List Int) (s2 : List Int) : Option Bool :=
  if (((s1.length : Nat) : Int) != ((s2.length : Nat) : Int)) = Bool.true then some Bool.false
  else Option.bind (qT (qB s1 s2 ((s1.length : Nat) : Int)) 0) fun (a : Sum Unit Unit) =>
  Sum.elim (fun (a2 : Unit) => some Bool.false) (fun (a3 : Unit) => some Bool.true) a
theorem J1 : ∀ (s1 s2 : List Int), ev 61 0 [rL 1 eI s1, rL 1 eI s2] [] = (zq s1 s2).bind (fun (e : Bool) => some (rB e, [])) :=
  fun s1 s2 => by
    rw [qx qhc qmd.2.2.2 qm0]
    have := qmR; have := @Zy; have := @zq.eq_1; exact gA
noncomputable def zn (a : qb) (l : List qa) (t20 : List qa) (t21 : Int) : Int → Option (Int ⊕ (Unit ⊕ Unit))
  | t22 =>
    if t22 < t21 then if 0 ≤ t22 ∧ t22 < ((t20.length : Nat) : Int) then Option.bind t20[Int.toNat t22]? fun (a2 : qa) =>
        if 0 ≤ t22 ∧ t22 < ((a.In.length : Nat) : Int) then Option.bind a.In[Int.toNat t22]? fun (a3 : ByteArray) =>
          if (!(a2.Course.School == a.From && ByteArray.toList a2.Course.Code == ByteArray.toList a3)) = Bool.true then some (Sum.inr (Sum.inl ()))
          else if 0 < ((l.length : Nat) : Int) then Option.bind l[0]? fun (a4 : qa) =>
            Option.bind (zq a2.Path a4.Path) fun (a5 : Bool) =>
            if (!a5) = Bool.true then some (Sum.inr (Sum.inl ()))
            else some (Sum.inl (w64 (t22 + 1)))
          else none
        else none
      else none
    else some (Sum.inr (Sum.inr ()))
theorem JW : ∀ (a_Id a_From a_To a_Begin a_End : Int) (a_In : List ByteArray) (a_Out : List qi) (a_Conv_Num a_Conv_Add a_Conv_Den a_Conv_Round : Int) (l t20 : List qa) (t21 t22 : Int), XL2 evo 33 0 4 ⟨[(1, rL 8 qd l), (2, rP 0), (20, rL 8 qd t20), (21, rI t21), (22, rI t22)], [(0, B.blk 36 [dI a_Id, dI a_From, dI a_To, dI a_Begin, dI a_End, dL 1 eS a_In, dL 2 qg a_Out, dI a_Conv_Num, dI a_Conv_Add, dI a_Conv_Den, dI a_Conv_Round])], 1, 62⟩ = (qT (zn (qb.mk a_Id a_From a_To a_Begin a_End a_In a_Out (qh.mk a_Conv_Num a_Conv_Add a_Conv_Den a_Conv_Round)) l t20 t21) t22).bind (Sum.elim (fun (e : Unit) => some (Go.Exit.ret, ⟨[(1, rL 8 qd l), (2, rP 0), (4, rB Bool.false)], [(0, B.blk 36 [dI a_Id, dI a_From, dI a_To, dI a_Begin, dI a_End, dL 1 eS a_In, dL 2 qg a_Out, dI a_Conv_Num, dI a_Conv_Add, dI a_Conv_Den, dI a_Conv_Round])], 1, 62⟩)) (fun (e : Unit) => some (Go.Exit.exit 0, ⟨[(1, rL 8 qd l), (2, rP 0), (4, R.any)], [(0, B.blk 36 [dI a_Id, dI a_From, dI a_To, dI a_Begin, dI a_End, dL 1 eS a_In, dL 2 qg a_Out, dI a_Conv_Num, dI a_Conv_Add, dI a_Conv_Den, dI a_Conv_Round])], 1, 62⟩))) :=
  fun a_Id a_From a_To a_Begin a_End a_In a_Out a_Conv_Num a_Conv_Add a_Conv_Den a_Conv_Round l t20 t21 t22 => by
    revert t22; exact q5z qhz qgc (fun e => by rcases e with _ | _ <;> exact ⟨_, rfl, fun h => by cases h⟩) fun x => by
      have := qnf; have := @q8L.eq_1; have := @J1; have := @zn.eq_1; exact gA
theorem qmb : okL 38 q4X := qA (qf qhn) (by kernel_rfl) (by kernel_rfl)
def qmD := JA_ @q4X.eq_1 (JA_ @Try.f38.eq_1 @qhn)
theorem qix : lbO 38 3 = qaq := zX (qf qhn) rfl
theorem qgL : okL 38 qaq := zm qmb (List.mem_of_getElem? (i := 0) (by kernel_rfl))
theorem qoG : okL 39 q77 := qA (qf qkg) (by kernel_rfl) (by kernel_rfl)
def qoP := JA_ @q77.eq_1 (JA_ @Try.f39.eq_1 @qkg)
noncomputable def QX (a : qa) : Option (List Int) :=
  some a.Sources
noncomputable def Q5 (a : qa) : List Int :=
  a.Sources
theorem q0v (a : qa) : QX a = some (Q5 a) := by
  unfold QX Q5
  simp only [zp]
theorem q1n : ∀ (a_Course_School : Int) (a_Course_Code : ByteArray) (a_Credits a_Grade a_Day : Int) (a_Sources : List Int) (a_Bundle : Int) (a_Path : List Int), ev 39 0 [R.agg [dI a_Course_School, dS a_Course_Code, dI a_Credits, dI a_Grade, dI a_Day, dL 1 eI a_Sources, dI a_Bundle, dL 1 eI a_Path]] [] = some (R.c (C.d (D.sl 1 (Q5 (qa.mk (qV.mk a_Course_School a_Course_Code) a_Credits a_Grade a_Day a_Sources a_Bundle a_Path)).length ((Q5 (qa.mk (qV.mk a_Course_School a_Course_Code) a_Credits a_Grade a_Day a_Sources a_Bundle a_Path)).flatMap eI))), []) :=
  fun a_Course_School a_Course_Code a_Credits a_Grade a_Day a_Sources a_Bundle a_Path => by
    have h : ev 39 0 [R.agg [dI a_Course_School, dS a_Course_Code, dI a_Credits, dI a_Grade, dI a_Day, dL 1 eI a_Sources, dI a_Bundle, dL 1 eI a_Path]] [] = (QX (qa.mk (qV.mk a_Course_School a_Course_Code) a_Credits a_Grade a_Day a_Sources a_Bundle a_Path)).bind (fun (e : List Int) => some (rL 1 eI e, [])) := by
      rw [qx qkg qmJ.2.2.2 qoG]
      have := qoP; have := @QX.eq_1; exact gA
    rw [q0v] at h
    exact h
noncomputable def qW (t8 : List qa) (t9 : Int) : (List (List Int) × Int) → Option ((List (List Int) × Int) ⊕ (List (List Int)))
  | (out, t10) =>
    if t10 < t9 then if 0 ≤ t10 ∧ t10 < ((t8.length : Nat) : Int) then Option.bind t8[Int.toNat t10]? fun (a : qa) =>
        if out.length + 1 ≤ Go.maxLen ∧ (out.length + 1) * 24 ≤ 140737488355328 then some (Sum.inl (out ++ [Q5 a], w64 (t10 + 1)))
        else none
      else none
    else some (Sum.inr out)
theorem Jb : ∀ (out : List (List Int)) (t8 : List qa) (t9 t10 : Int) (qY : Nat), qY = out.length → XL2 evo 38 0 3 ⟨[(1, R.c (C.fn 39 [] [])), (5, rO 0 1 qY), (8, rL 8 qd t8), (9, rI t9), (10, rI t10)], [(0, bR 41 1 (eL 1 eI) out)], 1, 22⟩ = (qT (qW t8 t9) (out, t10)).bind (fun (e : List (List Int)) => some (Go.Exit.exit 0, ⟨[(5, rO 0 1 e.length)], [(0, bR 41 1 (eL 1 eI) e)], 1, 22⟩)) :=
  by
  intro out t8 t9 t10 qY h0
  subst h0
  revert t10; revert out; exact qaH qix qgL (fun e => by exact ⟨_, rfl, fun h => by cases h⟩) fun out t10 => by
    have := qmD; have := @qaq.eq_1; have := @q1n; have := @qW.eq_1; exact gA
theorem ZF : ∀  (t8 : List qa) (t9 t10 : Int), XL2 evo 38 0 3 ⟨[(1, R.c (C.fn 39 [] [])), (5, rO 0 1 0), (8, rL 8 qd t8), (9, rI t9), (10, rI t10)], [(0, B.row 41 1 [])], 1, 22⟩ = (qT (qW t8 t9) ([], t10)).bind (fun (e : List (List Int)) => some (Go.Exit.exit 0, ⟨[(5, rO 0 1 e.length)], [(0, bR 41 1 (eL 1 eI) e)], 1, 22⟩)) := by
  intro t8 t9 t10; have h := Jb [] t8 t9 t10 _ rfl
  first
    | exact h
    | (simp only [rL, dL, bR, bZ, Nat.reduceAdd] at h; exact h)
noncomputable def zz (l : List qa) : Option (List (List Int)) :=
  Option.bind (qT (qW l ((l.length : Nat) : Int)) ([], 0)) fun (a : List (List Int)) =>
  some a
theorem Zo : ∀ (l : List qa), ev 38 0 [rL 8 qd l, R.c (C.fn 39 [] [])] [] = (zz l).bind (fun (e : List (List Int)) => some (rL 1 (eL 1 eI) e, [])) :=
  fun l => by
    rw [qx qhn qlU.2.2.2 qmb]
    have := qmD; have := @ZF; have := @zz.eq_1; exact gA
theorem qlt : okL 37 q3Y := qA (qf qfM) (by kernel_rfl) (by kernel_rfl)
def qlv := JA_ @q3Y.eq_1 (JA_ @Try.f37.eq_1 @qfM)
theorem qg1 : lbO 37 5 = qay := zX (qf qfM) rfl
theorem qii : okL 37 qay := zm qlt (List.mem_of_getElem? (i := 0) (by kernel_rfl))
theorem qfW : lbO 37 9 = qar := zX (qf qfM) rfl
theorem qjy : okL 37 qar := zm qlt (List.mem_of_getElem? (i := 1) (by kernel_rfl))
noncomputable def qU (m0 : List (Int × Bool)) : Option Unit :=
  some ()
noncomputable def zF (m0 : List (Int × Bool)) : Unit :=
  ()
theorem Qw (m0 : List (Int × Bool)) : qU m0 = some (zF m0) := by
  unfold qU zF
  simp only [zp]
theorem QB : ∀ (m0 : List (Int × Bool)), ev 62 1 [R.c (C.hd .map 0)] [(0, B.ob (mpB (q0O .i64) zQ m0))] = some (R.c (C.hd .map 1), [(0, B.ob (mpB (q0O .i64) zQ m0)), (1, B.ob (mpB (q0O .i64) zQ m0))]) :=
  fun m0 => by
    have h : ev 62 1 [R.c (C.hd .map 0)] [(0, B.ob (mpB (q0O .i64) zQ m0))] = (qU m0).bind (fun (e : Unit) => some (R.c (C.hd .map 1), [(0, B.ob (mpB (q0O .i64) zQ m0)), (1, B.ob (mpB (q0O .i64) zQ m0))])) := by
      rw [qdM, qlR.2.2.2]
      have := @qU.eq_1; exact gA
    rw [Qw] at h
    exact h
noncomputable def zS (m2 : List (Int × Bool)) (t13 : List (List Int)) (t14 : Int) (t15 : Int) (t21 : List Int) (t22 : Int) : (List Int × (List (Int × Bool)) × Bool × Int) → Option ((List Int × (List (Int × Bool)) × Bool × Int) ⊕ (List Int × (List (Int × Bool)) × Bool))
  | (out, m0, apart, t23) =>
    if t23 < t22 then if 0 ≤ t23 ∧ t23 < ((t21.length : Nat) : Int) then Option.bind t21[Int.toNat t23]? fun (a : Int) =>
        if q3X Bool.false m2 a = Bool.true then if (!(q3X Bool.false m0 a)) = Bool.true then if out.length + 1 ≤ Go.maxLen ∧ (out.length + 1) * 8 ≤ 140737488355328 then some (Sum.inl (out ++ [a], q44 m0 a Bool.true, Bool.false, w64 (t23 + 1)))
            else none
          else some (Sum.inl (out, q44 m0 a Bool.true, Bool.false, w64 (t23 + 1)))
        else if (!(q3X Bool.false m0 a)) = Bool.true then if out.length + 1 ≤ Go.maxLen ∧ (out.length + 1) * 8 ≤ 140737488355328 then some (Sum.inl (out ++ [a], q44 m0 a Bool.true, apart, w64 (t23 + 1)))
          else none
        else some (Sum.inl (out, q44 m0 a Bool.true, apart, w64 (t23 + 1)))
      else none
    else some (Sum.inr (out, m0, apart))
theorem q0Z : ∀ (out : List Int) (m0 m2 : List (Int × Bool)) (apart : Bool) (t13 : List (List Int)) (t14 t15 : Int) (t21 : List Int) (t22 t23 : Int) (qY : Nat), qY = out.length → XL2 evo 37 0 9 ⟨[(4, R.c (C.hd .map 0)), (5, rO 1 1 qY), (6, rB apart), (9, R.c (C.hd .map 2)), (13, rL 1 (eL 1 eI) t13), (14, rI t14), (15, rI t15), (21, rL 1 eI t21), (22, rI t22), (23, rI t23)], [(0, B.ob (mpB (q0O .i64) zQ m0)), (1, bR 3 1 eI out), (2, B.ob (mpB (q0O .i64) zQ m2))], 3, 44⟩ = (qT (zS m2 t13 t14 t15 t21 t22) (out, m0, apart, t23)).bind (fun (e : List Int × (List (Int × Bool)) × Bool) => some (Go.Exit.exit 2, ⟨[(4, R.c (C.hd .map 0)), (5, rO 1 1 e.1.length), (6, rB e.2.2), (13, rL 1 (eL 1 eI) t13), (14, rI t14), (15, rI t15)], [(0, B.ob (mpB (q0O .i64) zQ e.2.1)), (1, bR 3 1 eI e.1)], 2, 44⟩)) :=
  by
  intro out m0 m2 apart t13 t14 t15 t21 t22 t23 qY h0
  subst h0
  revert t23; revert apart; revert m0; revert out; exact qm4 qfW qjy (fun e => by exact ⟨_, rfl, fun h => by cases h⟩) fun out m0 apart t23 => by
    have := qlv; have := @qar.eq_1; have := @zS.eq_1; exact gA
noncomputable def zL (t13 : List (List Int)) (t14 : Int) : (List Int × (List (Int × Bool)) × Bool × Int) → Option ((List Int × (List (Int × Bool)) × Bool × Int) ⊕ (List Int × Bool))
  | (out, m0, apart, t15) =>
    if t15 < t14 then if 0 ≤ t15 ∧ t15 < ((t13.length : Nat) : Int) then Option.bind t13[Int.toNat t15]? fun (a : List Int) =>
        Option.bind (qT (zS m0 t13 t14 t15 a ((a.length : Nat) : Int)) (out, (m0, (apart, 0)))) fun (a2 : Prod (List Int) (Prod (List (Prod Int Bool)) Bool)) =>
        some (Sum.inl (a2.1, a2.2.1, a2.2.2, w64 (t15 + 1)))
      else none
    else some (Sum.inr (out, apart))
theorem q1m : ∀ (out : List Int) (m0 : List (Int × Bool)) (apart : Bool) (t13 : List (List Int)) (t14 t15 : Int) (qY : Nat), qY = out.length → XL2 evo 37 0 5 ⟨[(4, R.c (C.hd .map 0)), (5, rO 1 1 qY), (6, rB apart), (13, rL 1 (eL 1 eI) t13), (14, rI t14), (15, rI t15)], [(0, B.ob (mpB (q0O .i64) zQ m0)), (1, bR 3 1 eI out)], 2, 44⟩ = (qT (zL t13 t14) (out, m0, apart, t15)).bind (fun (e : List Int × Bool) => some (Go.Exit.exit 0, ⟨[(5, rO 0 1 e.1.length), (6, rB e.2)], [(0, bR 3 1 eI e.1)], 1, 44⟩)) :=
  by
  intro out m0 apart t13 t14 t15 qY h0
  subst h0
  revert t15; revert apart; revert m0; revert out; exact qm4 qg1 qii (fun e => by exact ⟨_, rfl, fun h => by cases h⟩) fun out m0 apart t15 => by
    have := qlv; have := @qay.eq_1; have := @QB; have := @q0Z; have := @zL.eq_1; exact gA
theorem JY : ∀  (m0 : List (Int × Bool)) (apart : Bool) (t13 : List (List Int)) (t14 t15 : Int), XL2 evo 37 0 5 ⟨[(4, R.c (C.hd .map 0)), (5, rO 1 1 0), (6, rB apart), (13, rL 1 (eL 1 eI) t13), (14, rI t14), (15, rI t15)], [(0, B.ob (mpB (q0O .i64) zQ m0)), (1, B.row 3 1 [])], 2, 44⟩ = (qT (zL t13 t14) ([], m0, apart, t15)).bind (fun (e : List Int × Bool) => some (Go.Exit.exit 0, ⟨[(5, rO 0 1 e.1.length), (6, rB e.2)], [(0, bR 3 1 eI e.1)], 1, 44⟩)) := by
  intro m0 apart t13 t14 t15; have h := q1m [] m0 apart t13 t14 t15 _ rfl
  first
    | exact h
    | (simp only [rL, dL, bR, bZ, Nat.reduceAdd] at h; exact h)
noncomputable def QN (lists : List (List Int)) : Option (Bool × List Int) :=
  Option.bind (qT (zL lists ((lists.length : Nat) : Int)) ([], ([], (Bool.true, 0)))) fun (a : Prod (List Int) Bool) =>
  some (a.2, a.1)
theorem JS : ∀ (lists : List (List Int)), ev 37 0 [rL 1 (eL 1 eI) lists] [] = (QN lists).bind (fun (e : Bool × List Int) => some (R.tup [rO 0 1 e.2.length, rB e.1], [(0, bR 3 1 eI e.2)])) :=
  fun lists => by
    rw [qx qfM qmc.2.2.2 qlt]
    have := qlv; have := @JY; have := @QN.eq_1; exact gA
theorem qpH : okL 41 q70 := qA (qf qki) (by kernel_rfl) (by kernel_rfl)
def qnV := JA_ @q70.eq_1 (JA_ @Try.f41.eq_1 @qki)
theorem qjT : okL 34 q50 := qA (qf qen) (by kernel_rfl) (by kernel_rfl)
def qfO := JA_ @q50.eq_1 (JA_ @Try.f34.eq_1 @qen)
theorem q9O : lbO 34 3 = q4I := zX (qf qen) rfl
theorem qah : okL 34 q4I := zm qjT (List.mem_of_getElem? (i := 0) (by kernel_rfl))
theorem qoJ : okL 66 q6K := qA (qf qjI) (by kernel_rfl) (by kernel_rfl)
def qnp := JA_ @q6K.eq_1 (JA_ @Try.f66.eq_1 @qjI)
noncomputable def Ze (a : qa) : Option Int :=
  some a.Day
noncomputable def QG (a : qa) : Int :=
  a.Day
theorem q14 (a : qa) : Ze a = some (QG a) := by
  unfold Ze QG
  simp only [zp]
theorem q1y : ∀ (a_Course_School : Int) (a_Course_Code : ByteArray) (a_Credits a_Grade a_Day : Int) (a_Sources : List Int) (a_Bundle : Int) (a_Path : List Int), ev 66 0 [R.agg [dI a_Course_School, dS a_Course_Code, dI a_Credits, dI a_Grade, dI a_Day, dL 1 eI a_Sources, dI a_Bundle, dL 1 eI a_Path]] [] = some (rI (QG (qa.mk (qV.mk a_Course_School a_Course_Code) a_Credits a_Grade a_Day a_Sources a_Bundle a_Path)), []) :=
  fun a_Course_School a_Course_Code a_Credits a_Grade a_Day a_Sources a_Bundle a_Path => by
    have h : ev 66 0 [R.agg [dI a_Course_School, dS a_Course_Code, dI a_Credits, dI a_Grade, dI a_Day, dL 1 eI a_Sources, dI a_Bundle, dL 1 eI a_Path]] [] = (Ze (qa.mk (qV.mk a_Course_School a_Course_Code) a_Credits a_Grade a_Day a_Sources a_Bundle a_Path)).bind (fun (e : Int) => some (rI e, [])) := by
      rw [qx qjI qlS.2.2.2 qoJ]
      have := qnp; have := @Ze.eq_1; exact gA
    rw [q14] at h
    exact h
noncomputable def qM (t8 : List qa) (t9 : Int) : (List Int × Int) → Option ((List Int × Int) ⊕ (List Int))
  | (out, t10) =>
    if t10 < t9 then if 0 ≤ t10 ∧ t10 < ((t8.length : Nat) : Int) then Option.bind t8[Int.toNat t10]? fun (a : qa) =>
        if out.length + 1 ≤ Go.maxLen ∧ (out.length + 1) * 8 ≤ 140737488355328 then some (Sum.inl (out ++ [QG a], w64 (t10 + 1)))
        else none
      else none
    else some (Sum.inr out)
theorem ZJ : ∀ (out : List Int) (t8 : List qa) (t9 t10 : Int) (qY : Nat), qY = out.length → XL2 evo 34 0 3 ⟨[(1, R.c (C.fn 66 [] [])), (5, rO 0 1 qY), (8, rL 8 qd t8), (9, rI t9), (10, rI t10)], [(0, bR 3 1 eI out)], 1, 22⟩ = (qT (qM t8 t9) (out, t10)).bind (fun (e : List Int) => some (Go.Exit.exit 0, ⟨[(5, rO 0 1 e.length)], [(0, bR 3 1 eI e)], 1, 22⟩)) :=
  by
  intro out t8 t9 t10 qY h0
  subst h0
  revert t10; revert out; exact qaH q9O qah (fun e => by exact ⟨_, rfl, fun h => by cases h⟩) fun out t10 => by
    have := qfO; have := @q4I.eq_1; have := @q1y; have := @qM.eq_1; exact gA
theorem Zs : ∀  (t8 : List qa) (t9 t10 : Int), XL2 evo 34 0 3 ⟨[(1, R.c (C.fn 66 [] [])), (5, rO 0 1 0), (8, rL 8 qd t8), (9, rI t9), (10, rI t10)], [(0, B.row 3 1 [])], 1, 22⟩ = (qT (qM t8 t9) ([], t10)).bind (fun (e : List Int) => some (Go.Exit.exit 0, ⟨[(5, rO 0 1 e.length)], [(0, bR 3 1 eI e)], 1, 22⟩)) := by
  intro t8 t9 t10; have h := ZJ [] t8 t9 t10 _ rfl
  first
    | exact h
    | (simp only [rL, dL, bR, bZ, Nat.reduceAdd] at h; exact h)
noncomputable def zB (l : List qa) : Option (List Int) :=
  Option.bind (qT (qM l ((l.length : Nat) : Int)) ([], 0)) fun (a : List Int) =>
  some a
theorem Jp : ∀ (l : List qa), ev 34 0 [rL 8 qd l, R.c (C.fn 66 [] [])] [] = (zB l).bind (fun (e : List Int) => some (rL 1 eI e, [])) :=
  fun l => by
    rw [qx qen qka.2.2.2 qjT]
    have := qfO; have := @Zs; have := @zB.eq_1; exact gA
theorem qmL : okL 65 q5g := qA (qf qjF) (by kernel_rfl) (by kernel_rfl)
def qmm := JA_ @q5g.eq_1 (JA_ @Try.f65.eq_1 @qjF)
theorem qfT : lbO 65 5 = q9G := zX (qf qjF) rfl
theorem qgx : okL 65 q9G := zm qmL (List.mem_of_getElem? (i := 0) (by kernel_rfl))
noncomputable def qQ (x : List Int) : (Int × Int) → Option ((Int × Int) ⊕ Int)
  | (m, i) =>
    if i < ((x.length : Nat) : Int) then if 0 ≤ i ∧ i < ((x.length : Nat) : Int) then Option.bind x[Int.toNat i]? fun (a : Int) =>
        some (Sum.inl (max m a, w64 (i + 1)))
      else none
    else some (Sum.inr m)
theorem ZL : ∀ (x : List Int) (m i : Int), XL2 evo 65 0 5 ⟨[(0, rL 1 eI x), (3, rI m), (4, rI i)], [], 0, 25⟩ = (qT (qQ x) (m, i)).bind (fun (e : Int) => some (Go.Exit.exit 0, ⟨[(3, rI e)], [], 0, 25⟩)) :=
  fun x m i => by
    revert i; revert m; exact qaH qfT qgx (fun e => by exact ⟨_, rfl, fun h => by cases h⟩) fun m i => by
      have := qmm; have := @q9G.eq_1; have := @qQ.eq_1; exact gA
noncomputable def Q1 (x : List Int) : Option Int :=
  if ((x.length : Nat) : Int) < 1 then none
  else if 0 < ((x.length : Nat) : Int) then Option.bind x[0]? fun (a : Int) =>
    Option.bind (qT (qQ x) (a, 1)) fun (a2 : Int) =>
    some a2
  else none
theorem Jr : ∀ (x : List Int), ev 65 0 [rL 1 eI x] [] = (Q1 x).bind (fun (e : Int) => some (rI e, [])) :=
  fun x => by
    rw [qx qjF qmj.2.2.2 qmL]
    have := qmm; have := @ZL; have := @Q1.eq_1; exact gA
noncomputable def QM (l : List qa) : Option Int :=
  Option.bind (zB l) fun (a : List Int) =>
  Option.bind (Q1 a) fun (e0 : Int) =>
  some e0
theorem q02 : ∀ (l : List qa), ev 41 0 [rL 8 qd l] [] = (QM l).bind (fun (e : Int) => some (rI e, [])) :=
  fun l => by
    rw [qx qki qmw.2.2.2 qpH]
    have := qnV; have := @Jp; have := @Jr; have := @QM.eq_1; exact gA
theorem lo8 : okL 8 qbo := qA (qf bd8) (by kernel_rfl) (by kernel_rfl)
def cx8 := JA_ @qbo.eq_1 (JA_ @Try.f8.eq_1 @bd8)
theorem qp2 : okL 22 q6X := qA (qf qjX) (by kernel_rfl) (by kernel_rfl)
def qpO := JA_ @q6X.eq_1 (JA_ @Try.f22.eq_1 @qjX)
noncomputable def Zx (day : Int) (begin : Int) (end0 : Int) : Option Bool :=
  if begin ≤ day then if (end0 == 0) = Bool.true then some Bool.true
    else some (decide (day < end0))
  else some Bool.false
noncomputable def Qp (day : Int) (begin : Int) (end0 : Int) : Bool :=
  if begin ≤ day then if (end0 == 0) = Bool.true then Bool.true
    else decide (day < end0)
  else Bool.false
theorem q1A (day begin end0 : Int) : Zx day begin end0 = some (Qp day begin end0) := by
  unfold Zx Qp
  simp only [zp]
theorem q25 : ∀ (day begin end0 : Int), ev 22 0 [rI day, rI begin, rI end0] [] = some (rB (Qp day begin end0), []) :=
  fun day begin end0 => by
    have h : ev 22 0 [rI day, rI begin, rI end0] [] = (Zx day begin end0).bind (fun (e : Bool) => some (rB e, [])) := by
      rw [qx qjX qms.2.2.2 qp2]
      have := qpO; have := @Zx.eq_1; exact gA
    rw [q1A] at h
    exact h
noncomputable def Zu (a : qb) (day : Int) : Option Bool :=
  some (Qp day a.Begin a.End)
noncomputable def zg (a : qb) (day : Int) : Bool :=
  Qp day a.Begin a.End
theorem q1P (a : qb) (day : Int) : Zu a day = some (zg a day) := by
  unfold Zu zg
  simp only [zp]
theorem JD : ∀ (a_Id a_From a_To a_Begin a_End : Int) (a_In : List ByteArray) (a_Out : List qi) (a_Conv_Num a_Conv_Add a_Conv_Den a_Conv_Round day : Int), ev 8 0 [R.agg [dI a_Id, dI a_From, dI a_To, dI a_Begin, dI a_End, dL 1 eS a_In, dL 2 qg a_Out, dI a_Conv_Num, dI a_Conv_Add, dI a_Conv_Den, dI a_Conv_Round], rI day] [] = some (rB (zg (qb.mk a_Id a_From a_To a_Begin a_End a_In a_Out (qh.mk a_Conv_Num a_Conv_Add a_Conv_Den a_Conv_Round)) day), []) :=
  fun a_Id a_From a_To a_Begin a_End a_In a_Out a_Conv_Num a_Conv_Add a_Conv_Den a_Conv_Round day => by
    have h : ev 8 0 [R.agg [dI a_Id, dI a_From, dI a_To, dI a_Begin, dI a_End, dL 1 eS a_In, dL 2 qg a_Out, dI a_Conv_Num, dI a_Conv_Add, dI a_Conv_Den, dI a_Conv_Round], rI day] [] = (Zu (qb.mk a_Id a_From a_To a_Begin a_End a_In a_Out (qh.mk a_Conv_Num a_Conv_Add a_Conv_Den a_Conv_Round)) day).bind (fun (e : Bool) => some (rB e, [])) := by
      rw [qx bd8 pw8.2.2.2 lo8]
      have := cx8; have := @q25; have := @Zu.eq_1; exact gA
    rw [q1P] at h
    exact h
noncomputable def Qq (a : qb) (l : List qa) : Option Bool :=
  Option.bind (QU a) fun (a2 : Int) =>
  if (a2 != 0) = Bool.true then some Bool.false
  else if (((l.length : Nat) : Int) != ((a.In.length : Nat) : Int)) = Bool.true then some Bool.false
  else Option.bind (qT (zn a l l ((l.length : Nat) : Int)) 0) fun (a3 : Sum Unit Unit) =>
  Sum.elim (fun (a4 : Unit) => some Bool.false) (fun (a5 : Unit) => Option.bind (zz l) fun (a6 : List (List Int)) =>
    Option.bind (QN a6) fun (a7 : Prod Bool (List Int)) =>
    if a7.1 = Bool.true then Option.bind (QM l) fun (a8 : Int) =>
      some (zg a a8)
    else some Bool.false) a3
theorem q13 : ∀ (a_Id a_From a_To a_Begin a_End : Int) (a_In : List ByteArray) (a_Out : List qi) (a_Conv_Num a_Conv_Add a_Conv_Den a_Conv_Round : Int) (l : List qa), ev 33 0 [R.agg [dI a_Id, dI a_From, dI a_To, dI a_Begin, dI a_End, dL 1 eS a_In, dL 2 qg a_Out, dI a_Conv_Num, dI a_Conv_Add, dI a_Conv_Den, dI a_Conv_Round], rL 8 qd l] [] = (Qq (qb.mk a_Id a_From a_To a_Begin a_End a_In a_Out (qh.mk a_Conv_Num a_Conv_Add a_Conv_Den a_Conv_Round)) l).bind (fun (e : Bool) => some (rB e, [])) :=
  fun a_Id a_From a_To a_Begin a_End a_In a_Out a_Conv_Num a_Conv_Add a_Conv_Den a_Conv_Round l => by
    rw [qx qh3 qlY.2.2.2 qng]
    have := qnf; have := @q2h; have := @JW; have := @Zo; have := @JS; have := @q02; have := @JD; have := @Qq.eq_1; exact gA
theorem qon : okL 35 q7l := qA (qf qkp) (by kernel_rfl) (by kernel_rfl)
def qpd := JA_ @q7l.eq_1 (JA_ @Try.f35.eq_1 @qkp)
noncomputable def QR (x : qa) : Option Int :=
  some x.Grade
noncomputable def Qy (x : qa) : Int :=
  x.Grade
theorem q0E (x : qa) : QR x = some (Qy x) := by
  unfold QR Qy
  simp only [zp]
theorem q1j : ∀ (x_Course_School : Int) (x_Course_Code : ByteArray) (x_Credits x_Grade x_Day : Int) (x_Sources : List Int) (x_Bundle : Int) (x_Path : List Int), ev 35 0 [R.agg [dI x_Course_School, dS x_Course_Code, dI x_Credits, dI x_Grade, dI x_Day, dL 1 eI x_Sources, dI x_Bundle, dL 1 eI x_Path]] [] = some (rI (Qy (qa.mk (qV.mk x_Course_School x_Course_Code) x_Credits x_Grade x_Day x_Sources x_Bundle x_Path)), []) :=
  fun x_Course_School x_Course_Code x_Credits x_Grade x_Day x_Sources x_Bundle x_Path => by
    have h : ev 35 0 [R.agg [dI x_Course_School, dS x_Course_Code, dI x_Credits, dI x_Grade, dI x_Day, dL 1 eI x_Sources, dI x_Bundle, dL 1 eI x_Path]] [] = (QR (qa.mk (qV.mk x_Course_School x_Course_Code) x_Credits x_Grade x_Day x_Sources x_Bundle x_Path)).bind (fun (e : Int) => some (rI e, [])) := by
      rw [qx qkp qm2.2.2.2 qon]
      have := qpd; have := @QR.eq_1; exact gA
    rw [q0E] at h
    exact h
noncomputable def qO (t8 : List qa) (t9 : Int) : (List Int × Int) → Option ((List Int × Int) ⊕ (List Int))
  | (out, t10) =>
    if t10 < t9 then if 0 ≤ t10 ∧ t10 < ((t8.length : Nat) : Int) then Option.bind t8[Int.toNat t10]? fun (a : qa) =>
        if out.length + 1 ≤ Go.maxLen ∧ (out.length + 1) * 8 ≤ 140737488355328 then some (Sum.inl (out ++ [Qy a], w64 (t10 + 1)))
        else none
      else none
    else some (Sum.inr out)
theorem ZK : ∀ (out : List Int) (t8 : List qa) (t9 t10 : Int) (qY : Nat), qY = out.length → XL2 evo 34 0 3 ⟨[(1, R.c (C.fn 35 [] [])), (5, rO 0 1 qY), (8, rL 8 qd t8), (9, rI t9), (10, rI t10)], [(0, bR 3 1 eI out)], 1, 22⟩ = (qT (qO t8 t9) (out, t10)).bind (fun (e : List Int) => some (Go.Exit.exit 0, ⟨[(5, rO 0 1 e.length)], [(0, bR 3 1 eI e)], 1, 22⟩)) :=
  by
  intro out t8 t9 t10 qY h0
  subst h0
  revert t10; revert out; exact qaH q9O qah (fun e => by exact ⟨_, rfl, fun h => by cases h⟩) fun out t10 => by
    have := qfO; have := @q4I.eq_1; have := @q1j; have := @qO.eq_1; exact gA
theorem Zr : ∀  (t8 : List qa) (t9 t10 : Int), XL2 evo 34 0 3 ⟨[(1, R.c (C.fn 35 [] [])), (5, rO 0 1 0), (8, rL 8 qd t8), (9, rI t9), (10, rI t10)], [(0, B.row 3 1 [])], 1, 22⟩ = (qT (qO t8 t9) ([], t10)).bind (fun (e : List Int) => some (Go.Exit.exit 0, ⟨[(5, rO 0 1 e.length)], [(0, bR 3 1 eI e)], 1, 22⟩)) := by
  intro t8 t9 t10; have h := ZK [] t8 t9 t10 _ rfl
  first
    | exact h
    | (simp only [rL, dL, bR, bZ, Nat.reduceAdd] at h; exact h)
noncomputable def zC (l : List qa) : Option (List Int) :=
  Option.bind (qT (qO l ((l.length : Nat) : Int)) ([], 0)) fun (a : List Int) =>
  some a
theorem Jo : ∀ (l : List qa), ev 34 0 [rL 8 qd l, R.c (C.fn 35 [] [])] [] = (zC l).bind (fun (e : List Int) => some (rL 1 eI e, [])) :=
  fun l => by
    rw [qx qen qka.2.2.2 qjT]
    have := qfO; have := @Zr; have := @zC.eq_1; exact gA
theorem qnQ : okL 36 q6N := qA (qf qkb) (by kernel_rfl) (by kernel_rfl)
def qp5 := JA_ @q6N.eq_1 (JA_ @Try.f36.eq_1 @qkb)
noncomputable def QQ (x : qa) : Option Int :=
  some x.Credits
noncomputable def QA (x : qa) : Int :=
  x.Credits
theorem q0A (x : qa) : QQ x = some (QA x) := by
  unfold QQ QA
  simp only [zp]
theorem q0U : ∀ (x_Course_School : Int) (x_Course_Code : ByteArray) (x_Credits x_Grade x_Day : Int) (x_Sources : List Int) (x_Bundle : Int) (x_Path : List Int), ev 36 0 [R.agg [dI x_Course_School, dS x_Course_Code, dI x_Credits, dI x_Grade, dI x_Day, dL 1 eI x_Sources, dI x_Bundle, dL 1 eI x_Path]] [] = some (rI (QA (qa.mk (qV.mk x_Course_School x_Course_Code) x_Credits x_Grade x_Day x_Sources x_Bundle x_Path)), []) :=
  fun x_Course_School x_Course_Code x_Credits x_Grade x_Day x_Sources x_Bundle x_Path => by
    have h : ev 36 0 [R.agg [dI x_Course_School, dS x_Course_Code, dI x_Credits, dI x_Grade, dI x_Day, dL 1 eI x_Sources, dI x_Bundle, dL 1 eI x_Path]] [] = (QQ (qa.mk (qV.mk x_Course_School x_Course_Code) x_Credits x_Grade x_Day x_Sources x_Bundle x_Path)).bind (fun (e : Int) => some (rI e, [])) := by
      rw [qx qkb qlQ.2.2.2 qnQ]
      have := qp5; have := @QQ.eq_1; exact gA
    rw [q0A] at h
    exact h
noncomputable def qN (t8 : List qa) (t9 : Int) : (List Int × Int) → Option ((List Int × Int) ⊕ (List Int))
  | (out, t10) =>
    if t10 < t9 then if 0 ≤ t10 ∧ t10 < ((t8.length : Nat) : Int) then Option.bind t8[Int.toNat t10]? fun (a : qa) =>
        if out.length + 1 ≤ Go.maxLen ∧ (out.length + 1) * 8 ≤ 140737488355328 then some (Sum.inl (out ++ [QA a], w64 (t10 + 1)))
        else none
      else none
    else some (Sum.inr out)
theorem ZI : ∀ (out : List Int) (t8 : List qa) (t9 t10 : Int) (qY : Nat), qY = out.length → XL2 evo 34 0 3 ⟨[(1, R.c (C.fn 36 [] [])), (5, rO 0 1 qY), (8, rL 8 qd t8), (9, rI t9), (10, rI t10)], [(0, bR 3 1 eI out)], 1, 22⟩ = (qT (qN t8 t9) (out, t10)).bind (fun (e : List Int) => some (Go.Exit.exit 0, ⟨[(5, rO 0 1 e.length)], [(0, bR 3 1 eI e)], 1, 22⟩)) :=
  by
  intro out t8 t9 t10 qY h0
  subst h0
  revert t10; revert out; exact qaH q9O qah (fun e => by exact ⟨_, rfl, fun h => by cases h⟩) fun out t10 => by
    have := qfO; have := @q4I.eq_1; have := @q0U; have := @qN.eq_1; exact gA
theorem Zp : ∀  (t8 : List qa) (t9 t10 : Int), XL2 evo 34 0 3 ⟨[(1, R.c (C.fn 36 [] [])), (5, rO 0 1 0), (8, rL 8 qd t8), (9, rI t9), (10, rI t10)], [(0, B.row 3 1 [])], 1, 22⟩ = (qT (qN t8 t9) ([], t10)).bind (fun (e : List Int) => some (Go.Exit.exit 0, ⟨[(5, rO 0 1 e.length)], [(0, bR 3 1 eI e)], 1, 22⟩)) := by
  intro t8 t9 t10; have h := ZI [] t8 t9 t10 _ rfl
  first
    | exact h
    | (simp only [rL, dL, bR, bZ, Nat.reduceAdd] at h; exact h)
noncomputable def zE (l : List qa) : Option (List Int) :=
  Option.bind (qT (qN l ((l.length : Nat) : Int)) ([], 0)) fun (a : List Int) =>
  some a
theorem Jt : ∀ (l : List qa), ev 34 0 [rL 8 qd l, R.c (C.fn 36 [] [])] [] = (zE l).bind (fun (e : List Int) => some (rL 1 eI e, [])) :=
  fun l => by
    rw [qx qen qka.2.2.2 qjT]
    have := qfO; have := @Zp; have := @zE.eq_1; exact gA
theorem qnr : okL 14 q7e := qA (qf qjJ) (by kernel_rfl) (by kernel_rfl)
def qpn := JA_ @q7e.eq_1 (JA_ @Try.f14.eq_1 @qjJ)
theorem qm3 : okL 43 q58 := qA (qf qjr) (by kernel_rfl) (by kernel_rfl)
def qnd := JA_ @q58.eq_1 (JA_ @Try.f43.eq_1 @qjr)
theorem qj2 : lbO 43 2 = q9k := zX (qf qjr) rfl
theorem qi7 : okL 43 q9k := zm qm3 (List.mem_of_getElem? (i := 0) (by kernel_rfl))
noncomputable def za (w1 : List Int) (s : qt) (t10 : Int) : Int → Option (Int ⊕ (Unit ⊕ Unit))
  | t11 =>
    if t11 < t10 then if 0 ≤ t11 ∧ t11 < ((w1.length : Nat) : Int) then Option.bind w1[Int.toNat t11]? fun (a : Int) =>
        if (qe a (-1000) 1000 != a) = Bool.true then some (Sum.inr (Sum.inl ()))
        else some (Sum.inl (w64 (t11 + 1)))
      else none
    else some (Sum.inr (Sum.inr ()))
theorem q0I : ∀ (w1 : List Int) (s_Worst s_Best s_Pass t10 t11 : Int) (w1_len : Nat), w1_len = w1.length → XL2 evo 43 0 2 ⟨[(1, rP 0), (9, rO 1 1 w1_len), (10, rI t10), (11, rI t11)], [(0, B.blk 45 [dI s_Worst, dI s_Best, dI s_Pass]), (1, bR 3 1 eI w1)], 2, 37⟩ = (qT (za w1 (qt.mk s_Worst s_Best s_Pass) t10) t11).bind (Sum.elim (fun (e : Unit) => some (Go.Exit.ret, ⟨[(1, rP 0), (2, rI 10)], [(0, B.blk 45 [dI s_Worst, dI s_Best, dI s_Pass])], 1, 37⟩)) (fun (e : Unit) => some (Go.Exit.exit 0, ⟨[(1, rP 0), (2, R.any)], [(0, B.blk 45 [dI s_Worst, dI s_Best, dI s_Pass])], 1, 37⟩))) :=
  by
  intro w1 s_Worst s_Best s_Pass t10 t11 w1_len h0
  subst h0
  revert t11; exact q5z qj2 qi7 (fun e => by rcases e with _ | _ <;> exact ⟨_, rfl, fun h => by cases h⟩) fun x => by
    have := qnd; have := @q9k.eq_1; have := @zd; have := @za.eq_1; exact gA
theorem JJ : ∀ (w10 w11 s_Worst s_Best s_Pass t10 t11 : Int), XL2 evo 43 0 2 ⟨[(1, rP 0), (9, rO 1 1 2), (10, rI t10), (11, rI t11)], [(0, B.blk 45 [dI s_Worst, dI s_Best, dI s_Pass]), (1, B.row 3 1 [dI w10, dI w11])], 2, 37⟩ = (qT (za [w10, w11] (qt.mk s_Worst s_Best s_Pass) t10) t11).bind (Sum.elim (fun (e : Unit) => some (Go.Exit.ret, ⟨[(1, rP 0), (2, rI 10)], [(0, B.blk 45 [dI s_Worst, dI s_Best, dI s_Pass])], 1, 37⟩)) (fun (e : Unit) => some (Go.Exit.exit 0, ⟨[(1, rP 0), (2, R.any)], [(0, B.blk 45 [dI s_Worst, dI s_Best, dI s_Pass])], 1, 37⟩))) := by
  intro w10 w11 s_Worst s_Best s_Pass t10 t11; have h := q0I [w10, w11] ((qt.mk s_Worst s_Best s_Pass)).Worst ((qt.mk s_Worst s_Best s_Pass)).Best ((qt.mk s_Worst s_Best s_Pass)).Pass t10 t11 _ rfl
  first
    | exact h
    | (simp only [rL, dL, bR, bZ, Nat.reduceAdd] at h; exact h)
noncomputable def Qf (s : qt) : Option Int :=
  Option.bind (qT (za [s.Worst, s.Best] s 2) 0) fun (a : Sum Unit Unit) =>
  Sum.elim (fun (a2 : Unit) => some 10) (fun (a3 : Unit) => if (s.Worst == s.Best) = Bool.true then some 10
    else if (qe s.Pass s.Worst s.Best != s.Pass) = Bool.true then some 10
    else some 0) a
theorem JA : ∀ (s_Worst s_Best s_Pass : Int), ev 43 0 [R.agg [dI s_Worst, dI s_Best, dI s_Pass]] [] = (Qf (qt.mk s_Worst s_Best s_Pass)).bind (fun (e : Int) => some (rI e, [])) :=
  fun s_Worst s_Best s_Pass => by
    rw [qx qjr qmF.2.2.2 qm3]
    have := qnd; have := @JJ; have := @zd; have := @Qf.eq_1; exact gA
theorem qmM : okL 44 q5v := qA (qf qgG) (by kernel_rfl) (by kernel_rfl)
def qnh := JA_ @q5v.eq_1 (JA_ @Try.f44.eq_1 @qgG)
theorem qhp : lbO 44 8 = q9z := zX (qf qgG) rfl
theorem qgl : okL 44 q9z := zm qmM (List.mem_of_getElem? (i := 0) (by kernel_rfl))
theorem qpB : okL 67 q7h := qA (qf qkf) (by kernel_rfl) (by kernel_rfl)
def qnm := JA_ @q7h.eq_1 (JA_ @Try.f67.eq_1 @qkf)
end Go.Proofs.Ytplfjlcnffcenaa.Vc
namespace Go.Proofs.Ytplfjlcnffcenaa.Vc
open Go.RowKit
set_option linter.unusedVariables false
set_option linter.unusedSimpArgs false
set_option maxRecDepth 20000
set_option maxHeartbeats 8000000
set_option linter.defProp false
noncomputable def Zg (g : Int) (n : Int) (v : Int) (v2 : Int) : Option (Bool × Int × Int) :=
  if (qe g (-1000) 1000 == g) = Bool.true then some (qe n 1 60 == n, w64 (v + w64 (g * n)), w64 (v2 + n))
  else some (Bool.false, w64 (v + w64 (g * n)), w64 (v2 + n))
noncomputable def qF (g : Int) (n : Int) (v : Int) (v2 : Int) : Bool × Int × Int :=
  if (qe g (-1000) 1000 == g) = Bool.true then (qe n 1 60 == n, w64 (v + w64 (g * n)), w64 (v2 + n))
  else (Bool.false, w64 (v + w64 (g * n)), w64 (v2 + n))
theorem q18 (g n v v2 : Int) : Zg g n v v2 = some (qF g n v v2) := by
  unfold Zg qF
  simp only [zp]
theorem q1I : ∀ (g n v v2 : Int), ev 67 2 [rI g, rI n, rP 0, rP 1] [(0, B.blk 3 [dI v]), (1, B.blk 3 [dI v2])] = some (rB (qF g n v v2).1, [(0, B.blk 3 [dI (qF g n v v2).2.1]), (1, B.blk 3 [dI (qF g n v v2).2.2])]) :=
  fun g n v v2 => by
    have h : ev 67 2 [rI g, rI n, rP 0, rP 1] [(0, B.blk 3 [dI v]), (1, B.blk 3 [dI v2])] = (Zg g n v v2).bind (fun (e : Bool × Int × Int) => some (rB e.1, [(0, B.blk 3 [dI e.2.1]), (1, B.blk 3 [dI e.2.2])])) := by
      rw [qx qkf qm8.2.2.2 qpB]
      have := qnm; have := @zd; have := @Zg.eq_1; exact gA
    rw [q18] at h
    exact h
noncomputable def Q2 (b0 : qX) (credits : List Int) (t29 : List Int) (t30 : Int) : (Int × Int × Int) → Option ((Int × Int × Int) ⊕ ((qX × Int × Int) ⊕ (Int × Int)))
  | (sum, all, t31) =>
    if t31 < t30 then if 0 ≤ t31 ∧ t31 < ((t29.length : Nat) : Int) then Option.bind t29[Int.toNat t31]? fun (a : Int) =>
        if 0 ≤ t31 ∧ t31 < ((credits.length : Nat) : Int) then Option.bind credits[Int.toNat t31]? fun (a2 : Int) =>
          if (!(qF a a2 sum all).1) = Bool.true then some (Sum.inr (Sum.inl (qX.mk 0 0, (qF a a2 sum all).2.1, (qF a a2 sum all).2.2)))
          else some (Sum.inl ((qF a a2 sum all).2.1, (qF a a2 sum all).2.2, w64 (t31 + 1)))
        else none
      else none
    else some (Sum.inr (Sum.inr (sum, all)))
theorem q1p : ∀ (b0_N b0_D sum all : Int) (credits t29 : List Int) (t30 t31 : Int), XL2 evo 44 0 8 ⟨[(1, rL 1 eI credits), (4, rP 0), (6, rP 1), (7, rP 2), (8, R.c (C.fn 67 [] [dP 1, dP 2])), (29, rL 1 eI t29), (30, rI t30), (31, rI t31)], [(0, B.blk 92 [dI b0_N, dI b0_D]), (1, B.blk 3 [dI sum]), (2, B.blk 3 [dI all])], 3, 51⟩ = (qT (Q2 (qX.mk b0_N b0_D) credits t29 t30) (sum, all, t31)).bind (Sum.elim (fun (e : qX × Int × Int) => some (Go.Exit.ret, ⟨[(4, rP 0), (5, rI 3), (6, rP 1), (7, rP 2)], [(0, B.blk 92 [dI e.1.N, dI e.1.D]), (1, B.blk 3 [dI e.2.1]), (2, B.blk 3 [dI e.2.2])], 3, 51⟩)) (fun (e : Int × Int) => some (Go.Exit.exit 1, ⟨[(4, rP 0), (5, R.any), (6, rP 1), (7, rP 2)], [(0, B.blk 92 [dI b0_N, dI b0_D]), (1, B.blk 3 [dI e.1]), (2, B.blk 3 [dI e.2])], 3, 51⟩))) :=
  fun b0_N b0_D sum all credits t29 t30 t31 => by
    revert t31; revert all; revert sum; exact qpJ qhp qgl (fun e => by rcases e with _ | _ <;> exact ⟨_, rfl, fun h => by cases h⟩) fun sum all t31 => by
      have := qnh; have := @q9z.eq_1; have := @q1I; have := @Q2.eq_1; exact gA
theorem qo4 : okL 68 q7i := qA (qf qjL) (by kernel_rfl) (by kernel_rfl)
def qpX := JA_ @q7i.eq_1 (JA_ @Try.f68.eq_1 @qjL)
theorem qpI : okL 87 q6J := qA (qf qjZ) (by kernel_rfl) (by kernel_rfl)
def qpi := JA_ @q6J.eq_1 (JA_ @Try.f87.eq_1 @qjZ)
noncomputable def ZP (n : Int) : Option Int :=
  if n < 0 then some (Go.IntKind.wrap Go.IntKind.u64 (0 - Go.IntKind.wrap Go.IntKind.u64 n))
  else some (Go.IntKind.wrap Go.IntKind.u64 n)
noncomputable def qu (n : Int) : Int :=
  if n < 0 then Go.IntKind.wrap Go.IntKind.u64 (0 - Go.IntKind.wrap Go.IntKind.u64 n)
  else Go.IntKind.wrap Go.IntKind.u64 n
theorem q2g (n : Int) : ZP n = some (qu n) := by
  unfold ZP qu
  simp only [zp]
theorem q3g : ∀ (n : Int), ev 87 0 [rI n] [] = some (R.c (C.d (D.int .u64 (qu n))), []) :=
  fun n => by
    have h : ev 87 0 [rI n] [] = (ZP n).bind (fun (e : Int) => some (R.c (C.d (D.int .u64 e)), [])) := by
      rw [qx qjZ qmT.2.2.2 qpI]
      have := qpi; have := @ZP.eq_1; exact gA
    rw [q2g] at h
    exact h
theorem ql9 : okL 86 q3R := qA (qf qfS) (by kernel_rfl) (by kernel_rfl)
def qlc := JA_ @q3R.eq_1 (JA_ @Try.f86.eq_1 @qfS)
theorem qin : lbO 86 3 = q9A := zX (qf qfS) rfl
theorem qj3 : okL 86 q9A := zm ql9 (List.mem_of_getElem? (i := 0) (by kernel_rfl))
theorem qi6 : lbO 86 5 = q9s := zX (qf qfS) rfl
theorem qjq : okL 86 q9s := zm ql9 (List.mem_of_getElem? (i := 1) (by kernel_rfl))
noncomputable def Q0 (t6 : List Int) (t7 : Int) (t8 : Int) : (Int × Int) → Option ((Int × Int) ⊕ Int)
  | (a, b) =>
    if (b != 0) = Bool.true then if b = 0 then none
      else some (Sum.inl (b, Int.tmod a b))
    else some (Sum.inr a)
theorem q1R : ∀ (a b : Int) (t6 : List Int) (t7 t8 : Int), XL2 evo 86 0 5 ⟨[(3, R.c (C.d (D.int .u64 a))), (5, R.c (C.d (D.int .u64 b))), (6, rL 1 qfK t6), (7, rI t7), (8, rI t8)], [], 0, 20⟩ = (qT (Q0 t6 t7 t8) (a, b)).bind (fun (e : Int) => some (Go.Exit.exit 2, ⟨[(3, R.c (C.d (D.int .u64 e))), (6, rL 1 qfK t6), (7, rI t7), (8, rI t8)], [], 0, 20⟩)) :=
  fun a b t6 t7 t8 => by
    revert b; revert a; exact qaH qi6 qjq (fun e => by exact ⟨_, rfl, fun h => by cases h⟩) fun a b => by
      have := qlc; have := @q9s.eq_1; have := @Q0.eq_1; exact gA
noncomputable def zt (t6 : List Int) (t7 : Int) : (Int × Int) → Option ((Int × Int) ⊕ Int)
  | (a, t8) =>
    if t8 < t7 then if 0 ≤ t8 ∧ t8 < ((t6.length : Nat) : Int) then Option.bind t6[Int.toNat t8]? fun (a2 : Int) =>
        Option.bind (qT (Q0 t6 t7 t8) (a, a2)) fun (a3 : Int) =>
        some (Sum.inl (a3, w64 (t8 + 1)))
      else none
    else some (Sum.inr a)
theorem q1T : ∀ (a : Int) (t6 : List Int) (t7 t8 : Int), XL2 evo 86 0 3 ⟨[(3, R.c (C.d (D.int .u64 a))), (6, rL 1 qfK t6), (7, rI t7), (8, rI t8)], [], 0, 20⟩ = (qT (zt t6 t7) (a, t8)).bind (fun (e : Int) => some (Go.Exit.exit 0, ⟨[(3, R.c (C.d (D.int .u64 e)))], [], 0, 20⟩)) :=
  fun a t6 t7 t8 => by
    revert t8; revert a; exact qaH qin qj3 (fun e => by exact ⟨_, rfl, fun h => by cases h⟩) fun a t8 => by
      have := qlc; have := @q9A.eq_1; have := @q1R; have := @zt.eq_1; exact gA
noncomputable def QK (l : List Int) : Option Int :=
  Option.bind (qT (zt l ((l.length : Nat) : Int)) (0, 0)) fun (a : Int) =>
  some a
theorem q3r : ∀ (l : List Int), ev 86 0 [rL 1 qfK l] [] = (QK l).bind (fun (e : Int) => some (R.c (C.d (D.int .u64 e)), [])) :=
  fun l => by
    rw [qx qfS qn8.2.2.2 ql9]
    have := qlc; have := @q1T; have := @QK.eq_1; exact gA
theorem q1F : ∀ (l0 l1 : Int) , ev 86 0 [R.c (C.d (D.sl 1 2 [D.int .u64 l0, D.int .u64 l1]))] [] = (QK [l0, l1]).bind (fun (e : Int) => some (R.c (C.d (D.int .u64 e)), [])) := by
  intro l0 l1; have h := q3r [l0, l1]
  first
    | exact h
    | (simp only [rL, dL, bR, bZ, Nat.reduceAdd] at h; exact h)
noncomputable def J6 (n : Int) (d : Int) : Option (qX × Int) :=
  if (d == 0) = Bool.true then some (qX.mk 0 0, 1)
  else Option.bind (QK [qu n, qu d]) fun (a : Int) =>
  if a = 0 then none
  else if a = 0 then none
  else if 1073741824 < Go.IntKind.wrap Go.IntKind.u64 (Int.tdiv (qu n) a) then some (qX.mk 0 0, 3)
  else if 1073741824 < Go.IntKind.wrap Go.IntKind.u64 (Int.tdiv (qu d) a) then some (qX.mk 0 0, 3)
  else if (!(decide (n < 0) == decide (d < 0))) = Bool.true then some (qX.mk (w64 (0 - w64 (Go.IntKind.wrap Go.IntKind.u64 (Int.tdiv (qu n) a)))) (w64 (Go.IntKind.wrap Go.IntKind.u64 (Int.tdiv (qu d) a))), 0)
  else some (qX.mk (w64 (Go.IntKind.wrap Go.IntKind.u64 (Int.tdiv (qu n) a))) (w64 (Go.IntKind.wrap Go.IntKind.u64 (Int.tdiv (qu d) a))), 0)
theorem q4m : ∀ (n d : Int), ev 68 0 [rI n, rI d] [] = (J6 n d).bind (fun (e : qX × Int) => some (R.tup [R.agg [dI e.1.N, dI e.1.D], rI e.2], [])) :=
  fun n d => by
    rw [qx qjL qmk.2.2.2 qo4]
    have := qpX; have := @q3g; have := @q1F; have := @J6.eq_1; exact gA
noncomputable def Zj (grades : List Int) (credits : List Int) : Option (qX × Int) :=
  if (((grades.length : Nat) : Int) != ((credits.length : Nat) : Int)) = Bool.true then some (qX.mk 0 0, 1)
  else if (((grades.length : Nat) : Int) == 0) = Bool.true then some (qX.mk 0 0, 1)
  else if 2000 < ((grades.length : Nat) : Int) then some (qX.mk 0 0, 2)
  else Option.bind (qT (Q2 (qX.mk 0 0) credits grades ((grades.length : Nat) : Int)) (0, (0, 0))) fun (a : Sum (Prod qX (Prod Int Int)) (Prod Int Int)) =>
  Sum.elim (fun (a2 : Prod qX (Prod Int Int)) => some (a2.1, 3)) (fun (a3 : Prod Int Int) => Option.bind (J6 a3.1 a3.2) fun (e0 : Prod qX Int) =>
    some (e0.1, e0.2)) a
theorem q2R : ∀ (grades credits : List Int), ev 44 0 [rL 1 eI grades, rL 1 eI credits] [] = (Zj grades credits).bind (fun (e : qX × Int) => some (R.tup [R.agg [dI e.1.N, dI e.1.D], rI e.2], [])) :=
  fun grades credits => by
    rw [qx qgG qmE.2.2.2 qmM]
    have := qnh; have := @q1p; have := @q4m; have := @Zj.eq_1; exact gA
theorem qpA : okL 46 q6C := qA (qf qkj) (by kernel_rfl) (by kernel_rfl)
def qoE := JA_ @q6C.eq_1 (JA_ @Try.f46.eq_1 @qkj)
theorem qnP : okL 69 q6F := qA (qf qkm) (by kernel_rfl) (by kernel_rfl)
def qpv := JA_ @q6F.eq_1 (JA_ @Try.f69.eq_1 @qkm)
theorem q0l : ev 69 0 [] [] = some (R.agg [C.nilf, C.fn 88 [] [], C.fn 89 [] [], C.fn 90 [] [], C.fn 91 [] []], []) :=
  by
    rw [qx qkm qn5.2.2.2 qnP]
    have := qpv; exact gA
theorem qnw : okL 88 q7j := qA (qf qkl) (by kernel_rfl) (by kernel_rfl)
def qot := JA_ @q7j.eq_1 (JA_ @Try.f88.eq_1 @qkl)
noncomputable def Qh (low : Int) (rest : Int) (d : Int) : Option Unit :=
  some ()
noncomputable def Zk (low : Int) (rest : Int) (d : Int) : Unit :=
  ()
theorem Jq (low rest d : Int) : Qh low rest d = some (Zk low rest d) := by
  unfold Qh Zk
  simp only [zp]
theorem JO : ∀ (low rest d : Int), ev 88 0 [rI low, rI rest, rI d] [] = some (rB Bool.false, []) :=
  fun low rest d => by
    have h : ev 88 0 [rI low, rI rest, rI d] [] = (Qh low rest d).bind (fun (e : Unit) => some (rB Bool.false, [])) := by
      rw [qx qkl qma.2.2.2 qnw]
      have := qot; have := @Qh.eq_1; exact gA
    rw [Jq] at h
    exact h
theorem qop : okL 89 q7n := qA (qf qk0) (by kernel_rfl) (by kernel_rfl)
def qpD := JA_ @q7n.eq_1 (JA_ @Try.f89.eq_1 @qk0)
noncomputable def Qg (low : Int) (rest : Int) (d : Int) : Option Bool :=
  some (decide (0 < rest))
noncomputable def zx (low : Int) (rest : Int) (d : Int) : Bool :=
  decide (0 < rest)
theorem Jw (low rest d : Int) : Qg low rest d = some (zx low rest d) := by
  unfold Qg zx
  simp only [zp]
theorem JK : ∀ (low rest d : Int), ev 89 0 [rI low, rI rest, rI d] [] = some (rB (zx low rest d), []) :=
  fun low rest d => by
    have h : ev 89 0 [rI low, rI rest, rI d] [] = (Qg low rest d).bind (fun (e : Bool) => some (rB e, [])) := by
      rw [qx qk0 qmO.2.2.2 qop]
      have := qpD; have := @Qg.eq_1; exact gA
    rw [Jw] at h
    exact h
theorem qo7 : okL 90 q7d := qA (qf qkn) (by kernel_rfl) (by kernel_rfl)
def qnv := JA_ @q7d.eq_1 (JA_ @Try.f90.eq_1 @qkn)
noncomputable def Qi (low : Int) (rest : Int) (d : Int) : Option Bool :=
  some (decide (d ≤ w64 (2 * rest)))
noncomputable def zu (low : Int) (rest : Int) (d : Int) : Bool :=
  decide (d ≤ w64 (2 * rest))
theorem Jl (low rest d : Int) : Qi low rest d = some (zu low rest d) := by
  unfold Qi zu
  simp only [zp]
theorem JI : ∀ (low rest d : Int), ev 90 0 [rI low, rI rest, rI d] [] = some (rB (zu low rest d), []) :=
  fun low rest d => by
    have h : ev 90 0 [rI low, rI rest, rI d] [] = (Qi low rest d).bind (fun (e : Bool) => some (rB e, [])) := by
      rw [qx qkn qn3.2.2.2 qo7]
      have := qnv; have := @Qi.eq_1; exact gA
    rw [Jl] at h
    exact h
theorem qox : okL 91 q6U := qA (qf qjW) (by kernel_rfl) (by kernel_rfl)
def qnz := JA_ @q6U.eq_1 (JA_ @Try.f91.eq_1 @qjW)
noncomputable def Qd (low : Int) (rest : Int) (d : Int) : Option Bool :=
  if d < w64 (2 * rest) then some Bool.true
  else if (w64 (2 * rest) == d) = Bool.true then some (Int.tmod low 2 != 0)
  else some Bool.false
noncomputable def zw (low : Int) (rest : Int) (d : Int) : Bool :=
  if d < w64 (2 * rest) then Bool.true
  else if (w64 (2 * rest) == d) = Bool.true then Int.tmod low 2 != 0
  else Bool.false
theorem Js (low rest d : Int) : Qd low rest d = some (zw low rest d) := by
  unfold Qd zw
  simp only [zp]
theorem JP : ∀ (low rest d : Int), ev 91 0 [rI low, rI rest, rI d] [] = some (rB (zw low rest d), []) :=
  fun low rest d => by
    have h : ev 91 0 [rI low, rI rest, rI d] [] = (Qd low rest d).bind (fun (e : Bool) => some (rB e, [])) := by
      rw [qx qjW qmW.2.2.2 qox]
      have := qnz; have := @Qd.eq_1; exact gA
    rw [Js] at h
    exact h
noncomputable def Qr (n : Int) (d : Int) (how : Int) : Option Int :=
  if d = 0 then none
  else if d = 0 then none
  else if Int.tmod n d < 0 then if 0 ≤ how ∧ how < 5 then if Int.toNat how ≤ 4 then if Int.toNat how = 0 then none
        else if Int.toNat how = 1 then some (w64 (w64 (Int.tdiv n d) - 1))
        else if Int.toNat how = 2 then if zx (w64 (w64 (Int.tdiv n d) - 1)) (w64 (n - w64 (w64 (w64 (Int.tdiv n d) - 1) * d))) d = Bool.true then some (w64 (w64 (w64 (Int.tdiv n d) - 1) + 1))
          else some (w64 (w64 (Int.tdiv n d) - 1))
        else if Int.toNat how = 3 then if zu (w64 (w64 (Int.tdiv n d) - 1)) (w64 (n - w64 (w64 (w64 (Int.tdiv n d) - 1) * d))) d = Bool.true then some (w64 (w64 (w64 (Int.tdiv n d) - 1) + 1))
          else some (w64 (w64 (Int.tdiv n d) - 1))
        else if Int.toNat how = 4 then if zw (w64 (w64 (Int.tdiv n d) - 1)) (w64 (n - w64 (w64 (w64 (Int.tdiv n d) - 1) * d))) d = Bool.true then some (w64 (w64 (w64 (Int.tdiv n d) - 1) + 1))
          else some (w64 (w64 (Int.tdiv n d) - 1))
        else none
      else none
    else none
  else if 0 ≤ how ∧ how < 5 then if Int.toNat how ≤ 4 then if Int.toNat how = 0 then none
      else if Int.toNat how = 1 then some (w64 (Int.tdiv n d))
      else if Int.toNat how = 2 then if zx (w64 (Int.tdiv n d)) (w64 (n - w64 (w64 (Int.tdiv n d) * d))) d = Bool.true then some (w64 (w64 (Int.tdiv n d) + 1))
        else some (w64 (Int.tdiv n d))
      else if Int.toNat how = 3 then if zu (w64 (Int.tdiv n d)) (w64 (n - w64 (w64 (Int.tdiv n d) * d))) d = Bool.true then some (w64 (w64 (Int.tdiv n d) + 1))
        else some (w64 (Int.tdiv n d))
      else if Int.toNat how = 4 then if zw (w64 (Int.tdiv n d)) (w64 (n - w64 (w64 (Int.tdiv n d) * d))) d = Bool.true then some (w64 (w64 (Int.tdiv n d) + 1))
        else some (w64 (Int.tdiv n d))
      else none
    else none
  else none
theorem q0P : ∀ (n d how : Int), ev 46 0 [rI n, rI d, rI how] [] = (Qr n d how).bind (fun (e : Int) => some (rI e, [])) :=
  fun n d how => by
    rw [qx qkj qmy.2.2.2 qpA]
    have := qoE; have := @q0l; have := @JO; have := @JK; have := @JI; have := @JP; have := @Qr.eq_1; exact gA
noncomputable def zy (c : qh) (to : qt) (grades : List Int) (credits : List Int) : Option (Int × Int) :=
  if (qm c != 0) = Bool.true then some (0, qm c)
  else Option.bind (Qf to) fun (a : Int) =>
  if (a != 0) = Bool.true then some (0, a)
  else Option.bind (Zj grades credits) fun (a2 : Prod qX Int) =>
  if (a2.2 != 0) = Bool.true then some (0, a2.2)
  else Option.bind (Qr (w64 (w64 (a2.1.N * c.Num) + w64 (c.Add * a2.1.D))) (w64 (a2.1.D * c.Den)) c.Round) fun (a3 : Int) =>
  some (qe a3 to.Worst to.Best, 0)
theorem ZT : ∀ (c_Num c_Add c_Den c_Round to_Worst to_Best to_Pass : Int) (grades credits : List Int), ev 14 0 [R.agg [dI c_Num, dI c_Add, dI c_Den, dI c_Round], R.agg [dI to_Worst, dI to_Best, dI to_Pass], rL 1 eI grades, rL 1 eI credits] [] = (zy (qh.mk c_Num c_Add c_Den c_Round) (qt.mk to_Worst to_Best to_Pass) grades credits).bind (fun (e : Int × Int) => some (R.tup [rI e.1, rI e.2], [])) :=
  fun c_Num c_Add c_Den c_Round to_Worst to_Best to_Pass grades credits => by
    rw [qx qjJ qmr.2.2.2 qnr]
    have := qpn; have := @Zt; have := @JA; have := @q2R; have := @q0P; have := @zd; have := @zy.eq_1; exact gA
theorem qoU : okL 15 q7t := qA (qf qkc) (by kernel_rfl) (by kernel_rfl)
def qo5 := JA_ @q7t.eq_1 (JA_ @Try.f15.eq_1 @qkc)
theorem qpC : okL 47 q7m := qA (qf qku) (by kernel_rfl) (by kernel_rfl)
def qoo := JA_ @q7m.eq_1 (JA_ @Try.f47.eq_1 @qku)
theorem qpe : okL 70 q6T := qA (qf qjU) (by kernel_rfl) (by kernel_rfl)
def qnN := JA_ @q6T.eq_1 (JA_ @Try.f70.eq_1 @qjU)
noncomputable def QY (s : qt) (g : Int) : Option Bool :=
  Option.bind (Qf s) fun (a : Int) =>
  if (a == 0) = Bool.true then some (qe g s.Worst s.Best == g)
  else some Bool.false
theorem q2k : ∀ (s_Worst s_Best s_Pass g : Int), ev 70 0 [R.agg [dI s_Worst, dI s_Best, dI s_Pass], rI g] [] = (QY (qt.mk s_Worst s_Best s_Pass) g).bind (fun (e : Bool) => some (rB e, [])) :=
  fun s_Worst s_Best s_Pass g => by
    rw [qx qjU qmf.2.2.2 qpe]
    have := qnN; have := @JA; have := @zd; have := @QY.eq_1; exact gA
noncomputable def Z1 (s : qt) (g : Int) (min : Int) : Option Bool :=
  Option.bind (QY s g) fun (a : Bool) =>
  if a = Bool.true then if (g == min) = Bool.true then some Bool.true
    else some (decide (min < g) == decide (s.Worst < s.Best))
  else some Bool.false
theorem q1a : ∀ (s_Worst s_Best s_Pass g min : Int), ev 47 0 [R.agg [dI s_Worst, dI s_Best, dI s_Pass], rI g, rI min] [] = (Z1 (qt.mk s_Worst s_Best s_Pass) g min).bind (fun (e : Bool) => some (rB e, [])) :=
  fun s_Worst s_Best s_Pass g min => by
    rw [qx qku qlZ.2.2.2 qpC]
    have := qoo; have := @q2k; have := @Z1.eq_1; exact gA
noncomputable def zG (s : qt) (g : Int) : Option Bool :=
  Option.bind (Z1 s g s.Pass) fun (e0 : Bool) =>
  some e0
theorem Jh : ∀ (s_Worst s_Best s_Pass g : Int), ev 15 0 [R.agg [dI s_Worst, dI s_Best, dI s_Pass], rI g] [] = (zG (qt.mk s_Worst s_Best s_Pass) g).bind (fun (e : Bool) => some (rB e, [])) :=
  fun s_Worst s_Best s_Pass g => by
    rw [qx qkc qmP.2.2.2 qoU]
    have := qo5; have := @q1a; have := @zG.eq_1; exact gA
noncomputable def ze (s : List Int) : Option Unit :=
  if s.length ≤ Go.maxLen ∧ s.length * 8 ≤ 140737488355328 then some ()
  else none
theorem J4 : ∀ (s : List Int), ev 42 0 [rL 1 eI s] [] = (ze s).bind (fun (e : Unit) => some (rO 0 1 s.length, [(0, bR 3 1 eI s)])) :=
  fun s => by
    rw [qdM, qna.2.2.2]
    have := @ze.eq_1; exact gA
noncomputable def qP (b0 : qb) (t2 : List qa) (t9 : Int) (t11 : List Int) (t48 : List qi) (t49 : Int) : (List qa × Int) → Option ((List qa × Int) ⊕ (List qa))
  | (w1, t50) =>
    if t50 < t49 then if 0 ≤ t50 ∧ t50 < ((t48.length : Nat) : Int) then Option.bind t48[Int.toNat t50]? fun (a : qi) =>
        Option.bind (QM t2) fun (a2 : Int) =>
        Option.bind (ze t11) fun (a3 : Unit) =>
        if 0 < ((t2.length : Nat) : Int) then Option.bind t2[0]? fun (a4 : qa) =>
          Option.bind (ze a4.Path) fun (a5 : Unit) =>
          if a4.Path.length + 1 ≤ Go.maxLen ∧ (a4.Path.length + 1) * 8 ≤ 140737488355328 then if w1.length + 1 ≤ Go.maxLen ∧ (w1.length + 1) * 104 ≤ 140737488355328 then some (Sum.inl (w1 ++ [qa.mk (qV.mk b0.To a.Code) a.Credits t9 a2 t11 0 (a4.Path ++ [b0.Id])], w64 (t50 + 1)))
            else none
          else none
        else none
      else none
    else some (Sum.inr w1)
theorem JQ : ∀ (w1 : List qa) (b0_Id b0_From b0_To b0_Begin b0_End : Int) (b0_In : List ByteArray) (b0_Out : List qi) (b0_Conv_Num b0_Conv_Add b0_Conv_Den b0_Conv_Round : Int) (t2 : List qa) (t9 : Int) (t11 : List Int) (t48 : List qi) (t49 t50 : Int) (w1_len : Nat), w1_len = w1.length → XL2 evo 13 0 13 ⟨[(2, rL 8 qd t2), (3, rP 0), (9, rI t9), (11, rL 1 eI t11), (13, rO 1 8 w1_len), (48, rL 2 qg t48), (49, rI t49), (50, rI t50)], [(0, B.blk 36 [dI b0_Id, dI b0_From, dI b0_To, dI b0_Begin, dI b0_End, dL 1 eS b0_In, dL 2 qg b0_Out, dI b0_Conv_Num, dI b0_Conv_Add, dI b0_Conv_Den, dI b0_Conv_Round]), (1, bR 52 8 qd w1)], 2, 81⟩ = (qT (qP (qb.mk b0_Id b0_From b0_To b0_Begin b0_End b0_In b0_Out (qh.mk b0_Conv_Num b0_Conv_Add b0_Conv_Den b0_Conv_Round)) t2 t9 t11 t48 t49) (w1, t50)).bind (fun (e : List qa) => some (Go.Exit.exit 0, ⟨[(13, rO 0 8 e.length)], [(0, bR 52 8 qd e)], 1, 81⟩)) :=
  by
  intro w1 b0_Id b0_From b0_To b0_Begin b0_End b0_In b0_Out b0_Conv_Num b0_Conv_Add b0_Conv_Den b0_Conv_Round t2 t9 t11 t48 t49 t50 w1_len h0
  subst h0
  revert t50; revert w1; exact qaH qf8 qfu (fun e => by exact ⟨_, rfl, fun h => by cases h⟩) fun w1 t50 => by
    have := qnb; have := @q6g.eq_1; have := @q02; have := @J4; have := @qP.eq_1; exact gA
theorem ZW : ∀  (b0_Id b0_From b0_To b0_Begin b0_End : Int) (b0_In : List ByteArray) (b0_Out : List qi) (b0_Conv_Num b0_Conv_Add b0_Conv_Den b0_Conv_Round : Int) (t2 : List qa) (t9 : Int) (t11 : List Int) (t48 : List qi) (t49 t50 : Int), XL2 evo 13 0 13 ⟨[(2, rL 8 qd t2), (3, rP 0), (9, rI t9), (11, rL 1 eI t11), (13, rO 1 8 0), (48, rL 2 qg t48), (49, rI t49), (50, rI t50)], [(0, B.blk 36 [dI b0_Id, dI b0_From, dI b0_To, dI b0_Begin, dI b0_End, dL 1 eS b0_In, dL 2 qg b0_Out, dI b0_Conv_Num, dI b0_Conv_Add, dI b0_Conv_Den, dI b0_Conv_Round]), (1, B.row 52 8 [])], 2, 81⟩ = (qT (qP (qb.mk b0_Id b0_From b0_To b0_Begin b0_End b0_In b0_Out (qh.mk b0_Conv_Num b0_Conv_Add b0_Conv_Den b0_Conv_Round)) t2 t9 t11 t48 t49) ([], t50)).bind (fun (e : List qa) => some (Go.Exit.exit 0, ⟨[(13, rO 0 8 e.length)], [(0, bR 52 8 qd e)], 1, 81⟩)) := by
  intro b0_Id b0_From b0_To b0_Begin b0_End b0_In b0_Out b0_Conv_Num b0_Conv_Add b0_Conv_Den b0_Conv_Round t2 t9 t11 t48 t49 t50; have h := JQ [] ((qb.mk b0_Id b0_From b0_To b0_Begin b0_End b0_In b0_Out (qh.mk b0_Conv_Num b0_Conv_Add b0_Conv_Den b0_Conv_Round))).Id ((qb.mk b0_Id b0_From b0_To b0_Begin b0_End b0_In b0_Out (qh.mk b0_Conv_Num b0_Conv_Add b0_Conv_Den b0_Conv_Round))).From ((qb.mk b0_Id b0_From b0_To b0_Begin b0_End b0_In b0_Out (qh.mk b0_Conv_Num b0_Conv_Add b0_Conv_Den b0_Conv_Round))).To ((qb.mk b0_Id b0_From b0_To b0_Begin b0_End b0_In b0_Out (qh.mk b0_Conv_Num b0_Conv_Add b0_Conv_Den b0_Conv_Round))).Begin ((qb.mk b0_Id b0_From b0_To b0_Begin b0_End b0_In b0_Out (qh.mk b0_Conv_Num b0_Conv_Add b0_Conv_Den b0_Conv_Round))).End ((qb.mk b0_Id b0_From b0_To b0_Begin b0_End b0_In b0_Out (qh.mk b0_Conv_Num b0_Conv_Add b0_Conv_Den b0_Conv_Round))).In ((qb.mk b0_Id b0_From b0_To b0_Begin b0_End b0_In b0_Out (qh.mk b0_Conv_Num b0_Conv_Add b0_Conv_Den b0_Conv_Round))).Out ((qb.mk b0_Id b0_From b0_To b0_Begin b0_End b0_In b0_Out (qh.mk b0_Conv_Num b0_Conv_Add b0_Conv_Den b0_Conv_Round))).Conv.Num ((qb.mk b0_Id b0_From b0_To b0_Begin b0_End b0_In b0_Out (qh.mk b0_Conv_Num b0_Conv_Add b0_Conv_Den b0_Conv_Round))).Conv.Add ((qb.mk b0_Id b0_From b0_To b0_Begin b0_End b0_In b0_Out (qh.mk b0_Conv_Num b0_Conv_Add b0_Conv_Den b0_Conv_Round))).Conv.Den ((qb.mk b0_Id b0_From b0_To b0_Begin b0_End b0_In b0_Out (qh.mk b0_Conv_Num b0_Conv_Add b0_Conv_Den b0_Conv_Round))).Conv.Round t2 t9 t11 t48 t49 t50 _ rfl
  first
    | exact h
    | (simp only [rL, dL, bR, bZ, Nat.reduceAdd] at h; exact h)
noncomputable def Z0 (x0 : qb) (x1 : qt) (x2 : List qa) : Option (List qa × Int) :=
  Option.bind (Qq x0 x2) fun (a : Bool) =>
  if (!a) = Bool.true then some ([], 33)
  else Option.bind (zC x2) fun (a2 : List Int) =>
  Option.bind (zE x2) fun (a3 : List Int) =>
  Option.bind (zy x0.Conv x1 a2 a3) fun (a4 : Prod Int Int) =>
  if (a4.2 != 0) = Bool.true then some ([], a4.2)
  else Option.bind (zG x1 a4.1) fun (a5 : Bool) =>
  if (!a5) = Bool.true then some ([], 0)
  else Option.bind (zz x2) fun (a6 : List (List Int)) =>
  Option.bind (QN a6) fun (a7 : Prod Bool (List Int)) =>
  if a7.2.length < 4611686018427387904 then Option.bind (qT (qP x0 x2 a4.1 (@zP a7.2) x0.Out ((x0.Out.length : Nat) : Int)) ([], 0)) fun (a8 : List qa) =>
    some (a8, 0)
  else none
theorem q2l : ∀ (x0_Id x0_From x0_To x0_Begin x0_End : Int) (x0_In : List ByteArray) (x0_Out : List qi) (x0_Conv_Num x0_Conv_Add x0_Conv_Den x0_Conv_Round x1_Worst x1_Best x1_Pass : Int) (x2 : List qa), ev 13 0 [R.agg [dI x0_Id, dI x0_From, dI x0_To, dI x0_Begin, dI x0_End, dL 1 eS x0_In, dL 2 qg x0_Out, dI x0_Conv_Num, dI x0_Conv_Add, dI x0_Conv_Den, dI x0_Conv_Round], R.agg [dI x1_Worst, dI x1_Best, dI x1_Pass], rL 8 qd x2] [] = (Z0 (qb.mk x0_Id x0_From x0_To x0_Begin x0_End x0_In x0_Out (qh.mk x0_Conv_Num x0_Conv_Add x0_Conv_Den x0_Conv_Round)) (qt.mk x1_Worst x1_Best x1_Pass) x2).bind (fun (e : List qa × Int) => some (R.tup [rL 8 qd e.1, rI e.2], [])) :=
  fun x0_Id x0_From x0_To x0_Begin x0_End x0_In x0_Out x0_Conv_Num x0_Conv_Add x0_Conv_Den x0_Conv_Round x1_Worst x1_Best x1_Pass x2 => by
    rw [qx qh9 qmg.2.2.2 qmK]
    have := qnb; have := @q13; have := @Jo; have := @Jt; have := @ZT; have := @Jh; have := @Zo; have := @JS; have := @ZW; have := @Z0.eq_1; exact gA
noncomputable def qE (b0 : qb) (b1 : qt) (t1 : List Int) (t5 : Bool) (t10 : List qa) (t11 : Int) (t26 : List qb) (t27 : Int) (t28 : Int) (t45 : List qa) (t46 : Int) : (List Int × List Int × Int × Int × Int) → Option ((List Int × List Int × Int × Int × Int) ⊕ (List Int × List Int × Int × Int))
  | (w2, w3, t12, t13, t47) =>
    if t47 < t46 then if 0 ≤ t47 ∧ t47 < ((t45.length : Nat) : Int) then Option.bind t45[Int.toNat t47]? fun (a : qa) =>
        if w2.length + 1 ≤ Go.maxLen ∧ (w2.length + 1) * 8 ≤ 140737488355328 then if w3.length + 1 ≤ Go.maxLen ∧ (w3.length + 1) * 8 ≤ 140737488355328 then some (Sum.inl (w2 ++ [a.Grade], w3 ++ [a.Credits], max t12 a.Day, w64 (t13 + ((a.Sources.length : Nat) : Int)), w64 (t47 + 1)))
          else none
        else none
      else none
    else some (Sum.inr (w2, w3, t12, t13))
theorem J0 : ∀ (w2 w3 : List Int) (b0_Id b0_From b0_To b0_Begin b0_End : Int) (b0_In : List ByteArray) (b0_Out : List qi) (b0_Conv_Num b0_Conv_Add b0_Conv_Den b0_Conv_Round b1_Worst b1_Best b1_Pass : Int) (t1 : List Int) (t5 : Bool) (t10 : List qa) (t11 t12 t13 : Int) (t26 : List qb) (t27 t28 : Int) (t45 : List qa) (t46 t47 : Int) (w2_len w3_len : Nat), w2_len = w2.length → w3_len = w3.length → XL2 evo 4 0 11 ⟨[(1, rL 1 eI t1), (5, rB t5), (7, rP 0), (9, rP 1), (10, rL 8 qd t10), (11, rI t11), (12, rI t12), (13, rI t13), (14, rO 2 1 w2_len), (15, rO 3 1 w3_len), (26, rL 11 qo t26), (27, rI t27), (28, rI t28), (45, rL 8 qd t45), (46, rI t46), (47, rI t47)], [(0, B.blk 36 [dI b0_Id, dI b0_From, dI b0_To, dI b0_Begin, dI b0_End, dL 1 eS b0_In, dL 2 qg b0_Out, dI b0_Conv_Num, dI b0_Conv_Add, dI b0_Conv_Den, dI b0_Conv_Round]), (1, B.blk 45 [dI b1_Worst, dI b1_Best, dI b1_Pass]), (2, bR 3 1 eI w2), (3, bR 3 1 eI w3)], 4, 214⟩ = (qT (qE (qb.mk b0_Id b0_From b0_To b0_Begin b0_End b0_In b0_Out (qh.mk b0_Conv_Num b0_Conv_Add b0_Conv_Den b0_Conv_Round)) (qt.mk b1_Worst b1_Best b1_Pass) t1 t5 t10 t11 t26 t27 t28 t45 t46) (w2, w3, t12, t13, t47)).bind (fun (e : List Int × List Int × Int × Int) => some (Go.Exit.exit 2, ⟨[(1, rL 1 eI t1), (5, rB t5), (7, rP 0), (9, rP 1), (10, rL 8 qd t10), (11, rI t11), (12, rI e.2.2.1), (13, rI e.2.2.2), (14, rO 2 1 e.1.length), (15, rO 3 1 e.2.1.length), (26, rL 11 qo t26), (27, rI t27), (28, rI t28)], [(0, B.blk 36 [dI b0_Id, dI b0_From, dI b0_To, dI b0_Begin, dI b0_End, dL 1 eS b0_In, dL 2 qg b0_Out, dI b0_Conv_Num, dI b0_Conv_Add, dI b0_Conv_Den, dI b0_Conv_Round]), (1, B.blk 45 [dI b1_Worst, dI b1_Best, dI b1_Pass]), (2, bR 3 1 eI e.1), (3, bR 3 1 eI e.2.1)], 4, 214⟩)) :=
  by
  intro w2 w3 b0_Id b0_From b0_To b0_Begin b0_End b0_In b0_Out b0_Conv_Num b0_Conv_Add b0_Conv_Den b0_Conv_Round b1_Worst b1_Best b1_Pass t1 t5 t10 t11 t12 t13 t26 t27 t28 t45 t46 t47 w2_len w3_len h0 h1
  subst h0 h1
  revert t47; revert t13; revert t12; revert w3; revert w2; exact qoL qhY qgX (fun e => by exact ⟨_, rfl, fun h => by cases h⟩) fun w2 w3 t12 t13 t47 => by
    have := cx4; have := @qak.eq_1; have := @qE.eq_1; exact gA
theorem Zw : ∀  (b0_Id b0_From b0_To b0_Begin b0_End : Int) (b0_In : List ByteArray) (b0_Out : List qi) (b0_Conv_Num b0_Conv_Add b0_Conv_Den b0_Conv_Round b1_Worst b1_Best b1_Pass : Int) (t1 : List Int) (t5 : Bool) (t10 : List qa) (t11 t12 t13 : Int) (t26 : List qb) (t27 t28 : Int) (t45 : List qa) (t46 t47 : Int), XL2 evo 4 0 11 ⟨[(1, rL 1 eI t1), (5, rB t5), (7, rP 0), (9, rP 1), (10, rL 8 qd t10), (11, rI t11), (12, rI t12), (13, rI t13), (14, rO 2 1 0), (15, rO 3 1 0), (26, rL 11 qo t26), (27, rI t27), (28, rI t28), (45, rL 8 qd t45), (46, rI t46), (47, rI t47)], [(0, B.blk 36 [dI b0_Id, dI b0_From, dI b0_To, dI b0_Begin, dI b0_End, dL 1 eS b0_In, dL 2 qg b0_Out, dI b0_Conv_Num, dI b0_Conv_Add, dI b0_Conv_Den, dI b0_Conv_Round]), (1, B.blk 45 [dI b1_Worst, dI b1_Best, dI b1_Pass]), (2, B.row 3 1 []), (3, B.row 3 1 [])], 4, 214⟩ = (qT (qE (qb.mk b0_Id b0_From b0_To b0_Begin b0_End b0_In b0_Out (qh.mk b0_Conv_Num b0_Conv_Add b0_Conv_Den b0_Conv_Round)) (qt.mk b1_Worst b1_Best b1_Pass) t1 t5 t10 t11 t26 t27 t28 t45 t46) ([], [], t12, t13, t47)).bind (fun (e : List Int × List Int × Int × Int) => some (Go.Exit.exit 2, ⟨[(1, rL 1 eI t1), (5, rB t5), (7, rP 0), (9, rP 1), (10, rL 8 qd t10), (11, rI t11), (12, rI e.2.2.1), (13, rI e.2.2.2), (14, rO 2 1 e.1.length), (15, rO 3 1 e.2.1.length), (26, rL 11 qo t26), (27, rI t27), (28, rI t28)], [(0, B.blk 36 [dI b0_Id, dI b0_From, dI b0_To, dI b0_Begin, dI b0_End, dL 1 eS b0_In, dL 2 qg b0_Out, dI b0_Conv_Num, dI b0_Conv_Add, dI b0_Conv_Den, dI b0_Conv_Round]), (1, B.blk 45 [dI b1_Worst, dI b1_Best, dI b1_Pass]), (2, bR 3 1 eI e.1), (3, bR 3 1 eI e.2.1)], 4, 214⟩)) := by
  intro b0_Id b0_From b0_To b0_Begin b0_End b0_In b0_Out b0_Conv_Num b0_Conv_Add b0_Conv_Den b0_Conv_Round b1_Worst b1_Best b1_Pass t1 t5 t10 t11 t12 t13 t26 t27 t28 t45 t46 t47; have h := J0 [] [] ((qb.mk b0_Id b0_From b0_To b0_Begin b0_End b0_In b0_Out (qh.mk b0_Conv_Num b0_Conv_Add b0_Conv_Den b0_Conv_Round))).Id ((qb.mk b0_Id b0_From b0_To b0_Begin b0_End b0_In b0_Out (qh.mk b0_Conv_Num b0_Conv_Add b0_Conv_Den b0_Conv_Round))).From ((qb.mk b0_Id b0_From b0_To b0_Begin b0_End b0_In b0_Out (qh.mk b0_Conv_Num b0_Conv_Add b0_Conv_Den b0_Conv_Round))).To ((qb.mk b0_Id b0_From b0_To b0_Begin b0_End b0_In b0_Out (qh.mk b0_Conv_Num b0_Conv_Add b0_Conv_Den b0_Conv_Round))).Begin ((qb.mk b0_Id b0_From b0_To b0_Begin b0_End b0_In b0_Out (qh.mk b0_Conv_Num b0_Conv_Add b0_Conv_Den b0_Conv_Round))).End ((qb.mk b0_Id b0_From b0_To b0_Begin b0_End b0_In b0_Out (qh.mk b0_Conv_Num b0_Conv_Add b0_Conv_Den b0_Conv_Round))).In ((qb.mk b0_Id b0_From b0_To b0_Begin b0_End b0_In b0_Out (qh.mk b0_Conv_Num b0_Conv_Add b0_Conv_Den b0_Conv_Round))).Out ((qb.mk b0_Id b0_From b0_To b0_Begin b0_End b0_In b0_Out (qh.mk b0_Conv_Num b0_Conv_Add b0_Conv_Den b0_Conv_Round))).Conv.Num ((qb.mk b0_Id b0_From b0_To b0_Begin b0_End b0_In b0_Out (qh.mk b0_Conv_Num b0_Conv_Add b0_Conv_Den b0_Conv_Round))).Conv.Add ((qb.mk b0_Id b0_From b0_To b0_Begin b0_End b0_In b0_Out (qh.mk b0_Conv_Num b0_Conv_Add b0_Conv_Den b0_Conv_Round))).Conv.Den ((qb.mk b0_Id b0_From b0_To b0_Begin b0_End b0_In b0_Out (qh.mk b0_Conv_Num b0_Conv_Add b0_Conv_Den b0_Conv_Round))).Conv.Round ((qt.mk b1_Worst b1_Best b1_Pass)).Worst ((qt.mk b1_Worst b1_Best b1_Pass)).Best ((qt.mk b1_Worst b1_Best b1_Pass)).Pass t1 t5 t10 t11 t12 t13 t26 t27 t28 t45 t46 t47 _ _ rfl rfl
  first
    | exact h
    | (simp only [rL, dL, bR, bZ, Nat.reduceAdd] at h; exact h)
noncomputable def qD (b0 : qb) (b1 : qa) (t1 : List Int) (t5 : Bool) (t12 : Int) (t13 : Int) (t18 : Int) (t26 : List qb) (t27 : Int) (t28 : Int) (t120 : List qa) (t121 : Int) (t122 : Int) : Int → Option (Int ⊕ (Unit ⊕ Unit))
  | t23 =>
    if t23 < ((b1.Sources.length : Nat) : Int) then if 0 ≤ w64 (t23 - 1) ∧ w64 (t23 - 1) < ((b1.Sources.length : Nat) : Int) then Option.bind b1.Sources[Int.toNat (w64 (t23 - 1))]? fun (a : Int) =>
        if 0 ≤ t23 ∧ t23 < ((b1.Sources.length : Nat) : Int) then Option.bind b1.Sources[Int.toNat t23]? fun (a2 : Int) =>
          if a2 ≤ a then some (Sum.inr (Sum.inl ()))
          else some (Sum.inl (w64 (t23 + 1)))
        else none
      else none
    else some (Sum.inr (Sum.inr ()))
theorem J3 : ∀ (b0_Id b0_From b0_To b0_Begin b0_End : Int) (b0_In : List ByteArray) (b0_Out : List qi) (b0_Conv_Num b0_Conv_Add b0_Conv_Den b0_Conv_Round b1_Course_School : Int) (b1_Course_Code : ByteArray) (b1_Credits b1_Grade b1_Day : Int) (b1_Sources : List Int) (b1_Bundle : Int) (b1_Path t1 : List Int) (t5 : Bool) (t12 t13 t18 t23 : Int) (t26 : List qb) (t27 t28 : Int) (t120 : List qa) (t121 t122 : Int), XL2 evo 4 0 30 ⟨[(1, rL 1 eI t1), (5, rB t5), (7, rP 0), (12, rI t12), (13, rI t13), (18, rI t18), (21, rP 1), (23, rI t23), (26, rL 11 qo t26), (27, rI t27), (28, rI t28), (120, rL 8 qd t120), (121, rI t121), (122, rI t122)], [(0, B.blk 36 [dI b0_Id, dI b0_From, dI b0_To, dI b0_Begin, dI b0_End, dL 1 eS b0_In, dL 2 qg b0_Out, dI b0_Conv_Num, dI b0_Conv_Add, dI b0_Conv_Den, dI b0_Conv_Round]), (1, B.blk 52 [dI b1_Course_School, dS b1_Course_Code, dI b1_Credits, dI b1_Grade, dI b1_Day, dL 1 eI b1_Sources, dI b1_Bundle, dL 1 eI b1_Path])], 2, 214⟩ = (qT (qD (qb.mk b0_Id b0_From b0_To b0_Begin b0_End b0_In b0_Out (qh.mk b0_Conv_Num b0_Conv_Add b0_Conv_Den b0_Conv_Round)) (qa.mk (qV.mk b1_Course_School b1_Course_Code) b1_Credits b1_Grade b1_Day b1_Sources b1_Bundle b1_Path) t1 t5 t12 t13 t18 t26 t27 t28 t120 t121 t122) t23).bind (Sum.elim (fun (e : Unit) => some (Go.Exit.ret, ⟨[(1, rL 1 eI t1), (4, rB Bool.false), (5, rB t5), (7, rP 0), (12, rI t12), (13, rI t13), (18, rI t18), (26, rL 11 qo t26), (27, rI t27), (28, rI t28), (120, rL 8 qd t120), (121, rI t121), (122, rI t122)], [(0, B.blk 36 [dI b0_Id, dI b0_From, dI b0_To, dI b0_Begin, dI b0_End, dL 1 eS b0_In, dL 2 qg b0_Out, dI b0_Conv_Num, dI b0_Conv_Add, dI b0_Conv_Den, dI b0_Conv_Round])], 1, 214⟩)) (fun (e : Unit) => some (Go.Exit.exit 6, ⟨[(1, rL 1 eI t1), (4, R.any), (5, rB t5), (7, rP 0), (12, rI t12), (13, rI t13), (18, rI t18), (26, rL 11 qo t26), (27, rI t27), (28, rI t28), (120, rL 8 qd t120), (121, rI t121), (122, rI t122)], [(0, B.blk 36 [dI b0_Id, dI b0_From, dI b0_To, dI b0_Begin, dI b0_End, dL 1 eS b0_In, dL 2 qg b0_Out, dI b0_Conv_Num, dI b0_Conv_Add, dI b0_Conv_Den, dI b0_Conv_Round])], 1, 214⟩))) :=
  fun b0_Id b0_From b0_To b0_Begin b0_End b0_In b0_Out b0_Conv_Num b0_Conv_Add b0_Conv_Den b0_Conv_Round b1_Course_School b1_Course_Code b1_Credits b1_Grade b1_Day b1_Sources b1_Bundle b1_Path t1 t5 t12 t13 t18 t23 t26 t27 t28 t120 t121 t122 => by
    revert t23; exact q5z qh0 qgY (fun e => by rcases e with _ | _ <;> exact ⟨_, rfl, fun h => by cases h⟩) fun x => by
      have := cx4; have := @qab.eq_1; have := @qD.eq_1; exact gA
noncomputable def qp (b0 : qb) (t1 : List Int) (t5 : Bool) (t12 : Int) (t13 : Int) (t18 : Int) (t26 : List qb) (t27 : Int) (t28 : Int) (t120 : List qa) (t121 : Int) : Int → Option (Int ⊕ (Unit ⊕ Unit))
  | t122 =>
    if t122 < t121 then if 0 ≤ t122 ∧ t122 < ((t120.length : Nat) : Int) then Option.bind t120[Int.toNat t122]? fun (a : qa) =>
        if 0 ≤ t122 ∧ t122 < ((b0.Out.length : Nat) : Int) then Option.bind b0.Out[Int.toNat t122]? fun (a2 : qi) =>
          if (!(a.Course.School == b0.To && ByteArray.toList a.Course.Code == ByteArray.toList a2.Code)) = Bool.true then some (Sum.inr (Sum.inl ()))
          else if 0 ≤ t122 ∧ t122 < ((b0.Out.length : Nat) : Int) then Option.bind b0.Out[Int.toNat t122]? fun (a3 : qi) =>
            if (a.Credits != a3.Credits) = Bool.true then some (Sum.inr (Sum.inl ()))
            else if (a.Grade != t18) = Bool.true then some (Sum.inr (Sum.inl ()))
            else if (a.Day != t12) = Bool.true then some (Sum.inr (Sum.inl ()))
            else if (((a.Sources.length : Nat) : Int) != t13) = Bool.true then some (Sum.inr (Sum.inl ()))
            else if (((a.Path.length : Nat) : Int) == 0) = Bool.true then some (Sum.inr (Sum.inl ()))
            else if 0 ≤ w64 (((a.Path.length : Nat) : Int) - 1) ∧ w64 (((a.Path.length : Nat) : Int) - 1) < ((a.Path.length : Nat) : Int) then Option.bind a.Path[Int.toNat (w64 (((a.Path.length : Nat) : Int) - 1))]? fun (a4 : Int) =>
              if (a4 != b0.Id) = Bool.true then some (Sum.inr (Sum.inl ()))
              else if (a.Bundle != 0) = Bool.true then some (Sum.inr (Sum.inl ()))
              else Option.bind (qT (qD b0 a t1 t5 t12 t13 t18 t26 t27 t28 t120 t121 t122) 1) fun (a5 : Sum Unit Unit) =>
              Sum.elim (fun (a6 : Unit) => some (Sum.inr (Sum.inl ()))) (fun (a7 : Unit) => some (Sum.inl (w64 (t122 + 1)))) a5
            else none
          else none
        else none
      else none
    else some (Sum.inr (Sum.inr ()))
theorem ZV : ∀ (b0_Id b0_From b0_To b0_Begin b0_End : Int) (b0_In : List ByteArray) (b0_Out : List qi) (b0_Conv_Num b0_Conv_Add b0_Conv_Den b0_Conv_Round : Int) (t1 : List Int) (t5 : Bool) (t12 t13 t18 : Int) (t26 : List qb) (t27 t28 : Int) (t120 : List qa) (t121 t122 : Int), XL2 evo 4 0 24 ⟨[(1, rL 1 eI t1), (5, rB t5), (7, rP 0), (12, rI t12), (13, rI t13), (18, rI t18), (26, rL 11 qo t26), (27, rI t27), (28, rI t28), (120, rL 8 qd t120), (121, rI t121), (122, rI t122)], [(0, B.blk 36 [dI b0_Id, dI b0_From, dI b0_To, dI b0_Begin, dI b0_End, dL 1 eS b0_In, dL 2 qg b0_Out, dI b0_Conv_Num, dI b0_Conv_Add, dI b0_Conv_Den, dI b0_Conv_Round])], 1, 214⟩ = (qT (qp (qb.mk b0_Id b0_From b0_To b0_Begin b0_End b0_In b0_Out (qh.mk b0_Conv_Num b0_Conv_Add b0_Conv_Den b0_Conv_Round)) t1 t5 t12 t13 t18 t26 t27 t28 t120 t121) t122).bind (Sum.elim (fun (e : Unit) => some (Go.Exit.ret, ⟨[(1, rL 1 eI t1), (4, rB Bool.false), (5, rB t5), (26, rL 11 qo t26), (27, rI t27), (28, rI t28)], [], 0, 214⟩)) (fun (e : Unit) => some (Go.Exit.exit 4, ⟨[(1, rL 1 eI t1), (4, R.any), (5, rB t5), (26, rL 11 qo t26), (27, rI t27), (28, rI t28)], [], 0, 214⟩))) :=
  fun b0_Id b0_From b0_To b0_Begin b0_End b0_In b0_Out b0_Conv_Num b0_Conv_Add b0_Conv_Den b0_Conv_Round t1 t5 t12 t13 t18 t26 t27 t28 t120 t121 t122 => by
    revert t122; exact q5z qgU qiw (fun e => by rcases e with _ | _ <;> exact ⟨_, rfl, fun h => by cases h⟩) fun x => by
      have := cx4; have := @qau.eq_1; have := @J3; have := @qp.eq_1; exact gA
noncomputable def qL (t1 : List Int) (t5 : Bool) (t26 : List qb) (t27 : Int) : Int → Option (Int ⊕ (Unit ⊕ Unit))
  | t28 =>
    if t28 < t27 then if 0 ≤ t28 ∧ t28 < ((t26.length : Nat) : Int) then Option.bind t26[Int.toNat t28]? fun (a : qb) =>
        Option.bind (QV a t1) fun (a2 : List qa) =>
        Option.bind (Z0 a (qv a.To) a2) fun (a3 : Prod (List qa) Int) =>
        Option.bind (qT (qE a (qv a.To) t1 t5 a3.1 a3.2 t26 t27 t28 a2 ((a2.length : Nat) : Int)) ([], ([], (0, (0, 0))))) fun (a4 : Prod (List Int) (Prod (List Int) (Prod Int Int))) =>
        if (!((a3.2 == 0) == zg a a4.2.2.1)) = Bool.true then some (Sum.inr (Sum.inl ()))
        else if (a3.2 != 0) = Bool.true then if (a3.2 != 33) = Bool.true then some (Sum.inr (Sum.inl ()))
          else if (a3.2 != 0) = Bool.true then some (Sum.inl (w64 (t28 + 1)))
          else Option.bind (zy a.Conv (qv a.To) a4.1 a4.2.1) fun (a5 : Prod Int Int) =>
          if (a5.2 != 0) = Bool.true then some (Sum.inr (Sum.inl ()))
          else Option.bind (zG (qv a.To) a5.1) fun (a6 : Bool) =>
          if (!(a6 == decide (0 < ((a3.1.length : Nat) : Int)))) = Bool.true then some (Sum.inr (Sum.inl ()))
          else if (((a3.1.length : Nat) : Int) != 0) = Bool.true then if (((a3.1.length : Nat) : Int) != ((a.Out.length : Nat) : Int)) = Bool.true then some (Sum.inr (Sum.inl ()))
            else Option.bind (qT (qp a t1 t5 a4.2.2.1 a4.2.2.2 a5.1 t26 t27 t28 a3.1 ((a3.1.length : Nat) : Int)) 0) fun (a7 : Sum Unit Unit) =>
            Sum.elim (fun (a8 : Unit) => some (Sum.inr (Sum.inl ()))) (fun (a9 : Unit) => some (Sum.inl (w64 (t28 + 1)))) a7
          else Option.bind (qT (qp a t1 t5 a4.2.2.1 a4.2.2.2 a5.1 t26 t27 t28 a3.1 ((a3.1.length : Nat) : Int)) 0) fun (a10 : Sum Unit Unit) =>
          Sum.elim (fun (a11 : Unit) => some (Sum.inr (Sum.inl ()))) (fun (a12 : Unit) => some (Sum.inl (w64 (t28 + 1)))) a10
        else if (a3.2 != 0) = Bool.true then some (Sum.inl (w64 (t28 + 1)))
        else Option.bind (zy a.Conv (qv a.To) a4.1 a4.2.1) fun (a13 : Prod Int Int) =>
        if (a13.2 != 0) = Bool.true then some (Sum.inr (Sum.inl ()))
        else Option.bind (zG (qv a.To) a13.1) fun (a14 : Bool) =>
        if (!(a14 == decide (0 < ((a3.1.length : Nat) : Int)))) = Bool.true then some (Sum.inr (Sum.inl ()))
        else if (((a3.1.length : Nat) : Int) != 0) = Bool.true then if (((a3.1.length : Nat) : Int) != ((a.Out.length : Nat) : Int)) = Bool.true then some (Sum.inr (Sum.inl ()))
          else Option.bind (qT (qp a t1 t5 a4.2.2.1 a4.2.2.2 a13.1 t26 t27 t28 a3.1 ((a3.1.length : Nat) : Int)) 0) fun (a15 : Sum Unit Unit) =>
          Sum.elim (fun (a16 : Unit) => some (Sum.inr (Sum.inl ()))) (fun (a17 : Unit) => some (Sum.inl (w64 (t28 + 1)))) a15
        else Option.bind (qT (qp a t1 t5 a4.2.2.1 a4.2.2.2 a13.1 t26 t27 t28 a3.1 ((a3.1.length : Nat) : Int)) 0) fun (a18 : Sum Unit Unit) =>
        Sum.elim (fun (a19 : Unit) => some (Sum.inr (Sum.inl ()))) (fun (a20 : Unit) => some (Sum.inl (w64 (t28 + 1)))) a18
      else none
    else some (Sum.inr (Sum.inr ()))
theorem Jf : ∀ (t1 : List Int) (t5 : Bool) (t26 : List qb) (t27 t28 : Int), XL2 evo 4 0 3 ⟨[(1, rL 1 eI t1), (5, rB t5), (26, rL 11 qo t26), (27, rI t27), (28, rI t28)], [], 0, 214⟩ = (qT (qL t1 t5 t26 t27) t28).bind (Sum.elim (fun (e : Unit) => some (Go.Exit.ret, ⟨[(4, rB Bool.false), (5, rB t5)], [], 0, 214⟩)) (fun (e : Unit) => some (Go.Exit.exit 0, ⟨[(4, R.any), (5, rB t5)], [], 0, 214⟩))) :=
  fun t1 t5 t26 t27 t28 => by
    revert t28; exact q5z ql5 qlr (fun e => by rcases e with _ | _ <;> exact ⟨_, rfl, fun h => by cases h⟩) fun x => by
      have := cx4; have := @qe9.eq_1; have := @q2i; have := @q4q; have := @q2l; have := @Zw; have := @JD; have := @ZT; have := @Jh; have := @ZV; have := @qL.eq_1; exact gA
noncomputable def zW (x0 : List (List Int)) (x1 : List Int) : Option Bool :=
  Option.bind (Zm x0) fun (a : List qb) =>
  Option.bind (qT (qL x1 Bool.true a ((a.length : Nat) : Int)) 0) fun (a2 : Sum Unit Unit) =>
  Sum.elim (fun (a3 : Unit) => some Bool.false) (fun (a4 : Unit) => some Bool.true) a2
theorem q08 : ∀ (x0 : List (List Int)) (x1 : List Int), ev 4 0 [rL 1 (eL 1 eI) x0, rL 1 eI x1] [] = (zW x0 x1).bind (fun (e : Bool) => some (rB e, [])) :=
  fun x0 x1 => by
    rw [qx bd4 pw4.2.2.2 lo4]
    have := cx4; have := @q1K; have := @q2Q; have := @Jf; have := @zW.eq_1; exact gA
end Go.Proofs.Ytplfjlcnffcenaa.Vc

namespace Go.Proofs.Ytplfjlcnffcenaa.Vc
open Go.RowKit
set_option linter.unusedVariables false
set_option linter.unusedSimpArgs false
section
variable {τ ε : Type} {step : τ → Option (τ ⊕ ε)}
theorem zU {x y : τ} (h : step x = some (.inl y)) : qT step x = qT step y := by
  rw [q9p, h]; rfl
theorem zV {x : τ} {e : ε} (h : step x = some (.inr e)) : qT step x = some e := by
  rw [q9p, h]; rfl
theorem Zf {e : ε} (st : Nat → τ) (i0 n : Nat) (h0 : i0 ≤ n) (h : ∀ i, i0 ≤ i → i < n → step (st i) = some (.inl (st (i + 1)))) (hn : step (st n) = some (.inr e)) : qT step (st i0) = some e := by
  have key : ∀ j i, j + i = n → i0 ≤ i → qT step (st i) = some e := by
    intro j
    induction j with
    | zero => intro i hi _; rw [Nat.zero_add] at hi; subst hi; exact zV hn
    | succ j ih => intro i hi h1; rw [zU (h i h1 (by omega))]; exact ih (i + 1) (by omega) (by omega)
  exact key (n - i0) i0 (by omega) (Nat.le_refl _)
def q4j {α β ε : Type} (g : β → α → β ⊕ ε) (fin : β → ε) : List α → β → ε
  | [], b => fin b
  | a :: l, b => match g b a with
    | .inl b' => q4j g fin l b'
    | .inr e => e
theorem q3J {α β : Type} (l : List α) (st : β → Nat → τ) (g : β → α → β ⊕ ε) (fin : β → ε)
    (h : ∀ b i a, l[i]? = some a → step (st b i) = some (match g b a with | .inl b' => .inl (st b' (i + 1)) | .inr e => .inr e)) (hn : ∀ b, step (st b l.length) = some (.inr (fin b))) (b : β) : qT step (st b 0) = some (q4j g fin l b) := by
  have key : ∀ (r : List α) (i : Nat) (b : β), r.length + i = l.length → (∀ j, r[j]? = l[i + j]?) → qT step (st b i) = some (q4j g fin r b) := by
    intro r
    induction r with
    | nil =>
      intro i b hi _
      have hi : i = l.length := by simpa using hi
      subst hi; exact zV (hn b)
    | cons a r ih =>
      intro i b hi hr
      have ha : l[i]? = some a := by have := hr 0; simpa using this.symm
      have h1 := h b i a ha
      unfold q4j
      cases hg : g b a with
      | inl b' =>
        rw [hg] at h1
        rw [zU h1]
        refine ih (i + 1) b' (by simp at hi; omega) fun j => ?_
        have := hr (j + 1)
        rw [show i + 1 + j = i + (j + 1) by omega, ← this]; rfl
      | inr e =>
        rw [hg] at h1
        exact zV h1
  exact key l 0 b (by simp) (by simp)
theorem q7D {α β : Type} (l : List α) (st : β → Nat → τ) (g : β → α → β) (fin : β → ε)
    (h : ∀ b i a, l[i]? = some a → step (st b i) = some (.inl (st (g b a) (i + 1)))) (hn : ∀ b, step (st b l.length) = some (.inr (fin b))) (b : β) : qT step (st b 0) = some (fin (l.foldl g b)) := by
  rw [q3J l st (fun b a => .inl (g b a)) fin h hn b]
  congr 1
  induction l generalizing b with
  | nil => rfl
  | cons a l ih =>
    unfold q4j
    simp only [List.foldl_cons]
    clear h hn
    have : ∀ (l : List α) (b : β), q4j (ε := ε) (fun b a => .inl (g b a)) fin l b = fin (l.foldl g b) := by
      intro l
      induction l with
      | nil => intro b; rfl
      | cons a l ih => intro b; unfold q4j; simp only [List.foldl_cons]; exact ih _
    exact this l _
theorem qaj {α : Type} (l : List α) (st : Nat → τ) (p : α → Option ε) (d : ε)
    (h : ∀ i a, l[i]? = some a → step (st i) = some (match p a with | some e => .inr e | none => .inl (st (i + 1)))) (hn : step (st l.length) = some (.inr d)) : qT step (st 0) = some ((l.findSome? p).getD d) := by
  have h1 := q3J (ε := ε) (β := Unit) l (fun _ i => st i) (fun _ a => match p a with | some e => .inr e | none => .inl ()) (fun _ => d) (fun b i a ha => by
    rw [h i a ha]; cases p a <;> rfl) (fun _ => hn) ()
  rw [h1]
  congr 1
  have : ∀ l : List α, q4j (ε := ε) (fun (_ : Unit) a => match p a with | some e => .inr e | none => .inl ()) (fun _ => d) l () = (l.findSome? p).getD d := by
    intro l
    induction l with
    | nil => rfl
    | cons a l ih =>
      unfold q4j
      rw [List.findSome?_cons]
      cases p a with
      | none => simpa using ih
      | some e => rfl
  exact this l
end
theorem q2Y {α : Type} {l : List α} {i : Nat} {a : α} (h : l[i]? = some a) : i < l.length := (List.getElem?_eq_some_iff.1 h).1
theorem zJ {n : Int} (h0 : -9223372036854775808 ≤ n) (h1 : n ≤ 9223372036854775807) : w64 n = n := wi n h0 h1
theorem zi {i n : Nat} (h : i < n) (hn : n ≤ 9223372036854775807) : w64 ((i : Int) + 1) = ((i + 1 : Nat) : Int) := by
  rw [zJ (by omega) (by omega)]; omega
end Go.Proofs.Ytplfjlcnffcenaa.Vc
namespace Go.Proofs.Ytplfjlcnffcenaa.Vc
open Go.RowKit
set_option linter.unusedVariables false
set_option linter.unusedSimpArgs false
structure J9 (d : qc) : Prop where
  lo : 0 ≤ d.At
  hi : d.At ≤ (d.L.length : Int)
  len : d.L.length ≤ 9223372036854775807
theorem qhk (x m : Int) (h0 : 0 < m) (h1 : m ≤ 1000000) : ∃ v, ZC x m = some v ∧ 0 ≤ v ∧ v < m := by
  have e1 := Int.tmod_lt_of_pos x h0
  have e2 : -m < Int.tmod x m := by
    have := Int.tmod_lt_of_pos (-x) h0
    rw [Int.neg_tmod] at this; omega
  have e3 : w64 (Int.tmod x m + m) = Int.tmod x m + m := zJ (by omega) (by omega)
  refine ⟨Int.tmod (Int.tmod x m + m) m, ?_, Int.tmod_nonneg _ (by omega), Int.tmod_lt_of_pos _ h0⟩
  unfold ZC
  repeat rw [if_neg (by omega)]
  rw [e3]
theorem QI {d : qc} (h : J9 d) {most : Int} (h0 : 0 < most) (h1 : most ≤ 1000000) : ∃ v d', qj most d = some (v, d') ∧ 0 ≤ v ∧ v < most ∧ J9 d' := by
  obtain ⟨a, b, c⟩ := h
  unfold qj
  by_cases he : (d.L.length : Int) ≤ d.At
  · exact ⟨0, d, if_pos he, Int.le_refl _, h0, ⟨a, b, c⟩⟩
  · obtain ⟨x, hx⟩ : ∃ x, d.L[Int.toNat d.At]? = some x := ⟨_, List.getElem?_eq_getElem (by omega)⟩
    obtain ⟨v, e1, e2, e3⟩ := qhk x most h0 h1
    have e6 : w64 (d.At + 1) = d.At + 1 := zJ (by omega) (by omega)
    have e7 : w64 (d.At + 1 - 1) = d.At := by rw [zJ (by omega) (by omega)]; omega
    refine ⟨v, ⟨d.L, d.At + 1⟩, ?_, e2, e3, ⟨by show 0 ≤ d.At + 1; omega, by show d.At + 1 ≤ d.L.length; omega, c⟩⟩
    rw [if_neg he, e6, e7, if_pos ⟨a, by omega⟩, hx, Option.bind_some, e1, Option.bind_some]
noncomputable def cod (i : Nat) : ByteArray := qs.getD i (ByteArray.mk (List.toArray [90, 57]))
noncomputable def sd (l : List Nat) : List ByteArray := l.map cod
structure Ix (l : List Nat) : Prop where
  lt : ∀ i ∈ l, i < 7
  up : l.Pairwise (· < ·)
  len : l.length ≤ 3
theorem Ix.filter {l : List Nat} (h : Ix l) (p : Nat → Bool) : Ix (l.filter p) := ⟨fun i hi => h.lt i ((List.mem_filter.1 hi).1), h.up.filter p, Nat.le_trans (List.length_filter_le p l) h.len⟩
def fk (l : List Nat) (k : Nat) : Nat := if l.contains k then (if l.contains ((k + 1) % 6) then (k + 2) % 6 else (k + 1) % 6) else k
def qeW (k : Nat) : List Nat → List Nat
  | [] => [k]
  | x :: l => if x < k then x :: qeW k l else k :: x :: l
def six : List (List Nat) := [0, 1, 2, 3, 4, 5].flatMap fun i => [i] :: ([0, 1, 2, 3, 4, 5].filter fun j => decide (i < j)).map fun j => [i, j]
def q5K (n : Nat) (l : List Nat) : Bool := l.all (fun i => decide (i < 6)) && (match l with | [] => true | [_] => true | [a, b] => decide (a < b) | [a, b, c] => decide (a < b) && decide (b < c) | _ => false) && l.length == n
theorem q7X : ([] :: six).all (fun l => [0, 1, 2, 3, 4, 5].all fun k => q5K (l.length + 1) (qeW (fk l k) l) && decide (fk l k < 6)) = true := by decide
theorem lt6 {a : Nat} (h : a < 6) : a ∈ [0, 1, 2, 3, 4, 5] := by
  have : a = 0 ∨ a = 1 ∨ a = 2 ∨ a = 3 ∨ a = 4 ∨ a = 5 := by omega
  rcases this with rfl | rfl | rfl | rfl | rfl | rfl <;> decide
theorem q8y {l : List Nat} {n : Nat} (h : q5K n l = true) (hn : n ≤ 2) : l ∈ [] :: six := by
  unfold q5K at h
  simp only [Bool.and_eq_true, beq_iff_eq, List.all_eq_true, decide_eq_true_eq] at h
  obtain ⟨⟨h1, h2⟩, h3⟩ := h
  match l with
  | [] => exact List.mem_cons_self
  | [a] =>
    refine List.mem_cons_of_mem _ (List.mem_flatMap.2 ⟨a, lt6 (h1 a (by simp)), List.mem_cons_self⟩)
  | [a, b] =>
    have hab : a < b := by simpa using h2
    refine List.mem_cons_of_mem _ (List.mem_flatMap.2 ⟨a, lt6 (h1 a (by simp)), List.mem_cons_of_mem _ (List.mem_map.2 ⟨b, List.mem_filter.2 ⟨lt6 (h1 b (by simp)), by simpa using hab⟩, rfl⟩)⟩)
  | a :: b :: c :: l => simp only [List.length_cons] at h3; omega
theorem q2s {n : Nat} {l : List Nat} (h : q5K n l = true) : l.length = n := by
  unfold q5K at h
  simp only [Bool.and_eq_true, beq_iff_eq] at h
  exact h.2
theorem qeC {n : Nat} {l : List Nat} (h : q5K n l = true) (hn : n ≤ 3) : Ix l := by
  have hl := q2s h
  unfold q5K at h
  simp only [Bool.and_eq_true, beq_iff_eq, List.all_eq_true, decide_eq_true_eq] at h
  obtain ⟨⟨h1, h2⟩, h3⟩ := h
  refine ⟨fun i hi => by have := h1 i hi; omega, ?_, by omega⟩
  match l with
  | [] => exact .nil
  | [a] => simp
  | [a, b] => have : a < b := by simpa using h2
              simp [this]
  | [a, b, c] =>
    have h4 : a < b ∧ b < c := by simpa using h2
    obtain ⟨h4, h5⟩ := h4
    simp [h4, h5, Nat.lt_trans h4 h5]
  | a :: b :: c :: d :: l => simp only [List.length_cons] at h3; omega
theorem qeb {n : Nat} {l : List Nat} (h : q5K n l = true) : ∀ i ∈ l, i < 6 := by
  unfold q5K at h
  simp only [Bool.and_eq_true, beq_iff_eq, List.all_eq_true, decide_eq_true_eq] at h
  exact h.1.1
theorem qcr (d : qc) (many : Int) : ([] :: six).all (fun l => [0, 1, 2, 3, 4, 5].all fun k => decide (itT (Z6 20 d (sd l) many) 20 ((k : Nat) : Int) = some ((fk l k : Nat) : Int)) && decide (Jv 20 (sd l) (cod (fk l k)) = some (sd (qeW (fk l k) l)))) = true := by kernel_rfl
theorem q8o (d : qc) (many : Int) : ([0, 1, 2, 3, 4, 5].all fun k => decide (itT (ZB 20 d many) 20 ((k : Nat) : Int) = some ((k : Nat) : Int)) && decide (Jv 20 [] (cod k) = some (sd [k]))) = true := by kernel_rfl
theorem q9d {k : Nat} (h : k < 6) : (0 : Int) ≤ ((k : Nat) : Int) ∧ ((k : Nat) : Int) < ((qs.length : Nat) : Int) ∧ qs[Int.toNat ((k : Nat) : Int)]? = some (cod k) := by
  have e : qs.length = 6 := rfl
  refine ⟨by omega, by omega, ?_⟩
  rw [Int.toNat_natCast, cod, List.getD_eq_getElem?_getD, List.getElem?_eq_getElem (by omega)]
  rfl
theorem q9g {l : List Nat} {n : Nat} (h : q5K n l = true) (hn : n ≤ 2) {k : Nat} (hk : k < 6) (d : qc) (many : Int) : qT (zI d (sd l) many) ((k : Nat) : Int) = some ((fk l k : Nat) : Int) ∧ fk l k < 6 ∧ Qb (sd l) (cod (fk l k)) = some (sd (qeW (fk l k) l)) ∧ q5K (n + 1) (qeW (fk l k) l) = true := by
  have h1 := List.all_eq_true.1 (List.all_eq_true.1 (qcr d many) l (q8y h hn)) k (lt6 hk)
  have h2 := List.all_eq_true.1 (List.all_eq_true.1 q7X l (q8y h hn)) k (lt6 hk)
  rw [Bool.and_eq_true, decide_eq_true_eq, decide_eq_true_eq] at h1
  rw [Bool.and_eq_true, decide_eq_true_eq, q2s h] at h2
  exact ⟨Ql.lim (q0j 20 d (sd l) many) _ h1.1, h2.2, q0s 20 _ _ _ h1.2, h2.1⟩
theorem qg3 {many : Int} (hm : many ≤ 3) : ∀ (j : Nat) (l : List Nat) (d : qc), q5K l.length l = true → ((l.length + j : Nat) : Int) = many → J9 d → ∃ l' d', qT (zr many) (d, sd l) = some (d', sd l') ∧ q5K many.toNat l' = true ∧ J9 d'
  | 0, l, d, h, hj, hd => by
    refine ⟨l, d, zV ?_, by rw [← hj]; exact h, hd⟩
    unfold zr
    dsimp only
    rw [if_neg (by unfold sd; rw [List.length_map]; omega)]
  | j + 1, l, d, h, hj, hd => by
    obtain ⟨v, d1, e1, v0, v1, hd1⟩ := QI hd (most := 6) (by decide) (by decide)
    obtain ⟨k, rfl⟩ : ∃ k : Nat, v = k := ⟨v.toNat, by omega⟩
    obtain ⟨s1, s2, s3, s4⟩ := q9g h (by omega) (show k < 6 by omega) d1 many
    obtain ⟨c1, c2, c3⟩ := q9d s2
    have hl := q2s s4
    obtain ⟨l', d', r1, r2, r3⟩ := qg3 hm j (qeW (fk l k) l) d1 (by rw [hl]; exact s4) (by rw [hl]; omega) hd1
    refine ⟨l', d', ?_, r2, r3⟩
    rw [zU (y := (d1, sd (qeW (fk l k) l))) ?_, r1]
    unfold zr
    dsimp only
    rw [if_pos (by unfold sd; rw [List.length_map]; omega), e1, Option.bind_some]
    simp only
    rw [s1, Option.bind_some, if_pos ⟨c1, c2⟩, c3, Option.bind_some, s3, Option.bind_some]
theorem q9D {d : qc} (hd : J9 d) : ∃ l d', Q8 d = some (sd l, d') ∧ Ix l ∧ 1 ≤ l.length ∧ (∀ i ∈ l, i < 6) ∧ J9 d' := by
  obtain ⟨v, d1, e1, v0, v1, hd1⟩ := QI hd (most := 6) (by decide) (by decide)
  obtain ⟨m, hm, hm1, hm3⟩ : ∃ m : Int, [(1 : Int), (1 : Int), (1 : Int), (2 : Int), (2 : Int), (3 : Int)][Int.toNat v]? = some m ∧ 1 ≤ m ∧ m ≤ 3 := by
    have : v = 0 ∨ v = 1 ∨ v = 2 ∨ v = 3 ∨ v = 4 ∨ v = 5 := by omega
    rcases this with rfl | rfl | rfl | rfl | rfl | rfl <;> exact ⟨_, rfl, by decide, by decide⟩
  obtain ⟨w, d2, e2, w0, w1, hd2⟩ := QI hd1 (most := 6) (by decide) (by decide)
  obtain ⟨k, rfl⟩ : ∃ k : Nat, w = k := ⟨w.toNat, by omega⟩
  have hk : k < 6 := by omega
  have h1 := List.all_eq_true.1 (q8o d2 m) k (lt6 hk)
  rw [Bool.and_eq_true, decide_eq_true_eq, decide_eq_true_eq] at h1
  have s1 : qT (Q3 d2 m) ((k : Nat) : Int) = some ((k : Nat) : Int) := Ql.lim (q19 20 d2 m) _ h1.1
  have s3 : Qb [] (cod k) = some (sd [k]) := q0s 20 _ _ _ h1.2
  obtain ⟨c1, c2, c3⟩ := q9d hk
  have ok1 : q5K 1 [k] = true := by unfold q5K; simp [hk]
  obtain ⟨l', d', r1, r2, r3⟩ := qg3 hm3 (m.toNat - 1) [k] d2 ok1 (by simp only [List.length_singleton]; omega) hd2
  have hl := q2s r2
  refine ⟨l', d', ?_, qeC r2 (by omega), by omega, qeb r2, r3⟩
  unfold Q8
  rw [e1, Option.bind_some]
  simp only
  rw [if_pos ⟨v0, v1⟩, hm, Option.bind_some]
  unfold Qu
  rw [if_pos (by omega), e2, Option.bind_some]
  simp only
  rw [s1, Option.bind_some, if_pos ⟨c1, c2⟩, c3, Option.bind_some, s3, Option.bind_some, r1, Option.bind_some, Option.bind_some, Sum.elim_inl]
end Go.Proofs.Ytplfjlcnffcenaa.Vc
namespace Go.Proofs.Ytplfjlcnffcenaa.Vc
open Go.RowKit
set_option linter.unusedVariables false
set_option linter.unusedSimpArgs false
structure q0o (a : qb) : Prop where
  id : 1 ≤ a.Id
  fr : 1 ≤ a.From ∧ a.From ≤ 3
  to : 1 ≤ a.To ∧ a.To ≤ 3
  be : 0 ≤ a.Begin ∧ a.Begin ≤ 100000
  en : a.End = 0 ∨ (a.Begin ≤ a.End ∧ a.End ≤ 100000)
  inn : ∃ l, Ix l ∧ 1 ≤ l.length ∧ a.In = sd l
  out : ∃ l, Ix l ∧ 1 ≤ l.length ∧ a.Out.map (·.Code) = sd l
  cr : ∀ g ∈ a.Out, 1 ≤ g.Credits ∧ g.Credits ≤ 60
  ci : a.From = a.To → ∀ g ∈ a.Out, ∀ c ∈ a.In, (g.Code.toList == c.toList) = false
  cv : qm a.Conv = 0
theorem qc0 : ([0, 1, 2, 3, 4, 5, 6].all fun i => decide (Jn 30 (cod i) = some true)) = true := by kernel_rfl
theorem qaV : ([0, 1, 2, 3, 4, 5, 6].all fun i => [0, 1, 2, 3, 4, 5, 6].all fun j => !decide (i < j) || Go.Op.bytesLess (cod i).toList (cod j).toList) = true := by kernel_rfl
theorem lt7 {a : Nat} (h : a < 7) : a ∈ [0, 1, 2, 3, 4, 5, 6] := by
  have : a = 0 ∨ a = 1 ∨ a = 2 ∨ a = 3 ∨ a = 4 ∨ a = 5 ∨ a = 6 := by omega
  rcases this with rfl | rfl | rfl | rfl | rfl | rfl | rfl <;> decide
theorem qe8 {i : Nat} (h : i < 7) : Qt (cod i) = some true := q2a 30 _ _ (of_decide_eq_true (List.all_eq_true.1 qc0 i (lt7 h)))
theorem qfF {i j : Nat} (hi : i < 7) (hj : j < 7) (h : i < j) : Go.Op.bytesLess (cod i).toList (cod j).toList = true := by
  have := List.all_eq_true.1 (List.all_eq_true.1 qaV i (lt7 hi)) j (lt7 hj)
  rw [decide_eq_true h] at this
  simpa using this
theorem JX {n lo hi : Int} (h : lo ≤ n ∧ n ≤ hi) : qy n lo hi = false := by
  unfold qy
  rw [if_neg (by omega)]
  exact decide_eq_false (by omega)
theorem q7w {n : Int} (h : 0 ≤ n ∧ n ≤ 100000) : zY n = true := by
  unfold zY
  rw [if_pos h.1]
  exact decide_eq_true h.2
theorem q6Y (w1 : List (List ByteArray)) (b0 : qb) (t53 t54 : Int) {l : List Nat} (h : Ix l) : qT (zH w1 b0 (sd l) t53 t54 (sd l) (((sd l).length : Nat) : Int)) (0 : Int) = some (.inr ()) := by
  have hlen : (sd l).length = l.length := by unfold sd; rw [List.length_map]
  have hl3 := h.len
  refine Zf (fun i => (i : Int)) 0 (sd l).length (Nat.zero_le _) (fun i _ hi => ?_) ?_
  · have hil : i < l.length := by omega
    have e1 : (sd l)[i]? = some (cod l[i]) := by unfold sd; rw [List.getElem?_map, List.getElem?_eq_getElem hil]; rfl
    have hw : w64 ((i : Int) + 1) = ((i + 1 : Nat) : Int) := zi (n := 100) (by omega) (by omega)
    unfold zH
    rw [if_pos (by omega), if_pos ⟨by omega, by omega⟩, Int.toNat_natCast, e1, Option.bind_some, qe8 (h.lt _ (List.getElem_mem hil)), Option.bind_some, if_neg (by decide), hw]
    by_cases h0 : i = 0
    · rw [if_neg (by omega)]
    · have hw2 : w64 ((i : Int) - 1) = ((i - 1 : Nat) : Int) := by rw [zJ (by omega) (by omega)]; omega
      have e2 : (sd l)[i - 1]? = some (cod l[i - 1]) := by unfold sd; rw [List.getElem?_map, List.getElem?_eq_getElem (by omega)]; rfl
      have hlt : l[i - 1] < l[i] := List.pairwise_iff_getElem.1 h.up (i - 1) i (by omega) hil (by omega)
      rw [if_pos (by omega), hw2, if_pos ⟨by omega, by omega⟩, Int.toNat_natCast, e2, Option.bind_some, qfF (h.lt _ (List.getElem_mem _)) (h.lt _ (List.getElem_mem hil)) hlt, if_neg (by decide)]
  · unfold zH
    rw [if_neg (by omega)]
theorem q61 (l : List qi) (h : l.length ≤ 1000) : Qc l = some (l.map (·.Code)) := by
  have key : ∀ (r : List qi) (i : Nat) (out : List ByteArray), r.length + i = l.length → (∀ j, r[j]? = l[i + j]?) → out.length ≤ i → qT (zA l ((l.length : Nat) : Int)) (out, (i : Int)) = some (out ++ r.map (·.Code)) := by
    intro r
    induction r with
    | nil =>
      intro i out hi _ _
      refine zV ?_
      unfold zA
      dsimp only
      rw [if_neg (by simp at hi; omega), List.map_nil, List.append_nil]
    | cons a r ih =>
      intro i out hi hr ho
      simp only [List.length_cons] at hi
      have ha : l[i]? = some a := by have := hr 0; simpa using this.symm
      have hw : w64 ((i : Int) + 1) = ((i + 1 : Nat) : Int) := zi (n := 10000) (by omega) (by omega)
      have hm : (1000000 : Nat) ≤ Go.maxLen := by decide
      rw [zU (y := (out ++ [a.Code], ((i + 1 : Nat) : Int))) ?_, ih (i + 1) _ (by omega) (fun j => ?_) (by rw [List.length_append, List.length_singleton]; omega), List.map_cons, List.append_assoc, List.singleton_append]
      · have := hr (j + 1)
        rw [show i + 1 + j = i + (j + 1) by omega, ← this]; rfl
      · unfold zA
        dsimp only
        rw [if_pos (by omega), if_pos ⟨by omega, by omega⟩, Int.toNat_natCast, ha, Option.bind_some, if_pos ⟨by omega, by omega⟩, hw]
  have := key l 0 [] (by simp) (by simp) (Nat.le_refl _)
  unfold Qc
  change Option.bind (qT _ ([], ((0 : Nat) : Int))) _ = _
  rw [this, Option.bind_some, List.nil_append]
theorem qik {l : List qi} (hl : l.length ≤ 1000) (h : ∀ g ∈ l, 1 ≤ g.Credits ∧ g.Credits ≤ 60) : qn l = some false := by
  have h1 := Zf (step := qr l (l.length : Int)) (e := .inr ()) (fun i => (i : Int)) 0 l.length (Nat.zero_le _) (fun i _ hi => by
      have e1 : l[i]? = some l[i] := List.getElem?_eq_getElem hi
      have hw : w64 ((i : Int) + 1) = ((i + 1 : Nat) : Int) := zi (n := 10000) (by omega) (by omega)
      unfold qr
      rw [if_pos (by omega), if_pos ⟨by omega, by omega⟩, Int.toNat_natCast, e1, Option.bind_some, Q4, JX (h _ (List.getElem_mem hi)), if_neg (by decide), hw]) (by
      unfold qr
      rw [if_neg (by omega)])
  unfold qn qJ
  change Option.bind (Option.bind (qT _ ((0 : Nat) : Int)) _) _ = _
  rw [h1]
  rfl
theorem qgh {l : List ByteArray} (hl : l.length ≤ 1000) {v : ByteArray} (h : ∀ c ∈ l, (v.toList == c.toList) = false) : qH l v = some false := by
  have h1 := Zf (step := qw l v (l.length : Int)) (e := .inr ()) (fun i => (i : Int)) 0 l.length (Nat.zero_le _) (fun i _ hi => by
      have e1 : l[i]? = some l[i] := List.getElem?_eq_getElem hi
      have hw : w64 ((i : Int) + 1) = ((i + 1 : Nat) : Int) := zi (n := 10000) (by omega) (by omega)
      unfold qw
      rw [if_pos (by omega), if_pos ⟨by omega, by omega⟩, Int.toNat_natCast, e1, Option.bind_some, h _ (List.getElem_mem hi), if_neg (by decide), hw]) (by
      unfold qw
      rw [if_neg (by omega)])
  unfold qH zl
  change Option.bind (Option.bind (qT _ ((0 : Nat) : Int)) _) _ = _
  rw [h1]
  rfl
theorem q8l {l : List qi} (hl : l.length ≤ 1000) {a : qb} (ha : a.In.length ≤ 1000) (h : ∀ g ∈ l, ∀ c ∈ a.In, (g.Code.toList == c.toList) = false) : ql l a = some false := by
  have h1 := Zf (step := qq a l (l.length : Int)) (e := .inr ()) (fun i => (i : Int)) 0 l.length (Nat.zero_le _) (fun i _ hi => by
      have e1 : l[i]? = some l[i] := List.getElem?_eq_getElem hi
      have hw : w64 ((i : Int) + 1) = ((i + 1 : Nat) : Int) := zi (n := 10000) (by omega) (by omega)
      unfold qq
      rw [if_pos (by omega), if_pos ⟨by omega, by omega⟩, Int.toNat_natCast, e1, Option.bind_some, QT, qgh ha (h _ (List.getElem_mem hi)), Option.bind_some, Option.bind_some, if_neg (by decide), hw]) (by
      unfold qq
      rw [if_neg (by omega)])
  unfold ql qC
  change Option.bind (Option.bind (qT _ ((0 : Nat) : Int)) _) _ = _
  rw [h1]
  rfl
theorem qja (b0 : qb) {l m : List Nat} (hl : Ix l) (hm : Ix m) : qT (qG [sd l, sd m] b0 (2 : Int)) (0 : Int) = some (.inr ()) := by
  have h := Zf (step := qG [sd l, sd m] b0 (2 : Int)) (e := .inr ()) (fun i => (i : Int)) 0 2 (by omega) (fun i _ hi => by
      have hw : w64 ((i : Int) + 1) = ((i + 1 : Nat) : Int) := zi (n := 10000) (by omega) (by omega)
      unfold qG
      rw [if_pos (by omega), if_pos ⟨by omega, by simp only [List.length_cons, List.length_nil]; omega⟩, Int.toNat_natCast]
      have : i = 0 ∨ i = 1 := by omega
      rcases this with rfl | rfl
      · rw [List.getElem?_cons_zero, Option.bind_some, q6Y _ _ _ _ hl, Option.bind_some, Sum.elim_inr, hw]
      · rw [List.getElem?_cons_succ, List.getElem?_cons_zero, Option.bind_some, q6Y _ _ _ _ hm, Option.bind_some, Sum.elim_inr, hw]) (by
      unfold qG
      rw [if_neg (by omega)])
  exact h
theorem qbS {a : qb} (h : q0o a) : QU a = some 0 := by
  obtain ⟨l, hl, hl1, hI⟩ := h.inn
  obtain ⟨m, hm, hm1, hO⟩ := h.out
  have hIl : a.In.length = l.length := by rw [hI]; unfold sd; rw [List.length_map]
  have hOl : a.Out.length = m.length := by have := congrArg List.length hO; unfold sd at this; simpa using this
  have e1 := hl.len
  have e2 := hm.len
  have hid := h.id
  have hfr := h.fr
  have hto := h.to
  have tail : Option.bind (Qc a.Out) (fun (x : List ByteArray) => Option.bind (qT (qG [a.In, x] a (2 : Int)) (0 : Int)) fun (a2 : Sum Int Unit) =>
    Sum.elim (fun (a3 : Int) => some a3) (fun (a4 : Unit) => Option.bind (qn a.Out) fun (a5 : Bool) =>
      if a5 = Bool.true then some (3 : Int)
      else if (a.From == a.To) = Bool.true then Option.bind (ql a.Out a) fun (a6 : Bool) =>
        if a6 = Bool.true then some (14 : Int)
        else some (qm a.Conv)
      else some (qm a.Conv)) a2) = some 0 := by
    rw [q61 _ (by omega), Option.bind_some, hO]
    have h2 : qT (qG [a.In, sd m] a (2 : Int)) (0 : Int) = some (.inr ()) := by rw [hI]; exact qja a hl hm
    rw [h2, Option.bind_some, Sum.elim_inr, qik (by omega) h.cr, Option.bind_some, if_neg (by decide), h.cv]
    by_cases hft : a.From = a.To
    · rw [if_pos (by rw [beq_iff_eq]; exact hft), q8l (by omega) (by omega) (h.ci hft), Option.bind_some, if_neg (by decide)]
    · rw [if_neg (by rw [beq_iff_eq]; exact hft)]
  unfold QU
  rw [if_neg (by omega), JX (n := a.From) (by omega), if_neg (by decide), JX (n := a.To) (by omega), if_neg (by decide), q7w h.be, if_neg (by decide), JX (n := ((a.In.length : Nat) : Int)) (by omega), JX (n := ((a.Out.length : Nat) : Int)) (by omega)]
  by_cases hE : a.End = 0
  · rw [if_neg (by rw [hE]; decide), if_neg (by decide), if_neg (by decide)]
    exact tail
  · have hen := h.en.resolve_left hE
    have hbe := h.be
    rw [if_pos (by simpa using hE), q7w ⟨by omega, hen.2⟩, if_neg (by decide), if_neg (by omega), if_neg (by decide), if_neg (by decide)]
    exact tail
end Go.Proofs.Ytplfjlcnffcenaa.Vc
namespace Go.Proofs.Ytplfjlcnffcenaa.Vc
open Go.RowKit
set_option linter.unusedVariables false
set_option linter.unusedSimpArgs false
theorem qcF {l : List ByteArray} (hl : l.length ≤ 1000) (v : ByteArray) : zN l v = some (l.any fun c => c.toList == v.toList) := by
  have h1 := qaj (step := zZ l v) l (fun i => (i : Int)) (fun c => if (c.toList == v.toList) = true then some (Sum.inl ()) else none) (Sum.inr ()) (fun i a ha => by
      have hi := q2Y ha
      have hw : w64 ((i : Int) + 1) = ((i + 1 : Nat) : Int) := zi (n := 10000) (by omega) (by omega)
      unfold zZ
      rw [if_pos (by omega), if_pos ⟨by omega, by omega⟩, Int.toNat_natCast, ha, Option.bind_some, hw]
      by_cases h : (a.toList == v.toList) = true
      · rw [if_pos h, if_pos h]
      · rw [if_neg h, if_neg h]) (by
      unfold zZ
      rw [if_neg (by omega)])
  unfold zN
  change Option.bind (qT _ ((0 : Nat) : Int)) _ = _
  rw [h1, Option.bind_some]
  have : ∀ l : List ByteArray, Sum.elim (fun (_ : Unit) => some true) (fun (_ : Unit) => some false) ((l.findSome? fun c => if (c.toList == v.toList) = true then some (Sum.inl ()) else none).getD (Sum.inr ())) = some (l.any fun c => c.toList == v.toList) := by
    intro l
    induction l with
    | nil => rfl
    | cons c l ih =>
      rw [List.findSome?_cons, List.any_cons]
      by_cases h : (c.toList == v.toList) = true
      · rw [if_pos h, h]; rfl
      · rw [if_neg h]
        have h' : (c.toList == v.toList) = false := by simpa using h
        rw [h', Bool.false_or]
        exact ih
  exact this l
def q3v (F T0 : Int) (I : List ByteArray) (c : ByteArray) : Bool := (F != T0) || !(I.any fun x => x.toList == c.toList)
theorem qfj {v : Int} (h0 : 0 ≤ v) (h1 : v < 4) : ∃ m, [(5 : Int), (6 : Int), (10 : Int), (3 : Int)][Int.toNat v]? = some m ∧ 1 ≤ m ∧ m ≤ 60 := by
  have : v = 0 ∨ v = 1 ∨ v = 2 ∨ v = 3 := by omega
  rcases this with rfl | rfl | rfl | rfl <;> exact ⟨_, rfl, by decide, by decide⟩
theorem q5N (z1 z2 z3 z4 z5 z6 z7 z8 z9 x1 F T0 B0 E0 : Int) (I : List ByteArray) (hI : I.length ≤ 1000) (y1 y2 y3 y4 : Int) (L : List ByteArray) (hL : L.length ≤ 1000) :
    ∀ (r : List ByteArray) (i : Nat) (w : List qi) (d : qc), r.length + i = L.length → (∀ j, r[j]? = L[i + j]?) → w.length ≤ i → J9 d →
    ∃ w' d', qT (qz z1 z2 z3 z4 z5 z6 z7 z8 z9 x1 F T0 B0 E0 I y1 y2 y3 y4 L) (w, d, (i : Int)) = some (w ++ w', d') ∧ J9 d' ∧ w'.map (·.Code) = r.filter (q3v F T0 I) ∧ ∀ g ∈ w', 1 ≤ g.Credits ∧ g.Credits ≤ 60
  | [], i, w, d, hi, _, _, hd => by
    refine ⟨[], d, zV ?_, hd, rfl, fun g h => by simp at h⟩
    unfold qz
    dsimp only
    rw [if_neg (by simp at hi; omega), List.append_nil]
  | c :: r, i, w, d, hi, hr, hw, hd => by
    simp only [List.length_cons] at hi
    have ha : L[i]? = some c := by have := hr 0; simpa using this.symm
    have hws : w64 ((i : Int) + 1) = ((i + 1 : Nat) : Int) := zi (n := 10000) (by omega) (by omega)
    have hm : (1000000 : Nat) ≤ Go.maxLen := by decide
    have hr' : ∀ j, r[j]? = L[i + 1 + j]? := fun j => by
      have := hr (j + 1)
      rw [show i + 1 + j = i + (j + 1) by omega, ← this]; rfl
    obtain ⟨v, d1, e1, v0, v1, hd1⟩ := QI hd (most := 4) (by decide) (by decide)
    obtain ⟨m, hm1, hm2, hm3⟩ := qfj v0 v1
    by_cases hk : q3v F T0 I c = true
    · obtain ⟨w', d', q1, q2, q3, q4⟩ := q5N z1 z2 z3 z4 z5 z6 z7 z8 z9 x1 F T0 B0 E0 I hI y1 y2 y3 y4 L hL r (i + 1) (w ++ [⟨c, m⟩]) d1 (by omega) hr' (by rw [List.length_append, List.length_singleton]; omega) hd1
      refine ⟨⟨c, m⟩ :: w', d', ?_, q2, by rw [List.map_cons, List.filter_cons, if_pos hk, q3], fun g hg => ?_⟩
      · rw [zU (y := (w ++ [⟨c, m⟩], d1, ((i + 1 : Nat) : Int))) ?_, q1, List.append_assoc, List.singleton_append]
        unfold qz
        dsimp only
        rw [if_pos (by omega)]
        by_cases hF : (F != T0) = true
        · rw [if_pos hF, if_pos ⟨by omega, by omega⟩, Int.toNat_natCast, ha, Option.bind_some, e1, Option.bind_some]
          dsimp only
          rw [if_pos ⟨v0, v1⟩, hm1, Option.bind_some, if_pos ⟨by omega, by omega⟩, hws]
        · have hany : (I.any fun x => x.toList == c.toList) = false := by
            unfold q3v at hk
            rw [Bool.eq_false_iff.2 hF, Bool.false_or] at hk
            simpa using hk
          rw [if_neg hF, if_pos ⟨by omega, by omega⟩, Int.toNat_natCast, ha, Option.bind_some, qcF hI, Option.bind_some, hany, if_pos (by decide), if_pos ⟨by omega, by omega⟩, Option.bind_some, e1, Option.bind_some]
          dsimp only
          rw [if_pos ⟨v0, v1⟩, hm1, Option.bind_some, if_pos ⟨by omega, by omega⟩, hws]
      · rcases List.mem_cons.1 hg with rfl | hg
        · exact ⟨hm2, hm3⟩
        · exact q4 g hg
    · obtain ⟨w', d', q1, q2, q3, q4⟩ := q5N z1 z2 z3 z4 z5 z6 z7 z8 z9 x1 F T0 B0 E0 I hI y1 y2 y3 y4 L hL r (i + 1) w d (by omega) hr' (by omega) hd
      refine ⟨w', d', ?_, q2, by rw [List.filter_cons, if_neg hk, q3], q4⟩
      rw [zU (y := (w, d, ((i + 1 : Nat) : Int))) ?_, q1]
      unfold q3v at hk
      rw [Bool.not_eq_true, Bool.or_eq_false_iff] at hk
      have hany : (I.any fun x => x.toList == c.toList) = true := by simpa using hk.2
      unfold qz
      dsimp only
      rw [if_pos (by omega), if_neg (by rw [hk.1]; decide), if_pos ⟨by omega, by omega⟩, Int.toNat_natCast, ha, Option.bind_some, qcF hI, Option.bind_some, hany, if_neg (by decide), hws]
theorem qaW : ([(0 : Int), 1, 2].all fun f => [(0 : Int), 1, 2].all fun t => [(0 : Int), 1, 2, 3].all fun r => decide (qm (qK (w64 (1 + f)) (w64 (1 + t)) (w64 (1 + r))) = 0)) = true := by kernel_rfl
theorem qej {f t r : Int} (f0 : 0 ≤ f) (f1 : f < 3) (t0 : 0 ≤ t) (t1 : t < 3) (r0 : 0 ≤ r) (r1 : r < 4) : qm (qK (w64 (1 + f)) (w64 (1 + t)) (w64 (1 + r))) = 0 := by
  have m3 : ∀ {x : Int}, 0 ≤ x → x < 3 → x ∈ [(0 : Int), 1, 2] := fun {x} a b => by
    have : x = 0 ∨ x = 1 ∨ x = 2 := by omega
    rcases this with rfl | rfl | rfl <;> decide
  have m4 : r ∈ [(0 : Int), 1, 2, 3] := by
    have : r = 0 ∨ r = 1 ∨ r = 2 ∨ r = 3 := by omega
    rcases this with rfl | rfl | rfl | rfl <;> decide
  exact of_decide_eq_true (List.all_eq_true.1 (List.all_eq_true.1 (List.all_eq_true.1 qaW f (m3 f0 f1)) t (m3 t0 t1)) r m4)
theorem qge : ([0, 1, 2, 3, 4, 5].all fun i => !((cod 6).toList == (cod i).toList)) = true := by kernel_rfl
theorem qhF {id F T0 B0 E0 : Int} {li lo : List Nat} {w : List qi} {cv : qh} (hid : 1 ≤ id) (hF : 1 ≤ F ∧ F ≤ 3) (hT : 1 ≤ T0 ∧ T0 ≤ 3) (hB : 0 ≤ B0 ∧ B0 ≤ 100000) (hE : E0 = 0 ∨ (B0 ≤ E0 ∧ E0 ≤ 100000)) (hli : Ix li) (hl1 : 1 ≤ li.length) (hl6 : ∀ i ∈ li, i < 6)
    (hlo : Ix lo) (hw : w.map (·.Code) = (sd lo).filter (q3v F T0 (sd li))) (hcr : ∀ g ∈ w, 1 ≤ g.Credits ∧ g.Credits ≤ 60) (hcv : qm cv = 0) :
    q0o ⟨id, F, T0, B0, E0, sd li, if ((w.length : Int) == 0) = true then [⟨ByteArray.mk (List.toArray [90, 57]), 5⟩] else w, cv⟩ := by
  have hfl : (sd lo).filter (q3v F T0 (sd li)) = sd (lo.filter fun i => q3v F T0 (sd li) (cod i)) := by
    unfold sd; rw [List.filter_map]; rfl
  refine ⟨hid, hF, hT, hB, hE, ⟨li, hli, hl1, rfl⟩, ?_, ?_, ?_, hcv⟩
  · show ∃ l, Ix l ∧ 1 ≤ l.length ∧ (if ((w.length : Int) == 0) = true then [qi.mk (ByteArray.mk (List.toArray [90, 57])) 5] else w).map (·.Code) = sd l
    by_cases h0 : ((w.length : Int) == 0) = true
    · rw [if_pos h0]
      exact ⟨[6], ⟨fun i hi => by simp at hi; omega, by simp, by simp⟩, Nat.le_refl _, rfl⟩
    · rw [if_neg h0]
      refine ⟨_, hlo.filter _, ?_, hw.trans hfl⟩
      have : w.length = (lo.filter fun i => q3v F T0 (sd li) (cod i)).length := by
        have := congrArg List.length (hw.trans hfl)
        rw [List.length_map] at this
        rw [this]
        unfold sd
        rw [List.length_map]
      rw [← this]
      have : (w.length : Int) ≠ 0 := by simpa using h0
      omega
  · show ∀ g ∈ (if ((w.length : Int) == 0) = true then [qi.mk (ByteArray.mk (List.toArray [90, 57])) 5] else w), 1 ≤ g.Credits ∧ g.Credits ≤ 60
    split
    · intro g hg
      simp only [List.mem_singleton] at hg
      subst hg
      exact ⟨by decide, by decide⟩
    · exact hcr
  · show F = T0 → ∀ g ∈ (if ((w.length : Int) == 0) = true then [qi.mk (ByteArray.mk (List.toArray [90, 57])) 5] else w), ∀ c ∈ sd li, (g.Code.toList == c.toList) = false
    intro hFT
    split
    · intro g hg c hc
      simp only [List.mem_singleton] at hg
      subst hg
      obtain ⟨i, hi, rfl⟩ := List.mem_map.1 hc
      have := List.all_eq_true.1 qge i (lt6 (hl6 i hi))
      rw [Bool.not_eq_true'] at this
      exact this
    · intro g hg c hc
      have hm : g.Code ∈ (sd lo).filter (q3v F T0 (sd li)) := by rw [← hw]; exact List.mem_map.2 ⟨g, hg, rfl⟩
      have hk := (List.mem_filter.1 hm).2
      unfold q3v at hk
      rw [hFT, show (T0 != T0) = false by simp, Bool.false_or, Bool.not_eq_true'] at hk
      have := List.any_eq_false.1 hk c hc
      have h2 : (c.toList == g.Code.toList) = false := by simpa using this
      rw [beq_eq_false_iff_ne] at h2 ⊢
      exact fun e => h2 e.symm
theorem q8K {id : Int} (hid : 1 ≤ id) {d : qc} (hd : J9 d) : ∃ a d', QF id d = some (a, d') ∧ q0o a ∧ a.Id = id := by
  obtain ⟨f, d1, e1, f0, f1, hd1⟩ := QI hd (most := 3) (by decide) (by decide)
  obtain ⟨t, d2, e2, t0, t1, hd2⟩ := QI hd1 (most := 3) (by decide) (by decide)
  obtain ⟨b, d3, e3, b0, b1, hd3⟩ := QI hd2 (most := 5) (by decide) (by decide)
  obtain ⟨B0, hB, hB0, hB1⟩ : ∃ m : Int, [(0 : Int), (0 : Int), (0 : Int), (50 : Int), (200 : Int)][Int.toNat b]? = some m ∧ 0 ≤ m ∧ m ≤ 200 := by
    have : b = 0 ∨ b = 1 ∨ b = 2 ∨ b = 3 ∨ b = 4 := by omega
    rcases this with rfl | rfl | rfl | rfl | rfl <;> exact ⟨_, rfl, by decide, by decide⟩
  obtain ⟨li, d4, e4, hli, hl1, hl6, hd4⟩ := q9D hd3
  obtain ⟨q, d5, e5, q0, q1, hd5⟩ := QI hd4 (most := 4) (by decide) (by decide)
  have hwf : w64 (1 + f) = 1 + f := zJ (by omega) (by omega)
  have hwt : w64 (1 + t) = 1 + t := zJ (by omega) (by omega)
  have hlen : (sd li).length ≤ 1000 := by unfold sd; rw [List.length_map]; have := hli.len; omega
  have fin : ∀ (E0 : Int) (d6 : qc), J9 d6 → (E0 = 0 ∨ (B0 ≤ E0 ∧ E0 ≤ 100000)) → ∃ a d', (Option.bind (Q8 d6) fun (a12 : Prod (List ByteArray) qc) =>
      Option.bind (qT (qz (0 : Int) (0 : Int) (0 : Int) (0 : Int) (0 : Int) (0 : Int) (0 : Int) (0 : Int) (0 : Int) id (w64 ((1 : Int) + f)) (w64 ((1 : Int) + t)) B0 E0 (sd li) (0 : Int) (0 : Int) (0 : Int) (0 : Int) a12.1) ([], (a12.2, (0 : Int)))) fun (a13 : Prod (List qi) qc) =>
      if (((a13.1.length : Nat) : Int) == (0 : Int)) = Bool.true then Option.bind (qj (4 : Int) a13.2) fun (a14 : Prod Int qc) =>
        some (qb.mk id (w64 ((1 : Int) + f)) (w64 ((1 : Int) + t)) B0 E0 (sd li) [qi.mk (ByteArray.mk (List.toArray [90, 57])) (5 : Int)] (qK (w64 ((1 : Int) + f)) (w64 ((1 : Int) + t)) (w64 ((1 : Int) + a14.1))), a14.2)
      else Option.bind (qj (4 : Int) a13.2) fun (a15 : Prod Int qc) =>
      some (qb.mk id (w64 ((1 : Int) + f)) (w64 ((1 : Int) + t)) B0 E0 (sd li) a13.1 (qK (w64 ((1 : Int) + f)) (w64 ((1 : Int) + t)) (w64 ((1 : Int) + a15.1))), a15.2)) = some (a, d') ∧ q0o a ∧ a.Id = id := by
    intro E0 d6 hd6 hE
    obtain ⟨lo, d7, e7, hlo, -, -, hd7⟩ := q9D hd6
    have hlo3 : (sd lo).length ≤ 1000 := by unfold sd; rw [List.length_map]; have := hlo.len; omega
    obtain ⟨w, d8, e8, hd8, hw, hcr⟩ := q5N 0 0 0 0 0 0 0 0 0 id (w64 (1 + f)) (w64 (1 + t)) B0 E0 (sd li) hlen 0 0 0 0 (sd lo) hlo3 (sd lo) 0 [] d7 (by simp) (by simp) (Nat.le_refl _) hd7
    obtain ⟨r, d9, e9, r0, r1, hd9⟩ := QI hd8 (most := 4) (by decide) (by decide)
    have hok := qhF (E0 := E0) (w := w) hid (F := w64 (1 + f)) (T0 := w64 (1 + t)) (by rw [hwf]; omega) (by rw [hwt]; omega) (B0 := B0) (by omega) hE hli hl1 hl6 hlo hw hcr (qej f0 f1 t0 t1 r0 r1)
    rw [e7, Option.bind_some]
    dsimp only
    rw [List.nil_append] at e8
    have e8' : qT (qz (0 : Int) (0 : Int) (0 : Int) (0 : Int) (0 : Int) (0 : Int) (0 : Int) (0 : Int) (0 : Int) id (w64 ((1 : Int) + f)) (w64 ((1 : Int) + t)) B0 E0 (sd li) (0 : Int) (0 : Int) (0 : Int) (0 : Int) (sd lo)) ([], (d7, (0 : Int))) = some (w, d8) := e8
    rw [e8', Option.bind_some]
    dsimp only
    rw [e9]
    simp only [Option.bind_some]
    by_cases h0 : ((w.length : Int) == 0) = true
    · rw [if_pos h0] at hok ⊢
      exact ⟨_, _, rfl, hok, rfl⟩
    · rw [if_neg h0] at hok ⊢
      exact ⟨_, _, rfl, hok, rfl⟩
  unfold QF
  rw [e1, Option.bind_some]
  dsimp only
  rw [e2, Option.bind_some]
  dsimp only
  rw [e3, Option.bind_some]
  dsimp only
  rw [if_pos ⟨b0, b1⟩, hB, Option.bind_some, e4, Option.bind_some]
  dsimp only
  rw [e5, Option.bind_some]
  dsimp only
  by_cases hq : (q == 0) = true
  · obtain ⟨e, d6, e6, g0, g1, hd6⟩ := QI hd5 (most := 400) (by decide) (by decide)
    rw [if_pos hq, e6, Option.bind_some]
    have hwe : w64 (B0 + e) = B0 + e := zJ (by omega) (by omega)
    exact fin (w64 (B0 + e)) d6 hd6 (by rw [hwe]; omega)
  · rw [if_neg hq]
    exact fin 0 d5 hd5 (.inl rfl)
structure q9W (M : List qb) : Prop where
  len : M.length ≤ 4
  ok : ∀ (i : Nat) (a : qb), M[i]? = some a → q0o a ∧ a.Id = 3 + 2 * (i : Int)
theorem qfE (l : List (List Int)) (hl : l.length ≤ 9223372036854775807) (hx : ∀ x ∈ l, x.length ≤ 9223372036854775807) : ∃ M, Zm l = some M ∧ q9W M := by
  have key : ∀ (j i : Nat) (out : List qb), j + i = min l.length 4 → out.length = i → (∀ (k : Nat) (a : qb), out[k]? = some a → q0o a ∧ a.Id = 3 + 2 * (k : Int)) → ∃ M, qT (zM l) (out, (i : Int)) = some M ∧ q9W M := by
    intro j
    induction j with
    | zero =>
      intro i out hi ho hk
      refine ⟨out, zV ?_, by omega, hk⟩
      unfold zM
      dsimp only
      by_cases h : (i : Int) < ((l.length : Nat) : Int)
      · rw [if_pos h, if_neg (by omega)]
      · rw [if_neg h]
    | succ j ih =>
      intro i out hi ho hk
      have hil : i < l.length := by omega
      have hws : w64 ((i : Int) + 1) = ((i + 1 : Nat) : Int) := zi (n := 10000) (by omega) (by omega)
      have hw2 : w64 (2 * (i : Int)) = 2 * (i : Int) := zJ (by omega) (by omega)
      have hw3 : w64 (3 + 2 * (i : Int)) = 3 + 2 * (i : Int) := zJ (by omega) (by omega)
      have hm : (1000000 : Nat) ≤ Go.maxLen := by decide
      obtain ⟨a, d', e1, e2, e3⟩ := q8K (id := 3 + 2 * (i : Int)) (by omega) (d := ⟨l[i], 0⟩) ⟨Int.le_refl _, by show (0 : Int) ≤ _; omega, hx _ (List.getElem_mem hil)⟩
      obtain ⟨M, q1, q2⟩ := ih (i + 1) (out ++ [a]) (by omega) (by rw [List.length_append, List.length_singleton, ho]) (fun k b hb => by
        rcases Nat.lt_or_ge k out.length with h | h
        · rw [List.getElem?_append_left h] at hb; exact hk k b hb
        · rw [List.getElem?_append_right h] at hb
          have hk0 : k - out.length = 0 := by
            have := (List.getElem?_eq_some_iff.1 hb).1
            simp at this; omega
          rw [hk0] at hb
          simp only [List.getElem?_cons_zero, Option.some.injEq] at hb
          subst hb
          have : k = i := by omega
          subst this
          exact ⟨e2, e3⟩)
      refine ⟨M, ?_, q2⟩
      rw [zU (y := (out ++ [a], ((i + 1 : Nat) : Int))) ?_, q1]
      unfold zM
      dsimp only
      rw [if_pos (by omega), if_pos (by omega), if_pos ⟨by omega, by omega⟩, Int.toNat_natCast, List.getElem?_eq_getElem hil, Option.bind_some, hw2, hw3, e1, Option.bind_some, if_pos ⟨by omega, by omega⟩, hws]
  obtain ⟨M, h1, h2⟩ := key (min l.length 4) 0 [] (by omega) rfl (fun k a h => by simp at h)
  refine ⟨M, ?_, h2⟩
  unfold Zm
  change Option.bind (qT _ ([], ((0 : Nat) : Int))) _ = _
  rw [h1, Option.bind_some]
end Go.Proofs.Ytplfjlcnffcenaa.Vc
namespace Go.Proofs.Ytplfjlcnffcenaa.Vc
open Go.RowKit
set_option linter.unusedVariables false
set_option linter.unusedSimpArgs false
structure Ach (F : Int) (P : List Int) (k : Nat) (c : ByteArray) (y : qa) : Prop where
  cs : y.Course = ⟨F, c⟩
  cr : 1 ≤ y.Credits ∧ y.Credits ≤ 60
  gr : 0 ≤ y.Grade ∧ y.Grade ≤ 100
  dy : 0 ≤ y.Day ∧ y.Day < 600
  src : y.Sources = [1000000 * F + 1 + k] ∨ y.Sources = [1000000 * F + 1 + k, 8000001 + 10 * k]
  bu : y.Bundle = 0
  pa : y.Path = P
structure Zq (a : qb) (P : List Int) (x : List qa) : Prop where
  len : x.length = a.In.length
  ok : ∀ (k : Nat) (y : qa), x[k]? = some y → ∃ c, a.In[k]? = some c ∧ Ach a.From P k c y
theorem q23 {a : qb} (h : q0o a) : 1 ≤ a.In.length ∧ a.In.length ≤ 3 := by
  obtain ⟨l, hl, hl1, hI⟩ := h.inn
  have : a.In.length = l.length := by rw [hI]; unfold sd; rw [List.length_map]
  have := hl.len
  omega
theorem qY {a : qb} (h : q0o a) : 1 ≤ a.Out.length ∧ a.Out.length ≤ 3 := by
  obtain ⟨m, hm, hm1, hO⟩ := h.out
  have : a.Out.length = m.length := by have := congrArg List.length hO; unfold sd at this; simpa using this
  have := hm.len
  omega
theorem qb8 {v : Int} (h0 : 0 ≤ v) (h1 : v < 3) : ∃ m, [(5 : Int), (6 : Int), (10 : Int)][Int.toNat v]? = some m ∧ 1 ≤ m ∧ m ≤ 60 := by
  have : v = 0 ∨ v = 1 ∨ v = 2 := by omega
  rcases this with rfl | rfl | rfl <;> exact ⟨_, rfl, by decide, by decide⟩
theorem q6e {a : qb} (h : q0o a) {P : List Int} (hP : P.length ≤ 2) {i : Nat} (hi : i < a.In.length) {w : List qa} (hw : w.length = i) {d : qc} (hd : J9 d) :
    ∃ y d' c, zh a P (w, d, (i : Int)) = some (.inl (w ++ [y], d', ((i + 1 : Nat) : Int))) ∧ J9 d' ∧ a.In[i]? = some c ∧ Ach a.From P i c y := by
  have hF := h.fr
  have hl := q23 h
  have hm : (1000000 : Nat) ≤ Go.maxLen := by decide
  have hws : w64 ((i : Int) + 1) = ((i + 1 : Nat) : Int) := zi (n := 10000) (by omega) (by omega)
  have hs1 : w64 (w64 (w64 ((1000000 : Int) * a.From) + (1 : Int)) + (i : Int)) = 1000000 * a.From + 1 + (i : Int) := by
    rw [zJ (n := (1000000 : Int) * a.From) (by omega) (by omega), zJ (n := (1000000 : Int) * a.From + 1) (by omega) (by omega), zJ (by omega) (by omega)]
  have hs2 : w64 ((8000001 : Int) + w64 ((10 : Int) * (i : Int))) = 8000001 + 10 * (i : Int) := by
    rw [zJ (n := (10 : Int) * (i : Int)) (by omega) (by omega), zJ (by omega) (by omega)]
  have ha : a.In[i]? = some a.In[i] := List.getElem?_eq_getElem hi
  obtain ⟨v, d1, e1, v0, v1, hd1⟩ := QI hd (most := 3) (by decide) (by decide)
  obtain ⟨m, hm1, hm2, hm3⟩ := qb8 v0 v1
  obtain ⟨g, d2, e2, g0, g1, hd2⟩ := QI hd1 (most := 21) (by decide) (by decide)
  obtain ⟨q, d3, e3, q0, q1, hd3⟩ := QI hd2 (most := 600) (by decide) (by decide)
  obtain ⟨z, d4, e4, z0, z1, hd4⟩ := QI hd3 (most := 3) (by decide) (by decide)
  have hg : w64 ((5 : Int) * g) = 5 * g := zJ (by omega) (by omega)
  have hg2 : w64 (Int.tdiv (w64 ((5 : Int) * g)) (5 : Int)) = g := by
    rw [hg, Int.mul_tdiv_cancel_left _ (by decide)]; exact zJ (by omega) (by omega)
  have ht0 := Int.tmod_nonneg 5 g0
  have ht1 := Int.tmod_lt_of_pos g (show (0 : Int) < 5 by decide)
  have hg3 : w64 ((1 : Int) + Int.tmod g (5 : Int)) = 1 + Int.tmod g 5 := zJ (by omega) (by omega)
  unfold zh
  dsimp only
  rw [if_pos (by omega), if_pos ⟨by omega, by omega⟩, Int.toNat_natCast, ha, Option.bind_some, e1, Option.bind_some]
  dsimp only
  rw [if_pos ⟨v0, v1⟩, hm1, Option.bind_some, e2, Option.bind_some]
  dsimp only
  rw [e3, Option.bind_some]
  dsimp only
  rw [e4]
  simp only [Option.bind_some]
  rw [hg2, hg3, hg]
  by_cases h2 : (a.From == (2 : Int)) = true
  · rw [if_pos h2]
    have hG : 0 ≤ 1 + Int.tmod g 5 ∧ 1 + Int.tmod g 5 ≤ 100 := ⟨by omega, by omega⟩
    by_cases hz : (z == (0 : Int)) = true
    · rw [if_pos hz, if_pos (by omega), if_pos ⟨by omega, by omega⟩, if_pos ⟨by omega, by omega⟩, hs1, hs2, hws]
      exact ⟨_, _, _, rfl, hd4, rfl, rfl, ⟨hm2, hm3⟩, hG, ⟨q0, q1⟩, .inr rfl, rfl, rfl⟩
    · rw [if_neg hz, if_pos ⟨by omega, by omega⟩, if_pos ⟨by omega, by omega⟩, hs1, hws]
      exact ⟨_, _, _, rfl, hd4, rfl, rfl, ⟨hm2, hm3⟩, hG, ⟨q0, q1⟩, .inl rfl, rfl, rfl⟩
  · rw [if_neg h2]
    by_cases h3 : (a.From == (3 : Int)) = true
    · rw [if_pos h3]
      have hG : 0 ≤ g ∧ g ≤ 100 := ⟨by omega, by omega⟩
      by_cases hz : (z == (0 : Int)) = true
      · rw [if_pos hz, if_pos (by omega), if_pos ⟨by omega, by omega⟩, if_pos ⟨by omega, by omega⟩, hs1, hs2, hws]
        exact ⟨_, _, _, rfl, hd4, rfl, rfl, ⟨hm2, hm3⟩, hG, ⟨q0, q1⟩, .inr rfl, rfl, rfl⟩
      · rw [if_neg hz, if_pos ⟨by omega, by omega⟩, if_pos ⟨by omega, by omega⟩, hs1, hws]
        exact ⟨_, _, _, rfl, hd4, rfl, rfl, ⟨hm2, hm3⟩, hG, ⟨q0, q1⟩, .inl rfl, rfl, rfl⟩
    · rw [if_neg h3]
      have hG : 0 ≤ 5 * g ∧ 5 * g ≤ 100 := ⟨by omega, by omega⟩
      by_cases hz : (z == (0 : Int)) = true
      · rw [if_pos hz, if_pos (by omega), if_pos ⟨by omega, by omega⟩, if_pos ⟨by omega, by omega⟩, hs1, hs2, hws]
        exact ⟨_, _, _, rfl, hd4, rfl, rfl, ⟨hm2, hm3⟩, hG, ⟨q0, q1⟩, .inr rfl, rfl, rfl⟩
      · rw [if_neg hz, if_pos ⟨by omega, by omega⟩, if_pos ⟨by omega, by omega⟩, hs1, hws]
        exact ⟨_, _, _, rfl, hd4, rfl, rfl, ⟨hm2, hm3⟩, hG, ⟨q0, q1⟩, .inl rfl, rfl, rfl⟩
theorem qbA {a : qb} (h : q0o a) (l : List Int) (hl : l.length ≤ 9223372036854775807) : ∃ P x, QV a l = some x ∧ P.length ≤ 2 ∧ Zq a P x := by
  obtain ⟨v, d1, e1, v0, v1, hd1⟩ := QI (d := ⟨l, 0⟩) ⟨Int.le_refl _, by show (0 : Int) ≤ _; omega, hl⟩ (most := 3) (by decide) (by decide)
  obtain ⟨P, hP, hP2⟩ : ∃ P : List Int, [[], [(20 : Int)], [(20 : Int), (31 : Int)]][Int.toNat v]? = some P ∧ P.length ≤ 2 := by
    have : v = 0 ∨ v = 1 ∨ v = 2 := by omega
    rcases this with rfl | rfl | rfl <;> exact ⟨_, rfl, by decide⟩
  have hlen := q23 h
  have key : ∀ (j i : Nat) (w : List qa) (d : qc), j + i = a.In.length → w.length = i → J9 d → (∀ (k : Nat) (y : qa), w[k]? = some y → ∃ c, a.In[k]? = some c ∧ Ach a.From P k c y) → ∃ x, qT (zh a P) (w, d, (i : Int)) = some x ∧ Zq a P x := by
    intro j
    induction j with
    | zero =>
      intro i w d hi hw hd hk
      refine ⟨w, zV ?_, by omega, hk⟩
      unfold zh
      dsimp only
      rw [if_neg (by omega)]
    | succ j ih =>
      intro i w d hi hw hd hk
      obtain ⟨y, d', c, r1, r2, r3, r4⟩ := q6e h hP2 (i := i) (by omega) hw hd
      obtain ⟨x, q1, q2⟩ := ih (i + 1) (w ++ [y]) d' (by omega) (by rw [List.length_append, List.length_singleton, hw]) r2 (fun k b hb => by
        rcases Nat.lt_or_ge k w.length with hkl | hkl
        · rw [List.getElem?_append_left hkl] at hb; exact hk k b hb
        · rw [List.getElem?_append_right hkl] at hb
          have hk0 : k - w.length = 0 := by
            have := (List.getElem?_eq_some_iff.1 hb).1
            simp at this; omega
          rw [hk0] at hb
          simp only [List.getElem?_cons_zero, Option.some.injEq] at hb
          subst hb
          have : k = i := by omega
          subst this
          exact ⟨c, r3, r4⟩)
      exact ⟨x, by rw [zU r1, q1], q2⟩
  obtain ⟨x, h1, h2⟩ := key a.In.length 0 [] d1 (by omega) rfl hd1 (fun k b hb => by simp at hb)
  refine ⟨P, x, ?_, hP2, h2⟩
  unfold QV
  rw [e1, Option.bind_some]
  dsimp only
  rw [if_pos ⟨v0, v1⟩, hP, Option.bind_some]
  change Option.bind (qT _ ([], (d1, ((0 : Nat) : Int)))) _ = _
  rw [h1, Option.bind_some]
end Go.Proofs.Ytplfjlcnffcenaa.Vc
namespace Go.Proofs.Ytplfjlcnffcenaa.Vc
open Go.RowKit
set_option linter.unusedVariables false
set_option linter.unusedSimpArgs false
theorem q0X {α β : Type} {step : List β × Int → Option ((List β × Int) ⊕ List β)} (l : List α) (f : α → β)
    (h : ∀ (i : Nat) (a : α) (out : List β), l[i]? = some a → out.length = i → step (out, (i : Int)) = some (.inl (out ++ [f a], ((i + 1 : Nat) : Int))))
    (hn : ∀ out : List β, step (out, (l.length : Int)) = some (.inr out)) : qT step ([], ((0 : Nat) : Int)) = some (l.map f) := by
  have key : ∀ (r : List α) (i : Nat) (out : List β), r.length + i = l.length → (∀ j, r[j]? = l[i + j]?) → out.length = i → qT step (out, (i : Int)) = some (out ++ r.map f) := by
    intro r
    induction r with
    | nil =>
      intro i out hi _ _
      have hi : i = l.length := by simpa using hi
      subst hi
      rw [zV (hn out), List.map_nil, List.append_nil]
    | cons a r ih =>
      intro i out hi hr ho
      have ha : l[i]? = some a := by have := hr 0; simpa using this.symm
      simp only [List.length_cons] at hi
      rw [zU (h i a out ha ho), ih (i + 1) _ (by omega) (fun j => ?_) (by rw [List.length_append, List.length_singleton, ho]), List.map_cons, List.append_assoc, List.singleton_append]
      have := hr (j + 1)
      rw [show i + 1 + j = i + (j + 1) by omega, ← this]; rfl
  have := key l 0 [] (by simp) (by simp) rfl
  rw [this, List.nil_append]
theorem q3N {l : List qa} (hl : l.length ≤ 1000) : zz l = some (l.map (·.Sources)) := by
  have h := q0X (step := qW l ((l.length : Nat) : Int)) l (·.Sources) (fun i a out ha ho => by
    have hi := q2Y ha
    have hw : w64 ((i : Int) + 1) = ((i + 1 : Nat) : Int) := zi (n := 10000) (by omega) (by omega)
    have hm : (1000000 : Nat) ≤ Go.maxLen := by decide
    unfold qW
    dsimp only
    rw [if_pos (by omega), if_pos ⟨by omega, by omega⟩, Int.toNat_natCast, ha, Option.bind_some, if_pos ⟨by omega, by omega⟩, hw]
    rfl) (fun out => by
    unfold qW
    dsimp only
    rw [if_neg (by omega)])
  unfold zz
  change Option.bind (qT _ ([], ((0 : Nat) : Int))) _ = _
  rw [h, Option.bind_some]
theorem q7R {l : List qa} (hl : l.length ≤ 1000) : zB l = some (l.map (·.Day)) := by
  have h := q0X (step := qM l ((l.length : Nat) : Int)) l (·.Day) (fun i a out ha ho => by
    have hi := q2Y ha
    have hw : w64 ((i : Int) + 1) = ((i + 1 : Nat) : Int) := zi (n := 10000) (by omega) (by omega)
    have hm : (1000000 : Nat) ≤ Go.maxLen := by decide
    unfold qM
    dsimp only
    rw [if_pos (by omega), if_pos ⟨by omega, by omega⟩, Int.toNat_natCast, ha, Option.bind_some, if_pos ⟨by omega, by omega⟩, hw]
    rfl) (fun out => by
    unfold qM
    dsimp only
    rw [if_neg (by omega)])
  unfold zB
  change Option.bind (qT _ ([], ((0 : Nat) : Int))) _ = _
  rw [h, Option.bind_some]
theorem q5i {l : List qa} (hl : l.length ≤ 1000) : zC l = some (l.map (·.Grade)) := by
  have h := q0X (step := qO l ((l.length : Nat) : Int)) l (·.Grade) (fun i a out ha ho => by
    have hi := q2Y ha
    have hw : w64 ((i : Int) + 1) = ((i + 1 : Nat) : Int) := zi (n := 10000) (by omega) (by omega)
    have hm : (1000000 : Nat) ≤ Go.maxLen := by decide
    unfold qO
    dsimp only
    rw [if_pos (by omega), if_pos ⟨by omega, by omega⟩, Int.toNat_natCast, ha, Option.bind_some, if_pos ⟨by omega, by omega⟩, hw]
    rfl) (fun out => by
    unfold qO
    dsimp only
    rw [if_neg (by omega)])
  unfold zC
  change Option.bind (qT _ ([], ((0 : Nat) : Int))) _ = _
  rw [h, Option.bind_some]
theorem q5H {l : List qa} (hl : l.length ≤ 1000) : zE l = some (l.map (·.Credits)) := by
  have h := q0X (step := qN l ((l.length : Nat) : Int)) l (·.Credits) (fun i a out ha ho => by
    have hi := q2Y ha
    have hw : w64 ((i : Int) + 1) = ((i + 1 : Nat) : Int) := zi (n := 10000) (by omega) (by omega)
    have hm : (1000000 : Nat) ≤ Go.maxLen := by decide
    unfold qN
    dsimp only
    rw [if_pos (by omega), if_pos ⟨by omega, by omega⟩, Int.toNat_natCast, ha, Option.bind_some, if_pos ⟨by omega, by omega⟩, hw]
    rfl) (fun out => by
    unfold qN
    dsimp only
    rw [if_neg (by omega)])
  unfold zE
  change Option.bind (qT _ ([], ((0 : Nat) : Int))) _ = _
  rw [h, Option.bind_some]
theorem q5s {κ ν : Type} [DecidableEq κ] (z : ν) (k : κ) (v : ν) (b : κ) : ∀ M : List (κ × ν), q3X z (q44 M k v) b = if b = k then v else q3X z M b
  | [] => by simp only [q44, q3X]
  | p :: M => by
    unfold q44
    by_cases hp : k = p.1
    · rw [if_pos hp]
      simp only [q3X]
      by_cases hb : b = k
      · rw [if_pos hb, if_pos hb]
      · rw [if_neg hb, if_neg hb, if_neg (fun q => hb (q.trans hp.symm))]
    · rw [if_neg hp]
      simp only [q3X, q5s z k v b M]
      by_cases hb : b = p.1
      · rw [if_pos hb, if_neg (fun q => hp (q.symm.trans hb)), if_pos hb]
      · rw [if_neg hb, if_neg hb]
theorem q8E (m2 : List (Int × Bool)) (t13 : List (List Int)) (t14 t15 : Int) (L : List Int) (hL : L.length ≤ 1000) :
    ∀ (r : List Int) (i : Nat) (out : List Int) (m0 : List (Int × Bool)), r.length + i = L.length → (∀ j, r[j]? = L[i + j]?) → out.length ≤ 1000 + i → (∀ a, q3X false m0 a = decide (a ∈ out)) → (∀ a ∈ r, q3X false m2 a = false) → (out ++ r).Nodup →
      ∃ m', qT (zS m2 t13 t14 t15 L ((L.length : Nat) : Int)) (out, (m0, (true, (i : Int)))) = some (out ++ r, m', true) ∧ ∀ a, q3X false m' a = decide (a ∈ out ++ r)
  | [], i, out, m0, hi, _, _, h0, _, _ => by
    refine ⟨m0, zV ?_, by rw [List.append_nil]; exact h0⟩
    unfold zS
    dsimp only
    rw [if_neg (by simp at hi; omega), List.append_nil]
  | a :: r, i, out, m0, hi, hr, ho, h0, h2, hn => by
    simp only [List.length_cons] at hi
    have ha : L[i]? = some a := by have := hr 0; simpa using this.symm
    have hw : w64 ((i : Int) + 1) = ((i + 1 : Nat) : Int) := zi (n := 10000) (by omega) (by omega)
    have hm : (1000000 : Nat) ≤ Go.maxLen := by decide
    have hna : a ∉ out := fun q => ((List.nodup_append.1 hn).2.2 a q a List.mem_cons_self) rfl
    have e : out ++ a :: r = out ++ [a] ++ r := by rw [List.append_assoc, List.singleton_append]
    obtain ⟨m', q1, q2⟩ := q8E m2 t13 t14 t15 L hL r (i + 1) (out ++ [a]) (q44 m0 a true) (by omega) (fun j => by
      have := hr (j + 1)
      rw [show i + 1 + j = i + (j + 1) by omega, ← this]; rfl) (by rw [List.length_append, List.length_singleton]; omega) (fun b => by
      rw [q5s, h0 b]
      by_cases hb : b = a
      · rw [if_pos hb]; exact (decide_eq_true (by rw [hb]; simp)).symm
      · rw [if_neg hb]
        congr 1
        simp [hb]) (fun b hb => h2 b (List.mem_cons_of_mem _ hb)) (by rw [← e]; exact hn)
    refine ⟨m', ?_, by rw [e]; exact q2⟩
    rw [zU (y := (out ++ [a], (q44 m0 a true, (true, ((i + 1 : Nat) : Int))))) ?_, q1, e]
    unfold zS
    dsimp only
    rw [if_pos (by omega), if_pos ⟨by omega, by omega⟩, Int.toNat_natCast, ha, Option.bind_some, h2 a List.mem_cons_self, if_neg (by decide), h0 a, decide_eq_false hna, if_pos (by decide), if_pos ⟨by omega, by omega⟩, hw]
theorem q8D (LL : List (List Int)) (hLL : LL.length ≤ 10) (hS : ∀ x ∈ LL, x.length ≤ 2) :
    ∀ (r : List (List Int)) (i : Nat) (out : List Int) (m0 : List (Int × Bool)), r.length + i = LL.length → (∀ j, r[j]? = LL[i + j]?) → out.length ≤ 2 * i → (∀ a, q3X false m0 a = decide (a ∈ out)) → (out ++ r.flatten).Nodup →
      qT (zL LL ((LL.length : Nat) : Int)) (out, (m0, (true, (i : Int)))) = some (out ++ r.flatten, true)
  | [], i, out, m0, hi, _, _, h0, _ => by
    refine zV ?_
    unfold zL
    dsimp only
    rw [if_neg (by simp at hi; omega), List.flatten_nil, List.append_nil]
  | a :: r, i, out, m0, hi, hr, ho, h0, hn => by
    simp only [List.length_cons] at hi
    have ha : LL[i]? = some a := by have := hr 0; simpa using this.symm
    have hw : w64 ((i : Int) + 1) = ((i + 1 : Nat) : Int) := zi (n := 10000) (by omega) (by omega)
    have hal : a.length ≤ 2 := hS a (List.mem_of_getElem? ha)
    rw [List.flatten_cons, ← List.append_assoc] at hn
    obtain ⟨h3, h4, h5⟩ := List.nodup_append.1 hn
    have h6 := (List.nodup_append.1 h3).2.2
    obtain ⟨m', q1, q2⟩ := q8E m0 LL ((LL.length : Nat) : Int) (i : Int) a (by omega) a 0 out m0 (by simp) (by simp) (by omega) h0 (fun b hb => by
      rw [h0 b]; exact decide_eq_false (fun q => h6 b q b hb rfl)) h3
    have := q8D LL hLL hS r (i + 1) (out ++ a) m' (by omega) (fun j => by
      have := hr (j + 1)
      rw [show i + 1 + j = i + (j + 1) by omega, ← this]; rfl) (by rw [List.length_append]; omega) q2 hn
    rw [zU (y := (out ++ a, (m', (true, ((i + 1 : Nat) : Int))))) ?_, this, List.flatten_cons, List.append_assoc]
    unfold zL
    dsimp only
    rw [if_pos (by omega), if_pos ⟨by omega, by omega⟩, Int.toNat_natCast, ha, Option.bind_some]
    have q1' : qT (zS m0 LL ((LL.length : Nat) : Int) (i : Int) a ((a.length : Nat) : Int)) (out, (m0, (true, (0 : Int)))) = some (out ++ a, m', true) := q1
    rw [q1', Option.bind_some, hw]
theorem q8A {LL : List (List Int)} (hLL : LL.length ≤ 10) (hS : ∀ x ∈ LL, x.length ≤ 2) (hn : LL.flatten.Nodup) : QN LL = some (true, LL.flatten) := by
  have h := q8D LL hLL hS LL 0 [] [] (by simp) (by simp) (by simp) (fun a => by simp [q3X]) (by simpa using hn)
  unfold QN
  change Option.bind (qT _ ([], ([], (true, ((0 : Nat) : Int))))) _ = _
  rw [h, Option.bind_some, List.nil_append]
theorem q2I {a : qb} (ha : q0o a) {P : List Int} {x : List qa} (h : Zq a P x) : (x.map (·.Sources)).flatten.Nodup := by
  have hF := ha.fr
  have hl := q23 ha
  have hx := h.len
  unfold List.Nodup
  rw [List.pairwise_flatten]
  constructor
  · intro s hs
    obtain ⟨y, hy, rfl⟩ := List.mem_map.1 hs
    obtain ⟨k, hk, hk2⟩ := List.getElem_of_mem hy
    obtain ⟨c, -, q⟩ := h.ok k y (by rw [List.getElem?_eq_getElem hk, hk2])
    rcases q.src with e | e
    · rw [e]; simp
    · rw [e]
      simp only [List.pairwise_cons, List.mem_singleton, forall_eq, List.not_mem_nil, false_imp_iff, implies_true, List.Pairwise.nil, and_true]
      omega
  · rw [List.pairwise_map, List.pairwise_iff_getElem]
    intro i j hi hj hij u hu v hv
    obtain ⟨c, -, q⟩ := h.ok i x[i] (List.getElem?_eq_getElem hi)
    obtain ⟨c2, -, q2⟩ := h.ok j x[j] (List.getElem?_eq_getElem hj)
    rcases q.src with e | e <;> rcases q2.src with e2 | e2 <;> rw [e] at hu <;> rw [e2] at hv <;> simp only [List.mem_cons, List.not_mem_nil, or_false] at hu hv <;> omega
theorem q4E {a : qb} {P : List Int} {x : List qa} (h : Zq a P x) : ∀ s ∈ x.map (·.Sources), s.length ≤ 2 := by
  intro s hs
  obtain ⟨y, hy, rfl⟩ := List.mem_map.1 hs
  obtain ⟨k, hk, hk2⟩ := List.getElem_of_mem hy
  obtain ⟨c, -, q⟩ := h.ok k y (by rw [List.getElem?_eq_getElem hk, hk2])
  rcases q.src with e | e <;> rw [e] <;> simp
theorem q8e {l : List Int} (hl : l.length ≤ 1000) : zq l l = some true := by
  have h1 : qT (qB l l ((l.length : Nat) : Int)) ((0 : Nat) : Int) = some (.inr ()) := by
    refine Zf (step := qB l l ((l.length : Nat) : Int)) (e := .inr ()) (fun i => (i : Int)) 0 l.length (Nat.zero_le _) (fun i _ hi => ?_) ?_
    · have hw : w64 ((i : Int) + 1) = ((i + 1 : Nat) : Int) := zi (n := 10000) (by omega) (by omega)
      unfold qB
      rw [if_pos (by omega), if_pos ⟨by omega, by omega⟩, Int.toNat_natCast, List.getElem?_eq_getElem hi, Option.bind_some, if_pos ⟨by omega, by omega⟩, Option.bind_some, if_neg (by simp), hw]
    · unfold qB
      rw [if_neg (by omega)]
  unfold zq
  rw [if_neg (by simp)]
  change Option.bind (qT _ ((0 : Nat) : Int)) _ = _
  rw [h1]
  rfl
def Qa (x : List qa) : Int := (x.map (·.Day)).foldl max 0
theorem q9I {x : List qa} (h0 : 1 ≤ x.length) (h1 : x.length ≤ 1000) (hd : ∀ y ∈ x, 0 ≤ y.Day) : QM x = some (Qa x) := by
  obtain ⟨y, r, rfl⟩ : ∃ y r, x = y :: r := by cases x with | nil => simp at h0 | cons y r => exact ⟨y, r, rfl⟩
  have hm : (1000000 : Nat) ≤ Go.maxLen := by decide
  have hr : r.length ≤ 999 := by simp only [List.length_cons] at h1; omega
  have hy := hd y List.mem_cons_self
  have hl : (y.Day :: r.map (·.Day)).length = r.length + 1 := by simp
  have h2 := q7D (step := qQ (y.Day :: r.map (·.Day))) (r.map (·.Day)) (fun b i => (b, ((i + 1 : Nat) : Int))) max (fun b => b) (fun b i a ha => by
    have hi := q2Y ha
    rw [List.length_map] at hi
    have hw : w64 (((i + 1 : Nat) : Int) + 1) = ((i + 1 + 1 : Nat) : Int) := zi (n := 10000) (by omega) (by omega)
    unfold qQ
    dsimp only
    rw [hl, if_pos (by omega), if_pos ⟨by omega, by omega⟩, Int.toNat_natCast, List.getElem?_cons_succ, ha, Option.bind_some, hw]) (fun b => by
    unfold qQ
    dsimp only
    rw [hl, if_neg (by rw [List.length_map]; omega)]) y.Day
  have h3 : qT (qQ (y.Day :: r.map (·.Day))) (y.Day, (1 : Int)) = some ((r.map (·.Day)).foldl max y.Day) := h2
  unfold QM Q1
  rw [q7R h1, Option.bind_some, List.map_cons, if_neg (by rw [hl]; omega), if_pos (by rw [hl]; omega), List.getElem?_cons_zero, Option.bind_some, h3, Option.bind_some, Option.bind_some]
  unfold Qa
  rw [List.map_cons, List.foldl_cons, show max 0 y.Day = y.Day by omega]
theorem q89 {a : qb} (ha : q0o a) {P : List Int} (hP : P.length ≤ 2) {x : List qa} (h : Zq a P x) : Qq a x = some (zg a (Qa x)) := by
  have hl := q23 ha
  have hx := h.len
  have h1 : qT (zn a x x ((x.length : Nat) : Int)) ((0 : Nat) : Int) = some (.inr ()) := by
    refine Zf (step := zn a x x ((x.length : Nat) : Int)) (e := .inr ()) (fun i => (i : Int)) 0 x.length (Nat.zero_le _) (fun i _ hi => ?_) ?_
    · have hw : w64 ((i : Int) + 1) = ((i + 1 : Nat) : Int) := zi (n := 10000) (by omega) (by omega)
      have e1 : x[i]? = some x[i] := List.getElem?_eq_getElem hi
      have e0 : x[0]? = some x[0] := List.getElem?_eq_getElem (by omega)
      obtain ⟨c, hc, q⟩ := h.ok i _ e1
      obtain ⟨c0, hc0, q0⟩ := h.ok 0 _ e0
      unfold zn
      rw [if_pos (by omega), if_pos ⟨by omega, by omega⟩, Int.toNat_natCast, e1, Option.bind_some, if_pos ⟨by omega, by omega⟩, hc, Option.bind_some, if_neg (by rw [q.cs]; simp), if_pos (by omega), e0, Option.bind_some, q.pa, q0.pa, q8e (by omega), Option.bind_some, if_neg (by decide), hw]
    · unfold zn
      rw [if_neg (by omega)]
  unfold Qq
  rw [qbS ha, Option.bind_some, if_neg (by decide), if_neg (by rw [hx]; simp)]
  change Option.bind (qT _ ((0 : Nat) : Int)) _ = _
  rw [h1, Option.bind_some, Sum.elim_inr, q3N (by omega), Option.bind_some, q8A (by rw [List.length_map]; omega) (q4E h) (q2I ha h), Option.bind_some]
  dsimp only
  rw [if_pos rfl, q9I (by omega) (by omega) (fun y hy => by
    obtain ⟨k, hk, hk2⟩ := List.getElem_of_mem hy
    obtain ⟨c, -, q⟩ := h.ok k y (by rw [List.getElem?_eq_getElem hk, hk2])
    exact q.dy.1), Option.bind_some]
end Go.Proofs.Ytplfjlcnffcenaa.Vc
namespace Go.Proofs.Ytplfjlcnffcenaa.Vc
open Go.RowKit
set_option linter.unusedVariables false
set_option linter.unusedSimpArgs false
theorem q0h {n lo hi : Int} (h : lo ≤ n ∧ n ≤ hi) : qe n lo hi = n := by
  unfold qe
  omega
theorem q9e {n : Int} (h0 : 0 ≤ n) (h1 : n ≤ 9223372036854775807) : IntKind.wrap .u64 n = n := by
  simp only [IntKind.wrap, IntKind.bits, IntKind.signed]
  simp
  omega
theorem qe7 {c : qh} (h : qm c = 0) : (1 ≤ c.Den ∧ c.Den ≤ 1000) ∧ (1 ≤ c.Round ∧ c.Round ≤ 4) := by
  unfold qm at h
  by_cases h1 : (qe c.Den (1 : Int) (1000 : Int) != c.Den) = true
  · rw [if_pos h1] at h; exact absurd h (by decide)
  rw [if_neg h1] at h
  by_cases h2 : (qe c.Num (-(1000 : Int)) (1000 : Int) != c.Num) = true
  · rw [if_pos h2] at h; exact absurd h (by decide)
  rw [if_neg h2] at h
  by_cases h3 : (qe c.Add (-(1000 : Int)) (1000 : Int) != c.Add) = true
  · rw [if_pos h3] at h; exact absurd h (by decide)
  rw [if_neg h3] at h
  by_cases h4 : (qe c.Round (1 : Int) (4 : Int) != c.Round) = true
  · rw [if_pos h4] at h; exact absurd h (by decide)
  have e1 : qe c.Den 1 1000 = c.Den := by simpa using h1
  have e4 : qe c.Round 1 4 = c.Round := by simpa using h4
  unfold qe at e1 e4
  omega
theorem q3M (b0 : qX) {gs cs : List Int} (hlen : cs.length = gs.length) (hl : gs.length ≤ 10) (hg : ∀ g ∈ gs, 0 ≤ g ∧ g ≤ 100) (hc : ∀ c ∈ cs, 1 ≤ c ∧ c ≤ 60) :
    ∀ (j i : Nat) (sum all : Int), j + i = gs.length → (0 ≤ sum ∧ sum ≤ 6000 * (i : Int)) → ((i : Int) ≤ all ∧ all ≤ 60 * (i : Int)) →
      ∃ S A, qT (Q2 b0 cs gs ((gs.length : Nat) : Int)) (sum, (all, (i : Int))) = some (.inr (S, A)) ∧ (0 ≤ S ∧ S ≤ 60000) ∧ ((gs.length : Int) ≤ A ∧ A ≤ 600)
  | 0, i, sum, all, hi, hs, ha => by
    refine ⟨sum, all, zV ?_, by omega, by omega⟩
    unfold Q2
    dsimp only
    rw [if_neg (by omega)]
  | j + 1, i, sum, all, hi, hs, ha => by
    have hi1 : i < gs.length := by omega
    have e1 : gs[i]? = some gs[i] := List.getElem?_eq_getElem hi1
    have e2 : cs[i]? = some cs[i] := List.getElem?_eq_getElem (by omega)
    obtain ⟨g0, g1⟩ := hg _ (List.getElem_mem hi1)
    obtain ⟨c0, c1⟩ := hc cs[i] (List.getElem_mem (by omega))
    have hw : w64 ((i : Int) + 1) = ((i + 1 : Nat) : Int) := zi (n := 10000) (by omega) (by omega)
    have p0 : 0 ≤ gs[i] * cs[i] := Int.mul_nonneg g0 (by omega)
    have p1 : gs[i] * cs[i] ≤ 100 * 60 := Int.mul_le_mul g1 c1 (by omega) (by omega)
    have m1 : qF gs[i] cs[i] sum all = (true, sum + gs[i] * cs[i], all + cs[i]) := by
      unfold qF
      rw [q0h (n := gs[i]) (by omega), if_pos (by simp), q0h (n := cs[i]) ⟨c0, c1⟩]
      generalize gs[i] * cs[i] = p at p0 p1
      rw [zJ (n := p) (by omega) (by omega), zJ (n := sum + p) (by omega) (by omega), zJ (n := all + cs[i]) (by omega) (by omega)]
      simp
    generalize gs[i] * cs[i] = p at p0 p1 m1
    obtain ⟨S, A, q1, q2, q3⟩ := q3M b0 hlen hl hg hc j (i + 1) (sum + p) (all + cs[i]) (by omega) (by omega) (by omega)
    refine ⟨S, A, ?_, q2, q3⟩
    rw [zU (y := (sum + p, (all + cs[i], ((i + 1 : Nat) : Int)))) ?_, q1]
    unfold Q2
    dsimp only
    rw [if_pos (by omega), if_pos ⟨by omega, by omega⟩, Int.toNat_natCast, e1, Option.bind_some, if_pos ⟨by omega, by omega⟩, e2, Option.bind_some, m1, if_neg (by simp), hw]
theorem qa0 (t6 : List Int) (t7 t8 : Int) : ∀ (n b : Nat), b ≤ n → ∀ a : Nat, qT (Q0 t6 t7 t8) ((a : Int), (b : Int)) = some ((Nat.gcd a b : Nat) : Int)
  | n, 0, _, a => by
    refine zV ?_
    unfold Q0
    dsimp only
    rw [if_neg (by simp), Nat.gcd_zero_right]
  | 0, b + 1, h, a => by omega
  | n + 1, b + 1, h, a => by
    have hlt := Nat.mod_lt a (show 0 < b + 1 by omega)
    have ih := qa0 t6 t7 t8 n (a % (b + 1)) (by omega) (b + 1)
    have e : Nat.gcd (b + 1) (a % (b + 1)) = Nat.gcd a (b + 1) := by rw [Nat.gcd_comm, ← Nat.gcd_rec, Nat.gcd_comm]
    rw [e] at ih
    rw [zU (y := (((b + 1 : Nat) : Int), ((a % (b + 1) : Nat) : Int))) ?_, ih]
    unfold Q0
    dsimp only
    have hne : ¬ ((b + 1 : Nat) : Int) = 0 := by omega
    rw [if_pos (by simpa using hne), if_neg hne, Int.ofNat_tmod]
theorem qj8 (s t : Nat) : QK [(s : Int), (t : Int)] = some ((Nat.gcd s t : Nat) : Int) := by
  have h1 := qa0 [(s : Int), (t : Int)] (([(s : Int), (t : Int)].length : Nat) : Int) (0 : Int) s s (Nat.le_refl _) 0
  have h2 := qa0 [(s : Int), (t : Int)] (([(s : Int), (t : Int)].length : Nat) : Int) (1 : Int) t t (Nat.le_refl _) s
  rw [Nat.gcd_zero_left] at h1
  have h1' : qT (Q0 [(s : Int), (t : Int)] (([(s : Int), (t : Int)].length : Nat) : Int) (0 : Int)) ((0 : Int), (s : Int)) = some (s : Int) := h1
  have hw0 : w64 ((0 : Int) + 1) = 1 := zJ (by omega) (by omega)
  have hw1 : w64 ((1 : Int) + 1) = 2 := zJ (by omega) (by omega)
  have r0 : zt [(s : Int), (t : Int)] (([(s : Int), (t : Int)].length : Nat) : Int) ((0 : Int), (0 : Int)) = some (.inl ((s : Int), (1 : Int))) := by
    unfold zt
    dsimp only
    rw [if_pos (by simp), if_pos (by simp), show [(s : Int), (t : Int)][Int.toNat 0]? = some (s : Int) from rfl, Option.bind_some, h1', Option.bind_some, hw0]
  have r1 : zt [(s : Int), (t : Int)] (([(s : Int), (t : Int)].length : Nat) : Int) ((s : Int), (1 : Int)) = some (.inl (((Nat.gcd s t : Nat) : Int), (2 : Int))) := by
    unfold zt
    dsimp only
    rw [if_pos (by simp), if_pos (by simp), show [(s : Int), (t : Int)][Int.toNat 1]? = some (t : Int) from rfl, Option.bind_some, h2, Option.bind_some, hw1]
  have r2 : zt [(s : Int), (t : Int)] (([(s : Int), (t : Int)].length : Nat) : Int) (((Nat.gcd s t : Nat) : Int), (2 : Int)) = some (.inr ((Nat.gcd s t : Nat) : Int)) := by
    unfold zt
    dsimp only
    rw [if_neg (by simp)]
  unfold QK
  rw [zU r0, zU r1, zV r2, Option.bind_some]
theorem q4B {n : Int} (h0 : 0 ≤ n) (h1 : n ≤ 9223372036854775807) : qu n = n := by
  unfold qu
  rw [if_neg (by omega), q9e h0 h1]
theorem qbp {S A : Int} (hS : 0 ≤ S ∧ S ≤ 60000) (hA : 1 ≤ A ∧ A ≤ 600) : ∃ r, J6 S A = some (r, 0) ∧ 1 ≤ r.D ∧ r.D ≤ 600 := by
  obtain ⟨s, rfl⟩ : ∃ s : Nat, S = s := ⟨S.toNat, by omega⟩
  obtain ⟨t, rfl⟩ : ∃ t : Nat, A = t := ⟨A.toNat, by omega⟩
  have g0 : 0 < Nat.gcd s t := Nat.gcd_pos_of_pos_right s (by omega)
  have g1 : Nat.gcd s t ≤ t := Nat.gcd_le_right s (by omega)
  have d1 : s / Nat.gcd s t ≤ s := Nat.div_le_self _ _
  have d2 : t / Nat.gcd s t ≤ t := Nat.div_le_self _ _
  have d3 : 0 < t / Nat.gcd s t := Nat.div_pos g1 g0
  have hg : QK [qu (s : Int), qu (t : Int)] = some ((Nat.gcd s t : Nat) : Int) := by
    rw [q4B (by omega) (by omega), q4B (by omega) (by omega)]; exact qj8 s t
  have e1 : Int.tdiv (qu (s : Int)) ((Nat.gcd s t : Nat) : Int) = ((s / Nat.gcd s t : Nat) : Int) := by
    rw [q4B (by omega) (by omega)]; exact (Int.ofNat_tdiv _ _).symm
  have e2 : Int.tdiv (qu (t : Int)) ((Nat.gcd s t : Nat) : Int) = ((t / Nat.gcd s t : Nat) : Int) := by
    rw [q4B (by omega) (by omega)]; exact (Int.ofNat_tdiv _ _).symm
  unfold J6
  rw [if_neg (by rw [beq_iff_eq]; omega), hg, Option.bind_some]
  generalize Nat.gcd s t = g at *
  generalize s / g = u at *
  generalize t / g = v at *
  rw [if_neg (by omega), if_neg (by omega), e1, e2, q9e (n := (u : Int)) (by omega) (by omega), q9e (n := (v : Int)) (by omega) (by omega), if_neg (by omega), if_neg (by omega), decide_eq_false (show ¬ (s : Int) < 0 by omega), decide_eq_false (show ¬ (t : Int) < 0 by omega), if_neg (by decide), zJ (n := (u : Int)) (by omega) (by omega), zJ (n := (v : Int)) (by omega) (by omega)]
  exact ⟨_, rfl, by show (1 : Int) ≤ (v : Int); omega, by show (v : Int) ≤ 600; omega⟩
theorem qes {gs cs : List Int} (hlen : cs.length = gs.length) (h1 : 1 ≤ gs.length) (hl : gs.length ≤ 10) (hg : ∀ g ∈ gs, 0 ≤ g ∧ g ≤ 100) (hc : ∀ c ∈ cs, 1 ≤ c ∧ c ≤ 60) :
    ∃ r, Zj gs cs = some (r, 0) ∧ 1 ≤ r.D ∧ r.D ≤ 600 := by
  obtain ⟨S, A, q1, q2, q3⟩ := q3M ⟨0, 0⟩ hlen hl hg hc gs.length 0 0 0 (by omega) (by omega) (by omega)
  obtain ⟨r, r1, r2⟩ := qbp q2 (A := A) (by omega)
  refine ⟨r, ?_, r2⟩
  unfold Zj
  rw [if_neg (by rw [hlen]; simp), if_neg (by rw [beq_iff_eq]; omega), if_neg (by omega)]
  change Option.bind (qT _ ((0 : Int), ((0 : Int), ((0 : Nat) : Int)))) _ = _
  rw [q1, Option.bind_some, Sum.elim_inr]
  dsimp only
  rw [r1, Option.bind_some]
theorem q7B {n d how : Int} (hd : d ≠ 0) (h : 1 ≤ how ∧ how ≤ 4) : ∃ v, Qr n d how = some v := by
  have hh : how = 1 ∨ how = 2 ∨ how = 3 ∨ how = 4 := by omega
  unfold Qr
  rw [if_neg hd, if_neg hd]
  by_cases ht : Int.tmod n d < 0
  · rw [if_pos ht, if_pos (by omega), if_pos (by omega)]
    rcases hh with rfl | rfl | rfl | rfl
    · rw [if_neg (by decide), if_pos (by decide)]; exact ⟨_, rfl⟩
    · rw [if_neg (by decide), if_neg (by decide), if_pos (by decide)]; split <;> exact ⟨_, rfl⟩
    · rw [if_neg (by decide), if_neg (by decide), if_neg (by decide), if_pos (by decide)]; split <;> exact ⟨_, rfl⟩
    · rw [if_neg (by decide), if_neg (by decide), if_neg (by decide), if_neg (by decide), if_pos (by decide)]; split <;> exact ⟨_, rfl⟩
  · rw [if_neg ht, if_pos (by omega), if_pos (by omega)]
    rcases hh with rfl | rfl | rfl | rfl
    · rw [if_neg (by decide), if_pos (by decide)]; exact ⟨_, rfl⟩
    · rw [if_neg (by decide), if_neg (by decide), if_pos (by decide)]; split <;> exact ⟨_, rfl⟩
    · rw [if_neg (by decide), if_neg (by decide), if_neg (by decide), if_pos (by decide)]; split <;> exact ⟨_, rfl⟩
    · rw [if_neg (by decide), if_neg (by decide), if_neg (by decide), if_neg (by decide), if_pos (by decide)]; split <;> exact ⟨_, rfl⟩
theorem q6E (x : Int) : Qf (qv x) = some 0 := by
  have key : ∀ s : qt, (-1000 ≤ s.Worst ∧ s.Worst ≤ 1000) → (-1000 ≤ s.Best ∧ s.Best ≤ 1000) → s.Worst ≠ s.Best → (min s.Worst s.Best ≤ s.Pass ∧ s.Pass ≤ max s.Worst s.Best) → Qf s = some 0 := by
    intro s h1 h2 h3 h4
    have hw0 : w64 ((0 : Int) + 1) = 1 := zJ (by omega) (by omega)
    have hw1 : w64 ((1 : Int) + 1) = 2 := zJ (by omega) (by omega)
    have r0 : za [s.Worst, s.Best] s (2 : Int) (0 : Int) = some (.inl 1) := by
      unfold za
      rw [if_pos (by decide), if_pos (by simp), show [s.Worst, s.Best][Int.toNat 0]? = some s.Worst from rfl, Option.bind_some, q0h h1, if_neg (by simp), hw0]
    have r1 : za [s.Worst, s.Best] s (2 : Int) (1 : Int) = some (.inl 2) := by
      unfold za
      rw [if_pos (by decide), if_pos (by simp), show [s.Worst, s.Best][Int.toNat 1]? = some s.Best from rfl, Option.bind_some, q0h h2, if_neg (by simp), hw1]
    have r2 : za [s.Worst, s.Best] s (2 : Int) (2 : Int) = some (.inr (.inr ())) := by
      unfold za
      rw [if_neg (by decide)]
    unfold Qf
    rw [zU r0, zU r1, zV r2, Option.bind_some, Sum.elim_inr, if_neg (by rw [beq_iff_eq]; exact h3), show qe s.Pass s.Worst s.Best = s.Pass by unfold qe; omega, if_neg (by simp)]
  unfold qv
  split
  · exact key _ (by decide) (by decide) (by decide) (by decide)
  split
  · exact key _ (by decide) (by decide) (by decide) (by decide)
  · exact key _ (by decide) (by decide) (by decide) (by decide)
theorem q8a {c : qh} (hcv : qm c = 0) (x : Int) {gs cs : List Int} (hlen : cs.length = gs.length) (h1 : 1 ≤ gs.length) (hl : gs.length ≤ 10) (hg : ∀ g ∈ gs, 0 ≤ g ∧ g ≤ 100) (hc : ∀ c ∈ cs, 1 ≤ c ∧ c ≤ 60) :
    ∃ g, zy c (qv x) gs cs = some (g, 0) := by
  obtain ⟨⟨b1, b2⟩, b3⟩ := qe7 hcv
  obtain ⟨r, r1, r2, r3⟩ := qes hlen h1 hl hg hc
  have p0 : 1 * 1 ≤ r.D * c.Den := Int.mul_le_mul r2 b1 (by omega) (by omega)
  have p1 : r.D * c.Den ≤ 600 * 1000 := Int.mul_le_mul r3 b2 (by omega) (by omega)
  have hd : w64 (r.D * c.Den) ≠ 0 := by rw [zJ (by omega) (by omega)]; omega
  obtain ⟨v, hv⟩ := q7B (n := w64 (w64 (r.N * c.Num) + w64 (c.Add * r.D))) hd b3
  unfold zy
  rw [hcv, if_neg (by decide), q6E, Option.bind_some, if_neg (by decide), r1, Option.bind_some]
  dsimp only
  rw [if_neg (by decide), hv, Option.bind_some]
  exact ⟨_, rfl⟩
theorem q9P (x g : Int) : ∃ p, zG (qv x) g = some p := by
  have hr : ∃ q, QY (qv x) g = some q := by
    unfold QY
    rw [q6E, Option.bind_some, if_pos (by decide)]
    exact ⟨_, rfl⟩
  obtain ⟨q, hq⟩ := hr
  unfold zG Z1
  rw [hq, Option.bind_some]
  split
  · split
    · rw [Option.bind_some]; exact ⟨_, rfl⟩
    · rw [Option.bind_some]; exact ⟨_, rfl⟩
  · rw [Option.bind_some]; exact ⟨_, rfl⟩
end Go.Proofs.Ytplfjlcnffcenaa.Vc
namespace Go.Proofs.Ytplfjlcnffcenaa.Vc
open Go.RowKit
set_option linter.unusedVariables false
set_option linter.unusedSimpArgs false
def JR (x : List qa) : List Int := (x.map (·.Sources)).flatten
def q2e (a : qb) (g d : Int) (S P : List Int) (o : qi) : qa := ⟨⟨a.To, o.Code⟩, o.Credits, g, d, S, 0, P ++ [a.Id]⟩
theorem q33 {a : qb} {P : List Int} {x : List qa} (h : Zq a P x) {y : qa} (hy : y ∈ x) : ∃ k c, Ach a.From P k c y := by
  obtain ⟨k, hk, hk2⟩ := List.getElem_of_mem hy
  obtain ⟨c, -, q⟩ := h.ok k y (by rw [List.getElem?_eq_getElem hk, hk2])
  exact ⟨k, c, q⟩
theorem q6x : ∀ (L : List (List Int)), (∀ s ∈ L, s.length ≤ 2) → L.flatten.length ≤ 2 * L.length
  | [], _ => by simp
  | s :: L, h => by
    have h1 := h s List.mem_cons_self
    have h2 := q6x L (fun t ht => h t (List.mem_cons_of_mem _ ht))
    rw [List.flatten_cons, List.length_append, List.length_cons]
    omega
theorem q7p {a : qb} (ha : q0o a) {P : List Int} {x : List qa} (h : Zq a P x) : (JR x).length ≤ 6 := by
  have h1 := q6x _ (q4E h)
  rw [List.length_map] at h1
  have := q23 ha
  have := h.len
  unfold JR
  omega
theorem qje {l : List Int} (hn : l.Nodup) {i : Nat} (hi : i + 1 < (zP l).length) : (zP l)[i] < (zP l)[i + 1] := by
  have h1 := List.pairwise_iff_getElem.1 (q03 l) i (i + 1) (by omega) hi (by omega)
  have h2 := List.pairwise_iff_getElem.1 ((q0f l).nodup_iff.2 hn) i (i + 1) (by omega) hi (by omega)
  omega
theorem q7y {a : qb} (ha : q0o a) {P : List Int} (hP : P.length ≤ 2) {x : List qa} (h : Zq a P x) (g : Int) (S : List Int) (hS : S.length ≤ 1000) :
    qT (qP a x g S a.Out ((a.Out.length : Nat) : Int)) ([], ((0 : Nat) : Int)) = some (a.Out.map (q2e a g (Qa x) S P)) := by
  have hl := q23 ha
  have ho := qY ha
  have hx := h.len
  have hm : (1000000 : Nat) ≤ Go.maxLen := by decide
  have e0 : x[0]? = some x[0] := List.getElem?_eq_getElem (by omega)
  obtain ⟨c0, hc0, q0⟩ := h.ok 0 _ e0
  have k1 : ze S = some () := if_pos ⟨by omega, by omega⟩
  have k2 : ze P = some () := if_pos ⟨by omega, by omega⟩
  have hlast := q9I (x := x) (by omega) (by omega) (fun y hy => by obtain ⟨k, c, q⟩ := q33 h hy; exact q.dy.1)
  refine q0X (step := qP a x g S a.Out ((a.Out.length : Nat) : Int)) a.Out (q2e a g (Qa x) S P) (fun i o out hio hout => ?_) (fun out => ?_)
  · have hi := q2Y hio
    have hw : w64 ((i : Int) + 1) = ((i + 1 : Nat) : Int) := zi (n := 10000) (by omega) (by omega)
    unfold qP
    dsimp only
    rw [if_pos (by omega), if_pos ⟨by omega, by omega⟩, Int.toNat_natCast, hio, Option.bind_some, hlast, Option.bind_some, k1, Option.bind_some, if_pos (by omega), e0, Option.bind_some, q0.pa, k2, Option.bind_some, if_pos ⟨by omega, by omega⟩, if_pos ⟨by omega, by omega⟩, hw]
    rfl
  · unfold qP
    dsimp only
    rw [if_neg (by omega)]
theorem q8V {a : qb} {P : List Int} {x : List qa} (h : Zq a P x) : ∀ g ∈ x.map (·.Grade), 0 ≤ g ∧ g ≤ 100 := fun g hg => by
  obtain ⟨y, hy, rfl⟩ := List.mem_map.1 hg
  obtain ⟨k, c, q⟩ := q33 h hy
  exact q.gr
theorem qbn {a : qb} {P : List Int} {x : List qa} (h : Zq a P x) : ∀ g ∈ x.map (·.Credits), 1 ≤ g ∧ g ≤ 60 := fun g hg => by
  obtain ⟨y, hy, rfl⟩ := List.mem_map.1 hg
  obtain ⟨k, c, q⟩ := q33 h hy
  exact q.cr
theorem qba {a : qb} (ha : q0o a) {P : List Int} (hP : P.length ≤ 2) {x : List qa} (h : Zq a P x) :
    ∃ g p, zy a.Conv (qv a.To) (x.map (·.Grade)) (x.map (·.Credits)) = some (g, 0) ∧ zG (qv a.To) g = some p ∧
      Z0 a (qv a.To) x = some (if zg a (Qa x) = true then (if p = true then (a.Out.map (q2e a g (Qa x) (zP (JR x)) P), 0) else ([], 0)) else ([], 33)) := by
  have hl := q23 ha
  have hx := h.len
  obtain ⟨g, hg⟩ := q8a ha.cv a.To (gs := x.map (·.Grade)) (cs := x.map (·.Credits)) (by rw [List.length_map, List.length_map]) (by rw [List.length_map]; omega) (by rw [List.length_map]; omega) (q8V h) (qbn h)
  obtain ⟨p, hp⟩ := q9P a.To g
  refine ⟨g, p, hg, hp, ?_⟩
  unfold Z0
  rw [q89 ha hP h, Option.bind_some]
  by_cases hv : zg a (Qa x) = true
  · rw [if_pos hv, hv, if_neg (by decide), q5i (by omega), Option.bind_some, q5H (by omega), Option.bind_some, hg, Option.bind_some]
    dsimp only
    rw [if_neg (by decide), hp, Option.bind_some]
    by_cases hpp : p = true
    · have hs6 := q7p ha h
      rw [if_pos hpp, hpp, if_neg (by decide), q3N (by omega), Option.bind_some, q8A (by rw [List.length_map]; omega) (q4E h) (q2I ha h), Option.bind_some]
      dsimp only
      rw [if_pos (by unfold JR at hs6; omega)]
      have hap := q7y ha hP h g (zP (JR x)) (by rw [QW]; omega)
      change Option.bind (qT (qP a x g (zP (JR x)) a.Out ((a.Out.length : Nat) : Int)) ([], ((0 : Nat) : Int))) _ = _
      rw [hap, Option.bind_some]
    · rw [if_neg hpp, if_pos (by simpa using hpp)]
  · rw [if_neg hv, if_pos (by simpa using hv)]
theorem q9q (b0 : qb) (b1 : qt) (t1 : List Int) (t5 : Bool) (t10 : List qa) (t11 : Int) (t26 : List qb) (t27 t28 : Int) (L : List qa) (hL : L.length ≤ 1000) (hs : ∀ y ∈ L, y.Sources.length ≤ 2) :
    ∀ (r : List qa) (i : Nat) (w2 w3 : List Int) (m n : Int), r.length + i = L.length → (∀ j, r[j]? = L[i + j]?) → w2.length = i → w3.length = i → 0 ≤ n → n ≤ 2 * (i : Int) →
      qT (qE b0 b1 t1 t5 t10 t11 t26 t27 t28 L ((L.length : Nat) : Int)) (w2, (w3, (m, (n, (i : Int))))) = some (w2 ++ r.map (·.Grade), (w3 ++ r.map (·.Credits), ((r.map (·.Day)).foldl max m, n + (((r.map (·.Sources)).flatten.length : Nat) : Int))))
  | [], i, w2, w3, m, n, hi, _, _, _, _, _ => by
    refine zV ?_
    unfold qE
    dsimp only
    rw [if_neg (by simp at hi; omega)]
    simp
  | y :: r, i, w2, w3, m, n, hi, hr, h2, h3, hn0, hn1 => by
    simp only [List.length_cons] at hi
    have ha : L[i]? = some y := by have := hr 0; simpa using this.symm
    have hm : (1000000 : Nat) ≤ Go.maxLen := by decide
    have hw : w64 ((i : Int) + 1) = ((i + 1 : Nat) : Int) := zi (n := 10000) (by omega) (by omega)
    have hy := hs y (List.mem_of_getElem? ha)
    have hw2 : w64 (n + ((y.Sources.length : Nat) : Int)) = n + ((y.Sources.length : Nat) : Int) := zJ (by omega) (by omega)
    have ih := q9q b0 b1 t1 t5 t10 t11 t26 t27 t28 L hL hs r (i + 1) (w2 ++ [y.Grade]) (w3 ++ [y.Credits]) (max m y.Day) (n + ((y.Sources.length : Nat) : Int)) (by omega) (fun j => by
      have := hr (j + 1)
      rw [show i + 1 + j = i + (j + 1) by omega, ← this]; rfl) (by rw [List.length_append, List.length_singleton, h2]) (by rw [List.length_append, List.length_singleton, h3]) (by omega) (by omega)
    rw [zU (y := (w2 ++ [y.Grade], (w3 ++ [y.Credits], (max m y.Day, (n + ((y.Sources.length : Nat) : Int), ((i + 1 : Nat) : Int)))))) ?_, ih]
    · rw [List.map_cons, List.map_cons, List.map_cons, List.map_cons, List.foldl_cons, List.flatten_cons, List.append_assoc, List.append_assoc, List.singleton_append, List.singleton_append, List.length_append]
      rw [show n + ((y.Sources.length : Nat) : Int) + (((r.map (·.Sources)).flatten.length : Nat) : Int) = n + ((y.Sources.length + (r.map (·.Sources)).flatten.length : Nat) : Int) by omega]
    · unfold qE
      dsimp only
      rw [if_pos (by omega), if_pos ⟨by omega, by omega⟩, Int.toNat_natCast, ha, Option.bind_some, if_pos ⟨by omega, by omega⟩, if_pos ⟨by omega, by omega⟩, hw2, hw]
theorem qlk (b0 : qb) (b1 : qa) (t1 : List Int) (t5 : Bool) (t12 t13 t18 : Int) (t26 : List qb) (t27 t28 : Int) (t120 : List qa) (t121 t122 : Int) {l : List Int} (hl : l.length ≤ 1000) (hn : l.Nodup) (hb : b1.Sources = zP l) :
    qT (qD b0 b1 t1 t5 t12 t13 t18 t26 t27 t28 t120 t121 t122) (1 : Int) = some (.inr ()) := by
  have hlen : b1.Sources.length = l.length := by rw [hb, QW]
  have hlen2 := QW l
  have hend : ∀ i : Nat, l.length ≤ i → qD b0 b1 t1 t5 t12 t13 t18 t26 t27 t28 t120 t121 t122 ((i : Nat) : Int) = some (.inr (.inr ())) := fun i hi => by
    unfold qD
    rw [if_neg (by omega)]
  by_cases h0 : l.length ≤ 1
  · exact zV (hend 1 h0)
  · refine Zf (step := qD b0 b1 t1 t5 t12 t13 t18 t26 t27 t28 t120 t121 t122) (e := .inr ()) (fun i => (i : Int)) 1 l.length (by omega) (fun i hi0 hi => ?_) (hend _ (Nat.le_refl _))
    obtain ⟨j, rfl⟩ : ∃ j, i = j + 1 := ⟨i - 1, by omega⟩
    have hw : w64 (((j + 1 : Nat) : Int) + 1) = ((j + 1 + 1 : Nat) : Int) := zi (n := 10000) (by omega) (by omega)
    have hw2 : w64 (((j + 1 : Nat) : Int) - 1) = (j : Int) := by rw [zJ (by omega) (by omega)]; omega
    have hup := qje hn (i := j) (by omega)
    have e1 : b1.Sources[j]? = some (zP l)[j] := by rw [hb]; exact List.getElem?_eq_getElem (by omega)
    have e2 : b1.Sources[j + 1]? = some (zP l)[j + 1] := by rw [hb]; exact List.getElem?_eq_getElem (by omega)
    unfold qD
    rw [if_pos (by omega), hw2, if_pos ⟨by omega, by omega⟩, Int.toNat_natCast, e1, Option.bind_some, if_pos ⟨by omega, by omega⟩, Int.toNat_natCast, e2, Option.bind_some, if_neg (by omega), hw]
theorem qdK {a : qb} (ha : q0o a) {P : List Int} (hP : P.length ≤ 2) {x : List qa} (h : Zq a P x) (g : Int) (t1 : List Int) (t5 : Bool) (t26 : List qb) (t27 t28 : Int) {i : Nat} (hi : i < a.Out.length) :
    qp a t1 t5 (Qa x) (((JR x).length : Nat) : Int) g t26 t27 t28 (a.Out.map (q2e a g (Qa x) (zP (JR x)) P)) (((a.Out.map (q2e a g (Qa x) (zP (JR x)) P)).length : Nat) : Int) (i : Int) = some (.inl ((i + 1 : Nat) : Int)) := by
  have ho := qY ha
  have hs6 := q7p ha h
  have hml : (a.Out.map (q2e a g (Qa x) (zP (JR x)) P)).length = a.Out.length := List.length_map ..
  have e1 : (a.Out.map (q2e a g (Qa x) (zP (JR x)) P))[i]? = some (q2e a g (Qa x) (zP (JR x)) P a.Out[i]) := by rw [List.getElem?_map, List.getElem?_eq_getElem hi]; rfl
  have e2 : a.Out[i]? = some a.Out[i] := List.getElem?_eq_getElem hi
  have hw : w64 ((i : Int) + 1) = ((i + 1 : Nat) : Int) := zi (n := 10000) (by omega) (by omega)
  have hup := qlk a (q2e a g (Qa x) (zP (JR x)) P a.Out[i]) t1 t5 (Qa x) (((JR x).length : Nat) : Int) g t26 t27 t28 (a.Out.map (q2e a g (Qa x) (zP (JR x)) P)) (((a.Out.map (q2e a g (Qa x) (zP (JR x)) P)).length : Nat) : Int) (i : Int) (l := JR x) (by omega) (q2I ha h) rfl
  have f1 : (q2e a g (Qa x) (zP (JR x)) P a.Out[i]).Course.School = a.To := rfl
  have f2 : (q2e a g (Qa x) (zP (JR x)) P a.Out[i]).Course.Code = a.Out[i].Code := rfl
  have f3 : (q2e a g (Qa x) (zP (JR x)) P a.Out[i]).Credits = a.Out[i].Credits := rfl
  have f4 : (q2e a g (Qa x) (zP (JR x)) P a.Out[i]).Grade = g := rfl
  have f5 : (q2e a g (Qa x) (zP (JR x)) P a.Out[i]).Day = Qa x := rfl
  have f6 : (q2e a g (Qa x) (zP (JR x)) P a.Out[i]).Sources.length = (JR x).length := QW _
  have f7 : (q2e a g (Qa x) (zP (JR x)) P a.Out[i]).Path = P ++ [a.Id] := rfl
  have f8 : (q2e a g (Qa x) (zP (JR x)) P a.Out[i]).Bundle = 0 := rfl
  have hpl : (P ++ [a.Id]).length = P.length + 1 := by rw [List.length_append, List.length_singleton]
  have hw3 : w64 (((P.length + 1 : Nat) : Int) - 1) = (P.length : Int) := by rw [zJ (by omega) (by omega)]; omega
  have hpe : (P ++ [a.Id])[P.length]? = some a.Id := by rw [List.getElem?_append_right (Nat.le_refl _), Nat.sub_self]; rfl
  generalize q2e a g (Qa x) (zP (JR x)) P a.Out[i] = y at e1 hup f1 f2 f3 f4 f5 f6 f7 f8
  unfold qp
  rw [if_pos (by omega), if_pos ⟨by omega, by omega⟩, Int.toNat_natCast, e1, Option.bind_some, if_pos ⟨by omega, by omega⟩, e2, Option.bind_some, if_neg (by rw [f1, f2]; simp), if_pos ⟨by omega, by omega⟩, Option.bind_some, if_neg (by rw [f3]; simp), if_neg (by rw [f4]; simp), if_neg (by rw [f5]; simp), if_neg (by rw [f6]; simp), f7, hpl, if_neg (by rw [beq_iff_eq]; omega), hw3, if_pos ⟨by omega, by omega⟩, Int.toNat_natCast, hpe, Option.bind_some, if_neg (by simp), f8, if_neg (by decide), hup, Option.bind_some, Sum.elim_inr, hw]
theorem qgo {M : List qb} (hM : q9W M) (t1 : List Int) (ht : t1.length ≤ 9223372036854775807) {i : Nat} (hi : i < M.length) :
    qL t1 true M ((M.length : Nat) : Int) (i : Int) = some (.inl ((i + 1 : Nat) : Int)) := by
  have hlen := hM.len
  have e1 : M[i]? = some M[i] := List.getElem?_eq_getElem hi
  have ha := (hM.ok i _ e1).1
  have hw : w64 ((i : Int) + 1) = ((i + 1 : Nat) : Int) := zi (n := 10000) (by omega) (by omega)
  generalize M[i] = a at e1 ha
  obtain ⟨P, x, hx, hP, h⟩ := qbA ha t1 ht
  obtain ⟨g, p, hg, hp, hap⟩ := qba ha hP h
  have hl := q23 ha
  have ho := qY ha
  have hxl := h.len
  have hsum : ∀ (t10 : List qa) (t11 : Int), qT (qE a (qv a.To) t1 true t10 t11 M ((M.length : Nat) : Int) (i : Int) x ((x.length : Nat) : Int)) ([], ([], ((0 : Int), ((0 : Int), (0 : Int))))) = some (x.map (·.Grade), (x.map (·.Credits), (Qa x, (((JR x).length : Nat) : Int)))) := fun t10 t11 => by
    have := q9q a (qv a.To) t1 true t10 t11 M ((M.length : Nat) : Int) (i : Int) x (by omega) (fun y hy => q4E h _ (List.mem_map.2 ⟨y, hy, rfl⟩)) x 0 [] [] 0 0 (by simp) (by simp) rfl rfl (by omega) (by omega)
    rw [List.nil_append, List.nil_append, Int.zero_add] at this
    exact this
  have hloop : qT (qp a t1 true (Qa x) (((JR x).length : Nat) : Int) g M ((M.length : Nat) : Int) (i : Int) (a.Out.map (q2e a g (Qa x) (zP (JR x)) P)) (((a.Out.map (q2e a g (Qa x) (zP (JR x)) P)).length : Nat) : Int)) (0 : Int) = some (.inr ()) := by
    refine Zf (step := qp a t1 true (Qa x) (((JR x).length : Nat) : Int) g M ((M.length : Nat) : Int) (i : Int) (a.Out.map (q2e a g (Qa x) (zP (JR x)) P)) (((a.Out.map (q2e a g (Qa x) (zP (JR x)) P)).length : Nat) : Int)) (e := .inr ()) (fun i => (i : Int)) 0 a.Out.length (Nat.zero_le _) (fun j _ hj => qdK ha hP h g t1 true M _ _ hj) ?_
    unfold qp
    rw [if_neg (by rw [List.length_map]; omega)]
  have hloop0 : qT (qp a t1 true (Qa x) (((JR x).length : Nat) : Int) g M ((M.length : Nat) : Int) (i : Int) [] ((([] : List qa).length : Nat) : Int)) (0 : Int) = some (.inr ()) := by
    refine zV ?_
    unfold qp
    rw [if_neg (by simp)]
  unfold qL
  rw [if_pos (by omega), if_pos ⟨by omega, by omega⟩, Int.toNat_natCast, e1, Option.bind_some, hx, Option.bind_some, hap, Option.bind_some, hsum, Option.bind_some]
  dsimp only
  by_cases hv : zg a (Qa x) = true
  · rw [if_pos hv, hv]
    by_cases hpp : p = true
    · have hml : (a.Out.map (q2e a g (Qa x) (zP (JR x)) P)).length = a.Out.length := List.length_map ..
      subst hpp
      rw [if_pos rfl]
      dsimp only
      rw [if_neg (by decide), if_neg (by decide), if_neg (by decide), hg, Option.bind_some]
      dsimp only
      rw [if_neg (by decide), hp, Option.bind_some, if_neg (by rw [hml, decide_eq_true (by omega)]; decide), if_pos (by rw [hml, bne_iff_ne]; omega), if_neg (by rw [hml]; simp), hloop, Option.bind_some, Sum.elim_inr, hw]
    · rw [if_neg hpp]
      have hpf : p = false := by simpa using hpp
      subst hpf
      dsimp only
      rw [if_neg (by decide), if_neg (by decide), if_neg (by decide), hg, Option.bind_some]
      dsimp only
      rw [if_neg (by decide), hp, Option.bind_some, if_neg (by decide), if_neg (by decide), hloop0, Option.bind_some, Sum.elim_inr, hw]
  · rw [if_neg hv]
    have hvf : zg a (Qa x) = false := by simpa using hv
    rw [hvf]
    dsimp only
    rw [if_neg (by decide), if_pos (by decide), if_neg (by decide), if_pos (by decide), hw]
theorem q2Z (l : List (List Int)) (x1 : List Int) (hl : l.length ≤ maxLen) (hx : ∀ x ∈ l, x.length ≤ maxLen) (h1 : x1.length ≤ maxLen) : zW l x1 = some true := by
  have hm : Go.maxLen = 9223372036854775807 := by decide
  obtain ⟨M, e1, hM⟩ := qfE l (by omega) (fun x hx' => by have := hx x hx'; omega)
  have hlen := hM.len
  have hloop : qT (qL x1 true M ((M.length : Nat) : Int)) (0 : Int) = some (.inr ()) := by
    refine Zf (step := qL x1 true M ((M.length : Nat) : Int)) (e := .inr ()) (fun i => (i : Int)) 0 M.length (Nat.zero_le _) (fun i _ hi => qgo hM x1 (by omega) hi) ?_
    unfold qL
    rw [if_neg (by omega)]
  unfold zW
  rw [e1, Option.bind_some, hloop, Option.bind_some, Sum.elim_inr]
end Go.Proofs.Ytplfjlcnffcenaa.Vc
namespace Go.Proofs.Ytplfjlcnffcenaa.Vc
open Go.RowKit
set_option linter.unusedVariables false
set_option maxRecDepth 100000
theorem q5G {X : Type} {E : X → List D} {W : X → Prop} {sz : Nat} (hz : 0 < sz) : ∀ (m : Nat) (es : List D), es.length = m * sz → (∀ i, i < m → ∃ x, (es.drop (i * sz)).take sz = E x ∧ W x) → ∃ l : List X, es = l.flatMap E ∧ l.length = m ∧ ∀ x ∈ l, W x
  | 0, es, hl, _ => ⟨[], by rw [Nat.zero_mul] at hl; exact List.eq_nil_of_length_eq_zero hl, rfl, by simp⟩
  | m + 1, es, hl, h => by
    obtain ⟨x, hx, wx⟩ := h 0 (by omega)
    obtain ⟨l, g1, g2, g3⟩ := q5G hz m (es.drop sz) (by rw [List.length_drop, hl, Nat.add_mul]; omega) fun i hi => by
      obtain ⟨y, hy, wy⟩ := h (i + 1) (by omega)
      refine ⟨y, ?_, wy⟩
      rw [List.drop_drop, show sz + i * sz = (i + 1) * sz by rw [Nat.add_mul, Nat.one_mul, Nat.add_comm]]; exact hy
    refine ⟨x :: l, ?_, by simp [g2], fun y hy => ?_⟩
    · rw [Nat.zero_mul, List.drop_zero] at hx
      rw [List.flatMap_cons, ← g1, ← hx, List.take_append_drop]
    · rcases List.mem_cons.1 hy with rfl | hy
      · exact wx
      · exact g3 y hy
abbrev qls : List TypeId := [22, 41, 3]
theorem qd7 : qmz Try.prog qls = true := by kernel_rfl
theorem ty3 : ∀ (n : Nat) (ds : List D), q0R Try.prog n 3 ds → ∃ v : Int, ds = [D.int .i64 v] ∧ (Lit.int .i64 v).wf = true := by
  intro n ds h
  cases n with
  | zero => exact h.elim
  | succ n =>
    unfold q0R at h
    rw [Try.underlying3] at h
    obtain ⟨z, h1, h2⟩ := h
    exact ⟨z, h1, h2⟩
theorem cz3 : Try.prog.cellsOf 3 = 1 := by kernel_rfl
theorem ty41 : ∀ (n : Nat) (ds : List D), q0R Try.prog n 41 ds → ∃ v : List Int, ds = [D.sl 1 v.length (v.flatMap eI)] ∧ (v.length ≤ maxLen ∧ ∀ y ∈ v, (Lit.int .i64 y).wf = true) := by
  intro n ds h
  cases n with
  | zero => exact h.elim
  | succ n =>
    unfold q0R at h
    rw [Try.underlying41] at h
    obtain ⟨m, es, h1, h2, h3, h4⟩ := h
    rw [cz3] at h1 h3 h4
    obtain ⟨l, g1, g2, g3⟩ := q5G (E := eI) (W := fun y => (Lit.int .i64 y).wf = true) (sz := 1) (by decide) m es h3 fun i hi => by
      obtain ⟨v, q1, q2⟩ := ty3 n _ (h4 i hi)
      exact ⟨v, q1.trans (rfl), q2⟩
    refine ⟨l, ?_, by omega, g3⟩
    rw [h1, g1, g2]
theorem qo1 : Try.prog.cellsOf 41 = 1 := by kernel_rfl
theorem ty22 : ∀ (n : Nat) (ds : List D), q0R Try.prog n 22 ds → ∃ v : List (List Int), ds = [D.sl 1 v.length (v.flatMap (eL 1 eI))] ∧ (v.length ≤ maxLen ∧ ∀ y ∈ v, (y.length ≤ maxLen ∧ ∀ yy ∈ y, (Lit.int .i64 yy).wf = true)) := by
  intro n ds h
  cases n with
  | zero => exact h.elim
  | succ n =>
    unfold q0R at h
    rw [Try.underlying22] at h
    obtain ⟨m, es, h1, h2, h3, h4⟩ := h
    rw [qo1] at h1 h3 h4
    obtain ⟨l, g1, g2, g3⟩ := q5G (E := (eL 1 eI)) (W := fun y => (y.length ≤ maxLen ∧ ∀ yy ∈ y, (Lit.int .i64 yy).wf = true)) (sz := 1) (by decide) m es h3 fun i hi => by
      obtain ⟨v, q1, q2⟩ := ty41 n _ (h4 i hi)
      exact ⟨v, q1.trans (rfl), q2⟩
    refine ⟨l, ?_, by omega, g3⟩
    rw [h1, g1, g2]
end Go.Proofs.Ytplfjlcnffcenaa.Vc
namespace Go.Proofs.Ytplfjlcnffcenaa.Vc
open Go.RowKit
theorem q3D (x0 : List (List Int)) (w0 : x0.length ≤ maxLen ∧ ∀ y ∈ x0, (y.length ≤ maxLen ∧ ∀ yy ∈ y, (Lit.int .i64 yy).wf = true)) (x1 : List Int) (w1 : x1.length ≤ maxLen ∧ ∀ y ∈ x1, (Lit.int .i64 y).wf = true) : zW x0 x1 = some true :=
  q2Z x0 x1 w0.1 (fun y hy => (w0.2 y hy).1) w1.1
end Go.Proofs.Ytplfjlcnffcenaa.Vc
namespace Go.Proofs.Ytplfjlcnffcenaa
open Go.ChangeShapes Go.WideShapes Go.ChangeAt Go.RowKit Go.ChangeMaps
theorem own : ownKnob Try.prog.godebug = none := by kernel_rfl
theorem qdE : laidOutB Try.prog = true := by kernel_rfl
section
variable {H : Type} {enc : TypeId × Value → H} {P : Program} {W W' : World}
theorem q5l (hl : laidOutB P = true) (hb : Below W.heap.size W W') : ∀ {ts : List TypeId} {vs : List Value} {ds : List (DataW H)} {ps : List MemPlace}, (∀ t ∈ ts, P.readableRec t = true ∧ t < P.types.size) →
    DataW.TrodAll enc P W 0 (fun _ => true) true ts vs ds ps → (∀ p ∈ ps, p.block < W.heap.size) → DataW.TrodAll enc P W' 0 (fun b => decide (b < W.heap.size)) true ts vs ds ps
  | [], _, _, _, _, h, _ => by
    obtain ⟨rfl, rfl, rfl⟩ := trodAll_nil h
    exact trodAll_mk0
  | t :: ts, _, _, _, ht, h, hlt => by
    obtain ⟨v, vs, d, ds, p, q, rfl, rfl, rfl, h1, h2⟩ := trodAll_cons h
    exact trodAll_cons_mk (Below.trod hl (ht t List.mem_cons_self).1 (ht t List.mem_cons_self).2 h1 hb (fun x hx => hlt x (List.mem_append_left _ hx)))
      (q5l hl hb (fun u hu => ht u (List.mem_cons_of_mem _ hu)) h2 (fun x hx => hlt x (List.mem_append_right _ hx)))
theorem qcd {f : Func} {s : ChangeSpec} {apart fresh handsOn : Bool} {args : Array Value} {ds gs : List (DataW H)} {before : List MemPlace} {tb : TypeId} (hl : laidOutB P = true)
    (hts : ∀ t ∈ f.params.toList, P.readableRec t = true ∧ t < P.types.size) (hr : f.resultTypes = #[tb]) (htb : P.underlying tb = some .bool) (hv : s.vars = [])
    (h1 : (s.fn H (ds ++ gs)).results = [.lit (.bool true)]) (h2 : (s.fn H (ds ++ gs)).args = ds) (h3 : (s.fn H (ds ++ gs)).vars = [])
    (hW : DataW.Whole enc P f.params.toList s.vars apart W args.toList ds gs before) (hb : Below W.heap.size W W') :
    s.post enc P f apart fresh handsOn false W args (.bool true) W' := by
  have hlt : ∀ p ∈ before, p.block < W.heap.size := fun p hp => hW.lt p hp
  have hW2 := hW
  obtain ⟨pa, pv, hA, hV, hp, -, -⟩ := hW2
  rw [hv] at hV
  obtain ⟨rfl, rfl⟩ := trodVars_none hV
  rw [List.append_nil] at hp
  subst hp
  refine ⟨ds, [], before, [], before, [], hW, ?_, ?_, ?_, ?_, fun h => by cases h⟩
  · rw [h1, hr]
    exact trodAll_mk1 (shut_bool htb true)
  · rw [h2]
    exact q5l hl hb hts hA hlt
  · rw [h3, hv]
    exact hV
  · exact World.keptBut_mono (fun p hp => ⟨hp, .inr (.inl hp)⟩) (hb.frame (· ∈ before))
end
end Go.Proofs.Ytplfjlcnffcenaa
