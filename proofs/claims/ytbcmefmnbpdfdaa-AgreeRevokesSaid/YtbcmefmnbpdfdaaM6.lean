/- Part 6 of a proof. -/
import Derived.Test.YtbcmefmnbpdfdaaM5
import Derived.Test.YtbcmefmnbpdfdaaRows
import Derived.ChangeSlices
import Derived.OpenShut
import Derived.Carry
import Derived.ChangeSame
import Derived.ChangeMaps5
import Derived.WideShapes
import Derived.ProofKit
import Derived.Deep.DeepHandedRow
import Derived.Lib.LaidTab
import Derived.Stop.LaidErr
set_option linter.unusedVariables false
set_option linter.unusedSimpArgs false
set_option linter.defProp false
set_option linter.unusedSectionVars false
set_option linter.unnecessarySimpa false
namespace Go.Proofs.Ytbcmefmnbpdfdaa.Vc
open Go.RowKit
set_option linter.unusedVariables false
set_option linter.unusedSimpArgs false
set_option maxRecDepth 20000
set_option linter.defProp false
theorem Jw : ev 5 0 [] [] = some (rB true, []) := q79
theorem lo3 : okL 3 q5A := qR (qi bd3) (by kernel_rfl) (by kernel_rfl)
def cx3 := JA_ @q5A.eq_1 (JA_ @Try.f3.eq_1 @bd3)
theorem qcT : lbO 3 13 = q5T := Qj (qi bd3) rfl
theorem qeI : okL 3 q5T := zI lo3 (List.mem_of_getElem? (i := 0) (by kernel_rfl))
theorem lo6 : okL 6 q6L := qR (qi bd6) (by kernel_rfl) (by kernel_rfl)
def cx6 := JA_ @q6L.eq_1 (JA_ @Try.f6.eq_1 @bd6)
theorem qgT : lbO 6 3 = qbr := Qj (qi bd6) rfl
theorem qgo : okL 6 qbr := zI lo6 (List.mem_of_getElem? (i := 0) (by kernel_rfl))
theorem qhY : okL 18 q2q := qR (qi qfk) (by kernel_rfl) (by kernel_rfl)
def qhp := JA_ @q2q.eq_1 (JA_ @Try.f18.eq_1 @qfk)
theorem qfg : lbO 18 6 = q6F := Qj (qi qfk) rfl
theorem qen : okL 18 q6F := zI qhY (List.mem_of_getElem? (i := 0) (by kernel_rfl))
theorem qiO : okL 32 q3Q := qR (qi qfD) (by kernel_rfl) (by kernel_rfl)
def qjA := JA_ @q3Q.eq_1 (JA_ @Try.f32.eq_1 @qfD)
theorem qjo : okL 60 q4t := qR (qi qfO) (by kernel_rfl) (by kernel_rfl)
def qjn := JA_ @q4t.eq_1 (JA_ @Try.f60.eq_1 @qfO)
noncomputable def Qx (n : Int) (m : Int) : Option Int :=
  if m = 0 then none
  else if m = 0 then none
  else some (Int.tmod (w64 (Int.tmod n m + m)) m)
theorem q1q : ∀ (n m : Int), ev 60 0 [rI n, rI m] [] = (Qx n m).bind (fun (e : Int) => some (rI e, [])) :=
  fun n m => by
    rw [qO qfO qhb.2.2.2 qjo]
    have := qjn; have := @Qx.eq_1; exact gA
noncomputable def qk (n : Int) (d : qb) : Option (Int × qb) :=
  if ((d.L.length : Nat) : Int) ≤ d.At then some (0, d)
  else if 0 ≤ w64 (w64 (d.At + 1) - 1) ∧ w64 (w64 (d.At + 1) - 1) < ((d.L.length : Nat) : Int) then Option.bind d.L[Int.toNat (w64 (w64 (d.At + 1) - 1))]? fun (a : Int) =>
    Option.bind (Qx a n) fun (a2 : Int) =>
    some (a2, qb.mk d.L (w64 (d.At + 1)))
  else none
theorem qU : ∀ (n : Int) (d_L : List Int) (d_At : Int), ev 32 1 [rP 0, rI n] [(0, B.blk 66 [dL 1 eI d_L, dI d_At])] = (qk n (qb.mk d_L d_At)).bind (fun (e : Int × qb) => some (rI e.1, [(0, B.blk 66 [dL 1 eI e.2.L, dI e.2.At])])) :=
  fun n d_L d_At => by
    rw [qO qfD qht.2.2.2 qiO]
    have := qjA; have := @q1q; have := @qk.eq_1; exact gA
theorem qgQ : okL 49 q1x := qR (qi qcv) (by kernel_rfl) (by kernel_rfl)
def qcw := JA_ @q1x.eq_1 (JA_ @Try.f49.eq_1 @qcv)
theorem q9t : lbO 49 3 = q4p := Qj (qi qcv) rfl
theorem q92 : okL 49 q4p := zI qgQ (List.mem_of_getElem? (i := 0) (by kernel_rfl))
theorem q9j : lbO 49 5 = q43 := Qj (qi qcv) rfl
theorem q9Y : okL 49 q43 := zI qgQ (List.mem_of_getElem? (i := 1) (by kernel_rfl))
theorem qjs : okL 71 q49 := qR (qi qfv) (by kernel_rfl) (by kernel_rfl)
def qjt := JA_ @q49.eq_1 (JA_ @Try.f71.eq_1 @qfv)
noncomputable def Qt : Option (List ByteArray) :=
  some [ByteArray.mk (List.toArray [65, 49]), ByteArray.mk (List.toArray [66, 49]), ByteArray.mk (List.toArray [66, 50]), ByteArray.mk (List.toArray [67, 49]), ByteArray.mk (List.toArray [68, 49]), ByteArray.mk (List.toArray [69, 57])]
noncomputable def qo : List ByteArray :=
  [ByteArray.mk (List.toArray [65, 49]), ByteArray.mk (List.toArray [66, 49]), ByteArray.mk (List.toArray [66, 50]), ByteArray.mk (List.toArray [67, 49]), ByteArray.mk (List.toArray [68, 49]), ByteArray.mk (List.toArray [69, 57])]
theorem JY : Qt = some (qo) := by
  unfold Qt qo
  simp only [Q1]
theorem zU : ev 71 0 [] [] = some (R.c (C.d (D.sl 1 (qo).length ((qo).flatMap eS))), []) :=
  by
    have h : ev 71 0 [] [] = (Qt).bind (fun (e : List ByteArray) => some (rL 1 eS e, [])) := by
      rw [qO qfv qhN.2.2.2 qjs]
      have := qjt; have := @Qt.eq_1; exact gA
    rw [JY] at h
    exact h
theorem qhX : okL 50 q2V := qR (qi qdZ) (by kernel_rfl) (by kernel_rfl)
def qhz := JA_ @q2V.eq_1 (JA_ @Try.f50.eq_1 @qdZ)
theorem qeX : lbO 50 2 = q6S := Qj (qi qdZ) rfl
theorem qdz : okL 50 q6S := zI qhX (List.mem_of_getElem? (i := 0) (by kernel_rfl))
noncomputable def zl (l : List ByteArray) (s : ByteArray) : Int → Option (Int ⊕ (Unit ⊕ Unit))
  | k =>
    if k < ((l.length : Nat) : Int) then if 0 ≤ k ∧ k < ((l.length : Nat) : Int) then Option.bind l[Int.toNat k]? fun (a : ByteArray) =>
        if (ByteArray.toList a == ByteArray.toList s) = Bool.true then some (Sum.inr (Sum.inl ()))
        else some (Sum.inl (w64 (k + 1)))
      else none
    else some (Sum.inr (Sum.inr ()))
theorem JJ : ∀ (l : List ByteArray) (s : ByteArray) (k : Int), XL2 evo 50 0 2 ⟨[(0, rL 1 eS l), (1, rS s), (5, rI k)], [], 0, 18⟩ = (zg (zl l s) k).bind (Sum.elim (fun (e : Unit) => some (Go.Exit.ret, ⟨[(4, rB Bool.true)], [], 0, 18⟩)) (fun (e : Unit) => some (Go.Exit.exit 0, ⟨[(4, R.any)], [], 0, 18⟩))) :=
  fun l s k => by
    revert k; exact q4i qeX qdz (fun e => by rcases e with _ | _ <;> exact ⟨_, rfl, fun h => by cases h⟩) fun x => by
      have := qhz; have := @q6S.eq_1; have := @zl.eq_1; exact gA
noncomputable def za (l : List ByteArray) (s : ByteArray) : Option Bool :=
  Option.bind (zg (zl l s) 0) fun (a : Sum Unit Unit) =>
  Sum.elim (fun (a2 : Unit) => some Bool.true) (fun (a3 : Unit) => some Bool.false) a
theorem Qf : ∀ (l : List ByteArray) (s : ByteArray), ev 50 0 [rL 1 eS l, rS s] [] = (za l s).bind (fun (e : Bool) => some (rB e, [])) :=
  fun l s => by
    rw [qO qdZ qhy.2.2.2 qhX]
    have := qhz; have := @JJ; have := @za.eq_1; exact gA
theorem JL : ∀  (s : ByteArray), ev 50 0 [R.c (C.d (D.sl 1 0 [])), rS s] [] = (za [] s).bind (fun (e : Bool) => some (rB e, [])) := by
  intro s; have h := Qf [] s
  first
    | exact h
    | (simp only [rL, dL, bR, bZ, Nat.reduceAdd] at h; exact h)
noncomputable def QA (fu : Nat) (l : List ByteArray) (s : ByteArray) : Option Bool :=
  Option.bind (itT (zl l s) fu 0) fun (a : Sum Unit Unit) =>
  Sum.elim (fun (a2 : Unit) => some Bool.true) (fun (a3 : Unit) => some Bool.false) a
theorem QN (fu : Nat) (l : List ByteArray) (s : ByteArray) : zD (QA fu l s) (za l s) := by
  unfold QA za
  repeat (first
    | with_reducible exact zD.refl _
    | with_reducible exact zD.none _
    | with_reducible refine zD.bind ?_ (fun _ => ?_)
    | with_reducible refine zD.ite ?_ ?_
    | with_reducible refine zD.sum (fun _ => ?_) (fun _ => ?_)
    | with_reducible refine zD.lim (fun _ => ?_))
noncomputable def zp (d : qb) (many : Int) : Int → Option (Int ⊕ Int)
  | k =>
    if 0 ≤ k ∧ k < ((qo.length : Nat) : Int) then Option.bind qo[Int.toNat k]? fun (a : ByteArray) =>
      Option.bind (za [] a) fun (a2 : Bool) =>
      if a2 = Bool.true then some (Sum.inl (Int.tmod (w64 (k + 1)) 6))
      else some (Sum.inr k)
    else none
theorem Jm : ∀ (d_L : List Int) (d_At many k : Int), XL2 evo 49 1 5 ⟨[(0, rP 0), (3, R.c (C.nils)), (4, rI many), (5, rI k)], [(0, B.blk 66 [dL 1 eI d_L, dI d_At])], 1, 33⟩ = (zg (zp (qb.mk d_L d_At) many) k).bind (fun (e : Int) => some (Go.Exit.exit 2, ⟨[(0, rP 0), (3, R.c (C.nils)), (4, rI many), (5, rI e)], [(0, B.blk 66 [dL 1 eI d_L, dI d_At])], 1, 33⟩)) :=
  fun d_L d_At many k => by
    revert k; exact q4i q9j q9Y (fun e => by exact ⟨_, rfl, fun h => by cases h⟩) fun x => by
      have := qcw; have := @q43.eq_1; have := @zU; have := @JL; have := @zp.eq_1; exact gA
noncomputable def QD (fu : Nat) (d : qb) (many : Int) : Int → Option (Int ⊕ Int)
  | k =>
    if 0 ≤ k ∧ k < ((qo.length : Nat) : Int) then Option.bind qo[Int.toNat k]? fun (a : ByteArray) =>
      Option.bind (QA fu [] a) fun (a2 : Bool) =>
      if a2 = Bool.true then some (Sum.inl (Int.tmod (w64 (k + 1)) 6))
      else some (Sum.inr k)
    else none
theorem Je (fu : Nat) (d : qb) (many : Int) : ∀ x, zD (QD fu d many x) (zp d many x) := by
  rintro k
  unfold QD zp
  try dsimp only
  repeat (first
    | with_reducible exact zD.refl _
    | with_reducible exact zD.none _
    | with_reducible apply QN
    | with_reducible refine zD.bind ?_ (fun _ => ?_)
    | with_reducible refine zD.ite ?_ ?_
    | with_reducible refine zD.sum (fun _ => ?_) (fun _ => ?_)
    | with_reducible refine zD.lim (fun _ => ?_))
theorem qhB : okL 72 q2X := qR (qi qeU) (by kernel_rfl) (by kernel_rfl)
def qha := JA_ @q2X.eq_1 (JA_ @Try.f72.eq_1 @qeU)
theorem qdw : lbO 72 4 = q63 := Qj (qi qeU) rfl
theorem qeo : okL 72 q63 := zI qhB (List.mem_of_getElem? (i := 0) (by kernel_rfl))
noncomputable def Qc (l : List ByteArray) (s : ByteArray) : Int → Option (Int ⊕ Int)
  | at0 =>
    if 0 < at0 then if 0 ≤ w64 (at0 - 1) ∧ w64 (at0 - 1) < ((l.length : Nat) : Int) then Option.bind l[Int.toNat (w64 (at0 - 1))]? fun (a : ByteArray) =>
        if (!(Go.Op.bytesLess (ByteArray.toList a) (ByteArray.toList s) || ByteArray.toList a == ByteArray.toList s)) = Bool.true then some (Sum.inl (w64 (at0 - 1)))
        else some (Sum.inr at0)
      else none
    else some (Sum.inr at0)
theorem JH : ∀ (l : List ByteArray) (s : ByteArray) (at0 : Int), XL2 evo 72 0 4 ⟨[(0, rL 1 eS l), (1, rS s), (5, rI at0)], [], 0, 39⟩ = (zg (Qc l s) at0).bind (fun (e : Int) => some (Go.Exit.exit 0, ⟨[(0, rL 1 eS l), (1, rS s), (5, rI e)], [], 0, 39⟩)) :=
  fun l s at0 => by
    revert at0; exact q4i qdw qeo (fun e => by exact ⟨_, rfl, fun h => by cases h⟩) fun x => by
      have := qha; have := @q63.eq_1; have := @Qc.eq_1; exact gA
noncomputable def zy (l : List ByteArray) (s : ByteArray) : Option (List ByteArray) :=
  Option.bind (za l s) fun (a : Bool) =>
  if a = Bool.true then some l
  else Option.bind (zg (Qc l s) ((l.length : Nat) : Int)) fun (a2 : Int) =>
  if 0 ≤ a2 ∧ a2 ≤ ((l.length : Nat) : Int) then if (List.take (Int.toNat a2 - 0) l).length ≤ Go.maxLen ∧ (List.take (Int.toNat a2 - 0) l).length * 16 ≤ 140737488355328 then if (List.take (Int.toNat a2 - 0) l).length + 1 ≤ Go.maxLen ∧ ((List.take (Int.toNat a2 - 0) l).length + 1) * 16 ≤ 140737488355328 then if 0 ≤ a2 ∧ a2 ≤ ((l.length : Nat) : Int) then if (List.take (Int.toNat a2 - 0) l).length + 1 + (List.take (l.length - Int.toNat a2) (List.drop (Int.toNat a2) l)).length ≤ Go.maxLen ∧ ((List.take (Int.toNat a2 - 0) l).length + 1 + (List.take (l.length - Int.toNat a2) (List.drop (Int.toNat a2) l)).length) * 16 ≤ 140737488355328 then some ((List.take (Int.toNat a2 - 0) l ++ [s]) ++ List.take (l.length - Int.toNat a2) (List.drop (Int.toNat a2) l))
          else none
        else none
      else none
    else none
  else none
theorem ZL : ∀ (l : List ByteArray) (s : ByteArray), ev 72 0 [rL 1 eS l, rS s] [] = (zy l s).bind (fun (e : List ByteArray) => some (rL 1 eS e, [])) :=
  fun l s => by
    rw [qO qeU qhm.2.2.2 qhB]
    have := qha; have := @Qf; have := @JH; have := @zy.eq_1; exact gA
theorem JI : ∀  (s : ByteArray), ev 72 0 [R.c (C.d (D.sl 1 0 [])), rS s] [] = (zy [] s).bind (fun (e : List ByteArray) => some (rL 1 eS e, [])) := by
  intro s; have h := ZL [] s
  first
    | exact h
    | (simp only [rL, dL, bR, bZ, Nat.reduceAdd] at h; exact h)
noncomputable def Z2 (fu : Nat) (l : List ByteArray) (s : ByteArray) : Option (List ByteArray) :=
  Option.bind (QA fu l s) fun (a : Bool) =>
  if a = Bool.true then some l
  else Option.bind (itT (Qc l s) fu ((l.length : Nat) : Int)) fun (a2 : Int) =>
  if 0 ≤ a2 ∧ a2 ≤ ((l.length : Nat) : Int) then if (List.take (Int.toNat a2 - 0) l).length ≤ Go.maxLen ∧ (List.take (Int.toNat a2 - 0) l).length * 16 ≤ 140737488355328 then if (List.take (Int.toNat a2 - 0) l).length + 1 ≤ Go.maxLen ∧ ((List.take (Int.toNat a2 - 0) l).length + 1) * 16 ≤ 140737488355328 then if 0 ≤ a2 ∧ a2 ≤ ((l.length : Nat) : Int) then if (List.take (Int.toNat a2 - 0) l).length + 1 + (List.take (l.length - Int.toNat a2) (List.drop (Int.toNat a2) l)).length ≤ Go.maxLen ∧ ((List.take (Int.toNat a2 - 0) l).length + 1 + (List.take (l.length - Int.toNat a2) (List.drop (Int.toNat a2) l)).length) * 16 ≤ 140737488355328 then some ((List.take (Int.toNat a2 - 0) l ++ [s]) ++ List.take (l.length - Int.toNat a2) (List.drop (Int.toNat a2) l))
          else none
        else none
      else none
    else none
  else none
theorem ZO (fu : Nat) (l : List ByteArray) (s : ByteArray) : zD (Z2 fu l s) (zy l s) := by
  unfold Z2 zy
  repeat (first
    | with_reducible exact zD.refl _
    | with_reducible exact zD.none _
    | with_reducible apply QN
    | with_reducible refine zD.bind ?_ (fun _ => ?_)
    | with_reducible refine zD.ite ?_ ?_
    | with_reducible refine zD.sum (fun _ => ?_) (fun _ => ?_)
    | with_reducible refine zD.lim (fun _ => ?_))
noncomputable def qZ (d : qb) (out : List ByteArray) (many : Int) : Int → Option (Int ⊕ Int)
  | k =>
    if 0 ≤ k ∧ k < ((qo.length : Nat) : Int) then Option.bind qo[Int.toNat k]? fun (a : ByteArray) =>
      Option.bind (za out a) fun (a2 : Bool) =>
      if a2 = Bool.true then some (Sum.inl (Int.tmod (w64 (k + 1)) 6))
      else some (Sum.inr k)
    else none
theorem ZI : ∀ (d_L : List Int) (d_At : Int) (out : List ByteArray) (many k : Int), XL2 evo 49 1 5 ⟨[(0, rP 0), (3, rL 1 eS out), (4, rI many), (5, rI k)], [(0, B.blk 66 [dL 1 eI d_L, dI d_At])], 1, 33⟩ = (zg (qZ (qb.mk d_L d_At) out many) k).bind (fun (e : Int) => some (Go.Exit.exit 2, ⟨[(0, rP 0), (3, rL 1 eS out), (4, rI many), (5, rI e)], [(0, B.blk 66 [dL 1 eI d_L, dI d_At])], 1, 33⟩)) :=
  fun d_L d_At out many k => by
    revert k; exact q4i q9j q9Y (fun e => by exact ⟨_, rfl, fun h => by cases h⟩) fun x => by
      have := qcw; have := @q43.eq_1; have := @zU; have := @Qf; have := @qZ.eq_1; exact gA
noncomputable def Q9 (fu : Nat) (d : qb) (out : List ByteArray) (many : Int) : Int → Option (Int ⊕ Int)
  | k =>
    if 0 ≤ k ∧ k < ((qo.length : Nat) : Int) then Option.bind qo[Int.toNat k]? fun (a : ByteArray) =>
      Option.bind (QA fu out a) fun (a2 : Bool) =>
      if a2 = Bool.true then some (Sum.inl (Int.tmod (w64 (k + 1)) 6))
      else some (Sum.inr k)
    else none
theorem ZC (fu : Nat) (d : qb) (out : List ByteArray) (many : Int) : ∀ x, zD (Q9 fu d out many x) (qZ d out many x) := by
  rintro k
  unfold Q9 qZ
  try dsimp only
  repeat (first
    | with_reducible exact zD.refl _
    | with_reducible exact zD.none _
    | with_reducible apply QN
    | with_reducible refine zD.bind ?_ (fun _ => ?_)
    | with_reducible refine zD.ite ?_ ?_
    | with_reducible refine zD.sum (fun _ => ?_) (fun _ => ?_)
    | with_reducible refine zD.lim (fun _ => ?_))
noncomputable def qP (many : Int) : (qb × List ByteArray) → Option ((qb × List ByteArray) ⊕ (qb × List ByteArray))
  | (d, out) =>
    if ((out.length : Nat) : Int) < many then Option.bind (qk 6 d) fun (a : Prod Int qb) =>
      Option.bind (zg (qZ a.2 out many) a.1) fun (a2 : Int) =>
      if 0 ≤ a2 ∧ a2 < ((qo.length : Nat) : Int) then Option.bind qo[Int.toNat a2]? fun (a3 : ByteArray) =>
        Option.bind (zy out a3) fun (a4 : List ByteArray) =>
        some (Sum.inl (a.2, a4))
      else none
    else some (Sum.inr (d, out))
theorem ZD : ∀ (d_L : List Int) (d_At : Int) (out : List ByteArray) (many : Int), XL2 evo 49 1 3 ⟨[(0, rP 0), (3, rL 1 eS out), (4, rI many)], [(0, B.blk 66 [dL 1 eI d_L, dI d_At])], 1, 33⟩ = (zg (qP many) ((qb.mk d_L d_At), out)).bind (fun (e : qb × List ByteArray) => some (Go.Exit.exit 0, ⟨[(3, rL 1 eS e.2)], [(0, B.blk 66 [dL 1 eI e.1.L, dI e.1.At])], 1, 33⟩)) :=
  fun d_L d_At out many => by
    have h := q3J (E := evo) (f := 49) (k := 1) (st := fun x : qb × List ByteArray => (⟨[(0, rP 0), (3, rL 1 eS x.2), (4, rI many)], [(0, B.blk 66 [dL 1 eI x.1.L, dI x.1.At])], 1, 33⟩ : S)) (ex := fun (e : qb × List ByteArray) => (Go.Exit.exit 0, ⟨[(3, rL 1 eS e.2)], [(0, B.blk 66 [dL 1 eI e.1.L, dI e.1.At])], 1, 33⟩)) (step := (qP many)) q9t q92 (fun e h => by cases h) (fun x => by
      obtain ⟨d, out⟩ := x; have := qcw; have := @q4p.eq_1; have := @qU; have := @ZI; have := @zU; have := @ZL; have := @qP.eq_1; exact gA) ((qb.mk d_L d_At), out)
    exact h
noncomputable def zN (d : qb) (many : Int) : Option ((qb × List ByteArray) ⊕ Unit) :=
  if 0 < many then Option.bind (qk 6 d) fun (a : Prod Int qb) =>
    Option.bind (zg (zp a.2 many) a.1) fun (a2 : Int) =>
    if 0 ≤ a2 ∧ a2 < ((qo.length : Nat) : Int) then Option.bind qo[Int.toNat a2]? fun (a3 : ByteArray) =>
      Option.bind (zy [] a3) fun (a4 : List ByteArray) =>
      Option.bind (zg (qP many) (a.2, a4)) fun (e0 : Prod qb (List ByteArray)) =>
      some (Sum.inl (e0.1, e0.2))
    else none
  else some (Sum.inr ())
theorem ZB : ∀ (d_L : List Int) (d_At many : Int), XL2 evo 49 1 3 ⟨[(0, rP 0), (3, R.c (C.nils)), (4, rI many)], [(0, B.blk 66 [dL 1 eI d_L, dI d_At])], 1, 33⟩ = (zN (qb.mk d_L d_At) many).bind (Sum.elim (fun (e : qb × List ByteArray) => some (Go.Exit.exit 0, ⟨[(3, rL 1 eS e.2)], [(0, B.blk 66 [dL 1 eI e.1.L, dI e.1.At])], 1, 33⟩)) (fun (e : Unit) => some (Go.Exit.exit 0, ⟨[(3, R.c (C.nils))], [(0, B.blk 66 [dL 1 eI d_L, dI d_At])], 1, 33⟩))) :=
  fun d_L d_At many => by
    rw [qbP q9t q92]
    have := qcw; have := @q4p.eq_1; have := @q5O; have := @qbW; have := @qep; have := @qbt; have := @qef; have := @qbU; have := @qdA; have := @ZD; have := @qU; have := @Jm; have := @zU; have := @JI; have := @zN.eq_1; exact gA
noncomputable def zt (d : qb) : Option (List ByteArray × qb) :=
  Option.bind (qk 6 d) fun (a : Prod Int qb) =>
  if 0 ≤ a.1 ∧ a.1 < 6 then Option.bind [(1 : Int), 1, 1, 2, 2, 3][Int.toNat a.1]? fun (a2 : Int) =>
    Option.bind (zN a.2 a2) fun (a3 : Sum (Prod qb (List ByteArray)) Unit) =>
    Sum.elim (fun (a4 : Prod qb (List ByteArray)) => some (a4.2, a4.1)) (fun (a5 : Unit) => some ([], a.2)) a3
  else none
theorem q0S : ∀ (d_L : List Int) (d_At : Int), ev 49 1 [rP 0] [(0, B.blk 66 [dL 1 eI d_L, dI d_At])] = (zt (qb.mk d_L d_At)).bind (fun (e : List ByteArray × qb) => some (rL 1 eS e.1, [(0, B.blk 66 [dL 1 eI e.2.L, dI e.2.At])])) :=
  fun d_L d_At => by
    rw [qO qcv qhW.2.2.2 qgQ]
    have := qcw; have := @qU; have := @ZB; have := @zt.eq_1; exact gA
noncomputable def qw (b1_Id : Int) (b1_From : Int) (b1_To : Int) (b1_Begin : Int) (b1_End : Int) (b1_Conv_Num : Int) (b1_Conv_Add : Int) (b1_Conv_Den : Int) (b1_Conv_Round : Int) (b2_Id : Int) (b2_From : Int) (b2_To : Int) (b2_Begin : Int) (b2_End : Int) (b2_In : List ByteArray) (b2_Conv_Num : Int) (b2_Conv_Add : Int) (b2_Conv_Den : Int) (b2_Conv_Round : Int) (t6 : List ByteArray) : (List qe × qb × Int) → Option ((List qe × qb × Int) ⊕ (List qe × qb))
  | (w3, b0, t7) =>
    if t7 < ((t6.length : Nat) : Int) then if (b2_From != b2_To) = Bool.true then if 0 ≤ t7 ∧ t7 < ((t6.length : Nat) : Int) then Option.bind t6[Int.toNat t7]? fun (a : ByteArray) =>
          Option.bind (qk 4 b0) fun (a2 : Prod Int qb) =>
          if 0 ≤ a2.1 ∧ a2.1 < 4 then Option.bind [(5 : Int), 6, 10, 3][Int.toNat a2.1]? fun (a3 : Int) =>
            if w3.length + 1 ≤ Go.maxLen ∧ (w3.length + 1) * 24 ≤ 140737488355328 then some (Sum.inl (w3 ++ [qe.mk a a3], a2.2, w64 (t7 + 1)))
            else none
          else none
        else none
      else if 0 ≤ t7 ∧ t7 < ((t6.length : Nat) : Int) then Option.bind t6[Int.toNat t7]? fun (a4 : ByteArray) =>
        Option.bind (za b2_In a4) fun (a5 : Bool) =>
        if (!a5) = Bool.true then if 0 ≤ t7 ∧ t7 < ((t6.length : Nat) : Int) then Option.bind t6[Int.toNat t7]? fun (a6 : ByteArray) =>
            Option.bind (qk 4 b0) fun (a7 : Prod Int qb) =>
            if 0 ≤ a7.1 ∧ a7.1 < 4 then Option.bind [(5 : Int), 6, 10, 3][Int.toNat a7.1]? fun (a8 : Int) =>
              if w3.length + 1 ≤ Go.maxLen ∧ (w3.length + 1) * 24 ≤ 140737488355328 then some (Sum.inl (w3 ++ [qe.mk a6 a8], a7.2, w64 (t7 + 1)))
              else none
            else none
          else none
        else some (Sum.inl (w3, b0, w64 (t7 + 1)))
      else none
    else some (Sum.inr (w3, b0))
theorem ZG : ∀ (w3 : List qe) (b0_L : List Int) (b0_At b1_Id b1_From b1_To b1_Begin b1_End b1_Conv_Num b1_Conv_Add b1_Conv_Den b1_Conv_Round b2_Id b2_From b2_To b2_Begin b2_End : Int) (b2_In : List ByteArray) (b2_Conv_Num b2_Conv_Add b2_Conv_Den b2_Conv_Round : Int) (t6 : List ByteArray) (t7 : Int) (w3_len : Nat), w3_len = w3.length → XL2 evo 18 1 6 ⟨[(0, rP 0), (4, rP 1), (5, rP 2), (6, rL 1 eS t6), (7, rI t7)], [(0, B.blk 66 [dL 1 eI b0_L, dI b0_At]), (1, B.blk 36 [dI b1_Id, dI b1_From, dI b1_To, dI b1_Begin, dI b1_End, C.nils, C.nils, dI b1_Conv_Num, dI b1_Conv_Add, dI b1_Conv_Den, dI b1_Conv_Round]), (2, B.blk 36 [dI b2_Id, dI b2_From, dI b2_To, dI b2_Begin, dI b2_End, dL 1 eS b2_In, dO 3 2 w3_len, dI b2_Conv_Num, dI b2_Conv_Add, dI b2_Conv_Den, dI b2_Conv_Round]), (3, bR 57 2 qd w3)], 4, 87⟩ = (zg (qw b1_Id b1_From b1_To b1_Begin b1_End b1_Conv_Num b1_Conv_Add b1_Conv_Den b1_Conv_Round b2_Id b2_From b2_To b2_Begin b2_End b2_In b2_Conv_Num b2_Conv_Add b2_Conv_Den b2_Conv_Round t6) (w3, (qb.mk b0_L b0_At), t7)).bind (fun (e : List qe × qb) => some (Go.Exit.exit 0, ⟨[(0, rP 0), (4, rP 1), (5, rP 2)], [(0, B.blk 66 [dL 1 eI e.2.L, dI e.2.At]), (1, B.blk 36 [dI b1_Id, dI b1_From, dI b1_To, dI b1_Begin, dI b1_End, C.nils, C.nils, dI b1_Conv_Num, dI b1_Conv_Add, dI b1_Conv_Den, dI b1_Conv_Round]), (2, B.blk 36 [dI b2_Id, dI b2_From, dI b2_To, dI b2_Begin, dI b2_End, dL 1 eS b2_In, dO 3 2 e.1.length, dI b2_Conv_Num, dI b2_Conv_Add, dI b2_Conv_Den, dI b2_Conv_Round]), (3, bR 57 2 qd e.1)], 4, 87⟩)) :=
  by
  intro w3 b0_L b0_At b1_Id b1_From b1_To b1_Begin b1_End b1_Conv_Num b1_Conv_Add b1_Conv_Den b1_Conv_Round b2_Id b2_From b2_To b2_Begin b2_End b2_In b2_Conv_Num b2_Conv_Add b2_Conv_Den b2_Conv_Round t6 t7 w3_len h0
  subst h0
  have h := q3J (E := evo) (f := 18) (k := 1) (st := fun x : List qe × qb × Int => (⟨[(0, rP 0), (4, rP 1), (5, rP 2), (6, rL 1 eS t6), (7, rI x.2.2)], [(0, B.blk 66 [dL 1 eI x.2.1.L, dI x.2.1.At]), (1, B.blk 36 [dI b1_Id, dI b1_From, dI b1_To, dI b1_Begin, dI b1_End, C.nils, C.nils, dI b1_Conv_Num, dI b1_Conv_Add, dI b1_Conv_Den, dI b1_Conv_Round]), (2, B.blk 36 [dI b2_Id, dI b2_From, dI b2_To, dI b2_Begin, dI b2_End, dL 1 eS b2_In, dO 3 2 x.1.length, dI b2_Conv_Num, dI b2_Conv_Add, dI b2_Conv_Den, dI b2_Conv_Round]), (3, bR 57 2 qd x.1)], 4, 87⟩ : S)) (ex := fun (e : List qe × qb) => (Go.Exit.exit 0, ⟨[(0, rP 0), (4, rP 1), (5, rP 2)], [(0, B.blk 66 [dL 1 eI e.2.L, dI e.2.At]), (1, B.blk 36 [dI b1_Id, dI b1_From, dI b1_To, dI b1_Begin, dI b1_End, C.nils, C.nils, dI b1_Conv_Num, dI b1_Conv_Add, dI b1_Conv_Den, dI b1_Conv_Round]), (2, B.blk 36 [dI b2_Id, dI b2_From, dI b2_To, dI b2_Begin, dI b2_End, dL 1 eS b2_In, dO 3 2 e.1.length, dI b2_Conv_Num, dI b2_Conv_Add, dI b2_Conv_Den, dI b2_Conv_Round]), (3, bR 57 2 qd e.1)], 4, 87⟩)) (step := (qw b1_Id b1_From b1_To b1_Begin b1_End b1_Conv_Num b1_Conv_Add b1_Conv_Den b1_Conv_Round b2_Id b2_From b2_To b2_Begin b2_End b2_In b2_Conv_Num b2_Conv_Add b2_Conv_Den b2_Conv_Round t6)) qfg qen (fun e h => by cases h) (fun x => by
    obtain ⟨w3, b0, t7⟩ := x; have := qhp; have := @q6F.eq_1; have := @qU; have := @Qf; have := @qw.eq_1; exact gA) (w3, (qb.mk b0_L b0_At), t7)
  exact h
theorem Z3 : ∀  (b0_L : List Int) (b0_At b1_Id b1_From b1_To b1_Begin b1_End b1_Conv_Num b1_Conv_Add b1_Conv_Den b1_Conv_Round b2_Id b2_From b2_To b2_Begin b2_End : Int) (b2_In : List ByteArray) (b2_Conv_Num b2_Conv_Add b2_Conv_Den b2_Conv_Round : Int) (t6 : List ByteArray) (t7 : Int), XL2 evo 18 1 6 ⟨[(0, rP 0), (4, rP 1), (5, rP 2), (6, rL 1 eS t6), (7, rI t7)], [(0, B.blk 66 [dL 1 eI b0_L, dI b0_At]), (1, B.blk 36 [dI b1_Id, dI b1_From, dI b1_To, dI b1_Begin, dI b1_End, C.nils, C.nils, dI b1_Conv_Num, dI b1_Conv_Add, dI b1_Conv_Den, dI b1_Conv_Round]), (2, B.blk 36 [dI b2_Id, dI b2_From, dI b2_To, dI b2_Begin, dI b2_End, dL 1 eS b2_In, dO 3 2 0, dI b2_Conv_Num, dI b2_Conv_Add, dI b2_Conv_Den, dI b2_Conv_Round]), (3, B.row 57 2 [])], 4, 87⟩ = (zg (qw b1_Id b1_From b1_To b1_Begin b1_End b1_Conv_Num b1_Conv_Add b1_Conv_Den b1_Conv_Round b2_Id b2_From b2_To b2_Begin b2_End b2_In b2_Conv_Num b2_Conv_Add b2_Conv_Den b2_Conv_Round t6) ([], (qb.mk b0_L b0_At), t7)).bind (fun (e : List qe × qb) => some (Go.Exit.exit 0, ⟨[(0, rP 0), (4, rP 1), (5, rP 2)], [(0, B.blk 66 [dL 1 eI e.2.L, dI e.2.At]), (1, B.blk 36 [dI b1_Id, dI b1_From, dI b1_To, dI b1_Begin, dI b1_End, C.nils, C.nils, dI b1_Conv_Num, dI b1_Conv_Add, dI b1_Conv_Den, dI b1_Conv_Round]), (2, B.blk 36 [dI b2_Id, dI b2_From, dI b2_To, dI b2_Begin, dI b2_End, dL 1 eS b2_In, dO 3 2 e.1.length, dI b2_Conv_Num, dI b2_Conv_Add, dI b2_Conv_Den, dI b2_Conv_Round]), (3, bR 57 2 qd e.1)], 4, 87⟩)) := by
  intro b0_L b0_At b1_Id b1_From b1_To b1_Begin b1_End b1_Conv_Num b1_Conv_Add b1_Conv_Den b1_Conv_Round b2_Id b2_From b2_To b2_Begin b2_End b2_In b2_Conv_Num b2_Conv_Add b2_Conv_Den b2_Conv_Round t6 t7; have h := ZG [] ((qb.mk b0_L b0_At)).L ((qb.mk b0_L b0_At)).At b1_Id b1_From b1_To b1_Begin b1_End b1_Conv_Num b1_Conv_Add b1_Conv_Den b1_Conv_Round b2_Id b2_From b2_To b2_Begin b2_End b2_In b2_Conv_Num b2_Conv_Add b2_Conv_Den b2_Conv_Round t6 t7 _ rfl
  first
    | exact h
    | (simp only [rL, dL, bR, bZ, Nat.reduceAdd] at h; exact h)
theorem qiE : okL 51 q4b := qR (qi qfy) (by kernel_rfl) (by kernel_rfl)
def qiP := JA_ @q4b.eq_1 (JA_ @Try.f51.eq_1 @qfy)
noncomputable def QG (from0 : Int) (to : Int) (round : Int) : Option qm :=
  if (w64 (w64 (10 * from0) + to) == 12) = Bool.true then some (qm.mk (-4) 500 100 round)
  else if (w64 (w64 (10 * from0) + to) == 13) = Bool.true then some (qm.mk 1 0 5 round)
  else if (w64 (w64 (10 * from0) + to) == 21) = Bool.true then some (qm.mk (-25) 125 1 round)
  else if (w64 (w64 (10 * from0) + to) == 23) = Bool.true then some (qm.mk (-5) 25 1 round)
  else if (w64 (w64 (10 * from0) + to) == 31) = Bool.true then some (qm.mk 5 0 1 round)
  else if (w64 (w64 (10 * from0) + to) == 32) = Bool.true then some (qm.mk (-1) 25 5 round)
  else some (qm.mk 1 0 1 round)
noncomputable def qC (from0 : Int) (to : Int) (round : Int) : qm :=
  if (w64 (w64 (10 * from0) + to) == 12) = Bool.true then qm.mk (-4) 500 100 round
  else if (w64 (w64 (10 * from0) + to) == 13) = Bool.true then qm.mk 1 0 5 round
  else if (w64 (w64 (10 * from0) + to) == 21) = Bool.true then qm.mk (-25) 125 1 round
  else if (w64 (w64 (10 * from0) + to) == 23) = Bool.true then qm.mk (-5) 25 1 round
  else if (w64 (w64 (10 * from0) + to) == 31) = Bool.true then qm.mk 5 0 1 round
  else if (w64 (w64 (10 * from0) + to) == 32) = Bool.true then qm.mk (-1) 25 5 round
  else qm.mk 1 0 1 round
theorem q0b (from0 to round : Int) : QG from0 to round = some (qC from0 to round) := by
  unfold QG qC
  simp only [Q1]
theorem q0O : ∀ (from0 to round : Int), ev 51 0 [rI from0, rI to, rI round] [] = some (R.agg [dI (qC from0 to round).Num, dI (qC from0 to round).Add, dI (qC from0 to round).Den, dI (qC from0 to round).Round], []) :=
  fun from0 to round => by
    have h : ev 51 0 [rI from0, rI to, rI round] [] = (QG from0 to round).bind (fun (e : qm) => some (R.agg [dI e.Num, dI e.Add, dI e.Den, dI e.Round], [])) := by
      rw [qO qfy qho.2.2.2 qiE]
      have := qiP; have := @QG.eq_1; exact gA
    rw [q0b] at h
    exact h
noncomputable def zS (x1 : Int) (v : qb) : Option (qa × qb) :=
  Option.bind (qk 3 v) fun (a : Prod Int qb) =>
  Option.bind (qk 3 a.2) fun (a2 : Prod Int qb) =>
  Option.bind (qk 5 a2.2) fun (a3 : Prod Int qb) =>
  if 0 ≤ a3.1 ∧ a3.1 < 5 then Option.bind [(0 : Int), 0, 0, 50, 200][Int.toNat a3.1]? fun (a4 : Int) =>
    Option.bind (zt a3.2) fun (a5 : Prod (List ByteArray) qb) =>
    Option.bind (qk 4 a5.2) fun (a6 : Prod Int qb) =>
    if (a6.1 == 0) = Bool.true then Option.bind (qk 400 a6.2) fun (a7 : Prod Int qb) =>
      Option.bind (zt a7.2) fun (a8 : Prod (List ByteArray) qb) =>
      Option.bind (zg (qw 0 0 0 0 0 0 0 0 0 x1 (w64 (1 + a.1)) (w64 (1 + a2.1)) a4 (w64 (a4 + a7.1)) a5.1 0 0 0 0 a8.1) ([], (a8.2, 0))) fun (a9 : Prod (List qe) qb) =>
      if (((a9.1.length : Nat) : Int) == 0) = Bool.true then Option.bind (qk 4 a9.2) fun (a10 : Prod Int qb) =>
        some (qa.mk x1 (w64 (1 + a.1)) (w64 (1 + a2.1)) a4 (w64 (a4 + a7.1)) a5.1 [qe.mk (ByteArray.mk (List.toArray [90, 57])) 5] (qC (w64 (1 + a.1)) (w64 (1 + a2.1)) (w64 (1 + a10.1))), a10.2)
      else Option.bind (qk 4 a9.2) fun (a11 : Prod Int qb) =>
      some (qa.mk x1 (w64 (1 + a.1)) (w64 (1 + a2.1)) a4 (w64 (a4 + a7.1)) a5.1 a9.1 (qC (w64 (1 + a.1)) (w64 (1 + a2.1)) (w64 (1 + a11.1))), a11.2)
    else Option.bind (zt a6.2) fun (a12 : Prod (List ByteArray) qb) =>
    Option.bind (zg (qw 0 0 0 0 0 0 0 0 0 x1 (w64 (1 + a.1)) (w64 (1 + a2.1)) a4 0 a5.1 0 0 0 0 a12.1) ([], (a12.2, 0))) fun (a13 : Prod (List qe) qb) =>
    if (((a13.1.length : Nat) : Int) == 0) = Bool.true then Option.bind (qk 4 a13.2) fun (a14 : Prod Int qb) =>
      some (qa.mk x1 (w64 (1 + a.1)) (w64 (1 + a2.1)) a4 0 a5.1 [qe.mk (ByteArray.mk (List.toArray [90, 57])) 5] (qC (w64 (1 + a.1)) (w64 (1 + a2.1)) (w64 (1 + a14.1))), a14.2)
    else Option.bind (qk 4 a13.2) fun (a15 : Prod Int qb) =>
    some (qa.mk x1 (w64 (1 + a.1)) (w64 (1 + a2.1)) a4 0 a5.1 a13.1 (qC (w64 (1 + a.1)) (w64 (1 + a2.1)) (w64 (1 + a15.1))), a15.2)
  else none
theorem JR : ∀ (x1 : Int) (v_L : List Int) (v_At : Int), ev 18 1 [rP 0, rI x1] [(0, B.blk 66 [dL 1 eI v_L, dI v_At])] = (zS x1 (qb.mk v_L v_At)).bind (fun (e : qa × qb) => some (R.agg [dI e.1.Id, dI e.1.From, dI e.1.To, dI e.1.Begin, dI e.1.End, dL 1 eS e.1.In, dL 2 qd e.1.Out, dI e.1.Conv.Num, dI e.1.Conv.Add, dI e.1.Conv.Den, dI e.1.Conv.Round], [(0, B.blk 66 [dL 1 eI e.2.L, dI e.2.At])])) :=
  fun x1 v_L v_At => by
    rw [qO qfk qh6.2.2.2 qhY]
    have := qhp; have := @qU; have := @q0S; have := @Z3; have := @q0O; have := @zS.eq_1; exact gA
noncomputable def zd (l : List (List Int)) : (List qa × Int) → Option ((List qa × Int) ⊕ (List qa))
  | (out, k) =>
    if k < ((l.length : Nat) : Int) then if k < 4 then if 0 ≤ k ∧ k < ((l.length : Nat) : Int) then Option.bind l[Int.toNat k]? fun (a : List Int) =>
          Option.bind (zS (w64 (3 + w64 (2 * k))) (qb.mk a 0)) fun (a2 : Prod qa qb) =>
          if out.length + 1 ≤ Go.maxLen ∧ (out.length + 1) * 120 ≤ 140737488355328 then some (Sum.inl (out ++ [a2.1], w64 (k + 1)))
          else none
        else none
      else some (Sum.inr out)
    else some (Sum.inr out)
theorem Jp : ∀ (out : List qa) (l : List (List Int)) (k : Int) (out_len : Nat), out_len = out.length → XL2 evo 6 0 3 ⟨[(0, rL 1 (eL 1 eI) l), (3, rO 0 11 out_len), (4, rI k)], [(0, bR 36 11 qc out)], 1, 29⟩ = (zg (zd l) (out, k)).bind (fun (e : List qa) => some (Go.Exit.exit 0, ⟨[(3, rO 0 11 e.length)], [(0, bR 36 11 qc e)], 1, 29⟩)) :=
  by
  intro out l k out_len h0
  subst h0
  revert k; revert out; exact qgJ qgT qgo (fun e => by exact ⟨_, rfl, fun h => by cases h⟩) fun out k => by
    have := cx6; have := @qbr.eq_1; have := @JR; have := @zd.eq_1; exact gA
theorem Zp : ∀  (l : List (List Int)) (k : Int), XL2 evo 6 0 3 ⟨[(0, rL 1 (eL 1 eI) l), (3, rO 0 11 0), (4, rI k)], [(0, B.row 36 11 [])], 1, 29⟩ = (zg (zd l) ([], k)).bind (fun (e : List qa) => some (Go.Exit.exit 0, ⟨[(3, rO 0 11 e.length)], [(0, bR 36 11 qc e)], 1, 29⟩)) := by
  intro l k; have h := Jp [] l k _ rfl
  first
    | exact h
    | (simp only [rL, dL, bR, bZ, Nat.reduceAdd] at h; exact h)
noncomputable def Qk (l : List (List Int)) : Option (List qa) :=
  Option.bind (zg (zd l) ([], 0)) fun (a : List qa) =>
  some a
theorem q0N : ∀ (l : List (List Int)), ev 6 0 [rL 1 (eL 1 eI) l] [] = (Qk l).bind (fun (e : List qa) => some (rL 11 qc e, [])) :=
  fun l => by
    rw [qO bd6 pw6.2.2.2 lo6]
    have := cx6; have := @Zp; have := @Qk.eq_1; exact gA
theorem lo7 : okL 7 q7q := qR (qi bd7) (by kernel_rfl) (by kernel_rfl)
def cx7 := JA_ @q7q.eq_1 (JA_ @Try.f7.eq_1 @bd7)
theorem qj9 : okL 19 q3Z := qR (qi qfL) (by kernel_rfl) (by kernel_rfl)
def qiD := JA_ @q3Z.eq_1 (JA_ @Try.f19.eq_1 @qfL)
theorem qhf : okL 52 q2U := qR (qi qdh) (by kernel_rfl) (by kernel_rfl)
def qhx := JA_ @q2U.eq_1 (JA_ @Try.f52.eq_1 @qdh)
theorem qeG : lbO 52 2 = q6V := Qj (qi qdh) rfl
theorem qeg : okL 52 q6V := zI qhf (List.mem_of_getElem? (i := 0) (by kernel_rfl))
theorem qjN : okL 53 q4r := qR (qi qfB) (by kernel_rfl) (by kernel_rfl)
def qjf := JA_ @q4r.eq_1 (JA_ @Try.f53.eq_1 @qfB)
noncomputable def Qg (a : qa) (v : Int) : Option Bool :=
  some (a.Id == v)
noncomputable def zj (a : qa) (v : Int) : Bool :=
  a.Id == v
theorem Jf (a : qa) (v : Int) : Qg a v = some (zj a v) := by
  unfold Qg zj
  simp only [Q1]
theorem JP : ∀ (a_Id a_From a_To a_Begin a_End : Int) (a_In : List ByteArray) (a_Out : List qe) (a_Conv_Num a_Conv_Add a_Conv_Den a_Conv_Round v : Int), ev 53 1 [R.agg [dI a_Id, dI a_From, dI a_To, dI a_Begin, dI a_End, dL 1 eS a_In, dL 2 qd a_Out, dI a_Conv_Num, dI a_Conv_Add, dI a_Conv_Den, dI a_Conv_Round], rP 0] [(0, B.blk 3 [dI v])] = some (rB (zj (qa.mk a_Id a_From a_To a_Begin a_End a_In a_Out (qm.mk a_Conv_Num a_Conv_Add a_Conv_Den a_Conv_Round)) v), [(0, B.blk 3 [dI v])]) :=
  fun a_Id a_From a_To a_Begin a_End a_In a_Out a_Conv_Num a_Conv_Add a_Conv_Den a_Conv_Round v => by
    have h : ev 53 1 [R.agg [dI a_Id, dI a_From, dI a_To, dI a_Begin, dI a_End, dL 1 eS a_In, dL 2 qd a_Out, dI a_Conv_Num, dI a_Conv_Add, dI a_Conv_Den, dI a_Conv_Round], rP 0] [(0, B.blk 3 [dI v])] = (Qg (qa.mk a_Id a_From a_To a_Begin a_End a_In a_Out (qm.mk a_Conv_Num a_Conv_Add a_Conv_Den a_Conv_Round)) v).bind (fun (e : Bool) => some (rB e, [(0, B.blk 3 [dI v])])) := by
      rw [qO qfB qhP.2.2.2 qjN]
      have := qjf; have := @Qg.eq_1; exact gA
    rw [Jf] at h
    exact h
noncomputable def qg (b0 : Int) (s : List qa) (t7 : Int) : Int → Option (Int ⊕ (Int ⊕ Unit))
  | t8 =>
    if t8 < t7 then if 0 ≤ t8 ∧ t8 < ((s.length : Nat) : Int) then Option.bind s[Int.toNat t8]? fun (a : qa) =>
        if zj a b0 = Bool.true then some (Sum.inr (Sum.inl t8))
        else some (Sum.inl (w64 (t8 + 1)))
      else none
    else some (Sum.inr (Sum.inr ()))
theorem qY : ∀ (b0 : Int) (s : List qa) (t7 t8 : Int), XL2 evo 52 1 2 ⟨[(0, rL 11 qc s), (1, R.c (C.fn 53 [] [dP 0])), (7, rI t7), (8, rI t8)], [(0, B.blk 3 [dI b0])], 1, 19⟩ = (zg (qg b0 s t7) t8).bind (Sum.elim (fun (e : Int) => some (Go.Exit.ret, ⟨[(4, rI e)], [(0, B.blk 3 [dI b0])], 1, 19⟩)) (fun (e : Unit) => some (Go.Exit.exit 0, ⟨[(4, R.any)], [(0, B.blk 3 [dI b0])], 1, 19⟩))) :=
  fun b0 s t7 t8 => by
    revert t8; exact q4i qeG qeg (fun e => by rcases e with _ | _ <;> exact ⟨_, rfl, fun h => by cases h⟩) fun x => by
      have := qhx; have := @q6V.eq_1; have := @JP; have := @qg.eq_1; exact gA
noncomputable def qs (s : List qa) (b0 : Int) : Option Int :=
  Option.bind (zg (qg b0 s ((s.length : Nat) : Int)) 0) fun (a : Sum Int Unit) =>
  Sum.elim (fun (a2 : Int) => some a2) (fun (a3 : Unit) => some (-1)) a
theorem zi : ∀ (s : List qa) (b0 : Int), ev 52 1 [rL 11 qc s, R.c (C.fn 53 [] [dP 0])] [(0, B.blk 3 [dI b0])] = (qs s b0).bind (fun (e : Int) => some (rI e, [(0, B.blk 3 [dI b0])])) :=
  fun s b0 => by
    rw [qO qdh qh3.2.2.2 qhf]
    have := qhx; have := @qY; have := @qs.eq_1; exact gA
noncomputable def Qn (l : List qa) (id : Int) : Option Int :=
  Option.bind (qs l id) fun (a : Int) =>
  some a
theorem q0Q : ∀ (l : List qa) (id : Int), ev 19 0 [rL 11 qc l, rI id] [] = (Qn l id).bind (fun (e : Int) => some (rI e, [])) :=
  fun l id => by
    rw [qO qfL qhi.2.2.2 qj9]
    have := qiD; have := @zi; have := @Qn.eq_1; exact gA
theorem qiu : okL 20 q4c := qR (qi qfQ) (by kernel_rfl) (by kernel_rfl)
def qiJ := JA_ @q4c.eq_1 (JA_ @Try.f20.eq_1 @qfQ)
noncomputable def QE (day : Int) : Option Bool :=
  if 0 ≤ day then some (decide (day ≤ 100000))
  else some Bool.false
noncomputable def qQ (day : Int) : Bool :=
  if 0 ≤ day then decide (day ≤ 100000)
  else Bool.false
theorem q0a (day : Int) : QE day = some (qQ day) := by
  unfold QE qQ
  simp only [Q1]
theorem Zo : ∀ (day : Int), ev 20 0 [rI day] [] = some (rB (qQ day), []) :=
  fun day => by
    have h : ev 20 0 [rI day] [] = (QE day).bind (fun (e : Bool) => some (rB e, [])) := by
      rw [qO qfQ qhR.2.2.2 qiu]
      have := qiJ; have := @QE.eq_1; exact gA
    rw [q0a] at h
    exact h
theorem qhQ : okL 21 q2B := qR (qi qf9) (by kernel_rfl) (by kernel_rfl)
def qhr := JA_ @q2B.eq_1 (JA_ @Try.f21.eq_1 @qf9)
theorem qea : lbO 21 4 = q5s := Qj (qi qf9) rfl
theorem qf3 : okL 21 q5s := zI qhQ (List.mem_of_getElem? (i := 0) (by kernel_rfl))
noncomputable def qM (s : List ByteArray) : Option Unit :=
  if s.length ≤ Go.maxLen ∧ s.length * 16 ≤ 140737488355328 then some ()
  else none
theorem Qb : ∀ (s : List ByteArray), ev 54 0 [rL 1 eS s] [] = (qM s).bind (fun (e : Unit) => some (rL 1 eS s, [])) :=
  fun s => by
    rw [qaB, qhg.2.2.2]
    have := @qM.eq_1; exact gA
noncomputable def qG (s : List qe) : Option Unit :=
  if s.length ≤ Go.maxLen ∧ s.length * 24 ≤ 140737488355328 then some ()
  else none
theorem zW : ∀ (s : List qe), ev 55 0 [rL 2 qd s] [] = (qG s).bind (fun (e : Unit) => some (rL 2 qd s, [])) :=
  fun s => by
    rw [qaB, qhH.2.2.2]
    have := @qG.eq_1; exact gA
noncomputable def qS (t12 : Int) : (List qa × Int) → Option ((List qa × Int) ⊕ (List qa))
  | (out, t13) =>
    if t13 < t12 then if 0 ≤ t13 ∧ t13 < ((out.length : Nat) : Int) then Option.bind out[Int.toNat t13]? fun (a : qa) =>
        Option.bind (qM a.In) fun (a2 : Unit) =>
        if 0 ≤ t13 ∧ t13 < ((out.length : Nat) : Int) then Option.bind out[Int.toNat t13]? fun (a3 : qa) =>
          Option.bind (qG a3.Out) fun (a4 : Unit) =>
          if 0 ≤ t13 ∧ t13 < ((out.length : Nat) : Int) then if Int.toNat t13 * 11 + 5 + 1 ≤ out.length * 11 then if 0 ≤ t13 ∧ t13 < ((out.length : Nat) : Int) then if Int.toNat t13 * 11 + 6 + 1 ≤ out.length * 11 then some (Sum.inl (List.modify (List.modify out (Int.toNat t13) (fun (x : qa) => qa.mk x.Id x.From x.To x.Begin x.End a.In x.Out x.Conv)) (Int.toNat t13) (fun (x1 : qa) => qa.mk x1.Id x1.From x1.To x1.Begin x1.End x1.In a3.Out x1.Conv), w64 (t13 + 1)))
                else none
              else none
            else none
          else none
        else none
      else none
    else some (Sum.inr out)
theorem ZY : ∀ (out : List qa) (t12 t13 : Int) (out_len : Nat), out_len = out.length → XL2 evo 21 0 4 ⟨[(3, rO 0 11 out_len), (12, rI t12), (13, rI t13)], [(0, bR 36 11 qc out)], 1, 38⟩ = (zg (qS t12) (out, t13)).bind (fun (e : List qa) => some (Go.Exit.exit 0, ⟨[(3, rO 0 11 e.length)], [(0, bR 36 11 qc e)], 1, 38⟩)) :=
  by
  intro out t12 t13 out_len h0
  subst h0
  revert t13; revert out; exact qgJ qea qf3 (fun e => by exact ⟨_, rfl, fun h => by cases h⟩) fun out t13 => by
    have := qhr; have := @q5s.eq_1; have := @Qb; have := @zW; have := @qS.eq_1; exact gA
noncomputable def zO (l : List qa) : Option (List qa) :=
  if 0 ≤ ((l.length : Nat) : Int) ∧ 120 * ((l.length : Nat) : Int) ≤ 281474976710656 ∧ ((l.length : Nat) : Int) ≤ 9223372036854775807 then if l.length * 11 ≤ (List.flatten (List.replicate l.length [C.d (D.int Go.IntKind.i64 0), C.d (D.int Go.IntKind.i64 0), C.d (D.int Go.IntKind.i64 0), C.d (D.int Go.IntKind.i64 0), C.d (D.int Go.IntKind.i64 0), C.nils, C.nils, C.d (D.int Go.IntKind.i64 0), C.d (D.int Go.IntKind.i64 0), C.d (D.int Go.IntKind.i64 0), C.d (D.int Go.IntKind.i64 0)])).length then Option.bind (zg (qS ((l.length : Nat) : Int)) (l, 0)) fun (a : List qa) =>
      some a
    else none
  else none
theorem q0g : ∀ (l : List qa), ev 21 0 [rL 11 qc l] [] = (zO l).bind (fun (e : List qa) => some (rO 0 11 e.length, [(0, bR 36 11 qc e)])) :=
  fun l => by
    rw [qO qf9 qhh.2.2.2 qhQ]
    have := qhr; have := @ZY; have := @zO.eq_1; exact gA
noncomputable def zT (x0 : List qa) (x1 : Int) (x2 : Int) (x3 : Int) : Option (List qa × Int) :=
  Option.bind (Qn x0 x1) fun (a : Int) =>
  if a < 0 then some ([], 5)
  else if (!(qQ x2)) = Bool.true then some ([], 23)
  else if (!(qQ x3)) = Bool.true then some ([], 23)
  else if (x2 == 0) = Bool.true then some ([], 23)
  else if x2 < x3 then some ([], 34)
  else if 0 ≤ a ∧ a < ((x0.length : Nat) : Int) then Option.bind x0[Int.toNat a]? fun (a2 : qa) =>
    if (a2.End != 0) = Bool.true then if 0 ≤ a ∧ a < ((x0.length : Nat) : Int) then Option.bind x0[Int.toNat a]? fun (a3 : qa) =>
        if 0 ≤ a ∧ a < ((x0.length : Nat) : Int) then Option.bind x0[Int.toNat a]? fun (a4 : qa) =>
          if a3.End ≤ max x2 a4.Begin then some ([], 34)
          else Option.bind (zO x0) fun (a5 : List qa) =>
          if 0 ≤ a ∧ a < ((a5.length : Nat) : Int) then Option.bind a5[Int.toNat a]? fun (a6 : qa) =>
            if 0 ≤ a ∧ a < ((a5.length : Nat) : Int) then if Int.toNat a * 11 + 4 + 1 ≤ a5.length * 11 then some (List.modify a5 (Int.toNat a) (fun (x : qa) => qa.mk x.Id x.From x.To x.Begin (max x2 a6.Begin) x.In x.Out x.Conv), 0)
              else none
            else none
          else none
        else none
      else none
    else Option.bind (zO x0) fun (a7 : List qa) =>
    if 0 ≤ a ∧ a < ((a7.length : Nat) : Int) then Option.bind a7[Int.toNat a]? fun (a8 : qa) =>
      if 0 ≤ a ∧ a < ((a7.length : Nat) : Int) then if Int.toNat a * 11 + 4 + 1 ≤ a7.length * 11 then some (List.modify a7 (Int.toNat a) (fun (x4 : qa) => qa.mk x4.Id x4.From x4.To x4.Begin (max x2 a8.Begin) x4.In x4.Out x4.Conv), 0)
        else none
      else none
    else none
  else none
theorem q01 : ∀ (x0 : List qa) (x1 x2 x3 : Int), ev 7 0 [rL 11 qc x0, rI x1, rI x2, rI x3] [] = (zT x0 x1 x2 x3).bind (fun (e : List qa × Int) => some (R.tup [rL 11 qc e.1, rI e.2], [])) :=
  fun x0 x1 x2 x3 => by
    rw [qO bd7 pw7.2.2.2 lo7]
    have := cx7; have := @q0Q; have := @Zo; have := @q0g; have := @zT.eq_1; exact gA
theorem lo8 : okL 8 q84 := qR (qi bd8) (by kernel_rfl) (by kernel_rfl)
def cx8 := JA_ @q84.eq_1 (JA_ @Try.f8.eq_1 @bd8)
theorem qjd : okL 22 q4s := qR (qi qfI) (by kernel_rfl) (by kernel_rfl)
def qjc := JA_ @q4s.eq_1 (JA_ @Try.f22.eq_1 @qfI)
noncomputable def Qr (day : Int) (begin : Int) (end0 : Int) : Option Bool :=
  if begin ≤ day then if (end0 == 0) = Bool.true then some Bool.true
    else some (decide (day < end0))
  else some Bool.false
noncomputable def zn (day : Int) (begin : Int) (end0 : Int) : Bool :=
  if begin ≤ day then if (end0 == 0) = Bool.true then Bool.true
    else decide (day < end0)
  else Bool.false
theorem Ju (day begin end0 : Int) : Qr day begin end0 = some (zn day begin end0) := by
  unfold Qr zn
  simp only [Q1]
theorem q0f : ∀ (day begin end0 : Int), ev 22 0 [rI day, rI begin, rI end0] [] = some (rB (zn day begin end0), []) :=
  fun day begin end0 => by
    have h : ev 22 0 [rI day, rI begin, rI end0] [] = (Qr day begin end0).bind (fun (e : Bool) => some (rB e, [])) := by
      rw [qO qfI qhv.2.2.2 qjd]
      have := qjc; have := @Qr.eq_1; exact gA
    rw [Ju] at h
    exact h
noncomputable def Qs (a : qa) (day : Int) : Option Bool :=
  some (zn day a.Begin a.End)
noncomputable def qf (a : qa) (day : Int) : Bool :=
  zn day a.Begin a.End
theorem Jy (a : qa) (day : Int) : Qs a day = some (qf a day) := by
  unfold Qs qf
  simp only [Q1]
theorem Zc : ∀ (a_Id a_From a_To a_Begin a_End : Int) (a_In : List ByteArray) (a_Out : List qe) (a_Conv_Num a_Conv_Add a_Conv_Den a_Conv_Round day : Int), ev 8 0 [R.agg [dI a_Id, dI a_From, dI a_To, dI a_Begin, dI a_End, dL 1 eS a_In, dL 2 qd a_Out, dI a_Conv_Num, dI a_Conv_Add, dI a_Conv_Den, dI a_Conv_Round], rI day] [] = some (rB (qf (qa.mk a_Id a_From a_To a_Begin a_End a_In a_Out (qm.mk a_Conv_Num a_Conv_Add a_Conv_Den a_Conv_Round)) day), []) :=
  fun a_Id a_From a_To a_Begin a_End a_In a_Out a_Conv_Num a_Conv_Add a_Conv_Den a_Conv_Round day => by
    have h : ev 8 0 [R.agg [dI a_Id, dI a_From, dI a_To, dI a_Begin, dI a_End, dL 1 eS a_In, dL 2 qd a_Out, dI a_Conv_Num, dI a_Conv_Add, dI a_Conv_Den, dI a_Conv_Round], rI day] [] = (Qs (qa.mk a_Id a_From a_To a_Begin a_End a_In a_Out (qm.mk a_Conv_Num a_Conv_Add a_Conv_Den a_Conv_Round)) day).bind (fun (e : Bool) => some (rB e, [])) := by
      rw [qO bd8 pw8.2.2.2 lo8]
      have := cx8; have := @q0f; have := @Qs.eq_1; exact gA
    rw [Jy] at h
    exact h
theorem lo9 : okL 9 q6j := qR (qi bd9) (by kernel_rfl) (by kernel_rfl)
def cx9 := JA_ @q6j.eq_1 (JA_ @Try.f9.eq_1 @bd9)
theorem qgV : lbO 9 5 = qaG := Qj (qi bd9) rfl
theorem qgF : okL 9 qaG := zI lo9 (List.mem_of_getElem? (i := 0) (by kernel_rfl))
theorem qh7 : okL 23 q2Z := qR (qi qf8) (by kernel_rfl) (by kernel_rfl)
def qh2 := JA_ @q2Z.eq_1 (JA_ @Try.f23.eq_1 @qf8)
theorem qf6 : lbO 23 4 = q70 := Qj (qi qf8) rfl
theorem qdJ : okL 23 q70 := zI qh7 (List.mem_of_getElem? (i := 0) (by kernel_rfl))
noncomputable def qJ (a : List ByteArray) (b : List ByteArray) : Int → Option (Int ⊕ (Unit ⊕ Unit))
  | k =>
    if k < ((a.length : Nat) : Int) then if 0 ≤ k ∧ k < ((a.length : Nat) : Int) then Option.bind a[Int.toNat k]? fun (a2 : ByteArray) =>
        if 0 ≤ k ∧ k < ((b.length : Nat) : Int) then Option.bind b[Int.toNat k]? fun (a3 : ByteArray) =>
          if (!(ByteArray.toList a2 == ByteArray.toList a3)) = Bool.true then some (Sum.inr (Sum.inl ()))
          else some (Sum.inl (w64 (k + 1)))
        else none
      else none
    else some (Sum.inr (Sum.inr ()))
theorem Za : ∀ (a b : List ByteArray) (k : Int), XL2 evo 23 0 4 ⟨[(0, rL 1 eS a), (1, rL 1 eS b), (5, rI k)], [], 0, 26⟩ = (zg (qJ a b) k).bind (Sum.elim (fun (e : Unit) => some (Go.Exit.ret, ⟨[(4, rB Bool.false)], [], 0, 26⟩)) (fun (e : Unit) => some (Go.Exit.exit 0, ⟨[(4, R.any)], [], 0, 26⟩))) :=
  fun a b k => by
    revert k; exact q4i qf6 qdJ (fun e => by rcases e with _ | _ <;> exact ⟨_, rfl, fun h => by cases h⟩) fun x => by
      have := qh2; have := @q70.eq_1; have := @qJ.eq_1; exact gA
noncomputable def zm (a : List ByteArray) (b : List ByteArray) : Option Bool :=
  if (((a.length : Nat) : Int) != ((b.length : Nat) : Int)) = Bool.true then some Bool.false
  else Option.bind (zg (qJ a b) 0) fun (a2 : Sum Unit Unit) =>
  Sum.elim (fun (a3 : Unit) => some Bool.false) (fun (a4 : Unit) => some Bool.true) a2
theorem ZE : ∀ (a b : List ByteArray), ev 23 0 [rL 1 eS a, rL 1 eS b] [] = (zm a b).bind (fun (e : Bool) => some (rB e, [])) :=
  fun a b => by
    rw [qO qf8 qhq.2.2.2 qh7]
    have := qh2; have := @Za; have := @zm.eq_1; exact gA
noncomputable def zc (b0 : qa) (b1 : qa) : Int → Option (Int ⊕ (Unit ⊕ Unit))
  | t6 =>
    if t6 < ((b0.Out.length : Nat) : Int) then if 0 ≤ t6 ∧ t6 < ((b0.Out.length : Nat) : Int) then Option.bind b0.Out[Int.toNat t6]? fun (a : qe) =>
        if 0 ≤ t6 ∧ t6 < ((b1.Out.length : Nat) : Int) then Option.bind b1.Out[Int.toNat t6]? fun (a2 : qe) =>
          if (!(ByteArray.toList a.Code == ByteArray.toList a2.Code && a.Credits == a2.Credits)) = Bool.true then some (Sum.inr (Sum.inl ()))
          else some (Sum.inl (w64 (t6 + 1)))
        else none
      else none
    else some (Sum.inr (Sum.inr ()))
theorem J5 : ∀ (b0_Id b0_From b0_To b0_Begin b0_End : Int) (b0_In : List ByteArray) (b0_Out : List qe) (b0_Conv_Num b0_Conv_Add b0_Conv_Den b0_Conv_Round b1_Id b1_From b1_To b1_Begin b1_End : Int) (b1_In : List ByteArray) (b1_Out : List qe) (b1_Conv_Num b1_Conv_Add b1_Conv_Den b1_Conv_Round t6 : Int), XL2 evo 9 0 5 ⟨[(2, rP 0), (3, rP 1), (6, rI t6)], [(0, B.blk 36 [dI b0_Id, dI b0_From, dI b0_To, dI b0_Begin, dI b0_End, dL 1 eS b0_In, dL 2 qd b0_Out, dI b0_Conv_Num, dI b0_Conv_Add, dI b0_Conv_Den, dI b0_Conv_Round]), (1, B.blk 36 [dI b1_Id, dI b1_From, dI b1_To, dI b1_Begin, dI b1_End, dL 1 eS b1_In, dL 2 qd b1_Out, dI b1_Conv_Num, dI b1_Conv_Add, dI b1_Conv_Den, dI b1_Conv_Round])], 2, 83⟩ = (zg (zc (qa.mk b0_Id b0_From b0_To b0_Begin b0_End b0_In b0_Out (qm.mk b0_Conv_Num b0_Conv_Add b0_Conv_Den b0_Conv_Round)) (qa.mk b1_Id b1_From b1_To b1_Begin b1_End b1_In b1_Out (qm.mk b1_Conv_Num b1_Conv_Add b1_Conv_Den b1_Conv_Round))) t6).bind (Sum.elim (fun (e : Unit) => some (Go.Exit.ret, ⟨[(4, rB Bool.false)], [], 0, 83⟩)) (fun (e : Unit) => some (Go.Exit.exit 0, ⟨[(4, R.any)], [], 0, 83⟩))) :=
  fun b0_Id b0_From b0_To b0_Begin b0_End b0_In b0_Out b0_Conv_Num b0_Conv_Add b0_Conv_Den b0_Conv_Round b1_Id b1_From b1_To b1_Begin b1_End b1_In b1_Out b1_Conv_Num b1_Conv_Add b1_Conv_Den b1_Conv_Round t6 => by
    revert t6; exact q4i qgV qgF (fun e => by rcases e with _ | _ <;> exact ⟨_, rfl, fun h => by cases h⟩) fun x => by
      have := cx9; have := @qaG.eq_1; have := @zc.eq_1; exact gA
noncomputable def Qo (x0 : qa) (x1 : qa) : Option Bool :=
  Option.bind (zm x0.In x1.In) fun (a : Bool) =>
  if (!a) = Bool.true then some Bool.false
  else if (((x0.Out.length : Nat) : Int) != ((x1.Out.length : Nat) : Int)) = Bool.true then some Bool.false
  else if (x0.Id != x1.Id) = Bool.true then some Bool.false
  else if (x0.From != x1.From) = Bool.true then some Bool.false
  else if (x0.To != x1.To) = Bool.true then some Bool.false
  else if (x0.Begin != x1.Begin) = Bool.true then some Bool.false
  else if (x0.End != x1.End) = Bool.true then some Bool.false
  else if (!(x0.Conv.Num == x1.Conv.Num && (x0.Conv.Add == x1.Conv.Add && (x0.Conv.Den == x1.Conv.Den && x0.Conv.Round == x1.Conv.Round)))) = Bool.true then some Bool.false
  else Option.bind (zg (zc x0 x1) 0) fun (a2 : Sum Unit Unit) =>
  Sum.elim (fun (a3 : Unit) => some Bool.false) (fun (a4 : Unit) => some Bool.true) a2
theorem q15 : ∀ (x0_Id x0_From x0_To x0_Begin x0_End : Int) (x0_In : List ByteArray) (x0_Out : List qe) (x0_Conv_Num x0_Conv_Add x0_Conv_Den x0_Conv_Round x1_Id x1_From x1_To x1_Begin x1_End : Int) (x1_In : List ByteArray) (x1_Out : List qe) (x1_Conv_Num x1_Conv_Add x1_Conv_Den x1_Conv_Round : Int), ev 9 0 [R.agg [dI x0_Id, dI x0_From, dI x0_To, dI x0_Begin, dI x0_End, dL 1 eS x0_In, dL 2 qd x0_Out, dI x0_Conv_Num, dI x0_Conv_Add, dI x0_Conv_Den, dI x0_Conv_Round], R.agg [dI x1_Id, dI x1_From, dI x1_To, dI x1_Begin, dI x1_End, dL 1 eS x1_In, dL 2 qd x1_Out, dI x1_Conv_Num, dI x1_Conv_Add, dI x1_Conv_Den, dI x1_Conv_Round]] [] = (Qo (qa.mk x0_Id x0_From x0_To x0_Begin x0_End x0_In x0_Out (qm.mk x0_Conv_Num x0_Conv_Add x0_Conv_Den x0_Conv_Round)) (qa.mk x1_Id x1_From x1_To x1_Begin x1_End x1_In x1_Out (qm.mk x1_Conv_Num x1_Conv_Add x1_Conv_Den x1_Conv_Round))).bind (fun (e : Bool) => some (rB e, [])) :=
  fun x0_Id x0_From x0_To x0_Begin x0_End x0_In x0_Out x0_Conv_Num x0_Conv_Add x0_Conv_Den x0_Conv_Round x1_Id x1_From x1_To x1_Begin x1_End x1_In x1_Out x1_Conv_Num x1_Conv_Add x1_Conv_Den x1_Conv_Round => by
    rw [qO bd9 pw9.2.2.2 lo9]
    have := cx9; have := @ZE; have := @J5; have := @Qo.eq_1; exact gA
theorem qge : okL 10 q1J := qR (qi qcs) (by kernel_rfl) (by kernel_rfl)
def qg2 := JA_ @q1J.eq_1 (JA_ @Try.f10.eq_1 @qcs)
theorem qbK : lbO 10 12 = q3p := Qj (qi qcs) rfl
theorem qbv : okL 10 q3p := zI qge (List.mem_of_getElem? (i := 0) (by kernel_rfl))
theorem qc0 : lbO 10 15 = q3q := Qj (qi qcs) rfl
theorem qaC : okL 10 q3q := zI qge (List.mem_of_getElem? (i := 1) (by kernel_rfl))
theorem qiY : okL 24 q41 := qR (qi qfE) (by kernel_rfl) (by kernel_rfl)
def qjb := JA_ @q41.eq_1 (JA_ @Try.f24.eq_1 @qfE)
noncomputable def Qh (n : Int) (low : Int) (high : Int) : Option Bool :=
  if n < low then some Bool.true
  else some (decide (high < n))
noncomputable def qx (n : Int) (low : Int) (high : Int) : Bool :=
  if n < low then Bool.true
  else decide (high < n)
theorem J8 (n low high : Int) : Qh n low high = some (qx n low high) := by
  unfold Qh qx
  simp only [Q1]
theorem QU : ∀ (n low high : Int), ev 24 0 [rI n, rI low, rI high] [] = some (rB (qx n low high), []) :=
  fun n low high => by
    have h : ev 24 0 [rI n, rI low, rI high] [] = (Qh n low high).bind (fun (e : Bool) => some (rB e, [])) := by
      rw [qO qfE qhu.2.2.2 qiY]
      have := qjb; have := @Qh.eq_1; exact gA
    rw [J8] at h
    exact h
theorem qhj : okL 25 q2Y := qR (qi qf4) (by kernel_rfl) (by kernel_rfl)
def qhZ := JA_ @q2Y.eq_1 (JA_ @Try.f25.eq_1 @qf4)
theorem qdE : lbO 25 3 = q5Y := Qj (qi qf4) rfl
theorem qdB : okL 25 q5Y := zI qhj (List.mem_of_getElem? (i := 0) (by kernel_rfl))
noncomputable def qT (t6 : List qe) (t7 : Int) : (List ByteArray × Int) → Option ((List ByteArray × Int) ⊕ (List ByteArray))
  | (out, t8) =>
    if t8 < t7 then if 0 ≤ t8 ∧ t8 < ((t6.length : Nat) : Int) then Option.bind t6[Int.toNat t8]? fun (a : qe) =>
        if out.length + 1 ≤ Go.maxLen ∧ (out.length + 1) * 16 ≤ 140737488355328 then some (Sum.inl (out ++ [a.Code], w64 (t8 + 1)))
        else none
      else none
    else some (Sum.inr out)
theorem ZT : ∀ (out : List ByteArray) (t6 : List qe) (t7 t8 : Int) (out_len : Nat), out_len = out.length → XL2 evo 25 0 3 ⟨[(3, rO 0 1 out_len), (6, rL 2 qd t6), (7, rI t7), (8, rI t8)], [(0, bR 9 1 eS out)], 1, 19⟩ = (zg (qT t6 t7) (out, t8)).bind (fun (e : List ByteArray) => some (Go.Exit.exit 0, ⟨[(3, rO 0 1 e.length)], [(0, bR 9 1 eS e)], 1, 19⟩)) :=
  by
  intro out t6 t7 t8 out_len h0
  subst h0
  revert t8; revert out; exact qgJ qdE qdB (fun e => by exact ⟨_, rfl, fun h => by cases h⟩) fun out t8 => by
    have := qhZ; have := @q5Y.eq_1; have := @qT.eq_1; exact gA
theorem Zi : ∀  (t6 : List qe) (t7 t8 : Int), XL2 evo 25 0 3 ⟨[(3, rO 0 1 0), (6, rL 2 qd t6), (7, rI t7), (8, rI t8)], [(0, B.row 9 1 [])], 1, 19⟩ = (zg (qT t6 t7) ([], t8)).bind (fun (e : List ByteArray) => some (Go.Exit.exit 0, ⟨[(3, rO 0 1 e.length)], [(0, bR 9 1 eS e)], 1, 19⟩)) := by
  intro t6 t7 t8; have h := ZT [] t6 t7 t8 _ rfl
  first
    | exact h
    | (simp only [rL, dL, bR, bZ, Nat.reduceAdd] at h; exact h)
noncomputable def zz (l : List qe) : Option (List ByteArray) :=
  Option.bind (zg (qT l ((l.length : Nat) : Int)) ([], 0)) fun (a : List ByteArray) =>
  some a
theorem q08 : ∀ (l : List qe), ev 25 0 [rL 2 qd l] [] = (zz l).bind (fun (e : List ByteArray) => some (rL 1 eS e, [])) :=
  fun l => by
    rw [qO qf4 qh4.2.2.2 qhj]
    have := qhZ; have := @Zi; have := @zz.eq_1; exact gA
theorem qi9 : okL 26 q4d := qR (qi qft) (by kernel_rfl) (by kernel_rfl)
def qjP := JA_ @q4d.eq_1 (JA_ @Try.f26.eq_1 @qft)
theorem qjw : okL 57 q45 := qR (qi qfJ) (by kernel_rfl) (by kernel_rfl)
def qk6 := JA_ @q45.eq_1 (JA_ @Try.f57.eq_1 @qfJ)
theorem qhl : okL 73 q30 := qR (qi qcQ) (by kernel_rfl) (by kernel_rfl)
def qh9 := JA_ @q30.eq_1 (JA_ @Try.f73.eq_1 @qcQ)
theorem qd7 : lbO 73 2 = q6r := Qj (qi qcQ) rfl
theorem qe0 : okL 73 q6r := zI qhl (List.mem_of_getElem? (i := 0) (by kernel_rfl))
theorem qin : okL 56 q3X := qR (qi qfu) (by kernel_rfl) (by kernel_rfl)
def qi5 := JA_ @q3X.eq_1 (JA_ @Try.f56.eq_1 @qfu)
noncomputable def Q3 (c : Int) : Option Bool :=
  if c < 65 then if c < 48 then some Bool.true
    else some (decide (57 < c))
  else if 90 < c then if c < 48 then some Bool.true
    else some (decide (57 < c))
  else some Bool.false
noncomputable def zM (c : Int) : Bool :=
  if c < 65 then if c < 48 then Bool.true
    else decide (57 < c)
  else if 90 < c then if c < 48 then Bool.true
    else decide (57 < c)
  else Bool.false
theorem J1 (c : Int) : Q3 c = some (zM c) := by
  unfold Q3 zM
  simp only [Q1]
theorem Jt : ∀ (c : Int), ev 56 0 [R.c (C.d (D.int .i32 c))] [] = some (rB (zM c), []) :=
  fun c => by
    have h : ev 56 0 [R.c (C.d (D.int .i32 c))] [] = (Q3 c).bind (fun (e : Bool) => some (rB e, [])) := by
      rw [qO qfu qhn.2.2.2 qin]
      have := qi5; have := @Q3.eq_1; exact gA
    rw [J1] at h
    exact h
noncomputable def zf (it0_s : ByteArray) (truth : Bool) : Nat → Option (Nat ⊕ (Int ⊕ Unit))
  | it0_p =>
    if it0_p < ByteArray.size it0_s then if (zM (((@Go.Utf8.decode it0_s it0_p).1 : Nat) : Int) == truth) = Bool.true then some (Sum.inr (Sum.inl ((it0_p : Nat) : Int)))
      else some (Sum.inl (it0_p + (@Go.Utf8.decode it0_s it0_p).2))
    else some (Sum.inr (Sum.inr ()))
theorem QL : ∀ (it0_s : ByteArray) (it0_p : Nat) (truth : Bool), XL2 evo 73 0 2 ⟨[(1, R.c (C.fn 56 [] [])), (2, rB truth), (10, R.c (C.hd .iter 0))], [(0, B.ob (AO.si it0_s it0_p))], 1, 21⟩ = (zg (zf it0_s truth) it0_p).bind (Sum.elim (fun (e : Int) => some (Go.Exit.ret, ⟨[(6, rI e)], [], 0, 21⟩)) (fun (e : Unit) => some (Go.Exit.exit 0, ⟨[(6, R.any)], [], 0, 21⟩))) :=
  fun it0_s it0_p truth => by
    revert it0_p; exact q4i qd7 qe0 (fun e => by rcases e with _ | _ <;> exact ⟨_, rfl, fun h => by cases h⟩) fun x => by
      have := qh9; have := @q6r.eq_1; have := @Jt; have := @zf.eq_1; exact gA
noncomputable def zb (s : ByteArray) (truth : Bool) : Option Int :=
  Option.bind (zg (zf s truth) 0) fun (a : Sum Int Unit) =>
  Sum.elim (fun (a2 : Int) => some a2) (fun (a3 : Unit) => some (-1)) a
theorem Zj : ∀ (s : ByteArray) (truth : Bool), ev 73 0 [rS s, R.c (C.fn 56 [] []), rB truth] [] = (zb s truth).bind (fun (e : Int) => some (rI e, [])) :=
  fun s truth => by
    rw [qO qcQ qhk.2.2.2 qhl]
    have := qh9; have := @QL; have := @zb.eq_1; exact gA
noncomputable def zX (fu : Nat) (s : ByteArray) (truth : Bool) : Option Int :=
  Option.bind (itT (zf s truth) fu 0) fun (a : Sum Int Unit) =>
  Sum.elim (fun (a2 : Int) => some a2) (fun (a3 : Unit) => some (-1)) a
theorem Ze (fu : Nat) (s : ByteArray) (truth : Bool) : zD (zX fu s truth) (zb s truth) := by
  unfold zX zb
  repeat (first
    | with_reducible exact zD.refl _
    | with_reducible exact zD.none _
    | with_reducible refine zD.bind ?_ (fun _ => ?_)
    | with_reducible refine zD.ite ?_ ?_
    | with_reducible refine zD.sum (fun _ => ?_) (fun _ => ?_)
    | with_reducible refine zD.lim (fun _ => ?_))
noncomputable def ze (s : ByteArray) : Option Int :=
  Option.bind (zb s Bool.true) fun (e0 : Int) =>
  some e0
theorem Zh : ∀ (s : ByteArray), ev 57 0 [rS s, R.c (C.fn 56 [] [])] [] = (ze s).bind (fun (e : Int) => some (rI e, [])) :=
  fun s => by
    rw [qO qfJ qh1.2.2.2 qjw]
    have := qk6; have := @Zj; have := @ze.eq_1; exact gA
noncomputable def zV (fu : Nat) (s : ByteArray) : Option Int :=
  Option.bind (zX fu s Bool.true) fun (e0 : Int) =>
  some e0
theorem Zf (fu : Nat) (s : ByteArray) : zD (zV fu s) (ze s) := by
  unfold zV ze
  repeat (first
    | with_reducible exact zD.refl _
    | with_reducible exact zD.none _
    | with_reducible apply Ze
    | with_reducible refine zD.bind ?_ (fun _ => ?_)
    | with_reducible refine zD.ite ?_ ?_
    | with_reducible refine zD.sum (fun _ => ?_) (fun _ => ?_)
    | with_reducible refine zD.lim (fun _ => ?_))
noncomputable def zJ (s : ByteArray) : Option Bool :=
  if (!(ByteArray.toList s == ByteArray.toList (ByteArray.mk (List.toArray [])))) = Bool.true then if ((ByteArray.size s : Nat) : Int) ≤ 8 then Option.bind (ze s) fun (a : Int) =>
      some (decide (a < 0))
    else some Bool.false
  else some Bool.false
theorem q0e : ∀ (s : ByteArray), ev 26 0 [rS s] [] = (zJ s).bind (fun (e : Bool) => some (rB e, [])) :=
  fun s => by
    rw [qO qft qhJ.2.2.2 qi9]
    have := qjP; have := @Zh; have := @zJ.eq_1; exact gA
noncomputable def Z4 (fu : Nat) (s : ByteArray) : Option Bool :=
  if (!(ByteArray.toList s == ByteArray.toList (ByteArray.mk (List.toArray [])))) = Bool.true then if ((ByteArray.size s : Nat) : Int) ≤ 8 then Option.bind (zV fu s) fun (a : Int) =>
      some (decide (a < 0))
    else some Bool.false
  else some Bool.false
theorem q0d (fu : Nat) (s : ByteArray) : zD (Z4 fu s) (zJ s) := by
  unfold Z4 zJ
  repeat (first
    | with_reducible exact zD.refl _
    | with_reducible exact zD.none _
    | with_reducible apply Zf
    | with_reducible refine zD.bind ?_ (fun _ => ?_)
    | with_reducible refine zD.ite ?_ ?_
    | with_reducible refine zD.sum (fun _ => ?_) (fun _ => ?_)
    | with_reducible refine zD.lim (fun _ => ?_))
noncomputable def qX (w1 : List (List ByteArray)) (b0 : qa) (t4 : List ByteArray) (t53 : Int) (t54 : Int) (t58 : List ByteArray) (t59 : Int) : Int → Option (Int ⊕ (Int ⊕ Unit))
  | t60 =>
    if t60 < t59 then if 0 ≤ t60 ∧ t60 < ((t58.length : Nat) : Int) then Option.bind t58[Int.toNat t60]? fun (a : ByteArray) =>
        Option.bind (zJ a) fun (a2 : Bool) =>
        if (!a2) = Bool.true then some (Sum.inr (Sum.inl 12))
        else if 0 < t60 then if 0 ≤ w64 (t60 - 1) ∧ w64 (t60 - 1) < ((t4.length : Nat) : Int) then Option.bind t4[Int.toNat (w64 (t60 - 1))]? fun (a3 : ByteArray) =>
            if (!(Go.Op.bytesLess (ByteArray.toList a3) (ByteArray.toList a))) = Bool.true then some (Sum.inr (Sum.inl 7))
            else some (Sum.inl (w64 (t60 + 1)))
          else none
        else some (Sum.inl (w64 (t60 + 1)))
      else none
    else some (Sum.inr (Sum.inr ()))
theorem ZH : ∀ (w1 : List (List ByteArray)) (b0_Id b0_From b0_To b0_Begin b0_End : Int) (b0_In : List ByteArray) (b0_Out : List qe) (b0_Conv_Num b0_Conv_Add b0_Conv_Den b0_Conv_Round : Int) (t4 : List ByteArray) (t53 t54 : Int) (t58 : List ByteArray) (t59 t60 : Int) (w1_len : Nat), w1_len = w1.length → XL2 evo 10 0 15 ⟨[(1, rP 0), (4, rL 1 eS t4), (52, rO 1 1 w1_len), (53, rI t53), (54, rI t54), (58, rL 1 eS t58), (59, rI t59), (60, rI t60)], [(0, B.blk 36 [dI b0_Id, dI b0_From, dI b0_To, dI b0_Begin, dI b0_End, dL 1 eS b0_In, dL 2 qd b0_Out, dI b0_Conv_Num, dI b0_Conv_Add, dI b0_Conv_Den, dI b0_Conv_Round]), (1, bR 31 1 (eL 1 eS) w1)], 2, 100⟩ = (zg (qX w1 (qa.mk b0_Id b0_From b0_To b0_Begin b0_End b0_In b0_Out (qm.mk b0_Conv_Num b0_Conv_Add b0_Conv_Den b0_Conv_Round)) t4 t53 t54 t58 t59) t60).bind (Sum.elim (fun (e : Int) => some (Go.Exit.ret, ⟨[(1, rP 0), (2, rI e), (52, rO 1 1 w1.length), (53, rI t53), (54, rI t54)], [(0, B.blk 36 [dI b0_Id, dI b0_From, dI b0_To, dI b0_Begin, dI b0_End, dL 1 eS b0_In, dL 2 qd b0_Out, dI b0_Conv_Num, dI b0_Conv_Add, dI b0_Conv_Den, dI b0_Conv_Round]), (1, bR 31 1 (eL 1 eS) w1)], 2, 100⟩)) (fun (e : Unit) => some (Go.Exit.exit 3, ⟨[(1, rP 0), (2, R.any), (52, rO 1 1 w1.length), (53, rI t53), (54, rI t54)], [(0, B.blk 36 [dI b0_Id, dI b0_From, dI b0_To, dI b0_Begin, dI b0_End, dL 1 eS b0_In, dL 2 qd b0_Out, dI b0_Conv_Num, dI b0_Conv_Add, dI b0_Conv_Den, dI b0_Conv_Round]), (1, bR 31 1 (eL 1 eS) w1)], 2, 100⟩))) :=
  by
  intro w1 b0_Id b0_From b0_To b0_Begin b0_End b0_In b0_Out b0_Conv_Num b0_Conv_Add b0_Conv_Den b0_Conv_Round t4 t53 t54 t58 t59 t60 w1_len h0
  subst h0
  revert t60; exact q4i qc0 qaC (fun e => by rcases e with _ | _ <;> exact ⟨_, rfl, fun h => by cases h⟩) fun x => by
    have := qg2; have := @q3q.eq_1; have := @q0e; have := @qX.eq_1; exact gA
noncomputable def qz (w1 : List (List ByteArray)) (b0 : qa) (t53 : Int) : Int → Option (Int ⊕ (Int ⊕ Unit))
  | t54 =>
    if t54 < t53 then if 0 ≤ t54 ∧ t54 < ((w1.length : Nat) : Int) then Option.bind w1[Int.toNat t54]? fun (a : List ByteArray) =>
        Option.bind (zg (qX w1 b0 a t53 t54 a ((a.length : Nat) : Int)) 0) fun (a2 : Sum Int Unit) =>
        Sum.elim (fun (a3 : Int) => some (Sum.inr (Sum.inl a3))) (fun (a4 : Unit) => some (Sum.inl (w64 (t54 + 1)))) a2
      else none
    else some (Sum.inr (Sum.inr ()))
theorem ZJ : ∀ (w1 : List (List ByteArray)) (b0_Id b0_From b0_To b0_Begin b0_End : Int) (b0_In : List ByteArray) (b0_Out : List qe) (b0_Conv_Num b0_Conv_Add b0_Conv_Den b0_Conv_Round t53 t54 : Int) (w1_len : Nat), w1_len = w1.length → XL2 evo 10 0 12 ⟨[(1, rP 0), (52, rO 1 1 w1_len), (53, rI t53), (54, rI t54)], [(0, B.blk 36 [dI b0_Id, dI b0_From, dI b0_To, dI b0_Begin, dI b0_End, dL 1 eS b0_In, dL 2 qd b0_Out, dI b0_Conv_Num, dI b0_Conv_Add, dI b0_Conv_Den, dI b0_Conv_Round]), (1, bR 31 1 (eL 1 eS) w1)], 2, 100⟩ = (zg (qz w1 (qa.mk b0_Id b0_From b0_To b0_Begin b0_End b0_In b0_Out (qm.mk b0_Conv_Num b0_Conv_Add b0_Conv_Den b0_Conv_Round)) t53) t54).bind (Sum.elim (fun (e : Int) => some (Go.Exit.ret, ⟨[(1, rP 0), (2, rI e)], [(0, B.blk 36 [dI b0_Id, dI b0_From, dI b0_To, dI b0_Begin, dI b0_End, dL 1 eS b0_In, dL 2 qd b0_Out, dI b0_Conv_Num, dI b0_Conv_Add, dI b0_Conv_Den, dI b0_Conv_Round])], 1, 100⟩)) (fun (e : Unit) => some (Go.Exit.exit 1, ⟨[(1, rP 0), (2, R.any)], [(0, B.blk 36 [dI b0_Id, dI b0_From, dI b0_To, dI b0_Begin, dI b0_End, dL 1 eS b0_In, dL 2 qd b0_Out, dI b0_Conv_Num, dI b0_Conv_Add, dI b0_Conv_Den, dI b0_Conv_Round])], 1, 100⟩))) :=
  by
  intro w1 b0_Id b0_From b0_To b0_Begin b0_End b0_In b0_Out b0_Conv_Num b0_Conv_Add b0_Conv_Den b0_Conv_Round t53 t54 w1_len h0
  subst h0
  revert t54; exact q4i qbK qbv (fun e => by rcases e with _ | _ <;> exact ⟨_, rfl, fun h => by cases h⟩) fun x => by
    have := qg2; have := @q3p.eq_1; have := @ZH; have := @qz.eq_1; exact gA
theorem Z9 : ∀ (w10 w11 : List ByteArray) (b0_Id b0_From b0_To b0_Begin b0_End : Int) (b0_In : List ByteArray) (b0_Out : List qe) (b0_Conv_Num b0_Conv_Add b0_Conv_Den b0_Conv_Round t53 t54 : Int), XL2 evo 10 0 12 ⟨[(1, rP 0), (52, rO 1 1 2), (53, rI t53), (54, rI t54)], [(0, B.blk 36 [dI b0_Id, dI b0_From, dI b0_To, dI b0_Begin, dI b0_End, dL 1 eS b0_In, dL 2 qd b0_Out, dI b0_Conv_Num, dI b0_Conv_Add, dI b0_Conv_Den, dI b0_Conv_Round]), (1, B.row 31 1 [dL 1 eS w10, dL 1 eS w11])], 2, 100⟩ = (zg (qz [w10, w11] (qa.mk b0_Id b0_From b0_To b0_Begin b0_End b0_In b0_Out (qm.mk b0_Conv_Num b0_Conv_Add b0_Conv_Den b0_Conv_Round)) t53) t54).bind (Sum.elim (fun (e : Int) => some (Go.Exit.ret, ⟨[(1, rP 0), (2, rI e)], [(0, B.blk 36 [dI b0_Id, dI b0_From, dI b0_To, dI b0_Begin, dI b0_End, dL 1 eS b0_In, dL 2 qd b0_Out, dI b0_Conv_Num, dI b0_Conv_Add, dI b0_Conv_Den, dI b0_Conv_Round])], 1, 100⟩)) (fun (e : Unit) => some (Go.Exit.exit 1, ⟨[(1, rP 0), (2, R.any)], [(0, B.blk 36 [dI b0_Id, dI b0_From, dI b0_To, dI b0_Begin, dI b0_End, dL 1 eS b0_In, dL 2 qd b0_Out, dI b0_Conv_Num, dI b0_Conv_Add, dI b0_Conv_Den, dI b0_Conv_Round])], 1, 100⟩))) := by
  intro w10 w11 b0_Id b0_From b0_To b0_Begin b0_End b0_In b0_Out b0_Conv_Num b0_Conv_Add b0_Conv_Den b0_Conv_Round t53 t54; have h := ZJ [w10, w11] ((qa.mk b0_Id b0_From b0_To b0_Begin b0_End b0_In b0_Out (qm.mk b0_Conv_Num b0_Conv_Add b0_Conv_Den b0_Conv_Round))).Id ((qa.mk b0_Id b0_From b0_To b0_Begin b0_End b0_In b0_Out (qm.mk b0_Conv_Num b0_Conv_Add b0_Conv_Den b0_Conv_Round))).From ((qa.mk b0_Id b0_From b0_To b0_Begin b0_End b0_In b0_Out (qm.mk b0_Conv_Num b0_Conv_Add b0_Conv_Den b0_Conv_Round))).To ((qa.mk b0_Id b0_From b0_To b0_Begin b0_End b0_In b0_Out (qm.mk b0_Conv_Num b0_Conv_Add b0_Conv_Den b0_Conv_Round))).Begin ((qa.mk b0_Id b0_From b0_To b0_Begin b0_End b0_In b0_Out (qm.mk b0_Conv_Num b0_Conv_Add b0_Conv_Den b0_Conv_Round))).End ((qa.mk b0_Id b0_From b0_To b0_Begin b0_End b0_In b0_Out (qm.mk b0_Conv_Num b0_Conv_Add b0_Conv_Den b0_Conv_Round))).In ((qa.mk b0_Id b0_From b0_To b0_Begin b0_End b0_In b0_Out (qm.mk b0_Conv_Num b0_Conv_Add b0_Conv_Den b0_Conv_Round))).Out ((qa.mk b0_Id b0_From b0_To b0_Begin b0_End b0_In b0_Out (qm.mk b0_Conv_Num b0_Conv_Add b0_Conv_Den b0_Conv_Round))).Conv.Num ((qa.mk b0_Id b0_From b0_To b0_Begin b0_End b0_In b0_Out (qm.mk b0_Conv_Num b0_Conv_Add b0_Conv_Den b0_Conv_Round))).Conv.Add ((qa.mk b0_Id b0_From b0_To b0_Begin b0_End b0_In b0_Out (qm.mk b0_Conv_Num b0_Conv_Add b0_Conv_Den b0_Conv_Round))).Conv.Den ((qa.mk b0_Id b0_From b0_To b0_Begin b0_End b0_In b0_Out (qm.mk b0_Conv_Num b0_Conv_Add b0_Conv_Den b0_Conv_Round))).Conv.Round t53 t54 _ rfl
  first
    | exact h
    | (simp only [rL, dL, bR, bZ, Nat.reduceAdd] at h; exact h)
theorem qhF : okL 27 q4g := qR (qi qez) (by kernel_rfl) (by kernel_rfl)
def qhM := JA_ @q4g.eq_1 (JA_ @Try.f27.eq_1 @qez)
theorem qgE : okL 58 q2A := qR (qi qcu) (by kernel_rfl) (by kernel_rfl)
def qfz := JA_ @q2A.eq_1 (JA_ @Try.f58.eq_1 @qcu)
theorem q9P : lbO 58 2 = q4m := Qj (qi qcu) rfl
theorem qa0 : okL 58 q4m := zI qgE (List.mem_of_getElem? (i := 0) (by kernel_rfl))
theorem qi0 : okL 28 q4j := qR (qi qfH) (by kernel_rfl) (by kernel_rfl)
def qj5 := JA_ @q4j.eq_1 (JA_ @Try.f28.eq_1 @qfH)
noncomputable def Q2 (g : qe) : Option Bool :=
  some (qx g.Credits 1 60)
noncomputable def zo (g : qe) : Bool :=
  qx g.Credits 1 60
theorem J2 (g : qe) : Q2 g = some (zo g) := by
  unfold Q2 zo
  simp only [Q1]
theorem Js : ∀ (g_Code : ByteArray) (g_Credits : Int), ev 28 0 [R.agg [dS g_Code, dI g_Credits]] [] = some (rB (zo (qe.mk g_Code g_Credits)), []) :=
  fun g_Code g_Credits => by
    have h : ev 28 0 [R.agg [dS g_Code, dI g_Credits]] [] = (Q2 (qe.mk g_Code g_Credits)).bind (fun (e : Bool) => some (rB e, [])) := by
      rw [qO qfH qhI.2.2.2 qi0]
      have := qj5; have := @QU; have := @Q2.eq_1; exact gA
    rw [J2] at h
    exact h
noncomputable def qp (s : List qe) (t7 : Int) : Int → Option (Int ⊕ (Int ⊕ Unit))
  | t8 =>
    if t8 < t7 then if 0 ≤ t8 ∧ t8 < ((s.length : Nat) : Int) then Option.bind s[Int.toNat t8]? fun (a : qe) =>
        if zo a = Bool.true then some (Sum.inr (Sum.inl t8))
        else some (Sum.inl (w64 (t8 + 1)))
      else none
    else some (Sum.inr (Sum.inr ()))
theorem zC : ∀ (s : List qe) (t7 t8 : Int), XL2 evo 58 0 2 ⟨[(0, rL 2 qd s), (1, R.c (C.fn 28 [] [])), (7, rI t7), (8, rI t8)], [], 0, 19⟩ = (zg (qp s t7) t8).bind (Sum.elim (fun (e : Int) => some (Go.Exit.ret, ⟨[(4, rI e)], [], 0, 19⟩)) (fun (e : Unit) => some (Go.Exit.exit 0, ⟨[(4, R.any)], [], 0, 19⟩))) :=
  fun s t7 t8 => by
    revert t8; exact q4i q9P qa0 (fun e => by rcases e with _ | _ <;> exact ⟨_, rfl, fun h => by cases h⟩) fun x => by
      have := qfz; have := @q4m.eq_1; have := @Js; have := @qp.eq_1; exact gA
noncomputable def qD (s : List qe) : Option Int :=
  Option.bind (zg (qp s ((s.length : Nat) : Int)) 0) fun (a : Sum Int Unit) =>
  Sum.elim (fun (a2 : Int) => some a2) (fun (a3 : Unit) => some (-1)) a
theorem zG : ∀ (s : List qe), ev 58 0 [rL 2 qd s, R.c (C.fn 28 [] [])] [] = (qD s).bind (fun (e : Int) => some (rI e, [])) :=
  fun s => by
    rw [qO qcu qgX.2.2.2 qgE]
    have := qfz; have := @zC; have := @qD.eq_1; exact gA
noncomputable def ql (s : List qe) : Option Bool :=
  Option.bind (qD s) fun (a : Int) =>
  some (decide (0 ≤ a))
theorem zB : ∀ (s : List qe), ev 27 0 [rL 2 qd s, R.c (C.fn 28 [] [])] [] = (ql s).bind (fun (e : Bool) => some (rB e, [])) :=
  fun s => by
    rw [qO qez qg1.2.2.2 qhF]
    have := qhM; have := @zG; have := @ql.eq_1; exact gA
theorem qk3 : okL 29 q3P := qR (qi qfF) (by kernel_rfl) (by kernel_rfl)
def qi8 := JA_ @q3P.eq_1 (JA_ @Try.f29.eq_1 @qfF)
theorem qjx : okL 30 q4l := qR (qi qfW) (by kernel_rfl) (by kernel_rfl)
def qiR := JA_ @q4l.eq_1 (JA_ @Try.f30.eq_1 @qfW)
theorem qhd : okL 59 q2s := qR (qi qek) (by kernel_rfl) (by kernel_rfl)
def qhG := JA_ @q2s.eq_1 (JA_ @Try.f59.eq_1 @qek)
theorem qej : lbO 59 2 = q5y := Qj (qi qek) rfl
theorem qeV : okL 59 q5y := zI qhd (List.mem_of_getElem? (i := 0) (by kernel_rfl))
noncomputable def qu (s : List ByteArray) (v : ByteArray) (t7 : Int) : Int → Option (Int ⊕ (Int ⊕ Unit))
  | t8 =>
    if t8 < t7 then if 0 ≤ t8 ∧ t8 < ((s.length : Nat) : Int) then Option.bind s[Int.toNat t8]? fun (a : ByteArray) =>
        if (ByteArray.toList v == ByteArray.toList a) = Bool.true then some (Sum.inr (Sum.inl t8))
        else some (Sum.inl (w64 (t8 + 1)))
      else none
    else some (Sum.inr (Sum.inr ()))
theorem zZ : ∀ (s : List ByteArray) (v : ByteArray) (t7 t8 : Int), XL2 evo 59 0 2 ⟨[(0, rL 1 eS s), (1, rS v), (7, rI t7), (8, rI t8)], [], 0, 19⟩ = (zg (qu s v t7) t8).bind (Sum.elim (fun (e : Int) => some (Go.Exit.ret, ⟨[(4, rI e)], [], 0, 19⟩)) (fun (e : Unit) => some (Go.Exit.exit 0, ⟨[(4, R.any)], [], 0, 19⟩))) :=
  fun s v t7 t8 => by
    revert t8; exact q4i qej qeV (fun e => by rcases e with _ | _ <;> exact ⟨_, rfl, fun h => by cases h⟩) fun x => by
      have := qhG; have := @q5y.eq_1; have := @qu.eq_1; exact gA
noncomputable def qL (s : List ByteArray) (v : ByteArray) : Option Int :=
  Option.bind (zg (qu s v ((s.length : Nat) : Int)) 0) fun (a : Sum Int Unit) =>
  Sum.elim (fun (a2 : Int) => some a2) (fun (a3 : Unit) => some (-1)) a
theorem Q8 : ∀ (s : List ByteArray) (v : ByteArray), ev 59 0 [rL 1 eS s, rS v] [] = (qL s v).bind (fun (e : Int) => some (rI e, [])) :=
  fun s v => by
    rw [qO qek qhw.2.2.2 qhd]
    have := qhG; have := @zZ; have := @qL.eq_1; exact gA
noncomputable def qA (s : List ByteArray) (v : ByteArray) : Option Bool :=
  Option.bind (qL s v) fun (a : Int) =>
  some (decide (0 ≤ a))
theorem zY : ∀ (s : List ByteArray) (v : ByteArray), ev 30 0 [rL 1 eS s, rS v] [] = (qA s v).bind (fun (e : Bool) => some (rB e, [])) :=
  fun s v => by
    rw [qO qfW qhs.2.2.2 qjx]
    have := qiR; have := @Q8; have := @qA.eq_1; exact gA
noncomputable def Q4 (g : qe) (v : qa) : Option Bool :=
  Option.bind (qA v.In g.Code) fun (a : Bool) =>
  some a
theorem J7 : ∀ (g_Code : ByteArray) (g_Credits v_Id v_From v_To v_Begin v_End : Int) (v_In : List ByteArray) (v_Out : List qe) (v_Conv_Num v_Conv_Add v_Conv_Den v_Conv_Round : Int), ev 29 1 [R.agg [dS g_Code, dI g_Credits], rP 0] [(0, B.blk 36 [dI v_Id, dI v_From, dI v_To, dI v_Begin, dI v_End, dL 1 eS v_In, dL 2 qd v_Out, dI v_Conv_Num, dI v_Conv_Add, dI v_Conv_Den, dI v_Conv_Round])] = (Q4 (qe.mk g_Code g_Credits) (qa.mk v_Id v_From v_To v_Begin v_End v_In v_Out (qm.mk v_Conv_Num v_Conv_Add v_Conv_Den v_Conv_Round))).bind (fun (e : Bool) => some (rB e, [(0, B.blk 36 [dI v_Id, dI v_From, dI v_To, dI v_Begin, dI v_End, dL 1 eS v_In, dL 2 qd v_Out, dI v_Conv_Num, dI v_Conv_Add, dI v_Conv_Den, dI v_Conv_Round])])) :=
  fun g_Code g_Credits v_Id v_From v_To v_Begin v_End v_In v_Out v_Conv_Num v_Conv_Add v_Conv_Den v_Conv_Round => by
    rw [qO qfF qhK.2.2.2 qk3]
    have := qi8; have := @zY; have := @Q4.eq_1; exact gA
noncomputable def qn (b0 : qa) (s : List qe) (t7 : Int) : Int → Option (Int ⊕ (Int ⊕ Unit))
  | t8 =>
    if t8 < t7 then if 0 ≤ t8 ∧ t8 < ((s.length : Nat) : Int) then Option.bind s[Int.toNat t8]? fun (a : qe) =>
        Option.bind (Q4 a b0) fun (a2 : Bool) =>
        if a2 = Bool.true then some (Sum.inr (Sum.inl t8))
        else some (Sum.inl (w64 (t8 + 1)))
      else none
    else some (Sum.inr (Sum.inr ()))
theorem zq : ∀ (b0_Id b0_From b0_To b0_Begin b0_End : Int) (b0_In : List ByteArray) (b0_Out : List qe) (b0_Conv_Num b0_Conv_Add b0_Conv_Den b0_Conv_Round : Int) (s : List qe) (t7 t8 : Int), XL2 evo 58 1 2 ⟨[(0, rL 2 qd s), (1, R.c (C.fn 29 [] [dP 0])), (7, rI t7), (8, rI t8)], [(0, B.blk 36 [dI b0_Id, dI b0_From, dI b0_To, dI b0_Begin, dI b0_End, dL 1 eS b0_In, dL 2 qd b0_Out, dI b0_Conv_Num, dI b0_Conv_Add, dI b0_Conv_Den, dI b0_Conv_Round])], 1, 19⟩ = (zg (qn (qa.mk b0_Id b0_From b0_To b0_Begin b0_End b0_In b0_Out (qm.mk b0_Conv_Num b0_Conv_Add b0_Conv_Den b0_Conv_Round)) s t7) t8).bind (Sum.elim (fun (e : Int) => some (Go.Exit.ret, ⟨[(4, rI e)], [(0, B.blk 36 [dI b0_Id, dI b0_From, dI b0_To, dI b0_Begin, dI b0_End, dL 1 eS b0_In, dL 2 qd b0_Out, dI b0_Conv_Num, dI b0_Conv_Add, dI b0_Conv_Den, dI b0_Conv_Round])], 1, 19⟩)) (fun (e : Unit) => some (Go.Exit.exit 0, ⟨[(4, R.any)], [(0, B.blk 36 [dI b0_Id, dI b0_From, dI b0_To, dI b0_Begin, dI b0_End, dL 1 eS b0_In, dL 2 qd b0_Out, dI b0_Conv_Num, dI b0_Conv_Add, dI b0_Conv_Den, dI b0_Conv_Round])], 1, 19⟩))) :=
  fun b0_Id b0_From b0_To b0_Begin b0_End b0_In b0_Out b0_Conv_Num b0_Conv_Add b0_Conv_Den b0_Conv_Round s t7 t8 => by
    revert t8; exact q4i q9P qa0 (fun e => by rcases e with _ | _ <;> exact ⟨_, rfl, fun h => by cases h⟩) fun x => by
      have := qfz; have := @q4m.eq_1; have := @J7; have := @qn.eq_1; exact gA
noncomputable def qy (s : List qe) (b0 : qa) : Option Int :=
  Option.bind (zg (qn b0 s ((s.length : Nat) : Int)) 0) fun (a : Sum Int Unit) =>
  Sum.elim (fun (a2 : Int) => some a2) (fun (a3 : Unit) => some (-1)) a
theorem zE : ∀ (s : List qe) (b0_Id b0_From b0_To b0_Begin b0_End : Int) (b0_In : List ByteArray) (b0_Out : List qe) (b0_Conv_Num b0_Conv_Add b0_Conv_Den b0_Conv_Round : Int), ev 58 1 [rL 2 qd s, R.c (C.fn 29 [] [dP 0])] [(0, B.blk 36 [dI b0_Id, dI b0_From, dI b0_To, dI b0_Begin, dI b0_End, dL 1 eS b0_In, dL 2 qd b0_Out, dI b0_Conv_Num, dI b0_Conv_Add, dI b0_Conv_Den, dI b0_Conv_Round])] = (qy s (qa.mk b0_Id b0_From b0_To b0_Begin b0_End b0_In b0_Out (qm.mk b0_Conv_Num b0_Conv_Add b0_Conv_Den b0_Conv_Round))).bind (fun (e : Int) => some (rI e, [(0, B.blk 36 [dI b0_Id, dI b0_From, dI b0_To, dI b0_Begin, dI b0_End, dL 1 eS b0_In, dL 2 qd b0_Out, dI b0_Conv_Num, dI b0_Conv_Add, dI b0_Conv_Den, dI b0_Conv_Round])])) :=
  fun s b0_Id b0_From b0_To b0_Begin b0_End b0_In b0_Out b0_Conv_Num b0_Conv_Add b0_Conv_Den b0_Conv_Round => by
    rw [qO qcu qgX.2.2.2 qgE]
    have := qfz; have := @zq; have := @qy.eq_1; exact gA
noncomputable def qj (s : List qe) (b0 : qa) : Option Bool :=
  Option.bind (qy s b0) fun (a : Int) =>
  some (decide (0 ≤ a))
theorem zr : ∀ (s : List qe) (b0_Id b0_From b0_To b0_Begin b0_End : Int) (b0_In : List ByteArray) (b0_Out : List qe) (b0_Conv_Num b0_Conv_Add b0_Conv_Den b0_Conv_Round : Int), ev 27 1 [rL 2 qd s, R.c (C.fn 29 [] [dP 0])] [(0, B.blk 36 [dI b0_Id, dI b0_From, dI b0_To, dI b0_Begin, dI b0_End, dL 1 eS b0_In, dL 2 qd b0_Out, dI b0_Conv_Num, dI b0_Conv_Add, dI b0_Conv_Den, dI b0_Conv_Round])] = (qj s (qa.mk b0_Id b0_From b0_To b0_Begin b0_End b0_In b0_Out (qm.mk b0_Conv_Num b0_Conv_Add b0_Conv_Den b0_Conv_Round))).bind (fun (e : Bool) => some (rB e, [(0, B.blk 36 [dI b0_Id, dI b0_From, dI b0_To, dI b0_Begin, dI b0_End, dL 1 eS b0_In, dL 2 qd b0_Out, dI b0_Conv_Num, dI b0_Conv_Add, dI b0_Conv_Den, dI b0_Conv_Round])])) :=
  fun s b0_Id b0_From b0_To b0_Begin b0_End b0_In b0_Out b0_Conv_Num b0_Conv_Add b0_Conv_Den b0_Conv_Round => by
    rw [qO qez qg1.2.2.2 qhF]
    have := qhM; have := @zE; have := @qj.eq_1; exact gA
theorem qjU : okL 31 q3R := qR (qi qfS) (by kernel_rfl) (by kernel_rfl)
def qjl := JA_ @q3R.eq_1 (JA_ @Try.f31.eq_1 @qfS)
theorem qjp : okL 45 q48 := qR (qi qfU) (by kernel_rfl) (by kernel_rfl)
def qja := JA_ @q48.eq_1 (JA_ @Try.f45.eq_1 @qfU)
noncomputable def zw (n : Int) (a : Int) (b : Int) : Option Int :=
  some (max (min a b) (min n (max a b)))
noncomputable def qr (n : Int) (a : Int) (b : Int) : Int :=
  max (min a b) (min n (max a b))
theorem Z5 (n a b : Int) : zw n a b = some (qr n a b) := by
  unfold zw qr
  simp only [Q1]
theorem Zk : ∀ (n a b : Int), ev 45 0 [rI n, rI a, rI b] [] = some (rI (qr n a b), []) :=
  fun n a b => by
    have h : ev 45 0 [rI n, rI a, rI b] [] = (zw n a b).bind (fun (e : Int) => some (rI e, [])) := by
      rw [qO qfU qhT.2.2.2 qjp]
      have := qja; have := @zw.eq_1; exact gA
    rw [Z5] at h
    exact h
noncomputable def zL (c : qm) : Option Int :=
  if (qr c.Den 1 1000 != c.Den) = Bool.true then some 3
  else if (qr c.Num (-1000) 1000 != c.Num) = Bool.true then some 3
  else if (qr c.Add (-1000) 1000 != c.Add) = Bool.true then some 3
  else if (qr c.Round 1 4 != c.Round) = Bool.true then some 3
  else some 0
noncomputable def qq (c : qm) : Int :=
  if (qr c.Den 1 1000 != c.Den) = Bool.true then 3
  else if (qr c.Num (-1000) 1000 != c.Num) = Bool.true then 3
  else if (qr c.Add (-1000) 1000 != c.Add) = Bool.true then 3
  else if (qr c.Round 1 4 != c.Round) = Bool.true then 3
  else 0
theorem Zu (c : qm) : zL c = some (qq c) := by
  unfold zL qq
  simp only [Q1]
theorem ZF : ∀ (c_Num c_Add c_Den c_Round : Int), ev 31 0 [R.agg [dI c_Num, dI c_Add, dI c_Den, dI c_Round]] [] = some (rI (qq (qm.mk c_Num c_Add c_Den c_Round)), []) :=
  fun c_Num c_Add c_Den c_Round => by
    have h : ev 31 0 [R.agg [dI c_Num, dI c_Add, dI c_Den, dI c_Round]] [] = (zL (qm.mk c_Num c_Add c_Den c_Round)).bind (fun (e : Int) => some (rI e, [])) := by
      rw [qO qfS qh0.2.2.2 qjU]
      have := qjl; have := @Zk; have := @zL.eq_1; exact gA
    rw [Zu] at h
    exact h
noncomputable def zu (x0 : qa) : Option Int :=
  if x0.Id < 1 then some 1
  else if qx x0.From 1 8 = Bool.true then some 1
  else if qx x0.To 1 8 = Bool.true then some 1
  else if (!(qQ x0.Begin)) = Bool.true then some 23
  else if (x0.End != 0) = Bool.true then if (!(qQ x0.End)) = Bool.true then some 23
    else if x0.End < x0.Begin then some 23
    else if qx ((x0.In.length : Nat) : Int) 1 3 = Bool.true then some 2
    else if qx ((x0.Out.length : Nat) : Int) 1 3 = Bool.true then some 2
    else Option.bind (zz x0.Out) fun (a : List ByteArray) =>
    Option.bind (zg (qz [x0.In, a] x0 2) 0) fun (a2 : Sum Int Unit) =>
    Sum.elim (fun (a3 : Int) => some a3) (fun (a4 : Unit) => Option.bind (ql x0.Out) fun (a5 : Bool) =>
      if a5 = Bool.true then some 3
      else if (x0.From == x0.To) = Bool.true then Option.bind (qj x0.Out x0) fun (a6 : Bool) =>
        if a6 = Bool.true then some 14
        else some (qq x0.Conv)
      else some (qq x0.Conv)) a2
  else if qx ((x0.In.length : Nat) : Int) 1 3 = Bool.true then some 2
  else if qx ((x0.Out.length : Nat) : Int) 1 3 = Bool.true then some 2
  else Option.bind (zz x0.Out) fun (a7 : List ByteArray) =>
  Option.bind (zg (qz [x0.In, a7] x0 2) 0) fun (a8 : Sum Int Unit) =>
  Sum.elim (fun (a9 : Int) => some a9) (fun (a10 : Unit) => Option.bind (ql x0.Out) fun (a11 : Bool) =>
    if a11 = Bool.true then some 3
    else if (x0.From == x0.To) = Bool.true then Option.bind (qj x0.Out x0) fun (a12 : Bool) =>
      if a12 = Bool.true then some 14
      else some (qq x0.Conv)
    else some (qq x0.Conv)) a8
theorem q09 : ∀ (x0_Id x0_From x0_To x0_Begin x0_End : Int) (x0_In : List ByteArray) (x0_Out : List qe) (x0_Conv_Num x0_Conv_Add x0_Conv_Den x0_Conv_Round : Int), ev 10 0 [R.agg [dI x0_Id, dI x0_From, dI x0_To, dI x0_Begin, dI x0_End, dL 1 eS x0_In, dL 2 qd x0_Out, dI x0_Conv_Num, dI x0_Conv_Add, dI x0_Conv_Den, dI x0_Conv_Round]] [] = (zu (qa.mk x0_Id x0_From x0_To x0_Begin x0_End x0_In x0_Out (qm.mk x0_Conv_Num x0_Conv_Add x0_Conv_Den x0_Conv_Round))).bind (fun (e : Int) => some (rI e, [])) :=
  fun x0_Id x0_From x0_To x0_Begin x0_End x0_In x0_Out x0_Conv_Num x0_Conv_Add x0_Conv_Den x0_Conv_Round => by
    rw [qO qcs qhV.2.2.2 qge]
    have := qg2; have := @QU; have := @Zo; have := @q08; have := @Z9; have := @zB; have := @zr; have := @ZF; have := @zu.eq_1; exact gA
noncomputable def qv (t7 : Bool) (t8 : List qa) (t9 : Int) (t11 : Int) (t12 : Int) (t13 : List qa) (t121 : Int) : Int → Option (Int ⊕ (Unit ⊕ Unit))
  | t122 =>
    if t122 < t121 then if (t122 != t9) = Bool.true then if 0 ≤ t122 ∧ t122 < ((t8.length : Nat) : Int) then Option.bind t8[Int.toNat t122]? fun (a : qa) =>
          if 0 ≤ t122 ∧ t122 < ((t13.length : Nat) : Int) then Option.bind t13[Int.toNat t122]? fun (a2 : qa) =>
            Option.bind (Qo a a2) fun (a3 : Bool) =>
            if (!a3) = Bool.true then some (Sum.inr (Sum.inl ()))
            else if 0 ≤ t122 ∧ t122 < ((t13.length : Nat) : Int) then Option.bind t13[Int.toNat t122]? fun (a4 : qa) =>
              Option.bind (zu a4) fun (a5 : Int) =>
              if (a5 != 0) = Bool.true then some (Sum.inr (Sum.inl ()))
              else if 0 ≤ t122 ∧ t122 < ((t8.length : Nat) : Int) then Option.bind t8[Int.toNat t122]? fun (a6 : qa) =>
                if 0 ≤ t122 ∧ t122 < ((t13.length : Nat) : Int) then Option.bind t13[Int.toNat t122]? fun (a7 : qa) =>
                  if qf a7 t12 = Bool.true then if (!(qf a6 t12)) = Bool.true then some (Sum.inr (Sum.inl ()))
                    else if t12 < t11 then if (!(qf a7 t12 == qf a6 t12)) = Bool.true then some (Sum.inr (Sum.inl ()))
                      else some (Sum.inl (w64 (t122 + 1)))
                    else some (Sum.inl (w64 (t122 + 1)))
                  else if t12 < t11 then if (!(qf a7 t12 == qf a6 t12)) = Bool.true then some (Sum.inr (Sum.inl ()))
                    else some (Sum.inl (w64 (t122 + 1)))
                  else some (Sum.inl (w64 (t122 + 1)))
                else none
              else none
            else none
          else none
        else none
      else if 0 ≤ t122 ∧ t122 < ((t13.length : Nat) : Int) then Option.bind t13[Int.toNat t122]? fun (a8 : qa) =>
        Option.bind (zu a8) fun (a9 : Int) =>
        if (a9 != 0) = Bool.true then some (Sum.inr (Sum.inl ()))
        else if 0 ≤ t122 ∧ t122 < ((t8.length : Nat) : Int) then Option.bind t8[Int.toNat t122]? fun (a10 : qa) =>
          if 0 ≤ t122 ∧ t122 < ((t13.length : Nat) : Int) then Option.bind t13[Int.toNat t122]? fun (a11 : qa) =>
            if qf a11 t12 = Bool.true then if (!(qf a10 t12)) = Bool.true then some (Sum.inr (Sum.inl ()))
              else if t12 < t11 then if (!(qf a11 t12 == qf a10 t12)) = Bool.true then some (Sum.inr (Sum.inl ()))
                else some (Sum.inl (w64 (t122 + 1)))
              else some (Sum.inl (w64 (t122 + 1)))
            else if t12 < t11 then if (!(qf a11 t12 == qf a10 t12)) = Bool.true then some (Sum.inr (Sum.inl ()))
              else some (Sum.inl (w64 (t122 + 1)))
            else some (Sum.inl (w64 (t122 + 1)))
          else none
        else none
      else none
    else some (Sum.inr (Sum.inr ()))
theorem QC : ∀ (t7 : Bool) (t8 : List qa) (t9 t11 t12 : Int) (t13 : List qa) (t121 t122 : Int), XL2 evo 3 0 13 ⟨[(7, rB t7), (8, rL 11 qc t8), (9, rI t9), (11, rI t11), (12, rI t12), (13, rL 11 qc t13), (121, rI t121), (122, rI t122)], [], 0, 177⟩ = (zg (qv t7 t8 t9 t11 t12 t13 t121) t122).bind (Sum.elim (fun (e : Unit) => some (Go.Exit.ret, ⟨[(6, rB Bool.false), (7, rB t7)], [], 0, 177⟩)) (fun (e : Unit) => some (Go.Exit.exit 0, ⟨[(6, R.any), (7, rB t7)], [], 0, 177⟩))) :=
  fun t7 t8 t9 t11 t12 t13 t121 t122 => by
    revert t122; exact q4i qcT qeI (fun e => by rcases e with _ | _ <;> exact ⟨_, rfl, fun h => by cases h⟩) fun x => by
      have := cx3; have := @q5T.eq_1; have := @q15; have := @q09; have := @Zc; have := @qv.eq_1; exact gA
noncomputable def qV (x0 : List (List Int)) (x1 : Int) (x2 : qcD Int) : Option Bool :=
  Option.bind (Qk x0) fun (a : List qa) =>
  if (((a.length : Nat) : Int) == 0) = Bool.true then some Bool.true
  else if ((a.length : Nat) : Int) = 0 then none
  else if 0 ≤ Int.tmod (w64 x1) ((a.length : Nat) : Int) ∧ Int.tmod (w64 x1) ((a.length : Nat) : Int) < ((a.length : Nat) : Int) then Option.bind a[Int.toNat (Int.tmod (w64 x1) ((a.length : Nat) : Int))]? fun (a2 : qa) =>
    Option.bind (zT a a2.Id (Int.tmod (w64 x2.a0) 700) (Int.tmod (w64 x2.a1) 700)) fun (a3 : Prod (List qa) Int) =>
    if (a3.2 != 0) = Bool.true then if ((a3.2 == 23) == (Int.tmod (w64 x2.a0) 700 == 0)) = Bool.true then if (a3.2 != 34) = Bool.true then some Bool.true
        else if Int.tmod (w64 x2.a0) 700 < Int.tmod (w64 x2.a1) 700 then some Bool.true
        else if 0 ≤ Int.tmod (w64 x1) ((a.length : Nat) : Int) ∧ Int.tmod (w64 x1) ((a.length : Nat) : Int) < ((a.length : Nat) : Int) then Option.bind a[Int.toNat (Int.tmod (w64 x1) ((a.length : Nat) : Int))]? fun (a4 : qa) =>
          if (a4.End != 0) = Bool.true then if 0 ≤ Int.tmod (w64 x1) ((a.length : Nat) : Int) ∧ Int.tmod (w64 x1) ((a.length : Nat) : Int) < ((a.length : Nat) : Int) then Option.bind a[Int.toNat (Int.tmod (w64 x1) ((a.length : Nat) : Int))]? fun (a5 : qa) =>
              if 0 ≤ Int.tmod (w64 x1) ((a.length : Nat) : Int) ∧ Int.tmod (w64 x1) ((a.length : Nat) : Int) < ((a.length : Nat) : Int) then Option.bind a[Int.toNat (Int.tmod (w64 x1) ((a.length : Nat) : Int))]? fun (a6 : qa) =>
                some (decide (a5.End ≤ max (Int.tmod (w64 x2.a0) 700) a6.Begin))
              else none
            else none
          else some Bool.false
        else none
      else some Bool.false
    else if (((a3.1.length : Nat) : Int) != ((a.length : Nat) : Int)) = Bool.true then some Bool.false
    else if Int.tmod (w64 x2.a0) 700 < Int.tmod (w64 x2.a1) 700 then some Bool.false
    else if 0 ≤ Int.tmod (w64 x1) ((a.length : Nat) : Int) ∧ Int.tmod (w64 x1) ((a.length : Nat) : Int) < ((a3.1.length : Nat) : Int) then Option.bind a3.1[Int.toNat (Int.tmod (w64 x1) ((a.length : Nat) : Int))]? fun (a7 : qa) =>
      if 0 ≤ Int.tmod (w64 x1) ((a.length : Nat) : Int) ∧ Int.tmod (w64 x1) ((a.length : Nat) : Int) < ((a.length : Nat) : Int) then Option.bind a[Int.toNat (Int.tmod (w64 x1) ((a.length : Nat) : Int))]? fun (a8 : qa) =>
        if qf a7 (max (Int.tmod (w64 x2.a0) 700) a8.Begin) = Bool.true then some Bool.false
        else Option.bind (zg (qv Bool.true a (Int.tmod (w64 x1) ((a.length : Nat) : Int)) (Int.tmod (w64 x2.a1) 700) (Int.tmod (w64 x2.a2) 700) a3.1 ((a.length : Nat) : Int)) 0) fun (a9 : Sum Unit Unit) =>
        Sum.elim (fun (a10 : Unit) => some Bool.false) (fun (a11 : Unit) => some Bool.true) a9
      else none
    else none
  else none
theorem Z1 : ∀ (x0 : List (List Int)) (x1 x2_0 x2_1 x2_2 : Int), ev 3 0 [rL 1 (eL 1 eI) x0, R.c (C.d (D.int .u8 x1)), R.agg [C.d (D.int .u16 x2_0), C.d (D.int .u16 x2_1), C.d (D.int .u16 x2_2)]] [] = (qV x0 x1 (qcD.mk x2_0 x2_1 x2_2)).bind (fun (e : Bool) => some (rB e, [])) :=
  fun x0 x1 x2_0 x2_1 x2_2 => by
    rw [qO bd3 pw3.2.2.2 lo3]
    have := cx3; have := @Jw; have := @q0N; have := @q01; have := @Zc; have := @QC; have := @qV.eq_1; exact gA
end Go.Proofs.Ytbcmefmnbpdfdaa.Vc

namespace Go.Proofs.Ytbcmefmnbpdfdaa.Vc
open Go.RowKit
set_option linter.unusedVariables false
set_option linter.unusedSimpArgs false
section
variable {τ ε : Type} {step : τ → Option (τ ⊕ ε)}
theorem Z8 {x y : τ} (h : step x = some (.inl y)) : zg step x = zg step y := by
  rw [q7f, h]; rfl
theorem Z7 {x : τ} {e : ε} (h : step x = some (.inr e)) : zg step x = some e := by
  rw [q7f, h]; rfl
theorem Qe {e : ε} (st : Nat → τ) (i0 n : Nat) (h0 : i0 ≤ n) (h : ∀ i, i0 ≤ i → i < n → step (st i) = some (.inl (st (i + 1)))) (hn : step (st n) = some (.inr e)) : zg step (st i0) = some e := by
  have key : ∀ j i, j + i = n → i0 ≤ i → zg step (st i) = some e := by
    intro j
    induction j with
    | zero => intro i hi _; rw [Nat.zero_add] at hi; subst hi; exact Z7 hn
    | succ j ih => intro i hi h1; rw [Z8 (h i h1 (by omega))]; exact ih (i + 1) (by omega) (by omega)
  exact key (n - i0) i0 (by omega) (Nat.le_refl _)
def q4R {α β ε : Type} (g : β → α → β ⊕ ε) (fin : β → ε) : List α → β → ε
  | [], b => fin b
  | a :: l, b => match g b a with
    | .inl b' => q4R g fin l b'
    | .inr e => e
theorem q4I {α β : Type} (l : List α) (st : β → Nat → τ) (g : β → α → β ⊕ ε) (fin : β → ε)
    (h : ∀ b i a, l[i]? = some a → step (st b i) = some (match g b a with | .inl b' => .inl (st b' (i + 1)) | .inr e => .inr e)) (hn : ∀ b, step (st b l.length) = some (.inr (fin b))) (b : β) : zg step (st b 0) = some (q4R g fin l b) := by
  have key : ∀ (r : List α) (i : Nat) (b : β), r.length + i = l.length → (∀ j, r[j]? = l[i + j]?) → zg step (st b i) = some (q4R g fin r b) := by
    intro r
    induction r with
    | nil =>
      intro i b hi _
      have hi : i = l.length := by simpa using hi
      subst hi; exact Z7 (hn b)
    | cons a r ih =>
      intro i b hi hr
      have ha : l[i]? = some a := by have := hr 0; simpa using this.symm
      have h1 := h b i a ha
      unfold q4R
      cases hg : g b a with
      | inl b' =>
        rw [hg] at h1
        rw [Z8 h1]
        refine ih (i + 1) b' (by simp at hi; omega) fun j => ?_
        have := hr (j + 1)
        rw [show i + 1 + j = i + (j + 1) by omega, ← this]; rfl
      | inr e =>
        rw [hg] at h1
        exact Z7 h1
  exact key l 0 b (by simp) (by simp)
theorem q6G {α : Type} (l : List α) (st : Nat → τ) (p : α → Option ε) (d : ε)
    (h : ∀ i a, l[i]? = some a → step (st i) = some (match p a with | some e => .inr e | none => .inl (st (i + 1)))) (hn : step (st l.length) = some (.inr d)) : zg step (st 0) = some ((l.findSome? p).getD d) := by
  have h1 := q4I (ε := ε) (β := Unit) l (fun _ i => st i) (fun _ a => match p a with | some e => .inr e | none => .inl ()) (fun _ => d) (fun b i a ha => by
    rw [h i a ha]; cases p a <;> rfl) (fun _ => hn) ()
  rw [h1]
  congr 1
  have : ∀ l : List α, q4R (ε := ε) (fun (_ : Unit) a => match p a with | some e => .inr e | none => .inl ()) (fun _ => d) l () = (l.findSome? p).getD d := by
    intro l
    induction l with
    | nil => rfl
    | cons a l ih =>
      unfold q4R
      rw [List.findSome?_cons]
      cases p a with
      | none => simpa using ih
      | some e => rfl
  exact this l
end
theorem q6X {α : Type} {l : List α} {i : Nat} {a : α} (h : l[i]? = some a) : i < l.length := (List.getElem?_eq_some_iff.1 h).1
theorem QW {n : Int} (h0 : -9223372036854775808 ≤ n) (h1 : n ≤ 9223372036854775807) : w64 n = n := wi n h0 h1
theorem zF {i n : Nat} (h : i < n) (hn : n ≤ 9223372036854775807) : w64 ((i : Int) + 1) = ((i + 1 : Nat) : Int) := by
  rw [QW (by omega) (by omega)]; omega
end Go.Proofs.Ytbcmefmnbpdfdaa.Vc
namespace Go.Proofs.Ytbcmefmnbpdfdaa.Vc
open Go.RowKit
set_option linter.unusedVariables false
set_option linter.unusedSimpArgs false
structure ZN (d : qb) : Prop where
  lo : 0 ≤ d.At
  hi : d.At ≤ (d.L.length : Int)
  len : d.L.length ≤ 9223372036854775807
theorem qcI (x m : Int) (h0 : 0 < m) (h1 : m ≤ 1000000) : ∃ v, Qx x m = some v ∧ 0 ≤ v ∧ v < m := by
  have e1 := Int.tmod_lt_of_pos x h0
  have e2 : -m < Int.tmod x m := by
    have := Int.tmod_lt_of_pos (-x) h0
    rw [Int.neg_tmod] at this; omega
  have e3 : w64 (Int.tmod x m + m) = Int.tmod x m + m := QW (by omega) (by omega)
  refine ⟨Int.tmod (Int.tmod x m + m) m, ?_, Int.tmod_nonneg _ (by omega), Int.tmod_lt_of_pos _ h0⟩
  unfold Qx
  repeat rw [if_neg (by omega)]
  rw [e3]
theorem QM {d : qb} (h : ZN d) {most : Int} (h0 : 0 < most) (h1 : most ≤ 1000000) : ∃ v d', qk most d = some (v, d') ∧ 0 ≤ v ∧ v < most ∧ ZN d' := by
  obtain ⟨a, b, c⟩ := h
  unfold qk
  by_cases he : (d.L.length : Int) ≤ d.At
  · exact ⟨0, d, if_pos he, Int.le_refl _, h0, ⟨a, b, c⟩⟩
  · obtain ⟨x, hx⟩ : ∃ x, d.L[Int.toNat d.At]? = some x := ⟨_, List.getElem?_eq_getElem (by omega)⟩
    obtain ⟨v, e1, e2, e3⟩ := qcI x most h0 h1
    have e6 : w64 (d.At + 1) = d.At + 1 := QW (by omega) (by omega)
    have e7 : w64 (d.At + 1 - 1) = d.At := by rw [QW (by omega) (by omega)]; omega
    refine ⟨v, ⟨d.L, d.At + 1⟩, ?_, e2, e3, ⟨by show 0 ≤ d.At + 1; omega, by show d.At + 1 ≤ d.L.length; omega, c⟩⟩
    rw [if_neg he, e6, e7, if_pos ⟨a, by omega⟩, hx, Option.bind_some, e1, Option.bind_some]
noncomputable def cod (i : Nat) : ByteArray := qo.getD i (ByteArray.mk (List.toArray [90, 57]))
noncomputable def sd (l : List Nat) : List ByteArray := l.map cod
structure Ix (l : List Nat) : Prop where
  lt : ∀ i ∈ l, i < 7
  up : l.Pairwise (· < ·)
  len : l.length ≤ 3
theorem Ix.filter {l : List Nat} (h : Ix l) (p : Nat → Bool) : Ix (l.filter p) := ⟨fun i hi => h.lt i ((List.mem_filter.1 hi).1), h.up.filter p, Nat.le_trans (List.length_filter_le p l) h.len⟩
def fk (l : List Nat) (k : Nat) : Nat := if l.contains k then (if l.contains ((k + 1) % 6) then (k + 2) % 6 else (k + 1) % 6) else k
def qaw (k : Nat) : List Nat → List Nat
  | [] => [k]
  | x :: l => if x < k then x :: qaw k l else k :: x :: l
def six : List (List Nat) := [0, 1, 2, 3, 4, 5].flatMap fun i => [i] :: ([0, 1, 2, 3, 4, 5].filter fun j => decide (i < j)).map fun j => [i, j]
def q3y (n : Nat) (l : List Nat) : Bool := l.all (fun i => decide (i < 6)) && (match l with | [] => true | [_] => true | [a, b] => decide (a < b) | [a, b, c] => decide (a < b) && decide (b < c) | _ => false) && l.length == n
theorem q50 : ([] :: six).all (fun l => [0, 1, 2, 3, 4, 5].all fun k => q3y (l.length + 1) (qaw (fk l k) l) && decide (fk l k < 6)) = true := by decide
theorem lt6 {a : Nat} (h : a < 6) : a ∈ [0, 1, 2, 3, 4, 5] := by
  have : a = 0 ∨ a = 1 ∨ a = 2 ∨ a = 3 ∨ a = 4 ∨ a = 5 := by omega
  rcases this with rfl | rfl | rfl | rfl | rfl | rfl <;> decide
theorem q6E {l : List Nat} {n : Nat} (h : q3y n l = true) (hn : n ≤ 2) : l ∈ [] :: six := by
  unfold q3y at h
  simp only [Bool.and_eq_true, beq_iff_eq, List.all_eq_true, decide_eq_true_eq] at h
  obtain ⟨⟨h1, h2⟩, h3⟩ := h
  match l with
  | [] => exact List.mem_cons_self
  | [a] =>
    refine List.mem_cons_of_mem _ (List.mem_flatMap.2 ⟨a, lt6 (h1 a (by simp)), List.mem_cons_self⟩)
  | [a, b] =>
    have hab : a < b := by simpa using h2
    refine List.mem_cons_of_mem _ (List.mem_flatMap.2 ⟨a, lt6 (h1 a (by simp)), List.mem_cons_of_mem _ (List.mem_map.2 ⟨b, List.mem_filter.2 ⟨lt6 (h1 b (by simp)), by simpa using hab⟩, rfl⟩)⟩)
  | a :: b :: c :: l => simp only [List.length_cons] at h3; omega
theorem q0l {n : Nat} {l : List Nat} (h : q3y n l = true) : l.length = n := by
  unfold q3y at h
  simp only [Bool.and_eq_true, beq_iff_eq] at h
  exact h.2
theorem qaH {n : Nat} {l : List Nat} (h : q3y n l = true) (hn : n ≤ 3) : Ix l := by
  have hl := q0l h
  unfold q3y at h
  simp only [Bool.and_eq_true, beq_iff_eq, List.all_eq_true, decide_eq_true_eq] at h
  obtain ⟨⟨h1, h2⟩, h3⟩ := h
  refine ⟨fun i hi => by have := h1 i hi; omega, ?_, by omega⟩
  match l with
  | [] => exact .nil
  | [a] => simp
  | [a, b] => have : a < b := by simpa using h2
              simp [this]
  | [a, b, c] =>
    have h4 : a < b ∧ b < c := by simpa using h2
    obtain ⟨h4, h5⟩ := h4
    simp [h4, h5, Nat.lt_trans h4 h5]
  | a :: b :: c :: d :: l => simp only [List.length_cons] at h3; omega
theorem qbZ {n : Nat} {l : List Nat} (h : q3y n l = true) : ∀ i ∈ l, i < 6 := by
  unfold q3y at h
  simp only [Bool.and_eq_true, beq_iff_eq, List.all_eq_true, decide_eq_true_eq] at h
  exact h.1.1
theorem q8D (d : qb) (many : Int) : ([] :: six).all (fun l => [0, 1, 2, 3, 4, 5].all fun k => decide (itT (Q9 20 d (sd l) many) 20 ((k : Nat) : Int) = some ((fk l k : Nat) : Int)) && decide (Z2 20 (sd l) (cod (fk l k)) = some (sd (qaw (fk l k) l)))) = true := by kernel_rfl
theorem q5u (d : qb) (many : Int) : ([0, 1, 2, 3, 4, 5].all fun k => decide (itT (QD 20 d many) 20 ((k : Nat) : Int) = some ((k : Nat) : Int)) && decide (Z2 20 [] (cod k) = some (sd [k]))) = true := by kernel_rfl
theorem q5P {k : Nat} (h : k < 6) : (0 : Int) ≤ ((k : Nat) : Int) ∧ ((k : Nat) : Int) < ((qo.length : Nat) : Int) ∧ qo[Int.toNat ((k : Nat) : Int)]? = some (cod k) := by
  have e : qo.length = 6 := rfl
  refine ⟨by omega, by omega, ?_⟩
  rw [Int.toNat_natCast, cod, List.getD_eq_getElem?_getD, List.getElem?_eq_getElem (by omega)]
  rfl
theorem q62 {l : List Nat} {n : Nat} (h : q3y n l = true) (hn : n ≤ 2) {k : Nat} (hk : k < 6) (d : qb) (many : Int) : zg (qZ d (sd l) many) ((k : Nat) : Int) = some ((fk l k : Nat) : Int) ∧ fk l k < 6 ∧ zy (sd l) (cod (fk l k)) = some (sd (qaw (fk l k) l)) ∧ q3y (n + 1) (qaw (fk l k) l) = true := by
  have h1 := List.all_eq_true.1 (List.all_eq_true.1 (q8D d many) l (q6E h hn)) k (lt6 hk)
  have h2 := List.all_eq_true.1 (List.all_eq_true.1 q50 l (q6E h hn)) k (lt6 hk)
  rw [Bool.and_eq_true, decide_eq_true_eq, decide_eq_true_eq] at h1
  rw [Bool.and_eq_true, decide_eq_true_eq, q0l h] at h2
  exact ⟨zD.lim (ZC 20 d (sd l) many) _ h1.1, h2.2, ZO 20 _ _ _ h1.2, h2.1⟩
theorem qeH {many : Int} (hm : many ≤ 3) : ∀ (j : Nat) (l : List Nat) (d : qb), q3y l.length l = true → ((l.length + j : Nat) : Int) = many → ZN d → ∃ l' d', zg (qP many) (d, sd l) = some (d', sd l') ∧ q3y many.toNat l' = true ∧ ZN d'
  | 0, l, d, h, hj, hd => by
    refine ⟨l, d, Z7 ?_, by rw [← hj]; exact h, hd⟩
    unfold qP
    dsimp only
    rw [if_neg (by unfold sd; rw [List.length_map]; omega)]
  | j + 1, l, d, h, hj, hd => by
    obtain ⟨v, d1, e1, v0, v1, hd1⟩ := QM hd (most := 6) (by decide) (by decide)
    obtain ⟨k, rfl⟩ : ∃ k : Nat, v = k := ⟨v.toNat, by omega⟩
    obtain ⟨s1, s2, s3, s4⟩ := q62 h (by omega) (show k < 6 by omega) d1 many
    obtain ⟨c1, c2, c3⟩ := q5P s2
    have hl := q0l s4
    obtain ⟨l', d', r1, r2, r3⟩ := qeH hm j (qaw (fk l k) l) d1 (by rw [hl]; exact s4) (by rw [hl]; omega) hd1
    refine ⟨l', d', ?_, r2, r3⟩
    rw [Z8 (y := (d1, sd (qaw (fk l k) l))) ?_, r1]
    unfold qP
    dsimp only
    rw [if_pos (by unfold sd; rw [List.length_map]; omega), e1, Option.bind_some]
    simp only
    rw [s1, Option.bind_some, if_pos ⟨c1, c2⟩, c3, Option.bind_some, s3, Option.bind_some]
theorem q5Z {d : qb} (hd : ZN d) : ∃ l d', zt d = some (sd l, d') ∧ Ix l ∧ 1 ≤ l.length ∧ (∀ i ∈ l, i < 6) ∧ ZN d' := by
  obtain ⟨v, d1, e1, v0, v1, hd1⟩ := QM hd (most := 6) (by decide) (by decide)
  obtain ⟨m, hm, hm1, hm3⟩ : ∃ m : Int, [(1 : Int), (1 : Int), (1 : Int), (2 : Int), (2 : Int), (3 : Int)][Int.toNat v]? = some m ∧ 1 ≤ m ∧ m ≤ 3 := by
    have : v = 0 ∨ v = 1 ∨ v = 2 ∨ v = 3 ∨ v = 4 ∨ v = 5 := by omega
    rcases this with rfl | rfl | rfl | rfl | rfl | rfl <;> exact ⟨_, rfl, by decide, by decide⟩
  obtain ⟨w, d2, e2, w0, w1, hd2⟩ := QM hd1 (most := 6) (by decide) (by decide)
  obtain ⟨k, rfl⟩ : ∃ k : Nat, w = k := ⟨w.toNat, by omega⟩
  have hk : k < 6 := by omega
  have h1 := List.all_eq_true.1 (q5u d2 m) k (lt6 hk)
  rw [Bool.and_eq_true, decide_eq_true_eq, decide_eq_true_eq] at h1
  have s1 : zg (zp d2 m) ((k : Nat) : Int) = some ((k : Nat) : Int) := zD.lim (Je 20 d2 m) _ h1.1
  have s3 : zy [] (cod k) = some (sd [k]) := ZO 20 _ _ _ h1.2
  obtain ⟨c1, c2, c3⟩ := q5P hk
  have ok1 : q3y 1 [k] = true := by unfold q3y; simp [hk]
  obtain ⟨l', d', r1, r2, r3⟩ := qeH hm3 (m.toNat - 1) [k] d2 ok1 (by simp only [List.length_singleton]; omega) hd2
  have hl := q0l r2
  refine ⟨l', d', ?_, qaH r2 (by omega), by omega, qbZ r2, r3⟩
  unfold zt
  rw [e1, Option.bind_some]
  simp only
  rw [if_pos ⟨v0, v1⟩, hm, Option.bind_some]
  unfold zN
  rw [if_pos (by omega), e2, Option.bind_some]
  simp only
  rw [s1, Option.bind_some, if_pos ⟨c1, c2⟩, c3, Option.bind_some, s3, Option.bind_some, r1, Option.bind_some, Option.bind_some, Sum.elim_inl]
end Go.Proofs.Ytbcmefmnbpdfdaa.Vc
namespace Go.Proofs.Ytbcmefmnbpdfdaa.Vc
open Go.RowKit
set_option linter.unusedVariables false
set_option linter.unusedSimpArgs false
structure q1h (a : qa) : Prop where
  id : 1 ≤ a.Id
  fr : 1 ≤ a.From ∧ a.From ≤ 8
  to : 1 ≤ a.To ∧ a.To ≤ 8
  be : 0 ≤ a.Begin ∧ a.Begin ≤ 100000
  en : a.End = 0 ∨ (a.Begin ≤ a.End ∧ a.End ≤ 100000)
  inn : ∃ l, Ix l ∧ 1 ≤ l.length ∧ a.In = sd l
  out : ∃ l, Ix l ∧ 1 ≤ l.length ∧ a.Out.map (·.Code) = sd l
  cr : ∀ g ∈ a.Out, 1 ≤ g.Credits ∧ g.Credits ≤ 60
  ci : a.From = a.To → ∀ g ∈ a.Out, ∀ c ∈ a.In, (g.Code.toList == c.toList) = false
  cv : qq a.Conv = 0
theorem q7V : ([0, 1, 2, 3, 4, 5, 6].all fun i => decide (Z4 30 (cod i) = some true)) = true := by kernel_rfl
theorem q8M : ([0, 1, 2, 3, 4, 5, 6].all fun i => [0, 1, 2, 3, 4, 5, 6].all fun j => !decide (i < j) || Go.Op.bytesLess (cod i).toList (cod j).toList) = true := by kernel_rfl
theorem lt7 {a : Nat} (h : a < 7) : a ∈ [0, 1, 2, 3, 4, 5, 6] := by
  have : a = 0 ∨ a = 1 ∨ a = 2 ∨ a = 3 ∨ a = 4 ∨ a = 5 ∨ a = 6 := by omega
  rcases this with rfl | rfl | rfl | rfl | rfl | rfl | rfl <;> decide
theorem qbu {i : Nat} (h : i < 7) : zJ (cod i) = some true := q0d 30 _ _ (of_decide_eq_true (List.all_eq_true.1 q7V i (lt7 h)))
theorem qbC {i j : Nat} (hi : i < 7) (hj : j < 7) (h : i < j) : Go.Op.bytesLess (cod i).toList (cod j).toList = true := by
  have := List.all_eq_true.1 (List.all_eq_true.1 q8M i (lt7 hi)) j (lt7 hj)
  rw [decide_eq_true h] at this
  simpa using this
theorem Zm {n lo hi : Int} (h : lo ≤ n ∧ n ≤ hi) : qx n lo hi = false := by
  unfold qx
  rw [if_neg (by omega)]
  exact decide_eq_false (by omega)
theorem q0u {n : Int} (h : 0 ≤ n ∧ n ≤ 100000) : qQ n = true := by
  unfold qQ
  rw [if_pos h.1]
  exact decide_eq_true h.2
theorem q4u (w1 : List (List ByteArray)) (b0 : qa) (t53 t54 : Int) {l : List Nat} (h : Ix l) : zg (qX w1 b0 (sd l) t53 t54 (sd l) (((sd l).length : Nat) : Int)) (0 : Int) = some (.inr ()) := by
  have hlen : (sd l).length = l.length := by unfold sd; rw [List.length_map]
  have hl3 := h.len
  refine Qe (fun i => (i : Int)) 0 (sd l).length (Nat.zero_le _) (fun i _ hi => ?_) ?_
  · have hil : i < l.length := by omega
    have e1 : (sd l)[i]? = some (cod l[i]) := by unfold sd; rw [List.getElem?_map, List.getElem?_eq_getElem hil]; rfl
    have hw : w64 ((i : Int) + 1) = ((i + 1 : Nat) : Int) := zF (n := 100) (by omega) (by omega)
    unfold qX
    rw [if_pos (by omega), if_pos ⟨by omega, by omega⟩, Int.toNat_natCast, e1, Option.bind_some, qbu (h.lt _ (List.getElem_mem hil)), Option.bind_some, if_neg (by decide), hw]
    by_cases h0 : i = 0
    · rw [if_neg (by omega)]
    · have hw2 : w64 ((i : Int) - 1) = ((i - 1 : Nat) : Int) := by rw [QW (by omega) (by omega)]; omega
      have e2 : (sd l)[i - 1]? = some (cod l[i - 1]) := by unfold sd; rw [List.getElem?_map, List.getElem?_eq_getElem (by omega)]; rfl
      have hlt : l[i - 1] < l[i] := List.pairwise_iff_getElem.1 h.up (i - 1) i (by omega) hil (by omega)
      rw [if_pos (by omega), hw2, if_pos ⟨by omega, by omega⟩, Int.toNat_natCast, e2, Option.bind_some, qbC (h.lt _ (List.getElem_mem _)) (h.lt _ (List.getElem_mem hil)) hlt, if_neg (by decide)]
  · unfold qX
    rw [if_neg (by omega)]
theorem q3N (l : List qe) (h : l.length ≤ 1000) : zz l = some (l.map (·.Code)) := by
  have key : ∀ (r : List qe) (i : Nat) (out : List ByteArray), r.length + i = l.length → (∀ j, r[j]? = l[i + j]?) → out.length ≤ i → zg (qT l ((l.length : Nat) : Int)) (out, (i : Int)) = some (out ++ r.map (·.Code)) := by
    intro r
    induction r with
    | nil =>
      intro i out hi _ _
      refine Z7 ?_
      unfold qT
      dsimp only
      rw [if_neg (by simp at hi; omega), List.map_nil, List.append_nil]
    | cons a r ih =>
      intro i out hi hr ho
      simp only [List.length_cons] at hi
      have ha : l[i]? = some a := by have := hr 0; simpa using this.symm
      have hw : w64 ((i : Int) + 1) = ((i + 1 : Nat) : Int) := zF (n := 10000) (by omega) (by omega)
      have hm : (1000000 : Nat) ≤ Go.maxLen := by decide
      rw [Z8 (y := (out ++ [a.Code], ((i + 1 : Nat) : Int))) ?_, ih (i + 1) _ (by omega) (fun j => ?_) (by rw [List.length_append, List.length_singleton]; omega), List.map_cons, List.append_assoc, List.singleton_append]
      · have := hr (j + 1)
        rw [show i + 1 + j = i + (j + 1) by omega, ← this]; rfl
      · unfold qT
        dsimp only
        rw [if_pos (by omega), if_pos ⟨by omega, by omega⟩, Int.toNat_natCast, ha, Option.bind_some, if_pos ⟨by omega, by omega⟩, hw]
  have := key l 0 [] (by simp) (by simp) (Nat.le_refl _)
  unfold zz
  change Option.bind (zg _ ([], ((0 : Nat) : Int))) _ = _
  rw [this, Option.bind_some, List.nil_append]
theorem qd4 {l : List qe} (hl : l.length ≤ 1000) (h : ∀ g ∈ l, 1 ≤ g.Credits ∧ g.Credits ≤ 60) : ql l = some false := by
  have h1 := Qe (step := qp l (l.length : Int)) (e := .inr ()) (fun i => (i : Int)) 0 l.length (Nat.zero_le _) (fun i _ hi => by
      have e1 : l[i]? = some l[i] := List.getElem?_eq_getElem hi
      have hw : w64 ((i : Int) + 1) = ((i + 1 : Nat) : Int) := zF (n := 10000) (by omega) (by omega)
      unfold qp
      rw [if_pos (by omega), if_pos ⟨by omega, by omega⟩, Int.toNat_natCast, e1, Option.bind_some, zo, Zm (h _ (List.getElem_mem hi)), if_neg (by decide), hw]) (by
      unfold qp
      rw [if_neg (by omega)])
  unfold ql qD
  change Option.bind (Option.bind (zg _ ((0 : Nat) : Int)) _) _ = _
  rw [h1]
  rfl
theorem qdN {l : List ByteArray} (hl : l.length ≤ 1000) {v : ByteArray} (h : ∀ c ∈ l, (v.toList == c.toList) = false) : qA l v = some false := by
  have h1 := Qe (step := qu l v (l.length : Int)) (e := .inr ()) (fun i => (i : Int)) 0 l.length (Nat.zero_le _) (fun i _ hi => by
      have e1 : l[i]? = some l[i] := List.getElem?_eq_getElem hi
      have hw : w64 ((i : Int) + 1) = ((i + 1 : Nat) : Int) := zF (n := 10000) (by omega) (by omega)
      unfold qu
      rw [if_pos (by omega), if_pos ⟨by omega, by omega⟩, Int.toNat_natCast, e1, Option.bind_some, h _ (List.getElem_mem hi), if_neg (by decide), hw]) (by
      unfold qu
      rw [if_neg (by omega)])
  unfold qA qL
  change Option.bind (Option.bind (zg _ ((0 : Nat) : Int)) _) _ = _
  rw [h1]
  rfl
theorem q6K {l : List qe} (hl : l.length ≤ 1000) {a : qa} (ha : a.In.length ≤ 1000) (h : ∀ g ∈ l, ∀ c ∈ a.In, (g.Code.toList == c.toList) = false) : qj l a = some false := by
  have h1 := Qe (step := qn a l (l.length : Int)) (e := .inr ()) (fun i => (i : Int)) 0 l.length (Nat.zero_le _) (fun i _ hi => by
      have e1 : l[i]? = some l[i] := List.getElem?_eq_getElem hi
      have hw : w64 ((i : Int) + 1) = ((i + 1 : Nat) : Int) := zF (n := 10000) (by omega) (by omega)
      unfold qn
      rw [if_pos (by omega), if_pos ⟨by omega, by omega⟩, Int.toNat_natCast, e1, Option.bind_some, Q4, qdN ha (h _ (List.getElem_mem hi)), Option.bind_some, Option.bind_some, if_neg (by decide), hw]) (by
      unfold qn
      rw [if_neg (by omega)])
  unfold qj qy
  change Option.bind (Option.bind (zg _ ((0 : Nat) : Int)) _) _ = _
  rw [h1]
  rfl
theorem qcY (b0 : qa) {l m : List Nat} (hl : Ix l) (hm : Ix m) : zg (qz [sd l, sd m] b0 (2 : Int)) (0 : Int) = some (.inr ()) := by
  have h := Qe (step := qz [sd l, sd m] b0 (2 : Int)) (e := .inr ()) (fun i => (i : Int)) 0 2 (by omega) (fun i _ hi => by
      have hw : w64 ((i : Int) + 1) = ((i + 1 : Nat) : Int) := zF (n := 10000) (by omega) (by omega)
      unfold qz
      rw [if_pos (by omega), if_pos ⟨by omega, by simp only [List.length_cons, List.length_nil]; omega⟩, Int.toNat_natCast]
      have : i = 0 ∨ i = 1 := by omega
      rcases this with rfl | rfl
      · rw [List.getElem?_cons_zero, Option.bind_some, q4u _ _ _ _ hl, Option.bind_some, Sum.elim_inr, hw]
      · rw [List.getElem?_cons_succ, List.getElem?_cons_zero, Option.bind_some, q4u _ _ _ _ hm, Option.bind_some, Sum.elim_inr, hw]) (by
      unfold qz
      rw [if_neg (by omega)])
  exact h
theorem q8U {a : qa} (h : q1h a) : zu a = some 0 := by
  obtain ⟨l, hl, hl1, hI⟩ := h.inn
  obtain ⟨m, hm, hm1, hO⟩ := h.out
  have hIl : a.In.length = l.length := by rw [hI]; unfold sd; rw [List.length_map]
  have hOl : a.Out.length = m.length := by have := congrArg List.length hO; unfold sd at this; simpa using this
  have e1 := hl.len
  have e2 := hm.len
  have hid := h.id
  have tail : Option.bind (zz a.Out) (fun (x : List ByteArray) => Option.bind (zg (qz [a.In, x] a (2 : Int)) (0 : Int)) fun (a2 : Sum Int Unit) =>
    Sum.elim (fun (a3 : Int) => some a3) (fun (a4 : Unit) => Option.bind (ql a.Out) fun (a5 : Bool) =>
      if a5 = Bool.true then some (3 : Int)
      else if (a.From == a.To) = Bool.true then Option.bind (qj a.Out a) fun (a6 : Bool) =>
        if a6 = Bool.true then some (14 : Int)
        else some (qq a.Conv)
      else some (qq a.Conv)) a2) = some 0 := by
    rw [q3N _ (by omega), Option.bind_some, hO]
    have h2 : zg (qz [a.In, sd m] a (2 : Int)) (0 : Int) = some (.inr ()) := by rw [hI]; exact qcY a hl hm
    rw [h2, Option.bind_some, Sum.elim_inr, qd4 (by omega) h.cr, Option.bind_some, if_neg (by decide), h.cv]
    by_cases hft : a.From = a.To
    · rw [if_pos (by rw [beq_iff_eq]; exact hft), q6K (by omega) (by omega) (h.ci hft), Option.bind_some, if_neg (by decide)]
    · rw [if_neg (by rw [beq_iff_eq]; exact hft)]
  unfold zu
  rw [if_neg (by omega), Zm h.fr, if_neg (by decide), Zm h.to, if_neg (by decide), q0u h.be, if_neg (by decide), Zm (n := ((a.In.length : Nat) : Int)) (by omega), Zm (n := ((a.Out.length : Nat) : Int)) (by omega)]
  by_cases hE : a.End = 0
  · rw [if_neg (by rw [hE]; decide), if_neg (by decide), if_neg (by decide)]
    exact tail
  · have hen := h.en.resolve_left hE
    have hbe := h.be
    rw [if_pos (by simpa using hE), q0u ⟨by omega, hen.2⟩, if_neg (by decide), if_neg (by omega), if_neg (by decide), if_neg (by decide)]
    exact tail
end Go.Proofs.Ytbcmefmnbpdfdaa.Vc
namespace Go.Proofs.Ytbcmefmnbpdfdaa.Vc
open Go.RowKit
set_option linter.unusedVariables false
set_option linter.unusedSimpArgs false
theorem q91 {l : List ByteArray} (hl : l.length ≤ 1000) (v : ByteArray) : za l v = some (l.any fun c => c.toList == v.toList) := by
  have h1 := q6G (step := zl l v) l (fun i => (i : Int)) (fun c => if (c.toList == v.toList) = true then some (Sum.inl ()) else none) (Sum.inr ()) (fun i a ha => by
      have hi := q6X ha
      have hw : w64 ((i : Int) + 1) = ((i + 1 : Nat) : Int) := zF (n := 10000) (by omega) (by omega)
      unfold zl
      rw [if_pos (by omega), if_pos ⟨by omega, by omega⟩, Int.toNat_natCast, ha, Option.bind_some, hw]
      by_cases h : (a.toList == v.toList) = true
      · rw [if_pos h, if_pos h]
      · rw [if_neg h, if_neg h]) (by
      unfold zl
      rw [if_neg (by omega)])
  unfold za
  change Option.bind (zg _ ((0 : Nat) : Int)) _ = _
  rw [h1, Option.bind_some]
  have : ∀ l : List ByteArray, Sum.elim (fun (_ : Unit) => some true) (fun (_ : Unit) => some false) ((l.findSome? fun c => if (c.toList == v.toList) = true then some (Sum.inl ()) else none).getD (Sum.inr ())) = some (l.any fun c => c.toList == v.toList) := by
    intro l
    induction l with
    | nil => rfl
    | cons c l ih =>
      rw [List.findSome?_cons, List.any_cons]
      by_cases h : (c.toList == v.toList) = true
      · rw [if_pos h, h]; rfl
      · rw [if_neg h]
        have h' : (c.toList == v.toList) = false := by simpa using h
        rw [h', Bool.false_or]
        exact ih
  exact this l
def q1k (F T0 : Int) (I : List ByteArray) (c : ByteArray) : Bool := (F != T0) || !(I.any fun x => x.toList == c.toList)
theorem qaI {v : Int} (h0 : 0 ≤ v) (h1 : v < 4) : ∃ m, [(5 : Int), (6 : Int), (10 : Int), (3 : Int)][Int.toNat v]? = some m ∧ 1 ≤ m ∧ m ≤ 60 := by
  have : v = 0 ∨ v = 1 ∨ v = 2 ∨ v = 3 := by omega
  rcases this with rfl | rfl | rfl | rfl <;> exact ⟨_, rfl, by decide, by decide⟩
theorem q39 (z1 z2 z3 z4 z5 z6 z7 z8 z9 x1 F T0 B0 E0 : Int) (I : List ByteArray) (hI : I.length ≤ 1000) (y1 y2 y3 y4 : Int) (L : List ByteArray) (hL : L.length ≤ 1000) :
    ∀ (r : List ByteArray) (i : Nat) (w : List qe) (d : qb), r.length + i = L.length → (∀ j, r[j]? = L[i + j]?) → w.length ≤ i → ZN d →
    ∃ w' d', zg (qw z1 z2 z3 z4 z5 z6 z7 z8 z9 x1 F T0 B0 E0 I y1 y2 y3 y4 L) (w, d, (i : Int)) = some (w ++ w', d') ∧ ZN d' ∧ w'.map (·.Code) = r.filter (q1k F T0 I) ∧ ∀ g ∈ w', 1 ≤ g.Credits ∧ g.Credits ≤ 60
  | [], i, w, d, hi, _, _, hd => by
    refine ⟨[], d, Z7 ?_, hd, rfl, fun g h => by simp at h⟩
    unfold qw
    dsimp only
    rw [if_neg (by simp at hi; omega), List.append_nil]
  | c :: r, i, w, d, hi, hr, hw, hd => by
    simp only [List.length_cons] at hi
    have ha : L[i]? = some c := by have := hr 0; simpa using this.symm
    have hws : w64 ((i : Int) + 1) = ((i + 1 : Nat) : Int) := zF (n := 10000) (by omega) (by omega)
    have hm : (1000000 : Nat) ≤ Go.maxLen := by decide
    have hr' : ∀ j, r[j]? = L[i + 1 + j]? := fun j => by
      have := hr (j + 1)
      rw [show i + 1 + j = i + (j + 1) by omega, ← this]; rfl
    obtain ⟨v, d1, e1, v0, v1, hd1⟩ := QM hd (most := 4) (by decide) (by decide)
    obtain ⟨m, hm1, hm2, hm3⟩ := qaI v0 v1
    by_cases hk : q1k F T0 I c = true
    · obtain ⟨w', d', q1, q2, q3, q4⟩ := q39 z1 z2 z3 z4 z5 z6 z7 z8 z9 x1 F T0 B0 E0 I hI y1 y2 y3 y4 L hL r (i + 1) (w ++ [⟨c, m⟩]) d1 (by omega) hr' (by rw [List.length_append, List.length_singleton]; omega) hd1
      refine ⟨⟨c, m⟩ :: w', d', ?_, q2, by rw [List.map_cons, List.filter_cons, if_pos hk, q3], fun g hg => ?_⟩
      · rw [Z8 (y := (w ++ [⟨c, m⟩], d1, ((i + 1 : Nat) : Int))) ?_, q1, List.append_assoc, List.singleton_append]
        unfold qw
        dsimp only
        rw [if_pos (by omega)]
        by_cases hF : (F != T0) = true
        · rw [if_pos hF, if_pos ⟨by omega, by omega⟩, Int.toNat_natCast, ha, Option.bind_some, e1, Option.bind_some]
          dsimp only
          rw [if_pos ⟨v0, v1⟩, hm1, Option.bind_some, if_pos ⟨by omega, by omega⟩, hws]
        · have hany : (I.any fun x => x.toList == c.toList) = false := by
            unfold q1k at hk
            rw [Bool.eq_false_iff.2 hF, Bool.false_or] at hk
            simpa using hk
          rw [if_neg hF, if_pos ⟨by omega, by omega⟩, Int.toNat_natCast, ha, Option.bind_some, q91 hI, Option.bind_some, hany, if_pos (by decide), if_pos ⟨by omega, by omega⟩, Option.bind_some, e1, Option.bind_some]
          dsimp only
          rw [if_pos ⟨v0, v1⟩, hm1, Option.bind_some, if_pos ⟨by omega, by omega⟩, hws]
      · rcases List.mem_cons.1 hg with rfl | hg
        · exact ⟨hm2, hm3⟩
        · exact q4 g hg
    · obtain ⟨w', d', q1, q2, q3, q4⟩ := q39 z1 z2 z3 z4 z5 z6 z7 z8 z9 x1 F T0 B0 E0 I hI y1 y2 y3 y4 L hL r (i + 1) w d (by omega) hr' (by omega) hd
      refine ⟨w', d', ?_, q2, by rw [List.filter_cons, if_neg hk, q3], q4⟩
      rw [Z8 (y := (w, d, ((i + 1 : Nat) : Int))) ?_, q1]
      unfold q1k at hk
      rw [Bool.not_eq_true, Bool.or_eq_false_iff] at hk
      have hany : (I.any fun x => x.toList == c.toList) = true := by simpa using hk.2
      unfold qw
      dsimp only
      rw [if_pos (by omega), if_neg (by rw [hk.1]; decide), if_pos ⟨by omega, by omega⟩, Int.toNat_natCast, ha, Option.bind_some, q91 hI, Option.bind_some, hany, if_neg (by decide), hws]
theorem q7J : ([(0 : Int), 1, 2].all fun f => [(0 : Int), 1, 2].all fun t => [(0 : Int), 1, 2, 3].all fun r => decide (qq (qC (w64 (1 + f)) (w64 (1 + t)) (w64 (1 + r))) = 0)) = true := by kernel_rfl
theorem qb7 {f t r : Int} (f0 : 0 ≤ f) (f1 : f < 3) (t0 : 0 ≤ t) (t1 : t < 3) (r0 : 0 ≤ r) (r1 : r < 4) : qq (qC (w64 (1 + f)) (w64 (1 + t)) (w64 (1 + r))) = 0 := by
  have m3 : ∀ {x : Int}, 0 ≤ x → x < 3 → x ∈ [(0 : Int), 1, 2] := fun {x} a b => by
    have : x = 0 ∨ x = 1 ∨ x = 2 := by omega
    rcases this with rfl | rfl | rfl <;> decide
  have m4 : r ∈ [(0 : Int), 1, 2, 3] := by
    have : r = 0 ∨ r = 1 ∨ r = 2 ∨ r = 3 := by omega
    rcases this with rfl | rfl | rfl | rfl <;> decide
  exact of_decide_eq_true (List.all_eq_true.1 (List.all_eq_true.1 (List.all_eq_true.1 q7J f (m3 f0 f1)) t (m3 t0 t1)) r m4)
theorem qey : ([0, 1, 2, 3, 4, 5].all fun i => !((cod 6).toList == (cod i).toList)) = true := by kernel_rfl
theorem qf5 {id F T0 B0 E0 : Int} {li lo : List Nat} {w : List qe} {cv : qm} (hid : 1 ≤ id) (hF : 1 ≤ F ∧ F ≤ 8) (hT : 1 ≤ T0 ∧ T0 ≤ 8) (hB : 0 ≤ B0 ∧ B0 ≤ 100000) (hE : E0 = 0 ∨ (B0 ≤ E0 ∧ E0 ≤ 100000)) (hli : Ix li) (hl1 : 1 ≤ li.length) (hl6 : ∀ i ∈ li, i < 6)
    (hlo : Ix lo) (hw : w.map (·.Code) = (sd lo).filter (q1k F T0 (sd li))) (hcr : ∀ g ∈ w, 1 ≤ g.Credits ∧ g.Credits ≤ 60) (hcv : qq cv = 0) :
    q1h ⟨id, F, T0, B0, E0, sd li, if ((w.length : Int) == 0) = true then [⟨ByteArray.mk (List.toArray [90, 57]), 5⟩] else w, cv⟩ := by
  have hfl : (sd lo).filter (q1k F T0 (sd li)) = sd (lo.filter fun i => q1k F T0 (sd li) (cod i)) := by
    unfold sd; rw [List.filter_map]; rfl
  refine ⟨hid, hF, hT, hB, hE, ⟨li, hli, hl1, rfl⟩, ?_, ?_, ?_, hcv⟩
  · show ∃ l, Ix l ∧ 1 ≤ l.length ∧ (if ((w.length : Int) == 0) = true then [qe.mk (ByteArray.mk (List.toArray [90, 57])) 5] else w).map (·.Code) = sd l
    by_cases h0 : ((w.length : Int) == 0) = true
    · rw [if_pos h0]
      exact ⟨[6], ⟨fun i hi => by simp at hi; omega, by simp, by simp⟩, Nat.le_refl _, rfl⟩
    · rw [if_neg h0]
      refine ⟨_, hlo.filter _, ?_, hw.trans hfl⟩
      have : w.length = (lo.filter fun i => q1k F T0 (sd li) (cod i)).length := by
        have := congrArg List.length (hw.trans hfl)
        rw [List.length_map] at this
        rw [this]
        unfold sd
        rw [List.length_map]
      rw [← this]
      have : (w.length : Int) ≠ 0 := by simpa using h0
      omega
  · show ∀ g ∈ (if ((w.length : Int) == 0) = true then [qe.mk (ByteArray.mk (List.toArray [90, 57])) 5] else w), 1 ≤ g.Credits ∧ g.Credits ≤ 60
    split
    · intro g hg
      simp only [List.mem_singleton] at hg
      subst hg
      exact ⟨by decide, by decide⟩
    · exact hcr
  · show F = T0 → ∀ g ∈ (if ((w.length : Int) == 0) = true then [qe.mk (ByteArray.mk (List.toArray [90, 57])) 5] else w), ∀ c ∈ sd li, (g.Code.toList == c.toList) = false
    intro hFT
    split
    · intro g hg c hc
      simp only [List.mem_singleton] at hg
      subst hg
      obtain ⟨i, hi, rfl⟩ := List.mem_map.1 hc
      have := List.all_eq_true.1 qey i (lt6 (hl6 i hi))
      rw [Bool.not_eq_true'] at this
      exact this
    · intro g hg c hc
      have hm : g.Code ∈ (sd lo).filter (q1k F T0 (sd li)) := by rw [← hw]; exact List.mem_map.2 ⟨g, hg, rfl⟩
      have hk := (List.mem_filter.1 hm).2
      unfold q1k at hk
      rw [hFT, show (T0 != T0) = false by simp, Bool.false_or, Bool.not_eq_true'] at hk
      have := List.any_eq_false.1 hk c hc
      have h2 : (c.toList == g.Code.toList) = false := by simpa using this
      rw [beq_eq_false_iff_ne] at h2 ⊢
      exact fun e => h2 e.symm
theorem q6P {id : Int} (hid : 1 ≤ id) {d : qb} (hd : ZN d) : ∃ a d', zS id d = some (a, d') ∧ q1h a ∧ a.Id = id := by
  obtain ⟨f, d1, e1, f0, f1, hd1⟩ := QM hd (most := 3) (by decide) (by decide)
  obtain ⟨t, d2, e2, t0, t1, hd2⟩ := QM hd1 (most := 3) (by decide) (by decide)
  obtain ⟨b, d3, e3, b0, b1, hd3⟩ := QM hd2 (most := 5) (by decide) (by decide)
  obtain ⟨B0, hB, hB0, hB1⟩ : ∃ m : Int, [(0 : Int), (0 : Int), (0 : Int), (50 : Int), (200 : Int)][Int.toNat b]? = some m ∧ 0 ≤ m ∧ m ≤ 200 := by
    have : b = 0 ∨ b = 1 ∨ b = 2 ∨ b = 3 ∨ b = 4 := by omega
    rcases this with rfl | rfl | rfl | rfl | rfl <;> exact ⟨_, rfl, by decide, by decide⟩
  obtain ⟨li, d4, e4, hli, hl1, hl6, hd4⟩ := q5Z hd3
  obtain ⟨q, d5, e5, q0, q1, hd5⟩ := QM hd4 (most := 4) (by decide) (by decide)
  have hwf : w64 (1 + f) = 1 + f := QW (by omega) (by omega)
  have hwt : w64 (1 + t) = 1 + t := QW (by omega) (by omega)
  have hlen : (sd li).length ≤ 1000 := by unfold sd; rw [List.length_map]; have := hli.len; omega
  have fin : ∀ (E0 : Int) (d6 : qb), ZN d6 → (E0 = 0 ∨ (B0 ≤ E0 ∧ E0 ≤ 100000)) → ∃ a d', (Option.bind (zt d6) fun (a12 : Prod (List ByteArray) qb) =>
      Option.bind (zg (qw (0 : Int) (0 : Int) (0 : Int) (0 : Int) (0 : Int) (0 : Int) (0 : Int) (0 : Int) (0 : Int) id (w64 ((1 : Int) + f)) (w64 ((1 : Int) + t)) B0 E0 (sd li) (0 : Int) (0 : Int) (0 : Int) (0 : Int) a12.1) ([], (a12.2, (0 : Int)))) fun (a13 : Prod (List qe) qb) =>
      if (((a13.1.length : Nat) : Int) == (0 : Int)) = Bool.true then Option.bind (qk (4 : Int) a13.2) fun (a14 : Prod Int qb) =>
        some (qa.mk id (w64 ((1 : Int) + f)) (w64 ((1 : Int) + t)) B0 E0 (sd li) [qe.mk (ByteArray.mk (List.toArray [90, 57])) (5 : Int)] (qC (w64 ((1 : Int) + f)) (w64 ((1 : Int) + t)) (w64 ((1 : Int) + a14.1))), a14.2)
      else Option.bind (qk (4 : Int) a13.2) fun (a15 : Prod Int qb) =>
      some (qa.mk id (w64 ((1 : Int) + f)) (w64 ((1 : Int) + t)) B0 E0 (sd li) a13.1 (qC (w64 ((1 : Int) + f)) (w64 ((1 : Int) + t)) (w64 ((1 : Int) + a15.1))), a15.2)) = some (a, d') ∧ q1h a ∧ a.Id = id := by
    intro E0 d6 hd6 hE
    obtain ⟨lo, d7, e7, hlo, -, -, hd7⟩ := q5Z hd6
    have hlo3 : (sd lo).length ≤ 1000 := by unfold sd; rw [List.length_map]; have := hlo.len; omega
    obtain ⟨w, d8, e8, hd8, hw, hcr⟩ := q39 0 0 0 0 0 0 0 0 0 id (w64 (1 + f)) (w64 (1 + t)) B0 E0 (sd li) hlen 0 0 0 0 (sd lo) hlo3 (sd lo) 0 [] d7 (by simp) (by simp) (Nat.le_refl _) hd7
    obtain ⟨r, d9, e9, r0, r1, hd9⟩ := QM hd8 (most := 4) (by decide) (by decide)
    have hok := qf5 (E0 := E0) (w := w) hid (F := w64 (1 + f)) (T0 := w64 (1 + t)) (by rw [hwf]; omega) (by rw [hwt]; omega) (B0 := B0) (by omega) hE hli hl1 hl6 hlo hw hcr (qb7 f0 f1 t0 t1 r0 r1)
    rw [e7, Option.bind_some]
    dsimp only
    rw [List.nil_append] at e8
    have e8' : zg (qw (0 : Int) (0 : Int) (0 : Int) (0 : Int) (0 : Int) (0 : Int) (0 : Int) (0 : Int) (0 : Int) id (w64 ((1 : Int) + f)) (w64 ((1 : Int) + t)) B0 E0 (sd li) (0 : Int) (0 : Int) (0 : Int) (0 : Int) (sd lo)) ([], (d7, (0 : Int))) = some (w, d8) := e8
    rw [e8', Option.bind_some]
    dsimp only
    rw [e9]
    simp only [Option.bind_some]
    by_cases h0 : ((w.length : Int) == 0) = true
    · rw [if_pos h0] at hok ⊢
      exact ⟨_, _, rfl, hok, rfl⟩
    · rw [if_neg h0] at hok ⊢
      exact ⟨_, _, rfl, hok, rfl⟩
  unfold zS
  rw [e1, Option.bind_some]
  dsimp only
  rw [e2, Option.bind_some]
  dsimp only
  rw [e3, Option.bind_some]
  dsimp only
  rw [if_pos ⟨b0, b1⟩, hB, Option.bind_some, e4, Option.bind_some]
  dsimp only
  rw [e5, Option.bind_some]
  dsimp only
  by_cases hq : (q == 0) = true
  · obtain ⟨e, d6, e6, g0, g1, hd6⟩ := QM hd5 (most := 400) (by decide) (by decide)
    rw [if_pos hq, e6, Option.bind_some]
    have hwe : w64 (B0 + e) = B0 + e := QW (by omega) (by omega)
    exact fin (w64 (B0 + e)) d6 hd6 (by rw [hwe]; omega)
  · rw [if_neg hq]
    exact fin 0 d5 hd5 (.inl rfl)
structure q1y (M : List qa) : Prop where
  len : M.length ≤ 4
  ok : ∀ (i : Nat) (a : qa), M[i]? = some a → q1h a ∧ a.Id = 3 + 2 * (i : Int)
theorem qbN (l : List (List Int)) (hl : l.length ≤ 9223372036854775807) (hx : ∀ x ∈ l, x.length ≤ 9223372036854775807) : ∃ M, Qk l = some M ∧ q1y M := by
  have key : ∀ (j i : Nat) (out : List qa), j + i = min l.length 4 → out.length = i → (∀ (k : Nat) (a : qa), out[k]? = some a → q1h a ∧ a.Id = 3 + 2 * (k : Int)) → ∃ M, zg (zd l) (out, (i : Int)) = some M ∧ q1y M := by
    intro j
    induction j with
    | zero =>
      intro i out hi ho hk
      refine ⟨out, Z7 ?_, by omega, hk⟩
      unfold zd
      dsimp only
      by_cases h : (i : Int) < ((l.length : Nat) : Int)
      · rw [if_pos h, if_neg (by omega)]
      · rw [if_neg h]
    | succ j ih =>
      intro i out hi ho hk
      have hil : i < l.length := by omega
      have hws : w64 ((i : Int) + 1) = ((i + 1 : Nat) : Int) := zF (n := 10000) (by omega) (by omega)
      have hw2 : w64 (2 * (i : Int)) = 2 * (i : Int) := QW (by omega) (by omega)
      have hw3 : w64 (3 + 2 * (i : Int)) = 3 + 2 * (i : Int) := QW (by omega) (by omega)
      have hm : (1000000 : Nat) ≤ Go.maxLen := by decide
      obtain ⟨a, d', e1, e2, e3⟩ := q6P (id := 3 + 2 * (i : Int)) (by omega) (d := ⟨l[i], 0⟩) ⟨Int.le_refl _, by show (0 : Int) ≤ _; omega, hx _ (List.getElem_mem hil)⟩
      obtain ⟨M, q1, q2⟩ := ih (i + 1) (out ++ [a]) (by omega) (by rw [List.length_append, List.length_singleton, ho]) (fun k b hb => by
        rcases Nat.lt_or_ge k out.length with h | h
        · rw [List.getElem?_append_left h] at hb; exact hk k b hb
        · rw [List.getElem?_append_right h] at hb
          have hk0 : k - out.length = 0 := by
            have := (List.getElem?_eq_some_iff.1 hb).1
            simp at this; omega
          rw [hk0] at hb
          simp only [List.getElem?_cons_zero, Option.some.injEq] at hb
          subst hb
          have : k = i := by omega
          subst this
          exact ⟨e2, e3⟩)
      refine ⟨M, ?_, q2⟩
      rw [Z8 (y := (out ++ [a], ((i + 1 : Nat) : Int))) ?_, q1]
      unfold zd
      dsimp only
      rw [if_pos (by omega), if_pos (by omega), if_pos ⟨by omega, by omega⟩, Int.toNat_natCast, List.getElem?_eq_getElem hil, Option.bind_some, hw2, hw3, e1, Option.bind_some, if_pos ⟨by omega, by omega⟩, hws]
  obtain ⟨M, h1, h2⟩ := key (min l.length 4) 0 [] (by omega) rfl (fun k a h => by simp at h)
  refine ⟨M, ?_, h2⟩
  unfold Qk
  change Option.bind (zg _ ([], ((0 : Nat) : Int))) _ = _
  rw [h1, Option.bind_some]
end Go.Proofs.Ytbcmefmnbpdfdaa.Vc
namespace Go.Proofs.Ytbcmefmnbpdfdaa.Vc
open Go.RowKit
set_option linter.unusedVariables false
set_option linter.unusedSimpArgs false
theorem qbw {M : List qa} (h : q1y M) {k : Nat} {a : qa} (ha : M[k]? = some a) : Qn M a.Id = some (k : Int) := by
  have hkl := q6X ha
  have hlen := h.len
  have hid := (h.ok k a ha).2
  have h1 : zg (qg a.Id M ((M.length : Nat) : Int)) ((0 : Nat) : Int) = some (.inl (k : Int)) := by
    refine Qe (step := qg a.Id M ((M.length : Nat) : Int)) (e := .inl (k : Int)) (fun i => (i : Int)) 0 k (Nat.zero_le _) (fun i _ hi => ?_) ?_
    · have hw : w64 ((i : Int) + 1) = ((i + 1 : Nat) : Int) := zF (n := 10000) (by omega) (by omega)
      have e1 : M[i]? = some M[i] := List.getElem?_eq_getElem (by omega)
      have := (h.ok i _ e1).2
      unfold qg
      rw [if_pos (by omega), if_pos ⟨by omega, by omega⟩, Int.toNat_natCast, e1, Option.bind_some, zj, if_neg (by rw [beq_iff_eq]; omega), hw]
    · unfold qg
      rw [if_pos (by omega), if_pos ⟨by omega, by omega⟩, Int.toNat_natCast, ha, Option.bind_some, zj, if_pos (by rw [beq_iff_eq])]
  unfold Qn qs
  change Option.bind (Option.bind (zg _ ((0 : Nat) : Int)) _) _ = _
  rw [h1]
  rfl
theorem q11 {α : Type} (l : List α) (i j : Nat) (f : α → α) : (List.modify l i f)[j]? = if i = j then (l[j]?).map f else l[j]? := by
  rw [List.getElem?_modify]
  by_cases h : i = j
  · simp only [h, if_true]; cases l[j]? <;> rfl
  · simp only [h, if_false]; cases l[j]? <;> rfl
theorem q2D {α : Type} {l : List α} {i : Nat} {f : α → α} {a : α} (ha : l[i]? = some a) (hf : f a = a) : List.modify l i f = l := by
  apply List.ext_getElem?
  intro j
  rw [q11]
  by_cases h : i = j
  · subst h; rw [if_pos rfl, ha, Option.map_some, hf]
  · rw [if_neg h]
theorem q8O {M : List qa} (h : q1y M) : zO M = some M := by
  have hlen := h.len
  have hm : (1000000 : Nat) ≤ Go.maxLen := by decide
  have h1 : zg (qS ((M.length : Nat) : Int)) (M, ((0 : Nat) : Int)) = some M := by
    refine Qe (step := qS ((M.length : Nat) : Int)) (e := M) (fun i => (M, (i : Int))) 0 M.length (Nat.zero_le _) (fun i _ hi => ?_) ?_
    · have hw : w64 ((i : Int) + 1) = ((i + 1 : Nat) : Int) := zF (n := 10000) (by omega) (by omega)
      have e1 : M[i]? = some M[i] := List.getElem?_eq_getElem hi
      obtain ⟨li, c1, c2, c3⟩ := (h.ok i _ e1).1.inn
      obtain ⟨lo, c4, c5, c6⟩ := (h.ok i _ e1).1.out
      have l1 : M[i].In.length ≤ 3 := by rw [c3]; unfold sd; rw [List.length_map]; exact c1.len
      have l2 : M[i].Out.length ≤ 3 := by
        have := congrArg List.length c6
        rw [List.length_map] at this
        rw [this]; unfold sd; rw [List.length_map]; exact c4.len
      have k1 : qM M[i].In = some () := if_pos ⟨by omega, by omega⟩
      have k2 : qG M[i].Out = some () := if_pos ⟨by omega, by omega⟩
      unfold qS
      dsimp only
      rw [if_pos (by omega), if_pos ⟨by omega, by omega⟩, Int.toNat_natCast, e1, Option.bind_some, k1, Option.bind_some, if_pos ⟨by omega, by omega⟩, Option.bind_some, k2, Option.bind_some, if_pos ⟨by omega, by omega⟩, if_pos (by omega), if_pos ⟨by omega, by omega⟩, if_pos (by omega), q2D (f := fun (x : qa) => qa.mk x.Id x.From x.To x.Begin x.End M[i].In x.Out x.Conv) e1 rfl, q2D (f := fun (x : qa) => qa.mk x.Id x.From x.To x.Begin x.End x.In M[i].Out x.Conv) e1 rfl, hw]
    · unfold qS
      dsimp only
      rw [if_neg (by omega)]
  unfold zO
  rw [if_pos ⟨by omega, by omega, by omega⟩, if_pos (by rw [List.length_flatten, List.map_replicate, List.sum_replicate_nat]; exact Nat.le_refl _)]
  change Option.bind (zg _ (M, ((0 : Nat) : Int))) _ = _
  rw [h1]
  rfl
def QO (a : qa) (day : Int) : qa := ⟨a.Id, a.From, a.To, a.Begin, max day a.Begin, a.In, a.Out, a.Conv⟩
theorem q6s {M : List qa} (h : q1y M) {k : Nat} {a : qa} (ha : M[k]? = some a) {day today : Int} (hd : 0 ≤ day ∧ day < 700) (ht : 0 ≤ today ∧ today < 700) :
    zT M a.Id day today = some (if day = 0 then ([], 23) else if day < today ∨ (a.End ≠ 0 ∧ a.End ≤ max day a.Begin) then ([], 34) else (List.modify M k (fun x => QO x day), 0)) := by
  have hkl := q6X ha
  have hlen := h.len
  have e1 : (if (0 : Int) ≤ (k : Int) ∧ (k : Int) < ((M.length : Nat) : Int) then Option.bind M[Int.toNat (k : Int)]? fun (a8 : qa) =>
      if (0 : Int) ≤ (k : Int) ∧ (k : Int) < ((M.length : Nat) : Int) then if Int.toNat (k : Int) * 11 + 4 + 1 ≤ M.length * 11 then some (List.modify M (Int.toNat (k : Int)) (fun (x4 : qa) => qa.mk x4.Id x4.From x4.To x4.Begin (max day a8.Begin) x4.In x4.Out x4.Conv), (0 : Int))
        else none
      else none
    else none) = some (List.modify M k (fun x => QO x day), (0 : Int)) := by
    rw [if_pos ⟨by omega, by omega⟩, Int.toNat_natCast, ha, Option.bind_some, if_pos ⟨by omega, by omega⟩, if_pos (by omega)]
    congr 2
    apply List.ext_getElem?
    intro j
    rw [q11, q11]
    by_cases hj : k = j
    · subst hj; rw [if_pos rfl, if_pos rfl, ha]; rfl
    · rw [if_neg hj, if_neg hj]
  unfold zT
  rw [qbw h ha, Option.bind_some, if_neg (by omega), q0u ⟨hd.1, by omega⟩, if_neg (by decide), q0u ⟨ht.1, by omega⟩, if_neg (by decide)]
  by_cases h0 : day = 0
  · rw [if_pos (by simpa using h0), if_pos h0]
  · rw [if_neg (by simpa using h0), if_neg h0]
    by_cases h1 : day < today
    · rw [if_pos h1, if_pos (.inl h1)]
    · rw [if_neg h1, if_pos ⟨by omega, by omega⟩, Int.toNat_natCast, ha, Option.bind_some, q8O h]
      rw [Int.toNat_natCast] at e1
      by_cases h2 : a.End = 0
      · rw [if_neg (by rw [h2]; decide), if_neg (by rintro (q | q); exact h1 q; exact q.1 h2), Option.bind_some]
        exact e1
      · rw [if_pos (by simpa using h2), if_pos ⟨by omega, by omega⟩, Option.bind_some, if_pos ⟨by omega, by omega⟩, Option.bind_some]
        by_cases h3 : a.End ≤ max day a.Begin
        · rw [if_pos h3, if_pos (.inr ⟨h2, h3⟩)]
        · rw [if_neg h3, if_neg (by rintro (q | q); exact h1 q; exact h3 q.2), Option.bind_some]
          exact e1
theorem q4Y {l : List ByteArray} (hl : l.length ≤ 1000) : zm l l = some true := by
  have h1 : zg (qJ l l) ((0 : Nat) : Int) = some (.inr ()) := by
    refine Qe (step := qJ l l) (e := .inr ()) (fun i => (i : Int)) 0 l.length (Nat.zero_le _) (fun i _ hi => ?_) ?_
    · have hw : w64 ((i : Int) + 1) = ((i + 1 : Nat) : Int) := zF (n := 10000) (by omega) (by omega)
      unfold qJ
      rw [if_pos (by omega), if_pos ⟨by omega, by omega⟩, Int.toNat_natCast, List.getElem?_eq_getElem hi, Option.bind_some, if_pos ⟨by omega, by omega⟩, Option.bind_some, if_neg (by simp), hw]
    · unfold qJ
      rw [if_neg (by omega)]
  unfold zm
  rw [if_neg (by simp)]
  change Option.bind (zg _ ((0 : Nat) : Int)) _ = _
  rw [h1]
  rfl
theorem q68 {a : qa} (h : q1h a) : Qo a a = some true := by
  obtain ⟨li, c1, c2, c3⟩ := h.inn
  obtain ⟨lo, c4, c5, c6⟩ := h.out
  have l1 : a.In.length ≤ 3 := by rw [c3]; unfold sd; rw [List.length_map]; exact c1.len
  have l2 : a.Out.length ≤ 3 := by
    have := congrArg List.length c6
    rw [List.length_map] at this
    rw [this]; unfold sd; rw [List.length_map]; exact c4.len
  have h1 : zg (zc a a) ((0 : Nat) : Int) = some (.inr ()) := by
    refine Qe (step := zc a a) (e := .inr ()) (fun i => (i : Int)) 0 a.Out.length (Nat.zero_le _) (fun i _ hi => ?_) ?_
    · have hw : w64 ((i : Int) + 1) = ((i + 1 : Nat) : Int) := zF (n := 10000) (by omega) (by omega)
      unfold zc
      rw [if_pos (by omega), if_pos ⟨by omega, by omega⟩, Int.toNat_natCast, List.getElem?_eq_getElem hi, Option.bind_some, if_pos ⟨by omega, by omega⟩, Option.bind_some, if_neg (by simp), hw]
    · unfold zc
      rw [if_neg (by omega)]
  unfold Qo
  rw [q4Y (by omega), Option.bind_some, if_neg (by decide), if_neg (by simp), if_neg (by simp), if_neg (by simp), if_neg (by simp), if_neg (by simp), if_neg (by simp), if_neg (by simp)]
  change Option.bind (zg _ ((0 : Nat) : Int)) _ = _
  rw [h1]
  rfl
theorem qcA {a : qa} (h : q1h a) {day : Int} (hd : 0 ≤ day ∧ day < 700) : q1h (QO a day) := by
  obtain ⟨q1, q2, q3, q4, q5, q6, q7, q8, q9, q10⟩ := h
  exact ⟨q1, q2, q3, q4, .inr ⟨by show a.Begin ≤ max day a.Begin; omega, by show max day a.Begin ≤ 100000; omega⟩, q6, q7, q8, q9, q10⟩
theorem q2F (a : qa) (x : Int) : qf a x = (decide (a.Begin ≤ x) && (decide (a.End = 0) || decide (x < a.End))) := by
  unfold qf zn
  by_cases h : a.Begin ≤ x
  · rw [if_pos h, decide_eq_true h, Bool.true_and]
    by_cases h2 : a.End = 0
    · rw [if_pos (by simpa using h2), decide_eq_true h2]; rfl
    · rw [if_neg (by simpa using h2), decide_eq_false h2, Bool.false_or]
  · rw [if_neg h, decide_eq_false h]; rfl
theorem q2a (a : qa) (x : Int) : qf a x = true ↔ a.Begin ≤ x ∧ (a.End = 0 ∨ x < a.End) := by
  rw [q2F, Bool.and_eq_true, Bool.or_eq_true, decide_eq_true_eq, decide_eq_true_eq, decide_eq_true_eq]
theorem q8K {M : List qa} (h : q1y M) {k : Nat} {a : qa} (ha : M[k]? = some a) {day today asked : Int} (hd : 0 ≤ day ∧ day < 700) (hd0 : 0 < day) (hdt : today ≤ day) (hE : a.End = 0 ∨ max day a.Begin < a.End) {i : Nat} (hi : i < M.length) :
    qv true M (k : Int) today asked (List.modify M k (fun x => QO x day)) ((M.length : Nat) : Int) (i : Int) = some (.inl ((i + 1 : Nat) : Int)) := by
  have hlen := h.len
  have hw : w64 ((i : Int) + 1) = ((i + 1 : Nat) : Int) := zF (n := 10000) (by omega) (by omega)
  have e1 : M[i]? = some M[i] := List.getElem?_eq_getElem hi
  have hl2 : (List.modify M k (fun x => QO x day)).length = M.length := List.length_modify ..
  have hok := (h.ok i _ e1).1
  obtain ⟨b, hb, hbk, hbn⟩ : ∃ b, (List.modify M k (fun x => QO x day))[i]? = some b ∧ (i = k → b = QO a day) ∧ (i ≠ k → b = M[i]) := by
    rw [q11, e1]
    by_cases hik : k = i
    · subst hik
      rw [if_pos rfl, Option.map_some]
      rw [e1] at ha
      injection ha with ha
      exact ⟨_, rfl, fun _ => by rw [ha], fun q => absurd rfl q⟩
    · rw [if_neg hik]
      exact ⟨M[i], rfl, fun q => absurd q.symm hik, fun _ => rfl⟩
  have hbok : q1h b := by
    by_cases hik : i = k
    · rw [hbk hik]; exact qcA (h.ok k a ha).1 hd
    · rw [hbn hik]; exact hok
  have v1 : qf b asked = true → qf M[i] asked = true := by
    intro hv
    by_cases hik : i = k
    · subst hik
      rw [e1] at ha
      injection ha with ha
      rw [hbk rfl] at hv
      rw [ha, q2a]
      obtain ⟨v3, v4⟩ : a.Begin ≤ asked ∧ (max day a.Begin = 0 ∨ asked < max day a.Begin) := (q2a _ _).1 hv
      refine ⟨v3, ?_⟩
      rcases hE with h5 | h5
      · exact .inl h5
      · exact .inr (by omega)
    · rw [hbn hik] at hv; exact hv
  have v2 : asked < today → qf b asked = qf M[i] asked := by
    intro hv
    by_cases hik : i = k
    · subst hik
      rw [e1] at ha
      injection ha with ha
      rw [hbk rfl, ha, Bool.eq_iff_iff, q2a, q2a]
      show (a.Begin ≤ asked ∧ (max day a.Begin = 0 ∨ asked < max day a.Begin)) ↔ _
      constructor
      · rintro ⟨v3, v4⟩
        refine ⟨v3, ?_⟩
        rcases hE with h5 | h5
        · exact .inl h5
        · exact .inr (by omega)
      · rintro ⟨v3, v4⟩
        exact ⟨v3, .inr (by omega)⟩
    · rw [hbn hik]
  have tail : (Option.bind (zu b) fun (a9 : Int) =>
        if (a9 != (0 : Int)) = Bool.true then some (Sum.inr (Sum.inl ()))
        else if (0 : Int) ≤ (i : Int) ∧ (i : Int) < ((M.length : Nat) : Int) then Option.bind M[Int.toNat (i : Int)]? fun (a10 : qa) =>
          if (0 : Int) ≤ (i : Int) ∧ (i : Int) < (((List.modify M k (fun x => QO x day)).length : Nat) : Int) then Option.bind (List.modify M k (fun x => QO x day))[Int.toNat (i : Int)]? fun (a11 : qa) =>
            if qf a11 asked = Bool.true then if (!(qf a10 asked)) = Bool.true then some (Sum.inr (Sum.inl ()))
              else if asked < today then if (!(qf a11 asked == qf a10 asked)) = Bool.true then some (Sum.inr (Sum.inl ()))
                else some (Sum.inl (w64 ((i : Int) + (1 : Int))))
              else some (Sum.inl (w64 ((i : Int) + (1 : Int))))
            else if asked < today then if (!(qf a11 asked == qf a10 asked)) = Bool.true then some (Sum.inr (Sum.inl ()))
              else some (Sum.inl (w64 ((i : Int) + (1 : Int))))
            else some (Sum.inl (w64 ((i : Int) + (1 : Int))))
          else none
        else none) = (some (.inl ((i + 1 : Nat) : Int)) : Option (Int ⊕ (Unit ⊕ Unit))) := by
    rw [q8U hbok, Option.bind_some, if_neg (by decide), if_pos ⟨by omega, by omega⟩, Int.toNat_natCast, e1, Option.bind_some, if_pos ⟨by omega, by rw [hl2]; omega⟩, hb, Option.bind_some, hw]
    by_cases hv : qf b asked = true
    · rw [if_pos hv, v1 hv, if_neg (by decide)]
      by_cases ht : asked < today
      · rw [if_pos ht, hv, if_neg (by decide)]
      · rw [if_neg ht]
    · rw [if_neg hv]
      by_cases ht : asked < today
      · rw [if_pos ht, v2 ht, if_neg (by simp)]
      · rw [if_neg ht]
  unfold qv
  rw [if_pos (by omega)]
  by_cases hik : i = k
  · rw [if_neg (by rw [hik]; simp), if_pos ⟨by omega, by rw [hl2]; omega⟩]
    rw [show (List.modify M k (fun x => QO x day))[Int.toNat (i : Int)]? = some b by rw [Int.toNat_natCast]; exact hb] at tail ⊢
    rw [Option.bind_some]
    exact tail
  · rw [if_pos (by simpa using fun q : (i : Int) = (k : Int) => hik (by omega)), if_pos ⟨by omega, by omega⟩, show M[Int.toNat (i : Int)]? = some M[i] by rw [Int.toNat_natCast]; exact e1]
    rw [show M[Int.toNat (i : Int)]? = some M[i] by rw [Int.toNat_natCast]; exact e1, show (List.modify M k (fun x => QO x day))[Int.toNat (i : Int)]? = some b by rw [Int.toNat_natCast]; exact hb] at tail
    rw [Option.bind_some, if_pos ⟨by omega, by rw [hl2]; omega⟩, show (List.modify M k (fun x => QO x day))[Int.toNat (i : Int)]? = some b by rw [Int.toNat_natCast]; exact hb, Option.bind_some, hbn hik, q68 hok, Option.bind_some, if_neg (by decide), if_pos ⟨by omega, by rw [hl2]; omega⟩, Option.bind_some]
    rw [hbn hik] at tail
    exact tail
theorem JN (l : List (List Int)) (x1 : Int) (x2 : qcD Int) (hl : l.length ≤ maxLen) (hx : ∀ x ∈ l, x.length ≤ maxLen) (h1 : 0 ≤ x1 ∧ x1 ≤ 255) (h20 : 0 ≤ x2.a0 ∧ x2.a0 ≤ 65535) (h21 : 0 ≤ x2.a1 ∧ x2.a1 ≤ 65535) (h22 : 0 ≤ x2.a2 ∧ x2.a2 ≤ 65535) : qV l x1 x2 = some true := by
  have hm : Go.maxLen = 9223372036854775807 := by decide
  obtain ⟨M, e1, hM⟩ := qbN l (by omega) (fun x hx' => by have := hx x hx'; omega)
  have hlen := hM.len
  unfold qV
  rw [e1, Option.bind_some]
  by_cases h0 : M.length = 0
  · rw [if_pos (by rw [h0]; decide)]
  have w1 : w64 x1 = x1 := QW (by omega) (by omega)
  have w2 : w64 x2.a0 = x2.a0 := QW (by omega) (by omega)
  have w3 : w64 x2.a1 = x2.a1 := QW (by omega) (by omega)
  rw [if_neg (by simpa using h0), if_neg (by omega), w1, w2, w3]
  have hk0 := Int.tmod_nonneg ((M.length : Nat) : Int) h1.1
  have hk1 := Int.tmod_lt_of_pos x1 (show (0 : Int) < ((M.length : Nat) : Int) by omega)
  have hd0 := Int.tmod_nonneg 700 h20.1
  have hd1 := Int.tmod_lt_of_pos x2.a0 (show (0 : Int) < 700 by decide)
  have ht0 := Int.tmod_nonneg 700 h21.1
  have ht1 := Int.tmod_lt_of_pos x2.a1 (show (0 : Int) < 700 by decide)
  generalize Int.tmod x1 ((M.length : Nat) : Int) = kk at hk0 hk1
  generalize Int.tmod x2.a0 700 = day at hd0 hd1
  generalize Int.tmod x2.a1 700 = today at ht0 ht1
  generalize Int.tmod (w64 x2.a2) 700 = asked
  obtain ⟨k, rfl⟩ : ∃ k : Nat, kk = k := ⟨kk.toNat, by omega⟩
  have hkl : k < M.length := by omega
  obtain ⟨a, ha⟩ : ∃ a, M[k]? = some a := ⟨_, List.getElem?_eq_getElem hkl⟩
  have haok := (hM.ok k a ha).1
  rw [if_pos ⟨by omega, by omega⟩, Int.toNat_natCast, ha, Option.bind_some, q6s hM ha ⟨hd0, hd1⟩ ⟨ht0, ht1⟩, Option.bind_some]
  by_cases hday : day = 0
  · rw [if_pos hday]
    dsimp only
    rw [if_pos (by decide), if_pos (by rw [hday]; decide), if_pos (by decide)]
  · rw [if_neg hday]
    by_cases hc : day < today ∨ (a.End ≠ 0 ∧ a.End ≤ max day a.Begin)
    · rw [if_pos hc]
      dsimp only
      rw [if_pos (by decide), if_pos (by simpa using hday), if_neg (by decide)]
      by_cases hdt : day < today
      · rw [if_pos hdt]
      · obtain ⟨c1, c2⟩ := hc.resolve_left hdt
        rw [if_neg hdt, if_pos ⟨by omega, by omega⟩, Option.bind_some, if_pos (by simpa using c1), if_pos ⟨by omega, by omega⟩, Option.bind_some, if_pos ⟨by omega, by omega⟩, Option.bind_some, decide_eq_true c2]
    · rw [if_neg hc]
      dsimp only
      have hl2 : (List.modify M k (fun x => QO x day)).length = M.length := List.length_modify ..
      have hb : (List.modify M k (fun x => QO x day))[k]? = some (QO a day) := by rw [q11, if_pos rfl, ha, Option.map_some]
      have hdt : ¬ day < today := fun q => hc (.inl q)
      have hE : a.End = 0 ∨ max day a.Begin < a.End := by
        by_cases q : a.End = 0
        · exact .inl q
        · refine .inr ?_
          by_cases q2 : a.End ≤ max day a.Begin
          · exact absurd (.inr ⟨q, q2⟩) hc
          · omega
      have hv : qf (QO a day) (max day a.Begin) = false := by
        rw [q2F]
        have e2 : decide ((QO a day).End = 0) = false := decide_eq_false (by show ¬ max day a.Begin = 0; omega)
        have e3 : decide (max day a.Begin < (QO a day).End) = false := decide_eq_false (by show ¬ max day a.Begin < max day a.Begin; omega)
        rw [e2, e3, Bool.or_self, Bool.and_false]
      rw [if_neg (by decide), hl2, if_neg (by simp), if_neg hdt, if_pos ⟨by omega, by omega⟩, hb, Option.bind_some, if_pos ⟨by omega, by omega⟩, Option.bind_some, hv, if_neg (by decide)]
      have hloop : zg (qv true M (k : Int) today asked (List.modify M k (fun x => QO x day)) ((M.length : Nat) : Int)) ((0 : Nat) : Int) = some (.inr ()) := by
        refine Qe (step := qv true M (k : Int) today asked (List.modify M k (fun x => QO x day)) ((M.length : Nat) : Int)) (e := .inr ()) (fun i => (i : Int)) 0 M.length (Nat.zero_le _) (fun i _ hi => q8K hM ha ⟨hd0, hd1⟩ (by omega) (by omega) hE hi) ?_
        unfold qv
        rw [if_neg (by omega)]
      change Option.bind (zg _ ((0 : Nat) : Int)) _ = _
      rw [hloop]
      rfl
end Go.Proofs.Ytbcmefmnbpdfdaa.Vc
namespace Go.Proofs.Ytbcmefmnbpdfdaa.Vc
open Go.RowKit
set_option linter.unusedVariables false
set_option maxRecDepth 100000
theorem q71 {α : Type} (ds : List α) (o s : Nat) : ds.drop o = (ds.drop o).take s ++ ds.drop (o + s) := by
  rw [← List.drop_drop]; exact (List.take_append_drop s _).symm
theorem q3m {X : Type} {E : X → List D} {W : X → Prop} {sz : Nat} (hz : 0 < sz) : ∀ (m : Nat) (es : List D), es.length = m * sz → (∀ i, i < m → ∃ x, (es.drop (i * sz)).take sz = E x ∧ W x) → ∃ l : List X, es = l.flatMap E ∧ l.length = m ∧ ∀ x ∈ l, W x
  | 0, es, hl, _ => ⟨[], by rw [Nat.zero_mul] at hl; exact List.eq_nil_of_length_eq_zero hl, rfl, by simp⟩
  | m + 1, es, hl, h => by
    obtain ⟨x, hx, wx⟩ := h 0 (by omega)
    obtain ⟨l, g1, g2, g3⟩ := q3m hz m (es.drop sz) (by rw [List.length_drop, hl, Nat.add_mul]; omega) fun i hi => by
      obtain ⟨y, hy, wy⟩ := h (i + 1) (by omega)
      refine ⟨y, ?_, wy⟩
      rw [List.drop_drop, show sz + i * sz = (i + 1) * sz by rw [Nat.add_mul, Nat.one_mul, Nat.add_comm]]; exact hy
    refine ⟨x :: l, ?_, by simp [g2], fun y hy => ?_⟩
    · rw [Nat.zero_mul, List.drop_zero] at hx
      rw [List.flatMap_cons, ← g1, ← hx, List.take_append_drop]
    · rcases List.mem_cons.1 hy with rfl | hy
      · exact wx
      · exact g3 y hy
abbrev qgD : List TypeId := [22, 41, 3, 5, 24, 23]
theorem q6B : qhE Try.prog qgD = true := by kernel_rfl
theorem ty3 : ∀ (n : Nat) (ds : List D), Qw Try.prog n 3 ds → ∃ v : Int, ds = [D.int .i64 v] ∧ (Lit.int .i64 v).wf = true := by
  intro n ds h
  cases n with
  | zero => exact h.elim
  | succ n =>
    unfold Qw at h
    rw [Try.underlying3] at h
    obtain ⟨z, h1, h2⟩ := h
    exact ⟨z, h1, h2⟩
theorem cz3 : Try.prog.cellsOf 3 = 1 := by kernel_rfl
theorem qk7 : ∀ (n : Nat) (ds : List D), Qw Try.prog n 41 ds → ∃ v : List Int, ds = [D.sl 1 v.length (v.flatMap eI)] ∧ (v.length ≤ maxLen ∧ ∀ y ∈ v, (Lit.int .i64 y).wf = true) := by
  intro n ds h
  cases n with
  | zero => exact h.elim
  | succ n =>
    unfold Qw at h
    rw [Try.underlying41] at h
    obtain ⟨m, es, h1, h2, h3, h4⟩ := h
    rw [cz3] at h1 h3 h4
    obtain ⟨l, g1, g2, g3⟩ := q3m (E := eI) (W := fun y => (Lit.int .i64 y).wf = true) (sz := 1) (by decide) m es h3 fun i hi => by
      obtain ⟨v, q1, q2⟩ := ty3 n _ (h4 i hi)
      exact ⟨v, q1.trans (rfl), q2⟩
    refine ⟨l, ?_, by omega, g3⟩
    rw [h1, g1, g2]
theorem qj4 : Try.prog.cellsOf 41 = 1 := by kernel_rfl
theorem ty22 : ∀ (n : Nat) (ds : List D), Qw Try.prog n 22 ds → ∃ v : List (List Int), ds = [D.sl 1 v.length (v.flatMap (eL 1 eI))] ∧ (v.length ≤ maxLen ∧ ∀ y ∈ v, (y.length ≤ maxLen ∧ ∀ yy ∈ y, (Lit.int .i64 yy).wf = true)) := by
  intro n ds h
  cases n with
  | zero => exact h.elim
  | succ n =>
    unfold Qw at h
    rw [Try.underlying22] at h
    obtain ⟨m, es, h1, h2, h3, h4⟩ := h
    rw [qj4] at h1 h3 h4
    obtain ⟨l, g1, g2, g3⟩ := q3m (E := (eL 1 eI)) (W := fun y => (y.length ≤ maxLen ∧ ∀ yy ∈ y, (Lit.int .i64 yy).wf = true)) (sz := 1) (by decide) m es h3 fun i hi => by
      obtain ⟨v, q1, q2⟩ := qk7 n _ (h4 i hi)
      exact ⟨v, q1.trans (rfl), q2⟩
    refine ⟨l, ?_, by omega, g3⟩
    rw [h1, g1, g2]
theorem ty5 : ∀ (n : Nat) (ds : List D), Qw Try.prog n 5 ds → ∃ v : Int, ds = [D.int .u8 v] ∧ (Lit.int .u8 v).wf = true := by
  intro n ds h
  cases n with
  | zero => exact h.elim
  | succ n =>
    unfold Qw at h
    rw [Try.underlying5] at h
    obtain ⟨z, h1, h2⟩ := h
    exact ⟨z, h1, h2⟩
theorem qgg : ∀ (n : Nat) (ds : List D), Qw Try.prog n 23 ds → ∃ v : Int, ds = [D.int .u16 v] ∧ (Lit.int .u16 v).wf = true := by
  intro n ds h
  cases n with
  | zero => exact h.elim
  | succ n =>
    unfold Qw at h
    rw [Try.underlying23] at h
    obtain ⟨z, h1, h2⟩ := h
    exact ⟨z, h1, h2⟩
theorem qct : Try.prog.cellsOf 23 = 1 := by kernel_rfl
theorem qiV : Try.prog.cellsOf 24 = 3 := by kernel_rfl
theorem ty24 : ∀ (n : Nat) (ds : List D), Qw Try.prog n 24 ds → ∃ v : qcD Int, ds = [D.int .u16 v.a0, D.int .u16 v.a1, D.int .u16 v.a2] ∧ ((Lit.int .u16 v.a0).wf = true ∧ (Lit.int .u16 v.a1).wf = true ∧ (Lit.int .u16 v.a2).wf = true) := by
  intro n ds h
  cases n with
  | zero => exact h.elim
  | succ n =>
    unfold Qw at h
    rw [Try.underlying24] at h
    obtain ⟨hl, hf⟩ := h
    rw [qiV] at hl
    have h0 : Qw Try.prog n 23 ((ds.drop 0).take (Try.prog.cellsOf 23)) := by
      have := hf 0 (by decide)
      rwa [qct] at this ⊢
    rw [qct] at h0
    obtain ⟨v0, e0, w0⟩ := qgg _ _ h0
    have c0 := q71 ds 0 1
    rw [e0] at c0
    have h1 : Qw Try.prog n 23 ((ds.drop 1).take (Try.prog.cellsOf 23)) := by
      have := hf 1 (by decide)
      rwa [qct] at this ⊢
    rw [qct] at h1
    obtain ⟨v1, e1, w1⟩ := qgg _ _ h1
    have c1 := q71 ds 1 1
    rw [e1] at c1
    have h2 : Qw Try.prog n 23 ((ds.drop 2).take (Try.prog.cellsOf 23)) := by
      have := hf 2 (by decide)
      rwa [qct] at this ⊢
    rw [qct] at h2
    obtain ⟨v2, e2, w2⟩ := qgg _ _ h2
    have c2 := q71 ds 2 1
    rw [e2] at c2
    have cl : ds.drop 3 = [] := List.drop_eq_nil_of_le (by omega)
    refine ⟨⟨v0, v1, v2⟩, ?_, ⟨w0, w1, w2⟩⟩
    have c : ds.drop 0 = _ := c0
    simp only [Nat.reduceAdd] at c0 c1 c2 c
    rw [c1, c2, cl] at c
    exact c
end Go.Proofs.Ytbcmefmnbpdfdaa.Vc
namespace Go.Proofs.Ytbcmefmnbpdfdaa.Vc
open Go.RowKit
theorem qgN {x : Int} (h : (Lit.int .u8 x).wf = true) : 0 ≤ x ∧ x ≤ 255 := by
  have h : (decide (IntKind.u8.min ≤ x) && decide (x ≤ IntKind.u8.max)) = true := h
  rw [Bool.and_eq_true, decide_eq_true_eq, decide_eq_true_eq] at h
  exact h
theorem q5g {x : Int} (h : (Lit.int .u16 x).wf = true) : 0 ≤ x ∧ x ≤ 65535 := by
  have h : (decide (IntKind.u16.min ≤ x) && decide (x ≤ IntKind.u16.max)) = true := h
  rw [Bool.and_eq_true, decide_eq_true_eq, decide_eq_true_eq] at h
  exact h
theorem q07 (x0 : List (List Int)) (w0 : x0.length ≤ maxLen ∧ ∀ y ∈ x0, (y.length ≤ maxLen ∧ ∀ yy ∈ y, (Lit.int .i64 yy).wf = true)) (x1 : Int) (w1 : (Lit.int .u8 x1).wf = true) (x2 : qcD Int) (w2 : (Lit.int .u16 x2.a0).wf = true ∧ (Lit.int .u16 x2.a1).wf = true ∧ (Lit.int .u16 x2.a2).wf = true) : qV x0 x1 x2 = some true :=
  JN x0 x1 x2 w0.1 (fun y hy => (w0.2 y hy).1) (qgN w1) (q5g w2.1) (q5g w2.2.1) (q5g w2.2.2)
end Go.Proofs.Ytbcmefmnbpdfdaa.Vc
namespace Go.Proofs.Ytbcmefmnbpdfdaa
open Go.ChangeShapes Go.WideShapes Go.ChangeAt Go.RowKit Go.ChangeMaps
theorem own : ownKnob Try.prog.godebug = none := by kernel_rfl
theorem qat : laidOutB Try.prog = true := by kernel_rfl
section
variable {H : Type} {enc : TypeId × Value → H} {P : Program} {W W' : World}
theorem q25 {t e : TypeId} {n base : Nat} {r : Reach} {v : Value} (ht : P.underlying t = some (.array n e)) (h : Value.okWide P W r base t v) : ∃ cs, v = .agg cs ∧ cs.size = P.cellsOf t := by
  unfold Value.okWide at h
  rw [ht] at h
  obtain ⟨cs, h1, h2, -⟩ := h
  exact ⟨cs, h1, h2⟩
theorem q2P (hl : laidOutB P = true) (hb : Below W.heap.size W W') : ∀ {ts : List TypeId} {vs : List Value} {ds : List (DataW H)} {ps : List MemPlace}, (∀ t ∈ ts, P.readableRec t = true ∧ t < P.types.size) →
    DataW.TrodAll enc P W 0 (fun _ => true) true ts vs ds ps → (∀ p ∈ ps, p.block < W.heap.size) → DataW.TrodAll enc P W' 0 (fun b => decide (b < W.heap.size)) true ts vs ds ps
  | [], _, _, _, _, h, _ => by
    obtain ⟨rfl, rfl, rfl⟩ := trodAll_nil h
    exact trodAll_mk0
  | t :: ts, _, _, _, ht, h, hlt => by
    obtain ⟨v, vs, d, ds, p, q, rfl, rfl, rfl, h1, h2⟩ := trodAll_cons h
    exact trodAll_cons_mk (Below.trod hl (ht t List.mem_cons_self).1 (ht t List.mem_cons_self).2 h1 hb (fun x hx => hlt x (List.mem_append_left _ hx)))
      (q2P hl hb (fun u hu => ht u (List.mem_cons_of_mem _ hu)) h2 (fun x hx => hlt x (List.mem_append_right _ hx)))
theorem q88 {f : Func} {s : ChangeSpec} {apart fresh handsOn : Bool} {args : Array Value} {ds gs : List (DataW H)} {before : List MemPlace} {tb : TypeId} (hl : laidOutB P = true)
    (hts : ∀ t ∈ f.params.toList, P.readableRec t = true ∧ t < P.types.size) (hr : f.resultTypes = #[tb]) (htb : P.underlying tb = some .bool) (hv : s.vars = [])
    (h1 : (s.fn H (ds ++ gs)).results = [.lit (.bool true)]) (h2 : (s.fn H (ds ++ gs)).args = ds) (h3 : (s.fn H (ds ++ gs)).vars = [])
    (hW : DataW.Whole enc P f.params.toList s.vars apart W args.toList ds gs before) (hb : Below W.heap.size W W') :
    s.post enc P f apart fresh handsOn false W args (.bool true) W' := by
  have hlt : ∀ p ∈ before, p.block < W.heap.size := fun p hp => hW.lt p hp
  have hW2 := hW
  obtain ⟨pa, pv, hA, hV, hp, -, -⟩ := hW2
  rw [hv] at hV
  obtain ⟨rfl, rfl⟩ := trodVars_none hV
  rw [List.append_nil] at hp
  subst hp
  refine ⟨ds, [], before, [], before, [], hW, ?_, ?_, ?_, ?_, fun h => by cases h⟩
  · rw [h1, hr]
    exact trodAll_mk1 (shut_bool htb true)
  · rw [h2]
    exact q2P hl hb hts hA hlt
  · rw [h3, hv]
    exact hV
  · exact World.keptBut_mono (fun p hp => ⟨hp, .inr (.inl hp)⟩) (hb.frame (· ∈ before))
end
end Go.Proofs.Ytbcmefmnbpdfdaa
