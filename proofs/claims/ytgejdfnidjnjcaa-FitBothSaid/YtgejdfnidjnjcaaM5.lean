/- Part 5 of a proof. -/
import Derived.Test.YtgejdfnidjnjcaaM4
set_option linter.unusedVariables false
set_option linter.unusedSimpArgs false
set_option linter.defProp false
set_option linter.unusedSectionVars false
set_option linter.unnecessarySimpa false
namespace Go.Proofs.Ytgejdfnidjnjcaa.Vc
open Go.RowKit
set_option linter.unusedVariables false
set_option linter.unusedSimpArgs false
set_option maxRecDepth 20000
set_option linter.defProp false
noncomputable def Q5 (w4 : List Int) (b0 : qb) (b1 : qd) (t2 : List qa) (t3 : Int) (t16 : Int) (t49 : Int) (t50 : Int) : (List Int) → Option ((List Int) ⊕ (List Int))
  | w3 =>
    Option.bind (Zg b0 b1 t2 w3) fun (a : Prod (List Bool) (List Int)) =>
    if 0 ≤ t3 ∧ t3 < ((a.1.length : Nat) : Int) then Option.bind a.1[Int.toNat t3]? fun (a2 : Bool) =>
      if (!a2) = Bool.true then if 0 ≤ t16 ∧ t16 < ((a.2.length : Nat) : Int) then Option.bind a.2[Int.toNat t16]? fun (a3 : Int) =>
          if 0 ≤ t16 ∧ t16 < ((a.2.length : Nat) : Int) then if Int.toNat t16 + 1 ≤ a.2.length then some (Sum.inl (List.set a.2 (Int.toNat t16) (w64 (a3 + 1))))
            else none
          else none
        else none
      else some (Sum.inr a.2)
    else none
theorem q4I : ∀ (w3 w4 : List Int) (b0_Kind b0_N b0_Min : Int) (b0_Set : List qc) (b0_L : List qb) (b1_Worst b1_Best b1_Pass : Int) (t2 : List qa) (t3 t16 t49 t50 : Int) (w4_len w3_len : Nat), w4_len = w4.length → w3_len = w3.length → XL2 evo 11 0 14 ⟨[(2, rL 8 qf t2), (3, rI t3), (4, rP 0), (5, rP 1), (12, rP 2), (13, R.c (C.fn 25 [] [dP 2])), (14, R.c (C.fn 26 [] [dP 2])), (15, rO 4 1 w4_len), (16, rI t16), (49, rI t49), (50, rI t50)], [(0, B.blk 31 [dI b0_Kind, dI b0_N, dI b0_Min, dL 2 qe b0_Set, dL 5 qg b0_L]), (1, B.blk 37 [dI b1_Worst, dI b1_Best, dI b1_Pass]), (2, B.blk 22 [dO 3 1 w3_len]), (3, bR 3 1 eI w3), (4, bR 3 1 eI w4)], 5, 89⟩ = (qQ (Q5 w4 (qb.mk b0_Kind b0_N b0_Min b0_Set b0_L) (qd.mk b1_Worst b1_Best b1_Pass) t2 t3 t16 t49 t50) w3).bind (fun (e : List Int) => some (Go.Exit.exit 2, ⟨[(2, rL 8 qf t2), (3, rI t3), (4, rP 0), (5, rP 1), (12, rP 2), (13, R.c (C.fn 25 [] [dP 2])), (14, R.c (C.fn 26 [] [dP 2])), (15, rO 4 1 w4.length), (16, rI t16), (49, rI t49), (50, rI t50)], [(0, B.blk 31 [dI b0_Kind, dI b0_N, dI b0_Min, dL 2 qe b0_Set, dL 5 qg b0_L]), (1, B.blk 37 [dI b1_Worst, dI b1_Best, dI b1_Pass]), (2, B.blk 22 [dO 3 1 e.length]), (3, bR 3 1 eI e), (4, bR 3 1 eI w4)], 5, 89⟩)) :=
  by
  intro w3 w4 b0_Kind b0_N b0_Min b0_Set b0_L b1_Worst b1_Best b1_Pass t2 t3 t16 t49 t50 w4_len w3_len h0 h1
  subst h0 h1
  revert w3; exact qau qlg qkg (fun e => by exact ⟨_, rfl, fun h => by cases h⟩) fun x => by
    have := qse; have := @qbz.eq_1; have := @q7C; have := @Q5.eq_1; exact gA
noncomputable def q0A (fu : Nat) (w4 : List Int) (b0 : qb) (b1 : qd) (t2 : List qa) (t3 : Int) (t16 : Int) (t49 : Int) (t50 : Int) : (List Int) → Option ((List Int) ⊕ (List Int))
  | w3 =>
    Option.bind (q2i fu b0 b1 t2 w3) fun (a : Prod (List Bool) (List Int)) =>
    if 0 ≤ t3 ∧ t3 < ((a.1.length : Nat) : Int) then Option.bind a.1[Int.toNat t3]? fun (a2 : Bool) =>
      if (!a2) = Bool.true then if 0 ≤ t16 ∧ t16 < ((a.2.length : Nat) : Int) then Option.bind a.2[Int.toNat t16]? fun (a3 : Int) =>
          if 0 ≤ t16 ∧ t16 < ((a.2.length : Nat) : Int) then if Int.toNat t16 + 1 ≤ a.2.length then some (Sum.inl (List.set a.2 (Int.toNat t16) (w64 (a3 + 1))))
            else none
          else none
        else none
      else some (Sum.inr a.2)
    else none
theorem q4K (fu : Nat) (w4 : List Int) (b0 : qb) (b1 : qd) (t2 : List qa) (t3 t16 t49 t50 : Int) : ∀ x, qk (q0A fu w4 b0 b1 t2 t3 t16 t49 t50 x) (Q5 w4 b0 b1 t2 t3 t16 t49 t50 x) := by
  rintro w3
  unfold q0A Q5
  try dsimp only
  repeat (first
    | with_reducible exact qk.refl _
    | with_reducible exact qk.none _
    | with_reducible apply q7B
    | with_reducible refine qk.bind ?_ (fun _ => ?_)
    | with_reducible refine qk.ite ?_ ?_
    | with_reducible refine qk.sum (fun _ => ?_) (fun _ => ?_)
    | with_reducible refine qk.lim (fun _ => ?_))
noncomputable def zF (b0 : qb) (b1 : qd) (t2 : List qa) (t3 : Int) (t49 : Int) : (List Int × List Int × Int) → Option ((List Int × List Int × Int) ⊕ (List Int))
  | (w3, w4, t50) =>
    if t50 < t49 then if w3.length + 1 ≤ Go.maxLen ∧ (w3.length + 1) * 8 ≤ 140737488355328 then if 0 ≤ t50 then if (ZZ Go.BinOp.and Go.IntKind.i64 (Int.fdiv t3 (2 ^ min (Int.toNat t50) (Go.IntKind.bits Go.IntKind.i64))) 1 == 0) = Bool.true then some (Sum.inl (w3 ++ [(-1)], w4, w64 (t50 + 1)))
          else if 0 ≤ t50 ∧ t50 < ((w3.length + 1 : Nat) : Int) then if Int.toNat t50 ≤ w3.length then Option.bind (qQ (Q5 w4 b0 b1 t2 t3 t50 t49 t50) (List.set (w3 ++ [(-1)]) (Int.toNat t50) 0)) fun (a : List Int) =>
              if 0 ≤ t50 ∧ t50 < ((a.length : Nat) : Int) then Option.bind a[Int.toNat t50]? fun (a2 : Int) =>
                if w4.length + 1 ≤ Go.maxLen ∧ (w4.length + 1) * 8 ≤ 140737488355328 then some (Sum.inl (a, w4 ++ [a2], w64 (t50 + 1)))
                else none
              else none
            else none
          else none
        else none
      else none
    else some (Sum.inr w4)
theorem q5x : ∀ (w3 w4 : List Int) (b0_Kind b0_N b0_Min : Int) (b0_Set : List qc) (b0_L : List qb) (b1_Worst b1_Best b1_Pass : Int) (t2 : List qa) (t3 t49 t50 : Int) (w4_len w3_len : Nat), w4_len = w4.length → w3_len = w3.length → XL2 evo 11 0 9 ⟨[(2, rL 8 qf t2), (3, rI t3), (4, rP 0), (5, rP 1), (12, rP 2), (13, R.c (C.fn 25 [] [dP 2])), (14, R.c (C.fn 26 [] [dP 2])), (15, rO 4 1 w4_len), (49, rI t49), (50, rI t50)], [(0, B.blk 31 [dI b0_Kind, dI b0_N, dI b0_Min, dL 2 qe b0_Set, dL 5 qg b0_L]), (1, B.blk 37 [dI b1_Worst, dI b1_Best, dI b1_Pass]), (2, B.blk 22 [dO 3 1 w3_len]), (3, bR 3 1 eI w3), (4, bR 3 1 eI w4)], 5, 89⟩ = (qQ (zF (qb.mk b0_Kind b0_N b0_Min b0_Set b0_L) (qd.mk b1_Worst b1_Best b1_Pass) t2 t3 t49) (w3, w4, t50)).bind (fun (e : List Int) => some (Go.Exit.exit 0, ⟨[(15, rO 0 1 e.length)], [(0, bR 3 1 eI e)], 1, 89⟩)) :=
  by
  intro w3 w4 b0_Kind b0_N b0_Min b0_Set b0_L b1_Worst b1_Best b1_Pass t2 t3 t49 t50 w4_len w3_len h0 h1
  subst h0 h1
  revert t50; revert w4; revert w3; exact qtM qn0 qpi (fun e => by exact ⟨_, rfl, fun h => by cases h⟩) fun w3 w4 t50 => by
    have := qse; have := @qfJ.eq_1; have := @q4I; have := @zF.eq_1; exact gA
theorem q3F : ∀  (b0_Kind b0_N b0_Min : Int) (b0_Set : List qc) (b0_L : List qb) (b1_Worst b1_Best b1_Pass : Int) (t2 : List qa) (t3 t49 t50 : Int), XL2 evo 11 0 9 ⟨[(2, rL 8 qf t2), (3, rI t3), (4, rP 0), (5, rP 1), (12, rP 2), (13, R.c (C.fn 25 [] [dP 2])), (14, R.c (C.fn 26 [] [dP 2])), (15, rO 4 1 0), (49, rI t49), (50, rI t50)], [(0, B.blk 31 [dI b0_Kind, dI b0_N, dI b0_Min, dL 2 qe b0_Set, dL 5 qg b0_L]), (1, B.blk 37 [dI b1_Worst, dI b1_Best, dI b1_Pass]), (2, B.blk 22 [dO 3 1 0]), (3, B.row 3 1 []), (4, B.row 3 1 [])], 5, 89⟩ = (qQ (zF (qb.mk b0_Kind b0_N b0_Min b0_Set b0_L) (qd.mk b1_Worst b1_Best b1_Pass) t2 t3 t49) ([], [], t50)).bind (fun (e : List Int) => some (Go.Exit.exit 0, ⟨[(15, rO 0 1 e.length)], [(0, bR 3 1 eI e)], 1, 89⟩)) := by
  intro b0_Kind b0_N b0_Min b0_Set b0_L b1_Worst b1_Best b1_Pass t2 t3 t49 t50; have h := q5x [] [] ((qb.mk b0_Kind b0_N b0_Min b0_Set b0_L)).Kind ((qb.mk b0_Kind b0_N b0_Min b0_Set b0_L)).N ((qb.mk b0_Kind b0_N b0_Min b0_Set b0_L)).Min ((qb.mk b0_Kind b0_N b0_Min b0_Set b0_L)).Set ((qb.mk b0_Kind b0_N b0_Min b0_Set b0_L)).L ((qd.mk b1_Worst b1_Best b1_Pass)).Worst ((qd.mk b1_Worst b1_Best b1_Pass)).Best ((qd.mk b1_Worst b1_Best b1_Pass)).Pass t2 t3 t49 t50 _ _ rfl rfl
  first
    | exact h
    | (simp only [rL, dL, bR, bZ, Nat.reduceAdd] at h; exact h)
noncomputable def q0V (fu : Nat) (b0 : qb) (b1 : qd) (t2 : List qa) (t3 : Int) (t49 : Int) : (List Int × List Int × Int) → Option ((List Int × List Int × Int) ⊕ (List Int))
  | (w3, w4, t50) =>
    if t50 < t49 then if w3.length + 1 ≤ Go.maxLen ∧ (w3.length + 1) * 8 ≤ 140737488355328 then if 0 ≤ t50 then if (ZZ Go.BinOp.and Go.IntKind.i64 (Int.fdiv t3 (2 ^ min (Int.toNat t50) (Go.IntKind.bits Go.IntKind.i64))) 1 == 0) = Bool.true then some (Sum.inl (w3 ++ [(-1)], w4, w64 (t50 + 1)))
          else if 0 ≤ t50 ∧ t50 < ((w3.length + 1 : Nat) : Int) then if Int.toNat t50 ≤ w3.length then Option.bind (itT (q0A fu w4 b0 b1 t2 t3 t50 t49 t50) fu (List.set (w3 ++ [(-1)]) (Int.toNat t50) 0)) fun (a : List Int) =>
              if 0 ≤ t50 ∧ t50 < ((a.length : Nat) : Int) then Option.bind a[Int.toNat t50]? fun (a2 : Int) =>
                if w4.length + 1 ≤ Go.maxLen ∧ (w4.length + 1) * 8 ≤ 140737488355328 then some (Sum.inl (a, w4 ++ [a2], w64 (t50 + 1)))
                else none
              else none
            else none
          else none
        else none
      else none
    else some (Sum.inr w4)
theorem q5j (fu : Nat) (b0 : qb) (b1 : qd) (t2 : List qa) (t3 t49 : Int) : ∀ x, qk (q0V fu b0 b1 t2 t3 t49 x) (zF b0 b1 t2 t3 t49 x) := by
  rintro ⟨w3, w4, t50⟩
  unfold q0V zF
  try dsimp only
  repeat (first
    | with_reducible exact qk.refl _
    | with_reducible exact qk.none _
    | with_reducible apply q4K
    | with_reducible refine qk.bind ?_ (fun _ => ?_)
    | with_reducible refine qk.ite ?_ ?_
    | with_reducible refine qk.sum (fun _ => ?_) (fun _ => ?_)
    | with_reducible refine qk.lim (fun _ => ?_))
theorem qvV : okL 12 qfr := qz (qi qqY) (by kernel_rfl) (by kernel_rfl)
def qvb := JA_ @qfr.eq_1 (JA_ @Try.f12.eq_1 @qqY)
theorem quG : okL 29 qeG := qz (qi qsc) (by kernel_rfl) (by kernel_rfl)
def quF := JA_ @qeG.eq_1 (JA_ @Try.f29.eq_1 @qsc)
noncomputable def q0L (k : Int) (v : Int) : Option Bool :=
  if k < (-1) then some Bool.true
  else some (decide (v ≤ k))
noncomputable def Z9 (k : Int) (v : Int) : Bool :=
  if k < (-1) then Bool.true
  else decide (v ≤ k)
theorem q6m (k v : Int) : q0L k v = some (Z9 k v) := by
  unfold q0L Z9
  simp only [Qa]
theorem q7y : ∀ (k v : Int), ev 29 1 [rI k, rP 0] [(0, B.blk 3 [dI v])] = some (rB (Z9 k v), [(0, B.blk 3 [dI v])]) :=
  fun k v => by
    have h : ev 29 1 [rI k, rP 0] [(0, B.blk 3 [dI v])] = (q0L k v).bind (fun (e : Bool) => some (rB e, [(0, B.blk 3 [dI v])])) := by
      rw [qA qsc qsP.2.2.2 quG]
      have := quF; have := @q0L.eq_1; exact gA
    rw [q6m] at h
    exact h
noncomputable def qE (b0 : Int) (s : List Int) (t7 : Int) : Int → Option (Int ⊕ (Int ⊕ Unit))
  | t8 =>
    if t8 < t7 then if 0 ≤ t8 ∧ t8 < ((s.length : Nat) : Int) then Option.bind s[Int.toNat t8]? fun (a : Int) =>
        if Z9 a b0 = Bool.true then some (Sum.inr (Sum.inl t8))
        else some (Sum.inl (w64 (t8 + 1)))
      else none
    else some (Sum.inr (Sum.inr ()))
theorem Jy : ∀ (b0 : Int) (s : List Int) (t7 t8 : Int), XL2 evo 49 1 2 ⟨[(0, rL 1 eI s), (1, R.c (C.fn 29 [] [dP 0])), (7, rI t7), (8, rI t8)], [(0, B.blk 3 [dI b0])], 1, 19⟩ = (qQ (qE b0 s t7) t8).bind (Sum.elim (fun (e : Int) => some (Go.Exit.ret, ⟨[(4, rI e)], [(0, B.blk 3 [dI b0])], 1, 19⟩)) (fun (e : Unit) => some (Go.Exit.exit 0, ⟨[(4, R.any)], [(0, B.blk 3 [dI b0])], 1, 19⟩))) :=
  fun b0 s t7 t8 => by
    revert t8; exact qau qjw qk3 (fun e => by rcases e with _ | _ <;> exact ⟨_, rfl, fun h => by cases h⟩) fun x => by
      have := qqc; have := @qcg.eq_1; have := @q7y; have := @qE.eq_1; exact gA
noncomputable def qW (s : List Int) (b0 : Int) : Option Int :=
  Option.bind (qQ (qE b0 s ((s.length : Nat) : Int)) 0) fun (a : Sum Int Unit) =>
  Sum.elim (fun (a2 : Int) => some a2) (fun (a3 : Unit) => some (-1)) a
theorem q09 : ∀ (s : List Int) (b0 : Int), ev 49 1 [rL 1 eI s, R.c (C.fn 29 [] [dP 0])] [(0, B.blk 3 [dI b0])] = (qW s b0).bind (fun (e : Int) => some (rI e, [(0, B.blk 3 [dI b0])])) :=
  fun s b0 => by
    rw [qA qnD qrP.2.2.2 qqF]
    have := qqc; have := @Jy; have := @qW.eq_1; exact gA
noncomputable def QE (fu : Nat) (s : List Int) (b0 : Int) : Option Int :=
  Option.bind (itT (qE b0 s ((s.length : Nat) : Int)) fu 0) fun (a : Sum Int Unit) =>
  Sum.elim (fun (a2 : Int) => some a2) (fun (a3 : Unit) => some (-1)) a
theorem q02 (fu : Nat) (s : List Int) (b0 : Int) : qk (QE fu s b0) (qW s b0) := by
  unfold QE qW
  repeat (first
    | with_reducible exact qk.refl _
    | with_reducible exact qk.none _
    | with_reducible refine qk.bind ?_ (fun _ => ?_)
    | with_reducible refine qk.ite ?_ ?_
    | with_reducible refine qk.sum (fun _ => ?_) (fun _ => ?_)
    | with_reducible refine qk.lim (fun _ => ?_))
noncomputable def qD (s : List Int) (b0 : Int) : Option Bool :=
  Option.bind (qW s b0) fun (a : Int) =>
  some (decide (0 ≤ a))
theorem Jw : ∀ (s : List Int) (b0 : Int), ev 27 1 [rL 1 eI s, R.c (C.fn 29 [] [dP 0])] [(0, B.blk 3 [dI b0])] = (qD s b0).bind (fun (e : Bool) => some (rB e, [(0, B.blk 3 [dI b0])])) :=
  fun s b0 => by
    rw [qA qqj qrm.2.2.2 qtW]
    have := qsm; have := @q09; have := @qD.eq_1; exact gA
noncomputable def Qe (fu : Nat) (s : List Int) (b0 : Int) : Option Bool :=
  Option.bind (QE fu s b0) fun (a : Int) =>
  some (decide (0 ≤ a))
theorem Jx (fu : Nat) (s : List Int) (b0 : Int) : qk (Qe fu s b0) (qD s b0) := by
  unfold Qe qD
  repeat (first
    | with_reducible exact qk.refl _
    | with_reducible exact qk.none _
    | with_reducible apply q02
    | with_reducible refine qk.bind ?_ (fun _ => ?_)
    | with_reducible refine qk.ite ?_ ?_
    | with_reducible refine qk.sum (fun _ => ?_) (fun _ => ?_)
    | with_reducible refine qk.lim (fun _ => ?_))
theorem qtZ : okL 30 qcj := qz (qi qqm) (by kernel_rfl) (by kernel_rfl)
def qsi := JA_ @qcj.eq_1 (JA_ @Try.f30.eq_1 @qqm)
theorem qpc : lbO 30 8 = qfQ := Qj (qi qqm) rfl
theorem qp5 : okL 30 qfQ := zp qtZ (List.mem_of_getElem? (i := 0) (by kernel_rfl))
theorem qwq : okL 33 qej := qz (qi qr4) (by kernel_rfl) (by kernel_rfl)
def qvw := JA_ @qej.eq_1 (JA_ @Try.f33.eq_1 @qr4)
noncomputable def Za (k : Int) (v : List Int) (v2 : Int) : Option Bool :=
  if 0 ≤ k ∧ k < ((v.length : Nat) : Int) then Option.bind v[Int.toNat k]? fun (a : Int) =>
    some (a == v2)
  else none
theorem q50 : ∀ (k : Int) (v : List Int) (v2 : Int), ev 33 2 [rI k, rP 0, rP 1] [(0, B.blk 22 [dL 1 eI v]), (1, B.blk 3 [dI v2])] = (Za k v v2).bind (fun (e : Bool) => some (rB e, [(0, B.blk 22 [dL 1 eI v]), (1, B.blk 3 [dI v2])])) :=
  fun k v v2 => by
    rw [qA qr4 qsg.2.2.2 qwq]
    have := qvw; have := @Za.eq_1; exact gA
noncomputable def zL (b0 : List Int) (b1 : Int) (n : qb) (s : qd) (b4 : ql) (t13 : List qa) (t14 : Int) : (ql × Int) → Option ((ql × Int) ⊕ ql)
  | (out, t15) =>
    if t15 < t14 then if 0 ≤ t15 ∧ t15 < ((t13.length : Nat) : Int) then Option.bind t13[Int.toNat t15]? fun (a : qa) =>
        Option.bind (Za t15 b0 b1) fun (a2 : Bool) =>
        if a2 = Bool.true then if out.fine = Bool.true then Option.bind (QN n s a) fun (a3 : Bool) =>
            some (Sum.inl (ql.mk (w64 (out.many + 1)) (w64 (out.credits + a.Credits)) a3, w64 (t15 + 1)))
          else some (Sum.inl (ql.mk (w64 (out.many + 1)) (w64 (out.credits + a.Credits)) Bool.false, w64 (t15 + 1)))
        else some (Sum.inl (out, w64 (t15 + 1)))
      else none
    else some (Sum.inr out)
theorem q4s : ∀ (b0 : List Int) (b1 n_Kind n_N n_Min : Int) (n_Set : List qc) (n_L : List qb) (s_Worst s_Best s_Pass b4_many b4_credits : Int) (b4_fine : Bool) (out_many out_credits : Int) (out_fine : Bool) (t13 : List qa) (t14 t15 : Int), XL2 evo 32 2 3 ⟨[(3, R.c (C.fn 33 [] [dP 0, dP 1])), (4, rP 2), (5, rP 3), (8, rP 4), (9, rP 5), (13, rL 8 qf t13), (14, rI t14), (15, rI t15)], [(0, B.blk 22 [dL 1 eI b0]), (1, B.blk 3 [dI b1]), (2, B.blk 31 [dI n_Kind, dI n_N, dI n_Min, dL 2 qe n_Set, dL 5 qg n_L]), (3, B.blk 37 [dI s_Worst, dI s_Best, dI s_Pass]), (4, B.blk 70 [dI b4_many, dI b4_credits, dB b4_fine]), (5, B.blk 70 [dI out_many, dI out_credits, dB out_fine])], 6, 44⟩ = (qQ (zL b0 b1 (qb.mk n_Kind n_N n_Min n_Set n_L) (qd.mk s_Worst s_Best s_Pass) (ql.mk b4_many b4_credits b4_fine) t13 t14) ((ql.mk out_many out_credits out_fine), t15)).bind (fun (e : ql) => some (Go.Exit.exit 0, ⟨[(8, rP 2), (9, rP 3)], [(0, B.blk 22 [dL 1 eI b0]), (1, B.blk 3 [dI b1]), (2, B.blk 70 [dI b4_many, dI b4_credits, dB b4_fine]), (3, B.blk 70 [dI e.many, dI e.credits, dB e.fine])], 4, 44⟩)) :=
  fun b0 b1 n_Kind n_N n_Min n_Set n_L s_Worst s_Best s_Pass b4_many b4_credits b4_fine out_many out_credits out_fine t13 t14 t15 => by
    have h := q1B (E := evo) (f := 32) (k := 2) (st := fun x : ql × Int => (⟨[(3, R.c (C.fn 33 [] [dP 0, dP 1])), (4, rP 2), (5, rP 3), (8, rP 4), (9, rP 5), (13, rL 8 qf t13), (14, rI t14), (15, rI x.2)], [(0, B.blk 22 [dL 1 eI b0]), (1, B.blk 3 [dI b1]), (2, B.blk 31 [dI n_Kind, dI n_N, dI n_Min, dL 2 qe n_Set, dL 5 qg n_L]), (3, B.blk 37 [dI s_Worst, dI s_Best, dI s_Pass]), (4, B.blk 70 [dI b4_many, dI b4_credits, dB b4_fine]), (5, B.blk 70 [dI x.1.many, dI x.1.credits, dB x.1.fine])], 6, 44⟩ : S)) (ex := fun (e : ql) => (Go.Exit.exit 0, ⟨[(8, rP 2), (9, rP 3)], [(0, B.blk 22 [dL 1 eI b0]), (1, B.blk 3 [dI b1]), (2, B.blk 70 [dI b4_many, dI b4_credits, dB b4_fine]), (3, B.blk 70 [dI e.many, dI e.credits, dB e.fine])], 4, 44⟩)) (step := (zL b0 b1 (qb.mk n_Kind n_N n_Min n_Set n_L) (qd.mk s_Worst s_Best s_Pass) (ql.mk b4_many b4_credits b4_fine) t13 t14)) qk9 qk2 (fun e h => by cases h) (fun x => by
      obtain ⟨out, t15⟩ := x; have := qq3; have := @qcl.eq_1; have := @q50; have := @q2h; have := @zL.eq_1; exact gA) ((ql.mk out_many out_credits out_fine), t15)
    exact h
noncomputable def q0v (fu : Nat) (b0 : List Int) (b1 : Int) (n : qb) (s : qd) (b4 : ql) (t13 : List qa) (t14 : Int) : (ql × Int) → Option ((ql × Int) ⊕ ql)
  | (out, t15) =>
    if t15 < t14 then if 0 ≤ t15 ∧ t15 < ((t13.length : Nat) : Int) then Option.bind t13[Int.toNat t15]? fun (a : qa) =>
        Option.bind (Za t15 b0 b1) fun (a2 : Bool) =>
        if a2 = Bool.true then if out.fine = Bool.true then Option.bind (q0a fu n s a) fun (a3 : Bool) =>
            some (Sum.inl (ql.mk (w64 (out.many + 1)) (w64 (out.credits + a.Credits)) a3, w64 (t15 + 1)))
          else some (Sum.inl (ql.mk (w64 (out.many + 1)) (w64 (out.credits + a.Credits)) Bool.false, w64 (t15 + 1)))
        else some (Sum.inl (out, w64 (t15 + 1)))
      else none
    else some (Sum.inr out)
theorem q4R (fu : Nat) (b0 : List Int) (b1 : Int) (n : qb) (s : qd) (b4 : ql) (t13 : List qa) (t14 : Int) : ∀ x, qk (q0v fu b0 b1 n s b4 t13 t14 x) (zL b0 b1 n s b4 t13 t14 x) := by
  rintro ⟨out, t15⟩
  unfold q0v zL
  try dsimp only
  repeat (first
    | with_reducible exact qk.refl _
    | with_reducible exact qk.none _
    | with_reducible apply q2b
    | with_reducible refine qk.bind ?_ (fun _ => ?_)
    | with_reducible refine qk.ite ?_ ?_
    | with_reducible refine qk.sum (fun _ => ?_) (fun _ => ?_)
    | with_reducible refine qk.lim (fun _ => ?_))
noncomputable def Zn (n : qb) (s : qd) (l : List qa) (b0 : List Int) (b1 : Int) : Option ql :=
  Option.bind (qQ (zL b0 b1 n s (ql.mk 0 0 Bool.false) l ((l.length : Nat) : Int)) (ql.mk 0 0 Bool.true, 0)) fun (a : ql) =>
  some a
theorem q7a : ∀ (n_Kind n_N n_Min : Int) (n_Set : List qc) (n_L : List qb) (s_Worst s_Best s_Pass : Int) (l : List qa) (b0 : List Int) (b1 : Int), ev 32 2 [R.agg [dI n_Kind, dI n_N, dI n_Min, dL 2 qe n_Set, dL 5 qg n_L], R.agg [dI s_Worst, dI s_Best, dI s_Pass], rL 8 qf l, R.c (C.fn 33 [] [dP 0, dP 1])] [(0, B.blk 22 [dL 1 eI b0]), (1, B.blk 3 [dI b1])] = (Zn (qb.mk n_Kind n_N n_Min n_Set n_L) (qd.mk s_Worst s_Best s_Pass) l b0 b1).bind (fun (e : ql) => some (R.agg [dI e.many, dI e.credits, dB e.fine], [(0, B.blk 22 [dL 1 eI b0]), (1, B.blk 3 [dI b1])])) :=
  fun n_Kind n_N n_Min n_Set n_L s_Worst s_Best s_Pass l b0 b1 => by
    rw [qA qni qqr.2.2.2 qrS]
    have := qq3; have := @q4s; have := @Zn.eq_1; exact gA
noncomputable def q2n (fu : Nat) (n : qb) (s : qd) (l : List qa) (b0 : List Int) (b1 : Int) : Option ql :=
  Option.bind (itT (q0v fu b0 b1 n s (ql.mk 0 0 Bool.false) l ((l.length : Nat) : Int)) fu (ql.mk 0 0 Bool.true, 0)) fun (a : ql) =>
  some a
theorem q7k (fu : Nat) (n : qb) (s : qd) (l : List qa) (b0 : List Int) (b1 : Int) : qk (q2n fu n s l b0 b1) (Zn n s l b0 b1) := by
  unfold q2n Zn
  repeat (first
    | with_reducible exact qk.refl _
    | with_reducible exact qk.none _
    | with_reducible apply q4R
    | with_reducible refine qk.bind ?_ (fun _ => ?_)
    | with_reducible refine qk.ite ?_ ?_
    | with_reducible refine qk.sum (fun _ => ?_) (fun _ => ?_)
    | with_reducible refine qk.lim (fun _ => ?_))
noncomputable def Qh (x : (qb × qd × List qa × List Int × Int)) : List R × List (Nat × B) := ([R.agg [C.d (D.int .i64 x.1.Kind), C.d (D.int .i64 x.1.N), C.d (D.int .i64 x.1.Min), C.d (D.sl 2 x.1.Set.length (x.1.Set.flatMap qe)), C.d (D.sl 5 x.1.L.length (x.1.L.flatMap qg))], R.c (C.ptr 0 0), R.c (C.ptr 1 0), R.c (C.ptr 2 0), R.c (C.ptr 3 0), R.c (C.ptr 4 0)], [(0, B.blk 37 [C.d (D.int .i64 x.2.1.Worst), C.d (D.int .i64 x.2.1.Best), C.d (D.int .i64 x.2.1.Pass)]), (1, B.blk 32 [C.d (D.sl 8 x.2.2.1.length (x.2.2.1.flatMap qf))]), (2, B.blk 22 [C.d (D.sl 1 x.2.2.2.1.length (x.2.2.2.1.flatMap eI))]), (3, B.blk 3 [C.d (D.int .i64 x.2.2.2.2)]), (4, B.blk 67 [C.fn 30 [] [C.ptr 0 0, C.ptr 1 0, C.ptr 2 0, C.ptr 3 0, C.ptr 4 0]])])
noncomputable def Qy : (Bool × Bool × qd × List qa × List Int × Int) → R × List (Nat × B) := fun (e : Bool × Bool × qd × List qa × List Int × Int) => (R.tup [R.c (C.d (D.bool e.1)), R.c (C.d (D.bool e.2.1))], [(0, B.blk 37 [C.d (D.int .i64 e.2.2.1.Worst), C.d (D.int .i64 e.2.2.1.Best), C.d (D.int .i64 e.2.2.1.Pass)]), (1, B.blk 32 [C.d (D.sl 8 e.2.2.2.1.length (e.2.2.2.1.flatMap qf))]), (2, B.blk 22 [C.d (D.sl 1 e.2.2.2.2.1.length (e.2.2.2.2.1.flatMap eI))]), (3, B.blk 3 [C.d (D.int .i64 e.2.2.2.2.2)]), (4, B.blk 67 [C.fn 30 [] [C.ptr 0 0, C.ptr 1 0, C.ptr 2 0, C.ptr 3 0, C.ptr 4 0]])])
noncomputable def zK (rF : (qb × qd × List qa × List Int × Int) → Option (Bool × Bool × qd × List qa × List Int × Int)) (b5 : qb) (t35 : List qb) (t36 : Int) : (qd × List qa × List Int × Int × Bool × Int × Bool × Int) → Option ((qd × List qa × List Int × Int × Bool × Int × Bool × Int) ⊕ (qd × List qa × List Int × Int × Bool × Int × Bool))
  | (b0, b1, b2, b3, t7, t10, t11, t37) =>
    if t37 < t36 then if 0 ≤ t37 ∧ t37 < ((t35.length : Nat) : Int) then Option.bind t35[Int.toNat t37]? fun (a2 : qb) =>
        Option.bind (rF (a2, (b0, (b1, (b2, b3))))) fun (a3 : Prod Bool (Prod Bool (Prod qd (Prod (List qa) (Prod (List Int) Int))))) =>
        if t7 = Bool.true then if t11 = Bool.true then if a3.2.1 = Bool.true then some (Sum.inl (a3.2.2.1, a3.2.2.2.1, a3.2.2.2.2.1, a3.2.2.2.2.2, a3.1, w64 (t10 + 1), Bool.true, w64 (t37 + 1)))
            else some (Sum.inl (a3.2.2.1, a3.2.2.2.1, a3.2.2.2.2.1, a3.2.2.2.2.2, a3.1, t10, Bool.true, w64 (t37 + 1)))
          else if (!a3.2.1) = Bool.true then if (!a3.1) = Bool.true then if a3.2.1 = Bool.true then some (Sum.inl (a3.2.2.1, a3.2.2.2.1, a3.2.2.2.2.1, a3.2.2.2.2.2, a3.1, w64 (t10 + 1), Bool.true, w64 (t37 + 1)))
              else some (Sum.inl (a3.2.2.1, a3.2.2.2.1, a3.2.2.2.2.1, a3.2.2.2.2.2, a3.1, t10, Bool.true, w64 (t37 + 1)))
            else if a3.2.1 = Bool.true then some (Sum.inl (a3.2.2.1, a3.2.2.2.1, a3.2.2.2.2.1, a3.2.2.2.2.2, a3.1, w64 (t10 + 1), b5.Kind == 3, w64 (t37 + 1)))
            else some (Sum.inl (a3.2.2.1, a3.2.2.2.1, a3.2.2.2.2.1, a3.2.2.2.2.2, a3.1, t10, b5.Kind == 3, w64 (t37 + 1)))
          else if a3.2.1 = Bool.true then some (Sum.inl (a3.2.2.1, a3.2.2.2.1, a3.2.2.2.2.1, a3.2.2.2.2.2, a3.1, w64 (t10 + 1), Bool.false, w64 (t37 + 1)))
          else some (Sum.inl (a3.2.2.1, a3.2.2.2.1, a3.2.2.2.2.1, a3.2.2.2.2.2, a3.1, t10, Bool.false, w64 (t37 + 1)))
        else if t11 = Bool.true then if a3.2.1 = Bool.true then some (Sum.inl (a3.2.2.1, a3.2.2.2.1, a3.2.2.2.2.1, a3.2.2.2.2.2, Bool.false, w64 (t10 + 1), Bool.true, w64 (t37 + 1)))
          else some (Sum.inl (a3.2.2.1, a3.2.2.2.1, a3.2.2.2.2.1, a3.2.2.2.2.2, Bool.false, t10, Bool.true, w64 (t37 + 1)))
        else if (!a3.2.1) = Bool.true then if (!a3.1) = Bool.true then if a3.2.1 = Bool.true then some (Sum.inl (a3.2.2.1, a3.2.2.2.1, a3.2.2.2.2.1, a3.2.2.2.2.2, Bool.false, w64 (t10 + 1), Bool.true, w64 (t37 + 1)))
            else some (Sum.inl (a3.2.2.1, a3.2.2.2.1, a3.2.2.2.2.1, a3.2.2.2.2.2, Bool.false, t10, Bool.true, w64 (t37 + 1)))
          else if a3.2.1 = Bool.true then some (Sum.inl (a3.2.2.1, a3.2.2.2.1, a3.2.2.2.2.1, a3.2.2.2.2.2, Bool.false, w64 (t10 + 1), b5.Kind == 3, w64 (t37 + 1)))
          else some (Sum.inl (a3.2.2.1, a3.2.2.2.1, a3.2.2.2.2.1, a3.2.2.2.2.2, Bool.false, t10, b5.Kind == 3, w64 (t37 + 1)))
        else if a3.2.1 = Bool.true then some (Sum.inl (a3.2.2.1, a3.2.2.2.1, a3.2.2.2.2.1, a3.2.2.2.2.2, Bool.false, w64 (t10 + 1), Bool.false, w64 (t37 + 1)))
        else some (Sum.inl (a3.2.2.1, a3.2.2.2.1, a3.2.2.2.2.1, a3.2.2.2.2.2, Bool.false, t10, Bool.false, w64 (t37 + 1)))
      else none
    else some (Sum.inr (b0, b1, b2, b3, t7, t10, t11))
theorem q4x (rE : Orc) (rF : (qb × qd × List qa × List Int × Int) → Option (Bool × Bool × qd × List qa × List Int × Int)) (hF : ∀ y, rE (.fn 30) 5 (Qh y).1 (Qh y).2 = (rF y).bind fun e => some (Qy e)) (hM : ∀ g k a G, g ≠ 30 → rE (.fn g) k a G = ev g k a G) (hR : ∀ g asg bd k a G, rE (.rd g asg bd) k a G = evr g asg bd k a G) : ∀ (b0_Worst b0_Best b0_Pass : Int) (b1 : List qa) (b2 : List Int) (b3 b5_Kind b5_N b5_Min : Int) (b5_Set : List qc) (b5_L : List qb) (t7 : Bool) (t10 : Int) (t11 : Bool) (t35 : List qb) (t36 t37 : Int), XL2 rE 30 5 8 ⟨[(5, rP 4), (6, rP 5), (7, rB t7), (10, rI t10), (11, rB t11), (35, rL 5 qg t35), (36, rI t36), (37, rI t37)], [(0, B.blk 37 [dI b0_Worst, dI b0_Best, dI b0_Pass]), (1, B.blk 32 [dL 8 qf b1]), (2, B.blk 22 [dL 1 eI b2]), (3, B.blk 3 [dI b3]), (4, B.blk 67 [C.fn 30 [] [dP 0, dP 1, dP 2, dP 3, dP 4]]), (5, B.blk 31 [dI b5_Kind, dI b5_N, dI b5_Min, dL 2 qe b5_Set, dL 5 qg b5_L])], 6, 78⟩ = (qQ (zK rF (qb.mk b5_Kind b5_N b5_Min b5_Set b5_L) t35 t36) ((qd.mk b0_Worst b0_Best b0_Pass), b1, b2, b3, t7, t10, t11, t37)).bind (fun (e : qd × List qa × List Int × Int × Bool × Int × Bool) => some (Go.Exit.exit 0, ⟨[(6, rP 5), (7, rB e.2.2.2.2.1), (10, rI e.2.2.2.2.2.1), (11, rB e.2.2.2.2.2.2)], [(0, B.blk 37 [dI e.1.Worst, dI e.1.Best, dI e.1.Pass]), (1, B.blk 32 [dL 8 qf e.2.1]), (2, B.blk 22 [dL 1 eI e.2.2.1]), (3, B.blk 3 [dI e.2.2.2.1]), (4, B.blk 67 [C.fn 30 [] [dP 0, dP 1, dP 2, dP 3, dP 4]]), (5, B.blk 31 [dI b5_Kind, dI b5_N, dI b5_Min, dL 2 qe b5_Set, dL 5 qg b5_L])], 6, 78⟩)) :=
  fun b0_Worst b0_Best b0_Pass b1 b2 b3 b5_Kind b5_N b5_Min b5_Set b5_L t7 t10 t11 t35 t36 t37 => by
    have h := q1B (E := rE) (f := 30) (k := 5) (st := fun x : qd × List qa × List Int × Int × Bool × Int × Bool × Int => (⟨[(5, rP 4), (6, rP 5), (7, rB x.2.2.2.2.1), (10, rI x.2.2.2.2.2.1), (11, rB x.2.2.2.2.2.2.1), (35, rL 5 qg t35), (36, rI t36), (37, rI x.2.2.2.2.2.2.2)], [(0, B.blk 37 [dI x.1.Worst, dI x.1.Best, dI x.1.Pass]), (1, B.blk 32 [dL 8 qf x.2.1]), (2, B.blk 22 [dL 1 eI x.2.2.1]), (3, B.blk 3 [dI x.2.2.2.1]), (4, B.blk 67 [C.fn 30 [] [dP 0, dP 1, dP 2, dP 3, dP 4]]), (5, B.blk 31 [dI b5_Kind, dI b5_N, dI b5_Min, dL 2 qe b5_Set, dL 5 qg b5_L])], 6, 78⟩ : S)) (ex := fun (e : qd × List qa × List Int × Int × Bool × Int × Bool) => (Go.Exit.exit 0, ⟨[(6, rP 5), (7, rB e.2.2.2.2.1), (10, rI e.2.2.2.2.2.1), (11, rB e.2.2.2.2.2.2)], [(0, B.blk 37 [dI e.1.Worst, dI e.1.Best, dI e.1.Pass]), (1, B.blk 32 [dL 8 qf e.2.1]), (2, B.blk 22 [dL 1 eI e.2.2.1]), (3, B.blk 3 [dI e.2.2.2.1]), (4, B.blk 67 [C.fn 30 [] [dP 0, dP 1, dP 2, dP 3, dP 4]]), (5, B.blk 31 [dI b5_Kind, dI b5_N, dI b5_Min, dL 2 qe b5_Set, dL 5 qg b5_L])], 6, 78⟩)) (step := (zK rF (qb.mk b5_Kind b5_N b5_Min b5_Set b5_L) t35 t36)) qpc qp5 (fun e h => by cases h) (fun x => by
      obtain ⟨b0, b1, b2, b3, t7, t10, t11, t37⟩ := x; have hF' : ∀ (x0_Kind x0_N x0_Min : Int) (x0_Set : List qc) (x0_L : List qb) (v_Worst v_Best v_Pass : Int) (v2 : List qa) (v3 : List Int) (v4 : Int), rE (.fn 30) 5 [R.agg [dI x0_Kind, dI x0_N, dI x0_Min, dL 2 qe x0_Set, dL 5 qg x0_L], rP 0, rP 1, rP 2, rP 3, rP 4] [(0, B.blk 37 [dI v_Worst, dI v_Best, dI v_Pass]), (1, B.blk 32 [dL 8 qf v2]), (2, B.blk 22 [dL 1 eI v3]), (3, B.blk 3 [dI v4]), (4, B.blk 67 [C.fn 30 [] [dP 0, dP 1, dP 2, dP 3, dP 4]])] = (rF ((qb.mk x0_Kind x0_N x0_Min x0_Set x0_L), (qd.mk v_Worst v_Best v_Pass), v2, v3, v4)).bind (fun e => some (R.tup [rB e.1, rB e.2.1], [(0, B.blk 37 [dI e.2.2.1.Worst, dI e.2.2.1.Best, dI e.2.2.1.Pass]), (1, B.blk 32 [dL 8 qf e.2.2.2.1]), (2, B.blk 22 [dL 1 eI e.2.2.2.2.1]), (3, B.blk 3 [dI e.2.2.2.2.2]), (4, B.blk 67 [C.fn 30 [] [dP 0, dP 1, dP 2, dP 3, dP 4]])])) := fun x0_Kind x0_N x0_Min x0_Set x0_L v_Worst v_Best v_Pass v2 v3 v4 => hF ((qb.mk x0_Kind x0_N x0_Min x0_Set x0_L), (qd.mk v_Worst v_Best v_Pass), v2, v3, v4)
      have := qsi; have := @qfQ.eq_1; have := @zK.eq_1; exact gA) ((qd.mk b0_Worst b0_Best b0_Pass), b1, b2, b3, t7, t10, t11, t37)
    exact h
noncomputable def q0x (fu : Nat) (rF : (qb × qd × List qa × List Int × Int) → Option (Bool × Bool × qd × List qa × List Int × Int)) (b5 : qb) (t35 : List qb) (t36 : Int) : (qd × List qa × List Int × Int × Bool × Int × Bool × Int) → Option ((qd × List qa × List Int × Int × Bool × Int × Bool × Int) ⊕ (qd × List qa × List Int × Int × Bool × Int × Bool))
  | (b0, b1, b2, b3, t7, t10, t11, t37) =>
    if t37 < t36 then if 0 ≤ t37 ∧ t37 < ((t35.length : Nat) : Int) then Option.bind t35[Int.toNat t37]? fun (a2 : qb) =>
        Option.bind (rF (a2, (b0, (b1, (b2, b3))))) fun (a3 : Prod Bool (Prod Bool (Prod qd (Prod (List qa) (Prod (List Int) Int))))) =>
        if t7 = Bool.true then if t11 = Bool.true then if a3.2.1 = Bool.true then some (Sum.inl (a3.2.2.1, a3.2.2.2.1, a3.2.2.2.2.1, a3.2.2.2.2.2, a3.1, w64 (t10 + 1), Bool.true, w64 (t37 + 1)))
            else some (Sum.inl (a3.2.2.1, a3.2.2.2.1, a3.2.2.2.2.1, a3.2.2.2.2.2, a3.1, t10, Bool.true, w64 (t37 + 1)))
          else if (!a3.2.1) = Bool.true then if (!a3.1) = Bool.true then if a3.2.1 = Bool.true then some (Sum.inl (a3.2.2.1, a3.2.2.2.1, a3.2.2.2.2.1, a3.2.2.2.2.2, a3.1, w64 (t10 + 1), Bool.true, w64 (t37 + 1)))
              else some (Sum.inl (a3.2.2.1, a3.2.2.2.1, a3.2.2.2.2.1, a3.2.2.2.2.2, a3.1, t10, Bool.true, w64 (t37 + 1)))
            else if a3.2.1 = Bool.true then some (Sum.inl (a3.2.2.1, a3.2.2.2.1, a3.2.2.2.2.1, a3.2.2.2.2.2, a3.1, w64 (t10 + 1), b5.Kind == 3, w64 (t37 + 1)))
            else some (Sum.inl (a3.2.2.1, a3.2.2.2.1, a3.2.2.2.2.1, a3.2.2.2.2.2, a3.1, t10, b5.Kind == 3, w64 (t37 + 1)))
          else if a3.2.1 = Bool.true then some (Sum.inl (a3.2.2.1, a3.2.2.2.1, a3.2.2.2.2.1, a3.2.2.2.2.2, a3.1, w64 (t10 + 1), Bool.false, w64 (t37 + 1)))
          else some (Sum.inl (a3.2.2.1, a3.2.2.2.1, a3.2.2.2.2.1, a3.2.2.2.2.2, a3.1, t10, Bool.false, w64 (t37 + 1)))
        else if t11 = Bool.true then if a3.2.1 = Bool.true then some (Sum.inl (a3.2.2.1, a3.2.2.2.1, a3.2.2.2.2.1, a3.2.2.2.2.2, Bool.false, w64 (t10 + 1), Bool.true, w64 (t37 + 1)))
          else some (Sum.inl (a3.2.2.1, a3.2.2.2.1, a3.2.2.2.2.1, a3.2.2.2.2.2, Bool.false, t10, Bool.true, w64 (t37 + 1)))
        else if (!a3.2.1) = Bool.true then if (!a3.1) = Bool.true then if a3.2.1 = Bool.true then some (Sum.inl (a3.2.2.1, a3.2.2.2.1, a3.2.2.2.2.1, a3.2.2.2.2.2, Bool.false, w64 (t10 + 1), Bool.true, w64 (t37 + 1)))
            else some (Sum.inl (a3.2.2.1, a3.2.2.2.1, a3.2.2.2.2.1, a3.2.2.2.2.2, Bool.false, t10, Bool.true, w64 (t37 + 1)))
          else if a3.2.1 = Bool.true then some (Sum.inl (a3.2.2.1, a3.2.2.2.1, a3.2.2.2.2.1, a3.2.2.2.2.2, Bool.false, w64 (t10 + 1), b5.Kind == 3, w64 (t37 + 1)))
          else some (Sum.inl (a3.2.2.1, a3.2.2.2.1, a3.2.2.2.2.1, a3.2.2.2.2.2, Bool.false, t10, b5.Kind == 3, w64 (t37 + 1)))
        else if a3.2.1 = Bool.true then some (Sum.inl (a3.2.2.1, a3.2.2.2.1, a3.2.2.2.2.1, a3.2.2.2.2.2, Bool.false, w64 (t10 + 1), Bool.false, w64 (t37 + 1)))
        else some (Sum.inl (a3.2.2.1, a3.2.2.2.1, a3.2.2.2.2.1, a3.2.2.2.2.2, Bool.false, t10, Bool.false, w64 (t37 + 1)))
      else none
    else some (Sum.inr (b0, b1, b2, b3, t7, t10, t11))
theorem q4C (fu : Nat) (rF rF2 : (qb × qd × List qa × List Int × Int) → Option (Bool × Bool × qd × List qa × List Int × Int)) (hF : ∀ y, qk (rF y) (rF2 y)) (b5 : qb) (t35 : List qb) (t36 : Int) : ∀ x, qk (q0x fu rF b5 t35 t36 x) (zK rF2 b5 t35 t36 x) := by
  rintro ⟨b0, b1, b2, b3, t7, t10, t11, t37⟩
  unfold q0x zK
  try dsimp only
  repeat (first
    | with_reducible exact qk.refl _
    | with_reducible exact qk.none _
    | exact hF _
    | with_reducible refine qk.bind ?_ (fun _ => ?_)
    | with_reducible refine qk.ite ?_ ?_
    | with_reducible refine qk.sum (fun _ => ?_) (fun _ => ?_)
    | with_reducible refine qk.lim (fun _ => ?_))
noncomputable def Qr (rF : (qb × qd × List qa × List Int × Int) → Option (Bool × Bool × qd × List qa × List Int × Int)) : (qb × qd × List qa × List Int × Int) → Option (Bool × Bool × qd × List qa × List Int × Int)
  | (x0, v, v2, v3, v4) =>
    if zS x0 = Bool.true then Option.bind (Zn x0 v v2 v3 v4) fun (a2 : ql) =>
      Option.bind (QK x0.Kind) fun (a3 : Sum Unit Unit) =>
      Sum.elim (fun (a4 : Unit) => some (a2.many == 0, qx a2 x0, v, v2, v3, w64 (v4 + 1))) (fun (a5 : Unit) => some (a2.many == 0, qI a2 x0, v, v2, v3, w64 (v4 + 1))) a3
    else Option.bind (qQ (zK rF x0 x0.L ((x0.L.length : Nat) : Int)) (v, (v2, (v3, (v4, (Bool.true, (0, (Bool.false, 0)))))))) fun (a6 : Prod qd (Prod (List qa) (Prod (List Int) (Prod Int (Prod Bool (Prod Int Bool)))))) =>
    if (!a6.2.2.2.2.2.2) = Bool.true then some (a6.2.2.2.2.1, decide (x0.N ≤ a6.2.2.2.2.2.1), a6.1, a6.2.1, a6.2.2.1, a6.2.2.2.1)
    else some (a6.2.2.2.2.1, Bool.false, a6.1, a6.2.1, a6.2.2.1, a6.2.2.2.1)
theorem q2A : q4n 30 5 Qh Qy Qr := by
  intro rE rF hF hM hR x
  obtain ⟨x0, v, v2, v3, v4⟩ := x
  show q6a rE 30 5 [R.agg [dI x0.Kind, dI x0.N, dI x0.Min, dL 2 qe x0.Set, dL 5 qg x0.L], rP 0, rP 1, rP 2, rP 3, rP 4] [(0, B.blk 37 [dI v.Worst, dI v.Best, dI v.Pass]), (1, B.blk 32 [dL 8 qf v2]), (2, B.blk 22 [dL 1 eI v3]), (3, B.blk 3 [dI v4]), (4, B.blk 67 [C.fn 30 [] [dP 0, dP 1, dP 2, dP 3, dP 4]])] = _
  have hF' : ∀ (x0_Kind x0_N x0_Min : Int) (x0_Set : List qc) (x0_L : List qb) (v_Worst v_Best v_Pass : Int) (v2 : List qa) (v3 : List Int) (v4 : Int), rE (.fn 30) 5 [R.agg [dI x0_Kind, dI x0_N, dI x0_Min, dL 2 qe x0_Set, dL 5 qg x0_L], rP 0, rP 1, rP 2, rP 3, rP 4] [(0, B.blk 37 [dI v_Worst, dI v_Best, dI v_Pass]), (1, B.blk 32 [dL 8 qf v2]), (2, B.blk 22 [dL 1 eI v3]), (3, B.blk 3 [dI v4]), (4, B.blk 67 [C.fn 30 [] [dP 0, dP 1, dP 2, dP 3, dP 4]])] = (rF ((qb.mk x0_Kind x0_N x0_Min x0_Set x0_L), (qd.mk v_Worst v_Best v_Pass), v2, v3, v4)).bind (fun e => some (R.tup [rB e.1, rB e.2.1], [(0, B.blk 37 [dI e.2.2.1.Worst, dI e.2.2.1.Best, dI e.2.2.1.Pass]), (1, B.blk 32 [dL 8 qf e.2.2.2.1]), (2, B.blk 22 [dL 1 eI e.2.2.2.2.1]), (3, B.blk 3 [dI e.2.2.2.2.2]), (4, B.blk 67 [C.fn 30 [] [dP 0, dP 1, dP 2, dP 3, dP 4]])])) := fun x0_Kind x0_N x0_Min x0_Set x0_L v_Worst v_Best v_Pass v2 v3 v4 => hF ((qb.mk x0_Kind x0_N x0_Min x0_Set x0_L), (qd.mk v_Worst v_Best v_Pass), v2, v3, v4)
  rw [q1h qqm qtZ]
  have := qsi; have := @q0M; have := @q7a; have := @q1C; have := @J3; have := @q01; have := q4x rE rF hF hM hR; have := @Qr.eq_1; have := @Qy.eq_1; exact gA
theorem q0G : ∀ x y, Qh x = Qh y → x = y := by
  rintro ⟨⟨a0_0, a0_1, a0_2, a0_3, a0_4⟩, ⟨a1_0, a1_1, a1_2⟩, a2, a3, a4⟩ ⟨⟨b0_0, b0_1, b0_2, b0_3, b0_4⟩, ⟨b1_0, b1_1, b1_2⟩, b2, b3, b4⟩ h
  simp only [Qh, Prod.mk.injEq, List.cons.injEq, R.c.injEq, R.agg.injEq, R.tup.injEq, C.d.injEq, C.own.injEq, C.ptr.injEq, C.eptr.injEq, D.int.injEq, D.bool.injEq, D.str.injEq, D.sl.injEq, B.blk.injEq, B.row.injEq, ZD, JY, ZK, J4, Jm, q0W, ZG, q1j, true_and, and_true, List.nil_append] at h
  simp only [h]
theorem q4v : ∀ x y, Qy x = Qy y → x = y := by
  rintro ⟨a0, a1, ⟨a2_0, a2_1, a2_2⟩, a3, a4, a5⟩ ⟨b0, b1, ⟨b2_0, b2_1, b2_2⟩, b3, b4, b5⟩ h
  simp only [Qy, Prod.mk.injEq, List.cons.injEq, R.c.injEq, R.agg.injEq, R.tup.injEq, C.d.injEq, C.own.injEq, C.ptr.injEq, C.eptr.injEq, D.int.injEq, D.bool.injEq, D.str.injEq, D.sl.injEq, B.blk.injEq, B.row.injEq, ZD, JY, ZK, J4, Jm, q0W, ZG, q1j, true_and, and_true, List.nil_append] at h
  simp only [h]
noncomputable def QF : (qb × qd × List qa × List Int × Int) → Option (Bool × Bool × qd × List qa × List Int × Int) := q4N 30 5 Qh Qy
theorem q2t (x : (qb × qd × List qa × List Int × Int)) : QF x = Qr QF x := q8p qrG.2.2.2 q0G q4v q2A x
theorem q6r (x0 : qb) (v : qd) (v2 : List qa) (v3 : List Int) (v4 : Int) : ev 30 5 [R.agg [dI x0.Kind, dI x0.N, dI x0.Min, dL 2 qe x0.Set, dL 5 qg x0.L], rP 0, rP 1, rP 2, rP 3, rP 4] [(0, B.blk 37 [dI v.Worst, dI v.Best, dI v.Pass]), (1, B.blk 32 [dL 8 qf v2]), (2, B.blk 22 [dL 1 eI v3]), (3, B.blk 3 [dI v4]), (4, B.blk 67 [C.fn 30 [] [dP 0, dP 1, dP 2, dP 3, dP 4]])] = (QF (x0, v, v2, v3, v4)).bind (fun (e : Bool × Bool × qd × List qa × List Int × Int) => some (R.tup [rB e.1, rB e.2.1], [(0, B.blk 37 [dI e.2.2.1.Worst, dI e.2.2.1.Best, dI e.2.2.1.Pass]), (1, B.blk 32 [dL 8 qf e.2.2.2.1]), (2, B.blk 22 [dL 1 eI e.2.2.2.2.1]), (3, B.blk 3 [dI e.2.2.2.2.2]), (4, B.blk 67 [C.fn 30 [] [dP 0, dP 1, dP 2, dP 3, dP 4]])])) := (q5W qrG.2.2.2 q0G q2A (x0, v, v2, v3, v4))
theorem q7c : ∀ (x0_Kind x0_N x0_Min : Int) (x0_Set : List qc) (x0_L : List qb) (v_Worst v_Best v_Pass : Int) (v2 : List qa) (v3 : List Int) (v4 : Int), ev 30 5 [R.agg [dI x0_Kind, dI x0_N, dI x0_Min, dL 2 qe x0_Set, dL 5 qg x0_L], rP 0, rP 1, rP 2, rP 3, rP 4] [(0, B.blk 37 [dI v_Worst, dI v_Best, dI v_Pass]), (1, B.blk 32 [dL 8 qf v2]), (2, B.blk 22 [dL 1 eI v3]), (3, B.blk 3 [dI v4]), (4, B.blk 67 [C.fn 30 [] [dP 0, dP 1, dP 2, dP 3, dP 4]])] = (QF ((qb.mk x0_Kind x0_N x0_Min x0_Set x0_L), (qd.mk v_Worst v_Best v_Pass), v2, v3, v4)).bind (fun (e : Bool × Bool × qd × List qa × List Int × Int) => some (R.tup [rB e.1, rB e.2.1], [(0, B.blk 37 [dI e.2.2.1.Worst, dI e.2.2.1.Best, dI e.2.2.1.Pass]), (1, B.blk 32 [dL 8 qf e.2.2.2.1]), (2, B.blk 22 [dL 1 eI e.2.2.2.2.1]), (3, B.blk 3 [dI e.2.2.2.2.2]), (4, B.blk 67 [C.fn 30 [] [dP 0, dP 1, dP 2, dP 3, dP 4]])])) :=
  fun x0_Kind x0_N x0_Min x0_Set x0_L v_Worst v_Best v_Pass v2 v3 v4 => q6r (qb.mk x0_Kind x0_N x0_Min x0_Set x0_L) (qd.mk v_Worst v_Best v_Pass) v2 v3 v4
noncomputable def JP (fu : Nat) (rF : (qb × qd × List qa × List Int × Int) → Option (Bool × Bool × qd × List qa × List Int × Int)) : (qb × qd × List qa × List Int × Int) → Option (Bool × Bool × qd × List qa × List Int × Int)
  | (x0, v, v2, v3, v4) =>
    if zS x0 = Bool.true then Option.bind (q2n fu x0 v v2 v3 v4) fun (a2 : ql) =>
      Option.bind (QK x0.Kind) fun (a3 : Sum Unit Unit) =>
      Sum.elim (fun (a4 : Unit) => some (a2.many == 0, qx a2 x0, v, v2, v3, w64 (v4 + 1))) (fun (a5 : Unit) => some (a2.many == 0, qI a2 x0, v, v2, v3, w64 (v4 + 1))) a3
    else Option.bind (itT (q0x fu rF x0 x0.L ((x0.L.length : Nat) : Int)) fu (v, (v2, (v3, (v4, (Bool.true, (0, (Bool.false, 0)))))))) fun (a6 : Prod qd (Prod (List qa) (Prod (List Int) (Prod Int (Prod Bool (Prod Int Bool)))))) =>
    if (!a6.2.2.2.2.2.2) = Bool.true then some (a6.2.2.2.2.1, decide (x0.N ≤ a6.2.2.2.2.2.1), a6.1, a6.2.1, a6.2.2.1, a6.2.2.2.1)
    else some (a6.2.2.2.2.1, Bool.false, a6.1, a6.2.1, a6.2.2.1, a6.2.2.2.1)
theorem q3k (fu : Nat) (rF rF2 : (qb × qd × List qa × List Int × Int) → Option (Bool × Bool × qd × List qa × List Int × Int)) (hF : ∀ y, qk (rF y) (rF2 y)) : ∀ x, qk (JP fu rF x) (Qr rF2 x) := by
  rintro ⟨x0, v, v2, v3, v4⟩
  unfold JP Qr
  try dsimp only
  repeat (first
    | with_reducible exact qk.refl _
    | with_reducible exact qk.none _
    | exact hF _
    | with_reducible apply q7k
    | (with_reducible refine q4C _ _ _ hF ..)
    | with_reducible refine qk.bind ?_ (fun _ => ?_)
    | with_reducible refine qk.ite ?_ ?_
    | with_reducible refine qk.sum (fun _ => ?_) (fun _ => ?_)
    | with_reducible refine qk.lim (fun _ => ?_))
noncomputable def q5M (fu : Nat) (x : (qb × qd × List qa × List Int × Int)) : Option (Bool × Bool × qd × List qa × List Int × Int) := itR (JP fu) fu x
theorem q7G (fu : Nat) (x : (qb × qd × List qa × List Int × Int)) : qk (q5M fu x) (QF x) := qk.rec q2t (q3k fu) fu x
theorem qqw : okL 18 qaC := qz (qi qo5) (by kernel_rfl) (by kernel_rfl)
def qqG := JA_ @qaC.eq_1 (JA_ @Try.f18.eq_1 @qo5)
theorem qnK : lbO 18 6 = qg9 := Qj (qi qo5) rfl
theorem qpm : okL 18 qg9 := zp qqw (List.mem_of_getElem? (i := 0) (by kernel_rfl))
theorem qlG : lbO 18 10 = qbI := Qj (qi qo5) rfl
theorem ql4 : okL 18 qbI := zp qqw (List.mem_of_getElem? (i := 1) (by kernel_rfl))
noncomputable def Ji (want : List Int) (set0 : Int) (ok : Bool) (t34 : List Bool) (t35 : Int) (t36 : Int) (t41 : List Int) (t42 : Int) : (Bool × Int) → Option ((Bool × Int) ⊕ Bool)
  | (in0, t43) =>
    if t43 < t42 then if 0 ≤ t43 ∧ t43 < ((t41.length : Nat) : Int) then Option.bind t41[Int.toNat t43]? fun (a : Int) =>
        if in0 = Bool.true then some (Sum.inl (Bool.true, w64 (t43 + 1)))
        else some (Sum.inl (a == set0, w64 (t43 + 1)))
      else none
    else some (Sum.inr in0)
theorem q4p : ∀ (want : List Int) (set0 : Int) (ok in0 : Bool) (t34 : List Bool) (t35 t36 : Int) (t41 : List Int) (t42 t43 : Int), XL2 evo 18 0 10 ⟨[(1, rL 1 eI want), (10, rI set0), (11, rB ok), (12, rB in0), (34, rL 1 eB t34), (35, rI t35), (36, rI t36), (41, rL 1 eI t41), (42, rI t42), (43, rI t43)], [], 0, 58⟩ = (qQ (Ji want set0 ok t34 t35 t36 t41 t42) (in0, t43)).bind (fun (e : Bool) => some (Go.Exit.exit 2, ⟨[(1, rL 1 eI want), (11, rB ok), (12, rB e), (34, rL 1 eB t34), (35, rI t35), (36, rI t36)], [], 0, 58⟩)) :=
  fun want set0 ok in0 t34 t35 t36 t41 t42 t43 => by
    revert t43; revert in0; exact q92 qlG ql4 (fun e => by exact ⟨_, rfl, fun h => by cases h⟩) fun in0 t43 => by
      have := qqG; have := @qbI.eq_1; have := @Ji.eq_1; exact gA
noncomputable def ZH (want : List Int) (t34 : List Bool) (t35 : Int) : Int → Option (Int ⊕ (Unit ⊕ Unit))
  | t36 =>
    if t36 < t35 then if 0 ≤ t36 ∧ t36 < ((t34.length : Nat) : Int) then Option.bind t34[Int.toNat t36]? fun (a : Bool) =>
        Option.bind (qQ (Ji want t36 a t34 t35 t36 want ((want.length : Nat) : Int)) (Bool.false, 0)) fun (a2 : Bool) =>
        if (!(a == a2)) = Bool.true then some (Sum.inr (Sum.inl ()))
        else some (Sum.inl (w64 (t36 + 1)))
      else none
    else some (Sum.inr (Sum.inr ()))
theorem q5b : ∀ (want : List Int) (t34 : List Bool) (t35 t36 : Int), XL2 evo 18 0 6 ⟨[(1, rL 1 eI want), (34, rL 1 eB t34), (35, rI t35), (36, rI t36)], [], 0, 58⟩ = (qQ (ZH want t34 t35) t36).bind (Sum.elim (fun (e : Unit) => some (Go.Exit.ret, ⟨[(4, rB Bool.false)], [], 0, 58⟩)) (fun (e : Unit) => some (Go.Exit.exit 0, ⟨[(4, R.any)], [], 0, 58⟩))) :=
  fun want t34 t35 t36 => by
    revert t36; exact qau qnK qpm (fun e => by rcases e with _ | _ <;> exact ⟨_, rfl, fun h => by cases h⟩) fun x => by
      have := qqG; have := @qg9.eq_1; have := @q4p; have := @ZH.eq_1; exact gA
noncomputable def q15 (fu : Nat) (want : List Int) (t34 : List Bool) (t35 : Int) : Int → Option (Int ⊕ (Unit ⊕ Unit))
  | t36 =>
    if t36 < t35 then if 0 ≤ t36 ∧ t36 < ((t34.length : Nat) : Int) then Option.bind t34[Int.toNat t36]? fun (a : Bool) =>
        Option.bind (itT (Ji want t36 a t34 t35 t36 want ((want.length : Nat) : Int)) fu (Bool.false, 0)) fun (a2 : Bool) =>
        if (!(a == a2)) = Bool.true then some (Sum.inr (Sum.inl ()))
        else some (Sum.inl (w64 (t36 + 1)))
      else none
    else some (Sum.inr (Sum.inr ()))
theorem q5n (fu : Nat) (want : List Int) (t34 : List Bool) (t35 : Int) : ∀ x, qk (q15 fu want t34 t35 x) (ZH want t34 t35 x) := by
  rintro t36
  unfold q15 ZH
  try dsimp only
  repeat (first
    | with_reducible exact qk.refl _
    | with_reducible exact qk.none _
    | with_reducible refine qk.bind ?_ (fun _ => ?_)
    | with_reducible refine qk.ite ?_ ?_
    | with_reducible refine qk.sum (fun _ => ?_) (fun _ => ?_)
    | with_reducible refine qk.lim (fun _ => ?_))
theorem qtg : okL 15 qde := qz (qi qqf) (by kernel_rfl) (by kernel_rfl)
def qsV := JA_ @qde.eq_1 (JA_ @Try.f15.eq_1 @qqf)
theorem qo3 : lbO 15 4 = qew := Qj (qi qqf) rfl
theorem qnp : okL 15 qew := zp qtg (List.mem_of_getElem? (i := 0) (by kernel_rfl))
noncomputable def Zl (a : List Int) (b : List Int) : Int → Option (Int ⊕ (Unit ⊕ Unit))
  | k =>
    if k < ((a.length : Nat) : Int) then if 0 ≤ k ∧ k < ((a.length : Nat) : Int) then Option.bind a[Int.toNat k]? fun (a2 : Int) =>
        if 0 ≤ k ∧ k < ((b.length : Nat) : Int) then Option.bind b[Int.toNat k]? fun (a3 : Int) =>
          if (a2 != a3) = Bool.true then some (Sum.inr (Sum.inl ()))
          else some (Sum.inl (w64 (k + 1)))
        else none
      else none
    else some (Sum.inr (Sum.inr ()))
theorem q2V : ∀ (a b : List Int) (k : Int), XL2 evo 15 0 4 ⟨[(0, rL 1 eI a), (1, rL 1 eI b), (5, rI k)], [], 0, 26⟩ = (qQ (Zl a b) k).bind (Sum.elim (fun (e : Unit) => some (Go.Exit.ret, ⟨[(4, rB Bool.false)], [], 0, 26⟩)) (fun (e : Unit) => some (Go.Exit.exit 0, ⟨[(4, R.any)], [], 0, 26⟩))) :=
  fun a b k => by
    revert k; exact qau qo3 qnp (fun e => by rcases e with _ | _ <;> exact ⟨_, rfl, fun h => by cases h⟩) fun x => by
      have := qsV; have := @qew.eq_1; have := @Zl.eq_1; exact gA
noncomputable def Q3 (a : List Int) (b : List Int) : Option Bool :=
  if (((a.length : Nat) : Int) != ((b.length : Nat) : Int)) = Bool.true then some Bool.false
  else Option.bind (qQ (Zl a b) 0) fun (a2 : Sum Unit Unit) =>
  Sum.elim (fun (a3 : Unit) => some Bool.false) (fun (a4 : Unit) => some Bool.true) a2
theorem q13 : ∀ (a b : List Int), ev 15 0 [rL 1 eI a, rL 1 eI b] [] = (Q3 a b).bind (fun (e : Bool) => some (rB e, [])) :=
  fun a b => by
    rw [qA qqf qso.2.2.2 qtg]
    have := qsV; have := @q2V; have := @Q3.eq_1; exact gA
theorem q2H : ∀ (b0 b1 b2 : Int) (a : List Int), ev 15 0 [rL 1 eI a, R.c (C.d (D.sl 1 3 [D.int .i64 b0, D.int .i64 b1, D.int .i64 b2]))] [] = (Q3 a [b0, b1, b2]).bind (fun (e : Bool) => some (rB e, [])) := by
  intro b0 b1 b2 a; have h := q13 a [b0, b1, b2]
  first
    | exact h
    | (simp only [rL, dL, bR, bZ, Nat.reduceAdd] at h; exact h)
theorem q2N : ∀ (b0 b1 : Int) (a : List Int), ev 15 0 [rL 1 eI a, R.c (C.d (D.sl 1 2 [D.int .i64 b0, D.int .i64 b1]))] [] = (Q3 a [b0, b1]).bind (fun (e : Bool) => some (rB e, [])) := by
  intro b0 b1 a; have h := q13 a [b0, b1]
  first
    | exact h
    | (simp only [rL, dL, bR, bZ, Nat.reduceAdd] at h; exact h)
noncomputable def Jg (fu : Nat) (a : List Int) (b : List Int) : Option Bool :=
  if (((a.length : Nat) : Int) != ((b.length : Nat) : Int)) = Bool.true then some Bool.false
  else Option.bind (itT (Zl a b) fu 0) fun (a2 : Sum Unit Unit) =>
  Sum.elim (fun (a3 : Unit) => some Bool.false) (fun (a4 : Unit) => some Bool.true) a2
theorem q4r (fu : Nat) (a b : List Int) : qk (Jg fu a b) (Q3 a b) := by
  unfold Jg Q3
  repeat (first
    | with_reducible exact qk.refl _
    | with_reducible exact qk.none _
    | with_reducible refine qk.bind ?_ (fun _ => ?_)
    | with_reducible refine qk.ite ?_ ?_
    | with_reducible refine qk.sum (fun _ => ?_) (fun _ => ?_)
    | with_reducible refine qk.lim (fun _ => ?_))
theorem lo5 : okL 5 qiN := qz (qi bd5) (by kernel_rfl) (by kernel_rfl)
def cx5 := JA_ @qiN.eq_1 (JA_ @Try.f5.eq_1 @bd5)
theorem qrW : lbO 5 7 = qkq := Qj (qi bd5) rfl
theorem qrX : okL 5 qkq := zp lo5 (List.mem_of_getElem? (i := 0) (by kernel_rfl))
theorem lo7 : okL 7 qlQ := qz (qi bd7) (by kernel_rfl) (by kernel_rfl)
def cx7 := JA_ @qlQ.eq_1 (JA_ @Try.f7.eq_1 @bd7)
theorem qwl : okL 19 qgU := qz (qi qr8) (by kernel_rfl) (by kernel_rfl)
def qwh := JA_ @qgU.eq_1 (JA_ @Try.f19.eq_1 @qr8)
theorem qtJ : okL 40 qcz := qz (qi qqb) (by kernel_rfl) (by kernel_rfl)
def qsZ := JA_ @qcz.eq_1 (JA_ @Try.f40.eq_1 @qqb)
theorem qmK : lbO 40 9 = qeO := Qj (qi qqb) rfl
theorem qoS : okL 40 qeO := zp qtJ (List.mem_of_getElem? (i := 0) (by kernel_rfl))
theorem qww : okL 57 qfA := qz (qi qrH) (by kernel_rfl) (by kernel_rfl)
def qvd := JA_ @qfA.eq_1 (JA_ @Try.f57.eq_1 @qrH)
noncomputable def qm (most : Int) (d : qh) : Option (Int × qh) :=
  if ((d.L.length : Nat) : Int) ≤ d.At then some (0, d)
  else if 0 ≤ d.At ∧ d.At < ((d.L.length : Nat) : Int) then Option.bind d.L[Int.toNat d.At]? fun (a : Int) =>
    if most = 0 then none
    else if most = 0 then none
    else some (Int.tmod (w64 (Int.tmod a most + most)) most, qh.mk d.L (w64 (d.At + 1)))
  else none
theorem J2 : ∀ (most : Int) (d_L : List Int) (d_At : Int), ev 57 1 [rP 0, rI most] [(0, B.blk 83 [dL 1 eI d_L, dI d_At])] = (qm most (qh.mk d_L d_At)).bind (fun (e : Int × qh) => some (rI e.1, [(0, B.blk 83 [dL 1 eI e.2.L, dI e.2.At])])) :=
  fun most d_L d_At => by
    rw [qA qrH qtP.2.2.2 qww]
    have := qvd; have := @qm.eq_1; exact gA
theorem qrF : okL 58 qaw := qz (qi qp9) (by kernel_rfl) (by kernel_rfl)
def qqH := JA_ @qaw.eq_1 (JA_ @Try.f58.eq_1 @qp9)
theorem qpr : lbO 58 4 = qfp := Qj (qi qp9) rfl
theorem qpf : okL 58 qfp := zp qrF (List.mem_of_getElem? (i := 0) (by kernel_rfl))
theorem qnC : lbO 58 8 = qgN := Qj (qi qp9) rfl
theorem qmS : okL 58 qgN := zp qrF (List.mem_of_getElem? (i := 1) (by kernel_rfl))
theorem quE : okL 72 qe3 := qz (qi qry) (by kernel_rfl) (by kernel_rfl)
def quX := JA_ @qe3.eq_1 (JA_ @Try.f72.eq_1 @qry)
theorem qvt : okL 77 qhl := qz (qi qqW) (by kernel_rfl) (by kernel_rfl)
def quY := JA_ @qhl.eq_1 (JA_ @Try.f77.eq_1 @qqW)
noncomputable def q0K : Option (List ByteArray) :=
  some [ByteArray.mk (List.toArray [65, 49]), ByteArray.mk (List.toArray [66, 49]), ByteArray.mk (List.toArray [66, 50]), ByteArray.mk (List.toArray [67, 49]), ByteArray.mk (List.toArray [68, 49]), ByteArray.mk (List.toArray [69, 57])]
noncomputable def qS : List ByteArray :=
  [ByteArray.mk (List.toArray [65, 49]), ByteArray.mk (List.toArray [66, 49]), ByteArray.mk (List.toArray [66, 50]), ByteArray.mk (List.toArray [67, 49]), ByteArray.mk (List.toArray [68, 49]), ByteArray.mk (List.toArray [69, 57])]
theorem q6j : q0K = some (qS) := by
  unfold q0K qS
  simp only [Qa]
theorem q7g : ev 77 0 [] [] = some (R.c (C.d (D.sl 1 (qS).length ((qS).flatMap eS))), []) :=
  by
    have h : ev 77 0 [] [] = (q0K).bind (fun (e : List ByteArray) => some (rL 1 eS e, [])) := by
      rw [qA qqW qsO.2.2.2 qvt]
      have := quY; have := @q0K.eq_1; exact gA
    rw [q6j] at h
    exact h
noncomputable def Jc (d : qh) : Option (qc × qh) :=
  Option.bind (qm 6 d) fun (a : Prod Int qh) =>
  if 0 ≤ a.1 ∧ a.1 < 6 then Option.bind [(1 : Int), 1, 1, 2, 2, 3][Int.toNat a.1]? fun (a2 : Int) =>
    Option.bind (qm ((qS.length : Nat) : Int) a.2) fun (a3 : Prod Int qh) =>
    if 0 ≤ a3.1 ∧ a3.1 < ((qS.length : Nat) : Int) then Option.bind qS[Int.toNat a3.1]? fun (a4 : ByteArray) =>
      some (qc.mk a2 a4, a3.2)
    else none
  else none
theorem q6P : ∀ (d_L : List Int) (d_At : Int), ev 72 1 [rP 0] [(0, B.blk 83 [dL 1 eI d_L, dI d_At])] = (Jc (qh.mk d_L d_At)).bind (fun (e : qc × qh) => some (R.agg [dI e.1.School, dS e.1.Code], [(0, B.blk 83 [dL 1 eI e.2.L, dI e.2.At])])) :=
  fun d_L d_At => by
    rw [qA qry qu3.2.2.2 quE]
    have := quX; have := @J2; have := @q7g; have := @Jc.eq_1; exact gA
theorem qur : okL 60 qgc := qz (qi qrl) (by kernel_rfl) (by kernel_rfl)
def qv2 := JA_ @qgc.eq_1 (JA_ @Try.f60.eq_1 @qrl)
noncomputable def Jf (a : qc) (b : qc) : Option Bool :=
  if a.School < b.School then some Bool.true
  else if (a.School == b.School) = Bool.true then some (Go.Op.bytesLess (ByteArray.toList a.Code) (ByteArray.toList b.Code))
  else some Bool.false
noncomputable def zn (a : qc) (b : qc) : Bool :=
  if a.School < b.School then Bool.true
  else if (a.School == b.School) = Bool.true then Go.Op.bytesLess (ByteArray.toList a.Code) (ByteArray.toList b.Code)
  else Bool.false
theorem q46 (a b : qc) : Jf a b = some (zn a b) := by
  unfold Jf zn
  simp only [Qa]
theorem Jo : ∀ (a_School : Int) (a_Code : ByteArray) (b_School : Int) (b_Code : ByteArray), ev 60 0 [R.agg [dI a_School, dS a_Code], R.agg [dI b_School, dS b_Code]] [] = some (rB (zn (qc.mk a_School a_Code) (qc.mk b_School b_Code)), []) :=
  fun a_School a_Code b_School b_Code => by
    have h : ev 60 0 [R.agg [dI a_School, dS a_Code], R.agg [dI b_School, dS b_Code]] [] = (Jf (qc.mk a_School a_Code) (qc.mk b_School b_Code)).bind (fun (e : Bool) => some (rB e, [])) := by
      rw [qA qrl qsk.2.2.2 qur]
      have := qv2; have := @Jf.eq_1; exact gA
    rw [q46] at h
    exact h
noncomputable def QW (out : List qc) (d : qh) (c : qc) (many : Int) (k : Int) : Int → Option (Int ⊕ Int)
  | at0 =>
    if at0 < ((out.length : Nat) : Int) then if 0 ≤ at0 ∧ at0 < ((out.length : Nat) : Int) then Option.bind out[Int.toNat at0]? fun (a : qc) =>
        if zn a c = Bool.true then some (Sum.inl (w64 (at0 + 1)))
        else some (Sum.inr at0)
      else none
    else some (Sum.inr at0)
theorem q6V : ∀ (out : List qc) (d_L : List Int) (d_At c_School : Int) (c_Code : ByteArray) (many k at0 : Int) (out_len : Nat), out_len = out.length → XL2 evo 58 1 8 ⟨[(0, rP 0), (3, rI many), (4, rO 1 2 out_len), (5, rI k), (6, rP 2), (7, rI at0)], [(0, B.blk 83 [dL 1 eI d_L, dI d_At]), (1, bR 52 2 qe out), (2, B.blk 52 [dI c_School, dS c_Code])], 3, 61⟩ = (qQ (QW out (qh.mk d_L d_At) (qc.mk c_School c_Code) many k) at0).bind (fun (e : Int) => some (Go.Exit.exit 2, ⟨[(0, rP 0), (3, rI many), (4, rO 1 2 out.length), (5, rI k), (6, rP 2), (7, rI e)], [(0, B.blk 83 [dL 1 eI d_L, dI d_At]), (1, bR 52 2 qe out), (2, B.blk 52 [dI c_School, dS c_Code])], 3, 61⟩)) :=
  by
  intro out d_L d_At c_School c_Code many k at0 out_len h0
  subst h0
  revert at0; exact qau qnC qmS (fun e => by exact ⟨_, rfl, fun h => by cases h⟩) fun x => by
    have := qqH; have := @qgN.eq_1; have := @Jo; have := @QW.eq_1; exact gA
noncomputable def Qo (many : Int) : (List qc × qh × Int) → Option ((List qc × qh × Int) ⊕ (List qc × qh))
  | (out, d, k) =>
    if k < many then Option.bind (Jc d) fun (a : Prod qc qh) =>
      Option.bind (qQ (QW out a.2 a.1 many k) 0) fun (a2 : Int) =>
      if a2 < ((out.length : Nat) : Int) then if 0 ≤ a2 ∧ a2 < ((out.length : Nat) : Int) then Option.bind out[Int.toNat a2]? fun (a3 : qc) =>
          if (a3.School == a.1.School) = Bool.true ∧ (ByteArray.toList a3.Code == ByteArray.toList a.1.Code) = Bool.true then some (Sum.inl (out, a.2, w64 (k + 1)))
          else if out.length + 1 ≤ Go.maxLen ∧ (out.length + 1) * 24 ≤ 140737488355328 then if 0 ≤ w64 (a2 + 1) ∧ w64 (a2 + 1) ≤ ((out.length + 1 : Nat) : Int) then if w64 (a2 + 1) = 0 ∨ w64 (a2 + 1) < ((out.length + 1 : Nat) : Int) then if 0 ≤ a2 ∧ a2 ≤ ((out.length + 1 : Nat) : Int) then if a2 = 0 ∨ a2 < ((out.length + 1 : Nat) : Int) then if (List.take (out.length + 1 - Int.toNat a2) (List.drop (Int.toNat a2) (out ++ [qc.mk 0 (ByteArray.mk (List.toArray []))]))).length * 2 = (out.length + 1 - Int.toNat a2) * 2 ∧ Int.toNat (w64 (a2 + 1)) * 2 + (out.length + 1 - Int.toNat (w64 (a2 + 1))) * 2 ≤ (out.length + 1) * 2 then if 0 ≤ a2 ∧ a2 < ((out.length + 1 : Nat) : Int) then if Int.toNat a2 * 2 + 2 ≤ (out.length + 1) * 2 then some (Sum.inl (List.set (spl (out ++ [qc.mk 0 (ByteArray.mk (List.toArray []))]) (Int.toNat (w64 (a2 + 1))) (List.take (min (out.length + 1 - Int.toNat a2) (out.length + 1 - Int.toNat (w64 (a2 + 1)))) (List.take (out.length + 1 - Int.toNat a2) (List.drop (Int.toNat a2) (out ++ [qc.mk 0 (ByteArray.mk (List.toArray []))]))))) (Int.toNat a2) a.1, a.2, w64 (k + 1)))
                        else none
                      else none
                    else none
                  else if Int.toNat (w64 (a2 + 1)) * 2 + (out.length + 1 - Int.toNat (w64 (a2 + 1))) * 2 ≤ (out.length + 1) * 2 then if 0 ≤ a2 ∧ a2 < ((out.length + 1 : Nat) : Int) then if Int.toNat a2 * 2 + 2 ≤ (out.length + 1) * 2 then some (Sum.inl (List.set (out ++ [qc.mk 0 (ByteArray.mk (List.toArray []))]) (Int.toNat a2) a.1, a.2, w64 (k + 1)))
                      else none
                    else none
                  else none
                else none
              else if 0 ≤ a2 ∧ a2 ≤ ((out.length + 1 : Nat) : Int) then if a2 = 0 ∨ a2 < ((out.length + 1 : Nat) : Int) then if (List.take (out.length + 1 - Int.toNat a2) (List.drop (Int.toNat a2) (out ++ [qc.mk 0 (ByteArray.mk (List.toArray []))]))).length * 2 = (out.length + 1 - Int.toNat a2) * 2 then if 0 ≤ a2 ∧ a2 < ((out.length + 1 : Nat) : Int) then if Int.toNat a2 * 2 + 2 ≤ (out.length + 1) * 2 then some (Sum.inl (List.set (out ++ [qc.mk 0 (ByteArray.mk (List.toArray []))]) (Int.toNat a2) a.1, a.2, w64 (k + 1)))
                      else none
                    else none
                  else none
                else if 0 ≤ a2 ∧ a2 < ((out.length + 1 : Nat) : Int) then if Int.toNat a2 * 2 + 2 ≤ (out.length + 1) * 2 then some (Sum.inl (List.set (out ++ [qc.mk 0 (ByteArray.mk (List.toArray []))]) (Int.toNat a2) a.1, a.2, w64 (k + 1)))
                  else none
                else none
              else none
            else none
          else none
        else none
      else if out.length + 1 ≤ Go.maxLen ∧ (out.length + 1) * 24 ≤ 140737488355328 then if 0 ≤ w64 (a2 + 1) ∧ w64 (a2 + 1) ≤ ((out.length + 1 : Nat) : Int) then if w64 (a2 + 1) = 0 ∨ w64 (a2 + 1) < ((out.length + 1 : Nat) : Int) then if 0 ≤ a2 ∧ a2 ≤ ((out.length + 1 : Nat) : Int) then if a2 = 0 ∨ a2 < ((out.length + 1 : Nat) : Int) then if (List.take (out.length + 1 - Int.toNat a2) (List.drop (Int.toNat a2) (out ++ [qc.mk 0 (ByteArray.mk (List.toArray []))]))).length * 2 = (out.length + 1 - Int.toNat a2) * 2 ∧ Int.toNat (w64 (a2 + 1)) * 2 + (out.length + 1 - Int.toNat (w64 (a2 + 1))) * 2 ≤ (out.length + 1) * 2 then if 0 ≤ a2 ∧ a2 < ((out.length + 1 : Nat) : Int) then if Int.toNat a2 * 2 + 2 ≤ (out.length + 1) * 2 then some (Sum.inl (List.set (spl (out ++ [qc.mk 0 (ByteArray.mk (List.toArray []))]) (Int.toNat (w64 (a2 + 1))) (List.take (min (out.length + 1 - Int.toNat a2) (out.length + 1 - Int.toNat (w64 (a2 + 1)))) (List.take (out.length + 1 - Int.toNat a2) (List.drop (Int.toNat a2) (out ++ [qc.mk 0 (ByteArray.mk (List.toArray []))]))))) (Int.toNat a2) a.1, a.2, w64 (k + 1)))
                    else none
                  else none
                else none
              else if Int.toNat (w64 (a2 + 1)) * 2 + (out.length + 1 - Int.toNat (w64 (a2 + 1))) * 2 ≤ (out.length + 1) * 2 then if 0 ≤ a2 ∧ a2 < ((out.length + 1 : Nat) : Int) then if Int.toNat a2 * 2 + 2 ≤ (out.length + 1) * 2 then some (Sum.inl (List.set (out ++ [qc.mk 0 (ByteArray.mk (List.toArray []))]) (Int.toNat a2) a.1, a.2, w64 (k + 1)))
                  else none
                else none
              else none
            else none
          else if 0 ≤ a2 ∧ a2 ≤ ((out.length + 1 : Nat) : Int) then if a2 = 0 ∨ a2 < ((out.length + 1 : Nat) : Int) then if (List.take (out.length + 1 - Int.toNat a2) (List.drop (Int.toNat a2) (out ++ [qc.mk 0 (ByteArray.mk (List.toArray []))]))).length * 2 = (out.length + 1 - Int.toNat a2) * 2 then if 0 ≤ a2 ∧ a2 < ((out.length + 1 : Nat) : Int) then if Int.toNat a2 * 2 + 2 ≤ (out.length + 1) * 2 then some (Sum.inl (List.set (out ++ [qc.mk 0 (ByteArray.mk (List.toArray []))]) (Int.toNat a2) a.1, a.2, w64 (k + 1)))
                  else none
                else none
              else none
            else if 0 ≤ a2 ∧ a2 < ((out.length + 1 : Nat) : Int) then if Int.toNat a2 * 2 + 2 ≤ (out.length + 1) * 2 then some (Sum.inl (List.set (out ++ [qc.mk 0 (ByteArray.mk (List.toArray []))]) (Int.toNat a2) a.1, a.2, w64 (k + 1)))
              else none
            else none
          else none
        else none
      else none
    else some (Sum.inr (out, d))
theorem q6B : ∀ (out : List qc) (d_L : List Int) (d_At many k : Int) (out_len : Nat), out_len = out.length → XL2 evo 58 1 4 ⟨[(0, rP 0), (3, rI many), (4, rO 1 2 out_len), (5, rI k)], [(0, B.blk 83 [dL 1 eI d_L, dI d_At]), (1, bR 52 2 qe out)], 2, 61⟩ = (qQ (Qo many) (out, (qh.mk d_L d_At), k)).bind (fun (e : List qc × qh) => some (Go.Exit.exit 0, ⟨[(4, rO 1 2 e.1.length)], [(0, B.blk 83 [dL 1 eI e.2.L, dI e.2.At]), (1, bR 52 2 qe e.1)], 2, 61⟩)) :=
  by
  intro out d_L d_At many k out_len h0
  subst h0
  have h := q1B (E := evo) (f := 58) (k := 1) (st := fun x : List qc × qh × Int => (⟨[(0, rP 0), (3, rI many), (4, rO 1 2 x.1.length), (5, rI x.2.2)], [(0, B.blk 83 [dL 1 eI x.2.1.L, dI x.2.1.At]), (1, bR 52 2 qe x.1)], 2, 61⟩ : S)) (ex := fun (e : List qc × qh) => (Go.Exit.exit 0, ⟨[(4, rO 1 2 e.1.length)], [(0, B.blk 83 [dL 1 eI e.2.L, dI e.2.At]), (1, bR 52 2 qe e.1)], 2, 61⟩)) (step := (Qo many)) qpr qpf (fun e h => by cases h) (fun x => by
    obtain ⟨out, d, k⟩ := x; have := qqH; have := @qfp.eq_1; have := @q6P; have := @q6V; have := @Qo.eq_1; exact gA) (out, (qh.mk d_L d_At), k)
  exact h
theorem q48 : ∀  (d_L : List Int) (d_At many k : Int), XL2 evo 58 1 4 ⟨[(0, rP 0), (3, rI many), (4, rO 1 2 0), (5, rI k)], [(0, B.blk 83 [dL 1 eI d_L, dI d_At]), (1, B.row 52 2 [])], 2, 61⟩ = (qQ (Qo many) ([], (qh.mk d_L d_At), k)).bind (fun (e : List qc × qh) => some (Go.Exit.exit 0, ⟨[(4, rO 1 2 e.1.length)], [(0, B.blk 83 [dL 1 eI e.2.L, dI e.2.At]), (1, bR 52 2 qe e.1)], 2, 61⟩)) := by
  intro d_L d_At many k; have h := q6B [] ((qh.mk d_L d_At)).L ((qh.mk d_L d_At)).At many k _ rfl
  first
    | exact h
    | (simp only [rL, dL, bR, bZ, Nat.reduceAdd] at h; exact h)
noncomputable def Qx (d : qh) : Option (List qc × qh) :=
  Option.bind (qm 3 d) fun (a : Prod Int qh) =>
  Option.bind (qQ (Qo (w64 (1 + a.1))) ([], (a.2, 0))) fun (a2 : Prod (List qc) qh) =>
  some (a2.1, a2.2)
theorem q93 : ∀ (d_L : List Int) (d_At : Int), ev 58 1 [rP 0] [(0, B.blk 83 [dL 1 eI d_L, dI d_At])] = (Qx (qh.mk d_L d_At)).bind (fun (e : List qc × qh) => some (rL 2 qe e.1, [(0, B.blk 83 [dL 1 eI e.2.L, dI e.2.At])])) :=
  fun d_L d_At => by
    rw [qA qp9 qtV.2.2.2 qrF]
    have := qqH; have := @J2; have := @q48; have := @Qx.eq_1; exact gA
noncomputable def zO (x : (Int × Int × qh)) : List R × List (Nat × B) := ([R.c (C.ptr 0 0), R.c (C.d (D.int .i64 x.1)), R.c (C.d (D.int .i64 x.2.1))], [(0, B.blk 83 [C.d (D.sl 1 x.2.2.L.length (x.2.2.L.flatMap eI)), C.d (D.int .i64 x.2.2.At)])])
noncomputable def Qp : (qb × qh) → R × List (Nat × B) := fun (e : qb × qh) => (R.agg [C.d (D.int .i64 e.1.Kind), C.d (D.int .i64 e.1.N), C.d (D.int .i64 e.1.Min), C.d (D.sl 2 e.1.Set.length (e.1.Set.flatMap qe)), C.d (D.sl 5 e.1.L.length (e.1.L.flatMap qg))], [(0, B.blk 83 [C.d (D.sl 1 e.2.L.length (e.2.L.flatMap eI)), C.d (D.int .i64 e.2.At)])])
noncomputable def zJ (rF : (Int × Int × qh) → Option (qb × qh)) (b1_Kind : Int) (b1_N : Int) (b1_Min : Int) (b2_Kind : Int) (b2_N : Int) (b2_Min : Int) (t1 : Int) (t2 : Int) (t7 : Int) (t8 : Int) : (List qb × qh × Int) → Option ((List qb × qh × Int) ⊕ (List qb × qh))
  | (w3, b0, t10) =>
    if t10 < t8 then if t8 = 0 then none
      else Option.bind (rF (w64 (t1 - 1), (w64 (Int.tdiv t2 t8), b0))) fun (a2 : Prod qb qh) =>
      if w3.length + 1 ≤ Go.maxLen ∧ (w3.length + 1) * 72 ≤ 140737488355328 then some (Sum.inl (w3 ++ [a2.1], a2.2, w64 (t10 + 1)))
      else none
    else some (Sum.inr (w3, b0))
theorem q5V (rE : Orc) (rF : (Int × Int × qh) → Option (qb × qh)) (hF : ∀ y, rE (.fn 40) 1 (zO y).1 (zO y).2 = (rF y).bind fun e => some (Qp e)) (hM : ∀ g k a G, g ≠ 40 → rE (.fn g) k a G = ev g k a G) (hR : ∀ g asg bd k a G, rE (.rd g asg bd) k a G = evr g asg bd k a G) : ∀ (w3 : List qb) (b0_L : List Int) (b0_At b1_Kind b1_N b1_Min b2_Kind b2_N b2_Min t1 t2 t7 t8 t10 : Int) (w3_len : Nat), w3_len = w3.length → XL2 rE 40 1 9 ⟨[(0, rP 0), (1, rI t1), (2, rI t2), (6, rP 1), (7, rI t7), (8, rI t8), (9, rP 2), (10, rI t10)], [(0, B.blk 83 [dL 1 eI b0_L, dI b0_At]), (1, B.blk 31 [dI b1_Kind, dI b1_N, dI b1_Min, C.nils, C.nils]), (2, B.blk 31 [dI b2_Kind, dI b2_N, dI b2_Min, C.nils, dO 3 5 w3_len]), (3, bR 31 5 qg w3)], 4, 77⟩ = (qQ (zJ rF b1_Kind b1_N b1_Min b2_Kind b2_N b2_Min t1 t2 t7 t8) (w3, (qh.mk b0_L b0_At), t10)).bind (fun (e : List qb × qh) => some (Go.Exit.exit 0, ⟨[(0, rP 0), (6, rP 1), (7, rI t7), (8, rI t8), (9, rP 2)], [(0, B.blk 83 [dL 1 eI e.2.L, dI e.2.At]), (1, B.blk 31 [dI b1_Kind, dI b1_N, dI b1_Min, C.nils, C.nils]), (2, B.blk 31 [dI b2_Kind, dI b2_N, dI b2_Min, C.nils, dO 3 5 e.1.length]), (3, bR 31 5 qg e.1)], 4, 77⟩)) :=
  by
  intro w3 b0_L b0_At b1_Kind b1_N b1_Min b2_Kind b2_N b2_Min t1 t2 t7 t8 t10 w3_len h0
  subst h0
  have h := q1B (E := rE) (f := 40) (k := 1) (st := fun x : List qb × qh × Int => (⟨[(0, rP 0), (1, rI t1), (2, rI t2), (6, rP 1), (7, rI t7), (8, rI t8), (9, rP 2), (10, rI x.2.2)], [(0, B.blk 83 [dL 1 eI x.2.1.L, dI x.2.1.At]), (1, B.blk 31 [dI b1_Kind, dI b1_N, dI b1_Min, C.nils, C.nils]), (2, B.blk 31 [dI b2_Kind, dI b2_N, dI b2_Min, C.nils, dO 3 5 x.1.length]), (3, bR 31 5 qg x.1)], 4, 77⟩ : S)) (ex := fun (e : List qb × qh) => (Go.Exit.exit 0, ⟨[(0, rP 0), (6, rP 1), (7, rI t7), (8, rI t8), (9, rP 2)], [(0, B.blk 83 [dL 1 eI e.2.L, dI e.2.At]), (1, B.blk 31 [dI b1_Kind, dI b1_N, dI b1_Min, C.nils, C.nils]), (2, B.blk 31 [dI b2_Kind, dI b2_N, dI b2_Min, C.nils, dO 3 5 e.1.length]), (3, bR 31 5 qg e.1)], 4, 77⟩)) (step := (zJ rF b1_Kind b1_N b1_Min b2_Kind b2_N b2_Min t1 t2 t7 t8)) qmK qoS (fun e h => by cases h) (fun x => by
    obtain ⟨w3, b0, t10⟩ := x; have hF' : ∀ (x1 x2 : Int) (v_L : List Int) (v_At : Int), rE (.fn 40) 1 [rP 0, rI x1, rI x2] [(0, B.blk 83 [dL 1 eI v_L, dI v_At])] = (rF (x1, x2, (qh.mk v_L v_At))).bind (fun e => some (R.agg [dI e.1.Kind, dI e.1.N, dI e.1.Min, dL 2 qe e.1.Set, dL 5 qg e.1.L], [(0, B.blk 83 [dL 1 eI e.2.L, dI e.2.At])])) := fun x1 x2 v_L v_At => hF (x1, x2, (qh.mk v_L v_At))
    have := qsZ; have := @qeO.eq_1; have := @zJ.eq_1; exact gA) (w3, (qh.mk b0_L b0_At), t10)
  exact h
theorem q34 : ∀ (rE : Orc) (rF : (Int × Int × qh) → Option (qb × qh)) (hF : ∀ y, rE (.fn 40) 1 (zO y).1 (zO y).2 = (rF y).bind fun e => some (Qp e)) (hM : ∀ g k a G, g ≠ 40 → rE (.fn g) k a G = ev g k a G) (hR : ∀ g asg bd k a G, rE (.rd g asg bd) k a G = evr g asg bd k a G), ∀  (b0_L : List Int) (b0_At b1_Kind b1_N b1_Min b2_Kind b2_N b2_Min t1 t2 t7 t8 t10 : Int), XL2 rE 40 1 9 ⟨[(0, rP 0), (1, rI t1), (2, rI t2), (6, rP 1), (7, rI t7), (8, rI t8), (9, rP 2), (10, rI t10)], [(0, B.blk 83 [dL 1 eI b0_L, dI b0_At]), (1, B.blk 31 [dI b1_Kind, dI b1_N, dI b1_Min, C.nils, C.nils]), (2, B.blk 31 [dI b2_Kind, dI b2_N, dI b2_Min, C.nils, dO 3 5 0]), (3, B.row 31 5 [])], 4, 77⟩ = (qQ (zJ rF b1_Kind b1_N b1_Min b2_Kind b2_N b2_Min t1 t2 t7 t8) ([], (qh.mk b0_L b0_At), t10)).bind (fun (e : List qb × qh) => some (Go.Exit.exit 0, ⟨[(0, rP 0), (6, rP 1), (7, rI t7), (8, rI t8), (9, rP 2)], [(0, B.blk 83 [dL 1 eI e.2.L, dI e.2.At]), (1, B.blk 31 [dI b1_Kind, dI b1_N, dI b1_Min, C.nils, C.nils]), (2, B.blk 31 [dI b2_Kind, dI b2_N, dI b2_Min, C.nils, dO 3 5 e.1.length]), (3, bR 31 5 qg e.1)], 4, 77⟩)) := by
  intro rE rF hF hM hR b0_L b0_At b1_Kind b1_N b1_Min b2_Kind b2_N b2_Min t1 t2 t7 t8 t10; have h := q5V rE rF hF hM hR [] ((qh.mk b0_L b0_At)).L ((qh.mk b0_L b0_At)).At b1_Kind b1_N b1_Min b2_Kind b2_N b2_Min t1 t2 t7 t8 t10 _ rfl
  first
    | exact h
    | (simp only [rL, dL, bR, bZ, Nat.reduceAdd] at h; exact h)
noncomputable def ZU (rF : (Int × Int × qh) → Option (qb × qh)) : (Int × Int × qh) → Option (qb × qh)
  | (x1, x2, v) =>
    Option.bind (qm 6 v) fun (a2 : Prod Int qh) =>
    if x1 ≤ 0 then Option.bind (qm 3 a2.2) fun (a3 : Prod Int qh) =>
      if (a3.1 == 0) = Bool.true then Option.bind (qm 12 a3.2) fun (a4 : Prod Int qh) =>
        Option.bind (qm 3 a4.2) fun (a5 : Prod Int qh) =>
        if 0 ≤ a5.1 ∧ a5.1 < 3 then Option.bind [(0 : Int), 50, 60][Int.toNat a5.1]? fun (a6 : Int) =>
          Option.bind (Qx a5.2) fun (a7 : Prod (List qc) qh) =>
          some (qb.mk 2 (w64 (1 + a4.1)) a6 a7.1 [], a7.2)
        else none
      else Option.bind (qm 4 a3.2) fun (a8 : Prod Int qh) =>
      if 0 ≤ a8.1 ∧ a8.1 < 4 then Option.bind [(0 : Int), 50, 60, 80][Int.toNat a8.1]? fun (a9 : Int) =>
        Option.bind (Qx a8.2) fun (a10 : Prod (List qc) qh) =>
        some (qb.mk 1 0 a9 a10.1 [], a10.2)
      else none
    else if x2 < 2 then Option.bind (qm 3 a2.2) fun (a11 : Prod Int qh) =>
      if (a11.1 == 0) = Bool.true then Option.bind (qm 12 a11.2) fun (a12 : Prod Int qh) =>
        Option.bind (qm 3 a12.2) fun (a13 : Prod Int qh) =>
        if 0 ≤ a13.1 ∧ a13.1 < 3 then Option.bind [(0 : Int), 50, 60][Int.toNat a13.1]? fun (a14 : Int) =>
          Option.bind (Qx a13.2) fun (a15 : Prod (List qc) qh) =>
          some (qb.mk 2 (w64 (1 + a12.1)) a14 a15.1 [], a15.2)
        else none
      else Option.bind (qm 4 a11.2) fun (a16 : Prod Int qh) =>
      if 0 ≤ a16.1 ∧ a16.1 < 4 then Option.bind [(0 : Int), 50, 60, 80][Int.toNat a16.1]? fun (a17 : Int) =>
        Option.bind (Qx a16.2) fun (a18 : Prod (List qc) qh) =>
        some (qb.mk 1 0 a17 a18.1 [], a18.2)
      else none
    else if a2.1 < 2 then Option.bind (qm 3 a2.2) fun (a19 : Prod Int qh) =>
      if (a19.1 == 0) = Bool.true then Option.bind (qm 12 a19.2) fun (a20 : Prod Int qh) =>
        Option.bind (qm 3 a20.2) fun (a21 : Prod Int qh) =>
        if 0 ≤ a21.1 ∧ a21.1 < 3 then Option.bind [(0 : Int), 50, 60][Int.toNat a21.1]? fun (a22 : Int) =>
          Option.bind (Qx a21.2) fun (a23 : Prod (List qc) qh) =>
          some (qb.mk 2 (w64 (1 + a20.1)) a22 a23.1 [], a23.2)
        else none
      else Option.bind (qm 4 a19.2) fun (a24 : Prod Int qh) =>
      if 0 ≤ a24.1 ∧ a24.1 < 4 then Option.bind [(0 : Int), 50, 60, 80][Int.toNat a24.1]? fun (a25 : Int) =>
        Option.bind (Qx a24.2) fun (a26 : Prod (List qc) qh) =>
        some (qb.mk 1 0 a25 a26.1 [], a26.2)
      else none
    else Option.bind (qm (min 3 x2) a2.2) fun (a27 : Prod Int qh) =>
    Option.bind (qQ (zJ rF 0 0 0 3 0 0 x1 x2 a2.1 (w64 (1 + a27.1))) ([], (a27.2, 0))) fun (a28 : Prod (List qb) qh) =>
    if 3 < a2.1 then Option.bind (qm (w64 (1 + a27.1)) a28.2) fun (a29 : Prod Int qh) =>
      some (qb.mk 4 (w64 (1 + a29.1)) 0 [] a28.1, a29.2)
    else some (qb.mk 3 0 0 [] a28.1, a28.2)
theorem q3J : q4n 40 1 zO Qp ZU := by
  intro rE rF hF hM hR x
  obtain ⟨x1, x2, v⟩ := x
  show q6a rE 40 1 [rP 0, rI x1, rI x2] [(0, B.blk 83 [dL 1 eI v.L, dI v.At])] = _
  have hF' : ∀ (x1 x2 : Int) (v_L : List Int) (v_At : Int), rE (.fn 40) 1 [rP 0, rI x1, rI x2] [(0, B.blk 83 [dL 1 eI v_L, dI v_At])] = (rF (x1, x2, (qh.mk v_L v_At))).bind (fun e => some (R.agg [dI e.1.Kind, dI e.1.N, dI e.1.Min, dL 2 qe e.1.Set, dL 5 qg e.1.L], [(0, B.blk 83 [dL 1 eI e.2.L, dI e.2.At])])) := fun x1 x2 v_L v_At => hF (x1, x2, (qh.mk v_L v_At))
  rw [q1h qqb qtJ]
  have := qsZ; have := @J2; have := @q93; have := q34 rE rF hF hM hR; have := @ZU.eq_1; have := @Qp.eq_1; exact gA
theorem q16 : ∀ x y, zO x = zO y → x = y := by
  rintro ⟨a0, a1, ⟨a2_0, a2_1⟩⟩ ⟨b0, b1, ⟨b2_0, b2_1⟩⟩ h
  simp only [zO, Prod.mk.injEq, List.cons.injEq, R.c.injEq, R.agg.injEq, R.tup.injEq, C.d.injEq, C.own.injEq, C.ptr.injEq, C.eptr.injEq, D.int.injEq, D.bool.injEq, D.str.injEq, D.sl.injEq, B.blk.injEq, B.row.injEq, ZD, JY, ZK, J4, Jm, q0W, ZG, q1j, true_and, and_true, List.nil_append] at h
  simp only [h]
theorem q5L : ∀ x y, Qp x = Qp y → x = y := by
  rintro ⟨⟨a0_0, a0_1, a0_2, a0_3, a0_4⟩, ⟨a1_0, a1_1⟩⟩ ⟨⟨b0_0, b0_1, b0_2, b0_3, b0_4⟩, ⟨b1_0, b1_1⟩⟩ h
  simp only [Qp, Prod.mk.injEq, List.cons.injEq, R.c.injEq, R.agg.injEq, R.tup.injEq, C.d.injEq, C.own.injEq, C.ptr.injEq, C.eptr.injEq, D.int.injEq, D.bool.injEq, D.str.injEq, D.sl.injEq, B.blk.injEq, B.row.injEq, ZD, JY, ZK, J4, Jm, q0W, ZG, q1j, true_and, and_true, List.nil_append] at h
  simp only [h]
noncomputable def QR : (Int × Int × qh) → Option (qb × qh) := q4N 40 1 zO Qp
theorem q3r (x : (Int × Int × qh)) : QR x = ZU QR x := q8p qro.2.2.2 q16 q5L q3J x
theorem q7n (x1 x2 : Int) (v : qh) : ev 40 1 [rP 0, rI x1, rI x2] [(0, B.blk 83 [dL 1 eI v.L, dI v.At])] = (QR (x1, x2, v)).bind (fun (e : qb × qh) => some (R.agg [dI e.1.Kind, dI e.1.N, dI e.1.Min, dL 2 qe e.1.Set, dL 5 qg e.1.L], [(0, B.blk 83 [dL 1 eI e.2.L, dI e.2.At])])) := (q5W qro.2.2.2 q16 q3J (x1, x2, v))
theorem q8g : ∀ (x1 x2 : Int) (v_L : List Int) (v_At : Int), ev 40 1 [rP 0, rI x1, rI x2] [(0, B.blk 83 [dL 1 eI v_L, dI v_At])] = (QR (x1, x2, (qh.mk v_L v_At))).bind (fun (e : qb × qh) => some (R.agg [dI e.1.Kind, dI e.1.N, dI e.1.Min, dL 2 qe e.1.Set, dL 5 qg e.1.L], [(0, B.blk 83 [dL 1 eI e.2.L, dI e.2.At])])) :=
  fun x1 x2 v_L v_At => q7n x1 x2 (qh.mk v_L v_At)
noncomputable def q0m (l : List Int) : Option qb :=
  Option.bind (QR (3, (6, qh.mk l 0))) fun (a : Prod qb qh) =>
  some a.1
theorem q8r : ∀ (l : List Int), ev 19 0 [rL 1 eI l] [] = (q0m l).bind (fun (e : qb) => some (R.agg [dI e.Kind, dI e.N, dI e.Min, dL 2 qe e.Set, dL 5 qg e.L], [])) :=
  fun l => by
    rw [qA qr8 qtD.2.2.2 qwl]
    have := qwh; have := @q8g; have := @q0m.eq_1; exact gA
theorem qsy : okL 20 qd1 := qz (qi qqa) (by kernel_rfl) (by kernel_rfl)
def qtG := JA_ @qd1.eq_1 (JA_ @Try.f20.eq_1 @qqa)
theorem qnX : lbO 20 6 = qgA := Qj (qi qqa) rfl
theorem qmC : okL 20 qgA := zp qsy (List.mem_of_getElem? (i := 0) (by kernel_rfl))
theorem qpY : okL 41 q9e := qz (qi qmq) (by kernel_rfl) (by kernel_rfl)
def qki := JA_ @q9e.eq_1 (JA_ @Try.f41.eq_1 @qmq)
theorem qjt : lbO 41 4 = qcq := Qj (qi qmq) rfl
theorem qju : okL 41 qcq := zp qpY (List.mem_of_getElem? (i := 0) (by kernel_rfl))
theorem qjE : lbO 41 8 = qcB := Qj (qi qmq) rfl
theorem qjH : okL 41 qcB := zp qpY (List.mem_of_getElem? (i := 1) (by kernel_rfl))
theorem qeu : lbO 41 11 = q9Y := Qj (qi qmq) rfl
theorem qf0 : okL 41 q9Y := zp qpY (List.mem_of_getElem? (i := 2) (by kernel_rfl))
theorem qrf : okL 59 qch := qz (qi qoO) (by kernel_rfl) (by kernel_rfl)
def qq2 := JA_ @qch.eq_1 (JA_ @Try.f59.eq_1 @qoO)
theorem qjB : lbO 59 5 = qd9 := Qj (qi qoO) rfl
theorem qjD : okL 59 qd9 := zp qrf (List.mem_of_getElem? (i := 0) (by kernel_rfl))
noncomputable def zW (x : (qb × Int × List qj)) : List R × List (Nat × B) := ([R.c (C.own 0 6 0 x.2.2.length), R.agg [C.d (D.int .i64 x.1.Kind), C.d (D.int .i64 x.1.N), C.d (D.int .i64 x.1.Min), C.d (D.sl 2 x.1.Set.length (x.1.Set.flatMap qe)), C.d (D.sl 5 x.1.L.length (x.1.L.flatMap qg))], R.c (C.d (D.int .i64 x.2.1))], [(0, B.row 111 6 ((x.2.2.flatMap qn).map C.d))])
noncomputable def Qb : (Unit ⊕ (List qj)) → R × List (Nat × B) := Sum.elim (fun (e : Unit) => (R.tup [R.c (C.d (D.sl 6 0 [])), R.c (C.d (D.bool Bool.false))], [])) (fun (e : List qj) => (R.tup [R.c (C.own 0 6 0 e.length), R.c (C.d (D.bool Bool.true))], [(0, B.row 111 6 ((e.flatMap qn).map C.d))]))
noncomputable def Ze (rF : (qb × Int × List qj) → Option (Unit ⊕ (List qj))) (n : qb) (deep : Int) : (List qj × Int) → Option ((List qj × Int) ⊕ (Unit ⊕ (List qj)))
  | (out, i) =>
    if i < ((n.L.length : Nat) : Int) then if 0 ≤ i ∧ i < ((n.L.length : Nat) : Int) then Option.bind n.L[Int.toNat i]? fun (a2 : qb) =>
        Option.bind (rF (a2, (w64 (deep + 1), out))) fun (a3 : Sum Unit (List qj)) =>
        Sum.elim (fun (a4 : Unit) => some (Sum.inr (Sum.inl ()))) (fun (a5 : List qj) => some (Sum.inl (a5, w64 (i + 1)))) a3
      else none
    else some (Sum.inr (Sum.inr out))
theorem q2L (rE : Orc) (rF : (qb × Int × List qj) → Option (Unit ⊕ (List qj))) (hF : ∀ y, rE (.fn 59) 0 (zW y).1 (zW y).2 = (rF y).bind fun e => some (Qb e)) (hM : ∀ g k a G, g ≠ 59 → rE (.fn g) k a G = ev g k a G) (hR : ∀ g asg bd k a G, rE (.rd g asg bd) k a G = evr g asg bd k a G) : ∀ (out : List qj) (n_Kind n_N n_Min : Int) (n_Set : List qc) (n_L : List qb) (deep i : Int) (out_len : Nat), out_len = out.length → XL2 rE 59 0 5 ⟨[(0, rO 0 6 out_len), (2, rI deep), (4, rP 1), (8, rI i)], [(0, bR 111 6 qn out), (1, B.blk 31 [dI n_Kind, dI n_N, dI n_Min, dL 2 qe n_Set, dL 5 qg n_L])], 2, 47⟩ = (qQ (Ze rF (qb.mk n_Kind n_N n_Min n_Set n_L) deep) (out, i)).bind (Sum.elim (fun (e : Unit) => some (Go.Exit.ret, ⟨[(0, R.c (C.any)), (6, R.c (C.nils)), (7, rB Bool.false)], [], 0, 47⟩)) (fun (e : List qj) => some (Go.Exit.exit 0, ⟨[(0, rO 0 6 e.length), (6, R.any), (7, R.any)], [(0, bR 111 6 qn e)], 1, 47⟩))) :=
  by
  intro out n_Kind n_N n_Min n_Set n_L deep i out_len h0
  subst h0
  revert i; revert out; exact q92 qjB qjD (fun e => by rcases e with _ | _ <;> exact ⟨_, rfl, fun h => by cases h⟩) fun out i => by
    have hF' : ∀ (n_Kind n_N n_Min : Int) (n_Set : List qc) (n_L : List qb) (deep : Int) (out : List qj) (out_len : Nat), out_len = out.length → rE (.fn 59) 0 [rO 0 6 out_len, R.agg [dI n_Kind, dI n_N, dI n_Min, dL 2 qe n_Set, dL 5 qg n_L], rI deep] [(0, bR 111 6 qn out)] = (rF ((qb.mk n_Kind n_N n_Min n_Set n_L), deep, out)).bind (Sum.elim (fun (e : Unit) => some (R.tup [R.c (C.d (D.sl 6 0 [])), rB Bool.false], [])) (fun (e : List qj) => some (R.tup [rO 0 6 e.length, rB Bool.true], [(0, bR 111 6 qn e)]))) := by intro n_Kind n_N n_Min n_Set n_L deep out out_len h0; subst h0; exact (hF ((qb.mk n_Kind n_N n_Min n_Set n_L), deep, out)).trans (by congr 1; funext e; rcases e with _ | _ <;> rfl)
    have := qq2; have := @qd9.eq_1; have := @Ze.eq_1; exact gA
noncomputable def Zr (rF : (qb × Int × List qj) → Option (Unit ⊕ (List qj))) : (qb × Int × List qj) → Option (Unit ⊕ (List qj))
  | (n, deep, out) =>
    if 100 < deep then some (Sum.inl ())
    else if 10000 ≤ ((out.length : Nat) : Int) then some (Sum.inl ())
    else if out.length + 1 ≤ Go.maxLen ∧ (out.length + 1) * 80 ≤ 140737488355328 then Option.bind (qQ (Ze rF n deep) (out ++ [qj.mk n deep], 0)) fun (a2 : Sum Unit (List qj)) =>
      Sum.elim (fun (a3 : Unit) => some (Sum.inl ())) (fun (a4 : List qj) => some (Sum.inr a4)) a2
    else none
theorem q1G : q4n 59 0 zW Qb Zr := by
  intro rE rF hF hM hR x
  obtain ⟨n, deep, out⟩ := x
  show q6a rE 59 0 [rO 0 6 out.length, R.agg [dI n.Kind, dI n.N, dI n.Min, dL 2 qe n.Set, dL 5 qg n.L], rI deep] [(0, bR 111 6 qn out)] = _
  have hF' : ∀ (n_Kind n_N n_Min : Int) (n_Set : List qc) (n_L : List qb) (deep : Int) (out : List qj) (out_len : Nat), out_len = out.length → rE (.fn 59) 0 [rO 0 6 out_len, R.agg [dI n_Kind, dI n_N, dI n_Min, dL 2 qe n_Set, dL 5 qg n_L], rI deep] [(0, bR 111 6 qn out)] = (rF ((qb.mk n_Kind n_N n_Min n_Set n_L), deep, out)).bind (Sum.elim (fun (e : Unit) => some (R.tup [R.c (C.d (D.sl 6 0 [])), rB Bool.false], [])) (fun (e : List qj) => some (R.tup [rO 0 6 e.length, rB Bool.true], [(0, bR 111 6 qn e)]))) := by intro n_Kind n_N n_Min n_Set n_L deep out out_len h0; subst h0; exact (hF ((qb.mk n_Kind n_N n_Min n_Set n_L), deep, out)).trans (by congr 1; funext e; rcases e with _ | _ <;> rfl)
  rw [q1h qoO qrf]
  have := qq2; have := q2L rE rF hF hM hR; have := @Zr.eq_1; have := @Qb.eq_1; exact gA
theorem q0q : ∀ x y, zW x = zW y → x = y := by
  rintro ⟨⟨a0_0, a0_1, a0_2, a0_3, a0_4⟩, a1, a2⟩ ⟨⟨b0_0, b0_1, b0_2, b0_3, b0_4⟩, b1, b2⟩ h
  simp only [zW, Prod.mk.injEq, List.cons.injEq, R.c.injEq, R.agg.injEq, R.tup.injEq, C.d.injEq, C.own.injEq, C.ptr.injEq, C.eptr.injEq, D.int.injEq, D.bool.injEq, D.str.injEq, D.sl.injEq, B.blk.injEq, B.row.injEq, ZD, JY, ZK, J4, Jm, q0W, ZG, q1j, true_and, and_true, List.nil_append] at h
  simp only [h]
theorem q49 : ∀ x y, Qb x = Qb y → x = y := by
  rintro (_ | a1) (_ | b1) h <;> simp only [Sum.elim_inl, Sum.elim_inr, Qb, Prod.mk.injEq, List.cons.injEq, R.c.injEq, R.agg.injEq, R.tup.injEq, C.d.injEq, C.own.injEq, C.ptr.injEq, C.eptr.injEq, D.int.injEq, D.bool.injEq, D.str.injEq, D.sl.injEq, B.blk.injEq, B.row.injEq, ZD, JY, ZK, J4, Jm, q0W, ZG, q1j, true_and, and_true, List.nil_append, reduceCtorEq, false_and, and_false] at h <;> simp only [h]
noncomputable def zV : (qb × Int × List qj) → Option (Unit ⊕ (List qj)) := q4N 59 0 zW Qb
theorem q6o (x : (qb × Int × List qj)) : zV x = Zr zV x := q8p qq4.2.2.2 q0q q49 q1G x
theorem q5o (n : qb) (deep : Int) (out : List qj) : ev 59 0 [rO 0 6 out.length, R.agg [dI n.Kind, dI n.N, dI n.Min, dL 2 qe n.Set, dL 5 qg n.L], rI deep] [(0, bR 111 6 qn out)] = (zV (n, deep, out)).bind (Sum.elim (fun (e : Unit) => some (R.tup [R.c (C.d (D.sl 6 0 [])), rB Bool.false], [])) (fun (e : List qj) => some (R.tup [rO 0 6 e.length, rB Bool.true], [(0, bR 111 6 qn e)]))) := (q5W qq4.2.2.2 q0q q1G (n, deep, out)).trans (by congr 1; funext e; rcases e with _ | _ <;> rfl)
theorem q6K : ∀ (n_Kind n_N n_Min : Int) (n_Set : List qc) (n_L : List qb) (deep : Int) (out : List qj) (out_len : Nat), out_len = out.length → ev 59 0 [rO 0 6 out_len, R.agg [dI n_Kind, dI n_N, dI n_Min, dL 2 qe n_Set, dL 5 qg n_L], rI deep] [(0, bR 111 6 qn out)] = (zV ((qb.mk n_Kind n_N n_Min n_Set n_L), deep, out)).bind (Sum.elim (fun (e : Unit) => some (R.tup [R.c (C.d (D.sl 6 0 [])), rB Bool.false], [])) (fun (e : List qj) => some (R.tup [rO 0 6 e.length, rB Bool.true], [(0, bR 111 6 qn e)]))) :=
  by
  intro n_Kind n_N n_Min n_Set n_L deep out out_len h0
  subst h0
  exact q5o (qb.mk n_Kind n_N n_Min n_Set n_L) deep out
noncomputable def ZQ (n : qb) (deep : Int) : (List qj × Int) → Option ((List qj × Int) ⊕ (Unit ⊕ (List qj)))
  | (out, i) =>
    if i < ((n.L.length : Nat) : Int) then if 0 ≤ i ∧ i < ((n.L.length : Nat) : Int) then Option.bind n.L[Int.toNat i]? fun (a : qb) =>
        Option.bind (zV (a, (w64 (deep + 1), out))) fun (a2 : Sum Unit (List qj)) =>
        Sum.elim (fun (a3 : Unit) => some (Sum.inr (Sum.inl ()))) (fun (a4 : List qj) => some (Sum.inl (a4, w64 (i + 1)))) a2
      else none
    else some (Sum.inr (Sum.inr out))
theorem q5P : ∀ (out : List qj) (n_Kind n_N n_Min : Int) (n_Set : List qc) (n_L : List qb) (deep i : Int) (out_len : Nat), out_len = out.length → XL2 evo 59 0 5 ⟨[(0, rO 0 6 out_len), (2, rI deep), (4, rP 1), (8, rI i)], [(0, bR 111 6 qn out), (1, B.blk 31 [dI n_Kind, dI n_N, dI n_Min, dL 2 qe n_Set, dL 5 qg n_L])], 2, 47⟩ = (qQ (ZQ (qb.mk n_Kind n_N n_Min n_Set n_L) deep) (out, i)).bind (Sum.elim (fun (e : Unit) => some (Go.Exit.ret, ⟨[(0, R.c (C.any)), (6, R.c (C.nils)), (7, rB Bool.false)], [], 0, 47⟩)) (fun (e : List qj) => some (Go.Exit.exit 0, ⟨[(0, rO 0 6 e.length), (6, R.any), (7, R.any)], [(0, bR 111 6 qn e)], 1, 47⟩))) :=
  by
  intro out n_Kind n_N n_Min n_Set n_L deep i out_len h0
  subst h0
  revert i; revert out; exact q92 qjB qjD (fun e => by rcases e with _ | _ <;> exact ⟨_, rfl, fun h => by cases h⟩) fun out i => by
    have := qq2; have := @qd9.eq_1; have := @q6K; have := @ZQ.eq_1; exact gA
theorem q3h : ∀ (out0_Need_Kind out0_Need_N out0_Need_Min : Int) (out0_Need_Set : List qc) (out0_Need_L : List qb) (out0_Deep n_Kind n_N n_Min : Int) (n_Set : List qc) (n_L : List qb) (deep i : Int), XL2 evo 59 0 5 ⟨[(0, rO 0 6 1), (2, rI deep), (4, rP 1), (8, rI i)], [(0, B.row 111 6 [dI out0_Need_Kind, dI out0_Need_N, dI out0_Need_Min, dL 2 qe out0_Need_Set, dL 5 qg out0_Need_L, dI out0_Deep]), (1, B.blk 31 [dI n_Kind, dI n_N, dI n_Min, dL 2 qe n_Set, dL 5 qg n_L])], 2, 47⟩ = (qQ (ZQ (qb.mk n_Kind n_N n_Min n_Set n_L) deep) ([(qj.mk (qb.mk out0_Need_Kind out0_Need_N out0_Need_Min out0_Need_Set out0_Need_L) out0_Deep)], i)).bind (Sum.elim (fun (e : Unit) => some (Go.Exit.ret, ⟨[(0, R.c (C.any)), (6, R.c (C.nils)), (7, rB Bool.false)], [], 0, 47⟩)) (fun (e : List qj) => some (Go.Exit.exit 0, ⟨[(0, rO 0 6 e.length), (6, R.any), (7, R.any)], [(0, bR 111 6 qn e)], 1, 47⟩))) := by
  intro out0_Need_Kind out0_Need_N out0_Need_Min out0_Need_Set out0_Need_L out0_Deep n_Kind n_N n_Min n_Set n_L deep i; have h := q5P [(qj.mk (qb.mk out0_Need_Kind out0_Need_N out0_Need_Min out0_Need_Set out0_Need_L) out0_Deep)] ((qb.mk n_Kind n_N n_Min n_Set n_L)).Kind ((qb.mk n_Kind n_N n_Min n_Set n_L)).N ((qb.mk n_Kind n_N n_Min n_Set n_L)).Min ((qb.mk n_Kind n_N n_Min n_Set n_L)).Set ((qb.mk n_Kind n_N n_Min n_Set n_L)).L deep i _ rfl
  first
    | exact h
    | (simp only [rL, dL, bR, bZ, Nat.reduceAdd] at h; exact h)
noncomputable def q0n (n : qb) (deep : Int) : Option (Unit ⊕ (List qj)) :=
  if 100 < deep then some (Sum.inl ())
  else if 1 ≤ Go.maxLen then Option.bind (qQ (ZQ n deep) ([qj.mk n deep], 0)) fun (a : Sum Unit (List qj)) =>
    Sum.elim (fun (a2 : Unit) => some (Sum.inl ())) (fun (a3 : List qj) => some (Sum.inr a3)) a
  else none
theorem q8k : ∀ (n_Kind n_N n_Min : Int) (n_Set : List qc) (n_L : List qb) (deep : Int), ev 59 0 [R.c (C.nils), R.agg [dI n_Kind, dI n_N, dI n_Min, dL 2 qe n_Set, dL 5 qg n_L], rI deep] [] = (q0n (qb.mk n_Kind n_N n_Min n_Set n_L) deep).bind (Sum.elim (fun (e : Unit) => some (R.tup [R.c (C.d (D.sl 6 0 [])), rB Bool.false], [])) (fun (e : List qj) => some (R.tup [rO 0 6 e.length, rB Bool.true], [(0, bR 111 6 qn e)]))) :=
  fun n_Kind n_N n_Min n_Set n_L deep => by
    rw [qA qoO qq4.2.2.2 qrf]
    have := qq2; have := @q3h; have := @q0n.eq_1; exact gA
noncomputable def Jt (w0 : List qc) (t3 : List qj) (t6 : Int) (t7 : List qc) (t8 : Int) : Int → Option (Int ⊕ Int)
  | t9 =>
    if t9 < ((w0.length : Nat) : Int) then if 0 ≤ t9 ∧ t9 < ((w0.length : Nat) : Int) then Option.bind w0[Int.toNat t9]? fun (a : qc) =>
        if 0 ≤ t8 ∧ t8 < ((t7.length : Nat) : Int) then Option.bind t7[Int.toNat t8]? fun (a2 : qc) =>
          if zn a a2 = Bool.true then some (Sum.inl (w64 (t9 + 1)))
          else some (Sum.inr t9)
        else none
      else none
    else some (Sum.inr t9)
theorem q2W : ∀ (w0 : List qc) (t3 : List qj) (t6 : Int) (t7 : List qc) (t8 t9 : Int) (w0_len : Nat), w0_len = w0.length → XL2 evo 41 0 11 ⟨[(3, rL 6 qn t3), (5, rO 0 2 w0_len), (6, rI t6), (7, rL 2 qe t7), (8, rI t8), (9, rI t9)], [(0, bR 52 2 qe w0)], 1, 85⟩ = (qQ (Jt w0 t3 t6 t7 t8) t9).bind (fun (e : Int) => some (Go.Exit.exit 4, ⟨[(3, rL 6 qn t3), (5, rO 0 2 w0.length), (6, rI t6), (7, rL 2 qe t7), (8, rI t8), (9, rI e)], [(0, bR 52 2 qe w0)], 1, 85⟩)) :=
  by
  intro w0 t3 t6 t7 t8 t9 w0_len h0
  subst h0
  revert t9; exact qau qeu qf0 (fun e => by exact ⟨_, rfl, fun h => by cases h⟩) fun x => by
    have := qki; have := @q9Y.eq_1; have := @Jo; have := @Jt.eq_1; exact gA
noncomputable def JR (t3 : List qj) (t6 : Int) (t7 : List qc) : (List qc × Int) → Option ((List qc × Int) ⊕ (List qc))
  | (w0, t8) =>
    if t8 < ((t7.length : Nat) : Int) then Option.bind (qQ (Jt w0 t3 t6 t7 t8) 0) fun (a : Int) =>
      if a < ((w0.length : Nat) : Int) then if 0 ≤ a ∧ a < ((w0.length : Nat) : Int) then Option.bind w0[Int.toNat a]? fun (a2 : qc) =>
          if 0 ≤ t8 ∧ t8 < ((t7.length : Nat) : Int) then Option.bind t7[Int.toNat t8]? fun (a3 : qc) =>
            if (a2.School == a3.School) = Bool.true ∧ (ByteArray.toList a2.Code == ByteArray.toList a3.Code) = Bool.true then some (Sum.inl (w0, w64 (t8 + 1)))
            else if w0.length + 1 ≤ Go.maxLen ∧ (w0.length + 1) * 24 ≤ 140737488355328 then if 0 ≤ w64 (a + 1) ∧ w64 (a + 1) ≤ ((w0.length + 1 : Nat) : Int) then if w64 (a + 1) = 0 ∨ w64 (a + 1) < ((w0.length + 1 : Nat) : Int) then if 0 ≤ a ∧ a ≤ ((w0.length + 1 : Nat) : Int) then if a = 0 ∨ a < ((w0.length + 1 : Nat) : Int) then if (List.take (w0.length + 1 - Int.toNat a) (List.drop (Int.toNat a) (w0 ++ [qc.mk 0 (ByteArray.mk (List.toArray []))]))).length * 2 = (w0.length + 1 - Int.toNat a) * 2 ∧ Int.toNat (w64 (a + 1)) * 2 + (w0.length + 1 - Int.toNat (w64 (a + 1))) * 2 ≤ (w0.length + 1) * 2 then if 0 ≤ t8 ∧ t8 < ((t7.length : Nat) : Int) then Option.bind t7[Int.toNat t8]? fun (a4 : qc) =>
                          if 0 ≤ a ∧ a < ((w0.length + 1 : Nat) : Int) then if Int.toNat a * 2 + 2 ≤ (w0.length + 1) * 2 then some (Sum.inl (List.set (spl (w0 ++ [qc.mk 0 (ByteArray.mk (List.toArray []))]) (Int.toNat (w64 (a + 1))) (List.take (min (w0.length + 1 - Int.toNat a) (w0.length + 1 - Int.toNat (w64 (a + 1)))) (List.take (w0.length + 1 - Int.toNat a) (List.drop (Int.toNat a) (w0 ++ [qc.mk 0 (ByteArray.mk (List.toArray []))]))))) (Int.toNat a) a4, w64 (t8 + 1)))
                            else none
                          else none
                        else none
                      else none
                    else if Int.toNat (w64 (a + 1)) * 2 + (w0.length + 1 - Int.toNat (w64 (a + 1))) * 2 ≤ (w0.length + 1) * 2 then if 0 ≤ t8 ∧ t8 < ((t7.length : Nat) : Int) then Option.bind t7[Int.toNat t8]? fun (a5 : qc) =>
                        if 0 ≤ a ∧ a < ((w0.length + 1 : Nat) : Int) then if Int.toNat a * 2 + 2 ≤ (w0.length + 1) * 2 then some (Sum.inl (List.set (w0 ++ [qc.mk 0 (ByteArray.mk (List.toArray []))]) (Int.toNat a) a5, w64 (t8 + 1)))
                          else none
                        else none
                      else none
                    else none
                  else none
                else if 0 ≤ a ∧ a ≤ ((w0.length + 1 : Nat) : Int) then if a = 0 ∨ a < ((w0.length + 1 : Nat) : Int) then if (List.take (w0.length + 1 - Int.toNat a) (List.drop (Int.toNat a) (w0 ++ [qc.mk 0 (ByteArray.mk (List.toArray []))]))).length * 2 = (w0.length + 1 - Int.toNat a) * 2 then if 0 ≤ t8 ∧ t8 < ((t7.length : Nat) : Int) then Option.bind t7[Int.toNat t8]? fun (a6 : qc) =>
                        if 0 ≤ a ∧ a < ((w0.length + 1 : Nat) : Int) then if Int.toNat a * 2 + 2 ≤ (w0.length + 1) * 2 then some (Sum.inl (List.set (w0 ++ [qc.mk 0 (ByteArray.mk (List.toArray []))]) (Int.toNat a) a6, w64 (t8 + 1)))
                          else none
                        else none
                      else none
                    else none
                  else if 0 ≤ t8 ∧ t8 < ((t7.length : Nat) : Int) then Option.bind t7[Int.toNat t8]? fun (a7 : qc) =>
                    if 0 ≤ a ∧ a < ((w0.length + 1 : Nat) : Int) then if Int.toNat a * 2 + 2 ≤ (w0.length + 1) * 2 then some (Sum.inl (List.set (w0 ++ [qc.mk 0 (ByteArray.mk (List.toArray []))]) (Int.toNat a) a7, w64 (t8 + 1)))
                      else none
                    else none
                  else none
                else none
              else none
            else none
          else none
        else none
      else if w0.length + 1 ≤ Go.maxLen ∧ (w0.length + 1) * 24 ≤ 140737488355328 then if 0 ≤ w64 (a + 1) ∧ w64 (a + 1) ≤ ((w0.length + 1 : Nat) : Int) then if w64 (a + 1) = 0 ∨ w64 (a + 1) < ((w0.length + 1 : Nat) : Int) then if 0 ≤ a ∧ a ≤ ((w0.length + 1 : Nat) : Int) then if a = 0 ∨ a < ((w0.length + 1 : Nat) : Int) then if (List.take (w0.length + 1 - Int.toNat a) (List.drop (Int.toNat a) (w0 ++ [qc.mk 0 (ByteArray.mk (List.toArray []))]))).length * 2 = (w0.length + 1 - Int.toNat a) * 2 ∧ Int.toNat (w64 (a + 1)) * 2 + (w0.length + 1 - Int.toNat (w64 (a + 1))) * 2 ≤ (w0.length + 1) * 2 then if 0 ≤ t8 ∧ t8 < ((t7.length : Nat) : Int) then Option.bind t7[Int.toNat t8]? fun (a8 : qc) =>
                    if 0 ≤ a ∧ a < ((w0.length + 1 : Nat) : Int) then if Int.toNat a * 2 + 2 ≤ (w0.length + 1) * 2 then some (Sum.inl (List.set (spl (w0 ++ [qc.mk 0 (ByteArray.mk (List.toArray []))]) (Int.toNat (w64 (a + 1))) (List.take (min (w0.length + 1 - Int.toNat a) (w0.length + 1 - Int.toNat (w64 (a + 1)))) (List.take (w0.length + 1 - Int.toNat a) (List.drop (Int.toNat a) (w0 ++ [qc.mk 0 (ByteArray.mk (List.toArray []))]))))) (Int.toNat a) a8, w64 (t8 + 1)))
                      else none
                    else none
                  else none
                else none
              else if Int.toNat (w64 (a + 1)) * 2 + (w0.length + 1 - Int.toNat (w64 (a + 1))) * 2 ≤ (w0.length + 1) * 2 then if 0 ≤ t8 ∧ t8 < ((t7.length : Nat) : Int) then Option.bind t7[Int.toNat t8]? fun (a9 : qc) =>
                  if 0 ≤ a ∧ a < ((w0.length + 1 : Nat) : Int) then if Int.toNat a * 2 + 2 ≤ (w0.length + 1) * 2 then some (Sum.inl (List.set (w0 ++ [qc.mk 0 (ByteArray.mk (List.toArray []))]) (Int.toNat a) a9, w64 (t8 + 1)))
                    else none
                  else none
                else none
              else none
            else none
          else if 0 ≤ a ∧ a ≤ ((w0.length + 1 : Nat) : Int) then if a = 0 ∨ a < ((w0.length + 1 : Nat) : Int) then if (List.take (w0.length + 1 - Int.toNat a) (List.drop (Int.toNat a) (w0 ++ [qc.mk 0 (ByteArray.mk (List.toArray []))]))).length * 2 = (w0.length + 1 - Int.toNat a) * 2 then if 0 ≤ t8 ∧ t8 < ((t7.length : Nat) : Int) then Option.bind t7[Int.toNat t8]? fun (a10 : qc) =>
                  if 0 ≤ a ∧ a < ((w0.length + 1 : Nat) : Int) then if Int.toNat a * 2 + 2 ≤ (w0.length + 1) * 2 then some (Sum.inl (List.set (w0 ++ [qc.mk 0 (ByteArray.mk (List.toArray []))]) (Int.toNat a) a10, w64 (t8 + 1)))
                    else none
                  else none
                else none
              else none
            else if 0 ≤ t8 ∧ t8 < ((t7.length : Nat) : Int) then Option.bind t7[Int.toNat t8]? fun (a11 : qc) =>
              if 0 ≤ a ∧ a < ((w0.length + 1 : Nat) : Int) then if Int.toNat a * 2 + 2 ≤ (w0.length + 1) * 2 then some (Sum.inl (List.set (w0 ++ [qc.mk 0 (ByteArray.mk (List.toArray []))]) (Int.toNat a) a11, w64 (t8 + 1)))
                else none
              else none
            else none
          else none
        else none
      else none
    else some (Sum.inr w0)
theorem q3M : ∀ (w0 : List qc) (t3 : List qj) (t6 : Int) (t7 : List qc) (t8 : Int) (w0_len : Nat), w0_len = w0.length → XL2 evo 41 0 8 ⟨[(3, rL 6 qn t3), (5, rO 0 2 w0_len), (6, rI t6), (7, rL 2 qe t7), (8, rI t8)], [(0, bR 52 2 qe w0)], 1, 85⟩ = (qQ (JR t3 t6 t7) (w0, t8)).bind (fun (e : List qc) => some (Go.Exit.exit 2, ⟨[(3, rL 6 qn t3), (5, rO 0 2 e.length), (6, rI t6)], [(0, bR 52 2 qe e)], 1, 85⟩)) :=
  by
  intro w0 t3 t6 t7 t8 w0_len h0
  subst h0
  revert t8; revert w0; exact q92 qjE qjH (fun e => by exact ⟨_, rfl, fun h => by cases h⟩) fun w0 t8 => by
    have := qki; have := @qcB.eq_1; have := @q2W; have := @JR.eq_1; exact gA
noncomputable def ZF (t3 : List qj) : (List qc × Int) → Option ((List qc × Int) ⊕ (List qc))
  | (w0, t6) =>
    if t6 < ((t3.length : Nat) : Int) then if 0 ≤ t6 ∧ t6 < ((t3.length : Nat) : Int) then Option.bind t3[Int.toNat t6]? fun (a : qj) =>
        Option.bind (qQ (JR t3 t6 a.Need.Set) (w0, 0)) fun (a2 : List qc) =>
        some (Sum.inl (a2, w64 (t6 + 1)))
      else none
    else some (Sum.inr w0)
theorem q3b : ∀ (w0 : List qc) (t3 : List qj) (t6 : Int) (w0_len : Nat), w0_len = w0.length → XL2 evo 41 0 4 ⟨[(3, rL 6 qn t3), (5, rO 0 2 w0_len), (6, rI t6)], [(0, bR 52 2 qe w0)], 1, 85⟩ = (qQ (ZF t3) (w0, t6)).bind (fun (e : List qc) => some (Go.Exit.exit 0, ⟨[(5, rO 0 2 e.length)], [(0, bR 52 2 qe e)], 1, 85⟩)) :=
  by
  intro w0 t3 t6 w0_len h0
  subst h0
  revert t6; revert w0; exact q92 qjt qju (fun e => by exact ⟨_, rfl, fun h => by cases h⟩) fun w0 t6 => by
    have := qki; have := @qcq.eq_1; have := @q3M; have := @ZF.eq_1; exact gA
theorem q1K : ∀  (t6 : Int), XL2 evo 41 0 4 ⟨[(3, R.c (C.d (D.sl 6 0 []))), (5, rO 0 2 0), (6, rI t6)], [(0, B.row 52 2 [])], 1, 85⟩ = (qQ (ZF []) ([], t6)).bind (fun (e : List qc) => some (Go.Exit.exit 0, ⟨[(5, rO 0 2 e.length)], [(0, bR 52 2 qe e)], 1, 85⟩)) := by
  intro t6; have h := q3b [] [] t6 _ rfl
  first
    | exact h
    | (simp only [rL, dL, bR, bZ, Nat.reduceAdd] at h; exact h)
noncomputable def zr (w0 : List qj) (w1 : List qc) (t6 : Int) (t7 : List qc) (t8 : Int) : Int → Option (Int ⊕ Int)
  | t9 =>
    if t9 < ((w1.length : Nat) : Int) then if 0 ≤ t9 ∧ t9 < ((w1.length : Nat) : Int) then Option.bind w1[Int.toNat t9]? fun (a : qc) =>
        if 0 ≤ t8 ∧ t8 < ((t7.length : Nat) : Int) then Option.bind t7[Int.toNat t8]? fun (a2 : qc) =>
          if zn a a2 = Bool.true then some (Sum.inl (w64 (t9 + 1)))
          else some (Sum.inr t9)
        else none
      else none
    else some (Sum.inr t9)
theorem q1R : ∀ (w0 : List qj) (w1 : List qc) (t6 : Int) (t7 : List qc) (t8 t9 : Int) (w0_len w1_len : Nat), w0_len = w0.length → w1_len = w1.length → XL2 evo 41 0 11 ⟨[(3, rO 0 6 w0_len), (5, rO 1 2 w1_len), (6, rI t6), (7, rL 2 qe t7), (8, rI t8), (9, rI t9)], [(0, bR 111 6 qn w0), (1, bR 52 2 qe w1)], 2, 85⟩ = (qQ (zr w0 w1 t6 t7 t8) t9).bind (fun (e : Int) => some (Go.Exit.exit 4, ⟨[(3, rO 0 6 w0.length), (5, rO 1 2 w1.length), (6, rI t6), (7, rL 2 qe t7), (8, rI t8), (9, rI e)], [(0, bR 111 6 qn w0), (1, bR 52 2 qe w1)], 2, 85⟩)) :=
  by
  intro w0 w1 t6 t7 t8 t9 w0_len w1_len h0 h1
  subst h0 h1
  revert t9; exact qau qeu qf0 (fun e => by exact ⟨_, rfl, fun h => by cases h⟩) fun x => by
    have := qki; have := @q9Y.eq_1; have := @Jo; have := @zr.eq_1; exact gA
noncomputable def zA (w0 : List qj) (t6 : Int) (t7 : List qc) : (List qc × Int) → Option ((List qc × Int) ⊕ (List qc))
  | (w1, t8) =>
    if t8 < ((t7.length : Nat) : Int) then Option.bind (qQ (zr w0 w1 t6 t7 t8) 0) fun (a : Int) =>
      if a < ((w1.length : Nat) : Int) then if 0 ≤ a ∧ a < ((w1.length : Nat) : Int) then Option.bind w1[Int.toNat a]? fun (a2 : qc) =>
          if 0 ≤ t8 ∧ t8 < ((t7.length : Nat) : Int) then Option.bind t7[Int.toNat t8]? fun (a3 : qc) =>
            if (a2.School == a3.School) = Bool.true ∧ (ByteArray.toList a2.Code == ByteArray.toList a3.Code) = Bool.true then some (Sum.inl (w1, w64 (t8 + 1)))
            else if w1.length + 1 ≤ Go.maxLen ∧ (w1.length + 1) * 24 ≤ 140737488355328 then if 0 ≤ w64 (a + 1) ∧ w64 (a + 1) ≤ ((w1.length + 1 : Nat) : Int) then if w64 (a + 1) = 0 ∨ w64 (a + 1) < ((w1.length + 1 : Nat) : Int) then if 0 ≤ a ∧ a ≤ ((w1.length + 1 : Nat) : Int) then if a = 0 ∨ a < ((w1.length + 1 : Nat) : Int) then if (List.take (w1.length + 1 - Int.toNat a) (List.drop (Int.toNat a) (w1 ++ [qc.mk 0 (ByteArray.mk (List.toArray []))]))).length * 2 = (w1.length + 1 - Int.toNat a) * 2 ∧ Int.toNat (w64 (a + 1)) * 2 + (w1.length + 1 - Int.toNat (w64 (a + 1))) * 2 ≤ (w1.length + 1) * 2 then if 0 ≤ t8 ∧ t8 < ((t7.length : Nat) : Int) then Option.bind t7[Int.toNat t8]? fun (a4 : qc) =>
                          if 0 ≤ a ∧ a < ((w1.length + 1 : Nat) : Int) then if Int.toNat a * 2 + 2 ≤ (w1.length + 1) * 2 then some (Sum.inl (List.set (spl (w1 ++ [qc.mk 0 (ByteArray.mk (List.toArray []))]) (Int.toNat (w64 (a + 1))) (List.take (min (w1.length + 1 - Int.toNat a) (w1.length + 1 - Int.toNat (w64 (a + 1)))) (List.take (w1.length + 1 - Int.toNat a) (List.drop (Int.toNat a) (w1 ++ [qc.mk 0 (ByteArray.mk (List.toArray []))]))))) (Int.toNat a) a4, w64 (t8 + 1)))
                            else none
                          else none
                        else none
                      else none
                    else if Int.toNat (w64 (a + 1)) * 2 + (w1.length + 1 - Int.toNat (w64 (a + 1))) * 2 ≤ (w1.length + 1) * 2 then if 0 ≤ t8 ∧ t8 < ((t7.length : Nat) : Int) then Option.bind t7[Int.toNat t8]? fun (a5 : qc) =>
                        if 0 ≤ a ∧ a < ((w1.length + 1 : Nat) : Int) then if Int.toNat a * 2 + 2 ≤ (w1.length + 1) * 2 then some (Sum.inl (List.set (w1 ++ [qc.mk 0 (ByteArray.mk (List.toArray []))]) (Int.toNat a) a5, w64 (t8 + 1)))
                          else none
                        else none
                      else none
                    else none
                  else none
                else if 0 ≤ a ∧ a ≤ ((w1.length + 1 : Nat) : Int) then if a = 0 ∨ a < ((w1.length + 1 : Nat) : Int) then if (List.take (w1.length + 1 - Int.toNat a) (List.drop (Int.toNat a) (w1 ++ [qc.mk 0 (ByteArray.mk (List.toArray []))]))).length * 2 = (w1.length + 1 - Int.toNat a) * 2 then if 0 ≤ t8 ∧ t8 < ((t7.length : Nat) : Int) then Option.bind t7[Int.toNat t8]? fun (a6 : qc) =>
                        if 0 ≤ a ∧ a < ((w1.length + 1 : Nat) : Int) then if Int.toNat a * 2 + 2 ≤ (w1.length + 1) * 2 then some (Sum.inl (List.set (w1 ++ [qc.mk 0 (ByteArray.mk (List.toArray []))]) (Int.toNat a) a6, w64 (t8 + 1)))
                          else none
                        else none
                      else none
                    else none
                  else if 0 ≤ t8 ∧ t8 < ((t7.length : Nat) : Int) then Option.bind t7[Int.toNat t8]? fun (a7 : qc) =>
                    if 0 ≤ a ∧ a < ((w1.length + 1 : Nat) : Int) then if Int.toNat a * 2 + 2 ≤ (w1.length + 1) * 2 then some (Sum.inl (List.set (w1 ++ [qc.mk 0 (ByteArray.mk (List.toArray []))]) (Int.toNat a) a7, w64 (t8 + 1)))
                      else none
                    else none
                  else none
                else none
              else none
            else none
          else none
        else none
      else if w1.length + 1 ≤ Go.maxLen ∧ (w1.length + 1) * 24 ≤ 140737488355328 then if 0 ≤ w64 (a + 1) ∧ w64 (a + 1) ≤ ((w1.length + 1 : Nat) : Int) then if w64 (a + 1) = 0 ∨ w64 (a + 1) < ((w1.length + 1 : Nat) : Int) then if 0 ≤ a ∧ a ≤ ((w1.length + 1 : Nat) : Int) then if a = 0 ∨ a < ((w1.length + 1 : Nat) : Int) then if (List.take (w1.length + 1 - Int.toNat a) (List.drop (Int.toNat a) (w1 ++ [qc.mk 0 (ByteArray.mk (List.toArray []))]))).length * 2 = (w1.length + 1 - Int.toNat a) * 2 ∧ Int.toNat (w64 (a + 1)) * 2 + (w1.length + 1 - Int.toNat (w64 (a + 1))) * 2 ≤ (w1.length + 1) * 2 then if 0 ≤ t8 ∧ t8 < ((t7.length : Nat) : Int) then Option.bind t7[Int.toNat t8]? fun (a8 : qc) =>
                    if 0 ≤ a ∧ a < ((w1.length + 1 : Nat) : Int) then if Int.toNat a * 2 + 2 ≤ (w1.length + 1) * 2 then some (Sum.inl (List.set (spl (w1 ++ [qc.mk 0 (ByteArray.mk (List.toArray []))]) (Int.toNat (w64 (a + 1))) (List.take (min (w1.length + 1 - Int.toNat a) (w1.length + 1 - Int.toNat (w64 (a + 1)))) (List.take (w1.length + 1 - Int.toNat a) (List.drop (Int.toNat a) (w1 ++ [qc.mk 0 (ByteArray.mk (List.toArray []))]))))) (Int.toNat a) a8, w64 (t8 + 1)))
                      else none
                    else none
                  else none
                else none
              else if Int.toNat (w64 (a + 1)) * 2 + (w1.length + 1 - Int.toNat (w64 (a + 1))) * 2 ≤ (w1.length + 1) * 2 then if 0 ≤ t8 ∧ t8 < ((t7.length : Nat) : Int) then Option.bind t7[Int.toNat t8]? fun (a9 : qc) =>
                  if 0 ≤ a ∧ a < ((w1.length + 1 : Nat) : Int) then if Int.toNat a * 2 + 2 ≤ (w1.length + 1) * 2 then some (Sum.inl (List.set (w1 ++ [qc.mk 0 (ByteArray.mk (List.toArray []))]) (Int.toNat a) a9, w64 (t8 + 1)))
                    else none
                  else none
                else none
              else none
            else none
          else if 0 ≤ a ∧ a ≤ ((w1.length + 1 : Nat) : Int) then if a = 0 ∨ a < ((w1.length + 1 : Nat) : Int) then if (List.take (w1.length + 1 - Int.toNat a) (List.drop (Int.toNat a) (w1 ++ [qc.mk 0 (ByteArray.mk (List.toArray []))]))).length * 2 = (w1.length + 1 - Int.toNat a) * 2 then if 0 ≤ t8 ∧ t8 < ((t7.length : Nat) : Int) then Option.bind t7[Int.toNat t8]? fun (a10 : qc) =>
                  if 0 ≤ a ∧ a < ((w1.length + 1 : Nat) : Int) then if Int.toNat a * 2 + 2 ≤ (w1.length + 1) * 2 then some (Sum.inl (List.set (w1 ++ [qc.mk 0 (ByteArray.mk (List.toArray []))]) (Int.toNat a) a10, w64 (t8 + 1)))
                    else none
                  else none
                else none
              else none
            else if 0 ≤ t8 ∧ t8 < ((t7.length : Nat) : Int) then Option.bind t7[Int.toNat t8]? fun (a11 : qc) =>
              if 0 ≤ a ∧ a < ((w1.length + 1 : Nat) : Int) then if Int.toNat a * 2 + 2 ≤ (w1.length + 1) * 2 then some (Sum.inl (List.set (w1 ++ [qc.mk 0 (ByteArray.mk (List.toArray []))]) (Int.toNat a) a11, w64 (t8 + 1)))
                else none
              else none
            else none
          else none
        else none
      else none
    else some (Sum.inr w1)
theorem q2m : ∀ (w0 : List qj) (w1 : List qc) (t6 : Int) (t7 : List qc) (t8 : Int) (w0_len w1_len : Nat), w0_len = w0.length → w1_len = w1.length → XL2 evo 41 0 8 ⟨[(3, rO 0 6 w0_len), (5, rO 1 2 w1_len), (6, rI t6), (7, rL 2 qe t7), (8, rI t8)], [(0, bR 111 6 qn w0), (1, bR 52 2 qe w1)], 2, 85⟩ = (qQ (zA w0 t6 t7) (w1, t8)).bind (fun (e : List qc) => some (Go.Exit.exit 2, ⟨[(3, rO 0 6 w0.length), (5, rO 1 2 e.length), (6, rI t6)], [(0, bR 111 6 qn w0), (1, bR 52 2 qe e)], 2, 85⟩)) :=
  by
  intro w0 w1 t6 t7 t8 w0_len w1_len h0 h1
  subst h0 h1
  revert t8; revert w1; exact q92 qjE qjH (fun e => by exact ⟨_, rfl, fun h => by cases h⟩) fun w1 t8 => by
    have := qki; have := @qcB.eq_1; have := @q1R; have := @zA.eq_1; exact gA
noncomputable def zz (w0 : List qj) : (List qc × Int) → Option ((List qc × Int) ⊕ (List qc))
  | (w1, t6) =>
    if t6 < ((w0.length : Nat) : Int) then if 0 ≤ t6 ∧ t6 < ((w0.length : Nat) : Int) then Option.bind w0[Int.toNat t6]? fun (a : qj) =>
        Option.bind (qQ (zA w0 t6 a.Need.Set) (w1, 0)) fun (a2 : List qc) =>
        some (Sum.inl (a2, w64 (t6 + 1)))
      else none
    else some (Sum.inr w1)
theorem q1Z : ∀ (w0 : List qj) (w1 : List qc) (t6 : Int) (w0_len w1_len : Nat), w0_len = w0.length → w1_len = w1.length → XL2 evo 41 0 4 ⟨[(3, rO 0 6 w0_len), (5, rO 1 2 w1_len), (6, rI t6)], [(0, bR 111 6 qn w0), (1, bR 52 2 qe w1)], 2, 85⟩ = (qQ (zz w0) (w1, t6)).bind (fun (e : List qc) => some (Go.Exit.exit 0, ⟨[(5, rO 0 2 e.length)], [(0, bR 52 2 qe e)], 1, 85⟩)) :=
  by
  intro w0 w1 t6 w0_len w1_len h0 h1
  subst h0 h1
  revert t6; revert w1; exact q92 qjt qju (fun e => by exact ⟨_, rfl, fun h => by cases h⟩) fun w1 t6 => by
    have := qki; have := @qcq.eq_1; have := @q2m; have := @zz.eq_1; exact gA
theorem q18 : ∀  (w0 : List qj) (t6 : Int) (w0_len : Nat), w0_len = w0.length → XL2 evo 41 0 4 ⟨[(3, rO 0 6 w0_len), (5, rO 1 2 0), (6, rI t6)], [(0, bR 111 6 qn w0), (1, B.row 52 2 [])], 2, 85⟩ = (qQ (zz w0) ([], t6)).bind (fun (e : List qc) => some (Go.Exit.exit 0, ⟨[(5, rO 0 2 e.length)], [(0, bR 52 2 qe e)], 1, 85⟩)) := by
  intro w0 t6 w0_len h0; subst h0; have h := q1Z w0 [] t6 _ _ rfl rfl
  first
    | exact h
    | (simp only [rL, dL, bR, bZ, Nat.reduceAdd] at h; exact h)
noncomputable def ZP (x0 : qb) : Option (List qc) :=
  Option.bind (q0n x0 1) fun (a : Sum Unit (List qj)) =>
  Sum.elim (fun (a2 : Unit) => Option.bind (qQ (ZF []) ([], 0)) fun (a4 : List qc) =>
    some a4) (fun (a3 : List qj) => Option.bind (qQ (zz a3) ([], 0)) fun (a5 : List qc) =>
    some a5) a
theorem q5A : ∀ (x0_Kind x0_N x0_Min : Int) (x0_Set : List qc) (x0_L : List qb), ev 41 0 [R.agg [dI x0_Kind, dI x0_N, dI x0_Min, dL 2 qe x0_Set, dL 5 qg x0_L]] [] = (ZP (qb.mk x0_Kind x0_N x0_Min x0_Set x0_L)).bind (fun (e : List qc) => some (rO 0 2 e.length, [(0, bR 52 2 qe e)])) :=
  fun x0_Kind x0_N x0_Min x0_Set x0_L => by
    rw [qA qmq qtx.2.2.2 qpY]
    have := qki; have := @q8k; have := @q1K; have := @q18; have := @ZP.eq_1; exact gA
theorem qvU : okL 42 qeU := qz (qi qr3) (by kernel_rfl) (by kernel_rfl)
def qwe := JA_ @qeU.eq_1 (JA_ @Try.f42.eq_1 @qr3)
theorem quL : okL 61 qgG := qz (qi qs5) (by kernel_rfl) (by kernel_rfl)
def qvf := JA_ @qgG.eq_1 (JA_ @Try.f61.eq_1 @qs5)
noncomputable def q0U (n : Int) (m : Int) : Option Int :=
  if m = 0 then none
  else if m = 0 then none
  else some (Int.tmod (w64 (Int.tmod n m + m)) m)
theorem q8W : ∀ (n m : Int), ev 61 0 [rI n, rI m] [] = (q0U n m).bind (fun (e : Int) => some (rI e, [])) :=
  fun n m => by
    rw [qA qs5 qu7.2.2.2 quL]
    have := qvf; have := @q0U.eq_1; exact gA
noncomputable def zg (n : Int) (d : qh) : Option (Int × qh) :=
  if ((d.L.length : Nat) : Int) ≤ d.At then some (0, d)
  else if 0 ≤ w64 (w64 (d.At + 1) - 1) ∧ w64 (w64 (d.At + 1) - 1) < ((d.L.length : Nat) : Int) then Option.bind d.L[Int.toNat (w64 (w64 (d.At + 1) - 1))]? fun (a : Int) =>
    Option.bind (q0U a n) fun (a2 : Int) =>
    some (a2, qh.mk d.L (w64 (d.At + 1)))
  else none
theorem q0E : ∀ (n : Int) (d_L : List Int) (d_At : Int), ev 42 1 [rP 0, rI n] [(0, B.blk 85 [dL 1 eI d_L, dI d_At])] = (zg n (qh.mk d_L d_At)).bind (fun (e : Int × qh) => some (rI e.1, [(0, B.blk 85 [dL 1 eI e.2.L, dI e.2.At])])) :=
  fun n d_L d_At => by
    rw [qA qr3 qty.2.2.2 qvU]
    have := qwe; have := @q8W; have := @zg.eq_1; exact gA
noncomputable def zI (w1 : List qc) (t8 : Int) : (List qa × qh × Int) → Option ((List qa × qh × Int) ⊕ (List qa))
  | (w2, b0, t9) =>
    if t9 < t8 then Option.bind (zg ((w1.length : Nat) : Int) b0) fun (a : Prod Int qh) =>
      if 0 ≤ a.1 ∧ a.1 < ((w1.length : Nat) : Int) then Option.bind w1[Int.toNat a.1]? fun (a2 : qc) =>
        Option.bind (zg 4 a.2) fun (a3 : Prod Int qh) =>
        if 0 ≤ a3.1 ∧ a3.1 < 4 then Option.bind [(5 : Int), 6, 10, 3][Int.toNat a3.1]? fun (a4 : Int) =>
          Option.bind (zg 7 a3.2) fun (a5 : Prod Int qh) =>
          if 0 ≤ a5.1 ∧ a5.1 < 7 then Option.bind [(50 : Int), 60, 90, 40, 100, 79, 80][Int.toNat a5.1]? fun (a6 : Int) =>
            Option.bind (zg 600 a5.2) fun (a7 : Prod Int qh) =>
            Option.bind (zg 8 a7.2) fun (a8 : Prod Int qh) =>
            if (a8.1 == 0) = Bool.true then if 0 < t9 then if 0 ≤ w64 (t9 - 1) ∧ w64 (t9 - 1) < ((w2.length : Nat) : Int) then Option.bind w2[Int.toNat (w64 (t9 - 1))]? fun (a9 : qa) =>
                  if 0 < ((a9.Sources.length : Nat) : Int) then Option.bind a9.Sources[0]? fun (a10 : Int) =>
                    if w2.length + 1 ≤ Go.maxLen ∧ (w2.length + 1) * 104 ≤ 140737488355328 then some (Sum.inl (w2 ++ [qa.mk a2 a4 a6 a7.1 [a10] 0 []], a8.2, w64 (t9 + 1)))
                    else none
                  else none
                else none
              else if w2.length + 1 ≤ Go.maxLen ∧ (w2.length + 1) * 104 ≤ 140737488355328 then some (Sum.inl (w2 ++ [qa.mk a2 a4 a6 a7.1 [w64 (w64 (w64 (1000000 * a2.School) + t9) + 1)] 0 []], a8.2, w64 (t9 + 1)))
              else none
            else if w2.length + 1 ≤ Go.maxLen ∧ (w2.length + 1) * 104 ≤ 140737488355328 then some (Sum.inl (w2 ++ [qa.mk a2 a4 a6 a7.1 [w64 (w64 (w64 (1000000 * a2.School) + t9) + 1)] 0 []], a8.2, w64 (t9 + 1)))
            else none
          else none
        else none
      else none
    else some (Sum.inr w2)
theorem q5p : ∀ (w1 : List qc) (w2 : List qa) (b0_L : List Int) (b0_At t8 t9 : Int) (w1_len w2_len : Nat), w1_len = w1.length → w2_len = w2.length → XL2 evo 20 0 6 ⟨[(5, rP 0), (6, rO 1 2 w1_len), (7, rO 2 8 w2_len), (8, rI t8), (9, rI t9)], [(0, B.blk 85 [dL 1 eI b0_L, dI b0_At]), (1, bR 52 2 qe w1), (2, bR 54 8 qf w2)], 3, 77⟩ = (qQ (zI w1 t8) (w2, (qh.mk b0_L b0_At), t9)).bind (fun (e : List qa) => some (Go.Exit.exit 0, ⟨[(7, rO 0 8 e.length)], [(0, bR 54 8 qf e)], 1, 77⟩)) :=
  by
  intro w1 w2 b0_L b0_At t8 t9 w1_len w2_len h0 h1
  subst h0 h1
  have h := q1B (E := evo) (f := 20) (k := 0) (st := fun x : List qa × qh × Int => (⟨[(5, rP 0), (6, rO 1 2 w1.length), (7, rO 2 8 x.1.length), (8, rI t8), (9, rI x.2.2)], [(0, B.blk 85 [dL 1 eI x.2.1.L, dI x.2.1.At]), (1, bR 52 2 qe w1), (2, bR 54 8 qf x.1)], 3, 77⟩ : S)) (ex := fun (e : List qa) => (Go.Exit.exit 0, ⟨[(7, rO 0 8 e.length)], [(0, bR 54 8 qf e)], 1, 77⟩)) (step := (zI w1 t8)) qnX qmC (fun e h => by cases h) (fun x => by
    obtain ⟨w2, b0, t9⟩ := x; have := qtG; have := @qgA.eq_1; have := @q0E; have := @zI.eq_1; exact gA) (w2, (qh.mk b0_L b0_At), t9)
  exact h
theorem q3e : ∀  (w1 : List qc) (b0_L : List Int) (b0_At t8 t9 : Int) (w1_len : Nat), w1_len = w1.length → XL2 evo 20 0 6 ⟨[(5, rP 0), (6, rO 1 2 w1_len), (7, rO 2 8 0), (8, rI t8), (9, rI t9)], [(0, B.blk 85 [dL 1 eI b0_L, dI b0_At]), (1, bR 52 2 qe w1), (2, B.row 54 8 [])], 3, 77⟩ = (qQ (zI w1 t8) ([], (qh.mk b0_L b0_At), t9)).bind (fun (e : List qa) => some (Go.Exit.exit 0, ⟨[(7, rO 0 8 e.length)], [(0, bR 54 8 qf e)], 1, 77⟩)) := by
  intro w1 b0_L b0_At t8 t9 w1_len h0; subst h0; have h := q5p w1 [] ((qh.mk b0_L b0_At)).L ((qh.mk b0_L b0_At)).At t8 t9 _ _ rfl rfl
  first
    | exact h
    | (simp only [rL, dL, bR, bZ, Nat.reduceAdd] at h; exact h)
noncomputable def q0s (x0 : qb) (x1 : List Int) : Option (List qa) :=
  Option.bind (ZP x0) fun (a : List qc) =>
  if a.length + 1 ≤ Go.maxLen ∧ (a.length + 1) * 24 ≤ 140737488355328 then Option.bind (zg 8 (qh.mk x1 0)) fun (a2 : Prod Int qh) =>
    Option.bind (qQ (zI (a ++ [qc.mk 1 (ByteArray.mk (List.toArray [90]))]) a2.1) ([], (a2.2, 0))) fun (a3 : List qa) =>
    some a3
  else none
theorem q8C : ∀ (x0_Kind x0_N x0_Min : Int) (x0_Set : List qc) (x0_L : List qb) (x1 : List Int), ev 20 0 [R.agg [dI x0_Kind, dI x0_N, dI x0_Min, dL 2 qe x0_Set, dL 5 qg x0_L], rL 1 eI x1] [] = (q0s (qb.mk x0_Kind x0_N x0_Min x0_Set x0_L) x1).bind (fun (e : List qa) => some (rL 8 qf e, [])) :=
  fun x0_Kind x0_N x0_Min x0_Set x0_L x1 => by
    rw [qA qqa qtd.2.2.2 qsy]
    have := qtG; have := @q5A; have := @q0E; have := @q3e; have := @q0s.eq_1; exact gA
noncomputable def Z7 (c : ZV) : Option (qb × List qa) :=
  Option.bind (q0m c.Need) fun (a : qb) =>
  Option.bind (q0s a c.L) fun (a2 : List qa) =>
  some (a, a2)
theorem q4d : ∀ (c_Need c_L : List Int) (c_Odd_0_0 c_Odd_0_1 c_Odd_0_2 c_Odd_1_0 c_Odd_1_1 c_Odd_1_2 : Int), ev 7 0 [R.agg [dL 1 eI c_Need, dL 1 eI c_L, dI c_Odd_0_0, dI c_Odd_0_1, dI c_Odd_0_2, dI c_Odd_1_0, dI c_Odd_1_1, dI c_Odd_1_2]] [] = (Z7 (ZV.mk c_Need c_L (qpR.mk (qkh.mk c_Odd_0_0 c_Odd_0_1 c_Odd_0_2) (qkh.mk c_Odd_1_0 c_Odd_1_1 c_Odd_1_2)))).bind (fun (e : qb × List qa) => some (R.tup [R.agg [dI e.1.Kind, dI e.1.N, dI e.1.Min, dL 2 qe e.1.Set, dL 5 qg e.1.L], rL 8 qf e.2], [])) :=
  fun c_Need c_L c_Odd_0_0 c_Odd_0_1 c_Odd_0_2 c_Odd_1_0 c_Odd_1_1 c_Odd_1_2 => by
    rw [qA bd7 pw7.2.2.2 lo7]
    have := cx7; have := @q8r; have := @q8C; have := @Z7.eq_1; exact gA
theorem lo8 : okL 8 qlY := qz (qi bd8) (by kernel_rfl) (by kernel_rfl)
def cx8 := JA_ @qlY.eq_1 (JA_ @Try.f8.eq_1 @bd8)
noncomputable def q0Z (l : List qa) : Option (List qa) :=
  if 0 ≤ min ((l.length : Nat) : Int) 5 ∧ min ((l.length : Nat) : Int) 5 ≤ ((l.length : Nat) : Int) then some (List.take (Int.toNat (min ((l.length : Nat) : Int) 5) - 0) l)
  else none
theorem q8Z : ∀ (l : List qa), ev 8 0 [rL 8 qf l] [] = (q0Z l).bind (fun (e : List qa) => some (rL 8 qf e, [])) :=
  fun l => by
    rw [qA bd8 pw8.2.2.2 lo8]
    have := cx8; have := @q0Z.eq_1; exact gA
end Go.Proofs.Ytgejdfnidjnjcaa.Vc
namespace Go.Proofs.Ytgejdfnidjnjcaa.Vc
open Go.RowKit
set_option linter.unusedVariables false
set_option linter.unusedSimpArgs false
set_option maxRecDepth 20000
set_option linter.defProp false
theorem lo3 : okL 3 qhG := qz (qi bd3) (by kernel_rfl) (by kernel_rfl)
def cx3 := JA_ @qhG.eq_1 (JA_ @Try.f3.eq_1 @bd3)
theorem qri : lbO 3 9 = qkr := Qj (qi bd3) rfl
theorem qrZ : okL 3 qkr := zp lo3 (List.mem_of_getElem? (i := 0) (by kernel_rfl))
theorem qtv : okL 13 qd8 := qz (qi qpL) (by kernel_rfl) (by kernel_rfl)
def qsn := JA_ @qd8.eq_1 (JA_ @Try.f13.eq_1 @qpL)
theorem qoM : lbO 13 4 = qh5 := Qj (qi qpL) rfl
theorem qn1 : okL 13 qh5 := zp qtv (List.mem_of_getElem? (i := 0) (by kernel_rfl))
noncomputable def Qf (set0 : Int) (leaf : List Int) (t11 : Int) : (List Int × Int × Int) → Option ((List Int × Int × Int) ⊕ (List Int))
  | (out, k, t12) =>
    if t12 < t11 then if 0 ≤ t12 then if (ZZ Go.BinOp.and Go.IntKind.i64 (Int.fdiv set0 (2 ^ min (Int.toNat t12) (Go.IntKind.bits Go.IntKind.i64))) 1 == 0) = Bool.true then if out.length + 1 ≤ Go.maxLen ∧ (out.length + 1) * 8 ≤ 140737488355328 then some (Sum.inl (out ++ [(-1)], k, w64 (t12 + 1)))
          else none
        else if k < ((leaf.length : Nat) : Int) then if 0 ≤ k ∧ k < ((leaf.length : Nat) : Int) then Option.bind leaf[Int.toNat k]? fun (a : Int) =>
            if out.length + 1 ≤ Go.maxLen ∧ (out.length + 1) * 8 ≤ 140737488355328 then some (Sum.inl (out ++ [a], w64 (k + 1), w64 (t12 + 1)))
            else none
          else none
        else if out.length + 1 ≤ Go.maxLen ∧ (out.length + 1) * 8 ≤ 140737488355328 then some (Sum.inl (out ++ [(-2)], k, w64 (t12 + 1)))
        else none
      else none
    else some (Sum.inr out)
theorem q4c : ∀ (out : List Int) (set0 : Int) (leaf : List Int) (k t11 t12 : Int) (out_len : Nat), out_len = out.length → XL2 evo 13 0 4 ⟨[(1, rI set0), (2, rL 1 eI leaf), (7, rO 0 1 out_len), (8, rI k), (11, rI t11), (12, rI t12)], [(0, bR 3 1 eI out)], 1, 43⟩ = (qQ (Qf set0 leaf t11) (out, k, t12)).bind (fun (e : List Int) => some (Go.Exit.exit 0, ⟨[(7, rO 0 1 e.length)], [(0, bR 3 1 eI e)], 1, 43⟩)) :=
  by
  intro out set0 leaf k t11 t12 out_len h0
  subst h0
  revert t12; revert k; revert out; exact qtM qoM qn1 (fun e => by exact ⟨_, rfl, fun h => by cases h⟩) fun out k t12 => by
    have := qsn; have := @qh5.eq_1; have := @Qf.eq_1; exact gA
theorem q27 : ∀  (set0 : Int) (leaf : List Int) (k t11 t12 : Int), XL2 evo 13 0 4 ⟨[(1, rI set0), (2, rL 1 eI leaf), (7, rO 0 1 0), (8, rI k), (11, rI t11), (12, rI t12)], [(0, B.row 3 1 [])], 1, 43⟩ = (qQ (Qf set0 leaf t11) ([], k, t12)).bind (fun (e : List Int) => some (Go.Exit.exit 0, ⟨[(7, rO 0 1 e.length)], [(0, bR 3 1 eI e)], 1, 43⟩)) := by
  intro set0 leaf k t11 t12; have h := q4c [] set0 leaf k t11 t12 _ rfl
  first
    | exact h
    | (simp only [rL, dL, bR, bZ, Nat.reduceAdd] at h; exact h)
noncomputable def Jb (l : List qa) (set0 : Int) (leaf : List Int) : Option (List Int) :=
  Option.bind (qQ (Qf set0 leaf ((l.length : Nat) : Int)) ([], (0, 0))) fun (a : List Int) =>
  some a
theorem q6q : ∀ (l : List qa) (set0 : Int) (leaf : List Int), ev 13 0 [rL 8 qf l, rI set0, rL 1 eI leaf] [] = (Jb l set0 leaf).bind (fun (e : List Int) => some (rL 1 eI e, [])) :=
  fun l set0 leaf => by
    rw [qA qpL qtK.2.2.2 qtv]
    have := qsn; have := @q27; have := @Jb.eq_1; exact gA
noncomputable def zw (x : qb) : List R × List (Nat × B) := ([R.agg [C.d (D.int .i64 x.Kind), C.d (D.int .i64 x.N), C.d (D.int .i64 x.Min), C.d (D.sl 2 x.Set.length (x.Set.flatMap qe)), C.d (D.sl 5 x.L.length (x.L.flatMap qg))]], [])
noncomputable def Q6 : qb → R × List (Nat × B) := fun (e : qb) => (R.agg [C.d (D.int .i64 e.Kind), C.d (D.int .i64 e.N), C.d (D.int .i64 e.Min), C.d (D.sl 2 e.Set.length (e.Set.flatMap qe)), C.d (D.sl 5 e.L.length (e.L.flatMap qg))], [])
noncomputable def Q4 (rF : qb → Option qb) (n_Kind : Int) (n_N : Int) (n_Min : Int) (n_Set : List qc) (b2_Kind : Int) (b2_N : Int) (b2_Min : Int) (t15 : Int) : (List qb × Int) → Option ((List qb × Int) ⊕ (List qb))
  | (w1, t16) =>
    if t16 < t15 then if 0 ≤ t16 ∧ t16 < ((w1.length : Nat) : Int) then Option.bind w1[Int.toNat t16]? fun (a2 : qb) =>
        Option.bind (rF a2) fun (a3 : qb) =>
        if 0 ≤ t16 ∧ t16 < ((w1.length : Nat) : Int) then if Int.toNat t16 * 5 + 5 ≤ w1.length * 5 then some (Sum.inl (List.set w1 (Int.toNat t16) a3, w64 (t16 + 1)))
          else none
        else none
      else none
    else some (Sum.inr w1)
theorem q4t (rE : Orc) (rF : qb → Option qb) (hF : ∀ y, rE (.fn 37) 0 (zw y).1 (zw y).2 = (rF y).bind fun e => some (Q6 e)) (hM : ∀ g k a G, g ≠ 37 → rE (.fn g) k a G = ev g k a G) (hR : ∀ g asg bd k a G, rE (.rd g asg bd) k a G = evr g asg bd k a G) : ∀ (w1 : List qb) (n_Kind n_N n_Min : Int) (n_Set : List qc) (b2_Kind b2_N b2_Min t15 t16 : Int) (w1_len : Nat), w1_len = w1.length → XL2 rE 37 0 3 ⟨[(1, rP 0), (2, rP 2), (14, rO 1 5 w1_len), (15, rI t15), (16, rI t16)], [(0, B.blk 31 [dI n_Kind, dI n_N, dI n_Min, dL 2 qe n_Set, dO 1 5 w1_len]), (1, bR 31 5 qg w1), (2, B.blk 31 [dI b2_Kind, dI b2_N, dI b2_Min, C.nils, C.nils])], 3, 29⟩ = (qQ (Q4 rF n_Kind n_N n_Min n_Set b2_Kind b2_N b2_Min t15) (w1, t16)).bind (fun (e : List qb) => some (Go.Exit.exit 0, ⟨[(1, rP 0), (2, rP 2)], [(0, B.blk 31 [dI n_Kind, dI n_N, dI n_Min, dL 2 qe n_Set, dO 1 5 e.length]), (1, bR 31 5 qg e), (2, B.blk 31 [dI b2_Kind, dI b2_N, dI b2_Min, C.nils, C.nils])], 3, 29⟩)) :=
  by
  intro w1 n_Kind n_N n_Min n_Set b2_Kind b2_N b2_Min t15 t16 w1_len h0
  subst h0
  revert t16; revert w1; exact q92 qk5 qjY (fun e => by exact ⟨_, rfl, fun h => by cases h⟩) fun w1 t16 => by
    have hF' : ∀ (n_Kind n_N n_Min : Int) (n_Set : List qc) (n_L : List qb), rE (.fn 37) 0 [R.agg [dI n_Kind, dI n_N, dI n_Min, dL 2 qe n_Set, dL 5 qg n_L]] [] = (rF (qb.mk n_Kind n_N n_Min n_Set n_L)).bind (fun e => some (R.agg [dI e.Kind, dI e.N, dI e.Min, dL 2 qe e.Set, dL 5 qg e.L], [])) := fun n_Kind n_N n_Min n_Set n_L => hF (qb.mk n_Kind n_N n_Min n_Set n_L)
    have := qqt; have := @qcA.eq_1; have := @Q4.eq_1; exact gA
noncomputable def q0w (fu : Nat) (rF : qb → Option qb) (n_Kind : Int) (n_N : Int) (n_Min : Int) (n_Set : List qc) (b2_Kind : Int) (b2_N : Int) (b2_Min : Int) (t15 : Int) : (List qb × Int) → Option ((List qb × Int) ⊕ (List qb))
  | (w1, t16) =>
    if t16 < t15 then if 0 ≤ t16 ∧ t16 < ((w1.length : Nat) : Int) then Option.bind w1[Int.toNat t16]? fun (a2 : qb) =>
        Option.bind (rF a2) fun (a3 : qb) =>
        if 0 ≤ t16 ∧ t16 < ((w1.length : Nat) : Int) then if Int.toNat t16 * 5 + 5 ≤ w1.length * 5 then some (Sum.inl (List.set w1 (Int.toNat t16) a3, w64 (t16 + 1)))
          else none
        else none
      else none
    else some (Sum.inr w1)
theorem q4G (fu : Nat) (rF rF2 : qb → Option qb) (hF : ∀ y, qk (rF y) (rF2 y)) (n_Kind n_N n_Min : Int) (n_Set : List qc) (b2_Kind b2_N b2_Min t15 : Int) : ∀ x, qk (q0w fu rF n_Kind n_N n_Min n_Set b2_Kind b2_N b2_Min t15 x) (Q4 rF2 n_Kind n_N n_Min n_Set b2_Kind b2_N b2_Min t15 x) := by
  rintro ⟨w1, t16⟩
  unfold q0w Q4
  try dsimp only
  repeat (first
    | with_reducible exact qk.refl _
    | with_reducible exact qk.none _
    | exact hF _
    | with_reducible refine qk.bind ?_ (fun _ => ?_)
    | with_reducible refine qk.ite ?_ ?_
    | with_reducible refine qk.sum (fun _ => ?_) (fun _ => ?_)
    | with_reducible refine qk.lim (fun _ => ?_))
noncomputable def zY (rF : qb → Option qb) (n : qb) (b1_Kind : Int) (b1_N : Int) (b1_Min : Int) (t14 : List qb) (t15 : Int) (t16 : Int) : Unit → Option (Unit ⊕ Unit)
  | () =>
    if t16 < t15 then if 0 ≤ t16 ∧ t16 < ((t14.length : Nat) : Int) then Option.bind t14[Int.toNat t16]? fun (a2 : qb) =>
        Option.bind (rF a2) fun (a3 : qb) =>
        none
      else none
    else some (Sum.inr ())
theorem q3j (rE : Orc) (rF : qb → Option qb) (hF : ∀ y, rE (.fn 37) 0 (zw y).1 (zw y).2 = (rF y).bind fun e => some (Q6 e)) (hM : ∀ g k a G, g ≠ 37 → rE (.fn g) k a G = ev g k a G) (hR : ∀ g asg bd k a G, rE (.rd g asg bd) k a G = evr g asg bd k a G) : ∀ (n_Kind n_N n_Min : Int) (n_Set : List qc) (n_L : List qb) (b1_Kind b1_N b1_Min : Int) (t14 : List qb) (t15 t16 : Int), XL2 rE 37 0 3 ⟨[(1, rP 0), (2, rP 1), (14, rL 5 qg t14), (15, rI t15), (16, rI t16)], [(0, B.blk 31 [dI n_Kind, dI n_N, dI n_Min, dL 2 qe n_Set, dL 5 qg n_L]), (1, B.blk 31 [dI b1_Kind, dI b1_N, dI b1_Min, C.nils, C.nils])], 2, 29⟩ = (qQ (zY rF (qb.mk n_Kind n_N n_Min n_Set n_L) b1_Kind b1_N b1_Min t14 t15 t16) ()).bind (fun (e : Unit) => some (Go.Exit.exit 0, ⟨[(1, rP 0), (2, rP 1)], [(0, B.blk 31 [dI n_Kind, dI n_N, dI n_Min, dL 2 qe n_Set, dL 5 qg n_L]), (1, B.blk 31 [dI b1_Kind, dI b1_N, dI b1_Min, C.nils, C.nils])], 2, 29⟩)) :=
  fun n_Kind n_N n_Min n_Set n_L b1_Kind b1_N b1_Min t14 t15 t16 => by
    have h := q1B (E := rE) (f := 37) (k := 0) (st := fun x : Unit => (⟨[(1, rP 0), (2, rP 1), (14, rL 5 qg t14), (15, rI t15), (16, rI t16)], [(0, B.blk 31 [dI n_Kind, dI n_N, dI n_Min, dL 2 qe n_Set, dL 5 qg n_L]), (1, B.blk 31 [dI b1_Kind, dI b1_N, dI b1_Min, C.nils, C.nils])], 2, 29⟩ : S)) (ex := fun (e : Unit) => (Go.Exit.exit 0, ⟨[(1, rP 0), (2, rP 1)], [(0, B.blk 31 [dI n_Kind, dI n_N, dI n_Min, dL 2 qe n_Set, dL 5 qg n_L]), (1, B.blk 31 [dI b1_Kind, dI b1_N, dI b1_Min, C.nils, C.nils])], 2, 29⟩)) (step := (zY rF (qb.mk n_Kind n_N n_Min n_Set n_L) b1_Kind b1_N b1_Min t14 t15 t16)) qk5 qjY (fun e h => by cases h) (fun x => by
      have hF' : ∀ (n_Kind n_N n_Min : Int) (n_Set : List qc) (n_L : List qb), rE (.fn 37) 0 [R.agg [dI n_Kind, dI n_N, dI n_Min, dL 2 qe n_Set, dL 5 qg n_L]] [] = (rF (qb.mk n_Kind n_N n_Min n_Set n_L)).bind (fun e => some (R.agg [dI e.Kind, dI e.N, dI e.Min, dL 2 qe e.Set, dL 5 qg e.L], [])) := fun n_Kind n_N n_Min n_Set n_L => hF (qb.mk n_Kind n_N n_Min n_Set n_L)
      have := qqt; have := @qcA.eq_1; have := @zY.eq_1; exact gA) ()
    exact h
noncomputable def JJ (fu : Nat) (rF : qb → Option qb) (n : qb) (b1_Kind : Int) (b1_N : Int) (b1_Min : Int) (t14 : List qb) (t15 : Int) (t16 : Int) : Unit → Option (Unit ⊕ Unit)
  | () =>
    if t16 < t15 then if 0 ≤ t16 ∧ t16 < ((t14.length : Nat) : Int) then Option.bind t14[Int.toNat t16]? fun (a2 : qb) =>
        Option.bind (rF a2) fun (a3 : qb) =>
        none
      else none
    else some (Sum.inr ())
theorem q3y (fu : Nat) (rF rF2 : qb → Option qb) (hF : ∀ y, qk (rF y) (rF2 y)) (n : qb) (b1_Kind b1_N b1_Min : Int) (t14 : List qb) (t15 t16 : Int) : ∀ x, qk (JJ fu rF n b1_Kind b1_N b1_Min t14 t15 t16 x) (zY rF2 n b1_Kind b1_N b1_Min t14 t15 t16 x) := by
  rintro ⟨⟩
  unfold JJ zY
  try dsimp only
  repeat (first
    | with_reducible exact qk.refl _
    | with_reducible exact qk.none _
    | exact hF _
    | with_reducible refine qk.bind ?_ (fun _ => ?_)
    | with_reducible refine qk.ite ?_ ?_
    | with_reducible refine qk.sum (fun _ => ?_) (fun _ => ?_)
    | with_reducible refine qk.lim (fun _ => ?_))
noncomputable def Qt (rF : qb → Option qb) : qb → Option qb
  | n =>
    Option.bind (qC n.Set) fun (a2 : Unit) =>
    Option.bind (qX n.L) fun (a3 : Sum Unit Unit) =>
    Sum.elim (fun (a4 : Unit) => Option.bind (qQ (Q4 rF n.Kind n.N n.Min n.Set 0 0 0 ((n.L.length : Nat) : Int)) (n.L, 0)) fun (a6 : List qb) =>
      some (qb.mk n.Kind n.N n.Min n.Set a6)) (fun (a5 : Unit) => Option.bind (qQ (zY rF n 0 0 0 n.L ((n.L.length : Nat) : Int) 0) Unit.unit) fun (a7 : Unit) =>
      some n) a3
theorem q2C : q4n 37 0 zw Q6 Qt := by
  intro rE rF hF hM hR n
  show q6a rE 37 0 [R.agg [dI n.Kind, dI n.N, dI n.Min, dL 2 qe n.Set, dL 5 qg n.L]] [] = _
  have hF' : ∀ (n_Kind n_N n_Min : Int) (n_Set : List qc) (n_L : List qb), rE (.fn 37) 0 [R.agg [dI n_Kind, dI n_N, dI n_Min, dL 2 qe n_Set, dL 5 qg n_L]] [] = (rF (qb.mk n_Kind n_N n_Min n_Set n_L)).bind (fun e => some (R.agg [dI e.Kind, dI e.N, dI e.Min, dL 2 qe e.Set, dL 5 qg e.L], [])) := fun n_Kind n_N n_Min n_Set n_L => hF (qb.mk n_Kind n_N n_Min n_Set n_L)
  rw [q1h qq6 qtk]
  have := qqt; have := @ZM; have := @Jp; have := q4t rE rF hF hM hR; have := q3j rE rF hF hM hR; have := @Qt.eq_1; have := @Q6.eq_1; exact gA
theorem q0H : ∀ x y, zw x = zw y → x = y := by
  rintro ⟨a_0, a_1, a_2, a_3, a_4⟩ ⟨b_0, b_1, b_2, b_3, b_4⟩ h
  simp only [zw, Prod.mk.injEq, List.cons.injEq, R.c.injEq, R.agg.injEq, R.tup.injEq, C.d.injEq, C.own.injEq, C.ptr.injEq, C.eptr.injEq, D.int.injEq, D.bool.injEq, D.str.injEq, D.sl.injEq, B.blk.injEq, B.row.injEq, ZD, JY, ZK, J4, Jm, q0W, ZG, q1j, true_and, and_true, List.nil_append] at h
  simp only [h]
theorem q4V : ∀ x y, Q6 x = Q6 y → x = y := by
  rintro ⟨a_0, a_1, a_2, a_3, a_4⟩ ⟨b_0, b_1, b_2, b_3, b_4⟩ h
  simp only [Q6, Prod.mk.injEq, List.cons.injEq, R.c.injEq, R.agg.injEq, R.tup.injEq, C.d.injEq, C.own.injEq, C.ptr.injEq, C.eptr.injEq, D.int.injEq, D.bool.injEq, D.str.injEq, D.sl.injEq, B.blk.injEq, B.row.injEq, ZD, JY, ZK, J4, Jm, q0W, ZG, q1j, true_and, and_true, List.nil_append] at h
  simp only [h]
noncomputable def Qm : qb → Option qb := q4N 37 0 zw Q6
theorem q2B (x : qb) : Qm x = Qt Qm x := q8p qqX.2.2.2 q0H q4V q2C x
theorem q6c (n : qb) : ev 37 0 [R.agg [dI n.Kind, dI n.N, dI n.Min, dL 2 qe n.Set, dL 5 qg n.L]] [] = (Qm n).bind (fun (e : qb) => some (R.agg [dI e.Kind, dI e.N, dI e.Min, dL 2 qe e.Set, dL 5 qg e.L], [])) := (q5W qqX.2.2.2 q0H q2C n)
theorem q7v : ∀ (n_Kind n_N n_Min : Int) (n_Set : List qc) (n_L : List qb), ev 37 0 [R.agg [dI n_Kind, dI n_N, dI n_Min, dL 2 qe n_Set, dL 5 qg n_L]] [] = (Qm (qb.mk n_Kind n_N n_Min n_Set n_L)).bind (fun (e : qb) => some (R.agg [dI e.Kind, dI e.N, dI e.Min, dL 2 qe e.Set, dL 5 qg e.L], [])) :=
  fun n_Kind n_N n_Min n_Set n_L => q6c (qb.mk n_Kind n_N n_Min n_Set n_L)
noncomputable def JI (fu : Nat) (rF : qb → Option qb) : qb → Option qb
  | n =>
    Option.bind (qC n.Set) fun (a2 : Unit) =>
    Option.bind (qX n.L) fun (a3 : Sum Unit Unit) =>
    Sum.elim (fun (a4 : Unit) => Option.bind (itT (q0w fu rF n.Kind n.N n.Min n.Set 0 0 0 ((n.L.length : Nat) : Int)) fu (n.L, 0)) fun (a6 : List qb) =>
      some (qb.mk n.Kind n.N n.Min n.Set a6)) (fun (a5 : Unit) => Option.bind (itT (JJ fu rF n 0 0 0 n.L ((n.L.length : Nat) : Int) 0) fu Unit.unit) fun (a7 : Unit) =>
      some n) a3
theorem q3H (fu : Nat) (rF rF2 : qb → Option qb) (hF : ∀ y, qk (rF y) (rF2 y)) : ∀ x, qk (JI fu rF x) (Qt rF2 x) := by
  rintro n
  unfold JI Qt
  try dsimp only
  repeat (first
    | with_reducible exact qk.refl _
    | with_reducible exact qk.none _
    | exact hF _
    | (with_reducible refine q4G _ _ _ hF ..)
    | (with_reducible refine q3y _ _ _ hF ..)
    | with_reducible refine qk.bind ?_ (fun _ => ?_)
    | with_reducible refine qk.ite ?_ ?_
    | with_reducible refine qk.sum (fun _ => ?_) (fun _ => ?_)
    | with_reducible refine qk.lim (fun _ => ?_))
noncomputable def q5g (fu : Nat) (x : qb) : Option qb := itR (JI fu) fu x
theorem q7m (fu : Nat) (x : qb) : qk (q5g fu x) (Qm x) := qk.rec q2B (q3H fu) fu x
noncomputable def zt (t14 : List qb) (t15 : Int) : (List qb × Int) → Option ((List qb × Int) ⊕ (List qb))
  | (leaves, t16) =>
    if t16 < t15 then if 0 ≤ t16 ∧ t16 < ((t14.length : Nat) : Int) then Option.bind t14[Int.toNat t16]? fun (a : qb) =>
        if Zq a = Bool.true then Option.bind (Qm a) fun (a2 : qb) =>
          if leaves.length + 1 ≤ Go.maxLen ∧ (leaves.length + 1) * 72 ≤ 140737488355328 then some (Sum.inl (leaves ++ [a2], w64 (t16 + 1)))
          else none
        else some (Sum.inl (leaves, w64 (t16 + 1)))
      else none
    else some (Sum.inr leaves)
theorem q4y : ∀ (leaves t14 : List qb) (t15 t16 : Int) (leaves_len : Nat), leaves_len = leaves.length → XL2 evo 14 0 3 ⟨[(2, rO 0 5 leaves_len), (14, rL 5 qg t14), (15, rI t15), (16, rI t16)], [(0, bR 31 5 qg leaves)], 1, 29⟩ = (qQ (zt t14 t15) (leaves, t16)).bind (fun (e : List qb) => some (Go.Exit.exit 0, ⟨[(2, rO 0 5 e.length)], [(0, bR 31 5 qg e)], 1, 29⟩)) :=
  by
  intro leaves t14 t15 t16 leaves_len h0
  subst h0
  revert t16; revert leaves; exact q92 qp4 qpF (fun e => by exact ⟨_, rfl, fun h => by cases h⟩) fun leaves t16 => by
    have := qsj; have := @qeQ.eq_1; have := @q8V; have := @q7v; have := @zt.eq_1; exact gA
theorem q2F : ∀  (t14 : List qb) (t15 t16 : Int), XL2 evo 14 0 3 ⟨[(2, rO 0 5 0), (14, rL 5 qg t14), (15, rI t15), (16, rI t16)], [(0, B.row 31 5 [])], 1, 29⟩ = (qQ (zt t14 t15) ([], t16)).bind (fun (e : List qb) => some (Go.Exit.exit 0, ⟨[(2, rO 0 5 e.length)], [(0, bR 31 5 qg e)], 1, 29⟩)) := by
  intro t14 t15 t16; have h := q4y [] t14 t15 t16 _ rfl
  first
    | exact h
    | (simp only [rL, dL, bR, bZ, Nat.reduceAdd] at h; exact h)
noncomputable def q0C (fu : Nat) (t14 : List qb) (t15 : Int) : (List qb × Int) → Option ((List qb × Int) ⊕ (List qb))
  | (leaves, t16) =>
    if t16 < t15 then if 0 ≤ t16 ∧ t16 < ((t14.length : Nat) : Int) then Option.bind t14[Int.toNat t16]? fun (a : qb) =>
        if Zq a = Bool.true then Option.bind (q5g fu a) fun (a2 : qb) =>
          if leaves.length + 1 ≤ Go.maxLen ∧ (leaves.length + 1) * 72 ≤ 140737488355328 then some (Sum.inl (leaves ++ [a2], w64 (t16 + 1)))
          else none
        else some (Sum.inl (leaves, w64 (t16 + 1)))
      else none
    else some (Sum.inr leaves)
theorem q4B (fu : Nat) (t14 : List qb) (t15 : Int) : ∀ x, qk (q0C fu t14 t15 x) (zt t14 t15 x) := by
  rintro ⟨leaves, t16⟩
  unfold q0C zt
  try dsimp only
  repeat (first
    | with_reducible exact qk.refl _
    | with_reducible exact qk.none _
    | with_reducible apply q7m
    | with_reducible refine qk.bind ?_ (fun _ => ?_)
    | with_reducible refine qk.ite ?_ ?_
    | with_reducible refine qk.sum (fun _ => ?_) (fun _ => ?_)
    | with_reducible refine qk.lim (fun _ => ?_))
noncomputable def QO (n : qb) : Option (List qb) :=
  Option.bind (ZN n) fun (a : Prod (List qb) (Prod Int Bool)) =>
  Option.bind (qQ (zt a.1 ((a.1.length : Nat) : Int)) ([], 0)) fun (a2 : List qb) =>
  some a2
theorem q2y : ∀ (n_Kind n_N n_Min : Int) (n_Set : List qc) (n_L : List qb), ev 14 0 [R.agg [dI n_Kind, dI n_N, dI n_Min, dL 2 qe n_Set, dL 5 qg n_L]] [] = (QO (qb.mk n_Kind n_N n_Min n_Set n_L)).bind (fun (e : List qb) => some (rL 5 qg e, [])) :=
  fun n_Kind n_N n_Min n_Set n_L => by
    rw [qA qqg qsq.2.2.2 qtU]
    have := qsj; have := @q4k; have := @q2F; have := @QO.eq_1; exact gA
noncomputable def q0O (fu : Nat) (n : qb) : Option (List qb) :=
  Option.bind (q2l fu n) fun (a : Prod (List qb) (Prod Int Bool)) =>
  Option.bind (itT (q0C fu a.1 ((a.1.length : Nat) : Int)) fu ([], 0)) fun (a2 : List qb) =>
  some a2
theorem q2s (fu : Nat) (n : qb) : qk (q0O fu n) (QO n) := by
  unfold q0O QO
  repeat (first
    | with_reducible exact qk.refl _
    | with_reducible exact qk.none _
    | with_reducible apply q4g
    | with_reducible apply q4B
    | with_reducible refine qk.bind ?_ (fun _ => ?_)
    | with_reducible refine qk.ite ?_ ?_
    | with_reducible refine qk.sum (fun _ => ?_) (fun _ => ?_)
    | with_reducible refine qk.lim (fun _ => ?_))
noncomputable def QP (n : qb) : Option Int :=
  Option.bind (ZN n) fun (a : Prod (List qb) (Prod Int Bool)) =>
  if (!a.2.2) = Bool.true then some 2
  else if 24 < ((a.1.length : Nat) : Int) then some 2
  else if 5 < a.2.1 then some 2
  else Option.bind (QO n) fun (a2 : List qb) =>
  if (!(qG ((a2.length : Nat) : Int) 1 8)) = Bool.true then some 2
  else Option.bind (qQ (zX a.1 ((a.1.length : Nat) : Int)) 0) fun (a3 : Sum Int Unit) =>
  Sum.elim (fun (a4 : Int) => some a4) (fun (a5 : Unit) => some 0) a3
theorem q3v : ∀ (n_Kind n_N n_Min : Int) (n_Set : List qc) (n_L : List qb), ev 21 0 [R.agg [dI n_Kind, dI n_N, dI n_Min, dL 2 qe n_Set, dL 5 qg n_L]] [] = (QP (qb.mk n_Kind n_N n_Min n_Set n_L)).bind (fun (e : Int) => some (rI e, [])) :=
  fun n_Kind n_N n_Min n_Set n_L => by
    rw [qA qql qsz.2.2.2 qtl]
    have := qtQ; have := @q4k; have := @q2y; have := @Zw; have := @q8H; have := @q5U; have := @QP.eq_1; exact gA
noncomputable def q1l (fu : Nat) (n : qb) : Option Int :=
  Option.bind (q2l fu n) fun (a : Prod (List qb) (Prod Int Bool)) =>
  if (!a.2.2) = Bool.true then some 2
  else if 24 < ((a.1.length : Nat) : Int) then some 2
  else if 5 < a.2.1 then some 2
  else Option.bind (q0O fu n) fun (a2 : List qb) =>
  if (!(qG ((a2.length : Nat) : Int) 1 8)) = Bool.true then some 2
  else Option.bind (itT (q0Y fu a.1 ((a.1.length : Nat) : Int)) fu 0) fun (a3 : Sum Int Unit) =>
  Sum.elim (fun (a4 : Int) => some a4) (fun (a5 : Unit) => some 0) a3
theorem q3i (fu : Nat) (n : qb) : qk (q1l fu n) (QP n) := by
  unfold q1l QP
  repeat (first
    | with_reducible exact qk.refl _
    | with_reducible exact qk.none _
    | with_reducible apply q4g
    | with_reducible apply q2s
    | with_reducible apply q59
    | with_reducible refine qk.bind ?_ (fun _ => ?_)
    | with_reducible refine qk.ite ?_ ?_
    | with_reducible refine qk.sum (fun _ => ?_) (fun _ => ?_)
    | with_reducible refine qk.lim (fun _ => ?_))
noncomputable def Z8 (n : qb) (s : qd) (l : List qa) : Option (List Bool × Int) :=
  Option.bind (QP n) fun (a : Int) =>
  if (a != 0) = Bool.true then some ([], a)
  else if 10 < ((l.length : Nat) : Int) then some ([], 2)
  else Option.bind (q07 n s l) fun (a2 : List Bool) =>
  some (a2, 0)
theorem q2q : ∀ (n_Kind n_N n_Min : Int) (n_Set : List qc) (n_L : List qb) (s_Worst s_Best s_Pass : Int) (l : List qa), ev 10 0 [R.agg [dI n_Kind, dI n_N, dI n_Min, dL 2 qe n_Set, dL 5 qg n_L], R.agg [dI s_Worst, dI s_Best, dI s_Pass], rL 8 qf l] [] = (Z8 (qb.mk n_Kind n_N n_Min n_Set n_L) (qd.mk s_Worst s_Best s_Pass) l).bind (fun (e : List Bool × Int) => some (R.tup [rL 1 eB e.1, rI e.2], [])) :=
  fun n_Kind n_N n_Min n_Set n_L s_Worst s_Best s_Pass l => by
    rw [qA qrz qt9.2.2.2 qw0]
    have := qul; have := @q3v; have := @q8T; have := @Z8.eq_1; exact gA
theorem q7j : ∀ (l0_Course_School : Int) (l0_Course_Code : ByteArray) (l0_Credits l0_Grade l0_Day l0_Bundle l1_Course_School : Int) (l1_Course_Code : ByteArray) (l1_Credits l1_Grade l1_Day l1_Bundle l2_Course_School : Int) (l2_Course_Code : ByteArray) (l2_Credits l2_Grade l2_Day l2_Bundle n_Kind n_N n_Min : Int) (n_Set : List qc) (n_L : List qb) (s_Worst s_Best s_Pass : Int), ev 10 0 [R.agg [dI n_Kind, dI n_N, dI n_Min, dL 2 qe n_Set, dL 5 qg n_L], R.agg [dI s_Worst, dI s_Best, dI s_Pass], R.c (C.d (D.sl 8 3 [D.int .i64 l0_Course_School, D.str l0_Course_Code, D.int .i64 l0_Credits, D.int .i64 l0_Grade, D.int .i64 l0_Day, D.sl 1 0 [], D.int .i64 l0_Bundle, D.sl 1 0 [], D.int .i64 l1_Course_School, D.str l1_Course_Code, D.int .i64 l1_Credits, D.int .i64 l1_Grade, D.int .i64 l1_Day, D.sl 1 0 [], D.int .i64 l1_Bundle, D.sl 1 0 [], D.int .i64 l2_Course_School, D.str l2_Course_Code, D.int .i64 l2_Credits, D.int .i64 l2_Grade, D.int .i64 l2_Day, D.sl 1 0 [], D.int .i64 l2_Bundle, D.sl 1 0 []]))] [] = (Z8 (qb.mk n_Kind n_N n_Min n_Set n_L) (qd.mk s_Worst s_Best s_Pass) [(qa.mk (qc.mk l0_Course_School l0_Course_Code) l0_Credits l0_Grade l0_Day [] l0_Bundle []), (qa.mk (qc.mk l1_Course_School l1_Course_Code) l1_Credits l1_Grade l1_Day [] l1_Bundle []), (qa.mk (qc.mk l2_Course_School l2_Course_Code) l2_Credits l2_Grade l2_Day [] l2_Bundle [])]).bind (fun (e : List Bool × Int) => some (R.tup [rL 1 eB e.1, rI e.2], [])) := by
  intro l0_Course_School l0_Course_Code l0_Credits l0_Grade l0_Day l0_Bundle l1_Course_School l1_Course_Code l1_Credits l1_Grade l1_Day l1_Bundle l2_Course_School l2_Course_Code l2_Credits l2_Grade l2_Day l2_Bundle n_Kind n_N n_Min n_Set n_L s_Worst s_Best s_Pass; have h := q2q ((qb.mk n_Kind n_N n_Min n_Set n_L)).Kind ((qb.mk n_Kind n_N n_Min n_Set n_L)).N ((qb.mk n_Kind n_N n_Min n_Set n_L)).Min ((qb.mk n_Kind n_N n_Min n_Set n_L)).Set ((qb.mk n_Kind n_N n_Min n_Set n_L)).L ((qd.mk s_Worst s_Best s_Pass)).Worst ((qd.mk s_Worst s_Best s_Pass)).Best ((qd.mk s_Worst s_Best s_Pass)).Pass [(qa.mk (qc.mk l0_Course_School l0_Course_Code) l0_Credits l0_Grade l0_Day [] l0_Bundle []), (qa.mk (qc.mk l1_Course_School l1_Course_Code) l1_Credits l1_Grade l1_Day [] l1_Bundle []), (qa.mk (qc.mk l2_Course_School l2_Course_Code) l2_Credits l2_Grade l2_Day [] l2_Bundle [])]
  first
    | exact h
    | (simp only [rL, dL, bR, bZ, Nat.reduceAdd] at h; exact h)
noncomputable def q3R (fu : Nat) (n : qb) (s : qd) (l : List qa) : Option (List Bool × Int) :=
  Option.bind (q1l fu n) fun (a : Int) =>
  if (a != 0) = Bool.true then some ([], a)
  else if 10 < ((l.length : Nat) : Int) then some ([], 2)
  else Option.bind (q4u fu n s l) fun (a2 : List Bool) =>
  some (a2, 0)
theorem q5m (fu : Nat) (n : qb) (s : qd) (l : List qa) : qk (q3R fu n s l) (Z8 n s l) := by
  unfold q3R Z8
  repeat (first
    | with_reducible exact qk.refl _
    | with_reducible exact qk.none _
    | with_reducible apply q3i
    | with_reducible apply q9b
    | with_reducible refine qk.bind ?_ (fun _ => ?_)
    | with_reducible refine qk.ite ?_ ?_
    | with_reducible refine qk.sum (fun _ => ?_) (fun _ => ?_)
    | with_reducible refine qk.lim (fun _ => ?_))
noncomputable def zh (x0 : qb) (x1 : qd) (x2 : List qa) (x3 : Int) : Option (List Int × Bool) :=
  Option.bind (Z8 x0 x1 x2) fun (a : Prod (List Bool) Int) =>
  if (a.2 != 0) = Bool.true then some ([], Bool.false)
  else if x3 < 0 then some ([], Bool.false)
  else if ((a.1.length : Nat) : Int) ≤ x3 then some ([], Bool.false)
  else if 0 ≤ x3 ∧ x3 < ((a.1.length : Nat) : Int) then Option.bind a.1[Int.toNat x3]? fun (a2 : Bool) =>
    if (!a2) = Bool.true then some ([], Bool.false)
    else if 0 ≤ ((x2.length : Nat) : Int) ∧ 8 * ((x2.length : Nat) : Int) ≤ 281474976710656 ∧ ((x2.length : Nat) : Int) ≤ 9223372036854775807 then Option.bind (qQ (zF x0 x1 x2 x3 ((x2.length : Nat) : Int)) ([], ([], 0))) fun (a3 : List Int) =>
      some (a3, Bool.true)
    else none
  else none
theorem q12 : ∀ (x0_Kind x0_N x0_Min : Int) (x0_Set : List qc) (x0_L : List qb) (x1_Worst x1_Best x1_Pass : Int) (x2 : List qa) (x3 : Int), ev 11 0 [R.agg [dI x0_Kind, dI x0_N, dI x0_Min, dL 2 qe x0_Set, dL 5 qg x0_L], R.agg [dI x1_Worst, dI x1_Best, dI x1_Pass], rL 8 qf x2, rI x3] [] = (zh (qb.mk x0_Kind x0_N x0_Min x0_Set x0_L) (qd.mk x1_Worst x1_Best x1_Pass) x2 x3).bind (fun (e : List Int × Bool) => some (R.tup [rL 1 eI e.1, rB e.2], [])) :=
  fun x0_Kind x0_N x0_Min x0_Set x0_L x1_Worst x1_Best x1_Pass x2 x3 => by
    rw [qA qmQ qt2.2.2.2 qrs]
    have := qse; have := @q2q; have := @q3F; have := @zh.eq_1; exact gA
theorem q5l : ∀ (x0_Kind x0_N x0_Min x0_L0_Kind x0_L0_N x0_L0_Min x0_L0_Set0_School : Int) (x0_L0_Set0_Code : ByteArray) (x0_L1_Kind x0_L1_N x0_L1_Min x0_L1_Set0_School : Int) (x0_L1_Set0_Code : ByteArray) (x0_L1_Set1_School : Int) (x0_L1_Set1_Code : ByteArray) (x20_Course_School : Int) (x20_Course_Code : ByteArray) (x20_Credits x20_Grade x20_Day x20_Bundle x21_Course_School : Int) (x21_Course_Code : ByteArray) (x21_Credits x21_Grade x21_Day x21_Bundle x22_Course_School : Int) (x22_Course_Code : ByteArray) (x22_Credits x22_Grade x22_Day x22_Bundle x1_Worst x1_Best x1_Pass x3 : Int), ev 11 0 [R.agg [dI x0_Kind, dI x0_N, dI x0_Min, C.d (D.sl 2 0 []), C.d (D.sl 5 2 [D.int .i64 x0_L0_Kind, D.int .i64 x0_L0_N, D.int .i64 x0_L0_Min, D.sl 2 1 [D.int .i64 x0_L0_Set0_School, D.str x0_L0_Set0_Code], D.sl 5 0 [], D.int .i64 x0_L1_Kind, D.int .i64 x0_L1_N, D.int .i64 x0_L1_Min, D.sl 2 2 [D.int .i64 x0_L1_Set0_School, D.str x0_L1_Set0_Code, D.int .i64 x0_L1_Set1_School, D.str x0_L1_Set1_Code], D.sl 5 0 []])], R.agg [dI x1_Worst, dI x1_Best, dI x1_Pass], R.c (C.d (D.sl 8 3 [D.int .i64 x20_Course_School, D.str x20_Course_Code, D.int .i64 x20_Credits, D.int .i64 x20_Grade, D.int .i64 x20_Day, D.sl 1 0 [], D.int .i64 x20_Bundle, D.sl 1 0 [], D.int .i64 x21_Course_School, D.str x21_Course_Code, D.int .i64 x21_Credits, D.int .i64 x21_Grade, D.int .i64 x21_Day, D.sl 1 0 [], D.int .i64 x21_Bundle, D.sl 1 0 [], D.int .i64 x22_Course_School, D.str x22_Course_Code, D.int .i64 x22_Credits, D.int .i64 x22_Grade, D.int .i64 x22_Day, D.sl 1 0 [], D.int .i64 x22_Bundle, D.sl 1 0 []])), rI x3] [] = (zh (qb.mk x0_Kind x0_N x0_Min [] [(qb.mk x0_L0_Kind x0_L0_N x0_L0_Min [(qc.mk x0_L0_Set0_School x0_L0_Set0_Code)] []), (qb.mk x0_L1_Kind x0_L1_N x0_L1_Min [(qc.mk x0_L1_Set0_School x0_L1_Set0_Code), (qc.mk x0_L1_Set1_School x0_L1_Set1_Code)] [])]) (qd.mk x1_Worst x1_Best x1_Pass) [(qa.mk (qc.mk x20_Course_School x20_Course_Code) x20_Credits x20_Grade x20_Day [] x20_Bundle []), (qa.mk (qc.mk x21_Course_School x21_Course_Code) x21_Credits x21_Grade x21_Day [] x21_Bundle []), (qa.mk (qc.mk x22_Course_School x22_Course_Code) x22_Credits x22_Grade x22_Day [] x22_Bundle [])] x3).bind (fun (e : List Int × Bool) => some (R.tup [rL 1 eI e.1, rB e.2], [])) := by
  intro x0_Kind x0_N x0_Min x0_L0_Kind x0_L0_N x0_L0_Min x0_L0_Set0_School x0_L0_Set0_Code x0_L1_Kind x0_L1_N x0_L1_Min x0_L1_Set0_School x0_L1_Set0_Code x0_L1_Set1_School x0_L1_Set1_Code x20_Course_School x20_Course_Code x20_Credits x20_Grade x20_Day x20_Bundle x21_Course_School x21_Course_Code x21_Credits x21_Grade x21_Day x21_Bundle x22_Course_School x22_Course_Code x22_Credits x22_Grade x22_Day x22_Bundle x1_Worst x1_Best x1_Pass x3; have h := q12 ((qb.mk x0_Kind x0_N x0_Min [] [(qb.mk x0_L0_Kind x0_L0_N x0_L0_Min [(qc.mk x0_L0_Set0_School x0_L0_Set0_Code)] []), (qb.mk x0_L1_Kind x0_L1_N x0_L1_Min [(qc.mk x0_L1_Set0_School x0_L1_Set0_Code), (qc.mk x0_L1_Set1_School x0_L1_Set1_Code)] [])])).Kind ((qb.mk x0_Kind x0_N x0_Min [] [(qb.mk x0_L0_Kind x0_L0_N x0_L0_Min [(qc.mk x0_L0_Set0_School x0_L0_Set0_Code)] []), (qb.mk x0_L1_Kind x0_L1_N x0_L1_Min [(qc.mk x0_L1_Set0_School x0_L1_Set0_Code), (qc.mk x0_L1_Set1_School x0_L1_Set1_Code)] [])])).N ((qb.mk x0_Kind x0_N x0_Min [] [(qb.mk x0_L0_Kind x0_L0_N x0_L0_Min [(qc.mk x0_L0_Set0_School x0_L0_Set0_Code)] []), (qb.mk x0_L1_Kind x0_L1_N x0_L1_Min [(qc.mk x0_L1_Set0_School x0_L1_Set0_Code), (qc.mk x0_L1_Set1_School x0_L1_Set1_Code)] [])])).Min ((qb.mk x0_Kind x0_N x0_Min [] [(qb.mk x0_L0_Kind x0_L0_N x0_L0_Min [(qc.mk x0_L0_Set0_School x0_L0_Set0_Code)] []), (qb.mk x0_L1_Kind x0_L1_N x0_L1_Min [(qc.mk x0_L1_Set0_School x0_L1_Set0_Code), (qc.mk x0_L1_Set1_School x0_L1_Set1_Code)] [])])).Set ((qb.mk x0_Kind x0_N x0_Min [] [(qb.mk x0_L0_Kind x0_L0_N x0_L0_Min [(qc.mk x0_L0_Set0_School x0_L0_Set0_Code)] []), (qb.mk x0_L1_Kind x0_L1_N x0_L1_Min [(qc.mk x0_L1_Set0_School x0_L1_Set0_Code), (qc.mk x0_L1_Set1_School x0_L1_Set1_Code)] [])])).L ((qd.mk x1_Worst x1_Best x1_Pass)).Worst ((qd.mk x1_Worst x1_Best x1_Pass)).Best ((qd.mk x1_Worst x1_Best x1_Pass)).Pass [(qa.mk (qc.mk x20_Course_School x20_Course_Code) x20_Credits x20_Grade x20_Day [] x20_Bundle []), (qa.mk (qc.mk x21_Course_School x21_Course_Code) x21_Credits x21_Grade x21_Day [] x21_Bundle []), (qa.mk (qc.mk x22_Course_School x22_Course_Code) x22_Credits x22_Grade x22_Day [] x22_Bundle [])] x3
  first
    | exact h
    | (simp only [rL, dL, bR, bZ, Nat.reduceAdd] at h; exact h)
noncomputable def q0o (fu : Nat) (x0 : qb) (x1 : qd) (x2 : List qa) (x3 : Int) : Option (List Int × Bool) :=
  Option.bind (q3R fu x0 x1 x2) fun (a : Prod (List Bool) Int) =>
  if (a.2 != 0) = Bool.true then some ([], Bool.false)
  else if x3 < 0 then some ([], Bool.false)
  else if ((a.1.length : Nat) : Int) ≤ x3 then some ([], Bool.false)
  else if 0 ≤ x3 ∧ x3 < ((a.1.length : Nat) : Int) then Option.bind a.1[Int.toNat x3]? fun (a2 : Bool) =>
    if (!a2) = Bool.true then some ([], Bool.false)
    else if 0 ≤ ((x2.length : Nat) : Int) ∧ 8 * ((x2.length : Nat) : Int) ≤ 281474976710656 ∧ ((x2.length : Nat) : Int) ≤ 9223372036854775807 then Option.bind (itT (q0V fu x0 x1 x2 x3 ((x2.length : Nat) : Int)) fu ([], ([], 0))) fun (a3 : List Int) =>
      some (a3, Bool.true)
    else none
  else none
theorem q86 (fu : Nat) (x0 : qb) (x1 : qd) (x2 : List qa) (x3 : Int) : qk (q0o fu x0 x1 x2 x3) (zh x0 x1 x2 x3) := by
  unfold q0o zh
  repeat (first
    | with_reducible exact qk.refl _
    | with_reducible exact qk.none _
    | with_reducible apply q5m
    | with_reducible apply q5j
    | with_reducible refine qk.bind ?_ (fun _ => ?_)
    | with_reducible refine qk.ite ?_ ?_
    | with_reducible refine qk.sum (fun _ => ?_) (fun _ => ?_)
    | with_reducible refine qk.lim (fun _ => ?_))
noncomputable def QY (n : qb) (s : qd) (l : List qa) (list : List Int) : Option Bool :=
  Option.bind (QO n) fun (a : List qb) =>
  Option.bind (QP n) fun (a2 : Int) =>
  if (a2 != 0) = Bool.true then some Bool.false
  else if (((list.length : Nat) : Int) != ((l.length : Nat) : Int)) = Bool.true then some Bool.false
  else Option.bind (qD list ((a.length : Nat) : Int)) fun (a3 : Bool) =>
  if a3 = Bool.true then some Bool.false
  else Option.bind (QF (n, (s, (l, (list, 0))))) fun (a4 : Prod Bool (Prod Bool (Prod qd (Prod (List qa) (Prod (List Int) Int))))) =>
  some a4.2.1
theorem q4h : ∀ (n_Kind n_N n_Min : Int) (n_Set : List qc) (n_L : List qb) (s_Worst s_Best s_Pass : Int) (l : List qa) (list : List Int), ev 12 0 [R.agg [dI n_Kind, dI n_N, dI n_Min, dL 2 qe n_Set, dL 5 qg n_L], R.agg [dI s_Worst, dI s_Best, dI s_Pass], rL 8 qf l, rL 1 eI list] [] = (QY (qb.mk n_Kind n_N n_Min n_Set n_L) (qd.mk s_Worst s_Best s_Pass) l list).bind (fun (e : Bool) => some (rB e, [])) :=
  fun n_Kind n_N n_Min n_Set n_L s_Worst s_Best s_Pass l list => by
    rw [qA qqY qta.2.2.2 qvV]
    have := qvb; have := @q2y; have := @q3v; have := @Jw; have := @q7c; have := @QY.eq_1; exact gA
theorem q6I : ∀ (n_Kind n_N n_Min n_L0_Kind n_L0_N n_L0_Min n_L0_Set0_School : Int) (n_L0_Set0_Code : ByteArray) (n_L1_Kind n_L1_N n_L1_Min n_L1_Set0_School : Int) (n_L1_Set0_Code : ByteArray) (n_L1_Set1_School : Int) (n_L1_Set1_Code : ByteArray) (l0_Course_School : Int) (l0_Course_Code : ByteArray) (l0_Credits l0_Grade l0_Day l0_Bundle l1_Course_School : Int) (l1_Course_Code : ByteArray) (l1_Credits l1_Grade l1_Day l1_Bundle l2_Course_School : Int) (l2_Course_Code : ByteArray) (l2_Credits l2_Grade l2_Day l2_Bundle list0 list1 list2 s_Worst s_Best s_Pass : Int), ev 12 0 [R.agg [dI n_Kind, dI n_N, dI n_Min, C.d (D.sl 2 0 []), C.d (D.sl 5 2 [D.int .i64 n_L0_Kind, D.int .i64 n_L0_N, D.int .i64 n_L0_Min, D.sl 2 1 [D.int .i64 n_L0_Set0_School, D.str n_L0_Set0_Code], D.sl 5 0 [], D.int .i64 n_L1_Kind, D.int .i64 n_L1_N, D.int .i64 n_L1_Min, D.sl 2 2 [D.int .i64 n_L1_Set0_School, D.str n_L1_Set0_Code, D.int .i64 n_L1_Set1_School, D.str n_L1_Set1_Code], D.sl 5 0 []])], R.agg [dI s_Worst, dI s_Best, dI s_Pass], R.c (C.d (D.sl 8 3 [D.int .i64 l0_Course_School, D.str l0_Course_Code, D.int .i64 l0_Credits, D.int .i64 l0_Grade, D.int .i64 l0_Day, D.sl 1 0 [], D.int .i64 l0_Bundle, D.sl 1 0 [], D.int .i64 l1_Course_School, D.str l1_Course_Code, D.int .i64 l1_Credits, D.int .i64 l1_Grade, D.int .i64 l1_Day, D.sl 1 0 [], D.int .i64 l1_Bundle, D.sl 1 0 [], D.int .i64 l2_Course_School, D.str l2_Course_Code, D.int .i64 l2_Credits, D.int .i64 l2_Grade, D.int .i64 l2_Day, D.sl 1 0 [], D.int .i64 l2_Bundle, D.sl 1 0 []])), R.c (C.d (D.sl 1 3 [D.int .i64 list0, D.int .i64 list1, D.int .i64 list2]))] [] = (QY (qb.mk n_Kind n_N n_Min [] [(qb.mk n_L0_Kind n_L0_N n_L0_Min [(qc.mk n_L0_Set0_School n_L0_Set0_Code)] []), (qb.mk n_L1_Kind n_L1_N n_L1_Min [(qc.mk n_L1_Set0_School n_L1_Set0_Code), (qc.mk n_L1_Set1_School n_L1_Set1_Code)] [])]) (qd.mk s_Worst s_Best s_Pass) [(qa.mk (qc.mk l0_Course_School l0_Course_Code) l0_Credits l0_Grade l0_Day [] l0_Bundle []), (qa.mk (qc.mk l1_Course_School l1_Course_Code) l1_Credits l1_Grade l1_Day [] l1_Bundle []), (qa.mk (qc.mk l2_Course_School l2_Course_Code) l2_Credits l2_Grade l2_Day [] l2_Bundle [])] [list0, list1, list2]).bind (fun (e : Bool) => some (rB e, [])) := by
  intro n_Kind n_N n_Min n_L0_Kind n_L0_N n_L0_Min n_L0_Set0_School n_L0_Set0_Code n_L1_Kind n_L1_N n_L1_Min n_L1_Set0_School n_L1_Set0_Code n_L1_Set1_School n_L1_Set1_Code l0_Course_School l0_Course_Code l0_Credits l0_Grade l0_Day l0_Bundle l1_Course_School l1_Course_Code l1_Credits l1_Grade l1_Day l1_Bundle l2_Course_School l2_Course_Code l2_Credits l2_Grade l2_Day l2_Bundle list0 list1 list2 s_Worst s_Best s_Pass; have h := q4h ((qb.mk n_Kind n_N n_Min [] [(qb.mk n_L0_Kind n_L0_N n_L0_Min [(qc.mk n_L0_Set0_School n_L0_Set0_Code)] []), (qb.mk n_L1_Kind n_L1_N n_L1_Min [(qc.mk n_L1_Set0_School n_L1_Set0_Code), (qc.mk n_L1_Set1_School n_L1_Set1_Code)] [])])).Kind ((qb.mk n_Kind n_N n_Min [] [(qb.mk n_L0_Kind n_L0_N n_L0_Min [(qc.mk n_L0_Set0_School n_L0_Set0_Code)] []), (qb.mk n_L1_Kind n_L1_N n_L1_Min [(qc.mk n_L1_Set0_School n_L1_Set0_Code), (qc.mk n_L1_Set1_School n_L1_Set1_Code)] [])])).N ((qb.mk n_Kind n_N n_Min [] [(qb.mk n_L0_Kind n_L0_N n_L0_Min [(qc.mk n_L0_Set0_School n_L0_Set0_Code)] []), (qb.mk n_L1_Kind n_L1_N n_L1_Min [(qc.mk n_L1_Set0_School n_L1_Set0_Code), (qc.mk n_L1_Set1_School n_L1_Set1_Code)] [])])).Min ((qb.mk n_Kind n_N n_Min [] [(qb.mk n_L0_Kind n_L0_N n_L0_Min [(qc.mk n_L0_Set0_School n_L0_Set0_Code)] []), (qb.mk n_L1_Kind n_L1_N n_L1_Min [(qc.mk n_L1_Set0_School n_L1_Set0_Code), (qc.mk n_L1_Set1_School n_L1_Set1_Code)] [])])).Set ((qb.mk n_Kind n_N n_Min [] [(qb.mk n_L0_Kind n_L0_N n_L0_Min [(qc.mk n_L0_Set0_School n_L0_Set0_Code)] []), (qb.mk n_L1_Kind n_L1_N n_L1_Min [(qc.mk n_L1_Set0_School n_L1_Set0_Code), (qc.mk n_L1_Set1_School n_L1_Set1_Code)] [])])).L ((qd.mk s_Worst s_Best s_Pass)).Worst ((qd.mk s_Worst s_Best s_Pass)).Best ((qd.mk s_Worst s_Best s_Pass)).Pass [(qa.mk (qc.mk l0_Course_School l0_Course_Code) l0_Credits l0_Grade l0_Day [] l0_Bundle []), (qa.mk (qc.mk l1_Course_School l1_Course_Code) l1_Credits l1_Grade l1_Day [] l1_Bundle []), (qa.mk (qc.mk l2_Course_School l2_Course_Code) l2_Credits l2_Grade l2_Day [] l2_Bundle [])] [list0, list1, list2]
  first
    | exact h
    | (simp only [rL, dL, bR, bZ, Nat.reduceAdd] at h; exact h)
noncomputable def q2p (fu : Nat) (n : qb) (s : qd) (l : List qa) (list : List Int) : Option Bool :=
  Option.bind (q0O fu n) fun (a : List qb) =>
  Option.bind (q1l fu n) fun (a2 : Int) =>
  if (a2 != 0) = Bool.true then some Bool.false
  else if (((list.length : Nat) : Int) != ((l.length : Nat) : Int)) = Bool.true then some Bool.false
  else Option.bind (Qe fu list ((a.length : Nat) : Int)) fun (a3 : Bool) =>
  if a3 = Bool.true then some Bool.false
  else Option.bind (q5M fu (n, (s, (l, (list, 0))))) fun (a4 : Prod Bool (Prod Bool (Prod qd (Prod (List qa) (Prod (List Int) Int))))) =>
  some a4.2.1
theorem q96 (fu : Nat) (n : qb) (s : qd) (l : List qa) (list : List Int) : qk (q2p fu n s l list) (QY n s l list) := by
  unfold q2p QY
  repeat (first
    | with_reducible exact qk.refl _
    | with_reducible exact qk.none _
    | with_reducible apply q2s
    | with_reducible apply q3i
    | with_reducible apply Jx
    | with_reducible apply q7G
    | with_reducible refine qk.bind ?_ (fun _ => ?_)
    | with_reducible refine qk.ite ?_ ?_
    | with_reducible refine qk.sum (fun _ => ?_) (fun _ => ?_)
    | with_reducible refine qk.lim (fun _ => ?_))
noncomputable def Q9 (n : qb) (want : List Int) : Option Bool :=
  Option.bind (Z8 n (qq 1) [qa.mk (qc.mk 1 (ByteArray.mk (List.toArray [65, 49]))) 5 60 0 [] 0 [], qa.mk (qc.mk 1 (ByteArray.mk (List.toArray [66, 49]))) 6 90 0 [] 0 [], qa.mk (qc.mk 1 (ByteArray.mk (List.toArray [65, 49]))) 5 40 0 [] 0 []]) fun (a : Prod (List Bool) Int) =>
  if (a.2 != 0) = Bool.true then some Bool.false
  else if (((a.1.length : Nat) : Int) != 8) = Bool.true then some Bool.false
  else Option.bind (qQ (ZH want a.1 ((a.1.length : Nat) : Int)) 0) fun (a2 : Sum Unit Unit) =>
  Sum.elim (fun (a3 : Unit) => some Bool.false) (fun (a4 : Unit) => some Bool.true) a2
theorem JC : ∀ (n_Kind n_N n_Min : Int) (n_Set : List qc) (n_L : List qb) (want : List Int), ev 18 0 [R.agg [dI n_Kind, dI n_N, dI n_Min, dL 2 qe n_Set, dL 5 qg n_L], rL 1 eI want] [] = (Q9 (qb.mk n_Kind n_N n_Min n_Set n_L) want).bind (fun (e : Bool) => some (rB e, [])) :=
  fun n_Kind n_N n_Min n_Set n_L want => by
    rw [qA qo5 qtY.2.2.2 qqw]
    have := qqG; have := @q1d; have := @q2o; have := @q7j; have := @q5b; have := @Q9.eq_1; exact gA
theorem q5I : ∀ (n_Kind n_N n_Min n_Set0_School : Int) (n_Set0_Code : ByteArray) (want0 : Int) , ev 18 0 [R.agg [dI n_Kind, dI n_N, dI n_Min, C.d (D.sl 2 1 [D.int .i64 n_Set0_School, D.str n_Set0_Code]), C.d (D.sl 5 0 [])], R.c (C.d (D.sl 1 1 [D.int .i64 want0]))] [] = (Q9 (qb.mk n_Kind n_N n_Min [(qc.mk n_Set0_School n_Set0_Code)] []) [want0]).bind (fun (e : Bool) => some (rB e, [])) := by
  intro n_Kind n_N n_Min n_Set0_School n_Set0_Code want0; have h := JC ((qb.mk n_Kind n_N n_Min [(qc.mk n_Set0_School n_Set0_Code)] [])).Kind ((qb.mk n_Kind n_N n_Min [(qc.mk n_Set0_School n_Set0_Code)] [])).N ((qb.mk n_Kind n_N n_Min [(qc.mk n_Set0_School n_Set0_Code)] [])).Min ((qb.mk n_Kind n_N n_Min [(qc.mk n_Set0_School n_Set0_Code)] [])).Set ((qb.mk n_Kind n_N n_Min [(qc.mk n_Set0_School n_Set0_Code)] [])).L [want0]
  first
    | exact h
    | (simp only [rL, dL, bR, bZ, Nat.reduceAdd] at h; exact h)
theorem q5G : ∀ (n_Kind n_N n_Min n_Set0_School : Int) (n_Set0_Code : ByteArray) (n_Set1_School : Int) (n_Set1_Code : ByteArray) (want0 want1 want2 want3 : Int) , ev 18 0 [R.agg [dI n_Kind, dI n_N, dI n_Min, C.d (D.sl 2 2 [D.int .i64 n_Set0_School, D.str n_Set0_Code, D.int .i64 n_Set1_School, D.str n_Set1_Code]), C.d (D.sl 5 0 [])], R.c (C.d (D.sl 1 4 [D.int .i64 want0, D.int .i64 want1, D.int .i64 want2, D.int .i64 want3]))] [] = (Q9 (qb.mk n_Kind n_N n_Min [(qc.mk n_Set0_School n_Set0_Code), (qc.mk n_Set1_School n_Set1_Code)] []) [want0, want1, want2, want3]).bind (fun (e : Bool) => some (rB e, [])) := by
  intro n_Kind n_N n_Min n_Set0_School n_Set0_Code n_Set1_School n_Set1_Code want0 want1 want2 want3; have h := JC ((qb.mk n_Kind n_N n_Min [(qc.mk n_Set0_School n_Set0_Code), (qc.mk n_Set1_School n_Set1_Code)] [])).Kind ((qb.mk n_Kind n_N n_Min [(qc.mk n_Set0_School n_Set0_Code), (qc.mk n_Set1_School n_Set1_Code)] [])).N ((qb.mk n_Kind n_N n_Min [(qc.mk n_Set0_School n_Set0_Code), (qc.mk n_Set1_School n_Set1_Code)] [])).Min ((qb.mk n_Kind n_N n_Min [(qc.mk n_Set0_School n_Set0_Code), (qc.mk n_Set1_School n_Set1_Code)] [])).Set ((qb.mk n_Kind n_N n_Min [(qc.mk n_Set0_School n_Set0_Code), (qc.mk n_Set1_School n_Set1_Code)] [])).L [want0, want1, want2, want3]
  first
    | exact h
    | (simp only [rL, dL, bR, bZ, Nat.reduceAdd] at h; exact h)
theorem q5C : ∀ (n_Kind n_N n_Min n_L0_Kind n_L0_N n_L0_Min n_L0_Set0_School : Int) (n_L0_Set0_Code : ByteArray) (n_L1_Kind n_L1_N n_L1_Min n_L1_Set0_School : Int) (n_L1_Set0_Code : ByteArray) (n_L1_Set1_School : Int) (n_L1_Set1_Code : ByteArray) (want0 : Int) , ev 18 0 [R.agg [dI n_Kind, dI n_N, dI n_Min, C.d (D.sl 2 0 []), C.d (D.sl 5 2 [D.int .i64 n_L0_Kind, D.int .i64 n_L0_N, D.int .i64 n_L0_Min, D.sl 2 1 [D.int .i64 n_L0_Set0_School, D.str n_L0_Set0_Code], D.sl 5 0 [], D.int .i64 n_L1_Kind, D.int .i64 n_L1_N, D.int .i64 n_L1_Min, D.sl 2 2 [D.int .i64 n_L1_Set0_School, D.str n_L1_Set0_Code, D.int .i64 n_L1_Set1_School, D.str n_L1_Set1_Code], D.sl 5 0 []])], R.c (C.d (D.sl 1 1 [D.int .i64 want0]))] [] = (Q9 (qb.mk n_Kind n_N n_Min [] [(qb.mk n_L0_Kind n_L0_N n_L0_Min [(qc.mk n_L0_Set0_School n_L0_Set0_Code)] []), (qb.mk n_L1_Kind n_L1_N n_L1_Min [(qc.mk n_L1_Set0_School n_L1_Set0_Code), (qc.mk n_L1_Set1_School n_L1_Set1_Code)] [])]) [want0]).bind (fun (e : Bool) => some (rB e, [])) := by
  intro n_Kind n_N n_Min n_L0_Kind n_L0_N n_L0_Min n_L0_Set0_School n_L0_Set0_Code n_L1_Kind n_L1_N n_L1_Min n_L1_Set0_School n_L1_Set0_Code n_L1_Set1_School n_L1_Set1_Code want0; have h := JC ((qb.mk n_Kind n_N n_Min [] [(qb.mk n_L0_Kind n_L0_N n_L0_Min [(qc.mk n_L0_Set0_School n_L0_Set0_Code)] []), (qb.mk n_L1_Kind n_L1_N n_L1_Min [(qc.mk n_L1_Set0_School n_L1_Set0_Code), (qc.mk n_L1_Set1_School n_L1_Set1_Code)] [])])).Kind ((qb.mk n_Kind n_N n_Min [] [(qb.mk n_L0_Kind n_L0_N n_L0_Min [(qc.mk n_L0_Set0_School n_L0_Set0_Code)] []), (qb.mk n_L1_Kind n_L1_N n_L1_Min [(qc.mk n_L1_Set0_School n_L1_Set0_Code), (qc.mk n_L1_Set1_School n_L1_Set1_Code)] [])])).N ((qb.mk n_Kind n_N n_Min [] [(qb.mk n_L0_Kind n_L0_N n_L0_Min [(qc.mk n_L0_Set0_School n_L0_Set0_Code)] []), (qb.mk n_L1_Kind n_L1_N n_L1_Min [(qc.mk n_L1_Set0_School n_L1_Set0_Code), (qc.mk n_L1_Set1_School n_L1_Set1_Code)] [])])).Min ((qb.mk n_Kind n_N n_Min [] [(qb.mk n_L0_Kind n_L0_N n_L0_Min [(qc.mk n_L0_Set0_School n_L0_Set0_Code)] []), (qb.mk n_L1_Kind n_L1_N n_L1_Min [(qc.mk n_L1_Set0_School n_L1_Set0_Code), (qc.mk n_L1_Set1_School n_L1_Set1_Code)] [])])).Set ((qb.mk n_Kind n_N n_Min [] [(qb.mk n_L0_Kind n_L0_N n_L0_Min [(qc.mk n_L0_Set0_School n_L0_Set0_Code)] []), (qb.mk n_L1_Kind n_L1_N n_L1_Min [(qc.mk n_L1_Set0_School n_L1_Set0_Code), (qc.mk n_L1_Set1_School n_L1_Set1_Code)] [])])).L [want0]
  first
    | exact h
    | (simp only [rL, dL, bR, bZ, Nat.reduceAdd] at h; exact h)
theorem q5Y : ∀ (n_Kind n_N n_Min n_L0_Kind n_L0_N n_L0_Min n_L0_Set0_School : Int) (n_L0_Set0_Code : ByteArray) (n_L1_Kind n_L1_N n_L1_Min n_L1_Set0_School : Int) (n_L1_Set0_Code : ByteArray) (n_L1_Set1_School : Int) (n_L1_Set1_Code : ByteArray) (want0 want1 want2 want3 want4 : Int) , ev 18 0 [R.agg [dI n_Kind, dI n_N, dI n_Min, C.d (D.sl 2 0 []), C.d (D.sl 5 2 [D.int .i64 n_L0_Kind, D.int .i64 n_L0_N, D.int .i64 n_L0_Min, D.sl 2 1 [D.int .i64 n_L0_Set0_School, D.str n_L0_Set0_Code], D.sl 5 0 [], D.int .i64 n_L1_Kind, D.int .i64 n_L1_N, D.int .i64 n_L1_Min, D.sl 2 2 [D.int .i64 n_L1_Set0_School, D.str n_L1_Set0_Code, D.int .i64 n_L1_Set1_School, D.str n_L1_Set1_Code], D.sl 5 0 []])], R.c (C.d (D.sl 1 5 [D.int .i64 want0, D.int .i64 want1, D.int .i64 want2, D.int .i64 want3, D.int .i64 want4]))] [] = (Q9 (qb.mk n_Kind n_N n_Min [] [(qb.mk n_L0_Kind n_L0_N n_L0_Min [(qc.mk n_L0_Set0_School n_L0_Set0_Code)] []), (qb.mk n_L1_Kind n_L1_N n_L1_Min [(qc.mk n_L1_Set0_School n_L1_Set0_Code), (qc.mk n_L1_Set1_School n_L1_Set1_Code)] [])]) [want0, want1, want2, want3, want4]).bind (fun (e : Bool) => some (rB e, [])) := by
  intro n_Kind n_N n_Min n_L0_Kind n_L0_N n_L0_Min n_L0_Set0_School n_L0_Set0_Code n_L1_Kind n_L1_N n_L1_Min n_L1_Set0_School n_L1_Set0_Code n_L1_Set1_School n_L1_Set1_Code want0 want1 want2 want3 want4; have h := JC ((qb.mk n_Kind n_N n_Min [] [(qb.mk n_L0_Kind n_L0_N n_L0_Min [(qc.mk n_L0_Set0_School n_L0_Set0_Code)] []), (qb.mk n_L1_Kind n_L1_N n_L1_Min [(qc.mk n_L1_Set0_School n_L1_Set0_Code), (qc.mk n_L1_Set1_School n_L1_Set1_Code)] [])])).Kind ((qb.mk n_Kind n_N n_Min [] [(qb.mk n_L0_Kind n_L0_N n_L0_Min [(qc.mk n_L0_Set0_School n_L0_Set0_Code)] []), (qb.mk n_L1_Kind n_L1_N n_L1_Min [(qc.mk n_L1_Set0_School n_L1_Set0_Code), (qc.mk n_L1_Set1_School n_L1_Set1_Code)] [])])).N ((qb.mk n_Kind n_N n_Min [] [(qb.mk n_L0_Kind n_L0_N n_L0_Min [(qc.mk n_L0_Set0_School n_L0_Set0_Code)] []), (qb.mk n_L1_Kind n_L1_N n_L1_Min [(qc.mk n_L1_Set0_School n_L1_Set0_Code), (qc.mk n_L1_Set1_School n_L1_Set1_Code)] [])])).Min ((qb.mk n_Kind n_N n_Min [] [(qb.mk n_L0_Kind n_L0_N n_L0_Min [(qc.mk n_L0_Set0_School n_L0_Set0_Code)] []), (qb.mk n_L1_Kind n_L1_N n_L1_Min [(qc.mk n_L1_Set0_School n_L1_Set0_Code), (qc.mk n_L1_Set1_School n_L1_Set1_Code)] [])])).Set ((qb.mk n_Kind n_N n_Min [] [(qb.mk n_L0_Kind n_L0_N n_L0_Min [(qc.mk n_L0_Set0_School n_L0_Set0_Code)] []), (qb.mk n_L1_Kind n_L1_N n_L1_Min [(qc.mk n_L1_Set0_School n_L1_Set0_Code), (qc.mk n_L1_Set1_School n_L1_Set1_Code)] [])])).L [want0, want1, want2, want3, want4]
  first
    | exact h
    | (simp only [rL, dL, bR, bZ, Nat.reduceAdd] at h; exact h)
noncomputable def Jv (fu : Nat) (n : qb) (want : List Int) : Option Bool :=
  Option.bind (q3R fu n (qq 1) [qa.mk (qc.mk 1 (ByteArray.mk (List.toArray [65, 49]))) 5 60 0 [] 0 [], qa.mk (qc.mk 1 (ByteArray.mk (List.toArray [66, 49]))) 6 90 0 [] 0 [], qa.mk (qc.mk 1 (ByteArray.mk (List.toArray [65, 49]))) 5 40 0 [] 0 []]) fun (a : Prod (List Bool) Int) =>
  if (a.2 != 0) = Bool.true then some Bool.false
  else if (((a.1.length : Nat) : Int) != 8) = Bool.true then some Bool.false
  else Option.bind (itT (q15 fu want a.1 ((a.1.length : Nat) : Int)) fu 0) fun (a2 : Sum Unit Unit) =>
  Sum.elim (fun (a3 : Unit) => some Bool.false) (fun (a4 : Unit) => some Bool.true) a2
theorem q7X (fu : Nat) (n : qb) (want : List Int) : qk (Jv fu n want) (Q9 n want) := by
  unfold Jv Q9
  repeat (first
    | with_reducible exact qk.refl _
    | with_reducible exact qk.none _
    | with_reducible apply q5m
    | with_reducible apply q5n
    | with_reducible refine qk.bind ?_ (fun _ => ?_)
    | with_reducible refine qk.ite ?_ ?_
    | with_reducible refine qk.sum (fun _ => ?_) (fun _ => ?_)
    | with_reducible refine qk.lim (fun _ => ?_))
noncomputable def ZA : Option Bool :=
  Option.bind (zh (qb.mk 4 1 0 [] [qb.mk 1 0 50 [qc.mk 1 (ByteArray.mk (List.toArray [65, 49]))] [], qb.mk 2 10 0 [qc.mk 1 (ByteArray.mk (List.toArray [65, 49])), qc.mk 1 (ByteArray.mk (List.toArray [66, 49]))] []]) (qq 1) [qa.mk (qc.mk 1 (ByteArray.mk (List.toArray [65, 49]))) 5 60 0 [] 0 [], qa.mk (qc.mk 1 (ByteArray.mk (List.toArray [66, 49]))) 6 90 0 [] 0 [], qa.mk (qc.mk 1 (ByteArray.mk (List.toArray [65, 49]))) 5 40 0 [] 0 []] 7) fun (a : Prod (List Int) Bool) =>
  Option.bind (zh (qb.mk 4 1 0 [] [qb.mk 1 0 50 [qc.mk 1 (ByteArray.mk (List.toArray [65, 49]))] [], qb.mk 2 10 0 [qc.mk 1 (ByteArray.mk (List.toArray [65, 49])), qc.mk 1 (ByteArray.mk (List.toArray [66, 49]))] []]) (qq 1) [qa.mk (qc.mk 1 (ByteArray.mk (List.toArray [65, 49]))) 5 60 0 [] 0 [], qa.mk (qc.mk 1 (ByteArray.mk (List.toArray [66, 49]))) 6 90 0 [] 0 [], qa.mk (qc.mk 1 (ByteArray.mk (List.toArray [65, 49]))) 5 40 0 [] 0 []] 3) fun (a2 : Prod (List Int) Bool) =>
  Option.bind (zh (qb.mk 3 0 0 [] [qb.mk 1 0 50 [qc.mk 1 (ByteArray.mk (List.toArray [65, 49]))] [], qb.mk 2 10 0 [qc.mk 1 (ByteArray.mk (List.toArray [65, 49])), qc.mk 1 (ByteArray.mk (List.toArray [66, 49]))] []]) (qq 1) [qa.mk (qc.mk 1 (ByteArray.mk (List.toArray [65, 49]))) 5 60 0 [] 0 [], qa.mk (qc.mk 1 (ByteArray.mk (List.toArray [66, 49]))) 6 90 0 [] 0 [], qa.mk (qc.mk 1 (ByteArray.mk (List.toArray [65, 49]))) 5 40 0 [] 0 []] 3) fun (a3 : Prod (List Int) Bool) =>
  Option.bind (QN (qb.mk 1 0 50 [qc.mk 1 (ByteArray.mk (List.toArray [65, 49]))] []) (qq 1) (qa.mk (qc.mk 1 (ByteArray.mk (List.toArray [65, 49]))) 5 60 0 [] 0 [])) fun (a4 : Bool) =>
  if a4 = Bool.true then Option.bind (QN (qb.mk 1 0 50 [qc.mk 1 (ByteArray.mk (List.toArray [65, 49]))] []) (qq 1) (qa.mk (qc.mk 1 (ByteArray.mk (List.toArray [66, 49]))) 6 90 0 [] 0 [])) fun (a5 : Bool) =>
    if (!a5) = Bool.true then Option.bind (QN (qb.mk 1 0 50 [qc.mk 1 (ByteArray.mk (List.toArray [65, 49]))] []) (qq 1) (qa.mk (qc.mk 1 (ByteArray.mk (List.toArray [65, 49]))) 5 40 0 [] 0 [])) fun (a6 : Bool) =>
      if (!a6) = Bool.true then Option.bind (QY (qb.mk 4 1 0 [] [qb.mk 1 0 50 [qc.mk 1 (ByteArray.mk (List.toArray [65, 49]))] [], qb.mk 2 10 0 [qc.mk 1 (ByteArray.mk (List.toArray [65, 49])), qc.mk 1 (ByteArray.mk (List.toArray [66, 49]))] []]) (qq 1) [qa.mk (qc.mk 1 (ByteArray.mk (List.toArray [65, 49]))) 5 60 0 [] 0 [], qa.mk (qc.mk 1 (ByteArray.mk (List.toArray [66, 49]))) 6 90 0 [] 0 [], qa.mk (qc.mk 1 (ByteArray.mk (List.toArray [65, 49]))) 5 40 0 [] 0 []] [(0 : Int), (-1), (-1)]) fun (a7 : Bool) =>
        if a7 = Bool.true then Option.bind (QY (qb.mk 4 1 0 [] [qb.mk 1 0 50 [qc.mk 1 (ByteArray.mk (List.toArray [65, 49]))] [], qb.mk 2 10 0 [qc.mk 1 (ByteArray.mk (List.toArray [65, 49])), qc.mk 1 (ByteArray.mk (List.toArray [66, 49]))] []]) (qq 1) [qa.mk (qc.mk 1 (ByteArray.mk (List.toArray [65, 49]))) 5 60 0 [] 0 [], qa.mk (qc.mk 1 (ByteArray.mk (List.toArray [66, 49]))) 6 90 0 [] 0 [], qa.mk (qc.mk 1 (ByteArray.mk (List.toArray [65, 49]))) 5 40 0 [] 0 []] [(0 : Int), 1, (-1)]) fun (a8 : Bool) =>
          if (!a8) = Bool.true then Option.bind (Q9 (qb.mk 1 0 50 [qc.mk 1 (ByteArray.mk (List.toArray [65, 49]))] []) [(1 : Int)]) fun (a9 : Bool) =>
            if a9 = Bool.true then Option.bind (Q9 (qb.mk 2 10 0 [qc.mk 1 (ByteArray.mk (List.toArray [65, 49])), qc.mk 1 (ByteArray.mk (List.toArray [66, 49]))] []) [(3 : Int), 5, 6, 7]) fun (a10 : Bool) =>
              if a10 = Bool.true then Option.bind (Q9 (qb.mk 3 0 0 [] [qb.mk 1 0 50 [qc.mk 1 (ByteArray.mk (List.toArray [65, 49]))] [], qb.mk 2 10 0 [qc.mk 1 (ByteArray.mk (List.toArray [65, 49])), qc.mk 1 (ByteArray.mk (List.toArray [66, 49]))] []]) [(7 : Int)]) fun (a11 : Bool) =>
                if a11 = Bool.true then Option.bind (Q9 (qb.mk 4 1 0 [] [qb.mk 1 0 50 [qc.mk 1 (ByteArray.mk (List.toArray [65, 49]))] [], qb.mk 2 10 0 [qc.mk 1 (ByteArray.mk (List.toArray [65, 49])), qc.mk 1 (ByteArray.mk (List.toArray [66, 49]))] []]) [(1 : Int), 3, 5, 6, 7]) fun (a12 : Bool) =>
                  if a12 = Bool.true then if a.2 = Bool.true then if a2.2 = Bool.true then if (!a3.2) = Bool.true then Option.bind (Q3 a.1 [(0 : Int), 1, 1]) fun (a13 : Bool) =>
                          if a13 = Bool.true then Option.bind (Q3 a2.1 [(1 : Int), 1]) fun (e0 : Bool) =>
                            some e0
                          else some Bool.false
                        else some Bool.false
                      else some Bool.false
                    else some Bool.false
                  else some Bool.false
                else some Bool.false
              else some Bool.false
            else some Bool.false
          else some Bool.false
        else some Bool.false
      else some Bool.false
    else some Bool.false
  else some Bool.false
theorem q6u : ev 6 0 [] [] = (ZA).bind (fun (e : Bool) => some (rB e, [])) :=
  by
    rw [qA bd6 pw6.2.2.2 lo6]
    have := cx6; have := @q1d; have := @q2o; have := @q5l; have := @q77; have := @q6I; have := @q5I; have := @q5G; have := @q5C; have := @q5Y; have := @q2H; have := @q2N; have := @ZA.eq_1; exact gA
noncomputable def q1p (fu : Nat) : Option Bool :=
  Option.bind (q0o fu (qb.mk 4 1 0 [] [qb.mk 1 0 50 [qc.mk 1 (ByteArray.mk (List.toArray [65, 49]))] [], qb.mk 2 10 0 [qc.mk 1 (ByteArray.mk (List.toArray [65, 49])), qc.mk 1 (ByteArray.mk (List.toArray [66, 49]))] []]) (qq 1) [qa.mk (qc.mk 1 (ByteArray.mk (List.toArray [65, 49]))) 5 60 0 [] 0 [], qa.mk (qc.mk 1 (ByteArray.mk (List.toArray [66, 49]))) 6 90 0 [] 0 [], qa.mk (qc.mk 1 (ByteArray.mk (List.toArray [65, 49]))) 5 40 0 [] 0 []] 7) fun (a : Prod (List Int) Bool) =>
  Option.bind (q0o fu (qb.mk 4 1 0 [] [qb.mk 1 0 50 [qc.mk 1 (ByteArray.mk (List.toArray [65, 49]))] [], qb.mk 2 10 0 [qc.mk 1 (ByteArray.mk (List.toArray [65, 49])), qc.mk 1 (ByteArray.mk (List.toArray [66, 49]))] []]) (qq 1) [qa.mk (qc.mk 1 (ByteArray.mk (List.toArray [65, 49]))) 5 60 0 [] 0 [], qa.mk (qc.mk 1 (ByteArray.mk (List.toArray [66, 49]))) 6 90 0 [] 0 [], qa.mk (qc.mk 1 (ByteArray.mk (List.toArray [65, 49]))) 5 40 0 [] 0 []] 3) fun (a2 : Prod (List Int) Bool) =>
  Option.bind (q0o fu (qb.mk 3 0 0 [] [qb.mk 1 0 50 [qc.mk 1 (ByteArray.mk (List.toArray [65, 49]))] [], qb.mk 2 10 0 [qc.mk 1 (ByteArray.mk (List.toArray [65, 49])), qc.mk 1 (ByteArray.mk (List.toArray [66, 49]))] []]) (qq 1) [qa.mk (qc.mk 1 (ByteArray.mk (List.toArray [65, 49]))) 5 60 0 [] 0 [], qa.mk (qc.mk 1 (ByteArray.mk (List.toArray [66, 49]))) 6 90 0 [] 0 [], qa.mk (qc.mk 1 (ByteArray.mk (List.toArray [65, 49]))) 5 40 0 [] 0 []] 3) fun (a3 : Prod (List Int) Bool) =>
  Option.bind (q0a fu (qb.mk 1 0 50 [qc.mk 1 (ByteArray.mk (List.toArray [65, 49]))] []) (qq 1) (qa.mk (qc.mk 1 (ByteArray.mk (List.toArray [65, 49]))) 5 60 0 [] 0 [])) fun (a4 : Bool) =>
  if a4 = Bool.true then Option.bind (q0a fu (qb.mk 1 0 50 [qc.mk 1 (ByteArray.mk (List.toArray [65, 49]))] []) (qq 1) (qa.mk (qc.mk 1 (ByteArray.mk (List.toArray [66, 49]))) 6 90 0 [] 0 [])) fun (a5 : Bool) =>
    if (!a5) = Bool.true then Option.bind (q0a fu (qb.mk 1 0 50 [qc.mk 1 (ByteArray.mk (List.toArray [65, 49]))] []) (qq 1) (qa.mk (qc.mk 1 (ByteArray.mk (List.toArray [65, 49]))) 5 40 0 [] 0 [])) fun (a6 : Bool) =>
      if (!a6) = Bool.true then Option.bind (q2p fu (qb.mk 4 1 0 [] [qb.mk 1 0 50 [qc.mk 1 (ByteArray.mk (List.toArray [65, 49]))] [], qb.mk 2 10 0 [qc.mk 1 (ByteArray.mk (List.toArray [65, 49])), qc.mk 1 (ByteArray.mk (List.toArray [66, 49]))] []]) (qq 1) [qa.mk (qc.mk 1 (ByteArray.mk (List.toArray [65, 49]))) 5 60 0 [] 0 [], qa.mk (qc.mk 1 (ByteArray.mk (List.toArray [66, 49]))) 6 90 0 [] 0 [], qa.mk (qc.mk 1 (ByteArray.mk (List.toArray [65, 49]))) 5 40 0 [] 0 []] [(0 : Int), (-1), (-1)]) fun (a7 : Bool) =>
        if a7 = Bool.true then Option.bind (q2p fu (qb.mk 4 1 0 [] [qb.mk 1 0 50 [qc.mk 1 (ByteArray.mk (List.toArray [65, 49]))] [], qb.mk 2 10 0 [qc.mk 1 (ByteArray.mk (List.toArray [65, 49])), qc.mk 1 (ByteArray.mk (List.toArray [66, 49]))] []]) (qq 1) [qa.mk (qc.mk 1 (ByteArray.mk (List.toArray [65, 49]))) 5 60 0 [] 0 [], qa.mk (qc.mk 1 (ByteArray.mk (List.toArray [66, 49]))) 6 90 0 [] 0 [], qa.mk (qc.mk 1 (ByteArray.mk (List.toArray [65, 49]))) 5 40 0 [] 0 []] [(0 : Int), 1, (-1)]) fun (a8 : Bool) =>
          if (!a8) = Bool.true then Option.bind (Jv fu (qb.mk 1 0 50 [qc.mk 1 (ByteArray.mk (List.toArray [65, 49]))] []) [(1 : Int)]) fun (a9 : Bool) =>
            if a9 = Bool.true then Option.bind (Jv fu (qb.mk 2 10 0 [qc.mk 1 (ByteArray.mk (List.toArray [65, 49])), qc.mk 1 (ByteArray.mk (List.toArray [66, 49]))] []) [(3 : Int), 5, 6, 7]) fun (a10 : Bool) =>
              if a10 = Bool.true then Option.bind (Jv fu (qb.mk 3 0 0 [] [qb.mk 1 0 50 [qc.mk 1 (ByteArray.mk (List.toArray [65, 49]))] [], qb.mk 2 10 0 [qc.mk 1 (ByteArray.mk (List.toArray [65, 49])), qc.mk 1 (ByteArray.mk (List.toArray [66, 49]))] []]) [(7 : Int)]) fun (a11 : Bool) =>
                if a11 = Bool.true then Option.bind (Jv fu (qb.mk 4 1 0 [] [qb.mk 1 0 50 [qc.mk 1 (ByteArray.mk (List.toArray [65, 49]))] [], qb.mk 2 10 0 [qc.mk 1 (ByteArray.mk (List.toArray [65, 49])), qc.mk 1 (ByteArray.mk (List.toArray [66, 49]))] []]) [(1 : Int), 3, 5, 6, 7]) fun (a12 : Bool) =>
                  if a12 = Bool.true then if a.2 = Bool.true then if a2.2 = Bool.true then if (!a3.2) = Bool.true then Option.bind (Jg fu a.1 [(0 : Int), 1, 1]) fun (a13 : Bool) =>
                          if a13 = Bool.true then Option.bind (Jg fu a2.1 [(1 : Int), 1]) fun (e0 : Bool) =>
                            some e0
                          else some Bool.false
                        else some Bool.false
                      else some Bool.false
                    else some Bool.false
                  else some Bool.false
                else some Bool.false
              else some Bool.false
            else some Bool.false
          else some Bool.false
        else some Bool.false
      else some Bool.false
    else some Bool.false
  else some Bool.false
theorem q6e (fu : Nat) : qk (q1p fu ) (ZA ) := by
  unfold q1p ZA
  repeat (first
    | with_reducible exact qk.refl _
    | with_reducible exact qk.none _
    | with_reducible apply q86
    | with_reducible apply q2b
    | with_reducible apply q96
    | with_reducible apply q7X
    | with_reducible apply q4r
    | with_reducible refine qk.bind ?_ (fun _ => ?_)
    | with_reducible refine qk.ite ?_ ?_
    | with_reducible refine qk.sum (fun _ => ?_) (fun _ => ?_)
    | with_reducible refine qk.lim (fun _ => ?_))
noncomputable def Qq (b0 : qb) (b1 : qd) (t3 : Bool) (t5 : List qa) (t7 : List Bool) (t48 : List Bool) (t49 : Int) : Int → Option (Int ⊕ (Unit ⊕ Unit))
  | t50 =>
    if t50 < t49 then if 0 ≤ t50 ∧ t50 < ((t48.length : Nat) : Int) then Option.bind t48[Int.toNat t50]? fun (a : Bool) =>
        Option.bind (zh b0 b1 t5 t50) fun (a2 : Prod (List Int) Bool) =>
        if (!(a2.2 == a)) = Bool.true then some (Sum.inr (Sum.inl ()))
        else if a = Bool.true then Option.bind (Jb t5 t50 a2.1) fun (a3 : List Int) =>
          Option.bind (QY b0 b1 t5 a3) fun (a4 : Bool) =>
          if (!a4) = Bool.true then some (Sum.inr (Sum.inl ()))
          else if (!a) = Bool.true then if 0 < ((a2.1.length : Nat) : Int) then some (Sum.inr (Sum.inl ()))
            else some (Sum.inl (w64 (t50 + 1)))
          else some (Sum.inl (w64 (t50 + 1)))
        else if (!a) = Bool.true then if 0 < ((a2.1.length : Nat) : Int) then some (Sum.inr (Sum.inl ()))
          else some (Sum.inl (w64 (t50 + 1)))
        else some (Sum.inl (w64 (t50 + 1)))
      else none
    else some (Sum.inr (Sum.inr ()))
theorem q3n : ∀ (b0_Kind b0_N b0_Min : Int) (b0_Set : List qc) (b0_L : List qb) (b1_Worst b1_Best b1_Pass : Int) (t3 : Bool) (t5 : List qa) (t7 t48 : List Bool) (t49 t50 : Int), XL2 evo 3 0 9 ⟨[(3, rB t3), (4, rP 0), (5, rL 8 qf t5), (6, rP 1), (7, rL 1 eB t7), (48, rL 1 eB t48), (49, rI t49), (50, rI t50)], [(0, B.blk 31 [dI b0_Kind, dI b0_N, dI b0_Min, dL 2 qe b0_Set, dL 5 qg b0_L]), (1, B.blk 37 [dI b1_Worst, dI b1_Best, dI b1_Pass])], 2, 115⟩ = (qQ (Qq (qb.mk b0_Kind b0_N b0_Min b0_Set b0_L) (qd.mk b1_Worst b1_Best b1_Pass) t3 t5 t7 t48 t49) t50).bind (Sum.elim (fun (e : Unit) => some (Go.Exit.ret, ⟨[(2, rB Bool.false), (3, rB t3), (4, rP 0), (5, rL 8 qf t5), (6, rP 1), (7, rL 1 eB t7)], [(0, B.blk 31 [dI b0_Kind, dI b0_N, dI b0_Min, dL 2 qe b0_Set, dL 5 qg b0_L]), (1, B.blk 37 [dI b1_Worst, dI b1_Best, dI b1_Pass])], 2, 115⟩)) (fun (e : Unit) => some (Go.Exit.exit 0, ⟨[(2, R.any), (3, rB t3), (4, rP 0), (5, rL 8 qf t5), (6, rP 1), (7, rL 1 eB t7)], [(0, B.blk 31 [dI b0_Kind, dI b0_N, dI b0_Min, dL 2 qe b0_Set, dL 5 qg b0_L]), (1, B.blk 37 [dI b1_Worst, dI b1_Best, dI b1_Pass])], 2, 115⟩))) :=
  fun b0_Kind b0_N b0_Min b0_Set b0_L b1_Worst b1_Best b1_Pass t3 t5 t7 t48 t49 t50 => by
    revert t50; exact qau qri qrZ (fun e => by rcases e with _ | _ <;> exact ⟨_, rfl, fun h => by cases h⟩) fun x => by
      have := cx3; have := @qkr.eq_1; have := @q12; have := @q6q; have := @q4h; have := @Qq.eq_1; exact gA
noncomputable def JG (x0 : ZV) : Option Bool :=
  Option.bind ZA fun (a : Bool) =>
  Option.bind (Z7 x0) fun (a2 : Prod qb (List qa)) =>
  Option.bind (q0Z a2.2) fun (a3 : List qa) =>
  Option.bind (Z8 a2.1 (qq 1) a3) fun (a4 : Prod (List Bool) Int) =>
  if (a4.2 != 0) = Bool.true then some Bool.false
  else if 0 ≤ ((a3.length : Nat) : Int) then if (((a4.1.length : Nat) : Int) != w64 (1 * 2 ^ min a3.length (Go.IntKind.bits Go.IntKind.i64))) = Bool.true then some Bool.false
    else if 0 < ((a4.1.length : Nat) : Int) then Option.bind a4.1[0]? fun (a5 : Bool) =>
      if a5 = Bool.true then some Bool.false
      else Option.bind (qQ (Qq a2.1 (qq 1) a a3 a4.1 a4.1 ((a4.1.length : Nat) : Int)) 0) fun (a6 : Sum Unit Unit) =>
      Sum.elim (fun (a7 : Unit) => some Bool.false) (fun (a8 : Unit) => Option.bind (zh a2.1 (qq 1) a3 (-1)) fun (a9 : Prod (List Int) Bool) =>
        Option.bind (zh a2.1 (qq 1) a3 ((a4.1.length : Nat) : Int)) fun (a10 : Prod (List Int) Bool) =>
        if a = Bool.true then if (!a9.2) = Bool.true then some (!a10.2)
          else some Bool.false
        else some Bool.false) a6
    else none
  else none
theorem q5K : ∀ (x0_Need x0_L : List Int) (x0_Odd_0_0 x0_Odd_0_1 x0_Odd_0_2 x0_Odd_1_0 x0_Odd_1_1 x0_Odd_1_2 : Int), ev 3 0 [R.agg [dL 1 eI x0_Need, dL 1 eI x0_L, dI x0_Odd_0_0, dI x0_Odd_0_1, dI x0_Odd_0_2, dI x0_Odd_1_0, dI x0_Odd_1_1, dI x0_Odd_1_2]] [] = (JG (ZV.mk x0_Need x0_L (qpR.mk (qkh.mk x0_Odd_0_0 x0_Odd_0_1 x0_Odd_0_2) (qkh.mk x0_Odd_1_0 x0_Odd_1_1 x0_Odd_1_2)))).bind (fun (e : Bool) => some (rB e, [])) :=
  fun x0_Need x0_L x0_Odd_0_0 x0_Odd_0_1 x0_Odd_0_2 x0_Odd_1_0 x0_Odd_1_1 x0_Odd_1_2 => by
    rw [qA bd3 pw3.2.2.2 lo3]
    have := cx3; have := @q6u; have := @q4d; have := @q8Z; have := @q2o; have := @q2q; have := @q3n; have := @q12; have := @JG.eq_1; exact gA
end Go.Proofs.Ytgejdfnidjnjcaa.Vc

namespace Go.Proofs.Ytgejdfnidjnjcaa.Vc
open Go.RowKit
set_option linter.unusedVariables false
set_option linter.unusedSimpArgs false
def ceq (a b : qc) : Bool := (a.School == b.School) && (a.Code.toList == b.Code.toList)
def qca (n a b : Int) : Int := max (min a b) (min n (max a b))
def qai (s : qd) : Bool := qca s.Worst (-1000) 1000 == s.Worst && qca s.Best (-1000) 1000 == s.Best && s.Worst != s.Best && qca s.Pass s.Worst s.Best == s.Pass
def qcI (s : qd) (g : Int) : Bool := qai s && qca g s.Worst s.Best == g
def qgy (s : qd) (g m : Int) : Bool := qcI s g && (g == m || (decide (m < g) == decide (s.Worst < s.Best)))
theorem qa7 (s : qd) : Zi s = some (if qai s then 0 else 10) := by
  have h1 := qaJ (ε := Unit ⊕ Unit) (step := Q7 [s.Worst, s.Best] s 2) [s.Worst, s.Best] (fun i => (i : Int)) (fun a => if qca a (-1000) 1000 != a then some (.inl ()) else none) (.inr ()) (fun i a ha => by
      have hi : i < 2 := by obtain ⟨h, _⟩ := List.getElem?_eq_some_iff.1 ha; simpa using h
      have hw : w64 ((i : Int) + 1) = ((i + 1 : Nat) : Int) := za hi (by omega)
      unfold Q7
      rw [if_pos (by omega), if_pos ⟨by omega, by simpa using by omega⟩, Int.toNat_natCast, ha, Option.bind_some, hw]
      show (if (qca a (-1000) 1000 != a) = true then _ else _) = _
      split <;> simp_all) (by
      unfold Q7
      rfl)
  unfold Zi
  rw [show ((0 : Int)) = ((0 : Nat) : Int) from rfl, h1, Option.bind_some]
  unfold qai qK
  simp only [List.findSome?_cons, List.findSome?_nil]
  show _ = some (if (qca s.Worst (-1000) 1000 == s.Worst && qca s.Best (-1000) 1000 == s.Best && s.Worst != s.Best && qca s.Pass s.Worst s.Best == s.Pass) = true then 0 else 10)
  change (Sum.elim _ (fun _ => if (s.Worst == s.Best) = true then some (10 : Int) else if (qca s.Pass s.Worst s.Best != s.Pass) = true then some 10 else some 0) _) = _
  by_cases e1 : qca s.Worst (-1000) 1000 = s.Worst <;> by_cases e2 : qca s.Best (-1000) 1000 = s.Best <;> by_cases e3 : s.Worst = s.Best <;> by_cases e4 : qca s.Pass s.Worst s.Best = s.Pass <;> simp [e1, e2, e3, e4, bne]
theorem qac (s : qd) (g : Int) : Zh s g = some (qcI s g) := by
  unfold Zh qcI
  rw [qa7, Option.bind_some]
  cases h : qai s <;> simp [qK, qca]
theorem qdl (s : qd) (g m : Int) : QJ s g m = some (qgy s g m) := by
  unfold QJ qgy
  rw [qac, Option.bind_some]
  cases h : qcI s g
  · simp
  · by_cases h2 : g = m <;> simp [h2]
theorem q8b (p : qc → Bool) : ∀ (l : List qc) (i : Nat), (decide (0 ≤ (q17 (ε := Int ⊕ Unit) (fun i (_ : Unit) a => if p a = true then .inr (.inl (i : Int)) else .inl ()) (fun _ => .inr ()) l i ()).elim id (fun _ => -1))) = l.any p
  | [], i => rfl
  | a :: l, i => by
    unfold q17
    by_cases h : p a = true
    · simp [h]
    · have h' : p a = false := by simpa using h
      simp only [h', List.any_cons, Bool.false_or]
      exact q8b p l (i + 1)
theorem qip (l : List qc) (hl : l.length ≤ 9223372036854775807) (v : qc) : ∃ i : Int, qv l v = some i ∧ (decide (0 ≤ i)) = l.any (ceq v) := by
  have h1 := Ju (ε := Int ⊕ Unit) (step := qt v l (l.length : Int)) l (fun (b : Unit) i => (i : Int)) (fun i b a => if ceq v a = true then .inr (.inl (i : Int)) else .inl ()) (fun _ => .inr ()) (fun b i a ha => by
      have hi := JH ha
      have hw : w64 ((i : Int) + 1) = ((i + 1 : Nat) : Int) := za hi hl
      unfold qt
      rw [if_pos (by omega), if_pos ⟨by omega, by omega⟩, Int.toNat_natCast, ha, Option.bind_some, hw]
      unfold ceq
      by_cases e1 : v.School = a.School <;> by_cases e2 : v.Code.toList = a.Code.toList <;> simp [e1, e2]) (fun b => by
      unfold qt
      rw [if_neg (by omega)]) ()
  refine ⟨_, ?_, q8b (ceq v) l 0⟩
  unfold qv
  rw [show ((0 : Int)) = ((0 : Nat) : Int) from rfl, h1, Option.bind_some]
  cases (q17 (ε := Int ⊕ Unit) (fun i (_ : Unit) a => if ceq v a = true then .inr (.inl (i : Int)) else .inl ()) (fun _ => .inr ()) l 0 ()) <;> rfl
theorem qbs (l : List qc) (hl : l.length ≤ 9223372036854775807) (v : qc) : qr l v = some (l.any (ceq v)) := by
  obtain ⟨i, h1, h2⟩ := qip l hl v
  unfold qr
  rw [h1, Option.bind_some, h2]
def q5h (n : qb) : Bool := n.Kind == 1 || n.Kind == 2
theorem q7I (n : qb) : zS n = q5h n := by
  unfold zS q5h
  cases h : (n.Kind == 1) <;> simp
def qdm (n : qb) (s : qd) (a : qa) : Bool := q5h n && n.Set.any (ceq a.Course) && qgy s a.Grade n.Min
theorem qgF (n : qb) (hn : n.Set.length ≤ 9223372036854775807) (s : qd) (a : qa) : QN n s a = some (qdm n s a) := by
  unfold QN qdm
  rw [q7I, qbs n.Set hn, qdl]
  cases q5h n <;> cases n.Set.any (ceq a.Course) <;> simp
def wgF (n : qb) (s : qd) (set : Nat) : List qa → Nat → ql → ql
  | [], _, x => x
  | a :: l, k, x => wgF n s set l (k + 1) (if set.testBit k = true then ⟨w64 (x.many + 1), w64 (x.credits + a.Credits), x.fine && qdm n s a⟩ else x)
def ld0 : ql := ⟨0, 0, true⟩
theorem qc8 (n : qb) (hn : n.Set.length ≤ 9223372036854775807) (s : qd) (l : List qa) (hl : l.length ≤ 62) (set : Nat) (hs : set < 9223372036854775808) : QX n s l (set : Int) = some (wgF n s set l 0 ld0) := by
  have h1 := Ju (ε := ql) (step := Ql (set : Int) n s (ql.mk (0 : Int) (0 : Int) Bool.false) l (l.length : Int)) l (fun (b : ql) i => (b, (i : Int))) (fun i b a => .inl (if set.testBit i = true then ⟨w64 (b.many + 1), w64 (b.credits + a.Credits), b.fine && qdm n s a⟩ else b)) (fun b => b) (fun b i a ha => by
      have hi := JH ha
      have hw : w64 ((i : Int) + 1) = ((i + 1 : Nat) : Int) := za hi (by omega)
      have hb : Zb (i : Int) (set : Int) = some (set.testBit i) := by
        unfold Zb
        rw [if_pos (by omega), Int.toNat_natCast, qgi set i hs (by omega)]
      unfold Ql
      simp only
      rw [if_pos (by omega), if_pos ⟨by omega, by omega⟩, Int.toNat_natCast, ha, Option.bind_some, hw, hb, Option.bind_some]
      cases set.testBit i
      · simp
      · cases hf : b.fine
        · simp
        · simp [qgF n hn s a]) (fun b => by
      unfold Ql
      simp only
      rw [if_neg (by omega)]) ld0
  unfold QX
  change Option.bind (qQ _ (ld0, ((0 : Nat) : Int))) _ = _
  rw [h1, Option.bind_some]
  congr 1
  have : ∀ (l : List qa) (i : Nat) (b : ql), q17 (ε := ql) (fun i (b : ql) (a : qa) => .inl (if set.testBit i = true then ⟨w64 (b.many + 1), w64 (b.credits + a.Credits), b.fine && qdm n s a⟩ else b)) (fun b => b) l i b = wgF n s set l i b := by
    intro l
    induction l with
    | nil => intro i b; rfl
    | cons a l ih => intro i b; unfold q17 wgF; exact ih _ _
  exact this l 0 ld0
def q9d (n : qb) (x : ql) : Bool := if n.Kind = 1 then x.fine && x.many == 1 else x.fine && decide (0 < x.many) && decide (n.N ≤ x.credits)
end Go.Proofs.Ytgejdfnidjnjcaa.Vc
namespace Go.Proofs.Ytgejdfnidjnjcaa.Vc
open Go.RowKit
set_option linter.unusedVariables false
set_option linter.unusedSimpArgs false
def ZT (set sub : Nat) : Nat := set ^^^ (set &&& sub)
theorem zx (set sub i : Nat) : (ZT set sub).testBit i = (set.testBit i && !sub.testBit i) := by
  unfold ZT
  rw [Nat.testBit_xor, Nat.testBit_and]
  cases set.testBit i <;> cases sub.testBit i <;> rfl
theorem qcU (set sub : Nat) : ZT set sub ≤ set := by
  have : ZT set sub &&& set = ZT set sub := Nat.eq_of_testBit_eq fun i => by
    rw [Nat.testBit_and, zx]; cases set.testBit i <;> cases sub.testBit i <;> rfl
  rw [← this]; exact Nat.and_le_right
def eaV (own : Nat → Bool) (best : Nat → Int) (set sub : Nat) (v : Int) : Int := if own sub = true ∧ 0 ≤ best (ZT set sub) then max v (best (ZT set sub) + 1) else v
def eaF (own : Nat → Bool) (best : Nat → Int) (set : Nat) : Nat → Nat → Int → Int
  | 0, _, v => v
  | f + 1, sub, v => if sub = 0 then v else eaF own best set f ((sub - 1) &&& set) (eaV own best set sub v)
def Bnd (best : Nat → Int) (N : Nat) (M : Int) : Prop := ∀ k, k < N → -1 ≤ best k ∧ best k ≤ M
section
variable {N : Nat} (hN : N ≤ 65536) {own : Nat → Bool} {best : Nat → Int} {M : Int} (hM : M ≤ 1000000) (hb : Bnd best N M)
include hN hM hb
theorem qjg {set sub : Nat} (hs : set < N) (hsub : sub < N) (g : Nat → Int) : ZI (sub : Int) ((ZT set sub : Nat) : Int) (QI N best) (QI N g) (QI N own) (set : Int) = some (QI N (q74 g set (eaV own best set sub (g set)))) := by
  have hr := qcU set sub
  have hbr := hb (ZT set sub) (by omega)
  unfold ZI
  rw [qM, if_pos ⟨by omega, by omega⟩, Int.toNat_natCast, Zo own hsub, Option.bind_some]
  unfold eaV
  cases ho : own sub
  · simp only [Bool.false_eq_true, if_false, false_and]
    rw [← QD]
    congr 1
    refine List.ext_getElem? fun k => ?_
    rw [List.getElem?_set]
    split
    · rename_i h; subst h; rw [qM, if_pos hs, Zo _ hs]
    · rfl
  · simp only [if_true, true_and]
    rw [qM, if_pos ⟨by omega, by omega⟩, Int.toNat_natCast, Zo best (by omega), Option.bind_some]
    by_cases h0 : 0 ≤ best (ZT set sub)
    · rw [if_pos h0, if_pos h0, qM, if_pos ⟨by omega, by omega⟩, Int.toNat_natCast, Zo g hs, Option.bind_some, if_pos ⟨by omega, by omega⟩, Option.bind_some, if_pos ⟨by omega, by omega⟩, if_pos (by omega), Qk (by omega) (by omega), QD]
    · rw [if_neg h0, if_neg h0, ← QD]
      congr 1
      refine List.ext_getElem? fun k => ?_
      rw [List.getElem?_set]
      split
      · rename_i h; subst h; rw [qM, if_pos hs, Zo _ hs]
      · rfl
theorem q9W {set : Nat} (hs : set < N) : ∀ (f sub : Nat), sub ≤ f → sub ≤ set → ∀ (g : Nat → Int), qQ (qJ (QI N best) (QI N own) (set : Int) (set : Int)) (QI N g, (sub : Int)) = some (QI N (q74 g set (eaF own best set f sub (g set)))) := by
  have hself : ∀ g : Nat → Int, q74 g set (g set) = g := fun g => by funext k; unfold q74; split <;> simp_all
  have h0 : ∀ (g : Nat → Int), qQ (qJ (QI N best) (QI N own) (set : Int) (set : Int)) (QI N g, ((0 : Nat) : Int)) = some (QI N g) := fun g => by
    refine zl ?_
    unfold qJ
    simp
  intro f
  induction f with
  | zero =>
    intro sub hf _ g
    have : sub = 0 := by omega
    subst this
    rw [h0]
    unfold eaF
    rw [hself]
  | succ f ih =>
    intro sub hf hle g
    unfold eaF
    by_cases hz : sub = 0
    · subst hz
      rw [h0, if_pos rfl, hself]
    · have ha : (sub - 1) &&& set ≤ sub - 1 := Nat.and_le_left
      have hstep : qJ (QI N best) (QI N own) (set : Int) (set : Int) (QI N g, (sub : Int)) = some (.inl (QI N (q74 g set (eaV own best set sub (g set))), ((((sub - 1) &&& set : Nat)) : Int))) := by
        unfold qJ
        simp only
        rw [if_pos (by omega), qdL _ _ (by omega) (by omega), Qk (by omega) (by omega), show ((sub : Int) - 1) = ((sub - 1 : Nat) : Int) by omega, q9V _ _ (by omega) (by omega)]
        have := qjg hN hM hb (own := own) hs (sub := sub) (by omega) g
        unfold ZT at this
        rw [this, Option.bind_some]
      rw [zU hstep, ih _ (by omega) (by omega), if_neg hz, q8z, q5S]
end
def stF (skip : Bool) (own : Nat → Bool) (best : Nat → Int) (set : Nat) : Int := eaF own best set set set (if skip = true then best set else -1)
theorem qmj {own : Nat → Bool} {best : Nat → Int} {N : Nat} {M : Int} (hb : Bnd best N M) (hM : -1 ≤ M) {set sub : Nat} (hs : set < N) {v : Int} (h : -1 ≤ v ∧ v ≤ M + 1) : -1 ≤ eaV own best set sub v ∧ eaV own best set sub v ≤ M + 1 := by
  have := hb (ZT set sub) (Nat.lt_of_le_of_lt (qcU set sub) hs)
  unfold eaV
  split <;> omega
theorem qgh {own : Nat → Bool} {best : Nat → Int} {N : Nat} {M : Int} (hb : Bnd best N M) (hM : -1 ≤ M) {set : Nat} (hs : set < N) : ∀ (f sub : Nat) (v : Int), -1 ≤ v ∧ v ≤ M + 1 → -1 ≤ eaF own best set f sub v ∧ eaF own best set f sub v ≤ M + 1
  | 0, _, _, h => h
  | f + 1, sub, v, h => by
    unfold eaF
    split
    · exact h
    · exact qgh hb hM hs f _ _ (qmj hb hM hs h)
theorem qfg {skip : Bool} {own : Nat → Bool} {best : Nat → Int} {N : Nat} {M : Int} (hb : Bnd best N M) (hM : -1 ≤ M) : Bnd (stF skip own best) N (M + 1) := fun k hk => by
  unfold stF
  have := hb k hk
  refine qgh hb hM hk _ _ _ ?_
  split <;> omega
end Go.Proofs.Ytgejdfnidjnjcaa.Vc
namespace Go.Proofs.Ytgejdfnidjnjcaa.Vc
open Go.RowKit
set_option linter.unusedVariables false
set_option linter.unusedSimpArgs false
def b0F (k : Nat) : Int := if k = 0 then 0 else -1
def alG (leaf : Int) (set : Nat) : List Int → Nat → Bool
  | [], _ => true
  | x :: d, k => (set.testBit k == (x == leaf)) && alG leaf set d (k + 1)
def alF (d : List Int) (leaf set : Nat) : Bool := alG (leaf : Int) set d 0
def foF (d : List Int) (a b : Nat) : Bool := d.any fun x => decide ((a : Int) ≤ x) && decide (x < (b : Int))
def Ja (d : List Int) (s : qd) (l : List qa) (n : qb) (nx set : Nat) : Bool := decide (set ≠ 0) && (alF d nx set && q9d n (wgF n s set l 0 ld0))
mutual
def lvN : qb → Nat
  | ⟨k, _, _, _, L⟩ => if k = 1 ∨ k = 2 then 1 else lvL L
def lvL : List qb → Nat
  | [] => 0
  | x :: L => lvN x + lvL L
end
mutual
def ndN : qb → List qb
  | ⟨k, n, m, S, L⟩ => ⟨k, n, m, S, L⟩ :: ndL L
def ndL : List qb → List qb
  | [] => []
  | x :: L => ndN x ++ ndL L
end
theorem q8D (n : qb) : lvN n = if n.Kind = 1 ∨ n.Kind = 2 then 1 else lvL n.L := by cases n; rw [lvN]
theorem QZ (n : qb) : ndN n = n :: ndL n.L := by cases n; rw [ndN]
mutual
def Q8 (d : List Int) (s : qd) (l : List qa) : qb → Nat → Nat → Bool
  | ⟨k, n, m, S, L⟩, nx, set => if k = 1 ∨ k = 2 then Ja d s l ⟨k, n, m, S, L⟩ nx set else decide (set ≠ 0) && decide ((if k = 3 then (L.length : Int) else n) ≤ q7s d s l (k == 4) L nx b0F set)
def q7s (d : List Int) (s : qd) (l : List qa) (sk : Bool) : List qb → Nat → (Nat → Int) → Nat → Int
  | [], _, b, set => b set
  | x :: L, nx, b, set => q7s d s l sk L (nx + lvN x) (stF (sk && !foF d nx (nx + lvN x)) (Q8 d s l x nx) b) set
end
theorem q5O (d : List Int) (s : qd) (l : List qa) (n : qb) (nx set : Nat) : Q8 d s l n nx set = if n.Kind = 1 ∨ n.Kind = 2 then Ja d s l n nx set else decide (set ≠ 0) && decide ((if n.Kind = 3 then (n.L.length : Int) else n.N) ≤ q7s d s l (n.Kind == 4) n.L nx b0F set) := by cases n; rw [Q8]
theorem qdJ : ∀ n : qb, lvN n ≤ (ndN n).length := by
  intro n
  induction n using qb.rec (motive_2 := fun L => lvL L ≤ (ndL L).length) with
  | mk k n m S L ih => rw [lvN, ndN, List.length_cons]; split <;> omega
  | nil => simp [lvL]
  | cons x L h1 h2 => rw [lvL, ndL, List.length_append]; omega
theorem qdg (d : List Int) (hd : d.length ≤ 16) (leaf set : Nat) (hs : set < 9223372036854775808) : QG (leaf : Int) (set : Int) d = some (alF d leaf set) := by
  have h1 := Ju (ε := Unit ⊕ Unit) (step := Qg d (leaf : Int) (set : Int) (d.length : Int)) d (fun (_ : Unit) i => (i : Int)) (fun i _ x => if (set.testBit i == (x == (leaf : Int))) = true then .inl () else .inr (.inl ())) (fun _ => .inr ()) (fun _ i x hx => by
      have hi := JH hx
      have hw : w64 ((i : Int) + 1) = ((i + 1 : Nat) : Int) := za hi (by omega)
      unfold Qg
      rw [if_pos (by omega), if_pos ⟨by omega, by omega⟩, Int.toNat_natCast, hx, Option.bind_some, if_pos (by omega), hw, qgi set i hs (by omega)]
      cases (set.testBit i == (x == (leaf : Int))) <;> simp) (fun _ => by
      unfold Qg
      rw [if_neg (by omega)]) ()
  unfold QG
  change Option.bind (qQ _ ((0 : Nat) : Int)) _ = _
  rw [h1, Option.bind_some]
  have : ∀ (d : List Int) (k : Nat), (Sum.elim (fun (_ : Unit) => some false) (fun (_ : Unit) => some true) (q17 (ε := Unit ⊕ Unit) (fun i (_ : Unit) (x : Int) => if (set.testBit i == (x == (leaf : Int))) = true then .inl () else .inr (.inl ())) (fun _ => .inr ()) d k ())) = some (alG leaf set d k) := by
    intro d
    induction d with
    | nil => intro k; rfl
    | cons x d ih =>
      intro k
      unfold q17 alG
      cases h : (set.testBit k == (x == (leaf : Int)))
      · simp
      · simp only [if_true, Bool.true_and]; exact ih (k + 1)
  exact this d 0
theorem qfj (d : List Int) (hd : d.length ≤ 16) (a b : Nat) : QU (a : Int) (b : Int) d = some (foF d a b) := by
  have h1 := Ju (ε := Int ⊕ Unit) (step := qH (a : Int) (b : Int) d (d.length : Int)) d (fun (_ : Unit) i => (i : Int)) (fun i _ x => if (decide ((a : Int) ≤ x) && decide (x < (b : Int))) = true then .inr (.inl (i : Int)) else .inl ()) (fun _ => .inr ()) (fun _ i x hx => by
      have hi := JH hx
      have hw : w64 ((i : Int) + 1) = ((i + 1 : Nat) : Int) := za hi (by omega)
      unfold qH QQ
      rw [if_pos (by omega), if_pos ⟨by omega, by omega⟩, Int.toNat_natCast, hx, Option.bind_some, hw]
      by_cases h2 : (a : Int) ≤ x
      · by_cases h3 : x < (b : Int) <;> simp [h2, h3]
      · simp [h2]) (fun _ => by
      unfold qH
      rw [if_neg (by omega)]) ()
  unfold QU qR qZ
  change Option.bind (Option.bind (Option.bind (qQ _ ((0 : Nat) : Int)) _) _) _ = _
  rw [h1, Option.bind_some]
  have : ∀ (d : List Int) (k : Nat), ((Sum.elim (fun (a2 : Int) => some a2) (fun (_ : Unit) => some (-(1 : Int))) (q17 (ε := Int ⊕ Unit) (fun i (_ : Unit) (x : Int) => if (decide ((a : Int) ≤ x) && decide (x < (b : Int))) = true then .inr (.inl (i : Int)) else .inl ()) (fun _ => .inr ()) d k ())).bind fun a => some (decide ((0 : Int) ≤ a))) = some (foF d a b) := by
    intro d
    induction d with
    | nil => intro k; rfl
    | cons x d ih =>
      intro k
      unfold q17 foF
      rw [List.any_cons]
      cases h : (decide ((a : Int) ≤ x) && decide (x < (b : Int)))
      · simp only [Bool.false_eq_true, if_false, Bool.false_or]; exact ih (k + 1)
      · simp
  have h2 := this d 0
  rw [Option.bind_eq_some_iff] at h2
  obtain ⟨i, h3, h4⟩ := h2
  rw [h3, Option.bind_some, h4, Option.bind_some]
end Go.Proofs.Ytgejdfnidjnjcaa.Vc
namespace Go.Proofs.Ytgejdfnidjnjcaa.Vc
open Go.RowKit
set_option linter.unusedVariables false
set_option linter.unusedSimpArgs false
mutual
def hgN : qb → Nat
  | ⟨_, _, _, _, L⟩ => 1 + hgL L
def hgL : List qb → Nat
  | [] => 0
  | x :: L => max (hgN x) (hgL L)
end
mutual
def dpN (d : Int) : qb → Int → Int
  | ⟨_, _, _, _, L⟩, m => dpL (d + 1) L (max m d)
def dpL (d : Int) : List qb → Int → Int
  | [], m => m
  | x :: L, m => dpL d L (dpN d x m)
end
theorem q9p (n : qb) : hgN n = 1 + hgL n.L := by cases n; rw [hgN]
theorem qjX (d : Int) (n : qb) (m : Int) : dpN d n m = dpL (d + 1) n.L (max m d) := by cases n; rw [dpN]
theorem q3S (k : Nat) (h : k ≤ 100000) : k ≤ maxLen ∧ k * 72 ≤ 140737488355328 := ⟨by unfold maxLen; omega, by omega⟩
def qjF (y : qb) : Prop := ∀ (deep : Int) (w : List qb) (b2 : Int) (b3 : Bool), 1 ≤ deep → deep + hgN y ≤ 101 → w.length + (ndN y).length ≤ 10000 → Qn (y, deep, w, b2, b3) = some (.inr (w ++ ndN y, dpN deep y b2, b3))
theorem qd4 (rF : (qb × Int × List qb × Int × Bool) → Option (Int ⊕ (List qb × Int × Bool))) (deep : Int) (hd : 1 ≤ deep) (L : List qb) (hL : L.length ≤ 10000)
    (step : List qb × Int × Bool × Int → Option ((List qb × Int × Bool × Int) ⊕ (Int ⊕ (List qb × Int × Bool))))
    (hst : ∀ w b2 b3 (i : Nat), step (w, b2, b3, (i : Int)) = if (i : Int) < (L.length : Int) then if (0 : Int) ≤ i ∧ (i : Int) < (L.length : Int) then Option.bind L[Int.toNat i]? fun a2 => Option.bind (rF (a2, w64 (deep + 1), w, b2, b3)) fun a3 => Sum.elim (fun a4 => some (Sum.inr (Sum.inl a4))) (fun a5 => some (Sum.inl (a5.1, a5.2.1, a5.2.2, w64 ((i : Int) + 1)))) a3 else none else some (.inr (.inr (w, b2, b3))))
    (hP : ∀ y ∈ L, ∀ (w : List qb) (b2 : Int) (b3 : Bool), deep + 1 + hgN y ≤ 101 → w.length + (ndN y).length ≤ 10000 → rF (y, deep + 1, w, b2, b3) = some (.inr (w ++ ndN y, dpN (deep + 1) y b2, b3))) :
    ∀ (r : List qb) (i : Nat) (w : List qb) (b2 : Int) (b3 : Bool), r.length + i = L.length → (∀ j, r[j]? = L[i + j]?) → deep + 1 + hgL r ≤ 101 → w.length + (ndL r).length ≤ 10000 →
    qQ step (w, b2, b3, (i : Int)) = some (.inr (w ++ ndL r, dpL (deep + 1) r b2, b3)) := by
  intro r
  induction r with
  | nil =>
    intro i w b2 b3 hi _ _ _
    have hi : i = L.length := by simpa using hi
    subst hi
    refine zl ?_
    rw [hst, if_neg (by omega), ndL, dpL, List.append_nil]
  | cons y r ih =>
    intro i w b2 b3 hi hr hh hw
    rw [hgL] at hh
    rw [ndL, List.length_append] at hw
    simp only [List.length_cons] at hi
    have hget : L[i]? = some y := by have := hr 0; simpa using this.symm
    have hlt := JH hget
    have hcall := hP y (List.mem_of_getElem? hget) w b2 b3 (by omega) (by omega)
    have hstep : step (w, b2, b3, (i : Int)) = some (.inl (w ++ ndN y, dpN (deep + 1) y b2, b3, ((i + 1 : Nat) : Int))) := by
      rw [hst, if_pos (by omega), if_pos ⟨by omega, by omega⟩, Int.toNat_natCast, hget, Option.bind_some, Qk (by omega) (by omega), hcall, Option.bind_some, za hlt (by omega)]
      rfl
    rw [zU hstep, ih (i + 1) _ _ _ (by omega) (fun j => by rw [show i + 1 + j = i + (j + 1) by omega, ← hr (j + 1)]; rfl) (by omega) (by rw [List.length_append]; omega), ndL, dpL, List.append_assoc]
theorem q8f (L : List qb) : L.length ≤ (ndL L).length := by
  induction L with
  | nil => simp
  | cons x L ih => rw [ndL, List.length_append, List.length_cons, QZ, List.length_cons]; omega
theorem qkQ : ∀ (m : Nat) (y : qb), (ndN y).length ≤ m → qjF y := by
  intro m
  induction m with
  | zero => intro y h; rw [QZ] at h; simp at h
  | succ m ih =>
    intro y h deep w b2 b3 hd hh hw
    rw [QZ, List.length_cons] at h hw
    rw [q9p] at hh
    have hsub : ∀ (L : List qb), (ndL L).length ≤ m → ∀ z ∈ L, qjF z := by
      intro L
      induction L with
      | nil => intro _ z hz; simp at hz
      | cons x L ihl =>
        intro g z hz
        rw [ndL, List.length_append] at g
        rcases List.mem_cons.1 hz with rfl | hz
        · exact ih _ (by omega)
        · exact ihl (by omega) z hz
    have hP := hsub y.L (by omega)
    have hl := q8f y.L
    rw [q2v, Qs]
    unfold Zu
    have hne : (((w.length : Nat) : Int) == (10000 : Int)) = false := by simp; omega
    rw [if_neg (by omega), if_neg (by rw [hne]; simp), if_pos ⟨(q3S _ (by omega)).1, (q3S _ (by omega)).2⟩, Option.bind_some, Sum.elim_inr]
    have h1 := qd4 Qn deep hd y.L (by omega) (Qv Qn deep y.L (y.L.length : Int)) (fun w b2 b3 i => by rfl) (fun z hz w b2 b3 g1 g2 => hP z hz (deep + 1) w b2 b3 (by omega) g1 g2) y.L 0 (w ++ [y]) (max b2 deep) b3 (by simp) (by simp) (by omega) (by rw [List.length_append, List.length_singleton]; omega)
    rw [show ((0 : Nat) : Int) = 0 from rfl] at h1
    dsimp only
    have h2 : (⟨y.Kind, y.N, y.Min, y.Set, y.L⟩ : qb) = y := by cases y; rfl
    rw [h2, h1, Option.bind_some, Sum.elim_inr, QZ, qjX, List.append_assoc]
    rfl
theorem qfI (n : qb) (hh : hgN n ≤ 100) (hn : (ndN n).length ≤ 9999) : ZN n = some (ndN n, dpN 1 n 0, true) := by
  rw [q9p] at hh
  rw [QZ, List.length_cons] at hn
  have hl := q8f n.L
  unfold ZN Zz q06 J7
  rw [if_neg (by omega), if_pos (by unfold maxLen; omega), Option.bind_some, Sum.elim_inr]
  have h1 := qd4 Qn 1 (by omega) n.L (by omega) (Zy 1 n.L (n.L.length : Int)) (fun w b2 b3 i => by rfl) (fun z hz w b2 b3 g1 g2 => qkQ _ z (Nat.le_refl _) (1 + 1) w b2 b3 (by omega) g1 g2) n.L 0 [n] (max 0 1) false (by simp) (by simp) (by omega) (by simp only [List.length_singleton]; omega)
  rw [show ((0 : Nat) : Int) = 0 from rfl] at h1
  dsimp only
  have h2 : (⟨n.Kind, n.N, n.Min, n.Set, n.L⟩ : qb) = n := by cases n; rfl
  rw [h2, h1, Option.bind_some, Sum.elim_inr, Option.bind_some, Sum.elim_inr, Option.bind_some, Sum.elim_inr, QZ, qjX]
  rfl
def J6 (n : qb) : Bool := n.Kind != 3 && n.Kind != 4
theorem qhP (n : qb) : Zq n = J6 n := by
  unfold Zq J6
  cases h : (n.Kind != 3) <;> simp
theorem qe7 (l : List qc) (h : l.length ≤ 1000000) : qC l = some () := by
  unfold qC
  rw [if_pos ⟨by unfold maxLen; omega, by omega⟩]
theorem qes : ∀ (m : Nat) (n : qb), (ndN n).length ≤ m → (ndN n).length ≤ 100000 → (∀ y ∈ ndN n, y.Set.length ≤ 1000000) → Qm n = some n := by
  intro m
  induction m with
  | zero => intro n h; rw [QZ] at h; simp at h
  | succ m ih =>
    intro n h1 h2 h3
    have hset := h3 n (by rw [QZ]; exact List.mem_cons_self)
    have hsub : ∀ (L : List qb), (ndL L).length ≤ m → (ndL L).length ≤ 100000 → (∀ y ∈ ndL L, y.Set.length ≤ 1000000) → ∀ y ∈ L, Qm y = some y := by
      intro L
      induction L with
      | nil => intro _ _ _ y hy; simp at hy
      | cons x L ihl =>
        intro g1 g2 g3 y hy
        rw [ndL, List.length_append] at g1 g2
        rw [ndL] at g3
        rcases List.mem_cons.1 hy with rfl | hy
        · exact ih _ (by omega) (by omega) fun z hz => g3 z (List.mem_append_left _ hz)
        · exact ihl (by omega) (by omega) (fun z hz => g3 z (List.mem_append_right _ hz)) y hy
    have e0 : ndN n = n :: ndL n.L := QZ n
    have hlen : (ndN n).length = (ndL n.L).length + 1 := by rw [e0]; rfl
    have hP := hsub n.L (by omega) (by omega) fun y hy => h3 y (by rw [e0]; exact List.mem_cons_of_mem _ hy)
    have hl := q8f n.L
    have hn : (⟨n.Kind, n.N, n.Min, n.Set, n.L⟩ : qb) = n := by cases n; rfl
    rw [q2B, Qt, qe7 _ hset, Option.bind_some]
    unfold qX
    rw [if_pos ⟨by unfold maxLen; omega, by omega⟩]
    by_cases hz : n.L.length = 0
    · rw [if_neg (by simp [hz]), Option.bind_some, Sum.elim_inr]
      rw [zl (e := ()) (by unfold zY; rw [if_neg (by omega)]), Option.bind_some]
    · rw [if_pos hz, Option.bind_some, Sum.elim_inl]
      have hL : ∀ i0 : Nat, qQ (Q4 Qm n.Kind n.N n.Min n.Set 0 0 0 (n.L.length : Int)) (n.L, ((0 : Nat) : Int)) = some n.L := fun _ => by
        refine Je (fun i => (n.L, (i : Int))) 0 n.L.length (Nat.zero_le _) (fun i _ hi => ?_) ?_
        · obtain ⟨y, hy⟩ : ∃ y, n.L[i]? = some y := ⟨_, List.getElem?_eq_getElem hi⟩
          unfold Q4
          simp only
          rw [if_pos (by omega), if_pos ⟨by omega, by omega⟩, Int.toNat_natCast, hy, Option.bind_some, hP y (List.mem_of_getElem? hy), Option.bind_some, if_pos ⟨by omega, by omega⟩, if_pos (by omega), za hi (by omega)]
          have : n.L.set i y = n.L := by
            obtain ⟨h1, h2⟩ := List.getElem?_eq_some_iff.1 hy
            rw [← h2, List.set_getElem_self]
          rw [this]
        · unfold Q4
          simp only
          rw [if_neg (by omega)]
      have := hL 0
      rw [show ((0 : Nat) : Int) = 0 from rfl] at this
      rw [this, Option.bind_some, hn]
theorem qaH (n : qb) (hh : hgN n ≤ 100) (hn : (ndN n).length ≤ 9999) (hs : ∀ y ∈ ndN n, y.Set.length ≤ 1000000) : QO n = some ((ndN n).filter J6) := by
  have hsub : ∀ (m : Nat) (n y : qb), (ndN n).length ≤ m → y ∈ ndN n → (ndN y).length ≤ (ndN n).length ∧ ∀ z ∈ ndN y, z ∈ ndN n := by
    intro m
    induction m with
    | zero => intro n y h; rw [QZ] at h; simp at h
    | succ m ih =>
      intro n y h hy
      rw [QZ] at hy
      rcases List.mem_cons.1 hy with rfl | hy
      · exact ⟨Nat.le_refl _, fun z hz => hz⟩
      · have hL : ∀ (L : List qb), (ndL L).length ≤ m → y ∈ ndL L → (ndN y).length ≤ (ndL L).length ∧ ∀ z ∈ ndN y, z ∈ ndL L := by
          intro L
          induction L with
          | nil => intro _ h; simp [ndL] at h
          | cons x L ihl =>
            intro g gy
            rw [ndL, List.length_append] at g
            rw [ndL] at gy ⊢
            rw [List.length_append]
            rcases List.mem_append.1 gy with gy | gy
            · obtain ⟨a, b⟩ := ih x y (by omega) gy
              exact ⟨by omega, fun z hz => List.mem_append_left _ (b z hz)⟩
            · obtain ⟨a, b⟩ := ihl (by omega) gy
              exact ⟨by omega, fun z hz => List.mem_append_right _ (b z hz)⟩
        have e0 := QZ n
        have : (ndN n).length = (ndL n.L).length + 1 := by rw [e0]; rfl
        obtain ⟨a, b⟩ := hL n.L (by omega) hy
        exact ⟨by omega, fun z hz => by rw [e0]; exact List.mem_cons_of_mem _ (b z hz)⟩
  have hc : ∀ y ∈ ndN n, J6 y = true → Qm y = some y := fun y hy _ => by
    obtain ⟨a, b⟩ := hsub _ n y (Nat.le_refl _) hy
    exact qes _ y (Nat.le_refl _) (by omega) fun z hz => hs z (b z hz)
  clear hsub hs
  unfold QO
  rw [qfI n hh hn, Option.bind_some]
  simp only
  generalize ndN n = l at hn hc
  have key : ∀ (r : List qb) (i : Nat) (b : List qb), r.length + i = l.length → (∀ j, r[j]? = l[i + j]?) → b.length ≤ i → qQ (zt l (l.length : Int)) (b, (i : Int)) = some (b ++ r.filter J6) := by
    intro r
    induction r with
    | nil =>
      intro i b hi _ _
      have hi : i = l.length := by simpa using hi
      subst hi
      refine zl ?_
      unfold zt
      simp
    | cons y r ih =>
      intro i b hi hr hb
      simp only [List.length_cons] at hi
      have hget : l[i]? = some y := by have := hr 0; simpa using this.symm
      have hlt := JH hget
      have hstep : zt l (l.length : Int) (b, (i : Int)) = some (.inl (if J6 y = true then b ++ [y] else b, ((i + 1 : Nat) : Int))) := by
        unfold zt
        simp only
        rw [if_pos (by omega), if_pos ⟨by omega, by omega⟩, Int.toNat_natCast, hget, Option.bind_some, qhP, za hlt (by omega)]
        cases h : J6 y
        · simp
        · rw [hc y (List.mem_of_getElem? hget) h, Option.bind_some, if_pos rfl, if_pos ⟨(q3S _ (by omega)).1, (q3S _ (by omega)).2⟩]
          simp
      have hb2 : (if J6 y = true then b ++ [y] else b).length ≤ i + 1 := by
        split
        · rw [List.length_append, List.length_singleton]; omega
        · omega
      rw [zU hstep, ih (i + 1) _ (by omega) (fun j => by rw [show i + 1 + j = i + (j + 1) by omega, ← hr (j + 1)]; rfl) hb2, List.filter_cons]
      cases J6 y <;> simp
  have := key l 0 [] (by simp) (by simp) (by simp)
  change Option.bind (qQ _ ([], ((0 : Nat) : Int))) _ = _
  rw [this, Option.bind_some, List.nil_append]
end Go.Proofs.Ytgejdfnidjnjcaa.Vc
namespace Go.Proofs.Ytgejdfnidjnjcaa.Vc
open Go.RowKit
set_option linter.unusedVariables false
set_option linter.unusedSimpArgs false
def q73 (b : UInt8) : Bool := (48 ≤ b.toNat && b.toNat ≤ 57) || (65 ≤ b.toNat && b.toNat ≤ 90)
theorem qjl (s : ByteArray) (i : Nat) (h : (s.get! i).toNat < 128) : Utf8.decode s i = ((s.get! i).toNat, 1) := by
  unfold Utf8.decode
  simp only [Nat.add_zero]
  rw [if_pos h]
theorem qkf (s : ByteArray) (i : Nat) (h : ¬ (s.get! i).toNat < 128) : 128 ≤ (Utf8.decode s i).1 := by
  unfold Utf8.decode
  simp only [Nat.add_zero]
  rw [if_neg h]
  have hr : 128 ≤ Utf8.runeError := by decide
  split
  · split
    · assumption
    · exact hr
  · split
    · split
      · rename_i h; simp only [ge_iff_le, Bool.and_eq_true, decide_eq_true_eq] at h; omega
      · exact hr
    · split
      · split
        · rename_i h; simp only [ge_iff_le, Bool.and_eq_true, decide_eq_true_eq] at h; omega
        · exact hr
      · exact hr
theorem q9v (b : UInt8) (h : b.toNat < 128) : zT (b.toNat : Int) = !q73 b := by
  unfold zT q73
  by_cases h1 : b.toNat < 65
  · rw [if_pos (by omega)]
    by_cases h2 : b.toNat < 48
    · rw [if_pos (by omega)]
      have e1 : decide (48 ≤ b.toNat) = false := decide_eq_false (by omega)
      have e2 : decide (65 ≤ b.toNat) = false := decide_eq_false (by omega)
      simp [e1, e2]
    · rw [if_neg (by omega)]
      have e1 : decide (48 ≤ b.toNat) = true := decide_eq_true (by omega)
      have e2 : decide (65 ≤ b.toNat) = false := decide_eq_false (by omega)
      by_cases h3 : b.toNat ≤ 57
      · have e3 : decide (b.toNat ≤ 57) = true := decide_eq_true h3
        have e4 : decide ((57 : Int) < b.toNat) = false := decide_eq_false (by omega)
        simp [e1, e2, e3, e4]
      · have e3 : decide (b.toNat ≤ 57) = false := decide_eq_false h3
        have e4 : decide ((57 : Int) < b.toNat) = true := decide_eq_true (by omega)
        simp [e1, e2, e3, e4]
  · rw [if_neg (by omega)]
    have e0 : decide (b.toNat ≤ 57) = false := decide_eq_false (by omega)
    have e1 : decide (65 ≤ b.toNat) = true := decide_eq_true (by omega)
    by_cases h2 : 90 < b.toNat
    · rw [if_pos (by omega), if_neg (by omega)]
      have e3 : decide (b.toNat ≤ 90) = false := decide_eq_false (by omega)
      have e4 : decide ((57 : Int) < b.toNat) = true := decide_eq_true (by omega)
      simp [e0, e1, e3, e4]
    · rw [if_neg (by omega)]
      have e3 : decide (b.toNat ≤ 90) = true := decide_eq_true (by omega)
      simp [e0, e1, e3]
theorem qer (n : Nat) (h : 128 ≤ n) : zT (n : Int) = true := by
  unfold zT
  rw [if_neg (by omega), if_pos (by omega), if_neg (by omega)]
  exact decide_eq_true (by omega)
theorem qj5 (s : ByteArray) (i : Nat) (h : i < s.size) : s.get! i = s.data.toList.getD i 0 := by
  obtain ⟨⟨l⟩⟩ := s
  have h' : i < l.length := h
  show (Array.mk l)[i]! = l.getD i 0
  simp [h', List.getD]
theorem qbi (s : ByteArray) : ∀ (r : List UInt8) (p : Nat), r.length + p = s.size → (∀ j, r[j]? = s.data.toList[p + j]?) → ∃ e, qQ (qN s true) p = some e ∧ ((∃ i : Int, e = .inl i ∧ 0 ≤ i ∧ r.all q73 = false) ∨ (e = .inr () ∧ r.all q73 = true)) := by
  intro r
  induction r with
  | nil =>
    intro p hp _
    have hp : p = s.size := by simpa using hp
    subst hp
    refine ⟨.inr (), zl ?_, .inr ⟨rfl, rfl⟩⟩
    unfold qN
    rw [if_neg (by omega)]
  | cons b r ih =>
    intro p hp hr
    simp only [List.length_cons] at hp
    have hb : s.data.toList[p]? = some b := by have := hr 0; simpa using this.symm
    have hg : s.get! p = b := by rw [qj5 s p (by omega), List.getD, hb]; rfl
    by_cases h : b.toNat < 128
    · have hd := qjl s p (by rw [hg]; exact h)
      rw [hg] at hd
      cases ho : q73 b
      · refine ⟨.inl (p : Int), zl ?_, .inl ⟨_, rfl, by omega, by simp [ho]⟩⟩
        unfold qN
        rw [if_pos (by omega), hd, q9v b h, ho]
        rfl
      · obtain ⟨e, h1, h2⟩ := ih (p + 1) (by omega) (fun j => by rw [show p + 1 + j = p + (j + 1) by omega, ← hr (j + 1)]; rfl)
        refine ⟨e, ?_, by rw [List.all_cons, ho, Bool.true_and]; exact h2⟩
        rw [zU (y := p + 1) (by
          unfold qN
          rw [if_pos (by omega), hd, q9v b h, ho]
          rfl)]
        exact h1
    · have hbig := qkf s p (by rw [hg]; exact h)
      have hbad : q73 b = false := by
        unfold q73
        have e1 : decide (b.toNat ≤ 57) = false := decide_eq_false (by omega)
        have e2 : decide (b.toNat ≤ 90) = false := decide_eq_false (by omega)
        simp [e1, e2]
      refine ⟨.inl (p : Int), zl ?_, .inl ⟨_, rfl, by omega, by simp [hbad]⟩⟩
      unfold qN
      rw [if_pos (by omega), qer _ hbig]
      rfl
def qik (s : ByteArray) : Bool := decide (s.size ≠ 0) && decide (s.size ≤ 8) && s.data.toList.all q73
theorem qdj (s : ByteArray) : (s.toList == ByteArray.toList (ByteArray.mk (List.toArray []))) = decide (s.size = 0) := by
  rw [ByteArray.toList_eq, ByteArray.toList_eq]
  obtain ⟨⟨l⟩⟩ := s
  show (l == []) = decide (l.length = 0)
  cases l <;> simp
theorem qlh (s : ByteArray) : Zf s = some (qik s) := by
  unfold Zf qik
  rw [qdj]
  by_cases h0 : s.size = 0
  · simp [h0]
  · have e0 : decide (s.size = 0) = false := decide_eq_false h0
    have e1 : decide (s.size ≠ 0) = true := decide_eq_true h0
    rw [e0, e1, if_pos (by rfl)]
    by_cases h8 : s.size ≤ 8
    · have e2 : decide (s.size ≤ 8) = true := decide_eq_true h8
      obtain ⟨e, h1, h2⟩ := qbi s s.data.toList 0 (by simp) (by simp)
      rw [if_pos (by omega), e2]
      unfold Qc Qi
      rw [h1, Option.bind_some]
      rcases h2 with ⟨i, rfl, hi, ha⟩ | ⟨rfl, ha⟩
      · rw [Sum.elim_inl, Option.bind_some, Option.bind_some, ha]
        have : decide (i < 0) = false := decide_eq_false (by omega)
        rw [this]; rfl
      · rw [Sum.elim_inr, Option.bind_some, Option.bind_some, ha]
        rfl
    · have e2 : decide (s.size ≤ 8) = false := decide_eq_false h8
      rw [if_neg (by omega), e2]
      rfl
def inF (n a b : Int) : Bool := decide (a ≤ n) && decide (n ≤ b)
theorem q1N (n a b : Int) : qG n a b = inF n a b := by
  unfold qG inF
  by_cases h : a ≤ n <;> simp [h]
def Jj (c : qc) : Bool := inF c.School 1 8 && qik c.Code
theorem qim (c : qc) : ZL c = some (Jj c) := by
  unfold ZL Jj
  rw [q1N, qlh]
  cases inF c.School 1 8 <;> simp
def qii (x y : Int) : Int := if x < y then -1 else if y < x then 1 else 0
def qq9 (x y : ByteArray) : Int := if Op.bytesLess x.toList y.toList = true then -1 else if x.toList == y.toList then 0 else 1
def qmu (a b : qc) : Int := if a.School ≠ b.School then qii a.School b.School else qq9 a.Code b.Code
theorem qrw (x y : Int) : Zc [x, y] = some (if x ≠ 0 then x else y) := by
  unfold Zc
  by_cases hx : x = 0
  · by_cases hy : y = 0
    · rw [zU (y := 1) (by unfold zE; simp [hx]; rfl), zU (y := 2) (by unfold zE; simp [hx, hy]; rfl), zl (e := .inr ()) (by unfold zE; simp)]
      simp [hx, hy]
    · rw [zU (y := 1) (by unfold zE; simp [hx]; rfl), zl (e := .inl y) (by unfold zE; simp [hx, hy])]
      simp [hx, hy]
  · rw [zl (e := .inl x) (by unfold zE; simp [hx])]
    simp [hx]
theorem q9i (a b : qc) : QS a b = some (qmu a b) := by
  unfold QS
  rw [qrw, Option.bind_some]
  congr 1
  have e1 : zQ a.School b.School = qii a.School b.School := by
    unfold zQ zd qii
    simp
  have e2 : zj a.Code b.Code = qq9 a.Code b.Code := by
    unfold zj qq9
    cases h1 : Op.bytesLess a.Code.toList b.Code.toList
    · cases h2 : (a.Code.toList == b.Code.toList) <;> simp
    · simp
  rw [e1, e2]
  unfold qmu
  by_cases h : a.School = b.School
  · have : qii a.School b.School = 0 := by unfold qii; rw [if_neg (by omega), if_neg (by omega)]
    simp [h, this]
    intro h2; exact absurd (by unfold qii; simp) h2
  · have : qii a.School b.School ≠ 0 := by unfold qii; split <;> (try split) <;> omega
    simp [h, this]
def qba : List qc → Bool
  | x :: y :: l => decide (qmu x y < 0) && qba (y :: l)
  | _ => true
def q0h (n : qb) : Int :=
  if inF n.Min (-1000) 1000 = false then 3 else if inF n.Set.length 1 12 = false then 2 else if n.Set.all Jj = false then 1 else if qba n.Set = true then 0 else 7
theorem q98 (l : List qc) (hl : l.length ≤ 1000000) : qp l = some (!l.all Jj) := by
  have h1 := Ju (ε := Int ⊕ Unit) (step := qo l (l.length : Int)) l (fun (b : Unit) i => (i : Int)) (fun i b a => if (!Jj a) = true then .inr (.inl (i : Int)) else .inl ()) (fun _ => .inr ()) (fun b i a ha => by
      have hi := JH ha
      have hw : w64 ((i : Int) + 1) = ((i + 1 : Nat) : Int) := za hi (by omega)
      unfold qo QM
      rw [if_pos (by omega), if_pos ⟨by omega, by omega⟩, Int.toNat_natCast, ha, Option.bind_some, hw, qim, Option.bind_some, Option.bind_some]
      cases Jj a <;> simp) (fun b => by
      unfold qo
      rw [if_neg (by omega)]) ()
  have h2 := q8b (fun a => !Jj a) l 0
  unfold qp qw
  rw [show ((0 : Nat) : Int) = 0 from rfl] at h1
  rw [h1, Option.bind_some]
  have e : l.any (fun a => !Jj a) = !l.all Jj := by
    clear h1 h2 hl
    induction l with
    | nil => rfl
    | cons a l ih => rw [List.any_cons, List.all_cons, ih]; cases Jj a <;> simp
  rw [← e, ← h2]
  cases (q17 (ε := Int ⊕ Unit) (fun i (_ : Unit) (a : qc) => if (!Jj a) = true then .inr (.inl (i : Int)) else .inl ()) (fun _ => .inr ()) l 0 ()) <;> rfl
theorem qdN (n : qb) (hl : n.Set.length ≤ 1000000) : ∀ (r : List qc) (i : Nat), r.length + i = n.Set.length → (∀ j, r[j]? = n.Set[i + j]?) → qQ (zf n n.Set (n.Set.length : Int)) (i : Int) = some (if (match i, n.Set[i - 1]? with | _ + 1, some x => qba (x :: r) | _, _ => qba r) = true then .inr () else .inl ()) := by
  intro r
  induction r with
  | nil =>
    intro i hi _
    have hi : i = n.Set.length := by simpa using hi
    subst hi
    refine zl ?_
    unfold zf
    rw [if_neg (by omega)]
    split <;> simp [qba]
  | cons a r ih =>
    intro i hi hr
    simp only [List.length_cons] at hi
    have hget : n.Set[i]? = some a := by have := hr 0; simpa using this.symm
    have hlt := JH hget
    have hnext := ih (i + 1) (by omega) (fun j => by rw [show i + 1 + j = i + (j + 1) by omega, ← hr (j + 1)]; rfl)
    simp only [Nat.add_sub_cancel, hget] at hnext
    cases i with
    | zero =>
      rw [zU (y := ((0 + 1 : Nat) : Int)) (by
        unfold zf
        rw [if_pos (by omega), if_pos ⟨by omega, by omega⟩, Int.toNat_natCast, hget, Option.bind_some, if_neg (by omega), za hlt (by omega)])]
      exact hnext
    | succ i =>
      obtain ⟨x, hx⟩ : ∃ x, n.Set[i]? = some x := ⟨_, List.getElem?_eq_getElem (by omega)⟩
      simp only [Nat.add_sub_cancel, hx]
      have hw : w64 (((i + 1 : Nat) : Int) - 1) = (i : Int) := by rw [Qk (by omega) (by omega)]; omega
      by_cases hc : qmu x a < 0
      · rw [zU (y := ((i + 1 + 1 : Nat) : Int)) (by
          unfold zf
          rw [if_pos (by omega), if_pos ⟨by omega, by omega⟩, Int.toNat_natCast, hget, Option.bind_some, if_pos (by omega), hw, if_pos ⟨by omega, by omega⟩, Int.toNat_natCast, hx, Option.bind_some, q9i, Option.bind_some, if_neg (by omega), za hlt (by omega)]), hnext]
        simp [qba, hc]
      · rw [zl (e := .inl ()) (by
          unfold zf
          rw [if_pos (by omega), if_pos ⟨by omega, by omega⟩, Int.toNat_natCast, hget, Option.bind_some, if_pos (by omega), hw, if_pos ⟨by omega, by omega⟩, Int.toNat_natCast, hx, Option.bind_some, q9i, Option.bind_some, if_pos (by omega)])]
        simp [qba, hc]
theorem q9m (n : qb) (hl : n.Set.length ≤ 1000000) : QH n = some (q0h n) := by
  unfold QH q0h
  rw [q1N, q1N, q98 _ hl, Option.bind_some]
  have h := qdN n hl n.Set 0 (by simp) (by simp)
  simp only at h
  rw [show ((0 : Nat) : Int) = 0 from rfl] at h
  rw [h, Option.bind_some]
  cases inF n.Min (-1000) 1000
  · simp
  · cases inF n.Set.length 1 12
    · simp
    · cases n.Set.all Jj
      · simp
      · cases qba n.Set <;> simp
def q7D (n : qb) : Bool := n.Min == 0 && n.Set.isEmpty && !n.L.isEmpty
def qa6 (n : qb) : Int :=
  if n.Kind = 1 then (if n.N ≠ 0 ∨ n.L ≠ [] then 13 else q0h n)
  else if n.Kind = 2 then (if n.L ≠ [] then 13 else if inF n.N 1 600 = false then 3 else q0h n)
  else if n.Kind = 3 then (if q7D n = false ∨ n.N ≠ 0 then 13 else 0)
  else if n.Kind = 4 then (if q7D n = false then 13 else if inF n.N 1 n.L.length = false then 3 else 0)
  else 13
theorem qfW (n : qb) : zP n = q7D n := by
  unfold zP q7D
  cases n.Min == 0
  · simp
  · cases hS : n.Set <;> cases hL : n.L <;> simp
    all_goals omega
theorem qrD (n : qb) (hl : n.Set.length ≤ 1000000) : QT n = some (if n.N ≠ 0 ∨ n.L ≠ [] then 13 else q0h n) := by
  unfold QT
  rw [q9m n hl, Option.bind_some]
  by_cases h : n.N = 0
  · cases hL : n.L with
    | nil => simp [h]
    | cons x l => rw [if_neg (by simp [h]), if_pos (by simp), if_pos (.inr (by simp))]
  · simp [h]
theorem qrI (n : qb) (hl : n.Set.length ≤ 1000000) : QV n = some (if n.L ≠ [] then 13 else if inF n.N 1 600 = false then 3 else q0h n) := by
  unfold QV
  rw [q9m n hl, Option.bind_some, q1N]
  cases hL : n.L with
  | nil =>
    cases hI : inF n.N 1 600 <;> simp [hI]
  | cons x l => rw [if_pos (by simp), if_pos (by simp)]
theorem qrK (n : qb) : zN n = if q7D n = false ∨ n.N ≠ 0 then 13 else 0 := by
  unfold zN
  rw [qfW]
  cases q7D n
  · simp
  · by_cases h : n.N = 0 <;> simp [h]
theorem qrx (n : qb) : zM n = if q7D n = false then 13 else if inF n.N 1 n.L.length = false then 3 else 0 := by
  unfold zM
  rw [qfW, q1N]
  cases q7D n
  · simp
  · cases inF n.N 1 n.L.length <;> simp
def qmr (l : List qb) : Option Int := l.findSome? fun y => if qa6 y ≠ 0 then some (qa6 y) else none
theorem qdy (l : List qb) (hl : l.length ≤ 1000000) (hs : ∀ y ∈ l, y.Set.length ≤ 1000000) : qQ (zX l (l.length : Int)) 0 = some (match qmr l with | some e => .inl e | none => .inr ()) := by
  have h1 := qaJ (ε := Int ⊕ Unit) (step := zX l (l.length : Int)) l (fun i => (i : Int)) (fun y => if qa6 y ≠ 0 then some (.inl (qa6 y)) else none) (.inr ()) (fun i y hy => by
      have hi := JH hy
      have hw : w64 ((i : Int) + 1) = ((i + 1 : Nat) : Int) := za hi (by omega)
      have hset := hs y (List.mem_of_getElem? hy)
      unfold zX
      rw [if_pos (by omega), if_pos ⟨by omega, by omega⟩, Int.toNat_natCast, hy, Option.bind_some, hw, qrD y hset, qrI y hset, qrK, qrx, Option.bind_some, Option.bind_some]
      unfold qa6
      by_cases e1 : y.Kind = 1
      · simp only [if_pos e1]; generalize (if y.N ≠ 0 ∨ y.L ≠ [] then 13 else q0h y) = v; by_cases h : v = 0 <;> simp [h]
      · by_cases e2 : y.Kind = 2
        · simp only [if_neg e1, if_pos e2]; generalize (if y.L ≠ [] then 13 else if inF y.N 1 600 = false then 3 else q0h y) = v; by_cases h : v = 0 <;> simp [h]
        · by_cases e3 : y.Kind = 3
          · simp only [if_neg e1, if_neg e2, if_pos e3]; generalize (if q7D y = false ∨ y.N ≠ 0 then (13 : Int) else 0) = v; by_cases h : v = 0 <;> simp [h]
          · by_cases e4 : y.Kind = 4
            · simp only [if_neg e1, if_neg e2, if_neg e3, if_pos e4]; generalize (if q7D y = false then (13 : Int) else if inF y.N 1 y.L.length = false then 3 else 0) = v; by_cases h : v = 0 <;> simp [h]
            · simp [e1, e2, e3, e4]) (by
      unfold zX
      rw [if_neg (by omega)])
  rw [show ((0 : Nat) : Int) = 0 from rfl] at h1
  rw [h1]
  congr 1
  unfold qmr
  clear h1 hl hs
  induction l with
  | nil => rfl
  | cons y l ih =>
    rw [List.findSome?_cons, List.findSome?_cons]
    by_cases h : qa6 y = 0 <;> simp only [h, ne_eq, not_true_eq_false, not_false_eq_true, if_true, if_false]
    · exact ih
    · rfl
def qgg (n : qb) : Int :=
  if 24 < (ndN n).length then 2 else if 5 < dpN 1 n 0 then 2 else if inF ((ndN n).filter J6).length 1 8 = false then 2 else (qmr (ndN n)).getD 0
theorem qi6 (n : qb) (hh : hgN n ≤ 100) (hn : (ndN n).length ≤ 9999) (hs : ∀ y ∈ ndN n, y.Set.length ≤ 1000000) : QP n = some (qgg n) := by
  unfold QP qgg
  rw [qfI n hh hn, Option.bind_some, qaH n hh hn hs]
  simp only [Option.bind_some]
  rw [qdy (ndN n) (by omega) hs, q1N, if_neg (by simp)]
  by_cases h1 : 24 < (ndN n).length
  · rw [if_pos (by omega), if_pos h1]
  · rw [if_neg (by omega), if_neg h1]
    by_cases h2 : 5 < dpN 1 n 0
    · rw [if_pos h2, if_pos h2]
    · rw [if_neg h2, if_neg h2]
      cases inF ((ndN n).filter J6).length 1 8
      · simp
      · simp only [Bool.not_true, Bool.false_eq_true, if_false, Option.bind_some]
        cases qmr (ndN n) <;> rfl
end Go.Proofs.Ytgejdfnidjnjcaa.Vc
namespace Go.Proofs.Ytgejdfnidjnjcaa.Vc
open Go.RowKit
set_option linter.unusedVariables false
set_option linter.unusedSimpArgs false
section
variable {N : Nat} {best : Nat → Int} {M : Int}
theorem qg3 (rF : (qb × List qa × Int × qd) → Option (List Bool × List qa × Int × qd)) (hN : N ≤ 65536) (hM : M ≤ 1000000) (hb : Bnd best N M) (w9 : List Bool) (b0 : List qa) (b3 : Int) (b4 : qd) (b8 : qb) (own : Nat → Bool) (skip : Bool) (t72 : List qb) (t73 t74 : Int) :
    qQ (zc rF w9 (QI N best) b0 b3 b4 b8 (QI N own) skip t72 t73 t74 ((N : Nat) : Int)) (List.replicate N 0, 0) = some (QI N (stF skip own best)) := by
  have h1 := Je (step := zc rF w9 (QI N best) b0 b3 b4 b8 (QI N own) skip t72 t73 t74 ((N : Nat) : Int)) (fun i => (QI N (fun k => if k < i then stF skip own best k else 0), (i : Int))) 0 N (Nat.zero_le _) (e := QI N (stF skip own best)) (fun i _ hi => by
      have hbi := hb i hi
      have hw : w64 ((i : Int) + 1) = ((i + 1 : Nat) : Int) := za hi (by omega)
      have hg : ∀ v : Int, v = (if skip = true then best i else -1) → q74 (q74 (fun k => if k < i then stF skip own best k else 0) i v) i (eaF own best i i i (q74 (fun k => if k < i then stF skip own best k else 0) i v i)) = fun k => if k < i + 1 then stF skip own best k else 0 := fun v hv => by
        funext k
        rw [q8z, q5S]
        unfold q74
        by_cases hk : k = i
        · subst hk
          rw [if_pos rfl, if_pos (by omega)]
          unfold stF
          rw [← hv]
        · rw [if_neg hk]
          show (if k < i then stF skip own best k else 0) = _
          by_cases h : k < i
          · rw [if_pos h, if_pos (by omega)]
          · rw [if_neg h, if_neg (by omega)]
      unfold zc
      simp only
      rw [if_pos (by omega), qM, if_pos ⟨by omega, by omega⟩, Int.toNat_natCast, if_pos (by omega)]
      cases hs : skip
      · simp only [Bool.false_eq_true, if_false]
        rw [QD]
        unfold qF
        rw [q9W hN hM hb (own := own) hi i i (Nat.le_refl _) (Nat.le_refl _), Option.bind_some, Option.bind_some, hw, ← hs, hg (-1) (by rw [hs]; rfl)]
      · simp only [if_true]
        rw [qM, if_pos ⟨by omega, by omega⟩, Zo best hi, Option.bind_some, if_pos ⟨by omega, by omega⟩, if_pos (by omega), QD, QD, q5S]
        unfold qF
        rw [q9W hN hM hb (own := own) hi i i (Nat.le_refl _) (Nat.le_refl _), Option.bind_some, Option.bind_some, hw, ← hs, hg (best i) (by rw [hs]; rfl)]) (by
      unfold zc
      simp only
      rw [if_neg (by omega)]
      congr 2
      exact ZB fun k hk => if_pos hk)
  rw [q1f]
  have e : (fun k : Nat => if k < 0 then stF skip own best k else 0) = fun _ => 0 := by funext k; rw [if_neg (by omega)]
  rw [e] at h1
  exact h1
theorem qkd (rF : (qb × List qa × Int × qd) → Option (List Bool × List qa × Int × qd)) (hN : N ≤ 65536) (hN1 : 1 ≤ N) (w9 : List Bool) (b0 : List qa) (b3 : Int) (b4 : qd) (b8 : qb) :
    qQ (z5 rF w9 b0 b3 b4 b8) (List.replicate N 0, 1) = some (QI N b0F) := by
  have h1 := Je (step := z5 rF w9 b0 b3 b4 b8) (fun i => (QI N (fun k => if 1 ≤ k ∧ k < i then -1 else 0), (i : Int))) 1 N hN1 (e := QI N b0F) (fun i h1 hi => by
      have hw : w64 ((i : Int) + 1) = ((i + 1 : Nat) : Int) := za hi (by omega)
      unfold z5
      simp only
      rw [qM, if_pos (by omega), if_pos ⟨by omega, by omega⟩, Int.toNat_natCast, if_pos (by omega), hw, QD]
      rw [qdT (fun _ => (-1 : Int)) 0 h1]) (by
      unfold z5
      simp only
      rw [qM, if_neg (by omega)]
      congr 2
      refine ZB fun k hk => ?_
      unfold b0F
      by_cases h : k = 0
      · rw [if_pos h, if_neg (by omega)]
      · rw [if_neg h, if_pos (by omega)])
  rw [q1f]
  have e : (fun k : Nat => if 1 ≤ k ∧ k < 1 then (-1 : Int) else 0) = fun _ => 0 := by funext k; rw [if_neg (by omega)]
  rw [e] at h1
  exact h1
theorem qeB (rF : (qb × List qa × Int × qd) → Option (List Bool × List qa × Int × qd)) (hN : N ≤ 65536) (hN1 : 1 ≤ N) (b0 : List qa) (b3 : Int) (b4 : qd) (least : Int) :
    qQ (zb rF (QI N best) b0 b3 b4 least) (List.replicate N false, 1) = some (QI N (fun k => decide (k ≠ 0) && decide (least ≤ best k))) := by
  have h1 := Je (step := zb rF (QI N best) b0 b3 b4 least) (fun i => (QI N (fun k => if 1 ≤ k ∧ k < i then decide (least ≤ best k) else false), (i : Int))) 1 N hN1 (e := QI N (fun k => decide (k ≠ 0) && decide (least ≤ best k))) (fun i h1 hi => by
      have hw : w64 ((i : Int) + 1) = ((i + 1 : Nat) : Int) := za hi (by omega)
      unfold zb
      simp only
      rw [qM, qM, if_pos (by omega), if_pos ⟨by omega, by omega⟩, Int.toNat_natCast, Zo best hi, Option.bind_some, if_pos ⟨by omega, by omega⟩, if_pos (by omega), hw, QD]
      rw [qdT (fun k => decide (least ≤ best k)) false h1]) (by
      unfold zb
      simp only
      rw [qM, if_neg (by omega)]
      congr 2
      refine ZB fun k hk => ?_
      by_cases h : k = 0
      · subst h; simp
      · rw [if_pos ⟨by omega, hk⟩]; simp [h])
  rw [q1f]
  have e : (fun k : Nat => if 1 ≤ k ∧ k < 1 then decide (least ≤ best k) else false) = fun _ => false := by funext k; rw [if_neg (by omega)]
  rw [e] at h1
  exact h1
theorem qcu (rF : (qb × List qa × Int × qd) → Option (List Bool × List qa × Int × qd)) (d : List Int) (hd : d = []) (s : qd) (l : List qa) (hl : l.length ≤ 16) (n : qb) (hn : n.Set.length ≤ 1000000) (nx : Nat) (hnx : nx ≤ 1000000) (step : List Bool × Int → Option ((List Bool × Int) ⊕ List Bool))
    (hst : step = (if n.Kind = 1 then zB rF l (nx : Int) s n else zC rF l (nx : Int) s n)) (hN : N ≤ 65536) (hN1 : 1 ≤ N) :
    qQ step (List.replicate N false, 1) = some (QI N (Ja d s l n nx)) := by
  have h1 := Je (step := step) (fun i => (QI N (fun k => if 1 ≤ k ∧ k < i then Ja d s l n nx k else false), (i : Int))) 1 N hN1 (e := QI N (Ja d s l n nx)) (fun i h1 hi => by
      have hw : w64 ((i : Int) + 1) = ((i + 1 : Nat) : Int) := za hi (by omega)
      have hc : QI N (q74 (fun k => if 1 ≤ k ∧ k < i then Ja d s l n nx k else false) i (Ja d s l n nx i)) = QI N (fun k => if 1 ≤ k ∧ k < i + 1 then Ja d s l n nx k else false) := by
        rw [qdT (Ja d s l n nx) false h1]
      have hz : decide (i ≠ 0) = true := decide_eq_true (by omega)
      have hwg := qc8 n (by omega) s l (by omega) i (by omega)
      have hal : alF d nx i = true := by rw [hd]; rfl
      have hv : Ja d s l n nx i = (alF d nx i && q9d n (wgF n s i l 0 ld0)) := by unfold Ja; rw [hz]; simp
      have m1 : n.Kind = 1 → qx (wgF n s i l 0 ld0) n = q9d n (wgF n s i l 0 ld0) := fun hk => by
        unfold qx q9d
        rw [if_pos hk]
        cases (wgF n s i l 0 ld0).fine <;> simp
      have m2 : n.Kind ≠ 1 → qI (wgF n s i l 0 ld0) n = q9d n (wgF n s i l 0 ld0) := fun hk => by
        unfold qI q9d
        rw [if_neg hk]
        cases (wgF n s i l 0 ld0).fine
        · simp
        · by_cases h : 0 < (wgF n s i l 0 ld0).many <;> simp [h]
      rw [hst]
      by_cases hk : n.Kind = 1
      · rw [if_pos hk]
        unfold zB
        simp only
        rw [qM, if_pos (by omega), hwg, Option.bind_some]
        rw [if_pos ⟨by omega, by omega⟩, Int.toNat_natCast, if_pos (by omega), hw, m1 hk, QD, ← hc, hv, hal, Bool.true_and]
      · rw [if_neg hk]
        unfold zC
        simp only
        rw [qM, if_pos (by omega), hwg, Option.bind_some]
        rw [if_pos ⟨by omega, by omega⟩, Int.toNat_natCast, if_pos (by omega), hw, m2 hk, QD, ← hc, hv, hal, Bool.true_and]) (by
      have hend : some (Sum.inr (α := List Bool × Int) (QI N (fun k => if 1 ≤ k ∧ k < N then Ja d s l n nx k else false))) = some (Sum.inr (QI N (Ja d s l n nx))) := by
        congr 2
        refine ZB fun k hk => ?_
        by_cases h : k = 0
        · subst h; simp [Ja]
        · rw [if_pos ⟨by omega, hk⟩]
      rw [hst]
      by_cases hk : n.Kind = 1
      · rw [if_pos hk]
        unfold zB
        simp only
        rw [qM, if_neg (by omega)]
        exact hend
      · rw [if_neg hk]
        unfold zC
        simp only
        rw [qM, if_neg (by omega)]
        exact hend)
  rw [q1f]
  have e : (fun k : Nat => if 1 ≤ k ∧ k < 1 then Ja d s l n nx k else false) = fun _ => false := by funext k; rw [if_neg (by omega)]
  rw [e] at h1
  exact h1
end
end Go.Proofs.Ytgejdfnidjnjcaa.Vc
namespace Go.Proofs.Ytgejdfnidjnjcaa.Vc
open Go.RowKit
set_option linter.unusedVariables false
set_option linter.unusedSimpArgs false
section
variable {N : Nat} {best : Nat → Int} {M : Int}
theorem qfP (rF : (qb × List Int × List qa × Int × qd) → Option (List Bool × List Int × List qa × Int × qd)) (hN : N ≤ 65536) (hM : M ≤ 1000000) (hb : Bnd best N M) (w7 : List Int) (w9 : List Bool) (b0 : List qa) (b3 : Int) (b4 : qd) (b8 : qb) (own : Nat → Bool) (skip : Bool) (t72 : List qb) (t73 t74 : Int) :
    qQ (qU rF w7 w9 (QI N best) b0 b3 b4 b8 (QI N own) skip t72 t73 t74 ((N : Nat) : Int)) (List.replicate N 0, 0) = some (QI N (stF skip own best)) := by
  have h1 := Je (step := qU rF w7 w9 (QI N best) b0 b3 b4 b8 (QI N own) skip t72 t73 t74 ((N : Nat) : Int)) (fun i => (QI N (fun k => if k < i then stF skip own best k else 0), (i : Int))) 0 N (Nat.zero_le _) (e := QI N (stF skip own best)) (fun i _ hi => by
      have hbi := hb i hi
      have hw : w64 ((i : Int) + 1) = ((i + 1 : Nat) : Int) := za hi (by omega)
      have hg : ∀ v : Int, v = (if skip = true then best i else -1) → q74 (q74 (fun k => if k < i then stF skip own best k else 0) i v) i (eaF own best i i i (q74 (fun k => if k < i then stF skip own best k else 0) i v i)) = fun k => if k < i + 1 then stF skip own best k else 0 := fun v hv => by
        funext k
        rw [q8z, q5S]
        unfold q74
        by_cases hk : k = i
        · subst hk
          rw [if_pos rfl, if_pos (by omega)]
          unfold stF
          rw [← hv]
        · rw [if_neg hk]
          show (if k < i then stF skip own best k else 0) = _
          by_cases h : k < i
          · rw [if_pos h, if_pos (by omega)]
          · rw [if_neg h, if_neg (by omega)]
      unfold qU
      simp only
      rw [if_pos (by omega), qM, if_pos ⟨by omega, by omega⟩, Int.toNat_natCast, if_pos (by omega)]
      cases hs : skip
      · simp only [Bool.false_eq_true, if_false]
        rw [QD]
        unfold qF
        rw [q9W hN hM hb (own := own) hi i i (Nat.le_refl _) (Nat.le_refl _), Option.bind_some, Option.bind_some, hw, ← hs, hg (-1) (by rw [hs]; rfl)]
      · simp only [if_true]
        rw [qM, if_pos ⟨by omega, by omega⟩, Zo best hi, Option.bind_some, if_pos ⟨by omega, by omega⟩, if_pos (by omega), QD, QD, q5S]
        unfold qF
        rw [q9W hN hM hb (own := own) hi i i (Nat.le_refl _) (Nat.le_refl _), Option.bind_some, Option.bind_some, hw, ← hs, hg (best i) (by rw [hs]; rfl)]) (by
      unfold qU
      simp only
      rw [if_neg (by omega)]
      congr 2
      exact ZB fun k hk => if_pos hk)
  rw [q1f]
  have e : (fun k : Nat => if k < 0 then stF skip own best k else 0) = fun _ => 0 := by funext k; rw [if_neg (by omega)]
  rw [e] at h1
  exact h1
theorem qmm (rF : (qb × List Int × List qa × Int × qd) → Option (List Bool × List Int × List qa × Int × qd)) (hN : N ≤ 65536) (hN1 : 1 ≤ N) (w7 : List Int) (w9 : List Bool) (b0 : List qa) (b3 : Int) (b4 : qd) (b8 : qb) :
    qQ (z0 rF w7 w9 b0 b3 b4 b8) (List.replicate N 0, 1) = some (QI N b0F) := by
  have h1 := Je (step := z0 rF w7 w9 b0 b3 b4 b8) (fun i => (QI N (fun k => if 1 ≤ k ∧ k < i then -1 else 0), (i : Int))) 1 N hN1 (e := QI N b0F) (fun i h1 hi => by
      have hw : w64 ((i : Int) + 1) = ((i + 1 : Nat) : Int) := za hi (by omega)
      unfold z0
      simp only
      rw [qM, if_pos (by omega), if_pos ⟨by omega, by omega⟩, Int.toNat_natCast, if_pos (by omega), hw, QD]
      rw [qdT (fun _ => (-1 : Int)) 0 h1]) (by
      unfold z0
      simp only
      rw [qM, if_neg (by omega)]
      congr 2
      refine ZB fun k hk => ?_
      unfold b0F
      by_cases h : k = 0
      · rw [if_pos h, if_neg (by omega)]
      · rw [if_neg h, if_pos (by omega)])
  rw [q1f]
  have e : (fun k : Nat => if 1 ≤ k ∧ k < 1 then (-1 : Int) else 0) = fun _ => 0 := by funext k; rw [if_neg (by omega)]
  rw [e] at h1
  exact h1
theorem qeh (rF : (qb × List Int × List qa × Int × qd) → Option (List Bool × List Int × List qa × Int × qd)) (hN : N ≤ 65536) (hN1 : 1 ≤ N) (w7 : List Int) (b0 : List qa) (b3 : Int) (b4 : qd) (least : Int) :
    qQ (qV rF w7 (QI N best) b0 b3 b4 least) (List.replicate N false, 1) = some (QI N (fun k => decide (k ≠ 0) && decide (least ≤ best k))) := by
  have h1 := Je (step := qV rF w7 (QI N best) b0 b3 b4 least) (fun i => (QI N (fun k => if 1 ≤ k ∧ k < i then decide (least ≤ best k) else false), (i : Int))) 1 N hN1 (e := QI N (fun k => decide (k ≠ 0) && decide (least ≤ best k))) (fun i h1 hi => by
      have hw : w64 ((i : Int) + 1) = ((i + 1 : Nat) : Int) := za hi (by omega)
      unfold qV
      simp only
      rw [qM, qM, if_pos (by omega), if_pos ⟨by omega, by omega⟩, Int.toNat_natCast, Zo best hi, Option.bind_some, if_pos ⟨by omega, by omega⟩, if_pos (by omega), hw, QD]
      rw [qdT (fun k => decide (least ≤ best k)) false h1]) (by
      unfold qV
      simp only
      rw [qM, if_neg (by omega)]
      congr 2
      refine ZB fun k hk => ?_
      by_cases h : k = 0
      · subst h; simp
      · rw [if_pos ⟨by omega, hk⟩]; simp [h])
  rw [q1f]
  have e : (fun k : Nat => if 1 ≤ k ∧ k < 1 then decide (least ≤ best k) else false) = fun _ => false := by funext k; rw [if_neg (by omega)]
  rw [e] at h1
  exact h1
theorem qcy (rF : (qb × List Int × List qa × Int × qd) → Option (List Bool × List Int × List qa × Int × qd)) (d : List Int) (hd : d.length ≤ 16) (s : qd) (l : List qa) (hl : l.length ≤ 16) (n : qb) (hn : n.Set.length ≤ 1000000) (nx : Nat) (hnx : nx ≤ 1000000) (step : List Bool × Int → Option ((List Bool × Int) ⊕ List Bool))
    (hst : step = (if n.Kind = 1 then zD rF d l (nx : Int) s n else zi rF d l (nx : Int) s n)) (hN : N ≤ 65536) (hN1 : 1 ≤ N) :
    qQ step (List.replicate N false, 1) = some (QI N (Ja d s l n nx)) := by
  have h1 := Je (step := step) (fun i => (QI N (fun k => if 1 ≤ k ∧ k < i then Ja d s l n nx k else false), (i : Int))) 1 N hN1 (e := QI N (Ja d s l n nx)) (fun i h1 hi => by
      have hw : w64 ((i : Int) + 1) = ((i + 1 : Nat) : Int) := za hi (by omega)
      have hc : QI N (q74 (fun k => if 1 ≤ k ∧ k < i then Ja d s l n nx k else false) i (Ja d s l n nx i)) = QI N (fun k => if 1 ≤ k ∧ k < i + 1 then Ja d s l n nx k else false) := by
        rw [qdT (Ja d s l n nx) false h1]
      have hz : decide (i ≠ 0) = true := decide_eq_true (by omega)
      have hwg := qc8 n (by omega) s l (by omega) i (by omega)
      have hal := qdg d hd nx i (by omega)
      have hv : Ja d s l n nx i = (alF d nx i && q9d n (wgF n s i l 0 ld0)) := by unfold Ja; rw [hz]; simp
      have m1 : n.Kind = 1 → qx (wgF n s i l 0 ld0) n = q9d n (wgF n s i l 0 ld0) := fun hk => by
        unfold qx q9d
        rw [if_pos hk]
        cases (wgF n s i l 0 ld0).fine <;> simp
      have m2 : n.Kind ≠ 1 → qI (wgF n s i l 0 ld0) n = q9d n (wgF n s i l 0 ld0) := fun hk => by
        unfold qI q9d
        rw [if_neg hk]
        cases (wgF n s i l 0 ld0).fine
        · simp
        · by_cases h : 0 < (wgF n s i l 0 ld0).many <;> simp [h]
      rw [hst]
      by_cases hk : n.Kind = 1
      · rw [if_pos hk]
        unfold zD
        simp only
        rw [qM, if_pos (by omega), hal, Option.bind_some]
        cases ha : alF d nx i
        · rw [if_neg (by simp), if_pos ⟨by omega, by omega⟩, Int.toNat_natCast, if_pos (by omega), hw, QD, ← hc, hv, ha, Bool.false_and]
        · rw [if_pos rfl, hwg, Option.bind_some, if_pos ⟨by omega, by omega⟩, Int.toNat_natCast, if_pos (by omega), hw, m1 hk, QD, ← hc, hv, ha, Bool.true_and]
      · rw [if_neg hk]
        unfold zi
        simp only
        rw [qM, if_pos (by omega), hal, Option.bind_some]
        cases ha : alF d nx i
        · rw [if_neg (by simp), if_pos ⟨by omega, by omega⟩, Int.toNat_natCast, if_pos (by omega), hw, QD, ← hc, hv, ha, Bool.false_and]
        · rw [if_pos rfl, hwg, Option.bind_some, if_pos ⟨by omega, by omega⟩, Int.toNat_natCast, if_pos (by omega), hw, m2 hk, QD, ← hc, hv, ha, Bool.true_and]) (by
      have hend : some (Sum.inr (α := List Bool × Int) (QI N (fun k => if 1 ≤ k ∧ k < N then Ja d s l n nx k else false))) = some (Sum.inr (QI N (Ja d s l n nx))) := by
        congr 2
        refine ZB fun k hk => ?_
        by_cases h : k = 0
        · subst h; simp [Ja]
        · rw [if_pos ⟨by omega, hk⟩]
      rw [hst]
      by_cases hk : n.Kind = 1
      · rw [if_pos hk]
        unfold zD
        simp only
        rw [qM, if_neg (by omega)]
        exact hend
      · rw [if_neg hk]
        unfold zi
        simp only
        rw [qM, if_neg (by omega)]
        exact hend)
  rw [q1f]
  have e : (fun k : Nat => if 1 ≤ k ∧ k < 1 then Ja d s l n nx k else false) = fun _ => false := by funext k; rw [if_neg (by omega)]
  rw [e] at h1
  exact h1
end
end Go.Proofs.Ytgejdfnidjnjcaa.Vc
namespace Go.Proofs.Ytgejdfnidjnjcaa.Vc
open Go.RowKit
set_option linter.unusedVariables false
set_option linter.unusedSimpArgs false
theorem q9f (N : Nat) (d : List Int) (s : qd) (l : List qa) (n : qb) (nx : Nat) : QI N (Q8 d s l n nx) = if n.Kind = 1 ∨ n.Kind = 2 then QI N (Ja d s l n nx) else QI N (fun k => decide (k ≠ 0) && decide ((if n.Kind = 3 then (n.L.length : Int) else n.N) ≤ q7s d s l (n.Kind == 4) n.L nx b0F k)) := by
  have : Q8 d s l n nx = fun k => Q8 d s l n nx k := rfl
  by_cases h : n.Kind = 1 ∨ n.Kind = 2
  · rw [if_pos h]; refine ZB fun k _ => ?_; rw [q5O, if_pos h]
  · rw [if_neg h]; refine ZB fun k _ => ?_; rw [q5O, if_neg h]
theorem qgL (d : List Int) (hd : d = []) (s : qd) (l : List qa) (hl : l.length ≤ 16) (n : qb) (hLn : n.L.length ≤ 1000000)
    (hP : ∀ y ∈ n.L, ∀ nx : Nat, nx + (ndN y).length ≤ 100000 → qO (y, l, (nx : Int), s) = some (QI (2 ^ l.length) (Q8 d s l y nx), l, ((nx + lvN y : Nat) : Int), s)) (w9 : List Bool) :
    ∀ (r : List qb) (i nx : Nat) (best : Nat → Int) (M : Int), r.length + i = n.L.length → (∀ j, r[j]? = n.L[i + j]?) → nx + (ndL r).length ≤ 100000 → Bnd best (2 ^ l.length) M → 0 ≤ M → M + r.length ≤ 100000 →
    qQ (ze qO w9 n n.L (n.L.length : Int)) (QI (2 ^ l.length) best, l, (nx : Int), s, (i : Int)) = some ((QI (2 ^ l.length) (q7s d s l (n.Kind == 4) r nx best), l, ((nx + lvL r : Nat) : Int), s)) := by
  intro r
  induction r with
  | nil =>
    intro i nx best M hi _ _ _ _ _
    have hi : i = n.L.length := by simpa using hi
    subst hi
    refine zl ?_
    unfold ze
    simp only
    rw [if_neg (by omega), lvL, Nat.add_zero]
    rfl
  | cons y r ih =>
    intro i nx best M hi hr hnx hb hM0 hM
    rw [ndL, List.length_append] at hnx
    have hlv := qdJ y
    simp only [List.length_cons, Int.natCast_add, Int.natCast_one] at hM hi
    have hget : n.L[i]? = some y := by have := hr 0; simpa using this.symm
    have hlt : i < n.L.length := JH hget
    have hN : 2 ^ l.length ≤ 65536 := Nat.le_trans (Nat.pow_le_pow_right (by decide) hl) (by decide)
    have hN1 : 1 ≤ 2 ^ l.length := Nat.one_le_two_pow
    have hcall := hP y (List.mem_of_getElem? hget) nx (by omega)
    have hw : w64 ((i : Int) + 1) = ((i + 1 : Nat) : Int) := za hlt (by omega)
    have hstep : ze qO w9 n n.L (n.L.length : Int) (QI (2 ^ l.length) best, l, (nx : Int), s, (i : Int)) = some (.inl (QI (2 ^ l.length) (stF (n.Kind == 4 && !foF d nx (nx + lvN y)) (Q8 d s l y nx) best), l, ((nx + lvN y : Nat) : Int), s, ((i + 1 : Nat) : Int))) := by
      unfold ze
      simp only
      rw [if_pos (by omega), if_pos ⟨by omega, by omega⟩, Int.toNat_natCast, hget, Option.bind_some, hcall, Option.bind_some]
      simp only [qM]
      have hfo : foF d nx (nx + lvN y) = false := by rw [hd]; rfl
      cases hk4 : (n.Kind == 4)
      · rw [if_neg (by simp), if_pos ⟨by omega, by omega, by omega⟩, qg3 (M := M) qO hN (by omega) hb, Option.bind_some, hw, Bool.false_and]
      · rw [if_pos rfl, if_pos ⟨by omega, by omega, by omega⟩, qg3 (M := M) qO hN (by omega) hb, Option.bind_some, hw, hfo]
        rfl
    rw [zU hstep, ih (i + 1) _ _ (M + 1) (by omega) (fun j => by rw [show i + 1 + j = i + (j + 1) by omega, ← hr (j + 1)]; rfl) (by omega) (qfg hb (by omega)) (by omega) (by omega)]
    rw [lvL, ← Nat.add_assoc]
    rfl
theorem qh2 (d : List Int) (hd : d = []) (s : qd) (l : List qa) (hl : l.length ≤ 16) : ∀ (m : Nat) (n : qb), (ndN n).length ≤ m → (ndN n).length ≤ 10000 → (∀ y ∈ ndN n, y.Set.length ≤ 1000000) → ∀ nx : Nat, nx + (ndN n).length ≤ 100000 → qO (n, l, (nx : Int), s) = some (QI (2 ^ l.length) (Q8 d s l n nx), l, ((nx + lvN n : Nat) : Int), s) := by
  intro m
  induction m with
  | zero => intro n h; rw [QZ] at h; simp at h
  | succ m ih =>
    intro n h1 h2 h3 nx hnx
    have hN : 2 ^ l.length ≤ 65536 := Nat.le_trans (Nat.pow_le_pow_right (by decide) hl) (by decide)
    have hN1 : 1 ≤ 2 ^ l.length := Nat.one_le_two_pow
    have hlv := qdJ n
    have hset := h3 n (by rw [QZ]; exact List.mem_cons_self)
    have hsub : ∀ (L : List qb), (ndL L).length ≤ m → (ndL L).length ≤ 10000 → (∀ y ∈ ndL L, y.Set.length ≤ 1000000) → ∀ y ∈ L, ∀ nx : Nat, nx + (ndN y).length ≤ 100000 → qO (y, l, (nx : Int), s) = some (QI (2 ^ l.length) (Q8 d s l y nx), l, ((nx + lvN y : Nat) : Int), s) := by
      intro L
      induction L with
      | nil => intro _ _ _ y hy; simp at hy
      | cons x L ihl =>
        intro g1 g2 g3 y hy
        rw [ndL, List.length_append] at g1 g2
        rw [ndL] at g3
        rcases List.mem_cons.1 hy with rfl | hy
        · exact ih _ (by omega) (by omega) fun z hz => g3 z (List.mem_append_left _ hz)
        · exact ihl (by omega) (by omega) (fun z hz => g3 z (List.mem_append_right _ hz)) y hy
    have e0 : ndN n = n :: ndL n.L := QZ n
    have hlen : (ndN n).length = (ndL n.L).length + 1 := by rw [e0]; rfl
    have hP := hsub n.L (by omega) (by omega) fun y hy => h3 y (by rw [e0]; exact List.mem_cons_of_mem _ hy)
    have hLlen : ∀ L : List qb, L.length ≤ (ndL L).length := fun L => by
      induction L with
      | nil => simp
      | cons x L ihL => rw [ndL, List.length_append, List.length_cons, QZ, List.length_cons]; omega
    have hLl := hLlen n.L
    have hpow : w64 ((1 : Int) * (2 : Int) ^ min l.length (IntKind.bits IntKind.i64)) = ((2 ^ l.length : Nat) : Int) := by
      rw [show min l.length (IntKind.bits IntKind.i64) = l.length from Nat.min_eq_left (by show l.length ≤ 64; omega), Int.one_mul, show ((2 : Int) ^ l.length) = ((2 ^ l.length : Nat) : Int) by simp]
      exact Qk (by omega) (by omega)
    rw [q2w, Qw]
    rw [hpow, if_pos (by omega), if_pos ⟨by omega, by omega, by omega⟩, Int.toNat_natCast, q7I, q9f]
    by_cases hlf : n.Kind = 1 ∨ n.Kind = 2
    · have e1 : q5h n = true := by unfold q5h; rcases hlf with h | h <;> simp [h]
      have e2 : lvN n = 1 := by rw [q8D, if_pos hlf]
      have hw2 : w64 ((nx : Int) + 1) = ((nx + 1 : Nat) : Int) := by rw [Qk (by omega) (by omega)]; omega
      rw [if_pos e1, if_pos hlf, e2]
      unfold QK
      by_cases hk : n.Kind = 1
      · have hlt := qcu qO d hd s l hl n hset nx (by omega) _ (if_pos hk).symm hN hN1
        rw [if_pos (by simpa using hk), Option.bind_some, Sum.elim_inl, hlt, Option.bind_some, hw2]
      · have hlt := qcu qO d hd s l hl n hset nx (by omega) _ (if_neg hk).symm hN hN1
        rw [if_neg (by simpa using hk), Option.bind_some, Sum.elim_inr, hlt, Option.bind_some, hw2]
    · have e1 : q5h n = false := by unfold q5h; have h1 : n.Kind ≠ 1 := fun h => hlf (.inl h); have h2 : n.Kind ≠ 2 := fun h => hlf (.inr h); simp [h1, h2]
      have e2 : lvN n = lvL n.L := by rw [q8D, if_neg hlf]
      have hb0 : Bnd b0F (2 ^ l.length) 0 := fun k _ => by unfold b0F; split <;> omega
      have hch := qgL d hd s l hl n (by omega) hP (List.replicate (2 ^ l.length) false) n.L 0 nx b0F 0 (by simp) (by simp) (by omega) hb0 (by omega) (by omega)
      rw [e1, if_neg (by simp), if_neg hlf, e2, if_pos ⟨by omega, by omega, by omega⟩]
      rw [qkd qO hN hN1, Option.bind_some]
      change Option.bind (qQ _ (QI (2 ^ l.length) b0F, l, (nx : Int), s, ((0 : Nat) : Int))) _ = _
      rw [hch, Option.bind_some]
      simp only
      by_cases hk : n.Kind = 3
      · rw [if_pos (by simpa using hk), qeB qO hN hN1, Option.bind_some]
        simp only [if_pos hk]
      · rw [if_neg (by simpa using hk), qeB qO hN hN1, Option.bind_some]
        simp only [if_neg hk]
theorem qgT (d : List Int) (hd : d.length ≤ 16) (s : qd) (l : List qa) (hl : l.length ≤ 16) (n : qb) (hLn : n.L.length ≤ 1000000)
    (hP : ∀ y ∈ n.L, ∀ nx : Nat, nx + (ndN y).length ≤ 100000 → qB (y, d, l, (nx : Int), s) = some (QI (2 ^ l.length) (Q8 d s l y nx), d, l, ((nx + lvN y : Nat) : Int), s)) (w9 : List Bool) :
    ∀ (r : List qb) (i nx : Nat) (best : Nat → Int) (M : Int), r.length + i = n.L.length → (∀ j, r[j]? = n.L[i + j]?) → nx + (ndL r).length ≤ 100000 → Bnd best (2 ^ l.length) M → 0 ≤ M → M + r.length ≤ 100000 →
    qQ (qT qB w9 n n.L (n.L.length : Int)) (d, QI (2 ^ l.length) best, l, (nx : Int), s, (i : Int)) = some ((d, QI (2 ^ l.length) (q7s d s l (n.Kind == 4) r nx best), l, ((nx + lvL r : Nat) : Int), s)) := by
  intro r
  induction r with
  | nil =>
    intro i nx best M hi _ _ _ _ _
    have hi : i = n.L.length := by simpa using hi
    subst hi
    refine zl ?_
    unfold qT
    simp only
    rw [if_neg (by omega), lvL, Nat.add_zero]
    rfl
  | cons y r ih =>
    intro i nx best M hi hr hnx hb hM0 hM
    rw [ndL, List.length_append] at hnx
    have hlv := qdJ y
    simp only [List.length_cons, Int.natCast_add, Int.natCast_one] at hM hi
    have hget : n.L[i]? = some y := by have := hr 0; simpa using this.symm
    have hlt : i < n.L.length := JH hget
    have hN : 2 ^ l.length ≤ 65536 := Nat.le_trans (Nat.pow_le_pow_right (by decide) hl) (by decide)
    have hN1 : 1 ≤ 2 ^ l.length := Nat.one_le_two_pow
    have hcall := hP y (List.mem_of_getElem? hget) nx (by omega)
    have hw : w64 ((i : Int) + 1) = ((i + 1 : Nat) : Int) := za hlt (by omega)
    have hstep : qT qB w9 n n.L (n.L.length : Int) (d, QI (2 ^ l.length) best, l, (nx : Int), s, (i : Int)) = some (.inl (d, QI (2 ^ l.length) (stF (n.Kind == 4 && !foF d nx (nx + lvN y)) (Q8 d s l y nx) best), l, ((nx + lvN y : Nat) : Int), s, ((i + 1 : Nat) : Int))) := by
      unfold qT
      simp only
      rw [if_pos (by omega), if_pos ⟨by omega, by omega⟩, Int.toNat_natCast, hget, Option.bind_some, hcall, Option.bind_some]
      simp only [qM]
      cases hk4 : (n.Kind == 4)
      · rw [if_neg (by simp), if_pos ⟨by omega, by omega, by omega⟩, qfP (M := M) qB hN (by omega) hb, Option.bind_some, hw, Bool.false_and]
      · rw [if_pos rfl, qfj d hd nx (nx + lvN y), Option.bind_some, if_pos ⟨by omega, by omega, by omega⟩, qfP (M := M) qB hN (by omega) hb, Option.bind_some, hw, Bool.true_and]
    rw [zU hstep, ih (i + 1) _ _ (M + 1) (by omega) (fun j => by rw [show i + 1 + j = i + (j + 1) by omega, ← hr (j + 1)]; rfl) (by omega) (qfg hb (by omega)) (by omega) (by omega)]
    rw [lvL, ← Nat.add_assoc]
    rfl
theorem qfi (d : List Int) (hd : d.length ≤ 16) (s : qd) (l : List qa) (hl : l.length ≤ 16) : ∀ (m : Nat) (n : qb), (ndN n).length ≤ m → (ndN n).length ≤ 10000 → (∀ y ∈ ndN n, y.Set.length ≤ 1000000) → ∀ nx : Nat, nx + (ndN n).length ≤ 100000 → qB (n, d, l, (nx : Int), s) = some (QI (2 ^ l.length) (Q8 d s l n nx), d, l, ((nx + lvN n : Nat) : Int), s) := by
  intro m
  induction m with
  | zero => intro n h; rw [QZ] at h; simp at h
  | succ m ih =>
    intro n h1 h2 h3 nx hnx
    have hN : 2 ^ l.length ≤ 65536 := Nat.le_trans (Nat.pow_le_pow_right (by decide) hl) (by decide)
    have hN1 : 1 ≤ 2 ^ l.length := Nat.one_le_two_pow
    have hlv := qdJ n
    have hset := h3 n (by rw [QZ]; exact List.mem_cons_self)
    have hsub : ∀ (L : List qb), (ndL L).length ≤ m → (ndL L).length ≤ 10000 → (∀ y ∈ ndL L, y.Set.length ≤ 1000000) → ∀ y ∈ L, ∀ nx : Nat, nx + (ndN y).length ≤ 100000 → qB (y, d, l, (nx : Int), s) = some (QI (2 ^ l.length) (Q8 d s l y nx), d, l, ((nx + lvN y : Nat) : Int), s) := by
      intro L
      induction L with
      | nil => intro _ _ _ y hy; simp at hy
      | cons x L ihl =>
        intro g1 g2 g3 y hy
        rw [ndL, List.length_append] at g1 g2
        rw [ndL] at g3
        rcases List.mem_cons.1 hy with rfl | hy
        · exact ih _ (by omega) (by omega) fun z hz => g3 z (List.mem_append_left _ hz)
        · exact ihl (by omega) (by omega) (fun z hz => g3 z (List.mem_append_right _ hz)) y hy
    have e0 : ndN n = n :: ndL n.L := QZ n
    have hlen : (ndN n).length = (ndL n.L).length + 1 := by rw [e0]; rfl
    have hP := hsub n.L (by omega) (by omega) fun y hy => h3 y (by rw [e0]; exact List.mem_cons_of_mem _ hy)
    have hLlen : ∀ L : List qb, L.length ≤ (ndL L).length := fun L => by
      induction L with
      | nil => simp
      | cons x L ihL => rw [ndL, List.length_append, List.length_cons, QZ, List.length_cons]; omega
    have hLl := hLlen n.L
    have hpow : w64 ((1 : Int) * (2 : Int) ^ min l.length (IntKind.bits IntKind.i64)) = ((2 ^ l.length : Nat) : Int) := by
      rw [show min l.length (IntKind.bits IntKind.i64) = l.length from Nat.min_eq_left (by show l.length ≤ 64; omega), Int.one_mul, show ((2 : Int) ^ l.length) = ((2 ^ l.length : Nat) : Int) by simp]
      exact Qk (by omega) (by omega)
    rw [q1n, Q0]
    rw [hpow, if_pos (by omega), if_pos ⟨by omega, by omega, by omega⟩, Int.toNat_natCast, q7I, q9f]
    by_cases hlf : n.Kind = 1 ∨ n.Kind = 2
    · have e1 : q5h n = true := by unfold q5h; rcases hlf with h | h <;> simp [h]
      have e2 : lvN n = 1 := by rw [q8D, if_pos hlf]
      have hw2 : w64 ((nx : Int) + 1) = ((nx + 1 : Nat) : Int) := by rw [Qk (by omega) (by omega)]; omega
      rw [if_pos e1, if_pos hlf, e2]
      unfold QK
      by_cases hk : n.Kind = 1
      · have hlt := qcy qB d hd s l hl n hset nx (by omega) _ (if_pos hk).symm hN hN1
        rw [if_pos (by simpa using hk), Option.bind_some, Sum.elim_inl, hlt, Option.bind_some, hw2]
      · have hlt := qcy qB d hd s l hl n hset nx (by omega) _ (if_neg hk).symm hN hN1
        rw [if_neg (by simpa using hk), Option.bind_some, Sum.elim_inr, hlt, Option.bind_some, hw2]
    · have e1 : q5h n = false := by unfold q5h; have h1 : n.Kind ≠ 1 := fun h => hlf (.inl h); have h2 : n.Kind ≠ 2 := fun h => hlf (.inr h); simp [h1, h2]
      have e2 : lvN n = lvL n.L := by rw [q8D, if_neg hlf]
      have hb0 : Bnd b0F (2 ^ l.length) 0 := fun k _ => by unfold b0F; split <;> omega
      have hch := qgT d hd s l hl n (by omega) hP (List.replicate (2 ^ l.length) false) n.L 0 nx b0F 0 (by simp) (by simp) (by omega) hb0 (by omega) (by omega)
      rw [e1, if_neg (by simp), if_neg hlf, e2, if_pos ⟨by omega, by omega, by omega⟩]
      rw [qmm qB hN hN1, Option.bind_some]
      change Option.bind (qQ _ (d, QI (2 ^ l.length) b0F, l, (nx : Int), s, ((0 : Nat) : Int))) _ = _
      rw [hch, Option.bind_some]
      simp only
      by_cases hk : n.Kind = 3
      · rw [if_pos (by simpa using hk), qeh qB hN hN1, Option.bind_some]
        simp only [if_pos hk]
      · rw [if_neg (by simpa using hk), qeh qB hN hN1, Option.bind_some]
        simp only [if_neg hk]
end Go.Proofs.Ytgejdfnidjnjcaa.Vc
namespace Go.Proofs.Ytgejdfnidjnjcaa.Vc
open Go.RowKit
set_option linter.unusedVariables false
set_option linter.unusedSimpArgs false
structure J9 (d : qh) : Prop where
  lo : 0 ≤ d.At
  hi : d.At ≤ d.L.length
  len : d.L.length ≤ 9223372036854775807
theorem q85 {d : qh} (h : J9 d) {most : Int} (h0 : 0 < most) (h1 : most ≤ 1000000) : ∃ v d', qm most d = some (v, d') ∧ 0 ≤ v ∧ v < most ∧ J9 d' := by
  obtain ⟨a, b, c⟩ := h
  unfold qm
  by_cases he : (d.L.length : Int) ≤ d.At
  · exact ⟨0, d, if_pos he, Int.le_refl _, h0, ⟨a, b, c⟩⟩
  · obtain ⟨x, hx⟩ : ∃ x, d.L[Int.toNat d.At]? = some x := ⟨_, List.getElem?_eq_getElem (by omega)⟩
    have e1 := Int.tmod_lt_of_pos x h0
    have e2 : -most < Int.tmod x most := by
      have := Int.tmod_lt_of_pos (-x) h0
      rw [Int.neg_tmod] at this; omega
    have e3 : w64 (Int.tmod x most + most) = Int.tmod x most + most := Qk (by omega) (by omega)
    have e4 := Int.tmod_lt_of_pos (Int.tmod x most + most) h0
    have e5 : 0 ≤ Int.tmod (Int.tmod x most + most) most := Int.tmod_nonneg _ (by omega)
    have e6 : w64 (d.At + 1) = d.At + 1 := Qk (by omega) (by omega)
    refine ⟨Int.tmod (Int.tmod x most + most) most, ⟨d.L, d.At + 1⟩, ?_, e5, e4, ⟨by show 0 ≤ d.At + 1; omega, by show d.At + 1 ≤ d.L.length; omega, c⟩⟩
    rw [if_neg he, if_pos ⟨a, by omega⟩, hx, Option.bind_some, if_neg (by omega), if_neg (by omega), e3, e6]
def q5X : List Int := [1, 1, 1, 2, 2, 3]
def q8q (c : qc) : Prop := c.School ∈ q5X ∧ c.Code ∈ qS
theorem qlJ {α : Type} (l : List α) (i : Int) (h0 : 0 ≤ i) (h1 : i < l.length) : ∃ x, l[Int.toNat i]? = some x ∧ x ∈ l := ⟨l[Int.toNat i], List.getElem?_eq_getElem (by omega), List.getElem_mem _⟩
theorem qlz {d : qh} (h : J9 d) : ∃ c d', Jc d = some (c, d') ∧ q8q c ∧ J9 d' := by
  obtain ⟨v, d1, e1, a1, b1, h1⟩ := q85 h (most := 6) (by omega) (by omega)
  obtain ⟨w, d2, e2, a2, b2, h2⟩ := q85 h1 (most := ((qS.length : Nat) : Int)) (by unfold qS; simp) (by unfold qS; simp)
  obtain ⟨x, hx, mx⟩ := qlJ q5X v a1 (by simpa [q5X] using b1)
  obtain ⟨y, hy, my⟩ := qlJ qS w a2 b2
  refine ⟨⟨x, y⟩, d2, ?_, ⟨mx, my⟩, h2⟩
  unfold Jc
  rw [e1, Option.bind_some, if_pos ⟨a1, b1⟩]
  unfold q5X at hx
  rw [hx, Option.bind_some, e2, Option.bind_some, if_pos ⟨a2, b2⟩, hy, Option.bind_some]
theorem qdV {c : qc} (h : q8q c) : Jj c = true := by
  obtain ⟨s, k⟩ := c
  obtain ⟨h1, h2⟩ := h
  have e1 : ∀ s ∈ q5X, inF s 1 8 = true := by decide
  have e2 : ∀ k ∈ qS, qik k = true := by unfold qS; decide
  unfold Jj
  rw [e1 s h1, e2 k h2]; rfl
theorem qjx : ∀ (x y : List UInt8), Op.bytesLess x y = true ∨ x = y ∨ Op.bytesLess y x = true
  | [], [] => .inr (.inl rfl)
  | [], _ :: _ => .inl rfl
  | _ :: _, [] => .inr (.inr rfl)
  | a :: x, b :: y => by
    simp only [Op.bytesLess]
    by_cases h1 : a < b
    · simp [h1]
    · by_cases h2 : b < a
      · simp [h1, h2]
      · have : a = b := by
          apply UInt8.toNat_inj.1
          have h1' : ¬ a.toNat < b.toNat := h1
          have h2' : ¬ b.toNat < a.toNat := h2
          omega
        subst this
        rcases qjx x y with h | h | h <;> simp [h]
noncomputable def q1q (a b : qc) : Bool := zn a b
theorem qiq (a b : qc) : q1q a b = decide (qmu a b < 0) := by
  unfold q1q zn qmu qii qq9
  by_cases h1 : a.School < b.School
  · rw [if_pos h1, if_pos (by omega), if_pos h1]; rfl
  · rw [if_neg h1]
    by_cases h2 : a.School = b.School
    · rw [if_pos (by simpa using h2), if_neg (fun h => h h2)]
      cases h3 : Op.bytesLess a.Code.toList b.Code.toList
      · cases h4 : (a.Code.toList == b.Code.toList) <;> simp
      · simp
    · rw [if_neg (by simpa using h2), if_pos h2, if_neg h1, if_pos (by omega)]; rfl
theorem qi7 (a b : qc) : q1q a b = true ∨ ceq a b = true ∨ q1q b a = true := by
  unfold q1q zn ceq
  by_cases h1 : a.School < b.School
  · simp [h1]
  · by_cases h2 : b.School < a.School
    · simp [h2]
    · have h3 : a.School = b.School := by omega
      rcases qjx a.Code.toList b.Code.toList with h | h | h
      · left; simp [h3, h]
      · right; left; simp [h3, h]
      · right; right; simp [h3, h]
def qbd {α : Type} (l : List α) (k : Nat) (c : α) : List α := l.take k ++ c :: l.drop k
theorem qjy {α : Type} : ∀ (ys l : List α) (k : Nat), k + ys.length ≤ l.length → spl l k ys = l.take k ++ (ys ++ l.drop (k + ys.length))
  | [], l, k, _ => by rw [spl, List.length_nil, Nat.add_zero, List.nil_append, List.take_append_drop]
  | x :: ys, l, k, h => by
    simp only [List.length_cons] at h ⊢
    rw [spl, qjy ys (l.set k x) (k + 1) (by rw [List.length_set]; omega)]
    have e : l.set k x = l.take k ++ x :: l.drop (k + 1) := by rw [List.set_eq_take_append_cons_drop, if_pos (by omega)]
    have hl : (l.take k).length = k := by rw [List.length_take]; omega
    have e1 : (l.set k x).take (k + 1) = l.take k ++ [x] := by
      rw [e, List.take_append, hl, List.take_of_length_le (by omega), show k + 1 - k = 1 by omega]; rfl
    have e2 : (l.set k x).drop (k + 1 + ys.length) = l.drop (k + (ys.length + 1)) := by
      rw [e, List.drop_append, hl, List.drop_eq_nil_of_le (by omega), List.nil_append, show k + 1 + ys.length - k = ys.length + 1 by omega, List.drop_succ_cons, List.drop_drop]
      congr 1; omega
    rw [e1, e2, List.append_assoc]
    rfl
theorem qfv {α : Type} (l : List α) (z c : α) (k : Nat) (h : k < l.length) : List.set (spl (l ++ [z]) (k + 1) (List.take (min (l.length + 1 - k) (l.length + 1 - (k + 1))) (List.take (l.length + 1 - k) (List.drop k (l ++ [z]))))) k c = qbd l k c := by
  have e1 : List.take (min (l.length + 1 - k) (l.length + 1 - (k + 1))) (List.take (l.length + 1 - k) (List.drop k (l ++ [z]))) = l.drop k := by
    rw [List.take_take, List.drop_append_of_le_length (by omega), show min (min (l.length + 1 - k) (l.length + 1 - (k + 1))) (l.length + 1 - k) = l.length - k by omega, List.take_append_of_le_length (by rw [List.length_drop]; omega), List.take_of_length_le (by rw [List.length_drop]; omega)]
  rw [e1, qjy _ _ _ (by rw [List.length_drop, List.length_append, List.length_singleton]; omega)]
  unfold qbd
  have e2 : List.drop (k + 1 + (l.length - k)) (l ++ [z]) = [] := List.drop_eq_nil_of_le (by rw [List.length_append, List.length_singleton]; omega)
  rw [List.length_drop, e2, List.append_nil, List.take_append_of_le_length (by omega)]
  rw [List.take_add_one, List.getElem?_eq_getElem h, Option.toList_some, List.append_assoc, List.set_append_right _ _ (by rw [List.length_take]; omega), List.length_take, Nat.min_eq_left (by omega), Nat.sub_self]
  rfl
theorem qcO {α : Type} (l : List α) (z c : α) : List.set (l ++ [z]) l.length c = qbd l l.length c := by
  unfold qbd
  rw [List.set_append_right _ _ (Nat.le_refl _), Nat.sub_self, List.take_length, List.drop_length]
  rfl
end Go.Proofs.Ytgejdfnidjnjcaa.Vc
namespace Go.Proofs.Ytgejdfnidjnjcaa.Vc
open Go.RowKit
set_option linter.unusedVariables false
set_option linter.unusedSimpArgs false
structure q6M (l : List qc) : Prop where
  ok : ∀ c ∈ l, q8q c
  ord : qba l = true
theorem q1O {x y : qc} {l : List qc} : qba (x :: y :: l) = (q1q x y && qba (y :: l)) := by rw [qba, qiq]
theorem qg0 {x : qc} {l : List qc} (h : qba (x :: l) = true) : qba l = true := by
  cases l with
  | nil => rfl
  | cons y l => rw [q1O, Bool.and_eq_true] at h; exact h.2
noncomputable def atF (l : List qc) (c : qc) : Nat := (l.takeWhile fun x => q1q x c).length
theorem qeK (l : List qc) (c : qc) : atF l c ≤ l.length := by
  unfold atF
  induction l with
  | nil => simp
  | cons x l ih => rw [List.takeWhile_cons]; split <;> simp <;> omega
theorem qhp {c : qc} : ∀ {l : List qc}, qba l = true → (∀ x, l[atF l c]? = some x → ceq x c = false) → qba (qbd l (atF l c) c) = true
  | [], _, _ => rfl
  | x :: l, h, hc => by
    by_cases hx : q1q x c = true
    · have e : atF (x :: l) c = atF l c + 1 := by unfold atF; rw [List.takeWhile_cons, if_pos hx]; rfl
      rw [e] at hc ⊢
      have ih := qhp (qg0 h) (fun y hy => hc y (by simpa using hy))
      have e2 : qbd (x :: l) (atF l c + 1) c = x :: qbd l (atF l c) c := rfl
      rw [e2]
      cases l with
      | nil => rw [show qbd ([] : List qc) (atF [] c) c = [c] from rfl, q1O, hx]; rfl
      | cons y l =>
        rw [q1O, Bool.and_eq_true] at h
        by_cases hy : q1q y c = true
        · have e3 : atF (y :: l) c = atF l c + 1 := by unfold atF; rw [List.takeWhile_cons, if_pos hy]; rfl
          rw [e3] at ih ⊢
          have e4 : qbd (y :: l) (atF l c + 1) c = y :: qbd l (atF l c) c := rfl
          rw [e4] at ih ⊢
          rw [q1O, h.1, ih]; rfl
        · have e3 : atF (y :: l) c = 0 := by unfold atF; rw [List.takeWhile_cons, if_neg hy]; rfl
          rw [e3] at ih ⊢
          have e4 : qbd (y :: l) 0 c = c :: y :: l := rfl
          rw [e4] at ih ⊢
          rw [q1O, hx, ih]; rfl
    · have e : atF (x :: l) c = 0 := by unfold atF; rw [List.takeWhile_cons, if_neg hx]; rfl
      rw [e] at hc ⊢
      have e2 : qbd (x :: l) 0 c = c :: x :: l := rfl
      rw [e2, q1O]
      have h1 := hc x (by simp)
      rcases qi7 x c with h2 | h2 | h2
      · exact absurd h2 hx
      · rw [h2] at h1; cases h1
      · rw [h2, h]; rfl
theorem qlc (out : List qc) (hl : out.length ≤ 1000000) (d : qh) (c : qc) (many k : Int) : qQ (QW out d c many k) 0 = some ((atF out c : Nat) : Int) := by
  have h1 := Ju (ε := Int) (step := QW out d c many k) out (fun (_ : Unit) i => (i : Int)) (fun i _ x => if q1q x c = true then .inl () else .inr (i : Int)) (fun _ => (out.length : Int)) (fun _ i x hx => by
      have hi := JH hx
      unfold QW
      rw [if_pos (by omega), if_pos ⟨by omega, by omega⟩, Int.toNat_natCast, hx, Option.bind_some, za hi (by omega)]
      show (if q1q x c = true then _ else _) = _
      cases q1q x c <;> simp) (fun _ => by
      unfold QW
      rw [if_neg (by omega)]) ()
  rw [show ((0 : Nat) : Int) = 0 from rfl] at h1
  rw [h1]
  congr 1
  have : ∀ (l : List qc) (i : Nat) (n : Nat), i + l.length = n → q17 (ε := Int) (fun i (_ : Unit) (x : qc) => if q1q x c = true then .inl () else .inr (i : Int)) (fun _ => (n : Int)) l i () = ((i + atF l c : Nat) : Int) := by
    intro l
    induction l with
    | nil => intro i n h; simp at h; unfold q17 atF; simp [h]
    | cons x l ih =>
      intro i n h
      simp only [List.length_cons] at h
      unfold q17
      by_cases hx : q1q x c = true
      · have e : atF (x :: l) c = atF l c + 1 := by unfold atF; rw [List.takeWhile_cons, if_pos hx]; rfl
        simp only [hx, if_true]
        rw [ih (i + 1) n (by omega), e]
        omega
      · have e : atF (x :: l) c = 0 := by unfold atF; rw [List.takeWhile_cons, if_neg hx]; rfl
        have hx' : q1q x c = false := by simpa using hx
        simp only [hx', Bool.false_eq_true, if_false]
        rw [e]; rfl
  have := this out 0 out.length (by simp)
  simpa using this
noncomputable def qbT (l : List qc) (c : qc) : List qc := if (l[atF l c]?).any (fun x => ceq x c) = true then l else qbd l (atF l c) c
theorem qbk (l : List qc) (c : qc) : l.length ≤ (qbT l c).length ∧ (qbT l c).length ≤ l.length + 1 ∧ 1 ≤ (qbT l c).length := by
  have h := qeK l c
  unfold qbT
  split
  · rename_i h2
    refine ⟨Nat.le_refl _, by omega, ?_⟩
    cases l with
    | nil => simp at h2
    | cons x l => simp
  · unfold qbd
    simp only [List.length_append, List.length_cons, List.length_take, List.length_drop]
    omega
theorem qib {l : List qc} {c : qc} (h : q6M l) (hc : q8q c) : q6M (qbT l c) := by
  unfold qbT
  split
  · exact h
  · rename_i h2
    refine ⟨fun x hx => ?_, qhp h.ord fun x hx => ?_⟩
    · unfold qbd at hx
      rcases List.mem_append.1 hx with hx | hx
      · exact h.ok x (List.mem_of_mem_take hx)
      · rcases List.mem_cons.1 hx with rfl | hx
        · exact hc
        · exact h.ok x (List.mem_of_mem_drop hx)
    · rw [hx] at h2
      simpa using h2
theorem qfX (out : List qc) (hl : out.length ≤ 1000) {d : qh} (hd : J9 d) (many : Int) (k : Nat) (hk : (k : Int) < many) (hk2 : k ≤ 1000) : ∃ c d', q8q c ∧ J9 d' ∧ Qo many (out, d, (k : Int)) = some (.inl (qbT out c, d', ((k + 1 : Nat) : Int))) := by
  obtain ⟨c, d', h1, h2, h3⟩ := qlz hd
  refine ⟨c, d', h2, h3, ?_⟩
  have hML : 100000 ≤ maxLen := by unfold maxLen; omega
  have hat := qeK out c
  unfold Qo
  simp only
  rw [if_pos hk, h1, Option.bind_some]
  simp only
  rw [qlc out (by omega), Option.bind_some]
  have hwk : w64 ((k : Int) + 1) = ((k + 1 : Nat) : Int) := by rw [Qk (by omega) (by omega)]; omega
  have hwa : w64 (((atF out c : Nat) : Int) + 1) = ((atF out c + 1 : Nat) : Int) := by rw [Qk (by omega) (by omega)]; omega
  rw [hwk, hwa]
  simp only [Int.toNat_natCast, List.length_take, List.length_drop, List.length_append, List.length_cons, List.length_nil]
  unfold qbT
  by_cases hlt : atF out c < out.length
  · obtain ⟨x, hx⟩ : ∃ x, out[atF out c]? = some x := ⟨_, List.getElem?_eq_getElem hlt⟩
    rw [if_pos (by omega), if_pos ⟨by omega, by omega⟩, hx, Option.bind_some]
    simp only [Option.any_some]
    by_cases hc : ceq x c = true
    · have hc2 := hc
      unfold ceq at hc2
      simp only [Bool.and_eq_true] at hc2
      rw [if_pos hc2, if_pos hc]
    · have hc2 : ¬ ((x.School == c.School) = true ∧ (x.Code.toList == c.Code.toList) = true) := fun h => hc (by unfold ceq; rw [h.1, h.2]; rfl)
      rw [if_neg hc2, if_neg hc]
      repeat (first | rw [if_pos (by omega)] | rw [if_neg (by omega)])
      rw [qfv _ _ _ _ hlt]
  · have he : atF out c = out.length := by omega
    have hnone : out[out.length]? = none := List.getElem?_eq_none (Nat.le_refl _)
    rw [he, hnone]
    simp only [Option.any_none, Bool.false_eq_true, if_false]
    repeat (first | rw [if_pos (by omega)] | rw [if_neg (by omega)])
    rw [qcO]
theorem qt0 {d : qh} (hd : J9 d) : ∃ S d', Qx d = some (S, d') ∧ J9 d' ∧ q6M S ∧ 1 ≤ S.length ∧ S.length ≤ 3 := by
  obtain ⟨v, d1, e1, a1, b1, h1⟩ := q85 hd (most := 3) (by omega) (by omega)
  obtain ⟨m, rfl⟩ : ∃ m : Nat, v = (m : Int) := ⟨v.toNat, by omega⟩
  have hw : w64 (1 + (m : Int)) = ((m + 1 : Nat) : Int) := by rw [Qk (by omega) (by omega)]; omega
  have key : ∀ (j k : Nat) (out : List qc) (d : qh), j + k = m + 1 → J9 d → q6M out → out.length ≤ k → (1 ≤ k → 1 ≤ out.length) → ∃ S d', qQ (Qo ((m + 1 : Nat) : Int)) (out, d, (k : Int)) = some (S, d') ∧ J9 d' ∧ q6M S ∧ 1 ≤ S.length ∧ S.length ≤ m + 1 := by
    intro j
    induction j with
    | zero =>
      intro k out d hk hd hs hl1 hl2
      refine ⟨out, d, zl ?_, hd, hs, hl2 (by omega), by omega⟩
      unfold Qo
      simp only
      rw [if_neg (by omega)]
    | succ j ih =>
      intro k out d hk hd hs hl1 hl2
      obtain ⟨c, d', g1, g2, g3⟩ := qfX out (by omega) hd ((m + 1 : Nat) : Int) k (by omega) (by omega)
      obtain ⟨p1, p2, p3⟩ := qbk out c
      rw [zU g3]
      exact ih (k + 1) _ d' (by omega) g2 (qib hs g1) (by omega) (fun _ => p3)
  obtain ⟨S, d', g1, g2, g3, g4, g5⟩ := key (m + 1) 0 [] d1 (by omega) h1 ⟨by simp, rfl⟩ (by simp) (by omega)
  refine ⟨S, d', ?_, g2, g3, g4, by omega⟩
  unfold Qx
  rw [e1, Option.bind_some, hw]
  rw [show ((0 : Nat) : Int) = 0 from rfl] at g1
  simp only
  rw [g1, Option.bind_some]
end Go.Proofs.Ytgejdfnidjnjcaa.Vc
