/- Part 5 of a proof. -/
import Derived.Test.YtgejdfnidjnjcaaM4
set_option linter.unusedVariables false
set_option linter.unusedSimpArgs false
set_option linter.defProp false
set_option linter.unusedSectionVars false
set_option linter.unnecessarySimpa false
namespace Go.Proofs.Ytgejdfnidjnjcaa.Vc
open Go.RowKit
set_option linter.unusedVariables false
set_option linter.unusedSimpArgs false
set_option maxRecDepth 20000
set_option maxHeartbeats 8000000
set_option linter.defProp false
noncomputable def ZT (sub : Int) (rest : Int) (w4 : List Int) (w5 : List Int) (v : List Bool) (v2 : Int) : Option (List Int) := if 0 ≤ sub ∧ sub < ((v.length : Nat) : Int) then Option.bind v[Int.toNat sub]? fun (a : Bool) => if a = Bool.true then if 0 ≤ rest ∧ rest < ((w4.length : Nat) : Int) then Option.bind w4[Int.toNat rest]? fun (a2 : Int) => if 0 ≤ a2 then if 0 ≤ v2 ∧ v2 < ((w5.length : Nat) : Int) then Option.bind w5[Int.toNat v2]? fun (a3 : Int) => if 0 ≤ rest ∧ rest < ((w4.length : Nat) : Int) then Option.bind w4[Int.toNat rest]? fun (a4 : Int) => if 0 ≤ v2 ∧ v2 < ((w5.length : Nat) : Int) then if Int.toNat v2 + 1 ≤ w5.length then some (List.set w5 (Int.toNat v2) (max a3 (w64 (a4 + 1)))) else none else none else none else none else some w5 else none else some w5 else none
theorem q5M : ∀ (sub rest : Int) (w4 w5 : List Int) (v : List Bool) (v2 : Int) (w4_len w5_len : Nat), w4_len = w4.length → w5_len = w5.length → ev 48 4 [rI sub, rI rest, rP 0, rP 1, rP 2, rP 3] [(0, B.blk 63 [dL 1 eB v]), (1, B.blk 95 [dO 4 1 w4_len]), (2, B.blk 95 [dO 5 1 w5_len]), (3, B.blk 3 [dI v2]), (4, bR 3 1 eI w4), (5, bR 3 1 eI w5)] = (ZT sub rest w4 w5 v v2).bind (fun (e : List Int) => some (R.tup [], [(0, B.blk 63 [dL 1 eB v]), (1, B.blk 95 [dO 4 1 w4.length]), (2, B.blk 95 [dO 5 1 e.length]), (3, B.blk 3 [dI v2]), (4, bR 3 1 eI w4), (5, bR 3 1 eI e)])) :=
  by
  intro sub rest w4 w5 v v2 w4_len w5_len h0 h1
  subst h0 h1
  rw [qB quG qv8.2.2.2 qxz]
  have := qwZ; have := @ZT.eq_1; exact gA
noncomputable def qJ (w4 : List Int) (b0 : List Bool) (b3 : Int) (set0 : Int) : (List Int × Int) → Option ((List Int × Int) ⊕ (List Int)) | (w5, sub) => if 0 < sub then Option.bind (ZT sub (Jz Go.BinOp.andNot Go.IntKind.i64 set0 sub) w4 w5 b0 b3) fun (a : List Int) => some (Sum.inl (a, Jz Go.BinOp.and Go.IntKind.i64 (w64 (sub - 1)) set0)) else some (Sum.inr w5)
theorem q1a : ∀ (w4 w5 : List Int) (b0 : List Bool) (b3 set0 sub : Int) (w4_len w5_len : Nat), w4_len = w4.length → w5_len = w5.length → XL2 evo 47 4 1 ⟨[(1, rI set0), (2, R.c (C.fn 48 [] [dP 0, dP 1, dP 2, dP 3])), (6, rI sub)], [(0, B.blk 63 [dL 1 eB b0]), (1, B.blk 95 [dO 4 1 w4_len]), (2, B.blk 95 [dO 5 1 w5_len]), (3, B.blk 3 [dI b3]), (4, bR 3 1 eI w4), (5, bR 3 1 eI w5)], 6, 20⟩ = (qN (qJ w4 b0 b3 set0) (w5, sub)).bind (fun (e : List Int) => some (Go.Exit.exit 0, ⟨[], [(0, B.blk 63 [dL 1 eB b0]), (1, B.blk 95 [dO 4 1 w4.length]), (2, B.blk 95 [dO 5 1 e.length]), (3, B.blk 3 [dI b3]), (4, bR 3 1 eI w4), (5, bR 3 1 eI e)], 6, 20⟩)) :=
  by
  intro w4 w5 b0 b3 set0 sub w4_len w5_len h0 h1
  subst h0 h1
  revert sub; revert w5; exact q8L qqh qqP (fun e => by exact ⟨_, rfl, fun h => by cases h⟩) fun w5 sub => by
    have := qvP; have := @qfM.eq_1; have := @q5M; have := @qJ.eq_1; exact gA
noncomputable def qF (set0 : Int) (t : List Int) (w5 : List Int) (b0 : List Bool) (b3 : Int) : Option (List Int) := Option.bind (qN (qJ t b0 b3 set0) (w5, set0)) fun (a : List Int) => some a
theorem JH : ∀ (set0 : Int) (t w5 : List Int) (b0 : List Bool) (b3 : Int) (t_len w5_len : Nat), t_len = t.length → w5_len = w5.length → ev 47 4 [rO 4 1 t_len, rI set0, R.c (C.fn 48 [] [dP 0, dP 1, dP 2, dP 3])] [(0, B.blk 63 [dL 1 eB b0]), (1, B.blk 95 [dO 4 1 t_len]), (2, B.blk 95 [dO 5 1 w5_len]), (3, B.blk 3 [dI b3]), (4, bR 3 1 eI t), (5, bR 3 1 eI w5)] = (qF set0 t w5 b0 b3).bind (fun (e : List Int) => some (R.tup [], [(0, B.blk 63 [dL 1 eB b0]), (1, B.blk 95 [dO 4 1 t.length]), (2, B.blk 95 [dO 5 1 e.length]), (3, B.blk 3 [dI b3]), (4, bR 3 1 eI t), (5, bR 3 1 eI e)])) :=
  by
  intro set0 t w5 b0 b3 t_len w5_len h0 h1
  subst h0 h1
  rw [qB qs7 quX.2.2.2 qvG]
  have := qvP; have := @q1a; have := @qF.eq_1; exact gA
noncomputable def Q8 (fu : Nat) (set0 : Int) (t : List Int) (w5 : List Int) (b0 : List Bool) (b3 : Int) : Option (List Int) := Option.bind (itT (qJ t b0 b3 set0) fu (w5, set0)) fun (a : List Int) => some a
theorem JF (fu : Nat) (set0 : Int) (t w5 : List Int) (b0 : List Bool) (b3 : Int) : qk (Q8 fu set0 t w5 b0 b3) (qF set0 t w5 b0 b3) := by
  unfold Q8 qF
  repeat (first
    | with_reducible exact qk.refl _
    | with_reducible exact qk.none _
    | with_reducible refine qk.bind ?_ (fun _ => ?_)
    | with_reducible refine qk.ite ?_ ?_
    | with_reducible refine qk.sum (fun _ => ?_) (fun _ => ?_)
    | with_reducible refine qk.lim (fun _ => ?_))
noncomputable def zh (rF : (qb × List qa × Int × qd) → Option (List Bool × List qa × Int × qd)) (w7 : List Bool) (w9 : List Int) (b0 : List qa) (b2 : Int) (b3 : qd) (b6 : qb) (b10 : List Bool) (t18 : Bool) (t72 : List qb) (t73 : Int) (t74 : Int) (t96 : Int) : (List Int × Int) → Option ((List Int × Int) ⊕ (List Int)) | (w12, t97) => if t97 < t96 then if 0 ≤ t97 ∧ t97 < ((w12.length : Nat) : Int) then if Int.toNat t97 + 1 ≤ w12.length then if t18 = Bool.true then if 0 ≤ t97 ∧ t97 < ((w9.length : Nat) : Int) then Option.bind w9[Int.toNat t97]? fun (a2 : Int) => if 0 ≤ t97 ∧ t97 < ((w12.length : Nat) : Int) then if Int.toNat t97 + 1 ≤ w12.length then Option.bind (qF t97 w9 (List.set (List.set w12 (Int.toNat t97) (-1)) (Int.toNat t97) a2) b10 t97) fun (a3 : List Int) => some (Sum.inl (a3, w64 (t97 + 1))) else none else none else none else Option.bind (qF t97 w9 (List.set w12 (Int.toNat t97) (-1)) b10 t97) fun (a4 : List Int) => some (Sum.inl (a4, w64 (t97 + 1))) else none else none else some (Sum.inr w12)
theorem q4d (rE : Orc) (rF : (qb × List qa × Int × qd) → Option (List Bool × List qa × Int × qd)) (hF : ∀ y, rE (.fn 45) 6 (qy y).1 (qy y).2 = (rF y).bind fun e => some (qZ e)) (hM : ∀ g k a G, g ≠ 45 → rE (.fn g) k a G = ev g k a G) (hR : ∀ g asg bd k a G, rE (.rd g asg bd) k a G = evr g asg bd k a G) : ∀ (w7 : List Bool) (w9 w12 : List Int) (b0 : List qa) (b2 b3_Worst b3_Best b3_Pass b6_Kind b6_N b6_Min : Int) (b6_Set : List qc) (b6_L : List qb) (b10 : List Bool) (t18 : Bool) (t72 : List qb) (t73 t74 t96 t97 : Int) (w7_len w9_len w12_len : Nat), w7_len = w7.length → w9_len = w9.length → w12_len = w12.length → XL2 rE 45 6 25 ⟨[(3, rP 2), (5, rP 4), (6, rP 5), (7, rP 6), (9, rO 7 1 w7_len), (12, rP 8), (17, rP 10), (18, rB t18), (19, rP 11), (72, rL 5 qg t72), (73, rI t73), (74, rI t74), (96, rI t96), (97, rI t97)], [(0, B.blk 32 [dL 8 qf b0]), (1, B.blk 62 [C.fn 22 [] []]), (2, B.blk 3 [dI b2]), (3, B.blk 37 [dI b3_Worst, dI b3_Best, dI b3_Pass]), (4, B.blk 94 [C.fn 45 [] [dP 0, dP 1, dP 2, dP 3, dP 4, dP 5]]), (5, B.blk 62 [C.fn 23 [] []]), (6, B.blk 31 [dI b6_Kind, dI b6_N, dI b6_Min, dL 2 qe b6_Set, dL 5 qg b6_L]), (7, bR 4 1 eB w7), (8, B.blk 95 [dO 9 1 w9_len]), (9, bR 3 1 eI w9), (10, B.blk 63 [dL 1 eB b10]), (11, B.blk 95 [dO 12 1 w12_len]), (12, bR 3 1 eI w12)], 13, 142⟩ = (qN (zh rF w7 w9 b0 b2 (qd.mk b3_Worst b3_Best b3_Pass) (qb.mk b6_Kind b6_N b6_Min b6_Set b6_L) b10 t18 t72 t73 t74 t96) (w12, t97)).bind (fun (e : List Int) => some (Go.Exit.exit 6, ⟨[(3, rP 2), (5, rP 4), (6, rP 5), (7, rP 6), (9, rO 7 1 w7.length), (12, rP 8), (19, rP 10), (72, rL 5 qg t72), (73, rI t73), (74, rI t74)], [(0, B.blk 32 [dL 8 qf b0]), (1, B.blk 62 [C.fn 22 [] []]), (2, B.blk 3 [dI b2]), (3, B.blk 37 [dI b3_Worst, dI b3_Best, dI b3_Pass]), (4, B.blk 94 [C.fn 45 [] [dP 0, dP 1, dP 2, dP 3, dP 4, dP 5]]), (5, B.blk 62 [C.fn 23 [] []]), (6, B.blk 31 [dI b6_Kind, dI b6_N, dI b6_Min, dL 2 qe b6_Set, dL 5 qg b6_L]), (7, bR 4 1 eB w7), (8, B.blk 95 [dO 9 1 w9.length]), (9, bR 3 1 eI w9), (10, B.blk 95 [dO 11 1 e.length]), (11, bR 3 1 eI e)], 12, 142⟩)) :=
  by
  intro w7 w9 w12 b0 b2 b3_Worst b3_Best b3_Pass b6_Kind b6_N b6_Min b6_Set b6_L b10 t18 t72 t73 t74 t96 t97 w7_len w9_len w12_len h0 h1 h2
  subst h0 h1 h2
  revert t97; revert w12; exact q8L qig qgU (fun e => by exact ⟨_, rfl, fun h => by cases h⟩) fun w12 t97 => by
    have hF' : ∀ (x0_Kind x0_N x0_Min : Int) (x0_Set : List qc) (x0_L : List qb) (v : List qa) (v2 v3_Worst v3_Best v3_Pass : Int), rE (.fn 45) 6 [R.agg [dI x0_Kind, dI x0_N, dI x0_Min, dL 2 qe x0_Set, dL 5 qg x0_L], rP 0, rP 1, rP 2, rP 3, rP 4, rP 5] [(0, B.blk 32 [dL 8 qf v]), (1, B.blk 62 [C.fn 22 [] []]), (2, B.blk 3 [dI v2]), (3, B.blk 37 [dI v3_Worst, dI v3_Best, dI v3_Pass]), (4, B.blk 94 [C.fn 45 [] [dP 0, dP 1, dP 2, dP 3, dP 4, dP 5]]), (5, B.blk 62 [C.fn 23 [] []])] = (rF ((qb.mk x0_Kind x0_N x0_Min x0_Set x0_L), v, v2, (qd.mk v3_Worst v3_Best v3_Pass))).bind (fun e => some (rL 1 eB e.1, [(0, B.blk 32 [dL 8 qf e.2.1]), (1, B.blk 62 [C.fn 22 [] []]), (2, B.blk 3 [dI e.2.2.1]), (3, B.blk 37 [dI e.2.2.2.Worst, dI e.2.2.2.Best, dI e.2.2.2.Pass]), (4, B.blk 94 [C.fn 45 [] [dP 0, dP 1, dP 2, dP 3, dP 4, dP 5]]), (5, B.blk 62 [C.fn 23 [] []])])) := fun x0_Kind x0_N x0_Min x0_Set x0_L v v2 v3_Worst v3_Best v3_Pass => hF ((qb.mk x0_Kind x0_N x0_Min x0_Set x0_L), v, v2, (qd.mk v3_Worst v3_Best v3_Pass))
    have := qcC; have := @qax.eq_1; have := @JH; have := @zh.eq_1; exact gA
noncomputable def ZY (fu : Nat) (rF : (qb × List qa × Int × qd) → Option (List Bool × List qa × Int × qd)) (w7 : List Bool) (w9 : List Int) (b0 : List qa) (b2 : Int) (b3 : qd) (b6 : qb) (b10 : List Bool) (t18 : Bool) (t72 : List qb) (t73 : Int) (t74 : Int) (t96 : Int) : (List Int × Int) → Option ((List Int × Int) ⊕ (List Int)) | (w12, t97) => if t97 < t96 then if 0 ≤ t97 ∧ t97 < ((w12.length : Nat) : Int) then if Int.toNat t97 + 1 ≤ w12.length then if t18 = Bool.true then if 0 ≤ t97 ∧ t97 < ((w9.length : Nat) : Int) then Option.bind w9[Int.toNat t97]? fun (a2 : Int) => if 0 ≤ t97 ∧ t97 < ((w12.length : Nat) : Int) then if Int.toNat t97 + 1 ≤ w12.length then Option.bind (Q8 fu t97 w9 (List.set (List.set w12 (Int.toNat t97) (-1)) (Int.toNat t97) a2) b10 t97) fun (a3 : List Int) => some (Sum.inl (a3, w64 (t97 + 1))) else none else none else none else Option.bind (Q8 fu t97 w9 (List.set w12 (Int.toNat t97) (-1)) b10 t97) fun (a4 : List Int) => some (Sum.inl (a4, w64 (t97 + 1))) else none else none else some (Sum.inr w12)
theorem q4e (fu : Nat) (rF rF2 : (qb × List qa × Int × qd) → Option (List Bool × List qa × Int × qd)) (hF : ∀ y, qk (rF y) (rF2 y)) (w7 : List Bool) (w9 : List Int) (b0 : List qa) (b2 : Int) (b3 : qd) (b6 : qb) (b10 : List Bool) (t18 : Bool) (t72 : List qb) (t73 t74 t96 : Int) : ∀ x, qk (ZY fu rF w7 w9 b0 b2 b3 b6 b10 t18 t72 t73 t74 t96 x) (zh rF2 w7 w9 b0 b2 b3 b6 b10 t18 t72 t73 t74 t96 x) := by
  rintro ⟨w12, t97⟩
  unfold ZY zh
  try dsimp only
  repeat (first
    | with_reducible exact qk.refl _
    | with_reducible exact qk.none _
    | exact hF _
    | with_reducible apply JF
    | with_reducible refine qk.bind ?_ (fun _ => ?_)
    | with_reducible refine qk.ite ?_ ?_
    | with_reducible refine qk.sum (fun _ => ?_) (fun _ => ?_)
    | with_reducible refine qk.lim (fun _ => ?_))
noncomputable def zj (rF : (qb × List qa × Int × qd) → Option (List Bool × List qa × Int × qd)) (w7 : List Bool) (b6 : qb) (t72 : List qb) (t73 : Int) : (List Int × List qa × Int × qd × Int) → Option ((List Int × List qa × Int × qd × Int) ⊕ (List Int × List qa × Int × qd)) | (w9, b0, b2, b3, t74) => if t74 < t73 then if 0 ≤ t74 ∧ t74 < ((t72.length : Nat) : Int) then Option.bind t72[Int.toNat t74]? fun (a2 : qb) => Option.bind (rF (a2, (b0, (b2, b3)))) fun (a3 : Prod (List Bool) (Prod (List qa) (Prod Int qd))) => if (b6.Kind == 4) = Bool.true then if 0 ≤ ((w9.length : Nat) : Int) ∧ 8 * ((w9.length : Nat) : Int) ≤ 281474976710656 ∧ ((w9.length : Nat) : Int) ≤ 9223372036854775807 then Option.bind (qN (zh rF w7 w9 a3.2.1 a3.2.2.1 a3.2.2.2 b6 a3.1 Bool.true t72 t73 t74 ((w9.length : Nat) : Int)) (List.replicate w9.length 0, 0)) fun (a4 : List Int) => some (Sum.inl (a4, a3.2.1, a3.2.2.1, a3.2.2.2, w64 (t74 + 1))) else none else if 0 ≤ ((w9.length : Nat) : Int) ∧ 8 * ((w9.length : Nat) : Int) ≤ 281474976710656 ∧ ((w9.length : Nat) : Int) ≤ 9223372036854775807 then Option.bind (qN (zh rF w7 w9 a3.2.1 a3.2.2.1 a3.2.2.2 b6 a3.1 Bool.false t72 t73 t74 ((w9.length : Nat) : Int)) (List.replicate w9.length 0, 0)) fun (a5 : List Int) => some (Sum.inl (a5, a3.2.1, a3.2.2.1, a3.2.2.2, w64 (t74 + 1))) else none else none else some (Sum.inr (w9, b0, b2, b3))
theorem q4g (rE : Orc) (rF : (qb × List qa × Int × qd) → Option (List Bool × List qa × Int × qd)) (hF : ∀ y, rE (.fn 45) 6 (qy y).1 (qy y).2 = (rF y).bind fun e => some (qZ e)) (hM : ∀ g k a G, g ≠ 45 → rE (.fn g) k a G = ev g k a G) (hR : ∀ g asg bd k a G, rE (.rd g asg bd) k a G = evr g asg bd k a G) : ∀ (w7 : List Bool) (w9 : List Int) (b0 : List qa) (b2 b3_Worst b3_Best b3_Pass b6_Kind b6_N b6_Min : Int) (b6_Set : List qc) (b6_L t72 : List qb) (t73 t74 : Int) (w7_len w9_len : Nat), w7_len = w7.length → w9_len = w9.length → XL2 rE 45 6 18 ⟨[(3, rP 2), (5, rP 4), (6, rP 5), (7, rP 6), (9, rO 7 1 w7_len), (12, rP 8), (72, rL 5 qg t72), (73, rI t73), (74, rI t74)], [(0, B.blk 32 [dL 8 qf b0]), (1, B.blk 62 [C.fn 22 [] []]), (2, B.blk 3 [dI b2]), (3, B.blk 37 [dI b3_Worst, dI b3_Best, dI b3_Pass]), (4, B.blk 94 [C.fn 45 [] [dP 0, dP 1, dP 2, dP 3, dP 4, dP 5]]), (5, B.blk 62 [C.fn 23 [] []]), (6, B.blk 31 [dI b6_Kind, dI b6_N, dI b6_Min, dL 2 qe b6_Set, dL 5 qg b6_L]), (7, bR 4 1 eB w7), (8, B.blk 95 [dO 9 1 w9_len]), (9, bR 3 1 eI w9)], 10, 142⟩ = (qN (zj rF w7 (qb.mk b6_Kind b6_N b6_Min b6_Set b6_L) t72 t73) (w9, b0, b2, (qd.mk b3_Worst b3_Best b3_Pass), t74)).bind (fun (e : List Int × List qa × Int × qd) => some (Go.Exit.exit 4, ⟨[(7, rP 6), (9, rO 7 1 w7.length), (12, rP 8)], [(0, B.blk 32 [dL 8 qf e.2.1]), (1, B.blk 62 [C.fn 22 [] []]), (2, B.blk 3 [dI e.2.2.1]), (3, B.blk 37 [dI e.2.2.2.Worst, dI e.2.2.2.Best, dI e.2.2.2.Pass]), (4, B.blk 94 [C.fn 45 [] [dP 0, dP 1, dP 2, dP 3, dP 4, dP 5]]), (5, B.blk 62 [C.fn 23 [] []]), (6, B.blk 31 [dI b6_Kind, dI b6_N, dI b6_Min, dL 2 qe b6_Set, dL 5 qg b6_L]), (7, bR 4 1 eB w7), (8, B.blk 95 [dO 9 1 e.1.length]), (9, bR 3 1 eI e.1)], 10, 142⟩)) :=
  by
  intro w7 w9 b0 b2 b3_Worst b3_Best b3_Pass b6_Kind b6_N b6_Min b6_Set b6_L t72 t73 t74 w7_len w9_len h0 h1
  subst h0 h1
  have h := q2l (E := rE) (f := 45) (k := 6) (st := fun x : List Int × List qa × Int × qd × Int => (⟨[(3, rP 2), (5, rP 4), (6, rP 5), (7, rP 6), (9, rO 7 1 w7.length), (12, rP 8), (72, rL 5 qg t72), (73, rI t73), (74, rI x.2.2.2.2)], [(0, B.blk 32 [dL 8 qf x.2.1]), (1, B.blk 62 [C.fn 22 [] []]), (2, B.blk 3 [dI x.2.2.1]), (3, B.blk 37 [dI x.2.2.2.1.Worst, dI x.2.2.2.1.Best, dI x.2.2.2.1.Pass]), (4, B.blk 94 [C.fn 45 [] [dP 0, dP 1, dP 2, dP 3, dP 4, dP 5]]), (5, B.blk 62 [C.fn 23 [] []]), (6, B.blk 31 [dI b6_Kind, dI b6_N, dI b6_Min, dL 2 qe b6_Set, dL 5 qg b6_L]), (7, bR 4 1 eB w7), (8, B.blk 95 [dO 9 1 x.1.length]), (9, bR 3 1 eI x.1)], 10, 142⟩ : S)) (ex := fun (e : List Int × List qa × Int × qd) => (Go.Exit.exit 4, ⟨[(7, rP 6), (9, rO 7 1 w7.length), (12, rP 8)], [(0, B.blk 32 [dL 8 qf e.2.1]), (1, B.blk 62 [C.fn 22 [] []]), (2, B.blk 3 [dI e.2.2.1]), (3, B.blk 37 [dI e.2.2.2.Worst, dI e.2.2.2.Best, dI e.2.2.2.Pass]), (4, B.blk 94 [C.fn 45 [] [dP 0, dP 1, dP 2, dP 3, dP 4, dP 5]]), (5, B.blk 62 [C.fn 23 [] []]), (6, B.blk 31 [dI b6_Kind, dI b6_N, dI b6_Min, dL 2 qe b6_Set, dL 5 qg b6_L]), (7, bR 4 1 eB w7), (8, B.blk 95 [dO 9 1 e.1.length]), (9, bR 3 1 eI e.1)], 10, 142⟩)) (step := (zj rF w7 (qb.mk b6_Kind b6_N b6_Min b6_Set b6_L) t72 t73)) qhG qfm (fun e h => by cases h) (fun x => by
    obtain ⟨w9, b0, b2, b3, t74⟩ := x; have hF' : ∀ (x0_Kind x0_N x0_Min : Int) (x0_Set : List qc) (x0_L : List qb) (v : List qa) (v2 v3_Worst v3_Best v3_Pass : Int), rE (.fn 45) 6 [R.agg [dI x0_Kind, dI x0_N, dI x0_Min, dL 2 qe x0_Set, dL 5 qg x0_L], rP 0, rP 1, rP 2, rP 3, rP 4, rP 5] [(0, B.blk 32 [dL 8 qf v]), (1, B.blk 62 [C.fn 22 [] []]), (2, B.blk 3 [dI v2]), (3, B.blk 37 [dI v3_Worst, dI v3_Best, dI v3_Pass]), (4, B.blk 94 [C.fn 45 [] [dP 0, dP 1, dP 2, dP 3, dP 4, dP 5]]), (5, B.blk 62 [C.fn 23 [] []])] = (rF ((qb.mk x0_Kind x0_N x0_Min x0_Set x0_L), v, v2, (qd.mk v3_Worst v3_Best v3_Pass))).bind (fun e => some (rL 1 eB e.1, [(0, B.blk 32 [dL 8 qf e.2.1]), (1, B.blk 62 [C.fn 22 [] []]), (2, B.blk 3 [dI e.2.2.1]), (3, B.blk 37 [dI e.2.2.2.Worst, dI e.2.2.2.Best, dI e.2.2.2.Pass]), (4, B.blk 94 [C.fn 45 [] [dP 0, dP 1, dP 2, dP 3, dP 4, dP 5]]), (5, B.blk 62 [C.fn 23 [] []])])) := fun x0_Kind x0_N x0_Min x0_Set x0_L v v2 v3_Worst v3_Best v3_Pass => hF ((qb.mk x0_Kind x0_N x0_Min x0_Set x0_L), v, v2, (qd.mk v3_Worst v3_Best v3_Pass))
    have := qcC; have := @qat.eq_1; have := @q8U; have := q4d rE rF hF hM hR; have := @zj.eq_1; exact gA) (w9, b0, b2, (qd.mk b3_Worst b3_Best b3_Pass), t74)
  exact h
noncomputable def q09 (fu : Nat) (rF : (qb × List qa × Int × qd) → Option (List Bool × List qa × Int × qd)) (w7 : List Bool) (b6 : qb) (t72 : List qb) (t73 : Int) : (List Int × List qa × Int × qd × Int) → Option ((List Int × List qa × Int × qd × Int) ⊕ (List Int × List qa × Int × qd)) | (w9, b0, b2, b3, t74) => if t74 < t73 then if 0 ≤ t74 ∧ t74 < ((t72.length : Nat) : Int) then Option.bind t72[Int.toNat t74]? fun (a2 : qb) => Option.bind (rF (a2, (b0, (b2, b3)))) fun (a3 : Prod (List Bool) (Prod (List qa) (Prod Int qd))) => if (b6.Kind == 4) = Bool.true then if 0 ≤ ((w9.length : Nat) : Int) ∧ 8 * ((w9.length : Nat) : Int) ≤ 281474976710656 ∧ ((w9.length : Nat) : Int) ≤ 9223372036854775807 then Option.bind (itT (ZY fu rF w7 w9 a3.2.1 a3.2.2.1 a3.2.2.2 b6 a3.1 Bool.true t72 t73 t74 ((w9.length : Nat) : Int)) fu (List.replicate w9.length 0, 0)) fun (a4 : List Int) => some (Sum.inl (a4, a3.2.1, a3.2.2.1, a3.2.2.2, w64 (t74 + 1))) else none else if 0 ≤ ((w9.length : Nat) : Int) ∧ 8 * ((w9.length : Nat) : Int) ≤ 281474976710656 ∧ ((w9.length : Nat) : Int) ≤ 9223372036854775807 then Option.bind (itT (ZY fu rF w7 w9 a3.2.1 a3.2.2.1 a3.2.2.2 b6 a3.1 Bool.false t72 t73 t74 ((w9.length : Nat) : Int)) fu (List.replicate w9.length 0, 0)) fun (a5 : List Int) => some (Sum.inl (a5, a3.2.1, a3.2.2.1, a3.2.2.2, w64 (t74 + 1))) else none else none else some (Sum.inr (w9, b0, b2, b3))
theorem q4b (fu : Nat) (rF rF2 : (qb × List qa × Int × qd) → Option (List Bool × List qa × Int × qd)) (hF : ∀ y, qk (rF y) (rF2 y)) (w7 : List Bool) (b6 : qb) (t72 : List qb) (t73 : Int) : ∀ x, qk (q09 fu rF w7 b6 t72 t73 x) (zj rF2 w7 b6 t72 t73 x) := by
  rintro ⟨w9, b0, b2, b3, t74⟩
  unfold q09 zj
  try dsimp only
  repeat (first
    | with_reducible exact qk.refl _
    | with_reducible exact qk.none _
    | exact hF _
    | (with_reducible refine q4e _ _ _ hF ..)
    | with_reducible refine qk.bind ?_ (fun _ => ?_)
    | with_reducible refine qk.ite ?_ ?_
    | with_reducible refine qk.sum (fun _ => ?_) (fun _ => ?_)
    | with_reducible refine qk.lim (fun _ => ?_))
noncomputable def zg (rF : (qb × List qa × Int × qd) → Option (List Bool × List qa × Int × qd)) (w8 : List Int) (b0 : List qa) (b2 : Int) (b3 : qd) (t21 : Int) : (List Bool × Int) → Option ((List Bool × Int) ⊕ (List Bool)) | (w6, t22) => if t22 < ((w6.length : Nat) : Int) then if 0 ≤ t22 ∧ t22 < ((w8.length : Nat) : Int) then Option.bind w8[Int.toNat t22]? fun (a2 : Int) => if 0 ≤ t22 ∧ t22 < ((w6.length : Nat) : Int) then if Int.toNat t22 + 1 ≤ w6.length then some (Sum.inl (List.set w6 (Int.toNat t22) (decide (t21 ≤ a2)), w64 (t22 + 1))) else none else none else none else some (Sum.inr w6)
theorem q4k (rE : Orc) (rF : (qb × List qa × Int × qd) → Option (List Bool × List qa × Int × qd)) (hF : ∀ y, rE (.fn 45) 6 (qy y).1 (qy y).2 = (rF y).bind fun e => some (qZ e)) (hM : ∀ g k a G, g ≠ 45 → rE (.fn g) k a G = ev g k a G) (hR : ∀ g asg bd k a G, rE (.rd g asg bd) k a G = evr g asg bd k a G) : ∀ (w6 : List Bool) (w8 : List Int) (b0 : List qa) (b2 b3_Worst b3_Best b3_Pass t21 t22 : Int) (w6_len w8_len : Nat), w6_len = w6.length → w8_len = w8.length → XL2 rE 45 6 38 ⟨[(9, rO 6 1 w6_len), (12, rP 7), (21, rI t21), (22, rI t22)], [(0, B.blk 32 [dL 8 qf b0]), (1, B.blk 62 [C.fn 22 [] []]), (2, B.blk 3 [dI b2]), (3, B.blk 37 [dI b3_Worst, dI b3_Best, dI b3_Pass]), (4, B.blk 94 [C.fn 45 [] [dP 0, dP 1, dP 2, dP 3, dP 4, dP 5]]), (5, B.blk 62 [C.fn 23 [] []]), (6, bR 4 1 eB w6), (7, B.blk 95 [dO 8 1 w8_len]), (8, bR 3 1 eI w8)], 9, 142⟩ = (qN (zg rF w8 b0 b2 (qd.mk b3_Worst b3_Best b3_Pass) t21) (w6, t22)).bind (fun (e : List Bool) => some (Go.Exit.exit 8, ⟨[(9, rO 6 1 e.length)], [(0, B.blk 32 [dL 8 qf b0]), (1, B.blk 62 [C.fn 22 [] []]), (2, B.blk 3 [dI b2]), (3, B.blk 37 [dI b3_Worst, dI b3_Best, dI b3_Pass]), (4, B.blk 94 [C.fn 45 [] [dP 0, dP 1, dP 2, dP 3, dP 4, dP 5]]), (5, B.blk 62 [C.fn 23 [] []]), (6, bR 4 1 eB e)], 7, 142⟩)) :=
  by
  intro w6 w8 b0 b2 b3_Worst b3_Best b3_Pass t21 t22 w6_len w8_len h0 h1
  subst h0 h1
  revert t22; revert w6; exact q8L qhV qgu (fun e => by exact ⟨_, rfl, fun h => by cases h⟩) fun w6 t22 => by
    have hF' : ∀ (x0_Kind x0_N x0_Min : Int) (x0_Set : List qc) (x0_L : List qb) (v : List qa) (v2 v3_Worst v3_Best v3_Pass : Int), rE (.fn 45) 6 [R.agg [dI x0_Kind, dI x0_N, dI x0_Min, dL 2 qe x0_Set, dL 5 qg x0_L], rP 0, rP 1, rP 2, rP 3, rP 4, rP 5] [(0, B.blk 32 [dL 8 qf v]), (1, B.blk 62 [C.fn 22 [] []]), (2, B.blk 3 [dI v2]), (3, B.blk 37 [dI v3_Worst, dI v3_Best, dI v3_Pass]), (4, B.blk 94 [C.fn 45 [] [dP 0, dP 1, dP 2, dP 3, dP 4, dP 5]]), (5, B.blk 62 [C.fn 23 [] []])] = (rF ((qb.mk x0_Kind x0_N x0_Min x0_Set x0_L), v, v2, (qd.mk v3_Worst v3_Best v3_Pass))).bind (fun e => some (rL 1 eB e.1, [(0, B.blk 32 [dL 8 qf e.2.1]), (1, B.blk 62 [C.fn 22 [] []]), (2, B.blk 3 [dI e.2.2.1]), (3, B.blk 37 [dI e.2.2.2.Worst, dI e.2.2.2.Best, dI e.2.2.2.Pass]), (4, B.blk 94 [C.fn 45 [] [dP 0, dP 1, dP 2, dP 3, dP 4, dP 5]]), (5, B.blk 62 [C.fn 23 [] []])])) := fun x0_Kind x0_N x0_Min x0_Set x0_L v v2 v3_Worst v3_Best v3_Pass => hF ((qb.mk x0_Kind x0_N x0_Min x0_Set x0_L), v, v2, (qd.mk v3_Worst v3_Best v3_Pass))
    have := qcC; have := @qa1.eq_1; have := @zg.eq_1; exact gA
noncomputable def ZZ (fu : Nat) (rF : (qb × List qa × Int × qd) → Option (List Bool × List qa × Int × qd)) (w8 : List Int) (b0 : List qa) (b2 : Int) (b3 : qd) (t21 : Int) : (List Bool × Int) → Option ((List Bool × Int) ⊕ (List Bool)) | (w6, t22) => if t22 < ((w6.length : Nat) : Int) then if 0 ≤ t22 ∧ t22 < ((w8.length : Nat) : Int) then Option.bind w8[Int.toNat t22]? fun (a2 : Int) => if 0 ≤ t22 ∧ t22 < ((w6.length : Nat) : Int) then if Int.toNat t22 + 1 ≤ w6.length then some (Sum.inl (List.set w6 (Int.toNat t22) (decide (t21 ≤ a2)), w64 (t22 + 1))) else none else none else none else some (Sum.inr w6)
theorem q4a (fu : Nat) (rF rF2 : (qb × List qa × Int × qd) → Option (List Bool × List qa × Int × qd)) (hF : ∀ y, qk (rF y) (rF2 y)) (w8 : List Int) (b0 : List qa) (b2 : Int) (b3 : qd) (t21 : Int) : ∀ x, qk (ZZ fu rF w8 b0 b2 b3 t21 x) (zg rF2 w8 b0 b2 b3 t21 x) := by
  rintro ⟨w6, t22⟩
  unfold ZZ zg
  try dsimp only
  repeat (first
    | with_reducible exact qk.refl _
    | with_reducible exact qk.none _
    | exact hF _
    | with_reducible refine qk.bind ?_ (fun _ => ?_)
    | with_reducible refine qk.ite ?_ ?_
    | with_reducible refine qk.sum (fun _ => ?_) (fun _ => ?_)
    | with_reducible refine qk.lim (fun _ => ?_))
noncomputable def Qz (rF : (qb × List qa × Int × qd) → Option (List Bool × List qa × Int × qd)) : (qb × List qa × Int × qd) → Option (List Bool × List qa × Int × qd) | (x0, v, v2, v3) => if 0 ≤ ((v.length : Nat) : Int) then if 0 ≤ w64 (1 * 2 ^ min v.length (Go.IntKind.bits Go.IntKind.i64)) ∧ 1 * w64 (1 * 2 ^ min v.length (Go.IntKind.bits Go.IntKind.i64)) ≤ 281474976710656 ∧ w64 (1 * 2 ^ min v.length (Go.IntKind.bits Go.IntKind.i64)) ≤ 9223372036854775807 then if Q3 x0 = Bool.true then Option.bind (QO x0.Kind) fun (a2 : Sum Unit Unit) => Sum.elim (fun (a3 : Unit) => Option.bind (qN (zK rF v v2 v3 x0) (List.replicate (Int.toNat (w64 (1 * 2 ^ min v.length (Go.IntKind.bits Go.IntKind.i64)))) Bool.false, 1)) fun (a5 : List Bool) => some (a5, v, w64 (v2 + 1), v3)) (fun (a4 : Unit) => Option.bind (qN (zJ rF v v2 v3 x0) (List.replicate (Int.toNat (w64 (1 * 2 ^ min v.length (Go.IntKind.bits Go.IntKind.i64)))) Bool.false, 1)) fun (a6 : List Bool) => some (a6, v, w64 (v2 + 1), v3)) a2 else if 0 ≤ ((Int.toNat (w64 (1 * 2 ^ min v.length (Go.IntKind.bits Go.IntKind.i64))) : Nat) : Int) ∧ 8 * ((Int.toNat (w64 (1 * 2 ^ min v.length (Go.IntKind.bits Go.IntKind.i64))) : Nat) : Int) ≤ 281474976710656 ∧ ((Int.toNat (w64 (1 * 2 ^ min v.length (Go.IntKind.bits Go.IntKind.i64))) : Nat) : Int) ≤ 9223372036854775807 then Option.bind (qN (z7 rF (List.replicate (Int.toNat (w64 (1 * 2 ^ min v.length (Go.IntKind.bits Go.IntKind.i64)))) Bool.false) v v2 v3 x0) (List.replicate (Int.toNat (w64 (1 * 2 ^ min v.length (Go.IntKind.bits Go.IntKind.i64)))) 0, 1)) fun (a7 : List Int) => Option.bind (qN (zj rF (List.replicate (Int.toNat (w64 (1 * 2 ^ min v.length (Go.IntKind.bits Go.IntKind.i64)))) Bool.false) x0 x0.L ((x0.L.length : Nat) : Int)) (a7, (v, (v2, (v3, 0))))) fun (a8 : Prod (List Int) (Prod (List qa) (Prod Int qd))) => if (x0.Kind == 3) = Bool.true then Option.bind (qN (zg rF a8.1 a8.2.1 a8.2.2.1 a8.2.2.2 ((x0.L.length : Nat) : Int)) (List.replicate (Int.toNat (w64 (1 * 2 ^ min v.length (Go.IntKind.bits Go.IntKind.i64)))) Bool.false, 1)) fun (a9 : List Bool) => some (a9, a8.2.1, a8.2.2.1, a8.2.2.2) else Option.bind (qN (zg rF a8.1 a8.2.1 a8.2.2.1 a8.2.2.2 x0.N) (List.replicate (Int.toNat (w64 (1 * 2 ^ min v.length (Go.IntKind.bits Go.IntKind.i64)))) Bool.false, 1)) fun (a10 : List Bool) => some (a10, a8.2.1, a8.2.2.1, a8.2.2.2) else none else none else none
theorem q2C : q4n 45 6 qy qZ Qz := by
  intro rE rF hF hM hR x
  obtain ⟨x0, v, v2, v3⟩ := x
  show q6K rE 45 6 [R.agg [dI x0.Kind, dI x0.N, dI x0.Min, dL 2 qe x0.Set, dL 5 qg x0.L], rP 0, rP 1, rP 2, rP 3, rP 4, rP 5] [(0, B.blk 32 [dL 8 qf v]), (1, B.blk 62 [C.fn 22 [] []]), (2, B.blk 3 [dI v2]), (3, B.blk 37 [dI v3.Worst, dI v3.Best, dI v3.Pass]), (4, B.blk 94 [C.fn 45 [] [dP 0, dP 1, dP 2, dP 3, dP 4, dP 5]]), (5, B.blk 62 [C.fn 23 [] []])] = _
  have hF' : ∀ (x0_Kind x0_N x0_Min : Int) (x0_Set : List qc) (x0_L : List qb) (v : List qa) (v2 v3_Worst v3_Best v3_Pass : Int), rE (.fn 45) 6 [R.agg [dI x0_Kind, dI x0_N, dI x0_Min, dL 2 qe x0_Set, dL 5 qg x0_L], rP 0, rP 1, rP 2, rP 3, rP 4, rP 5] [(0, B.blk 32 [dL 8 qf v]), (1, B.blk 62 [C.fn 22 [] []]), (2, B.blk 3 [dI v2]), (3, B.blk 37 [dI v3_Worst, dI v3_Best, dI v3_Pass]), (4, B.blk 94 [C.fn 45 [] [dP 0, dP 1, dP 2, dP 3, dP 4, dP 5]]), (5, B.blk 62 [C.fn 23 [] []])] = (rF ((qb.mk x0_Kind x0_N x0_Min x0_Set x0_L), v, v2, (qd.mk v3_Worst v3_Best v3_Pass))).bind (fun e => some (rL 1 eB e.1, [(0, B.blk 32 [dL 8 qf e.2.1]), (1, B.blk 62 [C.fn 22 [] []]), (2, B.blk 3 [dI e.2.2.1]), (3, B.blk 37 [dI e.2.2.2.Worst, dI e.2.2.2.Best, dI e.2.2.2.Pass]), (4, B.blk 94 [C.fn 45 [] [dP 0, dP 1, dP 2, dP 3, dP 4, dP 5]]), (5, B.blk 62 [C.fn 23 [] []])])) := fun x0_Kind x0_N x0_Min x0_Set x0_L v v2 v3_Worst v3_Best v3_Pass => hF ((qb.mk x0_Kind x0_N x0_Min x0_Set x0_L), v, v2, (qd.mk v3_Worst v3_Best v3_Pass))
  rw [q1p qjk qn8]
  have := qcC; have := @q0S; have := @q1z; have := q3A rE rF hF hM hR; have := q3W rE rF hF hM hR; have := q2S rE rF hF hM hR; have := q4g rE rF hF hM hR; have := q4k rE rF hF hM hR; have := @Qz.eq_1; have := @qZ.eq_1; exact gA
theorem q0K : ∀ x y, qy x = qy y → x = y := by
  rintro ⟨⟨a0_0, a0_1, a0_2, a0_3, a0_4⟩, a1, a2, ⟨a3_0, a3_1, a3_2⟩⟩ ⟨⟨b0_0, b0_1, b0_2, b0_3, b0_4⟩, b1, b2, ⟨b3_0, b3_1, b3_2⟩⟩ h
  simp only [qy, Prod.mk.injEq, List.cons.injEq, R.c.injEq, R.agg.injEq, R.tup.injEq, C.d.injEq, C.own.injEq, C.ptr.injEq, C.eptr.injEq, D.int.injEq, D.bool.injEq, D.str.injEq, D.sl.injEq, B.blk.injEq, B.row.injEq, ZK, q01, ZN, J6, Jl, q0Z, ZI, q1o, true_and, and_true, List.nil_append] at h
  simp only [h]
theorem q4G : ∀ x y, qZ x = qZ y → x = y := by
  rintro ⟨a0, a1, a2, ⟨a3_0, a3_1, a3_2⟩⟩ ⟨b0, b1, b2, ⟨b3_0, b3_1, b3_2⟩⟩ h
  simp only [qZ, Prod.mk.injEq, List.cons.injEq, R.c.injEq, R.agg.injEq, R.tup.injEq, C.d.injEq, C.own.injEq, C.ptr.injEq, C.eptr.injEq, D.int.injEq, D.bool.injEq, D.str.injEq, D.sl.injEq, B.blk.injEq, B.row.injEq, ZK, q01, ZN, J6, Jl, q0Z, ZI, q1o, true_and, and_true, List.nil_append] at h
  simp only [h]
noncomputable def qO : (qb × List qa × Int × qd) → Option (List Bool × List qa × Int × qd) := q4R 45 6 qy qZ
theorem q2D (x : (qb × List qa × Int × qd)) : qO x = Qz qO x := q8I qpm.2.2.2 q0K q4G q2C x
theorem q6I (x0 : qb) (v : List qa) (v2 : Int) (v3 : qd) : ev 45 6 [R.agg [dI x0.Kind, dI x0.N, dI x0.Min, dL 2 qe x0.Set, dL 5 qg x0.L], rP 0, rP 1, rP 2, rP 3, rP 4, rP 5] [(0, B.blk 32 [dL 8 qf v]), (1, B.blk 62 [C.fn 22 [] []]), (2, B.blk 3 [dI v2]), (3, B.blk 37 [dI v3.Worst, dI v3.Best, dI v3.Pass]), (4, B.blk 94 [C.fn 45 [] [dP 0, dP 1, dP 2, dP 3, dP 4, dP 5]]), (5, B.blk 62 [C.fn 23 [] []])] = (qO (x0, v, v2, v3)).bind (fun (e : List Bool × List qa × Int × qd) => some (rL 1 eB e.1, [(0, B.blk 32 [dL 8 qf e.2.1]), (1, B.blk 62 [C.fn 22 [] []]), (2, B.blk 3 [dI e.2.2.1]), (3, B.blk 37 [dI e.2.2.2.Worst, dI e.2.2.2.Best, dI e.2.2.2.Pass]), (4, B.blk 94 [C.fn 45 [] [dP 0, dP 1, dP 2, dP 3, dP 4, dP 5]]), (5, B.blk 62 [C.fn 23 [] []])])) := (q5b qpm.2.2.2 q0K q2C (x0, v, v2, v3))
theorem q7u : ∀ (x0_Kind x0_N x0_Min : Int) (x0_Set : List qc) (x0_L : List qb) (v : List qa) (v2 v3_Worst v3_Best v3_Pass : Int), ev 45 6 [R.agg [dI x0_Kind, dI x0_N, dI x0_Min, dL 2 qe x0_Set, dL 5 qg x0_L], rP 0, rP 1, rP 2, rP 3, rP 4, rP 5] [(0, B.blk 32 [dL 8 qf v]), (1, B.blk 62 [C.fn 22 [] []]), (2, B.blk 3 [dI v2]), (3, B.blk 37 [dI v3_Worst, dI v3_Best, dI v3_Pass]), (4, B.blk 94 [C.fn 45 [] [dP 0, dP 1, dP 2, dP 3, dP 4, dP 5]]), (5, B.blk 62 [C.fn 23 [] []])] = (qO ((qb.mk x0_Kind x0_N x0_Min x0_Set x0_L), v, v2, (qd.mk v3_Worst v3_Best v3_Pass))).bind (fun (e : List Bool × List qa × Int × qd) => some (rL 1 eB e.1, [(0, B.blk 32 [dL 8 qf e.2.1]), (1, B.blk 62 [C.fn 22 [] []]), (2, B.blk 3 [dI e.2.2.1]), (3, B.blk 37 [dI e.2.2.2.Worst, dI e.2.2.2.Best, dI e.2.2.2.Pass]), (4, B.blk 94 [C.fn 45 [] [dP 0, dP 1, dP 2, dP 3, dP 4, dP 5]]), (5, B.blk 62 [C.fn 23 [] []])])) :=
  fun x0_Kind x0_N x0_Min x0_Set x0_L v v2 v3_Worst v3_Best v3_Pass => q6I (qb.mk x0_Kind x0_N x0_Min x0_Set x0_L) v v2 (qd.mk v3_Worst v3_Best v3_Pass)
noncomputable def JT (fu : Nat) (rF : (qb × List qa × Int × qd) → Option (List Bool × List qa × Int × qd)) : (qb × List qa × Int × qd) → Option (List Bool × List qa × Int × qd) | (x0, v, v2, v3) => if 0 ≤ ((v.length : Nat) : Int) then if 0 ≤ w64 (1 * 2 ^ min v.length (Go.IntKind.bits Go.IntKind.i64)) ∧ 1 * w64 (1 * 2 ^ min v.length (Go.IntKind.bits Go.IntKind.i64)) ≤ 281474976710656 ∧ w64 (1 * 2 ^ min v.length (Go.IntKind.bits Go.IntKind.i64)) ≤ 9223372036854775807 then if Q3 x0 = Bool.true then Option.bind (QO x0.Kind) fun (a2 : Sum Unit Unit) => Sum.elim (fun (a3 : Unit) => Option.bind (itT (JL fu rF v v2 v3 x0) fu (List.replicate (Int.toNat (w64 (1 * 2 ^ min v.length (Go.IntKind.bits Go.IntKind.i64)))) Bool.false, 1)) fun (a5 : List Bool) => some (a5, v, w64 (v2 + 1), v3)) (fun (a4 : Unit) => Option.bind (itT (JS fu rF v v2 v3 x0) fu (List.replicate (Int.toNat (w64 (1 * 2 ^ min v.length (Go.IntKind.bits Go.IntKind.i64)))) Bool.false, 1)) fun (a6 : List Bool) => some (a6, v, w64 (v2 + 1), v3)) a2 else if 0 ≤ ((Int.toNat (w64 (1 * 2 ^ min v.length (Go.IntKind.bits Go.IntKind.i64))) : Nat) : Int) ∧ 8 * ((Int.toNat (w64 (1 * 2 ^ min v.length (Go.IntKind.bits Go.IntKind.i64))) : Nat) : Int) ≤ 281474976710656 ∧ ((Int.toNat (w64 (1 * 2 ^ min v.length (Go.IntKind.bits Go.IntKind.i64))) : Nat) : Int) ≤ 9223372036854775807 then Option.bind (itT (Jv fu rF (List.replicate (Int.toNat (w64 (1 * 2 ^ min v.length (Go.IntKind.bits Go.IntKind.i64)))) Bool.false) v v2 v3 x0) fu (List.replicate (Int.toNat (w64 (1 * 2 ^ min v.length (Go.IntKind.bits Go.IntKind.i64)))) 0, 1)) fun (a7 : List Int) => Option.bind (itT (q09 fu rF (List.replicate (Int.toNat (w64 (1 * 2 ^ min v.length (Go.IntKind.bits Go.IntKind.i64)))) Bool.false) x0 x0.L ((x0.L.length : Nat) : Int)) fu (a7, (v, (v2, (v3, 0))))) fun (a8 : Prod (List Int) (Prod (List qa) (Prod Int qd))) => if (x0.Kind == 3) = Bool.true then Option.bind (itT (ZZ fu rF a8.1 a8.2.1 a8.2.2.1 a8.2.2.2 ((x0.L.length : Nat) : Int)) fu (List.replicate (Int.toNat (w64 (1 * 2 ^ min v.length (Go.IntKind.bits Go.IntKind.i64)))) Bool.false, 1)) fun (a9 : List Bool) => some (a9, a8.2.1, a8.2.2.1, a8.2.2.2) else Option.bind (itT (ZZ fu rF a8.1 a8.2.1 a8.2.2.1 a8.2.2.2 x0.N) fu (List.replicate (Int.toNat (w64 (1 * 2 ^ min v.length (Go.IntKind.bits Go.IntKind.i64)))) Bool.false, 1)) fun (a10 : List Bool) => some (a10, a8.2.1, a8.2.2.1, a8.2.2.2) else none else none else none
theorem q3z (fu : Nat) (rF rF2 : (qb × List qa × Int × qd) → Option (List Bool × List qa × Int × qd)) (hF : ∀ y, qk (rF y) (rF2 y)) : ∀ x, qk (JT fu rF x) (Qz rF2 x) := by
  rintro ⟨x0, v, v2, v3⟩
  unfold JT Qz
  try dsimp only
  repeat (first
    | with_reducible exact qk.refl _
    | with_reducible exact qk.none _
    | exact hF _
    | (with_reducible refine q3d _ _ _ hF ..)
    | (with_reducible refine q3j _ _ _ hF ..)
    | (with_reducible refine q2X _ _ _ hF ..)
    | (with_reducible refine q4b _ _ _ hF ..)
    | (with_reducible refine q4a _ _ _ hF ..)
    | with_reducible refine qk.bind ?_ (fun _ => ?_)
    | with_reducible refine qk.ite ?_ ?_
    | with_reducible refine qk.sum (fun _ => ?_) (fun _ => ?_)
    | with_reducible refine qk.lim (fun _ => ?_))
noncomputable def q5O (fu : Nat) (x : (qb × List qa × Int × qd)) : Option (List Bool × List qa × Int × qd) := itR (JT fu) fu x
theorem q7w (fu : Nat) (x : (qb × List qa × Int × qd)) : qk (q5O fu x) (qO x) := qk.rec q2D (q3z fu) fu x
noncomputable def q0c (n : qb) (s : qd) (l : List qa) : Option (List Bool) := Option.bind (qO (n, (l, (0, s)))) fun (a : Prod (List Bool) (Prod (List qa) (Prod Int qd))) => some a.1
theorem q9d : ∀ (n_Kind n_N n_Min : Int) (n_Set : List qc) (n_L : List qb) (s_Worst s_Best s_Pass : Int) (l : List qa), ev 24 0 [R.agg [dI n_Kind, dI n_N, dI n_Min, dL 2 qe n_Set, dL 5 qg n_L], R.agg [dI s_Worst, dI s_Best, dI s_Pass], rL 8 qf l, R.c (C.fn 22 [] []), R.c (C.fn 23 [] [])] [] = (q0c (qb.mk n_Kind n_N n_Min n_Set n_L) (qd.mk s_Worst s_Best s_Pass) l).bind (fun (e : List Bool) => some (rL 1 eB e, [])) :=
  fun n_Kind n_N n_Min n_Set n_L s_Worst s_Best s_Pass l => by
    rw [qB qsq qta.2.2.2 qwp]
    have := qvI; have := @q7u; have := @q0c.eq_1; exact gA
noncomputable def q4K (fu : Nat) (n : qb) (s : qd) (l : List qa) : Option (List Bool) := Option.bind (q5O fu (n, (l, (0, s)))) fun (a : Prod (List Bool) (Prod (List qa) (Prod Int qd))) => some a.1
theorem q9m (fu : Nat) (n : qb) (s : qd) (l : List qa) : qk (q4K fu n s l) (q0c n s l) := by
  unfold q4K q0c
  repeat (first
    | with_reducible exact qk.refl _
    | with_reducible exact qk.none _
    | with_reducible apply q7w
    | with_reducible refine qk.bind ?_ (fun _ => ?_)
    | with_reducible refine qk.ite ?_ ?_
    | with_reducible refine qk.sum (fun _ => ?_) (fun _ => ?_)
    | with_reducible refine qk.lim (fun _ => ?_))
noncomputable def Zc (n : qb) (s : qd) (l : List qa) : Option (List Bool × Int) := Option.bind (QV n) fun (a : Int) => if (a != 0) = Bool.true then some ([], a) else if 10 < ((l.length : Nat) : Int) then some ([], 2) else Option.bind (q0c n s l) fun (a2 : List Bool) => some (a2, 0)
theorem q2c : ∀ (n_Kind n_N n_Min : Int) (n_Set : List qc) (n_L : List qb) (s_Worst s_Best s_Pass : Int) (l : List qa), ev 10 0 [R.agg [dI n_Kind, dI n_N, dI n_Min, dL 2 qe n_Set, dL 5 qg n_L], R.agg [dI s_Worst, dI s_Best, dI s_Pass], rL 8 qf l] [] = (Zc (qb.mk n_Kind n_N n_Min n_Set n_L) (qd.mk s_Worst s_Best s_Pass) l).bind (fun (e : List Bool × Int) => some (R.tup [rL 1 eB e.1, rI e.2], [])) :=
  fun n_Kind n_N n_Min n_Set n_L s_Worst s_Best s_Pass l => by
    rw [qB quI quU.2.2.2 qxG]
    have := qyj; have := @q3L; have := @q9d; have := @Zc.eq_1; exact gA
theorem q7h : ∀ (l0_Course_School : Int) (l0_Course_Code : ByteArray) (l0_Credits l0_Grade l0_Day l0_Bundle l1_Course_School : Int) (l1_Course_Code : ByteArray) (l1_Credits l1_Grade l1_Day l1_Bundle l2_Course_School : Int) (l2_Course_Code : ByteArray) (l2_Credits l2_Grade l2_Day l2_Bundle n_Kind n_N n_Min : Int) (n_Set : List qc) (n_L : List qb) (s_Worst s_Best s_Pass : Int), ev 10 0 [R.agg [dI n_Kind, dI n_N, dI n_Min, dL 2 qe n_Set, dL 5 qg n_L], R.agg [dI s_Worst, dI s_Best, dI s_Pass], R.c (C.d (D.sl 8 3 [D.int .i64 l0_Course_School, D.str l0_Course_Code, D.int .i64 l0_Credits, D.int .i64 l0_Grade, D.int .i64 l0_Day, D.sl 1 0 [], D.int .i64 l0_Bundle, D.sl 1 0 [], D.int .i64 l1_Course_School, D.str l1_Course_Code, D.int .i64 l1_Credits, D.int .i64 l1_Grade, D.int .i64 l1_Day, D.sl 1 0 [], D.int .i64 l1_Bundle, D.sl 1 0 [], D.int .i64 l2_Course_School, D.str l2_Course_Code, D.int .i64 l2_Credits, D.int .i64 l2_Grade, D.int .i64 l2_Day, D.sl 1 0 [], D.int .i64 l2_Bundle, D.sl 1 0 []]))] [] = (Zc (qb.mk n_Kind n_N n_Min n_Set n_L) (qd.mk s_Worst s_Best s_Pass) [(qa.mk (qc.mk l0_Course_School l0_Course_Code) l0_Credits l0_Grade l0_Day [] l0_Bundle []), (qa.mk (qc.mk l1_Course_School l1_Course_Code) l1_Credits l1_Grade l1_Day [] l1_Bundle []), (qa.mk (qc.mk l2_Course_School l2_Course_Code) l2_Credits l2_Grade l2_Day [] l2_Bundle [])]).bind (fun (e : List Bool × Int) => some (R.tup [rL 1 eB e.1, rI e.2], [])) := by
  intro l0_Course_School l0_Course_Code l0_Credits l0_Grade l0_Day l0_Bundle l1_Course_School l1_Course_Code l1_Credits l1_Grade l1_Day l1_Bundle l2_Course_School l2_Course_Code l2_Credits l2_Grade l2_Day l2_Bundle n_Kind n_N n_Min n_Set n_L s_Worst s_Best s_Pass; have h := q2c ((qb.mk n_Kind n_N n_Min n_Set n_L)).Kind ((qb.mk n_Kind n_N n_Min n_Set n_L)).N ((qb.mk n_Kind n_N n_Min n_Set n_L)).Min ((qb.mk n_Kind n_N n_Min n_Set n_L)).Set ((qb.mk n_Kind n_N n_Min n_Set n_L)).L ((qd.mk s_Worst s_Best s_Pass)).Worst ((qd.mk s_Worst s_Best s_Pass)).Best ((qd.mk s_Worst s_Best s_Pass)).Pass [(qa.mk (qc.mk l0_Course_School l0_Course_Code) l0_Credits l0_Grade l0_Day [] l0_Bundle []), (qa.mk (qc.mk l1_Course_School l1_Course_Code) l1_Credits l1_Grade l1_Day [] l1_Bundle []), (qa.mk (qc.mk l2_Course_School l2_Course_Code) l2_Credits l2_Grade l2_Day [] l2_Bundle [])]
  first
    | exact h
    | (simp only [rL, dL, bR, bZ, Nat.reduceAdd] at h; exact h)
noncomputable def q44 (fu : Nat) (n : qb) (s : qd) (l : List qa) : Option (List Bool × Int) := Option.bind (q1r fu n) fun (a : Int) => if (a != 0) = Bool.true then some ([], a) else if 10 < ((l.length : Nat) : Int) then some ([], 2) else Option.bind (q4K fu n s l) fun (a2 : List Bool) => some (a2, 0)
theorem q6a (fu : Nat) (n : qb) (s : qd) (l : List qa) : qk (q44 fu n s l) (Zc n s l) := by
  unfold q44 Zc
  repeat (first
    | with_reducible exact qk.refl _
    | with_reducible exact qk.none _
    | with_reducible apply q3g
    | with_reducible apply q9m
    | with_reducible refine qk.bind ?_ (fun _ => ?_)
    | with_reducible refine qk.ite ?_ ?_
    | with_reducible refine qk.sum (fun _ => ?_) (fun _ => ?_)
    | with_reducible refine qk.lim (fun _ => ?_))
theorem qwn : okL 25 qdJ := qA (qi qsx) (by kernel_rfl) (by kernel_rfl)
def qvo := JA_ @qdJ.eq_1 (JA_ @Try.f25.eq_1 @qsx)
theorem qpo : lbO 25 2 = qgJ := Qd (qi qsx) rfl
theorem qoB : okL 25 qgJ := zd qwn (List.mem_of_getElem? (i := 0) (by kernel_rfl))
noncomputable def Qh (w1 : List Int) (leaf : Int) (set0 : Int) (t9 : Int) : Int → Option (Int ⊕ (Unit ⊕ Unit)) | t10 => if t10 < t9 then if 0 ≤ t10 ∧ t10 < ((w1.length : Nat) : Int) then Option.bind w1[Int.toNat t10]? fun (a : Int) => if 0 ≤ t10 then if (!((Jz Go.BinOp.and Go.IntKind.i64 (Int.fdiv set0 (2 ^ min (Int.toNat t10) (Go.IntKind.bits Go.IntKind.i64))) 1 == 1) == (a == leaf))) = Bool.true then some (Sum.inr (Sum.inl ())) else some (Sum.inl (w64 (t10 + 1))) else none else none else some (Sum.inr (Sum.inr ()))
theorem q4c : ∀ (w1 : List Int) (leaf set0 t9 t10 : Int) (w1_len : Nat), w1_len = w1.length → XL2 evo 25 1 2 ⟨[(0, rI leaf), (1, rI set0), (8, rO 1 1 w1_len), (9, rI t9), (10, rI t10)], [(0, B.blk 22 [dO 1 1 w1_len]), (1, bR 3 1 eI w1)], 2, 25⟩ = (qN (Qh w1 leaf set0 t9) t10).bind (Sum.elim (fun (e : Unit) => some (Go.Exit.ret, ⟨[(5, rB Bool.false)], [(0, B.blk 22 [dO 1 1 w1.length]), (1, bR 3 1 eI w1)], 2, 25⟩)) (fun (e : Unit) => some (Go.Exit.exit 0, ⟨[(5, R.any)], [(0, B.blk 22 [dO 1 1 w1.length]), (1, bR 3 1 eI w1)], 2, 25⟩))) :=
  by
  intro w1 leaf set0 t9 t10 w1_len h0
  subst h0
  revert t10; exact qbx qpo qoB (fun e => by rcases e with _ | _ <;> exact ⟨_, rfl, fun h => by cases h⟩) fun x => by
    have := qvo; have := @qgJ.eq_1; have := @Qh.eq_1; exact gA
noncomputable def QN (leaf : Int) (set0 : Int) (w1 : List Int) : Option Bool := Option.bind (qN (Qh w1 leaf set0 ((w1.length : Nat) : Int)) 0) fun (a : Sum Unit Unit) => Sum.elim (fun (a2 : Unit) => some Bool.false) (fun (a3 : Unit) => some Bool.true) a
theorem q1W : ∀ (leaf set0 : Int) (w1 : List Int) (w1_len : Nat), w1_len = w1.length → ev 25 1 [rI leaf, rI set0, rP 0] [(0, B.blk 22 [dO 1 1 w1_len]), (1, bR 3 1 eI w1)] = (QN leaf set0 w1).bind (fun (e : Bool) => some (rB e, [(0, B.blk 22 [dO 1 1 w1.length]), (1, bR 3 1 eI w1)])) :=
  by
  intro leaf set0 w1 w1_len h0
  subst h0
  rw [qB qsx qvy.2.2.2 qwn]
  have := qvo; have := @q4c; have := @QN.eq_1; exact gA
noncomputable def q0h (fu : Nat) (leaf : Int) (set0 : Int) (w1 : List Int) : Option Bool := Option.bind (itT (Qh w1 leaf set0 ((w1.length : Nat) : Int)) fu 0) fun (a : Sum Unit Unit) => Sum.elim (fun (a2 : Unit) => some Bool.false) (fun (a3 : Unit) => some Bool.true) a
theorem q1I (fu : Nat) (leaf set0 : Int) (w1 : List Int) : qk (q0h fu leaf set0 w1) (QN leaf set0 w1) := by
  unfold q0h QN
  repeat (first
    | with_reducible exact qk.refl _
    | with_reducible exact qk.none _
    | with_reducible refine qk.bind ?_ (fun _ => ?_)
    | with_reducible refine qk.ite ?_ ?_
    | with_reducible refine qk.sum (fun _ => ?_) (fun _ => ?_)
    | with_reducible refine qk.lim (fun _ => ?_))
noncomputable def qt (x : (qb × List Int × List qa × Int × qd)) : List R × List (Nat × B) := ([R.agg [C.d (D.int .i64 x.1.Kind), C.d (D.int .i64 x.1.N), C.d (D.int .i64 x.1.Min), C.d (D.sl 2 x.1.Set.length (x.1.Set.flatMap qe)), C.d (D.sl 5 x.1.L.length (x.1.L.flatMap qg))], R.c (C.ptr 0 0), R.c (C.ptr 1 0), R.c (C.ptr 3 0), R.c (C.ptr 4 0), R.c (C.ptr 5 0), R.c (C.ptr 6 0)], [(0, B.blk 32 [C.d (D.sl 8 x.2.2.1.length (x.2.2.1.flatMap qf))]), (1, B.blk 62 [C.fn 25 [] [C.ptr 2 0]]), (2, B.blk 22 [C.own 7 1 0 x.2.1.length]), (3, B.blk 3 [C.d (D.int .i64 x.2.2.2.1)]), (4, B.blk 37 [C.d (D.int .i64 x.2.2.2.2.Worst), C.d (D.int .i64 x.2.2.2.2.Best), C.d (D.int .i64 x.2.2.2.2.Pass)]), (5, B.blk 94 [C.fn 45 [] [C.ptr 0 0, C.ptr 1 0, C.ptr 3 0, C.ptr 4 0, C.ptr 5 0, C.ptr 6 0]]), (6, B.blk 62 [C.fn 26 [] [C.ptr 2 0]]), (7, B.row 3 1 ((x.2.1.flatMap eI).map C.d))])
noncomputable def qL : (List Bool × List Int × List qa × Int × qd) → R × List (Nat × B) := fun (e : List Bool × List Int × List qa × Int × qd) => (R.c (C.d (D.sl 1 e.1.length (e.1.flatMap eB))), [(0, B.blk 32 [C.d (D.sl 8 e.2.2.1.length (e.2.2.1.flatMap qf))]), (1, B.blk 62 [C.fn 25 [] [C.ptr 2 0]]), (2, B.blk 22 [C.own 7 1 0 e.2.1.length]), (3, B.blk 3 [C.d (D.int .i64 e.2.2.2.1)]), (4, B.blk 37 [C.d (D.int .i64 e.2.2.2.2.Worst), C.d (D.int .i64 e.2.2.2.2.Best), C.d (D.int .i64 e.2.2.2.2.Pass)]), (5, B.blk 94 [C.fn 45 [] [C.ptr 0 0, C.ptr 1 0, C.ptr 3 0, C.ptr 4 0, C.ptr 5 0, C.ptr 6 0]]), (6, B.blk 62 [C.fn 26 [] [C.ptr 2 0]]), (7, B.row 3 1 ((e.2.1.flatMap eI).map C.d))])
noncomputable def zI (rF : (qb × List Int × List qa × Int × qd) → Option (List Bool × List Int × List qa × Int × qd)) (w7 : List Int) (b0 : List qa) (b3 : Int) (b4 : qd) (b8 : qb) : (List Bool × Int) → Option ((List Bool × Int) ⊕ (List Bool)) | (w9, b10) => if b10 < ((w9.length : Nat) : Int) then Option.bind (QN b3 b10 w7) fun (a2 : Bool) => if a2 = Bool.true then Option.bind (QY b8 b4 b0 b10) fun (a3 : ql) => if 0 ≤ b10 ∧ b10 < ((w9.length : Nat) : Int) then if Int.toNat b10 + 1 ≤ w9.length then some (Sum.inl (List.set w9 (Int.toNat b10) (qx a3 b8), w64 (b10 + 1))) else none else none else if 0 ≤ b10 ∧ b10 < ((w9.length : Nat) : Int) then if Int.toNat b10 + 1 ≤ w9.length then some (Sum.inl (List.set w9 (Int.toNat b10) Bool.false, w64 (b10 + 1))) else none else none else some (Sum.inr w9)
theorem q3u (rE : Orc) (rF : (qb × List Int × List qa × Int × qd) → Option (List Bool × List Int × List qa × Int × qd)) (hF : ∀ y, rE (.fn 45) 7 (qt y).1 (qt y).2 = (rF y).bind fun e => some (qL e)) (hM : ∀ g k a G, g ≠ 45 → rE (.fn g) k a G = ev g k a G) (hR : ∀ g asg bd k a G, rE (.rd g asg bd) k a G = evr g asg bd k a G) : ∀ (w7 : List Int) (w9 : List Bool) (b0 : List qa) (b3 b4_Worst b4_Best b4_Pass b8_Kind b8_N b8_Min : Int) (b8_Set : List qc) (b8_L : List qb) (b10 : Int) (w9_len w7_len : Nat), w9_len = w9.length → w7_len = w7.length → XL2 rE 45 7 5 ⟨[(1, rP 0), (2, rP 1), (3, rP 3), (4, rP 4), (7, rP 8), (9, rO 9 1 w9_len), (10, R.c (C.fn 50 [] [])), (11, rP 10)], [(0, B.blk 32 [dL 8 qf b0]), (1, B.blk 62 [C.fn 25 [] [dP 2]]), (2, B.blk 22 [dO 7 1 w7_len]), (3, B.blk 3 [dI b3]), (4, B.blk 37 [dI b4_Worst, dI b4_Best, dI b4_Pass]), (5, B.blk 94 [C.fn 45 [] [dP 0, dP 1, dP 3, dP 4, dP 5, dP 6]]), (6, B.blk 62 [C.fn 26 [] [dP 2]]), (7, bR 3 1 eI w7), (8, B.blk 31 [dI b8_Kind, dI b8_N, dI b8_Min, dL 2 qe b8_Set, dL 5 qg b8_L]), (9, bR 4 1 eB w9), (10, B.blk 3 [dI b10])], 11, 142⟩ = (qN (zI rF w7 b0 b3 (qd.mk b4_Worst b4_Best b4_Pass) (qb.mk b8_Kind b8_N b8_Min b8_Set b8_L)) (w9, b10)).bind (fun (e : List Bool) => some (Go.Exit.exit 0, ⟨[(3, rP 3), (9, rO 8 1 e.length)], [(0, B.blk 32 [dL 8 qf b0]), (1, B.blk 62 [C.fn 25 [] [dP 2]]), (2, B.blk 22 [dO 7 1 w7.length]), (3, B.blk 3 [dI b3]), (4, B.blk 37 [dI b4_Worst, dI b4_Best, dI b4_Pass]), (5, B.blk 94 [C.fn 45 [] [dP 0, dP 1, dP 3, dP 4, dP 5, dP 6]]), (6, B.blk 62 [C.fn 26 [] [dP 2]]), (7, bR 3 1 eI w7), (8, bR 4 1 eB e)], 9, 142⟩)) :=
  by
  intro w7 w9 b0 b3 b4_Worst b4_Best b4_Pass b8_Kind b8_N b8_Min b8_Set b8_L b10 w9_len w7_len h0 h1
  subst h0 h1
  revert b10; revert w9; exact q8L qd6 qcT (fun e => by exact ⟨_, rfl, fun h => by cases h⟩) fun w9 b10 => by
    have hF' : ∀ (x0_Kind x0_N x0_Min : Int) (x0_Set : List qc) (x0_L : List qb) (w7 : List Int) (v : List qa) (v2 v3_Worst v3_Best v3_Pass : Int) (w7_len : Nat), w7_len = w7.length → rE (.fn 45) 7 [R.agg [dI x0_Kind, dI x0_N, dI x0_Min, dL 2 qe x0_Set, dL 5 qg x0_L], rP 0, rP 1, rP 3, rP 4, rP 5, rP 6] [(0, B.blk 32 [dL 8 qf v]), (1, B.blk 62 [C.fn 25 [] [dP 2]]), (2, B.blk 22 [dO 7 1 w7_len]), (3, B.blk 3 [dI v2]), (4, B.blk 37 [dI v3_Worst, dI v3_Best, dI v3_Pass]), (5, B.blk 94 [C.fn 45 [] [dP 0, dP 1, dP 3, dP 4, dP 5, dP 6]]), (6, B.blk 62 [C.fn 26 [] [dP 2]]), (7, bR 3 1 eI w7)] = (rF ((qb.mk x0_Kind x0_N x0_Min x0_Set x0_L), w7, v, v2, (qd.mk v3_Worst v3_Best v3_Pass))).bind (fun e => some (rL 1 eB e.1, [(0, B.blk 32 [dL 8 qf e.2.2.1]), (1, B.blk 62 [C.fn 25 [] [dP 2]]), (2, B.blk 22 [dO 7 1 e.2.1.length]), (3, B.blk 3 [dI e.2.2.2.1]), (4, B.blk 37 [dI e.2.2.2.2.Worst, dI e.2.2.2.2.Best, dI e.2.2.2.2.Pass]), (5, B.blk 94 [C.fn 45 [] [dP 0, dP 1, dP 3, dP 4, dP 5, dP 6]]), (6, B.blk 62 [C.fn 26 [] [dP 2]]), (7, bR 3 1 eI e.2.1)])) := by intro x0_Kind x0_N x0_Min x0_Set x0_L w7 v v2 v3_Worst v3_Best v3_Pass w7_len h0; subst h0; exact hF ((qb.mk x0_Kind x0_N x0_Min x0_Set x0_L), w7, v, v2, (qd.mk v3_Worst v3_Best v3_Pass))
    have := qcC; have := @q9A.eq_1; have := @q1W; have := @q0l; have := @J7; have := @zI.eq_1; exact gA
noncomputable def JQ (fu : Nat) (rF : (qb × List Int × List qa × Int × qd) → Option (List Bool × List Int × List qa × Int × qd)) (w7 : List Int) (b0 : List qa) (b3 : Int) (b4 : qd) (b8 : qb) : (List Bool × Int) → Option ((List Bool × Int) ⊕ (List Bool)) | (w9, b10) => if b10 < ((w9.length : Nat) : Int) then Option.bind (q0h fu b3 b10 w7) fun (a2 : Bool) => if a2 = Bool.true then Option.bind (q03 fu b8 b4 b0 b10) fun (a3 : ql) => if 0 ≤ b10 ∧ b10 < ((w9.length : Nat) : Int) then if Int.toNat b10 + 1 ≤ w9.length then some (Sum.inl (List.set w9 (Int.toNat b10) (qx a3 b8), w64 (b10 + 1))) else none else none else if 0 ≤ b10 ∧ b10 < ((w9.length : Nat) : Int) then if Int.toNat b10 + 1 ≤ w9.length then some (Sum.inl (List.set w9 (Int.toNat b10) Bool.false, w64 (b10 + 1))) else none else none else some (Sum.inr w9)
theorem q3o (fu : Nat) (rF rF2 : (qb × List Int × List qa × Int × qd) → Option (List Bool × List Int × List qa × Int × qd)) (hF : ∀ y, qk (rF y) (rF2 y)) (w7 : List Int) (b0 : List qa) (b3 : Int) (b4 : qd) (b8 : qb) : ∀ x, qk (JQ fu rF w7 b0 b3 b4 b8 x) (zI rF2 w7 b0 b3 b4 b8 x) := by
  rintro ⟨w9, b10⟩
  unfold JQ zI
  try dsimp only
  repeat (first
    | with_reducible exact qk.refl _
    | with_reducible exact qk.none _
    | exact hF _
    | with_reducible apply q1I
    | with_reducible apply q0j
    | with_reducible refine qk.bind ?_ (fun _ => ?_)
    | with_reducible refine qk.ite ?_ ?_
    | with_reducible refine qk.sum (fun _ => ?_) (fun _ => ?_)
    | with_reducible refine qk.lim (fun _ => ?_))
noncomputable def zm (rF : (qb × List Int × List qa × Int × qd) → Option (List Bool × List Int × List qa × Int × qd)) (w7 : List Int) (b0 : List qa) (b3 : Int) (b4 : qd) (b8 : qb) : (List Bool × Int) → Option ((List Bool × Int) ⊕ (List Bool)) | (w9, b10) => if b10 < ((w9.length : Nat) : Int) then Option.bind (QN b3 b10 w7) fun (a2 : Bool) => if a2 = Bool.true then Option.bind (QY b8 b4 b0 b10) fun (a3 : ql) => if 0 ≤ b10 ∧ b10 < ((w9.length : Nat) : Int) then if Int.toNat b10 + 1 ≤ w9.length then some (Sum.inl (List.set w9 (Int.toNat b10) (qI a3 b8), w64 (b10 + 1))) else none else none else if 0 ≤ b10 ∧ b10 < ((w9.length : Nat) : Int) then if Int.toNat b10 + 1 ≤ w9.length then some (Sum.inl (List.set w9 (Int.toNat b10) Bool.false, w64 (b10 + 1))) else none else none else some (Sum.inr w9)
theorem q2j (rE : Orc) (rF : (qb × List Int × List qa × Int × qd) → Option (List Bool × List Int × List qa × Int × qd)) (hF : ∀ y, rE (.fn 45) 7 (qt y).1 (qt y).2 = (rF y).bind fun e => some (qL e)) (hM : ∀ g k a G, g ≠ 45 → rE (.fn g) k a G = ev g k a G) (hR : ∀ g asg bd k a G, rE (.rd g asg bd) k a G = evr g asg bd k a G) : ∀ (w7 : List Int) (w9 : List Bool) (b0 : List qa) (b3 b4_Worst b4_Best b4_Pass b8_Kind b8_N b8_Min : Int) (b8_Set : List qc) (b8_L : List qb) (b10 : Int) (w9_len w7_len : Nat), w9_len = w9.length → w7_len = w7.length → XL2 rE 45 7 5 ⟨[(1, rP 0), (2, rP 1), (3, rP 3), (4, rP 4), (7, rP 8), (9, rO 9 1 w9_len), (10, R.c (C.fn 51 [] [])), (11, rP 10)], [(0, B.blk 32 [dL 8 qf b0]), (1, B.blk 62 [C.fn 25 [] [dP 2]]), (2, B.blk 22 [dO 7 1 w7_len]), (3, B.blk 3 [dI b3]), (4, B.blk 37 [dI b4_Worst, dI b4_Best, dI b4_Pass]), (5, B.blk 94 [C.fn 45 [] [dP 0, dP 1, dP 3, dP 4, dP 5, dP 6]]), (6, B.blk 62 [C.fn 26 [] [dP 2]]), (7, bR 3 1 eI w7), (8, B.blk 31 [dI b8_Kind, dI b8_N, dI b8_Min, dL 2 qe b8_Set, dL 5 qg b8_L]), (9, bR 4 1 eB w9), (10, B.blk 3 [dI b10])], 11, 142⟩ = (qN (zm rF w7 b0 b3 (qd.mk b4_Worst b4_Best b4_Pass) (qb.mk b8_Kind b8_N b8_Min b8_Set b8_L)) (w9, b10)).bind (fun (e : List Bool) => some (Go.Exit.exit 0, ⟨[(3, rP 3), (9, rO 8 1 e.length)], [(0, B.blk 32 [dL 8 qf b0]), (1, B.blk 62 [C.fn 25 [] [dP 2]]), (2, B.blk 22 [dO 7 1 w7.length]), (3, B.blk 3 [dI b3]), (4, B.blk 37 [dI b4_Worst, dI b4_Best, dI b4_Pass]), (5, B.blk 94 [C.fn 45 [] [dP 0, dP 1, dP 3, dP 4, dP 5, dP 6]]), (6, B.blk 62 [C.fn 26 [] [dP 2]]), (7, bR 3 1 eI w7), (8, bR 4 1 eB e)], 9, 142⟩)) :=
  by
  intro w7 w9 b0 b3 b4_Worst b4_Best b4_Pass b8_Kind b8_N b8_Min b8_Set b8_L b10 w9_len w7_len h0 h1
  subst h0 h1
  revert b10; revert w9; exact q8L qd6 qcT (fun e => by exact ⟨_, rfl, fun h => by cases h⟩) fun w9 b10 => by
    have hF' : ∀ (x0_Kind x0_N x0_Min : Int) (x0_Set : List qc) (x0_L : List qb) (w7 : List Int) (v : List qa) (v2 v3_Worst v3_Best v3_Pass : Int) (w7_len : Nat), w7_len = w7.length → rE (.fn 45) 7 [R.agg [dI x0_Kind, dI x0_N, dI x0_Min, dL 2 qe x0_Set, dL 5 qg x0_L], rP 0, rP 1, rP 3, rP 4, rP 5, rP 6] [(0, B.blk 32 [dL 8 qf v]), (1, B.blk 62 [C.fn 25 [] [dP 2]]), (2, B.blk 22 [dO 7 1 w7_len]), (3, B.blk 3 [dI v2]), (4, B.blk 37 [dI v3_Worst, dI v3_Best, dI v3_Pass]), (5, B.blk 94 [C.fn 45 [] [dP 0, dP 1, dP 3, dP 4, dP 5, dP 6]]), (6, B.blk 62 [C.fn 26 [] [dP 2]]), (7, bR 3 1 eI w7)] = (rF ((qb.mk x0_Kind x0_N x0_Min x0_Set x0_L), w7, v, v2, (qd.mk v3_Worst v3_Best v3_Pass))).bind (fun e => some (rL 1 eB e.1, [(0, B.blk 32 [dL 8 qf e.2.2.1]), (1, B.blk 62 [C.fn 25 [] [dP 2]]), (2, B.blk 22 [dO 7 1 e.2.1.length]), (3, B.blk 3 [dI e.2.2.2.1]), (4, B.blk 37 [dI e.2.2.2.2.Worst, dI e.2.2.2.2.Best, dI e.2.2.2.2.Pass]), (5, B.blk 94 [C.fn 45 [] [dP 0, dP 1, dP 3, dP 4, dP 5, dP 6]]), (6, B.blk 62 [C.fn 26 [] [dP 2]]), (7, bR 3 1 eI e.2.1)])) := by intro x0_Kind x0_N x0_Min x0_Set x0_L w7 v v2 v3_Worst v3_Best v3_Pass w7_len h0; subst h0; exact hF ((qb.mk x0_Kind x0_N x0_Min x0_Set x0_L), w7, v, v2, (qd.mk v3_Worst v3_Best v3_Pass))
    have := qcC; have := @q9A.eq_1; have := @q1W; have := @q0l; have := @q0e; have := @zm.eq_1; exact gA
noncomputable def J5 (fu : Nat) (rF : (qb × List Int × List qa × Int × qd) → Option (List Bool × List Int × List qa × Int × qd)) (w7 : List Int) (b0 : List qa) (b3 : Int) (b4 : qd) (b8 : qb) : (List Bool × Int) → Option ((List Bool × Int) ⊕ (List Bool)) | (w9, b10) => if b10 < ((w9.length : Nat) : Int) then Option.bind (q0h fu b3 b10 w7) fun (a2 : Bool) => if a2 = Bool.true then Option.bind (q03 fu b8 b4 b0 b10) fun (a3 : ql) => if 0 ≤ b10 ∧ b10 < ((w9.length : Nat) : Int) then if Int.toNat b10 + 1 ≤ w9.length then some (Sum.inl (List.set w9 (Int.toNat b10) (qI a3 b8), w64 (b10 + 1))) else none else none else if 0 ≤ b10 ∧ b10 < ((w9.length : Nat) : Int) then if Int.toNat b10 + 1 ≤ w9.length then some (Sum.inl (List.set w9 (Int.toNat b10) Bool.false, w64 (b10 + 1))) else none else none else some (Sum.inr w9)
theorem q2s (fu : Nat) (rF rF2 : (qb × List Int × List qa × Int × qd) → Option (List Bool × List Int × List qa × Int × qd)) (hF : ∀ y, qk (rF y) (rF2 y)) (w7 : List Int) (b0 : List qa) (b3 : Int) (b4 : qd) (b8 : qb) : ∀ x, qk (J5 fu rF w7 b0 b3 b4 b8 x) (zm rF2 w7 b0 b3 b4 b8 x) := by
  rintro ⟨w9, b10⟩
  unfold J5 zm
  try dsimp only
  repeat (first
    | with_reducible exact qk.refl _
    | with_reducible exact qk.none _
    | exact hF _
    | with_reducible apply q1I
    | with_reducible apply q0j
    | with_reducible refine qk.bind ?_ (fun _ => ?_)
    | with_reducible refine qk.ite ?_ ?_
    | with_reducible refine qk.sum (fun _ => ?_) (fun _ => ?_)
    | with_reducible refine qk.lim (fun _ => ?_))
noncomputable def z6 (rF : (qb × List Int × List qa × Int × qd) → Option (List Bool × List Int × List qa × Int × qd)) (w7 : List Int) (w9 : List Bool) (b0 : List qa) (b3 : Int) (b4 : qd) (b8 : qb) : (List Int × Int) → Option ((List Int × Int) ⊕ (List Int)) | (w11, t13) => if t13 < ((w11.length : Nat) : Int) then if 0 ≤ t13 ∧ t13 < ((w11.length : Nat) : Int) then if Int.toNat t13 + 1 ≤ w11.length then some (Sum.inl (List.set w11 (Int.toNat t13) (-1), w64 (t13 + 1))) else none else none else some (Sum.inr w11)
theorem q2P (rE : Orc) (rF : (qb × List Int × List qa × Int × qd) → Option (List Bool × List Int × List qa × Int × qd)) (hF : ∀ y, rE (.fn 45) 7 (qt y).1 (qt y).2 = (rF y).bind fun e => some (qL e)) (hM : ∀ g k a G, g ≠ 45 → rE (.fn g) k a G = ev g k a G) (hR : ∀ g asg bd k a G, rE (.rd g asg bd) k a G = evr g asg bd k a G) : ∀ (w7 : List Int) (w9 : List Bool) (w11 : List Int) (b0 : List qa) (b3 b4_Worst b4_Best b4_Pass b8_Kind b8_N b8_Min : Int) (b8_Set : List qc) (b8_L : List qb) (t13 : Int) (w9_len w7_len w11_len : Nat), w9_len = w9.length → w7_len = w7.length → w11_len = w11.length → XL2 rE 45 7 14 ⟨[(3, rP 3), (5, rP 5), (6, rP 6), (7, rP 8), (9, rO 9 1 w9_len), (12, rP 10), (13, rI t13)], [(0, B.blk 32 [dL 8 qf b0]), (1, B.blk 62 [C.fn 25 [] [dP 2]]), (2, B.blk 22 [dO 7 1 w7_len]), (3, B.blk 3 [dI b3]), (4, B.blk 37 [dI b4_Worst, dI b4_Best, dI b4_Pass]), (5, B.blk 94 [C.fn 45 [] [dP 0, dP 1, dP 3, dP 4, dP 5, dP 6]]), (6, B.blk 62 [C.fn 26 [] [dP 2]]), (7, bR 3 1 eI w7), (8, B.blk 31 [dI b8_Kind, dI b8_N, dI b8_Min, dL 2 qe b8_Set, dL 5 qg b8_L]), (9, bR 4 1 eB w9), (10, B.blk 95 [dO 11 1 w11_len]), (11, bR 3 1 eI w11)], 12, 142⟩ = (qN (z6 rF w7 w9 b0 b3 (qd.mk b4_Worst b4_Best b4_Pass) (qb.mk b8_Kind b8_N b8_Min b8_Set b8_L)) (w11, t13)).bind (fun (e : List Int) => some (Go.Exit.exit 2, ⟨[(3, rP 3), (5, rP 5), (6, rP 6), (7, rP 8), (9, rO 9 1 w9.length), (12, rP 10)], [(0, B.blk 32 [dL 8 qf b0]), (1, B.blk 62 [C.fn 25 [] [dP 2]]), (2, B.blk 22 [dO 7 1 w7.length]), (3, B.blk 3 [dI b3]), (4, B.blk 37 [dI b4_Worst, dI b4_Best, dI b4_Pass]), (5, B.blk 94 [C.fn 45 [] [dP 0, dP 1, dP 3, dP 4, dP 5, dP 6]]), (6, B.blk 62 [C.fn 26 [] [dP 2]]), (7, bR 3 1 eI w7), (8, B.blk 31 [dI b8_Kind, dI b8_N, dI b8_Min, dL 2 qe b8_Set, dL 5 qg b8_L]), (9, bR 4 1 eB w9), (10, B.blk 95 [dO 11 1 e.length]), (11, bR 3 1 eI e)], 12, 142⟩)) :=
  by
  intro w7 w9 w11 b0 b3 b4_Worst b4_Best b4_Pass b8_Kind b8_N b8_Min b8_Set b8_L t13 w9_len w7_len w11_len h0 h1 h2
  subst h0 h1 h2
  revert t13; revert w11; exact q8L qeX qh9 (fun e => by exact ⟨_, rfl, fun h => by cases h⟩) fun w11 t13 => by
    have hF' : ∀ (x0_Kind x0_N x0_Min : Int) (x0_Set : List qc) (x0_L : List qb) (w7 : List Int) (v : List qa) (v2 v3_Worst v3_Best v3_Pass : Int) (w7_len : Nat), w7_len = w7.length → rE (.fn 45) 7 [R.agg [dI x0_Kind, dI x0_N, dI x0_Min, dL 2 qe x0_Set, dL 5 qg x0_L], rP 0, rP 1, rP 3, rP 4, rP 5, rP 6] [(0, B.blk 32 [dL 8 qf v]), (1, B.blk 62 [C.fn 25 [] [dP 2]]), (2, B.blk 22 [dO 7 1 w7_len]), (3, B.blk 3 [dI v2]), (4, B.blk 37 [dI v3_Worst, dI v3_Best, dI v3_Pass]), (5, B.blk 94 [C.fn 45 [] [dP 0, dP 1, dP 3, dP 4, dP 5, dP 6]]), (6, B.blk 62 [C.fn 26 [] [dP 2]]), (7, bR 3 1 eI w7)] = (rF ((qb.mk x0_Kind x0_N x0_Min x0_Set x0_L), w7, v, v2, (qd.mk v3_Worst v3_Best v3_Pass))).bind (fun e => some (rL 1 eB e.1, [(0, B.blk 32 [dL 8 qf e.2.2.1]), (1, B.blk 62 [C.fn 25 [] [dP 2]]), (2, B.blk 22 [dO 7 1 e.2.1.length]), (3, B.blk 3 [dI e.2.2.2.1]), (4, B.blk 37 [dI e.2.2.2.2.Worst, dI e.2.2.2.2.Best, dI e.2.2.2.2.Pass]), (5, B.blk 94 [C.fn 45 [] [dP 0, dP 1, dP 3, dP 4, dP 5, dP 6]]), (6, B.blk 62 [C.fn 26 [] [dP 2]]), (7, bR 3 1 eI e.2.1)])) := by intro x0_Kind x0_N x0_Min x0_Set x0_L w7 v v2 v3_Worst v3_Best v3_Pass w7_len h0; subst h0; exact hF ((qb.mk x0_Kind x0_N x0_Min x0_Set x0_L), w7, v, v2, (qd.mk v3_Worst v3_Best v3_Pass))
    have := qcC; have := @qaf.eq_1; have := @z6.eq_1; exact gA
noncomputable def Jw (fu : Nat) (rF : (qb × List Int × List qa × Int × qd) → Option (List Bool × List Int × List qa × Int × qd)) (w7 : List Int) (w9 : List Bool) (b0 : List qa) (b3 : Int) (b4 : qd) (b8 : qb) : (List Int × Int) → Option ((List Int × Int) ⊕ (List Int)) | (w11, t13) => if t13 < ((w11.length : Nat) : Int) then if 0 ≤ t13 ∧ t13 < ((w11.length : Nat) : Int) then if Int.toNat t13 + 1 ≤ w11.length then some (Sum.inl (List.set w11 (Int.toNat t13) (-1), w64 (t13 + 1))) else none else none else some (Sum.inr w11)
theorem q38 (fu : Nat) (rF rF2 : (qb × List Int × List qa × Int × qd) → Option (List Bool × List Int × List qa × Int × qd)) (hF : ∀ y, qk (rF y) (rF2 y)) (w7 : List Int) (w9 : List Bool) (b0 : List qa) (b3 : Int) (b4 : qd) (b8 : qb) : ∀ x, qk (Jw fu rF w7 w9 b0 b3 b4 b8 x) (z6 rF2 w7 w9 b0 b3 b4 b8 x) := by
  rintro ⟨w11, t13⟩
  unfold Jw z6
  try dsimp only
  repeat (first
    | with_reducible exact qk.refl _
    | with_reducible exact qk.none _
    | exact hF _
    | with_reducible refine qk.bind ?_ (fun _ => ?_)
    | with_reducible refine qk.ite ?_ ?_
    | with_reducible refine qk.sum (fun _ => ?_) (fun _ => ?_)
    | with_reducible refine qk.lim (fun _ => ?_))
theorem qyU : okL 26 qfW := qA (qi qtz) (by kernel_rfl) (by kernel_rfl)
def qyd := JA_ @qfW.eq_1 (JA_ @Try.f26.eq_1 @qtz)
theorem qve : okL 27 qeQ := qA (qi qsc) (by kernel_rfl) (by kernel_rfl)
def qwc := JA_ @qeQ.eq_1 (JA_ @Try.f27.eq_1 @qsc)
theorem qtp : okL 49 qdo := qA (qi qq3) (by kernel_rfl) (by kernel_rfl)
def qsa := JA_ @qdo.eq_1 (JA_ @Try.f49.eq_1 @qq3)
theorem qkK : lbO 49 2 = qcS := Qd (qi qq3) rfl
theorem ql9 : okL 49 qcS := zd qtp (List.mem_of_getElem? (i := 0) (by kernel_rfl))
theorem qyL : okL 28 qhT := qA (qi qth) (by kernel_rfl) (by kernel_rfl)
def qy5 := JA_ @qhT.eq_1 (JA_ @Try.f28.eq_1 @qth)
noncomputable def Ji (x : Int) (v : Int) (v2 : Int) : Option Bool := if v ≤ x then some (decide (x < v2)) else some Bool.false
noncomputable def QU (x : Int) (v : Int) (v2 : Int) : Bool := if v ≤ x then decide (x < v2) else Bool.false
theorem q4j (x v v2 : Int) : Ji x v v2 = some (QU x v v2) := by
  unfold Ji QU
  simp only [Qg]
theorem q4W : ∀ (x v v2 : Int), ev 28 2 [rI x, rP 0, rP 1] [(0, B.blk 3 [dI v]), (1, B.blk 3 [dI v2])] = some (rB (QU x v v2), [(0, B.blk 3 [dI v]), (1, B.blk 3 [dI v2])]) :=
  fun x v v2 => by
    have h : ev 28 2 [rI x, rP 0, rP 1] [(0, B.blk 3 [dI v]), (1, B.blk 3 [dI v2])] = (Ji x v v2).bind (fun (e : Bool) => some (rB e, [(0, B.blk 3 [dI v]), (1, B.blk 3 [dI v2])])) := by
      rw [qB qth qwB.2.2.2 qyL]
      have := qy5; have := @Ji.eq_1; exact gA
    rw [q4j] at h
    exact h
noncomputable def qH (b0 : Int) (b1 : Int) (s : List Int) (t7 : Int) : Int → Option (Int ⊕ (Int ⊕ Unit)) | t8 => if t8 < t7 then if 0 ≤ t8 ∧ t8 < ((s.length : Nat) : Int) then Option.bind s[Int.toNat t8]? fun (a : Int) => if QU a b0 b1 = Bool.true then some (Sum.inr (Sum.inl t8)) else some (Sum.inl (w64 (t8 + 1))) else none else some (Sum.inr (Sum.inr ()))
theorem JV : ∀ (b0 b1 : Int) (s : List Int) (t7 t8 : Int), XL2 evo 49 2 2 ⟨[(0, rL 1 eI s), (1, R.c (C.fn 28 [] [dP 0, dP 1])), (7, rI t7), (8, rI t8)], [(0, B.blk 3 [dI b0]), (1, B.blk 3 [dI b1])], 2, 19⟩ = (qN (qH b0 b1 s t7) t8).bind (Sum.elim (fun (e : Int) => some (Go.Exit.ret, ⟨[(4, rI e)], [(0, B.blk 3 [dI b0]), (1, B.blk 3 [dI b1])], 2, 19⟩)) (fun (e : Unit) => some (Go.Exit.exit 0, ⟨[(4, R.any)], [(0, B.blk 3 [dI b0]), (1, B.blk 3 [dI b1])], 2, 19⟩))) :=
  fun b0 b1 s t7 t8 => by
    revert t8; exact qbx qkK ql9 (fun e => by rcases e with _ | _ <;> exact ⟨_, rfl, fun h => by cases h⟩) fun x => by
      have := qsa; have := @qcS.eq_1; have := @q4W; have := @qH.eq_1; exact gA
noncomputable def z5 (s : List Int) (b0 : Int) (b1 : Int) : Option Int := Option.bind (qN (qH b0 b1 s ((s.length : Nat) : Int)) 0) fun (a : Sum Int Unit) => Sum.elim (fun (a2 : Int) => some a2) (fun (a3 : Unit) => some (-1)) a
theorem q0G : ∀ (s : List Int) (b0 b1 : Int), ev 49 2 [rL 1 eI s, R.c (C.fn 28 [] [dP 0, dP 1])] [(0, B.blk 3 [dI b0]), (1, B.blk 3 [dI b1])] = (z5 s b0 b1).bind (fun (e : Int) => some (rI e, [(0, B.blk 3 [dI b0]), (1, B.blk 3 [dI b1])])) :=
  fun s b0 b1 => by
    rw [qB qq3 quk.2.2.2 qtp]
    have := qsa; have := @JV; have := @z5.eq_1; exact gA
noncomputable def QR (fu : Nat) (s : List Int) (b0 : Int) (b1 : Int) : Option Int := Option.bind (itT (qH b0 b1 s ((s.length : Nat) : Int)) fu 0) fun (a : Sum Int Unit) => Sum.elim (fun (a2 : Int) => some a2) (fun (a3 : Unit) => some (-1)) a
theorem q0I (fu : Nat) (s : List Int) (b0 b1 : Int) : qk (QR fu s b0 b1) (z5 s b0 b1) := by
  unfold QR z5
  repeat (first
    | with_reducible exact qk.refl _
    | with_reducible exact qk.none _
    | with_reducible refine qk.bind ?_ (fun _ => ?_)
    | with_reducible refine qk.ite ?_ ?_
    | with_reducible refine qk.sum (fun _ => ?_) (fun _ => ?_)
    | with_reducible refine qk.lim (fun _ => ?_))
noncomputable def qR (s : List Int) (b0 : Int) (b1 : Int) : Option Bool := Option.bind (z5 s b0 b1) fun (a : Int) => some (decide (0 ≤ a))
theorem JW : ∀ (s : List Int) (b0 b1 : Int), ev 27 2 [rL 1 eI s, R.c (C.fn 28 [] [dP 0, dP 1])] [(0, B.blk 3 [dI b0]), (1, B.blk 3 [dI b1])] = (qR s b0 b1).bind (fun (e : Bool) => some (rB e, [(0, B.blk 3 [dI b0]), (1, B.blk 3 [dI b1])])) :=
  fun s b0 b1 => by
    rw [qB qsc qt9.2.2.2 qve]
    have := qwc; have := @q0G; have := @qR.eq_1; exact gA
noncomputable def QE (fu : Nat) (s : List Int) (b0 : Int) (b1 : Int) : Option Bool := Option.bind (QR fu s b0 b1) fun (a : Int) => some (decide (0 ≤ a))
theorem JX (fu : Nat) (s : List Int) (b0 b1 : Int) : qk (QE fu s b0 b1) (qR s b0 b1) := by
  unfold QE qR
  repeat (first
    | with_reducible exact qk.refl _
    | with_reducible exact qk.none _
    | with_reducible apply q0I
    | with_reducible refine qk.bind ?_ (fun _ => ?_)
    | with_reducible refine qk.ite ?_ ?_
    | with_reducible refine qk.sum (fun _ => ?_) (fun _ => ?_)
    | with_reducible refine qk.lim (fun _ => ?_))
noncomputable def Z2 (from0 : Int) (to : Int) (w1 : List Int) : Option Bool := Option.bind (qR w1 from0 to) fun (a : Bool) => some a
theorem q6h : ∀ (from0 to : Int) (w1 : List Int) (w1_len : Nat), w1_len = w1.length → ev 26 1 [rI from0, rI to, rP 0] [(0, B.blk 22 [dO 1 1 w1_len]), (1, bR 3 1 eI w1)] = (Z2 from0 to w1).bind (fun (e : Bool) => some (rB e, [(0, B.blk 22 [dO 1 1 w1.length]), (1, bR 3 1 eI w1)])) :=
  by
  intro from0 to w1 w1_len h0
  subst h0
  rw [qB qtz qvn.2.2.2 qyU]
  have := qyd; have := @JW; have := @Z2.eq_1; exact gA
noncomputable def q1t (fu : Nat) (from0 : Int) (to : Int) (w1 : List Int) : Option Bool := Option.bind (QE fu w1 from0 to) fun (a : Bool) => some a
theorem q6N (fu : Nat) (from0 to : Int) (w1 : List Int) : qk (q1t fu from0 to w1) (Z2 from0 to w1) := by
  unfold q1t Z2
  repeat (first
    | with_reducible exact qk.refl _
    | with_reducible exact qk.none _
    | with_reducible apply JX
    | with_reducible refine qk.bind ?_ (fun _ => ?_)
    | with_reducible refine qk.ite ?_ ?_
    | with_reducible refine qk.sum (fun _ => ?_) (fun _ => ?_)
    | with_reducible refine qk.lim (fun _ => ?_))
noncomputable def qV (rF : (qb × List Int × List qa × Int × qd) → Option (List Bool × List Int × List qa × Int × qd)) (w7 : List Int) (w9 : List Bool) (w11 : List Int) (b0 : List qa) (b3 : Int) (b4 : qd) (b8 : qb) (b12 : List Bool) (t18 : Bool) (t72 : List qb) (t73 : Int) (t74 : Int) (t96 : Int) : (List Int × Int) → Option ((List Int × Int) ⊕ (List Int)) | (w14, t97) => if t97 < t96 then if 0 ≤ t97 ∧ t97 < ((w14.length : Nat) : Int) then if Int.toNat t97 + 1 ≤ w14.length then if t18 = Bool.true then if 0 ≤ t97 ∧ t97 < ((w11.length : Nat) : Int) then Option.bind w11[Int.toNat t97]? fun (a2 : Int) => if 0 ≤ t97 ∧ t97 < ((w14.length : Nat) : Int) then if Int.toNat t97 + 1 ≤ w14.length then Option.bind (qF t97 w11 (List.set (List.set w14 (Int.toNat t97) (-1)) (Int.toNat t97) a2) b12 t97) fun (a3 : List Int) => some (Sum.inl (a3, w64 (t97 + 1))) else none else none else none else Option.bind (qF t97 w11 (List.set w14 (Int.toNat t97) (-1)) b12 t97) fun (a4 : List Int) => some (Sum.inl (a4, w64 (t97 + 1))) else none else none else some (Sum.inr w14)
theorem q2R (rE : Orc) (rF : (qb × List Int × List qa × Int × qd) → Option (List Bool × List Int × List qa × Int × qd)) (hF : ∀ y, rE (.fn 45) 7 (qt y).1 (qt y).2 = (rF y).bind fun e => some (qL e)) (hM : ∀ g k a G, g ≠ 45 → rE (.fn g) k a G = ev g k a G) (hR : ∀ g asg bd k a G, rE (.rd g asg bd) k a G = evr g asg bd k a G) : ∀ (w7 : List Int) (w9 : List Bool) (w11 w14 : List Int) (b0 : List qa) (b3 b4_Worst b4_Best b4_Pass b8_Kind b8_N b8_Min : Int) (b8_Set : List qc) (b8_L : List qb) (b12 : List Bool) (t18 : Bool) (t72 : List qb) (t73 t74 t96 t97 : Int) (w9_len w7_len w11_len w14_len : Nat), w9_len = w9.length → w7_len = w7.length → w11_len = w11.length → w14_len = w14.length → XL2 rE 45 7 25 ⟨[(3, rP 3), (5, rP 5), (6, rP 6), (7, rP 8), (9, rO 9 1 w9_len), (12, rP 10), (17, rP 12), (18, rB t18), (19, rP 13), (72, rL 5 qg t72), (73, rI t73), (74, rI t74), (96, rI t96), (97, rI t97)], [(0, B.blk 32 [dL 8 qf b0]), (1, B.blk 62 [C.fn 25 [] [dP 2]]), (2, B.blk 22 [dO 7 1 w7_len]), (3, B.blk 3 [dI b3]), (4, B.blk 37 [dI b4_Worst, dI b4_Best, dI b4_Pass]), (5, B.blk 94 [C.fn 45 [] [dP 0, dP 1, dP 3, dP 4, dP 5, dP 6]]), (6, B.blk 62 [C.fn 26 [] [dP 2]]), (7, bR 3 1 eI w7), (8, B.blk 31 [dI b8_Kind, dI b8_N, dI b8_Min, dL 2 qe b8_Set, dL 5 qg b8_L]), (9, bR 4 1 eB w9), (10, B.blk 95 [dO 11 1 w11_len]), (11, bR 3 1 eI w11), (12, B.blk 63 [dL 1 eB b12]), (13, B.blk 95 [dO 14 1 w14_len]), (14, bR 3 1 eI w14)], 15, 142⟩ = (qN (qV rF w7 w9 w11 b0 b3 (qd.mk b4_Worst b4_Best b4_Pass) (qb.mk b8_Kind b8_N b8_Min b8_Set b8_L) b12 t18 t72 t73 t74 t96) (w14, t97)).bind (fun (e : List Int) => some (Go.Exit.exit 6, ⟨[(3, rP 3), (5, rP 5), (6, rP 6), (7, rP 8), (9, rO 9 1 w9.length), (12, rP 10), (19, rP 12), (72, rL 5 qg t72), (73, rI t73), (74, rI t74)], [(0, B.blk 32 [dL 8 qf b0]), (1, B.blk 62 [C.fn 25 [] [dP 2]]), (2, B.blk 22 [dO 7 1 w7.length]), (3, B.blk 3 [dI b3]), (4, B.blk 37 [dI b4_Worst, dI b4_Best, dI b4_Pass]), (5, B.blk 94 [C.fn 45 [] [dP 0, dP 1, dP 3, dP 4, dP 5, dP 6]]), (6, B.blk 62 [C.fn 26 [] [dP 2]]), (7, bR 3 1 eI w7), (8, B.blk 31 [dI b8_Kind, dI b8_N, dI b8_Min, dL 2 qe b8_Set, dL 5 qg b8_L]), (9, bR 4 1 eB w9), (10, B.blk 95 [dO 11 1 w11.length]), (11, bR 3 1 eI w11), (12, B.blk 95 [dO 13 1 e.length]), (13, bR 3 1 eI e)], 14, 142⟩)) :=
  by
  intro w7 w9 w11 w14 b0 b3 b4_Worst b4_Best b4_Pass b8_Kind b8_N b8_Min b8_Set b8_L b12 t18 t72 t73 t74 t96 t97 w9_len w7_len w11_len w14_len h0 h1 h2 h3
  subst h0 h1 h2 h3
  revert t97; revert w14; exact q8L qig qgU (fun e => by exact ⟨_, rfl, fun h => by cases h⟩) fun w14 t97 => by
    have hF' : ∀ (x0_Kind x0_N x0_Min : Int) (x0_Set : List qc) (x0_L : List qb) (w7 : List Int) (v : List qa) (v2 v3_Worst v3_Best v3_Pass : Int) (w7_len : Nat), w7_len = w7.length → rE (.fn 45) 7 [R.agg [dI x0_Kind, dI x0_N, dI x0_Min, dL 2 qe x0_Set, dL 5 qg x0_L], rP 0, rP 1, rP 3, rP 4, rP 5, rP 6] [(0, B.blk 32 [dL 8 qf v]), (1, B.blk 62 [C.fn 25 [] [dP 2]]), (2, B.blk 22 [dO 7 1 w7_len]), (3, B.blk 3 [dI v2]), (4, B.blk 37 [dI v3_Worst, dI v3_Best, dI v3_Pass]), (5, B.blk 94 [C.fn 45 [] [dP 0, dP 1, dP 3, dP 4, dP 5, dP 6]]), (6, B.blk 62 [C.fn 26 [] [dP 2]]), (7, bR 3 1 eI w7)] = (rF ((qb.mk x0_Kind x0_N x0_Min x0_Set x0_L), w7, v, v2, (qd.mk v3_Worst v3_Best v3_Pass))).bind (fun e => some (rL 1 eB e.1, [(0, B.blk 32 [dL 8 qf e.2.2.1]), (1, B.blk 62 [C.fn 25 [] [dP 2]]), (2, B.blk 22 [dO 7 1 e.2.1.length]), (3, B.blk 3 [dI e.2.2.2.1]), (4, B.blk 37 [dI e.2.2.2.2.Worst, dI e.2.2.2.2.Best, dI e.2.2.2.2.Pass]), (5, B.blk 94 [C.fn 45 [] [dP 0, dP 1, dP 3, dP 4, dP 5, dP 6]]), (6, B.blk 62 [C.fn 26 [] [dP 2]]), (7, bR 3 1 eI e.2.1)])) := by intro x0_Kind x0_N x0_Min x0_Set x0_L w7 v v2 v3_Worst v3_Best v3_Pass w7_len h0; subst h0; exact hF ((qb.mk x0_Kind x0_N x0_Min x0_Set x0_L), w7, v, v2, (qd.mk v3_Worst v3_Best v3_Pass))
    have := qcC; have := @qax.eq_1; have := @JH; have := @qV.eq_1; exact gA
noncomputable def Zl (fu : Nat) (rF : (qb × List Int × List qa × Int × qd) → Option (List Bool × List Int × List qa × Int × qd)) (w7 : List Int) (w9 : List Bool) (w11 : List Int) (b0 : List qa) (b3 : Int) (b4 : qd) (b8 : qb) (b12 : List Bool) (t18 : Bool) (t72 : List qb) (t73 : Int) (t74 : Int) (t96 : Int) : (List Int × Int) → Option ((List Int × Int) ⊕ (List Int)) | (w14, t97) => if t97 < t96 then if 0 ≤ t97 ∧ t97 < ((w14.length : Nat) : Int) then if Int.toNat t97 + 1 ≤ w14.length then if t18 = Bool.true then if 0 ≤ t97 ∧ t97 < ((w11.length : Nat) : Int) then Option.bind w11[Int.toNat t97]? fun (a2 : Int) => if 0 ≤ t97 ∧ t97 < ((w14.length : Nat) : Int) then if Int.toNat t97 + 1 ≤ w14.length then Option.bind (Q8 fu t97 w11 (List.set (List.set w14 (Int.toNat t97) (-1)) (Int.toNat t97) a2) b12 t97) fun (a3 : List Int) => some (Sum.inl (a3, w64 (t97 + 1))) else none else none else none else Option.bind (Q8 fu t97 w11 (List.set w14 (Int.toNat t97) (-1)) b12 t97) fun (a4 : List Int) => some (Sum.inl (a4, w64 (t97 + 1))) else none else none else some (Sum.inr w14)
theorem q30 (fu : Nat) (rF rF2 : (qb × List Int × List qa × Int × qd) → Option (List Bool × List Int × List qa × Int × qd)) (hF : ∀ y, qk (rF y) (rF2 y)) (w7 : List Int) (w9 : List Bool) (w11 : List Int) (b0 : List qa) (b3 : Int) (b4 : qd) (b8 : qb) (b12 : List Bool) (t18 : Bool) (t72 : List qb) (t73 t74 t96 : Int) : ∀ x, qk (Zl fu rF w7 w9 w11 b0 b3 b4 b8 b12 t18 t72 t73 t74 t96 x) (qV rF2 w7 w9 w11 b0 b3 b4 b8 b12 t18 t72 t73 t74 t96 x) := by
  rintro ⟨w14, t97⟩
  unfold Zl qV
  try dsimp only
  repeat (first
    | with_reducible exact qk.refl _
    | with_reducible exact qk.none _
    | exact hF _
    | with_reducible apply JF
    | with_reducible refine qk.bind ?_ (fun _ => ?_)
    | with_reducible refine qk.ite ?_ ?_
    | with_reducible refine qk.sum (fun _ => ?_) (fun _ => ?_)
    | with_reducible refine qk.lim (fun _ => ?_))
noncomputable def qU (rF : (qb × List Int × List qa × Int × qd) → Option (List Bool × List Int × List qa × Int × qd)) (w9 : List Bool) (b8 : qb) (t72 : List qb) (t73 : Int) : (List Int × List Int × List qa × Int × qd × Int) → Option ((List Int × List Int × List qa × Int × qd × Int) ⊕ (List Int × List Int × List qa × Int × qd)) | (w7, w11, b0, b3, b4, t74) => if t74 < t73 then if 0 ≤ t74 ∧ t74 < ((t72.length : Nat) : Int) then Option.bind t72[Int.toNat t74]? fun (a2 : qb) => Option.bind (rF (a2, (w7, (b0, (b3, b4))))) fun (a3 : Prod (List Bool) (Prod (List Int) (Prod (List qa) (Prod Int qd)))) => if (b8.Kind == 4) = Bool.true then Option.bind (Z2 b3 a3.2.2.2.1 a3.2.1) fun (a4 : Bool) => if 0 ≤ ((w11.length : Nat) : Int) ∧ 8 * ((w11.length : Nat) : Int) ≤ 281474976710656 ∧ ((w11.length : Nat) : Int) ≤ 9223372036854775807 then Option.bind (qN (qV rF a3.2.1 w9 w11 a3.2.2.1 a3.2.2.2.1 a3.2.2.2.2 b8 a3.1 (!a4) t72 t73 t74 ((w11.length : Nat) : Int)) (List.replicate w11.length 0, 0)) fun (a5 : List Int) => some (Sum.inl (a3.2.1, a5, a3.2.2.1, a3.2.2.2.1, a3.2.2.2.2, w64 (t74 + 1))) else none else if 0 ≤ ((w11.length : Nat) : Int) ∧ 8 * ((w11.length : Nat) : Int) ≤ 281474976710656 ∧ ((w11.length : Nat) : Int) ≤ 9223372036854775807 then Option.bind (qN (qV rF a3.2.1 w9 w11 a3.2.2.1 a3.2.2.2.1 a3.2.2.2.2 b8 a3.1 Bool.false t72 t73 t74 ((w11.length : Nat) : Int)) (List.replicate w11.length 0, 0)) fun (a6 : List Int) => some (Sum.inl (a3.2.1, a6, a3.2.2.1, a3.2.2.2.1, a3.2.2.2.2, w64 (t74 + 1))) else none else none else some (Sum.inr (w7, w11, b0, b3, b4))
theorem q2T (rE : Orc) (rF : (qb × List Int × List qa × Int × qd) → Option (List Bool × List Int × List qa × Int × qd)) (hF : ∀ y, rE (.fn 45) 7 (qt y).1 (qt y).2 = (rF y).bind fun e => some (qL e)) (hM : ∀ g k a G, g ≠ 45 → rE (.fn g) k a G = ev g k a G) (hR : ∀ g asg bd k a G, rE (.rd g asg bd) k a G = evr g asg bd k a G) : ∀ (w7 : List Int) (w9 : List Bool) (w11 : List Int) (b0 : List qa) (b3 b4_Worst b4_Best b4_Pass b8_Kind b8_N b8_Min : Int) (b8_Set : List qc) (b8_L t72 : List qb) (t73 t74 : Int) (w9_len w7_len w11_len : Nat), w9_len = w9.length → w7_len = w7.length → w11_len = w11.length → XL2 rE 45 7 18 ⟨[(3, rP 3), (5, rP 5), (6, rP 6), (7, rP 8), (9, rO 9 1 w9_len), (12, rP 10), (72, rL 5 qg t72), (73, rI t73), (74, rI t74)], [(0, B.blk 32 [dL 8 qf b0]), (1, B.blk 62 [C.fn 25 [] [dP 2]]), (2, B.blk 22 [dO 7 1 w7_len]), (3, B.blk 3 [dI b3]), (4, B.blk 37 [dI b4_Worst, dI b4_Best, dI b4_Pass]), (5, B.blk 94 [C.fn 45 [] [dP 0, dP 1, dP 3, dP 4, dP 5, dP 6]]), (6, B.blk 62 [C.fn 26 [] [dP 2]]), (7, bR 3 1 eI w7), (8, B.blk 31 [dI b8_Kind, dI b8_N, dI b8_Min, dL 2 qe b8_Set, dL 5 qg b8_L]), (9, bR 4 1 eB w9), (10, B.blk 95 [dO 11 1 w11_len]), (11, bR 3 1 eI w11)], 12, 142⟩ = (qN (qU rF w9 (qb.mk b8_Kind b8_N b8_Min b8_Set b8_L) t72 t73) (w7, w11, b0, b3, (qd.mk b4_Worst b4_Best b4_Pass), t74)).bind (fun (e : List Int × List Int × List qa × Int × qd) => some (Go.Exit.exit 4, ⟨[(7, rP 8), (9, rO 9 1 w9.length), (12, rP 10)], [(0, B.blk 32 [dL 8 qf e.2.2.1]), (1, B.blk 62 [C.fn 25 [] [dP 2]]), (2, B.blk 22 [dO 7 1 e.1.length]), (3, B.blk 3 [dI e.2.2.2.1]), (4, B.blk 37 [dI e.2.2.2.2.Worst, dI e.2.2.2.2.Best, dI e.2.2.2.2.Pass]), (5, B.blk 94 [C.fn 45 [] [dP 0, dP 1, dP 3, dP 4, dP 5, dP 6]]), (6, B.blk 62 [C.fn 26 [] [dP 2]]), (7, bR 3 1 eI e.1), (8, B.blk 31 [dI b8_Kind, dI b8_N, dI b8_Min, dL 2 qe b8_Set, dL 5 qg b8_L]), (9, bR 4 1 eB w9), (10, B.blk 95 [dO 11 1 e.2.1.length]), (11, bR 3 1 eI e.2.1)], 12, 142⟩)) :=
  by
  intro w7 w9 w11 b0 b3 b4_Worst b4_Best b4_Pass b8_Kind b8_N b8_Min b8_Set b8_L t72 t73 t74 w9_len w7_len w11_len h0 h1 h2
  subst h0 h1 h2
  have h := q2l (E := rE) (f := 45) (k := 7) (st := fun x : List Int × List Int × List qa × Int × qd × Int => (⟨[(3, rP 3), (5, rP 5), (6, rP 6), (7, rP 8), (9, rO 9 1 w9.length), (12, rP 10), (72, rL 5 qg t72), (73, rI t73), (74, rI x.2.2.2.2.2)], [(0, B.blk 32 [dL 8 qf x.2.2.1]), (1, B.blk 62 [C.fn 25 [] [dP 2]]), (2, B.blk 22 [dO 7 1 x.1.length]), (3, B.blk 3 [dI x.2.2.2.1]), (4, B.blk 37 [dI x.2.2.2.2.1.Worst, dI x.2.2.2.2.1.Best, dI x.2.2.2.2.1.Pass]), (5, B.blk 94 [C.fn 45 [] [dP 0, dP 1, dP 3, dP 4, dP 5, dP 6]]), (6, B.blk 62 [C.fn 26 [] [dP 2]]), (7, bR 3 1 eI x.1), (8, B.blk 31 [dI b8_Kind, dI b8_N, dI b8_Min, dL 2 qe b8_Set, dL 5 qg b8_L]), (9, bR 4 1 eB w9), (10, B.blk 95 [dO 11 1 x.2.1.length]), (11, bR 3 1 eI x.2.1)], 12, 142⟩ : S)) (ex := fun (e : List Int × List Int × List qa × Int × qd) => (Go.Exit.exit 4, ⟨[(7, rP 8), (9, rO 9 1 w9.length), (12, rP 10)], [(0, B.blk 32 [dL 8 qf e.2.2.1]), (1, B.blk 62 [C.fn 25 [] [dP 2]]), (2, B.blk 22 [dO 7 1 e.1.length]), (3, B.blk 3 [dI e.2.2.2.1]), (4, B.blk 37 [dI e.2.2.2.2.Worst, dI e.2.2.2.2.Best, dI e.2.2.2.2.Pass]), (5, B.blk 94 [C.fn 45 [] [dP 0, dP 1, dP 3, dP 4, dP 5, dP 6]]), (6, B.blk 62 [C.fn 26 [] [dP 2]]), (7, bR 3 1 eI e.1), (8, B.blk 31 [dI b8_Kind, dI b8_N, dI b8_Min, dL 2 qe b8_Set, dL 5 qg b8_L]), (9, bR 4 1 eB w9), (10, B.blk 95 [dO 11 1 e.2.1.length]), (11, bR 3 1 eI e.2.1)], 12, 142⟩)) (step := (qU rF w9 (qb.mk b8_Kind b8_N b8_Min b8_Set b8_L) t72 t73)) qhG qfm (fun e h => by cases h) (fun x => by
    obtain ⟨w7, w11, b0, b3, b4, t74⟩ := x; have hF' : ∀ (x0_Kind x0_N x0_Min : Int) (x0_Set : List qc) (x0_L : List qb) (w7 : List Int) (v : List qa) (v2 v3_Worst v3_Best v3_Pass : Int) (w7_len : Nat), w7_len = w7.length → rE (.fn 45) 7 [R.agg [dI x0_Kind, dI x0_N, dI x0_Min, dL 2 qe x0_Set, dL 5 qg x0_L], rP 0, rP 1, rP 3, rP 4, rP 5, rP 6] [(0, B.blk 32 [dL 8 qf v]), (1, B.blk 62 [C.fn 25 [] [dP 2]]), (2, B.blk 22 [dO 7 1 w7_len]), (3, B.blk 3 [dI v2]), (4, B.blk 37 [dI v3_Worst, dI v3_Best, dI v3_Pass]), (5, B.blk 94 [C.fn 45 [] [dP 0, dP 1, dP 3, dP 4, dP 5, dP 6]]), (6, B.blk 62 [C.fn 26 [] [dP 2]]), (7, bR 3 1 eI w7)] = (rF ((qb.mk x0_Kind x0_N x0_Min x0_Set x0_L), w7, v, v2, (qd.mk v3_Worst v3_Best v3_Pass))).bind (fun e => some (rL 1 eB e.1, [(0, B.blk 32 [dL 8 qf e.2.2.1]), (1, B.blk 62 [C.fn 25 [] [dP 2]]), (2, B.blk 22 [dO 7 1 e.2.1.length]), (3, B.blk 3 [dI e.2.2.2.1]), (4, B.blk 37 [dI e.2.2.2.2.Worst, dI e.2.2.2.2.Best, dI e.2.2.2.2.Pass]), (5, B.blk 94 [C.fn 45 [] [dP 0, dP 1, dP 3, dP 4, dP 5, dP 6]]), (6, B.blk 62 [C.fn 26 [] [dP 2]]), (7, bR 3 1 eI e.2.1)])) := by intro x0_Kind x0_N x0_Min x0_Set x0_L w7 v v2 v3_Worst v3_Best v3_Pass w7_len h0; subst h0; exact hF ((qb.mk x0_Kind x0_N x0_Min x0_Set x0_L), w7, v, v2, (qd.mk v3_Worst v3_Best v3_Pass))
    have := qcC; have := @qat.eq_1; have := @q6h; have := q2R rE rF hF hM hR; have := @qU.eq_1; exact gA) (w7, w11, b0, b3, (qd.mk b4_Worst b4_Best b4_Pass), t74)
  exact h
noncomputable def Jp (fu : Nat) (rF : (qb × List Int × List qa × Int × qd) → Option (List Bool × List Int × List qa × Int × qd)) (w9 : List Bool) (b8 : qb) (t72 : List qb) (t73 : Int) : (List Int × List Int × List qa × Int × qd × Int) → Option ((List Int × List Int × List qa × Int × qd × Int) ⊕ (List Int × List Int × List qa × Int × qd)) | (w7, w11, b0, b3, b4, t74) => if t74 < t73 then if 0 ≤ t74 ∧ t74 < ((t72.length : Nat) : Int) then Option.bind t72[Int.toNat t74]? fun (a2 : qb) => Option.bind (rF (a2, (w7, (b0, (b3, b4))))) fun (a3 : Prod (List Bool) (Prod (List Int) (Prod (List qa) (Prod Int qd)))) => if (b8.Kind == 4) = Bool.true then Option.bind (q1t fu b3 a3.2.2.2.1 a3.2.1) fun (a4 : Bool) => if 0 ≤ ((w11.length : Nat) : Int) ∧ 8 * ((w11.length : Nat) : Int) ≤ 281474976710656 ∧ ((w11.length : Nat) : Int) ≤ 9223372036854775807 then Option.bind (itT (Zl fu rF a3.2.1 w9 w11 a3.2.2.1 a3.2.2.2.1 a3.2.2.2.2 b8 a3.1 (!a4) t72 t73 t74 ((w11.length : Nat) : Int)) fu (List.replicate w11.length 0, 0)) fun (a5 : List Int) => some (Sum.inl (a3.2.1, a5, a3.2.2.1, a3.2.2.2.1, a3.2.2.2.2, w64 (t74 + 1))) else none else if 0 ≤ ((w11.length : Nat) : Int) ∧ 8 * ((w11.length : Nat) : Int) ≤ 281474976710656 ∧ ((w11.length : Nat) : Int) ≤ 9223372036854775807 then Option.bind (itT (Zl fu rF a3.2.1 w9 w11 a3.2.2.1 a3.2.2.2.1 a3.2.2.2.2 b8 a3.1 Bool.false t72 t73 t74 ((w11.length : Nat) : Int)) fu (List.replicate w11.length 0, 0)) fun (a6 : List Int) => some (Sum.inl (a3.2.1, a6, a3.2.2.1, a3.2.2.2.1, a3.2.2.2.2, w64 (t74 + 1))) else none else none else some (Sum.inr (w7, w11, b0, b3, b4))
theorem q34 (fu : Nat) (rF rF2 : (qb × List Int × List qa × Int × qd) → Option (List Bool × List Int × List qa × Int × qd)) (hF : ∀ y, qk (rF y) (rF2 y)) (w9 : List Bool) (b8 : qb) (t72 : List qb) (t73 : Int) : ∀ x, qk (Jp fu rF w9 b8 t72 t73 x) (qU rF2 w9 b8 t72 t73 x) := by
  rintro ⟨w7, w11, b0, b3, b4, t74⟩
  unfold Jp qU
  try dsimp only
  repeat (first
    | with_reducible exact qk.refl _
    | with_reducible exact qk.none _
    | exact hF _
    | with_reducible apply q6N
    | (with_reducible refine q30 _ _ _ hF ..)
    | with_reducible refine qk.bind ?_ (fun _ => ?_)
    | with_reducible refine qk.ite ?_ ?_
    | with_reducible refine qk.sum (fun _ => ?_) (fun _ => ?_)
    | with_reducible refine qk.lim (fun _ => ?_))
noncomputable def qW (rF : (qb × List Int × List qa × Int × qd) → Option (List Bool × List Int × List qa × Int × qd)) (w7 : List Int) (w10 : List Int) (b0 : List qa) (b3 : Int) (b4 : qd) (t21 : Int) : (List Bool × Int) → Option ((List Bool × Int) ⊕ (List Bool)) | (w8, t22) => if t22 < ((w8.length : Nat) : Int) then if 0 ≤ t22 ∧ t22 < ((w10.length : Nat) : Int) then Option.bind w10[Int.toNat t22]? fun (a2 : Int) => if 0 ≤ t22 ∧ t22 < ((w8.length : Nat) : Int) then if Int.toNat t22 + 1 ≤ w8.length then some (Sum.inl (List.set w8 (Int.toNat t22) (decide (t21 ≤ a2)), w64 (t22 + 1))) else none else none else none else some (Sum.inr w8)
theorem q2V (rE : Orc) (rF : (qb × List Int × List qa × Int × qd) → Option (List Bool × List Int × List qa × Int × qd)) (hF : ∀ y, rE (.fn 45) 7 (qt y).1 (qt y).2 = (rF y).bind fun e => some (qL e)) (hM : ∀ g k a G, g ≠ 45 → rE (.fn g) k a G = ev g k a G) (hR : ∀ g asg bd k a G, rE (.rd g asg bd) k a G = evr g asg bd k a G) : ∀ (w7 : List Int) (w8 : List Bool) (w10 : List Int) (b0 : List qa) (b3 b4_Worst b4_Best b4_Pass t21 t22 : Int) (w8_len w7_len w10_len : Nat), w8_len = w8.length → w7_len = w7.length → w10_len = w10.length → XL2 rE 45 7 38 ⟨[(9, rO 8 1 w8_len), (12, rP 9), (21, rI t21), (22, rI t22)], [(0, B.blk 32 [dL 8 qf b0]), (1, B.blk 62 [C.fn 25 [] [dP 2]]), (2, B.blk 22 [dO 7 1 w7_len]), (3, B.blk 3 [dI b3]), (4, B.blk 37 [dI b4_Worst, dI b4_Best, dI b4_Pass]), (5, B.blk 94 [C.fn 45 [] [dP 0, dP 1, dP 3, dP 4, dP 5, dP 6]]), (6, B.blk 62 [C.fn 26 [] [dP 2]]), (7, bR 3 1 eI w7), (8, bR 4 1 eB w8), (9, B.blk 95 [dO 10 1 w10_len]), (10, bR 3 1 eI w10)], 11, 142⟩ = (qN (qW rF w7 w10 b0 b3 (qd.mk b4_Worst b4_Best b4_Pass) t21) (w8, t22)).bind (fun (e : List Bool) => some (Go.Exit.exit 8, ⟨[(9, rO 8 1 e.length)], [(0, B.blk 32 [dL 8 qf b0]), (1, B.blk 62 [C.fn 25 [] [dP 2]]), (2, B.blk 22 [dO 7 1 w7.length]), (3, B.blk 3 [dI b3]), (4, B.blk 37 [dI b4_Worst, dI b4_Best, dI b4_Pass]), (5, B.blk 94 [C.fn 45 [] [dP 0, dP 1, dP 3, dP 4, dP 5, dP 6]]), (6, B.blk 62 [C.fn 26 [] [dP 2]]), (7, bR 3 1 eI w7), (8, bR 4 1 eB e)], 9, 142⟩)) :=
  by
  intro w7 w8 w10 b0 b3 b4_Worst b4_Best b4_Pass t21 t22 w8_len w7_len w10_len h0 h1 h2
  subst h0 h1 h2
  revert t22; revert w8; exact q8L qhV qgu (fun e => by exact ⟨_, rfl, fun h => by cases h⟩) fun w8 t22 => by
    have hF' : ∀ (x0_Kind x0_N x0_Min : Int) (x0_Set : List qc) (x0_L : List qb) (w7 : List Int) (v : List qa) (v2 v3_Worst v3_Best v3_Pass : Int) (w7_len : Nat), w7_len = w7.length → rE (.fn 45) 7 [R.agg [dI x0_Kind, dI x0_N, dI x0_Min, dL 2 qe x0_Set, dL 5 qg x0_L], rP 0, rP 1, rP 3, rP 4, rP 5, rP 6] [(0, B.blk 32 [dL 8 qf v]), (1, B.blk 62 [C.fn 25 [] [dP 2]]), (2, B.blk 22 [dO 7 1 w7_len]), (3, B.blk 3 [dI v2]), (4, B.blk 37 [dI v3_Worst, dI v3_Best, dI v3_Pass]), (5, B.blk 94 [C.fn 45 [] [dP 0, dP 1, dP 3, dP 4, dP 5, dP 6]]), (6, B.blk 62 [C.fn 26 [] [dP 2]]), (7, bR 3 1 eI w7)] = (rF ((qb.mk x0_Kind x0_N x0_Min x0_Set x0_L), w7, v, v2, (qd.mk v3_Worst v3_Best v3_Pass))).bind (fun e => some (rL 1 eB e.1, [(0, B.blk 32 [dL 8 qf e.2.2.1]), (1, B.blk 62 [C.fn 25 [] [dP 2]]), (2, B.blk 22 [dO 7 1 e.2.1.length]), (3, B.blk 3 [dI e.2.2.2.1]), (4, B.blk 37 [dI e.2.2.2.2.Worst, dI e.2.2.2.2.Best, dI e.2.2.2.2.Pass]), (5, B.blk 94 [C.fn 45 [] [dP 0, dP 1, dP 3, dP 4, dP 5, dP 6]]), (6, B.blk 62 [C.fn 26 [] [dP 2]]), (7, bR 3 1 eI e.2.1)])) := by intro x0_Kind x0_N x0_Min x0_Set x0_L w7 v v2 v3_Worst v3_Best v3_Pass w7_len h0; subst h0; exact hF ((qb.mk x0_Kind x0_N x0_Min x0_Set x0_L), w7, v, v2, (qd.mk v3_Worst v3_Best v3_Pass))
    have := qcC; have := @qa1.eq_1; have := @qW.eq_1; exact gA
noncomputable def Zo (fu : Nat) (rF : (qb × List Int × List qa × Int × qd) → Option (List Bool × List Int × List qa × Int × qd)) (w7 : List Int) (w10 : List Int) (b0 : List qa) (b3 : Int) (b4 : qd) (t21 : Int) : (List Bool × Int) → Option ((List Bool × Int) ⊕ (List Bool)) | (w8, t22) => if t22 < ((w8.length : Nat) : Int) then if 0 ≤ t22 ∧ t22 < ((w10.length : Nat) : Int) then Option.bind w10[Int.toNat t22]? fun (a2 : Int) => if 0 ≤ t22 ∧ t22 < ((w8.length : Nat) : Int) then if Int.toNat t22 + 1 ≤ w8.length then some (Sum.inl (List.set w8 (Int.toNat t22) (decide (t21 ≤ a2)), w64 (t22 + 1))) else none else none else none else some (Sum.inr w8)
theorem q2K (fu : Nat) (rF rF2 : (qb × List Int × List qa × Int × qd) → Option (List Bool × List Int × List qa × Int × qd)) (hF : ∀ y, qk (rF y) (rF2 y)) (w7 w10 : List Int) (b0 : List qa) (b3 : Int) (b4 : qd) (t21 : Int) : ∀ x, qk (Zo fu rF w7 w10 b0 b3 b4 t21 x) (qW rF2 w7 w10 b0 b3 b4 t21 x) := by
  rintro ⟨w8, t22⟩
  unfold Zo qW
  try dsimp only
  repeat (first
    | with_reducible exact qk.refl _
    | with_reducible exact qk.none _
    | exact hF _
    | with_reducible refine qk.bind ?_ (fun _ => ?_)
    | with_reducible refine qk.ite ?_ ?_
    | with_reducible refine qk.sum (fun _ => ?_) (fun _ => ?_)
    | with_reducible refine qk.lim (fun _ => ?_))
noncomputable def Q7 (rF : (qb × List Int × List qa × Int × qd) → Option (List Bool × List Int × List qa × Int × qd)) : (qb × List Int × List qa × Int × qd) → Option (List Bool × List Int × List qa × Int × qd) | (x0, w7, v, v2, v3) => if 0 ≤ ((v.length : Nat) : Int) then if 0 ≤ w64 (1 * 2 ^ min v.length (Go.IntKind.bits Go.IntKind.i64)) ∧ 1 * w64 (1 * 2 ^ min v.length (Go.IntKind.bits Go.IntKind.i64)) ≤ 281474976710656 ∧ w64 (1 * 2 ^ min v.length (Go.IntKind.bits Go.IntKind.i64)) ≤ 9223372036854775807 then if Q3 x0 = Bool.true then Option.bind (QO x0.Kind) fun (a2 : Sum Unit Unit) => Sum.elim (fun (a3 : Unit) => Option.bind (qN (zI rF w7 v v2 v3 x0) (List.replicate (Int.toNat (w64 (1 * 2 ^ min v.length (Go.IntKind.bits Go.IntKind.i64)))) Bool.false, 1)) fun (a5 : List Bool) => some (a5, w7, v, w64 (v2 + 1), v3)) (fun (a4 : Unit) => Option.bind (qN (zm rF w7 v v2 v3 x0) (List.replicate (Int.toNat (w64 (1 * 2 ^ min v.length (Go.IntKind.bits Go.IntKind.i64)))) Bool.false, 1)) fun (a6 : List Bool) => some (a6, w7, v, w64 (v2 + 1), v3)) a2 else if 0 ≤ ((Int.toNat (w64 (1 * 2 ^ min v.length (Go.IntKind.bits Go.IntKind.i64))) : Nat) : Int) ∧ 8 * ((Int.toNat (w64 (1 * 2 ^ min v.length (Go.IntKind.bits Go.IntKind.i64))) : Nat) : Int) ≤ 281474976710656 ∧ ((Int.toNat (w64 (1 * 2 ^ min v.length (Go.IntKind.bits Go.IntKind.i64))) : Nat) : Int) ≤ 9223372036854775807 then Option.bind (qN (z6 rF w7 (List.replicate (Int.toNat (w64 (1 * 2 ^ min v.length (Go.IntKind.bits Go.IntKind.i64)))) Bool.false) v v2 v3 x0) (List.replicate (Int.toNat (w64 (1 * 2 ^ min v.length (Go.IntKind.bits Go.IntKind.i64)))) 0, 1)) fun (a7 : List Int) => Option.bind (qN (qU rF (List.replicate (Int.toNat (w64 (1 * 2 ^ min v.length (Go.IntKind.bits Go.IntKind.i64)))) Bool.false) x0 x0.L ((x0.L.length : Nat) : Int)) (w7, (a7, (v, (v2, (v3, 0)))))) fun (a8 : Prod (List Int) (Prod (List Int) (Prod (List qa) (Prod Int qd)))) => if (x0.Kind == 3) = Bool.true then Option.bind (qN (qW rF a8.1 a8.2.1 a8.2.2.1 a8.2.2.2.1 a8.2.2.2.2 ((x0.L.length : Nat) : Int)) (List.replicate (Int.toNat (w64 (1 * 2 ^ min v.length (Go.IntKind.bits Go.IntKind.i64)))) Bool.false, 1)) fun (a9 : List Bool) => some (a9, a8.1, a8.2.2.1, a8.2.2.2.1, a8.2.2.2.2) else Option.bind (qN (qW rF a8.1 a8.2.1 a8.2.2.1 a8.2.2.2.1 a8.2.2.2.2 x0.N) (List.replicate (Int.toNat (w64 (1 * 2 ^ min v.length (Go.IntKind.bits Go.IntKind.i64)))) Bool.false, 1)) fun (a10 : List Bool) => some (a10, a8.1, a8.2.2.1, a8.2.2.2.1, a8.2.2.2.2) else none else none else none
theorem q1m : q4n 45 7 qt qL Q7 := by
  intro rE rF hF hM hR x
  obtain ⟨x0, w7, v, v2, v3⟩ := x
  show q6K rE 45 7 [R.agg [dI x0.Kind, dI x0.N, dI x0.Min, dL 2 qe x0.Set, dL 5 qg x0.L], rP 0, rP 1, rP 3, rP 4, rP 5, rP 6] [(0, B.blk 32 [dL 8 qf v]), (1, B.blk 62 [C.fn 25 [] [dP 2]]), (2, B.blk 22 [dO 7 1 w7.length]), (3, B.blk 3 [dI v2]), (4, B.blk 37 [dI v3.Worst, dI v3.Best, dI v3.Pass]), (5, B.blk 94 [C.fn 45 [] [dP 0, dP 1, dP 3, dP 4, dP 5, dP 6]]), (6, B.blk 62 [C.fn 26 [] [dP 2]]), (7, bR 3 1 eI w7)] = _
  have hF' : ∀ (x0_Kind x0_N x0_Min : Int) (x0_Set : List qc) (x0_L : List qb) (w7 : List Int) (v : List qa) (v2 v3_Worst v3_Best v3_Pass : Int) (w7_len : Nat), w7_len = w7.length → rE (.fn 45) 7 [R.agg [dI x0_Kind, dI x0_N, dI x0_Min, dL 2 qe x0_Set, dL 5 qg x0_L], rP 0, rP 1, rP 3, rP 4, rP 5, rP 6] [(0, B.blk 32 [dL 8 qf v]), (1, B.blk 62 [C.fn 25 [] [dP 2]]), (2, B.blk 22 [dO 7 1 w7_len]), (3, B.blk 3 [dI v2]), (4, B.blk 37 [dI v3_Worst, dI v3_Best, dI v3_Pass]), (5, B.blk 94 [C.fn 45 [] [dP 0, dP 1, dP 3, dP 4, dP 5, dP 6]]), (6, B.blk 62 [C.fn 26 [] [dP 2]]), (7, bR 3 1 eI w7)] = (rF ((qb.mk x0_Kind x0_N x0_Min x0_Set x0_L), w7, v, v2, (qd.mk v3_Worst v3_Best v3_Pass))).bind (fun e => some (rL 1 eB e.1, [(0, B.blk 32 [dL 8 qf e.2.2.1]), (1, B.blk 62 [C.fn 25 [] [dP 2]]), (2, B.blk 22 [dO 7 1 e.2.1.length]), (3, B.blk 3 [dI e.2.2.2.1]), (4, B.blk 37 [dI e.2.2.2.2.Worst, dI e.2.2.2.2.Best, dI e.2.2.2.2.Pass]), (5, B.blk 94 [C.fn 45 [] [dP 0, dP 1, dP 3, dP 4, dP 5, dP 6]]), (6, B.blk 62 [C.fn 26 [] [dP 2]]), (7, bR 3 1 eI e.2.1)])) := by intro x0_Kind x0_N x0_Min x0_Set x0_L w7 v v2 v3_Worst v3_Best v3_Pass w7_len h0; subst h0; exact hF ((qb.mk x0_Kind x0_N x0_Min x0_Set x0_L), w7, v, v2, (qd.mk v3_Worst v3_Best v3_Pass))
  rw [q1p qjk qn8]
  have := qcC; have := @q0S; have := @q1z; have := q3u rE rF hF hM hR; have := q2j rE rF hF hM hR; have := q2P rE rF hF hM hR; have := q2T rE rF hF hM hR; have := q2V rE rF hF hM hR; have := @Q7.eq_1; have := @qL.eq_1; exact gA
theorem JY : ∀ x y, qt x = qt y → x = y := by
  rintro ⟨⟨a0_0, a0_1, a0_2, a0_3, a0_4⟩, a1, a2, a3, ⟨a4_0, a4_1, a4_2⟩⟩ ⟨⟨b0_0, b0_1, b0_2, b0_3, b0_4⟩, b1, b2, b3, ⟨b4_0, b4_1, b4_2⟩⟩ h
  simp only [qt, Prod.mk.injEq, List.cons.injEq, R.c.injEq, R.agg.injEq, R.tup.injEq, C.d.injEq, C.own.injEq, C.ptr.injEq, C.eptr.injEq, D.int.injEq, D.bool.injEq, D.str.injEq, D.sl.injEq, B.blk.injEq, B.row.injEq, ZK, q01, ZN, J6, Jl, q0Z, ZI, q1o, true_and, and_true, List.nil_append] at h
  simp only [h]
theorem q3h : ∀ x y, qL x = qL y → x = y := by
  rintro ⟨a0, a1, a2, a3, ⟨a4_0, a4_1, a4_2⟩⟩ ⟨b0, b1, b2, b3, ⟨b4_0, b4_1, b4_2⟩⟩ h
  simp only [qL, Prod.mk.injEq, List.cons.injEq, R.c.injEq, R.agg.injEq, R.tup.injEq, C.d.injEq, C.own.injEq, C.ptr.injEq, C.eptr.injEq, D.int.injEq, D.bool.injEq, D.str.injEq, D.sl.injEq, B.blk.injEq, B.row.injEq, ZK, q01, ZN, J6, Jl, q0Z, ZI, q1o, true_and, and_true, List.nil_append] at h
  simp only [h]
noncomputable def qz : (qb × List Int × List qa × Int × qd) → Option (List Bool × List Int × List qa × Int × qd) := q4R 45 7 qt qL
theorem q1q (x : (qb × List Int × List qa × Int × qd)) : qz x = Q7 qz x := q8I qpm.2.2.2 JY q3h q1m x
theorem q4X (x0 : qb) (w7 : List Int) (v : List qa) (v2 : Int) (v3 : qd) : ev 45 7 [R.agg [dI x0.Kind, dI x0.N, dI x0.Min, dL 2 qe x0.Set, dL 5 qg x0.L], rP 0, rP 1, rP 3, rP 4, rP 5, rP 6] [(0, B.blk 32 [dL 8 qf v]), (1, B.blk 62 [C.fn 25 [] [dP 2]]), (2, B.blk 22 [dO 7 1 w7.length]), (3, B.blk 3 [dI v2]), (4, B.blk 37 [dI v3.Worst, dI v3.Best, dI v3.Pass]), (5, B.blk 94 [C.fn 45 [] [dP 0, dP 1, dP 3, dP 4, dP 5, dP 6]]), (6, B.blk 62 [C.fn 26 [] [dP 2]]), (7, bR 3 1 eI w7)] = (qz (x0, w7, v, v2, v3)).bind (fun (e : List Bool × List Int × List qa × Int × qd) => some (rL 1 eB e.1, [(0, B.blk 32 [dL 8 qf e.2.2.1]), (1, B.blk 62 [C.fn 25 [] [dP 2]]), (2, B.blk 22 [dO 7 1 e.2.1.length]), (3, B.blk 3 [dI e.2.2.2.1]), (4, B.blk 37 [dI e.2.2.2.2.Worst, dI e.2.2.2.2.Best, dI e.2.2.2.2.Pass]), (5, B.blk 94 [C.fn 45 [] [dP 0, dP 1, dP 3, dP 4, dP 5, dP 6]]), (6, B.blk 62 [C.fn 26 [] [dP 2]]), (7, bR 3 1 eI e.2.1)])) := (q5b qpm.2.2.2 JY q1m (x0, w7, v, v2, v3))
theorem q5t : ∀ (x0_Kind x0_N x0_Min : Int) (x0_Set : List qc) (x0_L : List qb) (w7 : List Int) (v : List qa) (v2 v3_Worst v3_Best v3_Pass : Int) (w7_len : Nat), w7_len = w7.length → ev 45 7 [R.agg [dI x0_Kind, dI x0_N, dI x0_Min, dL 2 qe x0_Set, dL 5 qg x0_L], rP 0, rP 1, rP 3, rP 4, rP 5, rP 6] [(0, B.blk 32 [dL 8 qf v]), (1, B.blk 62 [C.fn 25 [] [dP 2]]), (2, B.blk 22 [dO 7 1 w7_len]), (3, B.blk 3 [dI v2]), (4, B.blk 37 [dI v3_Worst, dI v3_Best, dI v3_Pass]), (5, B.blk 94 [C.fn 45 [] [dP 0, dP 1, dP 3, dP 4, dP 5, dP 6]]), (6, B.blk 62 [C.fn 26 [] [dP 2]]), (7, bR 3 1 eI w7)] = (qz ((qb.mk x0_Kind x0_N x0_Min x0_Set x0_L), w7, v, v2, (qd.mk v3_Worst v3_Best v3_Pass))).bind (fun (e : List Bool × List Int × List qa × Int × qd) => some (rL 1 eB e.1, [(0, B.blk 32 [dL 8 qf e.2.2.1]), (1, B.blk 62 [C.fn 25 [] [dP 2]]), (2, B.blk 22 [dO 7 1 e.2.1.length]), (3, B.blk 3 [dI e.2.2.2.1]), (4, B.blk 37 [dI e.2.2.2.2.Worst, dI e.2.2.2.2.Best, dI e.2.2.2.2.Pass]), (5, B.blk 94 [C.fn 45 [] [dP 0, dP 1, dP 3, dP 4, dP 5, dP 6]]), (6, B.blk 62 [C.fn 26 [] [dP 2]]), (7, bR 3 1 eI e.2.1)])) :=
  by
  intro x0_Kind x0_N x0_Min x0_Set x0_L w7 v v2 v3_Worst v3_Best v3_Pass w7_len h0
  subst h0
  exact q4X (qb.mk x0_Kind x0_N x0_Min x0_Set x0_L) w7 v v2 (qd.mk v3_Worst v3_Best v3_Pass)
noncomputable def J9 (fu : Nat) (rF : (qb × List Int × List qa × Int × qd) → Option (List Bool × List Int × List qa × Int × qd)) : (qb × List Int × List qa × Int × qd) → Option (List Bool × List Int × List qa × Int × qd) | (x0, w7, v, v2, v3) => if 0 ≤ ((v.length : Nat) : Int) then if 0 ≤ w64 (1 * 2 ^ min v.length (Go.IntKind.bits Go.IntKind.i64)) ∧ 1 * w64 (1 * 2 ^ min v.length (Go.IntKind.bits Go.IntKind.i64)) ≤ 281474976710656 ∧ w64 (1 * 2 ^ min v.length (Go.IntKind.bits Go.IntKind.i64)) ≤ 9223372036854775807 then if Q3 x0 = Bool.true then Option.bind (QO x0.Kind) fun (a2 : Sum Unit Unit) => Sum.elim (fun (a3 : Unit) => Option.bind (itT (JQ fu rF w7 v v2 v3 x0) fu (List.replicate (Int.toNat (w64 (1 * 2 ^ min v.length (Go.IntKind.bits Go.IntKind.i64)))) Bool.false, 1)) fun (a5 : List Bool) => some (a5, w7, v, w64 (v2 + 1), v3)) (fun (a4 : Unit) => Option.bind (itT (J5 fu rF w7 v v2 v3 x0) fu (List.replicate (Int.toNat (w64 (1 * 2 ^ min v.length (Go.IntKind.bits Go.IntKind.i64)))) Bool.false, 1)) fun (a6 : List Bool) => some (a6, w7, v, w64 (v2 + 1), v3)) a2 else if 0 ≤ ((Int.toNat (w64 (1 * 2 ^ min v.length (Go.IntKind.bits Go.IntKind.i64))) : Nat) : Int) ∧ 8 * ((Int.toNat (w64 (1 * 2 ^ min v.length (Go.IntKind.bits Go.IntKind.i64))) : Nat) : Int) ≤ 281474976710656 ∧ ((Int.toNat (w64 (1 * 2 ^ min v.length (Go.IntKind.bits Go.IntKind.i64))) : Nat) : Int) ≤ 9223372036854775807 then Option.bind (itT (Jw fu rF w7 (List.replicate (Int.toNat (w64 (1 * 2 ^ min v.length (Go.IntKind.bits Go.IntKind.i64)))) Bool.false) v v2 v3 x0) fu (List.replicate (Int.toNat (w64 (1 * 2 ^ min v.length (Go.IntKind.bits Go.IntKind.i64)))) 0, 1)) fun (a7 : List Int) => Option.bind (itT (Jp fu rF (List.replicate (Int.toNat (w64 (1 * 2 ^ min v.length (Go.IntKind.bits Go.IntKind.i64)))) Bool.false) x0 x0.L ((x0.L.length : Nat) : Int)) fu (w7, (a7, (v, (v2, (v3, 0)))))) fun (a8 : Prod (List Int) (Prod (List Int) (Prod (List qa) (Prod Int qd)))) => if (x0.Kind == 3) = Bool.true then Option.bind (itT (Zo fu rF a8.1 a8.2.1 a8.2.2.1 a8.2.2.2.1 a8.2.2.2.2 ((x0.L.length : Nat) : Int)) fu (List.replicate (Int.toNat (w64 (1 * 2 ^ min v.length (Go.IntKind.bits Go.IntKind.i64)))) Bool.false, 1)) fun (a9 : List Bool) => some (a9, a8.1, a8.2.2.1, a8.2.2.2.1, a8.2.2.2.2) else Option.bind (itT (Zo fu rF a8.1 a8.2.1 a8.2.2.1 a8.2.2.2.1 a8.2.2.2.2 x0.N) fu (List.replicate (Int.toNat (w64 (1 * 2 ^ min v.length (Go.IntKind.bits Go.IntKind.i64)))) Bool.false, 1)) fun (a10 : List Bool) => some (a10, a8.1, a8.2.2.1, a8.2.2.2.1, a8.2.2.2.2) else none else none else none
theorem q2w (fu : Nat) (rF rF2 : (qb × List Int × List qa × Int × qd) → Option (List Bool × List Int × List qa × Int × qd)) (hF : ∀ y, qk (rF y) (rF2 y)) : ∀ x, qk (J9 fu rF x) (Q7 rF2 x) := by
  rintro ⟨x0, w7, v, v2, v3⟩
  unfold J9 Q7
  try dsimp only
  repeat (first
    | with_reducible exact qk.refl _
    | with_reducible exact qk.none _
    | exact hF _
    | (with_reducible refine q3o _ _ _ hF ..)
    | (with_reducible refine q2s _ _ _ hF ..)
    | (with_reducible refine q38 _ _ _ hF ..)
    | (with_reducible refine q34 _ _ _ hF ..)
    | (with_reducible refine q2K _ _ _ hF ..)
    | with_reducible refine qk.bind ?_ (fun _ => ?_)
    | with_reducible refine qk.ite ?_ ?_
    | with_reducible refine qk.sum (fun _ => ?_) (fun _ => ?_)
    | with_reducible refine qk.lim (fun _ => ?_))
noncomputable def q3D (fu : Nat) (x : (qb × List Int × List qa × Int × qd)) : Option (List Bool × List Int × List qa × Int × qd) := itR (J9 fu) fu x
theorem q5A (fu : Nat) (x : (qb × List Int × List qa × Int × qd)) : qk (q3D fu x) (qz x) := qk.rec q1q (q2w fu) fu x
noncomputable def Zn (n : qb) (s : qd) (l : List qa) (w1 : List Int) : Option (List Bool × List Int) := Option.bind (qz (n, (w1, (l, (0, s))))) fun (a : Prod (List Bool) (Prod (List Int) (Prod (List qa) (Prod Int qd)))) => some (a.1, a.2.1)
theorem q7i : ∀ (n_Kind n_N n_Min : Int) (n_Set : List qc) (n_L : List qb) (s_Worst s_Best s_Pass : Int) (l : List qa) (w1 : List Int) (w1_len : Nat), w1_len = w1.length → ev 24 1 [R.agg [dI n_Kind, dI n_N, dI n_Min, dL 2 qe n_Set, dL 5 qg n_L], R.agg [dI s_Worst, dI s_Best, dI s_Pass], rL 8 qf l, R.c (C.fn 25 [] [dP 0]), R.c (C.fn 26 [] [dP 0])] [(0, B.blk 22 [dO 1 1 w1_len]), (1, bR 3 1 eI w1)] = (Zn (qb.mk n_Kind n_N n_Min n_Set n_L) (qd.mk s_Worst s_Best s_Pass) l w1).bind (fun (e : List Bool × List Int) => some (rL 1 eB e.1, [(0, B.blk 22 [dO 1 1 e.2.length]), (1, bR 3 1 eI e.2)])) :=
  by
  intro n_Kind n_N n_Min n_Set n_L s_Worst s_Best s_Pass l w1 w1_len h0
  subst h0
  rw [qB qsq qta.2.2.2 qwp]
  have := qvI; have := @q5t; have := @Zn.eq_1; exact gA
noncomputable def q2k (fu : Nat) (n : qb) (s : qd) (l : List qa) (w1 : List Int) : Option (List Bool × List Int) := Option.bind (q3D fu (n, (w1, (l, (0, s))))) fun (a : Prod (List Bool) (Prod (List Int) (Prod (List qa) (Prod Int qd)))) => some (a.1, a.2.1)
theorem q7L (fu : Nat) (n : qb) (s : qd) (l : List qa) (w1 : List Int) : qk (q2k fu n s l w1) (Zn n s l w1) := by
  unfold q2k Zn
  repeat (first
    | with_reducible exact qk.refl _
    | with_reducible exact qk.none _
    | with_reducible apply q5A
    | with_reducible refine qk.bind ?_ (fun _ => ?_)
    | with_reducible refine qk.ite ?_ ?_
    | with_reducible refine qk.sum (fun _ => ?_) (fun _ => ?_)
    | with_reducible refine qk.lim (fun _ => ?_))
noncomputable def Qe (w4 : List Int) (b0 : qb) (b1 : qd) (t2 : List qa) (t3 : Int) (t16 : Int) (t49 : Int) (t50 : Int) : (List Int) → Option ((List Int) ⊕ (List Int)) | w3 => Option.bind (Zn b0 b1 t2 w3) fun (a : Prod (List Bool) (List Int)) => if 0 ≤ t3 ∧ t3 < ((a.1.length : Nat) : Int) then Option.bind a.1[Int.toNat t3]? fun (a2 : Bool) => if (!a2) = Bool.true then if 0 ≤ t16 ∧ t16 < ((a.2.length : Nat) : Int) then Option.bind a.2[Int.toNat t16]? fun (a3 : Int) => if 0 ≤ t16 ∧ t16 < ((a.2.length : Nat) : Int) then if Int.toNat t16 + 1 ≤ a.2.length then some (Sum.inl (List.set a.2 (Int.toNat t16) (w64 (a3 + 1)))) else none else none else none else some (Sum.inr a.2) else none
theorem q56 : ∀ (w3 w4 : List Int) (b0_Kind b0_N b0_Min : Int) (b0_Set : List qc) (b0_L : List qb) (b1_Worst b1_Best b1_Pass : Int) (t2 : List qa) (t3 t16 t49 t50 : Int) (w4_len w3_len : Nat), w4_len = w4.length → w3_len = w3.length → XL2 evo 11 0 14 ⟨[(2, rL 8 qf t2), (3, rI t3), (4, rP 0), (5, rP 1), (12, rP 2), (13, R.c (C.fn 25 [] [dP 2])), (14, R.c (C.fn 26 [] [dP 2])), (15, rO 4 1 w4_len), (16, rI t16), (49, rI t49), (50, rI t50)], [(0, B.blk 31 [dI b0_Kind, dI b0_N, dI b0_Min, dL 2 qe b0_Set, dL 5 qg b0_L]), (1, B.blk 37 [dI b1_Worst, dI b1_Best, dI b1_Pass]), (2, B.blk 22 [dO 3 1 w3_len]), (3, bR 3 1 eI w3), (4, bR 3 1 eI w4)], 5, 89⟩ = (qN (Qe w4 (qb.mk b0_Kind b0_N b0_Min b0_Set b0_L) (qd.mk b1_Worst b1_Best b1_Pass) t2 t3 t16 t49 t50) w3).bind (fun (e : List Int) => some (Go.Exit.exit 2, ⟨[(2, rL 8 qf t2), (3, rI t3), (4, rP 0), (5, rP 1), (12, rP 2), (13, R.c (C.fn 25 [] [dP 2])), (14, R.c (C.fn 26 [] [dP 2])), (15, rO 4 1 w4.length), (16, rI t16), (49, rI t49), (50, rI t50)], [(0, B.blk 31 [dI b0_Kind, dI b0_N, dI b0_Min, dL 2 qe b0_Set, dL 5 qg b0_L]), (1, B.blk 37 [dI b1_Worst, dI b1_Best, dI b1_Pass]), (2, B.blk 22 [dO 3 1 e.length]), (3, bR 3 1 eI e), (4, bR 3 1 eI w4)], 5, 89⟩)) :=
  by
  intro w3 w4 b0_Kind b0_N b0_Min b0_Set b0_L b1_Worst b1_Best b1_Pass t2 t3 t16 t49 t50 w4_len w3_len h0 h1
  subst h0 h1
  revert w3; exact qbx qng qlL (fun e => by exact ⟨_, rfl, fun h => by cases h⟩) fun x => by
    have := qtO; have := @qcc.eq_1; have := @q7i; have := @Qe.eq_1; exact gA
noncomputable def q0B (fu : Nat) (w4 : List Int) (b0 : qb) (b1 : qd) (t2 : List qa) (t3 : Int) (t16 : Int) (t49 : Int) (t50 : Int) : (List Int) → Option ((List Int) ⊕ (List Int)) | w3 => Option.bind (q2k fu b0 b1 t2 w3) fun (a : Prod (List Bool) (List Int)) => if 0 ≤ t3 ∧ t3 < ((a.1.length : Nat) : Int) then Option.bind a.1[Int.toNat t3]? fun (a2 : Bool) => if (!a2) = Bool.true then if 0 ≤ t16 ∧ t16 < ((a.2.length : Nat) : Int) then Option.bind a.2[Int.toNat t16]? fun (a3 : Int) => if 0 ≤ t16 ∧ t16 < ((a.2.length : Nat) : Int) then if Int.toNat t16 + 1 ≤ a.2.length then some (Sum.inl (List.set a.2 (Int.toNat t16) (w64 (a3 + 1)))) else none else none else none else some (Sum.inr a.2) else none
theorem q4L (fu : Nat) (w4 : List Int) (b0 : qb) (b1 : qd) (t2 : List qa) (t3 t16 t49 t50 : Int) : ∀ x, qk (q0B fu w4 b0 b1 t2 t3 t16 t49 t50 x) (Qe w4 b0 b1 t2 t3 t16 t49 t50 x) := by
  rintro w3
  unfold q0B Qe
  try dsimp only
  repeat (first
    | with_reducible exact qk.refl _
    | with_reducible exact qk.none _
    | with_reducible apply q7L
    | with_reducible refine qk.bind ?_ (fun _ => ?_)
    | with_reducible refine qk.ite ?_ ?_
    | with_reducible refine qk.sum (fun _ => ?_) (fun _ => ?_)
    | with_reducible refine qk.lim (fun _ => ?_))
noncomputable def zM (b0 : qb) (b1 : qd) (t2 : List qa) (t3 : Int) (t49 : Int) : (List Int × List Int × Int) → Option ((List Int × List Int × Int) ⊕ (List Int)) | (w3, w4, t50) => if t50 < t49 then if w3.length + 1 ≤ Go.maxLen ∧ (w3.length + 1) * 8 ≤ 140737488355328 then if 0 ≤ t50 then if (Jz Go.BinOp.and Go.IntKind.i64 (Int.fdiv t3 (2 ^ min (Int.toNat t50) (Go.IntKind.bits Go.IntKind.i64))) 1 == 0) = Bool.true then some (Sum.inl (w3 ++ [(-1)], w4, w64 (t50 + 1))) else if 0 ≤ t50 ∧ t50 < ((w3.length + 1 : Nat) : Int) then if Int.toNat t50 ≤ w3.length then Option.bind (qN (Qe w4 b0 b1 t2 t3 t50 t49 t50) (List.set (w3 ++ [(-1)]) (Int.toNat t50) 0)) fun (a : List Int) => if 0 ≤ t50 ∧ t50 < ((a.length : Nat) : Int) then Option.bind a[Int.toNat t50]? fun (a2 : Int) => if w4.length + 1 ≤ Go.maxLen ∧ (w4.length + 1) * 8 ≤ 140737488355328 then some (Sum.inl (a, w4 ++ [a2], w64 (t50 + 1))) else none else none else none else none else none else none else some (Sum.inr w4)
theorem q5Y : ∀ (w3 w4 : List Int) (b0_Kind b0_N b0_Min : Int) (b0_Set : List qc) (b0_L : List qb) (b1_Worst b1_Best b1_Pass : Int) (t2 : List qa) (t3 t49 t50 : Int) (w4_len w3_len : Nat), w4_len = w4.length → w3_len = w3.length → XL2 evo 11 0 9 ⟨[(2, rL 8 qf t2), (3, rI t3), (4, rP 0), (5, rP 1), (12, rP 2), (13, R.c (C.fn 25 [] [dP 2])), (14, R.c (C.fn 26 [] [dP 2])), (15, rO 4 1 w4_len), (49, rI t49), (50, rI t50)], [(0, B.blk 31 [dI b0_Kind, dI b0_N, dI b0_Min, dL 2 qe b0_Set, dL 5 qg b0_L]), (1, B.blk 37 [dI b1_Worst, dI b1_Best, dI b1_Pass]), (2, B.blk 22 [dO 3 1 w3_len]), (3, bR 3 1 eI w3), (4, bR 3 1 eI w4)], 5, 89⟩ = (qN (zM (qb.mk b0_Kind b0_N b0_Min b0_Set b0_L) (qd.mk b1_Worst b1_Best b1_Pass) t2 t3 t49) (w3, w4, t50)).bind (fun (e : List Int) => some (Go.Exit.exit 0, ⟨[(15, rO 0 1 e.length)], [(0, bR 3 1 eI e)], 1, 89⟩)) :=
  by
  intro w3 w4 b0_Kind b0_N b0_Min b0_Set b0_L b1_Worst b1_Best b1_Pass t2 t3 t49 t50 w4_len w3_len h0 h1
  subst h0 h1
  revert t50; revert w4; revert w3; exact qyn qo7 qrG (fun e => by exact ⟨_, rfl, fun h => by cases h⟩) fun w3 w4 t50 => by
    have := qtO; have := @qfk.eq_1; have := @q56; have := @zM.eq_1; exact gA
theorem q3c : ∀  (b0_Kind b0_N b0_Min : Int) (b0_Set : List qc) (b0_L : List qb) (b1_Worst b1_Best b1_Pass : Int) (t2 : List qa) (t3 t49 t50 : Int), XL2 evo 11 0 9 ⟨[(2, rL 8 qf t2), (3, rI t3), (4, rP 0), (5, rP 1), (12, rP 2), (13, R.c (C.fn 25 [] [dP 2])), (14, R.c (C.fn 26 [] [dP 2])), (15, rO 4 1 0), (49, rI t49), (50, rI t50)], [(0, B.blk 31 [dI b0_Kind, dI b0_N, dI b0_Min, dL 2 qe b0_Set, dL 5 qg b0_L]), (1, B.blk 37 [dI b1_Worst, dI b1_Best, dI b1_Pass]), (2, B.blk 22 [dO 3 1 0]), (3, B.row 3 1 []), (4, B.row 3 1 [])], 5, 89⟩ = (qN (zM (qb.mk b0_Kind b0_N b0_Min b0_Set b0_L) (qd.mk b1_Worst b1_Best b1_Pass) t2 t3 t49) ([], [], t50)).bind (fun (e : List Int) => some (Go.Exit.exit 0, ⟨[(15, rO 0 1 e.length)], [(0, bR 3 1 eI e)], 1, 89⟩)) := by
  intro b0_Kind b0_N b0_Min b0_Set b0_L b1_Worst b1_Best b1_Pass t2 t3 t49 t50; have h := q5Y [] [] ((qb.mk b0_Kind b0_N b0_Min b0_Set b0_L)).Kind ((qb.mk b0_Kind b0_N b0_Min b0_Set b0_L)).N ((qb.mk b0_Kind b0_N b0_Min b0_Set b0_L)).Min ((qb.mk b0_Kind b0_N b0_Min b0_Set b0_L)).Set ((qb.mk b0_Kind b0_N b0_Min b0_Set b0_L)).L ((qd.mk b1_Worst b1_Best b1_Pass)).Worst ((qd.mk b1_Worst b1_Best b1_Pass)).Best ((qd.mk b1_Worst b1_Best b1_Pass)).Pass t2 t3 t49 t50 _ _ rfl rfl
  first
    | exact h
    | (simp only [rL, dL, bR, bZ, Nat.reduceAdd] at h; exact h)
noncomputable def q16 (fu : Nat) (b0 : qb) (b1 : qd) (t2 : List qa) (t3 : Int) (t49 : Int) : (List Int × List Int × Int) → Option ((List Int × List Int × Int) ⊕ (List Int)) | (w3, w4, t50) => if t50 < t49 then if w3.length + 1 ≤ Go.maxLen ∧ (w3.length + 1) * 8 ≤ 140737488355328 then if 0 ≤ t50 then if (Jz Go.BinOp.and Go.IntKind.i64 (Int.fdiv t3 (2 ^ min (Int.toNat t50) (Go.IntKind.bits Go.IntKind.i64))) 1 == 0) = Bool.true then some (Sum.inl (w3 ++ [(-1)], w4, w64 (t50 + 1))) else if 0 ≤ t50 ∧ t50 < ((w3.length + 1 : Nat) : Int) then if Int.toNat t50 ≤ w3.length then Option.bind (itT (q0B fu w4 b0 b1 t2 t3 t50 t49 t50) fu (List.set (w3 ++ [(-1)]) (Int.toNat t50) 0)) fun (a : List Int) => if 0 ≤ t50 ∧ t50 < ((a.length : Nat) : Int) then Option.bind a[Int.toNat t50]? fun (a2 : Int) => if w4.length + 1 ≤ Go.maxLen ∧ (w4.length + 1) * 8 ≤ 140737488355328 then some (Sum.inl (a, w4 ++ [a2], w64 (t50 + 1))) else none else none else none else none else none else none else some (Sum.inr w4)
theorem q64 (fu : Nat) (b0 : qb) (b1 : qd) (t2 : List qa) (t3 t49 : Int) : ∀ x, qk (q16 fu b0 b1 t2 t3 t49 x) (zM b0 b1 t2 t3 t49 x) := by
  rintro ⟨w3, w4, t50⟩
  unfold q16 zM
  try dsimp only
  repeat (first
    | with_reducible exact qk.refl _
    | with_reducible exact qk.none _
    | with_reducible apply q4L
    | with_reducible refine qk.bind ?_ (fun _ => ?_)
    | with_reducible refine qk.ite ?_ ?_
    | with_reducible refine qk.sum (fun _ => ?_) (fun _ => ?_)
    | with_reducible refine qk.lim (fun _ => ?_))
noncomputable def Qa (x0 : qb) (x1 : qd) (x2 : List qa) (x3 : Int) : Option (List Int × Bool) := Option.bind (Zc x0 x1 x2) fun (a : Prod (List Bool) Int) => if (a.2 != 0) = Bool.true then some ([], Bool.false) else if x3 < 0 then some ([], Bool.false) else if ((a.1.length : Nat) : Int) ≤ x3 then some ([], Bool.false) else if 0 ≤ x3 ∧ x3 < ((a.1.length : Nat) : Int) then Option.bind a.1[Int.toNat x3]? fun (a2 : Bool) => if (!a2) = Bool.true then some ([], Bool.false) else if 0 ≤ ((x2.length : Nat) : Int) ∧ 8 * ((x2.length : Nat) : Int) ≤ 281474976710656 ∧ ((x2.length : Nat) : Int) ≤ 9223372036854775807 then Option.bind (qN (zM x0 x1 x2 x3 ((x2.length : Nat) : Int)) ([], ([], 0))) fun (a3 : List Int) => some (a3, Bool.true) else none else none
theorem q3b : ∀ (x0_Kind x0_N x0_Min : Int) (x0_Set : List qc) (x0_L : List qb) (x1_Worst x1_Best x1_Pass : Int) (x2 : List qa) (x3 : Int), ev 11 0 [R.agg [dI x0_Kind, dI x0_N, dI x0_Min, dL 2 qe x0_Set, dL 5 qg x0_L], R.agg [dI x1_Worst, dI x1_Best, dI x1_Pass], rL 8 qf x2, rI x3] [] = (Qa (qb.mk x0_Kind x0_N x0_Min x0_Set x0_L) (qd.mk x1_Worst x1_Best x1_Pass) x2 x3).bind (fun (e : List Int × Bool) => some (R.tup [rL 1 eI e.1, rB e.2], [])) :=
  fun x0_Kind x0_N x0_Min x0_Set x0_L x1_Worst x1_Best x1_Pass x2 x3 => by
    rw [qB qqI qv2.2.2.2 quE]
    have := qtO; have := @q2c; have := @q3c; have := @Qa.eq_1; exact gA
theorem q5l : ∀ (x0_Kind x0_N x0_Min x0_L0_Kind x0_L0_N x0_L0_Min x0_L0_Set0_School : Int) (x0_L0_Set0_Code : ByteArray) (x0_L1_Kind x0_L1_N x0_L1_Min x0_L1_Set0_School : Int) (x0_L1_Set0_Code : ByteArray) (x0_L1_Set1_School : Int) (x0_L1_Set1_Code : ByteArray) (x20_Course_School : Int) (x20_Course_Code : ByteArray) (x20_Credits x20_Grade x20_Day x20_Bundle x21_Course_School : Int) (x21_Course_Code : ByteArray) (x21_Credits x21_Grade x21_Day x21_Bundle x22_Course_School : Int) (x22_Course_Code : ByteArray) (x22_Credits x22_Grade x22_Day x22_Bundle x1_Worst x1_Best x1_Pass x3 : Int), ev 11 0 [R.agg [dI x0_Kind, dI x0_N, dI x0_Min, C.d (D.sl 2 0 []), C.d (D.sl 5 2 [D.int .i64 x0_L0_Kind, D.int .i64 x0_L0_N, D.int .i64 x0_L0_Min, D.sl 2 1 [D.int .i64 x0_L0_Set0_School, D.str x0_L0_Set0_Code], D.sl 5 0 [], D.int .i64 x0_L1_Kind, D.int .i64 x0_L1_N, D.int .i64 x0_L1_Min, D.sl 2 2 [D.int .i64 x0_L1_Set0_School, D.str x0_L1_Set0_Code, D.int .i64 x0_L1_Set1_School, D.str x0_L1_Set1_Code], D.sl 5 0 []])], R.agg [dI x1_Worst, dI x1_Best, dI x1_Pass], R.c (C.d (D.sl 8 3 [D.int .i64 x20_Course_School, D.str x20_Course_Code, D.int .i64 x20_Credits, D.int .i64 x20_Grade, D.int .i64 x20_Day, D.sl 1 0 [], D.int .i64 x20_Bundle, D.sl 1 0 [], D.int .i64 x21_Course_School, D.str x21_Course_Code, D.int .i64 x21_Credits, D.int .i64 x21_Grade, D.int .i64 x21_Day, D.sl 1 0 [], D.int .i64 x21_Bundle, D.sl 1 0 [], D.int .i64 x22_Course_School, D.str x22_Course_Code, D.int .i64 x22_Credits, D.int .i64 x22_Grade, D.int .i64 x22_Day, D.sl 1 0 [], D.int .i64 x22_Bundle, D.sl 1 0 []])), rI x3] [] = (Qa (qb.mk x0_Kind x0_N x0_Min [] [(qb.mk x0_L0_Kind x0_L0_N x0_L0_Min [(qc.mk x0_L0_Set0_School x0_L0_Set0_Code)] []), (qb.mk x0_L1_Kind x0_L1_N x0_L1_Min [(qc.mk x0_L1_Set0_School x0_L1_Set0_Code), (qc.mk x0_L1_Set1_School x0_L1_Set1_Code)] [])]) (qd.mk x1_Worst x1_Best x1_Pass) [(qa.mk (qc.mk x20_Course_School x20_Course_Code) x20_Credits x20_Grade x20_Day [] x20_Bundle []), (qa.mk (qc.mk x21_Course_School x21_Course_Code) x21_Credits x21_Grade x21_Day [] x21_Bundle []), (qa.mk (qc.mk x22_Course_School x22_Course_Code) x22_Credits x22_Grade x22_Day [] x22_Bundle [])] x3).bind (fun (e : List Int × Bool) => some (R.tup [rL 1 eI e.1, rB e.2], [])) := by
  intro x0_Kind x0_N x0_Min x0_L0_Kind x0_L0_N x0_L0_Min x0_L0_Set0_School x0_L0_Set0_Code x0_L1_Kind x0_L1_N x0_L1_Min x0_L1_Set0_School x0_L1_Set0_Code x0_L1_Set1_School x0_L1_Set1_Code x20_Course_School x20_Course_Code x20_Credits x20_Grade x20_Day x20_Bundle x21_Course_School x21_Course_Code x21_Credits x21_Grade x21_Day x21_Bundle x22_Course_School x22_Course_Code x22_Credits x22_Grade x22_Day x22_Bundle x1_Worst x1_Best x1_Pass x3; have h := q3b ((qb.mk x0_Kind x0_N x0_Min [] [(qb.mk x0_L0_Kind x0_L0_N x0_L0_Min [(qc.mk x0_L0_Set0_School x0_L0_Set0_Code)] []), (qb.mk x0_L1_Kind x0_L1_N x0_L1_Min [(qc.mk x0_L1_Set0_School x0_L1_Set0_Code), (qc.mk x0_L1_Set1_School x0_L1_Set1_Code)] [])])).Kind ((qb.mk x0_Kind x0_N x0_Min [] [(qb.mk x0_L0_Kind x0_L0_N x0_L0_Min [(qc.mk x0_L0_Set0_School x0_L0_Set0_Code)] []), (qb.mk x0_L1_Kind x0_L1_N x0_L1_Min [(qc.mk x0_L1_Set0_School x0_L1_Set0_Code), (qc.mk x0_L1_Set1_School x0_L1_Set1_Code)] [])])).N ((qb.mk x0_Kind x0_N x0_Min [] [(qb.mk x0_L0_Kind x0_L0_N x0_L0_Min [(qc.mk x0_L0_Set0_School x0_L0_Set0_Code)] []), (qb.mk x0_L1_Kind x0_L1_N x0_L1_Min [(qc.mk x0_L1_Set0_School x0_L1_Set0_Code), (qc.mk x0_L1_Set1_School x0_L1_Set1_Code)] [])])).Min ((qb.mk x0_Kind x0_N x0_Min [] [(qb.mk x0_L0_Kind x0_L0_N x0_L0_Min [(qc.mk x0_L0_Set0_School x0_L0_Set0_Code)] []), (qb.mk x0_L1_Kind x0_L1_N x0_L1_Min [(qc.mk x0_L1_Set0_School x0_L1_Set0_Code), (qc.mk x0_L1_Set1_School x0_L1_Set1_Code)] [])])).Set ((qb.mk x0_Kind x0_N x0_Min [] [(qb.mk x0_L0_Kind x0_L0_N x0_L0_Min [(qc.mk x0_L0_Set0_School x0_L0_Set0_Code)] []), (qb.mk x0_L1_Kind x0_L1_N x0_L1_Min [(qc.mk x0_L1_Set0_School x0_L1_Set0_Code), (qc.mk x0_L1_Set1_School x0_L1_Set1_Code)] [])])).L ((qd.mk x1_Worst x1_Best x1_Pass)).Worst ((qd.mk x1_Worst x1_Best x1_Pass)).Best ((qd.mk x1_Worst x1_Best x1_Pass)).Pass [(qa.mk (qc.mk x20_Course_School x20_Course_Code) x20_Credits x20_Grade x20_Day [] x20_Bundle []), (qa.mk (qc.mk x21_Course_School x21_Course_Code) x21_Credits x21_Grade x21_Day [] x21_Bundle []), (qa.mk (qc.mk x22_Course_School x22_Course_Code) x22_Credits x22_Grade x22_Day [] x22_Bundle [])] x3
  first
    | exact h
    | (simp only [rL, dL, bR, bZ, Nat.reduceAdd] at h; exact h)
noncomputable def q0u (fu : Nat) (x0 : qb) (x1 : qd) (x2 : List qa) (x3 : Int) : Option (List Int × Bool) := Option.bind (q44 fu x0 x1 x2) fun (a : Prod (List Bool) Int) => if (a.2 != 0) = Bool.true then some ([], Bool.false) else if x3 < 0 then some ([], Bool.false) else if ((a.1.length : Nat) : Int) ≤ x3 then some ([], Bool.false) else if 0 ≤ x3 ∧ x3 < ((a.1.length : Nat) : Int) then Option.bind a.1[Int.toNat x3]? fun (a2 : Bool) => if (!a2) = Bool.true then some ([], Bool.false) else if 0 ≤ ((x2.length : Nat) : Int) ∧ 8 * ((x2.length : Nat) : Int) ≤ 281474976710656 ∧ ((x2.length : Nat) : Int) ≤ 9223372036854775807 then Option.bind (itT (q16 fu x0 x1 x2 x3 ((x2.length : Nat) : Int)) fu ([], ([], 0))) fun (a3 : List Int) => some (a3, Bool.true) else none else none
theorem q8h (fu : Nat) (x0 : qb) (x1 : qd) (x2 : List qa) (x3 : Int) : qk (q0u fu x0 x1 x2 x3) (Qa x0 x1 x2 x3) := by
  unfold q0u Qa
  repeat (first
    | with_reducible exact qk.refl _
    | with_reducible exact qk.none _
    | with_reducible apply q6a
    | with_reducible apply q64
    | with_reducible refine qk.bind ?_ (fun _ => ?_)
    | with_reducible refine qk.ite ?_ ?_
    | with_reducible refine qk.sum (fun _ => ?_) (fun _ => ?_)
    | with_reducible refine qk.lim (fun _ => ?_))
theorem qxg : okL 12 qfN := qA (qi quC) (by kernel_rfl) (by kernel_rfl)
def qyh := JA_ @qfN.eq_1 (JA_ @Try.f12.eq_1 @quC)
theorem qz3 : okL 29 qfY := qA (qi qur) (by kernel_rfl) (by kernel_rfl)
def qxE := JA_ @qfY.eq_1 (JA_ @Try.f29.eq_1 @qur)
noncomputable def q0Q (k : Int) (v : Int) : Option Bool := if k < (-1) then some Bool.true else some (decide (v ≤ k))
noncomputable def Ze (k : Int) (v : Int) : Bool := if k < (-1) then Bool.true else decide (v ≤ k)
theorem q6W (k v : Int) : q0Q k v = some (Ze k v) := by
  unfold q0Q Ze
  simp only [Qg]
theorem q7k : ∀ (k v : Int), ev 29 1 [rI k, rP 0] [(0, B.blk 3 [dI v])] = some (rB (Ze k v), [(0, B.blk 3 [dI v])]) :=
  fun k v => by
    have h : ev 29 1 [rI k, rP 0] [(0, B.blk 3 [dI v])] = (q0Q k v).bind (fun (e : Bool) => some (rB e, [(0, B.blk 3 [dI v])])) := by
      rw [qB qur qw2.2.2.2 qz3]
      have := qxE; have := @q0Q.eq_1; exact gA
    rw [q6W] at h
    exact h
noncomputable def qD (b0 : Int) (s : List Int) (t7 : Int) : Int → Option (Int ⊕ (Int ⊕ Unit)) | t8 => if t8 < t7 then if 0 ≤ t8 ∧ t8 < ((s.length : Nat) : Int) then Option.bind s[Int.toNat t8]? fun (a : Int) => if Ze a b0 = Bool.true then some (Sum.inr (Sum.inl t8)) else some (Sum.inl (w64 (t8 + 1))) else none else some (Sum.inr (Sum.inr ()))
theorem JB : ∀ (b0 : Int) (s : List Int) (t7 t8 : Int), XL2 evo 49 1 2 ⟨[(0, rL 1 eI s), (1, R.c (C.fn 29 [] [dP 0])), (7, rI t7), (8, rI t8)], [(0, B.blk 3 [dI b0])], 1, 19⟩ = (qN (qD b0 s t7) t8).bind (Sum.elim (fun (e : Int) => some (Go.Exit.ret, ⟨[(4, rI e)], [(0, B.blk 3 [dI b0])], 1, 19⟩)) (fun (e : Unit) => some (Go.Exit.exit 0, ⟨[(4, R.any)], [(0, B.blk 3 [dI b0])], 1, 19⟩))) :=
  fun b0 s t7 t8 => by
    revert t8; exact qbx qkK ql9 (fun e => by rcases e with _ | _ <;> exact ⟨_, rfl, fun h => by cases h⟩) fun x => by
      have := qsa; have := @qcS.eq_1; have := @q7k; have := @qD.eq_1; exact gA
noncomputable def qX (s : List Int) (b0 : Int) : Option Int := Option.bind (qN (qD b0 s ((s.length : Nat) : Int)) 0) fun (a : Sum Int Unit) => Sum.elim (fun (a2 : Int) => some a2) (fun (a3 : Unit) => some (-1)) a
theorem q0b : ∀ (s : List Int) (b0 : Int), ev 49 1 [rL 1 eI s, R.c (C.fn 29 [] [dP 0])] [(0, B.blk 3 [dI b0])] = (qX s b0).bind (fun (e : Int) => some (rI e, [(0, B.blk 3 [dI b0])])) :=
  fun s b0 => by
    rw [qB qq3 quk.2.2.2 qtp]
    have := qsa; have := @JB; have := @qX.eq_1; exact gA
noncomputable def QK (fu : Nat) (s : List Int) (b0 : Int) : Option Int := Option.bind (itT (qD b0 s ((s.length : Nat) : Int)) fu 0) fun (a : Sum Int Unit) => Sum.elim (fun (a2 : Int) => some a2) (fun (a3 : Unit) => some (-1)) a
theorem q04 (fu : Nat) (s : List Int) (b0 : Int) : qk (QK fu s b0) (qX s b0) := by
  unfold QK qX
  repeat (first
    | with_reducible exact qk.refl _
    | with_reducible exact qk.none _
    | with_reducible refine qk.bind ?_ (fun _ => ?_)
    | with_reducible refine qk.ite ?_ ?_
    | with_reducible refine qk.sum (fun _ => ?_) (fun _ => ?_)
    | with_reducible refine qk.lim (fun _ => ?_))
noncomputable def qE (s : List Int) (b0 : Int) : Option Bool := Option.bind (qX s b0) fun (a : Int) => some (decide (0 ≤ a))
theorem JC : ∀ (s : List Int) (b0 : Int), ev 27 1 [rL 1 eI s, R.c (C.fn 29 [] [dP 0])] [(0, B.blk 3 [dI b0])] = (qE s b0).bind (fun (e : Bool) => some (rB e, [(0, B.blk 3 [dI b0])])) :=
  fun s b0 => by
    rw [qB qsc qt9.2.2.2 qve]
    have := qwc; have := @q0b; have := @qE.eq_1; exact gA
noncomputable def Qo (fu : Nat) (s : List Int) (b0 : Int) : Option Bool := Option.bind (QK fu s b0) fun (a : Int) => some (decide (0 ≤ a))
theorem JD (fu : Nat) (s : List Int) (b0 : Int) : qk (Qo fu s b0) (qE s b0) := by
  unfold Qo qE
  repeat (first
    | with_reducible exact qk.refl _
    | with_reducible exact qk.none _
    | with_reducible apply q04
    | with_reducible refine qk.bind ?_ (fun _ => ?_)
    | with_reducible refine qk.ite ?_ ?_
    | with_reducible refine qk.sum (fun _ => ?_) (fun _ => ?_)
    | with_reducible refine qk.lim (fun _ => ?_))
theorem qvq : okL 30 qda := qA (qi qs2) (by kernel_rfl) (by kernel_rfl)
def qvk := JA_ @qda.eq_1 (JA_ @Try.f30.eq_1 @qs2)
theorem qpu : lbO 30 8 = qhz := Qd (qi qs2) rfl
theorem qql : okL 30 qhz := zd qvq (List.mem_of_getElem? (i := 0) (by kernel_rfl))
theorem qzc : okL 33 qii := qA (qi quq) (by kernel_rfl) (by kernel_rfl)
def qyJ := JA_ @qii.eq_1 (JA_ @Try.f33.eq_1 @quq)
noncomputable def Zd (k : Int) (v : List Int) (v2 : Int) : Option Bool := if 0 ≤ k ∧ k < ((v.length : Nat) : Int) then Option.bind v[Int.toNat k]? fun (a : Int) => some (a == v2) else none
theorem q5D : ∀ (k : Int) (v : List Int) (v2 : Int), ev 33 2 [rI k, rP 0, rP 1] [(0, B.blk 22 [dL 1 eI v]), (1, B.blk 3 [dI v2])] = (Zd k v v2).bind (fun (e : Bool) => some (rB e, [(0, B.blk 22 [dL 1 eI v]), (1, B.blk 3 [dI v2])])) :=
  fun k v v2 => by
    rw [qB quq qv1.2.2.2 qzc]
    have := qyJ; have := @Zd.eq_1; exact gA
noncomputable def zT (b0 : List Int) (b1 : Int) (n : qb) (s : qd) (b4 : ql) (t13 : List qa) (t14 : Int) : (ql × Int) → Option ((ql × Int) ⊕ ql) | (out, t15) => if t15 < t14 then if 0 ≤ t15 ∧ t15 < ((t13.length : Nat) : Int) then Option.bind t13[Int.toNat t15]? fun (a : qa) => Option.bind (Zd t15 b0 b1) fun (a2 : Bool) => if a2 = Bool.true then if out.fine = Bool.true then Option.bind (QS n s a) fun (a3 : Bool) => some (Sum.inl (ql.mk (w64 (out.many + 1)) (w64 (out.credits + a.Credits)) a3, w64 (t15 + 1))) else some (Sum.inl (ql.mk (w64 (out.many + 1)) (w64 (out.credits + a.Credits)) Bool.false, w64 (t15 + 1))) else some (Sum.inl (out, w64 (t15 + 1))) else none else some (Sum.inr out)
theorem q4P : ∀ (b0 : List Int) (b1 n_Kind n_N n_Min : Int) (n_Set : List qc) (n_L : List qb) (s_Worst s_Best s_Pass b4_many b4_credits : Int) (b4_fine : Bool) (out_many out_credits : Int) (out_fine : Bool) (t13 : List qa) (t14 t15 : Int), XL2 evo 32 2 3 ⟨[(3, R.c (C.fn 33 [] [dP 0, dP 1])), (4, rP 2), (5, rP 3), (8, rP 4), (9, rP 5), (13, rL 8 qf t13), (14, rI t14), (15, rI t15)], [(0, B.blk 22 [dL 1 eI b0]), (1, B.blk 3 [dI b1]), (2, B.blk 31 [dI n_Kind, dI n_N, dI n_Min, dL 2 qe n_Set, dL 5 qg n_L]), (3, B.blk 37 [dI s_Worst, dI s_Best, dI s_Pass]), (4, B.blk 70 [dI b4_many, dI b4_credits, dB b4_fine]), (5, B.blk 70 [dI out_many, dI out_credits, dB out_fine])], 6, 44⟩ = (qN (zT b0 b1 (qb.mk n_Kind n_N n_Min n_Set n_L) (qd.mk s_Worst s_Best s_Pass) (ql.mk b4_many b4_credits b4_fine) t13 t14) ((ql.mk out_many out_credits out_fine), t15)).bind (fun (e : ql) => some (Go.Exit.exit 0, ⟨[(8, rP 2), (9, rP 3)], [(0, B.blk 22 [dL 1 eI b0]), (1, B.blk 3 [dI b1]), (2, B.blk 70 [dI b4_many, dI b4_credits, dB b4_fine]), (3, B.blk 70 [dI e.many, dI e.credits, dB e.fine])], 4, 44⟩)) :=
  fun b0 b1 n_Kind n_N n_Min n_Set n_L s_Worst s_Best s_Pass b4_many b4_credits b4_fine out_many out_credits out_fine t13 t14 t15 => by
    have h := q2l (E := evo) (f := 32) (k := 2) (st := fun x : ql × Int => (⟨[(3, R.c (C.fn 33 [] [dP 0, dP 1])), (4, rP 2), (5, rP 3), (8, rP 4), (9, rP 5), (13, rL 8 qf t13), (14, rI t14), (15, rI x.2)], [(0, B.blk 22 [dL 1 eI b0]), (1, B.blk 3 [dI b1]), (2, B.blk 31 [dI n_Kind, dI n_N, dI n_Min, dL 2 qe n_Set, dL 5 qg n_L]), (3, B.blk 37 [dI s_Worst, dI s_Best, dI s_Pass]), (4, B.blk 70 [dI b4_many, dI b4_credits, dB b4_fine]), (5, B.blk 70 [dI x.1.many, dI x.1.credits, dB x.1.fine])], 6, 44⟩ : S)) (ex := fun (e : ql) => (Go.Exit.exit 0, ⟨[(8, rP 2), (9, rP 3)], [(0, B.blk 22 [dL 1 eI b0]), (1, B.blk 3 [dI b1]), (2, B.blk 70 [dI b4_many, dI b4_credits, dB b4_fine]), (3, B.blk 70 [dI e.many, dI e.credits, dB e.fine])], 4, 44⟩)) (step := (zT b0 b1 (qb.mk n_Kind n_N n_Min n_Set n_L) (qd.mk s_Worst s_Best s_Pass) (ql.mk b4_many b4_credits b4_fine) t13 t14)) qkS qkG (fun e h => by cases h) (fun x => by
      obtain ⟨out, t15⟩ := x; have := qss; have := @qdx.eq_1; have := @q5D; have := @q27; have := @zT.eq_1; exact gA) ((ql.mk out_many out_credits out_fine), t15)
    exact h
noncomputable def q0D (fu : Nat) (b0 : List Int) (b1 : Int) (n : qb) (s : qd) (b4 : ql) (t13 : List qa) (t14 : Int) : (ql × Int) → Option ((ql × Int) ⊕ ql) | (out, t15) => if t15 < t14 then if 0 ≤ t15 ∧ t15 < ((t13.length : Nat) : Int) then Option.bind t13[Int.toNat t15]? fun (a : qa) => Option.bind (Zd t15 b0 b1) fun (a2 : Bool) => if a2 = Bool.true then if out.fine = Bool.true then Option.bind (q08 fu n s a) fun (a3 : Bool) => some (Sum.inl (ql.mk (w64 (out.many + 1)) (w64 (out.credits + a.Credits)) a3, w64 (t15 + 1))) else some (Sum.inl (ql.mk (w64 (out.many + 1)) (w64 (out.credits + a.Credits)) Bool.false, w64 (t15 + 1))) else some (Sum.inl (out, w64 (t15 + 1))) else none else some (Sum.inr out)
theorem q4C (fu : Nat) (b0 : List Int) (b1 : Int) (n : qb) (s : qd) (b4 : ql) (t13 : List qa) (t14 : Int) : ∀ x, qk (q0D fu b0 b1 n s b4 t13 t14 x) (zT b0 b1 n s b4 t13 t14 x) := by
  rintro ⟨out, t15⟩
  unfold q0D zT
  try dsimp only
  repeat (first
    | with_reducible exact qk.refl _
    | with_reducible exact qk.none _
    | with_reducible apply q2y
    | with_reducible refine qk.bind ?_ (fun _ => ?_)
    | with_reducible refine qk.ite ?_ ?_
    | with_reducible refine qk.sum (fun _ => ?_) (fun _ => ?_)
    | with_reducible refine qk.lim (fun _ => ?_))
noncomputable def Zh (n : qb) (s : qd) (l : List qa) (b0 : List Int) (b1 : Int) : Option ql := Option.bind (qN (zT b0 b1 n s (ql.mk 0 0 Bool.false) l ((l.length : Nat) : Int)) (ql.mk 0 0 Bool.true, 0)) fun (a : ql) => some a
theorem q7g : ∀ (n_Kind n_N n_Min : Int) (n_Set : List qc) (n_L : List qb) (s_Worst s_Best s_Pass : Int) (l : List qa) (b0 : List Int) (b1 : Int), ev 32 2 [R.agg [dI n_Kind, dI n_N, dI n_Min, dL 2 qe n_Set, dL 5 qg n_L], R.agg [dI s_Worst, dI s_Best, dI s_Pass], rL 8 qf l, R.c (C.fn 33 [] [dP 0, dP 1])] [(0, B.blk 22 [dL 1 eI b0]), (1, B.blk 3 [dI b1])] = (Zh (qb.mk n_Kind n_N n_Min n_Set n_L) (qd.mk s_Worst s_Best s_Pass) l b0 b1).bind (fun (e : ql) => some (R.agg [dI e.many, dI e.credits, dB e.fine], [(0, B.blk 22 [dL 1 eI b0]), (1, B.blk 3 [dI b1])])) :=
  fun n_Kind n_N n_Min n_Set n_L s_Worst s_Best s_Pass l b0 b1 => by
    rw [qB qp2 qut.2.2.2 qsJ]
    have := qss; have := @q4P; have := @Zh.eq_1; exact gA
noncomputable def q2t (fu : Nat) (n : qb) (s : qd) (l : List qa) (b0 : List Int) (b1 : Int) : Option ql := Option.bind (itT (q0D fu b0 b1 n s (ql.mk 0 0 Bool.false) l ((l.length : Nat) : Int)) fu (ql.mk 0 0 Bool.true, 0)) fun (a : ql) => some a
theorem q7f (fu : Nat) (n : qb) (s : qd) (l : List qa) (b0 : List Int) (b1 : Int) : qk (q2t fu n s l b0 b1) (Zh n s l b0 b1) := by
  unfold q2t Zh
  repeat (first
    | with_reducible exact qk.refl _
    | with_reducible exact qk.none _
    | with_reducible apply q4C
    | with_reducible refine qk.bind ?_ (fun _ => ?_)
    | with_reducible refine qk.ite ?_ ?_
    | with_reducible refine qk.sum (fun _ => ?_) (fun _ => ?_)
    | with_reducible refine qk.lim (fun _ => ?_))
noncomputable def Qm (x : (qb × qd × List qa × List Int × Int)) : List R × List (Nat × B) := ([R.agg [C.d (D.int .i64 x.1.Kind), C.d (D.int .i64 x.1.N), C.d (D.int .i64 x.1.Min), C.d (D.sl 2 x.1.Set.length (x.1.Set.flatMap qe)), C.d (D.sl 5 x.1.L.length (x.1.L.flatMap qg))], R.c (C.ptr 0 0), R.c (C.ptr 1 0), R.c (C.ptr 2 0), R.c (C.ptr 3 0), R.c (C.ptr 4 0)], [(0, B.blk 37 [C.d (D.int .i64 x.2.1.Worst), C.d (D.int .i64 x.2.1.Best), C.d (D.int .i64 x.2.1.Pass)]), (1, B.blk 32 [C.d (D.sl 8 x.2.2.1.length (x.2.2.1.flatMap qf))]), (2, B.blk 22 [C.d (D.sl 1 x.2.2.2.1.length (x.2.2.2.1.flatMap eI))]), (3, B.blk 3 [C.d (D.int .i64 x.2.2.2.2)]), (4, B.blk 67 [C.fn 30 [] [C.ptr 0 0, C.ptr 1 0, C.ptr 2 0, C.ptr 3 0, C.ptr 4 0]])])
noncomputable def QD : (Bool × Bool × qd × List qa × List Int × Int) → R × List (Nat × B) := fun (e : Bool × Bool × qd × List qa × List Int × Int) => (R.tup [R.c (C.d (D.bool e.1)), R.c (C.d (D.bool e.2.1))], [(0, B.blk 37 [C.d (D.int .i64 e.2.2.1.Worst), C.d (D.int .i64 e.2.2.1.Best), C.d (D.int .i64 e.2.2.1.Pass)]), (1, B.blk 32 [C.d (D.sl 8 e.2.2.2.1.length (e.2.2.2.1.flatMap qf))]), (2, B.blk 22 [C.d (D.sl 1 e.2.2.2.2.1.length (e.2.2.2.2.1.flatMap eI))]), (3, B.blk 3 [C.d (D.int .i64 e.2.2.2.2.2)]), (4, B.blk 67 [C.fn 30 [] [C.ptr 0 0, C.ptr 1 0, C.ptr 2 0, C.ptr 3 0, C.ptr 4 0]])])
noncomputable def zY (rF : (qb × qd × List qa × List Int × Int) → Option (Bool × Bool × qd × List qa × List Int × Int)) (b5 : qb) (t35 : List qb) (t36 : Int) : (qd × List qa × List Int × Int × Bool × Int × Bool × Int) → Option ((qd × List qa × List Int × Int × Bool × Int × Bool × Int) ⊕ (qd × List qa × List Int × Int × Bool × Int × Bool)) | (b0, b1, b2, b3, t7, t10, t11, t37) => if t37 < t36 then if 0 ≤ t37 ∧ t37 < ((t35.length : Nat) : Int) then Option.bind t35[Int.toNat t37]? fun (a2 : qb) => Option.bind (rF (a2, (b0, (b1, (b2, b3))))) fun (a3 : Prod Bool (Prod Bool (Prod qd (Prod (List qa) (Prod (List Int) Int))))) => if t7 = Bool.true then if t11 = Bool.true then if a3.2.1 = Bool.true then some (Sum.inl (a3.2.2.1, a3.2.2.2.1, a3.2.2.2.2.1, a3.2.2.2.2.2, a3.1, w64 (t10 + 1), Bool.true, w64 (t37 + 1))) else some (Sum.inl (a3.2.2.1, a3.2.2.2.1, a3.2.2.2.2.1, a3.2.2.2.2.2, a3.1, t10, Bool.true, w64 (t37 + 1))) else if (!a3.2.1) = Bool.true then if (!a3.1) = Bool.true then if a3.2.1 = Bool.true then some (Sum.inl (a3.2.2.1, a3.2.2.2.1, a3.2.2.2.2.1, a3.2.2.2.2.2, a3.1, w64 (t10 + 1), Bool.true, w64 (t37 + 1))) else some (Sum.inl (a3.2.2.1, a3.2.2.2.1, a3.2.2.2.2.1, a3.2.2.2.2.2, a3.1, t10, Bool.true, w64 (t37 + 1))) else if a3.2.1 = Bool.true then some (Sum.inl (a3.2.2.1, a3.2.2.2.1, a3.2.2.2.2.1, a3.2.2.2.2.2, a3.1, w64 (t10 + 1), b5.Kind == 3, w64 (t37 + 1))) else some (Sum.inl (a3.2.2.1, a3.2.2.2.1, a3.2.2.2.2.1, a3.2.2.2.2.2, a3.1, t10, b5.Kind == 3, w64 (t37 + 1))) else if a3.2.1 = Bool.true then some (Sum.inl (a3.2.2.1, a3.2.2.2.1, a3.2.2.2.2.1, a3.2.2.2.2.2, a3.1, w64 (t10 + 1), Bool.false, w64 (t37 + 1))) else some (Sum.inl (a3.2.2.1, a3.2.2.2.1, a3.2.2.2.2.1, a3.2.2.2.2.2, a3.1, t10, Bool.false, w64 (t37 + 1))) else if t11 = Bool.true then if a3.2.1 = Bool.true then some (Sum.inl (a3.2.2.1, a3.2.2.2.1, a3.2.2.2.2.1, a3.2.2.2.2.2, Bool.false, w64 (t10 + 1), Bool.true, w64 (t37 + 1))) else some (Sum.inl (a3.2.2.1, a3.2.2.2.1, a3.2.2.2.2.1, a3.2.2.2.2.2, Bool.false, t10, Bool.true, w64 (t37 + 1))) else if (!a3.2.1) = Bool.true then if (!a3.1) = Bool.true then if a3.2.1 = Bool.true then some (Sum.inl (a3.2.2.1, a3.2.2.2.1, a3.2.2.2.2.1, a3.2.2.2.2.2, Bool.false, w64 (t10 + 1), Bool.true, w64 (t37 + 1))) else some (Sum.inl (a3.2.2.1, a3.2.2.2.1, a3.2.2.2.2.1, a3.2.2.2.2.2, Bool.false, t10, Bool.true, w64 (t37 + 1))) else if a3.2.1 = Bool.true then some (Sum.inl (a3.2.2.1, a3.2.2.2.1, a3.2.2.2.2.1, a3.2.2.2.2.2, Bool.false, w64 (t10 + 1), b5.Kind == 3, w64 (t37 + 1))) else some (Sum.inl (a3.2.2.1, a3.2.2.2.1, a3.2.2.2.2.1, a3.2.2.2.2.2, Bool.false, t10, b5.Kind == 3, w64 (t37 + 1))) else if a3.2.1 = Bool.true then some (Sum.inl (a3.2.2.1, a3.2.2.2.1, a3.2.2.2.2.1, a3.2.2.2.2.2, Bool.false, w64 (t10 + 1), Bool.false, w64 (t37 + 1))) else some (Sum.inl (a3.2.2.1, a3.2.2.2.1, a3.2.2.2.2.1, a3.2.2.2.2.2, Bool.false, t10, Bool.false, w64 (t37 + 1))) else none else some (Sum.inr (b0, b1, b2, b3, t7, t10, t11))
theorem q4N (rE : Orc) (rF : (qb × qd × List qa × List Int × Int) → Option (Bool × Bool × qd × List qa × List Int × Int)) (hF : ∀ y, rE (.fn 30) 5 (Qm y).1 (Qm y).2 = (rF y).bind fun e => some (QD e)) (hM : ∀ g k a G, g ≠ 30 → rE (.fn g) k a G = ev g k a G) (hR : ∀ g asg bd k a G, rE (.rd g asg bd) k a G = evr g asg bd k a G) : ∀ (b0_Worst b0_Best b0_Pass : Int) (b1 : List qa) (b2 : List Int) (b3 b5_Kind b5_N b5_Min : Int) (b5_Set : List qc) (b5_L : List qb) (t7 : Bool) (t10 : Int) (t11 : Bool) (t35 : List qb) (t36 t37 : Int), XL2 rE 30 5 8 ⟨[(5, rP 4), (6, rP 5), (7, rB t7), (10, rI t10), (11, rB t11), (35, rL 5 qg t35), (36, rI t36), (37, rI t37)], [(0, B.blk 37 [dI b0_Worst, dI b0_Best, dI b0_Pass]), (1, B.blk 32 [dL 8 qf b1]), (2, B.blk 22 [dL 1 eI b2]), (3, B.blk 3 [dI b3]), (4, B.blk 67 [C.fn 30 [] [dP 0, dP 1, dP 2, dP 3, dP 4]]), (5, B.blk 31 [dI b5_Kind, dI b5_N, dI b5_Min, dL 2 qe b5_Set, dL 5 qg b5_L])], 6, 78⟩ = (qN (zY rF (qb.mk b5_Kind b5_N b5_Min b5_Set b5_L) t35 t36) ((qd.mk b0_Worst b0_Best b0_Pass), b1, b2, b3, t7, t10, t11, t37)).bind (fun (e : qd × List qa × List Int × Int × Bool × Int × Bool) => some (Go.Exit.exit 0, ⟨[(6, rP 5), (7, rB e.2.2.2.2.1), (10, rI e.2.2.2.2.2.1), (11, rB e.2.2.2.2.2.2)], [(0, B.blk 37 [dI e.1.Worst, dI e.1.Best, dI e.1.Pass]), (1, B.blk 32 [dL 8 qf e.2.1]), (2, B.blk 22 [dL 1 eI e.2.2.1]), (3, B.blk 3 [dI e.2.2.2.1]), (4, B.blk 67 [C.fn 30 [] [dP 0, dP 1, dP 2, dP 3, dP 4]]), (5, B.blk 31 [dI b5_Kind, dI b5_N, dI b5_Min, dL 2 qe b5_Set, dL 5 qg b5_L])], 6, 78⟩)) :=
  fun b0_Worst b0_Best b0_Pass b1 b2 b3 b5_Kind b5_N b5_Min b5_Set b5_L t7 t10 t11 t35 t36 t37 => by
    have h := q2l (E := rE) (f := 30) (k := 5) (st := fun x : qd × List qa × List Int × Int × Bool × Int × Bool × Int => (⟨[(5, rP 4), (6, rP 5), (7, rB x.2.2.2.2.1), (10, rI x.2.2.2.2.2.1), (11, rB x.2.2.2.2.2.2.1), (35, rL 5 qg t35), (36, rI t36), (37, rI x.2.2.2.2.2.2.2)], [(0, B.blk 37 [dI x.1.Worst, dI x.1.Best, dI x.1.Pass]), (1, B.blk 32 [dL 8 qf x.2.1]), (2, B.blk 22 [dL 1 eI x.2.2.1]), (3, B.blk 3 [dI x.2.2.2.1]), (4, B.blk 67 [C.fn 30 [] [dP 0, dP 1, dP 2, dP 3, dP 4]]), (5, B.blk 31 [dI b5_Kind, dI b5_N, dI b5_Min, dL 2 qe b5_Set, dL 5 qg b5_L])], 6, 78⟩ : S)) (ex := fun (e : qd × List qa × List Int × Int × Bool × Int × Bool) => (Go.Exit.exit 0, ⟨[(6, rP 5), (7, rB e.2.2.2.2.1), (10, rI e.2.2.2.2.2.1), (11, rB e.2.2.2.2.2.2)], [(0, B.blk 37 [dI e.1.Worst, dI e.1.Best, dI e.1.Pass]), (1, B.blk 32 [dL 8 qf e.2.1]), (2, B.blk 22 [dL 1 eI e.2.2.1]), (3, B.blk 3 [dI e.2.2.2.1]), (4, B.blk 67 [C.fn 30 [] [dP 0, dP 1, dP 2, dP 3, dP 4]]), (5, B.blk 31 [dI b5_Kind, dI b5_N, dI b5_Min, dL 2 qe b5_Set, dL 5 qg b5_L])], 6, 78⟩)) (step := (zY rF (qb.mk b5_Kind b5_N b5_Min b5_Set b5_L) t35 t36)) qpu qql (fun e h => by cases h) (fun x => by
      obtain ⟨b0, b1, b2, b3, t7, t10, t11, t37⟩ := x; have hF' : ∀ (x0_Kind x0_N x0_Min : Int) (x0_Set : List qc) (x0_L : List qb) (v_Worst v_Best v_Pass : Int) (v2 : List qa) (v3 : List Int) (v4 : Int), rE (.fn 30) 5 [R.agg [dI x0_Kind, dI x0_N, dI x0_Min, dL 2 qe x0_Set, dL 5 qg x0_L], rP 0, rP 1, rP 2, rP 3, rP 4] [(0, B.blk 37 [dI v_Worst, dI v_Best, dI v_Pass]), (1, B.blk 32 [dL 8 qf v2]), (2, B.blk 22 [dL 1 eI v3]), (3, B.blk 3 [dI v4]), (4, B.blk 67 [C.fn 30 [] [dP 0, dP 1, dP 2, dP 3, dP 4]])] = (rF ((qb.mk x0_Kind x0_N x0_Min x0_Set x0_L), (qd.mk v_Worst v_Best v_Pass), v2, v3, v4)).bind (fun e => some (R.tup [rB e.1, rB e.2.1], [(0, B.blk 37 [dI e.2.2.1.Worst, dI e.2.2.1.Best, dI e.2.2.1.Pass]), (1, B.blk 32 [dL 8 qf e.2.2.2.1]), (2, B.blk 22 [dL 1 eI e.2.2.2.2.1]), (3, B.blk 3 [dI e.2.2.2.2.2]), (4, B.blk 67 [C.fn 30 [] [dP 0, dP 1, dP 2, dP 3, dP 4]])])) := fun x0_Kind x0_N x0_Min x0_Set x0_L v_Worst v_Best v_Pass v2 v3 v4 => hF ((qb.mk x0_Kind x0_N x0_Min x0_Set x0_L), (qd.mk v_Worst v_Best v_Pass), v2, v3, v4)
      have := qvk; have := @qhz.eq_1; have := @zY.eq_1; exact gA) ((qd.mk b0_Worst b0_Best b0_Pass), b1, b2, b3, t7, t10, t11, t37)
    exact h
noncomputable def q0A (fu : Nat) (rF : (qb × qd × List qa × List Int × Int) → Option (Bool × Bool × qd × List qa × List Int × Int)) (b5 : qb) (t35 : List qb) (t36 : Int) : (qd × List qa × List Int × Int × Bool × Int × Bool × Int) → Option ((qd × List qa × List Int × Int × Bool × Int × Bool × Int) ⊕ (qd × List qa × List Int × Int × Bool × Int × Bool)) | (b0, b1, b2, b3, t7, t10, t11, t37) => if t37 < t36 then if 0 ≤ t37 ∧ t37 < ((t35.length : Nat) : Int) then Option.bind t35[Int.toNat t37]? fun (a2 : qb) => Option.bind (rF (a2, (b0, (b1, (b2, b3))))) fun (a3 : Prod Bool (Prod Bool (Prod qd (Prod (List qa) (Prod (List Int) Int))))) => if t7 = Bool.true then if t11 = Bool.true then if a3.2.1 = Bool.true then some (Sum.inl (a3.2.2.1, a3.2.2.2.1, a3.2.2.2.2.1, a3.2.2.2.2.2, a3.1, w64 (t10 + 1), Bool.true, w64 (t37 + 1))) else some (Sum.inl (a3.2.2.1, a3.2.2.2.1, a3.2.2.2.2.1, a3.2.2.2.2.2, a3.1, t10, Bool.true, w64 (t37 + 1))) else if (!a3.2.1) = Bool.true then if (!a3.1) = Bool.true then if a3.2.1 = Bool.true then some (Sum.inl (a3.2.2.1, a3.2.2.2.1, a3.2.2.2.2.1, a3.2.2.2.2.2, a3.1, w64 (t10 + 1), Bool.true, w64 (t37 + 1))) else some (Sum.inl (a3.2.2.1, a3.2.2.2.1, a3.2.2.2.2.1, a3.2.2.2.2.2, a3.1, t10, Bool.true, w64 (t37 + 1))) else if a3.2.1 = Bool.true then some (Sum.inl (a3.2.2.1, a3.2.2.2.1, a3.2.2.2.2.1, a3.2.2.2.2.2, a3.1, w64 (t10 + 1), b5.Kind == 3, w64 (t37 + 1))) else some (Sum.inl (a3.2.2.1, a3.2.2.2.1, a3.2.2.2.2.1, a3.2.2.2.2.2, a3.1, t10, b5.Kind == 3, w64 (t37 + 1))) else if a3.2.1 = Bool.true then some (Sum.inl (a3.2.2.1, a3.2.2.2.1, a3.2.2.2.2.1, a3.2.2.2.2.2, a3.1, w64 (t10 + 1), Bool.false, w64 (t37 + 1))) else some (Sum.inl (a3.2.2.1, a3.2.2.2.1, a3.2.2.2.2.1, a3.2.2.2.2.2, a3.1, t10, Bool.false, w64 (t37 + 1))) else if t11 = Bool.true then if a3.2.1 = Bool.true then some (Sum.inl (a3.2.2.1, a3.2.2.2.1, a3.2.2.2.2.1, a3.2.2.2.2.2, Bool.false, w64 (t10 + 1), Bool.true, w64 (t37 + 1))) else some (Sum.inl (a3.2.2.1, a3.2.2.2.1, a3.2.2.2.2.1, a3.2.2.2.2.2, Bool.false, t10, Bool.true, w64 (t37 + 1))) else if (!a3.2.1) = Bool.true then if (!a3.1) = Bool.true then if a3.2.1 = Bool.true then some (Sum.inl (a3.2.2.1, a3.2.2.2.1, a3.2.2.2.2.1, a3.2.2.2.2.2, Bool.false, w64 (t10 + 1), Bool.true, w64 (t37 + 1))) else some (Sum.inl (a3.2.2.1, a3.2.2.2.1, a3.2.2.2.2.1, a3.2.2.2.2.2, Bool.false, t10, Bool.true, w64 (t37 + 1))) else if a3.2.1 = Bool.true then some (Sum.inl (a3.2.2.1, a3.2.2.2.1, a3.2.2.2.2.1, a3.2.2.2.2.2, Bool.false, w64 (t10 + 1), b5.Kind == 3, w64 (t37 + 1))) else some (Sum.inl (a3.2.2.1, a3.2.2.2.1, a3.2.2.2.2.1, a3.2.2.2.2.2, Bool.false, t10, b5.Kind == 3, w64 (t37 + 1))) else if a3.2.1 = Bool.true then some (Sum.inl (a3.2.2.1, a3.2.2.2.1, a3.2.2.2.2.1, a3.2.2.2.2.2, Bool.false, w64 (t10 + 1), Bool.false, w64 (t37 + 1))) else some (Sum.inl (a3.2.2.1, a3.2.2.2.1, a3.2.2.2.2.1, a3.2.2.2.2.2, Bool.false, t10, Bool.false, w64 (t37 + 1))) else none else some (Sum.inr (b0, b1, b2, b3, t7, t10, t11))
theorem q4F (fu : Nat) (rF rF2 : (qb × qd × List qa × List Int × Int) → Option (Bool × Bool × qd × List qa × List Int × Int)) (hF : ∀ y, qk (rF y) (rF2 y)) (b5 : qb) (t35 : List qb) (t36 : Int) : ∀ x, qk (q0A fu rF b5 t35 t36 x) (zY rF2 b5 t35 t36 x) := by
  rintro ⟨b0, b1, b2, b3, t7, t10, t11, t37⟩
  unfold q0A zY
  try dsimp only
  repeat (first
    | with_reducible exact qk.refl _
    | with_reducible exact qk.none _
    | exact hF _
    | with_reducible refine qk.bind ?_ (fun _ => ?_)
    | with_reducible refine qk.ite ?_ ?_
    | with_reducible refine qk.sum (fun _ => ?_) (fun _ => ?_)
    | with_reducible refine qk.lim (fun _ => ?_))
end Go.Proofs.Ytgejdfnidjnjcaa.Vc
namespace Go.Proofs.Ytgejdfnidjnjcaa.Vc
open Go.RowKit
set_option linter.unusedVariables false
set_option linter.unusedSimpArgs false
set_option maxRecDepth 20000
set_option maxHeartbeats 8000000
set_option linter.defProp false
noncomputable def Qv (rF : (qb × qd × List qa × List Int × Int) → Option (Bool × Bool × qd × List qa × List Int × Int)) : (qb × qd × List qa × List Int × Int) → Option (Bool × Bool × qd × List qa × List Int × Int) | (x0, v, v2, v3, v4) => if Q3 x0 = Bool.true then Option.bind (Zh x0 v v2 v3 v4) fun (a2 : ql) => Option.bind (QO x0.Kind) fun (a3 : Sum Unit Unit) => Sum.elim (fun (a4 : Unit) => some (a2.many == 0, qx a2 x0, v, v2, v3, w64 (v4 + 1))) (fun (a5 : Unit) => some (a2.many == 0, qI a2 x0, v, v2, v3, w64 (v4 + 1))) a3 else Option.bind (qN (zY rF x0 x0.L ((x0.L.length : Nat) : Int)) (v, (v2, (v3, (v4, (Bool.true, (0, (Bool.false, 0)))))))) fun (a6 : Prod qd (Prod (List qa) (Prod (List Int) (Prod Int (Prod Bool (Prod Int Bool)))))) => if (!a6.2.2.2.2.2.2) = Bool.true then some (a6.2.2.2.2.1, decide (x0.N ≤ a6.2.2.2.2.2.1), a6.1, a6.2.1, a6.2.2.1, a6.2.2.2.1) else some (a6.2.2.2.2.1, Bool.false, a6.1, a6.2.1, a6.2.2.1, a6.2.2.2.1)
theorem q2F : q4n 30 5 Qm QD Qv := by
  intro rE rF hF hM hR x
  obtain ⟨x0, v, v2, v3, v4⟩ := x
  show q6K rE 30 5 [R.agg [dI x0.Kind, dI x0.N, dI x0.Min, dL 2 qe x0.Set, dL 5 qg x0.L], rP 0, rP 1, rP 2, rP 3, rP 4] [(0, B.blk 37 [dI v.Worst, dI v.Best, dI v.Pass]), (1, B.blk 32 [dL 8 qf v2]), (2, B.blk 22 [dL 1 eI v3]), (3, B.blk 3 [dI v4]), (4, B.blk 67 [C.fn 30 [] [dP 0, dP 1, dP 2, dP 3, dP 4]])] = _
  have hF' : ∀ (x0_Kind x0_N x0_Min : Int) (x0_Set : List qc) (x0_L : List qb) (v_Worst v_Best v_Pass : Int) (v2 : List qa) (v3 : List Int) (v4 : Int), rE (.fn 30) 5 [R.agg [dI x0_Kind, dI x0_N, dI x0_Min, dL 2 qe x0_Set, dL 5 qg x0_L], rP 0, rP 1, rP 2, rP 3, rP 4] [(0, B.blk 37 [dI v_Worst, dI v_Best, dI v_Pass]), (1, B.blk 32 [dL 8 qf v2]), (2, B.blk 22 [dL 1 eI v3]), (3, B.blk 3 [dI v4]), (4, B.blk 67 [C.fn 30 [] [dP 0, dP 1, dP 2, dP 3, dP 4]])] = (rF ((qb.mk x0_Kind x0_N x0_Min x0_Set x0_L), (qd.mk v_Worst v_Best v_Pass), v2, v3, v4)).bind (fun e => some (R.tup [rB e.1, rB e.2.1], [(0, B.blk 37 [dI e.2.2.1.Worst, dI e.2.2.1.Best, dI e.2.2.1.Pass]), (1, B.blk 32 [dL 8 qf e.2.2.2.1]), (2, B.blk 22 [dL 1 eI e.2.2.2.2.1]), (3, B.blk 3 [dI e.2.2.2.2.2]), (4, B.blk 67 [C.fn 30 [] [dP 0, dP 1, dP 2, dP 3, dP 4]])])) := fun x0_Kind x0_N x0_Min x0_Set x0_L v_Worst v_Best v_Pass v2 v3 v4 => hF ((qb.mk x0_Kind x0_N x0_Min x0_Set x0_L), (qd.mk v_Worst v_Best v_Pass), v2, v3, v4)
  rw [q1p qs2 qvq]
  have := qvk; have := @q0S; have := @q7g; have := @q1z; have := @J7; have := @q0e; have := q4N rE rF hF hM hR; have := @Qv.eq_1; have := @QD.eq_1; exact gA
theorem q0J : ∀ x y, Qm x = Qm y → x = y := by
  rintro ⟨⟨a0_0, a0_1, a0_2, a0_3, a0_4⟩, ⟨a1_0, a1_1, a1_2⟩, a2, a3, a4⟩ ⟨⟨b0_0, b0_1, b0_2, b0_3, b0_4⟩, ⟨b1_0, b1_1, b1_2⟩, b2, b3, b4⟩ h
  simp only [Qm, Prod.mk.injEq, List.cons.injEq, R.c.injEq, R.agg.injEq, R.tup.injEq, C.d.injEq, C.own.injEq, C.ptr.injEq, C.eptr.injEq, D.int.injEq, D.bool.injEq, D.str.injEq, D.sl.injEq, B.blk.injEq, B.row.injEq, ZK, q01, ZN, J6, Jl, q0Z, ZI, q1o, true_and, and_true, List.nil_append] at h
  simp only [h]
theorem q55 : ∀ x y, QD x = QD y → x = y := by
  rintro ⟨a0, a1, ⟨a2_0, a2_1, a2_2⟩, a3, a4, a5⟩ ⟨b0, b1, ⟨b2_0, b2_1, b2_2⟩, b3, b4, b5⟩ h
  simp only [QD, Prod.mk.injEq, List.cons.injEq, R.c.injEq, R.agg.injEq, R.tup.injEq, C.d.injEq, C.own.injEq, C.ptr.injEq, C.eptr.injEq, D.int.injEq, D.bool.injEq, D.str.injEq, D.sl.injEq, B.blk.injEq, B.row.injEq, ZK, q01, ZN, J6, Jl, q0Z, ZI, q1o, true_and, and_true, List.nil_append] at h
  simp only [h]
noncomputable def QL : (qb × qd × List qa × List Int × Int) → Option (Bool × Bool × qd × List qa × List Int × Int) := q4R 30 5 Qm QD
theorem q2z (x : (qb × qd × List qa × List Int × Int)) : QL x = Qv QL x := q8I qtV.2.2.2 q0J q55 q2F x
theorem q6z (x0 : qb) (v : qd) (v2 : List qa) (v3 : List Int) (v4 : Int) : ev 30 5 [R.agg [dI x0.Kind, dI x0.N, dI x0.Min, dL 2 qe x0.Set, dL 5 qg x0.L], rP 0, rP 1, rP 2, rP 3, rP 4] [(0, B.blk 37 [dI v.Worst, dI v.Best, dI v.Pass]), (1, B.blk 32 [dL 8 qf v2]), (2, B.blk 22 [dL 1 eI v3]), (3, B.blk 3 [dI v4]), (4, B.blk 67 [C.fn 30 [] [dP 0, dP 1, dP 2, dP 3, dP 4]])] = (QL (x0, v, v2, v3, v4)).bind (fun (e : Bool × Bool × qd × List qa × List Int × Int) => some (R.tup [rB e.1, rB e.2.1], [(0, B.blk 37 [dI e.2.2.1.Worst, dI e.2.2.1.Best, dI e.2.2.1.Pass]), (1, B.blk 32 [dL 8 qf e.2.2.2.1]), (2, B.blk 22 [dL 1 eI e.2.2.2.2.1]), (3, B.blk 3 [dI e.2.2.2.2.2]), (4, B.blk 67 [C.fn 30 [] [dP 0, dP 1, dP 2, dP 3, dP 4]])])) := (q5b qtV.2.2.2 q0J q2F (x0, v, v2, v3, v4))
theorem q7q : ∀ (x0_Kind x0_N x0_Min : Int) (x0_Set : List qc) (x0_L : List qb) (v_Worst v_Best v_Pass : Int) (v2 : List qa) (v3 : List Int) (v4 : Int), ev 30 5 [R.agg [dI x0_Kind, dI x0_N, dI x0_Min, dL 2 qe x0_Set, dL 5 qg x0_L], rP 0, rP 1, rP 2, rP 3, rP 4] [(0, B.blk 37 [dI v_Worst, dI v_Best, dI v_Pass]), (1, B.blk 32 [dL 8 qf v2]), (2, B.blk 22 [dL 1 eI v3]), (3, B.blk 3 [dI v4]), (4, B.blk 67 [C.fn 30 [] [dP 0, dP 1, dP 2, dP 3, dP 4]])] = (QL ((qb.mk x0_Kind x0_N x0_Min x0_Set x0_L), (qd.mk v_Worst v_Best v_Pass), v2, v3, v4)).bind (fun (e : Bool × Bool × qd × List qa × List Int × Int) => some (R.tup [rB e.1, rB e.2.1], [(0, B.blk 37 [dI e.2.2.1.Worst, dI e.2.2.1.Best, dI e.2.2.1.Pass]), (1, B.blk 32 [dL 8 qf e.2.2.2.1]), (2, B.blk 22 [dL 1 eI e.2.2.2.2.1]), (3, B.blk 3 [dI e.2.2.2.2.2]), (4, B.blk 67 [C.fn 30 [] [dP 0, dP 1, dP 2, dP 3, dP 4]])])) :=
  fun x0_Kind x0_N x0_Min x0_Set x0_L v_Worst v_Best v_Pass v2 v3 v4 => q6z (qb.mk x0_Kind x0_N x0_Min x0_Set x0_L) (qd.mk v_Worst v_Best v_Pass) v2 v3 v4
noncomputable def JI (fu : Nat) (rF : (qb × qd × List qa × List Int × Int) → Option (Bool × Bool × qd × List qa × List Int × Int)) : (qb × qd × List qa × List Int × Int) → Option (Bool × Bool × qd × List qa × List Int × Int) | (x0, v, v2, v3, v4) => if Q3 x0 = Bool.true then Option.bind (q2t fu x0 v v2 v3 v4) fun (a2 : ql) => Option.bind (QO x0.Kind) fun (a3 : Sum Unit Unit) => Sum.elim (fun (a4 : Unit) => some (a2.many == 0, qx a2 x0, v, v2, v3, w64 (v4 + 1))) (fun (a5 : Unit) => some (a2.many == 0, qI a2 x0, v, v2, v3, w64 (v4 + 1))) a3 else Option.bind (itT (q0A fu rF x0 x0.L ((x0.L.length : Nat) : Int)) fu (v, (v2, (v3, (v4, (Bool.true, (0, (Bool.false, 0)))))))) fun (a6 : Prod qd (Prod (List qa) (Prod (List Int) (Prod Int (Prod Bool (Prod Int Bool)))))) => if (!a6.2.2.2.2.2.2) = Bool.true then some (a6.2.2.2.2.1, decide (x0.N ≤ a6.2.2.2.2.2.1), a6.1, a6.2.1, a6.2.2.1, a6.2.2.2.1) else some (a6.2.2.2.2.1, Bool.false, a6.1, a6.2.1, a6.2.2.1, a6.2.2.2.1)
theorem q3v (fu : Nat) (rF rF2 : (qb × qd × List qa × List Int × Int) → Option (Bool × Bool × qd × List qa × List Int × Int)) (hF : ∀ y, qk (rF y) (rF2 y)) : ∀ x, qk (JI fu rF x) (Qv rF2 x) := by
  rintro ⟨x0, v, v2, v3, v4⟩
  unfold JI Qv
  try dsimp only
  repeat (first
    | with_reducible exact qk.refl _
    | with_reducible exact qk.none _
    | exact hF _
    | with_reducible apply q7f
    | (with_reducible refine q4F _ _ _ hF ..)
    | with_reducible refine qk.bind ?_ (fun _ => ?_)
    | with_reducible refine qk.ite ?_ ?_
    | with_reducible refine qk.sum (fun _ => ?_) (fun _ => ?_)
    | with_reducible refine qk.lim (fun _ => ?_))
noncomputable def q5h (fu : Nat) (x : (qb × qd × List qa × List Int × Int)) : Option (Bool × Bool × qd × List qa × List Int × Int) := itR (JI fu) fu x
theorem q7r (fu : Nat) (x : (qb × qd × List qa × List Int × Int)) : qk (q5h fu x) (QL x) := qk.rec q2z (q3v fu) fu x
noncomputable def QQ (n : qb) (s : qd) (l : List qa) (list : List Int) : Option Bool := Option.bind (QI n) fun (a : List qb) => Option.bind (QV n) fun (a2 : Int) => if (a2 != 0) = Bool.true then some Bool.false else if (((list.length : Nat) : Int) != ((l.length : Nat) : Int)) = Bool.true then some Bool.false else Option.bind (qE list ((a.length : Nat) : Int)) fun (a3 : Bool) => if a3 = Bool.true then some Bool.false else Option.bind (QL (n, (s, (l, (list, 0))))) fun (a4 : Prod Bool (Prod Bool (Prod qd (Prod (List qa) (Prod (List Int) Int))))) => some a4.2.1
theorem q4q : ∀ (n_Kind n_N n_Min : Int) (n_Set : List qc) (n_L : List qb) (s_Worst s_Best s_Pass : Int) (l : List qa) (list : List Int), ev 12 0 [R.agg [dI n_Kind, dI n_N, dI n_Min, dL 2 qe n_Set, dL 5 qg n_L], R.agg [dI s_Worst, dI s_Best, dI s_Pass], rL 8 qf l, rL 1 eI list] [] = (QQ (qb.mk n_Kind n_N n_Min n_Set n_L) (qd.mk s_Worst s_Best s_Pass) l list).bind (fun (e : Bool) => some (rB e, [])) :=
  fun n_Kind n_N n_Min n_Set n_L s_Worst s_Best s_Pass l list => by
    rw [qB quC qwa.2.2.2 qxg]
    have := qyh; have := @q0C; have := @q3L; have := @JC; have := @q7q; have := @QQ.eq_1; exact gA
theorem q6f : ∀ (n_Kind n_N n_Min n_L0_Kind n_L0_N n_L0_Min n_L0_Set0_School : Int) (n_L0_Set0_Code : ByteArray) (n_L1_Kind n_L1_N n_L1_Min n_L1_Set0_School : Int) (n_L1_Set0_Code : ByteArray) (n_L1_Set1_School : Int) (n_L1_Set1_Code : ByteArray) (l0_Course_School : Int) (l0_Course_Code : ByteArray) (l0_Credits l0_Grade l0_Day l0_Bundle l1_Course_School : Int) (l1_Course_Code : ByteArray) (l1_Credits l1_Grade l1_Day l1_Bundle l2_Course_School : Int) (l2_Course_Code : ByteArray) (l2_Credits l2_Grade l2_Day l2_Bundle list0 list1 list2 s_Worst s_Best s_Pass : Int), ev 12 0 [R.agg [dI n_Kind, dI n_N, dI n_Min, C.d (D.sl 2 0 []), C.d (D.sl 5 2 [D.int .i64 n_L0_Kind, D.int .i64 n_L0_N, D.int .i64 n_L0_Min, D.sl 2 1 [D.int .i64 n_L0_Set0_School, D.str n_L0_Set0_Code], D.sl 5 0 [], D.int .i64 n_L1_Kind, D.int .i64 n_L1_N, D.int .i64 n_L1_Min, D.sl 2 2 [D.int .i64 n_L1_Set0_School, D.str n_L1_Set0_Code, D.int .i64 n_L1_Set1_School, D.str n_L1_Set1_Code], D.sl 5 0 []])], R.agg [dI s_Worst, dI s_Best, dI s_Pass], R.c (C.d (D.sl 8 3 [D.int .i64 l0_Course_School, D.str l0_Course_Code, D.int .i64 l0_Credits, D.int .i64 l0_Grade, D.int .i64 l0_Day, D.sl 1 0 [], D.int .i64 l0_Bundle, D.sl 1 0 [], D.int .i64 l1_Course_School, D.str l1_Course_Code, D.int .i64 l1_Credits, D.int .i64 l1_Grade, D.int .i64 l1_Day, D.sl 1 0 [], D.int .i64 l1_Bundle, D.sl 1 0 [], D.int .i64 l2_Course_School, D.str l2_Course_Code, D.int .i64 l2_Credits, D.int .i64 l2_Grade, D.int .i64 l2_Day, D.sl 1 0 [], D.int .i64 l2_Bundle, D.sl 1 0 []])), R.c (C.d (D.sl 1 3 [D.int .i64 list0, D.int .i64 list1, D.int .i64 list2]))] [] = (QQ (qb.mk n_Kind n_N n_Min [] [(qb.mk n_L0_Kind n_L0_N n_L0_Min [(qc.mk n_L0_Set0_School n_L0_Set0_Code)] []), (qb.mk n_L1_Kind n_L1_N n_L1_Min [(qc.mk n_L1_Set0_School n_L1_Set0_Code), (qc.mk n_L1_Set1_School n_L1_Set1_Code)] [])]) (qd.mk s_Worst s_Best s_Pass) [(qa.mk (qc.mk l0_Course_School l0_Course_Code) l0_Credits l0_Grade l0_Day [] l0_Bundle []), (qa.mk (qc.mk l1_Course_School l1_Course_Code) l1_Credits l1_Grade l1_Day [] l1_Bundle []), (qa.mk (qc.mk l2_Course_School l2_Course_Code) l2_Credits l2_Grade l2_Day [] l2_Bundle [])] [list0, list1, list2]).bind (fun (e : Bool) => some (rB e, [])) := by
  intro n_Kind n_N n_Min n_L0_Kind n_L0_N n_L0_Min n_L0_Set0_School n_L0_Set0_Code n_L1_Kind n_L1_N n_L1_Min n_L1_Set0_School n_L1_Set0_Code n_L1_Set1_School n_L1_Set1_Code l0_Course_School l0_Course_Code l0_Credits l0_Grade l0_Day l0_Bundle l1_Course_School l1_Course_Code l1_Credits l1_Grade l1_Day l1_Bundle l2_Course_School l2_Course_Code l2_Credits l2_Grade l2_Day l2_Bundle list0 list1 list2 s_Worst s_Best s_Pass; have h := q4q ((qb.mk n_Kind n_N n_Min [] [(qb.mk n_L0_Kind n_L0_N n_L0_Min [(qc.mk n_L0_Set0_School n_L0_Set0_Code)] []), (qb.mk n_L1_Kind n_L1_N n_L1_Min [(qc.mk n_L1_Set0_School n_L1_Set0_Code), (qc.mk n_L1_Set1_School n_L1_Set1_Code)] [])])).Kind ((qb.mk n_Kind n_N n_Min [] [(qb.mk n_L0_Kind n_L0_N n_L0_Min [(qc.mk n_L0_Set0_School n_L0_Set0_Code)] []), (qb.mk n_L1_Kind n_L1_N n_L1_Min [(qc.mk n_L1_Set0_School n_L1_Set0_Code), (qc.mk n_L1_Set1_School n_L1_Set1_Code)] [])])).N ((qb.mk n_Kind n_N n_Min [] [(qb.mk n_L0_Kind n_L0_N n_L0_Min [(qc.mk n_L0_Set0_School n_L0_Set0_Code)] []), (qb.mk n_L1_Kind n_L1_N n_L1_Min [(qc.mk n_L1_Set0_School n_L1_Set0_Code), (qc.mk n_L1_Set1_School n_L1_Set1_Code)] [])])).Min ((qb.mk n_Kind n_N n_Min [] [(qb.mk n_L0_Kind n_L0_N n_L0_Min [(qc.mk n_L0_Set0_School n_L0_Set0_Code)] []), (qb.mk n_L1_Kind n_L1_N n_L1_Min [(qc.mk n_L1_Set0_School n_L1_Set0_Code), (qc.mk n_L1_Set1_School n_L1_Set1_Code)] [])])).Set ((qb.mk n_Kind n_N n_Min [] [(qb.mk n_L0_Kind n_L0_N n_L0_Min [(qc.mk n_L0_Set0_School n_L0_Set0_Code)] []), (qb.mk n_L1_Kind n_L1_N n_L1_Min [(qc.mk n_L1_Set0_School n_L1_Set0_Code), (qc.mk n_L1_Set1_School n_L1_Set1_Code)] [])])).L ((qd.mk s_Worst s_Best s_Pass)).Worst ((qd.mk s_Worst s_Best s_Pass)).Best ((qd.mk s_Worst s_Best s_Pass)).Pass [(qa.mk (qc.mk l0_Course_School l0_Course_Code) l0_Credits l0_Grade l0_Day [] l0_Bundle []), (qa.mk (qc.mk l1_Course_School l1_Course_Code) l1_Credits l1_Grade l1_Day [] l1_Bundle []), (qa.mk (qc.mk l2_Course_School l2_Course_Code) l2_Credits l2_Grade l2_Day [] l2_Bundle [])] [list0, list1, list2]
  first
    | exact h
    | (simp only [rL, dL, bR, bZ, Nat.reduceAdd] at h; exact h)
noncomputable def q2v (fu : Nat) (n : qb) (s : qd) (l : List qa) (list : List Int) : Option Bool := Option.bind (q0P fu n) fun (a : List qb) => Option.bind (q1r fu n) fun (a2 : Int) => if (a2 != 0) = Bool.true then some Bool.false else if (((list.length : Nat) : Int) != ((l.length : Nat) : Int)) = Bool.true then some Bool.false else Option.bind (Qo fu list ((a.length : Nat) : Int)) fun (a3 : Bool) => if a3 = Bool.true then some Bool.false else Option.bind (q5h fu (n, (s, (l, (list, 0))))) fun (a4 : Prod Bool (Prod Bool (Prod qd (Prod (List qa) (Prod (List Int) Int))))) => some a4.2.1
theorem q9b (fu : Nat) (n : qb) (s : qd) (l : List qa) (list : List Int) : qk (q2v fu n s l list) (QQ n s l list) := by
  unfold q2v QQ
  repeat (first
    | with_reducible exact qk.refl _
    | with_reducible exact qk.none _
    | with_reducible apply q2H
    | with_reducible apply q3g
    | with_reducible apply JD
    | with_reducible apply q7r
    | with_reducible refine qk.bind ?_ (fun _ => ?_)
    | with_reducible refine qk.ite ?_ ?_
    | with_reducible refine qk.sum (fun _ => ?_) (fun _ => ?_)
    | with_reducible refine qk.lim (fun _ => ?_))
theorem qsQ : okL 18 qaZ := qA (qi qoa) (by kernel_rfl) (by kernel_rfl)
def quu := JA_ @qaZ.eq_1 (JA_ @Try.f18.eq_1 @qoa)
theorem qqN : lbO 18 6 = qgM := Qd (qi qoa) rfl
theorem qp8 : okL 18 qgM := zd qsQ (List.mem_of_getElem? (i := 0) (by kernel_rfl))
theorem qlI : lbO 18 10 = qc0 := Qd (qi qoa) rfl
theorem qmo : okL 18 qc0 := zd qsQ (List.mem_of_getElem? (i := 1) (by kernel_rfl))
noncomputable def Jj (want : List Int) (set0 : Int) (ok : Bool) (t34 : List Bool) (t35 : Int) (t36 : Int) (t41 : List Int) (t42 : Int) : (Bool × Int) → Option ((Bool × Int) ⊕ Bool) | (in0, t43) => if t43 < t42 then if 0 ≤ t43 ∧ t43 < ((t41.length : Nat) : Int) then Option.bind t41[Int.toNat t43]? fun (a : Int) => if in0 = Bool.true then some (Sum.inl (Bool.true, w64 (t43 + 1))) else some (Sum.inl (a == set0, w64 (t43 + 1))) else none else some (Sum.inr in0)
theorem q50 : ∀ (want : List Int) (set0 : Int) (ok in0 : Bool) (t34 : List Bool) (t35 t36 : Int) (t41 : List Int) (t42 t43 : Int), XL2 evo 18 0 10 ⟨[(1, rL 1 eI want), (10, rI set0), (11, rB ok), (12, rB in0), (34, rL 1 eB t34), (35, rI t35), (36, rI t36), (41, rL 1 eI t41), (42, rI t42), (43, rI t43)], [], 0, 58⟩ = (qN (Jj want set0 ok t34 t35 t36 t41 t42) (in0, t43)).bind (fun (e : Bool) => some (Go.Exit.exit 2, ⟨[(1, rL 1 eI want), (11, rB ok), (12, rB e), (34, rL 1 eB t34), (35, rI t35), (36, rI t36)], [], 0, 58⟩)) :=
  fun want set0 ok in0 t34 t35 t36 t41 t42 t43 => by
    revert t43; revert in0; exact q8L qlI qmo (fun e => by exact ⟨_, rfl, fun h => by cases h⟩) fun in0 t43 => by
      have := quu; have := @qc0.eq_1; have := @Jj.eq_1; exact gA
noncomputable def ZM (want : List Int) (t34 : List Bool) (t35 : Int) : Int → Option (Int ⊕ (Unit ⊕ Unit)) | t36 => if t36 < t35 then if 0 ≤ t36 ∧ t36 < ((t34.length : Nat) : Int) then Option.bind t34[Int.toNat t36]? fun (a : Bool) => Option.bind (qN (Jj want t36 a t34 t35 t36 want ((want.length : Nat) : Int)) (Bool.false, 0)) fun (a2 : Bool) => if (!(a == a2)) = Bool.true then some (Sum.inr (Sum.inl ())) else some (Sum.inl (w64 (t36 + 1))) else none else some (Sum.inr (Sum.inr ()))
theorem q69 : ∀ (want : List Int) (t34 : List Bool) (t35 t36 : Int), XL2 evo 18 0 6 ⟨[(1, rL 1 eI want), (34, rL 1 eB t34), (35, rI t35), (36, rI t36)], [], 0, 58⟩ = (qN (ZM want t34 t35) t36).bind (Sum.elim (fun (e : Unit) => some (Go.Exit.ret, ⟨[(4, rB Bool.false)], [], 0, 58⟩)) (fun (e : Unit) => some (Go.Exit.exit 0, ⟨[(4, R.any)], [], 0, 58⟩))) :=
  fun want t34 t35 t36 => by
    revert t36; exact qbx qqN qp8 (fun e => by rcases e with _ | _ <;> exact ⟨_, rfl, fun h => by cases h⟩) fun x => by
      have := quu; have := @qgM.eq_1; have := @q50; have := @ZM.eq_1; exact gA
noncomputable def q15 (fu : Nat) (want : List Int) (t34 : List Bool) (t35 : Int) : Int → Option (Int ⊕ (Unit ⊕ Unit)) | t36 => if t36 < t35 then if 0 ≤ t36 ∧ t36 < ((t34.length : Nat) : Int) then Option.bind t34[Int.toNat t36]? fun (a : Bool) => Option.bind (itT (Jj want t36 a t34 t35 t36 want ((want.length : Nat) : Int)) fu (Bool.false, 0)) fun (a2 : Bool) => if (!(a == a2)) = Bool.true then some (Sum.inr (Sum.inl ())) else some (Sum.inl (w64 (t36 + 1))) else none else some (Sum.inr (Sum.inr ()))
theorem q5s (fu : Nat) (want : List Int) (t34 : List Bool) (t35 : Int) : ∀ x, qk (q15 fu want t34 t35 x) (ZM want t34 t35 x) := by
  rintro t36
  unfold q15 ZM
  try dsimp only
  repeat (first
    | with_reducible exact qk.refl _
    | with_reducible exact qk.none _
    | with_reducible refine qk.bind ?_ (fun _ => ?_)
    | with_reducible refine qk.ite ?_ ?_
    | with_reducible refine qk.sum (fun _ => ?_) (fun _ => ?_)
    | with_reducible refine qk.lim (fun _ => ?_))
noncomputable def Qc (n : qb) (want : List Int) : Option Bool := Option.bind (Zc n (qq 1) [qa.mk (qc.mk 1 (ByteArray.mk (List.toArray [65, 49]))) 5 60 0 [] 0 [], qa.mk (qc.mk 1 (ByteArray.mk (List.toArray [66, 49]))) 6 90 0 [] 0 [], qa.mk (qc.mk 1 (ByteArray.mk (List.toArray [65, 49]))) 5 40 0 [] 0 []]) fun (a : Prod (List Bool) Int) => if (a.2 != 0) = Bool.true then some Bool.false else if (((a.1.length : Nat) : Int) != 8) = Bool.true then some Bool.false else Option.bind (qN (ZM want a.1 ((a.1.length : Nat) : Int)) 0) fun (a2 : Sum Unit Unit) => Sum.elim (fun (a3 : Unit) => some Bool.false) (fun (a4 : Unit) => some Bool.true) a2
theorem JO : ∀ (n_Kind n_N n_Min : Int) (n_Set : List qc) (n_L : List qb) (want : List Int), ev 18 0 [R.agg [dI n_Kind, dI n_N, dI n_Min, dL 2 qe n_Set, dL 5 qg n_L], rL 1 eI want] [] = (Qc (qb.mk n_Kind n_N n_Min n_Set n_L) want).bind (fun (e : Bool) => some (rB e, [])) :=
  fun n_Kind n_N n_Min n_Set n_L want => by
    rw [qB qoa qwy.2.2.2 qsQ]
    have := quu; have := @q1n; have := @q24; have := @q7h; have := @q69; have := @Qc.eq_1; exact gA
theorem q5S : ∀ (n_Kind n_N n_Min n_Set0_School : Int) (n_Set0_Code : ByteArray) (want0 : Int) , ev 18 0 [R.agg [dI n_Kind, dI n_N, dI n_Min, C.d (D.sl 2 1 [D.int .i64 n_Set0_School, D.str n_Set0_Code]), C.d (D.sl 5 0 [])], R.c (C.d (D.sl 1 1 [D.int .i64 want0]))] [] = (Qc (qb.mk n_Kind n_N n_Min [(qc.mk n_Set0_School n_Set0_Code)] []) [want0]).bind (fun (e : Bool) => some (rB e, [])) := by
  intro n_Kind n_N n_Min n_Set0_School n_Set0_Code want0; have h := JO ((qb.mk n_Kind n_N n_Min [(qc.mk n_Set0_School n_Set0_Code)] [])).Kind ((qb.mk n_Kind n_N n_Min [(qc.mk n_Set0_School n_Set0_Code)] [])).N ((qb.mk n_Kind n_N n_Min [(qc.mk n_Set0_School n_Set0_Code)] [])).Min ((qb.mk n_Kind n_N n_Min [(qc.mk n_Set0_School n_Set0_Code)] [])).Set ((qb.mk n_Kind n_N n_Min [(qc.mk n_Set0_School n_Set0_Code)] [])).L [want0]
  first
    | exact h
    | (simp only [rL, dL, bR, bZ, Nat.reduceAdd] at h; exact h)
theorem q6c : ∀ (n_Kind n_N n_Min n_Set0_School : Int) (n_Set0_Code : ByteArray) (n_Set1_School : Int) (n_Set1_Code : ByteArray) (want0 want1 want2 want3 : Int) , ev 18 0 [R.agg [dI n_Kind, dI n_N, dI n_Min, C.d (D.sl 2 2 [D.int .i64 n_Set0_School, D.str n_Set0_Code, D.int .i64 n_Set1_School, D.str n_Set1_Code]), C.d (D.sl 5 0 [])], R.c (C.d (D.sl 1 4 [D.int .i64 want0, D.int .i64 want1, D.int .i64 want2, D.int .i64 want3]))] [] = (Qc (qb.mk n_Kind n_N n_Min [(qc.mk n_Set0_School n_Set0_Code), (qc.mk n_Set1_School n_Set1_Code)] []) [want0, want1, want2, want3]).bind (fun (e : Bool) => some (rB e, [])) := by
  intro n_Kind n_N n_Min n_Set0_School n_Set0_Code n_Set1_School n_Set1_Code want0 want1 want2 want3; have h := JO ((qb.mk n_Kind n_N n_Min [(qc.mk n_Set0_School n_Set0_Code), (qc.mk n_Set1_School n_Set1_Code)] [])).Kind ((qb.mk n_Kind n_N n_Min [(qc.mk n_Set0_School n_Set0_Code), (qc.mk n_Set1_School n_Set1_Code)] [])).N ((qb.mk n_Kind n_N n_Min [(qc.mk n_Set0_School n_Set0_Code), (qc.mk n_Set1_School n_Set1_Code)] [])).Min ((qb.mk n_Kind n_N n_Min [(qc.mk n_Set0_School n_Set0_Code), (qc.mk n_Set1_School n_Set1_Code)] [])).Set ((qb.mk n_Kind n_N n_Min [(qc.mk n_Set0_School n_Set0_Code), (qc.mk n_Set1_School n_Set1_Code)] [])).L [want0, want1, want2, want3]
  first
    | exact h
    | (simp only [rL, dL, bR, bZ, Nat.reduceAdd] at h; exact h)
theorem q5H : ∀ (n_Kind n_N n_Min n_L0_Kind n_L0_N n_L0_Min n_L0_Set0_School : Int) (n_L0_Set0_Code : ByteArray) (n_L1_Kind n_L1_N n_L1_Min n_L1_Set0_School : Int) (n_L1_Set0_Code : ByteArray) (n_L1_Set1_School : Int) (n_L1_Set1_Code : ByteArray) (want0 : Int) , ev 18 0 [R.agg [dI n_Kind, dI n_N, dI n_Min, C.d (D.sl 2 0 []), C.d (D.sl 5 2 [D.int .i64 n_L0_Kind, D.int .i64 n_L0_N, D.int .i64 n_L0_Min, D.sl 2 1 [D.int .i64 n_L0_Set0_School, D.str n_L0_Set0_Code], D.sl 5 0 [], D.int .i64 n_L1_Kind, D.int .i64 n_L1_N, D.int .i64 n_L1_Min, D.sl 2 2 [D.int .i64 n_L1_Set0_School, D.str n_L1_Set0_Code, D.int .i64 n_L1_Set1_School, D.str n_L1_Set1_Code], D.sl 5 0 []])], R.c (C.d (D.sl 1 1 [D.int .i64 want0]))] [] = (Qc (qb.mk n_Kind n_N n_Min [] [(qb.mk n_L0_Kind n_L0_N n_L0_Min [(qc.mk n_L0_Set0_School n_L0_Set0_Code)] []), (qb.mk n_L1_Kind n_L1_N n_L1_Min [(qc.mk n_L1_Set0_School n_L1_Set0_Code), (qc.mk n_L1_Set1_School n_L1_Set1_Code)] [])]) [want0]).bind (fun (e : Bool) => some (rB e, [])) := by
  intro n_Kind n_N n_Min n_L0_Kind n_L0_N n_L0_Min n_L0_Set0_School n_L0_Set0_Code n_L1_Kind n_L1_N n_L1_Min n_L1_Set0_School n_L1_Set0_Code n_L1_Set1_School n_L1_Set1_Code want0; have h := JO ((qb.mk n_Kind n_N n_Min [] [(qb.mk n_L0_Kind n_L0_N n_L0_Min [(qc.mk n_L0_Set0_School n_L0_Set0_Code)] []), (qb.mk n_L1_Kind n_L1_N n_L1_Min [(qc.mk n_L1_Set0_School n_L1_Set0_Code), (qc.mk n_L1_Set1_School n_L1_Set1_Code)] [])])).Kind ((qb.mk n_Kind n_N n_Min [] [(qb.mk n_L0_Kind n_L0_N n_L0_Min [(qc.mk n_L0_Set0_School n_L0_Set0_Code)] []), (qb.mk n_L1_Kind n_L1_N n_L1_Min [(qc.mk n_L1_Set0_School n_L1_Set0_Code), (qc.mk n_L1_Set1_School n_L1_Set1_Code)] [])])).N ((qb.mk n_Kind n_N n_Min [] [(qb.mk n_L0_Kind n_L0_N n_L0_Min [(qc.mk n_L0_Set0_School n_L0_Set0_Code)] []), (qb.mk n_L1_Kind n_L1_N n_L1_Min [(qc.mk n_L1_Set0_School n_L1_Set0_Code), (qc.mk n_L1_Set1_School n_L1_Set1_Code)] [])])).Min ((qb.mk n_Kind n_N n_Min [] [(qb.mk n_L0_Kind n_L0_N n_L0_Min [(qc.mk n_L0_Set0_School n_L0_Set0_Code)] []), (qb.mk n_L1_Kind n_L1_N n_L1_Min [(qc.mk n_L1_Set0_School n_L1_Set0_Code), (qc.mk n_L1_Set1_School n_L1_Set1_Code)] [])])).Set ((qb.mk n_Kind n_N n_Min [] [(qb.mk n_L0_Kind n_L0_N n_L0_Min [(qc.mk n_L0_Set0_School n_L0_Set0_Code)] []), (qb.mk n_L1_Kind n_L1_N n_L1_Min [(qc.mk n_L1_Set0_School n_L1_Set0_Code), (qc.mk n_L1_Set1_School n_L1_Set1_Code)] [])])).L [want0]
  first
    | exact h
    | (simp only [rL, dL, bR, bZ, Nat.reduceAdd] at h; exact h)
theorem q5J : ∀ (n_Kind n_N n_Min n_L0_Kind n_L0_N n_L0_Min n_L0_Set0_School : Int) (n_L0_Set0_Code : ByteArray) (n_L1_Kind n_L1_N n_L1_Min n_L1_Set0_School : Int) (n_L1_Set0_Code : ByteArray) (n_L1_Set1_School : Int) (n_L1_Set1_Code : ByteArray) (want0 want1 want2 want3 want4 : Int) , ev 18 0 [R.agg [dI n_Kind, dI n_N, dI n_Min, C.d (D.sl 2 0 []), C.d (D.sl 5 2 [D.int .i64 n_L0_Kind, D.int .i64 n_L0_N, D.int .i64 n_L0_Min, D.sl 2 1 [D.int .i64 n_L0_Set0_School, D.str n_L0_Set0_Code], D.sl 5 0 [], D.int .i64 n_L1_Kind, D.int .i64 n_L1_N, D.int .i64 n_L1_Min, D.sl 2 2 [D.int .i64 n_L1_Set0_School, D.str n_L1_Set0_Code, D.int .i64 n_L1_Set1_School, D.str n_L1_Set1_Code], D.sl 5 0 []])], R.c (C.d (D.sl 1 5 [D.int .i64 want0, D.int .i64 want1, D.int .i64 want2, D.int .i64 want3, D.int .i64 want4]))] [] = (Qc (qb.mk n_Kind n_N n_Min [] [(qb.mk n_L0_Kind n_L0_N n_L0_Min [(qc.mk n_L0_Set0_School n_L0_Set0_Code)] []), (qb.mk n_L1_Kind n_L1_N n_L1_Min [(qc.mk n_L1_Set0_School n_L1_Set0_Code), (qc.mk n_L1_Set1_School n_L1_Set1_Code)] [])]) [want0, want1, want2, want3, want4]).bind (fun (e : Bool) => some (rB e, [])) := by
  intro n_Kind n_N n_Min n_L0_Kind n_L0_N n_L0_Min n_L0_Set0_School n_L0_Set0_Code n_L1_Kind n_L1_N n_L1_Min n_L1_Set0_School n_L1_Set0_Code n_L1_Set1_School n_L1_Set1_Code want0 want1 want2 want3 want4; have h := JO ((qb.mk n_Kind n_N n_Min [] [(qb.mk n_L0_Kind n_L0_N n_L0_Min [(qc.mk n_L0_Set0_School n_L0_Set0_Code)] []), (qb.mk n_L1_Kind n_L1_N n_L1_Min [(qc.mk n_L1_Set0_School n_L1_Set0_Code), (qc.mk n_L1_Set1_School n_L1_Set1_Code)] [])])).Kind ((qb.mk n_Kind n_N n_Min [] [(qb.mk n_L0_Kind n_L0_N n_L0_Min [(qc.mk n_L0_Set0_School n_L0_Set0_Code)] []), (qb.mk n_L1_Kind n_L1_N n_L1_Min [(qc.mk n_L1_Set0_School n_L1_Set0_Code), (qc.mk n_L1_Set1_School n_L1_Set1_Code)] [])])).N ((qb.mk n_Kind n_N n_Min [] [(qb.mk n_L0_Kind n_L0_N n_L0_Min [(qc.mk n_L0_Set0_School n_L0_Set0_Code)] []), (qb.mk n_L1_Kind n_L1_N n_L1_Min [(qc.mk n_L1_Set0_School n_L1_Set0_Code), (qc.mk n_L1_Set1_School n_L1_Set1_Code)] [])])).Min ((qb.mk n_Kind n_N n_Min [] [(qb.mk n_L0_Kind n_L0_N n_L0_Min [(qc.mk n_L0_Set0_School n_L0_Set0_Code)] []), (qb.mk n_L1_Kind n_L1_N n_L1_Min [(qc.mk n_L1_Set0_School n_L1_Set0_Code), (qc.mk n_L1_Set1_School n_L1_Set1_Code)] [])])).Set ((qb.mk n_Kind n_N n_Min [] [(qb.mk n_L0_Kind n_L0_N n_L0_Min [(qc.mk n_L0_Set0_School n_L0_Set0_Code)] []), (qb.mk n_L1_Kind n_L1_N n_L1_Min [(qc.mk n_L1_Set0_School n_L1_Set0_Code), (qc.mk n_L1_Set1_School n_L1_Set1_Code)] [])])).L [want0, want1, want2, want3, want4]
  first
    | exact h
    | (simp only [rL, dL, bR, bZ, Nat.reduceAdd] at h; exact h)
noncomputable def Jy (fu : Nat) (n : qb) (want : List Int) : Option Bool := Option.bind (q44 fu n (qq 1) [qa.mk (qc.mk 1 (ByteArray.mk (List.toArray [65, 49]))) 5 60 0 [] 0 [], qa.mk (qc.mk 1 (ByteArray.mk (List.toArray [66, 49]))) 6 90 0 [] 0 [], qa.mk (qc.mk 1 (ByteArray.mk (List.toArray [65, 49]))) 5 40 0 [] 0 []]) fun (a : Prod (List Bool) Int) => if (a.2 != 0) = Bool.true then some Bool.false else if (((a.1.length : Nat) : Int) != 8) = Bool.true then some Bool.false else Option.bind (itT (q15 fu want a.1 ((a.1.length : Nat) : Int)) fu 0) fun (a2 : Sum Unit Unit) => Sum.elim (fun (a3 : Unit) => some Bool.false) (fun (a4 : Unit) => some Bool.true) a2
theorem q8p (fu : Nat) (n : qb) (want : List Int) : qk (Jy fu n want) (Qc n want) := by
  unfold Jy Qc
  repeat (first
    | with_reducible exact qk.refl _
    | with_reducible exact qk.none _
    | with_reducible apply q6a
    | with_reducible apply q5s
    | with_reducible refine qk.bind ?_ (fun _ => ?_)
    | with_reducible refine qk.ite ?_ ?_
    | with_reducible refine qk.sum (fun _ => ?_) (fun _ => ?_)
    | with_reducible refine qk.lim (fun _ => ?_))
theorem qvg : okL 15 qd9 := qA (qi qsg) (by kernel_rfl) (by kernel_rfl)
def qwj := JA_ @qd9.eq_1 (JA_ @Try.f15.eq_1 @qsg)
theorem qoJ : lbO 15 4 = qfL := Qd (qi qsg) rfl
theorem qrp : okL 15 qfL := zd qvg (List.mem_of_getElem? (i := 0) (by kernel_rfl))
noncomputable def Q1 (a : List Int) (b : List Int) : Int → Option (Int ⊕ (Unit ⊕ Unit)) | k => if k < ((a.length : Nat) : Int) then if 0 ≤ k ∧ k < ((a.length : Nat) : Int) then Option.bind a[Int.toNat k]? fun (a2 : Int) => if 0 ≤ k ∧ k < ((b.length : Nat) : Int) then Option.bind b[Int.toNat k]? fun (a3 : Int) => if (a2 != a3) = Bool.true then some (Sum.inr (Sum.inl ())) else some (Sum.inl (w64 (k + 1))) else none else none else some (Sum.inr (Sum.inr ()))
theorem q2Y : ∀ (a b : List Int) (k : Int), XL2 evo 15 0 4 ⟨[(0, rL 1 eI a), (1, rL 1 eI b), (5, rI k)], [], 0, 26⟩ = (qN (Q1 a b) k).bind (Sum.elim (fun (e : Unit) => some (Go.Exit.ret, ⟨[(4, rB Bool.false)], [], 0, 26⟩)) (fun (e : Unit) => some (Go.Exit.exit 0, ⟨[(4, R.any)], [], 0, 26⟩))) :=
  fun a b k => by
    revert k; exact qbx qoJ qrp (fun e => by rcases e with _ | _ <;> exact ⟨_, rfl, fun h => by cases h⟩) fun x => by
      have := qwj; have := @qfL.eq_1; have := @Q1.eq_1; exact gA
noncomputable def ze (a : List Int) (b : List Int) : Option Bool := if (((a.length : Nat) : Int) != ((b.length : Nat) : Int)) = Bool.true then some Bool.false else Option.bind (qN (Q1 a b) 0) fun (a2 : Sum Unit Unit) => Sum.elim (fun (a3 : Unit) => some Bool.false) (fun (a4 : Unit) => some Bool.true) a2
theorem Jo : ∀ (a b : List Int), ev 15 0 [rL 1 eI a, rL 1 eI b] [] = (ze a b).bind (fun (e : Bool) => some (rB e, [])) :=
  fun a b => by
    rw [qB qsg qw3.2.2.2 qvg]
    have := qwj; have := @q2Y; have := @ze.eq_1; exact gA
theorem q2W : ∀ (b0 b1 b2 : Int) (a : List Int), ev 15 0 [rL 1 eI a, R.c (C.d (D.sl 1 3 [D.int .i64 b0, D.int .i64 b1, D.int .i64 b2]))] [] = (ze a [b0, b1, b2]).bind (fun (e : Bool) => some (rB e, [])) := by
  intro b0 b1 b2 a; have h := Jo a [b0, b1, b2]
  first
    | exact h
    | (simp only [rL, dL, bR, bZ, Nat.reduceAdd] at h; exact h)
theorem q2Z : ∀ (b0 b1 : Int) (a : List Int), ev 15 0 [rL 1 eI a, R.c (C.d (D.sl 1 2 [D.int .i64 b0, D.int .i64 b1]))] [] = (ze a [b0, b1]).bind (fun (e : Bool) => some (rB e, [])) := by
  intro b0 b1 a; have h := Jo a [b0, b1]
  first
    | exact h
    | (simp only [rL, dL, bR, bZ, Nat.reduceAdd] at h; exact h)
noncomputable def Jf (fu : Nat) (a : List Int) (b : List Int) : Option Bool := if (((a.length : Nat) : Int) != ((b.length : Nat) : Int)) = Bool.true then some Bool.false else Option.bind (itT (Q1 a b) fu 0) fun (a2 : Sum Unit Unit) => Sum.elim (fun (a3 : Unit) => some Bool.false) (fun (a4 : Unit) => some Bool.true) a2
theorem q57 (fu : Nat) (a b : List Int) : qk (Jf fu a b) (ze a b) := by
  unfold Jf ze
  repeat (first
    | with_reducible exact qk.refl _
    | with_reducible exact qk.none _
    | with_reducible refine qk.bind ?_ (fun _ => ?_)
    | with_reducible refine qk.ite ?_ ?_
    | with_reducible refine qk.sum (fun _ => ?_) (fun _ => ?_)
    | with_reducible refine qk.lim (fun _ => ?_))
noncomputable def ZE : Option Bool := Option.bind (Qa (qb.mk 4 1 0 [] [qb.mk 1 0 50 [qc.mk 1 (ByteArray.mk (List.toArray [65, 49]))] [], qb.mk 2 10 0 [qc.mk 1 (ByteArray.mk (List.toArray [65, 49])), qc.mk 1 (ByteArray.mk (List.toArray [66, 49]))] []]) (qq 1) [qa.mk (qc.mk 1 (ByteArray.mk (List.toArray [65, 49]))) 5 60 0 [] 0 [], qa.mk (qc.mk 1 (ByteArray.mk (List.toArray [66, 49]))) 6 90 0 [] 0 [], qa.mk (qc.mk 1 (ByteArray.mk (List.toArray [65, 49]))) 5 40 0 [] 0 []] 7) fun (a : Prod (List Int) Bool) => Option.bind (Qa (qb.mk 4 1 0 [] [qb.mk 1 0 50 [qc.mk 1 (ByteArray.mk (List.toArray [65, 49]))] [], qb.mk 2 10 0 [qc.mk 1 (ByteArray.mk (List.toArray [65, 49])), qc.mk 1 (ByteArray.mk (List.toArray [66, 49]))] []]) (qq 1) [qa.mk (qc.mk 1 (ByteArray.mk (List.toArray [65, 49]))) 5 60 0 [] 0 [], qa.mk (qc.mk 1 (ByteArray.mk (List.toArray [66, 49]))) 6 90 0 [] 0 [], qa.mk (qc.mk 1 (ByteArray.mk (List.toArray [65, 49]))) 5 40 0 [] 0 []] 3) fun (a2 : Prod (List Int) Bool) => Option.bind (Qa (qb.mk 3 0 0 [] [qb.mk 1 0 50 [qc.mk 1 (ByteArray.mk (List.toArray [65, 49]))] [], qb.mk 2 10 0 [qc.mk 1 (ByteArray.mk (List.toArray [65, 49])), qc.mk 1 (ByteArray.mk (List.toArray [66, 49]))] []]) (qq 1) [qa.mk (qc.mk 1 (ByteArray.mk (List.toArray [65, 49]))) 5 60 0 [] 0 [], qa.mk (qc.mk 1 (ByteArray.mk (List.toArray [66, 49]))) 6 90 0 [] 0 [], qa.mk (qc.mk 1 (ByteArray.mk (List.toArray [65, 49]))) 5 40 0 [] 0 []] 3) fun (a3 : Prod (List Int) Bool) => Option.bind (QS (qb.mk 1 0 50 [qc.mk 1 (ByteArray.mk (List.toArray [65, 49]))] []) (qq 1) (qa.mk (qc.mk 1 (ByteArray.mk (List.toArray [65, 49]))) 5 60 0 [] 0 [])) fun (a4 : Bool) => if a4 = Bool.true then Option.bind (QS (qb.mk 1 0 50 [qc.mk 1 (ByteArray.mk (List.toArray [65, 49]))] []) (qq 1) (qa.mk (qc.mk 1 (ByteArray.mk (List.toArray [66, 49]))) 6 90 0 [] 0 [])) fun (a5 : Bool) => if (!a5) = Bool.true then Option.bind (QS (qb.mk 1 0 50 [qc.mk 1 (ByteArray.mk (List.toArray [65, 49]))] []) (qq 1) (qa.mk (qc.mk 1 (ByteArray.mk (List.toArray [65, 49]))) 5 40 0 [] 0 [])) fun (a6 : Bool) => if (!a6) = Bool.true then Option.bind (QQ (qb.mk 4 1 0 [] [qb.mk 1 0 50 [qc.mk 1 (ByteArray.mk (List.toArray [65, 49]))] [], qb.mk 2 10 0 [qc.mk 1 (ByteArray.mk (List.toArray [65, 49])), qc.mk 1 (ByteArray.mk (List.toArray [66, 49]))] []]) (qq 1) [qa.mk (qc.mk 1 (ByteArray.mk (List.toArray [65, 49]))) 5 60 0 [] 0 [], qa.mk (qc.mk 1 (ByteArray.mk (List.toArray [66, 49]))) 6 90 0 [] 0 [], qa.mk (qc.mk 1 (ByteArray.mk (List.toArray [65, 49]))) 5 40 0 [] 0 []] [(0 : Int), (-1), (-1)]) fun (a7 : Bool) => if a7 = Bool.true then Option.bind (QQ (qb.mk 4 1 0 [] [qb.mk 1 0 50 [qc.mk 1 (ByteArray.mk (List.toArray [65, 49]))] [], qb.mk 2 10 0 [qc.mk 1 (ByteArray.mk (List.toArray [65, 49])), qc.mk 1 (ByteArray.mk (List.toArray [66, 49]))] []]) (qq 1) [qa.mk (qc.mk 1 (ByteArray.mk (List.toArray [65, 49]))) 5 60 0 [] 0 [], qa.mk (qc.mk 1 (ByteArray.mk (List.toArray [66, 49]))) 6 90 0 [] 0 [], qa.mk (qc.mk 1 (ByteArray.mk (List.toArray [65, 49]))) 5 40 0 [] 0 []] [(0 : Int), 1, (-1)]) fun (a8 : Bool) => if (!a8) = Bool.true then Option.bind (Qc (qb.mk 1 0 50 [qc.mk 1 (ByteArray.mk (List.toArray [65, 49]))] []) [(1 : Int)]) fun (a9 : Bool) => if a9 = Bool.true then Option.bind (Qc (qb.mk 2 10 0 [qc.mk 1 (ByteArray.mk (List.toArray [65, 49])), qc.mk 1 (ByteArray.mk (List.toArray [66, 49]))] []) [(3 : Int), 5, 6, 7]) fun (a10 : Bool) => if a10 = Bool.true then Option.bind (Qc (qb.mk 3 0 0 [] [qb.mk 1 0 50 [qc.mk 1 (ByteArray.mk (List.toArray [65, 49]))] [], qb.mk 2 10 0 [qc.mk 1 (ByteArray.mk (List.toArray [65, 49])), qc.mk 1 (ByteArray.mk (List.toArray [66, 49]))] []]) [(7 : Int)]) fun (a11 : Bool) => if a11 = Bool.true then Option.bind (Qc (qb.mk 4 1 0 [] [qb.mk 1 0 50 [qc.mk 1 (ByteArray.mk (List.toArray [65, 49]))] [], qb.mk 2 10 0 [qc.mk 1 (ByteArray.mk (List.toArray [65, 49])), qc.mk 1 (ByteArray.mk (List.toArray [66, 49]))] []]) [(1 : Int), 3, 5, 6, 7]) fun (a12 : Bool) => if a12 = Bool.true then if a.2 = Bool.true then if a2.2 = Bool.true then if (!a3.2) = Bool.true then Option.bind (ze a.1 [(0 : Int), 1, 1]) fun (a13 : Bool) => if a13 = Bool.true then Option.bind (ze a2.1 [(1 : Int), 1]) fun (e0 : Bool) => some e0 else some Bool.false else some Bool.false else some Bool.false else some Bool.false else some Bool.false else some Bool.false else some Bool.false else some Bool.false else some Bool.false else some Bool.false else some Bool.false else some Bool.false else some Bool.false
theorem q6l : ev 6 0 [] [] = (ZE).bind (fun (e : Bool) => some (rB e, [])) :=
  by
    rw [qB bd6 pw6.2.2.2 lo6]
    have := cx6; have := @q1n; have := @q24; have := @q5l; have := @q7E; have := @q6f; have := @q5S; have := @q6c; have := @q5H; have := @q5J; have := @q2W; have := @q2Z; have := @ZE.eq_1; exact gA
noncomputable def q1y (fu : Nat) : Option Bool := Option.bind (q0u fu (qb.mk 4 1 0 [] [qb.mk 1 0 50 [qc.mk 1 (ByteArray.mk (List.toArray [65, 49]))] [], qb.mk 2 10 0 [qc.mk 1 (ByteArray.mk (List.toArray [65, 49])), qc.mk 1 (ByteArray.mk (List.toArray [66, 49]))] []]) (qq 1) [qa.mk (qc.mk 1 (ByteArray.mk (List.toArray [65, 49]))) 5 60 0 [] 0 [], qa.mk (qc.mk 1 (ByteArray.mk (List.toArray [66, 49]))) 6 90 0 [] 0 [], qa.mk (qc.mk 1 (ByteArray.mk (List.toArray [65, 49]))) 5 40 0 [] 0 []] 7) fun (a : Prod (List Int) Bool) => Option.bind (q0u fu (qb.mk 4 1 0 [] [qb.mk 1 0 50 [qc.mk 1 (ByteArray.mk (List.toArray [65, 49]))] [], qb.mk 2 10 0 [qc.mk 1 (ByteArray.mk (List.toArray [65, 49])), qc.mk 1 (ByteArray.mk (List.toArray [66, 49]))] []]) (qq 1) [qa.mk (qc.mk 1 (ByteArray.mk (List.toArray [65, 49]))) 5 60 0 [] 0 [], qa.mk (qc.mk 1 (ByteArray.mk (List.toArray [66, 49]))) 6 90 0 [] 0 [], qa.mk (qc.mk 1 (ByteArray.mk (List.toArray [65, 49]))) 5 40 0 [] 0 []] 3) fun (a2 : Prod (List Int) Bool) => Option.bind (q0u fu (qb.mk 3 0 0 [] [qb.mk 1 0 50 [qc.mk 1 (ByteArray.mk (List.toArray [65, 49]))] [], qb.mk 2 10 0 [qc.mk 1 (ByteArray.mk (List.toArray [65, 49])), qc.mk 1 (ByteArray.mk (List.toArray [66, 49]))] []]) (qq 1) [qa.mk (qc.mk 1 (ByteArray.mk (List.toArray [65, 49]))) 5 60 0 [] 0 [], qa.mk (qc.mk 1 (ByteArray.mk (List.toArray [66, 49]))) 6 90 0 [] 0 [], qa.mk (qc.mk 1 (ByteArray.mk (List.toArray [65, 49]))) 5 40 0 [] 0 []] 3) fun (a3 : Prod (List Int) Bool) => Option.bind (q08 fu (qb.mk 1 0 50 [qc.mk 1 (ByteArray.mk (List.toArray [65, 49]))] []) (qq 1) (qa.mk (qc.mk 1 (ByteArray.mk (List.toArray [65, 49]))) 5 60 0 [] 0 [])) fun (a4 : Bool) => if a4 = Bool.true then Option.bind (q08 fu (qb.mk 1 0 50 [qc.mk 1 (ByteArray.mk (List.toArray [65, 49]))] []) (qq 1) (qa.mk (qc.mk 1 (ByteArray.mk (List.toArray [66, 49]))) 6 90 0 [] 0 [])) fun (a5 : Bool) => if (!a5) = Bool.true then Option.bind (q08 fu (qb.mk 1 0 50 [qc.mk 1 (ByteArray.mk (List.toArray [65, 49]))] []) (qq 1) (qa.mk (qc.mk 1 (ByteArray.mk (List.toArray [65, 49]))) 5 40 0 [] 0 [])) fun (a6 : Bool) => if (!a6) = Bool.true then Option.bind (q2v fu (qb.mk 4 1 0 [] [qb.mk 1 0 50 [qc.mk 1 (ByteArray.mk (List.toArray [65, 49]))] [], qb.mk 2 10 0 [qc.mk 1 (ByteArray.mk (List.toArray [65, 49])), qc.mk 1 (ByteArray.mk (List.toArray [66, 49]))] []]) (qq 1) [qa.mk (qc.mk 1 (ByteArray.mk (List.toArray [65, 49]))) 5 60 0 [] 0 [], qa.mk (qc.mk 1 (ByteArray.mk (List.toArray [66, 49]))) 6 90 0 [] 0 [], qa.mk (qc.mk 1 (ByteArray.mk (List.toArray [65, 49]))) 5 40 0 [] 0 []] [(0 : Int), (-1), (-1)]) fun (a7 : Bool) => if a7 = Bool.true then Option.bind (q2v fu (qb.mk 4 1 0 [] [qb.mk 1 0 50 [qc.mk 1 (ByteArray.mk (List.toArray [65, 49]))] [], qb.mk 2 10 0 [qc.mk 1 (ByteArray.mk (List.toArray [65, 49])), qc.mk 1 (ByteArray.mk (List.toArray [66, 49]))] []]) (qq 1) [qa.mk (qc.mk 1 (ByteArray.mk (List.toArray [65, 49]))) 5 60 0 [] 0 [], qa.mk (qc.mk 1 (ByteArray.mk (List.toArray [66, 49]))) 6 90 0 [] 0 [], qa.mk (qc.mk 1 (ByteArray.mk (List.toArray [65, 49]))) 5 40 0 [] 0 []] [(0 : Int), 1, (-1)]) fun (a8 : Bool) => if (!a8) = Bool.true then Option.bind (Jy fu (qb.mk 1 0 50 [qc.mk 1 (ByteArray.mk (List.toArray [65, 49]))] []) [(1 : Int)]) fun (a9 : Bool) => if a9 = Bool.true then Option.bind (Jy fu (qb.mk 2 10 0 [qc.mk 1 (ByteArray.mk (List.toArray [65, 49])), qc.mk 1 (ByteArray.mk (List.toArray [66, 49]))] []) [(3 : Int), 5, 6, 7]) fun (a10 : Bool) => if a10 = Bool.true then Option.bind (Jy fu (qb.mk 3 0 0 [] [qb.mk 1 0 50 [qc.mk 1 (ByteArray.mk (List.toArray [65, 49]))] [], qb.mk 2 10 0 [qc.mk 1 (ByteArray.mk (List.toArray [65, 49])), qc.mk 1 (ByteArray.mk (List.toArray [66, 49]))] []]) [(7 : Int)]) fun (a11 : Bool) => if a11 = Bool.true then Option.bind (Jy fu (qb.mk 4 1 0 [] [qb.mk 1 0 50 [qc.mk 1 (ByteArray.mk (List.toArray [65, 49]))] [], qb.mk 2 10 0 [qc.mk 1 (ByteArray.mk (List.toArray [65, 49])), qc.mk 1 (ByteArray.mk (List.toArray [66, 49]))] []]) [(1 : Int), 3, 5, 6, 7]) fun (a12 : Bool) => if a12 = Bool.true then if a.2 = Bool.true then if a2.2 = Bool.true then if (!a3.2) = Bool.true then Option.bind (Jf fu a.1 [(0 : Int), 1, 1]) fun (a13 : Bool) => if a13 = Bool.true then Option.bind (Jf fu a2.1 [(1 : Int), 1]) fun (e0 : Bool) => some e0 else some Bool.false else some Bool.false else some Bool.false else some Bool.false else some Bool.false else some Bool.false else some Bool.false else some Bool.false else some Bool.false else some Bool.false else some Bool.false else some Bool.false else some Bool.false
theorem q6e (fu : Nat) : qk (q1y fu ) (ZE ) := by
  unfold q1y ZE
  repeat (first
    | with_reducible exact qk.refl _
    | with_reducible exact qk.none _
    | with_reducible apply q8h
    | with_reducible apply q2y
    | with_reducible apply q9b
    | with_reducible apply q8p
    | with_reducible apply q57
    | with_reducible refine qk.bind ?_ (fun _ => ?_)
    | with_reducible refine qk.ite ?_ ?_
    | with_reducible refine qk.sum (fun _ => ?_) (fun _ => ?_)
    | with_reducible refine qk.lim (fun _ => ?_))
theorem lo7 : okL 7 qlG := qA (qi bd7) (by kernel_rfl) (by kernel_rfl)
def cx7 := JA_ @qlG.eq_1 (JA_ @Try.f7.eq_1 @bd7)
theorem qz5 : okL 19 qgn := qA (qi qtZ) (by kernel_rfl) (by kernel_rfl)
def qwV := JA_ @qgn.eq_1 (JA_ @Try.f19.eq_1 @qtZ)
theorem qvL : okL 40 qdt := qA (qi qse) (by kernel_rfl) (by kernel_rfl)
def qvR := JA_ @qdt.eq_1 (JA_ @Try.f40.eq_1 @qse)
theorem qpT : lbO 40 9 = qhZ := Qd (qi qse) rfl
theorem qqG : okL 40 qhZ := zd qvL (List.mem_of_getElem? (i := 0) (by kernel_rfl))
theorem qz7 : okL 57 qid := qA (qi qtk) (by kernel_rfl) (by kernel_rfl)
def qxm := JA_ @qid.eq_1 (JA_ @Try.f57.eq_1 @qtk)
noncomputable def qm (most : Int) (d : qh) : Option (Int × qh) := if ((d.L.length : Nat) : Int) ≤ d.At then some (0, d) else if 0 ≤ d.At ∧ d.At < ((d.L.length : Nat) : Int) then Option.bind d.L[Int.toNat d.At]? fun (a : Int) => if most = 0 then none else if most = 0 then none else some (Int.tmod (w64 (Int.tmod a most + most)) most, qh.mk d.L (w64 (d.At + 1))) else none
theorem J8 : ∀ (most : Int) (d_L : List Int) (d_At : Int), ev 57 1 [rP 0, rI most] [(0, B.blk 83 [dL 1 eI d_L, dI d_At])] = (qm most (qh.mk d_L d_At)).bind (fun (e : Int × qh) => some (rI e.1, [(0, B.blk 83 [dL 1 eI e.2.L, dI e.2.At])])) :=
  fun most d_L d_At => by
    rw [qB qtk qvt.2.2.2 qz7]
    have := qxm; have := @qm.eq_1; exact gA
theorem quy : okL 58 qb3 := qA (qi qqW) (by kernel_rfl) (by kernel_rfl)
def qt6 := JA_ @qb3.eq_1 (JA_ @Try.f58.eq_1 @qqW)
theorem qrc : lbO 58 4 = qh3 := Qd (qi qqW) rfl
theorem qoU : okL 58 qh3 := zd quy (List.mem_of_getElem? (i := 0) (by kernel_rfl))
theorem qqS : lbO 58 8 = qgZ := Qd (qi qqW) rfl
theorem qos : okL 58 qgZ := zd quy (List.mem_of_getElem? (i := 1) (by kernel_rfl))
theorem qxi : okL 72 qhw := qA (qi qtJ) (by kernel_rfl) (by kernel_rfl)
def qy0 := JA_ @qhw.eq_1 (JA_ @Try.f72.eq_1 @qtJ)
theorem qxL : okL 77 qgh := qA (qi qum) (by kernel_rfl) (by kernel_rfl)
def qyz := JA_ @qgh.eq_1 (JA_ @Try.f77.eq_1 @qum)
noncomputable def q0U : Option (List ByteArray) :=
  some [ByteArray.mk (List.toArray [65, 49]), ByteArray.mk (List.toArray [66, 49]), ByteArray.mk (List.toArray [66, 50]), ByteArray.mk (List.toArray [67, 49]), ByteArray.mk (List.toArray [68, 49]), ByteArray.mk (List.toArray [69, 57])]
noncomputable def qS : List ByteArray :=
  [ByteArray.mk (List.toArray [65, 49]), ByteArray.mk (List.toArray [66, 49]), ByteArray.mk (List.toArray [66, 50]), ByteArray.mk (List.toArray [67, 49]), ByteArray.mk (List.toArray [68, 49]), ByteArray.mk (List.toArray [69, 57])]
theorem q6S : q0U = some (qS) := by
  unfold q0U qS
  simp only [Qg]
theorem q7M : ev 77 0 [] [] = some (R.c (C.d (D.sl 1 (qS).length ((qS).flatMap eS))), []) :=
  by
    have h : ev 77 0 [] [] = (q0U).bind (fun (e : List ByteArray) => some (rL 1 eS e, [])) := by
      rw [qB qum qvx.2.2.2 qxL]
      have := qyz; have := @q0U.eq_1; exact gA
    rw [q6S] at h
    exact h
noncomputable def Ja (d : qh) : Option (qc × qh) := Option.bind (qm 6 d) fun (a : Prod Int qh) => if 0 ≤ a.1 ∧ a.1 < 6 then Option.bind [(1 : Int), 1, 1, 2, 2, 3][Int.toNat a.1]? fun (a2 : Int) => Option.bind (qm ((qS.length : Nat) : Int) a.2) fun (a3 : Prod Int qh) => if 0 ≤ a3.1 ∧ a3.1 < ((qS.length : Nat) : Int) then Option.bind qS[Int.toNat a3.1]? fun (a4 : ByteArray) => some (qc.mk a2 a4, a3.2) else none else none
theorem q71 : ∀ (d_L : List Int) (d_At : Int), ev 72 1 [rP 0] [(0, B.blk 83 [dL 1 eI d_L, dI d_At])] = (Ja (qh.mk d_L d_At)).bind (fun (e : qc × qh) => some (R.agg [dI e.1.School, dS e.1.Code], [(0, B.blk 83 [dL 1 eI e.2.L, dI e.2.At])])) :=
  fun d_L d_At => by
    rw [qB qtJ qvc.2.2.2 qxi]
    have := qy0; have := @J8; have := @q7M; have := @Ja.eq_1; exact gA
theorem qyT : okL 60 qhp := qA (qi qtQ) (by kernel_rfl) (by kernel_rfl)
def qxo := JA_ @qhp.eq_1 (JA_ @Try.f60.eq_1 @qtQ)
noncomputable def Jk (a : qc) (b : qc) : Option Bool := if a.School < b.School then some Bool.true else if (a.School == b.School) = Bool.true then some (Go.Op.bytesLess (ByteArray.toList a.Code) (ByteArray.toList b.Code)) else some Bool.false
noncomputable def zq (a : qc) (b : qc) : Bool := if a.School < b.School then Bool.true else if (a.School == b.School) = Bool.true then Go.Op.bytesLess (ByteArray.toList a.Code) (ByteArray.toList b.Code) else Bool.false
theorem q4f (a b : qc) : Jk a b = some (zq a b) := by
  unfold Jk zq
  simp only [Qg]
theorem Jq : ∀ (a_School : Int) (a_Code : ByteArray) (b_School : Int) (b_Code : ByteArray), ev 60 0 [R.agg [dI a_School, dS a_Code], R.agg [dI b_School, dS b_Code]] [] = some (rB (zq (qc.mk a_School a_Code) (qc.mk b_School b_Code)), []) :=
  fun a_School a_Code b_School b_Code => by
    have h : ev 60 0 [R.agg [dI a_School, dS a_Code], R.agg [dI b_School, dS b_Code]] [] = (Jk (qc.mk a_School a_Code) (qc.mk b_School b_Code)).bind (fun (e : Bool) => some (rB e, [])) := by
      rw [qB qtQ qvf.2.2.2 qyT]
      have := qxo; have := @Jk.eq_1; exact gA
    rw [q4f] at h
    exact h
noncomputable def Z1 (out : List qc) (d : qh) (c : qc) (many : Int) (k : Int) : Int → Option (Int ⊕ Int) | at0 => if at0 < ((out.length : Nat) : Int) then if 0 ≤ at0 ∧ at0 < ((out.length : Nat) : Int) then Option.bind out[Int.toNat at0]? fun (a : qc) => if zq a c = Bool.true then some (Sum.inl (w64 (at0 + 1))) else some (Sum.inr at0) else none else some (Sum.inr at0)
theorem q6g : ∀ (out : List qc) (d_L : List Int) (d_At c_School : Int) (c_Code : ByteArray) (many k at0 : Int) (out_len : Nat), out_len = out.length → XL2 evo 58 1 8 ⟨[(0, rP 0), (3, rI many), (4, rO 1 2 out_len), (5, rI k), (6, rP 2), (7, rI at0)], [(0, B.blk 83 [dL 1 eI d_L, dI d_At]), (1, bR 52 2 qe out), (2, B.blk 52 [dI c_School, dS c_Code])], 3, 61⟩ = (qN (Z1 out (qh.mk d_L d_At) (qc.mk c_School c_Code) many k) at0).bind (fun (e : Int) => some (Go.Exit.exit 2, ⟨[(0, rP 0), (3, rI many), (4, rO 1 2 out.length), (5, rI k), (6, rP 2), (7, rI e)], [(0, B.blk 83 [dL 1 eI d_L, dI d_At]), (1, bR 52 2 qe out), (2, B.blk 52 [dI c_School, dS c_Code])], 3, 61⟩)) :=
  by
  intro out d_L d_At c_School c_Code many k at0 out_len h0
  subst h0
  revert at0; exact qbx qqS qos (fun e => by exact ⟨_, rfl, fun h => by cases h⟩) fun x => by
    have := qt6; have := @qgZ.eq_1; have := @Jq; have := @Z1.eq_1; exact gA
noncomputable def Qr (many : Int) : (List qc × qh × Int) → Option ((List qc × qh × Int) ⊕ (List qc × qh)) | (out, d, k) => if k < many then Option.bind (Ja d) fun (a : Prod qc qh) => Option.bind (qN (Z1 out a.2 a.1 many k) 0) fun (a2 : Int) => if a2 < ((out.length : Nat) : Int) then if 0 ≤ a2 ∧ a2 < ((out.length : Nat) : Int) then Option.bind out[Int.toNat a2]? fun (a3 : qc) => if (a3.School == a.1.School) = Bool.true ∧ (ByteArray.toList a3.Code == ByteArray.toList a.1.Code) = Bool.true then some (Sum.inl (out, a.2, w64 (k + 1))) else if out.length + 1 ≤ Go.maxLen ∧ (out.length + 1) * 24 ≤ 140737488355328 then if 0 ≤ w64 (a2 + 1) ∧ w64 (a2 + 1) ≤ ((out.length + 1 : Nat) : Int) then if w64 (a2 + 1) = 0 ∨ w64 (a2 + 1) < ((out.length + 1 : Nat) : Int) then if 0 ≤ a2 ∧ a2 ≤ ((out.length + 1 : Nat) : Int) then if a2 = 0 ∨ a2 < ((out.length + 1 : Nat) : Int) then if (List.take (out.length + 1 - Int.toNat a2) (List.drop (Int.toNat a2) (out ++ [qc.mk 0 (ByteArray.mk (List.toArray []))]))).length * 2 = (out.length + 1 - Int.toNat a2) * 2 ∧ Int.toNat (w64 (a2 + 1)) * 2 + (out.length + 1 - Int.toNat (w64 (a2 + 1))) * 2 ≤ (out.length + 1) * 2 then if 0 ≤ a2 ∧ a2 < ((out.length + 1 : Nat) : Int) then if Int.toNat a2 * 2 + 2 ≤ (out.length + 1) * 2 then some (Sum.inl (List.set (spl (out ++ [qc.mk 0 (ByteArray.mk (List.toArray []))]) (Int.toNat (w64 (a2 + 1))) (List.take (min (out.length + 1 - Int.toNat a2) (out.length + 1 - Int.toNat (w64 (a2 + 1)))) (List.take (out.length + 1 - Int.toNat a2) (List.drop (Int.toNat a2) (out ++ [qc.mk 0 (ByteArray.mk (List.toArray []))]))))) (Int.toNat a2) a.1, a.2, w64 (k + 1))) else none else none else none else if Int.toNat (w64 (a2 + 1)) * 2 + (out.length + 1 - Int.toNat (w64 (a2 + 1))) * 2 ≤ (out.length + 1) * 2 then if 0 ≤ a2 ∧ a2 < ((out.length + 1 : Nat) : Int) then if Int.toNat a2 * 2 + 2 ≤ (out.length + 1) * 2 then some (Sum.inl (List.set (out ++ [qc.mk 0 (ByteArray.mk (List.toArray []))]) (Int.toNat a2) a.1, a.2, w64 (k + 1))) else none else none else none else none else if 0 ≤ a2 ∧ a2 ≤ ((out.length + 1 : Nat) : Int) then if a2 = 0 ∨ a2 < ((out.length + 1 : Nat) : Int) then if (List.take (out.length + 1 - Int.toNat a2) (List.drop (Int.toNat a2) (out ++ [qc.mk 0 (ByteArray.mk (List.toArray []))]))).length * 2 = (out.length + 1 - Int.toNat a2) * 2 then if 0 ≤ a2 ∧ a2 < ((out.length + 1 : Nat) : Int) then if Int.toNat a2 * 2 + 2 ≤ (out.length + 1) * 2 then some (Sum.inl (List.set (out ++ [qc.mk 0 (ByteArray.mk (List.toArray []))]) (Int.toNat a2) a.1, a.2, w64 (k + 1))) else none else none else none else if 0 ≤ a2 ∧ a2 < ((out.length + 1 : Nat) : Int) then if Int.toNat a2 * 2 + 2 ≤ (out.length + 1) * 2 then some (Sum.inl (List.set (out ++ [qc.mk 0 (ByteArray.mk (List.toArray []))]) (Int.toNat a2) a.1, a.2, w64 (k + 1))) else none else none else none else none else none else none else if out.length + 1 ≤ Go.maxLen ∧ (out.length + 1) * 24 ≤ 140737488355328 then if 0 ≤ w64 (a2 + 1) ∧ w64 (a2 + 1) ≤ ((out.length + 1 : Nat) : Int) then if w64 (a2 + 1) = 0 ∨ w64 (a2 + 1) < ((out.length + 1 : Nat) : Int) then if 0 ≤ a2 ∧ a2 ≤ ((out.length + 1 : Nat) : Int) then if a2 = 0 ∨ a2 < ((out.length + 1 : Nat) : Int) then if (List.take (out.length + 1 - Int.toNat a2) (List.drop (Int.toNat a2) (out ++ [qc.mk 0 (ByteArray.mk (List.toArray []))]))).length * 2 = (out.length + 1 - Int.toNat a2) * 2 ∧ Int.toNat (w64 (a2 + 1)) * 2 + (out.length + 1 - Int.toNat (w64 (a2 + 1))) * 2 ≤ (out.length + 1) * 2 then if 0 ≤ a2 ∧ a2 < ((out.length + 1 : Nat) : Int) then if Int.toNat a2 * 2 + 2 ≤ (out.length + 1) * 2 then some (Sum.inl (List.set (spl (out ++ [qc.mk 0 (ByteArray.mk (List.toArray []))]) (Int.toNat (w64 (a2 + 1))) (List.take (min (out.length + 1 - Int.toNat a2) (out.length + 1 - Int.toNat (w64 (a2 + 1)))) (List.take (out.length + 1 - Int.toNat a2) (List.drop (Int.toNat a2) (out ++ [qc.mk 0 (ByteArray.mk (List.toArray []))]))))) (Int.toNat a2) a.1, a.2, w64 (k + 1))) else none else none else none else if Int.toNat (w64 (a2 + 1)) * 2 + (out.length + 1 - Int.toNat (w64 (a2 + 1))) * 2 ≤ (out.length + 1) * 2 then if 0 ≤ a2 ∧ a2 < ((out.length + 1 : Nat) : Int) then if Int.toNat a2 * 2 + 2 ≤ (out.length + 1) * 2 then some (Sum.inl (List.set (out ++ [qc.mk 0 (ByteArray.mk (List.toArray []))]) (Int.toNat a2) a.1, a.2, w64 (k + 1))) else none else none else none else none else if 0 ≤ a2 ∧ a2 ≤ ((out.length + 1 : Nat) : Int) then if a2 = 0 ∨ a2 < ((out.length + 1 : Nat) : Int) then if (List.take (out.length + 1 - Int.toNat a2) (List.drop (Int.toNat a2) (out ++ [qc.mk 0 (ByteArray.mk (List.toArray []))]))).length * 2 = (out.length + 1 - Int.toNat a2) * 2 then if 0 ≤ a2 ∧ a2 < ((out.length + 1 : Nat) : Int) then if Int.toNat a2 * 2 + 2 ≤ (out.length + 1) * 2 then some (Sum.inl (List.set (out ++ [qc.mk 0 (ByteArray.mk (List.toArray []))]) (Int.toNat a2) a.1, a.2, w64 (k + 1))) else none else none else none else if 0 ≤ a2 ∧ a2 < ((out.length + 1 : Nat) : Int) then if Int.toNat a2 * 2 + 2 ≤ (out.length + 1) * 2 then some (Sum.inl (List.set (out ++ [qc.mk 0 (ByteArray.mk (List.toArray []))]) (Int.toNat a2) a.1, a.2, w64 (k + 1))) else none else none else none else none else none else some (Sum.inr (out, d))
theorem q6G : ∀ (out : List qc) (d_L : List Int) (d_At many k : Int) (out_len : Nat), out_len = out.length → XL2 evo 58 1 4 ⟨[(0, rP 0), (3, rI many), (4, rO 1 2 out_len), (5, rI k)], [(0, B.blk 83 [dL 1 eI d_L, dI d_At]), (1, bR 52 2 qe out)], 2, 61⟩ = (qN (Qr many) (out, (qh.mk d_L d_At), k)).bind (fun (e : List qc × qh) => some (Go.Exit.exit 0, ⟨[(4, rO 1 2 e.1.length)], [(0, B.blk 83 [dL 1 eI e.2.L, dI e.2.At]), (1, bR 52 2 qe e.1)], 2, 61⟩)) :=
  by
  intro out d_L d_At many k out_len h0
  subst h0
  have h := q2l (E := evo) (f := 58) (k := 1) (st := fun x : List qc × qh × Int => (⟨[(0, rP 0), (3, rI many), (4, rO 1 2 x.1.length), (5, rI x.2.2)], [(0, B.blk 83 [dL 1 eI x.2.1.L, dI x.2.1.At]), (1, bR 52 2 qe x.1)], 2, 61⟩ : S)) (ex := fun (e : List qc × qh) => (Go.Exit.exit 0, ⟨[(4, rO 1 2 e.1.length)], [(0, B.blk 83 [dL 1 eI e.2.L, dI e.2.At]), (1, bR 52 2 qe e.1)], 2, 61⟩)) (step := (Qr many)) qrc qoU (fun e h => by cases h) (fun x => by
    obtain ⟨out, d, k⟩ := x; have := qt6; have := @qh3.eq_1; have := @q71; have := @q6g; have := @Qr.eq_1; exact gA) (out, (qh.mk d_L d_At), k)
  exact h
theorem q4i : ∀  (d_L : List Int) (d_At many k : Int), XL2 evo 58 1 4 ⟨[(0, rP 0), (3, rI many), (4, rO 1 2 0), (5, rI k)], [(0, B.blk 83 [dL 1 eI d_L, dI d_At]), (1, B.row 52 2 [])], 2, 61⟩ = (qN (Qr many) ([], (qh.mk d_L d_At), k)).bind (fun (e : List qc × qh) => some (Go.Exit.exit 0, ⟨[(4, rO 1 2 e.1.length)], [(0, B.blk 83 [dL 1 eI e.2.L, dI e.2.At]), (1, bR 52 2 qe e.1)], 2, 61⟩)) := by
  intro d_L d_At many k; have h := q6G [] ((qh.mk d_L d_At)).L ((qh.mk d_L d_At)).At many k _ rfl
  first
    | exact h
    | (simp only [rL, dL, bR, bZ, Nat.reduceAdd] at h; exact h)
noncomputable def QB (d : qh) : Option (List qc × qh) := Option.bind (qm 3 d) fun (a : Prod Int qh) => Option.bind (qN (Qr (w64 (1 + a.1))) ([], (a.2, 0))) fun (a2 : Prod (List qc) qh) => some (a2.1, a2.2)
theorem q9k : ∀ (d_L : List Int) (d_At : Int), ev 58 1 [rP 0] [(0, B.blk 83 [dL 1 eI d_L, dI d_At])] = (QB (qh.mk d_L d_At)).bind (fun (e : List qc × qh) => some (rL 2 qe e.1, [(0, B.blk 83 [dL 1 eI e.2.L, dI e.2.At])])) :=
  fun d_L d_At => by
    rw [qB qqW qvV.2.2.2 quy]
    have := qt6; have := @J8; have := @q4i; have := @QB.eq_1; exact gA
noncomputable def zU (x : (Int × Int × qh)) : List R × List (Nat × B) := ([R.c (C.ptr 0 0), R.c (C.d (D.int .i64 x.1)), R.c (C.d (D.int .i64 x.2.1))], [(0, B.blk 83 [C.d (D.sl 1 x.2.2.L.length (x.2.2.L.flatMap eI)), C.d (D.int .i64 x.2.2.At)])])
noncomputable def Qt : (qb × qh) → R × List (Nat × B) := fun (e : qb × qh) => (R.agg [C.d (D.int .i64 e.1.Kind), C.d (D.int .i64 e.1.N), C.d (D.int .i64 e.1.Min), C.d (D.sl 2 e.1.Set.length (e.1.Set.flatMap qe)), C.d (D.sl 5 e.1.L.length (e.1.L.flatMap qg))], [(0, B.blk 83 [C.d (D.sl 1 e.2.L.length (e.2.L.flatMap eI)), C.d (D.int .i64 e.2.At)])])
noncomputable def zN (rF : (Int × Int × qh) → Option (qb × qh)) (b1_Kind : Int) (b1_N : Int) (b1_Min : Int) (b2_Kind : Int) (b2_N : Int) (b2_Min : Int) (t1 : Int) (t2 : Int) (t7 : Int) (t8 : Int) : (List qb × qh × Int) → Option ((List qb × qh × Int) ⊕ (List qb × qh)) | (w3, b0, t10) => if t10 < t8 then if t8 = 0 then none else Option.bind (rF (w64 (t1 - 1), (w64 (Int.tdiv t2 t8), b0))) fun (a2 : Prod qb qh) => if w3.length + 1 ≤ Go.maxLen ∧ (w3.length + 1) * 72 ≤ 140737488355328 then some (Sum.inl (w3 ++ [a2.1], a2.2, w64 (t10 + 1))) else none else some (Sum.inr (w3, b0))
theorem q5N (rE : Orc) (rF : (Int × Int × qh) → Option (qb × qh)) (hF : ∀ y, rE (.fn 40) 1 (zU y).1 (zU y).2 = (rF y).bind fun e => some (Qt e)) (hM : ∀ g k a G, g ≠ 40 → rE (.fn g) k a G = ev g k a G) (hR : ∀ g asg bd k a G, rE (.rd g asg bd) k a G = evr g asg bd k a G) : ∀ (w3 : List qb) (b0_L : List Int) (b0_At b1_Kind b1_N b1_Min b2_Kind b2_N b2_Min t1 t2 t7 t8 t10 : Int) (w3_len : Nat), w3_len = w3.length → XL2 rE 40 1 9 ⟨[(0, rP 0), (1, rI t1), (2, rI t2), (6, rP 1), (7, rI t7), (8, rI t8), (9, rP 2), (10, rI t10)], [(0, B.blk 83 [dL 1 eI b0_L, dI b0_At]), (1, B.blk 31 [dI b1_Kind, dI b1_N, dI b1_Min, C.nils, C.nils]), (2, B.blk 31 [dI b2_Kind, dI b2_N, dI b2_Min, C.nils, dO 3 5 w3_len]), (3, bR 31 5 qg w3)], 4, 77⟩ = (qN (zN rF b1_Kind b1_N b1_Min b2_Kind b2_N b2_Min t1 t2 t7 t8) (w3, (qh.mk b0_L b0_At), t10)).bind (fun (e : List qb × qh) => some (Go.Exit.exit 0, ⟨[(0, rP 0), (6, rP 1), (7, rI t7), (8, rI t8), (9, rP 2)], [(0, B.blk 83 [dL 1 eI e.2.L, dI e.2.At]), (1, B.blk 31 [dI b1_Kind, dI b1_N, dI b1_Min, C.nils, C.nils]), (2, B.blk 31 [dI b2_Kind, dI b2_N, dI b2_Min, C.nils, dO 3 5 e.1.length]), (3, bR 31 5 qg e.1)], 4, 77⟩)) :=
  by
  intro w3 b0_L b0_At b1_Kind b1_N b1_Min b2_Kind b2_N b2_Min t1 t2 t7 t8 t10 w3_len h0
  subst h0
  have h := q2l (E := rE) (f := 40) (k := 1) (st := fun x : List qb × qh × Int => (⟨[(0, rP 0), (1, rI t1), (2, rI t2), (6, rP 1), (7, rI t7), (8, rI t8), (9, rP 2), (10, rI x.2.2)], [(0, B.blk 83 [dL 1 eI x.2.1.L, dI x.2.1.At]), (1, B.blk 31 [dI b1_Kind, dI b1_N, dI b1_Min, C.nils, C.nils]), (2, B.blk 31 [dI b2_Kind, dI b2_N, dI b2_Min, C.nils, dO 3 5 x.1.length]), (3, bR 31 5 qg x.1)], 4, 77⟩ : S)) (ex := fun (e : List qb × qh) => (Go.Exit.exit 0, ⟨[(0, rP 0), (6, rP 1), (7, rI t7), (8, rI t8), (9, rP 2)], [(0, B.blk 83 [dL 1 eI e.2.L, dI e.2.At]), (1, B.blk 31 [dI b1_Kind, dI b1_N, dI b1_Min, C.nils, C.nils]), (2, B.blk 31 [dI b2_Kind, dI b2_N, dI b2_Min, C.nils, dO 3 5 e.1.length]), (3, bR 31 5 qg e.1)], 4, 77⟩)) (step := (zN rF b1_Kind b1_N b1_Min b2_Kind b2_N b2_Min t1 t2 t7 t8)) qpT qqG (fun e h => by cases h) (fun x => by
    obtain ⟨w3, b0, t10⟩ := x; have hF' : ∀ (x1 x2 : Int) (v_L : List Int) (v_At : Int), rE (.fn 40) 1 [rP 0, rI x1, rI x2] [(0, B.blk 83 [dL 1 eI v_L, dI v_At])] = (rF (x1, x2, (qh.mk v_L v_At))).bind (fun e => some (R.agg [dI e.1.Kind, dI e.1.N, dI e.1.Min, dL 2 qe e.1.Set, dL 5 qg e.1.L], [(0, B.blk 83 [dL 1 eI e.2.L, dI e.2.At])])) := fun x1 x2 v_L v_At => hF (x1, x2, (qh.mk v_L v_At))
    have := qvR; have := @qhZ.eq_1; have := @zN.eq_1; exact gA) (w3, (qh.mk b0_L b0_At), t10)
  exact h
theorem q3i : ∀ (rE : Orc) (rF : (Int × Int × qh) → Option (qb × qh)) (hF : ∀ y, rE (.fn 40) 1 (zU y).1 (zU y).2 = (rF y).bind fun e => some (Qt e)) (hM : ∀ g k a G, g ≠ 40 → rE (.fn g) k a G = ev g k a G) (hR : ∀ g asg bd k a G, rE (.rd g asg bd) k a G = evr g asg bd k a G), ∀  (b0_L : List Int) (b0_At b1_Kind b1_N b1_Min b2_Kind b2_N b2_Min t1 t2 t7 t8 t10 : Int), XL2 rE 40 1 9 ⟨[(0, rP 0), (1, rI t1), (2, rI t2), (6, rP 1), (7, rI t7), (8, rI t8), (9, rP 2), (10, rI t10)], [(0, B.blk 83 [dL 1 eI b0_L, dI b0_At]), (1, B.blk 31 [dI b1_Kind, dI b1_N, dI b1_Min, C.nils, C.nils]), (2, B.blk 31 [dI b2_Kind, dI b2_N, dI b2_Min, C.nils, dO 3 5 0]), (3, B.row 31 5 [])], 4, 77⟩ = (qN (zN rF b1_Kind b1_N b1_Min b2_Kind b2_N b2_Min t1 t2 t7 t8) ([], (qh.mk b0_L b0_At), t10)).bind (fun (e : List qb × qh) => some (Go.Exit.exit 0, ⟨[(0, rP 0), (6, rP 1), (7, rI t7), (8, rI t8), (9, rP 2)], [(0, B.blk 83 [dL 1 eI e.2.L, dI e.2.At]), (1, B.blk 31 [dI b1_Kind, dI b1_N, dI b1_Min, C.nils, C.nils]), (2, B.blk 31 [dI b2_Kind, dI b2_N, dI b2_Min, C.nils, dO 3 5 e.1.length]), (3, bR 31 5 qg e.1)], 4, 77⟩)) := by
  intro rE rF hF hM hR b0_L b0_At b1_Kind b1_N b1_Min b2_Kind b2_N b2_Min t1 t2 t7 t8 t10; have h := q5N rE rF hF hM hR [] ((qh.mk b0_L b0_At)).L ((qh.mk b0_L b0_At)).At b1_Kind b1_N b1_Min b2_Kind b2_N b2_Min t1 t2 t7 t8 t10 _ rfl
  first
    | exact h
    | (simp only [rL, dL, bR, bZ, Nat.reduceAdd] at h; exact h)
noncomputable def ZX (rF : (Int × Int × qh) → Option (qb × qh)) : (Int × Int × qh) → Option (qb × qh) | (x1, x2, v) => Option.bind (qm 6 v) fun (a2 : Prod Int qh) => if x1 ≤ 0 then Option.bind (qm 3 a2.2) fun (a3 : Prod Int qh) => if (a3.1 == 0) = Bool.true then Option.bind (qm 12 a3.2) fun (a4 : Prod Int qh) => Option.bind (qm 3 a4.2) fun (a5 : Prod Int qh) => if 0 ≤ a5.1 ∧ a5.1 < 3 then Option.bind [(0 : Int), 50, 60][Int.toNat a5.1]? fun (a6 : Int) => Option.bind (QB a5.2) fun (a7 : Prod (List qc) qh) => some (qb.mk 2 (w64 (1 + a4.1)) a6 a7.1 [], a7.2) else none else Option.bind (qm 4 a3.2) fun (a8 : Prod Int qh) => if 0 ≤ a8.1 ∧ a8.1 < 4 then Option.bind [(0 : Int), 50, 60, 80][Int.toNat a8.1]? fun (a9 : Int) => Option.bind (QB a8.2) fun (a10 : Prod (List qc) qh) => some (qb.mk 1 0 a9 a10.1 [], a10.2) else none else if x2 < 2 then Option.bind (qm 3 a2.2) fun (a11 : Prod Int qh) => if (a11.1 == 0) = Bool.true then Option.bind (qm 12 a11.2) fun (a12 : Prod Int qh) => Option.bind (qm 3 a12.2) fun (a13 : Prod Int qh) => if 0 ≤ a13.1 ∧ a13.1 < 3 then Option.bind [(0 : Int), 50, 60][Int.toNat a13.1]? fun (a14 : Int) => Option.bind (QB a13.2) fun (a15 : Prod (List qc) qh) => some (qb.mk 2 (w64 (1 + a12.1)) a14 a15.1 [], a15.2) else none else Option.bind (qm 4 a11.2) fun (a16 : Prod Int qh) => if 0 ≤ a16.1 ∧ a16.1 < 4 then Option.bind [(0 : Int), 50, 60, 80][Int.toNat a16.1]? fun (a17 : Int) => Option.bind (QB a16.2) fun (a18 : Prod (List qc) qh) => some (qb.mk 1 0 a17 a18.1 [], a18.2) else none else if a2.1 < 2 then Option.bind (qm 3 a2.2) fun (a19 : Prod Int qh) => if (a19.1 == 0) = Bool.true then Option.bind (qm 12 a19.2) fun (a20 : Prod Int qh) => Option.bind (qm 3 a20.2) fun (a21 : Prod Int qh) => if 0 ≤ a21.1 ∧ a21.1 < 3 then Option.bind [(0 : Int), 50, 60][Int.toNat a21.1]? fun (a22 : Int) => Option.bind (QB a21.2) fun (a23 : Prod (List qc) qh) => some (qb.mk 2 (w64 (1 + a20.1)) a22 a23.1 [], a23.2) else none else Option.bind (qm 4 a19.2) fun (a24 : Prod Int qh) => if 0 ≤ a24.1 ∧ a24.1 < 4 then Option.bind [(0 : Int), 50, 60, 80][Int.toNat a24.1]? fun (a25 : Int) => Option.bind (QB a24.2) fun (a26 : Prod (List qc) qh) => some (qb.mk 1 0 a25 a26.1 [], a26.2) else none else Option.bind (qm (min 3 x2) a2.2) fun (a27 : Prod Int qh) => Option.bind (qN (zN rF 0 0 0 3 0 0 x1 x2 a2.1 (w64 (1 + a27.1))) ([], (a27.2, 0))) fun (a28 : Prod (List qb) qh) => if 3 < a2.1 then Option.bind (qm (w64 (1 + a27.1)) a28.2) fun (a29 : Prod Int qh) => some (qb.mk 4 (w64 (1 + a29.1)) 0 [] a28.1, a29.2) else some (qb.mk 3 0 0 [] a28.1, a28.2)
theorem q3E : q4n 40 1 zU Qt ZX := by
  intro rE rF hF hM hR x
  obtain ⟨x1, x2, v⟩ := x
  show q6K rE 40 1 [rP 0, rI x1, rI x2] [(0, B.blk 83 [dL 1 eI v.L, dI v.At])] = _
  have hF' : ∀ (x1 x2 : Int) (v_L : List Int) (v_At : Int), rE (.fn 40) 1 [rP 0, rI x1, rI x2] [(0, B.blk 83 [dL 1 eI v_L, dI v_At])] = (rF (x1, x2, (qh.mk v_L v_At))).bind (fun e => some (R.agg [dI e.1.Kind, dI e.1.N, dI e.1.Min, dL 2 qe e.1.Set, dL 5 qg e.1.L], [(0, B.blk 83 [dL 1 eI e.2.L, dI e.2.At])])) := fun x1 x2 v_L v_At => hF (x1, x2, (qh.mk v_L v_At))
  rw [q1p qse qvL]
  have := qvR; have := @J8; have := @q9k; have := q3i rE rF hF hM hR; have := @ZX.eq_1; have := @Qt.eq_1; exact gA
theorem q13 : ∀ x y, zU x = zU y → x = y := by
  rintro ⟨a0, a1, ⟨a2_0, a2_1⟩⟩ ⟨b0, b1, ⟨b2_0, b2_1⟩⟩ h
  simp only [zU, Prod.mk.injEq, List.cons.injEq, R.c.injEq, R.agg.injEq, R.tup.injEq, C.d.injEq, C.own.injEq, C.ptr.injEq, C.eptr.injEq, D.int.injEq, D.bool.injEq, D.str.injEq, D.sl.injEq, B.blk.injEq, B.row.injEq, ZK, q01, ZN, J6, Jl, q0Z, ZI, q1o, true_and, and_true, List.nil_append] at h
  simp only [h]
theorem q68 : ∀ x y, Qt x = Qt y → x = y := by
  rintro ⟨⟨a0_0, a0_1, a0_2, a0_3, a0_4⟩, ⟨a1_0, a1_1⟩⟩ ⟨⟨b0_0, b0_1, b0_2, b0_3, b0_4⟩, ⟨b1_0, b1_1⟩⟩ h
  simp only [Qt, Prod.mk.injEq, List.cons.injEq, R.c.injEq, R.agg.injEq, R.tup.injEq, C.d.injEq, C.own.injEq, C.ptr.injEq, C.eptr.injEq, D.int.injEq, D.bool.injEq, D.str.injEq, D.sl.injEq, B.blk.injEq, B.row.injEq, ZK, q01, ZN, J6, Jl, q0Z, ZI, q1o, true_and, and_true, List.nil_append] at h
  simp only [h]
noncomputable def QW : (Int × Int × qh) → Option (qb × qh) := q4R 40 1 zU Qt
theorem q3N (x : (Int × Int × qh)) : QW x = ZX QW x := q8I qtE.2.2.2 q13 q68 q3E x
theorem q7F (x1 x2 : Int) (v : qh) : ev 40 1 [rP 0, rI x1, rI x2] [(0, B.blk 83 [dL 1 eI v.L, dI v.At])] = (QW (x1, x2, v)).bind (fun (e : qb × qh) => some (R.agg [dI e.1.Kind, dI e.1.N, dI e.1.Min, dL 2 qe e.1.Set, dL 5 qg e.1.L], [(0, B.blk 83 [dL 1 eI e.2.L, dI e.2.At])])) := (q5b qtE.2.2.2 q13 q3E (x1, x2, v))
theorem q8E : ∀ (x1 x2 : Int) (v_L : List Int) (v_At : Int), ev 40 1 [rP 0, rI x1, rI x2] [(0, B.blk 83 [dL 1 eI v_L, dI v_At])] = (QW (x1, x2, (qh.mk v_L v_At))).bind (fun (e : qb × qh) => some (R.agg [dI e.1.Kind, dI e.1.N, dI e.1.Min, dL 2 qe e.1.Set, dL 5 qg e.1.L], [(0, B.blk 83 [dL 1 eI e.2.L, dI e.2.At])])) :=
  fun x1 x2 v_L v_At => q7F x1 x2 (qh.mk v_L v_At)
noncomputable def q0q (l : List Int) : Option qb := Option.bind (QW (3, (6, qh.mk l 0))) fun (a : Prod qb qh) => some a.1
theorem q8l : ∀ (l : List Int), ev 19 0 [rL 1 eI l] [] = (q0q l).bind (fun (e : qb) => some (R.agg [dI e.Kind, dI e.N, dI e.Min, dL 2 qe e.Set, dL 5 qg e.L], [])) :=
  fun l => by
    rw [qB qtZ quV.2.2.2 qz5]
    have := qwV; have := @q8E; have := @q0q.eq_1; exact gA
theorem qw7 : okL 20 qdH := qA (qi qsr) (by kernel_rfl) (by kernel_rfl)
def qvJ := JA_ @qdH.eq_1 (JA_ @Try.f20.eq_1 @qsr)
theorem qrm : lbO 20 6 = qhX := Qd (qi qsr) rfl
theorem qob : okL 20 qhX := zd qw7 (List.mem_of_getElem? (i := 0) (by kernel_rfl))
theorem qsb : okL 41 q9L := qA (qi qnT) (by kernel_rfl) (by kernel_rfl)
def qlm := JA_ @q9L.eq_1 (JA_ @Try.f41.eq_1 @qnT)
theorem ql5 : lbO 41 4 = qdb := Qd (qi qnT) rfl
theorem qlg : okL 41 qdb := zd qsb (List.mem_of_getElem? (i := 0) (by kernel_rfl))
theorem qkB : lbO 41 8 = qdG := Qd (qi qnT) rfl
theorem ql0 : okL 41 qdG := zd qsb (List.mem_of_getElem? (i := 1) (by kernel_rfl))
theorem qeM : lbO 41 11 = qay := Qd (qi qnT) rfl
theorem qfq : okL 41 qay := zd qsb (List.mem_of_getElem? (i := 2) (by kernel_rfl))
theorem qti : okL 59 qdF := qA (qi qoi) (by kernel_rfl) (by kernel_rfl)
def qsd := JA_ @qdF.eq_1 (JA_ @Try.f59.eq_1 @qoi)
theorem qkV : lbO 59 5 = qdN := Qd (qi qoi) rfl
theorem ql2 : okL 59 qdN := zd qti (List.mem_of_getElem? (i := 0) (by kernel_rfl))
noncomputable def Q6 (x : (qb × Int × List qj)) : List R × List (Nat × B) := ([R.c (C.own 0 6 0 x.2.2.length), R.agg [C.d (D.int .i64 x.1.Kind), C.d (D.int .i64 x.1.N), C.d (D.int .i64 x.1.Min), C.d (D.sl 2 x.1.Set.length (x.1.Set.flatMap qe)), C.d (D.sl 5 x.1.L.length (x.1.L.flatMap qg))], R.c (C.d (D.int .i64 x.2.1))], [(0, B.row 111 6 ((x.2.2.flatMap qn).map C.d))])
noncomputable def Qj : (Unit ⊕ (List qj)) → R × List (Nat × B) := Sum.elim (fun (e : Unit) => (R.tup [R.c (C.d (D.sl 6 0 [])), R.c (C.d (D.bool Bool.false))], [])) (fun (e : List qj) => (R.tup [R.c (C.own 0 6 0 e.length), R.c (C.d (D.bool Bool.true))], [(0, B.row 111 6 ((e.flatMap qn).map C.d))]))
noncomputable def Zu (rF : (qb × Int × List qj) → Option (Unit ⊕ (List qj))) (n : qb) (deep : Int) : (List qj × Int) → Option ((List qj × Int) ⊕ (Unit ⊕ (List qj))) | (out, i) => if i < ((n.L.length : Nat) : Int) then if 0 ≤ i ∧ i < ((n.L.length : Nat) : Int) then Option.bind n.L[Int.toNat i]? fun (a2 : qb) => Option.bind (rF (a2, (w64 (deep + 1), out))) fun (a3 : Sum Unit (List qj)) => Sum.elim (fun (a4 : Unit) => some (Sum.inr (Sum.inl ()))) (fun (a5 : List qj) => some (Sum.inl (a5, w64 (i + 1)))) a3 else none else some (Sum.inr (Sum.inr out))
theorem q2N (rE : Orc) (rF : (qb × Int × List qj) → Option (Unit ⊕ (List qj))) (hF : ∀ y, rE (.fn 59) 0 (Q6 y).1 (Q6 y).2 = (rF y).bind fun e => some (Qj e)) (hM : ∀ g k a G, g ≠ 59 → rE (.fn g) k a G = ev g k a G) (hR : ∀ g asg bd k a G, rE (.rd g asg bd) k a G = evr g asg bd k a G) : ∀ (out : List qj) (n_Kind n_N n_Min : Int) (n_Set : List qc) (n_L : List qb) (deep i : Int) (out_len : Nat), out_len = out.length → XL2 rE 59 0 5 ⟨[(0, rO 0 6 out_len), (2, rI deep), (4, rP 1), (8, rI i)], [(0, bR 111 6 qn out), (1, B.blk 31 [dI n_Kind, dI n_N, dI n_Min, dL 2 qe n_Set, dL 5 qg n_L])], 2, 47⟩ = (qN (Zu rF (qb.mk n_Kind n_N n_Min n_Set n_L) deep) (out, i)).bind (Sum.elim (fun (e : Unit) => some (Go.Exit.ret, ⟨[(0, R.c (C.any)), (6, R.c (C.nils)), (7, rB Bool.false)], [], 0, 47⟩)) (fun (e : List qj) => some (Go.Exit.exit 0, ⟨[(0, rO 0 6 e.length), (6, R.any), (7, R.any)], [(0, bR 111 6 qn e)], 1, 47⟩))) :=
  by
  intro out n_Kind n_N n_Min n_Set n_L deep i out_len h0
  subst h0
  revert i; revert out; exact q8L qkV ql2 (fun e => by rcases e with _ | _ <;> exact ⟨_, rfl, fun h => by cases h⟩) fun out i => by
    have hF' : ∀ (n_Kind n_N n_Min : Int) (n_Set : List qc) (n_L : List qb) (deep : Int) (out : List qj) (out_len : Nat), out_len = out.length → rE (.fn 59) 0 [rO 0 6 out_len, R.agg [dI n_Kind, dI n_N, dI n_Min, dL 2 qe n_Set, dL 5 qg n_L], rI deep] [(0, bR 111 6 qn out)] = (rF ((qb.mk n_Kind n_N n_Min n_Set n_L), deep, out)).bind (Sum.elim (fun (e : Unit) => some (R.tup [R.c (C.d (D.sl 6 0 [])), rB Bool.false], [])) (fun (e : List qj) => some (R.tup [rO 0 6 e.length, rB Bool.true], [(0, bR 111 6 qn e)]))) := by intro n_Kind n_N n_Min n_Set n_L deep out out_len h0; subst h0; exact (hF ((qb.mk n_Kind n_N n_Min n_Set n_L), deep, out)).trans (by congr 1; funext e; rcases e with _ | _ <;> rfl)
    have := qsd; have := @qdN.eq_1; have := @Zu.eq_1; exact gA
noncomputable def Zk (rF : (qb × Int × List qj) → Option (Unit ⊕ (List qj))) : (qb × Int × List qj) → Option (Unit ⊕ (List qj)) | (n, deep, out) => if 100 < deep then some (Sum.inl ()) else if 10000 ≤ ((out.length : Nat) : Int) then some (Sum.inl ()) else if out.length + 1 ≤ Go.maxLen ∧ (out.length + 1) * 80 ≤ 140737488355328 then Option.bind (qN (Zu rF n deep) (out ++ [qj.mk n deep], 0)) fun (a2 : Sum Unit (List qj)) => Sum.elim (fun (a3 : Unit) => some (Sum.inl ())) (fun (a4 : List qj) => some (Sum.inr a4)) a2 else none
theorem q1P : q4n 59 0 Q6 Qj Zk := by
  intro rE rF hF hM hR x
  obtain ⟨n, deep, out⟩ := x
  show q6K rE 59 0 [rO 0 6 out.length, R.agg [dI n.Kind, dI n.N, dI n.Min, dL 2 qe n.Set, dL 5 qg n.L], rI deep] [(0, bR 111 6 qn out)] = _
  have hF' : ∀ (n_Kind n_N n_Min : Int) (n_Set : List qc) (n_L : List qb) (deep : Int) (out : List qj) (out_len : Nat), out_len = out.length → rE (.fn 59) 0 [rO 0 6 out_len, R.agg [dI n_Kind, dI n_N, dI n_Min, dL 2 qe n_Set, dL 5 qg n_L], rI deep] [(0, bR 111 6 qn out)] = (rF ((qb.mk n_Kind n_N n_Min n_Set n_L), deep, out)).bind (Sum.elim (fun (e : Unit) => some (R.tup [R.c (C.d (D.sl 6 0 [])), rB Bool.false], [])) (fun (e : List qj) => some (R.tup [rO 0 6 e.length, rB Bool.true], [(0, bR 111 6 qn e)]))) := by intro n_Kind n_N n_Min n_Set n_L deep out out_len h0; subst h0; exact (hF ((qb.mk n_Kind n_N n_Min n_Set n_L), deep, out)).trans (by congr 1; funext e; rcases e with _ | _ <;> rfl)
  rw [q1p qoi qti]
  have := qsd; have := q2N rE rF hF hM hR; have := @Zk.eq_1; have := @Qj.eq_1; exact gA
theorem q0r : ∀ x y, Q6 x = Q6 y → x = y := by
  rintro ⟨⟨a0_0, a0_1, a0_2, a0_3, a0_4⟩, a1, a2⟩ ⟨⟨b0_0, b0_1, b0_2, b0_3, b0_4⟩, b1, b2⟩ h
  simp only [Q6, Prod.mk.injEq, List.cons.injEq, R.c.injEq, R.agg.injEq, R.tup.injEq, C.d.injEq, C.own.injEq, C.ptr.injEq, C.eptr.injEq, D.int.injEq, D.bool.injEq, D.str.injEq, D.sl.injEq, B.blk.injEq, B.row.injEq, ZK, q01, ZN, J6, Jl, q0Z, ZI, q1o, true_and, and_true, List.nil_append] at h
  simp only [h]
theorem q4l : ∀ x y, Qj x = Qj y → x = y := by
  rintro (_ | a1) (_ | b1) h <;> simp only [Sum.elim_inl, Sum.elim_inr, Qj, Prod.mk.injEq, List.cons.injEq, R.c.injEq, R.agg.injEq, R.tup.injEq, C.d.injEq, C.own.injEq, C.ptr.injEq, C.eptr.injEq, D.int.injEq, D.bool.injEq, D.str.injEq, D.sl.injEq, B.blk.injEq, B.row.injEq, ZK, q01, ZN, J6, Jl, q0Z, ZI, q1o, true_and, and_true, List.nil_append, reduceCtorEq, false_and, and_false] at h <;> simp only [h]
noncomputable def Q4 : (qb × Int × List qj) → Option (Unit ⊕ (List qj)) := q4R 59 0 Q6 Qj
theorem q6P (x : (qb × Int × List qj)) : Q4 x = Zk Q4 x := q8I qrV.2.2.2 q0r q4l q1P x
theorem q5f (n : qb) (deep : Int) (out : List qj) : ev 59 0 [rO 0 6 out.length, R.agg [dI n.Kind, dI n.N, dI n.Min, dL 2 qe n.Set, dL 5 qg n.L], rI deep] [(0, bR 111 6 qn out)] = (Q4 (n, deep, out)).bind (Sum.elim (fun (e : Unit) => some (R.tup [R.c (C.d (D.sl 6 0 [])), rB Bool.false], [])) (fun (e : List qj) => some (R.tup [rO 0 6 e.length, rB Bool.true], [(0, bR 111 6 qn e)]))) := (q5b qrV.2.2.2 q0r q1P (n, deep, out)).trans (by congr 1; funext e; rcases e with _ | _ <;> rfl)
theorem q6Z : ∀ (n_Kind n_N n_Min : Int) (n_Set : List qc) (n_L : List qb) (deep : Int) (out : List qj) (out_len : Nat), out_len = out.length → ev 59 0 [rO 0 6 out_len, R.agg [dI n_Kind, dI n_N, dI n_Min, dL 2 qe n_Set, dL 5 qg n_L], rI deep] [(0, bR 111 6 qn out)] = (Q4 ((qb.mk n_Kind n_N n_Min n_Set n_L), deep, out)).bind (Sum.elim (fun (e : Unit) => some (R.tup [R.c (C.d (D.sl 6 0 [])), rB Bool.false], [])) (fun (e : List qj) => some (R.tup [rO 0 6 e.length, rB Bool.true], [(0, bR 111 6 qn e)]))) :=
  by
  intro n_Kind n_N n_Min n_Set n_L deep out out_len h0
  subst h0
  exact q5f (qb.mk n_Kind n_N n_Min n_Set n_L) deep out
noncomputable def ZL (n : qb) (deep : Int) : (List qj × Int) → Option ((List qj × Int) ⊕ (Unit ⊕ (List qj))) | (out, i) => if i < ((n.L.length : Nat) : Int) then if 0 ≤ i ∧ i < ((n.L.length : Nat) : Int) then Option.bind n.L[Int.toNat i]? fun (a : qb) => Option.bind (Q4 (a, (w64 (deep + 1), out))) fun (a2 : Sum Unit (List qj)) => Sum.elim (fun (a3 : Unit) => some (Sum.inr (Sum.inl ()))) (fun (a4 : List qj) => some (Sum.inl (a4, w64 (i + 1)))) a2 else none else some (Sum.inr (Sum.inr out))
theorem q5E : ∀ (out : List qj) (n_Kind n_N n_Min : Int) (n_Set : List qc) (n_L : List qb) (deep i : Int) (out_len : Nat), out_len = out.length → XL2 evo 59 0 5 ⟨[(0, rO 0 6 out_len), (2, rI deep), (4, rP 1), (8, rI i)], [(0, bR 111 6 qn out), (1, B.blk 31 [dI n_Kind, dI n_N, dI n_Min, dL 2 qe n_Set, dL 5 qg n_L])], 2, 47⟩ = (qN (ZL (qb.mk n_Kind n_N n_Min n_Set n_L) deep) (out, i)).bind (Sum.elim (fun (e : Unit) => some (Go.Exit.ret, ⟨[(0, R.c (C.any)), (6, R.c (C.nils)), (7, rB Bool.false)], [], 0, 47⟩)) (fun (e : List qj) => some (Go.Exit.exit 0, ⟨[(0, rO 0 6 e.length), (6, R.any), (7, R.any)], [(0, bR 111 6 qn e)], 1, 47⟩))) :=
  by
  intro out n_Kind n_N n_Min n_Set n_L deep i out_len h0
  subst h0
  revert i; revert out; exact q8L qkV ql2 (fun e => by rcases e with _ | _ <;> exact ⟨_, rfl, fun h => by cases h⟩) fun out i => by
    have := qsd; have := @qdN.eq_1; have := @q6Z; have := @ZL.eq_1; exact gA
theorem q3O : ∀ (out0_Need_Kind out0_Need_N out0_Need_Min : Int) (out0_Need_Set : List qc) (out0_Need_L : List qb) (out0_Deep n_Kind n_N n_Min : Int) (n_Set : List qc) (n_L : List qb) (deep i : Int), XL2 evo 59 0 5 ⟨[(0, rO 0 6 1), (2, rI deep), (4, rP 1), (8, rI i)], [(0, B.row 111 6 [dI out0_Need_Kind, dI out0_Need_N, dI out0_Need_Min, dL 2 qe out0_Need_Set, dL 5 qg out0_Need_L, dI out0_Deep]), (1, B.blk 31 [dI n_Kind, dI n_N, dI n_Min, dL 2 qe n_Set, dL 5 qg n_L])], 2, 47⟩ = (qN (ZL (qb.mk n_Kind n_N n_Min n_Set n_L) deep) ([(qj.mk (qb.mk out0_Need_Kind out0_Need_N out0_Need_Min out0_Need_Set out0_Need_L) out0_Deep)], i)).bind (Sum.elim (fun (e : Unit) => some (Go.Exit.ret, ⟨[(0, R.c (C.any)), (6, R.c (C.nils)), (7, rB Bool.false)], [], 0, 47⟩)) (fun (e : List qj) => some (Go.Exit.exit 0, ⟨[(0, rO 0 6 e.length), (6, R.any), (7, R.any)], [(0, bR 111 6 qn e)], 1, 47⟩))) := by
  intro out0_Need_Kind out0_Need_N out0_Need_Min out0_Need_Set out0_Need_L out0_Deep n_Kind n_N n_Min n_Set n_L deep i; have h := q5E [(qj.mk (qb.mk out0_Need_Kind out0_Need_N out0_Need_Min out0_Need_Set out0_Need_L) out0_Deep)] ((qb.mk n_Kind n_N n_Min n_Set n_L)).Kind ((qb.mk n_Kind n_N n_Min n_Set n_L)).N ((qb.mk n_Kind n_N n_Min n_Set n_L)).Min ((qb.mk n_Kind n_N n_Min n_Set n_L)).Set ((qb.mk n_Kind n_N n_Min n_Set n_L)).L deep i _ rfl
  first
    | exact h
    | (simp only [rL, dL, bR, bZ, Nat.reduceAdd] at h; exact h)
noncomputable def q0w (n : qb) (deep : Int) : Option (Unit ⊕ (List qj)) := if 100 < deep then some (Sum.inl ()) else if 1 ≤ Go.maxLen then Option.bind (qN (ZL n deep) ([qj.mk n deep], 0)) fun (a : Sum Unit (List qj)) => Sum.elim (fun (a2 : Unit) => some (Sum.inl ())) (fun (a3 : List qj) => some (Sum.inr a3)) a else none
theorem q8Y : ∀ (n_Kind n_N n_Min : Int) (n_Set : List qc) (n_L : List qb) (deep : Int), ev 59 0 [R.c (C.nils), R.agg [dI n_Kind, dI n_N, dI n_Min, dL 2 qe n_Set, dL 5 qg n_L], rI deep] [] = (q0w (qb.mk n_Kind n_N n_Min n_Set n_L) deep).bind (Sum.elim (fun (e : Unit) => some (R.tup [R.c (C.d (D.sl 6 0 [])), rB Bool.false], [])) (fun (e : List qj) => some (R.tup [rO 0 6 e.length, rB Bool.true], [(0, bR 111 6 qn e)]))) :=
  fun n_Kind n_N n_Min n_Set n_L deep => by
    rw [qB qoi qrV.2.2.2 qti]
    have := qsd; have := @q3O; have := @q0w.eq_1; exact gA
noncomputable def Jn (w0 : List qc) (t3 : List qj) (t6 : Int) (t7 : List qc) (t8 : Int) : Int → Option (Int ⊕ Int) | t9 => if t9 < ((w0.length : Nat) : Int) then if 0 ≤ t9 ∧ t9 < ((w0.length : Nat) : Int) then Option.bind w0[Int.toNat t9]? fun (a : qc) => if 0 ≤ t8 ∧ t8 < ((t7.length : Nat) : Int) then Option.bind t7[Int.toNat t8]? fun (a2 : qc) => if zq a a2 = Bool.true then some (Sum.inl (w64 (t9 + 1))) else some (Sum.inr t9) else none else none else some (Sum.inr t9)
theorem q36 : ∀ (w0 : List qc) (t3 : List qj) (t6 : Int) (t7 : List qc) (t8 t9 : Int) (w0_len : Nat), w0_len = w0.length → XL2 evo 41 0 11 ⟨[(3, rL 6 qn t3), (5, rO 0 2 w0_len), (6, rI t6), (7, rL 2 qe t7), (8, rI t8), (9, rI t9)], [(0, bR 52 2 qe w0)], 1, 85⟩ = (qN (Jn w0 t3 t6 t7 t8) t9).bind (fun (e : Int) => some (Go.Exit.exit 4, ⟨[(3, rL 6 qn t3), (5, rO 0 2 w0.length), (6, rI t6), (7, rL 2 qe t7), (8, rI t8), (9, rI e)], [(0, bR 52 2 qe w0)], 1, 85⟩)) :=
  by
  intro w0 t3 t6 t7 t8 t9 w0_len h0
  subst h0
  revert t9; exact qbx qeM qfq (fun e => by exact ⟨_, rfl, fun h => by cases h⟩) fun x => by
    have := qlm; have := @qay.eq_1; have := @Jq; have := @Jn.eq_1; exact gA
noncomputable def JM (t3 : List qj) (t6 : Int) (t7 : List qc) : (List qc × Int) → Option ((List qc × Int) ⊕ (List qc)) | (w0, t8) => if t8 < ((t7.length : Nat) : Int) then Option.bind (qN (Jn w0 t3 t6 t7 t8) 0) fun (a : Int) => if a < ((w0.length : Nat) : Int) then if 0 ≤ a ∧ a < ((w0.length : Nat) : Int) then Option.bind w0[Int.toNat a]? fun (a2 : qc) => if 0 ≤ t8 ∧ t8 < ((t7.length : Nat) : Int) then Option.bind t7[Int.toNat t8]? fun (a3 : qc) => if (a2.School == a3.School) = Bool.true ∧ (ByteArray.toList a2.Code == ByteArray.toList a3.Code) = Bool.true then some (Sum.inl (w0, w64 (t8 + 1))) else if w0.length + 1 ≤ Go.maxLen ∧ (w0.length + 1) * 24 ≤ 140737488355328 then if 0 ≤ w64 (a + 1) ∧ w64 (a + 1) ≤ ((w0.length + 1 : Nat) : Int) then if w64 (a + 1) = 0 ∨ w64 (a + 1) < ((w0.length + 1 : Nat) : Int) then if 0 ≤ a ∧ a ≤ ((w0.length + 1 : Nat) : Int) then if a = 0 ∨ a < ((w0.length + 1 : Nat) : Int) then if (List.take (w0.length + 1 - Int.toNat a) (List.drop (Int.toNat a) (w0 ++ [qc.mk 0 (ByteArray.mk (List.toArray []))]))).length * 2 = (w0.length + 1 - Int.toNat a) * 2 ∧ Int.toNat (w64 (a + 1)) * 2 + (w0.length + 1 - Int.toNat (w64 (a + 1))) * 2 ≤ (w0.length + 1) * 2 then if 0 ≤ t8 ∧ t8 < ((t7.length : Nat) : Int) then Option.bind t7[Int.toNat t8]? fun (a4 : qc) => if 0 ≤ a ∧ a < ((w0.length + 1 : Nat) : Int) then if Int.toNat a * 2 + 2 ≤ (w0.length + 1) * 2 then some (Sum.inl (List.set (spl (w0 ++ [qc.mk 0 (ByteArray.mk (List.toArray []))]) (Int.toNat (w64 (a + 1))) (List.take (min (w0.length + 1 - Int.toNat a) (w0.length + 1 - Int.toNat (w64 (a + 1)))) (List.take (w0.length + 1 - Int.toNat a) (List.drop (Int.toNat a) (w0 ++ [qc.mk 0 (ByteArray.mk (List.toArray []))]))))) (Int.toNat a) a4, w64 (t8 + 1))) else none else none else none else none else if Int.toNat (w64 (a + 1)) * 2 + (w0.length + 1 - Int.toNat (w64 (a + 1))) * 2 ≤ (w0.length + 1) * 2 then if 0 ≤ t8 ∧ t8 < ((t7.length : Nat) : Int) then Option.bind t7[Int.toNat t8]? fun (a5 : qc) => if 0 ≤ a ∧ a < ((w0.length + 1 : Nat) : Int) then if Int.toNat a * 2 + 2 ≤ (w0.length + 1) * 2 then some (Sum.inl (List.set (w0 ++ [qc.mk 0 (ByteArray.mk (List.toArray []))]) (Int.toNat a) a5, w64 (t8 + 1))) else none else none else none else none else none else if 0 ≤ a ∧ a ≤ ((w0.length + 1 : Nat) : Int) then if a = 0 ∨ a < ((w0.length + 1 : Nat) : Int) then if (List.take (w0.length + 1 - Int.toNat a) (List.drop (Int.toNat a) (w0 ++ [qc.mk 0 (ByteArray.mk (List.toArray []))]))).length * 2 = (w0.length + 1 - Int.toNat a) * 2 then if 0 ≤ t8 ∧ t8 < ((t7.length : Nat) : Int) then Option.bind t7[Int.toNat t8]? fun (a6 : qc) => if 0 ≤ a ∧ a < ((w0.length + 1 : Nat) : Int) then if Int.toNat a * 2 + 2 ≤ (w0.length + 1) * 2 then some (Sum.inl (List.set (w0 ++ [qc.mk 0 (ByteArray.mk (List.toArray []))]) (Int.toNat a) a6, w64 (t8 + 1))) else none else none else none else none else if 0 ≤ t8 ∧ t8 < ((t7.length : Nat) : Int) then Option.bind t7[Int.toNat t8]? fun (a7 : qc) => if 0 ≤ a ∧ a < ((w0.length + 1 : Nat) : Int) then if Int.toNat a * 2 + 2 ≤ (w0.length + 1) * 2 then some (Sum.inl (List.set (w0 ++ [qc.mk 0 (ByteArray.mk (List.toArray []))]) (Int.toNat a) a7, w64 (t8 + 1))) else none else none else none else none else none else none else none else none else if w0.length + 1 ≤ Go.maxLen ∧ (w0.length + 1) * 24 ≤ 140737488355328 then if 0 ≤ w64 (a + 1) ∧ w64 (a + 1) ≤ ((w0.length + 1 : Nat) : Int) then if w64 (a + 1) = 0 ∨ w64 (a + 1) < ((w0.length + 1 : Nat) : Int) then if 0 ≤ a ∧ a ≤ ((w0.length + 1 : Nat) : Int) then if a = 0 ∨ a < ((w0.length + 1 : Nat) : Int) then if (List.take (w0.length + 1 - Int.toNat a) (List.drop (Int.toNat a) (w0 ++ [qc.mk 0 (ByteArray.mk (List.toArray []))]))).length * 2 = (w0.length + 1 - Int.toNat a) * 2 ∧ Int.toNat (w64 (a + 1)) * 2 + (w0.length + 1 - Int.toNat (w64 (a + 1))) * 2 ≤ (w0.length + 1) * 2 then if 0 ≤ t8 ∧ t8 < ((t7.length : Nat) : Int) then Option.bind t7[Int.toNat t8]? fun (a8 : qc) => if 0 ≤ a ∧ a < ((w0.length + 1 : Nat) : Int) then if Int.toNat a * 2 + 2 ≤ (w0.length + 1) * 2 then some (Sum.inl (List.set (spl (w0 ++ [qc.mk 0 (ByteArray.mk (List.toArray []))]) (Int.toNat (w64 (a + 1))) (List.take (min (w0.length + 1 - Int.toNat a) (w0.length + 1 - Int.toNat (w64 (a + 1)))) (List.take (w0.length + 1 - Int.toNat a) (List.drop (Int.toNat a) (w0 ++ [qc.mk 0 (ByteArray.mk (List.toArray []))]))))) (Int.toNat a) a8, w64 (t8 + 1))) else none else none else none else none else if Int.toNat (w64 (a + 1)) * 2 + (w0.length + 1 - Int.toNat (w64 (a + 1))) * 2 ≤ (w0.length + 1) * 2 then if 0 ≤ t8 ∧ t8 < ((t7.length : Nat) : Int) then Option.bind t7[Int.toNat t8]? fun (a9 : qc) => if 0 ≤ a ∧ a < ((w0.length + 1 : Nat) : Int) then if Int.toNat a * 2 + 2 ≤ (w0.length + 1) * 2 then some (Sum.inl (List.set (w0 ++ [qc.mk 0 (ByteArray.mk (List.toArray []))]) (Int.toNat a) a9, w64 (t8 + 1))) else none else none else none else none else none else if 0 ≤ a ∧ a ≤ ((w0.length + 1 : Nat) : Int) then if a = 0 ∨ a < ((w0.length + 1 : Nat) : Int) then if (List.take (w0.length + 1 - Int.toNat a) (List.drop (Int.toNat a) (w0 ++ [qc.mk 0 (ByteArray.mk (List.toArray []))]))).length * 2 = (w0.length + 1 - Int.toNat a) * 2 then if 0 ≤ t8 ∧ t8 < ((t7.length : Nat) : Int) then Option.bind t7[Int.toNat t8]? fun (a10 : qc) => if 0 ≤ a ∧ a < ((w0.length + 1 : Nat) : Int) then if Int.toNat a * 2 + 2 ≤ (w0.length + 1) * 2 then some (Sum.inl (List.set (w0 ++ [qc.mk 0 (ByteArray.mk (List.toArray []))]) (Int.toNat a) a10, w64 (t8 + 1))) else none else none else none else none else if 0 ≤ t8 ∧ t8 < ((t7.length : Nat) : Int) then Option.bind t7[Int.toNat t8]? fun (a11 : qc) => if 0 ≤ a ∧ a < ((w0.length + 1 : Nat) : Int) then if Int.toNat a * 2 + 2 ≤ (w0.length + 1) * 2 then some (Sum.inl (List.set (w0 ++ [qc.mk 0 (ByteArray.mk (List.toArray []))]) (Int.toNat a) a11, w64 (t8 + 1))) else none else none else none else none else none else none else some (Sum.inr w0)
theorem q3r : ∀ (w0 : List qc) (t3 : List qj) (t6 : Int) (t7 : List qc) (t8 : Int) (w0_len : Nat), w0_len = w0.length → XL2 evo 41 0 8 ⟨[(3, rL 6 qn t3), (5, rO 0 2 w0_len), (6, rI t6), (7, rL 2 qe t7), (8, rI t8)], [(0, bR 52 2 qe w0)], 1, 85⟩ = (qN (JM t3 t6 t7) (w0, t8)).bind (fun (e : List qc) => some (Go.Exit.exit 2, ⟨[(3, rL 6 qn t3), (5, rO 0 2 e.length), (6, rI t6)], [(0, bR 52 2 qe e)], 1, 85⟩)) :=
  by
  intro w0 t3 t6 t7 t8 w0_len h0
  subst h0
  revert t8; revert w0; exact q8L qkB ql0 (fun e => by exact ⟨_, rfl, fun h => by cases h⟩) fun w0 t8 => by
    have := qlm; have := @qdG.eq_1; have := @q36; have := @JM.eq_1; exact gA
noncomputable def ZH (t3 : List qj) : (List qc × Int) → Option ((List qc × Int) ⊕ (List qc)) | (w0, t6) => if t6 < ((t3.length : Nat) : Int) then if 0 ≤ t6 ∧ t6 < ((t3.length : Nat) : Int) then Option.bind t3[Int.toNat t6]? fun (a : qj) => Option.bind (qN (JM t3 t6 a.Need.Set) (w0, 0)) fun (a2 : List qc) => some (Sum.inl (a2, w64 (t6 + 1))) else none else some (Sum.inr w0)
theorem q3F : ∀ (w0 : List qc) (t3 : List qj) (t6 : Int) (w0_len : Nat), w0_len = w0.length → XL2 evo 41 0 4 ⟨[(3, rL 6 qn t3), (5, rO 0 2 w0_len), (6, rI t6)], [(0, bR 52 2 qe w0)], 1, 85⟩ = (qN (ZH t3) (w0, t6)).bind (fun (e : List qc) => some (Go.Exit.exit 0, ⟨[(5, rO 0 2 e.length)], [(0, bR 52 2 qe e)], 1, 85⟩)) :=
  by
  intro w0 t3 t6 w0_len h0
  subst h0
  revert t6; revert w0; exact q8L ql5 qlg (fun e => by exact ⟨_, rfl, fun h => by cases h⟩) fun w0 t6 => by
    have := qlm; have := @qdb.eq_1; have := @q3r; have := @ZH.eq_1; exact gA
theorem q1R : ∀  (t6 : Int), XL2 evo 41 0 4 ⟨[(3, R.c (C.d (D.sl 6 0 []))), (5, rO 0 2 0), (6, rI t6)], [(0, B.row 52 2 [])], 1, 85⟩ = (qN (ZH []) ([], t6)).bind (fun (e : List qc) => some (Go.Exit.exit 0, ⟨[(5, rO 0 2 e.length)], [(0, bR 52 2 qe e)], 1, 85⟩)) := by
  intro t6; have h := q3F [] [] t6 _ rfl
  first
    | exact h
    | (simp only [rL, dL, bR, bZ, Nat.reduceAdd] at h; exact h)
noncomputable def zy (w0 : List qj) (w1 : List qc) (t6 : Int) (t7 : List qc) (t8 : Int) : Int → Option (Int ⊕ Int) | t9 => if t9 < ((w1.length : Nat) : Int) then if 0 ≤ t9 ∧ t9 < ((w1.length : Nat) : Int) then Option.bind w1[Int.toNat t9]? fun (a : qc) => if 0 ≤ t8 ∧ t8 < ((t7.length : Nat) : Int) then Option.bind t7[Int.toNat t8]? fun (a2 : qc) => if zq a a2 = Bool.true then some (Sum.inl (w64 (t9 + 1))) else some (Sum.inr t9) else none else none else some (Sum.inr t9)
theorem q1O : ∀ (w0 : List qj) (w1 : List qc) (t6 : Int) (t7 : List qc) (t8 t9 : Int) (w0_len w1_len : Nat), w0_len = w0.length → w1_len = w1.length → XL2 evo 41 0 11 ⟨[(3, rO 0 6 w0_len), (5, rO 1 2 w1_len), (6, rI t6), (7, rL 2 qe t7), (8, rI t8), (9, rI t9)], [(0, bR 111 6 qn w0), (1, bR 52 2 qe w1)], 2, 85⟩ = (qN (zy w0 w1 t6 t7 t8) t9).bind (fun (e : Int) => some (Go.Exit.exit 4, ⟨[(3, rO 0 6 w0.length), (5, rO 1 2 w1.length), (6, rI t6), (7, rL 2 qe t7), (8, rI t8), (9, rI e)], [(0, bR 111 6 qn w0), (1, bR 52 2 qe w1)], 2, 85⟩)) :=
  by
  intro w0 w1 t6 t7 t8 t9 w0_len w1_len h0 h1
  subst h0 h1
  revert t9; exact qbx qeM qfq (fun e => by exact ⟨_, rfl, fun h => by cases h⟩) fun x => by
    have := qlm; have := @qay.eq_1; have := @Jq; have := @zy.eq_1; exact gA
noncomputable def zE (w0 : List qj) (t6 : Int) (t7 : List qc) : (List qc × Int) → Option ((List qc × Int) ⊕ (List qc)) | (w1, t8) => if t8 < ((t7.length : Nat) : Int) then Option.bind (qN (zy w0 w1 t6 t7 t8) 0) fun (a : Int) => if a < ((w1.length : Nat) : Int) then if 0 ≤ a ∧ a < ((w1.length : Nat) : Int) then Option.bind w1[Int.toNat a]? fun (a2 : qc) => if 0 ≤ t8 ∧ t8 < ((t7.length : Nat) : Int) then Option.bind t7[Int.toNat t8]? fun (a3 : qc) => if (a2.School == a3.School) = Bool.true ∧ (ByteArray.toList a2.Code == ByteArray.toList a3.Code) = Bool.true then some (Sum.inl (w1, w64 (t8 + 1))) else if w1.length + 1 ≤ Go.maxLen ∧ (w1.length + 1) * 24 ≤ 140737488355328 then if 0 ≤ w64 (a + 1) ∧ w64 (a + 1) ≤ ((w1.length + 1 : Nat) : Int) then if w64 (a + 1) = 0 ∨ w64 (a + 1) < ((w1.length + 1 : Nat) : Int) then if 0 ≤ a ∧ a ≤ ((w1.length + 1 : Nat) : Int) then if a = 0 ∨ a < ((w1.length + 1 : Nat) : Int) then if (List.take (w1.length + 1 - Int.toNat a) (List.drop (Int.toNat a) (w1 ++ [qc.mk 0 (ByteArray.mk (List.toArray []))]))).length * 2 = (w1.length + 1 - Int.toNat a) * 2 ∧ Int.toNat (w64 (a + 1)) * 2 + (w1.length + 1 - Int.toNat (w64 (a + 1))) * 2 ≤ (w1.length + 1) * 2 then if 0 ≤ t8 ∧ t8 < ((t7.length : Nat) : Int) then Option.bind t7[Int.toNat t8]? fun (a4 : qc) => if 0 ≤ a ∧ a < ((w1.length + 1 : Nat) : Int) then if Int.toNat a * 2 + 2 ≤ (w1.length + 1) * 2 then some (Sum.inl (List.set (spl (w1 ++ [qc.mk 0 (ByteArray.mk (List.toArray []))]) (Int.toNat (w64 (a + 1))) (List.take (min (w1.length + 1 - Int.toNat a) (w1.length + 1 - Int.toNat (w64 (a + 1)))) (List.take (w1.length + 1 - Int.toNat a) (List.drop (Int.toNat a) (w1 ++ [qc.mk 0 (ByteArray.mk (List.toArray []))]))))) (Int.toNat a) a4, w64 (t8 + 1))) else none else none else none else none else if Int.toNat (w64 (a + 1)) * 2 + (w1.length + 1 - Int.toNat (w64 (a + 1))) * 2 ≤ (w1.length + 1) * 2 then if 0 ≤ t8 ∧ t8 < ((t7.length : Nat) : Int) then Option.bind t7[Int.toNat t8]? fun (a5 : qc) => if 0 ≤ a ∧ a < ((w1.length + 1 : Nat) : Int) then if Int.toNat a * 2 + 2 ≤ (w1.length + 1) * 2 then some (Sum.inl (List.set (w1 ++ [qc.mk 0 (ByteArray.mk (List.toArray []))]) (Int.toNat a) a5, w64 (t8 + 1))) else none else none else none else none else none else if 0 ≤ a ∧ a ≤ ((w1.length + 1 : Nat) : Int) then if a = 0 ∨ a < ((w1.length + 1 : Nat) : Int) then if (List.take (w1.length + 1 - Int.toNat a) (List.drop (Int.toNat a) (w1 ++ [qc.mk 0 (ByteArray.mk (List.toArray []))]))).length * 2 = (w1.length + 1 - Int.toNat a) * 2 then if 0 ≤ t8 ∧ t8 < ((t7.length : Nat) : Int) then Option.bind t7[Int.toNat t8]? fun (a6 : qc) => if 0 ≤ a ∧ a < ((w1.length + 1 : Nat) : Int) then if Int.toNat a * 2 + 2 ≤ (w1.length + 1) * 2 then some (Sum.inl (List.set (w1 ++ [qc.mk 0 (ByteArray.mk (List.toArray []))]) (Int.toNat a) a6, w64 (t8 + 1))) else none else none else none else none else if 0 ≤ t8 ∧ t8 < ((t7.length : Nat) : Int) then Option.bind t7[Int.toNat t8]? fun (a7 : qc) => if 0 ≤ a ∧ a < ((w1.length + 1 : Nat) : Int) then if Int.toNat a * 2 + 2 ≤ (w1.length + 1) * 2 then some (Sum.inl (List.set (w1 ++ [qc.mk 0 (ByteArray.mk (List.toArray []))]) (Int.toNat a) a7, w64 (t8 + 1))) else none else none else none else none else none else none else none else none else if w1.length + 1 ≤ Go.maxLen ∧ (w1.length + 1) * 24 ≤ 140737488355328 then if 0 ≤ w64 (a + 1) ∧ w64 (a + 1) ≤ ((w1.length + 1 : Nat) : Int) then if w64 (a + 1) = 0 ∨ w64 (a + 1) < ((w1.length + 1 : Nat) : Int) then if 0 ≤ a ∧ a ≤ ((w1.length + 1 : Nat) : Int) then if a = 0 ∨ a < ((w1.length + 1 : Nat) : Int) then if (List.take (w1.length + 1 - Int.toNat a) (List.drop (Int.toNat a) (w1 ++ [qc.mk 0 (ByteArray.mk (List.toArray []))]))).length * 2 = (w1.length + 1 - Int.toNat a) * 2 ∧ Int.toNat (w64 (a + 1)) * 2 + (w1.length + 1 - Int.toNat (w64 (a + 1))) * 2 ≤ (w1.length + 1) * 2 then if 0 ≤ t8 ∧ t8 < ((t7.length : Nat) : Int) then Option.bind t7[Int.toNat t8]? fun (a8 : qc) => if 0 ≤ a ∧ a < ((w1.length + 1 : Nat) : Int) then if Int.toNat a * 2 + 2 ≤ (w1.length + 1) * 2 then some (Sum.inl (List.set (spl (w1 ++ [qc.mk 0 (ByteArray.mk (List.toArray []))]) (Int.toNat (w64 (a + 1))) (List.take (min (w1.length + 1 - Int.toNat a) (w1.length + 1 - Int.toNat (w64 (a + 1)))) (List.take (w1.length + 1 - Int.toNat a) (List.drop (Int.toNat a) (w1 ++ [qc.mk 0 (ByteArray.mk (List.toArray []))]))))) (Int.toNat a) a8, w64 (t8 + 1))) else none else none else none else none else if Int.toNat (w64 (a + 1)) * 2 + (w1.length + 1 - Int.toNat (w64 (a + 1))) * 2 ≤ (w1.length + 1) * 2 then if 0 ≤ t8 ∧ t8 < ((t7.length : Nat) : Int) then Option.bind t7[Int.toNat t8]? fun (a9 : qc) => if 0 ≤ a ∧ a < ((w1.length + 1 : Nat) : Int) then if Int.toNat a * 2 + 2 ≤ (w1.length + 1) * 2 then some (Sum.inl (List.set (w1 ++ [qc.mk 0 (ByteArray.mk (List.toArray []))]) (Int.toNat a) a9, w64 (t8 + 1))) else none else none else none else none else none else if 0 ≤ a ∧ a ≤ ((w1.length + 1 : Nat) : Int) then if a = 0 ∨ a < ((w1.length + 1 : Nat) : Int) then if (List.take (w1.length + 1 - Int.toNat a) (List.drop (Int.toNat a) (w1 ++ [qc.mk 0 (ByteArray.mk (List.toArray []))]))).length * 2 = (w1.length + 1 - Int.toNat a) * 2 then if 0 ≤ t8 ∧ t8 < ((t7.length : Nat) : Int) then Option.bind t7[Int.toNat t8]? fun (a10 : qc) => if 0 ≤ a ∧ a < ((w1.length + 1 : Nat) : Int) then if Int.toNat a * 2 + 2 ≤ (w1.length + 1) * 2 then some (Sum.inl (List.set (w1 ++ [qc.mk 0 (ByteArray.mk (List.toArray []))]) (Int.toNat a) a10, w64 (t8 + 1))) else none else none else none else none else if 0 ≤ t8 ∧ t8 < ((t7.length : Nat) : Int) then Option.bind t7[Int.toNat t8]? fun (a11 : qc) => if 0 ≤ a ∧ a < ((w1.length + 1 : Nat) : Int) then if Int.toNat a * 2 + 2 ≤ (w1.length + 1) * 2 then some (Sum.inl (List.set (w1 ++ [qc.mk 0 (ByteArray.mk (List.toArray []))]) (Int.toNat a) a11, w64 (t8 + 1))) else none else none else none else none else none else none else some (Sum.inr w1)
theorem q23 : ∀ (w0 : List qj) (w1 : List qc) (t6 : Int) (t7 : List qc) (t8 : Int) (w0_len w1_len : Nat), w0_len = w0.length → w1_len = w1.length → XL2 evo 41 0 8 ⟨[(3, rO 0 6 w0_len), (5, rO 1 2 w1_len), (6, rI t6), (7, rL 2 qe t7), (8, rI t8)], [(0, bR 111 6 qn w0), (1, bR 52 2 qe w1)], 2, 85⟩ = (qN (zE w0 t6 t7) (w1, t8)).bind (fun (e : List qc) => some (Go.Exit.exit 2, ⟨[(3, rO 0 6 w0.length), (5, rO 1 2 e.length), (6, rI t6)], [(0, bR 111 6 qn w0), (1, bR 52 2 qe e)], 2, 85⟩)) :=
  by
  intro w0 w1 t6 t7 t8 w0_len w1_len h0 h1
  subst h0 h1
  revert t8; revert w1; exact q8L qkB ql0 (fun e => by exact ⟨_, rfl, fun h => by cases h⟩) fun w1 t8 => by
    have := qlm; have := @qdG.eq_1; have := @q1O; have := @zE.eq_1; exact gA
noncomputable def zD (w0 : List qj) : (List qc × Int) → Option ((List qc × Int) ⊕ (List qc)) | (w1, t6) => if t6 < ((w0.length : Nat) : Int) then if 0 ≤ t6 ∧ t6 < ((w0.length : Nat) : Int) then Option.bind w0[Int.toNat t6]? fun (a : qj) => Option.bind (qN (zE w0 t6 a.Need.Set) (w1, 0)) fun (a2 : List qc) => some (Sum.inl (a2, w64 (t6 + 1))) else none else some (Sum.inr w1)
theorem q2e : ∀ (w0 : List qj) (w1 : List qc) (t6 : Int) (w0_len w1_len : Nat), w0_len = w0.length → w1_len = w1.length → XL2 evo 41 0 4 ⟨[(3, rO 0 6 w0_len), (5, rO 1 2 w1_len), (6, rI t6)], [(0, bR 111 6 qn w0), (1, bR 52 2 qe w1)], 2, 85⟩ = (qN (zD w0) (w1, t6)).bind (fun (e : List qc) => some (Go.Exit.exit 0, ⟨[(5, rO 0 2 e.length)], [(0, bR 52 2 qe e)], 1, 85⟩)) :=
  by
  intro w0 w1 t6 w0_len w1_len h0 h1
  subst h0 h1
  revert t6; revert w1; exact q8L ql5 qlg (fun e => by exact ⟨_, rfl, fun h => by cases h⟩) fun w1 t6 => by
    have := qlm; have := @qdb.eq_1; have := @q23; have := @zD.eq_1; exact gA
theorem q18 : ∀  (w0 : List qj) (t6 : Int) (w0_len : Nat), w0_len = w0.length → XL2 evo 41 0 4 ⟨[(3, rO 0 6 w0_len), (5, rO 1 2 0), (6, rI t6)], [(0, bR 111 6 qn w0), (1, B.row 52 2 [])], 2, 85⟩ = (qN (zD w0) ([], t6)).bind (fun (e : List qc) => some (Go.Exit.exit 0, ⟨[(5, rO 0 2 e.length)], [(0, bR 52 2 qe e)], 1, 85⟩)) := by
  intro w0 t6 w0_len h0; subst h0; have h := q2e w0 [] t6 _ _ rfl rfl
  first
    | exact h
    | (simp only [rL, dL, bR, bZ, Nat.reduceAdd] at h; exact h)
noncomputable def ZU (x0 : qb) : Option (List qc) := Option.bind (q0w x0 1) fun (a : Sum Unit (List qj)) => Sum.elim (fun (a2 : Unit) => Option.bind (qN (ZH []) ([], 0)) fun (a4 : List qc) => some a4) (fun (a3 : List qj) => Option.bind (qN (zD a3) ([], 0)) fun (a5 : List qc) => some a5) a
theorem q5m : ∀ (x0_Kind x0_N x0_Min : Int) (x0_Set : List qc) (x0_L : List qb), ev 41 0 [R.agg [dI x0_Kind, dI x0_N, dI x0_Min, dL 2 qe x0_Set, dL 5 qg x0_L]] [] = (ZU (qb.mk x0_Kind x0_N x0_Min x0_Set x0_L)).bind (fun (e : List qc) => some (rO 0 2 e.length, [(0, bR 52 2 qe e)])) :=
  fun x0_Kind x0_N x0_Min x0_Set x0_L => by
    rw [qB qnT qw9.2.2.2 qsb]
    have := qlm; have := @q8Y; have := @q1R; have := @q18; have := @ZU.eq_1; exact gA
theorem qz1 : okL 42 qhL := qA (qi qt0) (by kernel_rfl) (by kernel_rfl)
def qyE := JA_ @qhL.eq_1 (JA_ @Try.f42.eq_1 @qt0)
theorem qxs : okL 61 qgH := qA (qi qud) (by kernel_rfl) (by kernel_rfl)
def qxc := JA_ @qgH.eq_1 (JA_ @Try.f61.eq_1 @qud)
noncomputable def q12 (n : Int) (m : Int) : Option Int := if m = 0 then none else if m = 0 then none else some (Int.tmod (w64 (Int.tmod n m + m)) m)
theorem q9o : ∀ (n m : Int), ev 61 0 [rI n, rI m] [] = (q12 n m).bind (fun (e : Int) => some (rI e, [])) :=
  fun n m => by
    rw [qB qud qw6.2.2.2 qxs]
    have := qxc; have := @q12.eq_1; exact gA
noncomputable def zf (n : Int) (d : qh) : Option (Int × qh) := if ((d.L.length : Nat) : Int) ≤ d.At then some (0, d) else if 0 ≤ w64 (w64 (d.At + 1) - 1) ∧ w64 (w64 (d.At + 1) - 1) < ((d.L.length : Nat) : Int) then Option.bind d.L[Int.toNat (w64 (w64 (d.At + 1) - 1))]? fun (a : Int) => Option.bind (q12 a n) fun (a2 : Int) => some (a2, qh.mk d.L (w64 (d.At + 1))) else none
theorem q0L : ∀ (n : Int) (d_L : List Int) (d_At : Int), ev 42 1 [rP 0, rI n] [(0, B.blk 85 [dL 1 eI d_L, dI d_At])] = (zf n (qh.mk d_L d_At)).bind (fun (e : Int × qh) => some (rI e.1, [(0, B.blk 85 [dL 1 eI e.2.L, dI e.2.At])])) :=
  fun n d_L d_At => by
    rw [qB qt0 qvb.2.2.2 qz1]
    have := qyE; have := @q9o; have := @zf.eq_1; exact gA
noncomputable def zQ (w1 : List qc) (t8 : Int) : (List qa × qh × Int) → Option ((List qa × qh × Int) ⊕ (List qa)) | (w2, b0, t9) => if t9 < t8 then Option.bind (zf ((w1.length : Nat) : Int) b0) fun (a : Prod Int qh) => if 0 ≤ a.1 ∧ a.1 < ((w1.length : Nat) : Int) then Option.bind w1[Int.toNat a.1]? fun (a2 : qc) => Option.bind (zf 4 a.2) fun (a3 : Prod Int qh) => if 0 ≤ a3.1 ∧ a3.1 < 4 then Option.bind [(5 : Int), 6, 10, 3][Int.toNat a3.1]? fun (a4 : Int) => Option.bind (zf 7 a3.2) fun (a5 : Prod Int qh) => if 0 ≤ a5.1 ∧ a5.1 < 7 then Option.bind [(50 : Int), 60, 90, 40, 100, 79, 80][Int.toNat a5.1]? fun (a6 : Int) => Option.bind (zf 600 a5.2) fun (a7 : Prod Int qh) => Option.bind (zf 8 a7.2) fun (a8 : Prod Int qh) => if (a8.1 == 0) = Bool.true then if 0 < t9 then if 0 ≤ w64 (t9 - 1) ∧ w64 (t9 - 1) < ((w2.length : Nat) : Int) then Option.bind w2[Int.toNat (w64 (t9 - 1))]? fun (a9 : qa) => if 0 < ((a9.Sources.length : Nat) : Int) then Option.bind a9.Sources[0]? fun (a10 : Int) => if w2.length + 1 ≤ Go.maxLen ∧ (w2.length + 1) * 104 ≤ 140737488355328 then some (Sum.inl (w2 ++ [qa.mk a2 a4 a6 a7.1 [a10] 0 []], a8.2, w64 (t9 + 1))) else none else none else none else if w2.length + 1 ≤ Go.maxLen ∧ (w2.length + 1) * 104 ≤ 140737488355328 then some (Sum.inl (w2 ++ [qa.mk a2 a4 a6 a7.1 [w64 (w64 (w64 (1000000 * a2.School) + t9) + 1)] 0 []], a8.2, w64 (t9 + 1))) else none else if w2.length + 1 ≤ Go.maxLen ∧ (w2.length + 1) * 104 ≤ 140737488355328 then some (Sum.inl (w2 ++ [qa.mk a2 a4 a6 a7.1 [w64 (w64 (w64 (1000000 * a2.School) + t9) + 1)] 0 []], a8.2, w64 (t9 + 1))) else none else none else none else none else some (Sum.inr w2)
theorem q5x : ∀ (w1 : List qc) (w2 : List qa) (b0_L : List Int) (b0_At t8 t9 : Int) (w1_len w2_len : Nat), w1_len = w1.length → w2_len = w2.length → XL2 evo 20 0 6 ⟨[(5, rP 0), (6, rO 1 2 w1_len), (7, rO 2 8 w2_len), (8, rI t8), (9, rI t9)], [(0, B.blk 85 [dL 1 eI b0_L, dI b0_At]), (1, bR 52 2 qe w1), (2, bR 54 8 qf w2)], 3, 77⟩ = (qN (zQ w1 t8) (w2, (qh.mk b0_L b0_At), t9)).bind (fun (e : List qa) => some (Go.Exit.exit 0, ⟨[(7, rO 0 8 e.length)], [(0, bR 54 8 qf e)], 1, 77⟩)) :=
  by
  intro w1 w2 b0_L b0_At t8 t9 w1_len w2_len h0 h1
  subst h0 h1
  have h := q2l (E := evo) (f := 20) (k := 0) (st := fun x : List qa × qh × Int => (⟨[(5, rP 0), (6, rO 1 2 w1.length), (7, rO 2 8 x.1.length), (8, rI t8), (9, rI x.2.2)], [(0, B.blk 85 [dL 1 eI x.2.1.L, dI x.2.1.At]), (1, bR 52 2 qe w1), (2, bR 54 8 qf x.1)], 3, 77⟩ : S)) (ex := fun (e : List qa) => (Go.Exit.exit 0, ⟨[(7, rO 0 8 e.length)], [(0, bR 54 8 qf e)], 1, 77⟩)) (step := (zQ w1 t8)) qrm qob (fun e h => by cases h) (fun x => by
    obtain ⟨w2, b0, t9⟩ := x; have := qvJ; have := @qhX.eq_1; have := @q0L; have := @zQ.eq_1; exact gA) (w2, (qh.mk b0_L b0_At), t9)
  exact h
theorem q3J : ∀  (w1 : List qc) (b0_L : List Int) (b0_At t8 t9 : Int) (w1_len : Nat), w1_len = w1.length → XL2 evo 20 0 6 ⟨[(5, rP 0), (6, rO 1 2 w1_len), (7, rO 2 8 0), (8, rI t8), (9, rI t9)], [(0, B.blk 85 [dL 1 eI b0_L, dI b0_At]), (1, bR 52 2 qe w1), (2, B.row 54 8 [])], 3, 77⟩ = (qN (zQ w1 t8) ([], (qh.mk b0_L b0_At), t9)).bind (fun (e : List qa) => some (Go.Exit.exit 0, ⟨[(7, rO 0 8 e.length)], [(0, bR 54 8 qf e)], 1, 77⟩)) := by
  intro w1 b0_L b0_At t8 t9 w1_len h0; subst h0; have h := q5x w1 [] ((qh.mk b0_L b0_At)).L ((qh.mk b0_L b0_At)).At t8 t9 _ _ rfl rfl
  first
    | exact h
    | (simp only [rL, dL, bR, bZ, Nat.reduceAdd] at h; exact h)
noncomputable def q0t (x0 : qb) (x1 : List Int) : Option (List qa) := Option.bind (ZU x0) fun (a : List qc) => if a.length + 1 ≤ Go.maxLen ∧ (a.length + 1) * 24 ≤ 140737488355328 then Option.bind (zf 8 (qh.mk x1 0)) fun (a2 : Prod Int qh) => Option.bind (qN (zQ (a ++ [qc.mk 1 (ByteArray.mk (List.toArray [90]))]) a2.1) ([], (a2.2, 0))) fun (a3 : List qa) => some a3 else none
theorem q8V : ∀ (x0_Kind x0_N x0_Min : Int) (x0_Set : List qc) (x0_L : List qb) (x1 : List Int), ev 20 0 [R.agg [dI x0_Kind, dI x0_N, dI x0_Min, dL 2 qe x0_Set, dL 5 qg x0_L], rL 1 eI x1] [] = (q0t (qb.mk x0_Kind x0_N x0_Min x0_Set x0_L) x1).bind (fun (e : List qa) => some (rL 8 qf e, [])) :=
  fun x0_Kind x0_N x0_Min x0_Set x0_L x1 => by
    rw [qB qsr qvF.2.2.2 qw7]
    have := qvJ; have := @q5m; have := @q0L; have := @q3J; have := @q0t.eq_1; exact gA
noncomputable def Za (c : ZV) : Option (qb × List qa) := Option.bind (q0q c.Need) fun (a : qb) => Option.bind (q0t a c.L) fun (a2 : List qa) => some (a, a2)
theorem q4h : ∀ (c_Need c_L : List Int) (c_Odd_0_0 c_Odd_0_1 c_Odd_0_2 c_Odd_1_0 c_Odd_1_1 c_Odd_1_2 : Int), ev 7 0 [R.agg [dL 1 eI c_Need, dL 1 eI c_L, dI c_Odd_0_0, dI c_Odd_0_1, dI c_Odd_0_2, dI c_Odd_1_0, dI c_Odd_1_1, dI c_Odd_1_2]] [] = (Za (ZV.mk c_Need c_L (qsf.mk (qm9.mk c_Odd_0_0 c_Odd_0_1 c_Odd_0_2) (qm9.mk c_Odd_1_0 c_Odd_1_1 c_Odd_1_2)))).bind (fun (e : qb × List qa) => some (R.tup [R.agg [dI e.1.Kind, dI e.1.N, dI e.1.Min, dL 2 qe e.1.Set, dL 5 qg e.1.L], rL 8 qf e.2], [])) :=
  fun c_Need c_L c_Odd_0_0 c_Odd_0_1 c_Odd_0_2 c_Odd_1_0 c_Odd_1_1 c_Odd_1_2 => by
    rw [qB bd7 pw7.2.2.2 lo7]
    have := cx7; have := @q8l; have := @q8V; have := @Za.eq_1; exact gA
noncomputable def zC (b0 : qb) (b1 : qd) (t3 : Bool) (t5 : List qa) (t7 : List Bool) (t9 : Int) (t58 : Int) : (Int × Int) → Option ((Int × Int) ⊕ Int) | (t10, t59) => if t59 < t58 then some (Sum.inl (w64 (t10 * t9), w64 (t59 + 1))) else some (Sum.inr t10)
theorem q2d : ∀ (b0_Kind b0_N b0_Min : Int) (b0_Set : List qc) (b0_L : List qb) (b1_Worst b1_Best b1_Pass : Int) (t3 : Bool) (t5 : List qa) (t7 : List Bool) (t9 t10 t58 t59 : Int), XL2 evo 4 0 11 ⟨[(3, rB t3), (4, rP 0), (5, rL 8 qf t5), (6, rP 1), (7, rL 1 eB t7), (9, rI t9), (10, rI t10), (58, rI t58), (59, rI t59)], [(0, B.blk 31 [dI b0_Kind, dI b0_N, dI b0_Min, dL 2 qe b0_Set, dL 5 qg b0_L]), (1, B.blk 37 [dI b1_Worst, dI b1_Best, dI b1_Pass])], 2, 161⟩ = (qN (zC (qb.mk b0_Kind b0_N b0_Min b0_Set b0_L) (qd.mk b1_Worst b1_Best b1_Pass) t3 t5 t7 t9 t58) (t10, t59)).bind (fun (e : Int) => some (Go.Exit.exit 0, ⟨[(3, rB t3), (4, rP 0), (5, rL 8 qf t5), (6, rP 1), (7, rL 1 eB t7), (9, rI t9), (10, rI e)], [(0, B.blk 31 [dI b0_Kind, dI b0_N, dI b0_Min, dL 2 qe b0_Set, dL 5 qg b0_L]), (1, B.blk 37 [dI b1_Worst, dI b1_Best, dI b1_Pass])], 2, 161⟩)) :=
  fun b0_Kind b0_N b0_Min b0_Set b0_L b1_Worst b1_Best b1_Pass t3 t5 t7 t9 t10 t58 t59 => by
    revert t59; revert t10; exact q8L qrl qq9 (fun e => by exact ⟨_, rfl, fun h => by cases h⟩) fun t10 t59 => by
      have := cx4; have := @qgD.eq_1; have := @zC.eq_1; exact gA
noncomputable def zF (w3 : List Int) (w4 : List Int) (b0 : qb) (b1 : qd) (m2 : List (Int × Bool)) (t3 : Bool) (t5 : List qa) (t7 : List Bool) (t9 : Int) (t10 : Int) (t12 : Int) (t15 : Int) (t16 : Int) (t17 : Int) (t73 : Int) (t74 : Int) (t80 : Int) : (Int × Int) → Option ((Int × Int) ⊕ Int) | (t18, t81) => if t81 < t80 then if t9 = 0 then none else some (Sum.inl (w64 (Int.tdiv t18 t9), w64 (t81 + 1))) else some (Sum.inr t18)
theorem q2b : ∀ (w3 w4 : List Int) (b0_Kind b0_N b0_Min : Int) (b0_Set : List qc) (b0_L : List qb) (b1_Worst b1_Best b1_Pass : Int) (m2 : List (Int × Bool)) (t3 : Bool) (t5 : List qa) (t7 : List Bool) (t9 t10 t12 t15 t16 t17 t18 t73 t74 t80 t81 : Int) (w3_len w4_len : Nat), w3_len = w3.length → w4_len = w4.length → XL2 evo 4 0 25 ⟨[(3, rB t3), (4, rP 0), (5, rL 8 qf t5), (6, rP 1), (7, rL 1 eB t7), (9, rI t9), (10, rI t10), (11, R.c (C.hd .map 2)), (12, rI t12), (13, rO 3 1 w3_len), (14, rO 4 1 w4_len), (15, rI t15), (16, rI t16), (17, rI t17), (18, rI t18), (73, rI t73), (74, rI t74), (80, rI t80), (81, rI t81)], [(0, B.blk 31 [dI b0_Kind, dI b0_N, dI b0_Min, dL 2 qe b0_Set, dL 5 qg b0_L]), (1, B.blk 37 [dI b1_Worst, dI b1_Best, dI b1_Pass]), (2, B.ob (mpB (q83 .i64) q0R m2)), (3, bR 3 1 eI w3), (4, bR 3 1 eI w4)], 5, 161⟩ = (qN (zF w3 w4 (qb.mk b0_Kind b0_N b0_Min b0_Set b0_L) (qd.mk b1_Worst b1_Best b1_Pass) m2 t3 t5 t7 t9 t10 t12 t15 t16 t17 t73 t74 t80) (t18, t81)).bind (fun (e : Int) => some (Go.Exit.exit 6, ⟨[(3, rB t3), (4, rP 0), (5, rL 8 qf t5), (6, rP 1), (7, rL 1 eB t7), (9, rI t9), (10, rI t10), (11, R.c (C.hd .map 2)), (12, rI t12), (13, rO 3 1 w3.length), (14, rO 4 1 w4.length), (15, rI t15), (16, rI t16), (17, rI t17), (18, rI e), (73, rI t73), (74, rI t74)], [(0, B.blk 31 [dI b0_Kind, dI b0_N, dI b0_Min, dL 2 qe b0_Set, dL 5 qg b0_L]), (1, B.blk 37 [dI b1_Worst, dI b1_Best, dI b1_Pass]), (2, B.ob (mpB (q83 .i64) q0R m2)), (3, bR 3 1 eI w3), (4, bR 3 1 eI w4)], 5, 161⟩)) :=
  by
  intro w3 w4 b0_Kind b0_N b0_Min b0_Set b0_L b1_Worst b1_Best b1_Pass m2 t3 t5 t7 t9 t10 t12 t15 t16 t17 t18 t73 t74 t80 t81 w3_len w4_len h0 h1
  subst h0 h1
  revert t81; revert t18; exact q8L qrB qoV (fun e => by exact ⟨_, rfl, fun h => by cases h⟩) fun t18 t81 => by
    have := cx4; have := @qhh.eq_1; have := @zF.eq_1; exact gA
noncomputable def zn (b0 : qb) (b1 : qd) (m2 : List (Int × Bool)) (t3 : Bool) (t5 : List qa) (t7 : List Bool) (t9 : Int) (t10 : Int) (t12 : Int) (t73 : Int) : (List Int × List Int × Int × Int × Int) → Option ((List Int × List Int × Int × Int × Int) ⊕ (List Int × List Int × Int)) | (w3, w4, t15, t16, t74) => if t74 < t73 then if t9 = 0 then none else Option.bind (qN (zF w3 w4 b0 b1 m2 t3 t5 t7 t9 t10 t12 t15 t16 t74 t73 t74 t74) (w64 (Int.tdiv t10 t9), 0)) fun (a : Int) => if a = 0 then none else if a = 0 then none else if w3.length + 1 ≤ Go.maxLen ∧ (w3.length + 1) * 8 ≤ 140737488355328 then if 0 < w64 (Int.tdiv t16 a) then if 0 ≤ t74 then if w4.length + 1 ≤ Go.maxLen ∧ (w4.length + 1) * 8 ≤ 140737488355328 then some (Sum.inl (w3 ++ [w64 (w64 (Int.tdiv t16 a) - 1)], w4 ++ [w64 (w64 (Int.tdiv t16 a) - 1)], w64 (t15 + w64 (1 * 2 ^ min (Int.toNat t74) (Go.IntKind.bits Go.IntKind.i64))), Int.tmod t16 a, w64 (t74 + 1))) else none else none else some (Sum.inl (w3 ++ [w64 (w64 (Int.tdiv t16 a) - 1)], w4, t15, Int.tmod t16 a, w64 (t74 + 1))) else none else some (Sum.inr (w3, w4, t15))
theorem q2i : ∀ (w3 w4 : List Int) (b0_Kind b0_N b0_Min : Int) (b0_Set : List qc) (b0_L : List qb) (b1_Worst b1_Best b1_Pass : Int) (m2 : List (Int × Bool)) (t3 : Bool) (t5 : List qa) (t7 : List Bool) (t9 t10 t12 t15 t16 t73 t74 : Int) (w3_len w4_len : Nat), w3_len = w3.length → w4_len = w4.length → XL2 evo 4 0 21 ⟨[(3, rB t3), (4, rP 0), (5, rL 8 qf t5), (6, rP 1), (7, rL 1 eB t7), (9, rI t9), (10, rI t10), (11, R.c (C.hd .map 2)), (12, rI t12), (13, rO 3 1 w3_len), (14, rO 4 1 w4_len), (15, rI t15), (16, rI t16), (73, rI t73), (74, rI t74)], [(0, B.blk 31 [dI b0_Kind, dI b0_N, dI b0_Min, dL 2 qe b0_Set, dL 5 qg b0_L]), (1, B.blk 37 [dI b1_Worst, dI b1_Best, dI b1_Pass]), (2, B.ob (mpB (q83 .i64) q0R m2)), (3, bR 3 1 eI w3), (4, bR 3 1 eI w4)], 5, 161⟩ = (qN (zn (qb.mk b0_Kind b0_N b0_Min b0_Set b0_L) (qd.mk b1_Worst b1_Best b1_Pass) m2 t3 t5 t7 t9 t10 t12 t73) (w3, w4, t15, t16, t74)).bind (fun (e : List Int × List Int × Int) => some (Go.Exit.exit 4, ⟨[(3, rB t3), (4, rP 0), (5, rL 8 qf t5), (6, rP 1), (7, rL 1 eB t7), (9, rI t9), (10, rI t10), (11, R.c (C.hd .map 2)), (12, rI t12), (13, rO 3 1 e.1.length), (14, rO 4 1 e.2.1.length), (15, rI e.2.2)], [(0, B.blk 31 [dI b0_Kind, dI b0_N, dI b0_Min, dL 2 qe b0_Set, dL 5 qg b0_L]), (1, B.blk 37 [dI b1_Worst, dI b1_Best, dI b1_Pass]), (2, B.ob (mpB (q83 .i64) q0R m2)), (3, bR 3 1 eI e.1), (4, bR 3 1 eI e.2.1)], 5, 161⟩)) :=
  by
  intro w3 w4 b0_Kind b0_N b0_Min b0_Set b0_L b1_Worst b1_Best b1_Pass m2 t3 t5 t7 t9 t10 t12 t15 t16 t73 t74 w3_len w4_len h0 h1
  subst h0 h1
  revert t74; revert t16; revert t15; revert w4; revert w3; exact qyK qqB qoP (fun e => by exact ⟨_, rfl, fun h => by cases h⟩) fun w3 w4 t15 t16 t74 => by
    have := cx4; have := @qif.eq_1; have := @q2b; have := @zn.eq_1; exact gA
theorem q19 : ∀  (b0_Kind b0_N b0_Min : Int) (b0_Set : List qc) (b0_L : List qb) (b1_Worst b1_Best b1_Pass : Int) (m2 : List (Int × Bool)) (t3 : Bool) (t5 : List qa) (t7 : List Bool) (t9 t10 t12 t15 t16 t73 t74 : Int), XL2 evo 4 0 21 ⟨[(3, rB t3), (4, rP 0), (5, rL 8 qf t5), (6, rP 1), (7, rL 1 eB t7), (9, rI t9), (10, rI t10), (11, R.c (C.hd .map 2)), (12, rI t12), (13, rO 3 1 0), (14, rO 4 1 0), (15, rI t15), (16, rI t16), (73, rI t73), (74, rI t74)], [(0, B.blk 31 [dI b0_Kind, dI b0_N, dI b0_Min, dL 2 qe b0_Set, dL 5 qg b0_L]), (1, B.blk 37 [dI b1_Worst, dI b1_Best, dI b1_Pass]), (2, B.ob (mpB (q83 .i64) q0R m2)), (3, B.row 3 1 []), (4, B.row 3 1 [])], 5, 161⟩ = (qN (zn (qb.mk b0_Kind b0_N b0_Min b0_Set b0_L) (qd.mk b1_Worst b1_Best b1_Pass) m2 t3 t5 t7 t9 t10 t12 t73) ([], [], t15, t16, t74)).bind (fun (e : List Int × List Int × Int) => some (Go.Exit.exit 4, ⟨[(3, rB t3), (4, rP 0), (5, rL 8 qf t5), (6, rP 1), (7, rL 1 eB t7), (9, rI t9), (10, rI t10), (11, R.c (C.hd .map 2)), (12, rI t12), (13, rO 3 1 e.1.length), (14, rO 4 1 e.2.1.length), (15, rI e.2.2)], [(0, B.blk 31 [dI b0_Kind, dI b0_N, dI b0_Min, dL 2 qe b0_Set, dL 5 qg b0_L]), (1, B.blk 37 [dI b1_Worst, dI b1_Best, dI b1_Pass]), (2, B.ob (mpB (q83 .i64) q0R m2)), (3, bR 3 1 eI e.1), (4, bR 3 1 eI e.2.1)], 5, 161⟩)) := by
  intro b0_Kind b0_N b0_Min b0_Set b0_L b1_Worst b1_Best b1_Pass m2 t3 t5 t7 t9 t10 t12 t15 t16 t73 t74; have h := q2i [] [] ((qb.mk b0_Kind b0_N b0_Min b0_Set b0_L)).Kind ((qb.mk b0_Kind b0_N b0_Min b0_Set b0_L)).N ((qb.mk b0_Kind b0_N b0_Min b0_Set b0_L)).Min ((qb.mk b0_Kind b0_N b0_Min b0_Set b0_L)).Set ((qb.mk b0_Kind b0_N b0_Min b0_Set b0_L)).L ((qd.mk b1_Worst b1_Best b1_Pass)).Worst ((qd.mk b1_Worst b1_Best b1_Pass)).Best ((qd.mk b1_Worst b1_Best b1_Pass)).Pass m2 t3 t5 t7 t9 t10 t12 t15 t16 t73 t74 _ _ rfl rfl
  first
    | exact h
    | (simp only [rL, dL, bR, bZ, Nat.reduceAdd] at h; exact h)
noncomputable def zo (b0 : qb) (b1 : qd) (t3 : Bool) (t5 : List qa) (t7 : List Bool) (t9 : Int) (t10 : Int) : ((List (Int × Bool)) × Int) → Option (((List (Int × Bool)) × Int) ⊕ (((List (Int × Bool))) ⊕ ((List (Int × Bool))))) | (m2, t12) => if t12 < t10 then Option.bind (qN (zn b0 b1 m2 t3 t5 t7 t9 t10 t12 ((t5.length : Nat) : Int)) ([], ([], (0, (t12, 0))))) fun (a : Prod (List Int) (Prod (List Int) Int)) => Option.bind (QQ b0 b1 t5 a.1) fun (a2 : Bool) => if (!a2) = Bool.true then some (Sum.inl (m2, w64 (t12 + 1))) else Option.bind (Qa b0 b1 t5 a.2.2) fun (a3 : Prod (List Int) Bool) => if 0 ≤ a.2.2 ∧ a.2.2 < ((t7.length : Nat) : Int) then Option.bind t7[Int.toNat a.2.2]? fun (a4 : Bool) => if (!a4) = Bool.true then some (Sum.inr (Sum.inl m2)) else if (!a3.2) = Bool.true then some (Sum.inr (Sum.inl m2)) else if (!(qaK Bool.false m2 a.2.2)) = Bool.true then Option.bind (ze a3.1 a.2.1) fun (a5 : Bool) => if (!a5) = Bool.true then some (Sum.inr (Sum.inl m2)) else some (Sum.inl (qbB m2 a.2.2 Bool.true, w64 (t12 + 1))) else some (Sum.inl (qbB m2 a.2.2 Bool.true, w64 (t12 + 1))) else none else some (Sum.inr (Sum.inr m2))
theorem q2q : ∀ (b0_Kind b0_N b0_Min : Int) (b0_Set : List qc) (b0_L : List qb) (b1_Worst b1_Best b1_Pass : Int) (m2 : List (Int × Bool)) (t3 : Bool) (t5 : List qa) (t7 : List Bool) (t9 t10 t12 : Int), XL2 evo 4 0 16 ⟨[(3, rB t3), (4, rP 0), (5, rL 8 qf t5), (6, rP 1), (7, rL 1 eB t7), (9, rI t9), (10, rI t10), (11, R.c (C.hd .map 2)), (12, rI t12)], [(0, B.blk 31 [dI b0_Kind, dI b0_N, dI b0_Min, dL 2 qe b0_Set, dL 5 qg b0_L]), (1, B.blk 37 [dI b1_Worst, dI b1_Best, dI b1_Pass]), (2, B.ob (mpB (q83 .i64) q0R m2))], 3, 161⟩ = (qN (zo (qb.mk b0_Kind b0_N b0_Min b0_Set b0_L) (qd.mk b1_Worst b1_Best b1_Pass) t3 t5 t7 t9 t10) (m2, t12)).bind (Sum.elim (fun (e : (List (Int × Bool))) => some (Go.Exit.ret, ⟨[(2, rB Bool.false), (3, rB t3), (7, rL 1 eB t7), (11, R.c (C.hd .map 0))], [(0, B.ob (mpB (q83 .i64) q0R e))], 1, 161⟩)) (fun (e : (List (Int × Bool))) => some (Go.Exit.exit 2, ⟨[(2, R.any), (3, rB t3), (7, rL 1 eB t7), (11, R.c (C.hd .map 0))], [(0, B.ob (mpB (q83 .i64) q0R e))], 1, 161⟩))) :=
  fun b0_Kind b0_N b0_Min b0_Set b0_L b1_Worst b1_Best b1_Pass m2 t3 t5 t7 t9 t10 t12 => by
    revert t12; revert m2; exact q8L qrr qnY (fun e => by rcases e with _ | _ <;> exact ⟨_, rfl, fun h => by cases h⟩) fun m2 t12 => by
      have := cx4; have := @qg5.eq_1; have := @q19; have := @q4q; have := @q3b; have := @Jo; have := @zo.eq_1; exact gA
noncomputable def zG (m0 : List (Int × Bool)) (t3 : Bool) (t147 : List Bool) (t148 : Int) : Int → Option (Int ⊕ (Unit ⊕ Unit)) | t149 => if t149 < t148 then if 0 ≤ t149 ∧ t149 < ((t147.length : Nat) : Int) then Option.bind t147[Int.toNat t149]? fun (a : Bool) => if (!(a == qaK Bool.false m0 t149)) = Bool.true then some (Sum.inr (Sum.inl ())) else some (Sum.inl (w64 (t149 + 1))) else none else some (Sum.inr (Sum.inr ()))
theorem q2n : ∀ (m0 : List (Int × Bool)) (t3 : Bool) (t147 : List Bool) (t148 t149 : Int), XL2 evo 4 0 41 ⟨[(3, rB t3), (11, R.c (C.hd .map 0)), (147, rL 1 eB t147), (148, rI t148), (149, rI t149)], [(0, B.ob (mpB (q83 .i64) q0R m0))], 1, 161⟩ = (qN (zG m0 t3 t147 t148) t149).bind (Sum.elim (fun (e : Unit) => some (Go.Exit.ret, ⟨[(2, rB Bool.false), (3, rB t3)], [], 0, 161⟩)) (fun (e : Unit) => some (Go.Exit.exit 8, ⟨[(2, R.any), (3, rB t3)], [], 0, 161⟩))) :=
  fun m0 t3 t147 t148 t149 => by
    revert t149; exact qbx qoE qnV (fun e => by rcases e with _ | _ <;> exact ⟨_, rfl, fun h => by cases h⟩) fun x => by
      have := cx4; have := @qgg.eq_1; have := @zG.eq_1; exact gA
noncomputable def Jg (x0 : ZV) : Option Bool := Option.bind ZE fun (a : Bool) => Option.bind (Za x0) fun (a2 : Prod qb (List qa)) => if 0 ≤ min ((a2.2.length : Nat) : Int) 3 ∧ min ((a2.2.length : Nat) : Int) 3 ≤ ((a2.2.length : Nat) : Int) then Option.bind (Zc a2.1 (qq 1) (List.take (Int.toNat (min ((a2.2.length : Nat) : Int) 3) - 0) a2.2)) fun (a3 : Prod (List Bool) Int) => Option.bind (QI a2.1) fun (a4 : List qb) => if (a3.2 != 0) = Bool.true then some Bool.false else if 0 ≤ (((List.take (Int.toNat (min ((a2.2.length : Nat) : Int) 3) - 0) a2.2).length : Nat) : Int) then if (((a3.1.length : Nat) : Int) != w64 (1 * 2 ^ min (List.take (Int.toNat (min ((a2.2.length : Nat) : Int) 3) - 0) a2.2).length (Go.IntKind.bits Go.IntKind.i64))) = Bool.true then some Bool.false else Option.bind (qN (zC a2.1 (qq 1) a (List.take (Int.toNat (min ((a2.2.length : Nat) : Int) 3) - 0) a2.2) a3.1 (w64 (((a4.length : Nat) : Int) + 1)) (((List.take (Int.toNat (min ((a2.2.length : Nat) : Int) 3) - 0) a2.2).length : Nat) : Int)) (1, 0)) fun (a5 : Int) => Option.bind (qN (zo a2.1 (qq 1) a (List.take (Int.toNat (min ((a2.2.length : Nat) : Int) 3) - 0) a2.2) a3.1 (w64 (((a4.length : Nat) : Int) + 1)) a5) ([], 0)) fun (a6 : Sum (List (Prod Int Bool)) (List (Prod Int Bool))) => Sum.elim (fun (a7 : List (Prod Int Bool)) => some Bool.false) (fun (a8 : List (Prod Int Bool)) => Option.bind (qN (zG a8 a a3.1 ((a3.1.length : Nat) : Int)) 0) fun (a9 : Sum Unit Unit) => Sum.elim (fun (a10 : Unit) => some Bool.false) (fun (a11 : Unit) => some a) a9) a6 else none else none
theorem q4z : ∀ (x0_Need x0_L : List Int) (x0_Odd_0_0 x0_Odd_0_1 x0_Odd_0_2 x0_Odd_1_0 x0_Odd_1_1 x0_Odd_1_2 : Int), ev 4 0 [R.agg [dL 1 eI x0_Need, dL 1 eI x0_L, dI x0_Odd_0_0, dI x0_Odd_0_1, dI x0_Odd_0_2, dI x0_Odd_1_0, dI x0_Odd_1_1, dI x0_Odd_1_2]] [] = (Jg (ZV.mk x0_Need x0_L (qsf.mk (qm9.mk x0_Odd_0_0 x0_Odd_0_1 x0_Odd_0_2) (qm9.mk x0_Odd_1_0 x0_Odd_1_1 x0_Odd_1_2)))).bind (fun (e : Bool) => some (rB e, [])) :=
  fun x0_Need x0_L x0_Odd_0_0 x0_Odd_0_1 x0_Odd_0_2 x0_Odd_1_0 x0_Odd_1_1 x0_Odd_1_2 => by
    rw [qB bd4 pw4.2.2.2 lo4]
    have := cx4; have := @q6l; have := @q4h; have := @q24; have := @q2c; have := @q0C; have := @q2d; have := @q2q; have := @q2n; have := @Jg.eq_1; exact gA
end Go.Proofs.Ytgejdfnidjnjcaa.Vc

namespace Go.Proofs.Ytgejdfnidjnjcaa.Vc
open Go.RowKit
set_option linter.unusedVariables false
set_option linter.unusedSimpArgs false
def ceq (a b : qc) : Bool := (a.School == b.School) && (a.Code.toList == b.Code.toList)
def qdh (n a b : Int) : Int := max (min a b) (min n (max a b))
def qam (s : qd) : Bool := qdh s.Worst (-1000) 1000 == s.Worst && qdh s.Best (-1000) 1000 == s.Best && s.Worst != s.Best && qdh s.Pass s.Worst s.Best == s.Pass
def qd5 (s : qd) (g : Int) : Bool := qam s && qdh g s.Worst s.Best == g
def qhH (s : qd) (g m : Int) : Bool := qd5 s g && (g == m || (decide (m < g) == decide (s.Worst < s.Best)))
theorem q9S (s : qd) : Zj s = some (if qam s then 0 else 10) := by
  have h1 := qb4 (ε := Unit ⊕ Unit) (step := Qf [s.Worst, s.Best] s 2) [s.Worst, s.Best] (fun i => (i : Int)) (fun a => if qdh a (-1000) 1000 != a then some (.inl ()) else none) (.inr ()) (fun i a ha => by
      have hi : i < 2 := by obtain ⟨h, _⟩ := List.getElem?_eq_some_iff.1 ha; simpa using h
      have hw : w64 ((i : Int) + 1) = ((i + 1 : Nat) : Int) := qT hi (by omega)
      unfold Qf
      rw [if_pos (by omega), if_pos ⟨by omega, by simpa using by omega⟩, Int.toNat_natCast, ha, Option.bind_some, hw]
      show (if (qdh a (-1000) 1000 != a) = true then _ else _) = _
      split <;> simp_all) (by
      unfold Qf
      rfl)
  unfold Zj
  rw [show ((0 : Int)) = ((0 : Nat) : Int) from rfl, h1, Option.bind_some]
  unfold qam qK
  simp only [List.findSome?_cons, List.findSome?_nil]
  show _ = some (if (qdh s.Worst (-1000) 1000 == s.Worst && qdh s.Best (-1000) 1000 == s.Best && s.Worst != s.Best && qdh s.Pass s.Worst s.Best == s.Pass) = true then 0 else 10)
  change (Sum.elim _ (fun _ => if (s.Worst == s.Best) = true then some (10 : Int) else if (qdh s.Pass s.Worst s.Best != s.Pass) = true then some 10 else some 0) _) = _
  by_cases e1 : qdh s.Worst (-1000) 1000 = s.Worst <;> by_cases e2 : qdh s.Best (-1000) 1000 = s.Best <;> by_cases e3 : s.Worst = s.Best <;> by_cases e4 : qdh s.Pass s.Worst s.Best = s.Pass <;> simp [e1, e2, e3, e4, bne]
theorem qaz (s : qd) (g : Int) : Zt s g = some (qd5 s g) := by
  unfold Zt qd5
  rw [q9S, Option.bind_some]
  cases h : qam s <;> simp [qK, qdh]
theorem qew (s : qd) (g m : Int) : QP s g m = some (qhH s g m) := by
  unfold QP qhH
  rw [qaz, Option.bind_some]
  cases h : qd5 s g
  · simp
  · by_cases h2 : g = m <;> simp [h2]
theorem q8a (p : qc → Bool) : ∀ (l : List qc) (i : Nat), (decide (0 ≤ (q1b (ε := Int ⊕ Unit) (fun i (_ : Unit) a => if p a = true then .inr (.inl (i : Int)) else .inl ()) (fun _ => .inr ()) l i ()).elim id (fun _ => -1))) = l.any p
  | [], i => rfl
  | a :: l, i => by
    unfold q1b
    by_cases h : p a = true
    · simp [h]
    · have h' : p a = false := by simpa using h
      simp only [h', List.any_cons, Bool.false_or]
      exact q8a p l (i + 1)
theorem qji (l : List qc) (hl : l.length ≤ 9223372036854775807) (v : qc) : ∃ i : Int, qv l v = some i ∧ (decide (0 ≤ i)) = l.any (ceq v) := by
  have h1 := JA (ε := Int ⊕ Unit) (step := qs v l (l.length : Int)) l (fun (b : Unit) i => (i : Int)) (fun i b a => if ceq v a = true then .inr (.inl (i : Int)) else .inl ()) (fun _ => .inr ()) (fun b i a ha => by
      have hi := Jd ha
      have hw : w64 ((i : Int) + 1) = ((i + 1 : Nat) : Int) := qT hi hl
      unfold qs
      rw [if_pos (by omega), if_pos ⟨by omega, by omega⟩, Int.toNat_natCast, ha, Option.bind_some, hw]
      unfold ceq
      by_cases e1 : v.School = a.School <;> by_cases e2 : v.Code.toList = a.Code.toList <;> simp [e1, e2]) (fun b => by
      unfold qs
      rw [if_neg (by omega)]) ()
  refine ⟨_, ?_, q8a (ceq v) l 0⟩
  unfold qv
  rw [show ((0 : Int)) = ((0 : Nat) : Int) from rfl, h1, Option.bind_some]
  cases (q1b (ε := Int ⊕ Unit) (fun i (_ : Unit) a => if ceq v a = true then .inr (.inl (i : Int)) else .inl ()) (fun _ => .inr ()) l 0 ()) <;> rfl
theorem qc9 (l : List qc) (hl : l.length ≤ 9223372036854775807) (v : qc) : qr l v = some (l.any (ceq v)) := by
  obtain ⟨i, h1, h2⟩ := qji l hl v
  unfold qr
  rw [h1, Option.bind_some, h2]
def q5L (n : qb) : Bool := n.Kind == 1 || n.Kind == 2
theorem q7Y (n : qb) : Q3 n = q5L n := by
  unfold Q3 q5L
  cases h : (n.Kind == 1) <;> simp
def qdQ (n : qb) (s : qd) (a : qa) : Bool := q5L n && n.Set.any (ceq a.Course) && qhH s a.Grade n.Min
theorem qfJ (n : qb) (hn : n.Set.length ≤ 9223372036854775807) (s : qd) (a : qa) : QS n s a = some (qdQ n s a) := by
  unfold QS qdQ
  rw [q7Y, qc9 n.Set hn, qew]
  cases q5L n <;> cases n.Set.any (ceq a.Course) <;> simp
def wgF (n : qb) (s : qd) (set : Nat) : List qa → Nat → ql → ql
  | [], _, x => x
  | a :: l, k, x => wgF n s set l (k + 1) (if set.testBit k = true then ⟨w64 (x.many + 1), w64 (x.credits + a.Credits), x.fine && qdQ n s a⟩ else x)
def ld0 : ql := ⟨0, 0, true⟩
theorem qcU (n : qb) (hn : n.Set.length ≤ 9223372036854775807) (s : qd) (l : List qa) (hl : l.length ≤ 62) (set : Nat) (hs : set < 9223372036854775808) : QY n s l (set : Int) = some (wgF n s set l 0 ld0) := by
  have h1 := JA (ε := ql) (step := Qs (set : Int) n s (ql.mk (0 : Int) (0 : Int) Bool.false) l (l.length : Int)) l (fun (b : ql) i => (b, (i : Int))) (fun i b a => .inl (if set.testBit i = true then ⟨w64 (b.many + 1), w64 (b.credits + a.Credits), b.fine && qdQ n s a⟩ else b)) (fun b => b) (fun b i a ha => by
      have hi := Jd ha
      have hw : w64 ((i : Int) + 1) = ((i + 1 : Nat) : Int) := qT hi (by omega)
      have hb : Zb (i : Int) (set : Int) = some (set.testBit i) := by
        unfold Zb
        rw [if_pos (by omega), Int.toNat_natCast, qhl set i hs (by omega)]
      unfold Qs
      simp only
      rw [if_pos (by omega), if_pos ⟨by omega, by omega⟩, Int.toNat_natCast, ha, Option.bind_some, hw, hb, Option.bind_some]
      cases set.testBit i
      · simp
      · cases hf : b.fine
        · simp
        · simp [qfJ n hn s a]) (fun b => by
      unfold Qs
      simp only
      rw [if_neg (by omega)]) ld0
  unfold QY
  change Option.bind (qN _ (ld0, ((0 : Nat) : Int))) _ = _
  rw [h1, Option.bind_some]
  congr 1
  have : ∀ (l : List qa) (i : Nat) (b : ql), q1b (ε := ql) (fun i (b : ql) (a : qa) => .inl (if set.testBit i = true then ⟨w64 (b.many + 1), w64 (b.credits + a.Credits), b.fine && qdQ n s a⟩ else b)) (fun b => b) l i b = wgF n s set l i b := by
    intro l
    induction l with
    | nil => intro i b; rfl
    | cons a l ih => intro i b; unfold q1b wgF; exact ih _ _
  exact this l 0 ld0
def q9D (n : qb) (x : ql) : Bool := if n.Kind = 1 then x.fine && x.many == 1 else x.fine && decide (0 < x.many) && decide (n.N ≤ x.credits)
end Go.Proofs.Ytgejdfnidjnjcaa.Vc
namespace Go.Proofs.Ytgejdfnidjnjcaa.Vc
open Go.RowKit
set_option linter.unusedVariables false
set_option linter.unusedSimpArgs false
def J2 (set sub : Nat) : Nat := set ^^^ (set &&& sub)
theorem zB (set sub i : Nat) : (J2 set sub).testBit i = (set.testBit i && !sub.testBit i) := by
  unfold J2
  rw [Nat.testBit_xor, Nat.testBit_and]
  cases set.testBit i <;> cases sub.testBit i <;> rfl
theorem qds (set sub : Nat) : J2 set sub ≤ set := by
  have : J2 set sub &&& set = J2 set sub := Nat.eq_of_testBit_eq fun i => by
    rw [Nat.testBit_and, zB]; cases set.testBit i <;> cases sub.testBit i <;> rfl
  rw [← this]; exact Nat.and_le_right
def eaV (own : Nat → Bool) (best : Nat → Int) (set sub : Nat) (v : Int) : Int := if own sub = true ∧ 0 ≤ best (J2 set sub) then max v (best (J2 set sub) + 1) else v
def eaF (own : Nat → Bool) (best : Nat → Int) (set : Nat) : Nat → Nat → Int → Int
  | 0, _, v => v
  | f + 1, sub, v => if sub = 0 then v else eaF own best set f ((sub - 1) &&& set) (eaV own best set sub v)
def Bnd (best : Nat → Int) (N : Nat) (M : Int) : Prop := ∀ k, k < N → -1 ≤ best k ∧ best k ≤ M
section
variable {N : Nat} (hN : N ≤ 65536) {own : Nat → Bool} {best : Nat → Int} {M : Int} (hM : M ≤ 1000000) (hb : Bnd best N M)
include hN hM hb
theorem qiY {set sub : Nat} (hs : set < N) (hsub : sub < N) (g : Nat → Int) : ZT (sub : Int) ((J2 set sub : Nat) : Int) (QH N best) (QH N g) (QH N own) (set : Int) = some (QH N (q75 g set (eaV own best set sub (g set)))) := by
  have hr := qds set sub
  have hbr := hb (J2 set sub) (by omega)
  unfold ZT
  rw [qM, if_pos ⟨by omega, by omega⟩, Int.toNat_natCast, Zq own hsub, Option.bind_some]
  unfold eaV
  cases ho : own sub
  · simp only [Bool.false_eq_true, if_false, false_and]
    rw [← QJ]
    congr 1
    refine List.ext_getElem? fun k => ?_
    rw [List.getElem?_set]
    split
    · rename_i h; subst h; rw [qM, if_pos hs, Zq _ hs]
    · rfl
  · simp only [if_true, true_and]
    rw [qM, if_pos ⟨by omega, by omega⟩, Int.toNat_natCast, Zq best (by omega), Option.bind_some]
    by_cases h0 : 0 ≤ best (J2 set sub)
    · rw [if_pos h0, if_pos h0, qM, if_pos ⟨by omega, by omega⟩, Int.toNat_natCast, Zq g hs, Option.bind_some, if_pos ⟨by omega, by omega⟩, Option.bind_some, if_pos ⟨by omega, by omega⟩, if_pos (by omega), zZ (by omega) (by omega), QJ]
    · rw [if_neg h0, if_neg h0, ← QJ]
      congr 1
      refine List.ext_getElem? fun k => ?_
      rw [List.getElem?_set]
      split
      · rename_i h; subst h; rw [qM, if_pos hs, Zq _ hs]
      · rfl
theorem qas {set : Nat} (hs : set < N) : ∀ (f sub : Nat), sub ≤ f → sub ≤ set → ∀ (g : Nat → Int), qN (qJ (QH N best) (QH N own) (set : Int) (set : Int)) (QH N g, (sub : Int)) = some (QH N (q75 g set (eaF own best set f sub (g set)))) := by
  have hself : ∀ g : Nat → Int, q75 g set (g set) = g := fun g => by funext k; unfold q75; split <;> simp_all
  have h0 : ∀ (g : Nat → Int), qN (qJ (QH N best) (QH N own) (set : Int) (set : Int)) (QH N g, ((0 : Nat) : Int)) = some (QH N g) := fun g => by
    refine zt ?_
    unfold qJ
    simp
  intro f
  induction f with
  | zero =>
    intro sub hf _ g
    have : sub = 0 := by omega
    subst this
    rw [h0]
    unfold eaF
    rw [hself]
  | succ f ih =>
    intro sub hf hle g
    unfold eaF
    by_cases hz : sub = 0
    · subst hz
      rw [h0, if_pos rfl, hself]
    · have ha : (sub - 1) &&& set ≤ sub - 1 := Nat.and_le_left
      have hstep : qJ (QH N best) (QH N own) (set : Int) (set : Int) (QH N g, (sub : Int)) = some (.inl (QH N (q75 g set (eaV own best set sub (g set))), ((((sub - 1) &&& set : Nat)) : Int))) := by
        unfold qJ
        simp only
        rw [if_pos (by omega), qes _ _ (by omega) (by omega), zZ (by omega) (by omega), show ((sub : Int) - 1) = ((sub - 1 : Nat) : Int) by omega, qcx _ _ (by omega) (by omega)]
        have := qiY hN hM hb (own := own) hs (sub := sub) (by omega) g
        unfold J2 at this
        rw [this, Option.bind_some]
      rw [zV hstep, ih _ (by omega) (by omega), if_neg hz, q8J, q5g]
end
def stF (skip : Bool) (own : Nat → Bool) (best : Nat → Int) (set : Nat) : Int := eaF own best set set set (if skip = true then best set else -1)
theorem qmG {own : Nat → Bool} {best : Nat → Int} {N : Nat} {M : Int} (hb : Bnd best N M) (hM : -1 ≤ M) {set sub : Nat} (hs : set < N) {v : Int} (h : -1 ≤ v ∧ v ≤ M + 1) : -1 ≤ eaV own best set sub v ∧ eaV own best set sub v ≤ M + 1 := by
  have := hb (J2 set sub) (Nat.lt_of_le_of_lt (qds set sub) hs)
  unfold eaV
  split <;> omega
theorem qgt {own : Nat → Bool} {best : Nat → Int} {N : Nat} {M : Int} (hb : Bnd best N M) (hM : -1 ≤ M) {set : Nat} (hs : set < N) : ∀ (f sub : Nat) (v : Int), -1 ≤ v ∧ v ≤ M + 1 → -1 ≤ eaF own best set f sub v ∧ eaF own best set f sub v ≤ M + 1
  | 0, _, _, h => h
  | f + 1, sub, v, h => by
    unfold eaF
    split
    · exact h
    · exact qgt hb hM hs f _ _ (qmG hb hM hs h)
theorem qfF {skip : Bool} {own : Nat → Bool} {best : Nat → Int} {N : Nat} {M : Int} (hb : Bnd best N M) (hM : -1 ≤ M) : Bnd (stF skip own best) N (M + 1) := fun k hk => by
  unfold stF
  have := hb k hk
  refine qgt hb hM hk _ _ _ ?_
  split <;> omega
end Go.Proofs.Ytgejdfnidjnjcaa.Vc
namespace Go.Proofs.Ytgejdfnidjnjcaa.Vc
open Go.RowKit
set_option linter.unusedVariables false
set_option linter.unusedSimpArgs false
def b0F (k : Nat) : Int := if k = 0 then 0 else -1
def alG (leaf : Int) (set : Nat) : List Int → Nat → Bool
  | [], _ => true
  | x :: d, k => (set.testBit k == (x == leaf)) && alG leaf set d (k + 1)
def alF (d : List Int) (leaf set : Nat) : Bool := alG (leaf : Int) set d 0
def foF (d : List Int) (a b : Nat) : Bool := d.any fun x => decide ((a : Int) ≤ x) && decide (x < (b : Int))
def Jt (d : List Int) (s : qd) (l : List qa) (n : qb) (nx set : Nat) : Bool := decide (set ≠ 0) && (alF d nx set && q9D n (wgF n s set l 0 ld0))
mutual
def lvN : qb → Nat
  | ⟨k, _, _, _, L⟩ => if k = 1 ∨ k = 2 then 1 else lvL L
def lvL : List qb → Nat
  | [] => 0
  | x :: L => lvN x + lvL L
end
mutual
def ndN : qb → List qb
  | ⟨k, n, m, S, L⟩ => ⟨k, n, m, S, L⟩ :: ndL L
def ndL : List qb → List qb
  | [] => []
  | x :: L => ndN x ++ ndL L
end
theorem q8X (n : qb) : lvN n = if n.Kind = 1 ∨ n.Kind = 2 then 1 else lvL n.L := by cases n; rw [lvN]
theorem Z3 (n : qb) : ndN n = n :: ndL n.L := by cases n; rw [ndN]
mutual
def zH (d : List Int) (s : qd) (l : List qa) : qb → Nat → Nat → Bool
  | ⟨k, n, m, S, L⟩, nx, set => if k = 1 ∨ k = 2 then Jt d s l ⟨k, n, m, S, L⟩ nx set else decide (set ≠ 0) && decide ((if k = 3 then (L.length : Int) else n) ≤ q7y d s l (k == 4) L nx b0F set)
def q7y (d : List Int) (s : qd) (l : List qa) (sk : Bool) : List qb → Nat → (Nat → Int) → Nat → Int
  | [], _, b, set => b set
  | x :: L, nx, b, set => q7y d s l sk L (nx + lvN x) (stF (sk && !foF d nx (nx + lvN x)) (zH d s l x nx) b) set
end
theorem q8j (d : List Int) (s : qd) (l : List qa) (n : qb) (nx set : Nat) : zH d s l n nx set = if n.Kind = 1 ∨ n.Kind = 2 then Jt d s l n nx set else decide (set ≠ 0) && decide ((if n.Kind = 3 then (n.L.length : Int) else n.N) ≤ q7y d s l (n.Kind == 4) n.L nx b0F set) := by cases n; rw [zH]
theorem qe2 : ∀ n : qb, lvN n ≤ (ndN n).length := by
  intro n
  induction n using qb.rec (motive_2 := fun L => lvL L ≤ (ndL L).length) with
  | mk k n m S L ih => rw [lvN, ndN, List.length_cons]; split <;> omega
  | nil => simp [lvL]
  | cons x L h1 h2 => rw [lvL, ndL, List.length_append]; omega
theorem qdZ (d : List Int) (hd : d.length ≤ 16) (leaf set : Nat) (hs : set < 9223372036854775808) : QN (leaf : Int) (set : Int) d = some (alF d leaf set) := by
  have h1 := JA (ε := Unit ⊕ Unit) (step := Qh d (leaf : Int) (set : Int) (d.length : Int)) d (fun (_ : Unit) i => (i : Int)) (fun i _ x => if (set.testBit i == (x == (leaf : Int))) = true then .inl () else .inr (.inl ())) (fun _ => .inr ()) (fun _ i x hx => by
      have hi := Jd hx
      have hw : w64 ((i : Int) + 1) = ((i + 1 : Nat) : Int) := qT hi (by omega)
      unfold Qh
      rw [if_pos (by omega), if_pos ⟨by omega, by omega⟩, Int.toNat_natCast, hx, Option.bind_some, if_pos (by omega), hw, qhl set i hs (by omega)]
      cases (set.testBit i == (x == (leaf : Int))) <;> simp) (fun _ => by
      unfold Qh
      rw [if_neg (by omega)]) ()
  unfold QN
  change Option.bind (qN _ ((0 : Nat) : Int)) _ = _
  rw [h1, Option.bind_some]
  have : ∀ (d : List Int) (k : Nat), (Sum.elim (fun (_ : Unit) => some false) (fun (_ : Unit) => some true) (q1b (ε := Unit ⊕ Unit) (fun i (_ : Unit) (x : Int) => if (set.testBit i == (x == (leaf : Int))) = true then .inl () else .inr (.inl ())) (fun _ => .inr ()) d k ())) = some (alG leaf set d k) := by
    intro d
    induction d with
    | nil => intro k; rfl
    | cons x d ih =>
      intro k
      unfold q1b alG
      cases h : (set.testBit k == (x == (leaf : Int)))
      · simp
      · simp only [if_true, Bool.true_and]; exact ih (k + 1)
  exact this d 0
theorem qha (d : List Int) (hd : d.length ≤ 16) (a b : Nat) : Z2 (a : Int) (b : Int) d = some (foF d a b) := by
  have h1 := JA (ε := Int ⊕ Unit) (step := qH (a : Int) (b : Int) d (d.length : Int)) d (fun (_ : Unit) i => (i : Int)) (fun i _ x => if (decide ((a : Int) ≤ x) && decide (x < (b : Int))) = true then .inr (.inl (i : Int)) else .inl ()) (fun _ => .inr ()) (fun _ i x hx => by
      have hi := Jd hx
      have hw : w64 ((i : Int) + 1) = ((i + 1 : Nat) : Int) := qT hi (by omega)
      unfold qH QU
      rw [if_pos (by omega), if_pos ⟨by omega, by omega⟩, Int.toNat_natCast, hx, Option.bind_some, hw]
      by_cases h2 : (a : Int) ≤ x
      · by_cases h3 : x < (b : Int) <;> simp [h2, h3]
      · simp [h2]) (fun _ => by
      unfold qH
      rw [if_neg (by omega)]) ()
  unfold Z2 qR z5
  change Option.bind (Option.bind (Option.bind (qN _ ((0 : Nat) : Int)) _) _) _ = _
  rw [h1, Option.bind_some]
  have : ∀ (d : List Int) (k : Nat), ((Sum.elim (fun (a2 : Int) => some a2) (fun (_ : Unit) => some (-(1 : Int))) (q1b (ε := Int ⊕ Unit) (fun i (_ : Unit) (x : Int) => if (decide ((a : Int) ≤ x) && decide (x < (b : Int))) = true then .inr (.inl (i : Int)) else .inl ()) (fun _ => .inr ()) d k ())).bind fun a => some (decide ((0 : Int) ≤ a))) = some (foF d a b) := by
    intro d
    induction d with
    | nil => intro k; rfl
    | cons x d ih =>
      intro k
      unfold q1b foF
      rw [List.any_cons]
      cases h : (decide ((a : Int) ≤ x) && decide (x < (b : Int)))
      · simp only [Bool.false_eq_true, if_false, Bool.false_or]; exact ih (k + 1)
      · simp
  have h2 := this d 0
  rw [Option.bind_eq_some_iff] at h2
  obtain ⟨i, h3, h4⟩ := h2
  rw [h3, Option.bind_some, h4, Option.bind_some]
end Go.Proofs.Ytgejdfnidjnjcaa.Vc
