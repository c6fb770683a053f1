/- Part 5 of a proof. -/
import Derived.Test.YtgejdfnidjnjcaaM4
import Derived.KernelRfl
import Derived.Test.YtgejdfnidjnjcaaRows
import Derived.ChangeSlices
import Derived.OpenShut
import Derived.Carry
import Derived.ChangeSame
import Derived.ChangeMaps5
import Derived.WideShapes
import Derived.ProofKit
import Derived.Deep.DeepHandedRow
import Derived.Lib.LaidTab
import Derived.Stop.LaidErr
set_option linter.unusedVariables false
set_option linter.unusedSimpArgs false
set_option linter.defProp false
set_option linter.unusedSectionVars false
set_option linter.unnecessarySimpa false
namespace Go.Proofs.Ytgejdfnidjnjcaa.Vc
open Go.RowKit
set_option linter.unusedVariables false
set_option linter.unusedSimpArgs false
set_option linter.defProp false
set_option maxRecDepth 20000
noncomputable def Qa (many : Int) : (List qc × qh × Int) → Option ((List qc × qh × Int) ⊕ (List qc × qh))
  | (out, d, k) =>
    if k < many then Option.bind (ZZ d) fun (a : Prod qc qh) =>
      Option.bind (qN (QM out a.2 a.1 many k) 0) fun (a2 : Int) =>
      if a2 < ((out.length : Nat) : Int) then if 0 ≤ a2 ∧ a2 < ((out.length : Nat) : Int) then Option.bind out[Int.toNat a2]? fun (a3 : qc) =>
          if (a3.School == a.1.School) = Bool.true ∧ (ByteArray.toList a3.Code == ByteArray.toList a.1.Code) = Bool.true then some (Sum.inl (out, a.2, w64 (k + 1)))
          else if out.length + 1 ≤ Go.maxLen ∧ (out.length + 1) * 24 ≤ 140737488355328 then if 0 ≤ w64 (a2 + 1) ∧ w64 (a2 + 1) ≤ ((out.length + 1 : Nat) : Int) then if w64 (a2 + 1) = 0 ∨ w64 (a2 + 1) < ((out.length + 1 : Nat) : Int) then if 0 ≤ a2 ∧ a2 ≤ ((out.length + 1 : Nat) : Int) then if a2 = 0 ∨ a2 < ((out.length + 1 : Nat) : Int) then if (List.take (out.length + 1 - Int.toNat a2) (List.drop (Int.toNat a2) (out ++ [qc.mk 0 (ByteArray.mk (List.toArray []))]))).length * 2 = (out.length + 1 - Int.toNat a2) * 2 ∧ Int.toNat (w64 (a2 + 1)) * 2 + (out.length + 1 - Int.toNat (w64 (a2 + 1))) * 2 ≤ (out.length + 1) * 2 then if 0 ≤ a2 ∧ a2 < ((out.length + 1 : Nat) : Int) then if Int.toNat a2 * 2 + 2 ≤ (out.length + 1) * 2 then some (Sum.inl (List.set (spl (out ++ [qc.mk 0 (ByteArray.mk (List.toArray []))]) (Int.toNat (w64 (a2 + 1))) (List.take (min (out.length + 1 - Int.toNat a2) (out.length + 1 - Int.toNat (w64 (a2 + 1)))) (List.take (out.length + 1 - Int.toNat a2) (List.drop (Int.toNat a2) (out ++ [qc.mk 0 (ByteArray.mk (List.toArray []))]))))) (Int.toNat a2) a.1, a.2, w64 (k + 1)))
                        else none
                      else none
                    else none
                  else if Int.toNat (w64 (a2 + 1)) * 2 + (out.length + 1 - Int.toNat (w64 (a2 + 1))) * 2 ≤ (out.length + 1) * 2 then if 0 ≤ a2 ∧ a2 < ((out.length + 1 : Nat) : Int) then if Int.toNat a2 * 2 + 2 ≤ (out.length + 1) * 2 then some (Sum.inl (List.set (out ++ [qc.mk 0 (ByteArray.mk (List.toArray []))]) (Int.toNat a2) a.1, a.2, w64 (k + 1)))
                      else none
                    else none
                  else none
                else none
              else if 0 ≤ a2 ∧ a2 ≤ ((out.length + 1 : Nat) : Int) then if a2 = 0 ∨ a2 < ((out.length + 1 : Nat) : Int) then if (List.take (out.length + 1 - Int.toNat a2) (List.drop (Int.toNat a2) (out ++ [qc.mk 0 (ByteArray.mk (List.toArray []))]))).length * 2 = (out.length + 1 - Int.toNat a2) * 2 then if 0 ≤ a2 ∧ a2 < ((out.length + 1 : Nat) : Int) then if Int.toNat a2 * 2 + 2 ≤ (out.length + 1) * 2 then some (Sum.inl (List.set (out ++ [qc.mk 0 (ByteArray.mk (List.toArray []))]) (Int.toNat a2) a.1, a.2, w64 (k + 1)))
                      else none
                    else none
                  else none
                else if 0 ≤ a2 ∧ a2 < ((out.length + 1 : Nat) : Int) then if Int.toNat a2 * 2 + 2 ≤ (out.length + 1) * 2 then some (Sum.inl (List.set (out ++ [qc.mk 0 (ByteArray.mk (List.toArray []))]) (Int.toNat a2) a.1, a.2, w64 (k + 1)))
                  else none
                else none
              else none
            else none
          else none
        else none
      else if out.length + 1 ≤ Go.maxLen ∧ (out.length + 1) * 24 ≤ 140737488355328 then if 0 ≤ w64 (a2 + 1) ∧ w64 (a2 + 1) ≤ ((out.length + 1 : Nat) : Int) then if w64 (a2 + 1) = 0 ∨ w64 (a2 + 1) < ((out.length + 1 : Nat) : Int) then if 0 ≤ a2 ∧ a2 ≤ ((out.length + 1 : Nat) : Int) then if a2 = 0 ∨ a2 < ((out.length + 1 : Nat) : Int) then if (List.take (out.length + 1 - Int.toNat a2) (List.drop (Int.toNat a2) (out ++ [qc.mk 0 (ByteArray.mk (List.toArray []))]))).length * 2 = (out.length + 1 - Int.toNat a2) * 2 ∧ Int.toNat (w64 (a2 + 1)) * 2 + (out.length + 1 - Int.toNat (w64 (a2 + 1))) * 2 ≤ (out.length + 1) * 2 then if 0 ≤ a2 ∧ a2 < ((out.length + 1 : Nat) : Int) then if Int.toNat a2 * 2 + 2 ≤ (out.length + 1) * 2 then some (Sum.inl (List.set (spl (out ++ [qc.mk 0 (ByteArray.mk (List.toArray []))]) (Int.toNat (w64 (a2 + 1))) (List.take (min (out.length + 1 - Int.toNat a2) (out.length + 1 - Int.toNat (w64 (a2 + 1)))) (List.take (out.length + 1 - Int.toNat a2) (List.drop (Int.toNat a2) (out ++ [qc.mk 0 (ByteArray.mk (List.toArray []))]))))) (Int.toNat a2) a.1, a.2, w64 (k + 1)))
                    else none
                  else none
                else none
              else if Int.toNat (w64 (a2 + 1)) * 2 + (out.length + 1 - Int.toNat (w64 (a2 + 1))) * 2 ≤ (out.length + 1) * 2 then if 0 ≤ a2 ∧ a2 < ((out.length + 1 : Nat) : Int) then if Int.toNat a2 * 2 + 2 ≤ (out.length + 1) * 2 then some (Sum.inl (List.set (out ++ [qc.mk 0 (ByteArray.mk (List.toArray []))]) (Int.toNat a2) a.1, a.2, w64 (k + 1)))
                  else none
                else none
              else none
            else none
          else if 0 ≤ a2 ∧ a2 ≤ ((out.length + 1 : Nat) : Int) then if a2 = 0 ∨ a2 < ((out.length + 1 : Nat) : Int) then if (List.take (out.length + 1 - Int.toNat a2) (List.drop (Int.toNat a2) (out ++ [qc.mk 0 (ByteArray.mk (List.toArray []))]))).length * 2 = (out.length + 1 - Int.toNat a2) * 2 then if 0 ≤ a2 ∧ a2 < ((out.length + 1 : Nat) : Int) then if Int.toNat a2 * 2 + 2 ≤ (out.length + 1) * 2 then some (Sum.inl (List.set (out ++ [qc.mk 0 (ByteArray.mk (List.toArray []))]) (Int.toNat a2) a.1, a.2, w64 (k + 1)))
                  else none
                else none
              else none
            else if 0 ≤ a2 ∧ a2 < ((out.length + 1 : Nat) : Int) then if Int.toNat a2 * 2 + 2 ≤ (out.length + 1) * 2 then some (Sum.inl (List.set (out ++ [qc.mk 0 (ByteArray.mk (List.toArray []))]) (Int.toNat a2) a.1, a.2, w64 (k + 1)))
              else none
            else none
          else none
        else none
      else none
    else some (Sum.inr (out, d))
theorem q6j : ∀ (out : List qc) (d_L : List Int) (d_At many k : Int) (out_len : Nat), out_len = out.length → XL2 evo 58 1 4 ⟨[(0, rP 0), (3, rI many), (4, rO 1 2 out_len), (5, rI k)], [(0, B.blk 83 [dL 1 eI d_L, dI d_At]), (1, bR 52 2 qe out)], 2, 61⟩ = (qN (Qa many) (out, (qh.mk d_L d_At), k)).bind (fun (e : List qc × qh) => some (Go.Exit.exit 0, ⟨[(4, rO 1 2 e.1.length)], [(0, B.blk 83 [dL 1 eI e.2.L, dI e.2.At]), (1, bR 52 2 qe e.1)], 2, 61⟩)) :=
  by
  intro out d_L d_At many k out_len h0
  subst h0
  have h := q1e (E := evo) (f := 58) (k := 1) (st := fun x : List qc × qh × Int => (⟨[(0, rP 0), (3, rI many), (4, rO 1 2 x.1.length), (5, rI x.2.2)], [(0, B.blk 83 [dL 1 eI x.2.1.L, dI x.2.1.At]), (1, bR 52 2 qe x.1)], 2, 61⟩ : S)) (ex := fun (e : List qc × qh) => (Go.Exit.exit 0, ⟨[(4, rO 1 2 e.1.length)], [(0, B.blk 83 [dL 1 eI e.2.L, dI e.2.At]), (1, bR 52 2 qe e.1)], 2, 61⟩)) (step := (Qa many)) qmT qmg (fun e h => by cases h) (fun x => by
    obtain ⟨out, d, k⟩ := x; have := qqD; have := @qf4.eq_1; have := @q5R; have := @q61; have := @Qa.eq_1; exact gA) (out, (qh.mk d_L d_At), k)
  exact h
theorem q45 : ∀  (d_L : List Int) (d_At many k : Int), XL2 evo 58 1 4 ⟨[(0, rP 0), (3, rI many), (4, rO 1 2 0), (5, rI k)], [(0, B.blk 83 [dL 1 eI d_L, dI d_At]), (1, B.row 52 2 [])], 2, 61⟩ = (qN (Qa many) ([], (qh.mk d_L d_At), k)).bind (fun (e : List qc × qh) => some (Go.Exit.exit 0, ⟨[(4, rO 1 2 e.1.length)], [(0, B.blk 83 [dL 1 eI e.2.L, dI e.2.At]), (1, bR 52 2 qe e.1)], 2, 61⟩)) := by
  intro d_L d_At many k; have h := q6j [] ((qh.mk d_L d_At)).L ((qh.mk d_L d_At)).At many k _ rfl
  first
    | exact h
    | (simp only [rL, dL, bR, bZ, Nat.reduceAdd] at h; exact h)
noncomputable def Qp (d : qh) : Option (List qc × qh) :=
  Option.bind (qm 3 d) fun (a : Prod Int qh) =>
  Option.bind (qN (Qa (w64 (1 + a.1))) ([], (a.2, 0))) fun (a2 : Prod (List qc) qh) =>
  some (a2.1, a2.2)
theorem q8U : ∀ (d_L : List Int) (d_At : Int), ev 58 1 [rP 0] [(0, B.blk 83 [dL 1 eI d_L, dI d_At])] = (Qp (qh.mk d_L d_At)).bind (fun (e : List qc × qh) => some (rL 2 qe e.1, [(0, B.blk 83 [dL 1 eI e.2.L, dI e.2.At])])) :=
  fun d_L d_At => by
    rw [qz qmH qty.2.2.2 qqT]
    have := qqD; have := @ZR; have := @q45; have := @Qp.eq_1; exact gA
noncomputable def zC (x : (Int × Int × qh)) : List R × List (Nat × B) := ([R.c (C.ptr 0 0), R.c (C.d (D.int .i64 x.1)), R.c (C.d (D.int .i64 x.2.1))], [(0, B.blk 83 [C.d (D.sl 1 x.2.2.L.length (x.2.2.L.flatMap eI)), C.d (D.int .i64 x.2.2.At)])])
noncomputable def Qe : (qb × qh) → R × List (Nat × B) := fun (e : qb × qh) => (R.agg [C.d (D.int .i64 e.1.Kind), C.d (D.int .i64 e.1.N), C.d (D.int .i64 e.1.Min), C.d (D.sl 2 e.1.Set.length (e.1.Set.flatMap qe)), C.d (D.sl 5 e.1.L.length (e.1.L.flatMap qg))], [(0, B.blk 83 [C.d (D.sl 1 e.2.L.length (e.2.L.flatMap eI)), C.d (D.int .i64 e.2.At)])])
noncomputable def zx (rF : (Int × Int × qh) → Option (qb × qh)) (b1_Kind : Int) (b1_N : Int) (b1_Min : Int) (b2_Kind : Int) (b2_N : Int) (b2_Min : Int) (t1 : Int) (t2 : Int) (t7 : Int) (t8 : Int) : (List qb × qh × Int) → Option ((List qb × qh × Int) ⊕ (List qb × qh))
  | (w3, b0, t10) =>
    if t10 < t8 then if t8 = 0 then none
      else Option.bind (rF (w64 (t1 - 1), (w64 (Int.tdiv t2 t8), b0))) fun (a2 : Prod qb qh) =>
      if w3.length + 1 ≤ Go.maxLen ∧ (w3.length + 1) * 72 ≤ 140737488355328 then some (Sum.inl (w3 ++ [a2.1], a2.2, w64 (t10 + 1)))
      else none
    else some (Sum.inr (w3, b0))
theorem q4U (rE : Orc) (rF : (Int × Int × qh) → Option (qb × qh)) (hF : ∀ y, rE (.fn 40) 1 (zC y).1 (zC y).2 = (rF y).bind fun e => some (Qe e)) (hM : ∀ g k a G, g ≠ 40 → rE (.fn g) k a G = ev g k a G) (hR : ∀ g asg bd k a G, rE (.rd g asg bd) k a G = evr g asg bd k a G) : ∀ (w3 : List qb) (b0_L : List Int) (b0_At b1_Kind b1_N b1_Min b2_Kind b2_N b2_Min t1 t2 t7 t8 t10 : Int) (w3_len : Nat), w3_len = w3.length → XL2 rE 40 1 9 ⟨[(0, rP 0), (1, rI t1), (2, rI t2), (6, rP 1), (7, rI t7), (8, rI t8), (9, rP 2), (10, rI t10)], [(0, B.blk 83 [dL 1 eI b0_L, dI b0_At]), (1, B.blk 31 [dI b1_Kind, dI b1_N, dI b1_Min, C.nils, C.nils]), (2, B.blk 31 [dI b2_Kind, dI b2_N, dI b2_Min, C.nils, dO 3 5 w3_len]), (3, bR 31 5 qg w3)], 4, 77⟩ = (qN (zx rF b1_Kind b1_N b1_Min b2_Kind b2_N b2_Min t1 t2 t7 t8) (w3, (qh.mk b0_L b0_At), t10)).bind (fun (e : List qb × qh) => some (Go.Exit.exit 0, ⟨[(0, rP 0), (6, rP 1), (7, rI t7), (8, rI t8), (9, rP 2)], [(0, B.blk 83 [dL 1 eI e.2.L, dI e.2.At]), (1, B.blk 31 [dI b1_Kind, dI b1_N, dI b1_Min, C.nils, C.nils]), (2, B.blk 31 [dI b2_Kind, dI b2_N, dI b2_Min, C.nils, dO 3 5 e.1.length]), (3, bR 31 5 qg e.1)], 4, 77⟩)) :=
  by
  intro w3 b0_L b0_At b1_Kind b1_N b1_Min b2_Kind b2_N b2_Min t1 t2 t7 t8 t10 w3_len h0
  subst h0
  have h := q1e (E := rE) (f := 40) (k := 1) (st := fun x : List qb × qh × Int => (⟨[(0, rP 0), (1, rI t1), (2, rI t2), (6, rP 1), (7, rI t7), (8, rI t8), (9, rP 2), (10, rI x.2.2)], [(0, B.blk 83 [dL 1 eI x.2.1.L, dI x.2.1.At]), (1, B.blk 31 [dI b1_Kind, dI b1_N, dI b1_Min, C.nils, C.nils]), (2, B.blk 31 [dI b2_Kind, dI b2_N, dI b2_Min, C.nils, dO 3 5 x.1.length]), (3, bR 31 5 qg x.1)], 4, 77⟩ : S)) (ex := fun (e : List qb × qh) => (Go.Exit.exit 0, ⟨[(0, rP 0), (6, rP 1), (7, rI t7), (8, rI t8), (9, rP 2)], [(0, B.blk 83 [dL 1 eI e.2.L, dI e.2.At]), (1, B.blk 31 [dI b1_Kind, dI b1_N, dI b1_Min, C.nils, C.nils]), (2, B.blk 31 [dI b2_Kind, dI b2_N, dI b2_Min, C.nils, dO 3 5 e.1.length]), (3, bR 31 5 qg e.1)], 4, 77⟩)) (step := (zx rF b1_Kind b1_N b1_Min b2_Kind b2_N b2_Min t1 t2 t7 t8)) qn4 qmW (fun e h => by cases h) (fun x => by
    obtain ⟨w3, b0, t10⟩ := x; have hF' : ∀ (x1 x2 : Int) (v_L : List Int) (v_At : Int), rE (.fn 40) 1 [rP 0, rI x1, rI x2] [(0, B.blk 83 [dL 1 eI v_L, dI v_At])] = (rF (x1, x2, (qh.mk v_L v_At))).bind (fun e => some (R.agg [dI e.1.Kind, dI e.1.N, dI e.1.Min, dL 2 qe e.1.Set, dL 5 qg e.1.L], [(0, B.blk 83 [dL 1 eI e.2.L, dI e.2.At])])) := fun x1 x2 v_L v_At => hF (x1, x2, (qh.mk v_L v_At))
    have := qtm; have := @qeW.eq_1; have := @zx.eq_1; exact gA) (w3, (qh.mk b0_L b0_At), t10)
  exact h
theorem q3v : ∀ (rE : Orc) (rF : (Int × Int × qh) → Option (qb × qh)) (hF : ∀ y, rE (.fn 40) 1 (zC y).1 (zC y).2 = (rF y).bind fun e => some (Qe e)) (hM : ∀ g k a G, g ≠ 40 → rE (.fn g) k a G = ev g k a G) (hR : ∀ g asg bd k a G, rE (.rd g asg bd) k a G = evr g asg bd k a G), ∀  (b0_L : List Int) (b0_At b1_Kind b1_N b1_Min b2_Kind b2_N b2_Min t1 t2 t7 t8 t10 : Int), XL2 rE 40 1 9 ⟨[(0, rP 0), (1, rI t1), (2, rI t2), (6, rP 1), (7, rI t7), (8, rI t8), (9, rP 2), (10, rI t10)], [(0, B.blk 83 [dL 1 eI b0_L, dI b0_At]), (1, B.blk 31 [dI b1_Kind, dI b1_N, dI b1_Min, C.nils, C.nils]), (2, B.blk 31 [dI b2_Kind, dI b2_N, dI b2_Min, C.nils, dO 3 5 0]), (3, B.row 31 5 [])], 4, 77⟩ = (qN (zx rF b1_Kind b1_N b1_Min b2_Kind b2_N b2_Min t1 t2 t7 t8) ([], (qh.mk b0_L b0_At), t10)).bind (fun (e : List qb × qh) => some (Go.Exit.exit 0, ⟨[(0, rP 0), (6, rP 1), (7, rI t7), (8, rI t8), (9, rP 2)], [(0, B.blk 83 [dL 1 eI e.2.L, dI e.2.At]), (1, B.blk 31 [dI b1_Kind, dI b1_N, dI b1_Min, C.nils, C.nils]), (2, B.blk 31 [dI b2_Kind, dI b2_N, dI b2_Min, C.nils, dO 3 5 e.1.length]), (3, bR 31 5 qg e.1)], 4, 77⟩)) := by
  intro rE rF hF hM hR b0_L b0_At b1_Kind b1_N b1_Min b2_Kind b2_N b2_Min t1 t2 t7 t8 t10; have h := q4U rE rF hF hM hR [] ((qh.mk b0_L b0_At)).L ((qh.mk b0_L b0_At)).At b1_Kind b1_N b1_Min b2_Kind b2_N b2_Min t1 t2 t7 t8 t10 _ rfl
  first
    | exact h
    | (simp only [rL, dL, bR, bZ, Nat.reduceAdd] at h; exact h)
noncomputable def ZI (rF : (Int × Int × qh) → Option (qb × qh)) : (Int × Int × qh) → Option (qb × qh)
  | (x1, x2, v) =>
    Option.bind (qm 6 v) fun (a2 : Prod Int qh) =>
    if x1 ≤ 0 then Option.bind (qm 3 a2.2) fun (a3 : Prod Int qh) =>
      if (a3.1 == 0) = Bool.true then Option.bind (qm 12 a3.2) fun (a4 : Prod Int qh) =>
        Option.bind (qm 3 a4.2) fun (a5 : Prod Int qh) =>
        if 0 ≤ a5.1 ∧ a5.1 < 3 then Option.bind [(0 : Int), 50, 60][Int.toNat a5.1]? fun (a6 : Int) =>
          Option.bind (Qp a5.2) fun (a7 : Prod (List qc) qh) =>
          some (qb.mk 2 (w64 (1 + a4.1)) a6 a7.1 [], a7.2)
        else none
      else Option.bind (qm 4 a3.2) fun (a8 : Prod Int qh) =>
      if 0 ≤ a8.1 ∧ a8.1 < 4 then Option.bind [(0 : Int), 50, 60, 80][Int.toNat a8.1]? fun (a9 : Int) =>
        Option.bind (Qp a8.2) fun (a10 : Prod (List qc) qh) =>
        some (qb.mk 1 0 a9 a10.1 [], a10.2)
      else none
    else if x2 < 2 then Option.bind (qm 3 a2.2) fun (a11 : Prod Int qh) =>
      if (a11.1 == 0) = Bool.true then Option.bind (qm 12 a11.2) fun (a12 : Prod Int qh) =>
        Option.bind (qm 3 a12.2) fun (a13 : Prod Int qh) =>
        if 0 ≤ a13.1 ∧ a13.1 < 3 then Option.bind [(0 : Int), 50, 60][Int.toNat a13.1]? fun (a14 : Int) =>
          Option.bind (Qp a13.2) fun (a15 : Prod (List qc) qh) =>
          some (qb.mk 2 (w64 (1 + a12.1)) a14 a15.1 [], a15.2)
        else none
      else Option.bind (qm 4 a11.2) fun (a16 : Prod Int qh) =>
      if 0 ≤ a16.1 ∧ a16.1 < 4 then Option.bind [(0 : Int), 50, 60, 80][Int.toNat a16.1]? fun (a17 : Int) =>
        Option.bind (Qp a16.2) fun (a18 : Prod (List qc) qh) =>
        some (qb.mk 1 0 a17 a18.1 [], a18.2)
      else none
    else if a2.1 < 2 then Option.bind (qm 3 a2.2) fun (a19 : Prod Int qh) =>
      if (a19.1 == 0) = Bool.true then Option.bind (qm 12 a19.2) fun (a20 : Prod Int qh) =>
        Option.bind (qm 3 a20.2) fun (a21 : Prod Int qh) =>
        if 0 ≤ a21.1 ∧ a21.1 < 3 then Option.bind [(0 : Int), 50, 60][Int.toNat a21.1]? fun (a22 : Int) =>
          Option.bind (Qp a21.2) fun (a23 : Prod (List qc) qh) =>
          some (qb.mk 2 (w64 (1 + a20.1)) a22 a23.1 [], a23.2)
        else none
      else Option.bind (qm 4 a19.2) fun (a24 : Prod Int qh) =>
      if 0 ≤ a24.1 ∧ a24.1 < 4 then Option.bind [(0 : Int), 50, 60, 80][Int.toNat a24.1]? fun (a25 : Int) =>
        Option.bind (Qp a24.2) fun (a26 : Prod (List qc) qh) =>
        some (qb.mk 1 0 a25 a26.1 [], a26.2)
      else none
    else Option.bind (qm (min 3 x2) a2.2) fun (a27 : Prod Int qh) =>
    Option.bind (qN (zx rF 0 0 0 3 0 0 x1 x2 a2.1 (w64 (1 + a27.1))) ([], (a27.2, 0))) fun (a28 : Prod (List qb) qh) =>
    if 3 < a2.1 then Option.bind (qm (w64 (1 + a27.1)) a28.2) fun (a29 : Prod Int qh) =>
      some (qb.mk 4 (w64 (1 + a29.1)) 0 [] a28.1, a29.2)
    else some (qb.mk 3 0 0 [] a28.1, a28.2)
theorem q3c : q4a 40 1 zC Qe ZI := by
  intro rE rF hF hM hR x
  obtain ⟨x1, x2, v⟩ := x
  show q6D rE 40 1 [rP 0, rI x1, rI x2] [(0, B.blk 83 [dL 1 eI v.L, dI v.At])] = _
  have hF' : ∀ (x1 x2 : Int) (v_L : List Int) (v_At : Int), rE (.fn 40) 1 [rP 0, rI x1, rI x2] [(0, B.blk 83 [dL 1 eI v_L, dI v_At])] = (rF (x1, x2, (qh.mk v_L v_At))).bind (fun e => some (R.agg [dI e.1.Kind, dI e.1.N, dI e.1.Min, dL 2 qe e.1.Set, dL 5 qg e.1.L], [(0, B.blk 83 [dL 1 eI e.2.L, dI e.2.At])])) := fun x1 x2 v_L v_At => hF (x1, x2, (qh.mk v_L v_At))
  rw [q14 qpv qs6]
  have := qtm; have := @ZR; have := @q8U; have := q3v rE rF hF hM hR; have := @ZI.eq_1; have := @Qe.eq_1; exact gA
theorem q0U : ∀ x y, zC x = zC y → x = y := by
  rintro ⟨a0, a1, ⟨a2_0, a2_1⟩⟩ ⟨b0, b1, ⟨b2_0, b2_1⟩⟩ h
  simp only [zC, Prod.mk.injEq, List.cons.injEq, R.c.injEq, R.agg.injEq, R.tup.injEq, C.d.injEq, C.own.injEq, C.ptr.injEq, C.eptr.injEq, D.int.injEq, D.bool.injEq, D.str.injEq, D.sl.injEq, B.blk.injEq, B.row.injEq, Zu, JO, ZC, ZU, Jb, q0Q, Zw, q0Y, true_and, and_true, List.nil_append] at h
  simp only [h]
theorem q58 : ∀ x y, Qe x = Qe y → x = y := by
  rintro ⟨⟨a0_0, a0_1, a0_2, a0_3, a0_4⟩, ⟨a1_0, a1_1⟩⟩ ⟨⟨b0_0, b0_1, b0_2, b0_3, b0_4⟩, ⟨b1_0, b1_1⟩⟩ h
  simp only [Qe, Prod.mk.injEq, List.cons.injEq, R.c.injEq, R.agg.injEq, R.tup.injEq, C.d.injEq, C.own.injEq, C.ptr.injEq, C.eptr.injEq, D.int.injEq, D.bool.injEq, D.str.injEq, D.sl.injEq, B.blk.injEq, B.row.injEq, Zu, JO, ZC, ZU, Jb, q0Q, Zw, q0Y, true_and, and_true, List.nil_append] at h
  simp only [h]
noncomputable def QI : (Int × Int × qh) → Option (qb × qh) := q4p 40 1 zC Qe
theorem q3h (x : (Int × Int × qh)) : QI x = ZI QI x := q8u qqh.2.2.2 q0U q58 q3c x
theorem q7d (x1 x2 : Int) (v : qh) : ev 40 1 [rP 0, rI x1, rI x2] [(0, B.blk 83 [dL 1 eI v.L, dI v.At])] = (QI (x1, x2, v)).bind (fun (e : qb × qh) => some (R.agg [dI e.1.Kind, dI e.1.N, dI e.1.Min, dL 2 qe e.1.Set, dL 5 qg e.1.L], [(0, B.blk 83 [dL 1 eI e.2.L, dI e.2.At])])) := (q5i qqh.2.2.2 q0U q3c (x1, x2, v))
theorem q8b : ∀ (x1 x2 : Int) (v_L : List Int) (v_At : Int), ev 40 1 [rP 0, rI x1, rI x2] [(0, B.blk 83 [dL 1 eI v_L, dI v_At])] = (QI (x1, x2, (qh.mk v_L v_At))).bind (fun (e : qb × qh) => some (R.agg [dI e.1.Kind, dI e.1.N, dI e.1.Min, dL 2 qe e.1.Set, dL 5 qg e.1.L], [(0, B.blk 83 [dL 1 eI e.2.L, dI e.2.At])])) :=
  fun x1 x2 v_L v_At => q7d x1 x2 (qh.mk v_L v_At)
noncomputable def q0f (l : List Int) : Option qb :=
  Option.bind (QI (3, (6, qh.mk l 0))) fun (a : Prod qb qh) =>
  some a.1
theorem q7S : ∀ (l : List Int), ev 19 0 [rL 1 eI l] [] = (q0f l).bind (fun (e : qb) => some (R.agg [dI e.Kind, dI e.N, dI e.Min, dL 2 qe e.Set, dL 5 qg e.L], [])) :=
  fun l => by
    rw [qz qr7 qtc.2.2.2 quH]
    have := qvU; have := @q8b; have := @q0f.eq_1; exact gA
theorem qtr : okL 20 qc0 := qy (qi qpr) (by kernel_rfl) (by kernel_rfl)
def qtl := JA_ @qc0.eq_1 (JA_ @Try.f20.eq_1 @qpr)
theorem qnz : lbO 20 6 = qfE := Q8 (qi qpr) rfl
theorem qmG : okL 20 qfE := zc qtr (List.mem_of_getElem? (i := 0) (by kernel_rfl))
theorem qpC : okL 41 q93 := qy (qi qlS) (by kernel_rfl) (by kernel_rfl)
def qjz := JA_ @q93.eq_1 (JA_ @Try.f41.eq_1 @qlS)
theorem qj4 : lbO 41 4 = qc9 := Q8 (qi qlS) rfl
theorem qjj : okL 41 qc9 := zc qpC (List.mem_of_getElem? (i := 0) (by kernel_rfl))
theorem qj1 : lbO 41 8 = qbL := Q8 (qi qlS) rfl
theorem qj3 : okL 41 qbL := zc qpC (List.mem_of_getElem? (i := 1) (by kernel_rfl))
theorem qef : lbO 41 11 = q9n := Q8 (qi qlS) rfl
theorem qdX : okL 41 q9n := zc qpC (List.mem_of_getElem? (i := 2) (by kernel_rfl))
theorem qqy : okL 59 qcN := qy (qi qp4) (by kernel_rfl) (by kernel_rfl)
def qpo := JA_ @qcN.eq_1 (JA_ @Try.f59.eq_1 @qp4)
theorem qiO : lbO 59 5 = qcH := Q8 (qi qp4) rfl
theorem qj6 : okL 59 qcH := zc qqy (List.mem_of_getElem? (i := 0) (by kernel_rfl))
noncomputable def zM (x : (qb × Int × List qj)) : List R × List (Nat × B) := ([R.c (C.own 0 6 0 x.2.2.length), R.agg [C.d (D.int .i64 x.1.Kind), C.d (D.int .i64 x.1.N), C.d (D.int .i64 x.1.Min), C.d (D.sl 2 x.1.Set.length (x.1.Set.flatMap qe)), C.d (D.sl 5 x.1.L.length (x.1.L.flatMap qg))], R.c (C.d (D.int .i64 x.2.1))], [(0, B.row 111 6 ((x.2.2.flatMap qo).map C.d))])
noncomputable def Q7 : (Unit ⊕ (List qj)) → R × List (Nat × B) := Sum.elim (fun (e : Unit) => (R.tup [R.c (C.d (D.sl 6 0 [])), R.c (C.d (D.bool Bool.false))], [])) (fun (e : List qj) => (R.tup [R.c (C.own 0 6 0 e.length), R.c (C.d (D.bool Bool.true))], [(0, B.row 111 6 ((e.flatMap qo).map C.d))]))
noncomputable def Z4 (rF : (qb × Int × List qj) → Option (Unit ⊕ (List qj))) (n : qb) (deep : Int) : (List qj × Int) → Option ((List qj × Int) ⊕ (Unit ⊕ (List qj)))
  | (out, i) =>
    if i < ((n.L.length : Nat) : Int) then if 0 ≤ i ∧ i < ((n.L.length : Nat) : Int) then Option.bind n.L[Int.toNat i]? fun (a2 : qb) =>
        Option.bind (rF (a2, (w64 (deep + 1), out))) fun (a3 : Sum Unit (List qj)) =>
        Sum.elim (fun (a4 : Unit) => some (Sum.inr (Sum.inl ()))) (fun (a5 : List qj) => some (Sum.inl (a5, w64 (i + 1)))) a3
      else none
    else some (Sum.inr (Sum.inr out))
theorem q2v (rE : Orc) (rF : (qb × Int × List qj) → Option (Unit ⊕ (List qj))) (hF : ∀ y, rE (.fn 59) 0 (zM y).1 (zM y).2 = (rF y).bind fun e => some (Q7 e)) (hM : ∀ g k a G, g ≠ 59 → rE (.fn g) k a G = ev g k a G) (hR : ∀ g asg bd k a G, rE (.rd g asg bd) k a G = evr g asg bd k a G) : ∀ (out : List qj) (n_Kind n_N n_Min : Int) (n_Set : List qc) (n_L : List qb) (deep i : Int) (out_len : Nat), out_len = out.length → XL2 rE 59 0 5 ⟨[(0, rO 0 6 out_len), (2, rI deep), (4, rP 1), (8, rI i)], [(0, bR 111 6 qo out), (1, B.blk 31 [dI n_Kind, dI n_N, dI n_Min, dL 2 qe n_Set, dL 5 qg n_L])], 2, 47⟩ = (qN (Z4 rF (qb.mk n_Kind n_N n_Min n_Set n_L) deep) (out, i)).bind (Sum.elim (fun (e : Unit) => some (Go.Exit.ret, ⟨[(0, R.c (C.any)), (6, R.c (C.nils)), (7, rB Bool.false)], [], 0, 47⟩)) (fun (e : List qj) => some (Go.Exit.exit 0, ⟨[(0, rO 0 6 e.length), (6, R.any), (7, R.any)], [(0, bR 111 6 qo e)], 1, 47⟩))) :=
  by
  intro out n_Kind n_N n_Min n_Set n_L deep i out_len h0
  subst h0
  revert i; revert out; exact q8F qiO qj6 (fun e => by rcases e with _ | _ <;> exact ⟨_, rfl, fun h => by cases h⟩) fun out i => by
    have hF' : ∀ (n_Kind n_N n_Min : Int) (n_Set : List qc) (n_L : List qb) (deep : Int) (out : List qj) (out_len : Nat), out_len = out.length → rE (.fn 59) 0 [rO 0 6 out_len, R.agg [dI n_Kind, dI n_N, dI n_Min, dL 2 qe n_Set, dL 5 qg n_L], rI deep] [(0, bR 111 6 qo out)] = (rF ((qb.mk n_Kind n_N n_Min n_Set n_L), deep, out)).bind (Sum.elim (fun (e : Unit) => some (R.tup [R.c (C.d (D.sl 6 0 [])), rB Bool.false], [])) (fun (e : List qj) => some (R.tup [rO 0 6 e.length, rB Bool.true], [(0, bR 111 6 qo e)]))) := by intro n_Kind n_N n_Min n_Set n_L deep out out_len h0; subst h0; exact (hF ((qb.mk n_Kind n_N n_Min n_Set n_L), deep, out)).trans (by congr 1; funext e; rcases e with _ | _ <;> rfl)
    have := qpo; have := @qcH.eq_1; have := @Z4.eq_1; exact gA
noncomputable def Zc (rF : (qb × Int × List qj) → Option (Unit ⊕ (List qj))) : (qb × Int × List qj) → Option (Unit ⊕ (List qj))
  | (n, deep, out) =>
    if 100 < deep then some (Sum.inl ())
    else if 10000 ≤ ((out.length : Nat) : Int) then some (Sum.inl ())
    else if out.length + 1 ≤ Go.maxLen ∧ (out.length + 1) * 80 ≤ 140737488355328 then Option.bind (qN (Z4 rF n deep) (out ++ [qj.mk n deep], 0)) fun (a2 : Sum Unit (List qj)) =>
      Sum.elim (fun (a3 : Unit) => some (Sum.inl ())) (fun (a4 : List qj) => some (Sum.inr a4)) a2
    else none
theorem q1G : q4a 59 0 zM Q7 Zc := by
  intro rE rF hF hM hR x
  obtain ⟨n, deep, out⟩ := x
  show q6D rE 59 0 [rO 0 6 out.length, R.agg [dI n.Kind, dI n.N, dI n.Min, dL 2 qe n.Set, dL 5 qg n.L], rI deep] [(0, bR 111 6 qo out)] = _
  have hF' : ∀ (n_Kind n_N n_Min : Int) (n_Set : List qc) (n_L : List qb) (deep : Int) (out : List qj) (out_len : Nat), out_len = out.length → rE (.fn 59) 0 [rO 0 6 out_len, R.agg [dI n_Kind, dI n_N, dI n_Min, dL 2 qe n_Set, dL 5 qg n_L], rI deep] [(0, bR 111 6 qo out)] = (rF ((qb.mk n_Kind n_N n_Min n_Set n_L), deep, out)).bind (Sum.elim (fun (e : Unit) => some (R.tup [R.c (C.d (D.sl 6 0 [])), rB Bool.false], [])) (fun (e : List qj) => some (R.tup [rO 0 6 e.length, rB Bool.true], [(0, bR 111 6 qo e)]))) := by intro n_Kind n_N n_Min n_Set n_L deep out out_len h0; subst h0; exact (hF ((qb.mk n_Kind n_N n_Min n_Set n_L), deep, out)).trans (by congr 1; funext e; rcases e with _ | _ <;> rfl)
  rw [q14 qp4 qqy]
  have := qpo; have := q2v rE rF hF hM hR; have := @Zc.eq_1; have := @Q7.eq_1; exact gA
theorem q0g : ∀ x y, zM x = zM y → x = y := by
  rintro ⟨⟨a0_0, a0_1, a0_2, a0_3, a0_4⟩, a1, a2⟩ ⟨⟨b0_0, b0_1, b0_2, b0_3, b0_4⟩, b1, b2⟩ h
  simp only [zM, Prod.mk.injEq, List.cons.injEq, R.c.injEq, R.agg.injEq, R.tup.injEq, C.d.injEq, C.own.injEq, C.ptr.injEq, C.eptr.injEq, D.int.injEq, D.bool.injEq, D.str.injEq, D.sl.injEq, B.blk.injEq, B.row.injEq, Zu, JO, ZC, ZU, Jb, q0Q, Zw, q0Y, true_and, and_true, List.nil_append] at h
  simp only [h]
theorem q3U : ∀ x y, Q7 x = Q7 y → x = y := by
  rintro (_ | a1) (_ | b1) h <;> simp only [Sum.elim_inl, Sum.elim_inr, Q7, Prod.mk.injEq, List.cons.injEq, R.c.injEq, R.agg.injEq, R.tup.injEq, C.d.injEq, C.own.injEq, C.ptr.injEq, C.eptr.injEq, D.int.injEq, D.bool.injEq, D.str.injEq, D.sl.injEq, B.blk.injEq, B.row.injEq, Zu, JO, ZC, ZU, Jb, q0Q, Zw, q0Y, true_and, and_true, List.nil_append, reduceCtorEq, false_and, and_false] at h <;> simp only [h]
noncomputable def zJ : (qb × Int × List qj) → Option (Unit ⊕ (List qj)) := q4p 59 0 zM Q7
theorem q69 (x : (qb × Int × List qj)) : zJ x = Zc zJ x := q8u qpq.2.2.2 q0g q3U q1G x
theorem q56 (n : qb) (deep : Int) (out : List qj) : ev 59 0 [rO 0 6 out.length, R.agg [dI n.Kind, dI n.N, dI n.Min, dL 2 qe n.Set, dL 5 qg n.L], rI deep] [(0, bR 111 6 qo out)] = (zJ (n, deep, out)).bind (Sum.elim (fun (e : Unit) => some (R.tup [R.c (C.d (D.sl 6 0 [])), rB Bool.false], [])) (fun (e : List qj) => some (R.tup [rO 0 6 e.length, rB Bool.true], [(0, bR 111 6 qo e)]))) := (q5i qpq.2.2.2 q0g q1G (n, deep, out)).trans (by congr 1; funext e; rcases e with _ | _ <;> rfl)
theorem q6E : ∀ (n_Kind n_N n_Min : Int) (n_Set : List qc) (n_L : List qb) (deep : Int) (out : List qj) (out_len : Nat), out_len = out.length → ev 59 0 [rO 0 6 out_len, R.agg [dI n_Kind, dI n_N, dI n_Min, dL 2 qe n_Set, dL 5 qg n_L], rI deep] [(0, bR 111 6 qo out)] = (zJ ((qb.mk n_Kind n_N n_Min n_Set n_L), deep, out)).bind (Sum.elim (fun (e : Unit) => some (R.tup [R.c (C.d (D.sl 6 0 [])), rB Bool.false], [])) (fun (e : List qj) => some (R.tup [rO 0 6 e.length, rB Bool.true], [(0, bR 111 6 qo e)]))) :=
  by
  intro n_Kind n_N n_Min n_Set n_L deep out out_len h0
  subst h0
  exact q56 (qb.mk n_Kind n_N n_Min n_Set n_L) deep out
noncomputable def Zy (n : qb) (deep : Int) : (List qj × Int) → Option ((List qj × Int) ⊕ (Unit ⊕ (List qj)))
  | (out, i) =>
    if i < ((n.L.length : Nat) : Int) then if 0 ≤ i ∧ i < ((n.L.length : Nat) : Int) then Option.bind n.L[Int.toNat i]? fun (a : qb) =>
        Option.bind (zJ (a, (w64 (deep + 1), out))) fun (a2 : Sum Unit (List qj)) =>
        Sum.elim (fun (a3 : Unit) => some (Sum.inr (Sum.inl ()))) (fun (a4 : List qj) => some (Sum.inl (a4, w64 (i + 1)))) a2
      else none
    else some (Sum.inr (Sum.inr out))
theorem q5F : ∀ (out : List qj) (n_Kind n_N n_Min : Int) (n_Set : List qc) (n_L : List qb) (deep i : Int) (out_len : Nat), out_len = out.length → XL2 evo 59 0 5 ⟨[(0, rO 0 6 out_len), (2, rI deep), (4, rP 1), (8, rI i)], [(0, bR 111 6 qo out), (1, B.blk 31 [dI n_Kind, dI n_N, dI n_Min, dL 2 qe n_Set, dL 5 qg n_L])], 2, 47⟩ = (qN (Zy (qb.mk n_Kind n_N n_Min n_Set n_L) deep) (out, i)).bind (Sum.elim (fun (e : Unit) => some (Go.Exit.ret, ⟨[(0, R.c (C.any)), (6, R.c (C.nils)), (7, rB Bool.false)], [], 0, 47⟩)) (fun (e : List qj) => some (Go.Exit.exit 0, ⟨[(0, rO 0 6 e.length), (6, R.any), (7, R.any)], [(0, bR 111 6 qo e)], 1, 47⟩))) :=
  by
  intro out n_Kind n_N n_Min n_Set n_L deep i out_len h0
  subst h0
  revert i; revert out; exact q8F qiO qj6 (fun e => by rcases e with _ | _ <;> exact ⟨_, rfl, fun h => by cases h⟩) fun out i => by
    have := qpo; have := @qcH.eq_1; have := @q6E; have := @Zy.eq_1; exact gA
theorem q3g : ∀ (out0_Need_Kind out0_Need_N out0_Need_Min : Int) (out0_Need_Set : List qc) (out0_Need_L : List qb) (out0_Deep n_Kind n_N n_Min : Int) (n_Set : List qc) (n_L : List qb) (deep i : Int), XL2 evo 59 0 5 ⟨[(0, rO 0 6 1), (2, rI deep), (4, rP 1), (8, rI i)], [(0, B.row 111 6 [dI out0_Need_Kind, dI out0_Need_N, dI out0_Need_Min, dL 2 qe out0_Need_Set, dL 5 qg out0_Need_L, dI out0_Deep]), (1, B.blk 31 [dI n_Kind, dI n_N, dI n_Min, dL 2 qe n_Set, dL 5 qg n_L])], 2, 47⟩ = (qN (Zy (qb.mk n_Kind n_N n_Min n_Set n_L) deep) ([(qj.mk (qb.mk out0_Need_Kind out0_Need_N out0_Need_Min out0_Need_Set out0_Need_L) out0_Deep)], i)).bind (Sum.elim (fun (e : Unit) => some (Go.Exit.ret, ⟨[(0, R.c (C.any)), (6, R.c (C.nils)), (7, rB Bool.false)], [], 0, 47⟩)) (fun (e : List qj) => some (Go.Exit.exit 0, ⟨[(0, rO 0 6 e.length), (6, R.any), (7, R.any)], [(0, bR 111 6 qo e)], 1, 47⟩))) := by
  intro out0_Need_Kind out0_Need_N out0_Need_Min out0_Need_Set out0_Need_L out0_Deep n_Kind n_N n_Min n_Set n_L deep i; have h := q5F [(qj.mk (qb.mk out0_Need_Kind out0_Need_N out0_Need_Min out0_Need_Set out0_Need_L) out0_Deep)] ((qb.mk n_Kind n_N n_Min n_Set n_L)).Kind ((qb.mk n_Kind n_N n_Min n_Set n_L)).N ((qb.mk n_Kind n_N n_Min n_Set n_L)).Min ((qb.mk n_Kind n_N n_Min n_Set n_L)).Set ((qb.mk n_Kind n_N n_Min n_Set n_L)).L deep i _ rfl
  first
    | exact h
    | (simp only [rL, dL, bR, bZ, Nat.reduceAdd] at h; exact h)
noncomputable def q0h (n : qb) (deep : Int) : Option (Unit ⊕ (List qj)) :=
  if 100 < deep then some (Sum.inl ())
  else if 1 ≤ Go.maxLen then Option.bind (qN (Zy n deep) ([qj.mk n deep], 0)) fun (a : Sum Unit (List qj)) =>
    Sum.elim (fun (a2 : Unit) => some (Sum.inl ())) (fun (a3 : List qj) => some (Sum.inr a3)) a
  else none
theorem q8p : ∀ (n_Kind n_N n_Min : Int) (n_Set : List qc) (n_L : List qb) (deep : Int), ev 59 0 [R.c (C.nils), R.agg [dI n_Kind, dI n_N, dI n_Min, dL 2 qe n_Set, dL 5 qg n_L], rI deep] [] = (q0h (qb.mk n_Kind n_N n_Min n_Set n_L) deep).bind (Sum.elim (fun (e : Unit) => some (R.tup [R.c (C.d (D.sl 6 0 [])), rB Bool.false], [])) (fun (e : List qj) => some (R.tup [rO 0 6 e.length, rB Bool.true], [(0, bR 111 6 qo e)]))) :=
  fun n_Kind n_N n_Min n_Set n_L deep => by
    rw [qz qp4 qpq.2.2.2 qqy]
    have := qpo; have := @q3g; have := @q0h.eq_1; exact gA
noncomputable def Ji (w0 : List qc) (t3 : List qj) (t6 : Int) (t7 : List qc) (t8 : Int) : Int → Option (Int ⊕ Int)
  | t9 =>
    if t9 < ((w0.length : Nat) : Int) then if 0 ≤ t9 ∧ t9 < ((w0.length : Nat) : Int) then Option.bind w0[Int.toNat t9]? fun (a : qc) =>
        if 0 ≤ t8 ∧ t8 < ((t7.length : Nat) : Int) then Option.bind t7[Int.toNat t8]? fun (a2 : qc) =>
          if za a a2 = Bool.true then some (Sum.inl (w64 (t9 + 1)))
          else some (Sum.inr t9)
        else none
      else none
    else some (Sum.inr t9)
theorem q2E : ∀ (w0 : List qc) (t3 : List qj) (t6 : Int) (t7 : List qc) (t8 t9 : Int) (w0_len : Nat), w0_len = w0.length → XL2 evo 41 0 11 ⟨[(3, rL 6 qo t3), (5, rO 0 2 w0_len), (6, rI t6), (7, rL 2 qe t7), (8, rI t8), (9, rI t9)], [(0, bR 52 2 qe w0)], 1, 85⟩ = (qN (Ji w0 t3 t6 t7 t8) t9).bind (fun (e : Int) => some (Go.Exit.exit 4, ⟨[(3, rL 6 qo t3), (5, rO 0 2 w0.length), (6, rI t6), (7, rL 2 qe t7), (8, rI t8), (9, rI e)], [(0, bR 52 2 qe w0)], 1, 85⟩)) :=
  by
  intro w0 t3 t6 t7 t8 t9 w0_len h0
  subst h0
  revert t9; exact qaK qef qdX (fun e => by exact ⟨_, rfl, fun h => by cases h⟩) fun x => by
    have := qjz; have := @q9n.eq_1; have := @Jg; have := @Ji.eq_1; exact gA
noncomputable def Jz (t3 : List qj) (t6 : Int) (t7 : List qc) : (List qc × Int) → Option ((List qc × Int) ⊕ (List qc))
  | (w0, t8) =>
    if t8 < ((t7.length : Nat) : Int) then Option.bind (qN (Ji w0 t3 t6 t7 t8) 0) fun (a : Int) =>
      if a < ((w0.length : Nat) : Int) then if 0 ≤ a ∧ a < ((w0.length : Nat) : Int) then Option.bind w0[Int.toNat a]? fun (a2 : qc) =>
          if 0 ≤ t8 ∧ t8 < ((t7.length : Nat) : Int) then Option.bind t7[Int.toNat t8]? fun (a3 : qc) =>
            if (a2.School == a3.School) = Bool.true ∧ (ByteArray.toList a2.Code == ByteArray.toList a3.Code) = Bool.true then some (Sum.inl (w0, w64 (t8 + 1)))
            else if w0.length + 1 ≤ Go.maxLen ∧ (w0.length + 1) * 24 ≤ 140737488355328 then if 0 ≤ w64 (a + 1) ∧ w64 (a + 1) ≤ ((w0.length + 1 : Nat) : Int) then if w64 (a + 1) = 0 ∨ w64 (a + 1) < ((w0.length + 1 : Nat) : Int) then if 0 ≤ a ∧ a ≤ ((w0.length + 1 : Nat) : Int) then if a = 0 ∨ a < ((w0.length + 1 : Nat) : Int) then if (List.take (w0.length + 1 - Int.toNat a) (List.drop (Int.toNat a) (w0 ++ [qc.mk 0 (ByteArray.mk (List.toArray []))]))).length * 2 = (w0.length + 1 - Int.toNat a) * 2 ∧ Int.toNat (w64 (a + 1)) * 2 + (w0.length + 1 - Int.toNat (w64 (a + 1))) * 2 ≤ (w0.length + 1) * 2 then if 0 ≤ t8 ∧ t8 < ((t7.length : Nat) : Int) then Option.bind t7[Int.toNat t8]? fun (a4 : qc) =>
                          if 0 ≤ a ∧ a < ((w0.length + 1 : Nat) : Int) then if Int.toNat a * 2 + 2 ≤ (w0.length + 1) * 2 then some (Sum.inl (List.set (spl (w0 ++ [qc.mk 0 (ByteArray.mk (List.toArray []))]) (Int.toNat (w64 (a + 1))) (List.take (min (w0.length + 1 - Int.toNat a) (w0.length + 1 - Int.toNat (w64 (a + 1)))) (List.take (w0.length + 1 - Int.toNat a) (List.drop (Int.toNat a) (w0 ++ [qc.mk 0 (ByteArray.mk (List.toArray []))]))))) (Int.toNat a) a4, w64 (t8 + 1)))
                            else none
                          else none
                        else none
                      else none
                    else if Int.toNat (w64 (a + 1)) * 2 + (w0.length + 1 - Int.toNat (w64 (a + 1))) * 2 ≤ (w0.length + 1) * 2 then if 0 ≤ t8 ∧ t8 < ((t7.length : Nat) : Int) then Option.bind t7[Int.toNat t8]? fun (a5 : qc) =>
                        if 0 ≤ a ∧ a < ((w0.length + 1 : Nat) : Int) then if Int.toNat a * 2 + 2 ≤ (w0.length + 1) * 2 then some (Sum.inl (List.set (w0 ++ [qc.mk 0 (ByteArray.mk (List.toArray []))]) (Int.toNat a) a5, w64 (t8 + 1)))
                          else none
                        else none
                      else none
                    else none
                  else none
                else if 0 ≤ a ∧ a ≤ ((w0.length + 1 : Nat) : Int) then if a = 0 ∨ a < ((w0.length + 1 : Nat) : Int) then if (List.take (w0.length + 1 - Int.toNat a) (List.drop (Int.toNat a) (w0 ++ [qc.mk 0 (ByteArray.mk (List.toArray []))]))).length * 2 = (w0.length + 1 - Int.toNat a) * 2 then if 0 ≤ t8 ∧ t8 < ((t7.length : Nat) : Int) then Option.bind t7[Int.toNat t8]? fun (a6 : qc) =>
                        if 0 ≤ a ∧ a < ((w0.length + 1 : Nat) : Int) then if Int.toNat a * 2 + 2 ≤ (w0.length + 1) * 2 then some (Sum.inl (List.set (w0 ++ [qc.mk 0 (ByteArray.mk (List.toArray []))]) (Int.toNat a) a6, w64 (t8 + 1)))
                          else none
                        else none
                      else none
                    else none
                  else if 0 ≤ t8 ∧ t8 < ((t7.length : Nat) : Int) then Option.bind t7[Int.toNat t8]? fun (a7 : qc) =>
                    if 0 ≤ a ∧ a < ((w0.length + 1 : Nat) : Int) then if Int.toNat a * 2 + 2 ≤ (w0.length + 1) * 2 then some (Sum.inl (List.set (w0 ++ [qc.mk 0 (ByteArray.mk (List.toArray []))]) (Int.toNat a) a7, w64 (t8 + 1)))
                      else none
                    else none
                  else none
                else none
              else none
            else none
          else none
        else none
      else if w0.length + 1 ≤ Go.maxLen ∧ (w0.length + 1) * 24 ≤ 140737488355328 then if 0 ≤ w64 (a + 1) ∧ w64 (a + 1) ≤ ((w0.length + 1 : Nat) : Int) then if w64 (a + 1) = 0 ∨ w64 (a + 1) < ((w0.length + 1 : Nat) : Int) then if 0 ≤ a ∧ a ≤ ((w0.length + 1 : Nat) : Int) then if a = 0 ∨ a < ((w0.length + 1 : Nat) : Int) then if (List.take (w0.length + 1 - Int.toNat a) (List.drop (Int.toNat a) (w0 ++ [qc.mk 0 (ByteArray.mk (List.toArray []))]))).length * 2 = (w0.length + 1 - Int.toNat a) * 2 ∧ Int.toNat (w64 (a + 1)) * 2 + (w0.length + 1 - Int.toNat (w64 (a + 1))) * 2 ≤ (w0.length + 1) * 2 then if 0 ≤ t8 ∧ t8 < ((t7.length : Nat) : Int) then Option.bind t7[Int.toNat t8]? fun (a8 : qc) =>
                    if 0 ≤ a ∧ a < ((w0.length + 1 : Nat) : Int) then if Int.toNat a * 2 + 2 ≤ (w0.length + 1) * 2 then some (Sum.inl (List.set (spl (w0 ++ [qc.mk 0 (ByteArray.mk (List.toArray []))]) (Int.toNat (w64 (a + 1))) (List.take (min (w0.length + 1 - Int.toNat a) (w0.length + 1 - Int.toNat (w64 (a + 1)))) (List.take (w0.length + 1 - Int.toNat a) (List.drop (Int.toNat a) (w0 ++ [qc.mk 0 (ByteArray.mk (List.toArray []))]))))) (Int.toNat a) a8, w64 (t8 + 1)))
                      else none
                    else none
                  else none
                else none
              else if Int.toNat (w64 (a + 1)) * 2 + (w0.length + 1 - Int.toNat (w64 (a + 1))) * 2 ≤ (w0.length + 1) * 2 then if 0 ≤ t8 ∧ t8 < ((t7.length : Nat) : Int) then Option.bind t7[Int.toNat t8]? fun (a9 : qc) =>
                  if 0 ≤ a ∧ a < ((w0.length + 1 : Nat) : Int) then if Int.toNat a * 2 + 2 ≤ (w0.length + 1) * 2 then some (Sum.inl (List.set (w0 ++ [qc.mk 0 (ByteArray.mk (List.toArray []))]) (Int.toNat a) a9, w64 (t8 + 1)))
                    else none
                  else none
                else none
              else none
            else none
          else if 0 ≤ a ∧ a ≤ ((w0.length + 1 : Nat) : Int) then if a = 0 ∨ a < ((w0.length + 1 : Nat) : Int) then if (List.take (w0.length + 1 - Int.toNat a) (List.drop (Int.toNat a) (w0 ++ [qc.mk 0 (ByteArray.mk (List.toArray []))]))).length * 2 = (w0.length + 1 - Int.toNat a) * 2 then if 0 ≤ t8 ∧ t8 < ((t7.length : Nat) : Int) then Option.bind t7[Int.toNat t8]? fun (a10 : qc) =>
                  if 0 ≤ a ∧ a < ((w0.length + 1 : Nat) : Int) then if Int.toNat a * 2 + 2 ≤ (w0.length + 1) * 2 then some (Sum.inl (List.set (w0 ++ [qc.mk 0 (ByteArray.mk (List.toArray []))]) (Int.toNat a) a10, w64 (t8 + 1)))
                    else none
                  else none
                else none
              else none
            else if 0 ≤ t8 ∧ t8 < ((t7.length : Nat) : Int) then Option.bind t7[Int.toNat t8]? fun (a11 : qc) =>
              if 0 ≤ a ∧ a < ((w0.length + 1 : Nat) : Int) then if Int.toNat a * 2 + 2 ≤ (w0.length + 1) * 2 then some (Sum.inl (List.set (w0 ++ [qc.mk 0 (ByteArray.mk (List.toArray []))]) (Int.toNat a) a11, w64 (t8 + 1)))
                else none
              else none
            else none
          else none
        else none
      else none
    else some (Sum.inr w0)
theorem q3a : ∀ (w0 : List qc) (t3 : List qj) (t6 : Int) (t7 : List qc) (t8 : Int) (w0_len : Nat), w0_len = w0.length → XL2 evo 41 0 8 ⟨[(3, rL 6 qo t3), (5, rO 0 2 w0_len), (6, rI t6), (7, rL 2 qe t7), (8, rI t8)], [(0, bR 52 2 qe w0)], 1, 85⟩ = (qN (Jz t3 t6 t7) (w0, t8)).bind (fun (e : List qc) => some (Go.Exit.exit 2, ⟨[(3, rL 6 qo t3), (5, rO 0 2 e.length), (6, rI t6)], [(0, bR 52 2 qe e)], 1, 85⟩)) :=
  by
  intro w0 t3 t6 t7 t8 w0_len h0
  subst h0
  revert t8; revert w0; exact q8F qj1 qj3 (fun e => by exact ⟨_, rfl, fun h => by cases h⟩) fun w0 t8 => by
    have := qjz; have := @qbL.eq_1; have := @q2E; have := @Jz.eq_1; exact gA
noncomputable def Zv (t3 : List qj) : (List qc × Int) → Option ((List qc × Int) ⊕ (List qc))
  | (w0, t6) =>
    if t6 < ((t3.length : Nat) : Int) then if 0 ≤ t6 ∧ t6 < ((t3.length : Nat) : Int) then Option.bind t3[Int.toNat t6]? fun (a : qj) =>
        Option.bind (qN (Jz t3 t6 a.Need.Set) (w0, 0)) fun (a2 : List qc) =>
        some (Sum.inl (a2, w64 (t6 + 1)))
      else none
    else some (Sum.inr w0)
theorem q3o : ∀ (w0 : List qc) (t3 : List qj) (t6 : Int) (w0_len : Nat), w0_len = w0.length → XL2 evo 41 0 4 ⟨[(3, rL 6 qo t3), (5, rO 0 2 w0_len), (6, rI t6)], [(0, bR 52 2 qe w0)], 1, 85⟩ = (qN (Zv t3) (w0, t6)).bind (fun (e : List qc) => some (Go.Exit.exit 0, ⟨[(5, rO 0 2 e.length)], [(0, bR 52 2 qe e)], 1, 85⟩)) :=
  by
  intro w0 t3 t6 w0_len h0
  subst h0
  revert t6; revert w0; exact q8F qj4 qjj (fun e => by exact ⟨_, rfl, fun h => by cases h⟩) fun w0 t6 => by
    have := qjz; have := @qc9.eq_1; have := @q3a; have := @Zv.eq_1; exact gA
theorem q1B : ∀  (t6 : Int), XL2 evo 41 0 4 ⟨[(3, R.c (C.d (D.sl 6 0 []))), (5, rO 0 2 0), (6, rI t6)], [(0, B.row 52 2 [])], 1, 85⟩ = (qN (Zv []) ([], t6)).bind (fun (e : List qc) => some (Go.Exit.exit 0, ⟨[(5, rO 0 2 e.length)], [(0, bR 52 2 qe e)], 1, 85⟩)) := by
  intro t6; have h := q3o [] [] t6 _ rfl
  first
    | exact h
    | (simp only [rL, dL, bR, bZ, Nat.reduceAdd] at h; exact h)
noncomputable def zg (w0 : List qj) (w1 : List qc) (t6 : Int) (t7 : List qc) (t8 : Int) : Int → Option (Int ⊕ Int)
  | t9 =>
    if t9 < ((w1.length : Nat) : Int) then if 0 ≤ t9 ∧ t9 < ((w1.length : Nat) : Int) then Option.bind w1[Int.toNat t9]? fun (a : qc) =>
        if 0 ≤ t8 ∧ t8 < ((t7.length : Nat) : Int) then Option.bind t7[Int.toNat t8]? fun (a2 : qc) =>
          if za a a2 = Bool.true then some (Sum.inl (w64 (t9 + 1)))
          else some (Sum.inr t9)
        else none
      else none
    else some (Sum.inr t9)
theorem q1v : ∀ (w0 : List qj) (w1 : List qc) (t6 : Int) (t7 : List qc) (t8 t9 : Int) (w0_len w1_len : Nat), w0_len = w0.length → w1_len = w1.length → XL2 evo 41 0 11 ⟨[(3, rO 0 6 w0_len), (5, rO 1 2 w1_len), (6, rI t6), (7, rL 2 qe t7), (8, rI t8), (9, rI t9)], [(0, bR 111 6 qo w0), (1, bR 52 2 qe w1)], 2, 85⟩ = (qN (zg w0 w1 t6 t7 t8) t9).bind (fun (e : Int) => some (Go.Exit.exit 4, ⟨[(3, rO 0 6 w0.length), (5, rO 1 2 w1.length), (6, rI t6), (7, rL 2 qe t7), (8, rI t8), (9, rI e)], [(0, bR 111 6 qo w0), (1, bR 52 2 qe w1)], 2, 85⟩)) :=
  by
  intro w0 w1 t6 t7 t8 t9 w0_len w1_len h0 h1
  subst h0 h1
  revert t9; exact qaK qef qdX (fun e => by exact ⟨_, rfl, fun h => by cases h⟩) fun x => by
    have := qjz; have := @q9n.eq_1; have := @Jg; have := @zg.eq_1; exact gA
noncomputable def zo (w0 : List qj) (t6 : Int) (t7 : List qc) : (List qc × Int) → Option ((List qc × Int) ⊕ (List qc))
  | (w1, t8) =>
    if t8 < ((t7.length : Nat) : Int) then Option.bind (qN (zg w0 w1 t6 t7 t8) 0) fun (a : Int) =>
      if a < ((w1.length : Nat) : Int) then if 0 ≤ a ∧ a < ((w1.length : Nat) : Int) then Option.bind w1[Int.toNat a]? fun (a2 : qc) =>
          if 0 ≤ t8 ∧ t8 < ((t7.length : Nat) : Int) then Option.bind t7[Int.toNat t8]? fun (a3 : qc) =>
            if (a2.School == a3.School) = Bool.true ∧ (ByteArray.toList a2.Code == ByteArray.toList a3.Code) = Bool.true then some (Sum.inl (w1, w64 (t8 + 1)))
            else if w1.length + 1 ≤ Go.maxLen ∧ (w1.length + 1) * 24 ≤ 140737488355328 then if 0 ≤ w64 (a + 1) ∧ w64 (a + 1) ≤ ((w1.length + 1 : Nat) : Int) then if w64 (a + 1) = 0 ∨ w64 (a + 1) < ((w1.length + 1 : Nat) : Int) then if 0 ≤ a ∧ a ≤ ((w1.length + 1 : Nat) : Int) then if a = 0 ∨ a < ((w1.length + 1 : Nat) : Int) then if (List.take (w1.length + 1 - Int.toNat a) (List.drop (Int.toNat a) (w1 ++ [qc.mk 0 (ByteArray.mk (List.toArray []))]))).length * 2 = (w1.length + 1 - Int.toNat a) * 2 ∧ Int.toNat (w64 (a + 1)) * 2 + (w1.length + 1 - Int.toNat (w64 (a + 1))) * 2 ≤ (w1.length + 1) * 2 then if 0 ≤ t8 ∧ t8 < ((t7.length : Nat) : Int) then Option.bind t7[Int.toNat t8]? fun (a4 : qc) =>
                          if 0 ≤ a ∧ a < ((w1.length + 1 : Nat) : Int) then if Int.toNat a * 2 + 2 ≤ (w1.length + 1) * 2 then some (Sum.inl (List.set (spl (w1 ++ [qc.mk 0 (ByteArray.mk (List.toArray []))]) (Int.toNat (w64 (a + 1))) (List.take (min (w1.length + 1 - Int.toNat a) (w1.length + 1 - Int.toNat (w64 (a + 1)))) (List.take (w1.length + 1 - Int.toNat a) (List.drop (Int.toNat a) (w1 ++ [qc.mk 0 (ByteArray.mk (List.toArray []))]))))) (Int.toNat a) a4, w64 (t8 + 1)))
                            else none
                          else none
                        else none
                      else none
                    else if Int.toNat (w64 (a + 1)) * 2 + (w1.length + 1 - Int.toNat (w64 (a + 1))) * 2 ≤ (w1.length + 1) * 2 then if 0 ≤ t8 ∧ t8 < ((t7.length : Nat) : Int) then Option.bind t7[Int.toNat t8]? fun (a5 : qc) =>
                        if 0 ≤ a ∧ a < ((w1.length + 1 : Nat) : Int) then if Int.toNat a * 2 + 2 ≤ (w1.length + 1) * 2 then some (Sum.inl (List.set (w1 ++ [qc.mk 0 (ByteArray.mk (List.toArray []))]) (Int.toNat a) a5, w64 (t8 + 1)))
                          else none
                        else none
                      else none
                    else none
                  else none
                else if 0 ≤ a ∧ a ≤ ((w1.length + 1 : Nat) : Int) then if a = 0 ∨ a < ((w1.length + 1 : Nat) : Int) then if (List.take (w1.length + 1 - Int.toNat a) (List.drop (Int.toNat a) (w1 ++ [qc.mk 0 (ByteArray.mk (List.toArray []))]))).length * 2 = (w1.length + 1 - Int.toNat a) * 2 then if 0 ≤ t8 ∧ t8 < ((t7.length : Nat) : Int) then Option.bind t7[Int.toNat t8]? fun (a6 : qc) =>
                        if 0 ≤ a ∧ a < ((w1.length + 1 : Nat) : Int) then if Int.toNat a * 2 + 2 ≤ (w1.length + 1) * 2 then some (Sum.inl (List.set (w1 ++ [qc.mk 0 (ByteArray.mk (List.toArray []))]) (Int.toNat a) a6, w64 (t8 + 1)))
                          else none
                        else none
                      else none
                    else none
                  else if 0 ≤ t8 ∧ t8 < ((t7.length : Nat) : Int) then Option.bind t7[Int.toNat t8]? fun (a7 : qc) =>
                    if 0 ≤ a ∧ a < ((w1.length + 1 : Nat) : Int) then if Int.toNat a * 2 + 2 ≤ (w1.length + 1) * 2 then some (Sum.inl (List.set (w1 ++ [qc.mk 0 (ByteArray.mk (List.toArray []))]) (Int.toNat a) a7, w64 (t8 + 1)))
                      else none
                    else none
                  else none
                else none
              else none
            else none
          else none
        else none
      else if w1.length + 1 ≤ Go.maxLen ∧ (w1.length + 1) * 24 ≤ 140737488355328 then if 0 ≤ w64 (a + 1) ∧ w64 (a + 1) ≤ ((w1.length + 1 : Nat) : Int) then if w64 (a + 1) = 0 ∨ w64 (a + 1) < ((w1.length + 1 : Nat) : Int) then if 0 ≤ a ∧ a ≤ ((w1.length + 1 : Nat) : Int) then if a = 0 ∨ a < ((w1.length + 1 : Nat) : Int) then if (List.take (w1.length + 1 - Int.toNat a) (List.drop (Int.toNat a) (w1 ++ [qc.mk 0 (ByteArray.mk (List.toArray []))]))).length * 2 = (w1.length + 1 - Int.toNat a) * 2 ∧ Int.toNat (w64 (a + 1)) * 2 + (w1.length + 1 - Int.toNat (w64 (a + 1))) * 2 ≤ (w1.length + 1) * 2 then if 0 ≤ t8 ∧ t8 < ((t7.length : Nat) : Int) then Option.bind t7[Int.toNat t8]? fun (a8 : qc) =>
                    if 0 ≤ a ∧ a < ((w1.length + 1 : Nat) : Int) then if Int.toNat a * 2 + 2 ≤ (w1.length + 1) * 2 then some (Sum.inl (List.set (spl (w1 ++ [qc.mk 0 (ByteArray.mk (List.toArray []))]) (Int.toNat (w64 (a + 1))) (List.take (min (w1.length + 1 - Int.toNat a) (w1.length + 1 - Int.toNat (w64 (a + 1)))) (List.take (w1.length + 1 - Int.toNat a) (List.drop (Int.toNat a) (w1 ++ [qc.mk 0 (ByteArray.mk (List.toArray []))]))))) (Int.toNat a) a8, w64 (t8 + 1)))
                      else none
                    else none
                  else none
                else none
              else if Int.toNat (w64 (a + 1)) * 2 + (w1.length + 1 - Int.toNat (w64 (a + 1))) * 2 ≤ (w1.length + 1) * 2 then if 0 ≤ t8 ∧ t8 < ((t7.length : Nat) : Int) then Option.bind t7[Int.toNat t8]? fun (a9 : qc) =>
                  if 0 ≤ a ∧ a < ((w1.length + 1 : Nat) : Int) then if Int.toNat a * 2 + 2 ≤ (w1.length + 1) * 2 then some (Sum.inl (List.set (w1 ++ [qc.mk 0 (ByteArray.mk (List.toArray []))]) (Int.toNat a) a9, w64 (t8 + 1)))
                    else none
                  else none
                else none
              else none
            else none
          else if 0 ≤ a ∧ a ≤ ((w1.length + 1 : Nat) : Int) then if a = 0 ∨ a < ((w1.length + 1 : Nat) : Int) then if (List.take (w1.length + 1 - Int.toNat a) (List.drop (Int.toNat a) (w1 ++ [qc.mk 0 (ByteArray.mk (List.toArray []))]))).length * 2 = (w1.length + 1 - Int.toNat a) * 2 then if 0 ≤ t8 ∧ t8 < ((t7.length : Nat) : Int) then Option.bind t7[Int.toNat t8]? fun (a10 : qc) =>
                  if 0 ≤ a ∧ a < ((w1.length + 1 : Nat) : Int) then if Int.toNat a * 2 + 2 ≤ (w1.length + 1) * 2 then some (Sum.inl (List.set (w1 ++ [qc.mk 0 (ByteArray.mk (List.toArray []))]) (Int.toNat a) a10, w64 (t8 + 1)))
                    else none
                  else none
                else none
              else none
            else if 0 ≤ t8 ∧ t8 < ((t7.length : Nat) : Int) then Option.bind t7[Int.toNat t8]? fun (a11 : qc) =>
              if 0 ≤ a ∧ a < ((w1.length + 1 : Nat) : Int) then if Int.toNat a * 2 + 2 ≤ (w1.length + 1) * 2 then some (Sum.inl (List.set (w1 ++ [qc.mk 0 (ByteArray.mk (List.toArray []))]) (Int.toNat a) a11, w64 (t8 + 1)))
                else none
              else none
            else none
          else none
        else none
      else none
    else some (Sum.inr w1)
theorem q27 : ∀ (w0 : List qj) (w1 : List qc) (t6 : Int) (t7 : List qc) (t8 : Int) (w0_len w1_len : Nat), w0_len = w0.length → w1_len = w1.length → XL2 evo 41 0 8 ⟨[(3, rO 0 6 w0_len), (5, rO 1 2 w1_len), (6, rI t6), (7, rL 2 qe t7), (8, rI t8)], [(0, bR 111 6 qo w0), (1, bR 52 2 qe w1)], 2, 85⟩ = (qN (zo w0 t6 t7) (w1, t8)).bind (fun (e : List qc) => some (Go.Exit.exit 2, ⟨[(3, rO 0 6 w0.length), (5, rO 1 2 e.length), (6, rI t6)], [(0, bR 111 6 qo w0), (1, bR 52 2 qe e)], 2, 85⟩)) :=
  by
  intro w0 w1 t6 t7 t8 w0_len w1_len h0 h1
  subst h0 h1
  revert t8; revert w1; exact q8F qj1 qj3 (fun e => by exact ⟨_, rfl, fun h => by cases h⟩) fun w1 t8 => by
    have := qjz; have := @qbL.eq_1; have := @q1v; have := @zo.eq_1; exact gA
noncomputable def zp (w0 : List qj) : (List qc × Int) → Option ((List qc × Int) ⊕ (List qc))
  | (w1, t6) =>
    if t6 < ((w0.length : Nat) : Int) then if 0 ≤ t6 ∧ t6 < ((w0.length : Nat) : Int) then Option.bind w0[Int.toNat t6]? fun (a : qj) =>
        Option.bind (qN (zo w0 t6 a.Need.Set) (w1, 0)) fun (a2 : List qc) =>
        some (Sum.inl (a2, w64 (t6 + 1)))
      else none
    else some (Sum.inr w1)
theorem q1N : ∀ (w0 : List qj) (w1 : List qc) (t6 : Int) (w0_len w1_len : Nat), w0_len = w0.length → w1_len = w1.length → XL2 evo 41 0 4 ⟨[(3, rO 0 6 w0_len), (5, rO 1 2 w1_len), (6, rI t6)], [(0, bR 111 6 qo w0), (1, bR 52 2 qe w1)], 2, 85⟩ = (qN (zp w0) (w1, t6)).bind (fun (e : List qc) => some (Go.Exit.exit 0, ⟨[(5, rO 0 2 e.length)], [(0, bR 52 2 qe e)], 1, 85⟩)) :=
  by
  intro w0 w1 t6 w0_len w1_len h0 h1
  subst h0 h1
  revert t6; revert w1; exact q8F qj4 qjj (fun e => by exact ⟨_, rfl, fun h => by cases h⟩) fun w1 t6 => by
    have := qjz; have := @qc9.eq_1; have := @q27; have := @zp.eq_1; exact gA
theorem q0W : ∀  (w0 : List qj) (t6 : Int) (w0_len : Nat), w0_len = w0.length → XL2 evo 41 0 4 ⟨[(3, rO 0 6 w0_len), (5, rO 1 2 0), (6, rI t6)], [(0, bR 111 6 qo w0), (1, B.row 52 2 [])], 2, 85⟩ = (qN (zp w0) ([], t6)).bind (fun (e : List qc) => some (Go.Exit.exit 0, ⟨[(5, rO 0 2 e.length)], [(0, bR 52 2 qe e)], 1, 85⟩)) := by
  intro w0 t6 w0_len h0; subst h0; have h := q1N w0 [] t6 _ _ rfl rfl
  first
    | exact h
    | (simp only [rL, dL, bR, bZ, Nat.reduceAdd] at h; exact h)
noncomputable def ZF (x0 : qb) : Option (List qc) :=
  Option.bind (q0h x0 1) fun (a : Sum Unit (List qj)) =>
  Sum.elim (fun (a2 : Unit) => Option.bind (qN (Zv []) ([], 0)) fun (a4 : List qc) =>
    some a4) (fun (a3 : List qj) => Option.bind (qN (zp a3) ([], 0)) fun (a5 : List qc) =>
    some a5) a
theorem q5u : ∀ (x0_Kind x0_N x0_Min : Int) (x0_Set : List qc) (x0_L : List qb), ev 41 0 [R.agg [dI x0_Kind, dI x0_N, dI x0_Min, dL 2 qe x0_Set, dL 5 qg x0_L]] [] = (ZF (qb.mk x0_Kind x0_N x0_Min x0_Set x0_L)).bind (fun (e : List qc) => some (rO 0 2 e.length, [(0, bR 52 2 qe e)])) :=
  fun x0_Kind x0_N x0_Min x0_Set x0_L => by
    rw [qz qlS qsS.2.2.2 qpC]
    have := qjz; have := @q8p; have := @q1B; have := @q0W; have := @ZF.eq_1; exact gA
theorem qtH : okL 42 qgN := qy (qi qr9) (by kernel_rfl) (by kernel_rfl)
def qux := JA_ @qgN.eq_1 (JA_ @Try.f42.eq_1 @qr9)
theorem qvC : okL 61 qg4 := qy (qi qqf) (by kernel_rfl) (by kernel_rfl)
def quI := JA_ @qg4.eq_1 (JA_ @Try.f61.eq_1 @qqf)
noncomputable def q0R (n : Int) (m : Int) : Option Int :=
  if m = 0 then none
  else if m = 0 then none
  else some (Int.tmod (w64 (Int.tmod n m + m)) m)
theorem q8Q : ∀ (n m : Int), ev 61 0 [rI n, rI m] [] = (q0R n m).bind (fun (e : Int) => some (rI e, [])) :=
  fun n m => by
    rw [qz qqf qrO.2.2.2 qvC]
    have := quI; have := @q0R.eq_1; exact gA
noncomputable def z5 (n : Int) (d : qh) : Option (Int × qh) :=
  if ((d.L.length : Nat) : Int) ≤ d.At then some (0, d)
  else if 0 ≤ w64 (w64 (d.At + 1) - 1) ∧ w64 (w64 (d.At + 1) - 1) < ((d.L.length : Nat) : Int) then Option.bind d.L[Int.toNat (w64 (w64 (d.At + 1) - 1))]? fun (a : Int) =>
    Option.bind (q0R a n) fun (a2 : Int) =>
    some (a2, qh.mk d.L (w64 (d.At + 1)))
  else none
theorem q0A : ∀ (n : Int) (d_L : List Int) (d_At : Int), ev 42 1 [rP 0, rI n] [(0, B.blk 85 [dL 1 eI d_L, dI d_At])] = (z5 n (qh.mk d_L d_At)).bind (fun (e : Int × qh) => some (rI e.1, [(0, B.blk 85 [dL 1 eI e.2.L, dI e.2.At])])) :=
  fun n d_L d_At => by
    rw [qz qr9 qtj.2.2.2 qtH]
    have := qux; have := @q8Q; have := @z5.eq_1; exact gA
noncomputable def zz (w1 : List qc) (t8 : Int) : (List qa × qh × Int) → Option ((List qa × qh × Int) ⊕ (List qa))
  | (w2, b0, t9) =>
    if t9 < t8 then Option.bind (z5 ((w1.length : Nat) : Int) b0) fun (a : Prod Int qh) =>
      if 0 ≤ a.1 ∧ a.1 < ((w1.length : Nat) : Int) then Option.bind w1[Int.toNat a.1]? fun (a2 : qc) =>
        Option.bind (z5 4 a.2) fun (a3 : Prod Int qh) =>
        if 0 ≤ a3.1 ∧ a3.1 < 4 then Option.bind [(5 : Int), 6, 10, 3][Int.toNat a3.1]? fun (a4 : Int) =>
          Option.bind (z5 7 a3.2) fun (a5 : Prod Int qh) =>
          if 0 ≤ a5.1 ∧ a5.1 < 7 then Option.bind [(50 : Int), 60, 90, 40, 100, 79, 80][Int.toNat a5.1]? fun (a6 : Int) =>
            Option.bind (z5 600 a5.2) fun (a7 : Prod Int qh) =>
            Option.bind (z5 8 a7.2) fun (a8 : Prod Int qh) =>
            if (a8.1 == 0) = Bool.true then if 0 < t9 then if 0 ≤ w64 (t9 - 1) ∧ w64 (t9 - 1) < ((w2.length : Nat) : Int) then Option.bind w2[Int.toNat (w64 (t9 - 1))]? fun (a9 : qa) =>
                  if 0 < ((a9.Sources.length : Nat) : Int) then Option.bind a9.Sources[0]? fun (a10 : Int) =>
                    if w2.length + 1 ≤ Go.maxLen ∧ (w2.length + 1) * 104 ≤ 140737488355328 then some (Sum.inl (w2 ++ [qa.mk a2 a4 a6 a7.1 [a10] 0 []], a8.2, w64 (t9 + 1)))
                    else none
                  else none
                else none
              else if w2.length + 1 ≤ Go.maxLen ∧ (w2.length + 1) * 104 ≤ 140737488355328 then some (Sum.inl (w2 ++ [qa.mk a2 a4 a6 a7.1 [w64 (w64 (w64 (1000000 * a2.School) + t9) + 1)] 0 []], a8.2, w64 (t9 + 1)))
              else none
            else if w2.length + 1 ≤ Go.maxLen ∧ (w2.length + 1) * 104 ≤ 140737488355328 then some (Sum.inl (w2 ++ [qa.mk a2 a4 a6 a7.1 [w64 (w64 (w64 (1000000 * a2.School) + t9) + 1)] 0 []], a8.2, w64 (t9 + 1)))
            else none
          else none
        else none
      else none
    else some (Sum.inr w2)
theorem q5e : ∀ (w1 : List qc) (w2 : List qa) (b0_L : List Int) (b0_At t8 t9 : Int) (w1_len w2_len : Nat), w1_len = w1.length → w2_len = w2.length → XL2 evo 20 0 6 ⟨[(5, rP 0), (6, rO 1 2 w1_len), (7, rO 2 8 w2_len), (8, rI t8), (9, rI t9)], [(0, B.blk 85 [dL 1 eI b0_L, dI b0_At]), (1, bR 52 2 qe w1), (2, bR 54 8 qf w2)], 3, 77⟩ = (qN (zz w1 t8) (w2, (qh.mk b0_L b0_At), t9)).bind (fun (e : List qa) => some (Go.Exit.exit 0, ⟨[(7, rO 0 8 e.length)], [(0, bR 54 8 qf e)], 1, 77⟩)) :=
  by
  intro w1 w2 b0_L b0_At t8 t9 w1_len w2_len h0 h1
  subst h0 h1
  have h := q1e (E := evo) (f := 20) (k := 0) (st := fun x : List qa × qh × Int => (⟨[(5, rP 0), (6, rO 1 2 w1.length), (7, rO 2 8 x.1.length), (8, rI t8), (9, rI x.2.2)], [(0, B.blk 85 [dL 1 eI x.2.1.L, dI x.2.1.At]), (1, bR 52 2 qe w1), (2, bR 54 8 qf x.1)], 3, 77⟩ : S)) (ex := fun (e : List qa) => (Go.Exit.exit 0, ⟨[(7, rO 0 8 e.length)], [(0, bR 54 8 qf e)], 1, 77⟩)) (step := (zz w1 t8)) qnz qmG (fun e h => by cases h) (fun x => by
    obtain ⟨w2, b0, t9⟩ := x; have := qtl; have := @qfE.eq_1; have := @q0A; have := @zz.eq_1; exact gA) (w2, (qh.mk b0_L b0_At), t9)
  exact h
theorem q3l : ∀  (w1 : List qc) (b0_L : List Int) (b0_At t8 t9 : Int) (w1_len : Nat), w1_len = w1.length → XL2 evo 20 0 6 ⟨[(5, rP 0), (6, rO 1 2 w1_len), (7, rO 2 8 0), (8, rI t8), (9, rI t9)], [(0, B.blk 85 [dL 1 eI b0_L, dI b0_At]), (1, bR 52 2 qe w1), (2, B.row 54 8 [])], 3, 77⟩ = (qN (zz w1 t8) ([], (qh.mk b0_L b0_At), t9)).bind (fun (e : List qa) => some (Go.Exit.exit 0, ⟨[(7, rO 0 8 e.length)], [(0, bR 54 8 qf e)], 1, 77⟩)) := by
  intro w1 b0_L b0_At t8 t9 w1_len h0; subst h0; have h := q5e w1 [] ((qh.mk b0_L b0_At)).L ((qh.mk b0_L b0_At)).At t8 t9 _ _ rfl rfl
  first
    | exact h
    | (simp only [rL, dL, bR, bZ, Nat.reduceAdd] at h; exact h)
noncomputable def q0j (x0 : qb) (x1 : List Int) : Option (List qa) :=
  Option.bind (ZF x0) fun (a : List qc) =>
  if a.length + 1 ≤ Go.maxLen ∧ (a.length + 1) * 24 ≤ 140737488355328 then Option.bind (z5 8 (qh.mk x1 0)) fun (a2 : Prod Int qh) =>
    Option.bind (qN (zz (a ++ [qc.mk 1 (ByteArray.mk (List.toArray [90]))]) a2.1) ([], (a2.2, 0))) fun (a3 : List qa) =>
    some a3
  else none
theorem q80 : ∀ (x0_Kind x0_N x0_Min : Int) (x0_Set : List qc) (x0_L : List qb) (x1 : List Int), ev 20 0 [R.agg [dI x0_Kind, dI x0_N, dI x0_Min, dL 2 qe x0_Set, dL 5 qg x0_L], rL 1 eI x1] [] = (q0j (qb.mk x0_Kind x0_N x0_Min x0_Set x0_L) x1).bind (fun (e : List qa) => some (rL 8 qf e, [])) :=
  fun x0_Kind x0_N x0_Min x0_Set x0_L x1 => by
    rw [qz qpr qrS.2.2.2 qtr]
    have := qtl; have := @q5u; have := @q0A; have := @q3l; have := @q0j.eq_1; exact gA
noncomputable def QX (c : Zr) : Option (qb × List qa) :=
  Option.bind (q0f c.Need) fun (a : qb) =>
  Option.bind (q0j a c.L) fun (a2 : List qa) =>
  some (a, a2)
theorem q47 : ∀ (c_Need c_L : List Int) (c_Odd_0_0 c_Odd_0_1 c_Odd_0_2 c_Odd_1_0 c_Odd_1_1 c_Odd_1_2 : Int), ev 7 0 [R.agg [dL 1 eI c_Need, dL 1 eI c_L, dI c_Odd_0_0, dI c_Odd_0_1, dI c_Odd_0_2, dI c_Odd_1_0, dI c_Odd_1_1, dI c_Odd_1_2]] [] = (QX (Zr.mk c_Need c_L (qpS.mk (qjH.mk c_Odd_0_0 c_Odd_0_1 c_Odd_0_2) (qjH.mk c_Odd_1_0 c_Odd_1_1 c_Odd_1_2)))).bind (fun (e : qb × List qa) => some (R.tup [R.agg [dI e.1.Kind, dI e.1.N, dI e.1.Min, dL 2 qe e.1.Set, dL 5 qg e.1.L], rL 8 qf e.2], [])) :=
  fun c_Need c_L c_Odd_0_0 c_Odd_0_1 c_Odd_0_2 c_Odd_1_0 c_Odd_1_1 c_Odd_1_2 => by
    rw [qz bd7 pw7.2.2.2 lo7]
    have := cx7; have := @q7S; have := @q80; have := @QX.eq_1; exact gA
theorem lo8 : okL 8 qkc := qy (qi bd8) (by kernel_rfl) (by kernel_rfl)
def cx8 := JA_ @qkc.eq_1 (JA_ @Try.f8.eq_1 @bd8)
noncomputable def q0L (l : List qa) : Option (List qa) :=
  if 0 ≤ min ((l.length : Nat) : Int) 5 ∧ min ((l.length : Nat) : Int) 5 ≤ ((l.length : Nat) : Int) then some (List.take (Int.toNat (min ((l.length : Nat) : Int) 5) - 0) l)
  else none
theorem q8X : ∀ (l : List qa), ev 8 0 [rL 8 qf l] [] = (q0L l).bind (fun (e : List qa) => some (rL 8 qf e, [])) :=
  fun l => by
    rw [qz bd8 pw8.2.2.2 lo8]
    have := cx8; have := @q0L.eq_1; exact gA
noncomputable def ze (b0 : qb) (b1 : qd) (t3 : Bool) (t5 : List qa) : (List qa × Int) → Option ((List qa × Int) ⊕ (List qa))
  | (w2, t8) =>
    if 0 ≤ t8 then if 0 ≤ t8 ∧ t8 < ((t5.length : Nat) : Int) then Option.bind t5[Int.toNat t8]? fun (a : qa) =>
        if w2.length + 1 ≤ Go.maxLen ∧ (w2.length + 1) * 104 ≤ 140737488355328 then some (Sum.inl (w2 ++ [a], w64 (t8 - 1)))
        else none
      else none
    else some (Sum.inr w2)
theorem q2A : ∀ (w2 : List qa) (b0_Kind b0_N b0_Min : Int) (b0_Set : List qc) (b0_L : List qb) (b1_Worst b1_Best b1_Pass : Int) (t3 : Bool) (t5 : List qa) (t8 : Int) (w2_len : Nat), w2_len = w2.length → XL2 evo 5 0 7 ⟨[(3, rB t3), (4, rP 0), (5, rL 8 qf t5), (6, rP 1), (7, rO 2 8 w2_len), (8, rI t8)], [(0, B.blk 31 [dI b0_Kind, dI b0_N, dI b0_Min, dL 2 qe b0_Set, dL 5 qg b0_L]), (1, B.blk 37 [dI b1_Worst, dI b1_Best, dI b1_Pass]), (2, bR 54 8 qf w2)], 3, 152⟩ = (qN (ze (qb.mk b0_Kind b0_N b0_Min b0_Set b0_L) (qd.mk b1_Worst b1_Best b1_Pass) t3 t5) (w2, t8)).bind (fun (e : List qa) => some (Go.Exit.exit 0, ⟨[(3, rB t3), (4, rP 0), (5, rL 8 qf t5), (6, rP 1), (7, rO 2 8 e.length)], [(0, B.blk 31 [dI b0_Kind, dI b0_N, dI b0_Min, dL 2 qe b0_Set, dL 5 qg b0_L]), (1, B.blk 37 [dI b1_Worst, dI b1_Best, dI b1_Pass]), (2, bR 54 8 qf e)], 3, 152⟩)) :=
  by
  intro w2 b0_Kind b0_N b0_Min b0_Set b0_L b1_Worst b1_Best b1_Pass t3 t5 t8 w2_len h0
  subst h0
  revert t8; revert w2; exact q8F qqx qqN (fun e => by exact ⟨_, rfl, fun h => by cases h⟩) fun w2 t8 => by
    have := cx5; have := @qke.eq_1; have := @ze.eq_1; exact gA
theorem q1i : ∀  (b0_Kind b0_N b0_Min : Int) (b0_Set : List qc) (b0_L : List qb) (b1_Worst b1_Best b1_Pass : Int) (t3 : Bool) (t5 : List qa) (t8 : Int), XL2 evo 5 0 7 ⟨[(3, rB t3), (4, rP 0), (5, rL 8 qf t5), (6, rP 1), (7, rO 2 8 0), (8, rI t8)], [(0, B.blk 31 [dI b0_Kind, dI b0_N, dI b0_Min, dL 2 qe b0_Set, dL 5 qg b0_L]), (1, B.blk 37 [dI b1_Worst, dI b1_Best, dI b1_Pass]), (2, B.row 54 8 [])], 3, 152⟩ = (qN (ze (qb.mk b0_Kind b0_N b0_Min b0_Set b0_L) (qd.mk b1_Worst b1_Best b1_Pass) t3 t5) ([], t8)).bind (fun (e : List qa) => some (Go.Exit.exit 0, ⟨[(3, rB t3), (4, rP 0), (5, rL 8 qf t5), (6, rP 1), (7, rO 2 8 e.length)], [(0, B.blk 31 [dI b0_Kind, dI b0_N, dI b0_Min, dL 2 qe b0_Set, dL 5 qg b0_L]), (1, B.blk 37 [dI b1_Worst, dI b1_Best, dI b1_Pass]), (2, bR 54 8 qf e)], 3, 152⟩)) := by
  intro b0_Kind b0_N b0_Min b0_Set b0_L b1_Worst b1_Best b1_Pass t3 t5 t8; have h := q2A [] ((qb.mk b0_Kind b0_N b0_Min b0_Set b0_L)).Kind ((qb.mk b0_Kind b0_N b0_Min b0_Set b0_L)).N ((qb.mk b0_Kind b0_N b0_Min b0_Set b0_L)).Min ((qb.mk b0_Kind b0_N b0_Min b0_Set b0_L)).Set ((qb.mk b0_Kind b0_N b0_Min b0_Set b0_L)).L ((qd.mk b1_Worst b1_Best b1_Pass)).Worst ((qd.mk b1_Worst b1_Best b1_Pass)).Best ((qd.mk b1_Worst b1_Best b1_Pass)).Pass t3 t5 t8 _ rfl
  first
    | exact h
    | (simp only [rL, dL, bR, bZ, Nat.reduceAdd] at h; exact h)
noncomputable def zq (t3 : Bool) (t5 : List qa) (t12 : List Bool) (t14 : List Bool) (t16 : Int) (t17 : Bool) (t114 : List Bool) (t115 : Int) (t116 : Int) (t122 : Int) : (Int × Int) → Option ((Int × Int) ⊕ Int)
  | (t18, t123) =>
    if t123 < t122 then if 0 ≤ t123 then some (Sum.inl (w64 (w64 (t18 * 2) + J0 Go.BinOp.and Go.IntKind.i64 (Int.fdiv t16 (2 ^ min (Int.toNat t123) (Go.IntKind.bits Go.IntKind.i64))) 1), w64 (t123 + 1)))
      else none
    else some (Sum.inr t18)
theorem q1T : ∀ (t3 : Bool) (t5 : List qa) (t12 t14 : List Bool) (t16 : Int) (t17 : Bool) (t18 : Int) (t114 : List Bool) (t115 t116 t122 t123 : Int), XL2 evo 5 0 23 ⟨[(3, rB t3), (5, rL 8 qf t5), (12, rL 1 eB t12), (14, rL 1 eB t14), (16, rI t16), (17, rB t17), (18, rI t18), (114, rL 1 eB t114), (115, rI t115), (116, rI t116), (122, rI t122), (123, rI t123)], [], 0, 152⟩ = (qN (zq t3 t5 t12 t14 t16 t17 t114 t115 t116 t122) (t18, t123)).bind (fun (e : Int) => some (Go.Exit.exit 4, ⟨[(3, rB t3), (5, rL 8 qf t5), (12, rL 1 eB t12), (14, rL 1 eB t14), (16, rI t16), (17, rB t17), (18, rI e), (114, rL 1 eB t114), (115, rI t115), (116, rI t116)], [], 0, 152⟩)) :=
  fun t3 t5 t12 t14 t16 t17 t18 t114 t115 t116 t122 t123 => by
    revert t123; revert t18; exact q8F qoZ qoq (fun e => by exact ⟨_, rfl, fun h => by cases h⟩) fun t18 t123 => by
      have := cx5; have := @qeB.eq_1; have := @zq.eq_1; exact gA
noncomputable def qB (t3 : Bool) (t5 : List qa) (t12 : List Bool) (t14 : List Bool) (t114 : List Bool) (t115 : Int) : Int → Option (Int ⊕ (Unit ⊕ Unit))
  | t116 =>
    if t116 < t115 then if 0 ≤ t116 ∧ t116 < ((t114.length : Nat) : Int) then Option.bind t114[Int.toNat t116]? fun (a : Bool) =>
        Option.bind (qN (zq t3 t5 t12 t14 t116 a t114 t115 t116 ((t5.length : Nat) : Int)) (0, 0)) fun (a2 : Int) =>
        if 0 ≤ a2 ∧ a2 < ((t12.length : Nat) : Int) then Option.bind t12[Int.toNat a2]? fun (a3 : Bool) =>
          if (!(a3 == a)) = Bool.true then some (Sum.inr (Sum.inl ()))
          else if a = Bool.true then if 0 ≤ t116 ∧ t116 < ((t14.length : Nat) : Int) then Option.bind t14[Int.toNat t116]? fun (a4 : Bool) =>
              if (!a4) = Bool.true then some (Sum.inr (Sum.inl ()))
              else some (Sum.inl (w64 (t116 + 1)))
            else none
          else some (Sum.inl (w64 (t116 + 1)))
        else none
      else none
    else some (Sum.inr (Sum.inr ()))
theorem q2h : ∀ (t3 : Bool) (t5 : List qa) (t12 t14 t114 : List Bool) (t115 t116 : Int), XL2 evo 5 0 19 ⟨[(3, rB t3), (5, rL 8 qf t5), (12, rL 1 eB t12), (14, rL 1 eB t14), (114, rL 1 eB t114), (115, rI t115), (116, rI t116)], [], 0, 152⟩ = (qN (qB t3 t5 t12 t14 t114 t115) t116).bind (Sum.elim (fun (e : Unit) => some (Go.Exit.ret, ⟨[(2, rB Bool.false), (3, rB t3)], [], 0, 152⟩)) (fun (e : Unit) => some (Go.Exit.exit 2, ⟨[(2, R.any), (3, rB t3)], [], 0, 152⟩))) :=
  fun t3 t5 t12 t14 t114 t115 t116 => by
    revert t116; exact qaK qma qm6 (fun e => by rcases e with _ | _ <;> exact ⟨_, rfl, fun h => by cases h⟩) fun x => by
      have := cx5; have := @qfQ.eq_1; have := @q1T; have := @qB.eq_1; exact gA
noncomputable def zj (x : qb) : List R × List (Nat × B) := ([R.agg [C.d (D.int .i64 x.Kind), C.d (D.int .i64 x.N), C.d (D.int .i64 x.Min), C.d (D.sl 2 x.Set.length (x.Set.flatMap qe)), C.d (D.sl 5 x.L.length (x.L.flatMap qg))]], [])
noncomputable def zT : qb → R × List (Nat × B) := fun (e : qb) => (R.agg [C.d (D.int .i64 e.Kind), C.d (D.int .i64 e.N), C.d (D.int .i64 e.Min), C.d (D.sl 2 e.Set.length (e.Set.flatMap qe)), C.d (D.sl 5 e.L.length (e.L.flatMap qg))], [])
noncomputable def zQ (rF : qb → Option qb) (n_Kind : Int) (n_N : Int) (n_Min : Int) (n_Set : List qc) (b2_Kind : Int) (b2_N : Int) (b2_Min : Int) (t15 : Int) : (List qb × Int) → Option ((List qb × Int) ⊕ (List qb))
  | (w1, t16) =>
    if t16 < t15 then if 0 ≤ t16 ∧ t16 < ((w1.length : Nat) : Int) then Option.bind w1[Int.toNat t16]? fun (a2 : qb) =>
        Option.bind (rF a2) fun (a3 : qb) =>
        if 0 ≤ t16 ∧ t16 < ((w1.length : Nat) : Int) then if Int.toNat t16 * 5 + 5 ≤ w1.length * 5 then some (Sum.inl (List.set w1 (Int.toNat t16) a3, w64 (t16 + 1)))
          else none
        else none
      else none
    else some (Sum.inr w1)
theorem q4P (rE : Orc) (rF : qb → Option qb) (hF : ∀ y, rE (.fn 37) 0 (zj y).1 (zj y).2 = (rF y).bind fun e => some (zT e)) (hM : ∀ g k a G, g ≠ 37 → rE (.fn g) k a G = ev g k a G) (hR : ∀ g asg bd k a G, rE (.rd g asg bd) k a G = evr g asg bd k a G) : ∀ (w1 : List qb) (n_Kind n_N n_Min : Int) (n_Set : List qc) (b2_Kind b2_N b2_Min t15 t16 : Int) (w1_len : Nat), w1_len = w1.length → XL2 rE 37 0 3 ⟨[(1, rP 0), (2, rP 2), (14, rO 1 5 w1_len), (15, rI t15), (16, rI t16)], [(0, B.blk 31 [dI n_Kind, dI n_N, dI n_Min, dL 2 qe n_Set, dO 1 5 w1_len]), (1, bR 31 5 qg w1), (2, B.blk 31 [dI b2_Kind, dI b2_N, dI b2_Min, C.nils, C.nils])], 3, 29⟩ = (qN (zQ rF n_Kind n_N n_Min n_Set b2_Kind b2_N b2_Min t15) (w1, t16)).bind (fun (e : List qb) => some (Go.Exit.exit 0, ⟨[(1, rP 0), (2, rP 2)], [(0, B.blk 31 [dI n_Kind, dI n_N, dI n_Min, dL 2 qe n_Set, dO 1 5 e.length]), (1, bR 31 5 qg e), (2, B.blk 31 [dI b2_Kind, dI b2_N, dI b2_Min, C.nils, C.nils])], 3, 29⟩)) :=
  by
  intro w1 n_Kind n_N n_Min n_Set b2_Kind b2_N b2_Min t15 t16 w1_len h0
  subst h0
  revert t16; revert w1; exact q8F qjp qj2 (fun e => by exact ⟨_, rfl, fun h => by cases h⟩) fun w1 t16 => by
    have hF' : ∀ (n_Kind n_N n_Min : Int) (n_Set : List qc) (n_L : List qb), rE (.fn 37) 0 [R.agg [dI n_Kind, dI n_N, dI n_Min, dL 2 qe n_Set, dL 5 qg n_L]] [] = (rF (qb.mk n_Kind n_N n_Min n_Set n_L)).bind (fun e => some (R.agg [dI e.Kind, dI e.N, dI e.Min, dL 2 qe e.Set, dL 5 qg e.L], [])) := fun n_Kind n_N n_Min n_Set n_L => hF (qb.mk n_Kind n_N n_Min n_Set n_L)
    have := qrm; have := @qcc.eq_1; have := @zQ.eq_1; exact gA
noncomputable def q0n (fu : Nat) (rF : qb → Option qb) (n_Kind : Int) (n_N : Int) (n_Min : Int) (n_Set : List qc) (b2_Kind : Int) (b2_N : Int) (b2_Min : Int) (t15 : Int) : (List qb × Int) → Option ((List qb × Int) ⊕ (List qb))
  | (w1, t16) =>
    if t16 < t15 then if 0 ≤ t16 ∧ t16 < ((w1.length : Nat) : Int) then Option.bind w1[Int.toNat t16]? fun (a2 : qb) =>
        Option.bind (rF a2) fun (a3 : qb) =>
        if 0 ≤ t16 ∧ t16 < ((w1.length : Nat) : Int) then if Int.toNat t16 * 5 + 5 ≤ w1.length * 5 then some (Sum.inl (List.set w1 (Int.toNat t16) a3, w64 (t16 + 1)))
          else none
        else none
      else none
    else some (Sum.inr w1)
theorem q4D (fu : Nat) (rF rF2 : qb → Option qb) (hF : ∀ y, qk (rF y) (rF2 y)) (n_Kind n_N n_Min : Int) (n_Set : List qc) (b2_Kind b2_N b2_Min t15 : Int) : ∀ x, qk (q0n fu rF n_Kind n_N n_Min n_Set b2_Kind b2_N b2_Min t15 x) (zQ rF2 n_Kind n_N n_Min n_Set b2_Kind b2_N b2_Min t15 x) := by
  rintro ⟨w1, t16⟩
  unfold q0n zQ
  try dsimp only
  repeat (first
    | with_reducible exact qk.refl _
    | with_reducible exact qk.none _
    | exact hF _
    | with_reducible refine qk.bind ?_ (fun _ => ?_)
    | with_reducible refine qk.ite ?_ ?_
    | with_reducible refine qk.sum (fun _ => ?_) (fun _ => ?_)
    | with_reducible refine qk.lim (fun _ => ?_))
noncomputable def zK (rF : qb → Option qb) (n : qb) (b1_Kind : Int) (b1_N : Int) (b1_Min : Int) (t14 : List qb) (t15 : Int) (t16 : Int) : Unit → Option (Unit ⊕ Unit)
  | () =>
    if t16 < t15 then if 0 ≤ t16 ∧ t16 < ((t14.length : Nat) : Int) then Option.bind t14[Int.toNat t16]? fun (a2 : qb) =>
        Option.bind (rF a2) fun (a3 : qb) =>
        none
      else none
    else some (Sum.inr ())
theorem q2X (rE : Orc) (rF : qb → Option qb) (hF : ∀ y, rE (.fn 37) 0 (zj y).1 (zj y).2 = (rF y).bind fun e => some (zT e)) (hM : ∀ g k a G, g ≠ 37 → rE (.fn g) k a G = ev g k a G) (hR : ∀ g asg bd k a G, rE (.rd g asg bd) k a G = evr g asg bd k a G) : ∀ (n_Kind n_N n_Min : Int) (n_Set : List qc) (n_L : List qb) (b1_Kind b1_N b1_Min : Int) (t14 : List qb) (t15 t16 : Int), XL2 rE 37 0 3 ⟨[(1, rP 0), (2, rP 1), (14, rL 5 qg t14), (15, rI t15), (16, rI t16)], [(0, B.blk 31 [dI n_Kind, dI n_N, dI n_Min, dL 2 qe n_Set, dL 5 qg n_L]), (1, B.blk 31 [dI b1_Kind, dI b1_N, dI b1_Min, C.nils, C.nils])], 2, 29⟩ = (qN (zK rF (qb.mk n_Kind n_N n_Min n_Set n_L) b1_Kind b1_N b1_Min t14 t15 t16) ()).bind (fun (e : Unit) => some (Go.Exit.exit 0, ⟨[(1, rP 0), (2, rP 1)], [(0, B.blk 31 [dI n_Kind, dI n_N, dI n_Min, dL 2 qe n_Set, dL 5 qg n_L]), (1, B.blk 31 [dI b1_Kind, dI b1_N, dI b1_Min, C.nils, C.nils])], 2, 29⟩)) :=
  fun n_Kind n_N n_Min n_Set n_L b1_Kind b1_N b1_Min t14 t15 t16 => by
    have h := q1e (E := rE) (f := 37) (k := 0) (st := fun x : Unit => (⟨[(1, rP 0), (2, rP 1), (14, rL 5 qg t14), (15, rI t15), (16, rI t16)], [(0, B.blk 31 [dI n_Kind, dI n_N, dI n_Min, dL 2 qe n_Set, dL 5 qg n_L]), (1, B.blk 31 [dI b1_Kind, dI b1_N, dI b1_Min, C.nils, C.nils])], 2, 29⟩ : S)) (ex := fun (e : Unit) => (Go.Exit.exit 0, ⟨[(1, rP 0), (2, rP 1)], [(0, B.blk 31 [dI n_Kind, dI n_N, dI n_Min, dL 2 qe n_Set, dL 5 qg n_L]), (1, B.blk 31 [dI b1_Kind, dI b1_N, dI b1_Min, C.nils, C.nils])], 2, 29⟩)) (step := (zK rF (qb.mk n_Kind n_N n_Min n_Set n_L) b1_Kind b1_N b1_Min t14 t15 t16)) qjp qj2 (fun e h => by cases h) (fun x => by
      have hF' : ∀ (n_Kind n_N n_Min : Int) (n_Set : List qc) (n_L : List qb), rE (.fn 37) 0 [R.agg [dI n_Kind, dI n_N, dI n_Min, dL 2 qe n_Set, dL 5 qg n_L]] [] = (rF (qb.mk n_Kind n_N n_Min n_Set n_L)).bind (fun e => some (R.agg [dI e.Kind, dI e.N, dI e.Min, dL 2 qe e.Set, dL 5 qg e.L], [])) := fun n_Kind n_N n_Min n_Set n_L => hF (qb.mk n_Kind n_N n_Min n_Set n_L)
      have := qrm; have := @qcc.eq_1; have := @zK.eq_1; exact gA) ()
    exact h
noncomputable def JG (fu : Nat) (rF : qb → Option qb) (n : qb) (b1_Kind : Int) (b1_N : Int) (b1_Min : Int) (t14 : List qb) (t15 : Int) (t16 : Int) : Unit → Option (Unit ⊕ Unit)
  | () =>
    if t16 < t15 then if 0 ≤ t16 ∧ t16 < ((t14.length : Nat) : Int) then Option.bind t14[Int.toNat t16]? fun (a2 : qb) =>
        Option.bind (rF a2) fun (a3 : qb) =>
        none
      else none
    else some (Sum.inr ())
theorem q30 (fu : Nat) (rF rF2 : qb → Option qb) (hF : ∀ y, qk (rF y) (rF2 y)) (n : qb) (b1_Kind b1_N b1_Min : Int) (t14 : List qb) (t15 t16 : Int) : ∀ x, qk (JG fu rF n b1_Kind b1_N b1_Min t14 t15 t16 x) (zK rF2 n b1_Kind b1_N b1_Min t14 t15 t16 x) := by
  rintro ⟨⟩
  unfold JG zK
  try dsimp only
  repeat (first
    | with_reducible exact qk.refl _
    | with_reducible exact qk.none _
    | exact hF _
    | with_reducible refine qk.bind ?_ (fun _ => ?_)
    | with_reducible refine qk.ite ?_ ?_
    | with_reducible refine qk.sum (fun _ => ?_) (fun _ => ?_)
    | with_reducible refine qk.lim (fun _ => ?_))
noncomputable def Qh (rF : qb → Option qb) : qb → Option qb
  | n =>
    Option.bind (qA n.Set) fun (a2 : Unit) =>
    Option.bind (qO n.L) fun (a3 : Sum Unit Unit) =>
    Sum.elim (fun (a4 : Unit) => Option.bind (qN (zQ rF n.Kind n.N n.Min n.Set 0 0 0 ((n.L.length : Nat) : Int)) (n.L, 0)) fun (a6 : List qb) =>
      some (qb.mk n.Kind n.N n.Min n.Set a6)) (fun (a5 : Unit) => Option.bind (qN (zK rF n 0 0 0 n.L ((n.L.length : Nat) : Int) 0) Unit.unit) fun (a7 : Unit) =>
      some n) a3
theorem q2r : q4a 37 0 zj zT Qh := by
  intro rE rF hF hM hR n
  show q6D rE 37 0 [R.agg [dI n.Kind, dI n.N, dI n.Min, dL 2 qe n.Set, dL 5 qg n.L]] [] = _
  have hF' : ∀ (n_Kind n_N n_Min : Int) (n_Set : List qc) (n_L : List qb), rE (.fn 37) 0 [R.agg [dI n_Kind, dI n_N, dI n_Min, dL 2 qe n_Set, dL 5 qg n_L]] [] = (rF (qb.mk n_Kind n_N n_Min n_Set n_L)).bind (fun e => some (R.agg [dI e.Kind, dI e.N, dI e.Min, dL 2 qe e.Set, dL 5 qg e.L], [])) := fun n_Kind n_N n_Min n_Set n_L => hF (qb.mk n_Kind n_N n_Min n_Set n_L)
  rw [q14 qpt qsI]
  have := qrm; have := @ZG; have := @Jd; have := q4P rE rF hF hM hR; have := q2X rE rF hF hM hR; have := @Qh.eq_1; have := @zT.eq_1; exact gA
theorem q0y : ∀ x y, zj x = zj y → x = y := by
  rintro ⟨a_0, a_1, a_2, a_3, a_4⟩ ⟨b_0, b_1, b_2, b_3, b_4⟩ h
  simp only [zj, Prod.mk.injEq, List.cons.injEq, R.c.injEq, R.agg.injEq, R.tup.injEq, C.d.injEq, C.own.injEq, C.ptr.injEq, C.eptr.injEq, D.int.injEq, D.bool.injEq, D.str.injEq, D.sl.injEq, B.blk.injEq, B.row.injEq, Zu, JO, ZC, ZU, Jb, q0Q, Zw, q0Y, true_and, and_true, List.nil_append] at h
  simp only [h]
theorem q4h : ∀ x y, zT x = zT y → x = y := by
  rintro ⟨a_0, a_1, a_2, a_3, a_4⟩ ⟨b_0, b_1, b_2, b_3, b_4⟩ h
  simp only [zT, Prod.mk.injEq, List.cons.injEq, R.c.injEq, R.agg.injEq, R.tup.injEq, C.d.injEq, C.own.injEq, C.ptr.injEq, C.eptr.injEq, D.int.injEq, D.bool.injEq, D.str.injEq, D.sl.injEq, B.blk.injEq, B.row.injEq, Zu, JO, ZC, ZU, Jb, q0Q, Zw, q0Y, true_and, and_true, List.nil_append] at h
  simp only [h]
noncomputable def Qb : qb → Option qb := q4p 37 0 zj zT
theorem q2k (x : qb) : Qb x = Qh Qb x := q8u qqW.2.2.2 q0y q4h q2r x
theorem q6l (n : qb) : ev 37 0 [R.agg [dI n.Kind, dI n.N, dI n.Min, dL 2 qe n.Set, dL 5 qg n.L]] [] = (Qb n).bind (fun (e : qb) => some (R.agg [dI e.Kind, dI e.N, dI e.Min, dL 2 qe e.Set, dL 5 qg e.L], [])) := (q5i qqW.2.2.2 q0y q2r n)
theorem q6T : ∀ (n_Kind n_N n_Min : Int) (n_Set : List qc) (n_L : List qb), ev 37 0 [R.agg [dI n_Kind, dI n_N, dI n_Min, dL 2 qe n_Set, dL 5 qg n_L]] [] = (Qb (qb.mk n_Kind n_N n_Min n_Set n_L)).bind (fun (e : qb) => some (R.agg [dI e.Kind, dI e.N, dI e.Min, dL 2 qe e.Set, dL 5 qg e.L], [])) :=
  fun n_Kind n_N n_Min n_Set n_L => q6l (qb.mk n_Kind n_N n_Min n_Set n_L)
noncomputable def JE (fu : Nat) (rF : qb → Option qb) : qb → Option qb
  | n =>
    Option.bind (qA n.Set) fun (a2 : Unit) =>
    Option.bind (qO n.L) fun (a3 : Sum Unit Unit) =>
    Sum.elim (fun (a4 : Unit) => Option.bind (itT (q0n fu rF n.Kind n.N n.Min n.Set 0 0 0 ((n.L.length : Nat) : Int)) fu (n.L, 0)) fun (a6 : List qb) =>
      some (qb.mk n.Kind n.N n.Min n.Set a6)) (fun (a5 : Unit) => Option.bind (itT (JG fu rF n 0 0 0 n.L ((n.L.length : Nat) : Int) 0) fu Unit.unit) fun (a7 : Unit) =>
      some n) a3
theorem q3n (fu : Nat) (rF rF2 : qb → Option qb) (hF : ∀ y, qk (rF y) (rF2 y)) : ∀ x, qk (JE fu rF x) (Qh rF2 x) := by
  rintro n
  unfold JE Qh
  try dsimp only
  repeat (first
    | with_reducible exact qk.refl _
    | with_reducible exact qk.none _
    | exact hF _
    | (with_reducible refine q4D _ _ _ hF ..)
    | (with_reducible refine q30 _ _ _ hF ..)
    | with_reducible refine qk.bind ?_ (fun _ => ?_)
    | with_reducible refine qk.ite ?_ ?_
    | with_reducible refine qk.sum (fun _ => ?_) (fun _ => ?_)
    | with_reducible refine qk.lim (fun _ => ?_))
noncomputable def q5t (fu : Nat) (x : qb) : Option qb := itR (JE fu) fu x
theorem q7e (fu : Nat) (x : qb) : qk (q5t fu x) (Qb x) := qk.rec q2k (q3n fu) fu x
noncomputable def zh (t14 : List qb) (t15 : Int) : (List qb × Int) → Option ((List qb × Int) ⊕ (List qb))
  | (leaves, t16) =>
    if t16 < t15 then if 0 ≤ t16 ∧ t16 < ((t14.length : Nat) : Int) then Option.bind t14[Int.toNat t16]? fun (a : qb) =>
        if Zb a = Bool.true then Option.bind (Qb a) fun (a2 : qb) =>
          if leaves.length + 1 ≤ Go.maxLen ∧ (leaves.length + 1) * 72 ≤ 140737488355328 then some (Sum.inl (leaves ++ [a2], w64 (t16 + 1)))
          else none
        else some (Sum.inl (leaves, w64 (t16 + 1)))
      else none
    else some (Sum.inr leaves)
theorem q4G : ∀ (leaves t14 : List qb) (t15 t16 : Int) (leaves_len : Nat), leaves_len = leaves.length → XL2 evo 14 0 3 ⟨[(2, rO 0 5 leaves_len), (14, rL 5 qg t14), (15, rI t15), (16, rI t16)], [(0, bR 31 5 qg leaves)], 1, 29⟩ = (qN (zh t14 t15) (leaves, t16)).bind (fun (e : List qb) => some (Go.Exit.exit 0, ⟨[(2, rO 0 5 e.length)], [(0, bR 31 5 qg e)], 1, 29⟩)) :=
  by
  intro leaves t14 t15 t16 leaves_len h0
  subst h0
  revert t16; revert leaves; exact q8F qnH qnh (fun e => by exact ⟨_, rfl, fun h => by cases h⟩) fun leaves t16 => by
    have := qrX; have := @qfT.eq_1; have := @q8N; have := @q6T; have := @zh.eq_1; exact gA
theorem q2P : ∀  (t14 : List qb) (t15 t16 : Int), XL2 evo 14 0 3 ⟨[(2, rO 0 5 0), (14, rL 5 qg t14), (15, rI t15), (16, rI t16)], [(0, B.row 31 5 [])], 1, 29⟩ = (qN (zh t14 t15) ([], t16)).bind (fun (e : List qb) => some (Go.Exit.exit 0, ⟨[(2, rO 0 5 e.length)], [(0, bR 31 5 qg e)], 1, 29⟩)) := by
  intro t14 t15 t16; have h := q4G [] t14 t15 t16 _ rfl
  first
    | exact h
    | (simp only [rL, dL, bR, bZ, Nat.reduceAdd] at h; exact h)
noncomputable def q0r (fu : Nat) (t14 : List qb) (t15 : Int) : (List qb × Int) → Option ((List qb × Int) ⊕ (List qb))
  | (leaves, t16) =>
    if t16 < t15 then if 0 ≤ t16 ∧ t16 < ((t14.length : Nat) : Int) then Option.bind t14[Int.toNat t16]? fun (a : qb) =>
        if Zb a = Bool.true then Option.bind (q5t fu a) fun (a2 : qb) =>
          if leaves.length + 1 ≤ Go.maxLen ∧ (leaves.length + 1) * 72 ≤ 140737488355328 then some (Sum.inl (leaves ++ [a2], w64 (t16 + 1)))
          else none
        else some (Sum.inl (leaves, w64 (t16 + 1)))
      else none
    else some (Sum.inr leaves)
theorem q4v (fu : Nat) (t14 : List qb) (t15 : Int) : ∀ x, qk (q0r fu t14 t15 x) (zh t14 t15 x) := by
  rintro ⟨leaves, t16⟩
  unfold q0r zh
  try dsimp only
  repeat (first
    | with_reducible exact qk.refl _
    | with_reducible exact qk.none _
    | with_reducible apply q7e
    | with_reducible refine qk.bind ?_ (fun _ => ?_)
    | with_reducible refine qk.ite ?_ ?_
    | with_reducible refine qk.sum (fun _ => ?_) (fun _ => ?_)
    | with_reducible refine qk.lim (fun _ => ?_))
noncomputable def QE (n : qb) : Option (List qb) :=
  Option.bind (ZE n) fun (a : Prod (List qb) (Prod Int Bool)) =>
  Option.bind (qN (zh a.1 ((a.1.length : Nat) : Int)) ([], 0)) fun (a2 : List qb) =>
  some a2
theorem q2s : ∀ (n_Kind n_N n_Min : Int) (n_Set : List qc) (n_L : List qb), ev 14 0 [R.agg [dI n_Kind, dI n_N, dI n_Min, dL 2 qe n_Set, dL 5 qg n_L]] [] = (QE (qb.mk n_Kind n_N n_Min n_Set n_L)).bind (fun (e : List qb) => some (rL 5 qg e, [])) :=
  fun n_Kind n_N n_Min n_Set n_L => by
    rw [qz qpi qsM.2.2.2 qt3]
    have := qrX; have := @q4d; have := @q2P; have := @QE.eq_1; exact gA
noncomputable def q0D (fu : Nat) (n : qb) : Option (List qb) :=
  Option.bind (q25 fu n) fun (a : Prod (List qb) (Prod Int Bool)) =>
  Option.bind (itT (q0r fu a.1 ((a.1.length : Nat) : Int)) fu ([], 0)) fun (a2 : List qb) =>
  some a2
theorem q2j (fu : Nat) (n : qb) : qk (q0D fu n) (QE n) := by
  unfold q0D QE
  repeat (first
    | with_reducible exact qk.refl _
    | with_reducible exact qk.none _
    | with_reducible apply q4c
    | with_reducible apply q4v
    | with_reducible refine qk.bind ?_ (fun _ => ?_)
    | with_reducible refine qk.ite ?_ ?_
    | with_reducible refine qk.sum (fun _ => ?_) (fun _ => ?_)
    | with_reducible refine qk.lim (fun _ => ?_))
noncomputable def QH (n : qb) : Option Int :=
  Option.bind (ZE n) fun (a : Prod (List qb) (Prod Int Bool)) =>
  if (!a.2.2) = Bool.true then some 2
  else if 24 < ((a.1.length : Nat) : Int) then some 2
  else if 5 < a.2.1 then some 2
  else Option.bind (QE n) fun (a2 : List qb) =>
  if (!(qC ((a2.length : Nat) : Int) 1 8)) = Bool.true then some 2
  else Option.bind (qN (zL a.1 ((a.1.length : Nat) : Int)) 0) fun (a3 : Sum Int Unit) =>
  Sum.elim (fun (a4 : Int) => some a4) (fun (a5 : Unit) => some 0) a3
theorem q3x : ∀ (n_Kind n_N n_Min : Int) (n_Set : List qc) (n_L : List qb), ev 21 0 [R.agg [dI n_Kind, dI n_N, dI n_Min, dL 2 qe n_Set, dL 5 qg n_L]] [] = (QH (qb.mk n_Kind n_N n_Min n_Set n_L)).bind (fun (e : Int) => some (rI e, [])) :=
  fun n_Kind n_N n_Min n_Set n_L => by
    rw [qz qpk qrR.2.2.2 qsD]
    have := qt0; have := @q4d; have := @q2s; have := @Zj; have := @q8f; have := @q5I; have := @QH.eq_1; exact gA
noncomputable def q16 (fu : Nat) (n : qb) : Option Int :=
  Option.bind (q25 fu n) fun (a : Prod (List qb) (Prod Int Bool)) =>
  if (!a.2.2) = Bool.true then some 2
  else if 24 < ((a.1.length : Nat) : Int) then some 2
  else if 5 < a.2.1 then some 2
  else Option.bind (q0D fu n) fun (a2 : List qb) =>
  if (!(qC ((a2.length : Nat) : Int) 1 8)) = Bool.true then some 2
  else Option.bind (itT (q0M fu a.1 ((a.1.length : Nat) : Int)) fu 0) fun (a3 : Sum Int Unit) =>
  Sum.elim (fun (a4 : Int) => some a4) (fun (a5 : Unit) => some 0) a3
theorem q3z (fu : Nat) (n : qb) : qk (q16 fu n) (QH n) := by
  unfold q16 QH
  repeat (first
    | with_reducible exact qk.refl _
    | with_reducible exact qk.none _
    | with_reducible apply q4c
    | with_reducible apply q2j
    | with_reducible apply q5A
    | with_reducible refine qk.bind ?_ (fun _ => ?_)
    | with_reducible refine qk.ite ?_ ?_
    | with_reducible refine qk.sum (fun _ => ?_) (fun _ => ?_)
    | with_reducible refine qk.lim (fun _ => ?_))
noncomputable def qL (n : qb) (s : qd) (l : List qa) : Option (List Bool × Int) :=
  Option.bind (QH n) fun (a : Int) =>
  if (a != 0) = Bool.true then some ([], a)
  else if 10 < ((l.length : Nat) : Int) then some ([], 2)
  else Option.bind (q00 n s l) fun (a2 : List Bool) =>
  some (a2, 0)
theorem q2f : ∀ (n_Kind n_N n_Min : Int) (n_Set : List qc) (n_L : List qb) (s_Worst s_Best s_Pass : Int) (l : List qa), ev 10 0 [R.agg [dI n_Kind, dI n_N, dI n_Min, dL 2 qe n_Set, dL 5 qg n_L], R.agg [dI s_Worst, dI s_Best, dI s_Pass], rL 8 qf l] [] = (qL (qb.mk n_Kind n_N n_Min n_Set n_L) (qd.mk s_Worst s_Best s_Pass) l).bind (fun (e : List Bool × Int) => some (R.tup [rL 1 eB e.1, rI e.2], [])) :=
  fun n_Kind n_N n_Min n_Set n_L s_Worst s_Best s_Pass l => by
    rw [qz qqn qrJ.2.2.2 qva]
    have := qvp; have := @q3x; have := @q8R; have := @qL.eq_1; exact gA
theorem q6V : ∀ (l0_Course_School : Int) (l0_Course_Code : ByteArray) (l0_Credits l0_Grade l0_Day l0_Bundle l1_Course_School : Int) (l1_Course_Code : ByteArray) (l1_Credits l1_Grade l1_Day l1_Bundle l2_Course_School : Int) (l2_Course_Code : ByteArray) (l2_Credits l2_Grade l2_Day l2_Bundle n_Kind n_N n_Min : Int) (n_Set : List qc) (n_L : List qb) (s_Worst s_Best s_Pass : Int), ev 10 0 [R.agg [dI n_Kind, dI n_N, dI n_Min, dL 2 qe n_Set, dL 5 qg n_L], R.agg [dI s_Worst, dI s_Best, dI s_Pass], R.c (C.d (D.sl 8 3 [D.int .i64 l0_Course_School, D.str l0_Course_Code, D.int .i64 l0_Credits, D.int .i64 l0_Grade, D.int .i64 l0_Day, D.sl 1 0 [], D.int .i64 l0_Bundle, D.sl 1 0 [], D.int .i64 l1_Course_School, D.str l1_Course_Code, D.int .i64 l1_Credits, D.int .i64 l1_Grade, D.int .i64 l1_Day, D.sl 1 0 [], D.int .i64 l1_Bundle, D.sl 1 0 [], D.int .i64 l2_Course_School, D.str l2_Course_Code, D.int .i64 l2_Credits, D.int .i64 l2_Grade, D.int .i64 l2_Day, D.sl 1 0 [], D.int .i64 l2_Bundle, D.sl 1 0 []]))] [] = (qL (qb.mk n_Kind n_N n_Min n_Set n_L) (qd.mk s_Worst s_Best s_Pass) [(qa.mk (qc.mk l0_Course_School l0_Course_Code) l0_Credits l0_Grade l0_Day [] l0_Bundle []), (qa.mk (qc.mk l1_Course_School l1_Course_Code) l1_Credits l1_Grade l1_Day [] l1_Bundle []), (qa.mk (qc.mk l2_Course_School l2_Course_Code) l2_Credits l2_Grade l2_Day [] l2_Bundle [])]).bind (fun (e : List Bool × Int) => some (R.tup [rL 1 eB e.1, rI e.2], [])) := by
  intro l0_Course_School l0_Course_Code l0_Credits l0_Grade l0_Day l0_Bundle l1_Course_School l1_Course_Code l1_Credits l1_Grade l1_Day l1_Bundle l2_Course_School l2_Course_Code l2_Credits l2_Grade l2_Day l2_Bundle n_Kind n_N n_Min n_Set n_L s_Worst s_Best s_Pass; have h := q2f ((qb.mk n_Kind n_N n_Min n_Set n_L)).Kind ((qb.mk n_Kind n_N n_Min n_Set n_L)).N ((qb.mk n_Kind n_N n_Min n_Set n_L)).Min ((qb.mk n_Kind n_N n_Min n_Set n_L)).Set ((qb.mk n_Kind n_N n_Min n_Set n_L)).L ((qd.mk s_Worst s_Best s_Pass)).Worst ((qd.mk s_Worst s_Best s_Pass)).Best ((qd.mk s_Worst s_Best s_Pass)).Pass [(qa.mk (qc.mk l0_Course_School l0_Course_Code) l0_Credits l0_Grade l0_Day [] l0_Bundle []), (qa.mk (qc.mk l1_Course_School l1_Course_Code) l1_Credits l1_Grade l1_Day [] l1_Bundle []), (qa.mk (qc.mk l2_Course_School l2_Course_Code) l2_Credits l2_Grade l2_Day [] l2_Bundle [])]
  first
    | exact h
    | (simp only [rL, dL, bR, bZ, Nat.reduceAdd] at h; exact h)
noncomputable def q3J (fu : Nat) (n : qb) (s : qd) (l : List qa) : Option (List Bool × Int) :=
  Option.bind (q16 fu n) fun (a : Int) =>
  if (a != 0) = Bool.true then some ([], a)
  else if 10 < ((l.length : Nat) : Int) then some ([], 2)
  else Option.bind (q4k fu n s l) fun (a2 : List Bool) =>
  some (a2, 0)
theorem q5b (fu : Nat) (n : qb) (s : qd) (l : List qa) : qk (q3J fu n s l) (qL n s l) := by
  unfold q3J qL
  repeat (first
    | with_reducible exact qk.refl _
    | with_reducible exact qk.none _
    | with_reducible apply q3z
    | with_reducible apply q8I
    | with_reducible refine qk.bind ?_ (fun _ => ?_)
    | with_reducible refine qk.ite ?_ ?_
    | with_reducible refine qk.sum (fun _ => ?_) (fun _ => ?_)
    | with_reducible refine qk.lim (fun _ => ?_))
noncomputable def QZ (x0 : qb) (x1 : qd) (x2 : List qa) (x3 : Int) : Option (List Int × Bool) :=
  Option.bind (qL x0 x1 x2) fun (a : Prod (List Bool) Int) =>
  if (a.2 != 0) = Bool.true then some ([], Bool.false)
  else if x3 < 0 then some ([], Bool.false)
  else if ((a.1.length : Nat) : Int) ≤ x3 then some ([], Bool.false)
  else if 0 ≤ x3 ∧ x3 < ((a.1.length : Nat) : Int) then Option.bind a.1[Int.toNat x3]? fun (a2 : Bool) =>
    if (!a2) = Bool.true then some ([], Bool.false)
    else if 0 ≤ ((x2.length : Nat) : Int) ∧ 8 * ((x2.length : Nat) : Int) ≤ 281474976710656 ∧ ((x2.length : Nat) : Int) ≤ 9223372036854775807 then Option.bind (qN (QV x0 x1 x2 x3 ((x2.length : Nat) : Int)) ([], ([], 0))) fun (a3 : List Int) =>
      some (a3, Bool.true)
    else none
  else none
theorem q8g : ∀ (x0_Kind x0_N x0_Min : Int) (x0_Set : List qc) (x0_L : List qb) (x1_Worst x1_Best x1_Pass : Int) (x2 : List qa) (x3 : Int), ev 11 0 [R.agg [dI x0_Kind, dI x0_N, dI x0_Min, dL 2 qe x0_Set, dL 5 qg x0_L], R.agg [dI x1_Worst, dI x1_Best, dI x1_Pass], rL 8 qf x2, rI x3] [] = (QZ (qb.mk x0_Kind x0_N x0_Min x0_Set x0_L) (qd.mk x1_Worst x1_Best x1_Pass) x2 x3).bind (fun (e : List Int × Bool) => some (R.tup [rL 1 eI e.1, rB e.2], [])) :=
  fun x0_Kind x0_N x0_Min x0_Set x0_L x1_Worst x1_Best x1_Pass x2 x3 => by
    rw [qz qnR qsF.2.2.2 qqU]
    have := qq5; have := @q2f; have := @q3q; have := @QZ.eq_1; exact gA
theorem q5k : ∀ (x0_Kind x0_N x0_Min x0_L0_Kind x0_L0_N x0_L0_Min x0_L0_Set0_School : Int) (x0_L0_Set0_Code : ByteArray) (x0_L1_Kind x0_L1_N x0_L1_Min x0_L1_Set0_School : Int) (x0_L1_Set0_Code : ByteArray) (x0_L1_Set1_School : Int) (x0_L1_Set1_Code : ByteArray) (x20_Course_School : Int) (x20_Course_Code : ByteArray) (x20_Credits x20_Grade x20_Day x20_Bundle x21_Course_School : Int) (x21_Course_Code : ByteArray) (x21_Credits x21_Grade x21_Day x21_Bundle x22_Course_School : Int) (x22_Course_Code : ByteArray) (x22_Credits x22_Grade x22_Day x22_Bundle x1_Worst x1_Best x1_Pass x3 : Int), ev 11 0 [R.agg [dI x0_Kind, dI x0_N, dI x0_Min, C.d (D.sl 2 0 []), C.d (D.sl 5 2 [D.int .i64 x0_L0_Kind, D.int .i64 x0_L0_N, D.int .i64 x0_L0_Min, D.sl 2 1 [D.int .i64 x0_L0_Set0_School, D.str x0_L0_Set0_Code], D.sl 5 0 [], D.int .i64 x0_L1_Kind, D.int .i64 x0_L1_N, D.int .i64 x0_L1_Min, D.sl 2 2 [D.int .i64 x0_L1_Set0_School, D.str x0_L1_Set0_Code, D.int .i64 x0_L1_Set1_School, D.str x0_L1_Set1_Code], D.sl 5 0 []])], R.agg [dI x1_Worst, dI x1_Best, dI x1_Pass], R.c (C.d (D.sl 8 3 [D.int .i64 x20_Course_School, D.str x20_Course_Code, D.int .i64 x20_Credits, D.int .i64 x20_Grade, D.int .i64 x20_Day, D.sl 1 0 [], D.int .i64 x20_Bundle, D.sl 1 0 [], D.int .i64 x21_Course_School, D.str x21_Course_Code, D.int .i64 x21_Credits, D.int .i64 x21_Grade, D.int .i64 x21_Day, D.sl 1 0 [], D.int .i64 x21_Bundle, D.sl 1 0 [], D.int .i64 x22_Course_School, D.str x22_Course_Code, D.int .i64 x22_Credits, D.int .i64 x22_Grade, D.int .i64 x22_Day, D.sl 1 0 [], D.int .i64 x22_Bundle, D.sl 1 0 []])), rI x3] [] = (QZ (qb.mk x0_Kind x0_N x0_Min [] [(qb.mk x0_L0_Kind x0_L0_N x0_L0_Min [(qc.mk x0_L0_Set0_School x0_L0_Set0_Code)] []), (qb.mk x0_L1_Kind x0_L1_N x0_L1_Min [(qc.mk x0_L1_Set0_School x0_L1_Set0_Code), (qc.mk x0_L1_Set1_School x0_L1_Set1_Code)] [])]) (qd.mk x1_Worst x1_Best x1_Pass) [(qa.mk (qc.mk x20_Course_School x20_Course_Code) x20_Credits x20_Grade x20_Day [] x20_Bundle []), (qa.mk (qc.mk x21_Course_School x21_Course_Code) x21_Credits x21_Grade x21_Day [] x21_Bundle []), (qa.mk (qc.mk x22_Course_School x22_Course_Code) x22_Credits x22_Grade x22_Day [] x22_Bundle [])] x3).bind (fun (e : List Int × Bool) => some (R.tup [rL 1 eI e.1, rB e.2], [])) := by
  intro x0_Kind x0_N x0_Min x0_L0_Kind x0_L0_N x0_L0_Min x0_L0_Set0_School x0_L0_Set0_Code x0_L1_Kind x0_L1_N x0_L1_Min x0_L1_Set0_School x0_L1_Set0_Code x0_L1_Set1_School x0_L1_Set1_Code x20_Course_School x20_Course_Code x20_Credits x20_Grade x20_Day x20_Bundle x21_Course_School x21_Course_Code x21_Credits x21_Grade x21_Day x21_Bundle x22_Course_School x22_Course_Code x22_Credits x22_Grade x22_Day x22_Bundle x1_Worst x1_Best x1_Pass x3; have h := q8g ((qb.mk x0_Kind x0_N x0_Min [] [(qb.mk x0_L0_Kind x0_L0_N x0_L0_Min [(qc.mk x0_L0_Set0_School x0_L0_Set0_Code)] []), (qb.mk x0_L1_Kind x0_L1_N x0_L1_Min [(qc.mk x0_L1_Set0_School x0_L1_Set0_Code), (qc.mk x0_L1_Set1_School x0_L1_Set1_Code)] [])])).Kind ((qb.mk x0_Kind x0_N x0_Min [] [(qb.mk x0_L0_Kind x0_L0_N x0_L0_Min [(qc.mk x0_L0_Set0_School x0_L0_Set0_Code)] []), (qb.mk x0_L1_Kind x0_L1_N x0_L1_Min [(qc.mk x0_L1_Set0_School x0_L1_Set0_Code), (qc.mk x0_L1_Set1_School x0_L1_Set1_Code)] [])])).N ((qb.mk x0_Kind x0_N x0_Min [] [(qb.mk x0_L0_Kind x0_L0_N x0_L0_Min [(qc.mk x0_L0_Set0_School x0_L0_Set0_Code)] []), (qb.mk x0_L1_Kind x0_L1_N x0_L1_Min [(qc.mk x0_L1_Set0_School x0_L1_Set0_Code), (qc.mk x0_L1_Set1_School x0_L1_Set1_Code)] [])])).Min ((qb.mk x0_Kind x0_N x0_Min [] [(qb.mk x0_L0_Kind x0_L0_N x0_L0_Min [(qc.mk x0_L0_Set0_School x0_L0_Set0_Code)] []), (qb.mk x0_L1_Kind x0_L1_N x0_L1_Min [(qc.mk x0_L1_Set0_School x0_L1_Set0_Code), (qc.mk x0_L1_Set1_School x0_L1_Set1_Code)] [])])).Set ((qb.mk x0_Kind x0_N x0_Min [] [(qb.mk x0_L0_Kind x0_L0_N x0_L0_Min [(qc.mk x0_L0_Set0_School x0_L0_Set0_Code)] []), (qb.mk x0_L1_Kind x0_L1_N x0_L1_Min [(qc.mk x0_L1_Set0_School x0_L1_Set0_Code), (qc.mk x0_L1_Set1_School x0_L1_Set1_Code)] [])])).L ((qd.mk x1_Worst x1_Best x1_Pass)).Worst ((qd.mk x1_Worst x1_Best x1_Pass)).Best ((qd.mk x1_Worst x1_Best x1_Pass)).Pass [(qa.mk (qc.mk x20_Course_School x20_Course_Code) x20_Credits x20_Grade x20_Day [] x20_Bundle []), (qa.mk (qc.mk x21_Course_School x21_Course_Code) x21_Credits x21_Grade x21_Day [] x21_Bundle []), (qa.mk (qc.mk x22_Course_School x22_Course_Code) x22_Credits x22_Grade x22_Day [] x22_Bundle [])] x3
  first
    | exact h
    | (simp only [rL, dL, bR, bZ, Nat.reduceAdd] at h; exact h)
noncomputable def q0k (fu : Nat) (x0 : qb) (x1 : qd) (x2 : List qa) (x3 : Int) : Option (List Int × Bool) :=
  Option.bind (q3J fu x0 x1 x2) fun (a : Prod (List Bool) Int) =>
  if (a.2 != 0) = Bool.true then some ([], Bool.false)
  else if x3 < 0 then some ([], Bool.false)
  else if ((a.1.length : Nat) : Int) ≤ x3 then some ([], Bool.false)
  else if 0 ≤ x3 ∧ x3 < ((a.1.length : Nat) : Int) then Option.bind a.1[Int.toNat x3]? fun (a2 : Bool) =>
    if (!a2) = Bool.true then some ([], Bool.false)
    else if 0 ≤ ((x2.length : Nat) : Int) ∧ 8 * ((x2.length : Nat) : Int) ≤ 281474976710656 ∧ ((x2.length : Nat) : Int) ≤ 9223372036854775807 then Option.bind (itT (q0T fu x0 x1 x2 x3 ((x2.length : Nat) : Int)) fu ([], ([], 0))) fun (a3 : List Int) =>
      some (a3, Bool.true)
    else none
  else none
theorem q8t (fu : Nat) (x0 : qb) (x1 : qd) (x2 : List qa) (x3 : Int) : qk (q0k fu x0 x1 x2 x3) (QZ x0 x1 x2 x3) := by
  unfold q0k QZ
  repeat (first
    | with_reducible exact qk.refl _
    | with_reducible exact qk.none _
    | with_reducible apply q5b
    | with_reducible apply q4X
    | with_reducible refine qk.bind ?_ (fun _ => ?_)
    | with_reducible refine qk.ite ?_ ?_
    | with_reducible refine qk.sum (fun _ => ?_) (fun _ => ?_)
    | with_reducible refine qk.lim (fun _ => ?_))
noncomputable def Je (n : qb) (s : qd) (l : List qa) (list : List Int) : Option Bool :=
  Option.bind (QE n) fun (a : List qb) =>
  Option.bind (QH n) fun (a2 : Int) =>
  if (a2 != 0) = Bool.true then some Bool.false
  else if (((list.length : Nat) : Int) != ((l.length : Nat) : Int)) = Bool.true then some Bool.false
  else Option.bind (qQ list ((a.length : Nat) : Int)) fun (a3 : Bool) =>
  if a3 = Bool.true then some Bool.false
  else Option.bind (ZL (n, (s, (l, (list, 0))))) fun (a4 : Prod Bool (Prod Bool (Prod qd (Prod (List qa) (Prod (List Int) Int))))) =>
  some a4.2.1
theorem q8O : ∀ (n_Kind n_N n_Min : Int) (n_Set : List qc) (n_L : List qb) (s_Worst s_Best s_Pass : Int) (l : List qa) (list : List Int), ev 12 0 [R.agg [dI n_Kind, dI n_N, dI n_Min, dL 2 qe n_Set, dL 5 qg n_L], R.agg [dI s_Worst, dI s_Best, dI s_Pass], rL 8 qf l, rL 1 eI list] [] = (Je (qb.mk n_Kind n_N n_Min n_Set n_L) (qd.mk s_Worst s_Best s_Pass) l list).bind (fun (e : Bool) => some (rB e, [])) :=
  fun n_Kind n_N n_Min n_Set n_L s_Worst s_Best s_Pass l list => by
    rw [qz qpY qtx.2.2.2 quw]
    have := qvJ; have := @q2s; have := @q3x; have := @Jm; have := @q76; have := @Je.eq_1; exact gA
theorem q6g : ∀ (n_Kind n_N n_Min n_L0_Kind n_L0_N n_L0_Min n_L0_Set0_School : Int) (n_L0_Set0_Code : ByteArray) (n_L1_Kind n_L1_N n_L1_Min n_L1_Set0_School : Int) (n_L1_Set0_Code : ByteArray) (n_L1_Set1_School : Int) (n_L1_Set1_Code : ByteArray) (l0_Course_School : Int) (l0_Course_Code : ByteArray) (l0_Credits l0_Grade l0_Day l0_Bundle l1_Course_School : Int) (l1_Course_Code : ByteArray) (l1_Credits l1_Grade l1_Day l1_Bundle l2_Course_School : Int) (l2_Course_Code : ByteArray) (l2_Credits l2_Grade l2_Day l2_Bundle list0 list1 list2 s_Worst s_Best s_Pass : Int), ev 12 0 [R.agg [dI n_Kind, dI n_N, dI n_Min, C.d (D.sl 2 0 []), C.d (D.sl 5 2 [D.int .i64 n_L0_Kind, D.int .i64 n_L0_N, D.int .i64 n_L0_Min, D.sl 2 1 [D.int .i64 n_L0_Set0_School, D.str n_L0_Set0_Code], D.sl 5 0 [], D.int .i64 n_L1_Kind, D.int .i64 n_L1_N, D.int .i64 n_L1_Min, D.sl 2 2 [D.int .i64 n_L1_Set0_School, D.str n_L1_Set0_Code, D.int .i64 n_L1_Set1_School, D.str n_L1_Set1_Code], D.sl 5 0 []])], R.agg [dI s_Worst, dI s_Best, dI s_Pass], R.c (C.d (D.sl 8 3 [D.int .i64 l0_Course_School, D.str l0_Course_Code, D.int .i64 l0_Credits, D.int .i64 l0_Grade, D.int .i64 l0_Day, D.sl 1 0 [], D.int .i64 l0_Bundle, D.sl 1 0 [], D.int .i64 l1_Course_School, D.str l1_Course_Code, D.int .i64 l1_Credits, D.int .i64 l1_Grade, D.int .i64 l1_Day, D.sl 1 0 [], D.int .i64 l1_Bundle, D.sl 1 0 [], D.int .i64 l2_Course_School, D.str l2_Course_Code, D.int .i64 l2_Credits, D.int .i64 l2_Grade, D.int .i64 l2_Day, D.sl 1 0 [], D.int .i64 l2_Bundle, D.sl 1 0 []])), R.c (C.d (D.sl 1 3 [D.int .i64 list0, D.int .i64 list1, D.int .i64 list2]))] [] = (Je (qb.mk n_Kind n_N n_Min [] [(qb.mk n_L0_Kind n_L0_N n_L0_Min [(qc.mk n_L0_Set0_School n_L0_Set0_Code)] []), (qb.mk n_L1_Kind n_L1_N n_L1_Min [(qc.mk n_L1_Set0_School n_L1_Set0_Code), (qc.mk n_L1_Set1_School n_L1_Set1_Code)] [])]) (qd.mk s_Worst s_Best s_Pass) [(qa.mk (qc.mk l0_Course_School l0_Course_Code) l0_Credits l0_Grade l0_Day [] l0_Bundle []), (qa.mk (qc.mk l1_Course_School l1_Course_Code) l1_Credits l1_Grade l1_Day [] l1_Bundle []), (qa.mk (qc.mk l2_Course_School l2_Course_Code) l2_Credits l2_Grade l2_Day [] l2_Bundle [])] [list0, list1, list2]).bind (fun (e : Bool) => some (rB e, [])) := by
  intro n_Kind n_N n_Min n_L0_Kind n_L0_N n_L0_Min n_L0_Set0_School n_L0_Set0_Code n_L1_Kind n_L1_N n_L1_Min n_L1_Set0_School n_L1_Set0_Code n_L1_Set1_School n_L1_Set1_Code l0_Course_School l0_Course_Code l0_Credits l0_Grade l0_Day l0_Bundle l1_Course_School l1_Course_Code l1_Credits l1_Grade l1_Day l1_Bundle l2_Course_School l2_Course_Code l2_Credits l2_Grade l2_Day l2_Bundle list0 list1 list2 s_Worst s_Best s_Pass; have h := q8O ((qb.mk n_Kind n_N n_Min [] [(qb.mk n_L0_Kind n_L0_N n_L0_Min [(qc.mk n_L0_Set0_School n_L0_Set0_Code)] []), (qb.mk n_L1_Kind n_L1_N n_L1_Min [(qc.mk n_L1_Set0_School n_L1_Set0_Code), (qc.mk n_L1_Set1_School n_L1_Set1_Code)] [])])).Kind ((qb.mk n_Kind n_N n_Min [] [(qb.mk n_L0_Kind n_L0_N n_L0_Min [(qc.mk n_L0_Set0_School n_L0_Set0_Code)] []), (qb.mk n_L1_Kind n_L1_N n_L1_Min [(qc.mk n_L1_Set0_School n_L1_Set0_Code), (qc.mk n_L1_Set1_School n_L1_Set1_Code)] [])])).N ((qb.mk n_Kind n_N n_Min [] [(qb.mk n_L0_Kind n_L0_N n_L0_Min [(qc.mk n_L0_Set0_School n_L0_Set0_Code)] []), (qb.mk n_L1_Kind n_L1_N n_L1_Min [(qc.mk n_L1_Set0_School n_L1_Set0_Code), (qc.mk n_L1_Set1_School n_L1_Set1_Code)] [])])).Min ((qb.mk n_Kind n_N n_Min [] [(qb.mk n_L0_Kind n_L0_N n_L0_Min [(qc.mk n_L0_Set0_School n_L0_Set0_Code)] []), (qb.mk n_L1_Kind n_L1_N n_L1_Min [(qc.mk n_L1_Set0_School n_L1_Set0_Code), (qc.mk n_L1_Set1_School n_L1_Set1_Code)] [])])).Set ((qb.mk n_Kind n_N n_Min [] [(qb.mk n_L0_Kind n_L0_N n_L0_Min [(qc.mk n_L0_Set0_School n_L0_Set0_Code)] []), (qb.mk n_L1_Kind n_L1_N n_L1_Min [(qc.mk n_L1_Set0_School n_L1_Set0_Code), (qc.mk n_L1_Set1_School n_L1_Set1_Code)] [])])).L ((qd.mk s_Worst s_Best s_Pass)).Worst ((qd.mk s_Worst s_Best s_Pass)).Best ((qd.mk s_Worst s_Best s_Pass)).Pass [(qa.mk (qc.mk l0_Course_School l0_Course_Code) l0_Credits l0_Grade l0_Day [] l0_Bundle []), (qa.mk (qc.mk l1_Course_School l1_Course_Code) l1_Credits l1_Grade l1_Day [] l1_Bundle []), (qa.mk (qc.mk l2_Course_School l2_Course_Code) l2_Credits l2_Grade l2_Day [] l2_Bundle [])] [list0, list1, list2]
  first
    | exact h
    | (simp only [rL, dL, bR, bZ, Nat.reduceAdd] at h; exact h)
noncomputable def q1S (fu : Nat) (n : qb) (s : qd) (l : List qa) (list : List Int) : Option Bool :=
  Option.bind (q0D fu n) fun (a : List qb) =>
  Option.bind (q16 fu n) fun (a2 : Int) =>
  if (a2 != 0) = Bool.true then some Bool.false
  else if (((list.length : Nat) : Int) != ((l.length : Nat) : Int)) = Bool.true then some Bool.false
  else Option.bind (Q3 fu list ((a.length : Nat) : Int)) fun (a3 : Bool) =>
  if a3 = Bool.true then some Bool.false
  else Option.bind (q5s fu (n, (s, (l, (list, 0))))) fun (a4 : Prod Bool (Prod Bool (Prod qd (Prod (List qa) (Prod (List Int) Int))))) =>
  some a4.2.1
theorem q8H (fu : Nat) (n : qb) (s : qd) (l : List qa) (list : List Int) : qk (q1S fu n s l list) (Je n s l list) := by
  unfold q1S Je
  repeat (first
    | with_reducible exact qk.refl _
    | with_reducible exact qk.none _
    | with_reducible apply q2j
    | with_reducible apply q3z
    | with_reducible apply Jn
    | with_reducible apply q7u
    | with_reducible refine qk.bind ?_ (fun _ => ?_)
    | with_reducible refine qk.ite ?_ ?_
    | with_reducible refine qk.sum (fun _ => ?_) (fun _ => ?_)
    | with_reducible refine qk.lim (fun _ => ?_))
noncomputable def zS (n : qb) (want : List Int) : Option Bool :=
  Option.bind (qL n (qn 1) [qa.mk (qc.mk 1 (ByteArray.mk (List.toArray [65, 49]))) 5 60 0 [] 0 [], qa.mk (qc.mk 1 (ByteArray.mk (List.toArray [66, 49]))) 6 90 0 [] 0 [], qa.mk (qc.mk 1 (ByteArray.mk (List.toArray [65, 49]))) 5 40 0 [] 0 []]) fun (a : Prod (List Bool) Int) =>
  if (a.2 != 0) = Bool.true then some Bool.false
  else if (((a.1.length : Nat) : Int) != 8) = Bool.true then some Bool.false
  else Option.bind (qN (ZB want a.1 ((a.1.length : Nat) : Int)) 0) fun (a2 : Sum Unit Unit) =>
  Sum.elim (fun (a3 : Unit) => some Bool.false) (fun (a4 : Unit) => some Bool.true) a2
theorem Jx : ∀ (n_Kind n_N n_Min : Int) (n_Set : List qc) (n_L : List qb) (want : List Int), ev 18 0 [R.agg [dI n_Kind, dI n_N, dI n_Min, dL 2 qe n_Set, dL 5 qg n_L], rL 1 eI want] [] = (zS (qb.mk n_Kind n_N n_Min n_Set n_L) want).bind (fun (e : Bool) => some (rB e, [])) :=
  fun n_Kind n_N n_Min n_Set n_L want => by
    rw [qz qom qsf.2.2.2 qqY]
    have := qrH; have := @q1c; have := @q24; have := @q6V; have := @q5j; have := @zS.eq_1; exact gA
theorem q5v : ∀ (n_Kind n_N n_Min n_Set0_School : Int) (n_Set0_Code : ByteArray) (want0 : Int) , ev 18 0 [R.agg [dI n_Kind, dI n_N, dI n_Min, C.d (D.sl 2 1 [D.int .i64 n_Set0_School, D.str n_Set0_Code]), C.d (D.sl 5 0 [])], R.c (C.d (D.sl 1 1 [D.int .i64 want0]))] [] = (zS (qb.mk n_Kind n_N n_Min [(qc.mk n_Set0_School n_Set0_Code)] []) [want0]).bind (fun (e : Bool) => some (rB e, [])) := by
  intro n_Kind n_N n_Min n_Set0_School n_Set0_Code want0; have h := Jx ((qb.mk n_Kind n_N n_Min [(qc.mk n_Set0_School n_Set0_Code)] [])).Kind ((qb.mk n_Kind n_N n_Min [(qc.mk n_Set0_School n_Set0_Code)] [])).N ((qb.mk n_Kind n_N n_Min [(qc.mk n_Set0_School n_Set0_Code)] [])).Min ((qb.mk n_Kind n_N n_Min [(qc.mk n_Set0_School n_Set0_Code)] [])).Set ((qb.mk n_Kind n_N n_Min [(qc.mk n_Set0_School n_Set0_Code)] [])).L [want0]
  first
    | exact h
    | (simp only [rL, dL, bR, bZ, Nat.reduceAdd] at h; exact h)
theorem q5w : ∀ (n_Kind n_N n_Min n_Set0_School : Int) (n_Set0_Code : ByteArray) (n_Set1_School : Int) (n_Set1_Code : ByteArray) (want0 want1 want2 want3 : Int) , ev 18 0 [R.agg [dI n_Kind, dI n_N, dI n_Min, C.d (D.sl 2 2 [D.int .i64 n_Set0_School, D.str n_Set0_Code, D.int .i64 n_Set1_School, D.str n_Set1_Code]), C.d (D.sl 5 0 [])], R.c (C.d (D.sl 1 4 [D.int .i64 want0, D.int .i64 want1, D.int .i64 want2, D.int .i64 want3]))] [] = (zS (qb.mk n_Kind n_N n_Min [(qc.mk n_Set0_School n_Set0_Code), (qc.mk n_Set1_School n_Set1_Code)] []) [want0, want1, want2, want3]).bind (fun (e : Bool) => some (rB e, [])) := by
  intro n_Kind n_N n_Min n_Set0_School n_Set0_Code n_Set1_School n_Set1_Code want0 want1 want2 want3; have h := Jx ((qb.mk n_Kind n_N n_Min [(qc.mk n_Set0_School n_Set0_Code), (qc.mk n_Set1_School n_Set1_Code)] [])).Kind ((qb.mk n_Kind n_N n_Min [(qc.mk n_Set0_School n_Set0_Code), (qc.mk n_Set1_School n_Set1_Code)] [])).N ((qb.mk n_Kind n_N n_Min [(qc.mk n_Set0_School n_Set0_Code), (qc.mk n_Set1_School n_Set1_Code)] [])).Min ((qb.mk n_Kind n_N n_Min [(qc.mk n_Set0_School n_Set0_Code), (qc.mk n_Set1_School n_Set1_Code)] [])).Set ((qb.mk n_Kind n_N n_Min [(qc.mk n_Set0_School n_Set0_Code), (qc.mk n_Set1_School n_Set1_Code)] [])).L [want0, want1, want2, want3]
  first
    | exact h
    | (simp only [rL, dL, bR, bZ, Nat.reduceAdd] at h; exact h)
theorem q5H : ∀ (n_Kind n_N n_Min n_L0_Kind n_L0_N n_L0_Min n_L0_Set0_School : Int) (n_L0_Set0_Code : ByteArray) (n_L1_Kind n_L1_N n_L1_Min n_L1_Set0_School : Int) (n_L1_Set0_Code : ByteArray) (n_L1_Set1_School : Int) (n_L1_Set1_Code : ByteArray) (want0 : Int) , ev 18 0 [R.agg [dI n_Kind, dI n_N, dI n_Min, C.d (D.sl 2 0 []), C.d (D.sl 5 2 [D.int .i64 n_L0_Kind, D.int .i64 n_L0_N, D.int .i64 n_L0_Min, D.sl 2 1 [D.int .i64 n_L0_Set0_School, D.str n_L0_Set0_Code], D.sl 5 0 [], D.int .i64 n_L1_Kind, D.int .i64 n_L1_N, D.int .i64 n_L1_Min, D.sl 2 2 [D.int .i64 n_L1_Set0_School, D.str n_L1_Set0_Code, D.int .i64 n_L1_Set1_School, D.str n_L1_Set1_Code], D.sl 5 0 []])], R.c (C.d (D.sl 1 1 [D.int .i64 want0]))] [] = (zS (qb.mk n_Kind n_N n_Min [] [(qb.mk n_L0_Kind n_L0_N n_L0_Min [(qc.mk n_L0_Set0_School n_L0_Set0_Code)] []), (qb.mk n_L1_Kind n_L1_N n_L1_Min [(qc.mk n_L1_Set0_School n_L1_Set0_Code), (qc.mk n_L1_Set1_School n_L1_Set1_Code)] [])]) [want0]).bind (fun (e : Bool) => some (rB e, [])) := by
  intro n_Kind n_N n_Min n_L0_Kind n_L0_N n_L0_Min n_L0_Set0_School n_L0_Set0_Code n_L1_Kind n_L1_N n_L1_Min n_L1_Set0_School n_L1_Set0_Code n_L1_Set1_School n_L1_Set1_Code want0; have h := Jx ((qb.mk n_Kind n_N n_Min [] [(qb.mk n_L0_Kind n_L0_N n_L0_Min [(qc.mk n_L0_Set0_School n_L0_Set0_Code)] []), (qb.mk n_L1_Kind n_L1_N n_L1_Min [(qc.mk n_L1_Set0_School n_L1_Set0_Code), (qc.mk n_L1_Set1_School n_L1_Set1_Code)] [])])).Kind ((qb.mk n_Kind n_N n_Min [] [(qb.mk n_L0_Kind n_L0_N n_L0_Min [(qc.mk n_L0_Set0_School n_L0_Set0_Code)] []), (qb.mk n_L1_Kind n_L1_N n_L1_Min [(qc.mk n_L1_Set0_School n_L1_Set0_Code), (qc.mk n_L1_Set1_School n_L1_Set1_Code)] [])])).N ((qb.mk n_Kind n_N n_Min [] [(qb.mk n_L0_Kind n_L0_N n_L0_Min [(qc.mk n_L0_Set0_School n_L0_Set0_Code)] []), (qb.mk n_L1_Kind n_L1_N n_L1_Min [(qc.mk n_L1_Set0_School n_L1_Set0_Code), (qc.mk n_L1_Set1_School n_L1_Set1_Code)] [])])).Min ((qb.mk n_Kind n_N n_Min [] [(qb.mk n_L0_Kind n_L0_N n_L0_Min [(qc.mk n_L0_Set0_School n_L0_Set0_Code)] []), (qb.mk n_L1_Kind n_L1_N n_L1_Min [(qc.mk n_L1_Set0_School n_L1_Set0_Code), (qc.mk n_L1_Set1_School n_L1_Set1_Code)] [])])).Set ((qb.mk n_Kind n_N n_Min [] [(qb.mk n_L0_Kind n_L0_N n_L0_Min [(qc.mk n_L0_Set0_School n_L0_Set0_Code)] []), (qb.mk n_L1_Kind n_L1_N n_L1_Min [(qc.mk n_L1_Set0_School n_L1_Set0_Code), (qc.mk n_L1_Set1_School n_L1_Set1_Code)] [])])).L [want0]
  first
    | exact h
    | (simp only [rL, dL, bR, bZ, Nat.reduceAdd] at h; exact h)
theorem q5B : ∀ (n_Kind n_N n_Min n_L0_Kind n_L0_N n_L0_Min n_L0_Set0_School : Int) (n_L0_Set0_Code : ByteArray) (n_L1_Kind n_L1_N n_L1_Min n_L1_Set0_School : Int) (n_L1_Set0_Code : ByteArray) (n_L1_Set1_School : Int) (n_L1_Set1_Code : ByteArray) (want0 want1 want2 want3 want4 : Int) , ev 18 0 [R.agg [dI n_Kind, dI n_N, dI n_Min, C.d (D.sl 2 0 []), C.d (D.sl 5 2 [D.int .i64 n_L0_Kind, D.int .i64 n_L0_N, D.int .i64 n_L0_Min, D.sl 2 1 [D.int .i64 n_L0_Set0_School, D.str n_L0_Set0_Code], D.sl 5 0 [], D.int .i64 n_L1_Kind, D.int .i64 n_L1_N, D.int .i64 n_L1_Min, D.sl 2 2 [D.int .i64 n_L1_Set0_School, D.str n_L1_Set0_Code, D.int .i64 n_L1_Set1_School, D.str n_L1_Set1_Code], D.sl 5 0 []])], R.c (C.d (D.sl 1 5 [D.int .i64 want0, D.int .i64 want1, D.int .i64 want2, D.int .i64 want3, D.int .i64 want4]))] [] = (zS (qb.mk n_Kind n_N n_Min [] [(qb.mk n_L0_Kind n_L0_N n_L0_Min [(qc.mk n_L0_Set0_School n_L0_Set0_Code)] []), (qb.mk n_L1_Kind n_L1_N n_L1_Min [(qc.mk n_L1_Set0_School n_L1_Set0_Code), (qc.mk n_L1_Set1_School n_L1_Set1_Code)] [])]) [want0, want1, want2, want3, want4]).bind (fun (e : Bool) => some (rB e, [])) := by
  intro n_Kind n_N n_Min n_L0_Kind n_L0_N n_L0_Min n_L0_Set0_School n_L0_Set0_Code n_L1_Kind n_L1_N n_L1_Min n_L1_Set0_School n_L1_Set0_Code n_L1_Set1_School n_L1_Set1_Code want0 want1 want2 want3 want4; have h := Jx ((qb.mk n_Kind n_N n_Min [] [(qb.mk n_L0_Kind n_L0_N n_L0_Min [(qc.mk n_L0_Set0_School n_L0_Set0_Code)] []), (qb.mk n_L1_Kind n_L1_N n_L1_Min [(qc.mk n_L1_Set0_School n_L1_Set0_Code), (qc.mk n_L1_Set1_School n_L1_Set1_Code)] [])])).Kind ((qb.mk n_Kind n_N n_Min [] [(qb.mk n_L0_Kind n_L0_N n_L0_Min [(qc.mk n_L0_Set0_School n_L0_Set0_Code)] []), (qb.mk n_L1_Kind n_L1_N n_L1_Min [(qc.mk n_L1_Set0_School n_L1_Set0_Code), (qc.mk n_L1_Set1_School n_L1_Set1_Code)] [])])).N ((qb.mk n_Kind n_N n_Min [] [(qb.mk n_L0_Kind n_L0_N n_L0_Min [(qc.mk n_L0_Set0_School n_L0_Set0_Code)] []), (qb.mk n_L1_Kind n_L1_N n_L1_Min [(qc.mk n_L1_Set0_School n_L1_Set0_Code), (qc.mk n_L1_Set1_School n_L1_Set1_Code)] [])])).Min ((qb.mk n_Kind n_N n_Min [] [(qb.mk n_L0_Kind n_L0_N n_L0_Min [(qc.mk n_L0_Set0_School n_L0_Set0_Code)] []), (qb.mk n_L1_Kind n_L1_N n_L1_Min [(qc.mk n_L1_Set0_School n_L1_Set0_Code), (qc.mk n_L1_Set1_School n_L1_Set1_Code)] [])])).Set ((qb.mk n_Kind n_N n_Min [] [(qb.mk n_L0_Kind n_L0_N n_L0_Min [(qc.mk n_L0_Set0_School n_L0_Set0_Code)] []), (qb.mk n_L1_Kind n_L1_N n_L1_Min [(qc.mk n_L1_Set0_School n_L1_Set0_Code), (qc.mk n_L1_Set1_School n_L1_Set1_Code)] [])])).L [want0, want1, want2, want3, want4]
  first
    | exact h
    | (simp only [rL, dL, bR, bZ, Nat.reduceAdd] at h; exact h)
noncomputable def Jk (fu : Nat) (n : qb) (want : List Int) : Option Bool :=
  Option.bind (q3J fu n (qn 1) [qa.mk (qc.mk 1 (ByteArray.mk (List.toArray [65, 49]))) 5 60 0 [] 0 [], qa.mk (qc.mk 1 (ByteArray.mk (List.toArray [66, 49]))) 6 90 0 [] 0 [], qa.mk (qc.mk 1 (ByteArray.mk (List.toArray [65, 49]))) 5 40 0 [] 0 []]) fun (a : Prod (List Bool) Int) =>
  if (a.2 != 0) = Bool.true then some Bool.false
  else if (((a.1.length : Nat) : Int) != 8) = Bool.true then some Bool.false
  else Option.bind (itT (q0V fu want a.1 ((a.1.length : Nat) : Int)) fu 0) fun (a2 : Sum Unit Unit) =>
  Sum.elim (fun (a3 : Unit) => some Bool.false) (fun (a4 : Unit) => some Bool.true) a2
theorem q7L (fu : Nat) (n : qb) (want : List Int) : qk (Jk fu n want) (zS n want) := by
  unfold Jk zS
  repeat (first
    | with_reducible exact qk.refl _
    | with_reducible exact qk.none _
    | with_reducible apply q5b
    | with_reducible apply q5x
    | with_reducible refine qk.bind ?_ (fun _ => ?_)
    | with_reducible refine qk.ite ?_ ?_
    | with_reducible refine qk.sum (fun _ => ?_) (fun _ => ?_)
    | with_reducible refine qk.lim (fun _ => ?_))
noncomputable def QL : Option Bool :=
  Option.bind (QZ (qb.mk 4 1 0 [] [qb.mk 1 0 50 [qc.mk 1 (ByteArray.mk (List.toArray [65, 49]))] [], qb.mk 2 10 0 [qc.mk 1 (ByteArray.mk (List.toArray [65, 49])), qc.mk 1 (ByteArray.mk (List.toArray [66, 49]))] []]) (qn 1) [qa.mk (qc.mk 1 (ByteArray.mk (List.toArray [65, 49]))) 5 60 0 [] 0 [], qa.mk (qc.mk 1 (ByteArray.mk (List.toArray [66, 49]))) 6 90 0 [] 0 [], qa.mk (qc.mk 1 (ByteArray.mk (List.toArray [65, 49]))) 5 40 0 [] 0 []] 7) fun (a : Prod (List Int) Bool) =>
  Option.bind (QZ (qb.mk 4 1 0 [] [qb.mk 1 0 50 [qc.mk 1 (ByteArray.mk (List.toArray [65, 49]))] [], qb.mk 2 10 0 [qc.mk 1 (ByteArray.mk (List.toArray [65, 49])), qc.mk 1 (ByteArray.mk (List.toArray [66, 49]))] []]) (qn 1) [qa.mk (qc.mk 1 (ByteArray.mk (List.toArray [65, 49]))) 5 60 0 [] 0 [], qa.mk (qc.mk 1 (ByteArray.mk (List.toArray [66, 49]))) 6 90 0 [] 0 [], qa.mk (qc.mk 1 (ByteArray.mk (List.toArray [65, 49]))) 5 40 0 [] 0 []] 3) fun (a2 : Prod (List Int) Bool) =>
  Option.bind (QZ (qb.mk 3 0 0 [] [qb.mk 1 0 50 [qc.mk 1 (ByteArray.mk (List.toArray [65, 49]))] [], qb.mk 2 10 0 [qc.mk 1 (ByteArray.mk (List.toArray [65, 49])), qc.mk 1 (ByteArray.mk (List.toArray [66, 49]))] []]) (qn 1) [qa.mk (qc.mk 1 (ByteArray.mk (List.toArray [65, 49]))) 5 60 0 [] 0 [], qa.mk (qc.mk 1 (ByteArray.mk (List.toArray [66, 49]))) 6 90 0 [] 0 [], qa.mk (qc.mk 1 (ByteArray.mk (List.toArray [65, 49]))) 5 40 0 [] 0 []] 3) fun (a3 : Prod (List Int) Bool) =>
  Option.bind (QC (qb.mk 1 0 50 [qc.mk 1 (ByteArray.mk (List.toArray [65, 49]))] []) (qn 1) (qa.mk (qc.mk 1 (ByteArray.mk (List.toArray [65, 49]))) 5 60 0 [] 0 [])) fun (a4 : Bool) =>
  if a4 = Bool.true then Option.bind (QC (qb.mk 1 0 50 [qc.mk 1 (ByteArray.mk (List.toArray [65, 49]))] []) (qn 1) (qa.mk (qc.mk 1 (ByteArray.mk (List.toArray [66, 49]))) 6 90 0 [] 0 [])) fun (a5 : Bool) =>
    if (!a5) = Bool.true then Option.bind (QC (qb.mk 1 0 50 [qc.mk 1 (ByteArray.mk (List.toArray [65, 49]))] []) (qn 1) (qa.mk (qc.mk 1 (ByteArray.mk (List.toArray [65, 49]))) 5 40 0 [] 0 [])) fun (a6 : Bool) =>
      if (!a6) = Bool.true then Option.bind (Je (qb.mk 4 1 0 [] [qb.mk 1 0 50 [qc.mk 1 (ByteArray.mk (List.toArray [65, 49]))] [], qb.mk 2 10 0 [qc.mk 1 (ByteArray.mk (List.toArray [65, 49])), qc.mk 1 (ByteArray.mk (List.toArray [66, 49]))] []]) (qn 1) [qa.mk (qc.mk 1 (ByteArray.mk (List.toArray [65, 49]))) 5 60 0 [] 0 [], qa.mk (qc.mk 1 (ByteArray.mk (List.toArray [66, 49]))) 6 90 0 [] 0 [], qa.mk (qc.mk 1 (ByteArray.mk (List.toArray [65, 49]))) 5 40 0 [] 0 []] [(0 : Int), (-1), (-1)]) fun (a7 : Bool) =>
        if a7 = Bool.true then Option.bind (Je (qb.mk 4 1 0 [] [qb.mk 1 0 50 [qc.mk 1 (ByteArray.mk (List.toArray [65, 49]))] [], qb.mk 2 10 0 [qc.mk 1 (ByteArray.mk (List.toArray [65, 49])), qc.mk 1 (ByteArray.mk (List.toArray [66, 49]))] []]) (qn 1) [qa.mk (qc.mk 1 (ByteArray.mk (List.toArray [65, 49]))) 5 60 0 [] 0 [], qa.mk (qc.mk 1 (ByteArray.mk (List.toArray [66, 49]))) 6 90 0 [] 0 [], qa.mk (qc.mk 1 (ByteArray.mk (List.toArray [65, 49]))) 5 40 0 [] 0 []] [(0 : Int), 1, (-1)]) fun (a8 : Bool) =>
          if (!a8) = Bool.true then Option.bind (zS (qb.mk 1 0 50 [qc.mk 1 (ByteArray.mk (List.toArray [65, 49]))] []) [(1 : Int)]) fun (a9 : Bool) =>
            if a9 = Bool.true then Option.bind (zS (qb.mk 2 10 0 [qc.mk 1 (ByteArray.mk (List.toArray [65, 49])), qc.mk 1 (ByteArray.mk (List.toArray [66, 49]))] []) [(3 : Int), 5, 6, 7]) fun (a10 : Bool) =>
              if a10 = Bool.true then Option.bind (zS (qb.mk 3 0 0 [] [qb.mk 1 0 50 [qc.mk 1 (ByteArray.mk (List.toArray [65, 49]))] [], qb.mk 2 10 0 [qc.mk 1 (ByteArray.mk (List.toArray [65, 49])), qc.mk 1 (ByteArray.mk (List.toArray [66, 49]))] []]) [(7 : Int)]) fun (a11 : Bool) =>
                if a11 = Bool.true then Option.bind (zS (qb.mk 4 1 0 [] [qb.mk 1 0 50 [qc.mk 1 (ByteArray.mk (List.toArray [65, 49]))] [], qb.mk 2 10 0 [qc.mk 1 (ByteArray.mk (List.toArray [65, 49])), qc.mk 1 (ByteArray.mk (List.toArray [66, 49]))] []]) [(1 : Int), 3, 5, 6, 7]) fun (a12 : Bool) =>
                  if a12 = Bool.true then if a.2 = Bool.true then if a2.2 = Bool.true then if (!a3.2) = Bool.true then Option.bind (zV a.1 [(0 : Int), 1, 1]) fun (a13 : Bool) =>
                          if a13 = Bool.true then Option.bind (zV a2.1 [(1 : Int), 1]) fun (e0 : Bool) =>
                            some e0
                          else some Bool.false
                        else some Bool.false
                      else some Bool.false
                    else some Bool.false
                  else some Bool.false
                else some Bool.false
              else some Bool.false
            else some Bool.false
          else some Bool.false
        else some Bool.false
      else some Bool.false
    else some Bool.false
  else some Bool.false
theorem q6F : ev 6 0 [] [] = (QL).bind (fun (e : Bool) => some (rB e, [])) :=
  by
    rw [qz bd6 pw6.2.2.2 lo6]
    have := cx6; have := @q1c; have := @q24; have := @q5k; have := @q7m; have := @q6g; have := @q5v; have := @q5w; have := @q5H; have := @q5B; have := @q2B; have := @q2M; have := @QL.eq_1; exact gA
noncomputable def q1p (fu : Nat) : Option Bool :=
  Option.bind (q0k fu (qb.mk 4 1 0 [] [qb.mk 1 0 50 [qc.mk 1 (ByteArray.mk (List.toArray [65, 49]))] [], qb.mk 2 10 0 [qc.mk 1 (ByteArray.mk (List.toArray [65, 49])), qc.mk 1 (ByteArray.mk (List.toArray [66, 49]))] []]) (qn 1) [qa.mk (qc.mk 1 (ByteArray.mk (List.toArray [65, 49]))) 5 60 0 [] 0 [], qa.mk (qc.mk 1 (ByteArray.mk (List.toArray [66, 49]))) 6 90 0 [] 0 [], qa.mk (qc.mk 1 (ByteArray.mk (List.toArray [65, 49]))) 5 40 0 [] 0 []] 7) fun (a : Prod (List Int) Bool) =>
  Option.bind (q0k fu (qb.mk 4 1 0 [] [qb.mk 1 0 50 [qc.mk 1 (ByteArray.mk (List.toArray [65, 49]))] [], qb.mk 2 10 0 [qc.mk 1 (ByteArray.mk (List.toArray [65, 49])), qc.mk 1 (ByteArray.mk (List.toArray [66, 49]))] []]) (qn 1) [qa.mk (qc.mk 1 (ByteArray.mk (List.toArray [65, 49]))) 5 60 0 [] 0 [], qa.mk (qc.mk 1 (ByteArray.mk (List.toArray [66, 49]))) 6 90 0 [] 0 [], qa.mk (qc.mk 1 (ByteArray.mk (List.toArray [65, 49]))) 5 40 0 [] 0 []] 3) fun (a2 : Prod (List Int) Bool) =>
  Option.bind (q0k fu (qb.mk 3 0 0 [] [qb.mk 1 0 50 [qc.mk 1 (ByteArray.mk (List.toArray [65, 49]))] [], qb.mk 2 10 0 [qc.mk 1 (ByteArray.mk (List.toArray [65, 49])), qc.mk 1 (ByteArray.mk (List.toArray [66, 49]))] []]) (qn 1) [qa.mk (qc.mk 1 (ByteArray.mk (List.toArray [65, 49]))) 5 60 0 [] 0 [], qa.mk (qc.mk 1 (ByteArray.mk (List.toArray [66, 49]))) 6 90 0 [] 0 [], qa.mk (qc.mk 1 (ByteArray.mk (List.toArray [65, 49]))) 5 40 0 [] 0 []] 3) fun (a3 : Prod (List Int) Bool) =>
  Option.bind (JW fu (qb.mk 1 0 50 [qc.mk 1 (ByteArray.mk (List.toArray [65, 49]))] []) (qn 1) (qa.mk (qc.mk 1 (ByteArray.mk (List.toArray [65, 49]))) 5 60 0 [] 0 [])) fun (a4 : Bool) =>
  if a4 = Bool.true then Option.bind (JW fu (qb.mk 1 0 50 [qc.mk 1 (ByteArray.mk (List.toArray [65, 49]))] []) (qn 1) (qa.mk (qc.mk 1 (ByteArray.mk (List.toArray [66, 49]))) 6 90 0 [] 0 [])) fun (a5 : Bool) =>
    if (!a5) = Bool.true then Option.bind (JW fu (qb.mk 1 0 50 [qc.mk 1 (ByteArray.mk (List.toArray [65, 49]))] []) (qn 1) (qa.mk (qc.mk 1 (ByteArray.mk (List.toArray [65, 49]))) 5 40 0 [] 0 [])) fun (a6 : Bool) =>
      if (!a6) = Bool.true then Option.bind (q1S fu (qb.mk 4 1 0 [] [qb.mk 1 0 50 [qc.mk 1 (ByteArray.mk (List.toArray [65, 49]))] [], qb.mk 2 10 0 [qc.mk 1 (ByteArray.mk (List.toArray [65, 49])), qc.mk 1 (ByteArray.mk (List.toArray [66, 49]))] []]) (qn 1) [qa.mk (qc.mk 1 (ByteArray.mk (List.toArray [65, 49]))) 5 60 0 [] 0 [], qa.mk (qc.mk 1 (ByteArray.mk (List.toArray [66, 49]))) 6 90 0 [] 0 [], qa.mk (qc.mk 1 (ByteArray.mk (List.toArray [65, 49]))) 5 40 0 [] 0 []] [(0 : Int), (-1), (-1)]) fun (a7 : Bool) =>
        if a7 = Bool.true then Option.bind (q1S fu (qb.mk 4 1 0 [] [qb.mk 1 0 50 [qc.mk 1 (ByteArray.mk (List.toArray [65, 49]))] [], qb.mk 2 10 0 [qc.mk 1 (ByteArray.mk (List.toArray [65, 49])), qc.mk 1 (ByteArray.mk (List.toArray [66, 49]))] []]) (qn 1) [qa.mk (qc.mk 1 (ByteArray.mk (List.toArray [65, 49]))) 5 60 0 [] 0 [], qa.mk (qc.mk 1 (ByteArray.mk (List.toArray [66, 49]))) 6 90 0 [] 0 [], qa.mk (qc.mk 1 (ByteArray.mk (List.toArray [65, 49]))) 5 40 0 [] 0 []] [(0 : Int), 1, (-1)]) fun (a8 : Bool) =>
          if (!a8) = Bool.true then Option.bind (Jk fu (qb.mk 1 0 50 [qc.mk 1 (ByteArray.mk (List.toArray [65, 49]))] []) [(1 : Int)]) fun (a9 : Bool) =>
            if a9 = Bool.true then Option.bind (Jk fu (qb.mk 2 10 0 [qc.mk 1 (ByteArray.mk (List.toArray [65, 49])), qc.mk 1 (ByteArray.mk (List.toArray [66, 49]))] []) [(3 : Int), 5, 6, 7]) fun (a10 : Bool) =>
              if a10 = Bool.true then Option.bind (Jk fu (qb.mk 3 0 0 [] [qb.mk 1 0 50 [qc.mk 1 (ByteArray.mk (List.toArray [65, 49]))] [], qb.mk 2 10 0 [qc.mk 1 (ByteArray.mk (List.toArray [65, 49])), qc.mk 1 (ByteArray.mk (List.toArray [66, 49]))] []]) [(7 : Int)]) fun (a11 : Bool) =>
                if a11 = Bool.true then Option.bind (Jk fu (qb.mk 4 1 0 [] [qb.mk 1 0 50 [qc.mk 1 (ByteArray.mk (List.toArray [65, 49]))] [], qb.mk 2 10 0 [qc.mk 1 (ByteArray.mk (List.toArray [65, 49])), qc.mk 1 (ByteArray.mk (List.toArray [66, 49]))] []]) [(1 : Int), 3, 5, 6, 7]) fun (a12 : Bool) =>
                  if a12 = Bool.true then if a.2 = Bool.true then if a2.2 = Bool.true then if (!a3.2) = Bool.true then Option.bind (J3 fu a.1 [(0 : Int), 1, 1]) fun (a13 : Bool) =>
                          if a13 = Bool.true then Option.bind (J3 fu a2.1 [(1 : Int), 1]) fun (e0 : Bool) =>
                            some e0
                          else some Bool.false
                        else some Bool.false
                      else some Bool.false
                    else some Bool.false
                  else some Bool.false
                else some Bool.false
              else some Bool.false
            else some Bool.false
          else some Bool.false
        else some Bool.false
      else some Bool.false
    else some Bool.false
  else some Bool.false
theorem q6i (fu : Nat) : qk (q1p fu ) (QL ) := by
  unfold q1p QL
  repeat (first
    | with_reducible exact qk.refl _
    | with_reducible exact qk.none _
    | with_reducible apply q8t
    | with_reducible apply q1P
    | with_reducible apply q8H
    | with_reducible apply q7L
    | with_reducible apply q4Q
    | with_reducible refine qk.bind ?_ (fun _ => ?_)
    | with_reducible refine qk.ite ?_ ?_
    | with_reducible refine qk.sum (fun _ => ?_) (fun _ => ?_)
    | with_reducible refine qk.lim (fun _ => ?_))
noncomputable def Zf (x0 : Zr) : Option Bool :=
  Option.bind QL fun (a : Bool) =>
  Option.bind (QX x0) fun (a2 : Prod qb (List qa)) =>
  Option.bind (q0L a2.2) fun (a3 : List qa) =>
  Option.bind (qN (ze a2.1 (qn 1) a a3) ([], w64 (((a3.length : Nat) : Int) - 1))) fun (a4 : List qa) =>
  if (a2.1.Kind == 4) = Bool.true then if 1 < a2.1.N then Option.bind (qL a2.1 (qn 1) a3) fun (a5 : Prod (List Bool) Int) =>
      Option.bind (qL a2.1 (qn 1) a4) fun (a6 : Prod (List Bool) Int) =>
      Option.bind (qL (qb.mk a2.1.Kind (w64 (a2.1.N - 1)) a2.1.Min a2.1.Set a2.1.L) (qn 1) a3) fun (a7 : Prod (List Bool) Int) =>
      if (a5.2 != 0) = Bool.true then some Bool.false
      else if (a6.2 != 0) = Bool.true then some Bool.false
      else if (a7.2 != 0) = Bool.true then some Bool.false
      else if 0 ≤ ((a3.length : Nat) : Int) then if (((a5.1.length : Nat) : Int) != w64 (1 * 2 ^ min a3.length (Go.IntKind.bits Go.IntKind.i64))) = Bool.true then some Bool.false
        else if (((a6.1.length : Nat) : Int) != ((a5.1.length : Nat) : Int)) = Bool.true then some Bool.false
        else if (((a7.1.length : Nat) : Int) != ((a5.1.length : Nat) : Int)) = Bool.true then some Bool.false
        else Option.bind (qN (qB a a3 a6.1 a7.1 a5.1 ((a5.1.length : Nat) : Int)) 0) fun (a8 : Sum Unit Unit) =>
        Sum.elim (fun (a9 : Unit) => some Bool.false) (fun (a10 : Unit) => some a) a8
      else none
    else Option.bind (qL a2.1 (qn 1) a3) fun (a11 : Prod (List Bool) Int) =>
    Option.bind (qL a2.1 (qn 1) a4) fun (a12 : Prod (List Bool) Int) =>
    Option.bind (qL a2.1 (qn 1) a3) fun (a13 : Prod (List Bool) Int) =>
    if (a11.2 != 0) = Bool.true then some Bool.false
    else if (a12.2 != 0) = Bool.true then some Bool.false
    else if (a13.2 != 0) = Bool.true then some Bool.false
    else if 0 ≤ ((a3.length : Nat) : Int) then if (((a11.1.length : Nat) : Int) != w64 (1 * 2 ^ min a3.length (Go.IntKind.bits Go.IntKind.i64))) = Bool.true then some Bool.false
      else if (((a12.1.length : Nat) : Int) != ((a11.1.length : Nat) : Int)) = Bool.true then some Bool.false
      else if (((a13.1.length : Nat) : Int) != ((a11.1.length : Nat) : Int)) = Bool.true then some Bool.false
      else Option.bind (qN (qB a a3 a12.1 a13.1 a11.1 ((a11.1.length : Nat) : Int)) 0) fun (a14 : Sum Unit Unit) =>
      Sum.elim (fun (a15 : Unit) => some Bool.false) (fun (a16 : Unit) => some a) a14
    else none
  else if (a2.1.Kind == 2) = Bool.true then if 1 < a2.1.N then Option.bind (qL a2.1 (qn 1) a3) fun (a17 : Prod (List Bool) Int) =>
      Option.bind (qL a2.1 (qn 1) a4) fun (a18 : Prod (List Bool) Int) =>
      Option.bind (qL (qb.mk a2.1.Kind (w64 (a2.1.N - 1)) a2.1.Min a2.1.Set a2.1.L) (qn 1) a3) fun (a19 : Prod (List Bool) Int) =>
      if (a17.2 != 0) = Bool.true then some Bool.false
      else if (a18.2 != 0) = Bool.true then some Bool.false
      else if (a19.2 != 0) = Bool.true then some Bool.false
      else if 0 ≤ ((a3.length : Nat) : Int) then if (((a17.1.length : Nat) : Int) != w64 (1 * 2 ^ min a3.length (Go.IntKind.bits Go.IntKind.i64))) = Bool.true then some Bool.false
        else if (((a18.1.length : Nat) : Int) != ((a17.1.length : Nat) : Int)) = Bool.true then some Bool.false
        else if (((a19.1.length : Nat) : Int) != ((a17.1.length : Nat) : Int)) = Bool.true then some Bool.false
        else Option.bind (qN (qB a a3 a18.1 a19.1 a17.1 ((a17.1.length : Nat) : Int)) 0) fun (a20 : Sum Unit Unit) =>
        Sum.elim (fun (a21 : Unit) => some Bool.false) (fun (a22 : Unit) => some a) a20
      else none
    else Option.bind (qL a2.1 (qn 1) a3) fun (a23 : Prod (List Bool) Int) =>
    Option.bind (qL a2.1 (qn 1) a4) fun (a24 : Prod (List Bool) Int) =>
    Option.bind (qL a2.1 (qn 1) a3) fun (a25 : Prod (List Bool) Int) =>
    if (a23.2 != 0) = Bool.true then some Bool.false
    else if (a24.2 != 0) = Bool.true then some Bool.false
    else if (a25.2 != 0) = Bool.true then some Bool.false
    else if 0 ≤ ((a3.length : Nat) : Int) then if (((a23.1.length : Nat) : Int) != w64 (1 * 2 ^ min a3.length (Go.IntKind.bits Go.IntKind.i64))) = Bool.true then some Bool.false
      else if (((a24.1.length : Nat) : Int) != ((a23.1.length : Nat) : Int)) = Bool.true then some Bool.false
      else if (((a25.1.length : Nat) : Int) != ((a23.1.length : Nat) : Int)) = Bool.true then some Bool.false
      else Option.bind (qN (qB a a3 a24.1 a25.1 a23.1 ((a23.1.length : Nat) : Int)) 0) fun (a26 : Sum Unit Unit) =>
      Sum.elim (fun (a27 : Unit) => some Bool.false) (fun (a28 : Unit) => some a) a26
    else none
  else Option.bind (qL a2.1 (qn 1) a3) fun (a29 : Prod (List Bool) Int) =>
  Option.bind (qL a2.1 (qn 1) a4) fun (a30 : Prod (List Bool) Int) =>
  Option.bind (qL a2.1 (qn 1) a3) fun (a31 : Prod (List Bool) Int) =>
  if (a29.2 != 0) = Bool.true then some Bool.false
  else if (a30.2 != 0) = Bool.true then some Bool.false
  else if (a31.2 != 0) = Bool.true then some Bool.false
  else if 0 ≤ ((a3.length : Nat) : Int) then if (((a29.1.length : Nat) : Int) != w64 (1 * 2 ^ min a3.length (Go.IntKind.bits Go.IntKind.i64))) = Bool.true then some Bool.false
    else if (((a30.1.length : Nat) : Int) != ((a29.1.length : Nat) : Int)) = Bool.true then some Bool.false
    else if (((a31.1.length : Nat) : Int) != ((a29.1.length : Nat) : Int)) = Bool.true then some Bool.false
    else Option.bind (qN (qB a a3 a30.1 a31.1 a29.1 ((a29.1.length : Nat) : Int)) 0) fun (a32 : Sum Unit Unit) =>
    Sum.elim (fun (a33 : Unit) => some Bool.false) (fun (a34 : Unit) => some a) a32
  else none
theorem q4I : ∀ (x0_Need x0_L : List Int) (x0_Odd_0_0 x0_Odd_0_1 x0_Odd_0_2 x0_Odd_1_0 x0_Odd_1_1 x0_Odd_1_2 : Int), ev 5 0 [R.agg [dL 1 eI x0_Need, dL 1 eI x0_L, dI x0_Odd_0_0, dI x0_Odd_0_1, dI x0_Odd_0_2, dI x0_Odd_1_0, dI x0_Odd_1_1, dI x0_Odd_1_2]] [] = (Zf (Zr.mk x0_Need x0_L (qpS.mk (qjH.mk x0_Odd_0_0 x0_Odd_0_1 x0_Odd_0_2) (qjH.mk x0_Odd_1_0 x0_Odd_1_1 x0_Odd_1_2)))).bind (fun (e : Bool) => some (rB e, [])) :=
  fun x0_Need x0_L x0_Odd_0_0 x0_Odd_0_1 x0_Odd_0_2 x0_Odd_1_0 x0_Odd_1_1 x0_Odd_1_2 => by
    rw [qz bd5 pw5.2.2.2 lo5]
    have := cx5; have := @q6F; have := @q47; have := @q8X; have := @q24; have := @q1i; have := @q2f; have := @q2h; have := @Zf.eq_1; exact gA
end Go.Proofs.Ytgejdfnidjnjcaa.Vc

namespace Go.Proofs.Ytgejdfnidjnjcaa.Vc
open Go.RowKit
set_option linter.unusedVariables false
set_option linter.unusedSimpArgs false
def ceq (a b : qc) : Bool := (a.School == b.School) && (a.Code.toList == b.Code.toList)
def qc6 (n a b : Int) : Int := max (min a b) (min n (max a b))
def q9I (s : qd) : Bool := qc6 s.Worst (-1000) 1000 == s.Worst && qc6 s.Best (-1000) 1000 == s.Best && s.Worst != s.Best && qc6 s.Pass s.Worst s.Best == s.Pass
def qco (s : qd) (g : Int) : Bool := q9I s && qc6 g s.Worst s.Best == g
def qgc (s : qd) (g m : Int) : Bool := qco s g && (g == m || (decide (m < g) == decide (s.Worst < s.Best)))
theorem q9O (s : qd) : Z6 s = some (if q9I s then 0 else 10) := by
  have h1 := qa8 (ε := Unit ⊕ Unit) (step := zU [s.Worst, s.Best] s 2) [s.Worst, s.Best] (fun i => (i : Int)) (fun a => if qc6 a (-1000) 1000 != a then some (.inl ()) else none) (.inr ()) (fun i a ha => by
      have hi : i < 2 := by obtain ⟨h, _⟩ := List.getElem?_eq_some_iff.1 ha; simpa using h
      have hw : w64 ((i : Int) + 1) = ((i + 1 : Nat) : Int) := Q9 hi (by omega)
      unfold zU
      rw [if_pos (by omega), if_pos ⟨by omega, by simpa using by omega⟩, Int.toNat_natCast, ha, Option.bind_some, hw]
      show (if (qc6 a (-1000) 1000 != a) = true then _ else _) = _
      split <;> simp_all) (by
      unfold zU
      rfl)
  unfold Z6
  rw [show ((0 : Int)) = ((0 : Nat) : Int) from rfl, h1, Option.bind_some]
  unfold q9I qE
  simp only [List.findSome?_cons, List.findSome?_nil]
  show _ = some (if (qc6 s.Worst (-1000) 1000 == s.Worst && qc6 s.Best (-1000) 1000 == s.Best && s.Worst != s.Best && qc6 s.Pass s.Worst s.Best == s.Pass) = true then 0 else 10)
  change (Sum.elim _ (fun _ => if (s.Worst == s.Best) = true then some (10 : Int) else if (qc6 s.Pass s.Worst s.Best != s.Pass) = true then some 10 else some 0) _) = _
  by_cases e1 : qc6 s.Worst (-1000) 1000 = s.Worst <;> by_cases e2 : qc6 s.Best (-1000) 1000 = s.Best <;> by_cases e3 : s.Worst = s.Best <;> by_cases e4 : qc6 s.Pass s.Worst s.Best = s.Pass <;> simp [e1, e2, e3, e4, bne]
theorem qa3 (s : qd) (g : Int) : Zd s g = some (qco s g) := by
  unfold Zd qco
  rw [q9O, Option.bind_some]
  cases h : q9I s <;> simp [qE, qc6]
theorem qd5 (s : qd) (g m : Int) : Qx s g m = some (qgc s g m) := by
  unfold Qx qgc
  rw [qa3, Option.bind_some]
  cases h : qco s g
  · simp
  · by_cases h2 : g = m <;> simp [h2]
theorem q8i (p : qc → Bool) : ∀ (l : List qc) (i : Nat), (decide (0 ≤ (q46 (ε := Int ⊕ Unit) (fun i (_ : Unit) a => if p a = true then .inr (.inl (i : Int)) else .inl ()) (fun _ => .inr ()) l i ()).elim id (fun _ => -1))) = l.any p
  | [], i => rfl
  | a :: l, i => by
    unfold q46
    by_cases h : p a = true
    · simp [h]
    · have h' : p a = false := by simpa using h
      simp only [h', List.any_cons, Bool.false_or]
      exact q8i p l (i + 1)
theorem qhU (l : List qc) (hl : l.length ≤ 9223372036854775807) (v : qc) : ∃ i : Int, qv l v = some i ∧ (decide (0 ≤ i)) = l.any (ceq v) := by
  have h1 := q1I (ε := Int ⊕ Unit) (step := qs v l (l.length : Int)) l (fun (b : Unit) i => (i : Int)) (fun i b a => if ceq v a = true then .inr (.inl (i : Int)) else .inl ()) (fun _ => .inr ()) (fun b i a ha => by
      have hi := q12 ha
      have hw : w64 ((i : Int) + 1) = ((i + 1 : Nat) : Int) := Q9 hi hl
      unfold qs
      rw [if_pos (by omega), if_pos ⟨by omega, by omega⟩, Int.toNat_natCast, ha, Option.bind_some, hw]
      unfold ceq
      by_cases e1 : v.School = a.School <;> by_cases e2 : v.Code.toList = a.Code.toList <;> simp [e1, e2]) (fun b => by
      unfold qs
      rw [if_neg (by omega)]) ()
  refine ⟨_, ?_, q8i (ceq v) l 0⟩
  unfold qv
  rw [show ((0 : Int)) = ((0 : Nat) : Int) from rfl, h1, Option.bind_some]
  cases (q46 (ε := Int ⊕ Unit) (fun i (_ : Unit) a => if ceq v a = true then .inr (.inl (i : Int)) else .inl ()) (fun _ => .inr ()) l 0 ()) <;> rfl
theorem qbA (l : List qc) (hl : l.length ≤ 9223372036854775807) (v : qc) : qt l v = some (l.any (ceq v)) := by
  obtain ⟨i, h1, h2⟩ := qhU l hl v
  unfold qt
  rw [h1, Option.bind_some, h2]
def qaN (n : qb) : Bool := n.Kind == 1 || n.Kind == 2
theorem qcs (n : qb) : zI n = qaN n := by
  unfold zI qaN
  cases h : (n.Kind == 1) <;> simp
def qd3 (n : qb) (s : qd) (a : qa) : Bool := qaN n && n.Set.any (ceq a.Course) && qgc s a.Grade n.Min
theorem qls (n : qb) (hn : n.Set.length ≤ 9223372036854775807) (s : qd) (a : qa) : QC n s a = some (qd3 n s a) := by
  unfold QC qd3
  rw [qcs, qbA n.Set hn, qd5]
  cases qaN n <;> cases n.Set.any (ceq a.Course) <;> simp
def wgF (n : qb) (s : qd) (set : Nat) : List qa → Nat → ql → ql
  | [], _, x => x
  | a :: l, k, x => wgF n s set l (k + 1) (if set.testBit k = true then ⟨w64 (x.many + 1), w64 (x.credits + a.Credits), x.fine && qd3 n s a⟩ else x)
def ld0 : ql := ⟨0, 0, true⟩
theorem qhI (n : qb) (hn : n.Set.length ≤ 9223372036854775807) (s : qd) (l : List qa) (hl : l.length ≤ 62) (set : Nat) (hs : set < 9223372036854775808) : QN n s l (set : Int) = some (wgF n s set l 0 ld0) := by
  have h1 := q1I (ε := ql) (step := Qd (set : Int) n s (ql.mk (0 : Int) (0 : Int) Bool.false) l (l.length : Int)) l (fun (b : ql) i => (b, (i : Int))) (fun i b a => .inl (if set.testBit i = true then ⟨w64 (b.many + 1), w64 (b.credits + a.Credits), b.fine && qd3 n s a⟩ else b)) (fun b => b) (fun b i a ha => by
      have hi := q12 ha
      have hw : w64 ((i : Int) + 1) = ((i + 1 : Nat) : Int) := Q9 hi (by omega)
      have hb : QY (i : Int) (set : Int) = some (set.testBit i) := by
        unfold QY
        rw [if_pos (by omega), Int.toNat_natCast, ql5 set i hs (by omega)]
      unfold Qd
      simp only
      rw [if_pos (by omega), if_pos ⟨by omega, by omega⟩, Int.toNat_natCast, ha, Option.bind_some, hw, hb, Option.bind_some]
      cases set.testBit i
      · simp
      · cases hf : b.fine
        · simp
        · simp [qls n hn s a]) (fun b => by
      unfold Qd
      simp only
      rw [if_neg (by omega)]) ld0
  unfold QN
  change Option.bind (qN _ (ld0, ((0 : Nat) : Int))) _ = _
  rw [h1, Option.bind_some]
  congr 1
  have : ∀ (l : List qa) (i : Nat) (b : ql), q46 (ε := ql) (fun i (b : ql) (a : qa) => .inl (if set.testBit i = true then ⟨w64 (b.many + 1), w64 (b.credits + a.Credits), b.fine && qd3 n s a⟩ else b)) (fun b => b) l i b = wgF n s set l i b := by
    intro l
    induction l with
    | nil => intro i b; rfl
    | cons a l ih => intro i b; unfold q46 wgF; exact ih _ _
  exact this l 0 ld0
def qkq (n : qb) (x : ql) : Bool := if n.Kind = 1 then x.fine && x.many == 1 else x.fine && decide (0 < x.many) && decide (n.N ≤ x.credits)
end Go.Proofs.Ytgejdfnidjnjcaa.Vc
namespace Go.Proofs.Ytgejdfnidjnjcaa.Vc
open Go.RowKit
set_option linter.unusedVariables false
set_option linter.unusedSimpArgs false
def q0m (set sub : Nat) : Nat := set ^^^ (set &&& sub)
theorem q7I (set sub i : Nat) : (q0m set sub).testBit i = (set.testBit i && !sub.testBit i) := by
  unfold q0m
  rw [Nat.testBit_xor, Nat.testBit_and]
  cases set.testBit i <;> cases sub.testBit i <;> rfl
theorem q5y (set sub : Nat) : q0m set sub ≤ set := by
  have : q0m set sub &&& set = q0m set sub := Nat.eq_of_testBit_eq fun i => by
    rw [Nat.testBit_and, q7I]; cases set.testBit i <;> cases sub.testBit i <;> rfl
  rw [← this]; exact Nat.and_le_right
def eaV (own : Nat → Bool) (best : Nat → Int) (set sub : Nat) (v : Int) : Int := if own sub = true ∧ 0 ≤ best (q0m set sub) then max v (best (q0m set sub) + 1) else v
def eaF (own : Nat → Bool) (best : Nat → Int) (set : Nat) : Nat → Nat → Int → Int
  | 0, _, v => v
  | f + 1, sub, v => if sub = 0 then v else eaF own best set f ((sub - 1) &&& set) (eaV own best set sub v)
def Bnd (best : Nat → Int) (N : Nat) (M : Int) : Prop := ∀ k, k < N → -1 ≤ best k ∧ best k ≤ M
section
variable {N : Nat} (hN : N ≤ 65536) {own : Nat → Bool} {best : Nat → Int} {M : Int} (hM : M ≤ 1000000) (hb : Bnd best N M)
include hN hM hb
theorem qia {set sub : Nat} (hs : set < N) (hsub : sub < N) (g : Nat → Int) : ZH (sub : Int) ((q0m set sub : Nat) : Int) (Za N best) (Za N g) (Za N own) (set : Int) = some (Za N (q8J g set (eaV own best set sub (g set)))) := by
  have hr := q5y set sub
  have hbr := hb (q0m set sub) (by omega)
  unfold ZH
  rw [zX, if_pos ⟨by omega, by omega⟩, Int.toNat_natCast, J6 own hsub, Option.bind_some]
  unfold eaV
  cases ho : own sub
  · simp only [Bool.false_eq_true, if_false, false_and]
    rw [← q06]
    congr 1
    refine List.ext_getElem? fun k => ?_
    rw [List.getElem?_set]
    split
    · rename_i h; subst h; rw [zX, if_pos hs, J6 _ hs]
    · rfl
  · simp only [if_true, true_and]
    rw [zX, if_pos ⟨by omega, by omega⟩, Int.toNat_natCast, J6 best (by omega), Option.bind_some]
    by_cases h0 : 0 ≤ best (q0m set sub)
    · rw [if_pos h0, if_pos h0, zX, if_pos ⟨by omega, by omega⟩, Int.toNat_natCast, J6 g hs, Option.bind_some, if_pos ⟨by omega, by omega⟩, Option.bind_some, if_pos ⟨by omega, by omega⟩, if_pos (by omega), Qs (by omega) (by omega), q06]
    · rw [if_neg h0, if_neg h0, ← q06]
      congr 1
      refine List.ext_getElem? fun k => ?_
      rw [List.getElem?_set]
      split
      · rename_i h; subst h; rw [zX, if_pos hs, J6 _ hs]
      · rfl
theorem qg2 {set : Nat} (hs : set < N) : ∀ (f sub : Nat), sub ≤ f → sub ≤ set → ∀ (g : Nat → Int), qN (qD (Za N best) (Za N own) (set : Int) (set : Int)) (Za N g, (sub : Int)) = some (Za N (q8J g set (eaF own best set f sub (g set)))) := by
  have hself : ∀ g : Nat → Int, q8J g set (g set) = g := fun g => by funext k; unfold q8J; split <;> simp_all
  have h0 : ∀ (g : Nat → Int), qN (qD (Za N best) (Za N own) (set : Int) (set : Int)) (Za N g, ((0 : Nat) : Int)) = some (Za N g) := fun g => by
    refine zB ?_
    unfold qD
    simp
  intro f
  induction f with
  | zero =>
    intro sub hf _ g
    have : sub = 0 := by omega
    subst this
    rw [h0]
    unfold eaF
    rw [hself]
  | succ f ih =>
    intro sub hf hle g
    unfold eaF
    by_cases hz : sub = 0
    · subst hz
      rw [h0, if_pos rfl, hself]
    · have ha : (sub - 1) &&& set ≤ sub - 1 := Nat.and_le_left
      have hstep : qD (Za N best) (Za N own) (set : Int) (set : Int) (Za N g, (sub : Int)) = some (.inl (Za N (q8J g set (eaV own best set sub (g set))), ((((sub - 1) &&& set : Nat)) : Int))) := by
        unfold qD
        simp only
        rw [if_pos (by omega), qd1 _ _ (by omega) (by omega), Qs (by omega) (by omega), show ((sub : Int) - 1) = ((sub - 1 : Nat) : Int) by omega, qaT _ _ (by omega) (by omega)]
        have := qia hN hM hb (own := own) hs (sub := sub) (by omega) g
        unfold q0m at this
        rw [this, Option.bind_some]
      rw [Qk hstep, ih _ (by omega) (by omega), if_neg hz, qaI, q9Z]
end
def stF (skip : Bool) (own : Nat → Bool) (best : Nat → Int) (set : Nat) : Int := eaF own best set set set (if skip = true then best set else -1)
theorem qkP {own : Nat → Bool} {best : Nat → Int} {N : Nat} {M : Int} (hb : Bnd best N M) (hM : -1 ≤ M) {set sub : Nat} (hs : set < N) {v : Int} (h : -1 ≤ v ∧ v ≤ M + 1) : -1 ≤ eaV own best set sub v ∧ eaV own best set sub v ≤ M + 1 := by
  have := hb (q0m set sub) (Nat.lt_of_le_of_lt (q5y set sub) hs)
  unfold eaV
  split <;> omega
theorem qeo {own : Nat → Bool} {best : Nat → Int} {N : Nat} {M : Int} (hb : Bnd best N M) (hM : -1 ≤ M) {set : Nat} (hs : set < N) : ∀ (f sub : Nat) (v : Int), -1 ≤ v ∧ v ≤ M + 1 → -1 ≤ eaF own best set f sub v ∧ eaF own best set f sub v ≤ M + 1
  | 0, _, _, h => h
  | f + 1, sub, v, h => by
    unfold eaF
    split
    · exact h
    · exact qeo hb hM hs f _ _ (qkP hb hM hs h)
theorem qlz {skip : Bool} {own : Nat → Bool} {best : Nat → Int} {N : Nat} {M : Int} (hb : Bnd best N M) (hM : -1 ≤ M) : Bnd (stF skip own best) N (M + 1) := fun k hk => by
  unfold stF
  have := hb k hk
  refine qeo hb hM hk _ _ _ ?_
  split <;> omega
end Go.Proofs.Ytgejdfnidjnjcaa.Vc
namespace Go.Proofs.Ytgejdfnidjnjcaa.Vc
open Go.RowKit
set_option linter.unusedVariables false
set_option linter.unusedSimpArgs false
def b0F (k : Nat) : Int := if k = 0 then 0 else -1
def alG (leaf : Int) (set : Nat) : List Int → Nat → Bool
  | [], _ => true
  | x :: d, k => (set.testBit k == (x == leaf)) && alG leaf set d (k + 1)
def alF (d : List Int) (leaf set : Nat) : Bool := alG (leaf : Int) set d 0
def foF (d : List Int) (a b : Nat) : Bool := d.any fun x => decide ((a : Int) ≤ x) && decide (x < (b : Int))
def q1w (d : List Int) (s : qd) (l : List qa) (n : qb) (nx set : Nat) : Bool := decide (set ≠ 0) && (alF d nx set && qkq n (wgF n s set l 0 ld0))
mutual
def lvN : qb → Nat
  | ⟨k, _, _, _, L⟩ => if k = 1 ∨ k = 2 then 1 else lvL L
def lvL : List qb → Nat
  | [] => 0
  | x :: L => lvN x + lvL L
end
mutual
def ndN : qb → List qb
  | ⟨k, n, m, S, L⟩ => ⟨k, n, m, S, L⟩ :: ndL L
def ndL : List qb → List qb
  | [] => []
  | x :: L => ndN x ++ ndL L
end
theorem q98 (n : qb) : lvN n = if n.Kind = 1 ∨ n.Kind = 2 then 1 else lvL n.L := by cases n; rw [lvN]
theorem Zh (n : qb) : ndN n = n :: ndL n.L := by cases n; rw [ndN]
mutual
def zW (d : List Int) (s : qd) (l : List qa) : qb → Nat → Nat → Bool
  | ⟨k, n, m, S, L⟩, nx, set => if k = 1 ∨ k = 2 then q1w d s l ⟨k, n, m, S, L⟩ nx set else decide (set ≠ 0) && decide ((if k = 3 then (L.length : Int) else n) ≤ q7r d s l (k == 4) L nx b0F set)
def q7r (d : List Int) (s : qd) (l : List qa) (sk : Bool) : List qb → Nat → (Nat → Int) → Nat → Int
  | [], _, b, set => b set
  | x :: L, nx, b, set => q7r d s l sk L (nx + lvN x) (stF (sk && !foF d nx (nx + lvN x)) (zW d s l x nx) b) set
end
theorem q82 (d : List Int) (s : qd) (l : List qa) (n : qb) (nx set : Nat) : zW d s l n nx set = if n.Kind = 1 ∨ n.Kind = 2 then q1w d s l n nx set else decide (set ≠ 0) && decide ((if n.Kind = 3 then (n.L.length : Int) else n.N) ≤ q7r d s l (n.Kind == 4) n.L nx b0F set) := by cases n; rw [zW]
theorem qoW : ∀ n : qb, lvN n ≤ (ndN n).length := by
  intro n
  induction n using qb.rec (motive_2 := fun L => lvL L ≤ (ndL L).length) with
  | mk k n m S L ih => rw [lvN, ndN, List.length_cons]; split <;> omega
  | nil => simp [lvL]
  | cons x L h1 h2 => rw [lvL, ndL, List.length_append]; omega
end Go.Proofs.Ytgejdfnidjnjcaa.Vc
namespace Go.Proofs.Ytgejdfnidjnjcaa.Vc
open Go.RowKit
set_option linter.unusedVariables false
set_option linter.unusedSimpArgs false
mutual
def hgN : qb → Nat
  | ⟨_, _, _, _, L⟩ => 1 + hgL L
def hgL : List qb → Nat
  | [] => 0
  | x :: L => max (hgN x) (hgL L)
end
mutual
def dpN (d : Int) : qb → Int → Int
  | ⟨_, _, _, _, L⟩, m => dpL (d + 1) L (max m d)
def dpL (d : Int) : List qb → Int → Int
  | [], m => m
  | x :: L, m => dpL d L (dpN d x m)
end
theorem q6K (n : qb) : hgN n = 1 + hgL n.L := by cases n; rw [hgN]
theorem qju (d : Int) (n : qb) (m : Int) : dpN d n m = dpL (d + 1) n.L (max m d) := by cases n; rw [dpN]
theorem q3K (k : Nat) (h : k ≤ 100000) : k ≤ maxLen ∧ k * 72 ≤ 140737488355328 := ⟨by unfold maxLen; omega, by omega⟩
def qjb (y : qb) : Prop := ∀ (deep : Int) (w : List qb) (b2 : Int) (b3 : Bool), 1 ≤ deep → deep + hgN y ≤ 101 → w.length + (ndN y).length ≤ 10000 → Qc (y, deep, w, b2, b3) = some (.inr (w ++ ndN y, dpN deep y b2, b3))
theorem qcG (rF : (qb × Int × List qb × Int × Bool) → Option (Int ⊕ (List qb × Int × Bool))) (deep : Int) (hd : 1 ≤ deep) (L : List qb) (hL : L.length ≤ 10000)
    (step : List qb × Int × Bool × Int → Option ((List qb × Int × Bool × Int) ⊕ (Int ⊕ (List qb × Int × Bool))))
    (hst : ∀ w b2 b3 (i : Nat), step (w, b2, b3, (i : Int)) = if (i : Int) < (L.length : Int) then if (0 : Int) ≤ i ∧ (i : Int) < (L.length : Int) then Option.bind L[Int.toNat i]? fun a2 => Option.bind (rF (a2, w64 (deep + 1), w, b2, b3)) fun a3 => Sum.elim (fun a4 => some (Sum.inr (Sum.inl a4))) (fun a5 => some (Sum.inl (a5.1, a5.2.1, a5.2.2, w64 ((i : Int) + 1)))) a3 else none else some (.inr (.inr (w, b2, b3))))
    (hP : ∀ y ∈ L, ∀ (w : List qb) (b2 : Int) (b3 : Bool), deep + 1 + hgN y ≤ 101 → w.length + (ndN y).length ≤ 10000 → rF (y, deep + 1, w, b2, b3) = some (.inr (w ++ ndN y, dpN (deep + 1) y b2, b3))) :
    ∀ (r : List qb) (i : Nat) (w : List qb) (b2 : Int) (b3 : Bool), r.length + i = L.length → (∀ j, r[j]? = L[i + j]?) → deep + 1 + hgL r ≤ 101 → w.length + (ndL r).length ≤ 10000 →
    qN step (w, b2, b3, (i : Int)) = some (.inr (w ++ ndL r, dpL (deep + 1) r b2, b3)) := by
  intro r
  induction r with
  | nil =>
    intro i w b2 b3 hi _ _ _
    have hi : i = L.length := by simpa using hi
    subst hi
    refine zB ?_
    rw [hst, if_neg (by omega), ndL, dpL, List.append_nil]
  | cons y r ih =>
    intro i w b2 b3 hi hr hh hw
    rw [hgL] at hh
    rw [ndL, List.length_append] at hw
    simp only [List.length_cons] at hi
    have hget : L[i]? = some y := by have := hr 0; simpa using this.symm
    have hlt := q12 hget
    have hcall := hP y (List.mem_of_getElem? hget) w b2 b3 (by omega) (by omega)
    have hstep : step (w, b2, b3, (i : Int)) = some (.inl (w ++ ndN y, dpN (deep + 1) y b2, b3, ((i + 1 : Nat) : Int))) := by
      rw [hst, if_pos (by omega), if_pos ⟨by omega, by omega⟩, Int.toNat_natCast, hget, Option.bind_some, Qs (by omega) (by omega), hcall, Option.bind_some, Q9 hlt (by omega)]
      rfl
    rw [Qk hstep, ih (i + 1) _ _ _ (by omega) (fun j => by rw [show i + 1 + j = i + (j + 1) by omega, ← hr (j + 1)]; rfl) (by omega) (by rw [List.length_append]; omega), ndL, dpL, List.append_assoc]
theorem q6w (L : List qb) : L.length ≤ (ndL L).length := by
  induction L with
  | nil => simp
  | cons x L ih => rw [ndL, List.length_append, List.length_cons, Zh, List.length_cons]; omega
theorem qjY : ∀ (m : Nat) (y : qb), (ndN y).length ≤ m → qjb y := by
  intro m
  induction m with
  | zero => intro y h; rw [Zh] at h; simp at h
  | succ m ih =>
    intro y h deep w b2 b3 hd hh hw
    rw [Zh, List.length_cons] at h hw
    rw [q6K] at hh
    have hsub : ∀ (L : List qb), (ndL L).length ≤ m → ∀ z ∈ L, qjb z := by
      intro L
      induction L with
      | nil => intro _ z hz; simp at hz
      | cons x L ihl =>
        intro g z hz
        rw [ndL, List.length_append] at g
        rcases List.mem_cons.1 hz with rfl | hz
        · exact ih _ (by omega)
        · exact ihl (by omega) z hz
    have hP := hsub y.L (by omega)
    have hl := q6w y.L
    rw [q2p, Qg]
    unfold Zg
    have hne : (((w.length : Nat) : Int) == (10000 : Int)) = false := by simp; omega
    rw [if_neg (by omega), if_neg (by rw [hne]; simp), if_pos ⟨(q3K _ (by omega)).1, (q3K _ (by omega)).2⟩, Option.bind_some, Sum.elim_inr]
    have h1 := qcG Qc deep hd y.L (by omega) (Qf Qc deep y.L (y.L.length : Int)) (fun w b2 b3 i => by rfl) (fun z hz w b2 b3 g1 g2 => hP z hz (deep + 1) w b2 b3 (by omega) g1 g2) y.L 0 (w ++ [y]) (max b2 deep) b3 (by simp) (by simp) (by omega) (by rw [List.length_append, List.length_singleton]; omega)
    rw [show ((0 : Nat) : Int) = 0 from rfl] at h1
    dsimp only
    have h2 : (⟨y.Kind, y.N, y.Min, y.Set, y.L⟩ : qb) = y := by cases y; rfl
    rw [h2, h1, Option.bind_some, Sum.elim_inr, Zh, qju, List.append_assoc]
    rfl
theorem qfg (n : qb) (hh : hgN n ≤ 100) (hn : (ndN n).length ≤ 9999) : ZE n = some (ndN n, dpN 1 n 0, true) := by
  rw [q6K] at hh
  rw [Zh, List.length_cons] at hn
  have hl := q6w n.L
  unfold ZE Zp JS ZY
  rw [if_neg (by omega), if_pos (by unfold maxLen; omega), Option.bind_some, Sum.elim_inr]
  have h1 := qcG Qc 1 (by omega) n.L (by omega) (Zq 1 n.L (n.L.length : Int)) (fun w b2 b3 i => by rfl) (fun z hz w b2 b3 g1 g2 => qjY _ z (Nat.le_refl _) (1 + 1) w b2 b3 (by omega) g1 g2) n.L 0 [n] (max 0 1) false (by simp) (by simp) (by omega) (by simp only [List.length_singleton]; omega)
  rw [show ((0 : Nat) : Int) = 0 from rfl] at h1
  dsimp only
  have h2 : (⟨n.Kind, n.N, n.Min, n.Set, n.L⟩ : qb) = n := by cases n; rfl
  rw [h2, h1, Option.bind_some, Sum.elim_inr, Option.bind_some, Sum.elim_inr, Option.bind_some, Sum.elim_inr, Zh, qju]
  rfl
def JP (n : qb) : Bool := n.Kind != 3 && n.Kind != 4
theorem qii (n : qb) : Zb n = JP n := by
  unfold Zb JP
  cases h : (n.Kind != 3) <;> simp
theorem qf7 (l : List qc) (h : l.length ≤ 1000000) : qA l = some () := by
  unfold qA
  rw [if_pos ⟨by unfold maxLen; omega, by omega⟩]
theorem qek : ∀ (m : Nat) (n : qb), (ndN n).length ≤ m → (ndN n).length ≤ 100000 → (∀ y ∈ ndN n, y.Set.length ≤ 1000000) → Qb n = some n := by
  intro m
  induction m with
  | zero => intro n h; rw [Zh] at h; simp at h
  | succ m ih =>
    intro n h1 h2 h3
    have hset := h3 n (by rw [Zh]; exact List.mem_cons_self)
    have hsub : ∀ (L : List qb), (ndL L).length ≤ m → (ndL L).length ≤ 100000 → (∀ y ∈ ndL L, y.Set.length ≤ 1000000) → ∀ y ∈ L, Qb y = some y := by
      intro L
      induction L with
      | nil => intro _ _ _ y hy; simp at hy
      | cons x L ihl =>
        intro g1 g2 g3 y hy
        rw [ndL, List.length_append] at g1 g2
        rw [ndL] at g3
        rcases List.mem_cons.1 hy with rfl | hy
        · exact ih _ (by omega) (by omega) fun z hz => g3 z (List.mem_append_left _ hz)
        · exact ihl (by omega) (by omega) (fun z hz => g3 z (List.mem_append_right _ hz)) y hy
    have e0 : ndN n = n :: ndL n.L := Zh n
    have hlen : (ndN n).length = (ndL n.L).length + 1 := by rw [e0]; rfl
    have hP := hsub n.L (by omega) (by omega) fun y hy => h3 y (by rw [e0]; exact List.mem_cons_of_mem _ hy)
    have hl := q6w n.L
    have hn : (⟨n.Kind, n.N, n.Min, n.Set, n.L⟩ : qb) = n := by cases n; rfl
    rw [q2k, Qh, qf7 _ hset, Option.bind_some]
    unfold qO
    rw [if_pos ⟨by unfold maxLen; omega, by omega⟩]
    by_cases hz : n.L.length = 0
    · rw [if_neg (by simp [hz]), Option.bind_some, Sum.elim_inr]
      rw [zB (e := ()) (by unfold zK; rw [if_neg (by omega)]), Option.bind_some]
    · rw [if_pos hz, Option.bind_some, Sum.elim_inl]
      have hL : ∀ i0 : Nat, qN (zQ Qb n.Kind n.N n.Min n.Set 0 0 0 (n.L.length : Int)) (n.L, ((0 : Nat) : Int)) = some n.L := fun _ => by
        refine q1W (fun i => (n.L, (i : Int))) 0 n.L.length (Nat.zero_le _) (fun i _ hi => ?_) ?_
        · obtain ⟨y, hy⟩ : ∃ y, n.L[i]? = some y := ⟨_, List.getElem?_eq_getElem hi⟩
          unfold zQ
          simp only
          rw [if_pos (by omega), if_pos ⟨by omega, by omega⟩, Int.toNat_natCast, hy, Option.bind_some, hP y (List.mem_of_getElem? hy), Option.bind_some, if_pos ⟨by omega, by omega⟩, if_pos (by omega), Q9 hi (by omega)]
          have : n.L.set i y = n.L := by
            obtain ⟨h1, h2⟩ := List.getElem?_eq_some_iff.1 hy
            rw [← h2, List.set_getElem_self]
          rw [this]
        · unfold zQ
          simp only
          rw [if_neg (by omega)]
      have := hL 0
      rw [show ((0 : Nat) : Int) = 0 from rfl] at this
      rw [this, Option.bind_some, hn]
theorem qfO (n : qb) (hh : hgN n ≤ 100) (hn : (ndN n).length ≤ 9999) (hs : ∀ y ∈ ndN n, y.Set.length ≤ 1000000) : QE n = some ((ndN n).filter JP) := by
  have hsub : ∀ (m : Nat) (n y : qb), (ndN n).length ≤ m → y ∈ ndN n → (ndN y).length ≤ (ndN n).length ∧ ∀ z ∈ ndN y, z ∈ ndN n := by
    intro m
    induction m with
    | zero => intro n y h; rw [Zh] at h; simp at h
    | succ m ih =>
      intro n y h hy
      rw [Zh] at hy
      rcases List.mem_cons.1 hy with rfl | hy
      · exact ⟨Nat.le_refl _, fun z hz => hz⟩
      · have hL : ∀ (L : List qb), (ndL L).length ≤ m → y ∈ ndL L → (ndN y).length ≤ (ndL L).length ∧ ∀ z ∈ ndN y, z ∈ ndL L := by
          intro L
          induction L with
          | nil => intro _ h; simp [ndL] at h
          | cons x L ihl =>
            intro g gy
            rw [ndL, List.length_append] at g
            rw [ndL] at gy ⊢
            rw [List.length_append]
            rcases List.mem_append.1 gy with gy | gy
            · obtain ⟨a, b⟩ := ih x y (by omega) gy
              exact ⟨by omega, fun z hz => List.mem_append_left _ (b z hz)⟩
            · obtain ⟨a, b⟩ := ihl (by omega) gy
              exact ⟨by omega, fun z hz => List.mem_append_right _ (b z hz)⟩
        have e0 := Zh n
        have : (ndN n).length = (ndL n.L).length + 1 := by rw [e0]; rfl
        obtain ⟨a, b⟩ := hL n.L (by omega) hy
        exact ⟨by omega, fun z hz => by rw [e0]; exact List.mem_cons_of_mem _ (b z hz)⟩
  have hc : ∀ y ∈ ndN n, JP y = true → Qb y = some y := fun y hy _ => by
    obtain ⟨a, b⟩ := hsub _ n y (Nat.le_refl _) hy
    exact qek _ y (Nat.le_refl _) (by omega) fun z hz => hs z (b z hz)
  clear hsub hs
  unfold QE
  rw [qfg n hh hn, Option.bind_some]
  simp only
  generalize ndN n = l at hn hc
  have key : ∀ (r : List qb) (i : Nat) (b : List qb), r.length + i = l.length → (∀ j, r[j]? = l[i + j]?) → b.length ≤ i → qN (zh l (l.length : Int)) (b, (i : Int)) = some (b ++ r.filter JP) := by
    intro r
    induction r with
    | nil =>
      intro i b hi _ _
      have hi : i = l.length := by simpa using hi
      subst hi
      refine zB ?_
      unfold zh
      simp
    | cons y r ih =>
      intro i b hi hr hb
      simp only [List.length_cons] at hi
      have hget : l[i]? = some y := by have := hr 0; simpa using this.symm
      have hlt := q12 hget
      have hstep : zh l (l.length : Int) (b, (i : Int)) = some (.inl (if JP y = true then b ++ [y] else b, ((i + 1 : Nat) : Int))) := by
        unfold zh
        simp only
        rw [if_pos (by omega), if_pos ⟨by omega, by omega⟩, Int.toNat_natCast, hget, Option.bind_some, qii, Q9 hlt (by omega)]
        cases h : JP y
        · simp
        · rw [hc y (List.mem_of_getElem? hget) h, Option.bind_some, if_pos rfl, if_pos ⟨(q3K _ (by omega)).1, (q3K _ (by omega)).2⟩]
          simp
      have hb2 : (if JP y = true then b ++ [y] else b).length ≤ i + 1 := by
        split
        · rw [List.length_append, List.length_singleton]; omega
        · omega
      rw [Qk hstep, ih (i + 1) _ (by omega) (fun j => by rw [show i + 1 + j = i + (j + 1) by omega, ← hr (j + 1)]; rfl) hb2, List.filter_cons]
      cases JP y <;> simp
  have := key l 0 [] (by simp) (by simp) (by simp)
  change Option.bind (qN _ ([], ((0 : Nat) : Int))) _ = _
  rw [this, Option.bind_some, List.nil_append]
end Go.Proofs.Ytgejdfnidjnjcaa.Vc
namespace Go.Proofs.Ytgejdfnidjnjcaa.Vc
open Go.RowKit
set_option linter.unusedVariables false
set_option linter.unusedSimpArgs false
def q6I (b : UInt8) : Bool := (48 ≤ b.toNat && b.toNat ≤ 57) || (65 ≤ b.toNat && b.toNat ≤ 90)
theorem qi0 (s : ByteArray) (i : Nat) (h : (s.get! i).toNat < 128) : Utf8.decode s i = ((s.get! i).toNat, 1) := by
  unfold Utf8.decode
  simp only [Nat.add_zero]
  rw [if_pos h]
theorem qk6 (s : ByteArray) (i : Nat) (h : ¬ (s.get! i).toNat < 128) : 128 ≤ (Utf8.decode s i).1 := by
  unfold Utf8.decode
  simp only [Nat.add_zero]
  rw [if_neg h]
  have hr : 128 ≤ Utf8.runeError := by decide
  split
  · split
    · assumption
    · exact hr
  · split
    · split
      · rename_i h; simp only [ge_iff_le, Bool.and_eq_true, decide_eq_true_eq] at h; omega
      · exact hr
    · split
      · split
        · rename_i h; simp only [ge_iff_le, Bool.and_eq_true, decide_eq_true_eq] at h; omega
        · exact hr
      · exact hr
theorem q96 (b : UInt8) (h : b.toNat < 128) : zH (b.toNat : Int) = !q6I b := by
  unfold zH q6I
  by_cases h1 : b.toNat < 65
  · rw [if_pos (by omega)]
    by_cases h2 : b.toNat < 48
    · rw [if_pos (by omega)]
      have e1 : decide (48 ≤ b.toNat) = false := decide_eq_false (by omega)
      have e2 : decide (65 ≤ b.toNat) = false := decide_eq_false (by omega)
      simp [e1, e2]
    · rw [if_neg (by omega)]
      have e1 : decide (48 ≤ b.toNat) = true := decide_eq_true (by omega)
      have e2 : decide (65 ≤ b.toNat) = false := decide_eq_false (by omega)
      by_cases h3 : b.toNat ≤ 57
      · have e3 : decide (b.toNat ≤ 57) = true := decide_eq_true h3
        have e4 : decide ((57 : Int) < b.toNat) = false := decide_eq_false (by omega)
        simp [e1, e2, e3, e4]
      · have e3 : decide (b.toNat ≤ 57) = false := decide_eq_false h3
        have e4 : decide ((57 : Int) < b.toNat) = true := decide_eq_true (by omega)
        simp [e1, e2, e3, e4]
  · rw [if_neg (by omega)]
    have e0 : decide (b.toNat ≤ 57) = false := decide_eq_false (by omega)
    have e1 : decide (65 ≤ b.toNat) = true := decide_eq_true (by omega)
    by_cases h2 : 90 < b.toNat
    · rw [if_pos (by omega), if_neg (by omega)]
      have e3 : decide (b.toNat ≤ 90) = false := decide_eq_false (by omega)
      have e4 : decide ((57 : Int) < b.toNat) = true := decide_eq_true (by omega)
      simp [e0, e1, e3, e4]
    · rw [if_neg (by omega)]
      have e3 : decide (b.toNat ≤ 90) = true := decide_eq_true (by omega)
      simp [e0, e1, e3]
theorem qfu (n : Nat) (h : 128 ≤ n) : zH (n : Int) = true := by
  unfold zH
  rw [if_neg (by omega), if_pos (by omega), if_neg (by omega)]
  exact decide_eq_true (by omega)
theorem qh9 (s : ByteArray) (i : Nat) (h : i < s.size) : s.get! i = s.data.toList.getD i 0 := by
  obtain ⟨⟨l⟩⟩ := s
  have h' : i < l.length := h
  show (Array.mk l)[i]! = l.getD i 0
  simp [h', List.getD]
theorem qbF (s : ByteArray) : ∀ (r : List UInt8) (p : Nat), r.length + p = s.size → (∀ j, r[j]? = s.data.toList[p + j]?) → ∃ e, qN (qH s true) p = some e ∧ ((∃ i : Int, e = .inl i ∧ 0 ≤ i ∧ r.all q6I = false) ∨ (e = .inr () ∧ r.all q6I = true)) := by
  intro r
  induction r with
  | nil =>
    intro p hp _
    have hp : p = s.size := by simpa using hp
    subst hp
    refine ⟨.inr (), zB ?_, .inr ⟨rfl, rfl⟩⟩
    unfold qH
    rw [if_neg (by omega)]
  | cons b r ih =>
    intro p hp hr
    simp only [List.length_cons] at hp
    have hb : s.data.toList[p]? = some b := by have := hr 0; simpa using this.symm
    have hg : s.get! p = b := by rw [qh9 s p (by omega), List.getD, hb]; rfl
    by_cases h : b.toNat < 128
    · have hd := qi0 s p (by rw [hg]; exact h)
      rw [hg] at hd
      cases ho : q6I b
      · refine ⟨.inl (p : Int), zB ?_, .inl ⟨_, rfl, by omega, by simp [ho]⟩⟩
        unfold qH
        rw [if_pos (by omega), hd, q96 b h, ho]
        rfl
      · obtain ⟨e, h1, h2⟩ := ih (p + 1) (by omega) (fun j => by rw [show p + 1 + j = p + (j + 1) by omega, ← hr (j + 1)]; rfl)
        refine ⟨e, ?_, by rw [List.all_cons, ho, Bool.true_and]; exact h2⟩
        rw [Qk (y := p + 1) (by
          unfold qH
          rw [if_pos (by omega), hd, q96 b h, ho]
          rfl)]
        exact h1
    · have hbig := qk6 s p (by rw [hg]; exact h)
      have hbad : q6I b = false := by
        unfold q6I
        have e1 : decide (b.toNat ≤ 57) = false := decide_eq_false (by omega)
        have e2 : decide (b.toNat ≤ 90) = false := decide_eq_false (by omega)
        simp [e1, e2]
      refine ⟨.inl (p : Int), zB ?_, .inl ⟨_, rfl, by omega, by simp [hbad]⟩⟩
      unfold qH
      rw [if_pos (by omega), qfu _ hbig]
      rfl
def qhC (s : ByteArray) : Bool := decide (s.size ≠ 0) && decide (s.size ≤ 8) && s.data.toList.all q6I
theorem qcY (s : ByteArray) : (s.toList == ByteArray.toList (ByteArray.mk (List.toArray []))) = decide (s.size = 0) := by
  rw [ByteArray.toList_eq, ByteArray.toList_eq]
  obtain ⟨⟨l⟩⟩ := s
  show (l == []) = decide (l.length = 0)
  cases l <;> simp
theorem qlF (s : ByteArray) : Z1 s = some (qhC s) := by
  unfold Z1 qhC
  rw [qcY]
  by_cases h0 : s.size = 0
  · simp [h0]
  · have e0 : decide (s.size = 0) = false := decide_eq_false h0
    have e1 : decide (s.size ≠ 0) = true := decide_eq_true h0
    rw [e0, e1, if_pos (by rfl)]
    by_cases h8 : s.size ≤ 8
    · have e2 : decide (s.size ≤ 8) = true := decide_eq_true h8
      obtain ⟨e, h1, h2⟩ := qbF s s.data.toList 0 (by simp) (by simp)
      rw [if_pos (by omega), e2]
      unfold zZ Q1
      rw [h1, Option.bind_some]
      rcases h2 with ⟨i, rfl, hi, ha⟩ | ⟨rfl, ha⟩
      · rw [Sum.elim_inl, Option.bind_some, Option.bind_some, ha]
        have : decide (i < 0) = false := decide_eq_false (by omega)
        rw [this]; rfl
      · rw [Sum.elim_inr, Option.bind_some, Option.bind_some, ha]
        rfl
    · have e2 : decide (s.size ≤ 8) = false := decide_eq_false h8
      rw [if_neg (by omega), e2]
      rfl
def inF (n a b : Int) : Bool := decide (a ≤ n) && decide (n ≤ b)
theorem q1x (n a b : Int) : qC n a b = inF n a b := by
  unfold qC inF
  by_cases h : a ≤ n <;> simp [h]
def J8 (c : qc) : Bool := inF c.School 1 8 && qhC c.Code
theorem qil (c : qc) : ZA c = some (J8 c) := by
  unfold ZA J8
  rw [q1x, qlF]
  cases inF c.School 1 8 <;> simp
def qiL (x y : Int) : Int := if x < y then -1 else if y < x then 1 else 0
def qpQ (x y : ByteArray) : Int := if Op.bytesLess x.toList y.toList = true then -1 else if x.toList == y.toList then 0 else 1
def qlU (a b : qc) : Int := if a.School ≠ b.School then qiL a.School b.School else qpQ a.Code b.Code
theorem qq1 (x y : Int) : Z0 [x, y] = some (if x ≠ 0 then x else y) := by
  unfold Z0
  by_cases hx : x = 0
  · by_cases hy : y = 0
    · rw [Qk (y := 1) (by unfold zu; simp [hx]; rfl), Qk (y := 2) (by unfold zu; simp [hx, hy]; rfl), zB (e := .inr ()) (by unfold zu; simp)]
      simp [hx, hy]
    · rw [Qk (y := 1) (by unfold zu; simp [hx]; rfl), zB (e := .inl y) (by unfold zu; simp [hx, hy])]
      simp [hx, hy]
  · rw [zB (e := .inl x) (by unfold zu; simp [hx])]
    simp [hx]
theorem q92 (a b : qc) : QK a b = some (qlU a b) := by
  unfold QK
  rw [qq1, Option.bind_some]
  congr 1
  have e1 : zG a.School b.School = qiL a.School b.School := by
    unfold zG z6 qiL
    simp
  have e2 : z7 a.Code b.Code = qpQ a.Code b.Code := by
    unfold z7 qpQ
    cases h1 : Op.bytesLess a.Code.toList b.Code.toList
    · cases h2 : (a.Code.toList == b.Code.toList) <;> simp
    · simp
  rw [e1, e2]
  unfold qlU
  by_cases h : a.School = b.School
  · have : qiL a.School b.School = 0 := by unfold qiL; rw [if_neg (by omega), if_neg (by omega)]
    simp [h, this]
    intro h2; exact absurd (by unfold qiL; simp) h2
  · have : qiL a.School b.School ≠ 0 := by unfold qiL; split <;> (try split) <;> omega
    simp [h, this]
def qaQ : List qc → Bool
  | x :: y :: l => decide (qlU x y < 0) && qaQ (y :: l)
  | _ => true
def q05 (n : qb) : Int :=
  if inF n.Min (-1000) 1000 = false then 3 else if inF n.Set.length 1 12 = false then 2 else if n.Set.all J8 = false then 1 else if qaQ n.Set = true then 0 else 7
theorem q8W (l : List qc) (hl : l.length ≤ 1000000) : qq l = some (!l.all J8) := by
  have h1 := q1I (ε := Int ⊕ Unit) (step := qp l (l.length : Int)) l (fun (b : Unit) i => (i : Int)) (fun i b a => if (!J8 a) = true then .inr (.inl (i : Int)) else .inl ()) (fun _ => .inr ()) (fun b i a ha => by
      have hi := q12 ha
      have hw : w64 ((i : Int) + 1) = ((i + 1 : Nat) : Int) := Q9 hi (by omega)
      unfold qp QB
      rw [if_pos (by omega), if_pos ⟨by omega, by omega⟩, Int.toNat_natCast, ha, Option.bind_some, hw, qil, Option.bind_some, Option.bind_some]
      cases J8 a <;> simp) (fun b => by
      unfold qp
      rw [if_neg (by omega)]) ()
  have h2 := q8i (fun a => !J8 a) l 0
  unfold qq qw
  rw [show ((0 : Nat) : Int) = 0 from rfl] at h1
  rw [h1, Option.bind_some]
  have e : l.any (fun a => !J8 a) = !l.all J8 := by
    clear h1 h2 hl
    induction l with
    | nil => rfl
    | cons a l ih => rw [List.any_cons, List.all_cons, ih]; cases J8 a <;> simp
  rw [← e, ← h2]
  cases (q46 (ε := Int ⊕ Unit) (fun i (_ : Unit) (a : qc) => if (!J8 a) = true then .inr (.inl (i : Int)) else .inl ()) (fun _ => .inr ()) l 0 ()) <;> rfl
theorem qd0 (n : qb) (hl : n.Set.length ≤ 1000000) : ∀ (r : List qc) (i : Nat), r.length + i = n.Set.length → (∀ j, r[j]? = n.Set[i + j]?) → qN (qZ n n.Set (n.Set.length : Int)) (i : Int) = some (if (match i, n.Set[i - 1]? with | _ + 1, some x => qaQ (x :: r) | _, _ => qaQ r) = true then .inr () else .inl ()) := by
  intro r
  induction r with
  | nil =>
    intro i hi _
    have hi : i = n.Set.length := by simpa using hi
    subst hi
    refine zB ?_
    unfold qZ
    rw [if_neg (by omega)]
    split <;> simp [qaQ]
  | cons a r ih =>
    intro i hi hr
    simp only [List.length_cons] at hi
    have hget : n.Set[i]? = some a := by have := hr 0; simpa using this.symm
    have hlt := q12 hget
    have hnext := ih (i + 1) (by omega) (fun j => by rw [show i + 1 + j = i + (j + 1) by omega, ← hr (j + 1)]; rfl)
    simp only [Nat.add_sub_cancel, hget] at hnext
    cases i with
    | zero =>
      rw [Qk (y := ((0 + 1 : Nat) : Int)) (by
        unfold qZ
        rw [if_pos (by omega), if_pos ⟨by omega, by omega⟩, Int.toNat_natCast, hget, Option.bind_some, if_neg (by omega), Q9 hlt (by omega)])]
      exact hnext
    | succ i =>
      obtain ⟨x, hx⟩ : ∃ x, n.Set[i]? = some x := ⟨_, List.getElem?_eq_getElem (by omega)⟩
      simp only [Nat.add_sub_cancel, hx]
      have hw : w64 (((i + 1 : Nat) : Int) - 1) = (i : Int) := by rw [Qs (by omega) (by omega)]; omega
      by_cases hc : qlU x a < 0
      · rw [Qk (y := ((i + 1 + 1 : Nat) : Int)) (by
          unfold qZ
          rw [if_pos (by omega), if_pos ⟨by omega, by omega⟩, Int.toNat_natCast, hget, Option.bind_some, if_pos (by omega), hw, if_pos ⟨by omega, by omega⟩, Int.toNat_natCast, hx, Option.bind_some, q92, Option.bind_some, if_neg (by omega), Q9 hlt (by omega)]), hnext]
        simp [qaQ, hc]
      · rw [zB (e := .inl ()) (by
          unfold qZ
          rw [if_pos (by omega), if_pos ⟨by omega, by omega⟩, Int.toNat_natCast, hget, Option.bind_some, if_pos (by omega), hw, if_pos ⟨by omega, by omega⟩, Int.toNat_natCast, hx, Option.bind_some, q92, Option.bind_some, if_pos (by omega)])]
        simp [qaQ, hc]
theorem q9g (n : qb) (hl : n.Set.length ≤ 1000000) : Qw n = some (q05 n) := by
  unfold Qw q05
  rw [q1x, q1x, q8W _ hl, Option.bind_some]
  have h := qd0 n hl n.Set 0 (by simp) (by simp)
  simp only at h
  rw [show ((0 : Nat) : Int) = 0 from rfl] at h
  rw [h, Option.bind_some]
  cases inF n.Min (-1000) 1000
  · simp
  · cases inF n.Set.length 1 12
    · simp
    · cases n.Set.all J8
      · simp
      · cases qaQ n.Set <;> simp
def q7t (n : qb) : Bool := n.Min == 0 && n.Set.isEmpty && !n.L.isEmpty
def q9v (n : qb) : Int :=
  if n.Kind = 1 then (if n.N ≠ 0 ∨ n.L ≠ [] then 13 else q05 n)
  else if n.Kind = 2 then (if n.L ≠ [] then 13 else if inF n.N 1 600 = false then 3 else q05 n)
  else if n.Kind = 3 then (if q7t n = false ∨ n.N ≠ 0 then 13 else 0)
  else if n.Kind = 4 then (if q7t n = false then 13 else if inF n.N 1 n.L.length = false then 3 else 0)
  else 13
theorem qes (n : qb) : zA n = q7t n := by
  unfold zA q7t
  cases n.Min == 0
  · simp
  · cases hS : n.Set <;> cases hL : n.L <;> simp
    all_goals omega
theorem qqt (n : qb) (hl : n.Set.length ≤ 1000000) : QJ n = some (if n.N ≠ 0 ∨ n.L ≠ [] then 13 else q05 n) := by
  unfold QJ
  rw [q9g n hl, Option.bind_some]
  by_cases h : n.N = 0
  · cases hL : n.L with
    | nil => simp [h]
    | cons x l => rw [if_neg (by simp [h]), if_pos (by simp), if_pos (.inr (by simp))]
  · simp [h]
theorem qqc (n : qb) (hl : n.Set.length ≤ 1000000) : QO n = some (if n.L ≠ [] then 13 else if inF n.N 1 600 = false then 3 else q05 n) := by
  unfold QO
  rw [q9g n hl, Option.bind_some, q1x]
  cases hL : n.L with
  | nil =>
    cases hI : inF n.N 1 600 <;> simp [hI]
  | cons x l => rw [if_pos (by simp), if_pos (by simp)]
theorem qqu (n : qb) : zF n = if q7t n = false ∨ n.N ≠ 0 then 13 else 0 := by
  unfold zF
  rw [qes]
  cases q7t n
  · simp
  · by_cases h : n.N = 0 <;> simp [h]
theorem qpW (n : qb) : zE n = if q7t n = false then 13 else if inF n.N 1 n.L.length = false then 3 else 0 := by
  unfold zE
  rw [qes, q1x]
  cases q7t n
  · simp
  · cases inF n.N 1 n.L.length <;> simp
def qlT (l : List qb) : Option Int := l.findSome? fun y => if q9v y ≠ 0 then some (q9v y) else none
theorem qd4 (l : List qb) (hl : l.length ≤ 1000000) (hs : ∀ y ∈ l, y.Set.length ≤ 1000000) : qN (zL l (l.length : Int)) 0 = some (match qlT l with | some e => .inl e | none => .inr ()) := by
  have h1 := qa8 (ε := Int ⊕ Unit) (step := zL l (l.length : Int)) l (fun i => (i : Int)) (fun y => if q9v y ≠ 0 then some (.inl (q9v y)) else none) (.inr ()) (fun i y hy => by
      have hi := q12 hy
      have hw : w64 ((i : Int) + 1) = ((i + 1 : Nat) : Int) := Q9 hi (by omega)
      have hset := hs y (List.mem_of_getElem? hy)
      unfold zL
      rw [if_pos (by omega), if_pos ⟨by omega, by omega⟩, Int.toNat_natCast, hy, Option.bind_some, hw, qqt y hset, qqc y hset, qqu, qpW, Option.bind_some, Option.bind_some]
      unfold q9v
      by_cases e1 : y.Kind = 1
      · simp only [if_pos e1]; generalize (if y.N ≠ 0 ∨ y.L ≠ [] then 13 else q05 y) = v; by_cases h : v = 0 <;> simp [h]
      · by_cases e2 : y.Kind = 2
        · simp only [if_neg e1, if_pos e2]; generalize (if y.L ≠ [] then 13 else if inF y.N 1 600 = false then 3 else q05 y) = v; by_cases h : v = 0 <;> simp [h]
        · by_cases e3 : y.Kind = 3
          · simp only [if_neg e1, if_neg e2, if_pos e3]; generalize (if q7t y = false ∨ y.N ≠ 0 then (13 : Int) else 0) = v; by_cases h : v = 0 <;> simp [h]
          · by_cases e4 : y.Kind = 4
            · simp only [if_neg e1, if_neg e2, if_neg e3, if_pos e4]; generalize (if q7t y = false then (13 : Int) else if inF y.N 1 y.L.length = false then 3 else 0) = v; by_cases h : v = 0 <;> simp [h]
            · simp [e1, e2, e3, e4]) (by
      unfold zL
      rw [if_neg (by omega)])
  rw [show ((0 : Nat) : Int) = 0 from rfl] at h1
  rw [h1]
  congr 1
  unfold qlT
  clear h1 hl hs
  induction l with
  | nil => rfl
  | cons y l ih =>
    rw [List.findSome?_cons, List.findSome?_cons]
    by_cases h : q9v y = 0 <;> simp only [h, ne_eq, not_true_eq_false, not_false_eq_true, if_true, if_false]
    · exact ih
    · rfl
def qfl (n : qb) : Int :=
  if 24 < (ndN n).length then 2 else if 5 < dpN 1 n 0 then 2 else if inF ((ndN n).filter JP).length 1 8 = false then 2 else (qlT (ndN n)).getD 0
theorem qhK (n : qb) (hh : hgN n ≤ 100) (hn : (ndN n).length ≤ 9999) (hs : ∀ y ∈ ndN n, y.Set.length ≤ 1000000) : QH n = some (qfl n) := by
  unfold QH qfl
  rw [qfg n hh hn, Option.bind_some, qfO n hh hn hs]
  simp only [Option.bind_some]
  rw [qd4 (ndN n) (by omega) hs, q1x, if_neg (by simp)]
  by_cases h1 : 24 < (ndN n).length
  · rw [if_pos (by omega), if_pos h1]
  · rw [if_neg (by omega), if_neg h1]
    by_cases h2 : 5 < dpN 1 n 0
    · rw [if_pos h2, if_pos h2]
    · rw [if_neg h2, if_neg h2]
      cases inF ((ndN n).filter JP).length 1 8
      · simp
      · simp only [Bool.not_true, Bool.false_eq_true, if_false, Option.bind_some]
        cases qlT (ndN n) <;> rfl
end Go.Proofs.Ytgejdfnidjnjcaa.Vc
namespace Go.Proofs.Ytgejdfnidjnjcaa.Vc
open Go.RowKit
set_option linter.unusedVariables false
set_option linter.unusedSimpArgs false
section
variable {N : Nat} {best : Nat → Int} {M : Int}
theorem qeg (rF : (qb × List qa × Int × qd) → Option (List Bool × List qa × Int × qd)) (hN : N ≤ 65536) (hM : M ≤ 1000000) (hb : Bnd best N M) (w9 : List Bool) (b0 : List qa) (b3 : Int) (b4 : qd) (b8 : qb) (own : Nat → Bool) (skip : Bool) (t72 : List qb) (t73 t74 : Int) :
    qN (qY rF w9 (Za N best) b0 b3 b4 b8 (Za N own) skip t72 t73 t74 ((N : Nat) : Int)) (List.replicate N 0, 0) = some (Za N (stF skip own best)) := by
  have h1 := q1W (step := qY rF w9 (Za N best) b0 b3 b4 b8 (Za N own) skip t72 t73 t74 ((N : Nat) : Int)) (fun i => (Za N (fun k => if k < i then stF skip own best k else 0), (i : Int))) 0 N (Nat.zero_le _) (e := Za N (stF skip own best)) (fun i _ hi => by
      have hbi := hb i hi
      have hw : w64 ((i : Int) + 1) = ((i + 1 : Nat) : Int) := Q9 hi (by omega)
      have hg : ∀ v : Int, v = (if skip = true then best i else -1) → q8J (q8J (fun k => if k < i then stF skip own best k else 0) i v) i (eaF own best i i i (q8J (fun k => if k < i then stF skip own best k else 0) i v i)) = fun k => if k < i + 1 then stF skip own best k else 0 := fun v hv => by
        funext k
        rw [qaI, q9Z]
        unfold q8J
        by_cases hk : k = i
        · subst hk
          rw [if_pos rfl, if_pos (by omega)]
          unfold stF
          rw [← hv]
        · rw [if_neg hk]
          show (if k < i then stF skip own best k else 0) = _
          by_cases h : k < i
          · rw [if_pos h, if_pos (by omega)]
          · rw [if_neg h, if_neg (by omega)]
      unfold qY
      simp only
      rw [if_pos (by omega), zX, if_pos ⟨by omega, by omega⟩, Int.toNat_natCast, if_pos (by omega)]
      cases hs : skip
      · simp only [Bool.false_eq_true, if_false]
        rw [q06]
        unfold qJ
        rw [qg2 hN hM hb (own := own) hi i i (Nat.le_refl _) (Nat.le_refl _), Option.bind_some, Option.bind_some, hw, ← hs, hg (-1) (by rw [hs]; rfl)]
      · simp only [if_true]
        rw [zX, if_pos ⟨by omega, by omega⟩, J6 best hi, Option.bind_some, if_pos ⟨by omega, by omega⟩, if_pos (by omega), q06, q06, q9Z]
        unfold qJ
        rw [qg2 hN hM hb (own := own) hi i i (Nat.le_refl _) (Nat.le_refl _), Option.bind_some, Option.bind_some, hw, ← hs, hg (best i) (by rw [hs]; rfl)]) (by
      unfold qY
      simp only
      rw [if_neg (by omega)]
      congr 2
      exact q0I fun k hk => if_pos hk)
  rw [q7B]
  have e : (fun k : Nat => if k < 0 then stF skip own best k else 0) = fun _ => 0 := by funext k; rw [if_neg (by omega)]
  rw [e] at h1
  exact h1
theorem qk2 (rF : (qb × List qa × Int × qd) → Option (List Bool × List qa × Int × qd)) (hN : N ≤ 65536) (hN1 : 1 ≤ N) (w9 : List Bool) (b0 : List qa) (b3 : Int) (b4 : qd) (b8 : qb) :
    qN (qT rF w9 b0 b3 b4 b8) (List.replicate N 0, 1) = some (Za N b0F) := by
  have h1 := q1W (step := qT rF w9 b0 b3 b4 b8) (fun i => (Za N (fun k => if 1 ≤ k ∧ k < i then -1 else 0), (i : Int))) 1 N hN1 (e := Za N b0F) (fun i h1 hi => by
      have hw : w64 ((i : Int) + 1) = ((i + 1 : Nat) : Int) := Q9 hi (by omega)
      unfold qT
      simp only
      rw [zX, if_pos (by omega), if_pos ⟨by omega, by omega⟩, Int.toNat_natCast, if_pos (by omega), hw, q06]
      rw [qlx (fun _ => (-1 : Int)) 0 h1]) (by
      unfold qT
      simp only
      rw [zX, if_neg (by omega)]
      congr 2
      refine q0I fun k hk => ?_
      unfold b0F
      by_cases h : k = 0
      · rw [if_pos h, if_neg (by omega)]
      · rw [if_neg h, if_pos (by omega)])
  rw [q7B]
  have e : (fun k : Nat => if 1 ≤ k ∧ k < 1 then (-1 : Int) else 0) = fun _ => 0 := by funext k; rw [if_neg (by omega)]
  rw [e] at h1
  exact h1
theorem qgG (rF : (qb × List qa × Int × qd) → Option (List Bool × List qa × Int × qd)) (hN : N ≤ 65536) (hN1 : 1 ≤ N) (b0 : List qa) (b3 : Int) (b4 : qd) (least : Int) :
    qN (z0 rF (Za N best) b0 b3 b4 least) (List.replicate N false, 1) = some (Za N (fun k => decide (k ≠ 0) && decide (least ≤ best k))) := by
  have h1 := q1W (step := z0 rF (Za N best) b0 b3 b4 least) (fun i => (Za N (fun k => if 1 ≤ k ∧ k < i then decide (least ≤ best k) else false), (i : Int))) 1 N hN1 (e := Za N (fun k => decide (k ≠ 0) && decide (least ≤ best k))) (fun i h1 hi => by
      have hw : w64 ((i : Int) + 1) = ((i + 1 : Nat) : Int) := Q9 hi (by omega)
      unfold z0
      simp only
      rw [zX, zX, if_pos (by omega), if_pos ⟨by omega, by omega⟩, Int.toNat_natCast, J6 best hi, Option.bind_some, if_pos ⟨by omega, by omega⟩, if_pos (by omega), hw, q06]
      rw [qlx (fun k => decide (least ≤ best k)) false h1]) (by
      unfold z0
      simp only
      rw [zX, if_neg (by omega)]
      congr 2
      refine q0I fun k hk => ?_
      by_cases h : k = 0
      · subst h; simp
      · rw [if_pos ⟨by omega, hk⟩]; simp [h])
  rw [q7B]
  have e : (fun k : Nat => if 1 ≤ k ∧ k < 1 then decide (least ≤ best k) else false) = fun _ => false := by funext k; rw [if_neg (by omega)]
  rw [e] at h1
  exact h1
theorem qcv (rF : (qb × List qa × Int × qd) → Option (List Bool × List qa × Int × qd)) (d : List Int) (hd : d = []) (s : qd) (l : List qa) (hl : l.length ≤ 16) (n : qb) (hn : n.Set.length ≤ 1000000) (nx : Nat) (hnx : nx ≤ 1000000) (step : List Bool × Int → Option ((List Bool × Int) ⊕ List Bool))
    (hst : step = (if n.Kind = 1 then zt rF l (nx : Int) s n else zr rF l (nx : Int) s n)) (hN : N ≤ 65536) (hN1 : 1 ≤ N) :
    qN step (List.replicate N false, 1) = some (Za N (q1w d s l n nx)) := by
  have h1 := q1W (step := step) (fun i => (Za N (fun k => if 1 ≤ k ∧ k < i then q1w d s l n nx k else false), (i : Int))) 1 N hN1 (e := Za N (q1w d s l n nx)) (fun i h1 hi => by
      have hw : w64 ((i : Int) + 1) = ((i + 1 : Nat) : Int) := Q9 hi (by omega)
      have hc : Za N (q8J (fun k => if 1 ≤ k ∧ k < i then q1w d s l n nx k else false) i (q1w d s l n nx i)) = Za N (fun k => if 1 ≤ k ∧ k < i + 1 then q1w d s l n nx k else false) := by
        rw [qlx (q1w d s l n nx) false h1]
      have hz : decide (i ≠ 0) = true := decide_eq_true (by omega)
      have hwg := qhI n (by omega) s l (by omega) i (by omega)
      have hal : alF d nx i = true := by rw [hd]; rfl
      have hv : q1w d s l n nx i = (alF d nx i && qkq n (wgF n s i l 0 ld0)) := by unfold q1w; rw [hz]; simp
      have m1 : n.Kind = 1 → qG (wgF n s i l 0 ld0) n = qkq n (wgF n s i l 0 ld0) := fun hk => by
        unfold qG qkq
        rw [if_pos hk]
        cases (wgF n s i l 0 ld0).fine <;> simp
      have m2 : n.Kind ≠ 1 → qW (wgF n s i l 0 ld0) n = qkq n (wgF n s i l 0 ld0) := fun hk => by
        unfold qW qkq
        rw [if_neg hk]
        cases (wgF n s i l 0 ld0).fine
        · simp
        · by_cases h : 0 < (wgF n s i l 0 ld0).many <;> simp [h]
      rw [hst]
      by_cases hk : n.Kind = 1
      · rw [if_pos hk]
        unfold zt
        simp only
        rw [zX, if_pos (by omega), hwg, Option.bind_some]
        rw [if_pos ⟨by omega, by omega⟩, Int.toNat_natCast, if_pos (by omega), hw, m1 hk, q06, ← hc, hv, hal, Bool.true_and]
      · rw [if_neg hk]
        unfold zr
        simp only
        rw [zX, if_pos (by omega), hwg, Option.bind_some]
        rw [if_pos ⟨by omega, by omega⟩, Int.toNat_natCast, if_pos (by omega), hw, m2 hk, q06, ← hc, hv, hal, Bool.true_and]) (by
      have hend : some (Sum.inr (α := List Bool × Int) (Za N (fun k => if 1 ≤ k ∧ k < N then q1w d s l n nx k else false))) = some (Sum.inr (Za N (q1w d s l n nx))) := by
        congr 2
        refine q0I fun k hk => ?_
        by_cases h : k = 0
        · subst h; simp [q1w]
        · rw [if_pos ⟨by omega, hk⟩]
      rw [hst]
      by_cases hk : n.Kind = 1
      · rw [if_pos hk]
        unfold zt
        simp only
        rw [zX, if_neg (by omega)]
        exact hend
      · rw [if_neg hk]
        unfold zr
        simp only
        rw [zX, if_neg (by omega)]
        exact hend)
  rw [q7B]
  have e : (fun k : Nat => if 1 ≤ k ∧ k < 1 then q1w d s l n nx k else false) = fun _ => false := by funext k; rw [if_neg (by omega)]
  rw [e] at h1
  exact h1
end
end Go.Proofs.Ytgejdfnidjnjcaa.Vc
namespace Go.Proofs.Ytgejdfnidjnjcaa.Vc
open Go.RowKit
set_option linter.unusedVariables false
set_option linter.unusedSimpArgs false
section
variable {N : Nat} {best : Nat → Int} {M : Int}
end
end Go.Proofs.Ytgejdfnidjnjcaa.Vc
namespace Go.Proofs.Ytgejdfnidjnjcaa.Vc
open Go.RowKit
set_option linter.unusedVariables false
set_option linter.unusedSimpArgs false
theorem qdA (N : Nat) (d : List Int) (s : qd) (l : List qa) (n : qb) (nx : Nat) : Za N (zW d s l n nx) = if n.Kind = 1 ∨ n.Kind = 2 then Za N (q1w d s l n nx) else Za N (fun k => decide (k ≠ 0) && decide ((if n.Kind = 3 then (n.L.length : Int) else n.N) ≤ q7r d s l (n.Kind == 4) n.L nx b0F k)) := by
  have : zW d s l n nx = fun k => zW d s l n nx k := rfl
  by_cases h : n.Kind = 1 ∨ n.Kind = 2
  · rw [if_pos h]; refine q0I fun k _ => ?_; rw [q82, if_pos h]
  · rw [if_neg h]; refine q0I fun k _ => ?_; rw [q82, if_neg h]
theorem qfH (d : List Int) (hd : d = []) (s : qd) (l : List qa) (hl : l.length ≤ 16) (n : qb) (hLn : n.L.length ≤ 1000000)
    (hP : ∀ y ∈ n.L, ∀ nx : Nat, nx + (ndN y).length ≤ 100000 → qI (y, l, (nx : Int), s) = some (Za (2 ^ l.length) (zW d s l y nx), l, ((nx + lvN y : Nat) : Int), s)) (w9 : List Bool) :
    ∀ (r : List qb) (i nx : Nat) (best : Nat → Int) (M : Int), r.length + i = n.L.length → (∀ j, r[j]? = n.L[i + j]?) → nx + (ndL r).length ≤ 100000 → Bnd best (2 ^ l.length) M → 0 ≤ M → M + r.length ≤ 100000 →
    qN (qX qI w9 n n.L (n.L.length : Int)) (Za (2 ^ l.length) best, l, (nx : Int), s, (i : Int)) = some ((Za (2 ^ l.length) (q7r d s l (n.Kind == 4) r nx best), l, ((nx + lvL r : Nat) : Int), s)) := by
  intro r
  induction r with
  | nil =>
    intro i nx best M hi _ _ _ _ _
    have hi : i = n.L.length := by simpa using hi
    subst hi
    refine zB ?_
    unfold qX
    simp only
    rw [if_neg (by omega), lvL, Nat.add_zero]
    rfl
  | cons y r ih =>
    intro i nx best M hi hr hnx hb hM0 hM
    rw [ndL, List.length_append] at hnx
    have hlv := qoW y
    simp only [List.length_cons, Int.natCast_add, Int.natCast_one] at hM hi
    have hget : n.L[i]? = some y := by have := hr 0; simpa using this.symm
    have hlt : i < n.L.length := q12 hget
    have hN : 2 ^ l.length ≤ 65536 := Nat.le_trans (Nat.pow_le_pow_right (by decide) hl) (by decide)
    have hN1 : 1 ≤ 2 ^ l.length := Nat.one_le_two_pow
    have hcall := hP y (List.mem_of_getElem? hget) nx (by omega)
    have hw : w64 ((i : Int) + 1) = ((i + 1 : Nat) : Int) := Q9 hlt (by omega)
    have hstep : qX qI w9 n n.L (n.L.length : Int) (Za (2 ^ l.length) best, l, (nx : Int), s, (i : Int)) = some (.inl (Za (2 ^ l.length) (stF (n.Kind == 4 && !foF d nx (nx + lvN y)) (zW d s l y nx) best), l, ((nx + lvN y : Nat) : Int), s, ((i + 1 : Nat) : Int))) := by
      unfold qX
      simp only
      rw [if_pos (by omega), if_pos ⟨by omega, by omega⟩, Int.toNat_natCast, hget, Option.bind_some, hcall, Option.bind_some]
      simp only [zX]
      have hfo : foF d nx (nx + lvN y) = false := by rw [hd]; rfl
      cases hk4 : (n.Kind == 4)
      · rw [if_neg (by simp), if_pos ⟨by omega, by omega, by omega⟩, qeg (M := M) qI hN (by omega) hb, Option.bind_some, hw, Bool.false_and]
      · rw [if_pos rfl, if_pos ⟨by omega, by omega, by omega⟩, qeg (M := M) qI hN (by omega) hb, Option.bind_some, hw, hfo]
        rfl
    rw [Qk hstep, ih (i + 1) _ _ (M + 1) (by omega) (fun j => by rw [show i + 1 + j = i + (j + 1) by omega, ← hr (j + 1)]; rfl) (by omega) (qlz hb (by omega)) (by omega) (by omega)]
    rw [lvL, ← Nat.add_assoc]
    rfl
theorem qeA (d : List Int) (hd : d = []) (s : qd) (l : List qa) (hl : l.length ≤ 16) : ∀ (m : Nat) (n : qb), (ndN n).length ≤ m → (ndN n).length ≤ 10000 → (∀ y ∈ ndN n, y.Set.length ≤ 1000000) → ∀ nx : Nat, nx + (ndN n).length ≤ 100000 → qI (n, l, (nx : Int), s) = some (Za (2 ^ l.length) (zW d s l n nx), l, ((nx + lvN n : Nat) : Int), s) := by
  intro m
  induction m with
  | zero => intro n h; rw [Zh] at h; simp at h
  | succ m ih =>
    intro n h1 h2 h3 nx hnx
    have hN : 2 ^ l.length ≤ 65536 := Nat.le_trans (Nat.pow_le_pow_right (by decide) hl) (by decide)
    have hN1 : 1 ≤ 2 ^ l.length := Nat.one_le_two_pow
    have hlv := qoW n
    have hset := h3 n (by rw [Zh]; exact List.mem_cons_self)
    have hsub : ∀ (L : List qb), (ndL L).length ≤ m → (ndL L).length ≤ 10000 → (∀ y ∈ ndL L, y.Set.length ≤ 1000000) → ∀ y ∈ L, ∀ nx : Nat, nx + (ndN y).length ≤ 100000 → qI (y, l, (nx : Int), s) = some (Za (2 ^ l.length) (zW d s l y nx), l, ((nx + lvN y : Nat) : Int), s) := by
      intro L
      induction L with
      | nil => intro _ _ _ y hy; simp at hy
      | cons x L ihl =>
        intro g1 g2 g3 y hy
        rw [ndL, List.length_append] at g1 g2
        rw [ndL] at g3
        rcases List.mem_cons.1 hy with rfl | hy
        · exact ih _ (by omega) (by omega) fun z hz => g3 z (List.mem_append_left _ hz)
        · exact ihl (by omega) (by omega) (fun z hz => g3 z (List.mem_append_right _ hz)) y hy
    have e0 : ndN n = n :: ndL n.L := Zh n
    have hlen : (ndN n).length = (ndL n.L).length + 1 := by rw [e0]; rfl
    have hP := hsub n.L (by omega) (by omega) fun y hy => h3 y (by rw [e0]; exact List.mem_cons_of_mem _ hy)
    have hLlen : ∀ L : List qb, L.length ≤ (ndL L).length := fun L => by
      induction L with
      | nil => simp
      | cons x L ihL => rw [ndL, List.length_append, List.length_cons, Zh, List.length_cons]; omega
    have hLl := hLlen n.L
    have hpow : w64 ((1 : Int) * (2 : Int) ^ min l.length (IntKind.bits IntKind.i64)) = ((2 ^ l.length : Nat) : Int) := by
      rw [show min l.length (IntKind.bits IntKind.i64) = l.length from Nat.min_eq_left (by show l.length ≤ 64; omega), Int.one_mul, show ((2 : Int) ^ l.length) = ((2 ^ l.length : Nat) : Int) by simp]
      exact Qs (by omega) (by omega)
    rw [q2l, Qi]
    rw [hpow, if_pos (by omega), if_pos ⟨by omega, by omega, by omega⟩, Int.toNat_natCast, qcs, qdA]
    by_cases hlf : n.Kind = 1 ∨ n.Kind = 2
    · have e1 : qaN n = true := by unfold qaN; rcases hlf with h | h <;> simp [h]
      have e2 : lvN n = 1 := by rw [q98, if_pos hlf]
      have hw2 : w64 ((nx : Int) + 1) = ((nx + 1 : Nat) : Int) := by rw [Qs (by omega) (by omega)]; omega
      rw [if_pos e1, if_pos hlf, e2]
      unfold Ze
      by_cases hk : n.Kind = 1
      · have hlt := qcv qI d hd s l hl n hset nx (by omega) _ (if_pos hk).symm hN hN1
        rw [if_pos (by simpa using hk), Option.bind_some, Sum.elim_inl, hlt, Option.bind_some, hw2]
      · have hlt := qcv qI d hd s l hl n hset nx (by omega) _ (if_neg hk).symm hN hN1
        rw [if_neg (by simpa using hk), Option.bind_some, Sum.elim_inr, hlt, Option.bind_some, hw2]
    · have e1 : qaN n = false := by unfold qaN; have h1 : n.Kind ≠ 1 := fun h => hlf (.inl h); have h2 : n.Kind ≠ 2 := fun h => hlf (.inr h); simp [h1, h2]
      have e2 : lvN n = lvL n.L := by rw [q98, if_neg hlf]
      have hb0 : Bnd b0F (2 ^ l.length) 0 := fun k _ => by unfold b0F; split <;> omega
      have hch := qfH d hd s l hl n (by omega) hP (List.replicate (2 ^ l.length) false) n.L 0 nx b0F 0 (by simp) (by simp) (by omega) hb0 (by omega) (by omega)
      rw [e1, if_neg (by simp), if_neg hlf, e2, if_pos ⟨by omega, by omega, by omega⟩]
      rw [qk2 qI hN hN1, Option.bind_some]
      change Option.bind (qN _ (Za (2 ^ l.length) b0F, l, (nx : Int), s, ((0 : Nat) : Int))) _ = _
      rw [hch, Option.bind_some]
      simp only
      by_cases hk : n.Kind = 3
      · rw [if_pos (by simpa using hk), qgG qI hN hN1, Option.bind_some]
        simp only [if_pos hk]
      · rw [if_neg (by simpa using hk), qgG qI hN hN1, Option.bind_some]
        simp only [if_neg hk]
end Go.Proofs.Ytgejdfnidjnjcaa.Vc
namespace Go.Proofs.Ytgejdfnidjnjcaa.Vc
open Go.RowKit
set_option linter.unusedVariables false
set_option linter.unusedSimpArgs false
structure ZX (d : qh) : Prop where
  lo : 0 ≤ d.At
  hi : d.At ≤ d.L.length
  len : d.L.length ≤ 9223372036854775807
theorem q7M {d : qh} (h : ZX d) {most : Int} (h0 : 0 < most) (h1 : most ≤ 1000000) : ∃ v d', qm most d = some (v, d') ∧ 0 ≤ v ∧ v < most ∧ ZX d' := by
  obtain ⟨a, b, c⟩ := h
  unfold qm
  by_cases he : (d.L.length : Int) ≤ d.At
  · exact ⟨0, d, if_pos he, Int.le_refl _, h0, ⟨a, b, c⟩⟩
  · obtain ⟨x, hx⟩ : ∃ x, d.L[Int.toNat d.At]? = some x := ⟨_, List.getElem?_eq_getElem (by omega)⟩
    have e1 := Int.tmod_lt_of_pos x h0
    have e2 : -most < Int.tmod x most := by
      have := Int.tmod_lt_of_pos (-x) h0
      rw [Int.neg_tmod] at this; omega
    have e3 : w64 (Int.tmod x most + most) = Int.tmod x most + most := Qs (by omega) (by omega)
    have e4 := Int.tmod_lt_of_pos (Int.tmod x most + most) h0
    have e5 : 0 ≤ Int.tmod (Int.tmod x most + most) most := Int.tmod_nonneg _ (by omega)
    have e6 : w64 (d.At + 1) = d.At + 1 := Qs (by omega) (by omega)
    refine ⟨Int.tmod (Int.tmod x most + most) most, ⟨d.L, d.At + 1⟩, ?_, e5, e4, ⟨by show 0 ≤ d.At + 1; omega, by show d.At + 1 ≤ d.L.length; omega, c⟩⟩
    rw [if_neg he, if_pos ⟨a, by omega⟩, hx, Option.bind_some, if_neg (by omega), if_neg (by omega), e3, e6]
def q59 : List Int := [1, 1, 1, 2, 2, 3]
def q85 (c : qc) : Prop := c.School ∈ q59 ∧ c.Code ∈ qM
theorem qlr {α : Type} (l : List α) (i : Int) (h0 : 0 ≤ i) (h1 : i < l.length) : ∃ x, l[Int.toNat i]? = some x ∧ x ∈ l := ⟨l[Int.toNat i], List.getElem?_eq_getElem (by omega), List.getElem_mem _⟩
theorem ql9 {d : qh} (h : ZX d) : ∃ c d', ZZ d = some (c, d') ∧ q85 c ∧ ZX d' := by
  obtain ⟨v, d1, e1, a1, b1, h1⟩ := q7M h (most := 6) (by omega) (by omega)
  obtain ⟨w, d2, e2, a2, b2, h2⟩ := q7M h1 (most := ((qM.length : Nat) : Int)) (by unfold qM; simp) (by unfold qM; simp)
  obtain ⟨x, hx, mx⟩ := qlr q59 v a1 (by simpa [q59] using b1)
  obtain ⟨y, hy, my⟩ := qlr qM w a2 b2
  refine ⟨⟨x, y⟩, d2, ?_, ⟨mx, my⟩, h2⟩
  unfold ZZ
  rw [e1, Option.bind_some, if_pos ⟨a1, b1⟩]
  unfold q59 at hx
  rw [hx, Option.bind_some, e2, Option.bind_some, if_pos ⟨a2, b2⟩, hy, Option.bind_some]
theorem qdp {c : qc} (h : q85 c) : J8 c = true := by
  obtain ⟨s, k⟩ := c
  obtain ⟨h1, h2⟩ := h
  have e1 : ∀ s ∈ q59, inF s 1 8 = true := by decide
  have e2 : ∀ k ∈ qM, qhC k = true := by unfold qM; decide
  unfold J8
  rw [e1 s h1, e2 k h2]; rfl
theorem qjq : ∀ (x y : List UInt8), Op.bytesLess x y = true ∨ x = y ∨ Op.bytesLess y x = true
  | [], [] => .inr (.inl rfl)
  | [], _ :: _ => .inl rfl
  | _ :: _, [] => .inr (.inr rfl)
  | a :: x, b :: y => by
    simp only [Op.bytesLess]
    by_cases h1 : a < b
    · simp [h1]
    · by_cases h2 : b < a
      · simp [h1, h2]
      · have : a = b := by
          apply UInt8.toNat_inj.1
          have h1' : ¬ a.toNat < b.toNat := h1
          have h2' : ¬ b.toNat < a.toNat := h2
          omega
        subst this
        rcases qjq x y with h | h | h <;> simp [h]
noncomputable def q1q (a b : qc) : Bool := za a b
theorem qid (a b : qc) : q1q a b = decide (qlU a b < 0) := by
  unfold q1q za qlU qiL qpQ
  by_cases h1 : a.School < b.School
  · rw [if_pos h1, if_pos (by omega), if_pos h1]; rfl
  · rw [if_neg h1]
    by_cases h2 : a.School = b.School
    · rw [if_pos (by simpa using h2), if_neg (fun h => h h2)]
      cases h3 : Op.bytesLess a.Code.toList b.Code.toList
      · cases h4 : (a.Code.toList == b.Code.toList) <;> simp
      · simp
    · rw [if_neg (by simpa using h2), if_pos h2, if_neg h1, if_pos (by omega)]; rfl
theorem qit (a b : qc) : q1q a b = true ∨ ceq a b = true ∨ q1q b a = true := by
  unfold q1q za ceq
  by_cases h1 : a.School < b.School
  · simp [h1]
  · by_cases h2 : b.School < a.School
    · simp [h2]
    · have h3 : a.School = b.School := by omega
      rcases qjq a.Code.toList b.Code.toList with h | h | h
      · left; simp [h3, h]
      · right; left; simp [h3, h]
      · right; right; simp [h3, h]
def qbI {α : Type} (l : List α) (k : Nat) (c : α) : List α := l.take k ++ c :: l.drop k
theorem qje {α : Type} : ∀ (ys l : List α) (k : Nat), k + ys.length ≤ l.length → spl l k ys = l.take k ++ (ys ++ l.drop (k + ys.length))
  | [], l, k, _ => by rw [spl, List.length_nil, Nat.add_zero, List.nil_append, List.take_append_drop]
  | x :: ys, l, k, h => by
    simp only [List.length_cons] at h ⊢
    rw [spl, qje ys (l.set k x) (k + 1) (by rw [List.length_set]; omega)]
    have e : l.set k x = l.take k ++ x :: l.drop (k + 1) := by rw [List.set_eq_take_append_cons_drop, if_pos (by omega)]
    have hl : (l.take k).length = k := by rw [List.length_take]; omega
    have e1 : (l.set k x).take (k + 1) = l.take k ++ [x] := by
      rw [e, List.take_append, hl, List.take_of_length_le (by omega), show k + 1 - k = 1 by omega]; rfl
    have e2 : (l.set k x).drop (k + 1 + ys.length) = l.drop (k + (ys.length + 1)) := by
      rw [e, List.drop_append, hl, List.drop_eq_nil_of_le (by omega), List.nil_append, show k + 1 + ys.length - k = ys.length + 1 by omega, List.drop_succ_cons, List.drop_drop]
      congr 1; omega
    rw [e1, e2, List.append_assoc]
    rfl
theorem qeC {α : Type} (l : List α) (z c : α) (k : Nat) (h : k < l.length) : List.set (spl (l ++ [z]) (k + 1) (List.take (min (l.length + 1 - k) (l.length + 1 - (k + 1))) (List.take (l.length + 1 - k) (List.drop k (l ++ [z]))))) k c = qbI l k c := by
  have e1 : List.take (min (l.length + 1 - k) (l.length + 1 - (k + 1))) (List.take (l.length + 1 - k) (List.drop k (l ++ [z]))) = l.drop k := by
    rw [List.take_take, List.drop_append_of_le_length (by omega), show min (min (l.length + 1 - k) (l.length + 1 - (k + 1))) (l.length + 1 - k) = l.length - k by omega, List.take_append_of_le_length (by rw [List.length_drop]; omega), List.take_of_length_le (by rw [List.length_drop]; omega)]
  rw [e1, qje _ _ _ (by rw [List.length_drop, List.length_append, List.length_singleton]; omega)]
  unfold qbI
  have e2 : List.drop (k + 1 + (l.length - k)) (l ++ [z]) = [] := List.drop_eq_nil_of_le (by rw [List.length_append, List.length_singleton]; omega)
  rw [List.length_drop, e2, List.append_nil, List.take_append_of_le_length (by omega)]
  rw [List.take_add_one, List.getElem?_eq_getElem h, Option.toList_some, List.append_assoc, List.set_append_right _ _ (by rw [List.length_take]; omega), List.length_take, Nat.min_eq_left (by omega), Nat.sub_self]
  rfl
theorem qbZ {α : Type} (l : List α) (z c : α) : List.set (l ++ [z]) l.length c = qbI l l.length c := by
  unfold qbI
  rw [List.set_append_right _ _ (Nat.le_refl _), Nat.sub_self, List.take_length, List.drop_length]
  rfl
end Go.Proofs.Ytgejdfnidjnjcaa.Vc
namespace Go.Proofs.Ytgejdfnidjnjcaa.Vc
open Go.RowKit
set_option linter.unusedVariables false
set_option linter.unusedSimpArgs false
structure q60 (l : List qc) : Prop where
  ok : ∀ c ∈ l, q85 c
  ord : qaQ l = true
theorem q1u {x y : qc} {l : List qc} : qaQ (x :: y :: l) = (q1q x y && qaQ (y :: l)) := by rw [qaQ, qid]
theorem qex {x : qc} {l : List qc} (h : qaQ (x :: l) = true) : qaQ l = true := by
  cases l with
  | nil => rfl
  | cons y l => rw [q1u, Bool.and_eq_true] at h; exact h.2
noncomputable def atF (l : List qc) (c : qc) : Nat := (l.takeWhile fun x => q1q x c).length
theorem qgQ (l : List qc) (c : qc) : atF l c ≤ l.length := by
  unfold atF
  induction l with
  | nil => simp
  | cons x l ih => rw [List.takeWhile_cons]; split <;> simp <;> omega
theorem qez {c : qc} : ∀ {l : List qc}, qaQ l = true → (∀ x, l[atF l c]? = some x → ceq x c = false) → qaQ (qbI l (atF l c) c) = true
  | [], _, _ => rfl
  | x :: l, h, hc => by
    by_cases hx : q1q x c = true
    · have e : atF (x :: l) c = atF l c + 1 := by unfold atF; rw [List.takeWhile_cons, if_pos hx]; rfl
      rw [e] at hc ⊢
      have ih := qez (qex h) (fun y hy => hc y (by simpa using hy))
      have e2 : qbI (x :: l) (atF l c + 1) c = x :: qbI l (atF l c) c := rfl
      rw [e2]
      cases l with
      | nil => rw [show qbI ([] : List qc) (atF [] c) c = [c] from rfl, q1u, hx]; rfl
      | cons y l =>
        rw [q1u, Bool.and_eq_true] at h
        by_cases hy : q1q y c = true
        · have e3 : atF (y :: l) c = atF l c + 1 := by unfold atF; rw [List.takeWhile_cons, if_pos hy]; rfl
          rw [e3] at ih ⊢
          have e4 : qbI (y :: l) (atF l c + 1) c = y :: qbI l (atF l c) c := rfl
          rw [e4] at ih ⊢
          rw [q1u, h.1, ih]; rfl
        · have e3 : atF (y :: l) c = 0 := by unfold atF; rw [List.takeWhile_cons, if_neg hy]; rfl
          rw [e3] at ih ⊢
          have e4 : qbI (y :: l) 0 c = c :: y :: l := rfl
          rw [e4] at ih ⊢
          rw [q1u, hx, ih]; rfl
    · have e : atF (x :: l) c = 0 := by unfold atF; rw [List.takeWhile_cons, if_neg hx]; rfl
      rw [e] at hc ⊢
      have e2 : qbI (x :: l) 0 c = c :: x :: l := rfl
      rw [e2, q1u]
      have h1 := hc x (by simp)
      rcases qit x c with h2 | h2 | h2
      · exact absurd h2 hx
      · rw [h2] at h1; cases h1
      · rw [h2, h]; rfl
theorem qk4 (out : List qc) (hl : out.length ≤ 1000000) (d : qh) (c : qc) (many k : Int) : qN (QM out d c many k) 0 = some ((atF out c : Nat) : Int) := by
  have h1 := q1I (ε := Int) (step := QM out d c many k) out (fun (_ : Unit) i => (i : Int)) (fun i _ x => if q1q x c = true then .inl () else .inr (i : Int)) (fun _ => (out.length : Int)) (fun _ i x hx => by
      have hi := q12 hx
      unfold QM
      rw [if_pos (by omega), if_pos ⟨by omega, by omega⟩, Int.toNat_natCast, hx, Option.bind_some, Q9 hi (by omega)]
      show (if q1q x c = true then _ else _) = _
      cases q1q x c <;> simp) (fun _ => by
      unfold QM
      rw [if_neg (by omega)]) ()
  rw [show ((0 : Nat) : Int) = 0 from rfl] at h1
  rw [h1]
  congr 1
  have : ∀ (l : List qc) (i : Nat) (n : Nat), i + l.length = n → q46 (ε := Int) (fun i (_ : Unit) (x : qc) => if q1q x c = true then .inl () else .inr (i : Int)) (fun _ => (n : Int)) l i () = ((i + atF l c : Nat) : Int) := by
    intro l
    induction l with
    | nil => intro i n h; simp at h; unfold q46 atF; simp [h]
    | cons x l ih =>
      intro i n h
      simp only [List.length_cons] at h
      unfold q46
      by_cases hx : q1q x c = true
      · have e : atF (x :: l) c = atF l c + 1 := by unfold atF; rw [List.takeWhile_cons, if_pos hx]; rfl
        simp only [hx, if_true]
        rw [ih (i + 1) n (by omega), e]
        omega
      · have e : atF (x :: l) c = 0 := by unfold atF; rw [List.takeWhile_cons, if_neg hx]; rfl
        have hx' : q1q x c = false := by simpa using hx
        simp only [hx', Bool.false_eq_true, if_false]
        rw [e]; rfl
  have := this out 0 out.length (by simp)
  simpa using this
noncomputable def qaZ (l : List qc) (c : qc) : List qc := if (l[atF l c]?).any (fun x => ceq x c) = true then l else qbI l (atF l c) c
theorem qbs (l : List qc) (c : qc) : l.length ≤ (qaZ l c).length ∧ (qaZ l c).length ≤ l.length + 1 ∧ 1 ≤ (qaZ l c).length := by
  have h := qgQ l c
  unfold qaZ
  split
  · rename_i h2
    refine ⟨Nat.le_refl _, by omega, ?_⟩
    cases l with
    | nil => simp at h2
    | cons x l => simp
  · unfold qbI
    simp only [List.length_append, List.length_cons, List.length_take, List.length_drop]
    omega
theorem qhQ {l : List qc} {c : qc} (h : q60 l) (hc : q85 c) : q60 (qaZ l c) := by
  unfold qaZ
  split
  · exact h
  · rename_i h2
    refine ⟨fun x hx => ?_, qez h.ord fun x hx => ?_⟩
    · unfold qbI at hx
      rcases List.mem_append.1 hx with hx | hx
      · exact h.ok x (List.mem_of_mem_take hx)
      · rcases List.mem_cons.1 hx with rfl | hx
        · exact hc
        · exact h.ok x (List.mem_of_mem_drop hx)
    · rw [hx] at h2
      simpa using h2
theorem qdR (out : List qc) (hl : out.length ≤ 1000) {d : qh} (hd : ZX d) (many : Int) (k : Nat) (hk : (k : Int) < many) (hk2 : k ≤ 1000) : ∃ c d', q85 c ∧ ZX d' ∧ Qa many (out, d, (k : Int)) = some (.inl (qaZ out c, d', ((k + 1 : Nat) : Int))) := by
  obtain ⟨c, d', h1, h2, h3⟩ := ql9 hd
  refine ⟨c, d', h2, h3, ?_⟩
  have hML : 100000 ≤ maxLen := by unfold maxLen; omega
  have hat := qgQ out c
  unfold Qa
  simp only
  rw [if_pos hk, h1, Option.bind_some]
  simp only
  rw [qk4 out (by omega), Option.bind_some]
  have hwk : w64 ((k : Int) + 1) = ((k + 1 : Nat) : Int) := by rw [Qs (by omega) (by omega)]; omega
  have hwa : w64 (((atF out c : Nat) : Int) + 1) = ((atF out c + 1 : Nat) : Int) := by rw [Qs (by omega) (by omega)]; omega
  rw [hwk, hwa]
  simp only [Int.toNat_natCast, List.length_take, List.length_drop, List.length_append, List.length_cons, List.length_nil]
  unfold qaZ
  by_cases hlt : atF out c < out.length
  · obtain ⟨x, hx⟩ : ∃ x, out[atF out c]? = some x := ⟨_, List.getElem?_eq_getElem hlt⟩
    rw [if_pos (by omega), if_pos ⟨by omega, by omega⟩, hx, Option.bind_some]
    simp only [Option.any_some]
    by_cases hc : ceq x c = true
    · have hc2 := hc
      unfold ceq at hc2
      simp only [Bool.and_eq_true] at hc2
      rw [if_pos hc2, if_pos hc]
    · have hc2 : ¬ ((x.School == c.School) = true ∧ (x.Code.toList == c.Code.toList) = true) := fun h => hc (by unfold ceq; rw [h.1, h.2]; rfl)
      rw [if_neg hc2, if_neg hc]
      repeat (first | rw [if_pos (by omega)] | rw [if_neg (by omega)])
      rw [qeC _ _ _ _ hlt]
  · have he : atF out c = out.length := by omega
    have hnone : out[out.length]? = none := List.getElem?_eq_none (Nat.le_refl _)
    rw [he, hnone]
    simp only [Option.any_none, Bool.false_eq_true, if_false]
    repeat (first | rw [if_pos (by omega)] | rw [if_neg (by omega)])
    rw [qbZ]
theorem qsw {d : qh} (hd : ZX d) : ∃ S d', Qp d = some (S, d') ∧ ZX d' ∧ q60 S ∧ 1 ≤ S.length ∧ S.length ≤ 3 := by
  obtain ⟨v, d1, e1, a1, b1, h1⟩ := q7M hd (most := 3) (by omega) (by omega)
  obtain ⟨m, rfl⟩ : ∃ m : Nat, v = (m : Int) := ⟨v.toNat, by omega⟩
  have hw : w64 (1 + (m : Int)) = ((m + 1 : Nat) : Int) := by rw [Qs (by omega) (by omega)]; omega
  have key : ∀ (j k : Nat) (out : List qc) (d : qh), j + k = m + 1 → ZX d → q60 out → out.length ≤ k → (1 ≤ k → 1 ≤ out.length) → ∃ S d', qN (Qa ((m + 1 : Nat) : Int)) (out, d, (k : Int)) = some (S, d') ∧ ZX d' ∧ q60 S ∧ 1 ≤ S.length ∧ S.length ≤ m + 1 := by
    intro j
    induction j with
    | zero =>
      intro k out d hk hd hs hl1 hl2
      refine ⟨out, d, zB ?_, hd, hs, hl2 (by omega), by omega⟩
      unfold Qa
      simp only
      rw [if_neg (by omega)]
    | succ j ih =>
      intro k out d hk hd hs hl1 hl2
      obtain ⟨c, d', g1, g2, g3⟩ := qdR out (by omega) hd ((m + 1 : Nat) : Int) k (by omega) (by omega)
      obtain ⟨p1, p2, p3⟩ := qbs out c
      rw [Qk g3]
      exact ih (k + 1) _ d' (by omega) g2 (qhQ hs g1) (by omega) (fun _ => p3)
  obtain ⟨S, d', g1, g2, g3, g4, g5⟩ := key (m + 1) 0 [] d1 (by omega) h1 ⟨by simp, rfl⟩ (by simp) (by omega)
  refine ⟨S, d', ?_, g2, g3, g4, by omega⟩
  unfold Qp
  rw [e1, Option.bind_some, hw]
  rw [show ((0 : Nat) : Int) = 0 from rfl] at g1
  simp only
  rw [g1, Option.bind_some]
end Go.Proofs.Ytgejdfnidjnjcaa.Vc
namespace Go.Proofs.Ytgejdfnidjnjcaa.Vc
open Go.RowKit
set_option linter.unusedVariables false
set_option linter.unusedSimpArgs false
structure q7y (n : qb) : Prop where
  kd : (n.Kind = 2 ∧ 1 ≤ n.N ∧ n.N ≤ 12) ∨ (n.Kind = 1 ∧ n.N = 0)
  mn : 0 ≤ n.Min ∧ n.Min ≤ 80
  st : q60 n.Set
  s1 : 1 ≤ n.Set.length
  s3 : n.Set.length ≤ 3
  nl : n.L = []
structure qav (n : qb) : Prop where
  kd : (n.Kind = 3 ∧ n.N = 0) ∨ (n.Kind = 4 ∧ 1 ≤ n.N ∧ n.N ≤ n.L.length)
  mn : n.Min = 0
  st : n.Set = []
  ne : n.L ≠ []
def q3N (n : qb) : Prop := q7y n ∨ qav n
structure q0S (deep leaves : Nat) (n : qb) : Prop where
  ok : ∀ y ∈ ndN n, q3N y
  hg : hgN n ≤ deep + 1
  l1 : 1 ≤ lvN n
  l2 : lvN n ≤ max 1 leaves
  nd : (ndN n).length ≤ lvN n * (deep + 1)
theorem q8E {n : qb} (h : q7y n) (deep leaves : Nat) : q0S deep leaves n := by
  have e1 : ndN n = [n] := by rw [Zh, h.nl, ndL]
  have e2 : lvN n = 1 := by rw [q98, if_pos]; rcases h.kd with h | h <;> simp [h.1]
  have e3 : hgN n = 1 := by rw [q6K, h.nl, hgL]
  refine ⟨fun y hy => ?_, by omega, by omega, by omega, ?_⟩
  · rw [e1] at hy
    rw [List.mem_singleton.1 hy]; exact .inl h
  · rw [e1, e2, List.length_singleton]; omega
noncomputable def qgw (d : qh) : Option (qb × qh) :=
  Option.bind (qm (3 : Int) d) fun a3 =>
      if (a3.1 == (0 : Int)) = Bool.true then Option.bind (qm (12 : Int) a3.2) fun a4 =>
        Option.bind (qm (3 : Int) a4.2) fun a5 =>
        if (0 : Int) ≤ a5.1 ∧ a5.1 < (3 : Int) then Option.bind [(0 : Int), (50 : Int), (60 : Int)][Int.toNat a5.1]? fun a6 =>
          Option.bind (Qp a5.2) fun a7 =>
          some (qb.mk (2 : Int) (w64 ((1 : Int) + a4.1)) a6 a7.1 [], a7.2)
        else none
      else Option.bind (qm (4 : Int) a3.2) fun a8 =>
      if (0 : Int) ≤ a8.1 ∧ a8.1 < (4 : Int) then Option.bind [(0 : Int), (50 : Int), (60 : Int), (80 : Int)][Int.toNat a8.1]? fun a9 =>
        Option.bind (Qp a8.2) fun a10 =>
        some (qb.mk (1 : Int) (0 : Int) a9 a10.1 [], a10.2)
      else none
theorem qcg {d : qh} (hd : ZX d) : ∃ n d', qgw d = some (n, d') ∧ q7y n ∧ ZX d' := by
  obtain ⟨v, d1, e1, a1, b1, h1⟩ := q7M hd (most := 3) (by omega) (by omega)
  unfold qgw
  rw [e1, Option.bind_some]
  simp only
  by_cases hv : v = 0
  · obtain ⟨w, d2, e2, a2, b2, h2⟩ := q7M h1 (most := 12) (by omega) (by omega)
    obtain ⟨u, d3, e3, a3, b3, h3⟩ := q7M h2 (most := 3) (by omega) (by omega)
    obtain ⟨x, hx, mx⟩ := qlr [(0 : Int), 50, 60] u a3 (by simpa using b3)
    obtain ⟨S, d4, e4, h4, s1, s2, s3⟩ := qsw h3
    have hw : w64 (1 + w) = 1 + w := Qs (by omega) (by omega)
    have hm : ∀ x ∈ [(0 : Int), 50, 60], 0 ≤ x ∧ x ≤ 80 := by decide
    refine ⟨⟨2, 1 + w, x, S, []⟩, d4, ?_, ⟨.inl ⟨rfl, by show 1 ≤ 1 + w; omega, by show 1 + w ≤ 12; omega⟩, hm x mx, s1, s2, s3, rfl⟩, h4⟩
    rw [if_pos (by simp [hv]), e2, Option.bind_some]
    simp only
    rw [e3, Option.bind_some]
    simp only
    rw [if_pos ⟨a3, b3⟩, hx, Option.bind_some, e4, Option.bind_some, hw]
  · obtain ⟨u, d3, e3, a3, b3, h3⟩ := q7M h1 (most := 4) (by omega) (by omega)
    obtain ⟨x, hx, mx⟩ := qlr [(0 : Int), 50, 60, 80] u a3 (by simpa using b3)
    obtain ⟨S, d4, e4, h4, s1, s2, s3⟩ := qsw h3
    have hm : ∀ x ∈ [(0 : Int), 50, 60, 80], 0 ≤ x ∧ x ≤ 80 := by decide
    refine ⟨⟨1, 0, x, S, []⟩, d4, ?_, ⟨.inr ⟨rfl, rfl⟩, hm x mx, s1, s2, s3, rfl⟩, h4⟩
    rw [if_neg (by simpa using hv), e3, Option.bind_some]
    simp only
    rw [if_pos ⟨a3, b3⟩, hx, Option.bind_some, e4, Option.bind_some]
theorem q6L (rF : (Int × Int × qh) → Option (qb × qh)) (x1 x2 : Int) (v : qh) : ZI rF (x1, x2, v) = (qm 6 v).bind fun a2 =>
    if x1 ≤ 0 then qgw a2.2 else if x2 < 2 then qgw a2.2 else if a2.1 < 2 then qgw a2.2 else
    Option.bind (qm (min (3 : Int) x2) a2.2) fun a27 =>
    Option.bind (qN (zx rF (0 : Int) (0 : Int) (0 : Int) (3 : Int) (0 : Int) (0 : Int) x1 x2 a2.1 (w64 ((1 : Int) + a27.1))) ([], (a27.2, (0 : Int)))) fun a28 =>
    if (3 : Int) < a2.1 then Option.bind (qm (w64 ((1 : Int) + a27.1)) a28.2) fun a29 =>
      some (qb.mk (4 : Int) (w64 ((1 : Int) + a29.1)) (0 : Int) [] a28.1, a29.2)
    else some (qb.mk (3 : Int) (0 : Int) (0 : Int) [] a28.1, a28.2) := rfl
theorem qdW {deep q : Nat} (hq : 1 ≤ q) : ∀ (L : List qb), (∀ y ∈ L, q0S deep q y) → hgL L ≤ deep + 1 ∧ L.length ≤ lvL L ∧ lvL L ≤ L.length * q ∧ (ndL L).length ≤ lvL L * (deep + 1) ∧ ∀ y ∈ ndL L, q3N y
  | [], _ => ⟨by simp [hgL], by simp [lvL], by simp [lvL], by simp [ndL], by simp [ndL]⟩
  | x :: L, h => by
    obtain ⟨a, b, c, d, e⟩ := qdW hq L fun y hy => h y (List.mem_cons_of_mem _ hy)
    obtain ⟨f, g, i, j, k⟩ := h x List.mem_cons_self
    rw [Nat.max_eq_right hq] at j
    refine ⟨?_, ?_, ?_, ?_, ?_⟩
    · rw [hgL]; omega
    · rw [lvL, List.length_cons]; omega
    · rw [lvL, List.length_cons, Nat.add_mul]; omega
    · rw [ndL, lvL, List.length_append, Nat.add_mul]; omega
    · rw [ndL]
      intro y hy
      rcases List.mem_append.1 hy with hy | hy
      · exact f y hy
      · exact e y hy
theorem q9c {n : qb} (h : qav n) {deep leaves q : Nat} (hq : 1 ≤ q) (hk : n.L.length * q ≤ leaves) (hL : ∀ y ∈ n.L, q0S deep q y) : q0S (deep + 1) leaves n := by
  obtain ⟨a, b, c, d, e⟩ := qdW hq n.L hL
  have hlen : 1 ≤ n.L.length := by cases hn : n.L with | nil => exact absurd hn h.ne | cons x l => simp
  have e2 : lvN n = lvL n.L := by rw [q98, if_neg]; rcases h.kd with h | h <;> simp [h.1]
  refine ⟨fun y hy => ?_, ?_, by omega, by omega, ?_⟩
  · rw [Zh] at hy
    rcases List.mem_cons.1 hy with rfl | hy
    · exact .inr h
    · exact e y hy
  · rw [q6K]; omega
  · rw [Zh, List.length_cons, e2, show deep + 1 + 1 = (deep + 1) + 1 from rfl, Nat.mul_add]; omega
theorem qlb : ∀ (deep leaves : Nat) (d : qh), deep ≤ 10 → leaves ≤ 100 → ZX d → ∃ n d', QI ((deep : Int), (leaves : Int), d) = some (n, d') ∧ q0S deep leaves n ∧ ZX d' := by
  intro deep
  induction deep with
  | zero =>
    intro leaves d _ _ hd
    obtain ⟨v, d1, e1, a1, b1, h1⟩ := q7M hd (most := 6) (by omega) (by omega)
    obtain ⟨n, d', g1, g2, g3⟩ := qcg h1
    refine ⟨n, d', ?_, q8E g2 _ _, g3⟩
    rw [q3h, q6L, e1, Option.bind_some, if_pos (by omega)]
    exact g1
  | succ deep ih =>
    intro leaves d hdp hlv hd
    obtain ⟨v, d1, e1, a1, b1, h1⟩ := q7M hd (most := 6) (by omega) (by omega)
    obtain ⟨n0, d0, g1, g2, g3⟩ := qcg h1
    rw [q3h, q6L, e1, Option.bind_some, if_neg (by omega)]
    by_cases hl : leaves < 2
    · exact ⟨n0, d0, by rw [if_pos (by omega)]; exact g1, q8E g2 _ _, g3⟩
    · rw [if_neg (by omega)]
      by_cases hv : v < 2
      · exact ⟨n0, d0, by rw [if_pos hv]; exact g1, q8E g2 _ _, g3⟩
      · rw [if_neg hv]
        clear g1 g2 g3 n0 d0
        obtain ⟨w, d2, e2, a2, b2, h2⟩ := q7M h1 (most := min 3 (leaves : Int)) (by omega) (by omega)
        simp only
        rw [e2, Option.bind_some]
        simp only
        obtain ⟨m, hm⟩ : ∃ m : Nat, (m : Int) = 1 + w := ⟨(1 + w).toNat, by omega⟩
        have hw : w64 (1 + w) = (m : Int) := by rw [Qs (by omega) (by omega)]; omega
        rw [hw]
        have hm1 : 1 ≤ m := by omega
        have hm3 : m ≤ 3 := by omega
        have hml : m ≤ leaves := by omega
        obtain ⟨q, hq⟩ : ∃ q, q = leaves / m := ⟨_, rfl⟩
        have hq1 : 1 ≤ q := by rw [hq]; exact (Nat.le_div_iff_mul_le (by omega)).2 (by omega)
        have hqm : m * q ≤ leaves := by rw [hq]; exact Nat.mul_div_le _ _
        have hq2 : q ≤ leaves := by rw [hq]; exact Nat.div_le_self _ _
        have hML : 100000 ≤ maxLen := by unfold maxLen; omega
        have hdiv : w64 (Int.tdiv (leaves : Int) (m : Int)) = (q : Int) := by
          rw [← Int.ofNat_tdiv, ← hq, Qs (by omega) (by omega)]
        have hdeep : w64 (((deep + 1 : Nat) : Int) - 1) = (deep : Int) := by rw [Qs (by omega) (by omega)]; omega
        have key : ∀ (j i : Nat) (l : List qb) (d : qh), j + i = m → l.length = i → (∀ y ∈ l, q0S deep q y) → ZX d → ∃ l' d', qN (zx QI 0 0 0 3 0 0 ((deep + 1 : Nat) : Int) (leaves : Int) v (m : Int)) (l, d, (i : Int)) = some (l', d') ∧ l'.length = m ∧ (∀ y ∈ l', q0S deep q y) ∧ ZX d' := by
          intro j
          induction j with
          | zero =>
            intro i l d hi hl hy hd
            refine ⟨l, d, zB ?_, by omega, hy, hd⟩
            unfold zx
            simp only
            rw [if_neg (by omega)]
          | succ j ihj =>
            intro i l d hi hl hy hd
            obtain ⟨n, d', q1, q2, q3⟩ := ih q d (by omega) (by omega) hd
            have hs : zx QI 0 0 0 3 0 0 ((deep + 1 : Nat) : Int) (leaves : Int) v (m : Int) (l, d, (i : Int)) = some (.inl (l ++ [n], d', ((i + 1 : Nat) : Int))) := by
              unfold zx
              simp only
              rw [if_pos (by omega), if_neg (by omega), hdiv, hdeep, q1, Option.bind_some]
              simp only
              rw [if_pos ⟨by omega, by omega⟩, Qs (by omega) (by omega)]
              rfl
            rw [Qk hs]
            refine ihj (i + 1) (l ++ [n]) d' (by omega) (by simp [hl]) (fun y hy2 => ?_) q3
            rcases List.mem_append.1 hy2 with h | h
            · exact hy y h
            · rw [List.mem_singleton.1 h]; exact q2
        obtain ⟨l, d3, q1, q2, q3, q4⟩ := key m 0 [] d2 (by omega) rfl (by simp) h2
        rw [show ((0 : Nat) : Int) = 0 from rfl] at q1
        rw [q1, Option.bind_some]
        have hne : l ≠ [] := fun h => by rw [h] at q2; simp at q2; omega
        by_cases hv3 : (3 : Int) < v
        · obtain ⟨u, d4, e4, a4, b4, h4⟩ := q7M q4 (most := (m : Int)) (by omega) (by omega)
          have hwu : w64 (1 + u) = 1 + u := Qs (by omega) (by omega)
          simp only
          rw [if_pos hv3, e4, Option.bind_some, hwu]
          exact ⟨_, d4, rfl, q9c (q := q) ⟨.inr ⟨rfl, by show 1 ≤ 1 + u; omega, by show 1 + u ≤ (l.length : Int); omega⟩, rfl, rfl, hne⟩ hq1 (by show l.length * q ≤ leaves; rw [q2]; exact hqm) q3, h4⟩
        · simp only
          rw [if_neg hv3]
          exact ⟨_, d3, rfl, q9c (q := q) ⟨.inl ⟨rfl, rfl⟩, rfl, rfl, hne⟩ hq1 (by show l.length * q ≤ leaves; rw [q2]; exact hqm) q3, q4⟩
theorem ql6 (l : List Int) (hl : l.length ≤ 9223372036854775807) : ∃ n, q0f l = some n ∧ q0S 3 6 n := by
  obtain ⟨n, d', h1, h2, h3⟩ := qlb 3 6 ⟨l, 0⟩ (by omega) (by omega) ⟨by show (0 : Int) ≤ 0; omega, by show (0 : Int) ≤ (l.length : Int); omega, hl⟩
  refine ⟨n, ?_, h2⟩
  unfold q0f
  change Option.bind (QI (((3 : Nat) : Int), ((6 : Nat) : Int), ⟨l, 0⟩)) _ = _
  rw [h1, Option.bind_some]
theorem qan {n : qb} (h : q7y n) : q05 n = 0 := by
  have h1 := h.s1
  have h3 := h.s3
  have hm := h.mn
  have e1 : inF n.Min (-1000) 1000 = true := by unfold inF; simp; omega
  have e2 : inF n.Set.length 1 12 = true := by unfold inF; simp; omega
  have e3 : n.Set.all J8 = true := List.all_eq_true.2 fun c hc => qdp (h.st.ok c hc)
  unfold q05
  rw [e1, e2, e3, h.st.ord]
  simp
theorem qfo {n : qb} (h : q3N n) : q9v n = 0 := by
  unfold q9v
  rcases h with h | h
  · have hc := qan h
    rcases h.kd with ⟨k, a, b⟩ | ⟨k, a⟩
    · have e : inF n.N 1 600 = true := by unfold inF; simp; omega
      simp [k, h.nl, e, hc]
    · simp [k, h.nl, a, hc]
  · have hb : q7t n = true := by
      unfold q7t
      rw [h.mn, h.st]
      cases hL : n.L with
      | nil => exact absurd hL h.ne
      | cons x l => rfl
    rcases h.kd with ⟨k, a⟩ | ⟨k, a, b⟩
    · simp [k, hb, a]
    · have e : inF n.N 1 n.L.length = true := by unfold inF; simp; omega
      simp [k, hb, e]
theorem qbX : ∀ (l : List qb), (∀ y ∈ l, q9v y = 0) → qlT l = none
  | [], _ => rfl
  | x :: l, h => by
    unfold qlT
    rw [List.findSome?_cons, h x List.mem_cons_self]
    simp only [ne_eq, not_true_eq_false, if_false]
    exact qbX l fun y hy => h y (List.mem_cons_of_mem _ hy)
theorem qqI : ∀ (n : qb) (d m : Int), dpN d n m ≤ max m (d + hgN n - 1) := by
  intro n
  induction n using qb.rec (motive_2 := fun L => ∀ (d m : Int), dpL d L m ≤ max m (d + hgL L - 1)) with
  | mk k n m S L ih =>
    intro d mm
    rw [dpN, hgN]
    have := ih (d + 1) (max mm d)
    omega
  | nil => rename_i d m; rw [dpL]; omega
  | cons x L h1 h2 =>
    rename_i d m
    rw [dpL, hgL]
    have a := h1 d m
    have b := h2 d (dpN d x m)
    omega
theorem qbe : ∀ (n : qb), (∀ y ∈ ndN n, q3N y) → ((ndN n).filter JP).length = lvN n := by
  intro n
  induction n using qb.rec (motive_2 := fun L => (∀ y ∈ ndL L, q3N y) → ((ndL L).filter JP).length = lvL L) with
  | mk k n m S L ih =>
    intro h
    rw [ndN] at h ⊢
    have h0 := h _ List.mem_cons_self
    have hr := ih fun y hy => h y (List.mem_cons_of_mem _ hy)
    rw [List.filter_cons, lvN]
    rcases h0 with h0 | h0
    · have e : L = [] := h0.nl
      subst e
      have e1 : k = 1 ∨ k = 2 := by rcases h0.kd with h | h; exact .inr h.1; exact .inl h.1
      have e2 : JP ⟨k, n, m, S, []⟩ = true := by unfold JP; rcases e1 with rfl | rfl <;> rfl
      rw [if_pos e2, if_pos e1]
      simp [ndL]
    · have e1 : k = 3 ∨ k = 4 := by rcases h0.kd with h | h; exact .inl h.1; exact .inr h.1
      have e2 : JP ⟨k, n, m, S, L⟩ = false := by unfold JP; rcases e1 with rfl | rfl <;> rfl
      rw [e2, if_neg (by simp), if_neg (by omega), hr]
  | nil => simp [ndL, lvL]
  | cons x L h1 h2 =>
    rename_i h
    rw [ndL] at h ⊢
    rw [lvL, List.filter_append, List.length_append, h1 fun y hy => h y (List.mem_append_left _ hy), h2 fun y hy => h y (List.mem_append_right _ hy)]
theorem qbO {n : qb} (h : ∀ y ∈ ndN n, q3N y) : ∀ y ∈ ndN n, y.Set.length ≤ 1000000 := fun y hy => by
  rcases h y hy with h | h
  · have := h.s3; omega
  · rw [h.st]; simp
theorem qdf {n : qb} (h : q0S 3 6 n) : QH n = some 0 := by
  have h1 := h.hg
  have h2 := h.l1
  have h3 := h.l2
  have h4 := h.nd
  rw [qhK n (by omega) (by omega) (qbO h.ok)]
  unfold qfl
  have hf := qbe n h.ok
  have hd := qqI n 1 0
  have e : inF ((ndN n).filter JP).length 1 8 = true := by unfold inF; rw [hf]; simp; omega
  rw [if_neg (by omega), if_neg (by omega), e, if_neg (by simp), qbX _ fun y hy => qfo (h.ok y hy)]
  rfl
theorem q8z {n : qb} (h : q0S 3 6 n) (s : qd) (l : List qa) (hl : l.length ≤ 10) : qL n s l = some (Za (2 ^ l.length) (zW [] s l n 0), 0) := by
  have h3 := h.l2
  have h4 := h.nd
  unfold qL
  rw [qdf h, Option.bind_some, if_neg (by simp), if_neg (by omega)]
  unfold q00
  have := qeA [] rfl s l (by omega) _ n (Nat.le_refl _) (by omega) (qbO h.ok) 0 (by omega)
  rw [show ((0 : Nat) : Int) = 0 from rfl] at this
  rw [this, Option.bind_some, Option.bind_some]
end Go.Proofs.Ytgejdfnidjnjcaa.Vc
namespace Go.Proofs.Ytgejdfnidjnjcaa.Vc
open Go.RowKit
set_option linter.unusedVariables false
set_option linter.unusedSimpArgs false
mutual
def itN (d : Int) : qb → List qj
  | ⟨k, n, m, S, L⟩ => ⟨⟨k, n, m, S, L⟩, d⟩ :: itL (d + 1) L
def itL (d : Int) : List qb → List qj
  | [] => []
  | x :: L => itN d x ++ itL d L
end
theorem qiY (d : Int) (n : qb) : itN d n = ⟨n, d⟩ :: itL (d + 1) n.L := by cases n; rw [itN]
theorem qft : ∀ (n : qb) (d : Int), (itN d n).map (·.Need) = ndN n := by
  intro n
  induction n using qb.rec (motive_2 := fun L => ∀ d, (itL d L).map (·.Need) = ndL L) with
  | mk k n m S L ih => intro d; rw [itN, ndN, List.map_cons, ih]
  | nil => rw [itL, ndL]; rfl
  | cons x L h1 h2 => rw [itL, ndL, List.map_append, h1, h2]
theorem qfh (n : qb) (d : Int) : (itN d n).length = (ndN n).length := by rw [← qft n d, List.length_map]
theorem qac (rF : (qb × Int × List qj) → Option (Unit ⊕ (List qj))) (deep : Int) (hd : 1 ≤ deep) (n : qb) (hL : n.L.length ≤ 10000)
    (step : List qj × Int → Option ((List qj × Int) ⊕ (Unit ⊕ (List qj))))
    (hst : ∀ w (i : Nat), step (w, (i : Int)) = if (i : Int) < ((n.L.length : Nat) : Int) then if (0 : Int) ≤ i ∧ (i : Int) < ((n.L.length : Nat) : Int) then Option.bind n.L[Int.toNat i]? fun a2 => Option.bind (rF (a2, w64 (deep + 1), w)) fun a3 => Sum.elim (fun _ => some (Sum.inr (Sum.inl ()))) (fun a5 => some (Sum.inl (a5, w64 ((i : Int) + 1)))) a3 else none else some (.inr (.inr w)))
    (hP : ∀ y ∈ n.L, ∀ w, deep + 1 + hgN y ≤ 101 → w.length + (ndN y).length ≤ 10000 → rF (y, deep + 1, w) = some (.inr (w ++ itN (deep + 1) y))) :
    ∀ (r : List qb) (i : Nat) (w : List qj), r.length + i = n.L.length → (∀ j, r[j]? = n.L[i + j]?) → deep + 1 + hgL r ≤ 101 → w.length + (ndL r).length ≤ 10000 →
    qN step (w, (i : Int)) = some (.inr (w ++ itL (deep + 1) r)) := by
  intro r
  induction r with
  | nil =>
    intro i w hi _ _ _
    have hi : i = n.L.length := by simpa using hi
    subst hi
    refine zB ?_
    rw [hst, if_neg (by omega), itL, List.append_nil]
  | cons y r ih =>
    intro i w hi hr hh hw
    rw [hgL] at hh
    rw [ndL, List.length_append] at hw
    simp only [List.length_cons] at hi
    have hget : n.L[i]? = some y := by have := hr 0; simpa using this.symm
    have hlt := q12 hget
    have hcall := hP y (List.mem_of_getElem? hget) w (by omega) (by omega)
    have hstep : step (w, (i : Int)) = some (.inl (w ++ itN (deep + 1) y, ((i + 1 : Nat) : Int))) := by
      rw [hst, if_pos (by omega), if_pos ⟨by omega, by omega⟩, Int.toNat_natCast, hget, Option.bind_some, Qs (by omega) (by omega), hcall, Option.bind_some, Q9 hlt (by omega)]
      rfl
    rw [Qk hstep, ih (i + 1) _ (by omega) (fun j => by rw [show i + 1 + j = i + (j + 1) by omega, ← hr (j + 1)]; rfl) (by omega) (by rw [List.length_append, qfh]; omega), itL, List.append_assoc]
theorem qiw : ∀ (m : Nat) (y : qb), (ndN y).length ≤ m → ∀ (deep : Int) (w : List qj), 1 ≤ deep → deep + hgN y ≤ 101 → w.length + (ndN y).length ≤ 10000 → zJ (y, deep, w) = some (.inr (w ++ itN deep y)) := by
  intro m
  induction m with
  | zero => intro y h; rw [Zh] at h; simp at h
  | succ m ih =>
    intro y h deep w hd hh hw
    rw [Zh, List.length_cons] at h hw
    rw [q6K] at hh
    have hsub : ∀ (L : List qb), (ndL L).length ≤ m → ∀ z ∈ L, ∀ (deep : Int) (w : List qj), 1 ≤ deep → deep + hgN z ≤ 101 → w.length + (ndN z).length ≤ 10000 → zJ (z, deep, w) = some (.inr (w ++ itN deep z)) := by
      intro L
      induction L with
      | nil => intro _ z hz; simp at hz
      | cons x L ihl =>
        intro g z hz
        rw [ndL, List.length_append] at g
        rcases List.mem_cons.1 hz with rfl | hz
        · exact ih _ (by omega)
        · exact ihl (by omega) z hz
    have hP := hsub y.L (by omega)
    have hl := q6w y.L
    have hML : 100000 ≤ maxLen := by unfold maxLen; omega
    rw [q69, Zc, if_neg (by omega), if_neg (by omega), if_pos ⟨by omega, by omega⟩]
    have h1 := qac zJ deep hd y (by omega) (Z4 zJ y deep) (fun w i => by rfl) (fun z hz w g1 g2 => hP z hz (deep + 1) w (by omega) g1 g2) y.L 0 (w ++ [⟨y, deep⟩]) (by simp) (by simp) (by omega) (by rw [List.length_append, List.length_singleton]; omega)
    rw [show ((0 : Nat) : Int) = 0 from rfl] at h1
    rw [h1, Option.bind_some, Sum.elim_inr, qiY, List.append_assoc]
    rfl
theorem qhm (n : qb) (hh : hgN n ≤ 100) (hn : (ndN n).length ≤ 9999) : q0h n 1 = some (.inr (itN 1 n)) := by
  rw [q6K] at hh
  rw [Zh, List.length_cons] at hn
  have hl := q6w n.L
  unfold q0h
  rw [if_neg (by omega), if_pos (by unfold maxLen; omega)]
  have h1 := qac zJ 1 (by omega) n (by omega) (Zy n 1) (fun w i => by rfl) (fun z hz w g1 g2 => qiw _ z (Nat.le_refl _) (1 + 1) w (by omega) (by omega) g2) n.L 0 [⟨n, 1⟩] (by simp) (by simp) (by omega) (by simp only [List.length_singleton]; omega)
  rw [show ((0 : Nat) : Int) = 0 from rfl] at h1
  rw [h1, Option.bind_some, Sum.elim_inr, qiY]
  rfl
end Go.Proofs.Ytgejdfnidjnjcaa.Vc
namespace Go.Proofs.Ytgejdfnidjnjcaa.Vc
open Go.RowKit
set_option linter.unusedVariables false
set_option linter.unusedSimpArgs false
theorem qhg (items : List qj) (out : List qc) (hl : out.length ≤ 1000000) (t6 : Int) (S : List qc) (k : Nat) (c : qc) (hc : S[k]? = some c) (hS : S.length ≤ 1000000) : qN (zg items out t6 S (k : Int)) 0 = some ((atF out c : Nat) : Int) := by
  have hk := q12 hc
  have h1 := q1I (ε := Int) (step := zg items out t6 S (k : Int)) out (fun (_ : Unit) i => (i : Int)) (fun i _ x => if q1q x c = true then .inl () else .inr (i : Int)) (fun _ => (out.length : Int)) (fun _ i x hx => by
      have hi := q12 hx
      unfold zg
      rw [if_pos (by omega), if_pos ⟨by omega, by omega⟩, Int.toNat_natCast, hx, Option.bind_some, if_pos ⟨by omega, by omega⟩, Int.toNat_natCast, hc, Option.bind_some, Q9 hi (by omega)]
      show (if q1q x c = true then _ else _) = _
      cases q1q x c <;> simp) (fun _ => by
      unfold zg
      rw [if_neg (by omega)]) ()
  rw [show ((0 : Nat) : Int) = 0 from rfl] at h1
  rw [h1]
  congr 1
  have : ∀ (l : List qc) (i : Nat) (n : Nat), i + l.length = n → q46 (ε := Int) (fun i (_ : Unit) (x : qc) => if q1q x c = true then .inl () else .inr (i : Int)) (fun _ => (n : Int)) l i () = ((i + atF l c : Nat) : Int) := by
    intro l
    induction l with
    | nil => intro i n h; simp at h; unfold q46 atF; simp [h]
    | cons x l ih =>
      intro i n h
      simp only [List.length_cons] at h
      unfold q46
      by_cases hx : q1q x c = true
      · have e : atF (x :: l) c = atF l c + 1 := by unfold atF; rw [List.takeWhile_cons, if_pos hx]; rfl
        simp only [hx, if_true]
        rw [ih (i + 1) n (by omega), e]
        omega
      · have e : atF (x :: l) c = 0 := by unfold atF; rw [List.takeWhile_cons, if_neg hx]; rfl
        have hx' : q1q x c = false := by simpa using hx
        simp only [hx', Bool.false_eq_true, if_false]
        rw [e]; rfl
  have := this out 0 out.length (by simp)
  simpa using this
theorem q9w (items : List qj) (out : List qc) (hl : out.length ≤ 1000) (t6 : Int) (S : List qc) (hS : S.length ≤ 1000000) (k : Nat) (c : qc) (hc : S[k]? = some c) :
    zo items t6 S (out, (k : Int)) = some (.inl (qaZ out c, ((k + 1 : Nat) : Int))) := by
  have hk := q12 hc
  have hML : 100000 ≤ maxLen := by unfold maxLen; omega
  have hat := qgQ out c
  unfold zo
  simp only
  rw [if_pos (by omega), qhg items out (by omega) t6 S k c hc hS, Option.bind_some]
  have hwk : w64 ((k : Int) + 1) = ((k + 1 : Nat) : Int) := by rw [Qs (by omega) (by omega)]; omega
  have hwa : w64 (((atF out c : Nat) : Int) + 1) = ((atF out c + 1 : Nat) : Int) := by rw [Qs (by omega) (by omega)]; omega
  rw [hwk, hwa]
  simp only [Int.toNat_natCast, List.length_take, List.length_drop, List.length_append, List.length_cons, List.length_nil]
  rw [hc]
  simp only [Option.bind_some]
  have hkk : (0 : Int) ≤ (k : Int) ∧ (k : Int) < ((S.length : Nat) : Int) := ⟨by omega, by omega⟩
  simp only [hkk, and_self, if_true]
  unfold qaZ
  by_cases hlt : atF out c < out.length
  · obtain ⟨x, hx⟩ : ∃ x, out[atF out c]? = some x := ⟨_, List.getElem?_eq_getElem hlt⟩
    rw [if_pos (by omega), if_pos ⟨by omega, by omega⟩, hx, Option.bind_some]
    simp only [Option.any_some]
    by_cases hc : ceq x c = true
    · have hc2 := hc
      unfold ceq at hc2
      simp only [Bool.and_eq_true] at hc2
      rw [if_pos hc2, if_pos hc]
    · have hc2 : ¬ ((x.School == c.School) = true ∧ (x.Code.toList == c.Code.toList) = true) := fun h => hc (by unfold ceq; rw [h.1, h.2]; rfl)
      rw [if_neg hc2, if_neg hc]
      repeat (first | rw [if_pos (by omega)] | rw [if_neg (by omega)])
      rw [qeC _ _ _ _ hlt]
  · have he : atF out c = out.length := by omega
    have hnone : out[out.length]? = none := List.getElem?_eq_none (Nat.le_refl _)
    rw [he, hnone]
    simp only [Option.any_none, Bool.false_eq_true, if_false]
    repeat (first | rw [if_pos (by omega)] | rw [if_neg (by omega)])
    rw [qbZ]
theorem qnq (l : List qc) : ∀ (out : List qc), (l.foldl qaZ out).length ≤ out.length + l.length := by
  induction l with
  | nil => intro out; simp
  | cons c l ih =>
    intro out
    rw [List.foldl_cons, List.length_cons]
    have := ih (qaZ out c)
    have := (qbs out c).2.1
    omega
theorem qaY (items : List qj) (t6 : Int) (S : List qc) (hS : S.length ≤ 100) : ∀ (r : List qc) (k : Nat) (out : List qc), r.length + k = S.length → (∀ j, r[j]? = S[k + j]?) → out.length + r.length ≤ 1000 → qN (zo items t6 S) (out, (k : Int)) = some (r.foldl qaZ out) := by
  intro r
  induction r with
  | nil =>
    intro k out hk _ _
    have hk : k = S.length := by simpa using hk
    subst hk
    refine zB ?_
    unfold zo
    simp only
    rw [if_neg (by omega)]
    rfl
  | cons c r ih =>
    intro k out hk hr hl
    simp only [List.length_cons] at hk hl
    have hget : S[k]? = some c := by have := hr 0; simpa using this.symm
    rw [Qk (q9w items out (by omega) t6 S (by omega) k c hget), List.foldl_cons]
    have := (qbs out c).2.1
    exact ih (k + 1) _ (by omega) (fun j => by rw [show k + 1 + j = k + (j + 1) by omega, ← hr (j + 1)]; rfl) (by omega)
theorem qbm (items : List qj) (hn : items.length ≤ 100) (hS : ∀ x ∈ items, x.Need.Set.length ≤ 3) : ∀ (r : List qj) (i : Nat) (out : List qc), r.length + i = items.length → (∀ j, r[j]? = items[i + j]?) → out.length + 3 * r.length ≤ 900 → ∃ cs, qN (zp items) (out, (i : Int)) = some cs ∧ cs.length ≤ 900 := by
  intro r
  induction r with
  | nil =>
    intro i out hi _ hl
    have hi : i = items.length := by simpa using hi
    subst hi
    refine ⟨out, zB ?_, by simp at hl; omega⟩
    unfold zp
    simp only
    rw [if_neg (by omega)]
  | cons x r ih =>
    intro i out hi hr hl
    simp only [List.length_cons] at hi hl
    have hget : items[i]? = some x := by have := hr 0; simpa using this.symm
    have hlt := q12 hget
    have hx := hS x (List.mem_of_getElem? hget)
    have hs := qaY items (i : Int) x.Need.Set (by omega) x.Need.Set 0 out (by simp) (by simp) (by omega)
    rw [show ((0 : Nat) : Int) = 0 from rfl] at hs
    have hp := qnq x.Need.Set out
    obtain ⟨cs, h1, h2⟩ := ih (i + 1) (x.Need.Set.foldl qaZ out) (by omega) (fun j => by rw [show i + 1 + j = i + (j + 1) by omega, ← hr (j + 1)]; rfl) (by omega)
    refine ⟨cs, ?_, h2⟩
    rw [Qk (y := (x.Need.Set.foldl qaZ out, ((i + 1 : Nat) : Int))) (by
      unfold zp
      simp only
      rw [if_pos (by omega), if_pos ⟨by omega, by omega⟩, Int.toNat_natCast, hget, Option.bind_some, hs, Option.bind_some, Q9 hlt (by omega)])]
    exact h1
theorem qdt {n : qb} (h : q0S 3 6 n) : ∃ cs, ZF n = some cs ∧ cs.length ≤ 900 := by
  have h1 := h.hg
  have h2 := h.l2
  have h3 := h.nd
  have hlen := qfh n 1
  have hS : ∀ x ∈ itN 1 n, x.Need.Set.length ≤ 3 := fun x hx => by
    have hm : x.Need ∈ ndN n := by rw [← qft n 1]; exact List.mem_map.2 ⟨x, hx, rfl⟩
    rcases h.ok _ hm with h | h
    · exact h.s3
    · rw [h.st]; simp
  obtain ⟨cs, g1, g2⟩ := qbm (itN 1 n) (by omega) hS (itN 1 n) 0 [] (by simp) (by simp) (by simp; omega)
  refine ⟨cs, ?_, g2⟩
  unfold ZF
  rw [qhm n (by omega) (by omega), Option.bind_some, Sum.elim_inr]
  rw [show ((0 : Nat) : Int) = 0 from rfl] at g1
  rw [g1, Option.bind_some]
theorem qnB (x m : Int) (h0 : 0 < m) (h1 : m ≤ 1000000) : ∃ v, q0R x m = some v ∧ 0 ≤ v ∧ v < m := by
  have e1 := Int.tmod_lt_of_pos x h0
  have e2 : -m < Int.tmod x m := by
    have := Int.tmod_lt_of_pos (-x) h0
    rw [Int.neg_tmod] at this; omega
  have e3 : w64 (Int.tmod x m + m) = Int.tmod x m + m := Qs (by omega) (by omega)
  refine ⟨Int.tmod (Int.tmod x m + m) m, ?_, Int.tmod_nonneg _ (by omega), Int.tmod_lt_of_pos _ h0⟩
  unfold q0R
  rw [if_neg (by omega), if_neg (by omega), e3]
theorem qcT {d : qh} (h : ZX d) {most : Int} (h0 : 0 < most) (h1 : most ≤ 1000000) : ∃ v d', z5 most d = some (v, d') ∧ 0 ≤ v ∧ v < most ∧ ZX d' := by
  obtain ⟨a, b, c⟩ := h
  unfold z5
  by_cases he : (d.L.length : Int) ≤ d.At
  · exact ⟨0, d, if_pos he, Int.le_refl _, h0, ⟨a, b, c⟩⟩
  · obtain ⟨x, hx⟩ : ∃ x, d.L[Int.toNat d.At]? = some x := ⟨_, List.getElem?_eq_getElem (by omega)⟩
    obtain ⟨v, e1, e2, e3⟩ := qnB x most h0 h1
    have e6 : w64 (d.At + 1) = d.At + 1 := Qs (by omega) (by omega)
    have e7 : w64 (d.At + 1 - 1) = d.At := by rw [Qs (by omega) (by omega)]; omega
    refine ⟨v, ⟨d.L, d.At + 1⟩, ?_, e2, e3, ⟨by show 0 ≤ d.At + 1; omega, by show d.At + 1 ≤ d.L.length; omega, c⟩⟩
    rw [if_neg he, e6, e7, if_pos ⟨a, by omega⟩, hx, Option.bind_some, e1, Option.bind_some]
def qmQ (l : List qa) : Prop := ∀ a ∈ l, 0 < a.Sources.length
theorem qfX (cs : List qc) (hc : 1 ≤ cs.length) (hc2 : cs.length ≤ 1000) (many : Int) (hm : many ≤ 7) (l : List qa) (k : Nat) (hl : l.length = k) (hs : qmQ l) (hk : (k : Int) < many) {d : qh} (hd : ZX d) :
    ∃ a d', 0 < a.Sources.length ∧ (a.Credits = 5 ∨ a.Credits = 6 ∨ a.Credits = 10 ∨ a.Credits = 3) ∧ ZX d' ∧ zz cs many (l, d, (k : Int)) = some (.inl (l ++ [a], d', ((k + 1 : Nat) : Int))) := by
  have hML : 100000 ≤ maxLen := by unfold maxLen; omega
  obtain ⟨v1, d1, e1, a1, b1, h1⟩ := qcT hd (most := ((cs.length : Nat) : Int)) (by omega) (by omega)
  obtain ⟨c, hc1, _⟩ := qlr cs v1 a1 b1
  obtain ⟨v2, d2, e2, a2, b2, h2⟩ := qcT h1 (most := 4) (by omega) (by omega)
  obtain ⟨cr, hcr, mcr⟩ := qlr [(5 : Int), 6, 10, 3] v2 a2 (by simpa using b2)
  obtain ⟨v3, d3, e3, a3, b3, h3⟩ := qcT h2 (most := 7) (by omega) (by omega)
  obtain ⟨gr, hgr, _⟩ := qlr [(50 : Int), 60, 90, 40, 100, 79, 80] v3 a3 (by simpa using b3)
  obtain ⟨v4, d4, e4, a4, b4, h4⟩ := qcT h3 (most := 600) (by omega) (by omega)
  obtain ⟨v5, d5, e5, a5, b5, h5⟩ := qcT h4 (most := 8) (by omega) (by omega)
  have hw : w64 ((k : Int) + 1) = ((k + 1 : Nat) : Int) := by rw [Qs (by omega) (by omega)]; omega
  have hcr2 : cr = 5 ∨ cr = 6 ∨ cr = 10 ∨ cr = 3 := by simpa using mcr
  by_cases hz : v5 = 0 ∧ 0 < k
  · have hwk : w64 ((k : Int) - 1) = ((k - 1 : Nat) : Int) := by rw [Qs (by omega) (by omega)]; omega
    obtain ⟨p, hp⟩ : ∃ p, l[k - 1]? = some p := ⟨_, List.getElem?_eq_getElem (by omega)⟩
    have hps := hs p (List.mem_of_getElem? hp)
    obtain ⟨x, hx⟩ : ∃ x, p.Sources[0]? = some x := ⟨_, List.getElem?_eq_getElem hps⟩
    refine ⟨⟨c, cr, gr, v4, [x], 0, []⟩, d5, by simp, hcr2, h5, ?_⟩
    unfold zz
    simp only
    rw [if_pos hk, e1, Option.bind_some]
    simp only
    rw [if_pos ⟨a1, b1⟩, hc1, Option.bind_some, e2, Option.bind_some]
    simp only
    rw [if_pos ⟨a2, b2⟩, hcr, Option.bind_some, e3, Option.bind_some]
    simp only
    rw [if_pos ⟨a3, b3⟩, hgr, Option.bind_some, e4, Option.bind_some]
    simp only
    rw [e5, Option.bind_some]
    simp only
    rw [if_pos (by simp [hz.1]), if_pos (by omega), hwk, if_pos ⟨by omega, by omega⟩, Int.toNat_natCast, hp, Option.bind_some, if_pos (by omega), hx, Option.bind_some, if_pos ⟨by omega, by omega⟩, hw]
  · refine ⟨⟨c, cr, gr, v4, [w64 (w64 (w64 ((1000000 : Int) * c.School) + (k : Int)) + (1 : Int))], 0, []⟩, d5, by simp, hcr2, h5, ?_⟩
    unfold zz
    simp only
    rw [if_pos hk, e1, Option.bind_some]
    simp only
    rw [if_pos ⟨a1, b1⟩, hc1, Option.bind_some, e2, Option.bind_some]
    simp only
    rw [if_pos ⟨a2, b2⟩, hcr, Option.bind_some, e3, Option.bind_some]
    simp only
    rw [if_pos ⟨a3, b3⟩, hgr, Option.bind_some, e4, Option.bind_some]
    simp only
    rw [e5, Option.bind_some]
    simp only
    by_cases h0 : v5 = 0
    · rw [if_pos (by simp [h0]), if_neg (by omega), if_pos ⟨by omega, by omega⟩, hw]
    · rw [if_neg (by simpa using h0), if_pos ⟨by omega, by omega⟩, hw]
theorem qoH {n : qb} (h : q0S 3 6 n) (q : List Int) (hq : q.length ≤ 9223372036854775807) : ∃ l, q0j n q = some l ∧ l.length ≤ 7 ∧ ∀ a ∈ l, a.Credits = 5 ∨ a.Credits = 6 ∨ a.Credits = 10 ∨ a.Credits = 3 := by
  obtain ⟨cs, g1, g2⟩ := qdt h
  obtain ⟨v, d, e1, a1, b1, h1⟩ := qcT (d := ⟨q, 0⟩) ⟨by show (0 : Int) ≤ 0; omega, by show (0 : Int) ≤ (q.length : Int); omega, hq⟩ (most := 8) (by omega) (by omega)
  have hML : 100000 ≤ maxLen := by unfold maxLen; omega
  obtain ⟨m, rfl⟩ : ∃ m : Nat, v = (m : Int) := ⟨v.toNat, by omega⟩
  have key : ∀ (j k : Nat) (l : List qa) (d : qh), j + k = m → l.length = k → qmQ l → (∀ a ∈ l, a.Credits = 5 ∨ a.Credits = 6 ∨ a.Credits = 10 ∨ a.Credits = 3) → ZX d → ∃ l', qN (zz (cs ++ [qc.mk (1 : Int) (ByteArray.mk (List.toArray [90]))]) (m : Int)) (l, d, (k : Int)) = some l' ∧ l'.length = m ∧ ∀ a ∈ l', a.Credits = 5 ∨ a.Credits = 6 ∨ a.Credits = 10 ∨ a.Credits = 3 := by
    intro j
    induction j with
    | zero =>
      intro k l d hk hl hs hcr hd
      refine ⟨l, zB ?_, by omega, hcr⟩
      unfold zz
      simp only
      rw [if_neg (by omega)]
    | succ j ih =>
      intro k l d hk hl hs hcr hd
      obtain ⟨a, d', q1, q2, q3, q4⟩ := qfX (cs ++ [qc.mk (1 : Int) (ByteArray.mk (List.toArray [90]))]) (by simp) (by simp; omega) (m : Int) (by omega) l k hl hs (by omega) hd
      rw [Qk q4]
      refine ih (k + 1) (l ++ [a]) d' (by omega) (by simp [hl]) (fun x hx => ?_) (fun x hx => ?_) q3
      · rcases List.mem_append.1 hx with h | h
        · exact hs x h
        · rw [List.mem_singleton.1 h]; exact q1
      · rcases List.mem_append.1 hx with h | h
        · exact hcr x h
        · rw [List.mem_singleton.1 h]; exact q2
  obtain ⟨l, q1, q2, q3⟩ := key m 0 [] d (by omega) rfl (fun a ha => by simp at ha) (by simp) h1
  refine ⟨l, ?_, by omega, q3⟩
  unfold q0j
  rw [g1, Option.bind_some, if_pos ⟨by omega, by omega⟩, e1, Option.bind_some]
  rw [show ((0 : Nat) : Int) = 0 from rfl] at q1
  simp only
  rw [q1, Option.bind_some]
end Go.Proofs.Ytgejdfnidjnjcaa.Vc
namespace Go.Proofs.Ytgejdfnidjnjcaa.Vc
open Go.RowKit
set_option linter.unusedVariables false
set_option linter.unusedSimpArgs false
theorem qbh (x y : Nat) : (x &&& y) / 2 = (x / 2) &&& (y / 2) := by
  apply Nat.eq_of_testBit_eq
  intro i
  rw [Nat.testBit_div_two, Nat.testBit_and, Nat.testBit_and, Nat.testBit_div_two, Nat.testBit_div_two]
theorem qbr (x y : Nat) : (x &&& y) % 2 = if x % 2 = 1 ∧ y % 2 = 1 then 1 else 0 := by
  have h : (x &&& y).testBit 0 = (x.testBit 0 && y.testBit 0) := Nat.testBit_and x y 0
  rw [Nat.testBit_zero, Nat.testBit_zero, Nat.testBit_zero] at h
  have h1 : x % 2 < 2 := Nat.mod_lt _ (by decide)
  have h2 : y % 2 < 2 := Nat.mod_lt _ (by decide)
  have h3 : (x &&& y) % 2 < 2 := Nat.mod_lt _ (by decide)
  by_cases hx : x % 2 = 1
  · by_cases hy : y % 2 = 1
    · rw [if_pos ⟨hx, hy⟩]
      simpa [hx, hy] using h
    · rw [if_neg (fun h => hy h.2)]
      have : ¬ (x &&& y) % 2 = 1 := by simpa [hx, hy] using h
      omega
  · rw [if_neg (fun h => hx h.1)]
    have : ¬ (x &&& y) % 2 = 1 := by simpa [hx] using h
    omega
theorem qiD : ∀ (sub set t : Nat), sub &&& set = sub → t &&& set = t → t < sub → t ≤ (sub - 1) &&& set := by
  intro sub
  induction sub using Nat.strongRecOn with
  | _ sub ih =>
    intro set t hs ht hlt
    have hs2 := qbh sub set
    have hsm := qbr sub set
    have ht2 := qbh t set
    have htm := qbr t set
    rw [hs] at hs2 hsm
    rw [ht] at ht2 htm
    have hr2 := qbh (sub - 1) set
    have hrm := qbr (sub - 1) set
    by_cases hodd : sub % 2 = 1
    · have e : (sub - 1) / 2 = sub / 2 := by omega
      rw [e, ← hs2] at hr2
      have e2 : (sub - 1) % 2 = 0 := by omega
      rw [if_neg (by omega)] at hrm
      omega
    · have hpos : sub / 2 ≠ 0 := by omega
      have e : (sub - 1) / 2 = sub / 2 - 1 := by omega
      rw [e] at hr2
      have hlt2 : t / 2 < sub / 2 := by omega
      have := ih (sub / 2) (by omega) (set / 2) (t / 2) hs2.symm ht2.symm hlt2
      have hset : set % 2 < 2 := Nat.mod_lt _ (by decide)
      have e3 : (sub - 1) % 2 = 1 := by omega
      by_cases hm : set % 2 = 1
      · rw [if_pos ⟨e3, hm⟩] at hrm
        have : t % 2 < 2 := Nat.mod_lt _ (by decide)
        omega
      · rw [if_neg (fun h => hm h.2)] at hrm htm
        omega
structure IsB (own : Nat → Bool) (best : Nat → Int) (set : Nat) (base v : Int) : Prop where
  ge : base ≤ v
  all : ∀ t, t ≠ 0 → t &&& set = t → own t = true → 0 ≤ best (q0m set t) → best (q0m set t) + 1 ≤ v
  is : v = base ∨ ∃ t, t ≠ 0 ∧ t &&& set = t ∧ own t = true ∧ 0 ≤ best (q0m set t) ∧ v = best (q0m set t) + 1
theorem IsB.uniq {own : Nat → Bool} {best : Nat → Int} {set : Nat} {base v v' : Int} (h : IsB own best set base v) (h' : IsB own best set base v') : v = v' := by
  have a : v ≤ v' := by
    rcases h.is with e | ⟨t, t1, t2, t3, t4, e⟩
    · rw [e]; exact h'.ge
    · rw [e]; exact h'.all t t1 t2 t3 t4
  have b : v' ≤ v := by
    rcases h'.is with e | ⟨t, t1, t2, t3, t4, e⟩
    · rw [e]; exact h.ge
    · rw [e]; exact h.all t t1 t2 t3 t4
  omega
theorem qoy {own : Nat → Bool} {best : Nat → Int} {set : Nat} : ∀ (f sub : Nat) (v : Int), sub ≤ f → sub &&& set = sub → v ≤ eaF own best set f sub v ∧ (∀ t, t ≠ 0 → t &&& set = t → t ≤ sub → own t = true → 0 ≤ best (q0m set t) → best (q0m set t) + 1 ≤ eaF own best set f sub v) ∧
    (eaF own best set f sub v = v ∨ ∃ t, t ≠ 0 ∧ t &&& set = t ∧ own t = true ∧ 0 ≤ best (q0m set t) ∧ eaF own best set f sub v = best (q0m set t) + 1) := by
  intro f
  induction f with
  | zero =>
    intro sub v hf _
    have : sub = 0 := by omega
    subst this
    exact ⟨Int.le_refl _, fun t h1 _ h3 => by omega, .inl rfl⟩
  | succ f ih =>
    intro sub v hf hs
    unfold eaF
    by_cases hz : sub = 0
    · rw [if_pos hz]
      exact ⟨Int.le_refl _, fun t h1 _ h3 => by omega, .inl rfl⟩
    · rw [if_neg hz]
      have ha : (sub - 1) &&& set ≤ sub - 1 := Nat.and_le_left
      have hb : ((sub - 1) &&& set) &&& set = (sub - 1) &&& set := by rw [Nat.and_assoc, Nat.and_self]
      obtain ⟨i1, i2, i3⟩ := ih ((sub - 1) &&& set) (eaV own best set sub v) (by omega) hb
      have hv : v ≤ eaV own best set sub v := by unfold eaV; split <;> omega
      refine ⟨by omega, fun t h1 h2 h3 h4 h5 => ?_, ?_⟩
      · by_cases e : t = sub
        · subst e
          have : best (q0m set t) + 1 ≤ eaV own best set t v := by unfold eaV; rw [if_pos ⟨h4, h5⟩]; omega
          omega
        · exact i2 t h1 h2 (qiD sub set t hs h2 (by omega)) h4 h5
      · rcases i3 with e | h
        · by_cases hc : own sub = true ∧ 0 ≤ best (q0m set sub)
          · have e2 : eaV own best set sub v = max v (best (q0m set sub) + 1) := by unfold eaV; rw [if_pos hc]
            by_cases hm : v ≤ best (q0m set sub) + 1
            · exact .inr ⟨sub, hz, hs, hc.1, hc.2, by rw [e, e2]; omega⟩
            · exact .inl (by rw [e, e2]; omega)
          · exact .inl (by rw [e]; unfold eaV; rw [if_neg hc])
        · exact .inr h
theorem qiZ (skip : Bool) (own : Nat → Bool) (best : Nat → Int) (set : Nat) : IsB own best set (if skip = true then best set else -1) (stF skip own best set) := by
  obtain ⟨h1, h2, h3⟩ := qoy (own := own) (best := best) (set := set) set set (if skip = true then best set else -1) (Nat.le_refl _) (Nat.and_self _)
  refine ⟨h1, fun t t1 t2 t3 t4 => h2 t t1 t2 ?_ t3 t4, h3⟩
  rw [← t2]; exact Nat.and_le_right
def mu : Nat → Nat → Nat
  | 0, _ => 0
  | w + 1, m => 2 * mu w m + (if m.testBit w = true then 1 else 0)
theorem q3k : ∀ (w m j : Nat), (mu w m).testBit j = (decide (j < w) && m.testBit (w - 1 - j))
  | 0, m, j => by simp [mu]
  | w + 1, m, j => by
    rw [mu]
    cases j with
    | zero =>
      rw [Nat.testBit_zero]
      cases hb : m.testBit w <;> simp [hb] <;> omega
    | succ j =>
      rw [← Nat.testBit_div_two, show (2 * mu w m + (if m.testBit w = true then 1 else 0)) / 2 = mu w m by split <;> omega, q3k w m j, show w + 1 - 1 - (j + 1) = w - 1 - j by omega]
      by_cases h : j < w <;> simp [h]
theorem qi6 (w m : Nat) : mu w m < 2 ^ w := by
  induction w with
  | zero => simp [mu]
  | succ w ih => rw [mu, Nat.pow_succ]; split <;> omega
theorem qpg {w m j : Nat} (h : m < 2 ^ w) (hj : m.testBit j = true) : j < w := by
  rcases Nat.lt_or_ge j w with h1 | h1
  · exact h1
  · rw [Nat.testBit_lt_two_pow (Nat.lt_of_lt_of_le h (Nat.pow_le_pow_right (by decide) h1))] at hj
    cases hj
theorem qi8 {w m : Nat} (h : m < 2 ^ w) : mu w (mu w m) = m := by
  apply Nat.eq_of_testBit_eq
  intro j
  rw [q3k, q3k]
  by_cases hj : j < w
  · rw [decide_eq_true hj, decide_eq_true (by omega), show w - 1 - (w - 1 - j) = j by omega]; rfl
  · rw [decide_eq_false hj]
    cases hb : m.testBit j
    · rfl
    · exact absurd (qpg h hb) hj
theorem q9M (w : Nat) : mu w 0 = 0 := by
  apply Nat.eq_of_testBit_eq
  intro j
  rw [q3k, Nat.zero_testBit, Nat.zero_testBit, Bool.and_false]
theorem qeE {w m : Nat} (h : m < 2 ^ w) (h0 : m ≠ 0) : mu w m ≠ 0 := fun e => h0 (by rw [← qi8 h, e, q9M])
theorem qiW (w s t : Nat) : mu w s &&& mu w t = mu w (s &&& t) := by
  apply Nat.eq_of_testBit_eq
  intro j
  rw [Nat.testBit_and, q3k, q3k, q3k, Nat.testBit_and]
  cases decide (j < w) <;> simp
theorem qb5 (w s t : Nat) : q0m (mu w s) (mu w t) = mu w (q0m s t) := by
  apply Nat.eq_of_testBit_eq
  intro j
  rw [q7I, q3k, q3k, q3k, q7I]
  cases decide (j < w) <;> simp
theorem qjf {w s t : Nat} (h : s < 2 ^ w) (ht : t &&& s = t) : t < 2 ^ w := by
  have : t ≤ s := by rw [← ht]; exact Nat.and_le_right
  omega
theorem qp3 {w : Nat} {own own' : Nat → Bool} {best best' : Nat → Int} (ho : ∀ s, s < 2 ^ w → own' (mu w s) = own s) (hb : ∀ s, s < 2 ^ w → best' (mu w s) = best s) (skip : Bool) {set : Nat} (hs : set < 2 ^ w) : stF skip own' best' (mu w set) = stF skip own best set := by
  have h := qiZ skip own best set
  refine (qiZ skip own' best' (mu w set)).uniq ?_
  rw [hb set hs]
  refine ⟨h.ge, fun t t1 t2 t3 t4 => ?_, ?_⟩
  · have tl := qjf (qi6 w set) t2
    have e : t = mu w (mu w t) := (qi8 tl).symm
    rw [e, qb5] at t4 ⊢
    rw [hb _ (Nat.lt_of_le_of_lt (q5y _ _) hs)] at t4 ⊢
    refine h.all (mu w t) (qeE tl t1) ?_ ?_ t4
    · have := qiW w t (mu w set)
      rw [t2, qi8 hs] at this
      exact this
    · rw [← ho _ (qi6 w t), qi8 tl]; exact t3
  · rcases h.is with e | ⟨t, t1, t2, t3, t4, e⟩
    · exact .inl e
    · have tl := qjf hs t2
      refine .inr ⟨mu w t, qeE tl t1, by rw [qiW, t2], by rw [ho t tl]; exact t3, ?_, ?_⟩
      · rw [qb5, hb _ (Nat.lt_of_le_of_lt (q5y _ _) hs)]; exact t4
      · rw [qb5, hb _ (Nat.lt_of_le_of_lt (q5y _ _) hs)]; exact e
def qar (n : qb) (s : qd) (x : ql) (a : qa) : ql := ⟨w64 (x.many + 1), w64 (x.credits + a.Credits), x.fine && qd3 n s a⟩
def qag {α : Type} (p : Nat → Bool) : List α → List α
  | [] => []
  | a :: l => (if p 0 = true then [a] else []) ++ qag (fun j => p (j + 1)) l
theorem qb4 (n : qb) (s : qd) (set : Nat) : ∀ (l : List qa) (k : Nat) (x : ql), wgF n s set l k x = (qag (fun j => set.testBit (k + j)) l).foldl (qar n s) x
  | [], k, x => rfl
  | a :: l, k, x => by
    rw [wgF, qag, qb4 n s set l (k + 1), List.foldl_append, show (fun j => set.testBit (k + (j + 1))) = fun j => set.testBit (k + 1 + j) from funext fun j => by rw [Nat.add_right_comm, Nat.add_assoc]]
    congr 1
    cases set.testBit (k + 0) <;> simp [qar]
theorem q65 {α : Type} : ∀ {l : List α} {p q : Nat → Bool}, (∀ j, j < l.length → p j = q j) → qag p l = qag q l
  | [], _, _, _ => rfl
  | a :: l, p, q, h => by
    rw [qag, qag, h 0 (by simp), q65 fun j hj => h (j + 1) (by simpa using hj)]
theorem qaz {α : Type} : ∀ (l : List α) (a : α) (p : Nat → Bool), qag p (l ++ [a]) = qag p l ++ (if p l.length = true then [a] else [])
  | [], a, p => by simp [qag]
  | b :: l, a, p => by rw [List.cons_append, qag, qaz l a, qag, List.append_assoc]; rfl
theorem qcA {α : Type} : ∀ (l : List α) (p : Nat → Bool), qag (fun j => p (l.length - 1 - j)) l.reverse = (qag p l).reverse
  | [], p => rfl
  | a :: l, p => by
    have ih := qcA l fun j => p (j + 1)
    rw [List.reverse_cons, qaz, qag, List.reverse_append, ← ih, List.length_reverse]
    congr 1
    · refine q65 fun j hj => ?_
      rw [List.length_reverse] at hj
      simp only [List.length_cons]
      congr 1; omega
    · simp only [List.length_cons]
      have e : l.length + 1 - 1 - l.length = 0 := by omega
      simp only [e]
      split <;> rfl
theorem qb6 (a : Int) : ∃ q, w64 a = a - q * 18446744073709551616 ∧ -9223372036854775808 ≤ w64 a ∧ w64 a ≤ 9223372036854775807 := by
  show ∃ q, IntKind.i64.wrap a = a - q * 18446744073709551616 ∧ -9223372036854775808 ≤ IntKind.i64.wrap a ∧ IntKind.i64.wrap a ≤ 9223372036854775807
  have e : IntKind.i64.wrap a = if a % 18446744073709551616 ≥ 9223372036854775808 then a % 18446744073709551616 - 18446744073709551616 else a % 18446744073709551616 := by simp [IntKind.wrap, IntKind.signed, IntKind.bits]
  rw [e]
  split
  · exact ⟨a / 18446744073709551616 + 1, by omega, by omega, by omega⟩
  · exact ⟨a / 18446744073709551616, by omega, by omega, by omega⟩
theorem qjO (a b : Int) : w64 (w64 a + b) = w64 (a + b) := by
  obtain ⟨q, h1, _⟩ := qb6 a
  obtain ⟨r, h2, h3, h4⟩ := qb6 (w64 a + b)
  obtain ⟨u, h5, h6, h7⟩ := qb6 (a + b)
  rw [h2] at h3 h4 ⊢
  rw [h5] at h6 h7 ⊢
  omega
theorem qdN (n : qb) (s : qd) (x : ql) (a b : qa) : qar n s (qar n s x a) b = qar n s (qar n s x b) a := by
  unfold qar
  simp only [qjO]
  rw [show x.credits + a.Credits + b.Credits = x.credits + b.Credits + a.Credits by omega, Bool.and_right_comm]
theorem qeQ (n : qb) (s : qd) (l : List qa) (x : ql) : l.reverse.foldl (qar n s) x = l.foldl (qar n s) x := by
  have h1 : ∀ (l : List qa) (x : ql) (a : qa), l.foldl (qar n s) (qar n s x a) = qar n s (l.foldl (qar n s) x) a := by
    intro l
    induction l with
    | nil => intro x a; rfl
    | cons b l ih => intro x a; rw [List.foldl_cons, List.foldl_cons, qdN, ih]
  induction l generalizing x with
  | nil => rfl
  | cons a l ih =>
    rw [List.reverse_cons, List.foldl_append, ih]
    show qar n s (l.foldl (qar n s) x) a = l.foldl (qar n s) (qar n s x a)
    rw [h1]
theorem qro (n : qb) (s : qd) (l : List qa) (set : Nat) : wgF n s (mu l.length set) l.reverse 0 ld0 = wgF n s set l 0 ld0 := by
  rw [qb4, qb4]
  have e : qag (fun j => (mu l.length set).testBit (0 + j)) l.reverse = (qag (fun j => set.testBit (0 + j)) l).reverse := by
    rw [← qcA]
    refine q65 fun j hj => ?_
    rw [List.length_reverse] at hj
    rw [Nat.zero_add, q3k, decide_eq_true hj, Bool.true_and, Nat.zero_add]
  rw [e, qeQ]
theorem qlg (s : qd) (l : List qa) (n : qb) (nx : Nat) {set : Nat} (h : set < 2 ^ l.length) : q1w [] s l.reverse n nx (mu l.length set) = q1w [] s l n nx set := by
  unfold q1w
  rw [qro]
  have e : decide (mu l.length set ≠ 0) = decide (set ≠ 0) := by
    by_cases h0 : set = 0
    · subst h0; rw [q9M]
    · rw [decide_eq_true h0, decide_eq_true (qeE h h0)]
  rw [e]; rfl
theorem qiI (s : qd) (l : List qa) : ∀ (n : qb) (nx set : Nat), set < 2 ^ l.length → zW [] s l.reverse n nx (mu l.length set) = zW [] s l n nx set := by
  intro n
  induction n using qb.rec (motive_2 := fun L => ∀ (sk : Bool) (nx : Nat) (b b' : Nat → Int), (∀ t, t < 2 ^ l.length → b' (mu l.length t) = b t) → ∀ set, set < 2 ^ l.length → q7r [] s l.reverse sk L nx b' (mu l.length set) = q7r [] s l sk L nx b set) with
  | mk k n m S L ih =>
    intro nx set h
    rw [zW, zW]
    by_cases hk : k = 1 ∨ k = 2
    · rw [if_pos hk, if_pos hk]; exact qlg s l _ nx h
    · rw [if_neg hk, if_neg hk]
      have e : decide (mu l.length set ≠ 0) = decide (set ≠ 0) := by
        by_cases h0 : set = 0
        · subst h0; rw [q9M]
        · rw [decide_eq_true h0, decide_eq_true (qeE h h0)]
      have hb : ∀ t, t < 2 ^ l.length → b0F (mu l.length t) = b0F t := fun t ht => by
        unfold b0F
        by_cases h0 : t = 0
        · subst h0; rw [q9M]
        · rw [if_neg h0, if_neg (qeE ht h0)]
      rw [e, ih (k == 4) nx b0F b0F hb set h]
  | nil => rename_i sk nx b b' hb set h; rw [q7r, q7r]; exact hb set h
  | cons x L h1 h2 =>
    rename_i sk nx b b' hb set h
    rw [q7r, q7r]
    refine h2 sk _ _ _ (fun t ht => ?_) set h
    exact qp3 (fun t ht => h1 nx t ht) hb _ ht
def q43 (n : qb) : qb := ⟨n.Kind, n.N - 1, n.Min, n.Set, n.L⟩
theorem q9i (s : qd) (l : List qa) (n : qb) (hk : n.Kind = 4 ∨ n.Kind = 2) (nx set : Nat) (h : zW [] s l n nx set = true) : zW [] s l (q43 n) nx set = true := by
  rw [q82] at h ⊢
  rcases hk with hk | hk
  · have e1 : ¬ (n.Kind = 1 ∨ n.Kind = 2) := by omega
    have e3 : ¬ n.Kind = 3 := by omega
    rw [if_neg e1, if_neg e3] at h
    rw [if_neg (show ¬ ((q43 n).Kind = 1 ∨ (q43 n).Kind = 2) from e1), if_neg (show ¬ (q43 n).Kind = 3 from e3)]
    simp only [Bool.and_eq_true, decide_eq_true_eq] at h ⊢
    refine ⟨h.1, ?_⟩
    show n.N - 1 ≤ q7r [] s l (n.Kind == 4) n.L nx b0F set
    omega
  · have e1 : n.Kind = 1 ∨ n.Kind = 2 := .inr hk
    rw [if_pos e1] at h
    rw [if_pos (show (q43 n).Kind = 1 ∨ (q43 n).Kind = 2 from e1)]
    have hw : ∀ (l : List qa) (k : Nat) (x : ql), wgF (q43 n) s set l k x = wgF n s set l k x := by
      intro l
      induction l with
      | nil => intro k x; rfl
      | cons a l ih => intro k x; rw [wgF, wgF, ih]; rfl
    unfold q1w at h ⊢
    rw [hw]
    have e2 : ¬ n.Kind = 1 := by omega
    unfold qkq at h ⊢
    rw [if_neg e2] at h
    rw [if_neg (show ¬ (q43 n).Kind = 1 from e2)]
    simp only [Bool.and_eq_true, decide_eq_true_eq] at h ⊢
    refine ⟨h.1, h.2.1, h.2.2.1, ?_⟩
    have := h.2.2.2
    show n.N - 1 ≤ _
    omega
theorem qfM {n : qb} (h : q0S 3 6 n) (hk : n.Kind = 4 ∨ n.Kind = 2) (h1 : 1 < n.N) : q0S 3 6 (q43 n) := by
  have e1 : ndN (q43 n) = q43 n :: ndL n.L := Zh _
  have e2 : lvN (q43 n) = lvN n := by rw [q98, q98]; rfl
  have e3 : hgN (q43 n) = hgN n := by rw [q6K, q6K]; rfl
  have e4 : ndN n = n :: ndL n.L := Zh _
  refine ⟨fun y hy => ?_, by rw [e3]; exact h.hg, by rw [e2]; exact h.l1, by rw [e2]; exact h.l2, ?_⟩
  · rw [e1] at hy
    rcases List.mem_cons.1 hy with rfl | hy
    · rcases h.ok n (by rw [e4]; exact List.mem_cons_self) with g | g
      · refine .inl ⟨?_, g.mn, g.st, g.s1, g.s3, g.nl⟩
        rcases g.kd with ⟨a, b, c⟩ | ⟨a, b⟩
        · exact .inl ⟨a, by show 1 ≤ n.N - 1; omega, by show n.N - 1 ≤ 12; omega⟩
        · omega
      · refine .inr ⟨?_, g.mn, g.st, g.ne⟩
        rcases g.kd with ⟨a, b⟩ | ⟨a, b, c⟩
        · omega
        · exact .inr ⟨a, by show 1 ≤ n.N - 1; omega, by show n.N - 1 ≤ (n.L.length : Int); omega⟩
    · exact h.ok y (by rw [e4]; exact List.mem_cons_of_mem _ hy)
  · have := h.nd
    rw [e4, List.length_cons] at this
    rw [e1, e2, List.length_cons]; exact this
end Go.Proofs.Ytgejdfnidjnjcaa.Vc
namespace Go.Proofs.Ytgejdfnidjnjcaa.Vc
open Go.RowKit
set_option linter.unusedVariables false
set_option linter.unusedSimpArgs false
theorem qoA (l : List qa) : q0L l = some (l.take 5) := by
  unfold q0L
  rw [if_pos ⟨by omega, by omega⟩]
  congr 1
  by_cases h : l.length ≤ 5
  · rw [show Int.toNat (min (l.length : Int) 5) - 0 = l.length by omega, List.take_length, List.take_of_length_le h]
  · rw [show Int.toNat (min (l.length : Int) 5) - 0 = 5 by omega]
theorem qjM (b0 : qb) (b1 : qd) (t3 : Bool) (l : List qa) (hl : l.length ≤ 1000) : qN (ze b0 b1 t3 l) ([], w64 ((l.length : Int) - 1)) = some l.reverse := by
  have hML : 100000 ≤ maxLen := by unfold maxLen; omega
  have key : ∀ (j : Nat) (w : List qa), j ≤ l.length → w = (l.drop j).reverse → qN (ze b0 b1 t3 l) (w, (j : Int) - 1) = some l.reverse := by
    intro j
    induction j with
    | zero =>
      intro w _ hw
      refine zB ?_
      unfold ze
      simp only
      rw [if_neg (by omega), hw]; rfl
    | succ j ih =>
      intro w hj hw
      obtain ⟨a, ha⟩ : ∃ a, l[j]? = some a := ⟨_, List.getElem?_eq_getElem (by omega)⟩
      have hd : l.drop j = a :: l.drop (j + 1) := by
        obtain ⟨h1, h2⟩ := List.getElem?_eq_some_iff.1 ha
        rw [List.drop_eq_getElem_cons h1, h2]
      have hwl : w.length ≤ 1000 := by rw [hw, List.length_reverse, List.length_drop]; omega
      have e : ((j + 1 : Nat) : Int) - 1 = (j : Int) := by omega
      rw [e, Qk (y := (w ++ [a], (j : Int) - 1)) (by
        unfold ze
        simp only
        rw [if_pos (by omega), if_pos ⟨by omega, by omega⟩, Int.toNat_natCast, ha, Option.bind_some, if_pos ⟨by omega, by omega⟩, Qs (by omega) (by omega)])]
      exact ih _ (by omega) (by rw [hd, List.reverse_cons, hw])
  rw [Qs (by omega) (by omega)]
  exact key l.length [] (Nat.le_refl _) (by simp)
theorem qeF (t3 : Bool) (l : List qa) (hl : l.length ≤ 20) (t12 t14 : List Bool) (set : Nat) (hs : set < 1000000) (t17 : Bool) (t114 : List Bool) (t115 t116 : Int) : qN (zq t3 l t12 t14 (set : Int) t17 t114 t115 t116 (l.length : Int)) (0, 0) = some ((mu l.length set : Nat) : Int) := by
  have h1 := q1W (step := zq t3 l t12 t14 (set : Int) t17 t114 t115 t116 (l.length : Int)) (fun i => (((mu i set : Nat) : Int), (i : Int))) 0 l.length (Nat.zero_le _) (e := ((mu l.length set : Nat) : Int)) (fun i _ hi => by
      have hm := qi6 i set
      have hp : 2 ^ i ≤ 2 ^ 20 := Nat.pow_le_pow_right (by decide) (by omega)
      have hb : J0 .and .i64 ((set : Int).fdiv (2 ^ min i IntKind.i64.bits)) 1 = if set.testBit i = true then 1 else 0 := by
        rw [qcP set i (by omega), show (1 : Int) = ((1 : Nat) : Int) from rfl, qaT _ _ (Nat.lt_of_le_of_lt (Nat.div_le_self _ _) (by omega)) (by decide), Nat.and_one_is_mod, Nat.testBit_eq_decide_div_mod_eq]
        have : set / 2 ^ i % 2 < 2 := Nat.mod_lt _ (by decide)
        by_cases h : set / 2 ^ i % 2 = 1
        · simp [h]
        · have : set / 2 ^ i % 2 = 0 := by omega
          simp [this]
      unfold zq
      simp only
      rw [if_pos (by omega), if_pos (by omega), Int.toNat_natCast, hb, Q9 hi (by omega), mu]
      congr 3
      have e1 : w64 (((mu i set : Nat) : Int) * 2) = ((mu i set : Nat) : Int) * 2 := Qs (by omega) (by omega)
      rw [e1]
      split
      · rw [Qs (by omega) (by omega)]; omega
      · rw [Qs (by omega) (by omega)]; omega) (by
      unfold zq
      simp only
      rw [if_neg (by omega)])
  exact h1
theorem qdw (t3 : Bool) (s : qd) (l : List qa) (hl : l.length ≤ 10) (n n' : qb) (hless : ∀ set, zW [] s l n 0 set = true → zW [] s l n' 0 set = true) :
    qN (qB t3 l (Za (2 ^ l.length) (zW [] s l.reverse n 0)) (Za (2 ^ l.length) (zW [] s l n' 0)) (Za (2 ^ l.length) (zW [] s l n 0)) ((2 ^ l.length : Nat) : Int)) 0 = some (.inr ()) := by
  have hp : 2 ^ l.length ≤ 2 ^ 10 := Nat.pow_le_pow_right (by decide) hl
  have h1 := q1W (step := qB t3 l (Za (2 ^ l.length) (zW [] s l.reverse n 0)) (Za (2 ^ l.length) (zW [] s l n' 0)) (Za (2 ^ l.length) (zW [] s l n 0)) ((2 ^ l.length : Nat) : Int)) (fun i => (i : Int)) 0 (2 ^ l.length) (Nat.zero_le _) (e := .inr ()) (fun i _ hi => by
      have hm := qi6 l.length i
      have hmu := qiI s l n 0 i hi
      unfold qB
      simp only [zX]
      rw [if_pos (by omega), if_pos ⟨by omega, by omega⟩, Int.toNat_natCast, J6 _ hi, Option.bind_some, qeF t3 l (by omega) _ _ i (by omega), Option.bind_some, if_pos ⟨by omega, by omega⟩, Int.toNat_natCast, J6 _ hm, Option.bind_some, hmu, if_neg (by simp), Q9 hi (by omega)]
      cases hs : zW [] s l n 0 i
      · simp
      · rw [if_pos rfl, if_pos ⟨by omega, by omega⟩, J6 _ hi, Option.bind_some, hless i hs]
        simp) (by
      unfold qB
      rw [if_neg (by omega)])
  exact h1
structure qjn (c : Zr) : Prop where
  h1 : c.Need.length ≤ 9223372036854775807
  h2 : c.L.length ≤ 9223372036854775807
theorem qf6 {c : Zr} (h : qjn c) : ∃ n l, QX c = some (n, l) ∧ q0S 3 6 n ∧ l.length ≤ 7 ∧ ∀ a ∈ l, a.Credits = 5 ∨ a.Credits = 6 ∨ a.Credits = 10 ∨ a.Credits = 3 := by
  obtain ⟨n, e1, hn⟩ := ql6 c.Need h.h1
  obtain ⟨l, e2, hl, hc⟩ := qoH hn c.L h.h2
  refine ⟨n, l, ?_, hn, hl, hc⟩
  unfold QX
  rw [e1, Option.bind_some, e2, Option.bind_some]
theorem q3j (n n' : qb) (s : qd) (l : List qa) (hl : l.length ≤ 5) (hless : ∀ set, zW [] s l n 0 set = true → zW [] s l n' 0 set = true) (t3 : Bool) :
    (if ((((Za (2 ^ l.length) (zW [] s l n 0)).length : Nat) : Int) != w64 ((1 : Int) * (2 : Int) ^ min l.length (Go.IntKind.bits Go.IntKind.i64))) = Bool.true then some Bool.false
        else if ((((Za (2 ^ l.reverse.length) (zW [] s l.reverse n 0)).length : Nat) : Int) != (((Za (2 ^ l.length) (zW [] s l n 0)).length : Nat) : Int)) = Bool.true then some Bool.false
        else if ((((Za (2 ^ l.length) (zW [] s l n' 0)).length : Nat) : Int) != (((Za (2 ^ l.length) (zW [] s l n 0)).length : Nat) : Int)) = Bool.true then some Bool.false
        else Option.bind (qN (qB t3 l (Za (2 ^ l.reverse.length) (zW [] s l.reverse n 0)) (Za (2 ^ l.length) (zW [] s l n' 0)) (Za (2 ^ l.length) (zW [] s l n 0)) (((Za (2 ^ l.length) (zW [] s l n 0)).length : Nat) : Int)) (0 : Int)) fun (a8 : Sum Unit Unit) =>
        Sum.elim (fun (a9 : Unit) => some Bool.false) (fun (a10 : Unit) => some t3) a8) = some t3 := by
  have hp : 2 ^ l.length ≤ 32 := Nat.le_trans (Nat.pow_le_pow_right (by decide) hl) (by decide)
  have hp1 : 1 ≤ 2 ^ l.length := Nat.one_le_two_pow
  have hpow : w64 ((1 : Int) * (2 : Int) ^ min l.length (IntKind.bits IntKind.i64)) = ((2 ^ l.length : Nat) : Int) := by
    rw [show min l.length (IntKind.bits IntKind.i64) = l.length from Nat.min_eq_left (by show l.length ≤ 64; omega), Int.one_mul, show ((2 : Int) ^ l.length) = ((2 ^ l.length : Nat) : Int) by simp]
    exact Qs (by omega) (by omega)
  simp only [zX, hpow, List.length_reverse, bne_self_eq_false, Bool.false_eq_true, if_false]
  rw [qdw t3 s l (by omega) n n' hless, Option.bind_some, Sum.elim_inr]
theorem qbz (c : Zr) (h : qjn c) (t3 : Bool) (hs : QL = some t3) : Zf c = some t3 := by
  obtain ⟨n, l0, e1, hn, hl0, _⟩ := qf6 h
  have hl : (l0.take 5).length ≤ 5 := by rw [List.length_take]; omega
  unfold Zf
  rw [hs, Option.bind_some, e1, Option.bind_some]
  simp only
  rw [qoA, Option.bind_some]
  generalize l0.take 5 = l at hl
  rw [qjM _ _ _ l (by omega), Option.bind_some]
  have hA := q8z hn (qn 1) l (by omega)
  have hB := q8z hn (qn 1) l.reverse (by rw [List.length_reverse]; omega)
  have hC : ∀ hk : n.Kind = 4 ∨ n.Kind = 2, 1 < n.N → qL ⟨n.Kind, w64 (n.N - 1), n.Min, n.Set, n.L⟩ (qn 1) l = some (Za (2 ^ l.length) (zW [] (qn 1) l (q43 n) 0), 0) := fun hk h1 => by
    have hN : n.N ≤ 1000000 := by
      have e4 : ndN n = n :: ndL n.L := Zh _
      rcases hn.ok n (by rw [e4]; exact List.mem_cons_self) with g | g
      · rcases g.kd with ⟨a, b, c⟩ | ⟨a, b⟩ <;> omega
      · rcases g.kd with ⟨a, b⟩ | ⟨a, b, c⟩
        · omega
        · have := hn.nd
          have := hn.l2
          have := q6w n.L
          rw [e4, List.length_cons] at *
          omega
    rw [Qs (by omega) (by omega)]
    exact q8z (qfM hn hk h1) _ _ (by omega)
  have z : ¬ ((0 : Int) != 0) = true := by simp
  have hlen : (0 : Int) ≤ ((l.length : Nat) : Int) := by omega
  rw [hA, hB]
  simp only [Option.bind_some]
  by_cases k4 : n.Kind = 4
  · rw [if_pos (by simpa using k4)]
    by_cases h1 : (1 : Int) < n.N
    · rw [if_pos h1, hC (.inl k4) h1, Option.bind_some]
      simp only
      rw [if_neg z, if_neg z, if_neg z, if_pos hlen]
      exact q3j n (q43 n) _ l hl (fun set hset => q9i _ l n (.inl k4) 0 set hset) t3
    · rw [if_neg h1, if_neg z, if_neg z, if_neg z, if_pos hlen]
      exact q3j n n _ l hl (fun set hset => hset) t3
  · rw [if_neg (by simpa using k4)]
    by_cases k2 : n.Kind = 2
    · rw [if_pos (by simpa using k2)]
      by_cases h1 : (1 : Int) < n.N
      · rw [if_pos h1, hC (.inr k2) h1, Option.bind_some]
        simp only
        rw [if_neg z, if_neg z, if_neg z, if_pos hlen]
        exact q3j n (q43 n) _ l hl (fun set hset => q9i _ l n (.inr k2) 0 set hset) t3
      · rw [if_neg h1, if_neg z, if_neg z, if_neg z, if_pos hlen]
        exact q3j n n _ l hl (fun set hset => hset) t3
    · rw [if_neg (by simpa using k2), if_neg z, if_neg z, if_neg z, if_pos hlen]
      exact q3j n n _ l hl (fun set hset => hset) t3
end Go.Proofs.Ytgejdfnidjnjcaa.Vc
namespace Go.Proofs.Ytgejdfnidjnjcaa.Vc
open Go.RowKit
set_option linter.unusedVariables false
set_option maxRecDepth 100000
theorem q6P {α : Type} (ds : List α) (o s : Nat) : ds.drop o = (ds.drop o).take s ++ ds.drop (o + s) := by
  rw [← List.drop_drop]; exact (List.take_append_drop s _).symm
theorem qeX {X : Type} {E : X → List D} {W : X → Prop} {sz : Nat} (hz : 0 < sz) : ∀ (m : Nat) (es : List D), es.length = m * sz → (∀ i, i < m → ∃ x, (es.drop (i * sz)).take sz = E x ∧ W x) → ∃ l : List X, es = l.flatMap E ∧ l.length = m ∧ ∀ x ∈ l, W x
  | 0, es, hl, _ => ⟨[], by rw [Nat.zero_mul] at hl; exact List.eq_nil_of_length_eq_zero hl, rfl, by simp⟩
  | m + 1, es, hl, h => by
    obtain ⟨x, hx, wx⟩ := h 0 (by omega)
    obtain ⟨l, g1, g2, g3⟩ := qeX hz m (es.drop sz) (by rw [List.length_drop, hl, Nat.add_mul]; omega) fun i hi => by
      obtain ⟨y, hy, wy⟩ := h (i + 1) (by omega)
      refine ⟨y, ?_, wy⟩
      rw [List.drop_drop, show sz + i * sz = (i + 1) * sz by rw [Nat.add_mul, Nat.one_mul, Nat.add_comm]]; exact hy
    refine ⟨x :: l, ?_, by simp [g2], fun y hy => ?_⟩
    · rw [Nat.zero_mul, List.drop_zero] at hx
      rw [List.flatMap_cons, ← g1, ← hx, List.take_append_drop]
    · rcases List.mem_cons.1 hy with rfl | hy
      · exact wx
      · exact g3 y hy
abbrev qrl : List TypeId := [26, 22, 3, 24, 23]
theorem qnw : qs2 Try.prog qrl = true := by kernel_rfl
theorem ty3 : ∀ (n : Nat) (ds : List D), q0l Try.prog n 3 ds → ∃ v : Int, ds = [D.int .i64 v] ∧ (Lit.int .i64 v).wf = true := by
  intro n ds h
  cases n with
  | zero => exact h.elim
  | succ n =>
    unfold q0l at h
    rw [Try.underlying3] at h
    obtain ⟨z, h1, h2⟩ := h
    exact ⟨z, h1, h2⟩
theorem cz3 : Try.prog.cellsOf 3 = 1 := by kernel_rfl
theorem qrN : ∀ (n : Nat) (ds : List D), q0l Try.prog n 22 ds → ∃ v : List Int, ds = [D.sl 1 v.length (v.flatMap eI)] ∧ (v.length ≤ maxLen ∧ ∀ y ∈ v, (Lit.int .i64 y).wf = true) := by
  intro n ds h
  cases n with
  | zero => exact h.elim
  | succ n =>
    unfold q0l at h
    rw [Try.underlying22] at h
    obtain ⟨m, es, h1, h2, h3, h4⟩ := h
    rw [cz3] at h1 h3 h4
    obtain ⟨l, g1, g2, g3⟩ := qeX (E := eI) (W := fun y => (Lit.int .i64 y).wf = true) (sz := 1) (by decide) m es h3 fun i hi => by
      obtain ⟨v, q1, q2⟩ := ty3 n _ (h4 i hi)
      exact ⟨v, q1.trans (rfl), q2⟩
    refine ⟨l, ?_, by omega, g3⟩
    rw [h1, g1, g2]
theorem qmA : Try.prog.cellsOf 23 = 3 := by kernel_rfl
theorem qto : ∀ (n : Nat) (ds : List D), q0l Try.prog n 23 ds → ∃ v : qjH Int, ds = [D.int .i64 v.a0, D.int .i64 v.a1, D.int .i64 v.a2] ∧ ((Lit.int .i64 v.a0).wf = true ∧ (Lit.int .i64 v.a1).wf = true ∧ (Lit.int .i64 v.a2).wf = true) := by
  intro n ds h
  cases n with
  | zero => exact h.elim
  | succ n =>
    unfold q0l at h
    rw [Try.underlying23] at h
    obtain ⟨hl, hf⟩ := h
    rw [qmA] at hl
    have h0 : q0l Try.prog n 3 ((ds.drop 0).take (Try.prog.cellsOf 3)) := by
      have := hf 0 (by decide)
      rwa [cz3] at this ⊢
    rw [cz3] at h0
    obtain ⟨v0, e0, w0⟩ := ty3 _ _ h0
    have c0 := q6P ds 0 1
    rw [e0] at c0
    have h1 : q0l Try.prog n 3 ((ds.drop 1).take (Try.prog.cellsOf 3)) := by
      have := hf 1 (by decide)
      rwa [cz3] at this ⊢
    rw [cz3] at h1
    obtain ⟨v1, e1, w1⟩ := ty3 _ _ h1
    have c1 := q6P ds 1 1
    rw [e1] at c1
    have h2 : q0l Try.prog n 3 ((ds.drop 2).take (Try.prog.cellsOf 3)) := by
      have := hf 2 (by decide)
      rwa [cz3] at this ⊢
    rw [cz3] at h2
    obtain ⟨v2, e2, w2⟩ := ty3 _ _ h2
    have c2 := q6P ds 2 1
    rw [e2] at c2
    have cl : ds.drop 3 = [] := List.drop_eq_nil_of_le (by omega)
    refine ⟨⟨v0, v1, v2⟩, ?_, ⟨w0, w1, w2⟩⟩
    have c : ds.drop 0 = _ := c0
    simp only [Nat.reduceAdd] at c0 c1 c2 c
    rw [c1, c2, cl] at c
    exact c
theorem qrZ : Try.prog.cellsOf 24 = 6 := by kernel_rfl
theorem quk : ∀ (n : Nat) (ds : List D), q0l Try.prog n 24 ds → ∃ v : qpS (qjH Int), ds = [D.int .i64 v.a0.a0, D.int .i64 v.a0.a1, D.int .i64 v.a0.a2, D.int .i64 v.a1.a0, D.int .i64 v.a1.a1, D.int .i64 v.a1.a2] ∧ (((Lit.int .i64 v.a0.a0).wf = true ∧ (Lit.int .i64 v.a0.a1).wf = true ∧ (Lit.int .i64 v.a0.a2).wf = true) ∧ ((Lit.int .i64 v.a1.a0).wf = true ∧ (Lit.int .i64 v.a1.a1).wf = true ∧ (Lit.int .i64 v.a1.a2).wf = true)) := by
  intro n ds h
  cases n with
  | zero => exact h.elim
  | succ n =>
    unfold q0l at h
    rw [Try.underlying24] at h
    obtain ⟨hl, hf⟩ := h
    rw [qrZ] at hl
    have h0 : q0l Try.prog n 23 ((ds.drop 0).take (Try.prog.cellsOf 23)) := by
      have := hf 0 (by decide)
      rwa [qmA] at this ⊢
    rw [qmA] at h0
    obtain ⟨v0, e0, w0⟩ := qto _ _ h0
    have c0 := q6P ds 0 3
    rw [e0] at c0
    have h1 : q0l Try.prog n 23 ((ds.drop 3).take (Try.prog.cellsOf 23)) := by
      have := hf 1 (by decide)
      rwa [qmA] at this ⊢
    rw [qmA] at h1
    obtain ⟨v1, e1, w1⟩ := qto _ _ h1
    have c1 := q6P ds 3 3
    rw [e1] at c1
    have cl : ds.drop 6 = [] := List.drop_eq_nil_of_le (by omega)
    refine ⟨⟨v0, v1⟩, ?_, ⟨w0, w1⟩⟩
    have c : ds.drop 0 = _ := c0
    simp only [Nat.reduceAdd] at c0 c1 c
    rw [c1, cl] at c
    exact c
theorem qsO : Try.prog.cellsOf 22 = 1 := by kernel_rfl
theorem qv4 : Try.prog.cellsOf 26 = 8 := by kernel_rfl
def q6M (x : Zr) : Prop := (x.Need.length ≤ maxLen ∧ ∀ y ∈ x.Need, (Lit.int .i64 y).wf = true) ∧ (x.L.length ≤ maxLen ∧ ∀ y ∈ x.L, (Lit.int .i64 y).wf = true) ∧ (((Lit.int .i64 x.Odd.a0.a0).wf = true ∧ (Lit.int .i64 x.Odd.a0.a1).wf = true ∧ (Lit.int .i64 x.Odd.a0.a2).wf = true) ∧ ((Lit.int .i64 x.Odd.a1.a0).wf = true ∧ (Lit.int .i64 x.Odd.a1.a1).wf = true ∧ (Lit.int .i64 x.Odd.a1.a2).wf = true))
theorem ty26 : ∀ (n : Nat) (ds : List D), q0l Try.prog n 26 ds → ∃ v : Zr, ds = [D.sl 1 v.Need.length (v.Need.flatMap eI), D.sl 1 v.L.length (v.L.flatMap eI), D.int .i64 v.Odd.a0.a0, D.int .i64 v.Odd.a0.a1, D.int .i64 v.Odd.a0.a2, D.int .i64 v.Odd.a1.a0, D.int .i64 v.Odd.a1.a1, D.int .i64 v.Odd.a1.a2] ∧ q6M v := by
  intro n ds h
  cases n with
  | zero => exact h.elim
  | succ n =>
    unfold q0l at h
    rw [Try.underlying26] at h
    obtain ⟨hl, hf⟩ := h
    rw [qv4] at hl
    have h0 : q0l Try.prog n 22 ((ds.drop 0).take (Try.prog.cellsOf 22)) := hf _ (List.mem_of_getElem? (i := 0) rfl)
    rw [qsO] at h0
    obtain ⟨v0, e0, w0⟩ := qrN _ _ h0
    have c0 := q6P ds 0 1
    rw [e0] at c0
    have h1 : q0l Try.prog n 22 ((ds.drop 1).take (Try.prog.cellsOf 22)) := hf _ (List.mem_of_getElem? (i := 1) rfl)
    rw [qsO] at h1
    obtain ⟨v1, e1, w1⟩ := qrN _ _ h1
    have c1 := q6P ds 1 1
    rw [e1] at c1
    have h2 : q0l Try.prog n 24 ((ds.drop 2).take (Try.prog.cellsOf 24)) := hf _ (List.mem_of_getElem? (i := 2) rfl)
    rw [qrZ] at h2
    obtain ⟨v2, e2, w2⟩ := quk _ _ h2
    have c2 := q6P ds 2 6
    rw [e2] at c2
    have cl : ds.drop 8 = [] := List.drop_eq_nil_of_le (by omega)
    refine ⟨⟨v0, v1, v2⟩, ?_, ⟨w0, w1, w2⟩⟩
    have c : ds.drop 0 = _ := c0
    simp only [Nat.reduceAdd] at c0 c1 c2 c
    rw [c1, c2, cl] at c
    exact c
end Go.Proofs.Ytgejdfnidjnjcaa.Vc
namespace Go.Proofs.Ytgejdfnidjnjcaa.Vc
open Go.RowKit
set_option maxRecDepth 100000
theorem qaX : QL = some true := by
  have h : q1p 40 = some true := by kernel_rfl
  exact q6i 40 _ h
theorem q9r (c : Zr) (w : q6M c) : Zf c = some true := by
  obtain ⟨h1, h2, _⟩ := w
  exact qbz c ⟨h1.1, h2.1⟩ true qaX
end Go.Proofs.Ytgejdfnidjnjcaa.Vc
namespace Go.Proofs.Ytgejdfnidjnjcaa
open Go.ChangeShapes Go.WideShapes Go.ChangeAt Go.RowKit Go.ChangeMaps
theorem own : ownKnob Try.prog.godebug = none := by kernel_rfl
theorem qkb : laidOutB Try.prog = true := by kernel_rfl
section
variable {H : Type} {enc : TypeId × Value → H} {P : Program} {W W' : World}
theorem qad (hl : laidOutB P = true) (hb : Below W.heap.size W W') : ∀ {ts : List TypeId} {vs : List Value} {ds : List (DataW H)} {ps : List MemPlace}, (∀ t ∈ ts, P.readableRec t = true ∧ t < P.types.size) →
    DataW.TrodAll enc P W 0 (fun _ => true) true ts vs ds ps → (∀ p ∈ ps, p.block < W.heap.size) → DataW.TrodAll enc P W' 0 (fun b => decide (b < W.heap.size)) true ts vs ds ps
  | [], _, _, _, _, h, _ => by
    obtain ⟨rfl, rfl, rfl⟩ := trodAll_nil h
    exact trodAll_mk0
  | t :: ts, _, _, _, ht, h, hlt => by
    obtain ⟨v, vs, d, ds, p, q, rfl, rfl, rfl, h1, h2⟩ := trodAll_cons h
    exact trodAll_cons_mk (Below.trod hl (ht t List.mem_cons_self).1 (ht t List.mem_cons_self).2 h1 hb (fun x hx => hlt x (List.mem_append_left _ hx)))
      (qad hl hb (fun u hu => ht u (List.mem_cons_of_mem _ hu)) h2 (fun x hx => hlt x (List.mem_append_right _ hx)))
theorem qhG {f : Func} {s : ChangeSpec} {apart fresh handsOn : Bool} {args : Array Value} {ds gs : List (DataW H)} {before : List MemPlace} {tb : TypeId} (hl : laidOutB P = true)
    (hts : ∀ t ∈ f.params.toList, P.readableRec t = true ∧ t < P.types.size) (hr : f.resultTypes = #[tb]) (htb : P.underlying tb = some .bool) (hv : s.vars = [])
    (h1 : (s.fn H (ds ++ gs)).results = [.lit (.bool true)]) (h2 : (s.fn H (ds ++ gs)).args = ds) (h3 : (s.fn H (ds ++ gs)).vars = [])
    (hW : DataW.Whole enc P f.params.toList s.vars apart W args.toList ds gs before) (hb : Below W.heap.size W W') :
    s.post enc P f apart fresh handsOn false W args (.bool true) W' := by
  have hlt : ∀ p ∈ before, p.block < W.heap.size := fun p hp => hW.lt p hp
  have hW2 := hW
  obtain ⟨pa, pv, hA, hV, hp, -, -⟩ := hW2
  rw [hv] at hV
  obtain ⟨rfl, rfl⟩ := trodVars_none hV
  rw [List.append_nil] at hp
  subst hp
  refine ⟨ds, [], before, [], before, [], hW, ?_, ?_, ?_, ?_, fun h => by cases h⟩
  · rw [h1, hr]
    exact trodAll_mk1 (shut_bool htb true)
  · rw [h2]
    exact qad hl hb hts hA hlt
  · rw [h3, hv]
    exact hV
  · exact World.keptBut_mono (fun p hp => ⟨hp, .inr (.inl hp)⟩) (hb.frame (· ∈ before))
end
end Go.Proofs.Ytgejdfnidjnjcaa
