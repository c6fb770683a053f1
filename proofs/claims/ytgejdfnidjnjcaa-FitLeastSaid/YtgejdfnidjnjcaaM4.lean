/- Part 4 of a proof. -/
import Derived.Test.YtgejdfnidjnjcaaM3
set_option linter.unusedVariables false
set_option linter.unusedSimpArgs false
set_option linter.defProp false
set_option linter.unusedSectionVars false
set_option linter.unnecessarySimpa false
namespace Go.Proofs.Ytgejdfnidjnjcaa.Vc
open Go.RowKit
set_option linter.unusedVariables false
set_option linter.unusedSimpArgs false
structure qsf (α : Type) where
  a0 : α
  a1 : α
structure qm9 (α : Type) where
  a0 : α
  a1 : α
  a2 : α
structure ZV where
  Need : List Int
  L : List Int
  Odd : qsf (qm9 Int)
structure qc where
  School : Int
  Code : ByteArray
def qe (x : qc) : List D := [D.int .i64 x.School, D.str x.Code]
theorem JG (x : qc) : qe x = [D.int .i64 x.School, D.str x.Code] := rfl
theorem q7A (x : qc) : (qe x).length = 2 := rfl
theorem q7j (x : qc) : qc.mk x.School x.Code = x := rfl
structure qb where
  Kind : Int
  N : Int
  Min : Int
  Set : List qc
  L : List qb
mutual
def qg : qb → List D
  | ⟨a0, a1, a2, a3, a4⟩ => [D.int .i64 a0, D.int .i64 a1, D.int .i64 a2, D.sl 2 a3.length (a3.flatMap qe), D.sl 5 a4.length (QA a4)]
def QA : List qb → List D
  | [] => []
  | x :: l => qg x ++ QA l
end
theorem q2A : ∀ l : List qb, QA l = l.flatMap qg
  | [] => rfl
  | x :: l => by rw [List.flatMap_cons, ← q2A l, QA]
theorem JJ (x : qb) : qg x = [D.int .i64 x.Kind, D.int .i64 x.N, D.int .i64 x.Min, D.sl 2 x.Set.length (x.Set.flatMap qe), D.sl 5 x.L.length (x.L.flatMap qg)] := by cases x; rw [qg, q2A]
theorem Je (x : qb) : (qg x).length = 5 := by rw [JJ]; rfl
theorem q9p (x : qb) : qb.mk x.Kind x.N x.Min x.Set x.L = x := by cases x; rfl
structure qa where
  Course : qc
  Credits : Int
  Grade : Int
  Day : Int
  Sources : List Int
  Bundle : Int
  Path : List Int
def qf (x : qa) : List D := [D.int .i64 x.Course.School, D.str x.Course.Code, D.int .i64 x.Credits, D.int .i64 x.Grade, D.int .i64 x.Day, D.sl 1 x.Sources.length (x.Sources.flatMap eI), D.int .i64 x.Bundle, D.sl 1 x.Path.length (x.Path.flatMap eI)]
theorem Z9 (x : qa) : qf x = [D.int .i64 x.Course.School, D.str x.Course.Code, D.int .i64 x.Credits, D.int .i64 x.Grade, D.int .i64 x.Day, D.sl 1 x.Sources.length (x.Sources.flatMap eI), D.int .i64 x.Bundle, D.sl 1 x.Path.length (x.Path.flatMap eI)] := rfl
theorem q3l (x : qa) : (qf x).length = 8 := rfl
theorem q3V (x : qa) : qa.mk x.Course x.Credits x.Grade x.Day x.Sources x.Bundle x.Path = x := rfl
structure qd where
  Worst : Int
  Best : Int
  Pass : Int
theorem q8w (x : qd) : qd.mk x.Worst x.Best x.Pass = x := rfl
structure ql where
  many : Int
  credits : Int
  fine : Bool
theorem q9q (x : ql) : ql.mk x.many x.credits x.fine = x := rfl
structure qh where
  L : List Int
  At : Int
theorem q7e (x : qh) : qh.mk x.L x.At = x := rfl
structure qj where
  Need : qb
  Deep : Int
def qn (x : qj) : List D := [D.int .i64 x.Need.Kind, D.int .i64 x.Need.N, D.int .i64 x.Need.Min, D.sl 2 x.Need.Set.length (x.Need.Set.flatMap qe), D.sl 5 x.Need.L.length (x.Need.L.flatMap qg), D.int .i64 x.Deep]
theorem q17 (x : qj) : qn x = [D.int .i64 x.Need.Kind, D.int .i64 x.Need.N, D.int .i64 x.Need.Min, D.sl 2 x.Need.Set.length (x.Need.Set.flatMap qe), D.sl 5 x.Need.L.length (x.Need.L.flatMap qg), D.int .i64 x.Deep] := rfl
theorem q7D (x : qj) : (qn x).length = 6 := rfl
theorem qdy : ∀ x : Int, (eI x).length = 1 := fun _ => rfl
theorem quH (v : List Int) : (v.flatMap eI).length = v.length := by rw [q1h qdy, Nat.mul_one]
theorem qjv (v : List Int) (i : Nat) : ld T ((v.flatMap eI).map C.d) (i) 3 = (v[i]?).bind fun x => some (.c (.d (D.int .i64 x))) := by rw [qaB qdy v i _ (by decide)]; cases v[i]? with | none => rfl | some x => rfl
theorem quf (v : List Int) (a : Int) : (v.flatMap eI).map C.d ++ [C.d (D.int .i64 a)] = ((v ++ [a]).flatMap eI).map C.d := by have h := qa4 (E := eI) v a; exact h
theorem qqT (v : List Int) (i : Nat) (a : Int) : spr ((v.flatMap eI).map C.d) (i) [C.d (D.int .i64 a)] = ((v.set i a).flatMap eI).map C.d := by have h := qab qdy v i a; rw [Nat.mul_one] at h; exact h
theorem qol (m : Nat) : (List.replicate m [C.d (D.int .i64 0)]).flatten = ((List.replicate m 0).flatMap eI).map C.d := qeS (E := eI) 0 (by rfl) m
theorem q4J : ∀ x : qc, (qe x).length = 2 := q7A
theorem qpk (v : List qc) : (v.flatMap qe).length = v.length * 2 := by rw [q1h q4J]
theorem qet (v : List qc) (i : Nat) : ld T ((v.flatMap qe).map C.d) (i * 2) 52 = (v[i]?).bind fun x => some (.agg [.d (D.int .i64 x.School), .d (D.str x.Code)]) := by rw [q9U q4J v i _ (by decide) (by decide)]; cases v[i]? with | none => rfl | some x => rw [Option.bind_some, Option.bind_some, JG]; rfl
theorem qnX (v : List qc) (a_School : Int) (a_Code : ByteArray) : (v.flatMap qe).map C.d ++ [C.d (D.int .i64 a_School), C.d (D.str a_Code)] = ((v ++ [(qc.mk a_School a_Code)]).flatMap qe).map C.d := by have h := qa4 (E := qe) v (qc.mk a_School a_Code); rw [JG] at h; exact h
theorem qn6 (v : List qc) (i : Nat) (a_School : Int) (a_Code : ByteArray) : spr ((v.flatMap qe).map C.d) (i * 2) [C.d (D.int .i64 a_School), C.d (D.str a_Code)] = ((v.set i (qc.mk a_School a_Code)).flatMap qe).map C.d := by have h := qab q4J v i (qc.mk a_School a_Code); rw [JG] at h; exact h
theorem qow (v : List qc) (a : Nat) : (v.flatMap qe).drop (a * 2) = (v.drop a).flatMap qe := by have h := qcb q4J v a; exact h
theorem qqO (v : List qc) (a : Nat) : (v.flatMap qe).take (a * 2) = (v.take a).flatMap qe := by have h := qcw q4J v a; exact h
theorem qlS (v : List qc) (a : Nat) : ((v.flatMap qe).map C.d).drop (a * 2) = ((v.drop a).flatMap qe).map C.d := by rw [← List.map_drop, qow]
theorem qlE (v : List qc) (a : Nat) : ((v.flatMap qe).map C.d).take (a * 2) = ((v.take a).flatMap qe).map C.d := by rw [← List.map_take, qqO]
theorem qnK (v w : List qc) (i : Nat) : spl (v.flatMap qe) (i * 2) (w.flatMap qe) = (spl v i w).flatMap qe := by have h := qfG q4J w v i; exact h
theorem qaw : ∀ x : qb, (qg x).length = 5 := Je
theorem qpr (v : List qb) : (v.flatMap qg).length = v.length * 5 := by rw [q1h qaw]
theorem qdY (v : List qb) (i : Nat) : ld T ((v.flatMap qg).map C.d) (i * 5) 31 = (v[i]?).bind fun x => some (.agg [.d (D.int .i64 x.Kind), .d (D.int .i64 x.N), .d (D.int .i64 x.Min), .d (D.sl 2 x.Set.length (x.Set.flatMap qe)), .d (D.sl 5 x.L.length (x.L.flatMap qg))]) := by rw [q9U qaw v i _ (by decide) (by decide)]; cases v[i]? with | none => rfl | some x => rw [Option.bind_some, Option.bind_some, JJ]; rfl
theorem qor (v : List qb) (a_Kind : Int) (a_N : Int) (a_Min : Int) (a_Set : List qc) (a_L : List qb) : (v.flatMap qg).map C.d ++ [C.d (D.int .i64 a_Kind), C.d (D.int .i64 a_N), C.d (D.int .i64 a_Min), C.d (D.sl 2 a_Set.length (a_Set.flatMap qe)), C.d (D.sl 5 a_L.length (a_L.flatMap qg))] = ((v ++ [(qb.mk a_Kind a_N a_Min a_Set a_L)]).flatMap qg).map C.d := by have h := qa4 (E := qg) v (qb.mk a_Kind a_N a_Min a_Set a_L); rw [JJ] at h; exact h
theorem qno (v : List qb) (i : Nat) (a_Kind : Int) (a_N : Int) (a_Min : Int) (a_Set : List qc) (a_L : List qb) : spr ((v.flatMap qg).map C.d) (i * 5) [C.d (D.int .i64 a_Kind), C.d (D.int .i64 a_N), C.d (D.int .i64 a_Min), C.d (D.sl 2 a_Set.length (a_Set.flatMap qe)), C.d (D.sl 5 a_L.length (a_L.flatMap qg))] = ((v.set i (qb.mk a_Kind a_N a_Min a_Set a_L)).flatMap qg).map C.d := by have h := qab qaw v i (qb.mk a_Kind a_N a_Min a_Set a_L); rw [JJ] at h; exact h
theorem q6p : ∀ x : qa, (qf x).length = 8 := q3l
theorem qop (v : List qa) : (v.flatMap qf).length = v.length * 8 := by rw [q1h q6p]
theorem qeb (v : List qa) (i : Nat) : ld T ((v.flatMap qf).map C.d) (i * 8) 54 = (v[i]?).bind fun x => some (.agg [.d (D.int .i64 x.Course.School), .d (D.str x.Course.Code), .d (D.int .i64 x.Credits), .d (D.int .i64 x.Grade), .d (D.int .i64 x.Day), .d (D.sl 1 x.Sources.length (x.Sources.flatMap eI)), .d (D.int .i64 x.Bundle), .d (D.sl 1 x.Path.length (x.Path.flatMap eI))]) := by rw [q9U q6p v i _ (by decide) (by decide)]; cases v[i]? with | none => rfl | some x => rw [Option.bind_some, Option.bind_some, Z9]; rfl
theorem qeE (v : List qa) (i : Nat) : ld T ((v.flatMap qf).map C.d) (i * 8 + 5) 22 = (v[i]?).bind fun x => some (.c (.d (D.sl 1 x.Sources.length (x.Sources.flatMap eI)))) := by rw [qan q6p v i 5 _ (by decide) (by decide)]; cases v[i]? with | none => rfl | some x => rw [Option.bind_some, Option.bind_some, Z9]; rfl
theorem qrF (v : List qa) (ys : List C) : dzc [0, 0, 0, 0, 0, 1, 0, 1] [] ((v.flatMap qf).map C.d ++ ys) = (v.flatMap qf).map C.d ++ dzc [0, 0, 0, 0, 0, 1, 0, 1] [] ys := qkY q6p [0, 0, 0, 0, 0, 1, 0, 1] rfl v ys
theorem qj6 (s : S) (v : List qa) (lo hi : Option Operand) : xsl T s 32 (.c (.d (.sl 8 v.length (v.flatMap qf)))) lo hi = qrX s qf 8 v (s.bd lo 0) (s.bd hi v.length) := qqd q6p v lo hi (by rfl) (by rfl) (by decide)
theorem qde : ∀ x : Bool, (eB x).length = 1 := fun _ => rfl
theorem qu6 (v : List Bool) : (v.flatMap eB).length = v.length := by rw [q1h qde, Nat.mul_one]
theorem qjD (v : List Bool) (i : Nat) : ld T ((v.flatMap eB).map C.d) (i) 4 = (v[i]?).bind fun x => some (.c (.d (D.bool x))) := by rw [qaB qde v i _ (by decide)]; cases v[i]? with | none => rfl | some x => rfl
theorem qo8 (v : List Bool) (i : Nat) (a : Bool) : spr ((v.flatMap eB).map C.d) (i) [C.d (D.bool a)] = ((v.set i a).flatMap eB).map C.d := by have h := qab qde v i a; rw [Nat.mul_one] at h; exact h
theorem qog (m : Nat) : (List.replicate m [C.d (D.bool false)]).flatten = ((List.replicate m false).flatMap eB).map C.d := qeS (E := eB) false (by rfl) m
theorem qai : ∀ x : qj, (qn x).length = 6 := q7D
theorem qm8 (v : List qj) : (v.flatMap qn).length = v.length * 6 := by rw [q1h qai]
theorem qcq (v : List qj) (i : Nat) : ld T ((v.flatMap qn).map C.d) (i * 6 + 3) 28 = (v[i]?).bind fun x => some (.c (.d (D.sl 2 x.Need.Set.length (x.Need.Set.flatMap qe)))) := by rw [qan qai v i 3 _ (by decide) (by decide)]; cases v[i]? with | none => rfl | some x => rw [Option.bind_some, Option.bind_some, q17]; rfl
theorem qmE (v : List qj) (a_Need_Kind : Int) (a_Need_N : Int) (a_Need_Min : Int) (a_Need_Set : List qc) (a_Need_L : List qb) (a_Deep : Int) : (v.flatMap qn).map C.d ++ [C.d (D.int .i64 a_Need_Kind), C.d (D.int .i64 a_Need_N), C.d (D.int .i64 a_Need_Min), C.d (D.sl 2 a_Need_Set.length (a_Need_Set.flatMap qe)), C.d (D.sl 5 a_Need_L.length (a_Need_L.flatMap qg)), C.d (D.int .i64 a_Deep)] = ((v ++ [(qj.mk (qb.mk a_Need_Kind a_Need_N a_Need_Min a_Need_Set a_Need_L) a_Deep)]).flatMap qn).map C.d := by have h := qa4 (E := qn) v (qj.mk (qb.mk a_Need_Kind a_Need_N a_Need_Min a_Need_Set a_Need_L) a_Deep); rw [q17] at h; exact h
theorem qkJ : ∀ x : ByteArray, (eS x).length = 1 := fun _ => rfl
theorem qk3 (v : List ByteArray) (i : Nat) : ld T ((v.flatMap eS).map C.d) (i) 9 = (v[i]?).bind fun x => some (.c (.d (D.str x))) := by rw [qaB qkJ v i _ (by decide)]; cases v[i]? with | none => rfl | some x => rfl
theorem q01 (v w : List Int) : (v.flatMap eI = w.flatMap eI) = (v = w) := propext ⟨fun h => (q1i qdy (by decide) (fun x y h => by injection h with h; injection h) _ _) h, fun h => by rw [h]⟩
theorem q7l : ∀ x y : qc, qe x = qe y → x = y := by
  rintro ⟨a_0, a_1⟩ ⟨b_0, b_1⟩ h
  simp only [JG, List.cons.injEq, D.int.injEq, D.bool.injEq, D.str.injEq, D.sl.injEq, true_and, and_true, q01] at h
  simp only [h]
theorem ZN (v w : List qc) : (v.flatMap qe = w.flatMap qe) = (v = w) := propext ⟨fun h => (q1i q4J (by decide) q7l _ _) h, fun h => by rw [h]⟩
mutual
theorem q4v : ∀ x y : qb, qg x = qg y → x = y
  | ⟨a0, a1, a2, a3, a4⟩, ⟨b0, b1, b2, b3, b4⟩, h => by
    rw [qg, qg] at h
    simp only [List.cons.injEq, D.int.injEq, D.bool.injEq, D.str.injEq, D.sl.injEq, true_and, and_true, q01, ZN] at h
    have hl : a4 = b4 := q3H a4 b4 (by simp only [h])
    subst hl
    simp only [h]
theorem q3H : ∀ v w : List qb, QA v = QA w → v = w
  | [], [], _ => rfl
  | [], y :: w, e => by
    have := congrArg List.length e
    rw [QA, QA, List.length_append, Je] at this
    first | omega | (simp at this; done) | (simp at this; omega)
  | x :: v, [], e => by
    have := congrArg List.length e
    rw [QA, QA, List.length_append, Je] at this
    first | omega | (simp at this; done) | (simp at this; omega)
  | x :: v, y :: w, e => by
    rw [QA, QA] at e
    obtain ⟨h1, h2⟩ := List.append_inj e (by rw [Je, Je])
    rw [q4v x y h1, q3H v w h2]
end
theorem J6 (v w : List qb) : (v.flatMap qg = w.flatMap qg) = (v = w) := propext ⟨fun h => (q1i qaw (by decide) q4v _ _) h, fun h => by rw [h]⟩
theorem q3Q : ∀ x y : qa, qf x = qf y → x = y := by
  rintro ⟨⟨a_0_0, a_0_1⟩, a_1, a_2, a_3, a_4, a_5, a_6⟩ ⟨⟨b_0_0, b_0_1⟩, b_1, b_2, b_3, b_4, b_5, b_6⟩ h
  simp only [Z9, List.cons.injEq, D.int.injEq, D.bool.injEq, D.str.injEq, D.sl.injEq, true_and, and_true, q01, ZN, J6] at h
  simp only [h]
theorem Jl (v w : List qa) : (v.flatMap qf = w.flatMap qf) = (v = w) := propext ⟨fun h => (q1i q6p (by decide) q3Q _ _) h, fun h => by rw [h]⟩
theorem q0Z (v w : List Bool) : (v.flatMap eB = w.flatMap eB) = (v = w) := propext ⟨fun h => (q1i qde (by decide) (fun x y h => by injection h with h; injection h) _ _) h, fun h => by rw [h]⟩
theorem q7m : ∀ x y : qj, qn x = qn y → x = y := by
  rintro ⟨⟨a_0_0, a_0_1, a_0_2, a_0_3, a_0_4⟩, a_1⟩ ⟨⟨b_0_0, b_0_1, b_0_2, b_0_3, b_0_4⟩, b_1⟩ h
  simp only [q17, List.cons.injEq, D.int.injEq, D.bool.injEq, D.str.injEq, D.sl.injEq, true_and, and_true, q01, ZN, J6, Jl, q0Z] at h
  simp only [h]
theorem ZI (v w : List qj) : (v.flatMap qn = w.flatMap qn) = (v = w) := propext ⟨fun h => (q1i qai (by decide) q7m _ _) h, fun h => by rw [h]⟩
theorem q1o (v w : List ByteArray) : (v.flatMap eS = w.flatMap eS) = (v = w) := propext ⟨fun h => (q1i qkJ (by decide) (fun x y h => by injection h with h; injection h) _ _) h, fun h => by rw [h]⟩
def q0R (v : Bool) : R := R.c (C.d (D.bool v))
theorem qo1 (id : Nat) (M : List (Int × Bool)) : AO.mapR (R.fg id) (mpB (q83 .i64) q0R M) = mpB (q83 .i64) q0R M := qdD (vE := q0R) (fun v => rfl) M
theorem qr5 (ids : List Nat) (M : List (Int × Bool)) : AO.mapR (qij ids) (mpB (q83 .i64) q0R M) = mpB (q83 .i64) q0R M := qdD (vE := q0R) (fun v => rfl) M
theorem qrw (M : List (Int × Bool)) : (mpB (q83 .i64) q0R M).Rs.flatMap R.refs0 = [] := qjr (fun v => rfl) M
theorem qkf (M : List (Int × Bool)) : ((mpE (q83 .i64) q0R M 0).all fun q => plK (Kd.int .i64) q.1) = true := qch (fun k r i => rfl) M 0
theorem qmI (ok : Bool) (k : Int) (M : List (Int × Bool)) : lkq ok (R.c (C.d (D.bool false))) (fnd (Value.int .i64 k) (mpE (q83 .i64) q0R M 0) 0) = some (tt2 (R.c (C.d (D.bool (qaK false M k)))) ok (qeF M k)) := qt7 (vE := q0R) (kE := (q83 .i64)) (ql7 _) (false) ok k M
theorem qlM (k : Int) (v : Bool) (M : List (Int × Bool)) : mup (Kd.int .i64) (Value.int .i64 k) (R.c (C.d (D.bool v))) (.ob (mpB (q83 .i64) q0R M)) = some (.ob (mpB (q83 .i64) q0R (qbB M k v))) := qtq (vE := q0R) (kE := (q83 .i64)) (ql7 _) (fun a => rfl) k v M
theorem qpl (s : S) (p : Nat) : q1e T s p 49 none = some (.c (.hd .map p), s.up [(p, .ob (mpB (q83 .i64) q0R ([] : List (Int × Bool))))]) := rfl
theorem qqu (s : S) (p : Nat) : q1e T s p 89 none = some (.c (.hd .map p), s.up [(p, .ob (.mp [] 0))]) := rfl
end Go.Proofs.Ytgejdfnidjnjcaa.Vc
namespace Go.Proofs.Ytgejdfnidjnjcaa.Vc
open Go.RowKit
set_option linter.defProp false
set_option linter.unusedVariables false
theorem qt8 : qbe Try.prog 52 = true := by kernel_rfl
def by0 := JA_ @k3 (JA_ @z3 (JA_ @b3 (JA_ @o3 (JA_ @q3 (JA_ @k4 (JA_ @z4 (JA_ @b4 (JA_ @o4 (@q4)))))))))
def by1 := JA_ @k9 (JA_ @z9 (@q9))
def by2 := JA_ @q21 (JA_ @k22 (JA_ @z22 (JA_ @o22 (@q22))))
def by3 := JA_ @k26 (JA_ @z26 (JA_ @q26 (JA_ @k28 (JA_ @z28 (JA_ @q28 (JA_ @k29 (JA_ @z29 (JA_ @o29 (JA_ @q29 (JA_ @k31 (JA_ @z31 (JA_ @b31 (JA_ @o31 (JA_ @q31 (JA_ @k32 (@q32))))))))))))))))
def by4 := JA_ @k37 (JA_ @z37 (JA_ @o37 (JA_ @q37 (JA_ @k39 (JA_ @q39 (@q40))))))
def by5 := @k49
def by6 := JA_ @k52 (JA_ @z52 (JA_ @b52 (JA_ @o52 (JA_ @q52 (JA_ @k54 (JA_ @z54 (JA_ @b54 (JA_ @o54 (@q54)))))))))
def by7 := JA_ @k61 (JA_ @z61 (JA_ @k62 (JA_ @q62 (JA_ @k63 (JA_ @z63 (JA_ @o63 (JA_ @q63 (JA_ @q66 (JA_ @k67 (JA_ @z67 (JA_ @o67 (JA_ @k68 (JA_ @z68 (@o68))))))))))))))
def by8 := JA_ @k70 (JA_ @z70 (JA_ @o70 (JA_ @q70 (@q72))))
def by9 := JA_ @q81 (JA_ @k83 (JA_ @o83 (JA_ @q84 (JA_ @k85 (@o85)))))
def qwX := JA_ @k89 (JA_ @q89 (JA_ @k92 (JA_ @z92 (JA_ @o92 (JA_ @k94 (JA_ @z94 (JA_ @o94 (@k95))))))))
def qxM := JA_ @z95 (JA_ @o95 (JA_ @q95 (JA_ @q97 (@qx7))))
def qyV := JA_ @qym (JA_ @qxA (JA_ @qwO (JA_ @qxw (JA_ @qy7 (JA_ @qxJ (@qwL))))))
def qz2 := @qz6
def qyw := JA_ @qyN (JA_ @qxk (@qyr))
def qya := @qy8
def qz4 := JA_ @qt8 (JA_ @pw4 (JA_ @pw6 (JA_ @pw7 (JA_ @pw9 (JA_ @quU (JA_ @qv2 (JA_ @qwa (JA_ @qv5 (@qw3)))))))))
def qwT := JA_ @qwG (JA_ @qvO (JA_ @qwy (JA_ @quV (JA_ @qvF (JA_ @qwx (JA_ @qvm (JA_ @qvC (JA_ @qta (JA_ @qvy (JA_ @qvn (JA_ @qt9 (JA_ @qwB (JA_ @qw2 (JA_ @qtV (JA_ @quQ (JA_ @qut (JA_ @qv1 (JA_ @qvM (JA_ @qwC (JA_ @qws (JA_ @qsS (JA_ @qwH (JA_ @qv7 (JA_ @qtE (JA_ @qw9 (JA_ @qvb (JA_ @quT (JA_ @qvi (JA_ @qpm (JA_ @qvv (JA_ @quX (JA_ @qv8 (JA_ @quk (JA_ @qwz (JA_ @qwD (JA_ @qwt (JA_ @qwA (JA_ @qvr (@qvj)))))))))))))))))))))))))))))))))))))))
def qyq := JA_ @qw1 (JA_ @qvt (JA_ @qvV (JA_ @qrV (JA_ @qvf (JA_ @qw6 (JA_ @quP (JA_ @qwe (JA_ @qvz (JA_ @qwv (JA_ @qww (JA_ @qwE (JA_ @qwh (JA_ @qrZ (JA_ @quO (JA_ @qwu (JA_ @qvc (JA_ @qw0 (JA_ @qvh (JA_ @qwk (JA_ @quY (JA_ @qvx (JA_ @quR (JA_ @qvs (JA_ @qva (JA_ @qw5 (JA_ @qvX (JA_ @qvu (JA_ @qvZ (JA_ @qwq (JA_ @qvD (JA_ @qvA (JA_ @qyB (@qxC)))))))))))))))))))))))))))))))))
def qxv := JA_ @qug (JA_ @qt1 (JA_ @que (JA_ @qu2 (JA_ @qtU (JA_ @qsG (JA_ @qun (JA_ @qt2 (@qsL))))))))
def qyl := JA_ @qtv (JA_ @qtR (JA_ @qtr (JA_ @qtC (JA_ @qtj (JA_ @qu9 (JA_ @qu3 (JA_ @qtd (JA_ @qsC (JA_ @qsH (JA_ @qtu (JA_ @qtY (JA_ @qsK (@qqX)))))))))))))
def qwY := JA_ @qpa (JA_ @qrI (JA_ @qoT (JA_ @qpn (JA_ @qmR (JA_ @qqb (JA_ @qoC (JA_ @qqK (JA_ @qmL (JA_ @qqo (JA_ @qpc (JA_ @qq2 (JA_ @qrQ (JA_ @qpW (JA_ @qqf (JA_ @qrC (JA_ @qod (JA_ @qlW (JA_ @qqU (JA_ @qpN (JA_ @qmW (JA_ @qma (JA_ @qnk (JA_ @qmM (JA_ @qof (JA_ @qoy (JA_ @qqF (JA_ @qpq (JA_ @qpx (JA_ @qo9 (JA_ @qr3 (JA_ @qoj (JA_ @qrR (JA_ @qq5 (JA_ @qpD (@qpO)))))))))))))))))))))))))))))))))))
def qy3 := @qp6
def qyi := JA_ @qup (JA_ @qsy (JA_ @qsA (JA_ @qqR (JA_ @qr1 (JA_ @qrx (JA_ @qpQ (JA_ @qpK (JA_ @qmP (JA_ @qpY (JA_ @qon (JA_ @qrO (JA_ @qqi (JA_ @qqw (JA_ @qqj (JA_ @qpi (JA_ @qmn (JA_ @qlC (JA_ @qlR (JA_ @qlV (JA_ @qoI (JA_ @qp4 (JA_ @qpU (JA_ @qnz (JA_ @qra (JA_ @qnZ (JA_ @qqH (JA_ @qpC (JA_ @qrj (JA_ @qnr (JA_ @qnB (JA_ @qrq (JA_ @qrP (JA_ @qom (@qrg))))))))))))))))))))))))))))))))))
def qye := JA_ @qtm (JA_ @qu4 (JA_ @quB (JA_ @qpe (JA_ @qoW (JA_ @qri (JA_ @qoo (JA_ @qp9 (JA_ @qlx (JA_ @qqv (JA_ @qpH (JA_ @qoR (JA_ @qr6 (JA_ @qpy (JA_ @qpF (JA_ @qoz (JA_ @qlO (JA_ @qn7 (JA_ @qms (JA_ @qm3 (JA_ @qqg (JA_ @qph (JA_ @qrL (JA_ @qmt (JA_ @qrh (JA_ @qqZ (JA_ @qoO (JA_ @qqz (JA_ @qqr (JA_ @qmY (JA_ @qnJ (JA_ @qoh (JA_ @qoq (@qou)))))))))))))))))))))))))))))))))
def bt0 := JA_ @quH (JA_ @qjv (JA_ @quf (JA_ @qqT (JA_ @qol (JA_ @qpk (JA_ @qet (JA_ @qnX (JA_ @qn6 (JA_ @qlS (JA_ @qlE (@qnK)))))))))))
def bt1 := JA_ @qpr (JA_ @qdY (JA_ @qor (@qno)))
def bt2 := JA_ @qop (JA_ @qeb (JA_ @qeE (@qrF)))
def bt3 := JA_ @qj6 (JA_ @qu6 (JA_ @qjD (JA_ @qo8 (JA_ @qog (@qm8)))))
def bt4 := JA_ @qcq (JA_ @qmE (@qk3))
def bt5 := JA_ @qo1 (JA_ @qr5 (JA_ @qrw (JA_ @qkf (JA_ @qmI (JA_ @qlM (JA_ @qpl (JA_ @qqu (JA_ @q9p (JA_ @q8w (JA_ @q7j (JA_ @q3V (JA_ @q9q (@q7e)))))))))))))
def bA := JA_ @bx0 (JA_ @bx1 (JA_ @bx2 (JA_ @bx3 (JA_ @bx4 (JA_ @bx5 (JA_ @bx6 (JA_ @bx7 (JA_ @bx8 (JA_ @bx9 (JA_ @qxn (JA_ @qyA (JA_ @qyx (JA_ @qx9 (JA_ @qxQ (JA_ @qx5 (JA_ @qxI (JA_ @qxF (JA_ @qy1 (JA_ @qyW (JA_ @qyf (JA_ @qwS (JA_ @qyG (JA_ @qxx (JA_ @qyv (JA_ @qxK (JA_ @bz0 (JA_ @by0 (JA_ @by1 (JA_ @by2 (JA_ @by3 (JA_ @by4 (JA_ @by5 (JA_ @by6 (JA_ @by7 (JA_ @by8 (JA_ @by9 (JA_ @qwX (JA_ @qxM (JA_ @qyV (JA_ @qz2 (JA_ @qyw (JA_ @qya (JA_ @qz4 (JA_ @qwT (JA_ @qyq (JA_ @qxv (JA_ @qyl (JA_ @qwY (JA_ @qy3 (JA_ @qyi (JA_ @qye (JA_ @bt0 (JA_ @bt1 (JA_ @bt2 (JA_ @bt3 (JA_ @bt4 (@bt5)))))))))))))))))))))))))))))))))))))))))))))))))))))))))
def bZ := JA_ @List.length_append.{0} (JA_ @List.length_set.{0} (JA_ @q3M (JA_ @List.length_replicate.{0} (JA_ @List.length_cons.{0} (JA_ @List.length_nil.{0} (JA_ @Nat.zero_add (JA_ @List.flatMap_cons.{0,0} (JA_ @List.flatMap_nil.{0,0} (JA_ @List.map_cons.{0,0} (JA_ @List.map_nil.{0,0} (JA_ @eI.eq_1 (JA_ @eS.eq_1 (JA_ @List.cons_append.{0} (JA_ @List.nil_append.{0} (JA_ @List.append_nil.{0} (JA_ @List.flatMap_append.{0,0} (JA_ @List.map_append.{0,0} (JA_ @JJ (@Z9)))))))))))))))))))
theorem gA {P : Prop} (h : P := by simp -implicitDefEqProofs (maxSteps := 10000000) only [bA, Int.reduceToNat, Int.reduceLT, Int.reduceLE, Int.reduceAdd, Int.reduceSub, Int.reduceMul, Int.reduceNeg, Int.reduceEq, Int.reduceNe, Int.reduceBEq, Int.reduceBNe, Nat.reduceLT, Nat.reduceAdd, Nat.reduceMul, Nat.reduceSub, Nat.reduceEqDiff, Nat.reduceLeDiff, Nat.reduceBEq, Nat.reduceBNe, ↓reduceIte, reduceCtorEq, pure, bind, w64, zc, Jx, Option.or_some, Option.or_none, Option.none_or, Option.some_or, *] <;> simp only [rL, dL, bR, bZ, Nat.reduceAdd]) : P := h
end Go.Proofs.Ytgejdfnidjnjcaa.Vc
namespace Go.Proofs.Ytgejdfnidjnjcaa.Vc
open Go.RowKit
set_option linter.unusedVariables false
set_option linter.unusedSimpArgs false
section
variable {τ ε : Type} {step : τ → Option (τ ⊕ ε)}
theorem zV {x y : τ} (h : step x = some (.inl y)) : qN step x = qN step y := by
  rw [qeK, h]; rfl
theorem zt {x : τ} {e : ε} (h : step x = some (.inr e)) : qN step x = some e := by
  rw [qeK, h]; rfl
theorem Zp {e : ε} (st : Nat → τ) (i0 n : Nat) (h0 : i0 ≤ n) (h : ∀ i, i0 ≤ i → i < n → step (st i) = some (.inl (st (i + 1)))) (hn : step (st n) = some (.inr e)) : qN step (st i0) = some e := by
  have key : ∀ j i, j + i = n → i0 ≤ i → qN step (st i) = some e := by
    intro j
    induction j with
    | zero => intro i hi _; rw [Nat.zero_add] at hi; subst hi; exact zt hn
    | succ j ih => intro i hi h1; rw [zV (h i h1 (by omega))]; exact ih (i + 1) (by omega) (by omega)
  exact key (n - i0) i0 (by omega) (Nat.le_refl _)
def qdX {α β ε : Type} (g : β → α → β ⊕ ε) (fin : β → ε) : List α → β → ε
  | [], b => fin b
  | a :: l, b => match g b a with
    | .inl b' => qdX g fin l b'
    | .inr e => e
theorem qek {α β : Type} (l : List α) (st : β → Nat → τ) (g : β → α → β ⊕ ε) (fin : β → ε)
    (h : ∀ b i a, l[i]? = some a → step (st b i) = some (match g b a with | .inl b' => .inl (st b' (i + 1)) | .inr e => .inr e)) (hn : ∀ b, step (st b l.length) = some (.inr (fin b))) (b : β) : qN step (st b 0) = some (qdX g fin l b) := by
  have key : ∀ (r : List α) (i : Nat) (b : β), r.length + i = l.length → (∀ j, r[j]? = l[i + j]?) → qN step (st b i) = some (qdX g fin r b) := by
    intro r
    induction r with
    | nil =>
      intro i b hi _
      have hi : i = l.length := by simpa using hi
      subst hi; exact zt (hn b)
    | cons a r ih =>
      intro i b hi hr
      have ha : l[i]? = some a := by have := hr 0; simpa using this.symm
      have h1 := h b i a ha
      unfold qdX
      cases hg : g b a with
      | inl b' =>
        rw [hg] at h1
        rw [zV h1]
        refine ih (i + 1) b' (by simp at hi; omega) fun j => ?_
        have := hr (j + 1)
        rw [show i + 1 + j = i + (j + 1) by omega, ← this]; rfl
      | inr e =>
        rw [hg] at h1
        exact zt h1
  exact key l 0 b (by simp) (by simp)
theorem qb4 {α : Type} (l : List α) (st : Nat → τ) (p : α → Option ε) (d : ε)
    (h : ∀ i a, l[i]? = some a → step (st i) = some (match p a with | some e => .inr e | none => .inl (st (i + 1)))) (hn : step (st l.length) = some (.inr d)) : qN step (st 0) = some ((l.findSome? p).getD d) := by
  have h1 := qek (ε := ε) (β := Unit) l (fun _ i => st i) (fun _ a => match p a with | some e => .inr e | none => .inl ()) (fun _ => d) (fun b i a ha => by
    rw [h i a ha]; cases p a <;> rfl) (fun _ => hn) ()
  rw [h1]
  congr 1
  have : ∀ l : List α, qdX (ε := ε) (fun (_ : Unit) a => match p a with | some e => .inr e | none => .inl ()) (fun _ => d) l () = (l.findSome? p).getD d := by
    intro l
    induction l with
    | nil => rfl
    | cons a l ih =>
      unfold qdX
      rw [List.findSome?_cons]
      cases p a with
      | none => simpa using ih
      | some e => rfl
  exact this l
def q1b {α β ε : Type} (g : Nat → β → α → β ⊕ ε) (fin : β → ε) : List α → Nat → β → ε
  | [], _, b => fin b
  | a :: l, i, b => match g i b a with
    | .inl b' => q1b g fin l (i + 1) b'
    | .inr e => e
theorem JA {α β : Type} (l : List α) (st : β → Nat → τ) (g : Nat → β → α → β ⊕ ε) (fin : β → ε)
    (h : ∀ b i a, l[i]? = some a → step (st b i) = some (match g i b a with | .inl b' => .inl (st b' (i + 1)) | .inr e => .inr e)) (hn : ∀ b, step (st b l.length) = some (.inr (fin b))) (b : β) : qN step (st b 0) = some (q1b g fin l 0 b) := by
  have key : ∀ (r : List α) (i : Nat) (b : β), r.length + i = l.length → (∀ j, r[j]? = l[i + j]?) → qN step (st b i) = some (q1b g fin r i b) := by
    intro r
    induction r with
    | nil =>
      intro i b hi _
      have hi : i = l.length := by simpa using hi
      subst hi; exact zt (hn b)
    | cons a r ih =>
      intro i b hi hr
      have ha : l[i]? = some a := by have := hr 0; simpa using this.symm
      have h1 := h b i a ha
      unfold q1b
      cases hg : g i b a with
      | inl b' =>
        rw [hg] at h1
        rw [zV h1]
        refine ih (i + 1) b' (by simp at hi; omega) fun j => ?_
        have := hr (j + 1)
        rw [show i + 1 + j = i + (j + 1) by omega, ← this]; rfl
      | inr e =>
        rw [hg] at h1
        exact zt h1
  exact key l 0 b (by simp) (by simp)
end
theorem Jd {α : Type} {l : List α} {i : Nat} {a : α} (h : l[i]? = some a) : i < l.length := (List.getElem?_eq_some_iff.1 h).1
theorem zZ {n : Int} (h0 : -9223372036854775808 ≤ n) (h1 : n ≤ 9223372036854775807) : w64 n = n := wi n h0 h1
theorem qT {i n : Nat} (h : i < n) (hn : n ≤ 9223372036854775807) : w64 ((i : Int) + 1) = ((i + 1 : Nat) : Int) := by
  rw [zZ (by omega) (by omega)]; omega
end Go.Proofs.Ytgejdfnidjnjcaa.Vc
namespace Go.Proofs.Ytgejdfnidjnjcaa.Vc
open Go.RowKit
set_option linter.unusedVariables false
set_option linter.unusedSimpArgs false
theorem qcY (a : Nat) (h : a < 9223372036854775808) : IntKind.i64.wrap (a : Int) = a := wi _ (by omega) (by omega)
theorem qbb (a : Nat) : BitVec.ofInt IntKind.i64.bits (a : Int) = BitVec.ofNat 64 a := by
  show BitVec.ofInt 64 (a : Int) = _
  simp
theorem qcx (a b : Nat) (ha : a < 9223372036854775808) (hb : b < 9223372036854775808) : Jz .and .i64 (a : Int) (b : Int) = ((a &&& b : Nat) : Int) := by
  unfold Jz
  simp only [qbb]
  have h1 : (BitVec.ofNat 64 a &&& BitVec.ofNat 64 b).toNat = a &&& b := by
    rw [BitVec.toNat_and, BitVec.toNat_ofNat, BitVec.toNat_ofNat, Nat.mod_eq_of_lt (by omega), Nat.mod_eq_of_lt (by omega)]
  have h2 : a &&& b ≤ a := Nat.and_le_left
  show IntKind.i64.wrap (((BitVec.ofNat 64 a &&& BitVec.ofNat 64 b).toNat : Nat) : Int) = _
  rw [h1]
  exact qcY _ (by omega)
theorem qes (a b : Nat) (ha : a < 9223372036854775808) (hb : b < 9223372036854775808) : Jz .andNot .i64 (a : Int) (b : Int) = ((a ^^^ (a &&& b) : Nat) : Int) := by
  unfold Jz
  simp only [qbb]
  have h1 : (BitVec.ofNat 64 a &&& ~~~BitVec.ofNat 64 b).toNat = a ^^^ (a &&& b) := by
    apply Nat.eq_of_testBit_eq
    intro i
    rw [BitVec.testBit_toNat, BitVec.getLsbD_and, BitVec.getLsbD_not, BitVec.getLsbD_ofNat, BitVec.getLsbD_ofNat, Nat.testBit_xor, Nat.testBit_and]
    by_cases hi : i < 64
    · simp only [hi, decide_true, Bool.true_and]
      cases a.testBit i <;> cases b.testBit i <;> rfl
    · have : a.testBit i = false := Nat.testBit_lt_two_pow (Nat.lt_of_lt_of_le ha (by
        have := Nat.pow_le_pow_right (n := 2) (by decide) (show 63 ≤ i by omega)
        exact this))
      simp [hi, this]
  have h2 : a ^^^ (a &&& b) < 2 ^ 63 := Nat.xor_lt_two_pow (by omega) (Nat.lt_of_le_of_lt Nat.and_le_left (by omega))
  show IntKind.i64.wrap (((BitVec.ofNat 64 a &&& ~~~BitVec.ofNat 64 b).toNat : Nat) : Int) = _
  rw [h1]
  exact qcY _ (by omega)
theorem qcO (a k : Nat) (hk : k ≤ 64) : ((a : Int)).fdiv (2 ^ min k IntKind.i64.bits) = ((a / 2 ^ k : Nat) : Int) := by
  have : min k IntKind.i64.bits = k := Nat.min_eq_left hk
  rw [this]
  show ((a : Int)).fdiv (2 ^ k) = _
  rw [show ((2 : Int) ^ k) = ((2 ^ k : Nat) : Int) by simp]
  rw [Int.fdiv_eq_ediv_of_nonneg _ (Int.natCast_nonneg _)]
  simp
theorem qhl (a k : Nat) (ha : a < 9223372036854775808) (hk : k ≤ 64) : (Jz .and .i64 ((a : Int).fdiv (2 ^ min k IntKind.i64.bits)) 1 == 1) = a.testBit k := by
  rw [qcO a k hk, show (1 : Int) = ((1 : Nat) : Int) from rfl, qcx _ _ (Nat.lt_of_le_of_lt (Nat.div_le_self _ _) ha) (by decide), Nat.and_one_is_mod, Nat.testBit_eq_decide_div_mod_eq]
  have : a / 2 ^ k % 2 < 2 := Nat.mod_lt _ (by decide)
  by_cases h : a / 2 ^ k % 2 = 1
  · simp [h]
  · have : a / 2 ^ k % 2 = 0 := by omega
    simp [this]
def QH {α : Type} (N : Nat) (g : Nat → α) : List α := (List.range N).map g
theorem qM {α : Type} (N : Nat) (g : Nat → α) : (QH N g).length = N := by simp [QH]
theorem Zq {α : Type} {N : Nat} (g : Nat → α) {i : Nat} (h : i < N) : (QH N g)[i]? = some (g i) := by
  unfold QH; rw [List.getElem?_map, List.getElem?_range h]; rfl
theorem ZF {α : Type} {N : Nat} {f g : Nat → α} (h : ∀ k, k < N → f k = g k) : QH N f = QH N g := by
  unfold QH
  refine List.map_congr_left fun k hk => h k (List.mem_range.1 hk)
theorem q1j {α : Type} (N : Nat) (c : α) : List.replicate N c = QH N (fun _ => c) := by
  unfold QH
  induction N with
  | zero => rfl
  | succ n ih => rw [List.range_succ, List.map_append, ← ih, List.replicate_succ']; rfl
def q75 {α : Type} (g : Nat → α) (i : Nat) (v : α) : Nat → α := fun k => if k = i then v else g k
theorem QJ {α : Type} (N : Nat) (g : Nat → α) (i : Nat) (v : α) : (QH N g).set i v = QH N (q75 g i v) := by
  refine List.ext_getElem? fun k => ?_
  rw [List.getElem?_set, qM]
  by_cases hk : k < N
  · rw [Zq _ hk, Zq _ hk]
    unfold q75
    by_cases h : i = k
    · subst h; simp [hk]
    · rw [if_neg h, if_neg (fun h2 => h h2.symm)]
  · have e1 : (QH N g)[k]? = none := List.getElem?_eq_none (by rw [qM]; omega)
    have e2 : (QH N (q75 g i v))[k]? = none := List.getElem?_eq_none (by rw [qM]; omega)
    rw [e1, e2]
    split
    · rw [if_neg (by omega)]
    · rfl
theorem q8J {α : Type} (g : Nat → α) (i : Nat) (v : α) : q75 g i v i = v := by simp [q75]
theorem q5g {α : Type} (g : Nat → α) (i : Nat) (v w : α) : q75 (q75 g i v) i w = q75 g i w := by
  funext k; unfold q75; split <;> rfl
theorem qe4 {α : Type} (f : Nat → α) (c : α) {i0 i : Nat} (h : i0 ≤ i) : q75 (fun k => if i0 ≤ k ∧ k < i then f k else c) i (f i) = fun k => if i0 ≤ k ∧ k < i + 1 then f k else c := by
  funext k
  unfold q75
  by_cases hk : k = i
  · subst hk; rw [if_pos rfl, if_pos ⟨h, Nat.lt_succ_self _⟩]
  · rw [if_neg hk]
    show (if i0 ≤ k ∧ k < i then f k else c) = _
    by_cases h : i0 ≤ k ∧ k < i
    · rw [if_pos h, if_pos ⟨h.1, by omega⟩]
    · rw [if_neg h, if_neg (by omega)]
end Go.Proofs.Ytgejdfnidjnjcaa.Vc
namespace Go.Proofs.Ytgejdfnidjnjcaa.Vc
open Go.RowKit
set_option linter.unusedVariables false
set_option linter.unusedSimpArgs false
set_option maxRecDepth 20000
set_option maxHeartbeats 8000000
set_option linter.defProp false
theorem lo4 : okL 4 qaQ := qA (qi bd4) (by kernel_rfl) (by kernel_rfl)
def cx4 := JA_ @qaQ.eq_1 (JA_ @Try.f4.eq_1 @bd4)
theorem qrl : lbO 4 11 = qgD := Qd (qi bd4) rfl
theorem qq9 : okL 4 qgD := zd lo4 (List.mem_of_getElem? (i := 0) (by kernel_rfl))
theorem qrr : lbO 4 16 = qg5 := Qd (qi bd4) rfl
theorem qnY : okL 4 qg5 := zd lo4 (List.mem_of_getElem? (i := 1) (by kernel_rfl))
theorem qqB : lbO 4 21 = qif := Qd (qi bd4) rfl
theorem qoP : okL 4 qif := zd lo4 (List.mem_of_getElem? (i := 2) (by kernel_rfl))
theorem qrB : lbO 4 25 = qhh := Qd (qi bd4) rfl
theorem qoV : okL 4 qhh := zd lo4 (List.mem_of_getElem? (i := 3) (by kernel_rfl))
theorem qoE : lbO 4 41 = qgg := Qd (qi bd4) rfl
theorem qnV : okL 4 qgg := zd lo4 (List.mem_of_getElem? (i := 4) (by kernel_rfl))
theorem lo6 : okL 6 qnx := qA (qi bd6) (by kernel_rfl) (by kernel_rfl)
def cx6 := JA_ @qnx.eq_1 (JA_ @Try.f6.eq_1 @bd6)
theorem qyF : okL 16 qfA := qA (qi qtA) (by kernel_rfl) (by kernel_rfl)
def qxh := JA_ @qfA.eq_1 (JA_ @Try.f16.eq_1 @qtA)
theorem q1n : ev 16 0 [] [] = some (R.tup [R.c (C.d (D.sl 8 3 [D.int Go.IntKind.i64 1, D.str (ByteArray.mk (List.toArray [65, 49])), D.int Go.IntKind.i64 5, D.int Go.IntKind.i64 60, D.int Go.IntKind.i64 0, D.sl 1 0 [], D.int Go.IntKind.i64 0, D.sl 1 0 [], D.int Go.IntKind.i64 1, D.str (ByteArray.mk (List.toArray [66, 49])), D.int Go.IntKind.i64 6, D.int Go.IntKind.i64 90, D.int Go.IntKind.i64 0, D.sl 1 0 [], D.int Go.IntKind.i64 0, D.sl 1 0 [], D.int Go.IntKind.i64 1, D.str (ByteArray.mk (List.toArray [65, 49])), D.int Go.IntKind.i64 5, D.int Go.IntKind.i64 40, D.int Go.IntKind.i64 0, D.sl 1 0 [], D.int Go.IntKind.i64 0, D.sl 1 0 []])), R.agg [C.d (D.int Go.IntKind.i64 1), C.d (D.int Go.IntKind.i64 0), C.d (D.int Go.IntKind.i64 50), C.d (D.sl 2 1 [D.int Go.IntKind.i64 1, D.str (ByteArray.mk (List.toArray [65, 49]))]), C.d (D.sl 5 0 [])], R.agg [C.d (D.int Go.IntKind.i64 2), C.d (D.int Go.IntKind.i64 10), C.d (D.int Go.IntKind.i64 0), C.d (D.sl 2 2 [D.int Go.IntKind.i64 1, D.str (ByteArray.mk (List.toArray [65, 49])), D.int Go.IntKind.i64 1, D.str (ByteArray.mk (List.toArray [66, 49]))]), C.d (D.sl 5 0 [])]], []) :=
  by
    rw [qB qtA qwG.2.2.2 qyF]
    have := qxh; exact gA
theorem lo9 : okL 9 qll := qA (qi bd9) (by kernel_rfl) (by kernel_rfl)
def cx9 := JA_ @qll.eq_1 (JA_ @Try.f9.eq_1 @bd9)
noncomputable def q3X (school : Int) : Option qd := if (school == 2) = Bool.true then some (qd.mk 5 1 3) else if (school == 3) = Bool.true then some (qd.mk 0 20 10) else some (qd.mk 0 100 50)
noncomputable def qq (school : Int) : qd := if (school == 2) = Bool.true then qd.mk 5 1 3 else if (school == 3) = Bool.true then qd.mk 0 20 10 else qd.mk 0 100 50
theorem q9t (school : Int) : q3X school = some (qq school) := by
  unfold q3X qq
  simp only [Qg]
theorem q24 : ∀ (school : Int), ev 9 0 [rI school] [] = some (R.agg [dI (qq school).Worst, dI (qq school).Best, dI (qq school).Pass], []) :=
  fun school => by
    have h : ev 9 0 [rI school] [] = (q3X school).bind (fun (e : qd) => some (R.agg [dI e.Worst, dI e.Best, dI e.Pass], [])) := by
      rw [qB bd9 pw9.2.2.2 lo9]
      have := cx9; have := @q3X.eq_1; exact gA
    rw [q9t] at h
    exact h
theorem quE : okL 11 qbm := qA (qi qqI) (by kernel_rfl) (by kernel_rfl)
def qtO := JA_ @qbm.eq_1 (JA_ @Try.f11.eq_1 @qqI)
theorem qo7 : lbO 11 9 = qfk := Qd (qi qqI) rfl
theorem qrG : okL 11 qfk := zd quE (List.mem_of_getElem? (i := 0) (by kernel_rfl))
theorem qng : lbO 11 14 = qcc := Qd (qi qqI) rfl
theorem qlL : okL 11 qcc := zd quE (List.mem_of_getElem? (i := 1) (by kernel_rfl))
theorem qxG : okL 10 qg1 := qA (qi quI) (by kernel_rfl) (by kernel_rfl)
def qyj := JA_ @qg1.eq_1 (JA_ @Try.f10.eq_1 @quI)
theorem qw4 : okL 21 qdg := qA (qi qso) (by kernel_rfl) (by kernel_rfl)
def qvS := JA_ @qdg.eq_1 (JA_ @Try.f21.eq_1 @qso)
theorem qrs : lbO 21 6 = qfl := Qd (qi qso) rfl
theorem qoG : okL 21 qfl := zd qw4 (List.mem_of_getElem? (i := 0) (by kernel_rfl))
theorem qvY : okL 35 qbf := qA (qi qqY) (by kernel_rfl) (by kernel_rfl)
def quJ := JA_ @qbf.eq_1 (JA_ @Try.f35.eq_1 @qqY)
theorem qeO : raO 35 4 = q8u := qoF (qi qqY) rfl
theorem qdu : rbO 35 4 = q78 := qqs (qi qqY) rfl
theorem qdr : okL 35 q8u ∧ okL 35 q78 := qox (key := 0) (q := (q8u, q78)) qvY (List.mem_of_getElem? (i := 0) (by kernel_rfl))
theorem qi0 : qQ (rbO 35 4) = 4 := by rw [qdu]; exact qq1
theorem qkO : ∀ k s, XE2 evo 35 k (raO 35 4) s = XE2 evo 35 k q8u s := fun _ _ => by rw [qeO]
theorem ql1 : ∀ k s, XE2 evo 35 k (rbO 35 4) s = XE2 evo 35 k q78 s := fun _ _ => by rw [qdu]
theorem qxa : okL 52 qhq := qA (qi qtB) (by kernel_rfl) (by kernel_rfl)
def qzj := JA_ @qhq.eq_1 (JA_ @Try.f52.eq_1 @qtB)
noncomputable def q1c (n : qb) : Option Unit :=
  some ()
noncomputable def q4u (n : qb) : Unit :=
  ()
theorem q7I (n : qb) : q1c n = some (q4u n) := by
  unfold q1c q4u
  simp only [Qg]
theorem q94 : ∀ (n_Kind n_N n_Min : Int) (n_Set : List qc) (n_L : List qb), ev 52 0 [R.agg [dI n_Kind, dI n_N, dI n_Min, dL 2 qe n_Set, dL 5 qg n_L]] [] = some (R.c (C.fn 68 [] [dP 0]), [(0, B.blk 31 [dI n_Kind, dI n_N, dI n_Min, dL 2 qe n_Set, dL 5 qg n_L])]) :=
  fun n_Kind n_N n_Min n_Set n_L => by
    have h : ev 52 0 [R.agg [dI n_Kind, dI n_N, dI n_Min, dL 2 qe n_Set, dL 5 qg n_L]] [] = (q1c (qb.mk n_Kind n_N n_Min n_Set n_L)).bind (fun (e : Unit) => some (R.c (C.fn 68 [] [dP 0]), [(0, B.blk 31 [dI n_Kind, dI n_N, dI n_Min, dL 2 qe n_Set, dL 5 qg n_L])])) := by
      rw [qB qtB qwt.2.2.2 qxa]
      have := qzj; have := @q1c.eq_1; exact gA
    rw [q7I] at h
    exact h
theorem qyH : okL 68 qip := qA (qi qtL) (by kernel_rfl) (by kernel_rfl)
def qwU := JA_ @qip.eq_1 (JA_ @Try.f68.eq_1 @qtL)
theorem qtX : okL 69 qdA := qA (qi qrE) (by kernel_rfl) (by kernel_rfl)
def qsw := JA_ @qdA.eq_1 (JA_ @Try.f69.eq_1 @qrE)
theorem qkU : lbO 69 4 = qcy := Qd (qi qrE) rfl
theorem qlf : okL 69 qcy := zd qtX (List.mem_of_getElem? (i := 0) (by kernel_rfl))
noncomputable def Jb (t9 : Int) (t10 : Int) (t102 : Int) (t103 : Int) (t104 : List qc) (t105 : List qb) (deepest : Int) (ok : Bool) : Option (Unit ⊕ (List qb × Int)) := if 100 < t9 then some (Sum.inl ()) else if 1 ≤ Go.maxLen then some (Sum.inr ([qb.mk t10 t102 t103 t104 t105], max deepest t9)) else none
theorem q6y : ∀ (t9 t10 t102 t103 : Int) (t104 : List qc) (t105 : List qb) (deepest : Int) (ok : Bool), evr 35 (raO 35 4) (rbO 35 4) 4 [R.any, R.any, rP 0, rP 1, rP 2, R.any, R.any, R.any, R.any, rI t9, R.agg [dI t10, dI t102, dI t103, dL 2 qe t104, dL 5 qg t105], R.any, R.any, R.any, R.any, R.any, R.any, R.any, R.any, R.any, R.any, R.any, R.any, R.any, R.any, R.any, R.any] [(0, B.blk 29 [C.nils]), (1, B.blk 3 [dI deepest]), (2, B.blk 4 [dB ok]), (3, B.ob (AO.lp 35 (R.any :: R.any :: rP 0 :: rP 1 :: rP 2 :: q4w) [9, 10] (raO 35 4) (rbO 35 4) Go.LoopState.ready none))] = (Jb t9 t10 t102 t103 t104 t105 deepest ok).bind (Sum.elim (fun (e : Unit) => some (rB Bool.false, [(0, B.blk 29 [C.nils]), (1, B.blk 3 [dI 0]), (2, B.blk 4 [dB Bool.false]), (3, B.ob (AO.lp 35 (R.any :: R.any :: rP 0 :: rP 1 :: rP 2 :: q4w) [9, 10] (raO 35 4) (rbO 35 4) Go.LoopState.done (some Go.Code.ret)))])) (fun (e : List qb × Int) => some (rB Bool.true, [(0, B.blk 29 [dO 4 5 e.1.length]), (1, B.blk 3 [dI e.2]), (2, B.blk 4 [dB ok]), (3, B.ob (AO.lp 35 (R.any :: R.any :: rP 0 :: rP 1 :: rP 2 :: q4w) [9, 10] (raO 35 4) (rbO 35 4) Go.LoopState.ready none)), (4, bR 31 5 qg e.1)]))) :=
  fun t9 t10 t102 t103 t104 t105 deepest ok => by
    rw [qgp qeO qdu (by decide) qlc qdr.1 qdr.2]
    have := quJ; have := @qkO; have := @ql1; have := @q8u.eq_1; have := @q78.eq_1; have := @Jb.eq_1; have := @qi0; exact gA
noncomputable def Zx (t9 : Int) (t10 : Int) (t102 : Int) (t103 : Int) (t104 : List qc) (t105 : List qb) (w4 : List qb) (deepest : Int) (ok : Bool) : Option (Unit ⊕ (List qb × Int)) := if 100 < t9 then some (Sum.inl ()) else if (((w4.length : Nat) : Int) == 10000) = Bool.true then some (Sum.inl ()) else if w4.length + 1 ≤ Go.maxLen ∧ (w4.length + 1) * 72 ≤ 140737488355328 then some (Sum.inr (w4 ++ [qb.mk t10 t102 t103 t104 t105], max deepest t9)) else none
theorem q59 : ∀ (t9 t10 t102 t103 : Int) (t104 : List qc) (t105 w4 : List qb) (deepest : Int) (ok : Bool) (w4_len : Nat), w4_len = w4.length → evr 35 (raO 35 4) (rbO 35 4) 4 [R.any, R.any, rP 0, rP 1, rP 2, R.any, R.any, R.any, R.any, rI t9, R.agg [dI t10, dI t102, dI t103, dL 2 qe t104, dL 5 qg t105], R.any, R.any, R.any, R.any, R.any, R.any, R.any, R.any, R.any, R.any, R.any, R.any, R.any, R.any, R.any, R.any] [(0, B.blk 29 [dO 4 5 w4_len]), (1, B.blk 3 [dI deepest]), (2, B.blk 4 [dB ok]), (3, B.ob (AO.lp 35 (R.any :: R.any :: rP 0 :: rP 1 :: rP 2 :: q4w) [9, 10] (raO 35 4) (rbO 35 4) Go.LoopState.ready none)), (4, bR 31 5 qg w4)] = (Zx t9 t10 t102 t103 t104 t105 w4 deepest ok).bind (Sum.elim (fun (e : Unit) => some (rB Bool.false, [(0, B.blk 29 [C.nils]), (1, B.blk 3 [dI 0]), (2, B.blk 4 [dB Bool.false]), (3, B.ob (AO.lp 35 (R.any :: R.any :: rP 0 :: rP 1 :: rP 2 :: q4w) [9, 10] (raO 35 4) (rbO 35 4) Go.LoopState.done (some Go.Code.ret)))])) (fun (e : List qb × Int) => some (rB Bool.true, [(0, B.blk 29 [dO 4 5 e.1.length]), (1, B.blk 3 [dI e.2]), (2, B.blk 4 [dB ok]), (3, B.ob (AO.lp 35 (R.any :: R.any :: rP 0 :: rP 1 :: rP 2 :: q4w) [9, 10] (raO 35 4) (rbO 35 4) Go.LoopState.ready none)), (4, bR 31 5 qg e.1)]))) :=
  by
  intro t9 t10 t102 t103 t104 t105 w4 deepest ok w4_len h0
  subst h0
  rw [qgp qeO qdu (by decide) qlc qdr.1 qdr.2]
  have := quJ; have := @qkO; have := @ql1; have := @q8u.eq_1; have := @q78.eq_1; have := @Zx.eq_1; have := @qi0; exact gA
noncomputable def Ql (x : (qb × Int × List qb × Int × Bool)) : List R × List (Nat × B) := ([R.agg [C.d (D.int .i64 x.1.Kind), C.d (D.int .i64 x.1.N), C.d (D.int .i64 x.1.Min), C.d (D.sl 2 x.1.Set.length (x.1.Set.flatMap qe)), C.d (D.sl 5 x.1.L.length (x.1.L.flatMap qg))], R.c (C.d (D.int .i64 x.2.1)), R.c (C.hd .yield 0)], [(0, B.ob (AO.lp 35 [R.any, R.any, R.c (C.ptr 1 0), R.c (C.ptr 2 0), R.c (C.ptr 3 0), R.any, R.any, R.any, R.any, R.any, R.any, R.any, R.any, R.any, R.any, R.any, R.any, R.any, R.any, R.any, R.any, R.any, R.any, R.any, R.any, R.any, R.any] [9, 10] (raO 35 4) (rbO 35 4) Go.LoopState.ready none)), (1, B.blk 29 [C.own 4 5 0 x.2.2.1.length]), (2, B.blk 3 [C.d (D.int .i64 x.2.2.2.1)]), (3, B.blk 4 [C.d (D.bool x.2.2.2.2)]), (4, B.row 31 5 ((x.2.2.1.flatMap qg).map C.d))])
noncomputable def QC : (Int ⊕ (List qb × Int × Bool)) → R × List (Nat × B) := Sum.elim (fun (e : Int) => (R.c (C.d (D.bool Bool.false)), [(0, B.ob (AO.lp 35 [R.any, R.any, R.c (C.ptr 1 0), R.c (C.ptr 2 0), R.c (C.ptr 3 0), R.any, R.any, R.any, R.any, R.any, R.any, R.any, R.any, R.any, R.any, R.any, R.any, R.any, R.any, R.any, R.any, R.any, R.any, R.any, R.any, R.any, R.any] [9, 10] (raO 35 4) (rbO 35 4) Go.LoopState.done (some Go.Code.ret))), (1, B.blk 29 [C.nils]), (2, B.blk 3 [C.d (D.int .i64 e)]), (3, B.blk 4 [C.d (D.bool Bool.false)])])) (fun (e : List qb × Int × Bool) => (R.c (C.d (D.bool Bool.true)), [(0, B.ob (AO.lp 35 [R.any, R.any, R.c (C.ptr 1 0), R.c (C.ptr 2 0), R.c (C.ptr 3 0), R.any, R.any, R.any, R.any, R.any, R.any, R.any, R.any, R.any, R.any, R.any, R.any, R.any, R.any, R.any, R.any, R.any, R.any, R.any, R.any, R.any, R.any] [9, 10] (raO 35 4) (rbO 35 4) Go.LoopState.ready none)), (1, B.blk 29 [C.own 4 5 0 e.1.length]), (2, B.blk 3 [C.d (D.int .i64 e.2.1)]), (3, B.blk 4 [C.d (D.bool e.2.2)]), (4, B.row 31 5 ((e.1.flatMap qg).map C.d))]))
noncomputable def Qx (rF : (qb × Int × List qb × Int × Bool) → Option (Int ⊕ (List qb × Int × Bool))) (deep : Int) (t15 : List qb) (t16 : Int) : (List qb × Int × Bool × Int) → Option ((List qb × Int × Bool × Int) ⊕ (Int ⊕ (List qb × Int × Bool))) | (w4, b2, b3, t17) => if t17 < t16 then if 0 ≤ t17 ∧ t17 < ((t15.length : Nat) : Int) then Option.bind t15[Int.toNat t17]? fun (a2 : qb) => Option.bind (rF (a2, (w64 (deep + 1), (w4, (b2, b3))))) fun (a3 : Sum Int (Prod (List qb) (Prod Int Bool))) => Sum.elim (fun (a4 : Int) => some (Sum.inr (Sum.inl a4))) (fun (a5 : Prod (List qb) (Prod Int Bool)) => some (Sum.inl (a5.1, a5.2.1, a5.2.2, w64 (t17 + 1)))) a3 else none else some (Sum.inr (Sum.inr (w4, b2, b3)))
theorem q3k (rE : Orc) (rF : (qb × Int × List qb × Int × Bool) → Option (Int ⊕ (List qb × Int × Bool))) (hF : ∀ y, rE (.fn 69) 4 (Ql y).1 (Ql y).2 = (rF y).bind fun e => some (QC e)) (hM : ∀ g k a G, g ≠ 69 → rE (.fn g) k a G = ev g k a G) (hR : ∀ g asg bd k a G, rE (.rd g asg bd) k a G = evr g asg bd k a G) : ∀ (w4 : List qb) (b2 : Int) (b3 : Bool) (deep : Int) (t15 : List qb) (t16 t17 : Int) (w4_len : Nat), w4_len = w4.length → XL2 rE 69 4 4 ⟨[(1, rI deep), (2, R.c (C.hd .yield 0)), (15, rL 5 qg t15), (16, rI t16), (17, rI t17)], [(0, B.ob (AO.lp 35 (R.any :: R.any :: rP 1 :: rP 2 :: rP 3 :: q4w) [9, 10] (raO 35 4) (rbO 35 4) Go.LoopState.ready none)), (1, B.blk 29 [dO 4 5 w4_len]), (2, B.blk 3 [dI b2]), (3, B.blk 4 [dB b3]), (4, bR 31 5 qg w4)], 5, 28⟩ = (qN (Qx rF deep t15 t16) (w4, b2, b3, t17)).bind (Sum.elim (fun (e : Int) => some (Go.Exit.ret, ⟨[(6, rB Bool.false)], [(0, B.ob (AO.lp 35 (R.any :: R.any :: rP 1 :: rP 2 :: rP 3 :: q4w) [9, 10] (raO 35 4) (rbO 35 4) Go.LoopState.done (some Go.Code.ret))), (1, B.blk 29 [C.nils]), (2, B.blk 3 [dI e]), (3, B.blk 4 [dB Bool.false])], 4, 28⟩)) (fun (e : List qb × Int × Bool) => some (Go.Exit.exit 0, ⟨[(6, R.any)], [(0, B.ob (AO.lp 35 (R.any :: R.any :: rP 1 :: rP 2 :: rP 3 :: q4w) [9, 10] (raO 35 4) (rbO 35 4) Go.LoopState.ready none)), (1, B.blk 29 [dO 4 5 e.1.length]), (2, B.blk 3 [dI e.2.1]), (3, B.blk 4 [dB e.2.2]), (4, bR 31 5 qg e.1)], 5, 28⟩))) :=
  by
  intro w4 b2 b3 deep t15 t16 t17 w4_len h0
  subst h0
  revert t17; revert b3; revert b2; revert w4; exact quZ qkU qlf (fun e => by rcases e with _ | _ <;> exact ⟨_, rfl, fun h => by cases h⟩) fun w4 b2 b3 t17 => by
    have hF' : ∀ (n_Kind n_N n_Min : Int) (n_Set : List qc) (n_L : List qb) (deep : Int) (w4 : List qb) (b2 : Int) (b3 : Bool) (w4_len : Nat), w4_len = w4.length → rE (.fn 69) 4 [R.agg [dI n_Kind, dI n_N, dI n_Min, dL 2 qe n_Set, dL 5 qg n_L], rI deep, R.c (C.hd .yield 0)] [(0, B.ob (AO.lp 35 (R.any :: R.any :: rP 1 :: rP 2 :: rP 3 :: q4w) [9, 10] (raO 35 4) (rbO 35 4) Go.LoopState.ready none)), (1, B.blk 29 [dO 4 5 w4_len]), (2, B.blk 3 [dI b2]), (3, B.blk 4 [dB b3]), (4, bR 31 5 qg w4)] = (rF ((qb.mk n_Kind n_N n_Min n_Set n_L), deep, w4, b2, b3)).bind (Sum.elim (fun (e : Int) => some (rB Bool.false, [(0, B.ob (AO.lp 35 (R.any :: R.any :: rP 1 :: rP 2 :: rP 3 :: q4w) [9, 10] (raO 35 4) (rbO 35 4) Go.LoopState.done (some Go.Code.ret))), (1, B.blk 29 [C.nils]), (2, B.blk 3 [dI e]), (3, B.blk 4 [dB Bool.false])])) (fun (e : List qb × Int × Bool) => some (rB Bool.true, [(0, B.ob (AO.lp 35 (R.any :: R.any :: rP 1 :: rP 2 :: rP 3 :: q4w) [9, 10] (raO 35 4) (rbO 35 4) Go.LoopState.ready none)), (1, B.blk 29 [dO 4 5 e.1.length]), (2, B.blk 3 [dI e.2.1]), (3, B.blk 4 [dB e.2.2]), (4, bR 31 5 qg e.1)]))) := by intro n_Kind n_N n_Min n_Set n_L deep w4 b2 b3 w4_len h0; subst h0; exact (hF ((qb.mk n_Kind n_N n_Min n_Set n_L), deep, w4, b2, b3)).trans (by congr 1; funext e; rcases e with _ | _ <;> rfl)
    have := qsw; have := @qcy.eq_1; have := @Qx.eq_1; exact gA
noncomputable def JR (fu : Nat) (rF : (qb × Int × List qb × Int × Bool) → Option (Int ⊕ (List qb × Int × Bool))) (deep : Int) (t15 : List qb) (t16 : Int) : (List qb × Int × Bool × Int) → Option ((List qb × Int × Bool × Int) ⊕ (Int ⊕ (List qb × Int × Bool))) | (w4, b2, b3, t17) => if t17 < t16 then if 0 ≤ t17 ∧ t17 < ((t15.length : Nat) : Int) then Option.bind t15[Int.toNat t17]? fun (a2 : qb) => Option.bind (rF (a2, (w64 (deep + 1), (w4, (b2, b3))))) fun (a3 : Sum Int (Prod (List qb) (Prod Int Bool))) => Sum.elim (fun (a4 : Int) => some (Sum.inr (Sum.inl a4))) (fun (a5 : Prod (List qb) (Prod Int Bool)) => some (Sum.inl (a5.1, a5.2.1, a5.2.2, w64 (t17 + 1)))) a3 else none else some (Sum.inr (Sum.inr (w4, b2, b3)))
theorem q3G (fu : Nat) (rF rF2 : (qb × Int × List qb × Int × Bool) → Option (Int ⊕ (List qb × Int × Bool))) (hF : ∀ y, qk (rF y) (rF2 y)) (deep : Int) (t15 : List qb) (t16 : Int) : ∀ x, qk (JR fu rF deep t15 t16 x) (Qx rF2 deep t15 t16 x) := by
  rintro ⟨w4, b2, b3, t17⟩
  unfold JR Qx
  try dsimp only
  repeat (first
    | with_reducible exact qk.refl _
    | with_reducible exact qk.none _
    | exact hF _
    | with_reducible refine qk.bind ?_ (fun _ => ?_)
    | with_reducible refine qk.ite ?_ ?_
    | with_reducible refine qk.sum (fun _ => ?_) (fun _ => ?_)
    | with_reducible refine qk.lim (fun _ => ?_))
noncomputable def Qw (rF : (qb × Int × List qb × Int × Bool) → Option (Int ⊕ (List qb × Int × Bool))) : (qb × Int × List qb × Int × Bool) → Option (Int ⊕ (List qb × Int × Bool)) | (n, deep, w4, b2, b3) => Option.bind (Zx deep n.Kind n.N n.Min n.Set n.L w4 b2 b3) fun (a2 : Sum Unit (Prod (List qb) Int)) => Sum.elim (fun (a3 : Unit) => some (Sum.inl 0)) (fun (a4 : Prod (List qb) Int) => Option.bind (qN (Qx rF deep n.L ((n.L.length : Nat) : Int)) (a4.1, (a4.2, (b3, 0)))) fun (a5 : Sum Int (Prod (List qb) (Prod Int Bool))) => Sum.elim (fun (a6 : Int) => some (Sum.inl a6)) (fun (a7 : Prod (List qb) (Prod Int Bool)) => some (Sum.inr (a7.1, a7.2.1, a7.2.2))) a5) a2
theorem q2B : q4n 69 4 Ql QC Qw := by
  intro rE rF hF hM hR x
  obtain ⟨n, deep, w4, b2, b3⟩ := x
  show q6K rE 69 4 [R.agg [dI n.Kind, dI n.N, dI n.Min, dL 2 qe n.Set, dL 5 qg n.L], rI deep, R.c (C.hd .yield 0)] [(0, B.ob (AO.lp 35 (R.any :: R.any :: rP 1 :: rP 2 :: rP 3 :: q4w) [9, 10] (raO 35 4) (rbO 35 4) Go.LoopState.ready none)), (1, B.blk 29 [dO 4 5 w4.length]), (2, B.blk 3 [dI b2]), (3, B.blk 4 [dB b3]), (4, bR 31 5 qg w4)] = _
  have hF' : ∀ (n_Kind n_N n_Min : Int) (n_Set : List qc) (n_L : List qb) (deep : Int) (w4 : List qb) (b2 : Int) (b3 : Bool) (w4_len : Nat), w4_len = w4.length → rE (.fn 69) 4 [R.agg [dI n_Kind, dI n_N, dI n_Min, dL 2 qe n_Set, dL 5 qg n_L], rI deep, R.c (C.hd .yield 0)] [(0, B.ob (AO.lp 35 (R.any :: R.any :: rP 1 :: rP 2 :: rP 3 :: q4w) [9, 10] (raO 35 4) (rbO 35 4) Go.LoopState.ready none)), (1, B.blk 29 [dO 4 5 w4_len]), (2, B.blk 3 [dI b2]), (3, B.blk 4 [dB b3]), (4, bR 31 5 qg w4)] = (rF ((qb.mk n_Kind n_N n_Min n_Set n_L), deep, w4, b2, b3)).bind (Sum.elim (fun (e : Int) => some (rB Bool.false, [(0, B.ob (AO.lp 35 (R.any :: R.any :: rP 1 :: rP 2 :: rP 3 :: q4w) [9, 10] (raO 35 4) (rbO 35 4) Go.LoopState.done (some Go.Code.ret))), (1, B.blk 29 [C.nils]), (2, B.blk 3 [dI e]), (3, B.blk 4 [dB Bool.false])])) (fun (e : List qb × Int × Bool) => some (rB Bool.true, [(0, B.ob (AO.lp 35 (R.any :: R.any :: rP 1 :: rP 2 :: rP 3 :: q4w) [9, 10] (raO 35 4) (rbO 35 4) Go.LoopState.ready none)), (1, B.blk 29 [dO 4 5 e.1.length]), (2, B.blk 3 [dI e.2.1]), (3, B.blk 4 [dB e.2.2]), (4, bR 31 5 qg e.1)]))) := by intro n_Kind n_N n_Min n_Set n_L deep w4 b2 b3 w4_len h0; subst h0; exact (hF ((qb.mk n_Kind n_N n_Min n_Set n_L), deep, w4, b2, b3)).trans (by congr 1; funext e; rcases e with _ | _ <;> rfl)
  rw [q1p qrE qtX]
  have := qsw; have := @q59; have := q3k rE rF hF hM hR; have := @Qw.eq_1; have := @QC.eq_1; exact gA
theorem q0O : ∀ x y, Ql x = Ql y → x = y := by
  rintro ⟨⟨a0_0, a0_1, a0_2, a0_3, a0_4⟩, a1, a2, a3, a4⟩ ⟨⟨b0_0, b0_1, b0_2, b0_3, b0_4⟩, b1, b2, b3, b4⟩ h
  simp only [Ql, Prod.mk.injEq, List.cons.injEq, R.c.injEq, R.agg.injEq, R.tup.injEq, C.d.injEq, C.own.injEq, C.ptr.injEq, C.eptr.injEq, D.int.injEq, D.bool.injEq, D.str.injEq, D.sl.injEq, B.blk.injEq, B.row.injEq, ZK, q01, ZN, J6, Jl, q0Z, ZI, q1o, true_and, and_true, List.nil_append] at h
  simp only [h]
theorem q4H : ∀ x y, QC x = QC y → x = y := by
  rintro (a0 | ⟨a1_0, a1_1, a1_2⟩) (b0 | ⟨b1_0, b1_1, b1_2⟩) h <;> simp only [Sum.elim_inl, Sum.elim_inr, QC, Prod.mk.injEq, List.cons.injEq, R.c.injEq, R.agg.injEq, R.tup.injEq, C.d.injEq, C.own.injEq, C.ptr.injEq, C.eptr.injEq, D.int.injEq, D.bool.injEq, D.str.injEq, D.sl.injEq, B.blk.injEq, B.row.injEq, ZK, q01, ZN, J6, Jl, q0Z, ZI, q1o, true_and, and_true, List.nil_append, reduceCtorEq, false_and, and_false] at h <;> simp only [h]
noncomputable def Qp : (qb × Int × List qb × Int × Bool) → Option (Int ⊕ (List qb × Int × Bool)) := q4R 69 4 Ql QC
theorem q2G (x : (qb × Int × List qb × Int × Bool)) : Qp x = Qw Qp x := q8I qrZ.2.2.2 q0O q4H q2B x
theorem q6R (n : qb) (deep : Int) (w4 : List qb) (b2 : Int) (b3 : Bool) : ev 69 4 [R.agg [dI n.Kind, dI n.N, dI n.Min, dL 2 qe n.Set, dL 5 qg n.L], rI deep, R.c (C.hd .yield 0)] [(0, B.ob (AO.lp 35 (R.any :: R.any :: rP 1 :: rP 2 :: rP 3 :: q4w) [9, 10] (raO 35 4) (rbO 35 4) Go.LoopState.ready none)), (1, B.blk 29 [dO 4 5 w4.length]), (2, B.blk 3 [dI b2]), (3, B.blk 4 [dB b3]), (4, bR 31 5 qg w4)] = (Qp (n, deep, w4, b2, b3)).bind (Sum.elim (fun (e : Int) => some (rB Bool.false, [(0, B.ob (AO.lp 35 (R.any :: R.any :: rP 1 :: rP 2 :: rP 3 :: q4w) [9, 10] (raO 35 4) (rbO 35 4) Go.LoopState.done (some Go.Code.ret))), (1, B.blk 29 [C.nils]), (2, B.blk 3 [dI e]), (3, B.blk 4 [dB Bool.false])])) (fun (e : List qb × Int × Bool) => some (rB Bool.true, [(0, B.ob (AO.lp 35 (R.any :: R.any :: rP 1 :: rP 2 :: rP 3 :: q4w) [9, 10] (raO 35 4) (rbO 35 4) Go.LoopState.ready none)), (1, B.blk 29 [dO 4 5 e.1.length]), (2, B.blk 3 [dI e.2.1]), (3, B.blk 4 [dB e.2.2]), (4, bR 31 5 qg e.1)]))) := (q5b qrZ.2.2.2 q0O q2B (n, deep, w4, b2, b3)).trans (by congr 1; funext e; rcases e with _ | _ <;> rfl)
theorem q7n : ∀ (n_Kind n_N n_Min : Int) (n_Set : List qc) (n_L : List qb) (deep : Int) (w4 : List qb) (b2 : Int) (b3 : Bool) (w4_len : Nat), w4_len = w4.length → ev 69 4 [R.agg [dI n_Kind, dI n_N, dI n_Min, dL 2 qe n_Set, dL 5 qg n_L], rI deep, R.c (C.hd .yield 0)] [(0, B.ob (AO.lp 35 (R.any :: R.any :: rP 1 :: rP 2 :: rP 3 :: q4w) [9, 10] (raO 35 4) (rbO 35 4) Go.LoopState.ready none)), (1, B.blk 29 [dO 4 5 w4_len]), (2, B.blk 3 [dI b2]), (3, B.blk 4 [dB b3]), (4, bR 31 5 qg w4)] = (Qp ((qb.mk n_Kind n_N n_Min n_Set n_L), deep, w4, b2, b3)).bind (Sum.elim (fun (e : Int) => some (rB Bool.false, [(0, B.ob (AO.lp 35 (R.any :: R.any :: rP 1 :: rP 2 :: rP 3 :: q4w) [9, 10] (raO 35 4) (rbO 35 4) Go.LoopState.done (some Go.Code.ret))), (1, B.blk 29 [C.nils]), (2, B.blk 3 [dI e]), (3, B.blk 4 [dB Bool.false])])) (fun (e : List qb × Int × Bool) => some (rB Bool.true, [(0, B.ob (AO.lp 35 (R.any :: R.any :: rP 1 :: rP 2 :: rP 3 :: q4w) [9, 10] (raO 35 4) (rbO 35 4) Go.LoopState.ready none)), (1, B.blk 29 [dO 4 5 e.1.length]), (2, B.blk 3 [dI e.2.1]), (3, B.blk 4 [dB e.2.2]), (4, bR 31 5 qg e.1)]))) :=
  by
  intro n_Kind n_N n_Min n_Set n_L deep w4 b2 b3 w4_len h0
  subst h0
  exact q6R (qb.mk n_Kind n_N n_Min n_Set n_L) deep w4 b2 b3
noncomputable def JK (fu : Nat) (rF : (qb × Int × List qb × Int × Bool) → Option (Int ⊕ (List qb × Int × Bool))) : (qb × Int × List qb × Int × Bool) → Option (Int ⊕ (List qb × Int × Bool)) | (n, deep, w4, b2, b3) => Option.bind (Zx deep n.Kind n.N n.Min n.Set n.L w4 b2 b3) fun (a2 : Sum Unit (Prod (List qb) Int)) => Sum.elim (fun (a3 : Unit) => some (Sum.inl 0)) (fun (a4 : Prod (List qb) Int) => Option.bind (itT (JR fu rF deep n.L ((n.L.length : Nat) : Int)) fu (a4.1, (a4.2, (b3, 0)))) fun (a5 : Sum Int (Prod (List qb) (Prod Int Bool))) => Sum.elim (fun (a6 : Int) => some (Sum.inl a6)) (fun (a7 : Prod (List qb) (Prod Int Bool)) => some (Sum.inr (a7.1, a7.2.1, a7.2.2))) a5) a2
theorem q3f (fu : Nat) (rF rF2 : (qb × Int × List qb × Int × Bool) → Option (Int ⊕ (List qb × Int × Bool))) (hF : ∀ y, qk (rF y) (rF2 y)) : ∀ x, qk (JK fu rF x) (Qw rF2 x) := by
  rintro ⟨n, deep, w4, b2, b3⟩
  unfold JK Qw
  try dsimp only
  repeat (first
    | with_reducible exact qk.refl _
    | with_reducible exact qk.none _
    | exact hF _
    | (with_reducible refine q3G _ _ _ hF ..)
    | with_reducible refine qk.bind ?_ (fun _ => ?_)
    | with_reducible refine qk.ite ?_ ?_
    | with_reducible refine qk.sum (fun _ => ?_) (fun _ => ?_)
    | with_reducible refine qk.lim (fun _ => ?_))
noncomputable def q5w (fu : Nat) (x : (qb × Int × List qb × Int × Bool)) : Option (Int ⊕ (List qb × Int × Bool)) := itR (JK fu) fu x
theorem q7t (fu : Nat) (x : (qb × Int × List qb × Int × Bool)) : qk (q5w fu x) (Qp x) := qk.rec q2G (q3f fu) fu x
noncomputable def ZD (deep : Int) (t15 : List qb) (t16 : Int) : (List qb × Int × Bool × Int) → Option ((List qb × Int × Bool × Int) ⊕ (Int ⊕ (List qb × Int × Bool))) | (w4, b2, b3, t17) => if t17 < t16 then if 0 ≤ t17 ∧ t17 < ((t15.length : Nat) : Int) then Option.bind t15[Int.toNat t17]? fun (a : qb) => Option.bind (Qp (a, (w64 (deep + 1), (w4, (b2, b3))))) fun (a2 : Sum Int (Prod (List qb) (Prod Int Bool))) => Sum.elim (fun (a3 : Int) => some (Sum.inr (Sum.inl a3))) (fun (a4 : Prod (List qb) (Prod Int Bool)) => some (Sum.inl (a4.1, a4.2.1, a4.2.2, w64 (t17 + 1)))) a2 else none else some (Sum.inr (Sum.inr (w4, b2, b3)))
theorem q6D : ∀ (w4 : List qb) (b2 : Int) (b3 : Bool) (deep : Int) (t15 : List qb) (t16 t17 : Int) (w4_len : Nat), w4_len = w4.length → XL2 evo 69 4 4 ⟨[(1, rI deep), (2, R.c (C.hd .yield 0)), (15, rL 5 qg t15), (16, rI t16), (17, rI t17)], [(0, B.ob (AO.lp 35 (R.any :: R.any :: rP 1 :: rP 2 :: rP 3 :: q4w) [9, 10] (raO 35 4) (rbO 35 4) Go.LoopState.ready none)), (1, B.blk 29 [dO 4 5 w4_len]), (2, B.blk 3 [dI b2]), (3, B.blk 4 [dB b3]), (4, bR 31 5 qg w4)], 5, 28⟩ = (qN (ZD deep t15 t16) (w4, b2, b3, t17)).bind (Sum.elim (fun (e : Int) => some (Go.Exit.ret, ⟨[(6, rB Bool.false)], [(0, B.ob (AO.lp 35 (R.any :: R.any :: rP 1 :: rP 2 :: rP 3 :: q4w) [9, 10] (raO 35 4) (rbO 35 4) Go.LoopState.done (some Go.Code.ret))), (1, B.blk 29 [C.nils]), (2, B.blk 3 [dI e]), (3, B.blk 4 [dB Bool.false])], 4, 28⟩)) (fun (e : List qb × Int × Bool) => some (Go.Exit.exit 0, ⟨[(6, R.any)], [(0, B.ob (AO.lp 35 (R.any :: R.any :: rP 1 :: rP 2 :: rP 3 :: q4w) [9, 10] (raO 35 4) (rbO 35 4) Go.LoopState.ready none)), (1, B.blk 29 [dO 4 5 e.1.length]), (2, B.blk 3 [dI e.2.1]), (3, B.blk 4 [dB e.2.2]), (4, bR 31 5 qg e.1)], 5, 28⟩))) :=
  by
  intro w4 b2 b3 deep t15 t16 t17 w4_len h0
  subst h0
  revert t17; revert b3; revert b2; revert w4; exact quZ qkU qlf (fun e => by rcases e with _ | _ <;> exact ⟨_, rfl, fun h => by cases h⟩) fun w4 b2 b3 t17 => by
    have := qsw; have := @qcy.eq_1; have := @q7n; have := @ZD.eq_1; exact gA
noncomputable def q1E (fu : Nat) (deep : Int) (t15 : List qb) (t16 : Int) : (List qb × Int × Bool × Int) → Option ((List qb × Int × Bool × Int) ⊕ (Int ⊕ (List qb × Int × Bool))) | (w4, b2, b3, t17) => if t17 < t16 then if 0 ≤ t17 ∧ t17 < ((t15.length : Nat) : Int) then Option.bind t15[Int.toNat t17]? fun (a : qb) => Option.bind (q5w fu (a, (w64 (deep + 1), (w4, (b2, b3))))) fun (a2 : Sum Int (Prod (List qb) (Prod Int Bool))) => Sum.elim (fun (a3 : Int) => some (Sum.inr (Sum.inl a3))) (fun (a4 : Prod (List qb) (Prod Int Bool)) => some (Sum.inl (a4.1, a4.2.1, a4.2.2, w64 (t17 + 1)))) a2 else none else some (Sum.inr (Sum.inr (w4, b2, b3)))
theorem q6Q (fu : Nat) (deep : Int) (t15 : List qb) (t16 : Int) : ∀ x, qk (q1E fu deep t15 t16 x) (ZD deep t15 t16 x) := by
  rintro ⟨w4, b2, b3, t17⟩
  unfold q1E ZD
  try dsimp only
  repeat (first
    | with_reducible exact qk.refl _
    | with_reducible exact qk.none _
    | with_reducible apply q7t
    | with_reducible refine qk.bind ?_ (fun _ => ?_)
    | with_reducible refine qk.ite ?_ ?_
    | with_reducible refine qk.sum (fun _ => ?_) (fun _ => ?_)
    | with_reducible refine qk.lim (fun _ => ?_))
noncomputable def q0d (n : qb) (deep : Int) (b2 : Int) (b3 : Bool) : Option (Int ⊕ (List qb × Int × Bool)) := Option.bind (Jb deep n.Kind n.N n.Min n.Set n.L b2 b3) fun (a : Sum Unit (Prod (List qb) Int)) => Sum.elim (fun (a2 : Unit) => some (Sum.inl 0)) (fun (a3 : Prod (List qb) Int) => Option.bind (qN (ZD deep n.L ((n.L.length : Nat) : Int)) (a3.1, (a3.2, (b3, 0)))) fun (a4 : Sum Int (Prod (List qb) (Prod Int Bool))) => Sum.elim (fun (a5 : Int) => some (Sum.inl a5)) (fun (a6 : Prod (List qb) (Prod Int Bool)) => some (Sum.inr (a6.1, a6.2.1, a6.2.2))) a4) a
theorem q9f : ∀ (n_Kind n_N n_Min : Int) (n_Set : List qc) (n_L : List qb) (deep b2 : Int) (b3 : Bool), ev 69 4 [R.agg [dI n_Kind, dI n_N, dI n_Min, dL 2 qe n_Set, dL 5 qg n_L], rI deep, R.c (C.hd .yield 0)] [(0, B.ob (AO.lp 35 (R.any :: R.any :: rP 1 :: rP 2 :: rP 3 :: q4w) [9, 10] (raO 35 4) (rbO 35 4) Go.LoopState.ready none)), (1, B.blk 29 [C.nils]), (2, B.blk 3 [dI b2]), (3, B.blk 4 [dB b3])] = (q0d (qb.mk n_Kind n_N n_Min n_Set n_L) deep b2 b3).bind (Sum.elim (fun (e : Int) => some (rB Bool.false, [(0, B.ob (AO.lp 35 (R.any :: R.any :: rP 1 :: rP 2 :: rP 3 :: q4w) [9, 10] (raO 35 4) (rbO 35 4) Go.LoopState.done (some Go.Code.ret))), (1, B.blk 29 [C.nils]), (2, B.blk 3 [dI e]), (3, B.blk 4 [dB Bool.false])])) (fun (e : List qb × Int × Bool) => some (rB Bool.true, [(0, B.ob (AO.lp 35 (R.any :: R.any :: rP 1 :: rP 2 :: rP 3 :: q4w) [9, 10] (raO 35 4) (rbO 35 4) Go.LoopState.ready none)), (1, B.blk 29 [dO 4 5 e.1.length]), (2, B.blk 3 [dI e.2.1]), (3, B.blk 4 [dB e.2.2]), (4, bR 31 5 qg e.1)]))) :=
  fun n_Kind n_N n_Min n_Set n_L deep b2 b3 => by
    rw [qB qrE qrZ.2.2.2 qtX]
    have := qsw; have := @q6y; have := @q6D; have := @q0d.eq_1; exact gA
noncomputable def q4A (fu : Nat) (n : qb) (deep : Int) (b2 : Int) (b3 : Bool) : Option (Int ⊕ (List qb × Int × Bool)) := Option.bind (Jb deep n.Kind n.N n.Min n.Set n.L b2 b3) fun (a : Sum Unit (Prod (List qb) Int)) => Sum.elim (fun (a2 : Unit) => some (Sum.inl 0)) (fun (a3 : Prod (List qb) Int) => Option.bind (itT (q1E fu deep n.L ((n.L.length : Nat) : Int)) fu (a3.1, (a3.2, (b3, 0)))) fun (a4 : Sum Int (Prod (List qb) (Prod Int Bool))) => Sum.elim (fun (a5 : Int) => some (Sum.inl a5)) (fun (a6 : Prod (List qb) (Prod Int Bool)) => some (Sum.inr (a6.1, a6.2.1, a6.2.2))) a4) a
theorem q9e (fu : Nat) (n : qb) (deep b2 : Int) (b3 : Bool) : qk (q4A fu n deep b2 b3) (q0d n deep b2 b3) := by
  unfold q4A q0d
  repeat (first
    | with_reducible exact qk.refl _
    | with_reducible exact qk.none _
    | with_reducible apply q6Q
    | with_reducible refine qk.bind ?_ (fun _ => ?_)
    | with_reducible refine qk.ite ?_ ?_
    | with_reducible refine qk.sum (fun _ => ?_) (fun _ => ?_)
    | with_reducible refine qk.lim (fun _ => ?_))
noncomputable def ZC (b2 : Int) (b3 : Bool) (v : qb) : Option (Int ⊕ (List qb × Int × Bool)) := Option.bind (q0d v 1 b2 b3) fun (a : Sum Int (Prod (List qb) (Prod Int Bool))) => Sum.elim (fun (a2 : Int) => some (Sum.inl a2)) (fun (a3 : Prod (List qb) (Prod Int Bool)) => some (Sum.inr (a3.1, a3.2.1, a3.2.2))) a
theorem q6J : ∀ (b2 : Int) (b3 : Bool) (v_Kind v_N v_Min : Int) (v_Set : List qc) (v_L : List qb), ev 68 5 [R.c (C.hd .yield 0), rP 4] [(0, B.ob (AO.lp 35 (R.any :: R.any :: rP 1 :: rP 2 :: rP 3 :: q4w) [9, 10] (raO 35 4) (rbO 35 4) Go.LoopState.ready none)), (1, B.blk 29 [C.nils]), (2, B.blk 3 [dI b2]), (3, B.blk 4 [dB b3]), (4, B.blk 31 [dI v_Kind, dI v_N, dI v_Min, dL 2 qe v_Set, dL 5 qg v_L])] = (ZC b2 b3 (qb.mk v_Kind v_N v_Min v_Set v_L)).bind (Sum.elim (fun (e : Int) => some (R.tup [], [(0, B.ob (AO.lp 35 (R.any :: R.any :: rP 1 :: rP 2 :: rP 3 :: q4w) [9, 10] (raO 35 4) (rbO 35 4) Go.LoopState.done (some Go.Code.ret))), (1, B.blk 29 [C.nils]), (2, B.blk 3 [dI e]), (3, B.blk 4 [dB Bool.false]), (4, B.blk 31 [dI v_Kind, dI v_N, dI v_Min, dL 2 qe v_Set, dL 5 qg v_L])])) (fun (e : List qb × Int × Bool) => some (R.tup [], [(0, B.ob (AO.lp 35 (R.any :: R.any :: rP 1 :: rP 2 :: rP 3 :: q4w) [9, 10] (raO 35 4) (rbO 35 4) Go.LoopState.ready none)), (1, B.blk 29 [dO 5 5 e.1.length]), (2, B.blk 3 [dI e.2.1]), (3, B.blk 4 [dB e.2.2]), (4, B.blk 31 [dI v_Kind, dI v_N, dI v_Min, dL 2 qe v_Set, dL 5 qg v_L]), (5, bR 31 5 qg e.1)]))) :=
  fun b2 b3 v_Kind v_N v_Min v_Set v_L => by
    rw [qB qtL qwh.2.2.2 qyH]
    have := qwU; have := @q9f; have := @ZC.eq_1; exact gA
noncomputable def q1w (fu : Nat) (b2 : Int) (b3 : Bool) (v : qb) : Option (Int ⊕ (List qb × Int × Bool)) := Option.bind (q4A fu v 1 b2 b3) fun (a : Sum Int (Prod (List qb) (Prod Int Bool))) => Sum.elim (fun (a2 : Int) => some (Sum.inl a2)) (fun (a3 : Prod (List qb) (Prod Int Bool)) => some (Sum.inr (a3.1, a3.2.1, a3.2.2))) a
theorem q6T (fu : Nat) (b2 : Int) (b3 : Bool) (v : qb) : qk (q1w fu b2 b3 v) (ZC b2 b3 v) := by
  unfold q1w ZC
  repeat (first
    | with_reducible exact qk.refl _
    | with_reducible exact qk.none _
    | with_reducible apply q9e
    | with_reducible refine qk.bind ?_ (fun _ => ?_)
    | with_reducible refine qk.ite ?_ ?_
    | with_reducible refine qk.sum (fun _ => ?_) (fun _ => ?_)
    | with_reducible refine qk.lim (fun _ => ?_))
noncomputable def ZQ (n : qb) : Option (List qb × Int × Bool) := Option.bind (ZC 0 Bool.false n) fun (a : Sum Int (Prod (List qb) (Prod Int Bool))) => Sum.elim (fun (a2 : Int) => some ([], a2, Bool.false)) (fun (a3 : Prod (List qb) (Prod Int Bool)) => some (a3.1, a3.2.1, Bool.true)) a
theorem q4p : ∀ (n_Kind n_N n_Min : Int) (n_Set : List qc) (n_L : List qb), ev 35 0 [R.agg [dI n_Kind, dI n_N, dI n_Min, dL 2 qe n_Set, dL 5 qg n_L]] [] = (ZQ (qb.mk n_Kind n_N n_Min n_Set n_L)).bind (fun (e : List qb × Int × Bool) => some (R.tup [rL 5 qg e.1, rI e.2.1, rB e.2.2], [])) :=
  fun n_Kind n_N n_Min n_Set n_L => by
    rw [qB qqY qwC.2.2.2 qvY]
    have := quJ; have := @q94; have := @q6J; have := @ZQ.eq_1; have := @qi0; exact gA
noncomputable def q2h (fu : Nat) (n : qb) : Option (List qb × Int × Bool) := Option.bind (q1w fu 0 Bool.false n) fun (a : Sum Int (Prod (List qb) (Prod Int Bool))) => Sum.elim (fun (a2 : Int) => some ([], a2, Bool.false)) (fun (a3 : Prod (List qb) (Prod Int Bool)) => some (a3.1, a3.2.1, Bool.true)) a
theorem q4s (fu : Nat) (n : qb) : qk (q2h fu n) (ZQ n) := by
  unfold q2h ZQ
  repeat (first
    | with_reducible exact qk.refl _
    | with_reducible exact qk.none _
    | with_reducible apply q6T
    | with_reducible refine qk.bind ?_ (fun _ => ?_)
    | with_reducible refine qk.ite ?_ ?_
    | with_reducible refine qk.sum (fun _ => ?_) (fun _ => ?_)
    | with_reducible refine qk.lim (fun _ => ?_))
theorem qvW : okL 14 qdm := qA (qi qsm) (by kernel_rfl) (by kernel_rfl)
def qwi := JA_ @qdm.eq_1 (JA_ @Try.f14.eq_1 @qsm)
theorem qpG : lbO 14 3 = qgO := Qd (qi qsm) rfl
theorem qpp : okL 14 qgO := zd qvW (List.mem_of_getElem? (i := 0) (by kernel_rfl))
theorem qy9 : okL 36 qi8 := qA (qi qsZ) (by kernel_rfl) (by kernel_rfl)
def qxX := JA_ @qi8.eq_1 (JA_ @Try.f36.eq_1 @qsZ)
noncomputable def q2m (n : qb) : Option Bool := if (n.Kind != 3) = Bool.true then some (n.Kind != 4) else some Bool.false
noncomputable def Zi (n : qb) : Bool := if (n.Kind != 3) = Bool.true then n.Kind != 4 else Bool.false
theorem q8t (n : qb) : q2m n = some (Zi n) := by
  unfold q2m Zi
  simp only [Qg]
theorem q9g : ∀ (n_Kind n_N n_Min : Int) (n_Set : List qc) (n_L : List qb), ev 36 0 [R.agg [dI n_Kind, dI n_N, dI n_Min, dL 2 qe n_Set, dL 5 qg n_L]] [] = some (rB (Zi (qb.mk n_Kind n_N n_Min n_Set n_L)), []) :=
  fun n_Kind n_N n_Min n_Set n_L => by
    have h : ev 36 0 [R.agg [dI n_Kind, dI n_N, dI n_Min, dL 2 qe n_Set, dL 5 qg n_L]] [] = (q2m (qb.mk n_Kind n_N n_Min n_Set n_L)).bind (fun (e : Bool) => some (rB e, [])) := by
      rw [qB qsZ qws.2.2.2 qy9]
      have := qxX; have := @q2m.eq_1; exact gA
    rw [q8t] at h
    exact h
theorem qv3 : okL 37 qcL := qA (qi qsl) (by kernel_rfl) (by kernel_rfl)
def qwl := JA_ @qcL.eq_1 (JA_ @Try.f37.eq_1 @qsl)
theorem qpd : lbO 37 3 = qil := Qd (qi qsl) rfl
theorem qrn : okL 37 qil := zd qv3 (List.mem_of_getElem? (i := 0) (by kernel_rfl))
noncomputable def qC (s : List qc) : Option Unit := if s.length ≤ Go.maxLen ∧ s.length * 24 ≤ 140737488355328 then some () else none
theorem ZO : ∀ (s : List qc), ev 53 0 [rL 2 qe s] [] = (qC s).bind (fun (e : Unit) => some (rL 2 qe s, [])) :=
  fun s => by
    rw [qlk, qwA.2.2.2]
    have := @qC.eq_1; exact gA
noncomputable def qY (s : List qb) : Option Unit := if s.length ≤ Go.maxLen ∧ s.length * 72 ≤ 140737488355328 then some () else none
theorem Js : ∀ (s : List qb), ev 54 0 [rL 5 qg s] [] = (qY s).bind (fun (e : Unit) => some (rO 0 5 s.length, [(0, bR 31 5 qg s)])) :=
  fun s => by
    rw [qlk, qvr.2.2.2]
    have := @qY.eq_1; exact gA
noncomputable def Qi (x : qb) : List R × List (Nat × B) := ([R.agg [C.d (D.int .i64 x.Kind), C.d (D.int .i64 x.N), C.d (D.int .i64 x.Min), C.d (D.sl 2 x.Set.length (x.Set.flatMap qe)), C.d (D.sl 5 x.L.length (x.L.flatMap qg))]], [])
noncomputable def QF : qb → R × List (Nat × B) := fun (e : qb) => (R.agg [C.d (D.int .i64 e.Kind), C.d (D.int .i64 e.N), C.d (D.int .i64 e.Min), C.d (D.sl 2 e.Set.length (e.Set.flatMap qe)), C.d (D.sl 5 e.L.length (e.L.flatMap qg))], [])
noncomputable def Qb (rF : qb → Option qb) (n_Kind : Int) (n_N : Int) (n_Min : Int) (n_Set : List qc) (b2_Kind : Int) (b2_N : Int) (b2_Min : Int) (t15 : Int) : (List qb × Int) → Option ((List qb × Int) ⊕ (List qb)) | (w1, t16) => if t16 < t15 then if 0 ≤ t16 ∧ t16 < ((w1.length : Nat) : Int) then Option.bind w1[Int.toNat t16]? fun (a2 : qb) => Option.bind (rF a2) fun (a3 : qb) => if 0 ≤ t16 ∧ t16 < ((w1.length : Nat) : Int) then if Int.toNat t16 * 5 + 5 ≤ w1.length * 5 then some (Sum.inl (List.set w1 (Int.toNat t16) a3, w64 (t16 + 1))) else none else none else none else some (Sum.inr w1)
theorem q4S (rE : Orc) (rF : qb → Option qb) (hF : ∀ y, rE (.fn 37) 0 (Qi y).1 (Qi y).2 = (rF y).bind fun e => some (QF e)) (hM : ∀ g k a G, g ≠ 37 → rE (.fn g) k a G = ev g k a G) (hR : ∀ g asg bd k a G, rE (.rd g asg bd) k a G = evr g asg bd k a G) : ∀ (w1 : List qb) (n_Kind n_N n_Min : Int) (n_Set : List qc) (b2_Kind b2_N b2_Min t15 t16 : Int) (w1_len : Nat), w1_len = w1.length → XL2 rE 37 0 3 ⟨[(1, rP 0), (2, rP 2), (14, rO 1 5 w1_len), (15, rI t15), (16, rI t16)], [(0, B.blk 31 [dI n_Kind, dI n_N, dI n_Min, dL 2 qe n_Set, dO 1 5 w1_len]), (1, bR 31 5 qg w1), (2, B.blk 31 [dI b2_Kind, dI b2_N, dI b2_Min, C.nils, C.nils])], 3, 29⟩ = (qN (Qb rF n_Kind n_N n_Min n_Set b2_Kind b2_N b2_Min t15) (w1, t16)).bind (fun (e : List qb) => some (Go.Exit.exit 0, ⟨[(1, rP 0), (2, rP 2)], [(0, B.blk 31 [dI n_Kind, dI n_N, dI n_Min, dL 2 qe n_Set, dO 1 5 e.length]), (1, bR 31 5 qg e), (2, B.blk 31 [dI b2_Kind, dI b2_N, dI b2_Min, C.nils, C.nils])], 3, 29⟩)) :=
  by
  intro w1 n_Kind n_N n_Min n_Set b2_Kind b2_N b2_Min t15 t16 w1_len h0
  subst h0
  revert t16; revert w1; exact q8L qpd qrn (fun e => by exact ⟨_, rfl, fun h => by cases h⟩) fun w1 t16 => by
    have hF' : ∀ (n_Kind n_N n_Min : Int) (n_Set : List qc) (n_L : List qb), rE (.fn 37) 0 [R.agg [dI n_Kind, dI n_N, dI n_Min, dL 2 qe n_Set, dL 5 qg n_L]] [] = (rF (qb.mk n_Kind n_N n_Min n_Set n_L)).bind (fun e => some (R.agg [dI e.Kind, dI e.N, dI e.Min, dL 2 qe e.Set, dL 5 qg e.L], [])) := fun n_Kind n_N n_Min n_Set n_L => hF (qb.mk n_Kind n_N n_Min n_Set n_L)
    have := qwl; have := @qil.eq_1; have := @Qb.eq_1; exact gA
noncomputable def q0E (fu : Nat) (rF : qb → Option qb) (n_Kind : Int) (n_N : Int) (n_Min : Int) (n_Set : List qc) (b2_Kind : Int) (b2_N : Int) (b2_Min : Int) (t15 : Int) : (List qb × Int) → Option ((List qb × Int) ⊕ (List qb)) | (w1, t16) => if t16 < t15 then if 0 ≤ t16 ∧ t16 < ((w1.length : Nat) : Int) then Option.bind w1[Int.toNat t16]? fun (a2 : qb) => Option.bind (rF a2) fun (a3 : qb) => if 0 ≤ t16 ∧ t16 < ((w1.length : Nat) : Int) then if Int.toNat t16 * 5 + 5 ≤ w1.length * 5 then some (Sum.inl (List.set w1 (Int.toNat t16) a3, w64 (t16 + 1))) else none else none else none else some (Sum.inr w1)
theorem q53 (fu : Nat) (rF rF2 : qb → Option qb) (hF : ∀ y, qk (rF y) (rF2 y)) (n_Kind n_N n_Min : Int) (n_Set : List qc) (b2_Kind b2_N b2_Min t15 : Int) : ∀ x, qk (q0E fu rF n_Kind n_N n_Min n_Set b2_Kind b2_N b2_Min t15 x) (Qb rF2 n_Kind n_N n_Min n_Set b2_Kind b2_N b2_Min t15 x) := by
  rintro ⟨w1, t16⟩
  unfold q0E Qb
  try dsimp only
  repeat (first
    | with_reducible exact qk.refl _
    | with_reducible exact qk.none _
    | exact hF _
    | with_reducible refine qk.bind ?_ (fun _ => ?_)
    | with_reducible refine qk.ite ?_ ?_
    | with_reducible refine qk.sum (fun _ => ?_) (fun _ => ?_)
    | with_reducible refine qk.lim (fun _ => ?_))
noncomputable def Qu (rF : qb → Option qb) : qb → Option qb | n => Option.bind (qC n.Set) fun (a2 : Unit) => Option.bind (qY n.L) fun (a3 : Unit) => Option.bind (qN (Qb rF n.Kind n.N n.Min n.Set 0 0 0 ((n.L.length : Nat) : Int)) (n.L, 0)) fun (a4 : List qb) => some (qb.mk n.Kind n.N n.Min n.Set a4)
theorem q2E : q4n 37 0 Qi QF Qu := by
  intro rE rF hF hM hR n
  show q6K rE 37 0 [R.agg [dI n.Kind, dI n.N, dI n.Min, dL 2 qe n.Set, dL 5 qg n.L]] [] = _
  have hF' : ∀ (n_Kind n_N n_Min : Int) (n_Set : List qc) (n_L : List qb), rE (.fn 37) 0 [R.agg [dI n_Kind, dI n_N, dI n_Min, dL 2 qe n_Set, dL 5 qg n_L]] [] = (rF (qb.mk n_Kind n_N n_Min n_Set n_L)).bind (fun e => some (R.agg [dI e.Kind, dI e.N, dI e.Min, dL 2 qe e.Set, dL 5 qg e.L], [])) := fun n_Kind n_N n_Min n_Set n_L => hF (qb.mk n_Kind n_N n_Min n_Set n_L)
  rw [q1p qsl qv3]
  have := qwl; have := @ZO; have := @Js; have := q4S rE rF hF hM hR; have := @Qu.eq_1; have := @QF.eq_1; exact gA
theorem q0M : ∀ x y, Qi x = Qi y → x = y := by
  rintro ⟨a_0, a_1, a_2, a_3, a_4⟩ ⟨b_0, b_1, b_2, b_3, b_4⟩ h
  simp only [Qi, Prod.mk.injEq, List.cons.injEq, R.c.injEq, R.agg.injEq, R.tup.injEq, C.d.injEq, C.own.injEq, C.ptr.injEq, C.eptr.injEq, D.int.injEq, D.bool.injEq, D.str.injEq, D.sl.injEq, B.blk.injEq, B.row.injEq, ZK, q01, ZN, J6, Jl, q0Z, ZI, q1o, true_and, and_true, List.nil_append] at h
  simp only [h]
theorem q5a : ∀ x y, QF x = QF y → x = y := by
  rintro ⟨a_0, a_1, a_2, a_3, a_4⟩ ⟨b_0, b_1, b_2, b_3, b_4⟩ h
  simp only [QF, Prod.mk.injEq, List.cons.injEq, R.c.injEq, R.agg.injEq, R.tup.injEq, C.d.injEq, C.own.injEq, C.ptr.injEq, C.eptr.injEq, D.int.injEq, D.bool.injEq, D.str.injEq, D.sl.injEq, B.blk.injEq, B.row.injEq, ZK, q01, ZN, J6, Jl, q0Z, ZI, q1o, true_and, and_true, List.nil_append] at h
  simp only [h]
noncomputable def Qq : qb → Option qb := q4R 37 0 Qi QF
theorem q2I (x : qb) : Qq x = Qu Qq x := q8I qsS.2.2.2 q0M q5a q2E x
theorem q6q (n : qb) : ev 37 0 [R.agg [dI n.Kind, dI n.N, dI n.Min, dL 2 qe n.Set, dL 5 qg n.L]] [] = (Qq n).bind (fun (e : qb) => some (R.agg [dI e.Kind, dI e.N, dI e.Min, dL 2 qe e.Set, dL 5 qg e.L], [])) := (q5b qsS.2.2.2 q0M q2E n)
theorem q7z : ∀ (n_Kind n_N n_Min : Int) (n_Set : List qc) (n_L : List qb), ev 37 0 [R.agg [dI n_Kind, dI n_N, dI n_Min, dL 2 qe n_Set, dL 5 qg n_L]] [] = (Qq (qb.mk n_Kind n_N n_Min n_Set n_L)).bind (fun (e : qb) => some (R.agg [dI e.Kind, dI e.N, dI e.Min, dL 2 qe e.Set, dL 5 qg e.L], [])) :=
  fun n_Kind n_N n_Min n_Set n_L => q6q (qb.mk n_Kind n_N n_Min n_Set n_L)
noncomputable def JN (fu : Nat) (rF : qb → Option qb) : qb → Option qb | n => Option.bind (qC n.Set) fun (a2 : Unit) => Option.bind (qY n.L) fun (a3 : Unit) => Option.bind (itT (q0E fu rF n.Kind n.N n.Min n.Set 0 0 0 ((n.L.length : Nat) : Int)) fu (n.L, 0)) fun (a4 : List qb) => some (qb.mk n.Kind n.N n.Min n.Set a4)
theorem q3w (fu : Nat) (rF rF2 : qb → Option qb) (hF : ∀ y, qk (rF y) (rF2 y)) : ∀ x, qk (JN fu rF x) (Qu rF2 x) := by
  rintro n
  unfold JN Qu
  try dsimp only
  repeat (first
    | with_reducible exact qk.refl _
    | with_reducible exact qk.none _
    | exact hF _
    | (with_reducible refine q53 _ _ _ hF ..)
    | with_reducible refine qk.bind ?_ (fun _ => ?_)
    | with_reducible refine qk.ite ?_ ?_
    | with_reducible refine qk.sum (fun _ => ?_) (fun _ => ?_)
    | with_reducible refine qk.lim (fun _ => ?_))
noncomputable def q5F (fu : Nat) (x : qb) : Option qb := itR (JN fu) fu x
theorem q7p (fu : Nat) (x : qb) : qk (q5F fu x) (Qq x) := qk.rec q2I (q3w fu) fu x
noncomputable def zz (t14 : List qb) (t15 : Int) : (List qb × Int) → Option ((List qb × Int) ⊕ (List qb)) | (leaves, t16) => if t16 < t15 then if 0 ≤ t16 ∧ t16 < ((t14.length : Nat) : Int) then Option.bind t14[Int.toNat t16]? fun (a : qb) => if Zi a = Bool.true then Option.bind (Qq a) fun (a2 : qb) => if leaves.length + 1 ≤ Go.maxLen ∧ (leaves.length + 1) * 72 ≤ 140737488355328 then some (Sum.inl (leaves ++ [a2], w64 (t16 + 1))) else none else some (Sum.inl (leaves, w64 (t16 + 1))) else none else some (Sum.inr leaves)
theorem q4U : ∀ (leaves t14 : List qb) (t15 t16 : Int) (leaves_len : Nat), leaves_len = leaves.length → XL2 evo 14 0 3 ⟨[(2, rO 0 5 leaves_len), (14, rL 5 qg t14), (15, rI t15), (16, rI t16)], [(0, bR 31 5 qg leaves)], 1, 29⟩ = (qN (zz t14 t15) (leaves, t16)).bind (fun (e : List qb) => some (Go.Exit.exit 0, ⟨[(2, rO 0 5 e.length)], [(0, bR 31 5 qg e)], 1, 29⟩)) :=
  by
  intro leaves t14 t15 t16 leaves_len h0
  subst h0
  revert t16; revert leaves; exact q8L qpG qpp (fun e => by exact ⟨_, rfl, fun h => by cases h⟩) fun leaves t16 => by
    have := qwi; have := @qgO.eq_1; have := @q9g; have := @q7z; have := @zz.eq_1; exact gA
theorem q2U : ∀  (t14 : List qb) (t15 t16 : Int), XL2 evo 14 0 3 ⟨[(2, rO 0 5 0), (14, rL 5 qg t14), (15, rI t15), (16, rI t16)], [(0, B.row 31 5 [])], 1, 29⟩ = (qN (zz t14 t15) ([], t16)).bind (fun (e : List qb) => some (Go.Exit.exit 0, ⟨[(2, rO 0 5 e.length)], [(0, bR 31 5 qg e)], 1, 29⟩)) := by
  intro t14 t15 t16; have h := q4U [] t14 t15 t16 _ rfl
  first
    | exact h
    | (simp only [rL, dL, bR, bZ, Nat.reduceAdd] at h; exact h)
noncomputable def q0H (fu : Nat) (t14 : List qb) (t15 : Int) : (List qb × Int) → Option ((List qb × Int) ⊕ (List qb)) | (leaves, t16) => if t16 < t15 then if 0 ≤ t16 ∧ t16 < ((t14.length : Nat) : Int) then Option.bind t14[Int.toNat t16]? fun (a : qb) => if Zi a = Bool.true then Option.bind (q5F fu a) fun (a2 : qb) => if leaves.length + 1 ≤ Go.maxLen ∧ (leaves.length + 1) * 72 ≤ 140737488355328 then some (Sum.inl (leaves ++ [a2], w64 (t16 + 1))) else none else some (Sum.inl (leaves, w64 (t16 + 1))) else none else some (Sum.inr leaves)
theorem q4T (fu : Nat) (t14 : List qb) (t15 : Int) : ∀ x, qk (q0H fu t14 t15 x) (zz t14 t15 x) := by
  rintro ⟨leaves, t16⟩
  unfold q0H zz
  try dsimp only
  repeat (first
    | with_reducible exact qk.refl _
    | with_reducible exact qk.none _
    | with_reducible apply q7p
    | with_reducible refine qk.bind ?_ (fun _ => ?_)
    | with_reducible refine qk.ite ?_ ?_
    | with_reducible refine qk.sum (fun _ => ?_) (fun _ => ?_)
    | with_reducible refine qk.lim (fun _ => ?_))
noncomputable def QI (n : qb) : Option (List qb) := Option.bind (ZQ n) fun (a : Prod (List qb) (Prod Int Bool)) => Option.bind (qN (zz a.1 ((a.1.length : Nat) : Int)) ([], 0)) fun (a2 : List qb) => some a2
theorem q0C : ∀ (n_Kind n_N n_Min : Int) (n_Set : List qc) (n_L : List qb), ev 14 0 [R.agg [dI n_Kind, dI n_N, dI n_Min, dL 2 qe n_Set, dL 5 qg n_L]] [] = (QI (qb.mk n_Kind n_N n_Min n_Set n_L)).bind (fun (e : List qb) => some (rL 5 qg e, [])) :=
  fun n_Kind n_N n_Min n_Set n_L => by
    rw [qB qsm qv5.2.2.2 qvW]
    have := qwi; have := @q4p; have := @q2U; have := @QI.eq_1; exact gA
noncomputable def q0P (fu : Nat) (n : qb) : Option (List qb) := Option.bind (q2h fu n) fun (a : Prod (List qb) (Prod Int Bool)) => Option.bind (itT (q0H fu a.1 ((a.1.length : Nat) : Int)) fu ([], 0)) fun (a2 : List qb) => some a2
theorem q2H (fu : Nat) (n : qb) : qk (q0P fu n) (QI n) := by
  unfold q0P QI
  repeat (first
    | with_reducible exact qk.refl _
    | with_reducible exact qk.none _
    | with_reducible apply q4s
    | with_reducible apply q4T
    | with_reducible refine qk.bind ?_ (fun _ => ?_)
    | with_reducible refine qk.ite ?_ ?_
    | with_reducible refine qk.sum (fun _ => ?_) (fun _ => ?_)
    | with_reducible refine qk.lim (fun _ => ?_))
theorem qxp : okL 43 qhO := qA (qi qtD) (by kernel_rfl) (by kernel_rfl)
def qzi := JA_ @qhO.eq_1 (JA_ @Try.f43.eq_1 @qtD)
noncomputable def q0T (n : Int) (low : Int) (high : Int) : Option Bool := if low ≤ n then some (decide (n ≤ high)) else some Bool.false
noncomputable def qG (n : Int) (low : Int) (high : Int) : Bool := if low ≤ n then decide (n ≤ high) else Bool.false
theorem q6t (n low high : Int) : q0T n low high = some (qG n low high) := by
  unfold q0T qG
  simp only [Qg]
theorem ZB : ∀ (n low high : Int), ev 43 0 [rI n, rI low, rI high] [] = some (rB (qG n low high), []) :=
  fun n low high => by
    have h : ev 43 0 [rI n, rI low, rI high] [] = (q0T n low high).bind (fun (e : Bool) => some (rB e, [])) := by
      rw [qB qtD quT.2.2.2 qxp]
      have := qzi; have := @q0T.eq_1; exact gA
    rw [q6t] at h
    exact h
theorem qyb : okL 44 qhd := qA (qi qux) (by kernel_rfl) (by kernel_rfl)
def qxR := JA_ @qhd.eq_1 (JA_ @Try.f44.eq_1 @qux)
theorem q96 : ev 44 0 [] [] = some (R.c (C.hd HK.map 0), [(0, B.ob (@AO.mp [(Go.Value.int Go.IntKind.i64 1, (R.agg [C.fn 63 [] []], 0)), (Go.Value.int Go.IntKind.i64 2, (R.agg [C.fn 65 [] []], 1)), (Go.Value.int Go.IntKind.i64 3, (R.agg [C.fn 66 [] [dP 1]], 2)), (Go.Value.int Go.IntKind.i64 4, (R.agg [C.fn 67 [] [dP 1]], 3))] 4)), (1, B.blk 68 [C.fn 62 [] []])]) :=
  by
    rw [qB qux qvi.2.2.2 qyb]
    have := qxR; exact gA
theorem qzd : okL 63 qgy := qA (qi qsF) (by kernel_rfl) (by kernel_rfl)
def qxb := JA_ @qgy.eq_1 (JA_ @Try.f63.eq_1 @qsF)
theorem qvE : okL 64 qcz := qA (qi qrY) (by kernel_rfl) (by kernel_rfl)
def qwg := JA_ @qcz.eq_1 (JA_ @Try.f64.eq_1 @qrY)
theorem qro : lbO 64 7 = qfS := Qd (qi qrY) rfl
theorem qqq : okL 64 qfS := zd qvE (List.mem_of_getElem? (i := 0) (by kernel_rfl))
theorem qy4 : okL 73 qeJ := qA (qi qtw) (by kernel_rfl) (by kernel_rfl)
def qxO := JA_ @qeJ.eq_1 (JA_ @Try.f73.eq_1 @qtw)
theorem qv9 : okL 78 qcR := qA (qi qsh) (by kernel_rfl) (by kernel_rfl)
def qwr := JA_ @qcR.eq_1 (JA_ @Try.f78.eq_1 @qsh)
theorem qrb : lbO 78 2 = qhB := Qd (qi qsh) rfl
theorem qq4 : okL 78 qhB := zd qv9 (List.mem_of_getElem? (i := 0) (by kernel_rfl))
theorem qyI : okL 74 qf2 := qA (qi qsN) (by kernel_rfl) (by kernel_rfl)
def qyy := JA_ @qf2.eq_1 (JA_ @Try.f74.eq_1 @qsN)
theorem qxW : okL 75 qfw := qA (qi qtF) (by kernel_rfl) (by kernel_rfl)
def qxr := JA_ @qfw.eq_1 (JA_ @Try.f75.eq_1 @qtF)
theorem qx0 : okL 79 qhj := qA (qi qsX) (by kernel_rfl) (by kernel_rfl)
def qy2 := JA_ @qhj.eq_1 (JA_ @Try.f79.eq_1 @qsX)
theorem qyt : okL 84 qgw := qA (qi quj) (by kernel_rfl) (by kernel_rfl)
def qxt := JA_ @qgw.eq_1 (JA_ @Try.f84.eq_1 @quj)
theorem qv6 : okL 87 qcD := qA (qi qs6) (by kernel_rfl) (by kernel_rfl)
def qvK := JA_ @qcD.eq_1 (JA_ @Try.f87.eq_1 @qs6)
theorem qqD : lbO 87 2 = qeU := Qd (qi qs6) rfl
theorem qr0 : okL 87 qeU := zd qv6 (List.mem_of_getElem? (i := 0) (by kernel_rfl))
theorem qyu : okL 83 qfP := qA (qi qte) (by kernel_rfl) (by kernel_rfl)
def qyX := JA_ @qfP.eq_1 (JA_ @Try.f83.eq_1 @qte)
noncomputable def JE (c : Int) : Option Bool := if c < 65 then if c < 48 then some Bool.true else some (decide (57 < c)) else if 90 < c then if c < 48 then some Bool.true else some (decide (57 < c)) else some Bool.false
noncomputable def Q2 (c : Int) : Bool := if c < 65 then if c < 48 then Bool.true else decide (57 < c) else if 90 < c then if c < 48 then Bool.true else decide (57 < c) else Bool.false
theorem q4Q (c : Int) : JE c = some (Q2 c) := by
  unfold JE Q2
  simp only [Qg]
theorem q5W : ∀ (c : Int), ev 83 0 [R.c (C.d (D.int .i32 c))] [] = some (rB (Q2 c), []) :=
  fun c => by
    have h : ev 83 0 [R.c (C.d (D.int .i32 c))] [] = (JE c).bind (fun (e : Bool) => some (rB e, [])) := by
      rw [qB qte qvu.2.2.2 qyu]
      have := qyX; have := @JE.eq_1; exact gA
    rw [q4Q] at h
    exact h
noncomputable def qP (it0_s : ByteArray) (truth : Bool) : Nat → Option (Nat ⊕ (Int ⊕ Unit)) | it0_p => if it0_p < ByteArray.size it0_s then if (Q2 (((@Go.Utf8.decode it0_s it0_p).1 : Nat) : Int) == truth) = Bool.true then some (Sum.inr (Sum.inl ((it0_p : Nat) : Int))) else some (Sum.inl (it0_p + (@Go.Utf8.decode it0_s it0_p).2)) else some (Sum.inr (Sum.inr ()))
theorem q1x : ∀ (it0_s : ByteArray) (it0_p : Nat) (truth : Bool), XL2 evo 87 0 2 ⟨[(1, R.c (C.fn 83 [] [])), (2, rB truth), (10, R.c (C.hd .iter 0))], [(0, B.ob (AO.si it0_s it0_p))], 1, 21⟩ = (qN (qP it0_s truth) it0_p).bind (Sum.elim (fun (e : Int) => some (Go.Exit.ret, ⟨[(6, rI e)], [], 0, 21⟩)) (fun (e : Unit) => some (Go.Exit.exit 0, ⟨[(6, R.any)], [], 0, 21⟩))) :=
  fun it0_s it0_p truth => by
    revert it0_p; exact qbx qqD qr0 (fun e => by rcases e with _ | _ <;> exact ⟨_, rfl, fun h => by cases h⟩) fun x => by
      have := qvK; have := @qeU.eq_1; have := @q5W; have := @qP.eq_1; exact gA
noncomputable def Qn (s : ByteArray) (truth : Bool) : Option Int := Option.bind (qN (qP s truth) 0) fun (a : Sum Int Unit) => Sum.elim (fun (a2 : Int) => some a2) (fun (a3 : Unit) => some (-1)) a
theorem q2Q : ∀ (s : ByteArray) (truth : Bool), ev 87 0 [rS s, R.c (C.fn 83 [] []), rB truth] [] = (Qn s truth).bind (fun (e : Int) => some (rI e, [])) :=
  fun s truth => by
    rw [qB qs6 qvA.2.2.2 qv6]
    have := qvK; have := @q1x; have := @Qn.eq_1; exact gA
noncomputable def Ju (fu : Nat) (s : ByteArray) (truth : Bool) : Option Int := Option.bind (itT (qP s truth) fu 0) fun (a : Sum Int Unit) => Sum.elim (fun (a2 : Int) => some a2) (fun (a3 : Unit) => some (-1)) a
theorem q2O (fu : Nat) (s : ByteArray) (truth : Bool) : qk (Ju fu s truth) (Qn s truth) := by
  unfold Ju Qn
  repeat (first
    | with_reducible exact qk.refl _
    | with_reducible exact qk.none _
    | with_reducible refine qk.bind ?_ (fun _ => ?_)
    | with_reducible refine qk.ite ?_ ?_
    | with_reducible refine qk.sum (fun _ => ?_) (fun _ => ?_)
    | with_reducible refine qk.lim (fun _ => ?_))
noncomputable def Qk (s : ByteArray) : Option Int := Option.bind (Qn s Bool.true) fun (e0 : Int) => some e0
theorem q35 : ∀ (s : ByteArray), ev 84 0 [rS s, R.c (C.fn 83 [] [])] [] = (Qk s).bind (fun (e : Int) => some (rI e, [])) :=
  fun s => by
    rw [qB quj qvZ.2.2.2 qyt]
    have := qxt; have := @q2Q; have := @Qk.eq_1; exact gA
noncomputable def Jm (fu : Nat) (s : ByteArray) : Option Int := Option.bind (Ju fu s Bool.true) fun (e0 : Int) => some e0
theorem q2M (fu : Nat) (s : ByteArray) : qk (Jm fu s) (Qk s) := by
  unfold Jm Qk
  repeat (first
    | with_reducible exact qk.refl _
    | with_reducible exact qk.none _
    | with_reducible apply q2O
    | with_reducible refine qk.bind ?_ (fun _ => ?_)
    | with_reducible refine qk.ite ?_ ?_
    | with_reducible refine qk.sum (fun _ => ?_) (fun _ => ?_)
    | with_reducible refine qk.lim (fun _ => ?_))
noncomputable def Zs (s : ByteArray) : Option Bool := if (!(ByteArray.toList s == ByteArray.toList (ByteArray.mk (List.toArray [])))) = Bool.true then if ((ByteArray.size s : Nat) : Int) ≤ 8 then Option.bind (Qk s) fun (a : Int) => some (decide (a < 0)) else some Bool.false else some Bool.false
theorem q7K : ∀ (s : ByteArray), ev 79 0 [rS s] [] = (Zs s).bind (fun (e : Bool) => some (rB e, [])) :=
  fun s => by
    rw [qB qsX qvs.2.2.2 qx0]
    have := qy2; have := @q35; have := @Zs.eq_1; exact gA
noncomputable def q2r (fu : Nat) (s : ByteArray) : Option Bool := if (!(ByteArray.toList s == ByteArray.toList (ByteArray.mk (List.toArray [])))) = Bool.true then if ((ByteArray.size s : Nat) : Int) ≤ 8 then Option.bind (Jm fu s) fun (a : Int) => some (decide (a < 0)) else some Bool.false else some Bool.false
theorem q7N (fu : Nat) (s : ByteArray) : qk (q2r fu s) (Zs s) := by
  unfold q2r Zs
  repeat (first
    | with_reducible exact qk.refl _
    | with_reducible exact qk.none _
    | with_reducible apply q2M
    | with_reducible refine qk.bind ?_ (fun _ => ?_)
    | with_reducible refine qk.ite ?_ ?_
    | with_reducible refine qk.sum (fun _ => ?_) (fun _ => ?_)
    | with_reducible refine qk.lim (fun _ => ?_))
noncomputable def ZP (c : qc) : Option Bool := if qG c.School 1 8 = Bool.true then Option.bind (Zs c.Code) fun (e0 : Bool) => some e0 else some Bool.false
theorem q8g : ∀ (c_School : Int) (c_Code : ByteArray), ev 75 0 [R.agg [dI c_School, dS c_Code]] [] = (ZP (qc.mk c_School c_Code)).bind (fun (e : Bool) => some (rB e, [])) :=
  fun c_School c_Code => by
    rw [qB qtF qwk.2.2.2 qxW]
    have := qxr; have := @ZB; have := @q7K; have := @ZP.eq_1; exact gA
noncomputable def q3p (fu : Nat) (c : qc) : Option Bool := if qG c.School 1 8 = Bool.true then Option.bind (q2r fu c.Code) fun (e0 : Bool) => some e0 else some Bool.false
theorem q91 (fu : Nat) (c : qc) : qk (q3p fu c) (ZP c) := by
  unfold q3p ZP
  repeat (first
    | with_reducible exact qk.refl _
    | with_reducible exact qk.none _
    | with_reducible apply q7N
    | with_reducible refine qk.bind ?_ (fun _ => ?_)
    | with_reducible refine qk.ite ?_ ?_
    | with_reducible refine qk.sum (fun _ => ?_) (fun _ => ?_)
    | with_reducible refine qk.lim (fun _ => ?_))
noncomputable def QT (c : qc) : Option Bool := Option.bind (ZP c) fun (a : Bool) => some (!a)
theorem q4E : ∀ (c_School : Int) (c_Code : ByteArray), ev 74 0 [R.agg [dI c_School, dS c_Code]] [] = (QT (qc.mk c_School c_Code)).bind (fun (e : Bool) => some (rB e, [])) :=
  fun c_School c_Code => by
    rw [qB qsN qvh.2.2.2 qyI]
    have := qyy; have := @q8g; have := @QT.eq_1; exact gA
noncomputable def q0F (fu : Nat) (c : qc) : Option Bool := Option.bind (q3p fu c) fun (a : Bool) => some (!a)
theorem q4B (fu : Nat) (c : qc) : qk (q0F fu c) (QT c) := by
  unfold q0F QT
  repeat (first
    | with_reducible exact qk.refl _
    | with_reducible exact qk.none _
    | with_reducible apply q91
    | with_reducible refine qk.bind ?_ (fun _ => ?_)
    | with_reducible refine qk.ite ?_ ?_
    | with_reducible refine qk.sum (fun _ => ?_) (fun _ => ?_)
    | with_reducible refine qk.lim (fun _ => ?_))
noncomputable def qo (s : List qc) (t7 : Int) : Int → Option (Int ⊕ (Int ⊕ Unit)) | t8 => if t8 < t7 then if 0 ≤ t8 ∧ t8 < ((s.length : Nat) : Int) then Option.bind s[Int.toNat t8]? fun (a : qc) => Option.bind (QT a) fun (a2 : Bool) => if a2 = Bool.true then some (Sum.inr (Sum.inl t8)) else some (Sum.inl (w64 (t8 + 1))) else none else some (Sum.inr (Sum.inr ()))
theorem Z6 : ∀ (s : List qc) (t7 t8 : Int), XL2 evo 78 0 2 ⟨[(0, rL 2 qe s), (1, R.c (C.fn 74 [] [])), (7, rI t7), (8, rI t8)], [], 0, 19⟩ = (qN (qo s t7) t8).bind (Sum.elim (fun (e : Int) => some (Go.Exit.ret, ⟨[(4, rI e)], [], 0, 19⟩)) (fun (e : Unit) => some (Go.Exit.exit 0, ⟨[(4, R.any)], [], 0, 19⟩))) :=
  fun s t7 t8 => by
    revert t8; exact qbx qrb qq4 (fun e => by rcases e with _ | _ <;> exact ⟨_, rfl, fun h => by cases h⟩) fun x => by
      have := qwr; have := @qhB.eq_1; have := @q4E; have := @qo.eq_1; exact gA
noncomputable def za (fu : Nat) (s : List qc) (t7 : Int) : Int → Option (Int ⊕ (Int ⊕ Unit)) | t8 => if t8 < t7 then if 0 ≤ t8 ∧ t8 < ((s.length : Nat) : Int) then Option.bind s[Int.toNat t8]? fun (a : qc) => Option.bind (q0F fu a) fun (a2 : Bool) => if a2 = Bool.true then some (Sum.inr (Sum.inl t8)) else some (Sum.inl (w64 (t8 + 1))) else none else some (Sum.inr (Sum.inr ()))
theorem Z5 (fu : Nat) (s : List qc) (t7 : Int) : ∀ x, qk (za fu s t7 x) (qo s t7 x) := by
  rintro t8
  unfold za qo
  try dsimp only
  repeat (first
    | with_reducible exact qk.refl _
    | with_reducible exact qk.none _
    | with_reducible apply q4B
    | with_reducible refine qk.bind ?_ (fun _ => ?_)
    | with_reducible refine qk.ite ?_ ?_
    | with_reducible refine qk.sum (fun _ => ?_) (fun _ => ?_)
    | with_reducible refine qk.lim (fun _ => ?_))
noncomputable def qw (s : List qc) : Option Int := Option.bind (qN (qo s ((s.length : Nat) : Int)) 0) fun (a : Sum Int Unit) => Sum.elim (fun (a2 : Int) => some a2) (fun (a3 : Unit) => some (-1)) a
theorem Zr : ∀ (s : List qc), ev 78 0 [rL 2 qe s, R.c (C.fn 74 [] [])] [] = (qw s).bind (fun (e : Int) => some (rI e, [])) :=
  fun s => by
    rw [qB qsh quR.2.2.2 qv9]
    have := qwr; have := @Z6; have := @qw.eq_1; exact gA
noncomputable def zu (fu : Nat) (s : List qc) : Option Int := Option.bind (itT (za fu s ((s.length : Nat) : Int)) fu 0) fun (a : Sum Int Unit) => Sum.elim (fun (a2 : Int) => some a2) (fun (a3 : Unit) => some (-1)) a
theorem Zv (fu : Nat) (s : List qc) : qk (zu fu s) (qw s) := by
  unfold zu qw
  repeat (first
    | with_reducible exact qk.refl _
    | with_reducible exact qk.none _
    | with_reducible apply Z5
    | with_reducible refine qk.bind ?_ (fun _ => ?_)
    | with_reducible refine qk.ite ?_ ?_
    | with_reducible refine qk.sum (fun _ => ?_) (fun _ => ?_)
    | with_reducible refine qk.lim (fun _ => ?_))
noncomputable def qp (s : List qc) : Option Bool := Option.bind (qw s) fun (a : Int) => some (decide (0 ≤ a))
theorem Z4 : ∀ (s : List qc), ev 73 0 [rL 2 qe s, R.c (C.fn 74 [] [])] [] = (qp s).bind (fun (e : Bool) => some (rB e, [])) :=
  fun s => by
    rw [qB qtw qw0.2.2.2 qy4]
    have := qxO; have := @Zr; have := @qp.eq_1; exact gA
noncomputable def z8 (fu : Nat) (s : List qc) : Option Bool := Option.bind (zu fu s) fun (a : Int) => some (decide (0 ≤ a))
theorem Z7 (fu : Nat) (s : List qc) : qk (z8 fu s) (qp s) := by
  unfold z8 qp
  repeat (first
    | with_reducible exact qk.refl _
    | with_reducible exact qk.none _
    | with_reducible apply Zv
    | with_reducible refine qk.bind ?_ (fun _ => ?_)
    | with_reducible refine qk.ite ?_ ?_
    | with_reducible refine qk.sum (fun _ => ?_) (fun _ => ?_)
    | with_reducible refine qk.lim (fun _ => ?_))
theorem qxD : okL 76 qgb := qA (qi qu5) (by kernel_rfl) (by kernel_rfl)
def qyY := JA_ @qgb.eq_1 (JA_ @Try.f76.eq_1 @qu5)
theorem qzg : okL 81 qh1 := qA (qi qsz) (by kernel_rfl) (by kernel_rfl)
def qxS := JA_ @qh1.eq_1 (JA_ @Try.f81.eq_1 @qsz)
theorem qwR : okL 85 qfU := qA (qi qtn) (by kernel_rfl) (by kernel_rfl)
def qzf := JA_ @qfU.eq_1 (JA_ @Try.f85.eq_1 @qtn)
noncomputable def JU (x : Int) : Option Bool :=
  some (x != x)
noncomputable def zi (x : Int) : Bool :=
  x != x
theorem q4Z (x : Int) : JU x = some (zi x) := by
  unfold JU zi
  simp only [Qg]
theorem q5o : ∀ (x : Int), ev 85 0 [rI x] [] = some (rB (zi x), []) :=
  fun x => by
    have h : ev 85 0 [rI x] [] = (JU x).bind (fun (e : Bool) => some (rB e, [])) := by
      rw [qB qtn qwq.2.2.2 qwR]
      have := qzf; have := @JU.eq_1; exact gA
    rw [q4Z] at h
    exact h
noncomputable def ZW (x : Int) (y : Int) : Option Int := if zi x = Bool.true then if zi y = Bool.true then some 0 else some (-1) else if zi y = Bool.true then some 1 else if x < y then some (-1) else if y < x then some 1 else some 0
noncomputable def Q0 (x : Int) (y : Int) : Int := if zi x = Bool.true then if zi y = Bool.true then 0 else (-1) else if zi y = Bool.true then 1 else if x < y then (-1) else if y < x then 1 else 0
theorem q3s (x y : Int) : ZW x y = some (Q0 x y) := by
  unfold ZW Q0
  simp only [Qg]
theorem q47 : ∀ (x y : Int), ev 81 0 [rI x, rI y] [] = some (rI (Q0 x y), []) :=
  fun x y => by
    have h : ev 81 0 [rI x, rI y] [] = (ZW x y).bind (fun (e : Int) => some (rI e, [])) := by
      rw [qB qsz qw5.2.2.2 qzg]
      have := qxS; have := @q5o; have := @ZW.eq_1; exact gA
    rw [q3s] at h
    exact h
theorem qxe : okL 82 qhr := qA (qi qtG) (by kernel_rfl) (by kernel_rfl)
def qyC := JA_ @qhr.eq_1 (JA_ @Try.f82.eq_1 @qtG)
theorem qxN : okL 86 qgX := qA (qi qsY) (by kernel_rfl) (by kernel_rfl)
def qze := JA_ @qgX.eq_1 (JA_ @Try.f86.eq_1 @qsY)
noncomputable def ZJ (x : ByteArray) : Option Unit :=
  some ()
noncomputable def q0N (x : ByteArray) : Unit :=
  ()
theorem q2L (x : ByteArray) : ZJ x = some (q0N x) := by
  unfold ZJ q0N
  simp only [Qg]
theorem q3P : ∀ (x : ByteArray), ev 86 0 [rS x] [] = some (rB Bool.false, []) :=
  fun x => by
    have h : ev 86 0 [rS x] [] = (ZJ x).bind (fun (e : Unit) => some (rB Bool.false, [])) := by
      rw [qB qsY qvD.2.2.2 qxN]
      have := qze; have := @ZJ.eq_1; exact gA
    rw [q2L] at h
    exact h
noncomputable def Z8 (x : ByteArray) (y : ByteArray) : Option Int := if Go.Op.bytesLess (ByteArray.toList x) (ByteArray.toList y) = Bool.true then some (-1) else if (!(Go.Op.bytesLess (ByteArray.toList x) (ByteArray.toList y) || ByteArray.toList x == ByteArray.toList y)) = Bool.true then some 1 else some 0
noncomputable def zp (x : ByteArray) (y : ByteArray) : Int := if Go.Op.bytesLess (ByteArray.toList x) (ByteArray.toList y) = Bool.true then (-1) else if (!(Go.Op.bytesLess (ByteArray.toList x) (ByteArray.toList y) || ByteArray.toList x == ByteArray.toList y)) = Bool.true then 1 else 0
theorem q1M (x y : ByteArray) : Z8 x y = some (zp x y) := by
  unfold Z8 zp
  simp only [Qg]
theorem q2a : ∀ (x y : ByteArray), ev 82 0 [rS x, rS y] [] = some (rI (zp x y), []) :=
  fun x y => by
    have h : ev 82 0 [rS x, rS y] [] = (Z8 x y).bind (fun (e : Int) => some (rI e, [])) := by
      rw [qB qtG qvX.2.2.2 qxe]
      have := qyC; have := @q3P; have := @Z8.eq_1; exact gA
    rw [q1M] at h
    exact h
theorem qwF : okL 80 qdB := qA (qi qs4) (by kernel_rfl) (by kernel_rfl)
def qwI := JA_ @qdB.eq_1 (JA_ @Try.f80.eq_1 @qs4)
theorem qre : lbO 80 3 = qik := Qd (qi qs4) rfl
theorem qpA : okL 80 qik := zd qwF (List.mem_of_getElem? (i := 0) (by kernel_rfl))
noncomputable def zO (zero : Int) (t6 : List Int) (t7 : Int) : Int → Option (Int ⊕ (Int ⊕ Unit)) | t8 => if t8 < t7 then if 0 ≤ t8 ∧ t8 < ((t6.length : Nat) : Int) then Option.bind t6[Int.toNat t8]? fun (a : Int) => if (a != zero) = Bool.true then some (Sum.inr (Sum.inl a)) else some (Sum.inl (w64 (t8 + 1))) else none else some (Sum.inr (Sum.inr ()))
theorem q5e : ∀ (zero : Int) (t6 : List Int) (t7 t8 : Int), XL2 evo 80 0 3 ⟨[(3, rI zero), (6, rL 1 eI t6), (7, rI t7), (8, rI t8)], [], 0, 18⟩ = (qN (zO zero t6 t7) t8).bind (Sum.elim (fun (e : Int) => some (Go.Exit.ret, ⟨[(2, rI e), (3, rI zero)], [], 0, 18⟩)) (fun (e : Unit) => some (Go.Exit.exit 0, ⟨[(2, R.any), (3, rI zero)], [], 0, 18⟩))) :=
  fun zero t6 t7 t8 => by
    revert t8; exact qbx qre qpA (fun e => by rcases e with _ | _ <;> exact ⟨_, rfl, fun h => by cases h⟩) fun x => by
      have := qwI; have := @qik.eq_1; have := @zO.eq_1; exact gA
noncomputable def Zg (vals : List Int) : Option Int := Option.bind (qN (zO 0 vals ((vals.length : Nat) : Int)) 0) fun (a : Sum Int Unit) => Sum.elim (fun (a2 : Int) => some a2) (fun (a3 : Unit) => some 0) a
theorem q8G : ∀ (vals : List Int), ev 80 0 [rL 1 eI vals] [] = (Zg vals).bind (fun (e : Int) => some (rI e, [])) :=
  fun vals => by
    rw [qB qs4 qva.2.2.2 qwF]
    have := qwI; have := @q5e; have := @Zg.eq_1; exact gA
theorem q5k : ∀ (vals0 vals1 : Int) , ev 80 0 [R.c (C.d (D.sl 1 2 [D.int .i64 vals0, D.int .i64 vals1]))] [] = (Zg [vals0, vals1]).bind (fun (e : Int) => some (rI e, [])) := by
  intro vals0 vals1; have h := q8G [vals0, vals1]
  first
    | exact h
    | (simp only [rL, dL, bR, bZ, Nat.reduceAdd] at h; exact h)
noncomputable def q3S (fu : Nat) (vals : List Int) : Option Int := Option.bind (itT (zO 0 vals ((vals.length : Nat) : Int)) fu 0) fun (a : Sum Int Unit) => Sum.elim (fun (a2 : Int) => some a2) (fun (a3 : Unit) => some 0) a
theorem q8W (fu : Nat) (vals : List Int) : qk (q3S fu vals) (Zg vals) := by
  unfold q3S Zg
  repeat (first
    | with_reducible exact qk.refl _
    | with_reducible exact qk.none _
    | with_reducible refine qk.bind ?_ (fun _ => ?_)
    | with_reducible refine qk.ite ?_ ?_
    | with_reducible refine qk.sum (fun _ => ?_) (fun _ => ?_)
    | with_reducible refine qk.lim (fun _ => ?_))
noncomputable def QZ (a : qc) (b : qc) : Option Int := Option.bind (Zg [Q0 a.School b.School, zp a.Code b.Code]) fun (e0 : Int) => some e0
theorem q6Y : ∀ (a_School : Int) (a_Code : ByteArray) (b_School : Int) (b_Code : ByteArray), ev 76 0 [R.agg [dI a_School, dS a_Code], R.agg [dI b_School, dS b_Code]] [] = (QZ (qc.mk a_School a_Code) (qc.mk b_School b_Code)).bind (fun (e : Int) => some (rI e, [])) :=
  fun a_School a_Code b_School b_Code => by
    rw [qB qu5 quY.2.2.2 qxD]
    have := qyY; have := @q47; have := @q2a; have := @q5k; have := @QZ.eq_1; exact gA
noncomputable def q1D (fu : Nat) (a : qc) (b : qc) : Option Int := Option.bind (q3S fu [Q0 a.School b.School, zp a.Code b.Code]) fun (e0 : Int) => some e0
theorem q6o (fu : Nat) (a b : qc) : qk (q1D fu a b) (QZ a b) := by
  unfold q1D QZ
  repeat (first
    | with_reducible exact qk.refl _
    | with_reducible exact qk.none _
    | with_reducible apply q8W
    | with_reducible refine qk.bind ?_ (fun _ => ?_)
    | with_reducible refine qk.ite ?_ ?_
    | with_reducible refine qk.sum (fun _ => ?_) (fun _ => ?_)
    | with_reducible refine qk.lim (fun _ => ?_))
noncomputable def zl (n : qb) (t22 : List qc) (t23 : Int) : Int → Option (Int ⊕ (Unit ⊕ Unit)) | t24 => if t24 < t23 then if 0 ≤ t24 ∧ t24 < ((t22.length : Nat) : Int) then Option.bind t22[Int.toNat t24]? fun (a : qc) => if 0 < t24 then if 0 ≤ w64 (t24 - 1) ∧ w64 (t24 - 1) < ((n.Set.length : Nat) : Int) then Option.bind n.Set[Int.toNat (w64 (t24 - 1))]? fun (a2 : qc) => Option.bind (QZ a2 a) fun (a3 : Int) => if 0 ≤ a3 then some (Sum.inr (Sum.inl ())) else some (Sum.inl (w64 (t24 + 1))) else none else some (Sum.inl (w64 (t24 + 1))) else none else some (Sum.inr (Sum.inr ()))
theorem q49 : ∀ (n_Kind n_N n_Min : Int) (n_Set : List qc) (n_L : List qb) (t22 : List qc) (t23 t24 : Int), XL2 evo 64 0 7 ⟨[(1, rP 0), (22, rL 2 qe t22), (23, rI t23), (24, rI t24)], [(0, B.blk 31 [dI n_Kind, dI n_N, dI n_Min, dL 2 qe n_Set, dL 5 qg n_L])], 1, 43⟩ = (qN (zl (qb.mk n_Kind n_N n_Min n_Set n_L) t22 t23) t24).bind (Sum.elim (fun (e : Unit) => some (Go.Exit.ret, ⟨[(2, rI 7)], [], 0, 43⟩)) (fun (e : Unit) => some (Go.Exit.exit 1, ⟨[(2, R.any)], [], 0, 43⟩))) :=
  fun n_Kind n_N n_Min n_Set n_L t22 t23 t24 => by
    revert t24; exact qbx qro qqq (fun e => by rcases e with _ | _ <;> exact ⟨_, rfl, fun h => by cases h⟩) fun x => by
      have := qwg; have := @qfS.eq_1; have := @q6Y; have := @zl.eq_1; exact gA
noncomputable def q06 (fu : Nat) (n : qb) (t22 : List qc) (t23 : Int) : Int → Option (Int ⊕ (Unit ⊕ Unit)) | t24 => if t24 < t23 then if 0 ≤ t24 ∧ t24 < ((t22.length : Nat) : Int) then Option.bind t22[Int.toNat t24]? fun (a : qc) => if 0 < t24 then if 0 ≤ w64 (t24 - 1) ∧ w64 (t24 - 1) < ((n.Set.length : Nat) : Int) then Option.bind n.Set[Int.toNat (w64 (t24 - 1))]? fun (a2 : qc) => Option.bind (q1D fu a2 a) fun (a3 : Int) => if 0 ≤ a3 then some (Sum.inr (Sum.inl ())) else some (Sum.inl (w64 (t24 + 1))) else none else some (Sum.inl (w64 (t24 + 1))) else none else some (Sum.inr (Sum.inr ()))
theorem q48 (fu : Nat) (n : qb) (t22 : List qc) (t23 : Int) : ∀ x, qk (q06 fu n t22 t23 x) (zl n t22 t23 x) := by
  rintro t24
  unfold q06 zl
  try dsimp only
  repeat (first
    | with_reducible exact qk.refl _
    | with_reducible exact qk.none _
    | with_reducible apply q6o
    | with_reducible refine qk.bind ?_ (fun _ => ?_)
    | with_reducible refine qk.ite ?_ ?_
    | with_reducible refine qk.sum (fun _ => ?_) (fun _ => ?_)
    | with_reducible refine qk.lim (fun _ => ?_))
noncomputable def QM (n : qb) : Option Int := if (!(qG n.Min (-1000) 1000)) = Bool.true then some 3 else if (!(qG ((n.Set.length : Nat) : Int) 1 12)) = Bool.true then some 2 else Option.bind (qp n.Set) fun (a : Bool) => if (!a) = Bool.true then Option.bind (qN (zl n n.Set ((n.Set.length : Nat) : Int)) 0) fun (a2 : Sum Unit Unit) => Sum.elim (fun (a3 : Unit) => some 7) (fun (a4 : Unit) => some 0) a2 else some 1
theorem q1V : ∀ (n_Kind n_N n_Min : Int) (n_Set : List qc) (n_L : List qb), ev 64 0 [R.agg [dI n_Kind, dI n_N, dI n_Min, dL 2 qe n_Set, dL 5 qg n_L]] [] = (QM (qb.mk n_Kind n_N n_Min n_Set n_L)).bind (fun (e : Int) => some (rI e, [])) :=
  fun n_Kind n_N n_Min n_Set n_L => by
    rw [qB qrY qvz.2.2.2 qvE]
    have := qwg; have := @ZB; have := @Z4; have := @q49; have := @QM.eq_1; exact gA
noncomputable def q0k (fu : Nat) (n : qb) : Option Int := if (!(qG n.Min (-1000) 1000)) = Bool.true then some 3 else if (!(qG ((n.Set.length : Nat) : Int) 1 12)) = Bool.true then some 2 else Option.bind (z8 fu n.Set) fun (a : Bool) => if (!a) = Bool.true then Option.bind (itT (q06 fu n n.Set ((n.Set.length : Nat) : Int)) fu 0) fun (a2 : Sum Unit Unit) => Sum.elim (fun (a3 : Unit) => some 7) (fun (a4 : Unit) => some 0) a2 else some 1
theorem q1T (fu : Nat) (n : qb) : qk (q0k fu n) (QM n) := by
  unfold q0k QM
  repeat (first
    | with_reducible exact qk.refl _
    | with_reducible exact qk.none _
    | with_reducible apply Z7
    | with_reducible apply q48
    | with_reducible refine qk.bind ?_ (fun _ => ?_)
    | with_reducible refine qk.ite ?_ ?_
    | with_reducible refine qk.sum (fun _ => ?_) (fun _ => ?_)
    | with_reducible refine qk.lim (fun _ => ?_))
noncomputable def QX (n : qb) : Option Int := if (n.N != 0) = Bool.true then some 13 else if 0 < ((n.L.length : Nat) : Int) then some 13 else Option.bind (QM n) fun (e0 : Int) => some e0
theorem q73 : ∀ (n_Kind n_N n_Min : Int) (n_Set : List qc) (n_L : List qb), ev 63 0 [R.agg [dI n_Kind, dI n_N, dI n_Min, dL 2 qe n_Set, dL 5 qg n_L]] [] = (QX (qb.mk n_Kind n_N n_Min n_Set n_L)).bind (fun (e : Int) => some (rI e, [])) :=
  fun n_Kind n_N n_Min n_Set n_L => by
    rw [qB qsF qwe.2.2.2 qzd]
    have := qxb; have := @q1V; have := @QX.eq_1; exact gA
noncomputable def q1u (fu : Nat) (n : qb) : Option Int := if (n.N != 0) = Bool.true then some 13 else if 0 < ((n.L.length : Nat) : Int) then some 13 else Option.bind (q0k fu n) fun (e0 : Int) => some e0
theorem q6F (fu : Nat) (n : qb) : qk (q1u fu n) (QX n) := by
  unfold q1u QX
  repeat (first
    | with_reducible exact qk.refl _
    | with_reducible exact qk.none _
    | with_reducible apply q1T
    | with_reducible refine qk.bind ?_ (fun _ => ?_)
    | with_reducible refine qk.ite ?_ ?_
    | with_reducible refine qk.sum (fun _ => ?_) (fun _ => ?_)
    | with_reducible refine qk.lim (fun _ => ?_))
theorem qyS : okL 65 qgf := qA (qi qub) (by kernel_rfl) (by kernel_rfl)
def qxV := JA_ @qgf.eq_1 (JA_ @Try.f65.eq_1 @qub)
noncomputable def Z0 (n : qb) : Option Int := if 0 < ((n.L.length : Nat) : Int) then some 13 else if (!(qG n.N 1 600)) = Bool.true then some 3 else Option.bind (QM n) fun (e0 : Int) => some e0
theorem q6X : ∀ (n_Kind n_N n_Min : Int) (n_Set : List qc) (n_L : List qb), ev 65 0 [R.agg [dI n_Kind, dI n_N, dI n_Min, dL 2 qe n_Set, dL 5 qg n_L]] [] = (Z0 (qb.mk n_Kind n_N n_Min n_Set n_L)).bind (fun (e : Int) => some (rI e, [])) :=
  fun n_Kind n_N n_Min n_Set n_L => by
    rw [qB qub qwv.2.2.2 qyS]
    have := qxV; have := @ZB; have := @q1V; have := @Z0.eq_1; exact gA
noncomputable def q1G (fu : Nat) (n : qb) : Option Int := if 0 < ((n.L.length : Nat) : Int) then some 13 else if (!(qG n.N 1 600)) = Bool.true then some 3 else Option.bind (q0k fu n) fun (e0 : Int) => some e0
theorem q6A (fu : Nat) (n : qb) : qk (q1G fu n) (Z0 n) := by
  unfold q1G Z0
  repeat (first
    | with_reducible exact qk.refl _
    | with_reducible exact qk.none _
    | with_reducible apply q1T
    | with_reducible refine qk.bind ?_ (fun _ => ?_)
    | with_reducible refine qk.ite ?_ ?_
    | with_reducible refine qk.sum (fun _ => ?_) (fun _ => ?_)
    | with_reducible refine qk.lim (fun _ => ?_))
theorem qx3 : okL 66 qhs := qA (qi qus) (by kernel_rfl) (by kernel_rfl)
def qyk := JA_ @qhs.eq_1 (JA_ @Try.f66.eq_1 @qus)
theorem qxy : okL 62 qfs := qA (qi qu0) (by kernel_rfl) (by kernel_rfl)
def qwK := JA_ @qfs.eq_1 (JA_ @Try.f62.eq_1 @qu0)
noncomputable def q0f (n : qb) : Option Bool := if (n.Min == 0) = Bool.true then if (((n.Set.length : Nat) : Int) == 0) = Bool.true then some (decide (0 < ((n.L.length : Nat) : Int))) else some Bool.false else some Bool.false
noncomputable def zX (n : qb) : Bool := if (n.Min == 0) = Bool.true then if (((n.Set.length : Nat) : Int) == 0) = Bool.true then decide (0 < ((n.L.length : Nat) : Int)) else Bool.false else Bool.false
theorem q5p (n : qb) : q0f n = some (zX n) := by
  unfold q0f zX
  simp only [Qg]
theorem q1N : ∀ (n_Kind n_N n_Min : Int) (n_Set : List qc) (n_L : List qb), ev 62 0 [R.agg [dI n_Kind, dI n_N, dI n_Min, dL 2 qe n_Set, dL 5 qg n_L]] [] = some (rB (zX (qb.mk n_Kind n_N n_Min n_Set n_L)), []) :=
  fun n_Kind n_N n_Min n_Set n_L => by
    have h : ev 62 0 [R.agg [dI n_Kind, dI n_N, dI n_Min, dL 2 qe n_Set, dL 5 qg n_L]] [] = (q0f (qb.mk n_Kind n_N n_Min n_Set n_L)).bind (fun (e : Bool) => some (rB e, [])) := by
      rw [qB qu0 quP.2.2.2 qxy]
      have := qwK; have := @q0f.eq_1; exact gA
    rw [q5p] at h
    exact h
noncomputable def q0g (n : qb) : Option Int := if (!(zX n)) = Bool.true then some 13 else if (n.N != 0) = Bool.true then some 13 else some 0
noncomputable def zW (n : qb) : Int := if (!(zX n)) = Bool.true then 13 else if (n.N != 0) = Bool.true then 13 else 0
theorem q5G (n : qb) : q0g n = some (zW n) := by
  unfold q0g zW
  simp only [Qg]
theorem q6m : ∀ (n_Kind n_N n_Min : Int) (n_Set : List qc) (n_L : List qb), ev 66 1 [R.agg [dI n_Kind, dI n_N, dI n_Min, dL 2 qe n_Set, dL 5 qg n_L], rP 0] [(0, B.blk 68 [C.fn 62 [] []])] = some (rI (zW (qb.mk n_Kind n_N n_Min n_Set n_L)), [(0, B.blk 68 [C.fn 62 [] []])]) :=
  fun n_Kind n_N n_Min n_Set n_L => by
    have h : ev 66 1 [R.agg [dI n_Kind, dI n_N, dI n_Min, dL 2 qe n_Set, dL 5 qg n_L], rP 0] [(0, B.blk 68 [C.fn 62 [] []])] = (q0g (qb.mk n_Kind n_N n_Min n_Set n_L)).bind (fun (e : Int) => some (rI e, [(0, B.blk 68 [C.fn 62 [] []])])) := by
      rw [qB qus qww.2.2.2 qx3]
      have := qyk; have := @q1N; have := @q0g.eq_1; exact gA
    rw [q5G] at h
    exact h
theorem qyc : okL 67 qfb := qA (qi qtI) (by kernel_rfl) (by kernel_rfl)
def qxY := JA_ @qfb.eq_1 (JA_ @Try.f67.eq_1 @qtI)
noncomputable def q0n (n : qb) : Option Int := if (!(zX n)) = Bool.true then some 13 else if (!(qG n.N 1 ((n.L.length : Nat) : Int))) = Bool.true then some 3 else some 0
noncomputable def zS (n : qb) : Int := if (!(zX n)) = Bool.true then 13 else if (!(qG n.N 1 ((n.L.length : Nat) : Int))) = Bool.true then 3 else 0
theorem q5i (n : qb) : q0n n = some (zS n) := by
  unfold q0n zS
  simp only [Qg]
theorem q6j : ∀ (n_Kind n_N n_Min : Int) (n_Set : List qc) (n_L : List qb), ev 67 1 [R.agg [dI n_Kind, dI n_N, dI n_Min, dL 2 qe n_Set, dL 5 qg n_L], rP 0] [(0, B.blk 68 [C.fn 62 [] []])] = some (rI (zS (qb.mk n_Kind n_N n_Min n_Set n_L)), [(0, B.blk 68 [C.fn 62 [] []])]) :=
  fun n_Kind n_N n_Min n_Set n_L => by
    have h : ev 67 1 [R.agg [dI n_Kind, dI n_N, dI n_Min, dL 2 qe n_Set, dL 5 qg n_L], rP 0] [(0, B.blk 68 [C.fn 62 [] []])] = (q0n (qb.mk n_Kind n_N n_Min n_Set n_L)).bind (fun (e : Int) => some (rI e, [(0, B.blk 68 [C.fn 62 [] []])])) := by
      rw [qB qtI qwE.2.2.2 qyc]
      have := qxY; have := @q1N; have := @ZB; have := @q0n.eq_1; exact gA
    rw [q5i] at h
    exact h
noncomputable def Q5 (t37 : List qb) (t38 : Int) : Int → Option (Int ⊕ (Int ⊕ Unit)) | t39 => if t39 < t38 then if 0 ≤ t39 ∧ t39 < ((t37.length : Nat) : Int) then Option.bind t37[Int.toNat t39]? fun (a : qb) => if a.Kind = 1 then Option.bind (QX a) fun (a2 : Int) => if (a2 != 0) = Bool.true then some (Sum.inr (Sum.inl a2)) else some (Sum.inl (w64 (t39 + 1))) else if a.Kind = 2 then Option.bind (Z0 a) fun (a3 : Int) => if (a3 != 0) = Bool.true then some (Sum.inr (Sum.inl a3)) else some (Sum.inl (w64 (t39 + 1))) else if a.Kind = 3 then if (zW a != 0) = Bool.true then some (Sum.inr (Sum.inl (zW a))) else some (Sum.inl (w64 (t39 + 1))) else if a.Kind = 4 then if (zS a != 0) = Bool.true then some (Sum.inr (Sum.inl (zS a))) else some (Sum.inl (w64 (t39 + 1))) else some (Sum.inr (Sum.inl 13)) else none else some (Sum.inr (Sum.inr ()))
theorem q5T : ∀ (t37 : List qb) (t38 t39 : Int), XL2 evo 21 0 6 ⟨[(6, R.c (C.hd .map 0)), (37, rL 5 qg t37), (38, rI t38), (39, rI t39)], [(0, B.ob (AO.mp [(Go.Value.int Go.IntKind.i64 1, R.agg [C.fn 63 [] []], 0), (Go.Value.int Go.IntKind.i64 2, R.agg [C.fn 65 [] []], 1), (Go.Value.int Go.IntKind.i64 3, R.agg [C.fn 66 [] [dP 1]], 2), (Go.Value.int Go.IntKind.i64 4, R.agg [C.fn 67 [] [dP 1]], 3)] 4)), (1, B.blk 68 [C.fn 62 [] []])], 2, 60⟩ = (qN (Q5 t37 t38) t39).bind (Sum.elim (fun (e : Int) => some (Go.Exit.ret, ⟨[(2, rI e)], [], 0, 60⟩)) (fun (e : Unit) => some (Go.Exit.exit 0, ⟨[(2, R.any)], [], 0, 60⟩))) :=
  fun t37 t38 t39 => by
    revert t39; exact qbx qrs qoG (fun e => by rcases e with _ | _ <;> exact ⟨_, rfl, fun h => by cases h⟩) fun x => by
      have := qvS; have := @qfl.eq_1; have := @q73; have := @q6X; have := @q6m; have := @q6j; have := @Q5.eq_1; exact gA
noncomputable def q0Y (fu : Nat) (t37 : List qb) (t38 : Int) : Int → Option (Int ⊕ (Int ⊕ Unit)) | t39 => if t39 < t38 then if 0 ≤ t39 ∧ t39 < ((t37.length : Nat) : Int) then Option.bind t37[Int.toNat t39]? fun (a : qb) => if a.Kind = 1 then Option.bind (q1u fu a) fun (a2 : Int) => if (a2 != 0) = Bool.true then some (Sum.inr (Sum.inl a2)) else some (Sum.inl (w64 (t39 + 1))) else if a.Kind = 2 then Option.bind (q1G fu a) fun (a3 : Int) => if (a3 != 0) = Bool.true then some (Sum.inr (Sum.inl a3)) else some (Sum.inl (w64 (t39 + 1))) else if a.Kind = 3 then if (zW a != 0) = Bool.true then some (Sum.inr (Sum.inl (zW a))) else some (Sum.inl (w64 (t39 + 1))) else if a.Kind = 4 then if (zS a != 0) = Bool.true then some (Sum.inr (Sum.inl (zS a))) else some (Sum.inl (w64 (t39 + 1))) else some (Sum.inr (Sum.inl 13)) else none else some (Sum.inr (Sum.inr ()))
theorem q5Z (fu : Nat) (t37 : List qb) (t38 : Int) : ∀ x, qk (q0Y fu t37 t38 x) (Q5 t37 t38 x) := by
  rintro t39
  unfold q0Y Q5
  try dsimp only
  repeat (first
    | with_reducible exact qk.refl _
    | with_reducible exact qk.none _
    | with_reducible apply q6F
    | with_reducible apply q6A
    | with_reducible refine qk.bind ?_ (fun _ => ?_)
    | with_reducible refine qk.ite ?_ ?_
    | with_reducible refine qk.sum (fun _ => ?_) (fun _ => ?_)
    | with_reducible refine qk.lim (fun _ => ?_))
noncomputable def QV (n : qb) : Option Int := Option.bind (ZQ n) fun (a : Prod (List qb) (Prod Int Bool)) => if (!a.2.2) = Bool.true then some 2 else if 24 < ((a.1.length : Nat) : Int) then some 2 else if 5 < a.2.1 then some 2 else Option.bind (QI n) fun (a2 : List qb) => if (!(qG ((a2.length : Nat) : Int) 1 8)) = Bool.true then some 2 else Option.bind (qN (Q5 a.1 ((a.1.length : Nat) : Int)) 0) fun (a3 : Sum Int Unit) => Sum.elim (fun (a4 : Int) => some a4) (fun (a5 : Unit) => some 0) a3
theorem q3L : ∀ (n_Kind n_N n_Min : Int) (n_Set : List qc) (n_L : List qb), ev 21 0 [R.agg [dI n_Kind, dI n_N, dI n_Min, dL 2 qe n_Set, dL 5 qg n_L]] [] = (QV (qb.mk n_Kind n_N n_Min n_Set n_L)).bind (fun (e : Int) => some (rI e, [])) :=
  fun n_Kind n_N n_Min n_Set n_L => by
    rw [qB qso qwx.2.2.2 qw4]
    have := qvS; have := @q4p; have := @q0C; have := @ZB; have := @q96; have := @q5T; have := @QV.eq_1; exact gA
noncomputable def q1r (fu : Nat) (n : qb) : Option Int := Option.bind (q2h fu n) fun (a : Prod (List qb) (Prod Int Bool)) => if (!a.2.2) = Bool.true then some 2 else if 24 < ((a.1.length : Nat) : Int) then some 2 else if 5 < a.2.1 then some 2 else Option.bind (q0P fu n) fun (a2 : List qb) => if (!(qG ((a2.length : Nat) : Int) 1 8)) = Bool.true then some 2 else Option.bind (itT (q0Y fu a.1 ((a.1.length : Nat) : Int)) fu 0) fun (a3 : Sum Int Unit) => Sum.elim (fun (a4 : Int) => some a4) (fun (a5 : Unit) => some 0) a3
theorem q3g (fu : Nat) (n : qb) : qk (q1r fu n) (QV n) := by
  unfold q1r QV
  repeat (first
    | with_reducible exact qk.refl _
    | with_reducible exact qk.none _
    | with_reducible apply q4s
    | with_reducible apply q2H
    | with_reducible apply q5Z
    | with_reducible refine qk.bind ?_ (fun _ => ?_)
    | with_reducible refine qk.ite ?_ ?_
    | with_reducible refine qk.sum (fun _ => ?_) (fun _ => ?_)
    | with_reducible refine qk.lim (fun _ => ?_))
theorem qwp : okL 24 qhn := qA (qi qsq) (by kernel_rfl) (by kernel_rfl)
def qvI := JA_ @qhn.eq_1 (JA_ @Try.f24.eq_1 @qsq)
theorem qn8 : okL 45 q77 := qA (qi qjk) (by kernel_rfl) (by kernel_rfl)
def qcC := JA_ @q77.eq_1 (JA_ @Try.f45.eq_1 @qjk)
theorem qd6 : lbO 45 5 = q9A := Qd (qi qjk) rfl
theorem qcT : okL 45 q9A := zd qn8 (List.mem_of_getElem? (i := 0) (by kernel_rfl))
theorem qeX : lbO 45 14 = qaf := Qd (qi qjk) rfl
theorem qh9 : okL 45 qaf := zd qn8 (List.mem_of_getElem? (i := 1) (by kernel_rfl))
theorem qhG : lbO 45 18 = qat := Qd (qi qjk) rfl
theorem qfm : okL 45 qat := zd qn8 (List.mem_of_getElem? (i := 2) (by kernel_rfl))
theorem qig : lbO 45 25 = qax := Qd (qi qjk) rfl
theorem qgU : okL 45 qax := zd qn8 (List.mem_of_getElem? (i := 3) (by kernel_rfl))
theorem qhV : lbO 45 38 = qa1 := Qd (qi qjk) rfl
theorem qgu : okL 45 qa1 := zd qn8 (List.mem_of_getElem? (i := 4) (by kernel_rfl))
theorem qys : okL 31 qfT := qA (qi quL) (by kernel_rfl) (by kernel_rfl)
def qyg := JA_ @qfT.eq_1 (JA_ @Try.f31.eq_1 @quL)
noncomputable def q3Z (n : qb) : Option Bool := if (n.Kind == 1) = Bool.true then some Bool.true else some (n.Kind == 2)
noncomputable def Q3 (n : qb) : Bool := if (n.Kind == 1) = Bool.true then Bool.true else n.Kind == 2
theorem q9r (n : qb) : q3Z n = some (Q3 n) := by
  unfold q3Z Q3
  simp only [Qg]
theorem q0S : ∀ (n_Kind n_N n_Min : Int) (n_Set : List qc) (n_L : List qb), ev 31 0 [R.agg [dI n_Kind, dI n_N, dI n_Min, dL 2 qe n_Set, dL 5 qg n_L]] [] = some (rB (Q3 (qb.mk n_Kind n_N n_Min n_Set n_L)), []) :=
  fun n_Kind n_N n_Min n_Set n_L => by
    have h : ev 31 0 [R.agg [dI n_Kind, dI n_N, dI n_Min, dL 2 qe n_Set, dL 5 qg n_L]] [] = (q3Z (qb.mk n_Kind n_N n_Min n_Set n_L)).bind (fun (e : Bool) => some (rB e, [])) := by
      rw [qB quL quQ.2.2.2 qys]
      have := qyg; have := @q3Z.eq_1; exact gA
    rw [q9r] at h
    exact h
theorem qxP : okL 34 qf8 := qA (qi qul) (by kernel_rfl) (by kernel_rfl)
def qyo := JA_ @qf8.eq_1 (JA_ @Try.f34.eq_1 @qul)
noncomputable def QO (kind : Int) : Option (Unit ⊕ Unit) := if (kind == 1) = Bool.true then some (Sum.inl ()) else some (Sum.inr ())
theorem q1z : ∀ (kind : Int), ev 34 0 [rI kind] [] = (QO kind).bind (Sum.elim (fun (e : Unit) => some (R.c (C.fn 50 [] []), [])) (fun (e : Unit) => some (R.c (C.fn 51 [] []), []))) :=
  fun kind => by
    rw [qB qul qvM.2.2.2 qxP]
    have := qyo; have := @QO.eq_1; exact gA
theorem qx4 : okL 22 qfv := qA (qi quv) (by kernel_rfl) (by kernel_rfl)
def qxZ := JA_ @qfv.eq_1 (JA_ @Try.f22.eq_1 @quv)
noncomputable def q1s (x0 : Int) (x1 : Int) : Option Unit :=
  some ()
noncomputable def q4r (x0 : Int) (x1 : Int) : Unit :=
  ()
theorem q7v (x0 x1 : Int) : q1s x0 x1 = some (q4r x0 x1) := by
  unfold q1s q4r
  simp only [Qg]
theorem q3B : ∀ (x0 x1 : Int), ev 22 0 [rI x0, rI x1] [] = some (rB Bool.true, []) :=
  fun x0 x1 => by
    have h : ev 22 0 [rI x0, rI x1] [] = (q1s x0 x1).bind (fun (e : Unit) => some (rB Bool.true, [])) := by
      rw [qB quv qvm.2.2.2 qx4]
      have := qxZ; have := @q1s.eq_1; exact gA
    rw [q7v] at h
    exact h
theorem qsJ : okL 32 qdL := qA (qi qp2) (by kernel_rfl) (by kernel_rfl)
def qss := JA_ @qdL.eq_1 (JA_ @Try.f32.eq_1 @qp2)
theorem qkS : lbO 32 3 = qdx := Qd (qi qp2) rfl
theorem qkG : okL 32 qdx := zd qsJ (List.mem_of_getElem? (i := 0) (by kernel_rfl))
theorem qxH : okL 46 qgm := qA (qi qsE) (by kernel_rfl) (by kernel_rfl)
def qxj := JA_ @qgm.eq_1 (JA_ @Try.f46.eq_1 @qsE)
noncomputable def Zb (k : Int) (v : Int) : Option Bool := if 0 ≤ k then some (Jz Go.BinOp.and Go.IntKind.i64 (Int.fdiv v (2 ^ min (Int.toNat k) (Go.IntKind.bits Go.IntKind.i64))) 1 == 1) else none
theorem q5z : ∀ (k v : Int), ev 46 1 [rI k, rP 0] [(0, B.blk 3 [dI v])] = (Zb k v).bind (fun (e : Bool) => some (rB e, [(0, B.blk 3 [dI v])])) :=
  fun k v => by
    rw [qB qsE qvv.2.2.2 qxH]
    have := qxj; have := @Zb.eq_1; exact gA
theorem qzh : okL 17 qfB := qA (qi qt3) (by kernel_rfl) (by kernel_rfl)
def qxu := JA_ @qfB.eq_1 (JA_ @Try.f17.eq_1 @qt3)
theorem qxl : okL 38 qh6 := qA (qi quK) (by kernel_rfl) (by kernel_rfl)
def qxf := JA_ @qh6.eq_1 (JA_ @Try.f38.eq_1 @quK)
theorem qvU : okL 55 qcV := qA (qi qsj) (by kernel_rfl) (by kernel_rfl)
def qvH := JA_ @qcV.eq_1 (JA_ @Try.f55.eq_1 @qsj)
theorem qot : lbO 55 2 = qfd := Qd (qi qsj) rfl
theorem qqM : okL 55 qfd := zd qvU (List.mem_of_getElem? (i := 0) (by kernel_rfl))
noncomputable def qs (v : qc) (s : List qc) (t7 : Int) : Int → Option (Int ⊕ (Int ⊕ Unit)) | t8 => if t8 < t7 then if 0 ≤ t8 ∧ t8 < ((s.length : Nat) : Int) then Option.bind s[Int.toNat t8]? fun (a : qc) => if (v.School == a.School) = Bool.true ∧ (ByteArray.toList v.Code == ByteArray.toList a.Code) = Bool.true then some (Sum.inr (Sum.inl t8)) else some (Sum.inl (w64 (t8 + 1))) else none else some (Sum.inr (Sum.inr ()))
theorem Zz : ∀ (v_School : Int) (v_Code : ByteArray) (s : List qc) (t7 t8 : Int), XL2 evo 55 0 2 ⟨[(0, rL 2 qe s), (3, rP 0), (7, rI t7), (8, rI t8)], [(0, B.blk 52 [dI v_School, dS v_Code])], 1, 19⟩ = (qN (qs (qc.mk v_School v_Code) s t7) t8).bind (Sum.elim (fun (e : Int) => some (Go.Exit.ret, ⟨[(4, rI e)], [], 0, 19⟩)) (fun (e : Unit) => some (Go.Exit.exit 0, ⟨[(4, R.any)], [], 0, 19⟩))) :=
  fun v_School v_Code s t7 t8 => by
    revert t8; exact qbx qot qqM (fun e => by rcases e with _ | _ <;> exact ⟨_, rfl, fun h => by cases h⟩) fun x => by
      have := qvH; have := @qfd.eq_1; have := @qs.eq_1; exact gA
noncomputable def qv (s : List qc) (v : qc) : Option Int := Option.bind (qN (qs v s ((s.length : Nat) : Int)) 0) fun (a : Sum Int Unit) => Sum.elim (fun (a2 : Int) => some a2) (fun (a3 : Unit) => some (-1)) a
theorem ZS : ∀ (s : List qc) (v_School : Int) (v_Code : ByteArray), ev 55 0 [rL 2 qe s, R.agg [dI v_School, dS v_Code]] [] = (qv s (qc.mk v_School v_Code)).bind (fun (e : Int) => some (rI e, [])) :=
  fun s v_School v_Code => by
    rw [qB qsj qvj.2.2.2 qvU]
    have := qvH; have := @Zz; have := @qv.eq_1; exact gA
noncomputable def zP (fu : Nat) (s : List qc) (v : qc) : Option Int := Option.bind (itT (qs v s ((s.length : Nat) : Int)) fu 0) fun (a : Sum Int Unit) => Sum.elim (fun (a2 : Int) => some a2) (fun (a3 : Unit) => some (-1)) a
theorem ZR (fu : Nat) (s : List qc) (v : qc) : qk (zP fu s v) (qv s v) := by
  unfold zP qv
  repeat (first
    | with_reducible exact qk.refl _
    | with_reducible exact qk.none _
    | with_reducible refine qk.bind ?_ (fun _ => ?_)
    | with_reducible refine qk.ite ?_ ?_
    | with_reducible refine qk.sum (fun _ => ?_) (fun _ => ?_)
    | with_reducible refine qk.lim (fun _ => ?_))
noncomputable def qr (s : List qc) (v : qc) : Option Bool := Option.bind (qv s v) fun (a : Int) => some (decide (0 ≤ a))
theorem ZA : ∀ (s : List qc) (v_School : Int) (v_Code : ByteArray), ev 38 0 [rL 2 qe s, R.agg [dI v_School, dS v_Code]] [] = (qr s (qc.mk v_School v_Code)).bind (fun (e : Bool) => some (rB e, [])) :=
  fun s v_School v_Code => by
    rw [qB quK qwH.2.2.2 qxl]
    have := qxf; have := @ZS; have := @qr.eq_1; exact gA
noncomputable def zw (fu : Nat) (s : List qc) (v : qc) : Option Bool := Option.bind (zP fu s v) fun (a : Int) => some (decide (0 ≤ a))
theorem Zy (fu : Nat) (s : List qc) (v : qc) : qk (zw fu s v) (qr s v) := by
  unfold zw qr
  repeat (first
    | with_reducible exact qk.refl _
    | with_reducible exact qk.none _
    | with_reducible apply ZR
    | with_reducible refine qk.bind ?_ (fun _ => ?_)
    | with_reducible refine qk.ite ?_ ?_
    | with_reducible refine qk.sum (fun _ => ?_) (fun _ => ?_)
    | with_reducible refine qk.lim (fun _ => ?_))
theorem qwN : okL 39 qfy := qA (qi quw) (by kernel_rfl) (by kernel_rfl)
def qwW := JA_ @qfy.eq_1 (JA_ @Try.f39.eq_1 @quw)
theorem qz8 : okL 56 qhR := qA (qi quc) (by kernel_rfl) (by kernel_rfl)
def qyM := JA_ @qhR.eq_1 (JA_ @Try.f56.eq_1 @quc)
theorem qvN : okL 70 qdi := qA (qi qrW) (by kernel_rfl) (by kernel_rfl)
def qvl := JA_ @qdi.eq_1 (JA_ @Try.f70.eq_1 @qrW)
theorem qpR : lbO 70 2 = qgQ := Qd (qi qrW) rfl
theorem qoH : okL 70 qgQ := zd qvN (List.mem_of_getElem? (i := 0) (by kernel_rfl))
theorem qxU : okL 71 qff := qA (qi qtK) (by kernel_rfl) (by kernel_rfl)
def qyD := JA_ @qff.eq_1 (JA_ @Try.f71.eq_1 @qtK)
noncomputable def Zm (n : Int) (a : Int) (b : Int) : Option Int :=
  some (max (min a b) (min n (max a b)))
noncomputable def qK (n : Int) (a : Int) (b : Int) : Int :=
  max (min a b) (min n (max a b))
theorem q2o (n a b : Int) : Zm n a b = some (qK n a b) := by
  unfold Zm qK
  simp only [Qg]
theorem ZG : ∀ (n a b : Int), ev 71 0 [rI n, rI a, rI b] [] = some (rI (qK n a b), []) :=
  fun n a b => by
    have h : ev 71 0 [rI n, rI a, rI b] [] = (Zm n a b).bind (fun (e : Int) => some (rI e, [])) := by
      rw [qB qtK qwu.2.2.2 qxU]
      have := qyD; have := @Zm.eq_1; exact gA
    rw [q2o] at h
    exact h
noncomputable def Qf (w1 : List Int) (s : qd) (t10 : Int) : Int → Option (Int ⊕ (Unit ⊕ Unit)) | t11 => if t11 < t10 then if 0 ≤ t11 ∧ t11 < ((w1.length : Nat) : Int) then Option.bind w1[Int.toNat t11]? fun (a : Int) => if (qK a (-1000) 1000 != a) = Bool.true then some (Sum.inr (Sum.inl ())) else some (Sum.inl (w64 (t11 + 1))) else none else some (Sum.inr (Sum.inr ()))
theorem q4V : ∀ (w1 : List Int) (s_Worst s_Best s_Pass t10 t11 : Int) (w1_len : Nat), w1_len = w1.length → XL2 evo 70 0 2 ⟨[(1, rP 0), (9, rO 1 1 w1_len), (10, rI t10), (11, rI t11)], [(0, B.blk 37 [dI s_Worst, dI s_Best, dI s_Pass]), (1, bR 3 1 eI w1)], 2, 37⟩ = (qN (Qf w1 (qd.mk s_Worst s_Best s_Pass) t10) t11).bind (Sum.elim (fun (e : Unit) => some (Go.Exit.ret, ⟨[(1, rP 0), (2, rI 10)], [(0, B.blk 37 [dI s_Worst, dI s_Best, dI s_Pass])], 1, 37⟩)) (fun (e : Unit) => some (Go.Exit.exit 0, ⟨[(1, rP 0), (2, R.any)], [(0, B.blk 37 [dI s_Worst, dI s_Best, dI s_Pass])], 1, 37⟩))) :=
  by
  intro w1 s_Worst s_Best s_Pass t10 t11 w1_len h0
  subst h0
  revert t11; exact qbx qpR qoH (fun e => by rcases e with _ | _ <;> exact ⟨_, rfl, fun h => by cases h⟩) fun x => by
    have := qvl; have := @qgQ.eq_1; have := @ZG; have := @Qf.eq_1; exact gA
theorem q3a : ∀ (w10 w11 s_Worst s_Best s_Pass t10 t11 : Int), XL2 evo 70 0 2 ⟨[(1, rP 0), (9, rO 1 1 2), (10, rI t10), (11, rI t11)], [(0, B.blk 37 [dI s_Worst, dI s_Best, dI s_Pass]), (1, B.row 3 1 [dI w10, dI w11])], 2, 37⟩ = (qN (Qf [w10, w11] (qd.mk s_Worst s_Best s_Pass) t10) t11).bind (Sum.elim (fun (e : Unit) => some (Go.Exit.ret, ⟨[(1, rP 0), (2, rI 10)], [(0, B.blk 37 [dI s_Worst, dI s_Best, dI s_Pass])], 1, 37⟩)) (fun (e : Unit) => some (Go.Exit.exit 0, ⟨[(1, rP 0), (2, R.any)], [(0, B.blk 37 [dI s_Worst, dI s_Best, dI s_Pass])], 1, 37⟩))) := by
  intro w10 w11 s_Worst s_Best s_Pass t10 t11; have h := q4V [w10, w11] ((qd.mk s_Worst s_Best s_Pass)).Worst ((qd.mk s_Worst s_Best s_Pass)).Best ((qd.mk s_Worst s_Best s_Pass)).Pass t10 t11 _ rfl
  first
    | exact h
    | (simp only [rL, dL, bR, bZ, Nat.reduceAdd] at h; exact h)
noncomputable def Zj (s : qd) : Option Int := Option.bind (qN (Qf [s.Worst, s.Best] s 2) 0) fun (a : Sum Unit Unit) => Sum.elim (fun (a2 : Unit) => some 10) (fun (a3 : Unit) => if (s.Worst == s.Best) = Bool.true then some 10 else if (qK s.Pass s.Worst s.Best != s.Pass) = Bool.true then some 10 else some 0) a
theorem q7x : ∀ (s_Worst s_Best s_Pass : Int), ev 70 0 [R.agg [dI s_Worst, dI s_Best, dI s_Pass]] [] = (Zj (qd.mk s_Worst s_Best s_Pass)).bind (fun (e : Int) => some (rI e, [])) :=
  fun s_Worst s_Best s_Pass => by
    rw [qB qrW quO.2.2.2 qvN]
    have := qvl; have := @q3a; have := @ZG; have := @Zj.eq_1; exact gA
noncomputable def q2g (fu : Nat) (s : qd) : Option Int := Option.bind (itT (Qf [s.Worst, s.Best] s 2) fu 0) fun (a : Sum Unit Unit) => Sum.elim (fun (a2 : Unit) => some 10) (fun (a3 : Unit) => if (s.Worst == s.Best) = Bool.true then some 10 else if (qK s.Pass s.Worst s.Best != s.Pass) = Bool.true then some 10 else some 0) a
theorem q7C (fu : Nat) (s : qd) : qk (q2g fu s) (Zj s) := by
  unfold q2g Zj
  repeat (first
    | with_reducible exact qk.refl _
    | with_reducible exact qk.none _
    | with_reducible refine qk.bind ?_ (fun _ => ?_)
    | with_reducible refine qk.ite ?_ ?_
    | with_reducible refine qk.sum (fun _ => ?_) (fun _ => ?_)
    | with_reducible refine qk.lim (fun _ => ?_))
noncomputable def Zt (s : qd) (g : Int) : Option Bool := Option.bind (Zj s) fun (a : Int) => if (a == 0) = Bool.true then some (qK g s.Worst s.Best == g) else some Bool.false
theorem q7G : ∀ (s_Worst s_Best s_Pass g : Int), ev 56 0 [R.agg [dI s_Worst, dI s_Best, dI s_Pass], rI g] [] = (Zt (qd.mk s_Worst s_Best s_Pass) g).bind (fun (e : Bool) => some (rB e, [])) :=
  fun s_Worst s_Best s_Pass g => by
    rw [qB quc qw1.2.2.2 qz8]
    have := qyM; have := @q7x; have := @ZG; have := @Zt.eq_1; exact gA
noncomputable def q2p (fu : Nat) (s : qd) (g : Int) : Option Bool := Option.bind (q2g fu s) fun (a : Int) => if (a == 0) = Bool.true then some (qK g s.Worst s.Best == g) else some Bool.false
theorem q7B (fu : Nat) (s : qd) (g : Int) : qk (q2p fu s g) (Zt s g) := by
  unfold q2p Zt
  repeat (first
    | with_reducible exact qk.refl _
    | with_reducible exact qk.none _
    | with_reducible apply q7C
    | with_reducible refine qk.bind ?_ (fun _ => ?_)
    | with_reducible refine qk.ite ?_ ?_
    | with_reducible refine qk.sum (fun _ => ?_) (fun _ => ?_)
    | with_reducible refine qk.lim (fun _ => ?_))
noncomputable def QP (s : qd) (g : Int) (min : Int) : Option Bool := Option.bind (Zt s g) fun (a : Bool) => if a = Bool.true then if (g == min) = Bool.true then some Bool.true else some (decide (min < g) == decide (s.Worst < s.Best)) else some Bool.false
theorem q5I : ∀ (s_Worst s_Best s_Pass g min : Int), ev 39 0 [R.agg [dI s_Worst, dI s_Best, dI s_Pass], rI g, rI min] [] = (QP (qd.mk s_Worst s_Best s_Pass) g min).bind (fun (e : Bool) => some (rB e, [])) :=
  fun s_Worst s_Best s_Pass g min => by
    rw [qB quw qv7.2.2.2 qwN]
    have := qwW; have := @q7G; have := @QP.eq_1; exact gA
noncomputable def q14 (fu : Nat) (s : qd) (g : Int) (min : Int) : Option Bool := Option.bind (q2p fu s g) fun (a : Bool) => if a = Bool.true then if (g == min) = Bool.true then some Bool.true else some (decide (min < g) == decide (s.Worst < s.Best)) else some Bool.false
theorem q65 (fu : Nat) (s : qd) (g min : Int) : qk (q14 fu s g min) (QP s g min) := by
  unfold q14 QP
  repeat (first
    | with_reducible exact qk.refl _
    | with_reducible exact qk.none _
    | with_reducible apply q7B
    | with_reducible refine qk.bind ?_ (fun _ => ?_)
    | with_reducible refine qk.ite ?_ ?_
    | with_reducible refine qk.sum (fun _ => ?_) (fun _ => ?_)
    | with_reducible refine qk.lim (fun _ => ?_))
noncomputable def QS (n : qb) (s : qd) (a : qa) : Option Bool := if Q3 n = Bool.true then Option.bind (qr n.Set a.Course) fun (a2 : Bool) => if a2 = Bool.true then Option.bind (QP s a.Grade n.Min) fun (e0 : Bool) => some e0 else some Bool.false else some Bool.false
theorem q27 : ∀ (n_Kind n_N n_Min : Int) (n_Set : List qc) (n_L : List qb) (s_Worst s_Best s_Pass a_Course_School : Int) (a_Course_Code : ByteArray) (a_Credits a_Grade a_Day : Int) (a_Sources : List Int) (a_Bundle : Int) (a_Path : List Int), ev 17 0 [R.agg [dI n_Kind, dI n_N, dI n_Min, dL 2 qe n_Set, dL 5 qg n_L], R.agg [dI s_Worst, dI s_Best, dI s_Pass], R.agg [dI a_Course_School, dS a_Course_Code, dI a_Credits, dI a_Grade, dI a_Day, dL 1 eI a_Sources, dI a_Bundle, dL 1 eI a_Path]] [] = (QS (qb.mk n_Kind n_N n_Min n_Set n_L) (qd.mk s_Worst s_Best s_Pass) (qa.mk (qc.mk a_Course_School a_Course_Code) a_Credits a_Grade a_Day a_Sources a_Bundle a_Path)).bind (fun (e : Bool) => some (rB e, [])) :=
  fun n_Kind n_N n_Min n_Set n_L s_Worst s_Best s_Pass a_Course_School a_Course_Code a_Credits a_Grade a_Day a_Sources a_Bundle a_Path => by
    rw [qB qt3 qvO.2.2.2 qzh]
    have := qxu; have := @q0S; have := @ZA; have := @q5I; have := @QS.eq_1; exact gA
theorem q7E : ∀ (n_Kind n_N n_Min n_Set0_School : Int) (n_Set0_Code : ByteArray) (a_Course_School : Int) (a_Course_Code : ByteArray) (a_Credits a_Grade a_Day a_Bundle s_Worst s_Best s_Pass : Int), ev 17 0 [R.agg [dI n_Kind, dI n_N, dI n_Min, C.d (D.sl 2 1 [D.int .i64 n_Set0_School, D.str n_Set0_Code]), C.d (D.sl 5 0 [])], R.agg [dI s_Worst, dI s_Best, dI s_Pass], R.agg [dI a_Course_School, dS a_Course_Code, dI a_Credits, dI a_Grade, dI a_Day, C.d (D.sl 1 0 []), dI a_Bundle, C.d (D.sl 1 0 [])]] [] = (QS (qb.mk n_Kind n_N n_Min [(qc.mk n_Set0_School n_Set0_Code)] []) (qd.mk s_Worst s_Best s_Pass) (qa.mk (qc.mk a_Course_School a_Course_Code) a_Credits a_Grade a_Day [] a_Bundle [])).bind (fun (e : Bool) => some (rB e, [])) := by
  intro n_Kind n_N n_Min n_Set0_School n_Set0_Code a_Course_School a_Course_Code a_Credits a_Grade a_Day a_Bundle s_Worst s_Best s_Pass; have h := q27 ((qb.mk n_Kind n_N n_Min [(qc.mk n_Set0_School n_Set0_Code)] [])).Kind ((qb.mk n_Kind n_N n_Min [(qc.mk n_Set0_School n_Set0_Code)] [])).N ((qb.mk n_Kind n_N n_Min [(qc.mk n_Set0_School n_Set0_Code)] [])).Min ((qb.mk n_Kind n_N n_Min [(qc.mk n_Set0_School n_Set0_Code)] [])).Set ((qb.mk n_Kind n_N n_Min [(qc.mk n_Set0_School n_Set0_Code)] [])).L ((qd.mk s_Worst s_Best s_Pass)).Worst ((qd.mk s_Worst s_Best s_Pass)).Best ((qd.mk s_Worst s_Best s_Pass)).Pass ((qa.mk (qc.mk a_Course_School a_Course_Code) a_Credits a_Grade a_Day [] a_Bundle [])).Course.School ((qa.mk (qc.mk a_Course_School a_Course_Code) a_Credits a_Grade a_Day [] a_Bundle [])).Course.Code ((qa.mk (qc.mk a_Course_School a_Course_Code) a_Credits a_Grade a_Day [] a_Bundle [])).Credits ((qa.mk (qc.mk a_Course_School a_Course_Code) a_Credits a_Grade a_Day [] a_Bundle [])).Grade ((qa.mk (qc.mk a_Course_School a_Course_Code) a_Credits a_Grade a_Day [] a_Bundle [])).Day ((qa.mk (qc.mk a_Course_School a_Course_Code) a_Credits a_Grade a_Day [] a_Bundle [])).Sources ((qa.mk (qc.mk a_Course_School a_Course_Code) a_Credits a_Grade a_Day [] a_Bundle [])).Bundle ((qa.mk (qc.mk a_Course_School a_Course_Code) a_Credits a_Grade a_Day [] a_Bundle [])).Path
  first
    | exact h
    | (simp only [rL, dL, bR, bZ, Nat.reduceAdd] at h; exact h)
noncomputable def q08 (fu : Nat) (n : qb) (s : qd) (a : qa) : Option Bool := if Q3 n = Bool.true then Option.bind (zw fu n.Set a.Course) fun (a2 : Bool) => if a2 = Bool.true then Option.bind (q14 fu s a.Grade n.Min) fun (e0 : Bool) => some e0 else some Bool.false else some Bool.false
theorem q2y (fu : Nat) (n : qb) (s : qd) (a : qa) : qk (q08 fu n s a) (QS n s a) := by
  unfold q08 QS
  repeat (first
    | with_reducible exact qk.refl _
    | with_reducible exact qk.none _
    | with_reducible apply Zy
    | with_reducible apply q65
    | with_reducible refine qk.bind ?_ (fun _ => ?_)
    | with_reducible refine qk.ite ?_ ?_
    | with_reducible refine qk.sum (fun _ => ?_) (fun _ => ?_)
    | with_reducible refine qk.lim (fun _ => ?_))
noncomputable def Qs (b0 : Int) (n : qb) (s : qd) (b3 : ql) (t13 : List qa) (t14 : Int) : (ql × Int) → Option ((ql × Int) ⊕ ql) | (out, t15) => if t15 < t14 then if 0 ≤ t15 ∧ t15 < ((t13.length : Nat) : Int) then Option.bind t13[Int.toNat t15]? fun (a : qa) => Option.bind (Zb t15 b0) fun (a2 : Bool) => if a2 = Bool.true then if out.fine = Bool.true then Option.bind (QS n s a) fun (a3 : Bool) => some (Sum.inl (ql.mk (w64 (out.many + 1)) (w64 (out.credits + a.Credits)) a3, w64 (t15 + 1))) else some (Sum.inl (ql.mk (w64 (out.many + 1)) (w64 (out.credits + a.Credits)) Bool.false, w64 (t15 + 1))) else some (Sum.inl (out, w64 (t15 + 1))) else none else some (Sum.inr out)
theorem q6V : ∀ (b0 n_Kind n_N n_Min : Int) (n_Set : List qc) (n_L : List qb) (s_Worst s_Best s_Pass b3_many b3_credits : Int) (b3_fine : Bool) (out_many out_credits : Int) (out_fine : Bool) (t13 : List qa) (t14 t15 : Int), XL2 evo 32 1 3 ⟨[(3, R.c (C.fn 46 [] [dP 0])), (4, rP 1), (5, rP 2), (8, rP 3), (9, rP 4), (13, rL 8 qf t13), (14, rI t14), (15, rI t15)], [(0, B.blk 3 [dI b0]), (1, B.blk 31 [dI n_Kind, dI n_N, dI n_Min, dL 2 qe n_Set, dL 5 qg n_L]), (2, B.blk 37 [dI s_Worst, dI s_Best, dI s_Pass]), (3, B.blk 70 [dI b3_many, dI b3_credits, dB b3_fine]), (4, B.blk 70 [dI out_many, dI out_credits, dB out_fine])], 5, 44⟩ = (qN (Qs b0 (qb.mk n_Kind n_N n_Min n_Set n_L) (qd.mk s_Worst s_Best s_Pass) (ql.mk b3_many b3_credits b3_fine) t13 t14) ((ql.mk out_many out_credits out_fine), t15)).bind (fun (e : ql) => some (Go.Exit.exit 0, ⟨[(8, rP 1), (9, rP 2)], [(0, B.blk 3 [dI b0]), (1, B.blk 70 [dI b3_many, dI b3_credits, dB b3_fine]), (2, B.blk 70 [dI e.many, dI e.credits, dB e.fine])], 3, 44⟩)) :=
  fun b0 n_Kind n_N n_Min n_Set n_L s_Worst s_Best s_Pass b3_many b3_credits b3_fine out_many out_credits out_fine t13 t14 t15 => by
    have h := q2l (E := evo) (f := 32) (k := 1) (st := fun x : ql × Int => (⟨[(3, R.c (C.fn 46 [] [dP 0])), (4, rP 1), (5, rP 2), (8, rP 3), (9, rP 4), (13, rL 8 qf t13), (14, rI t14), (15, rI x.2)], [(0, B.blk 3 [dI b0]), (1, B.blk 31 [dI n_Kind, dI n_N, dI n_Min, dL 2 qe n_Set, dL 5 qg n_L]), (2, B.blk 37 [dI s_Worst, dI s_Best, dI s_Pass]), (3, B.blk 70 [dI b3_many, dI b3_credits, dB b3_fine]), (4, B.blk 70 [dI x.1.many, dI x.1.credits, dB x.1.fine])], 5, 44⟩ : S)) (ex := fun (e : ql) => (Go.Exit.exit 0, ⟨[(8, rP 1), (9, rP 2)], [(0, B.blk 3 [dI b0]), (1, B.blk 70 [dI b3_many, dI b3_credits, dB b3_fine]), (2, B.blk 70 [dI e.many, dI e.credits, dB e.fine])], 3, 44⟩)) (step := (Qs b0 (qb.mk n_Kind n_N n_Min n_Set n_L) (qd.mk s_Worst s_Best s_Pass) (ql.mk b3_many b3_credits b3_fine) t13 t14)) qkS qkG (fun e h => by cases h) (fun x => by
      obtain ⟨out, t15⟩ := x; have := qss; have := @qdx.eq_1; have := @q5z; have := @q27; have := @Qs.eq_1; exact gA) ((ql.mk out_many out_credits out_fine), t15)
    exact h
noncomputable def q1B (fu : Nat) (b0 : Int) (n : qb) (s : qd) (b3 : ql) (t13 : List qa) (t14 : Int) : (ql × Int) → Option ((ql × Int) ⊕ ql) | (out, t15) => if t15 < t14 then if 0 ≤ t15 ∧ t15 < ((t13.length : Nat) : Int) then Option.bind t13[Int.toNat t15]? fun (a : qa) => Option.bind (Zb t15 b0) fun (a2 : Bool) => if a2 = Bool.true then if out.fine = Bool.true then Option.bind (q08 fu n s a) fun (a3 : Bool) => some (Sum.inl (ql.mk (w64 (out.many + 1)) (w64 (out.credits + a.Credits)) a3, w64 (t15 + 1))) else some (Sum.inl (ql.mk (w64 (out.many + 1)) (w64 (out.credits + a.Credits)) Bool.false, w64 (t15 + 1))) else some (Sum.inl (out, w64 (t15 + 1))) else none else some (Sum.inr out)
theorem q6n (fu : Nat) (b0 : Int) (n : qb) (s : qd) (b3 : ql) (t13 : List qa) (t14 : Int) : ∀ x, qk (q1B fu b0 n s b3 t13 t14 x) (Qs b0 n s b3 t13 t14 x) := by
  rintro ⟨out, t15⟩
  unfold q1B Qs
  try dsimp only
  repeat (first
    | with_reducible exact qk.refl _
    | with_reducible exact qk.none _
    | with_reducible apply q2y
    | with_reducible refine qk.bind ?_ (fun _ => ?_)
    | with_reducible refine qk.ite ?_ ?_
    | with_reducible refine qk.sum (fun _ => ?_) (fun _ => ?_)
    | with_reducible refine qk.lim (fun _ => ?_))
noncomputable def QY (n : qb) (s : qd) (l : List qa) (b0 : Int) : Option ql := Option.bind (qN (Qs b0 n s (ql.mk 0 0 Bool.false) l ((l.length : Nat) : Int)) (ql.mk 0 0 Bool.true, 0)) fun (a : ql) => some a
theorem q0l : ∀ (n_Kind n_N n_Min : Int) (n_Set : List qc) (n_L : List qb) (s_Worst s_Best s_Pass : Int) (l : List qa) (b0 : Int), ev 32 1 [R.agg [dI n_Kind, dI n_N, dI n_Min, dL 2 qe n_Set, dL 5 qg n_L], R.agg [dI s_Worst, dI s_Best, dI s_Pass], rL 8 qf l, R.c (C.fn 46 [] [dP 0])] [(0, B.blk 3 [dI b0])] = (QY (qb.mk n_Kind n_N n_Min n_Set n_L) (qd.mk s_Worst s_Best s_Pass) l b0).bind (fun (e : ql) => some (R.agg [dI e.many, dI e.credits, dB e.fine], [(0, B.blk 3 [dI b0])])) :=
  fun n_Kind n_N n_Min n_Set n_L s_Worst s_Best s_Pass l b0 => by
    rw [qB qp2 qut.2.2.2 qsJ]
    have := qss; have := @q6V; have := @QY.eq_1; exact gA
noncomputable def q03 (fu : Nat) (n : qb) (s : qd) (l : List qa) (b0 : Int) : Option ql := Option.bind (itT (q1B fu b0 n s (ql.mk 0 0 Bool.false) l ((l.length : Nat) : Int)) fu (ql.mk 0 0 Bool.true, 0)) fun (a : ql) => some a
theorem q0j (fu : Nat) (n : qb) (s : qd) (l : List qa) (b0 : Int) : qk (q03 fu n s l b0) (QY n s l b0) := by
  unfold q03 QY
  repeat (first
    | with_reducible exact qk.refl _
    | with_reducible exact qk.none _
    | with_reducible apply q6n
    | with_reducible refine qk.bind ?_ (fun _ => ?_)
    | with_reducible refine qk.ite ?_ ?_
    | with_reducible refine qk.sum (fun _ => ?_) (fun _ => ?_)
    | with_reducible refine qk.lim (fun _ => ?_))
theorem qyO : okL 50 qhP := qA (qi quN) (by kernel_rfl) (by kernel_rfl)
def qx6 := JA_ @qhP.eq_1 (JA_ @Try.f50.eq_1 @quN)
noncomputable def J1 (x : ql) (x1 : qb) : Option Bool := if x.fine = Bool.true then some (x.many == 1) else some Bool.false
noncomputable def qx (x : ql) (x1 : qb) : Bool := if x.fine = Bool.true then x.many == 1 else Bool.false
theorem q3m (x : ql) (x1 : qb) : J1 x x1 = some (qx x x1) := by
  unfold J1 qx
  simp only [Qg]
theorem J7 : ∀ (x_many x_credits : Int) (x_fine : Bool) (x1_Kind x1_N x1_Min : Int) (x1_Set : List qc) (x1_L : List qb), ev 50 0 [R.agg [dI x_many, dI x_credits, dB x_fine], R.agg [dI x1_Kind, dI x1_N, dI x1_Min, dL 2 qe x1_Set, dL 5 qg x1_L]] [] = some (rB (qx (ql.mk x_many x_credits x_fine) (qb.mk x1_Kind x1_N x1_Min x1_Set x1_L)), []) :=
  fun x_many x_credits x_fine x1_Kind x1_N x1_Min x1_Set x1_L => by
    have h : ev 50 0 [R.agg [dI x_many, dI x_credits, dB x_fine], R.agg [dI x1_Kind, dI x1_N, dI x1_Min, dL 2 qe x1_Set, dL 5 qg x1_L]] [] = (J1 (ql.mk x_many x_credits x_fine) (qb.mk x1_Kind x1_N x1_Min x1_Set x1_L)).bind (fun (e : Bool) => some (rB e, [])) := by
      rw [qB quN qwz.2.2.2 qyO]
      have := qx6; have := @J1.eq_1; exact gA
    rw [q3m] at h
    exact h
theorem qxq : okL 51 qhS := qA (qi qtc) (by kernel_rfl) (by kernel_rfl)
def qwQ := JA_ @qhS.eq_1 (JA_ @Try.f51.eq_1 @qtc)
noncomputable def q0p (x : ql) (n : qb) : Option Bool := if x.fine = Bool.true then if 0 < x.many then some (decide (n.N ≤ x.credits)) else some Bool.false else some Bool.false
noncomputable def qI (x : ql) (n : qb) : Bool := if x.fine = Bool.true then if 0 < x.many then decide (n.N ≤ x.credits) else Bool.false else Bool.false
theorem q60 (x : ql) (n : qb) : q0p x n = some (qI x n) := by
  unfold q0p qI
  simp only [Qg]
theorem q0e : ∀ (x_many x_credits : Int) (x_fine : Bool) (n_Kind n_N n_Min : Int) (n_Set : List qc) (n_L : List qb), ev 51 0 [R.agg [dI x_many, dI x_credits, dB x_fine], R.agg [dI n_Kind, dI n_N, dI n_Min, dL 2 qe n_Set, dL 5 qg n_L]] [] = some (rB (qI (ql.mk x_many x_credits x_fine) (qb.mk n_Kind n_N n_Min n_Set n_L)), []) :=
  fun x_many x_credits x_fine n_Kind n_N n_Min n_Set n_L => by
    have h : ev 51 0 [R.agg [dI x_many, dI x_credits, dB x_fine], R.agg [dI n_Kind, dI n_N, dI n_Min, dL 2 qe n_Set, dL 5 qg n_L]] [] = (q0p (ql.mk x_many x_credits x_fine) (qb.mk n_Kind n_N n_Min n_Set n_L)).bind (fun (e : Bool) => some (rB e, [])) := by
      rw [qB qtc qwD.2.2.2 qxq]
      have := qwQ; have := @q0p.eq_1; exact gA
    rw [q60] at h
    exact h
noncomputable def qy (x : (qb × List qa × Int × qd)) : List R × List (Nat × B) := ([R.agg [C.d (D.int .i64 x.1.Kind), C.d (D.int .i64 x.1.N), C.d (D.int .i64 x.1.Min), C.d (D.sl 2 x.1.Set.length (x.1.Set.flatMap qe)), C.d (D.sl 5 x.1.L.length (x.1.L.flatMap qg))], R.c (C.ptr 0 0), R.c (C.ptr 1 0), R.c (C.ptr 2 0), R.c (C.ptr 3 0), R.c (C.ptr 4 0), R.c (C.ptr 5 0)], [(0, B.blk 32 [C.d (D.sl 8 x.2.1.length (x.2.1.flatMap qf))]), (1, B.blk 62 [C.fn 22 [] []]), (2, B.blk 3 [C.d (D.int .i64 x.2.2.1)]), (3, B.blk 37 [C.d (D.int .i64 x.2.2.2.Worst), C.d (D.int .i64 x.2.2.2.Best), C.d (D.int .i64 x.2.2.2.Pass)]), (4, B.blk 94 [C.fn 45 [] [C.ptr 0 0, C.ptr 1 0, C.ptr 2 0, C.ptr 3 0, C.ptr 4 0, C.ptr 5 0]]), (5, B.blk 62 [C.fn 23 [] []])])
noncomputable def qZ : (List Bool × List qa × Int × qd) → R × List (Nat × B) := fun (e : List Bool × List qa × Int × qd) => (R.c (C.d (D.sl 1 e.1.length (e.1.flatMap eB))), [(0, B.blk 32 [C.d (D.sl 8 e.2.1.length (e.2.1.flatMap qf))]), (1, B.blk 62 [C.fn 22 [] []]), (2, B.blk 3 [C.d (D.int .i64 e.2.2.1)]), (3, B.blk 37 [C.d (D.int .i64 e.2.2.2.Worst), C.d (D.int .i64 e.2.2.2.Best), C.d (D.int .i64 e.2.2.2.Pass)]), (4, B.blk 94 [C.fn 45 [] [C.ptr 0 0, C.ptr 1 0, C.ptr 2 0, C.ptr 3 0, C.ptr 4 0, C.ptr 5 0]]), (5, B.blk 62 [C.fn 23 [] []])])
noncomputable def zK (rF : (qb × List qa × Int × qd) → Option (List Bool × List qa × Int × qd)) (b0 : List qa) (b2 : Int) (b3 : qd) (b6 : qb) : (List Bool × Int) → Option ((List Bool × Int) ⊕ (List Bool)) | (w7, b8) => if b8 < ((w7.length : Nat) : Int) then Option.bind (QY b6 b3 b0 b8) fun (a2 : ql) => if 0 ≤ b8 ∧ b8 < ((w7.length : Nat) : Int) then if Int.toNat b8 + 1 ≤ w7.length then some (Sum.inl (List.set w7 (Int.toNat b8) (qx a2 b6), w64 (b8 + 1))) else none else none else some (Sum.inr w7)
theorem q3A (rE : Orc) (rF : (qb × List qa × Int × qd) → Option (List Bool × List qa × Int × qd)) (hF : ∀ y, rE (.fn 45) 6 (qy y).1 (qy y).2 = (rF y).bind fun e => some (qZ e)) (hM : ∀ g k a G, g ≠ 45 → rE (.fn g) k a G = ev g k a G) (hR : ∀ g asg bd k a G, rE (.rd g asg bd) k a G = evr g asg bd k a G) : ∀ (w7 : List Bool) (b0 : List qa) (b2 b3_Worst b3_Best b3_Pass b6_Kind b6_N b6_Min : Int) (b6_Set : List qc) (b6_L : List qb) (b8 : Int) (w7_len : Nat), w7_len = w7.length → XL2 rE 45 6 5 ⟨[(1, rP 0), (2, rP 1), (3, rP 2), (4, rP 3), (7, rP 6), (9, rO 7 1 w7_len), (10, R.c (C.fn 50 [] [])), (11, rP 8)], [(0, B.blk 32 [dL 8 qf b0]), (1, B.blk 62 [C.fn 22 [] []]), (2, B.blk 3 [dI b2]), (3, B.blk 37 [dI b3_Worst, dI b3_Best, dI b3_Pass]), (4, B.blk 94 [C.fn 45 [] [dP 0, dP 1, dP 2, dP 3, dP 4, dP 5]]), (5, B.blk 62 [C.fn 23 [] []]), (6, B.blk 31 [dI b6_Kind, dI b6_N, dI b6_Min, dL 2 qe b6_Set, dL 5 qg b6_L]), (7, bR 4 1 eB w7), (8, B.blk 3 [dI b8])], 9, 142⟩ = (qN (zK rF b0 b2 (qd.mk b3_Worst b3_Best b3_Pass) (qb.mk b6_Kind b6_N b6_Min b6_Set b6_L)) (w7, b8)).bind (fun (e : List Bool) => some (Go.Exit.exit 0, ⟨[(3, rP 2), (9, rO 6 1 e.length)], [(0, B.blk 32 [dL 8 qf b0]), (1, B.blk 62 [C.fn 22 [] []]), (2, B.blk 3 [dI b2]), (3, B.blk 37 [dI b3_Worst, dI b3_Best, dI b3_Pass]), (4, B.blk 94 [C.fn 45 [] [dP 0, dP 1, dP 2, dP 3, dP 4, dP 5]]), (5, B.blk 62 [C.fn 23 [] []]), (6, bR 4 1 eB e)], 7, 142⟩)) :=
  by
  intro w7 b0 b2 b3_Worst b3_Best b3_Pass b6_Kind b6_N b6_Min b6_Set b6_L b8 w7_len h0
  subst h0
  revert b8; revert w7; exact q8L qd6 qcT (fun e => by exact ⟨_, rfl, fun h => by cases h⟩) fun w7 b8 => by
    have hF' : ∀ (x0_Kind x0_N x0_Min : Int) (x0_Set : List qc) (x0_L : List qb) (v : List qa) (v2 v3_Worst v3_Best v3_Pass : Int), rE (.fn 45) 6 [R.agg [dI x0_Kind, dI x0_N, dI x0_Min, dL 2 qe x0_Set, dL 5 qg x0_L], rP 0, rP 1, rP 2, rP 3, rP 4, rP 5] [(0, B.blk 32 [dL 8 qf v]), (1, B.blk 62 [C.fn 22 [] []]), (2, B.blk 3 [dI v2]), (3, B.blk 37 [dI v3_Worst, dI v3_Best, dI v3_Pass]), (4, B.blk 94 [C.fn 45 [] [dP 0, dP 1, dP 2, dP 3, dP 4, dP 5]]), (5, B.blk 62 [C.fn 23 [] []])] = (rF ((qb.mk x0_Kind x0_N x0_Min x0_Set x0_L), v, v2, (qd.mk v3_Worst v3_Best v3_Pass))).bind (fun e => some (rL 1 eB e.1, [(0, B.blk 32 [dL 8 qf e.2.1]), (1, B.blk 62 [C.fn 22 [] []]), (2, B.blk 3 [dI e.2.2.1]), (3, B.blk 37 [dI e.2.2.2.Worst, dI e.2.2.2.Best, dI e.2.2.2.Pass]), (4, B.blk 94 [C.fn 45 [] [dP 0, dP 1, dP 2, dP 3, dP 4, dP 5]]), (5, B.blk 62 [C.fn 23 [] []])])) := fun x0_Kind x0_N x0_Min x0_Set x0_L v v2 v3_Worst v3_Best v3_Pass => hF ((qb.mk x0_Kind x0_N x0_Min x0_Set x0_L), v, v2, (qd.mk v3_Worst v3_Best v3_Pass))
    have := qcC; have := @q9A.eq_1; have := @q3B; have := @q0l; have := @J7; have := @zK.eq_1; exact gA
noncomputable def JL (fu : Nat) (rF : (qb × List qa × Int × qd) → Option (List Bool × List qa × Int × qd)) (b0 : List qa) (b2 : Int) (b3 : qd) (b6 : qb) : (List Bool × Int) → Option ((List Bool × Int) ⊕ (List Bool)) | (w7, b8) => if b8 < ((w7.length : Nat) : Int) then Option.bind (q03 fu b6 b3 b0 b8) fun (a2 : ql) => if 0 ≤ b8 ∧ b8 < ((w7.length : Nat) : Int) then if Int.toNat b8 + 1 ≤ w7.length then some (Sum.inl (List.set w7 (Int.toNat b8) (qx a2 b6), w64 (b8 + 1))) else none else none else some (Sum.inr w7)
theorem q3d (fu : Nat) (rF rF2 : (qb × List qa × Int × qd) → Option (List Bool × List qa × Int × qd)) (hF : ∀ y, qk (rF y) (rF2 y)) (b0 : List qa) (b2 : Int) (b3 : qd) (b6 : qb) : ∀ x, qk (JL fu rF b0 b2 b3 b6 x) (zK rF2 b0 b2 b3 b6 x) := by
  rintro ⟨w7, b8⟩
  unfold JL zK
  try dsimp only
  repeat (first
    | with_reducible exact qk.refl _
    | with_reducible exact qk.none _
    | exact hF _
    | with_reducible apply q0j
    | with_reducible refine qk.bind ?_ (fun _ => ?_)
    | with_reducible refine qk.ite ?_ ?_
    | with_reducible refine qk.sum (fun _ => ?_) (fun _ => ?_)
    | with_reducible refine qk.lim (fun _ => ?_))
noncomputable def zJ (rF : (qb × List qa × Int × qd) → Option (List Bool × List qa × Int × qd)) (b0 : List qa) (b2 : Int) (b3 : qd) (b6 : qb) : (List Bool × Int) → Option ((List Bool × Int) ⊕ (List Bool)) | (w7, b8) => if b8 < ((w7.length : Nat) : Int) then Option.bind (QY b6 b3 b0 b8) fun (a2 : ql) => if 0 ≤ b8 ∧ b8 < ((w7.length : Nat) : Int) then if Int.toNat b8 + 1 ≤ w7.length then some (Sum.inl (List.set w7 (Int.toNat b8) (qI a2 b6), w64 (b8 + 1))) else none else none else some (Sum.inr w7)
theorem q3W (rE : Orc) (rF : (qb × List qa × Int × qd) → Option (List Bool × List qa × Int × qd)) (hF : ∀ y, rE (.fn 45) 6 (qy y).1 (qy y).2 = (rF y).bind fun e => some (qZ e)) (hM : ∀ g k a G, g ≠ 45 → rE (.fn g) k a G = ev g k a G) (hR : ∀ g asg bd k a G, rE (.rd g asg bd) k a G = evr g asg bd k a G) : ∀ (w7 : List Bool) (b0 : List qa) (b2 b3_Worst b3_Best b3_Pass b6_Kind b6_N b6_Min : Int) (b6_Set : List qc) (b6_L : List qb) (b8 : Int) (w7_len : Nat), w7_len = w7.length → XL2 rE 45 6 5 ⟨[(1, rP 0), (2, rP 1), (3, rP 2), (4, rP 3), (7, rP 6), (9, rO 7 1 w7_len), (10, R.c (C.fn 51 [] [])), (11, rP 8)], [(0, B.blk 32 [dL 8 qf b0]), (1, B.blk 62 [C.fn 22 [] []]), (2, B.blk 3 [dI b2]), (3, B.blk 37 [dI b3_Worst, dI b3_Best, dI b3_Pass]), (4, B.blk 94 [C.fn 45 [] [dP 0, dP 1, dP 2, dP 3, dP 4, dP 5]]), (5, B.blk 62 [C.fn 23 [] []]), (6, B.blk 31 [dI b6_Kind, dI b6_N, dI b6_Min, dL 2 qe b6_Set, dL 5 qg b6_L]), (7, bR 4 1 eB w7), (8, B.blk 3 [dI b8])], 9, 142⟩ = (qN (zJ rF b0 b2 (qd.mk b3_Worst b3_Best b3_Pass) (qb.mk b6_Kind b6_N b6_Min b6_Set b6_L)) (w7, b8)).bind (fun (e : List Bool) => some (Go.Exit.exit 0, ⟨[(3, rP 2), (9, rO 6 1 e.length)], [(0, B.blk 32 [dL 8 qf b0]), (1, B.blk 62 [C.fn 22 [] []]), (2, B.blk 3 [dI b2]), (3, B.blk 37 [dI b3_Worst, dI b3_Best, dI b3_Pass]), (4, B.blk 94 [C.fn 45 [] [dP 0, dP 1, dP 2, dP 3, dP 4, dP 5]]), (5, B.blk 62 [C.fn 23 [] []]), (6, bR 4 1 eB e)], 7, 142⟩)) :=
  by
  intro w7 b0 b2 b3_Worst b3_Best b3_Pass b6_Kind b6_N b6_Min b6_Set b6_L b8 w7_len h0
  subst h0
  revert b8; revert w7; exact q8L qd6 qcT (fun e => by exact ⟨_, rfl, fun h => by cases h⟩) fun w7 b8 => by
    have hF' : ∀ (x0_Kind x0_N x0_Min : Int) (x0_Set : List qc) (x0_L : List qb) (v : List qa) (v2 v3_Worst v3_Best v3_Pass : Int), rE (.fn 45) 6 [R.agg [dI x0_Kind, dI x0_N, dI x0_Min, dL 2 qe x0_Set, dL 5 qg x0_L], rP 0, rP 1, rP 2, rP 3, rP 4, rP 5] [(0, B.blk 32 [dL 8 qf v]), (1, B.blk 62 [C.fn 22 [] []]), (2, B.blk 3 [dI v2]), (3, B.blk 37 [dI v3_Worst, dI v3_Best, dI v3_Pass]), (4, B.blk 94 [C.fn 45 [] [dP 0, dP 1, dP 2, dP 3, dP 4, dP 5]]), (5, B.blk 62 [C.fn 23 [] []])] = (rF ((qb.mk x0_Kind x0_N x0_Min x0_Set x0_L), v, v2, (qd.mk v3_Worst v3_Best v3_Pass))).bind (fun e => some (rL 1 eB e.1, [(0, B.blk 32 [dL 8 qf e.2.1]), (1, B.blk 62 [C.fn 22 [] []]), (2, B.blk 3 [dI e.2.2.1]), (3, B.blk 37 [dI e.2.2.2.Worst, dI e.2.2.2.Best, dI e.2.2.2.Pass]), (4, B.blk 94 [C.fn 45 [] [dP 0, dP 1, dP 2, dP 3, dP 4, dP 5]]), (5, B.blk 62 [C.fn 23 [] []])])) := fun x0_Kind x0_N x0_Min x0_Set x0_L v v2 v3_Worst v3_Best v3_Pass => hF ((qb.mk x0_Kind x0_N x0_Min x0_Set x0_L), v, v2, (qd.mk v3_Worst v3_Best v3_Pass))
    have := qcC; have := @q9A.eq_1; have := @q3B; have := @q0l; have := @q0e; have := @zJ.eq_1; exact gA
noncomputable def JS (fu : Nat) (rF : (qb × List qa × Int × qd) → Option (List Bool × List qa × Int × qd)) (b0 : List qa) (b2 : Int) (b3 : qd) (b6 : qb) : (List Bool × Int) → Option ((List Bool × Int) ⊕ (List Bool)) | (w7, b8) => if b8 < ((w7.length : Nat) : Int) then Option.bind (q03 fu b6 b3 b0 b8) fun (a2 : ql) => if 0 ≤ b8 ∧ b8 < ((w7.length : Nat) : Int) then if Int.toNat b8 + 1 ≤ w7.length then some (Sum.inl (List.set w7 (Int.toNat b8) (qI a2 b6), w64 (b8 + 1))) else none else none else some (Sum.inr w7)
theorem q3j (fu : Nat) (rF rF2 : (qb × List qa × Int × qd) → Option (List Bool × List qa × Int × qd)) (hF : ∀ y, qk (rF y) (rF2 y)) (b0 : List qa) (b2 : Int) (b3 : qd) (b6 : qb) : ∀ x, qk (JS fu rF b0 b2 b3 b6 x) (zJ rF2 b0 b2 b3 b6 x) := by
  rintro ⟨w7, b8⟩
  unfold JS zJ
  try dsimp only
  repeat (first
    | with_reducible exact qk.refl _
    | with_reducible exact qk.none _
    | exact hF _
    | with_reducible apply q0j
    | with_reducible refine qk.bind ?_ (fun _ => ?_)
    | with_reducible refine qk.ite ?_ ?_
    | with_reducible refine qk.sum (fun _ => ?_) (fun _ => ?_)
    | with_reducible refine qk.lim (fun _ => ?_))
noncomputable def z7 (rF : (qb × List qa × Int × qd) → Option (List Bool × List qa × Int × qd)) (w7 : List Bool) (b0 : List qa) (b2 : Int) (b3 : qd) (b6 : qb) : (List Int × Int) → Option ((List Int × Int) ⊕ (List Int)) | (w9, t13) => if t13 < ((w9.length : Nat) : Int) then if 0 ≤ t13 ∧ t13 < ((w9.length : Nat) : Int) then if Int.toNat t13 + 1 ≤ w9.length then some (Sum.inl (List.set w9 (Int.toNat t13) (-1), w64 (t13 + 1))) else none else none else some (Sum.inr w9)
theorem q2S (rE : Orc) (rF : (qb × List qa × Int × qd) → Option (List Bool × List qa × Int × qd)) (hF : ∀ y, rE (.fn 45) 6 (qy y).1 (qy y).2 = (rF y).bind fun e => some (qZ e)) (hM : ∀ g k a G, g ≠ 45 → rE (.fn g) k a G = ev g k a G) (hR : ∀ g asg bd k a G, rE (.rd g asg bd) k a G = evr g asg bd k a G) : ∀ (w7 : List Bool) (w9 : List Int) (b0 : List qa) (b2 b3_Worst b3_Best b3_Pass b6_Kind b6_N b6_Min : Int) (b6_Set : List qc) (b6_L : List qb) (t13 : Int) (w7_len w9_len : Nat), w7_len = w7.length → w9_len = w9.length → XL2 rE 45 6 14 ⟨[(3, rP 2), (5, rP 4), (6, rP 5), (7, rP 6), (9, rO 7 1 w7_len), (12, rP 8), (13, rI t13)], [(0, B.blk 32 [dL 8 qf b0]), (1, B.blk 62 [C.fn 22 [] []]), (2, B.blk 3 [dI b2]), (3, B.blk 37 [dI b3_Worst, dI b3_Best, dI b3_Pass]), (4, B.blk 94 [C.fn 45 [] [dP 0, dP 1, dP 2, dP 3, dP 4, dP 5]]), (5, B.blk 62 [C.fn 23 [] []]), (6, B.blk 31 [dI b6_Kind, dI b6_N, dI b6_Min, dL 2 qe b6_Set, dL 5 qg b6_L]), (7, bR 4 1 eB w7), (8, B.blk 95 [dO 9 1 w9_len]), (9, bR 3 1 eI w9)], 10, 142⟩ = (qN (z7 rF w7 b0 b2 (qd.mk b3_Worst b3_Best b3_Pass) (qb.mk b6_Kind b6_N b6_Min b6_Set b6_L)) (w9, t13)).bind (fun (e : List Int) => some (Go.Exit.exit 2, ⟨[(3, rP 2), (5, rP 4), (6, rP 5), (7, rP 6), (9, rO 7 1 w7.length), (12, rP 8)], [(0, B.blk 32 [dL 8 qf b0]), (1, B.blk 62 [C.fn 22 [] []]), (2, B.blk 3 [dI b2]), (3, B.blk 37 [dI b3_Worst, dI b3_Best, dI b3_Pass]), (4, B.blk 94 [C.fn 45 [] [dP 0, dP 1, dP 2, dP 3, dP 4, dP 5]]), (5, B.blk 62 [C.fn 23 [] []]), (6, B.blk 31 [dI b6_Kind, dI b6_N, dI b6_Min, dL 2 qe b6_Set, dL 5 qg b6_L]), (7, bR 4 1 eB w7), (8, B.blk 95 [dO 9 1 e.length]), (9, bR 3 1 eI e)], 10, 142⟩)) :=
  by
  intro w7 w9 b0 b2 b3_Worst b3_Best b3_Pass b6_Kind b6_N b6_Min b6_Set b6_L t13 w7_len w9_len h0 h1
  subst h0 h1
  revert t13; revert w9; exact q8L qeX qh9 (fun e => by exact ⟨_, rfl, fun h => by cases h⟩) fun w9 t13 => by
    have hF' : ∀ (x0_Kind x0_N x0_Min : Int) (x0_Set : List qc) (x0_L : List qb) (v : List qa) (v2 v3_Worst v3_Best v3_Pass : Int), rE (.fn 45) 6 [R.agg [dI x0_Kind, dI x0_N, dI x0_Min, dL 2 qe x0_Set, dL 5 qg x0_L], rP 0, rP 1, rP 2, rP 3, rP 4, rP 5] [(0, B.blk 32 [dL 8 qf v]), (1, B.blk 62 [C.fn 22 [] []]), (2, B.blk 3 [dI v2]), (3, B.blk 37 [dI v3_Worst, dI v3_Best, dI v3_Pass]), (4, B.blk 94 [C.fn 45 [] [dP 0, dP 1, dP 2, dP 3, dP 4, dP 5]]), (5, B.blk 62 [C.fn 23 [] []])] = (rF ((qb.mk x0_Kind x0_N x0_Min x0_Set x0_L), v, v2, (qd.mk v3_Worst v3_Best v3_Pass))).bind (fun e => some (rL 1 eB e.1, [(0, B.blk 32 [dL 8 qf e.2.1]), (1, B.blk 62 [C.fn 22 [] []]), (2, B.blk 3 [dI e.2.2.1]), (3, B.blk 37 [dI e.2.2.2.Worst, dI e.2.2.2.Best, dI e.2.2.2.Pass]), (4, B.blk 94 [C.fn 45 [] [dP 0, dP 1, dP 2, dP 3, dP 4, dP 5]]), (5, B.blk 62 [C.fn 23 [] []])])) := fun x0_Kind x0_N x0_Min x0_Set x0_L v v2 v3_Worst v3_Best v3_Pass => hF ((qb.mk x0_Kind x0_N x0_Min x0_Set x0_L), v, v2, (qd.mk v3_Worst v3_Best v3_Pass))
    have := qcC; have := @qaf.eq_1; have := @z7.eq_1; exact gA
noncomputable def Jv (fu : Nat) (rF : (qb × List qa × Int × qd) → Option (List Bool × List qa × Int × qd)) (w7 : List Bool) (b0 : List qa) (b2 : Int) (b3 : qd) (b6 : qb) : (List Int × Int) → Option ((List Int × Int) ⊕ (List Int)) | (w9, t13) => if t13 < ((w9.length : Nat) : Int) then if 0 ≤ t13 ∧ t13 < ((w9.length : Nat) : Int) then if Int.toNat t13 + 1 ≤ w9.length then some (Sum.inl (List.set w9 (Int.toNat t13) (-1), w64 (t13 + 1))) else none else none else some (Sum.inr w9)
theorem q2X (fu : Nat) (rF rF2 : (qb × List qa × Int × qd) → Option (List Bool × List qa × Int × qd)) (hF : ∀ y, qk (rF y) (rF2 y)) (w7 : List Bool) (b0 : List qa) (b2 : Int) (b3 : qd) (b6 : qb) : ∀ x, qk (Jv fu rF w7 b0 b2 b3 b6 x) (z7 rF2 w7 b0 b2 b3 b6 x) := by
  rintro ⟨w9, t13⟩
  unfold Jv z7
  try dsimp only
  repeat (first
    | with_reducible exact qk.refl _
    | with_reducible exact qk.none _
    | exact hF _
    | with_reducible refine qk.bind ?_ (fun _ => ?_)
    | with_reducible refine qk.ite ?_ ?_
    | with_reducible refine qk.sum (fun _ => ?_) (fun _ => ?_)
    | with_reducible refine qk.lim (fun _ => ?_))
theorem qy6 : okL 23 qia := qA (qi qtg) (by kernel_rfl) (by kernel_rfl)
def qyp := JA_ @qia.eq_1 (JA_ @Try.f23.eq_1 @qtg)
noncomputable def q1l (x0 : Int) (x1 : Int) : Option Unit :=
  some ()
noncomputable def q4t (x0 : Int) (x1 : Int) : Unit :=
  ()
theorem q7H (x0 x1 : Int) : q1l x0 x1 = some (q4t x0 x1) := by
  unfold q1l q4t
  simp only [Qg]
theorem q8U : ∀ (x0 x1 : Int), ev 23 0 [rI x0, rI x1] [] = some (rB Bool.false, []) :=
  fun x0 x1 => by
    have h : ev 23 0 [rI x0, rI x1] [] = (q1l x0 x1).bind (fun (e : Unit) => some (rB Bool.false, [])) := by
      rw [qB qtg qvC.2.2.2 qy6]
      have := qyp; have := @q1l.eq_1; exact gA
    rw [q7H] at h
    exact h
theorem qvG : okL 47 qd3 := qA (qi qs7) (by kernel_rfl) (by kernel_rfl)
def qvP := JA_ @qd3.eq_1 (JA_ @Try.f47.eq_1 @qs7)
theorem qqh : lbO 47 1 = qfM := Qd (qi qs7) rfl
theorem qqP : okL 47 qfM := zd qvG (List.mem_of_getElem? (i := 0) (by kernel_rfl))
theorem qxz : okL 48 qi2 := qA (qi quG) (by kernel_rfl) (by kernel_rfl)
def qwZ := JA_ @qi2.eq_1 (JA_ @Try.f48.eq_1 @quG)
end Go.Proofs.Ytgejdfnidjnjcaa.Vc
