/- Part 4 of a proof. -/
import Derived.Test.YtgejdfnidjnjcaaM3
namespace Go.Proofs.Ytgejdfnidjnjcaa.Vc
open Go.RowKit
set_option linter.unusedVariables false
set_option linter.unusedSimpArgs false
set_option linter.defProp false
set_option maxRecDepth 20000
theorem lo6 : okL 6 qje := qy (qi bd6) (by kernel_rfl) (by kernel_rfl)
def cx6 := JA_ @qje.eq_1 (JA_ @Try.f6.eq_1 @bd6)
theorem qtW : okL 16 qeF := qy (qi qpm) (by kernel_rfl) (by kernel_rfl)
def quE := JA_ @qeF.eq_1 (JA_ @Try.f16.eq_1 @qpm)
theorem q16 : ev 16 0 [] [] = some (R.tup [R.c (C.d (D.sl 8 3 [D.int Go.IntKind.i64 1, D.str (ByteArray.mk (List.toArray [65, 49])), D.int Go.IntKind.i64 5, D.int Go.IntKind.i64 60, D.int Go.IntKind.i64 0, D.sl 1 0 [], D.int Go.IntKind.i64 0, D.sl 1 0 [], D.int Go.IntKind.i64 1, D.str (ByteArray.mk (List.toArray [66, 49])), D.int Go.IntKind.i64 6, D.int Go.IntKind.i64 90, D.int Go.IntKind.i64 0, D.sl 1 0 [], D.int Go.IntKind.i64 0, D.sl 1 0 [], D.int Go.IntKind.i64 1, D.str (ByteArray.mk (List.toArray [65, 49])), D.int Go.IntKind.i64 5, D.int Go.IntKind.i64 40, D.int Go.IntKind.i64 0, D.sl 1 0 [], D.int Go.IntKind.i64 0, D.sl 1 0 []])), R.agg [C.d (D.int Go.IntKind.i64 1), C.d (D.int Go.IntKind.i64 0), C.d (D.int Go.IntKind.i64 50), C.d (D.sl 2 1 [D.int Go.IntKind.i64 1, D.str (ByteArray.mk (List.toArray [65, 49]))]), C.d (D.sl 5 0 [])], R.agg [C.d (D.int Go.IntKind.i64 2), C.d (D.int Go.IntKind.i64 10), C.d (D.int Go.IntKind.i64 0), C.d (D.sl 2 2 [D.int Go.IntKind.i64 1, D.str (ByteArray.mk (List.toArray [65, 49])), D.int Go.IntKind.i64 1, D.str (ByteArray.mk (List.toArray [66, 49]))]), C.d (D.sl 5 0 [])]], []) :=
  by
    rw [qz qpm qsr.2.2.2 qtW]
    have := quE; exact gA
theorem lo9 : okL 9 qiK := qy (qi bd9) (by kernel_rfl) (by kernel_rfl)
def cx9 := JA_ @qiK.eq_1 (JA_ @Try.f9.eq_1 @bd9)
noncomputable def q3G (school : Int) : Option qd :=
  if (school == 2) = Bool.true then some (qd.mk 5 1 3)
  else if (school == 3) = Bool.true then some (qd.mk 0 20 10)
  else some (qd.mk 0 100 50)
noncomputable def qn (school : Int) : qd :=
  if (school == 2) = Bool.true then qd.mk 5 1 3
  else if (school == 3) = Bool.true then qd.mk 0 20 10
  else qd.mk 0 100 50
theorem q8A (school : Int) : q3G school = some (qn school) := by
  unfold q3G qn
  simp only [zX]
theorem q1R : ∀ (school : Int), ev 9 0 [rI school] [] = some (R.agg [dI (qn school).Worst, dI (qn school).Best, dI (qn school).Pass], []) :=
  fun school => by
    have h : ev 9 0 [rI school] [] = (q3G school).bind (fun (e : qd) => some (R.agg [dI e.Worst, dI e.Best, dI e.Pass], [])) := by
      rw [qz bd9 pw9.2.2.2 lo9]
      have := cx9; have := @q3G.eq_1; exact gA
    rw [q8A] at h
    exact h
theorem qni : okL 11 qap := qy (qi qkA) (by kernel_rfl) (by kernel_rfl)
def qnN := JA_ @qap.eq_1 (JA_ @Try.f11.eq_1 @qkA)
theorem qkN : lbO 11 9 = qef := Q8 (qi qkA) rfl
theorem qlw : okL 11 qef := zd qni (List.mem_of_getElem? (i := 0) (by kernel_rfl))
theorem qju : lbO 11 14 = qbn := Q8 (qi qkA) rfl
theorem qj9 : okL 11 qbn := zd qni (List.mem_of_getElem? (i := 1) (by kernel_rfl))
theorem qsH : okL 10 qfx := qy (qi qpD) (by kernel_rfl) (by kernel_rfl)
def qup := JA_ @qfx.eq_1 (JA_ @Try.f10.eq_1 @qpD)
theorem qr8 : okL 21 qbw := qy (qi qmJ) (by kernel_rfl) (by kernel_rfl)
def qs7 := JA_ @qbw.eq_1 (JA_ @Try.f21.eq_1 @qmJ)
theorem qll : lbO 21 6 = qfW := Q8 (qi qmJ) rfl
theorem qlz : okL 21 qfW := zd qr8 (List.mem_of_getElem? (i := 0) (by kernel_rfl))
theorem qrp : okL 35 qab := qy (qi ql1) (by kernel_rfl) (by kernel_rfl)
def qpg := JA_ @qab.eq_1 (JA_ @Try.f35.eq_1 @ql1)
theorem qee : raO 35 4 = q87 := qly (qi ql1) rfl
theorem qbu : rbO 35 4 = q6B := qkE (qi ql1) rfl
theorem qbv : okL 35 q87 ∧ okL 35 q6B := qlv (key := 0) (q := (q87, q6B)) qrp (List.mem_of_getElem? (i := 0) (by kernel_rfl))
theorem qf5 : qO (rbO 35 4) = 4 := by rw [qbu]; exact qkV
theorem qi8 : ∀ k s, XE2 evo 35 k (raO 35 4) s = XE2 evo 35 k q87 s := fun _ _ => by rw [qee]
theorem qhW : ∀ k s, XE2 evo 35 k (rbO 35 4) s = XE2 evo 35 k q6B s := fun _ _ => by rw [qbu]
theorem quj : okL 52 qex := qy (qi qor) (by kernel_rfl) (by kernel_rfl)
def qv6 := JA_ @qex.eq_1 (JA_ @Try.f52.eq_1 @qor)
noncomputable def q1a (n : qb) : Option Unit :=
  some ()
noncomputable def q3Y (n : qb) : Unit :=
  ()
theorem q7a (n : qb) : q1a n = some (q3Y n) := by
  unfold q1a q3Y
  simp only [zX]
theorem q7H : ∀ (n_Kind n_N n_Min : Int) (n_Set : List qc) (n_L : List qb), ev 52 0 [R.agg [dI n_Kind, dI n_N, dI n_Min, dL 2 qe n_Set, dL 5 qg n_L]] [] = some (R.c (C.fn 68 [] [dP 0]), [(0, B.blk 31 [dI n_Kind, dI n_N, dI n_Min, dL 2 qe n_Set, dL 5 qg n_L])]) :=
  fun n_Kind n_N n_Min n_Set n_L => by
    have h : ev 52 0 [R.agg [dI n_Kind, dI n_N, dI n_Min, dL 2 qe n_Set, dL 5 qg n_L]] [] = (q1a (qb.mk n_Kind n_N n_Min n_Set n_L)).bind (fun (e : Unit) => some (R.c (C.fn 68 [] [dP 0]), [(0, B.blk 31 [dI n_Kind, dI n_N, dI n_Min, dL 2 qe n_Set, dL 5 qg n_L])])) := by
      rw [qz qor qsB.2.2.2 quj]
      have := qv6; have := @q1a.eq_1; exact gA
    rw [q7a] at h
    exact h
theorem quZ : okL 68 qeR := qy (qi qoE) (by kernel_rfl) (by kernel_rfl)
def qsE := JA_ @qeR.eq_1 (JA_ @Try.f68.eq_1 @qoE)
theorem qny : okL 69 qc4 := qy (qi qlS) (by kernel_rfl) (by kernel_rfl)
def qmy := JA_ @qc4.eq_1 (JA_ @Try.f69.eq_1 @qlS)
theorem qi3 : lbO 69 4 = qbW := Q8 (qi qlS) rfl
theorem qia : okL 69 qbW := zd qny (List.mem_of_getElem? (i := 0) (by kernel_rfl))
noncomputable def J1 (t9 : Int) (t10 : Int) (t102 : Int) (t103 : Int) (t104 : List qc) (t105 : List qb) (deepest : Int) (ok : Bool) : Option (Unit ⊕ (List qb × Int)) :=
  if 100 < t9 then some (Sum.inl ())
  else if 1 ≤ Go.maxLen then some (Sum.inr ([qb.mk t10 t102 t103 t104 t105], max deepest t9))
  else none
theorem q6j : ∀ (t9 t10 t102 t103 : Int) (t104 : List qc) (t105 : List qb) (deepest : Int) (ok : Bool), evr 35 (raO 35 4) (rbO 35 4) 4 [R.any, R.any, rP 0, rP 1, rP 2, R.any, R.any, R.any, R.any, rI t9, R.agg [dI t10, dI t102, dI t103, dL 2 qe t104, dL 5 qg t105], R.any, R.any, R.any, R.any, R.any, R.any, R.any, R.any, R.any, R.any, R.any, R.any, R.any, R.any, R.any, R.any] [(0, B.blk 29 [C.nils]), (1, B.blk 3 [dI deepest]), (2, B.blk 4 [dB ok]), (3, B.ob (AO.lp 35 (R.any :: R.any :: rP 0 :: rP 1 :: rP 2 :: q4i) [9, 10] (raO 35 4) (rbO 35 4) Go.LoopState.ready none))] = (J1 t9 t10 t102 t103 t104 t105 deepest ok).bind (Sum.elim (fun (e : Unit) => some (rB Bool.false, [(0, B.blk 29 [C.nils]), (1, B.blk 3 [dI 0]), (2, B.blk 4 [dB Bool.false]), (3, B.ob (AO.lp 35 (R.any :: R.any :: rP 0 :: rP 1 :: rP 2 :: q4i) [9, 10] (raO 35 4) (rbO 35 4) Go.LoopState.done (some Go.Code.ret)))])) (fun (e : List qb × Int) => some (rB Bool.true, [(0, B.blk 29 [dO 4 5 e.1.length]), (1, B.blk 3 [dI e.2]), (2, B.blk 4 [dB ok]), (3, B.ob (AO.lp 35 (R.any :: R.any :: rP 0 :: rP 1 :: rP 2 :: q4i) [9, 10] (raO 35 4) (rbO 35 4) Go.LoopState.ready none)), (4, bR 31 5 qg e.1)]))) :=
  fun t9 t10 t102 t103 t104 t105 deepest ok => by
    rw [qf2 qee qbu (by decide) qi0 qbv.1 qbv.2]
    have := qpg; have := @qi8; have := @qhW; have := @q87.eq_1; have := @q6B.eq_1; have := @J1.eq_1; have := @qf5; exact gA
noncomputable def Zg (t9 : Int) (t10 : Int) (t102 : Int) (t103 : Int) (t104 : List qc) (t105 : List qb) (w4 : List qb) (deepest : Int) (ok : Bool) : Option (Unit ⊕ (List qb × Int)) :=
  if 100 < t9 then some (Sum.inl ())
  else if (((w4.length : Nat) : Int) == 10000) = Bool.true then some (Sum.inl ())
  else if w4.length + 1 ≤ Go.maxLen ∧ (w4.length + 1) * 72 ≤ 140737488355328 then some (Sum.inr (w4 ++ [qb.mk t10 t102 t103 t104 t105], max deepest t9))
  else none
theorem q4E : ∀ (t9 t10 t102 t103 : Int) (t104 : List qc) (t105 w4 : List qb) (deepest : Int) (ok : Bool) (w4_len : Nat), w4_len = w4.length → evr 35 (raO 35 4) (rbO 35 4) 4 [R.any, R.any, rP 0, rP 1, rP 2, R.any, R.any, R.any, R.any, rI t9, R.agg [dI t10, dI t102, dI t103, dL 2 qe t104, dL 5 qg t105], R.any, R.any, R.any, R.any, R.any, R.any, R.any, R.any, R.any, R.any, R.any, R.any, R.any, R.any, R.any, R.any] [(0, B.blk 29 [dO 4 5 w4_len]), (1, B.blk 3 [dI deepest]), (2, B.blk 4 [dB ok]), (3, B.ob (AO.lp 35 (R.any :: R.any :: rP 0 :: rP 1 :: rP 2 :: q4i) [9, 10] (raO 35 4) (rbO 35 4) Go.LoopState.ready none)), (4, bR 31 5 qg w4)] = (Zg t9 t10 t102 t103 t104 t105 w4 deepest ok).bind (Sum.elim (fun (e : Unit) => some (rB Bool.false, [(0, B.blk 29 [C.nils]), (1, B.blk 3 [dI 0]), (2, B.blk 4 [dB Bool.false]), (3, B.ob (AO.lp 35 (R.any :: R.any :: rP 0 :: rP 1 :: rP 2 :: q4i) [9, 10] (raO 35 4) (rbO 35 4) Go.LoopState.done (some Go.Code.ret)))])) (fun (e : List qb × Int) => some (rB Bool.true, [(0, B.blk 29 [dO 4 5 e.1.length]), (1, B.blk 3 [dI e.2]), (2, B.blk 4 [dB ok]), (3, B.ob (AO.lp 35 (R.any :: R.any :: rP 0 :: rP 1 :: rP 2 :: q4i) [9, 10] (raO 35 4) (rbO 35 4) Go.LoopState.ready none)), (4, bR 31 5 qg e.1)]))) :=
  by
  intro t9 t10 t102 t103 t104 t105 w4 deepest ok w4_len h0
  subst h0
  rw [qf2 qee qbu (by decide) qi0 qbv.1 qbv.2]
  have := qpg; have := @qi8; have := @qhW; have := @q87.eq_1; have := @q6B.eq_1; have := @Zg.eq_1; have := @qf5; exact gA
noncomputable def Q2 (x : (qb × Int × List qb × Int × Bool)) : List R × List (Nat × B) := ([R.agg [C.d (D.int .i64 x.1.Kind), C.d (D.int .i64 x.1.N), C.d (D.int .i64 x.1.Min), C.d (D.sl 2 x.1.Set.length (x.1.Set.flatMap qe)), C.d (D.sl 5 x.1.L.length (x.1.L.flatMap qg))], R.c (C.d (D.int .i64 x.2.1)), R.c (C.hd .yield 0)], [(0, B.ob (AO.lp 35 [R.any, R.any, R.c (C.ptr 1 0), R.c (C.ptr 2 0), R.c (C.ptr 3 0), R.any, R.any, R.any, R.any, R.any, R.any, R.any, R.any, R.any, R.any, R.any, R.any, R.any, R.any, R.any, R.any, R.any, R.any, R.any, R.any, R.any, R.any] [9, 10] (raO 35 4) (rbO 35 4) Go.LoopState.ready none)), (1, B.blk 29 [C.own 4 5 0 x.2.2.1.length]), (2, B.blk 3 [C.d (D.int .i64 x.2.2.2.1)]), (3, B.blk 4 [C.d (D.bool x.2.2.2.2)]), (4, B.row 31 5 ((x.2.2.1.flatMap qg).map C.d))])
noncomputable def Qm : (Int ⊕ (List qb × Int × Bool)) → R × List (Nat × B) := Sum.elim (fun (e : Int) => (R.c (C.d (D.bool Bool.false)), [(0, B.ob (AO.lp 35 [R.any, R.any, R.c (C.ptr 1 0), R.c (C.ptr 2 0), R.c (C.ptr 3 0), R.any, R.any, R.any, R.any, R.any, R.any, R.any, R.any, R.any, R.any, R.any, R.any, R.any, R.any, R.any, R.any, R.any, R.any, R.any, R.any, R.any, R.any] [9, 10] (raO 35 4) (rbO 35 4) Go.LoopState.done (some Go.Code.ret))), (1, B.blk 29 [C.nils]), (2, B.blk 3 [C.d (D.int .i64 e)]), (3, B.blk 4 [C.d (D.bool Bool.false)])])) (fun (e : List qb × Int × Bool) => (R.c (C.d (D.bool Bool.true)), [(0, B.ob (AO.lp 35 [R.any, R.any, R.c (C.ptr 1 0), R.c (C.ptr 2 0), R.c (C.ptr 3 0), R.any, R.any, R.any, R.any, R.any, R.any, R.any, R.any, R.any, R.any, R.any, R.any, R.any, R.any, R.any, R.any, R.any, R.any, R.any, R.any, R.any, R.any] [9, 10] (raO 35 4) (rbO 35 4) Go.LoopState.ready none)), (1, B.blk 29 [C.own 4 5 0 e.1.length]), (2, B.blk 3 [C.d (D.int .i64 e.2.1)]), (3, B.blk 4 [C.d (D.bool e.2.2)]), (4, B.row 31 5 ((e.1.flatMap qg).map C.d))]))
noncomputable def Qf (rF : (qb × Int × List qb × Int × Bool) → Option (Int ⊕ (List qb × Int × Bool))) (deep : Int) (t15 : List qb) (t16 : Int) : (List qb × Int × Bool × Int) → Option ((List qb × Int × Bool × Int) ⊕ (Int ⊕ (List qb × Int × Bool)))
  | (w4, b2, b3, t17) =>
    if t17 < t16 then if 0 ≤ t17 ∧ t17 < ((t15.length : Nat) : Int) then Option.bind t15[Int.toNat t17]? fun (a2 : qb) =>
        Option.bind (rF (a2, (w64 (deep + 1), (w4, (b2, b3))))) fun (a3 : Sum Int (Prod (List qb) (Prod Int Bool))) =>
        Sum.elim (fun (a4 : Int) => some (Sum.inr (Sum.inl a4))) (fun (a5 : Prod (List qb) (Prod Int Bool)) => some (Sum.inl (a5.1, a5.2.1, a5.2.2, w64 (t17 + 1)))) a3
      else none
    else some (Sum.inr (Sum.inr (w4, b2, b3)))
theorem q34 (rE : Orc) (rF : (qb × Int × List qb × Int × Bool) → Option (Int ⊕ (List qb × Int × Bool))) (hF : ∀ y, rE (.fn 69) 4 (Q2 y).1 (Q2 y).2 = (rF y).bind fun e => some (Qm e)) (hM : ∀ g k a G, g ≠ 69 → rE (.fn g) k a G = ev g k a G) (hR : ∀ g asg bd k a G, rE (.rd g asg bd) k a G = evr g asg bd k a G) : ∀ (w4 : List qb) (b2 : Int) (b3 : Bool) (deep : Int) (t15 : List qb) (t16 t17 : Int) (w4_len : Nat), w4_len = w4.length → XL2 rE 69 4 4 ⟨[(1, rI deep), (2, R.c (C.hd .yield 0)), (15, rL 5 qg t15), (16, rI t16), (17, rI t17)], [(0, B.ob (AO.lp 35 (R.any :: R.any :: rP 1 :: rP 2 :: rP 3 :: q4i) [9, 10] (raO 35 4) (rbO 35 4) Go.LoopState.ready none)), (1, B.blk 29 [dO 4 5 w4_len]), (2, B.blk 3 [dI b2]), (3, B.blk 4 [dB b3]), (4, bR 31 5 qg w4)], 5, 28⟩ = (qM (Qf rF deep t15 t16) (w4, b2, b3, t17)).bind (Sum.elim (fun (e : Int) => some (Go.Exit.ret, ⟨[(6, rB Bool.false)], [(0, B.ob (AO.lp 35 (R.any :: R.any :: rP 1 :: rP 2 :: rP 3 :: q4i) [9, 10] (raO 35 4) (rbO 35 4) Go.LoopState.done (some Go.Code.ret))), (1, B.blk 29 [C.nils]), (2, B.blk 3 [dI e]), (3, B.blk 4 [dB Bool.false])], 4, 28⟩)) (fun (e : List qb × Int × Bool) => some (Go.Exit.exit 0, ⟨[(6, R.any)], [(0, B.ob (AO.lp 35 (R.any :: R.any :: rP 1 :: rP 2 :: rP 3 :: q4i) [9, 10] (raO 35 4) (rbO 35 4) Go.LoopState.ready none)), (1, B.blk 29 [dO 4 5 e.1.length]), (2, B.blk 3 [dI e.2.1]), (3, B.blk 4 [dB e.2.2]), (4, bR 31 5 qg e.1)], 5, 28⟩))) :=
  by
  intro w4 b2 b3 deep t15 t16 t17 w4_len h0
  subst h0
  revert t17; revert b3; revert b2; revert w4; exact qqF qi3 qia (fun e => by rcases e with _ | _ <;> exact ⟨_, rfl, fun h => by cases h⟩) fun w4 b2 b3 t17 => by
    have hF' : ∀ (n_Kind n_N n_Min : Int) (n_Set : List qc) (n_L : List qb) (deep : Int) (w4 : List qb) (b2 : Int) (b3 : Bool) (w4_len : Nat), w4_len = w4.length → rE (.fn 69) 4 [R.agg [dI n_Kind, dI n_N, dI n_Min, dL 2 qe n_Set, dL 5 qg n_L], rI deep, R.c (C.hd .yield 0)] [(0, B.ob (AO.lp 35 (R.any :: R.any :: rP 1 :: rP 2 :: rP 3 :: q4i) [9, 10] (raO 35 4) (rbO 35 4) Go.LoopState.ready none)), (1, B.blk 29 [dO 4 5 w4_len]), (2, B.blk 3 [dI b2]), (3, B.blk 4 [dB b3]), (4, bR 31 5 qg w4)] = (rF ((qb.mk n_Kind n_N n_Min n_Set n_L), deep, w4, b2, b3)).bind (Sum.elim (fun (e : Int) => some (rB Bool.false, [(0, B.ob (AO.lp 35 (R.any :: R.any :: rP 1 :: rP 2 :: rP 3 :: q4i) [9, 10] (raO 35 4) (rbO 35 4) Go.LoopState.done (some Go.Code.ret))), (1, B.blk 29 [C.nils]), (2, B.blk 3 [dI e]), (3, B.blk 4 [dB Bool.false])])) (fun (e : List qb × Int × Bool) => some (rB Bool.true, [(0, B.ob (AO.lp 35 (R.any :: R.any :: rP 1 :: rP 2 :: rP 3 :: q4i) [9, 10] (raO 35 4) (rbO 35 4) Go.LoopState.ready none)), (1, B.blk 29 [dO 4 5 e.1.length]), (2, B.blk 3 [dI e.2.1]), (3, B.blk 4 [dB e.2.2]), (4, bR 31 5 qg e.1)]))) := by intro n_Kind n_N n_Min n_Set n_L deep w4 b2 b3 w4_len h0; subst h0; exact (hF ((qb.mk n_Kind n_N n_Min n_Set n_L), deep, w4, b2, b3)).trans (by congr 1; funext e; rcases e with _ | _ <;> rfl)
    have := qmy; have := @qbW.eq_1; have := @Qf.eq_1; exact gA
noncomputable def JF (fu : Nat) (rF : (qb × Int × List qb × Int × Bool) → Option (Int ⊕ (List qb × Int × Bool))) (deep : Int) (t15 : List qb) (t16 : Int) : (List qb × Int × Bool × Int) → Option ((List qb × Int × Bool × Int) ⊕ (Int ⊕ (List qb × Int × Bool)))
  | (w4, b2, b3, t17) =>
    if t17 < t16 then if 0 ≤ t17 ∧ t17 < ((t15.length : Nat) : Int) then Option.bind t15[Int.toNat t17]? fun (a2 : qb) =>
        Option.bind (rF (a2, (w64 (deep + 1), (w4, (b2, b3))))) fun (a3 : Sum Int (Prod (List qb) (Prod Int Bool))) =>
        Sum.elim (fun (a4 : Int) => some (Sum.inr (Sum.inl a4))) (fun (a5 : Prod (List qb) (Prod Int Bool)) => some (Sum.inl (a5.1, a5.2.1, a5.2.2, w64 (t17 + 1)))) a3
      else none
    else some (Sum.inr (Sum.inr (w4, b2, b3)))
theorem q35 (fu : Nat) (rF rF2 : (qb × Int × List qb × Int × Bool) → Option (Int ⊕ (List qb × Int × Bool))) (hF : ∀ y, qk (rF y) (rF2 y)) (deep : Int) (t15 : List qb) (t16 : Int) : ∀ x, qk (JF fu rF deep t15 t16 x) (Qf rF2 deep t15 t16 x) := by
  rintro ⟨w4, b2, b3, t17⟩
  unfold JF Qf
  try dsimp only
  repeat (first
    | with_reducible exact qk.refl _
    | with_reducible exact qk.none _
    | exact hF _
    | with_reducible refine qk.bind ?_ (fun _ => ?_)
    | with_reducible refine qk.ite ?_ ?_
    | with_reducible refine qk.sum (fun _ => ?_) (fun _ => ?_)
    | with_reducible refine qk.lim (fun _ => ?_))
noncomputable def Qj (rF : (qb × Int × List qb × Int × Bool) → Option (Int ⊕ (List qb × Int × Bool))) : (qb × Int × List qb × Int × Bool) → Option (Int ⊕ (List qb × Int × Bool))
  | (n, deep, w4, b2, b3) =>
    Option.bind (Zg deep n.Kind n.N n.Min n.Set n.L w4 b2 b3) fun (a2 : Sum Unit (Prod (List qb) Int)) =>
    Sum.elim (fun (a3 : Unit) => some (Sum.inl 0)) (fun (a4 : Prod (List qb) Int) => Option.bind (qM (Qf rF deep n.L ((n.L.length : Nat) : Int)) (a4.1, (a4.2, (b3, 0)))) fun (a5 : Sum Int (Prod (List qb) (Prod Int Bool))) =>
      Sum.elim (fun (a6 : Int) => some (Sum.inl a6)) (fun (a7 : Prod (List qb) (Prod Int Bool)) => some (Sum.inr (a7.1, a7.2.1, a7.2.2))) a5) a2
theorem q2j : q41 69 4 Q2 Qm Qj := by
  intro rE rF hF hM hR x
  obtain ⟨n, deep, w4, b2, b3⟩ := x
  show q5L rE 69 4 [R.agg [dI n.Kind, dI n.N, dI n.Min, dL 2 qe n.Set, dL 5 qg n.L], rI deep, R.c (C.hd .yield 0)] [(0, B.ob (AO.lp 35 (R.any :: R.any :: rP 1 :: rP 2 :: rP 3 :: q4i) [9, 10] (raO 35 4) (rbO 35 4) Go.LoopState.ready none)), (1, B.blk 29 [dO 4 5 w4.length]), (2, B.blk 3 [dI b2]), (3, B.blk 4 [dB b3]), (4, bR 31 5 qg w4)] = _
  have hF' : ∀ (n_Kind n_N n_Min : Int) (n_Set : List qc) (n_L : List qb) (deep : Int) (w4 : List qb) (b2 : Int) (b3 : Bool) (w4_len : Nat), w4_len = w4.length → rE (.fn 69) 4 [R.agg [dI n_Kind, dI n_N, dI n_Min, dL 2 qe n_Set, dL 5 qg n_L], rI deep, R.c (C.hd .yield 0)] [(0, B.ob (AO.lp 35 (R.any :: R.any :: rP 1 :: rP 2 :: rP 3 :: q4i) [9, 10] (raO 35 4) (rbO 35 4) Go.LoopState.ready none)), (1, B.blk 29 [dO 4 5 w4_len]), (2, B.blk 3 [dI b2]), (3, B.blk 4 [dB b3]), (4, bR 31 5 qg w4)] = (rF ((qb.mk n_Kind n_N n_Min n_Set n_L), deep, w4, b2, b3)).bind (Sum.elim (fun (e : Int) => some (rB Bool.false, [(0, B.ob (AO.lp 35 (R.any :: R.any :: rP 1 :: rP 2 :: rP 3 :: q4i) [9, 10] (raO 35 4) (rbO 35 4) Go.LoopState.done (some Go.Code.ret))), (1, B.blk 29 [C.nils]), (2, B.blk 3 [dI e]), (3, B.blk 4 [dB Bool.false])])) (fun (e : List qb × Int × Bool) => some (rB Bool.true, [(0, B.ob (AO.lp 35 (R.any :: R.any :: rP 1 :: rP 2 :: rP 3 :: q4i) [9, 10] (raO 35 4) (rbO 35 4) Go.LoopState.ready none)), (1, B.blk 29 [dO 4 5 e.1.length]), (2, B.blk 3 [dI e.2.1]), (3, B.blk 4 [dB e.2.2]), (4, bR 31 5 qg e.1)]))) := by intro n_Kind n_N n_Min n_Set n_L deep w4 b2 b3 w4_len h0; subst h0; exact (hF ((qb.mk n_Kind n_N n_Min n_Set n_L), deep, w4, b2, b3)).trans (by congr 1; funext e; rcases e with _ | _ <;> rfl)
  rw [q17 qlS qny]
  have := qmy; have := @q4E; have := q34 rE rF hF hM hR; have := @Qj.eq_1; have := @Qm.eq_1; exact gA
theorem q0r : ∀ x y, Q2 x = Q2 y → x = y := by
  rintro ⟨⟨a0_0, a0_1, a0_2, a0_3, a0_4⟩, a1, a2, a3, a4⟩ ⟨⟨b0_0, b0_1, b0_2, b0_3, b0_4⟩, b1, b2, b3, b4⟩ h
  simp only [Q2, Prod.mk.injEq, List.cons.injEq, R.c.injEq, R.agg.injEq, R.tup.injEq, C.d.injEq, C.own.injEq, C.ptr.injEq, C.eptr.injEq, D.int.injEq, D.bool.injEq, D.str.injEq, D.sl.injEq, B.blk.injEq, B.row.injEq, Zx, JK, ZC, ZU, Je, q0O, Zv, q14, true_and, and_true, List.nil_append] at h
  simp only [h]
theorem q49 : ∀ x y, Qm x = Qm y → x = y := by
  rintro (a0 | ⟨a1_0, a1_1, a1_2⟩) (b0 | ⟨b1_0, b1_1, b1_2⟩) h <;> simp only [Sum.elim_inl, Sum.elim_inr, Qm, Prod.mk.injEq, List.cons.injEq, R.c.injEq, R.agg.injEq, R.tup.injEq, C.d.injEq, C.own.injEq, C.ptr.injEq, C.eptr.injEq, D.int.injEq, D.bool.injEq, D.str.injEq, D.sl.injEq, B.blk.injEq, B.row.injEq, Zx, JK, ZC, ZU, Je, q0O, Zv, q14, true_and, and_true, List.nil_append, reduceCtorEq, false_and, and_false] at h <;> simp only [h]
noncomputable def Qc : (qb × Int × List qb × Int × Bool) → Option (Int ⊕ (List qb × Int × Bool)) := q4k 69 4 Q2 Qm
theorem q2h (x : (qb × Int × List qb × Int × Bool)) : Qc x = Qj Qc x := q7w qoW.2.2.2 q0r q49 q2j x
theorem q5F (n : qb) (deep : Int) (w4 : List qb) (b2 : Int) (b3 : Bool) : ev 69 4 [R.agg [dI n.Kind, dI n.N, dI n.Min, dL 2 qe n.Set, dL 5 qg n.L], rI deep, R.c (C.hd .yield 0)] [(0, B.ob (AO.lp 35 (R.any :: R.any :: rP 1 :: rP 2 :: rP 3 :: q4i) [9, 10] (raO 35 4) (rbO 35 4) Go.LoopState.ready none)), (1, B.blk 29 [dO 4 5 w4.length]), (2, B.blk 3 [dI b2]), (3, B.blk 4 [dB b3]), (4, bR 31 5 qg w4)] = (Qc (n, deep, w4, b2, b3)).bind (Sum.elim (fun (e : Int) => some (rB Bool.false, [(0, B.ob (AO.lp 35 (R.any :: R.any :: rP 1 :: rP 2 :: rP 3 :: q4i) [9, 10] (raO 35 4) (rbO 35 4) Go.LoopState.done (some Go.Code.ret))), (1, B.blk 29 [C.nils]), (2, B.blk 3 [dI e]), (3, B.blk 4 [dB Bool.false])])) (fun (e : List qb × Int × Bool) => some (rB Bool.true, [(0, B.ob (AO.lp 35 (R.any :: R.any :: rP 1 :: rP 2 :: rP 3 :: q4i) [9, 10] (raO 35 4) (rbO 35 4) Go.LoopState.ready none)), (1, B.blk 29 [dO 4 5 e.1.length]), (2, B.blk 3 [dI e.2.1]), (3, B.blk 4 [dB e.2.2]), (4, bR 31 5 qg e.1)]))) := (q5s qoW.2.2.2 q0r q2j (n, deep, w4, b2, b3)).trans (by congr 1; funext e; rcases e with _ | _ <;> rfl)
theorem q7b : ∀ (n_Kind n_N n_Min : Int) (n_Set : List qc) (n_L : List qb) (deep : Int) (w4 : List qb) (b2 : Int) (b3 : Bool) (w4_len : Nat), w4_len = w4.length → ev 69 4 [R.agg [dI n_Kind, dI n_N, dI n_Min, dL 2 qe n_Set, dL 5 qg n_L], rI deep, R.c (C.hd .yield 0)] [(0, B.ob (AO.lp 35 (R.any :: R.any :: rP 1 :: rP 2 :: rP 3 :: q4i) [9, 10] (raO 35 4) (rbO 35 4) Go.LoopState.ready none)), (1, B.blk 29 [dO 4 5 w4_len]), (2, B.blk 3 [dI b2]), (3, B.blk 4 [dB b3]), (4, bR 31 5 qg w4)] = (Qc ((qb.mk n_Kind n_N n_Min n_Set n_L), deep, w4, b2, b3)).bind (Sum.elim (fun (e : Int) => some (rB Bool.false, [(0, B.ob (AO.lp 35 (R.any :: R.any :: rP 1 :: rP 2 :: rP 3 :: q4i) [9, 10] (raO 35 4) (rbO 35 4) Go.LoopState.done (some Go.Code.ret))), (1, B.blk 29 [C.nils]), (2, B.blk 3 [dI e]), (3, B.blk 4 [dB Bool.false])])) (fun (e : List qb × Int × Bool) => some (rB Bool.true, [(0, B.ob (AO.lp 35 (R.any :: R.any :: rP 1 :: rP 2 :: rP 3 :: q4i) [9, 10] (raO 35 4) (rbO 35 4) Go.LoopState.ready none)), (1, B.blk 29 [dO 4 5 e.1.length]), (2, B.blk 3 [dI e.2.1]), (3, B.blk 4 [dB e.2.2]), (4, bR 31 5 qg e.1)]))) :=
  by
  intro n_Kind n_N n_Min n_Set n_L deep w4 b2 b3 w4_len h0
  subst h0
  exact q5F (qb.mk n_Kind n_N n_Min n_Set n_L) deep w4 b2 b3
noncomputable def Jv (fu : Nat) (rF : (qb × Int × List qb × Int × Bool) → Option (Int ⊕ (List qb × Int × Bool))) : (qb × Int × List qb × Int × Bool) → Option (Int ⊕ (List qb × Int × Bool))
  | (n, deep, w4, b2, b3) =>
    Option.bind (Zg deep n.Kind n.N n.Min n.Set n.L w4 b2 b3) fun (a2 : Sum Unit (Prod (List qb) Int)) =>
    Sum.elim (fun (a3 : Unit) => some (Sum.inl 0)) (fun (a4 : Prod (List qb) Int) => Option.bind (itT (JF fu rF deep n.L ((n.L.length : Nat) : Int)) fu (a4.1, (a4.2, (b3, 0)))) fun (a5 : Sum Int (Prod (List qb) (Prod Int Bool))) =>
      Sum.elim (fun (a6 : Int) => some (Sum.inl a6)) (fun (a7 : Prod (List qb) (Prod Int Bool)) => some (Sum.inr (a7.1, a7.2.1, a7.2.2))) a5) a2
theorem q3n (fu : Nat) (rF rF2 : (qb × Int × List qb × Int × Bool) → Option (Int ⊕ (List qb × Int × Bool))) (hF : ∀ y, qk (rF y) (rF2 y)) : ∀ x, qk (Jv fu rF x) (Qj rF2 x) := by
  rintro ⟨n, deep, w4, b2, b3⟩
  unfold Jv Qj
  try dsimp only
  repeat (first
    | with_reducible exact qk.refl _
    | with_reducible exact qk.none _
    | exact hF _
    | (with_reducible refine q35 _ _ _ hF ..)
    | with_reducible refine qk.bind ?_ (fun _ => ?_)
    | with_reducible refine qk.ite ?_ ?_
    | with_reducible refine qk.sum (fun _ => ?_) (fun _ => ?_)
    | with_reducible refine qk.lim (fun _ => ?_))
noncomputable def q55 (fu : Nat) (x : (qb × Int × List qb × Int × Bool)) : Option (Int ⊕ (List qb × Int × Bool)) := itR (Jv fu) fu x
theorem q7h (fu : Nat) (x : (qb × Int × List qb × Int × Bool)) : qk (q55 fu x) (Qc x) := qk.rec q2h (q3n fu) fu x
noncomputable def Zr (deep : Int) (t15 : List qb) (t16 : Int) : (List qb × Int × Bool × Int) → Option ((List qb × Int × Bool × Int) ⊕ (Int ⊕ (List qb × Int × Bool)))
  | (w4, b2, b3, t17) =>
    if t17 < t16 then if 0 ≤ t17 ∧ t17 < ((t15.length : Nat) : Int) then Option.bind t15[Int.toNat t17]? fun (a : qb) =>
        Option.bind (Qc (a, (w64 (deep + 1), (w4, (b2, b3))))) fun (a2 : Sum Int (Prod (List qb) (Prod Int Bool))) =>
        Sum.elim (fun (a3 : Int) => some (Sum.inr (Sum.inl a3))) (fun (a4 : Prod (List qb) (Prod Int Bool)) => some (Sum.inl (a4.1, a4.2.1, a4.2.2, w64 (t17 + 1)))) a2
      else none
    else some (Sum.inr (Sum.inr (w4, b2, b3)))
theorem q6q : ∀ (w4 : List qb) (b2 : Int) (b3 : Bool) (deep : Int) (t15 : List qb) (t16 t17 : Int) (w4_len : Nat), w4_len = w4.length → XL2 evo 69 4 4 ⟨[(1, rI deep), (2, R.c (C.hd .yield 0)), (15, rL 5 qg t15), (16, rI t16), (17, rI t17)], [(0, B.ob (AO.lp 35 (R.any :: R.any :: rP 1 :: rP 2 :: rP 3 :: q4i) [9, 10] (raO 35 4) (rbO 35 4) Go.LoopState.ready none)), (1, B.blk 29 [dO 4 5 w4_len]), (2, B.blk 3 [dI b2]), (3, B.blk 4 [dB b3]), (4, bR 31 5 qg w4)], 5, 28⟩ = (qM (Zr deep t15 t16) (w4, b2, b3, t17)).bind (Sum.elim (fun (e : Int) => some (Go.Exit.ret, ⟨[(6, rB Bool.false)], [(0, B.ob (AO.lp 35 (R.any :: R.any :: rP 1 :: rP 2 :: rP 3 :: q4i) [9, 10] (raO 35 4) (rbO 35 4) Go.LoopState.done (some Go.Code.ret))), (1, B.blk 29 [C.nils]), (2, B.blk 3 [dI e]), (3, B.blk 4 [dB Bool.false])], 4, 28⟩)) (fun (e : List qb × Int × Bool) => some (Go.Exit.exit 0, ⟨[(6, R.any)], [(0, B.ob (AO.lp 35 (R.any :: R.any :: rP 1 :: rP 2 :: rP 3 :: q4i) [9, 10] (raO 35 4) (rbO 35 4) Go.LoopState.ready none)), (1, B.blk 29 [dO 4 5 e.1.length]), (2, B.blk 3 [dI e.2.1]), (3, B.blk 4 [dB e.2.2]), (4, bR 31 5 qg e.1)], 5, 28⟩))) :=
  by
  intro w4 b2 b3 deep t15 t16 t17 w4_len h0
  subst h0
  revert t17; revert b3; revert b2; revert w4; exact qqF qi3 qia (fun e => by rcases e with _ | _ <;> exact ⟨_, rfl, fun h => by cases h⟩) fun w4 b2 b3 t17 => by
    have := qmy; have := @qbW.eq_1; have := @q7b; have := @Zr.eq_1; exact gA
noncomputable def q1i (fu : Nat) (deep : Int) (t15 : List qb) (t16 : Int) : (List qb × Int × Bool × Int) → Option ((List qb × Int × Bool × Int) ⊕ (Int ⊕ (List qb × Int × Bool)))
  | (w4, b2, b3, t17) =>
    if t17 < t16 then if 0 ≤ t17 ∧ t17 < ((t15.length : Nat) : Int) then Option.bind t15[Int.toNat t17]? fun (a : qb) =>
        Option.bind (q55 fu (a, (w64 (deep + 1), (w4, (b2, b3))))) fun (a2 : Sum Int (Prod (List qb) (Prod Int Bool))) =>
        Sum.elim (fun (a3 : Int) => some (Sum.inr (Sum.inl a3))) (fun (a4 : Prod (List qb) (Prod Int Bool)) => some (Sum.inl (a4.1, a4.2.1, a4.2.2, w64 (t17 + 1)))) a2
      else none
    else some (Sum.inr (Sum.inr (w4, b2, b3)))
theorem q6b (fu : Nat) (deep : Int) (t15 : List qb) (t16 : Int) : ∀ x, qk (q1i fu deep t15 t16 x) (Zr deep t15 t16 x) := by
  rintro ⟨w4, b2, b3, t17⟩
  unfold q1i Zr
  try dsimp only
  repeat (first
    | with_reducible exact qk.refl _
    | with_reducible exact qk.none _
    | with_reducible apply q7h
    | with_reducible refine qk.bind ?_ (fun _ => ?_)
    | with_reducible refine qk.ite ?_ ?_
    | with_reducible refine qk.sum (fun _ => ?_) (fun _ => ?_)
    | with_reducible refine qk.lim (fun _ => ?_))
noncomputable def JW (n : qb) (deep : Int) (b2 : Int) (b3 : Bool) : Option (Int ⊕ (List qb × Int × Bool)) :=
  Option.bind (J1 deep n.Kind n.N n.Min n.Set n.L b2 b3) fun (a : Sum Unit (Prod (List qb) Int)) =>
  Sum.elim (fun (a2 : Unit) => some (Sum.inl 0)) (fun (a3 : Prod (List qb) Int) => Option.bind (qM (Zr deep n.L ((n.L.length : Nat) : Int)) (a3.1, (a3.2, (b3, 0)))) fun (a4 : Sum Int (Prod (List qb) (Prod Int Bool))) =>
    Sum.elim (fun (a5 : Int) => some (Sum.inl a5)) (fun (a6 : Prod (List qb) (Prod Int Bool)) => some (Sum.inr (a6.1, a6.2.1, a6.2.2))) a4) a
theorem q8B : ∀ (n_Kind n_N n_Min : Int) (n_Set : List qc) (n_L : List qb) (deep b2 : Int) (b3 : Bool), ev 69 4 [R.agg [dI n_Kind, dI n_N, dI n_Min, dL 2 qe n_Set, dL 5 qg n_L], rI deep, R.c (C.hd .yield 0)] [(0, B.ob (AO.lp 35 (R.any :: R.any :: rP 1 :: rP 2 :: rP 3 :: q4i) [9, 10] (raO 35 4) (rbO 35 4) Go.LoopState.ready none)), (1, B.blk 29 [C.nils]), (2, B.blk 3 [dI b2]), (3, B.blk 4 [dB b3])] = (JW (qb.mk n_Kind n_N n_Min n_Set n_L) deep b2 b3).bind (Sum.elim (fun (e : Int) => some (rB Bool.false, [(0, B.ob (AO.lp 35 (R.any :: R.any :: rP 1 :: rP 2 :: rP 3 :: q4i) [9, 10] (raO 35 4) (rbO 35 4) Go.LoopState.done (some Go.Code.ret))), (1, B.blk 29 [C.nils]), (2, B.blk 3 [dI e]), (3, B.blk 4 [dB Bool.false])])) (fun (e : List qb × Int × Bool) => some (rB Bool.true, [(0, B.ob (AO.lp 35 (R.any :: R.any :: rP 1 :: rP 2 :: rP 3 :: q4i) [9, 10] (raO 35 4) (rbO 35 4) Go.LoopState.ready none)), (1, B.blk 29 [dO 4 5 e.1.length]), (2, B.blk 3 [dI e.2.1]), (3, B.blk 4 [dB e.2.2]), (4, bR 31 5 qg e.1)]))) :=
  fun n_Kind n_N n_Min n_Set n_L deep b2 b3 => by
    rw [qz qlS qoW.2.2.2 qny]
    have := qmy; have := @q6j; have := @q6q; have := @JW.eq_1; exact gA
noncomputable def q4l (fu : Nat) (n : qb) (deep : Int) (b2 : Int) (b3 : Bool) : Option (Int ⊕ (List qb × Int × Bool)) :=
  Option.bind (J1 deep n.Kind n.N n.Min n.Set n.L b2 b3) fun (a : Sum Unit (Prod (List qb) Int)) =>
  Sum.elim (fun (a2 : Unit) => some (Sum.inl 0)) (fun (a3 : Prod (List qb) Int) => Option.bind (itT (q1i fu deep n.L ((n.L.length : Nat) : Int)) fu (a3.1, (a3.2, (b3, 0)))) fun (a4 : Sum Int (Prod (List qb) (Prod Int Bool))) =>
    Sum.elim (fun (a5 : Int) => some (Sum.inl a5)) (fun (a6 : Prod (List qb) (Prod Int Bool)) => some (Sum.inr (a6.1, a6.2.1, a6.2.2))) a4) a
theorem q8y (fu : Nat) (n : qb) (deep b2 : Int) (b3 : Bool) : qk (q4l fu n deep b2 b3) (JW n deep b2 b3) := by
  unfold q4l JW
  repeat (first
    | with_reducible exact qk.refl _
    | with_reducible exact qk.none _
    | with_reducible apply q6b
    | with_reducible refine qk.bind ?_ (fun _ => ?_)
    | with_reducible refine qk.ite ?_ ?_
    | with_reducible refine qk.sum (fun _ => ?_) (fun _ => ?_)
    | with_reducible refine qk.lim (fun _ => ?_))
noncomputable def Zq (b2 : Int) (b3 : Bool) (v : qb) : Option (Int ⊕ (List qb × Int × Bool)) :=
  Option.bind (JW v 1 b2 b3) fun (a : Sum Int (Prod (List qb) (Prod Int Bool))) =>
  Sum.elim (fun (a2 : Int) => some (Sum.inl a2)) (fun (a3 : Prod (List qb) (Prod Int Bool)) => some (Sum.inr (a3.1, a3.2.1, a3.2.2))) a
theorem q64 : ∀ (b2 : Int) (b3 : Bool) (v_Kind v_N v_Min : Int) (v_Set : List qc) (v_L : List qb), ev 68 5 [R.c (C.hd .yield 0), rP 4] [(0, B.ob (AO.lp 35 (R.any :: R.any :: rP 1 :: rP 2 :: rP 3 :: q4i) [9, 10] (raO 35 4) (rbO 35 4) Go.LoopState.ready none)), (1, B.blk 29 [C.nils]), (2, B.blk 3 [dI b2]), (3, B.blk 4 [dB b3]), (4, B.blk 31 [dI v_Kind, dI v_N, dI v_Min, dL 2 qe v_Set, dL 5 qg v_L])] = (Zq b2 b3 (qb.mk v_Kind v_N v_Min v_Set v_L)).bind (Sum.elim (fun (e : Int) => some (R.tup [], [(0, B.ob (AO.lp 35 (R.any :: R.any :: rP 1 :: rP 2 :: rP 3 :: q4i) [9, 10] (raO 35 4) (rbO 35 4) Go.LoopState.done (some Go.Code.ret))), (1, B.blk 29 [C.nils]), (2, B.blk 3 [dI e]), (3, B.blk 4 [dB Bool.false]), (4, B.blk 31 [dI v_Kind, dI v_N, dI v_Min, dL 2 qe v_Set, dL 5 qg v_L])])) (fun (e : List qb × Int × Bool) => some (R.tup [], [(0, B.ob (AO.lp 35 (R.any :: R.any :: rP 1 :: rP 2 :: rP 3 :: q4i) [9, 10] (raO 35 4) (rbO 35 4) Go.LoopState.ready none)), (1, B.blk 29 [dO 5 5 e.1.length]), (2, B.blk 3 [dI e.2.1]), (3, B.blk 4 [dB e.2.2]), (4, B.blk 31 [dI v_Kind, dI v_N, dI v_Min, dL 2 qe v_Set, dL 5 qg v_L]), (5, bR 31 5 qg e.1)]))) :=
  fun b2 b3 v_Kind v_N v_Min v_Set v_L => by
    rw [qz qoE qvb.2.2.2 quZ]
    have := qsE; have := @q8B; have := @Zq.eq_1; exact gA
noncomputable def q1c (fu : Nat) (b2 : Int) (b3 : Bool) (v : qb) : Option (Int ⊕ (List qb × Int × Bool)) :=
  Option.bind (q4l fu v 1 b2 b3) fun (a : Sum Int (Prod (List qb) (Prod Int Bool))) =>
  Sum.elim (fun (a2 : Int) => some (Sum.inl a2)) (fun (a3 : Prod (List qb) (Prod Int Bool)) => some (Sum.inr (a3.1, a3.2.1, a3.2.2))) a
theorem q6n (fu : Nat) (b2 : Int) (b3 : Bool) (v : qb) : qk (q1c fu b2 b3 v) (Zq b2 b3 v) := by
  unfold q1c Zq
  repeat (first
    | with_reducible exact qk.refl _
    | with_reducible exact qk.none _
    | with_reducible apply q8y
    | with_reducible refine qk.bind ?_ (fun _ => ?_)
    | with_reducible refine qk.ite ?_ ?_
    | with_reducible refine qk.sum (fun _ => ?_) (fun _ => ?_)
    | with_reducible refine qk.lim (fun _ => ?_))
noncomputable def Zz (n : qb) : Option (List qb × Int × Bool) :=
  Option.bind (Zq 0 Bool.false n) fun (a : Sum Int (Prod (List qb) (Prod Int Bool))) =>
  Sum.elim (fun (a2 : Int) => some ([], a2, Bool.false)) (fun (a3 : Prod (List qb) (Prod Int Bool)) => some (a3.1, a3.2.1, Bool.true)) a
theorem q47 : ∀ (n_Kind n_N n_Min : Int) (n_Set : List qc) (n_L : List qb), ev 35 0 [R.agg [dI n_Kind, dI n_N, dI n_Min, dL 2 qe n_Set, dL 5 qg n_L]] [] = (Zz (qb.mk n_Kind n_N n_Min n_Set n_L)).bind (fun (e : List qb × Int × Bool) => some (R.tup [rL 5 qg e.1, rI e.2.1, rB e.2.2], [])) :=
  fun n_Kind n_N n_Min n_Set n_L => by
    rw [qz ql1 quQ.2.2.2 qrp]
    have := qpg; have := @q7H; have := @q64; have := @Zz.eq_1; have := @qf5; exact gA
noncomputable def q27 (fu : Nat) (n : qb) : Option (List qb × Int × Bool) :=
  Option.bind (q1c fu 0 Bool.false n) fun (a : Sum Int (Prod (List qb) (Prod Int Bool))) =>
  Sum.elim (fun (a2 : Int) => some ([], a2, Bool.false)) (fun (a3 : Prod (List qb) (Prod Int Bool)) => some (a3.1, a3.2.1, Bool.true)) a
theorem q42 (fu : Nat) (n : qb) : qk (q27 fu n) (Zz n) := by
  unfold q27 Zz
  repeat (first
    | with_reducible exact qk.refl _
    | with_reducible exact qk.none _
    | with_reducible apply q6n
    | with_reducible refine qk.bind ?_ (fun _ => ?_)
    | with_reducible refine qk.ite ?_ ?_
    | with_reducible refine qk.sum (fun _ => ?_) (fun _ => ?_)
    | with_reducible refine qk.lim (fun _ => ?_))
theorem qqc : okL 14 qcw := qy (qi qma) (by kernel_rfl) (by kernel_rfl)
def qrK := JA_ @qcw.eq_1 (JA_ @Try.f14.eq_1 @qma)
theorem qls : lbO 14 3 = qf6 := Q8 (qi qma) rfl
theorem qlb : okL 14 qf6 := zd qqc (List.mem_of_getElem? (i := 0) (by kernel_rfl))
theorem qtO : okL 36 qf3 := qy (qi qo5) (by kernel_rfl) (by kernel_rfl)
def quU := JA_ @qf3.eq_1 (JA_ @Try.f36.eq_1 @qo5)
noncomputable def q2a (n : qb) : Option Bool :=
  if (n.Kind != 3) = Bool.true then some (n.Kind != 4)
  else some Bool.false
noncomputable def Z9 (n : qb) : Bool :=
  if (n.Kind != 3) = Bool.true then n.Kind != 4
  else Bool.false
theorem q7B (n : qb) : q2a n = some (Z9 n) := by
  unfold q2a Z9
  simp only [zX]
theorem q8D : ∀ (n_Kind n_N n_Min : Int) (n_Set : List qc) (n_L : List qb), ev 36 0 [R.agg [dI n_Kind, dI n_N, dI n_Min, dL 2 qe n_Set, dL 5 qg n_L]] [] = some (rB (Z9 (qb.mk n_Kind n_N n_Min n_Set n_L)), []) :=
  fun n_Kind n_N n_Min n_Set n_L => by
    have h : ev 36 0 [R.agg [dI n_Kind, dI n_N, dI n_Min, dL 2 qe n_Set, dL 5 qg n_L]] [] = (q2a (qb.mk n_Kind n_N n_Min n_Set n_L)).bind (fun (e : Bool) => some (rB e, [])) := by
      rw [qz qo5 quD.2.2.2 qtO]
      have := quU; have := @q2a.eq_1; exact gA
    rw [q7B] at h
    exact h
theorem qq5 : okL 37 qbF := qy (qi qnd) (by kernel_rfl) (by kernel_rfl)
def qpR := JA_ @qbF.eq_1 (JA_ @Try.f37.eq_1 @qnd)
theorem qi1 : lbO 37 3 = qbt := Q8 (qi qnd) rfl
theorem qhZ : okL 37 qbt := zd qq5 (List.mem_of_getElem? (i := 0) (by kernel_rfl))
noncomputable def qA (s : List qc) : Option Unit :=
  if s.length ≤ Go.maxLen ∧ s.length * 24 ≤ 140737488355328 then some ()
  else none
theorem ZB : ∀ (s : List qc), ev 53 0 [rL 2 qe s] [] = (qA s).bind (fun (e : Unit) => some (rL 2 qe s, [])) :=
  fun s => by
    rw [qiY, qsG.2.2.2]
    have := @qA.eq_1; exact gA
noncomputable def qN (s : List qb) : Option (Unit ⊕ Unit) :=
  if s.length ≤ Go.maxLen ∧ s.length * 72 ≤ 140737488355328 then if ¬(s.length = 0) then some (Sum.inl ())
    else some (Sum.inr ())
  else none
theorem Ja : ∀ (s : List qb), ev 54 0 [rL 5 qg s] [] = (qN s).bind (Sum.elim (fun (e : Unit) => some (rO 0 5 s.length, [(0, bR 31 5 qg s)])) (fun (e : Unit) => some (rL 5 qg s, []))) :=
  fun s => by
    rw [qiY, qve.2.2.2]
    have := @qN.eq_1; exact gA
theorem quP : okL 43 qfL := qy (qi qon) (by kernel_rfl) (by kernel_rfl)
def qss := JA_ @qfL.eq_1 (JA_ @Try.f43.eq_1 @qon)
noncomputable def q0B (n : Int) (low : Int) (high : Int) : Option Bool :=
  if low ≤ n then some (decide (n ≤ high))
  else some Bool.false
noncomputable def qC (n : Int) (low : Int) (high : Int) : Bool :=
  if low ≤ n then decide (n ≤ high)
  else Bool.false
theorem q6p (n low high : Int) : q0B n low high = some (qC n low high) := by
  unfold q0B qC
  simp only [zX]
theorem Zi : ∀ (n low high : Int), ev 43 0 [rI n, rI low, rI high] [] = some (rB (qC n low high), []) :=
  fun n low high => by
    have h : ev 43 0 [rI n, rI low, rI high] [] = (q0B n low high).bind (fun (e : Bool) => some (rB e, [])) := by
      rw [qz qon qsi.2.2.2 quP]
      have := qss; have := @q0B.eq_1; exact gA
    rw [q6p] at h
    exact h
theorem qvc : okL 44 qes := qy (qi qow) (by kernel_rfl) (by kernel_rfl)
def qu9 := JA_ @qes.eq_1 (JA_ @Try.f44.eq_1 @qow)
theorem q8q : ev 44 0 [] [] = some (R.c (C.hd HK.map 0), [(0, B.ob (@AO.mp [(Go.Value.int Go.IntKind.i64 1, (R.agg [C.fn 63 [] []], 0)), (Go.Value.int Go.IntKind.i64 2, (R.agg [C.fn 65 [] []], 1)), (Go.Value.int Go.IntKind.i64 3, (R.agg [C.fn 66 [] [dP 1]], 2)), (Go.Value.int Go.IntKind.i64 4, (R.agg [C.fn 67 [] [dP 1]], 3))] 4)), (1, B.blk 68 [C.fn 62 [] []])]) :=
  by
    rw [qz qow qtE.2.2.2 qvc]
    have := qu9; exact gA
theorem qsO : okL 63 qga := qy (qi qpU) (by kernel_rfl) (by kernel_rfl)
def qsV := JA_ @qga.eq_1 (JA_ @Try.f63.eq_1 @qpU)
theorem qqY : okL 64 qc6 := qy (qi qmL) (by kernel_rfl) (by kernel_rfl)
def qqj := JA_ @qc6.eq_1 (JA_ @Try.f64.eq_1 @qmL)
theorem qkf : lbO 64 7 = qeq := Q8 (qi qmL) rfl
theorem qkS : okL 64 qeq := zd qqY (List.mem_of_getElem? (i := 0) (by kernel_rfl))
theorem qsI : okL 73 qfc := qy (qi qoY) (by kernel_rfl) (by kernel_rfl)
def quv := JA_ @qfc.eq_1 (JA_ @Try.f73.eq_1 @qoY)
theorem qra : okL 78 qbz := qy (qi qm8) (by kernel_rfl) (by kernel_rfl)
def qqq := JA_ @qbz.eq_1 (JA_ @Try.f78.eq_1 @qm8)
theorem qkl : lbO 78 2 = qfT := Q8 (qi qm8) rfl
theorem qlj : okL 78 qfT := zd qra (List.mem_of_getElem? (i := 0) (by kernel_rfl))
theorem qsw : okL 74 qdR := qy (qi qnY) (by kernel_rfl) (by kernel_rfl)
def qtl := JA_ @qdR.eq_1 (JA_ @Try.f74.eq_1 @qnY)
theorem qul : okL 75 qeM := qy (qi qnP) (by kernel_rfl) (by kernel_rfl)
def qsh := JA_ @qeM.eq_1 (JA_ @Try.f75.eq_1 @qnP)
theorem quR : okL 79 qgj := qy (qi qoH) (by kernel_rfl) (by kernel_rfl)
def qsX := JA_ @qgj.eq_1 (JA_ @Try.f79.eq_1 @qoH)
theorem quS : okL 84 qdK := qy (qi qoM) (by kernel_rfl) (by kernel_rfl)
def qtj := JA_ @qdK.eq_1 (JA_ @Try.f84.eq_1 @qoM)
theorem qry : okL 87 qct := qy (qi qmb) (by kernel_rfl) (by kernel_rfl)
def qrf := JA_ @qct.eq_1 (JA_ @Try.f87.eq_1 @qmb)
theorem qk6 : lbO 87 2 = qf0 := Q8 (qi qmb) rfl
theorem qkG : okL 87 qf0 := zd qry (List.mem_of_getElem? (i := 0) (by kernel_rfl))
theorem quw : okL 83 qeG := qy (qi qod) (by kernel_rfl) (by kernel_rfl)
def qtk := JA_ @qeG.eq_1 (JA_ @Try.f83.eq_1 @qod)
noncomputable def Jp (c : Int) : Option Bool :=
  if c < 65 then if c < 48 then some Bool.true
    else some (decide (57 < c))
  else if 90 < c then if c < 48 then some Bool.true
    else some (decide (57 < c))
  else some Bool.false
noncomputable def zI (c : Int) : Bool :=
  if c < 65 then if c < 48 then Bool.true
    else decide (57 < c)
  else if 90 < c then if c < 48 then Bool.true
    else decide (57 < c)
  else Bool.false
theorem q4m (c : Int) : Jp c = some (zI c) := by
  unfold Jp zI
  simp only [zX]
theorem q5y : ∀ (c : Int), ev 83 0 [R.c (C.d (D.int .i32 c))] [] = some (rB (zI c), []) :=
  fun c => by
    have h : ev 83 0 [R.c (C.d (D.int .i32 c))] [] = (Jp c).bind (fun (e : Bool) => some (rB e, [])) := by
      rw [qz qod quA.2.2.2 quw]
      have := qtk; have := @Jp.eq_1; exact gA
    rw [q4m] at h
    exact h
noncomputable def qH (it0_s : ByteArray) (truth : Bool) : Nat → Option (Nat ⊕ (Int ⊕ Unit))
  | it0_p =>
    if it0_p < ByteArray.size it0_s then if (zI (((@Go.Utf8.decode it0_s it0_p).1 : Nat) : Int) == truth) = Bool.true then some (Sum.inr (Sum.inl ((it0_p : Nat) : Int)))
      else some (Sum.inl (it0_p + (@Go.Utf8.decode it0_s it0_p).2))
    else some (Sum.inr (Sum.inr ()))
theorem q1o : ∀ (it0_s : ByteArray) (it0_p : Nat) (truth : Bool), XL2 evo 87 0 2 ⟨[(1, R.c (C.fn 83 [] [])), (2, rB truth), (10, R.c (C.hd .iter 0))], [(0, B.ob (AO.si it0_s it0_p))], 1, 21⟩ = (qM (qH it0_s truth) it0_p).bind (Sum.elim (fun (e : Int) => some (Go.Exit.ret, ⟨[(6, rI e)], [], 0, 21⟩)) (fun (e : Unit) => some (Go.Exit.exit 0, ⟨[(6, R.any)], [], 0, 21⟩))) :=
  fun it0_s it0_p truth => by
    revert it0_p; exact qad qk6 qkG (fun e => by rcases e with _ | _ <;> exact ⟨_, rfl, fun h => by cases h⟩) fun x => by
      have := qrf; have := @qf0.eq_1; have := @q5y; have := @qH.eq_1; exact gA
noncomputable def Q3 (s : ByteArray) (truth : Bool) : Option Int :=
  Option.bind (qM (qH s truth) 0) fun (a : Sum Int Unit) =>
  Sum.elim (fun (a2 : Int) => some a2) (fun (a3 : Unit) => some (-1)) a
theorem q2B : ∀ (s : ByteArray) (truth : Bool), ev 87 0 [rS s, R.c (C.fn 83 [] []), rB truth] [] = (Q3 s truth).bind (fun (e : Int) => some (rI e, [])) :=
  fun s truth => by
    rw [qz qmb qso.2.2.2 qry]
    have := qrf; have := @q1o; have := @Q3.eq_1; exact gA
noncomputable def J9 (fu : Nat) (s : ByteArray) (truth : Bool) : Option Int :=
  Option.bind (itT (qH s truth) fu 0) fun (a : Sum Int Unit) =>
  Sum.elim (fun (a2 : Int) => some a2) (fun (a3 : Unit) => some (-1)) a
theorem q2D (fu : Nat) (s : ByteArray) (truth : Bool) : qk (J9 fu s truth) (Q3 s truth) := by
  unfold J9 Q3
  repeat (first
    | with_reducible exact qk.refl _
    | with_reducible exact qk.none _
    | with_reducible refine qk.bind ?_ (fun _ => ?_)
    | with_reducible refine qk.ite ?_ ?_
    | with_reducible refine qk.sum (fun _ => ?_) (fun _ => ?_)
    | with_reducible refine qk.lim (fun _ => ?_))
noncomputable def Q6 (s : ByteArray) : Option Int :=
  Option.bind (Q3 s Bool.true) fun (e0 : Int) =>
  some e0
theorem q2y : ∀ (s : ByteArray), ev 84 0 [rS s, R.c (C.fn 83 [] [])] [] = (Q6 s).bind (fun (e : Int) => some (rI e, [])) :=
  fun s => by
    rw [qz qoM qsC.2.2.2 quS]
    have := qtj; have := @q2B; have := @Q6.eq_1; exact gA
noncomputable def Ji (fu : Nat) (s : ByteArray) : Option Int :=
  Option.bind (J9 fu s Bool.true) fun (e0 : Int) =>
  some e0
theorem q2x (fu : Nat) (s : ByteArray) : qk (Ji fu s) (Q6 s) := by
  unfold Ji Q6
  repeat (first
    | with_reducible exact qk.refl _
    | with_reducible exact qk.none _
    | with_reducible apply q2D
    | with_reducible refine qk.bind ?_ (fun _ => ?_)
    | with_reducible refine qk.ite ?_ ?_
    | with_reducible refine qk.sum (fun _ => ?_) (fun _ => ?_)
    | with_reducible refine qk.lim (fun _ => ?_))
noncomputable def Zc (s : ByteArray) : Option Bool :=
  if (!(ByteArray.toList s == ByteArray.toList (ByteArray.mk (List.toArray [])))) = Bool.true then if ((ByteArray.size s : Nat) : Int) ≤ 8 then Option.bind (Q6 s) fun (a : Int) =>
      some (decide (a < 0))
    else some Bool.false
  else some Bool.false
theorem q6S : ∀ (s : ByteArray), ev 79 0 [rS s] [] = (Zc s).bind (fun (e : Bool) => some (rB e, [])) :=
  fun s => by
    rw [qz qoH qsz.2.2.2 quR]
    have := qsX; have := @q2y; have := @Zc.eq_1; exact gA
noncomputable def q1T (fu : Nat) (s : ByteArray) : Option Bool :=
  if (!(ByteArray.toList s == ByteArray.toList (ByteArray.mk (List.toArray [])))) = Bool.true then if ((ByteArray.size s : Nat) : Int) ≤ 8 then Option.bind (Ji fu s) fun (a : Int) =>
      some (decide (a < 0))
    else some Bool.false
  else some Bool.false
theorem q6J (fu : Nat) (s : ByteArray) : qk (q1T fu s) (Zc s) := by
  unfold q1T Zc
  repeat (first
    | with_reducible exact qk.refl _
    | with_reducible exact qk.none _
    | with_reducible apply q2x
    | with_reducible refine qk.bind ?_ (fun _ => ?_)
    | with_reducible refine qk.ite ?_ ?_
    | with_reducible refine qk.sum (fun _ => ?_) (fun _ => ?_)
    | with_reducible refine qk.lim (fun _ => ?_))
noncomputable def ZA (c : qc) : Option Bool :=
  if qC c.School 1 8 = Bool.true then Option.bind (Zc c.Code) fun (e0 : Bool) =>
    some e0
  else some Bool.false
theorem q7M : ∀ (c_School : Int) (c_Code : ByteArray), ev 75 0 [R.agg [dI c_School, dS c_Code]] [] = (ZA (qc.mk c_School c_Code)).bind (fun (e : Bool) => some (rB e, [])) :=
  fun c_School c_Code => by
    rw [qz qnP qtV.2.2.2 qul]
    have := qsh; have := @Zi; have := @q6S; have := @ZA.eq_1; exact gA
noncomputable def q3l (fu : Nat) (c : qc) : Option Bool :=
  if qC c.School 1 8 = Bool.true then Option.bind (q1T fu c.Code) fun (e0 : Bool) =>
    some e0
  else some Bool.false
theorem q8h (fu : Nat) (c : qc) : qk (q3l fu c) (ZA c) := by
  unfold q3l ZA
  repeat (first
    | with_reducible exact qk.refl _
    | with_reducible exact qk.none _
    | with_reducible apply q6J
    | with_reducible refine qk.bind ?_ (fun _ => ?_)
    | with_reducible refine qk.ite ?_ ?_
    | with_reducible refine qk.sum (fun _ => ?_) (fun _ => ?_)
    | with_reducible refine qk.lim (fun _ => ?_))
noncomputable def QC (c : qc) : Option Bool :=
  Option.bind (ZA c) fun (a : Bool) =>
  some (!a)
theorem q4B : ∀ (c_School : Int) (c_Code : ByteArray), ev 74 0 [R.agg [dI c_School, dS c_Code]] [] = (QC (qc.mk c_School c_Code)).bind (fun (e : Bool) => some (rB e, [])) :=
  fun c_School c_Code => by
    rw [qz qnY que.2.2.2 qsw]
    have := qtl; have := @q7M; have := @QC.eq_1; exact gA
noncomputable def q0m (fu : Nat) (c : qc) : Option Bool :=
  Option.bind (q3l fu c) fun (a : Bool) =>
  some (!a)
theorem q4D (fu : Nat) (c : qc) : qk (q0m fu c) (QC c) := by
  unfold q0m QC
  repeat (first
    | with_reducible exact qk.refl _
    | with_reducible exact qk.none _
    | with_reducible apply q8h
    | with_reducible refine qk.bind ?_ (fun _ => ?_)
    | with_reducible refine qk.ite ?_ ?_
    | with_reducible refine qk.sum (fun _ => ?_) (fun _ => ?_)
    | with_reducible refine qk.lim (fun _ => ?_))
noncomputable def qp (s : List qc) (t7 : Int) : Int → Option (Int ⊕ (Int ⊕ Unit))
  | t8 =>
    if t8 < t7 then if 0 ≤ t8 ∧ t8 < ((s.length : Nat) : Int) then Option.bind s[Int.toNat t8]? fun (a : qc) =>
        Option.bind (QC a) fun (a2 : Bool) =>
        if a2 = Bool.true then some (Sum.inr (Sum.inl t8))
        else some (Sum.inl (w64 (t8 + 1)))
      else none
    else some (Sum.inr (Sum.inr ()))
theorem QQ : ∀ (s : List qc) (t7 t8 : Int), XL2 evo 78 0 2 ⟨[(0, rL 2 qe s), (1, R.c (C.fn 74 [] [])), (7, rI t7), (8, rI t8)], [], 0, 19⟩ = (qM (qp s t7) t8).bind (Sum.elim (fun (e : Int) => some (Go.Exit.ret, ⟨[(4, rI e)], [], 0, 19⟩)) (fun (e : Unit) => some (Go.Exit.exit 0, ⟨[(4, R.any)], [], 0, 19⟩))) :=
  fun s t7 t8 => by
    revert t8; exact qad qkl qlj (fun e => by rcases e with _ | _ <;> exact ⟨_, rfl, fun h => by cases h⟩) fun x => by
      have := qqq; have := @qfT.eq_1; have := @q4B; have := @qp.eq_1; exact gA
noncomputable def qS (fu : Nat) (s : List qc) (t7 : Int) : Int → Option (Int ⊕ (Int ⊕ Unit))
  | t8 =>
    if t8 < t7 then if 0 ≤ t8 ∧ t8 < ((s.length : Nat) : Int) then Option.bind s[Int.toNat t8]? fun (a : qc) =>
        Option.bind (q0m fu a) fun (a2 : Bool) =>
        if a2 = Bool.true then some (Sum.inr (Sum.inl t8))
        else some (Sum.inl (w64 (t8 + 1)))
      else none
    else some (Sum.inr (Sum.inr ()))
theorem QP (fu : Nat) (s : List qc) (t7 : Int) : ∀ x, qk (qS fu s t7 x) (qp s t7 x) := by
  rintro t8
  unfold qS qp
  try dsimp only
  repeat (first
    | with_reducible exact qk.refl _
    | with_reducible exact qk.none _
    | with_reducible apply q4D
    | with_reducible refine qk.bind ?_ (fun _ => ?_)
    | with_reducible refine qk.ite ?_ ?_
    | with_reducible refine qk.sum (fun _ => ?_) (fun _ => ?_)
    | with_reducible refine qk.lim (fun _ => ?_))
noncomputable def qw (s : List qc) : Option Int :=
  Option.bind (qM (qp s ((s.length : Nat) : Int)) 0) fun (a : Sum Int Unit) =>
  Sum.elim (fun (a2 : Int) => some a2) (fun (a3 : Unit) => some (-1)) a
theorem Z7 : ∀ (s : List qc), ev 78 0 [rL 2 qe s, R.c (C.fn 74 [] [])] [] = (qw s).bind (fun (e : Int) => some (rI e, [])) :=
  fun s => by
    rw [qz qm8 qtJ.2.2.2 qra]
    have := qqq; have := @QQ; have := @qw.eq_1; exact gA
noncomputable def zc (fu : Nat) (s : List qc) : Option Int :=
  Option.bind (itT (qS fu s ((s.length : Nat) : Int)) fu 0) fun (a : Sum Int Unit) =>
  Sum.elim (fun (a2 : Int) => some a2) (fun (a3 : Unit) => some (-1)) a
theorem Ze (fu : Nat) (s : List qc) : qk (zc fu s) (qw s) := by
  unfold zc qw
  repeat (first
    | with_reducible exact qk.refl _
    | with_reducible exact qk.none _
    | with_reducible apply QP
    | with_reducible refine qk.bind ?_ (fun _ => ?_)
    | with_reducible refine qk.ite ?_ ?_
    | with_reducible refine qk.sum (fun _ => ?_) (fun _ => ?_)
    | with_reducible refine qk.lim (fun _ => ?_))
noncomputable def qq (s : List qc) : Option Bool :=
  Option.bind (qw s) fun (a : Int) =>
  some (decide (0 ≤ a))
theorem QR : ∀ (s : List qc), ev 73 0 [rL 2 qe s, R.c (C.fn 74 [] [])] [] = (qq s).bind (fun (e : Bool) => some (rB e, [])) :=
  fun s => by
    rw [qz qoY qsW.2.2.2 qsI]
    have := quv; have := @Z7; have := @qq.eq_1; exact gA
noncomputable def qR (fu : Nat) (s : List qc) : Option Bool :=
  Option.bind (zc fu s) fun (a : Int) =>
  some (decide (0 ≤ a))
theorem QO (fu : Nat) (s : List qc) : qk (qR fu s) (qq s) := by
  unfold qR qq
  repeat (first
    | with_reducible exact qk.refl _
    | with_reducible exact qk.none _
    | with_reducible apply Ze
    | with_reducible refine qk.bind ?_ (fun _ => ?_)
    | with_reducible refine qk.ite ?_ ?_
    | with_reducible refine qk.sum (fun _ => ?_) (fun _ => ?_)
    | with_reducible refine qk.lim (fun _ => ?_))
theorem qu7 : okL 76 qfk := qy (qi qoC) (by kernel_rfl) (by kernel_rfl)
def qtr := JA_ @qfk.eq_1 (JA_ @Try.f76.eq_1 @qoC)
theorem qt6 : okL 81 qe7 := qy (qi qoa) (by kernel_rfl) (by kernel_rfl)
def qti := JA_ @qe7.eq_1 (JA_ @Try.f81.eq_1 @qoa)
theorem qu4 : okL 85 qfF := qy (qi qpQ) (by kernel_rfl) (by kernel_rfl)
def qsU := JA_ @qfF.eq_1 (JA_ @Try.f85.eq_1 @qpQ)
noncomputable def Ju (x : Int) : Option Bool :=
  some (x != x)
noncomputable def qZ (x : Int) : Bool :=
  x != x
theorem q4o (x : Int) : Ju x = some (qZ x) := by
  unfold Ju qZ
  simp only [zX]
theorem q5C : ∀ (x : Int), ev 85 0 [rI x] [] = some (rB (qZ x), []) :=
  fun x => by
    have h : ev 85 0 [rI x] [] = (Ju x).bind (fun (e : Bool) => some (rB e, [])) := by
      rw [qz qpQ quO.2.2.2 qu4]
      have := qsU; have := @Ju.eq_1; exact gA
    rw [q4o] at h
    exact h
noncomputable def ZJ (x : Int) (y : Int) : Option Int :=
  if qZ x = Bool.true then if qZ y = Bool.true then some 0
    else some (-1)
  else if qZ y = Bool.true then some 1
  else if x < y then some (-1)
  else if y < x then some 1
  else some 0
noncomputable def zG (x : Int) (y : Int) : Int :=
  if qZ x = Bool.true then if qZ y = Bool.true then 0
    else (-1)
  else if qZ y = Bool.true then 1
  else if x < y then (-1)
  else if y < x then 1
  else 0
theorem q3j (x y : Int) : ZJ x y = some (zG x y) := by
  unfold ZJ zG
  simp only [zX]
theorem q3K : ∀ (x y : Int), ev 81 0 [rI x, rI y] [] = some (rI (zG x y), []) :=
  fun x y => by
    have h : ev 81 0 [rI x, rI y] [] = (ZJ x y).bind (fun (e : Int) => some (rI e, [])) := by
      rw [qz qoa quI.2.2.2 qt6]
      have := qti; have := @q5C; have := @ZJ.eq_1; exact gA
    rw [q3j] at h
    exact h
theorem qus : okL 82 qfN := qy (qi qpO) (by kernel_rfl) (by kernel_rfl)
def qv8 := JA_ @qfN.eq_1 (JA_ @Try.f82.eq_1 @qpO)
theorem qtY : okL 86 qeX := qy (qi qnw) (by kernel_rfl) (by kernel_rfl)
def quV := JA_ @qeX.eq_1 (JA_ @Try.f86.eq_1 @qnw)
noncomputable def Zu (x : ByteArray) : Option Unit :=
  some ()
noncomputable def q0u (x : ByteArray) : Unit :=
  ()
theorem q2I (x : ByteArray) : Zu x = some (q0u x) := by
  unfold Zu q0u
  simp only [zX]
theorem q3d : ∀ (x : ByteArray), ev 86 0 [rS x] [] = some (rB Bool.false, []) :=
  fun x => by
    have h : ev 86 0 [rS x] [] = (Zu x).bind (fun (e : Unit) => some (rB Bool.false, [])) := by
      rw [qz qnw qtN.2.2.2 qtY]
      have := quV; have := @Zu.eq_1; exact gA
    rw [q2I] at h
    exact h
noncomputable def QT (x : ByteArray) (y : ByteArray) : Option Int :=
  if Go.Op.bytesLess (ByteArray.toList x) (ByteArray.toList y) = Bool.true then some (-1)
  else if (!(Go.Op.bytesLess (ByteArray.toList x) (ByteArray.toList y) || ByteArray.toList x == ByteArray.toList y)) = Bool.true then some 1
  else some 0
noncomputable def z7 (x : ByteArray) (y : ByteArray) : Int :=
  if Go.Op.bytesLess (ByteArray.toList x) (ByteArray.toList y) = Bool.true then (-1)
  else if (!(Go.Op.bytesLess (ByteArray.toList x) (ByteArray.toList y) || ByteArray.toList x == ByteArray.toList y)) = Bool.true then 1
  else 0
theorem q1H (x y : ByteArray) : QT x y = some (z7 x y) := by
  unfold QT z7
  simp only [zX]
theorem q2c : ∀ (x y : ByteArray), ev 82 0 [rS x, rS y] [] = some (rI (z7 x y), []) :=
  fun x y => by
    have h : ev 82 0 [rS x, rS y] [] = (QT x y).bind (fun (e : Int) => some (rI e, [])) := by
      rw [qz qpO qux.2.2.2 qus]
      have := qv8; have := @q3d; have := @QT.eq_1; exact gA
    rw [q1H] at h
    exact h
theorem qs1 : okL 80 qcl := qy (qi qmY) (by kernel_rfl) (by kernel_rfl)
def qrh := JA_ @qcl.eq_1 (JA_ @Try.f80.eq_1 @qmY)
theorem qkH : lbO 80 3 = qei := Q8 (qi qmY) rfl
theorem qko : okL 80 qei := zd qs1 (List.mem_of_getElem? (i := 0) (by kernel_rfl))
noncomputable def zw (zero : Int) (t6 : List Int) (t7 : Int) : Int → Option (Int ⊕ (Int ⊕ Unit))
  | t8 =>
    if t8 < t7 then if 0 ≤ t8 ∧ t8 < ((t6.length : Nat) : Int) then Option.bind t6[Int.toNat t8]? fun (a : Int) =>
        if (a != zero) = Bool.true then some (Sum.inr (Sum.inl a))
        else some (Sum.inl (w64 (t8 + 1)))
      else none
    else some (Sum.inr (Sum.inr ()))
theorem q5k : ∀ (zero : Int) (t6 : List Int) (t7 t8 : Int), XL2 evo 80 0 3 ⟨[(3, rI zero), (6, rL 1 eI t6), (7, rI t7), (8, rI t8)], [], 0, 18⟩ = (qM (zw zero t6 t7) t8).bind (Sum.elim (fun (e : Int) => some (Go.Exit.ret, ⟨[(2, rI e), (3, rI zero)], [], 0, 18⟩)) (fun (e : Unit) => some (Go.Exit.exit 0, ⟨[(2, R.any), (3, rI zero)], [], 0, 18⟩))) :=
  fun zero t6 t7 t8 => by
    revert t8; exact qad qkH qko (fun e => by rcases e with _ | _ <;> exact ⟨_, rfl, fun h => by cases h⟩) fun x => by
      have := qrh; have := @qei.eq_1; have := @zw.eq_1; exact gA
noncomputable def Z0 (vals : List Int) : Option Int :=
  Option.bind (qM (zw 0 vals ((vals.length : Nat) : Int)) 0) fun (a : Sum Int Unit) =>
  Sum.elim (fun (a2 : Int) => some a2) (fun (a3 : Unit) => some 0) a
theorem q7X : ∀ (vals : List Int), ev 80 0 [rL 1 eI vals] [] = (Z0 vals).bind (fun (e : Int) => some (rI e, [])) :=
  fun vals => by
    rw [qz qmY qtc.2.2.2 qs1]
    have := qrh; have := @q5k; have := @Z0.eq_1; exact gA
theorem q5q : ∀ (vals0 vals1 : Int) , ev 80 0 [R.c (C.d (D.sl 1 2 [D.int .i64 vals0, D.int .i64 vals1]))] [] = (Z0 [vals0, vals1]).bind (fun (e : Int) => some (rI e, [])) := by
  intro vals0 vals1; have h := q7X [vals0, vals1]
  first
    | exact h
    | (simp only [rL, dL, bR, bZ, Nat.reduceAdd] at h; exact h)
noncomputable def q3s (fu : Nat) (vals : List Int) : Option Int :=
  Option.bind (itT (zw 0 vals ((vals.length : Nat) : Int)) fu 0) fun (a : Sum Int Unit) =>
  Sum.elim (fun (a2 : Int) => some a2) (fun (a3 : Unit) => some 0) a
theorem q8c (fu : Nat) (vals : List Int) : qk (q3s fu vals) (Z0 vals) := by
  unfold q3s Z0
  repeat (first
    | with_reducible exact qk.refl _
    | with_reducible exact qk.none _
    | with_reducible refine qk.bind ?_ (fun _ => ?_)
    | with_reducible refine qk.ite ?_ ?_
    | with_reducible refine qk.sum (fun _ => ?_) (fun _ => ?_)
    | with_reducible refine qk.lim (fun _ => ?_))
noncomputable def QI (a : qc) (b : qc) : Option Int :=
  Option.bind (Z0 [zG a.School b.School, z7 a.Code b.Code]) fun (e0 : Int) =>
  some e0
theorem q6c : ∀ (a_School : Int) (a_Code : ByteArray) (b_School : Int) (b_Code : ByteArray), ev 76 0 [R.agg [dI a_School, dS a_Code], R.agg [dI b_School, dS b_Code]] [] = (QI (qc.mk a_School a_Code) (qc.mk b_School b_Code)).bind (fun (e : Int) => some (rI e, [])) :=
  fun a_School a_Code b_School b_Code => by
    rw [qz qoC qtR.2.2.2 qu7]
    have := qtr; have := @q3K; have := @q2c; have := @q5q; have := @QI.eq_1; exact gA
noncomputable def q1k (fu : Nat) (a : qc) (b : qc) : Option Int :=
  Option.bind (q3s fu [zG a.School b.School, z7 a.Code b.Code]) fun (e0 : Int) =>
  some e0
theorem q6l (fu : Nat) (a b : qc) : qk (q1k fu a b) (QI a b) := by
  unfold q1k QI
  repeat (first
    | with_reducible exact qk.refl _
    | with_reducible exact qk.none _
    | with_reducible apply q8c
    | with_reducible refine qk.bind ?_ (fun _ => ?_)
    | with_reducible refine qk.ite ?_ ?_
    | with_reducible refine qk.sum (fun _ => ?_) (fun _ => ?_)
    | with_reducible refine qk.lim (fun _ => ?_))
noncomputable def qX (n : qb) (t22 : List qc) (t23 : Int) : Int → Option (Int ⊕ (Unit ⊕ Unit))
  | t24 =>
    if t24 < t23 then if 0 ≤ t24 ∧ t24 < ((t22.length : Nat) : Int) then Option.bind t22[Int.toNat t24]? fun (a : qc) =>
        if 0 < t24 then if 0 ≤ w64 (t24 - 1) ∧ w64 (t24 - 1) < ((n.Set.length : Nat) : Int) then Option.bind n.Set[Int.toNat (w64 (t24 - 1))]? fun (a2 : qc) =>
            Option.bind (QI a2 a) fun (a3 : Int) =>
            if 0 ≤ a3 then some (Sum.inr (Sum.inl ()))
            else some (Sum.inl (w64 (t24 + 1)))
          else none
        else some (Sum.inl (w64 (t24 + 1)))
      else none
    else some (Sum.inr (Sum.inr ()))
theorem q3S : ∀ (n_Kind n_N n_Min : Int) (n_Set : List qc) (n_L : List qb) (t22 : List qc) (t23 t24 : Int), XL2 evo 64 0 7 ⟨[(1, rP 0), (22, rL 2 qe t22), (23, rI t23), (24, rI t24)], [(0, B.blk 31 [dI n_Kind, dI n_N, dI n_Min, dL 2 qe n_Set, dL 5 qg n_L])], 1, 43⟩ = (qM (qX (qb.mk n_Kind n_N n_Min n_Set n_L) t22 t23) t24).bind (Sum.elim (fun (e : Unit) => some (Go.Exit.ret, ⟨[(2, rI 7)], [], 0, 43⟩)) (fun (e : Unit) => some (Go.Exit.exit 1, ⟨[(2, R.any)], [], 0, 43⟩))) :=
  fun n_Kind n_N n_Min n_Set n_L t22 t23 t24 => by
    revert t24; exact qad qkf qkS (fun e => by rcases e with _ | _ <;> exact ⟨_, rfl, fun h => by cases h⟩) fun x => by
      have := qqj; have := @qeq.eq_1; have := @q6c; have := @qX.eq_1; exact gA
noncomputable def JR (fu : Nat) (n : qb) (t22 : List qc) (t23 : Int) : Int → Option (Int ⊕ (Unit ⊕ Unit))
  | t24 =>
    if t24 < t23 then if 0 ≤ t24 ∧ t24 < ((t22.length : Nat) : Int) then Option.bind t22[Int.toNat t24]? fun (a : qc) =>
        if 0 < t24 then if 0 ≤ w64 (t24 - 1) ∧ w64 (t24 - 1) < ((n.Set.length : Nat) : Int) then Option.bind n.Set[Int.toNat (w64 (t24 - 1))]? fun (a2 : qc) =>
            Option.bind (q1k fu a2 a) fun (a3 : Int) =>
            if 0 ≤ a3 then some (Sum.inr (Sum.inl ()))
            else some (Sum.inl (w64 (t24 + 1)))
          else none
        else some (Sum.inl (w64 (t24 + 1)))
      else none
    else some (Sum.inr (Sum.inr ()))
theorem q3M (fu : Nat) (n : qb) (t22 : List qc) (t23 : Int) : ∀ x, qk (JR fu n t22 t23 x) (qX n t22 t23 x) := by
  rintro t24
  unfold JR qX
  try dsimp only
  repeat (first
    | with_reducible exact qk.refl _
    | with_reducible exact qk.none _
    | with_reducible apply q6l
    | with_reducible refine qk.bind ?_ (fun _ => ?_)
    | with_reducible refine qk.ite ?_ ?_
    | with_reducible refine qk.sum (fun _ => ?_) (fun _ => ?_)
    | with_reducible refine qk.lim (fun _ => ?_))
noncomputable def Qv (n : qb) : Option Int :=
  if (!(qC n.Min (-1000) 1000)) = Bool.true then some 3
  else if (!(qC ((n.Set.length : Nat) : Int) 1 12)) = Bool.true then some 2
  else Option.bind (qq n.Set) fun (a : Bool) =>
  if (!a) = Bool.true then Option.bind (qM (qX n n.Set ((n.Set.length : Nat) : Int)) 0) fun (a2 : Sum Unit Unit) =>
    Sum.elim (fun (a3 : Unit) => some 7) (fun (a4 : Unit) => some 0) a2
  else some 1
theorem q1r : ∀ (n_Kind n_N n_Min : Int) (n_Set : List qc) (n_L : List qb), ev 64 0 [R.agg [dI n_Kind, dI n_N, dI n_Min, dL 2 qe n_Set, dL 5 qg n_L]] [] = (Qv (qb.mk n_Kind n_N n_Min n_Set n_L)).bind (fun (e : Int) => some (rI e, [])) :=
  fun n_Kind n_N n_Min n_Set n_L => by
    rw [qz qmL qu1.2.2.2 qqY]
    have := qqj; have := @Zi; have := @QR; have := @q3S; have := @Qv.eq_1; exact gA
noncomputable def q07 (fu : Nat) (n : qb) : Option Int :=
  if (!(qC n.Min (-1000) 1000)) = Bool.true then some 3
  else if (!(qC ((n.Set.length : Nat) : Int) 1 12)) = Bool.true then some 2
  else Option.bind (qR fu n.Set) fun (a : Bool) =>
  if (!a) = Bool.true then Option.bind (itT (JR fu n n.Set ((n.Set.length : Nat) : Int)) fu 0) fun (a2 : Sum Unit Unit) =>
    Sum.elim (fun (a3 : Unit) => some 7) (fun (a4 : Unit) => some 0) a2
  else some 1
theorem q1L (fu : Nat) (n : qb) : qk (q07 fu n) (Qv n) := by
  unfold q07 Qv
  repeat (first
    | with_reducible exact qk.refl _
    | with_reducible exact qk.none _
    | with_reducible apply QO
    | with_reducible apply q3M
    | with_reducible refine qk.bind ?_ (fun _ => ?_)
    | with_reducible refine qk.ite ?_ ?_
    | with_reducible refine qk.sum (fun _ => ?_) (fun _ => ?_)
    | with_reducible refine qk.lim (fun _ => ?_))
noncomputable def QL (n : qb) : Option Int :=
  if (n.N != 0) = Bool.true then some 13
  else if 0 < ((n.L.length : Nat) : Int) then some 13
  else Option.bind (Qv n) fun (e0 : Int) =>
  some e0
theorem q6v : ∀ (n_Kind n_N n_Min : Int) (n_Set : List qc) (n_L : List qb), ev 63 0 [R.agg [dI n_Kind, dI n_N, dI n_Min, dL 2 qe n_Set, dL 5 qg n_L]] [] = (QL (qb.mk n_Kind n_N n_Min n_Set n_L)).bind (fun (e : Int) => some (rI e, [])) :=
  fun n_Kind n_N n_Min n_Set n_L => by
    rw [qz qpU quM.2.2.2 qsO]
    have := qsV; have := @q1r; have := @QL.eq_1; exact gA
noncomputable def q1j (fu : Nat) (n : qb) : Option Int :=
  if (n.N != 0) = Bool.true then some 13
  else if 0 < ((n.L.length : Nat) : Int) then some 13
  else Option.bind (q07 fu n) fun (e0 : Int) =>
  some e0
theorem q5N (fu : Nat) (n : qb) : qk (q1j fu n) (QL n) := by
  unfold q1j QL
  repeat (first
    | with_reducible exact qk.refl _
    | with_reducible exact qk.none _
    | with_reducible apply q1L
    | with_reducible refine qk.bind ?_ (fun _ => ?_)
    | with_reducible refine qk.ite ?_ ?_
    | with_reducible refine qk.sum (fun _ => ?_) (fun _ => ?_)
    | with_reducible refine qk.lim (fun _ => ?_))
theorem qta : okL 65 qfA := qy (qi qnS) (by kernel_rfl) (by kernel_rfl)
def qu5 := JA_ @qfA.eq_1 (JA_ @Try.f65.eq_1 @qnS)
noncomputable def QK (n : qb) : Option Int :=
  if 0 < ((n.L.length : Nat) : Int) then some 13
  else if (!(qC n.N 1 600)) = Bool.true then some 3
  else Option.bind (Qv n) fun (e0 : Int) =>
  some e0
theorem q6m : ∀ (n_Kind n_N n_Min : Int) (n_Set : List qc) (n_L : List qb), ev 65 0 [R.agg [dI n_Kind, dI n_N, dI n_Min, dL 2 qe n_Set, dL 5 qg n_L]] [] = (QK (qb.mk n_Kind n_N n_Min n_Set n_L)).bind (fun (e : Int) => some (rI e, [])) :=
  fun n_Kind n_N n_Min n_Set n_L => by
    rw [qz qnS qtQ.2.2.2 qta]
    have := qu5; have := @Zi; have := @q1r; have := @QK.eq_1; exact gA
noncomputable def q1m (fu : Nat) (n : qb) : Option Int :=
  if 0 < ((n.L.length : Nat) : Int) then some 13
  else if (!(qC n.N 1 600)) = Bool.true then some 3
  else Option.bind (q07 fu n) fun (e0 : Int) =>
  some e0
theorem q5H (fu : Nat) (n : qb) : qk (q1m fu n) (QK n) := by
  unfold q1m QK
  repeat (first
    | with_reducible exact qk.refl _
    | with_reducible exact qk.none _
    | with_reducible apply q1L
    | with_reducible refine qk.bind ?_ (fun _ => ?_)
    | with_reducible refine qk.ite ?_ ?_
    | with_reducible refine qk.sum (fun _ => ?_) (fun _ => ?_)
    | with_reducible refine qk.lim (fun _ => ?_))
theorem qua : okL 66 qey := qy (qi qnC) (by kernel_rfl) (by kernel_rfl)
def qt7 := JA_ @qey.eq_1 (JA_ @Try.f66.eq_1 @qnC)
theorem qtA : okL 62 qdH := qy (qi qpj) (by kernel_rfl) (by kernel_rfl)
def qub := JA_ @qdH.eq_1 (JA_ @Try.f62.eq_1 @qpj)
noncomputable def q02 (n : qb) : Option Bool :=
  if (n.Min == 0) = Bool.true then if (((n.Set.length : Nat) : Int) == 0) = Bool.true then some (decide (0 < ((n.L.length : Nat) : Int)))
    else some Bool.false
  else some Bool.false
noncomputable def zC (n : qb) : Bool :=
  if (n.Min == 0) = Bool.true then if (((n.Set.length : Nat) : Int) == 0) = Bool.true then decide (0 < ((n.L.length : Nat) : Int))
    else Bool.false
  else Bool.false
theorem q5z (n : qb) : q02 n = some (zC n) := by
  unfold q02 zC
  simp only [zX]
theorem q1y : ∀ (n_Kind n_N n_Min : Int) (n_Set : List qc) (n_L : List qb), ev 62 0 [R.agg [dI n_Kind, dI n_N, dI n_Min, dL 2 qe n_Set, dL 5 qg n_L]] [] = some (rB (zC (qb.mk n_Kind n_N n_Min n_Set n_L)), []) :=
  fun n_Kind n_N n_Min n_Set n_L => by
    have h : ev 62 0 [R.agg [dI n_Kind, dI n_N, dI n_Min, dL 2 qe n_Set, dL 5 qg n_L]] [] = (q02 (qb.mk n_Kind n_N n_Min n_Set n_L)).bind (fun (e : Bool) => some (rB e, [])) := by
      rw [qz qpj qu8.2.2.2 qtA]
      have := qub; have := @q02.eq_1; exact gA
    rw [q5z] at h
    exact h
noncomputable def q01 (n : qb) : Option Int :=
  if (!(zC n)) = Bool.true then some 13
  else if (n.N != 0) = Bool.true then some 13
  else some 0
noncomputable def zE (n : qb) : Int :=
  if (!(zC n)) = Bool.true then 13
  else if (n.N != 0) = Bool.true then 13
  else 0
theorem q5c (n : qb) : q01 n = some (zE n) := by
  unfold q01 zE
  simp only [zX]
theorem q69 : ∀ (n_Kind n_N n_Min : Int) (n_Set : List qc) (n_L : List qb), ev 66 1 [R.agg [dI n_Kind, dI n_N, dI n_Min, dL 2 qe n_Set, dL 5 qg n_L], rP 0] [(0, B.blk 68 [C.fn 62 [] []])] = some (rI (zE (qb.mk n_Kind n_N n_Min n_Set n_L)), [(0, B.blk 68 [C.fn 62 [] []])]) :=
  fun n_Kind n_N n_Min n_Set n_L => by
    have h : ev 66 1 [R.agg [dI n_Kind, dI n_N, dI n_Min, dL 2 qe n_Set, dL 5 qg n_L], rP 0] [(0, B.blk 68 [C.fn 62 [] []])] = (q01 (qb.mk n_Kind n_N n_Min n_Set n_L)).bind (fun (e : Int) => some (rI e, [(0, B.blk 68 [C.fn 62 [] []])])) := by
      rw [qz qnC quC.2.2.2 qua]
      have := qt7; have := @q1y; have := @q01.eq_1; exact gA
    rw [q5c] at h
    exact h
theorem qt2 : okL 67 qfe := qy (qi qpt) (by kernel_rfl) (by kernel_rfl)
def qsD := JA_ @qfe.eq_1 (JA_ @Try.f67.eq_1 @qpt)
noncomputable def q05 (n : qb) : Option Int :=
  if (!(zC n)) = Bool.true then some 13
  else if (!(qC n.N 1 ((n.L.length : Nat) : Int))) = Bool.true then some 3
  else some 0
noncomputable def zD (n : qb) : Int :=
  if (!(zC n)) = Bool.true then 13
  else if (!(qC n.N 1 ((n.L.length : Nat) : Int))) = Bool.true then 3
  else 0
theorem q4O (n : qb) : q05 n = some (zD n) := by
  unfold q05 zD
  simp only [zX]
theorem q61 : ∀ (n_Kind n_N n_Min : Int) (n_Set : List qc) (n_L : List qb), ev 67 1 [R.agg [dI n_Kind, dI n_N, dI n_Min, dL 2 qe n_Set, dL 5 qg n_L], rP 0] [(0, B.blk 68 [C.fn 62 [] []])] = some (rI (zD (qb.mk n_Kind n_N n_Min n_Set n_L)), [(0, B.blk 68 [C.fn 62 [] []])]) :=
  fun n_Kind n_N n_Min n_Set n_L => by
    have h : ev 67 1 [R.agg [dI n_Kind, dI n_N, dI n_Min, dL 2 qe n_Set, dL 5 qg n_L], rP 0] [(0, B.blk 68 [C.fn 62 [] []])] = (q05 (qb.mk n_Kind n_N n_Min n_Set n_L)).bind (fun (e : Int) => some (rI e, [(0, B.blk 68 [C.fn 62 [] []])])) := by
      rw [qz qpt qt1.2.2.2 qt2]
      have := qsD; have := @q1y; have := @Zi; have := @q05.eq_1; exact gA
    rw [q4O] at h
    exact h
noncomputable def zK (t37 : List qb) (t38 : Int) : Int → Option (Int ⊕ (Int ⊕ Unit))
  | t39 =>
    if t39 < t38 then if 0 ≤ t39 ∧ t39 < ((t37.length : Nat) : Int) then Option.bind t37[Int.toNat t39]? fun (a : qb) =>
        if a.Kind = 1 then Option.bind (QL a) fun (a2 : Int) =>
          if (a2 != 0) = Bool.true then some (Sum.inr (Sum.inl a2))
          else some (Sum.inl (w64 (t39 + 1)))
        else if a.Kind = 2 then Option.bind (QK a) fun (a3 : Int) =>
          if (a3 != 0) = Bool.true then some (Sum.inr (Sum.inl a3))
          else some (Sum.inl (w64 (t39 + 1)))
        else if a.Kind = 3 then if (zE a != 0) = Bool.true then some (Sum.inr (Sum.inl (zE a)))
          else some (Sum.inl (w64 (t39 + 1)))
        else if a.Kind = 4 then if (zD a != 0) = Bool.true then some (Sum.inr (Sum.inl (zD a)))
          else some (Sum.inl (w64 (t39 + 1)))
        else some (Sum.inr (Sum.inl 13))
      else none
    else some (Sum.inr (Sum.inr ()))
theorem q5r : ∀ (t37 : List qb) (t38 t39 : Int), XL2 evo 21 0 6 ⟨[(6, R.c (C.hd .map 0)), (37, rL 5 qg t37), (38, rI t38), (39, rI t39)], [(0, B.ob (AO.mp [(Go.Value.int Go.IntKind.i64 1, R.agg [C.fn 63 [] []], 0), (Go.Value.int Go.IntKind.i64 2, R.agg [C.fn 65 [] []], 1), (Go.Value.int Go.IntKind.i64 3, R.agg [C.fn 66 [] [dP 1]], 2), (Go.Value.int Go.IntKind.i64 4, R.agg [C.fn 67 [] [dP 1]], 3)] 4)), (1, B.blk 68 [C.fn 62 [] []])], 2, 60⟩ = (qM (zK t37 t38) t39).bind (Sum.elim (fun (e : Int) => some (Go.Exit.ret, ⟨[(2, rI e)], [], 0, 60⟩)) (fun (e : Unit) => some (Go.Exit.exit 0, ⟨[(2, R.any)], [], 0, 60⟩))) :=
  fun t37 t38 t39 => by
    revert t39; exact qad qll qlz (fun e => by rcases e with _ | _ <;> exact ⟨_, rfl, fun h => by cases h⟩) fun x => by
      have := qs7; have := @qfW.eq_1; have := @q6v; have := @q6m; have := @q69; have := @q61; have := @zK.eq_1; exact gA
noncomputable def q0P (fu : Nat) (t37 : List qb) (t38 : Int) : Int → Option (Int ⊕ (Int ⊕ Unit))
  | t39 =>
    if t39 < t38 then if 0 ≤ t39 ∧ t39 < ((t37.length : Nat) : Int) then Option.bind t37[Int.toNat t39]? fun (a : qb) =>
        if a.Kind = 1 then Option.bind (q1j fu a) fun (a2 : Int) =>
          if (a2 != 0) = Bool.true then some (Sum.inr (Sum.inl a2))
          else some (Sum.inl (w64 (t39 + 1)))
        else if a.Kind = 2 then Option.bind (q1m fu a) fun (a3 : Int) =>
          if (a3 != 0) = Bool.true then some (Sum.inr (Sum.inl a3))
          else some (Sum.inl (w64 (t39 + 1)))
        else if a.Kind = 3 then if (zE a != 0) = Bool.true then some (Sum.inr (Sum.inl (zE a)))
          else some (Sum.inl (w64 (t39 + 1)))
        else if a.Kind = 4 then if (zD a != 0) = Bool.true then some (Sum.inr (Sum.inl (zD a)))
          else some (Sum.inl (w64 (t39 + 1)))
        else some (Sum.inr (Sum.inl 13))
      else none
    else some (Sum.inr (Sum.inr ()))
theorem q4L (fu : Nat) (t37 : List qb) (t38 : Int) : ∀ x, qk (q0P fu t37 t38 x) (zK t37 t38 x) := by
  rintro t39
  unfold q0P zK
  try dsimp only
  repeat (first
    | with_reducible exact qk.refl _
    | with_reducible exact qk.none _
    | with_reducible apply q5N
    | with_reducible apply q5H
    | with_reducible refine qk.bind ?_ (fun _ => ?_)
    | with_reducible refine qk.ite ?_ ?_
    | with_reducible refine qk.sum (fun _ => ?_) (fun _ => ?_)
    | with_reducible refine qk.lim (fun _ => ?_))
theorem qrq : okL 24 qdS := qy (qi qna) (by kernel_rfl) (by kernel_rfl)
def qq8 := JA_ @qdS.eq_1 (JA_ @Try.f24.eq_1 @qna)
theorem qip : okL 45 q6E := qy (qi qgx) (by kernel_rfl) (by kernel_rfl)
def qc2 := JA_ @q6E.eq_1 (JA_ @Try.f45.eq_1 @qgx)
theorem qc8 : lbO 45 5 = q8V := Q8 (qi qgx) rfl
theorem qbI : okL 45 q8V := zd qip (List.mem_of_getElem? (i := 0) (by kernel_rfl))
theorem qdv : lbO 45 14 = q9u := Q8 (qi qgx) rfl
theorem qeP : okL 45 q9u := zd qip (List.mem_of_getElem? (i := 1) (by kernel_rfl))
theorem qge : lbO 45 18 = q9B := Q8 (qi qgx) rfl
theorem qem : okL 45 q9B := zd qip (List.mem_of_getElem? (i := 2) (by kernel_rfl))
theorem qfQ : lbO 45 25 = q9J := Q8 (qi qgx) rfl
theorem qf7 : okL 45 q9J := zd qip (List.mem_of_getElem? (i := 3) (by kernel_rfl))
theorem qeu : lbO 45 38 = q9G := Q8 (qi qgx) rfl
theorem qeC : okL 45 q9G := zd qip (List.mem_of_getElem? (i := 4) (by kernel_rfl))
theorem qte : okL 31 qfM := qy (qi qpC) (by kernel_rfl) (by kernel_rfl)
def qtP := JA_ @qfM.eq_1 (JA_ @Try.f31.eq_1 @qpC)
noncomputable def q3B (n : qb) : Option Bool :=
  if (n.Kind == 1) = Bool.true then some Bool.true
  else some (n.Kind == 2)
noncomputable def zH (n : qb) : Bool :=
  if (n.Kind == 1) = Bool.true then Bool.true
  else n.Kind == 2
theorem q8J (n : qb) : q3B n = some (zH n) := by
  unfold q3B zH
  simp only [zX]
theorem q0y : ∀ (n_Kind n_N n_Min : Int) (n_Set : List qc) (n_L : List qb), ev 31 0 [R.agg [dI n_Kind, dI n_N, dI n_Min, dL 2 qe n_Set, dL 5 qg n_L]] [] = some (rB (zH (qb.mk n_Kind n_N n_Min n_Set n_L)), []) :=
  fun n_Kind n_N n_Min n_Set n_L => by
    have h : ev 31 0 [R.agg [dI n_Kind, dI n_N, dI n_Min, dL 2 qe n_Set, dL 5 qg n_L]] [] = (q3B (qb.mk n_Kind n_N n_Min n_Set n_L)).bind (fun (e : Bool) => some (rB e, [])) := by
      rw [qz qpC qtq.2.2.2 qte]
      have := qtP; have := @q3B.eq_1; exact gA
    rw [q8J] at h
    exact h
theorem qtC : okL 34 qeI := qy (qi qpG) (by kernel_rfl) (by kernel_rfl)
def qui := JA_ @qeI.eq_1 (JA_ @Try.f34.eq_1 @qpG)
noncomputable def Z2 (kind : Int) : Option (Unit ⊕ Unit) :=
  if (kind == 1) = Bool.true then some (Sum.inl ())
  else some (Sum.inr ())
theorem q1d : ∀ (kind : Int), ev 34 0 [rI kind] [] = (Z2 kind).bind (Sum.elim (fun (e : Unit) => some (R.c (C.fn 50 [] []), [])) (fun (e : Unit) => some (R.c (C.fn 51 [] []), []))) :=
  fun kind => by
    rw [qz qpG quu.2.2.2 qtC]
    have := qui; have := @Z2.eq_1; exact gA
theorem qsx : okL 22 qfi := qy (qi qpN) (by kernel_rfl) (by kernel_rfl)
def qum := JA_ @qfi.eq_1 (JA_ @Try.f22.eq_1 @qpN)
noncomputable def q0Z (x0 : Int) (x1 : Int) : Option Unit :=
  some ()
noncomputable def q43 (x0 : Int) (x1 : Int) : Unit :=
  ()
theorem q6Y (x0 x1 : Int) : q0Z x0 x1 = some (q43 x0 x1) := by
  unfold q0Z q43
  simp only [zX]
theorem q2W : ∀ (x0 x1 : Int), ev 22 0 [rI x0, rI x1] [] = some (rB Bool.true, []) :=
  fun x0 x1 => by
    have h : ev 22 0 [rI x0, rI x1] [] = (q0Z x0 x1).bind (fun (e : Unit) => some (rB Bool.true, [])) := by
      rw [qz qpN qsK.2.2.2 qsx]
      have := qum; have := @q0Z.eq_1; exact gA
    rw [q6Y] at h
    exact h
theorem qpS : okL 32 qbE := qy (qi qlq) (by kernel_rfl) (by kernel_rfl)
def qml := JA_ @qbE.eq_1 (JA_ @Try.f32.eq_1 @qlq)
theorem qii : lbO 32 3 = qc3 := Q8 (qi qlq) rfl
theorem qhI : okL 32 qc3 := zd qpS (List.mem_of_getElem? (i := 0) (by kernel_rfl))
theorem qtI : okL 46 qg1 := qy (qi qoU) (by kernel_rfl) (by kernel_rfl)
def quL := JA_ @qg1.eq_1 (JA_ @Try.f46.eq_1 @qoU)
noncomputable def QX (k : Int) (v : Int) : Option Bool :=
  if 0 ≤ k then some (J0 Go.BinOp.and Go.IntKind.i64 (Int.fdiv v (2 ^ min (Int.toNat k) (Go.IntKind.bits Go.IntKind.i64))) 1 == 1)
  else none
theorem q4S : ∀ (k v : Int), ev 46 1 [rI k, rP 0] [(0, B.blk 3 [dI v])] = (QX k v).bind (fun (e : Bool) => some (rB e, [(0, B.blk 3 [dI v])])) :=
  fun k v => by
    rw [qz qoU qtT.2.2.2 qtI]
    have := quL; have := @QX.eq_1; exact gA
theorem qvf : okL 17 qdn := qy (qi qpI) (by kernel_rfl) (by kernel_rfl)
def qu2 := JA_ @qdn.eq_1 (JA_ @Try.f17.eq_1 @qpI)
theorem quf : okL 38 qe1 := qy (qi qoV) (by kernel_rfl) (by kernel_rfl)
def qt5 := JA_ @qe1.eq_1 (JA_ @Try.f38.eq_1 @qoV)
theorem qqd : okL 55 qbK := qy (qi qm7) (by kernel_rfl) (by kernel_rfl)
def qrD := JA_ @qbK.eq_1 (JA_ @Try.f55.eq_1 @qm7)
theorem qlf : lbO 55 2 = qdi := Q8 (qi qm7) rfl
theorem qkL : okL 55 qdi := zd qqd (List.mem_of_getElem? (i := 0) (by kernel_rfl))
noncomputable def qs (v : qc) (s : List qc) (t7 : Int) : Int → Option (Int ⊕ (Int ⊕ Unit))
  | t8 =>
    if t8 < t7 then if 0 ≤ t8 ∧ t8 < ((s.length : Nat) : Int) then Option.bind s[Int.toNat t8]? fun (a : qc) =>
        if (v.School == a.School) = Bool.true ∧ (ByteArray.toList v.Code == ByteArray.toList a.Code) = Bool.true then some (Sum.inr (Sum.inl t8))
        else some (Sum.inl (w64 (t8 + 1)))
      else none
    else some (Sum.inr (Sum.inr ()))
theorem Zm : ∀ (v_School : Int) (v_Code : ByteArray) (s : List qc) (t7 t8 : Int), XL2 evo 55 0 2 ⟨[(0, rL 2 qe s), (3, rP 0), (7, rI t7), (8, rI t8)], [(0, B.blk 52 [dI v_School, dS v_Code])], 1, 19⟩ = (qM (qs (qc.mk v_School v_Code) s t7) t8).bind (Sum.elim (fun (e : Int) => some (Go.Exit.ret, ⟨[(4, rI e)], [], 0, 19⟩)) (fun (e : Unit) => some (Go.Exit.exit 0, ⟨[(4, R.any)], [], 0, 19⟩))) :=
  fun v_School v_Code s t7 t8 => by
    revert t8; exact qad qlf qkL (fun e => by rcases e with _ | _ <;> exact ⟨_, rfl, fun h => by cases h⟩) fun x => by
      have := qrD; have := @qdi.eq_1; have := @qs.eq_1; exact gA
noncomputable def qv (s : List qc) (v : qc) : Option Int :=
  Option.bind (qM (qs v s ((s.length : Nat) : Int)) 0) fun (a : Sum Int Unit) =>
  Sum.elim (fun (a2 : Int) => some a2) (fun (a3 : Unit) => some (-1)) a
theorem ZD : ∀ (s : List qc) (v_School : Int) (v_Code : ByteArray), ev 55 0 [rL 2 qe s, R.agg [dI v_School, dS v_Code]] [] = (qv s (qc.mk v_School v_Code)).bind (fun (e : Int) => some (rI e, [])) :=
  fun s v_School v_Code => by
    rw [qz qm7 qv5.2.2.2 qqd]
    have := qrD; have := @Zm; have := @qv.eq_1; exact gA
noncomputable def zu (fu : Nat) (s : List qc) (v : qc) : Option Int :=
  Option.bind (itT (qs v s ((s.length : Nat) : Int)) fu 0) fun (a : Sum Int Unit) =>
  Sum.elim (fun (a2 : Int) => some a2) (fun (a3 : Unit) => some (-1)) a
theorem ZH (fu : Nat) (s : List qc) (v : qc) : qk (zu fu s v) (qv s v) := by
  unfold zu qv
  repeat (first
    | with_reducible exact qk.refl _
    | with_reducible exact qk.none _
    | with_reducible refine qk.bind ?_ (fun _ => ?_)
    | with_reducible refine qk.ite ?_ ?_
    | with_reducible refine qk.sum (fun _ => ?_) (fun _ => ?_)
    | with_reducible refine qk.lim (fun _ => ?_))
noncomputable def qt (s : List qc) (v : qc) : Option Bool :=
  Option.bind (qv s v) fun (a : Int) =>
  some (decide (0 ≤ a))
theorem Zl : ∀ (s : List qc) (v_School : Int) (v_Code : ByteArray), ev 38 0 [rL 2 qe s, R.agg [dI v_School, dS v_Code]] [] = (qt s (qc.mk v_School v_Code)).bind (fun (e : Bool) => some (rB e, [])) :=
  fun s v_School v_Code => by
    rw [qz qoV quN.2.2.2 quf]
    have := qt5; have := @ZD; have := @qt.eq_1; exact gA
noncomputable def zf (fu : Nat) (s : List qc) (v : qc) : Option Bool :=
  Option.bind (zu fu s v) fun (a : Int) =>
  some (decide (0 ≤ a))
theorem Zn (fu : Nat) (s : List qc) (v : qc) : qk (zf fu s v) (qt s v) := by
  unfold zf qt
  repeat (first
    | with_reducible exact qk.refl _
    | with_reducible exact qk.none _
    | with_reducible apply ZH
    | with_reducible refine qk.bind ?_ (fun _ => ?_)
    | with_reducible refine qk.ite ?_ ?_
    | with_reducible refine qk.sum (fun _ => ?_) (fun _ => ?_)
    | with_reducible refine qk.lim (fun _ => ?_))
theorem qut : okL 39 qeh := qy (qi qno) (by kernel_rfl) (by kernel_rfl)
def qv7 := JA_ @qeh.eq_1 (JA_ @Try.f39.eq_1 @qno)
theorem qtH : okL 56 qeJ := qy (qi qof) (by kernel_rfl) (by kernel_rfl)
def qsA := JA_ @qeJ.eq_1 (JA_ @Try.f56.eq_1 @qof)
theorem qrO : okL 70 qcj := qy (qi qm0) (by kernel_rfl) (by kernel_rfl)
def qqn := JA_ @qcj.eq_1 (JA_ @Try.f70.eq_1 @qm0)
theorem qlH : lbO 70 2 = qfB := Q8 (qi qm0) rfl
theorem qkI : okL 70 qfB := zd qrO (List.mem_of_getElem? (i := 0) (by kernel_rfl))
theorem qv1 : okL 71 qdu := qy (qi qpw) (by kernel_rfl) (by kernel_rfl)
def qsn := JA_ @qdu.eq_1 (JA_ @Try.f71.eq_1 @qpw)
noncomputable def Z5 (n : Int) (a : Int) (b : Int) : Option Int :=
  some (max (min a b) (min n (max a b)))
noncomputable def qE (n : Int) (a : Int) (b : Int) : Int :=
  max (min a b) (min n (max a b))
theorem q1W (n a b : Int) : Z5 n a b = some (qE n a b) := by
  unfold Z5 qE
  simp only [zX]
theorem Zs : ∀ (n a b : Int), ev 71 0 [rI n, rI a, rI b] [] = some (rI (qE n a b), []) :=
  fun n a b => by
    have h : ev 71 0 [rI n, rI a, rI b] [] = (Z5 n a b).bind (fun (e : Int) => some (rI e, [])) := by
      rw [qz qpw qth.2.2.2 qv1]
      have := qsn; have := @Z5.eq_1; exact gA
    rw [q1W] at h
    exact h
noncomputable def zT (w1 : List Int) (s : qd) (t10 : Int) : Int → Option (Int ⊕ (Unit ⊕ Unit))
  | t11 =>
    if t11 < t10 then if 0 ≤ t11 ∧ t11 < ((w1.length : Nat) : Int) then Option.bind w1[Int.toNat t11]? fun (a : Int) =>
        if (qE a (-1000) 1000 != a) = Bool.true then some (Sum.inr (Sum.inl ()))
        else some (Sum.inl (w64 (t11 + 1)))
      else none
    else some (Sum.inr (Sum.inr ()))
theorem q4n : ∀ (w1 : List Int) (s_Worst s_Best s_Pass t10 t11 : Int) (w1_len : Nat), w1_len = w1.length → XL2 evo 70 0 2 ⟨[(1, rP 0), (9, rO 1 1 w1_len), (10, rI t10), (11, rI t11)], [(0, B.blk 37 [dI s_Worst, dI s_Best, dI s_Pass]), (1, bR 3 1 eI w1)], 2, 37⟩ = (qM (zT w1 (qd.mk s_Worst s_Best s_Pass) t10) t11).bind (Sum.elim (fun (e : Unit) => some (Go.Exit.ret, ⟨[(1, rP 0), (2, rI 10)], [(0, B.blk 37 [dI s_Worst, dI s_Best, dI s_Pass])], 1, 37⟩)) (fun (e : Unit) => some (Go.Exit.exit 0, ⟨[(1, rP 0), (2, R.any)], [(0, B.blk 37 [dI s_Worst, dI s_Best, dI s_Pass])], 1, 37⟩))) :=
  by
  intro w1 s_Worst s_Best s_Pass t10 t11 w1_len h0
  subst h0
  revert t11; exact qad qlH qkI (fun e => by rcases e with _ | _ <;> exact ⟨_, rfl, fun h => by cases h⟩) fun x => by
    have := qqn; have := @qfB.eq_1; have := @Zs; have := @zT.eq_1; exact gA
theorem q2v : ∀ (w10 w11 s_Worst s_Best s_Pass t10 t11 : Int), XL2 evo 70 0 2 ⟨[(1, rP 0), (9, rO 1 1 2), (10, rI t10), (11, rI t11)], [(0, B.blk 37 [dI s_Worst, dI s_Best, dI s_Pass]), (1, B.row 3 1 [dI w10, dI w11])], 2, 37⟩ = (qM (zT [w10, w11] (qd.mk s_Worst s_Best s_Pass) t10) t11).bind (Sum.elim (fun (e : Unit) => some (Go.Exit.ret, ⟨[(1, rP 0), (2, rI 10)], [(0, B.blk 37 [dI s_Worst, dI s_Best, dI s_Pass])], 1, 37⟩)) (fun (e : Unit) => some (Go.Exit.exit 0, ⟨[(1, rP 0), (2, R.any)], [(0, B.blk 37 [dI s_Worst, dI s_Best, dI s_Pass])], 1, 37⟩))) := by
  intro w10 w11 s_Worst s_Best s_Pass t10 t11; have h := q4n [w10, w11] ((qd.mk s_Worst s_Best s_Pass)).Worst ((qd.mk s_Worst s_Best s_Pass)).Best ((qd.mk s_Worst s_Best s_Pass)).Pass t10 t11 _ rfl
  first
    | exact h
    | (simp only [rL, dL, bR, bZ, Nat.reduceAdd] at h; exact h)
noncomputable def Z1 (s : qd) : Option Int :=
  Option.bind (qM (zT [s.Worst, s.Best] s 2) 0) fun (a : Sum Unit Unit) =>
  Sum.elim (fun (a2 : Unit) => some 10) (fun (a3 : Unit) => if (s.Worst == s.Best) = Bool.true then some 10
    else if (qE s.Pass s.Worst s.Best != s.Pass) = Bool.true then some 10
    else some 0) a
theorem q79 : ∀ (s_Worst s_Best s_Pass : Int), ev 70 0 [R.agg [dI s_Worst, dI s_Best, dI s_Pass]] [] = (Z1 (qd.mk s_Worst s_Best s_Pass)).bind (fun (e : Int) => some (rI e, [])) :=
  fun s_Worst s_Best s_Pass => by
    rw [qz qm0 qsJ.2.2.2 qrO]
    have := qqn; have := @q2v; have := @Zs; have := @Z1.eq_1; exact gA
noncomputable def q20 (fu : Nat) (s : qd) : Option Int :=
  Option.bind (itT (zT [s.Worst, s.Best] s 2) fu 0) fun (a : Sum Unit Unit) =>
  Sum.elim (fun (a2 : Unit) => some 10) (fun (a3 : Unit) => if (s.Worst == s.Best) = Bool.true then some 10
    else if (qE s.Pass s.Worst s.Best != s.Pass) = Bool.true then some 10
    else some 0) a
theorem q7g (fu : Nat) (s : qd) : qk (q20 fu s) (Z1 s) := by
  unfold q20 Z1
  repeat (first
    | with_reducible exact qk.refl _
    | with_reducible exact qk.none _
    | with_reducible refine qk.bind ?_ (fun _ => ?_)
    | with_reducible refine qk.ite ?_ ?_
    | with_reducible refine qk.sum (fun _ => ?_) (fun _ => ?_)
    | with_reducible refine qk.lim (fun _ => ?_))
noncomputable def Za (s : qd) (g : Int) : Option Bool :=
  Option.bind (Z1 s) fun (a : Int) =>
  if (a == 0) = Bool.true then some (qE g s.Worst s.Best == g)
  else some Bool.false
theorem q6V : ∀ (s_Worst s_Best s_Pass g : Int), ev 56 0 [R.agg [dI s_Worst, dI s_Best, dI s_Pass], rI g] [] = (Za (qd.mk s_Worst s_Best s_Pass) g).bind (fun (e : Bool) => some (rB e, [])) :=
  fun s_Worst s_Best s_Pass g => by
    rw [qz qof qto.2.2.2 qtH]
    have := qsA; have := @q79; have := @Zs; have := @Za.eq_1; exact gA
noncomputable def q24 (fu : Nat) (s : qd) (g : Int) : Option Bool :=
  Option.bind (q20 fu s) fun (a : Int) =>
  if (a == 0) = Bool.true then some (qE g s.Worst s.Best == g)
  else some Bool.false
theorem q7f (fu : Nat) (s : qd) (g : Int) : qk (q24 fu s g) (Za s g) := by
  unfold q24 Za
  repeat (first
    | with_reducible exact qk.refl _
    | with_reducible exact qk.none _
    | with_reducible apply q7g
    | with_reducible refine qk.bind ?_ (fun _ => ?_)
    | with_reducible refine qk.ite ?_ ?_
    | with_reducible refine qk.sum (fun _ => ?_) (fun _ => ?_)
    | with_reducible refine qk.lim (fun _ => ?_))
noncomputable def Qw (s : qd) (g : Int) (min : Int) : Option Bool :=
  Option.bind (Za s g) fun (a : Bool) =>
  if a = Bool.true then if (g == min) = Bool.true then some Bool.true
    else some (decide (min < g) == decide (s.Worst < s.Best))
  else some Bool.false
theorem q4K : ∀ (s_Worst s_Best s_Pass g min : Int), ev 39 0 [R.agg [dI s_Worst, dI s_Best, dI s_Pass], rI g, rI min] [] = (Qw (qd.mk s_Worst s_Best s_Pass) g min).bind (fun (e : Bool) => some (rB e, [])) :=
  fun s_Worst s_Best s_Pass g min => by
    rw [qz qno quW.2.2.2 qut]
    have := qv7; have := @q6V; have := @Qw.eq_1; exact gA
noncomputable def q0J (fu : Nat) (s : qd) (g : Int) (min : Int) : Option Bool :=
  Option.bind (q24 fu s g) fun (a : Bool) =>
  if a = Bool.true then if (g == min) = Bool.true then some Bool.true
    else some (decide (min < g) == decide (s.Worst < s.Best))
  else some Bool.false
theorem q4X (fu : Nat) (s : qd) (g min : Int) : qk (q0J fu s g min) (Qw s g min) := by
  unfold q0J Qw
  repeat (first
    | with_reducible exact qk.refl _
    | with_reducible exact qk.none _
    | with_reducible apply q7f
    | with_reducible refine qk.bind ?_ (fun _ => ?_)
    | with_reducible refine qk.ite ?_ ?_
    | with_reducible refine qk.sum (fun _ => ?_) (fun _ => ?_)
    | with_reducible refine qk.lim (fun _ => ?_))
noncomputable def QA (n : qb) (s : qd) (a : qa) : Option Bool :=
  if zH n = Bool.true then Option.bind (qt n.Set a.Course) fun (a2 : Bool) =>
    if a2 = Bool.true then Option.bind (Qw s a.Grade n.Min) fun (e0 : Bool) =>
      some e0
    else some Bool.false
  else some Bool.false
theorem q2b : ∀ (n_Kind n_N n_Min : Int) (n_Set : List qc) (n_L : List qb) (s_Worst s_Best s_Pass a_Course_School : Int) (a_Course_Code : ByteArray) (a_Credits a_Grade a_Day : Int) (a_Sources : List Int) (a_Bundle : Int) (a_Path : List Int), ev 17 0 [R.agg [dI n_Kind, dI n_N, dI n_Min, dL 2 qe n_Set, dL 5 qg n_L], R.agg [dI s_Worst, dI s_Best, dI s_Pass], R.agg [dI a_Course_School, dS a_Course_Code, dI a_Credits, dI a_Grade, dI a_Day, dL 1 eI a_Sources, dI a_Bundle, dL 1 eI a_Path]] [] = (QA (qb.mk n_Kind n_N n_Min n_Set n_L) (qd.mk s_Worst s_Best s_Pass) (qa.mk (qc.mk a_Course_School a_Course_Code) a_Credits a_Grade a_Day a_Sources a_Bundle a_Path)).bind (fun (e : Bool) => some (rB e, [])) :=
  fun n_Kind n_N n_Min n_Set n_L s_Worst s_Best s_Pass a_Course_School a_Course_Code a_Credits a_Grade a_Day a_Sources a_Bundle a_Path => by
    rw [qz qpI qtZ.2.2.2 qvf]
    have := qu2; have := @q0y; have := @Zl; have := @q4K; have := @QA.eq_1; exact gA
theorem q6W : ∀ (n_Kind n_N n_Min n_Set0_School : Int) (n_Set0_Code : ByteArray) (a_Course_School : Int) (a_Course_Code : ByteArray) (a_Credits a_Grade a_Day a_Bundle s_Worst s_Best s_Pass : Int), ev 17 0 [R.agg [dI n_Kind, dI n_N, dI n_Min, C.d (D.sl 2 1 [D.int .i64 n_Set0_School, D.str n_Set0_Code]), C.d (D.sl 5 0 [])], R.agg [dI s_Worst, dI s_Best, dI s_Pass], R.agg [dI a_Course_School, dS a_Course_Code, dI a_Credits, dI a_Grade, dI a_Day, C.d (D.sl 1 0 []), dI a_Bundle, C.d (D.sl 1 0 [])]] [] = (QA (qb.mk n_Kind n_N n_Min [(qc.mk n_Set0_School n_Set0_Code)] []) (qd.mk s_Worst s_Best s_Pass) (qa.mk (qc.mk a_Course_School a_Course_Code) a_Credits a_Grade a_Day [] a_Bundle [])).bind (fun (e : Bool) => some (rB e, [])) := by
  intro n_Kind n_N n_Min n_Set0_School n_Set0_Code a_Course_School a_Course_Code a_Credits a_Grade a_Day a_Bundle s_Worst s_Best s_Pass; have h := q2b ((qb.mk n_Kind n_N n_Min [(qc.mk n_Set0_School n_Set0_Code)] [])).Kind ((qb.mk n_Kind n_N n_Min [(qc.mk n_Set0_School n_Set0_Code)] [])).N ((qb.mk n_Kind n_N n_Min [(qc.mk n_Set0_School n_Set0_Code)] [])).Min ((qb.mk n_Kind n_N n_Min [(qc.mk n_Set0_School n_Set0_Code)] [])).Set ((qb.mk n_Kind n_N n_Min [(qc.mk n_Set0_School n_Set0_Code)] [])).L ((qd.mk s_Worst s_Best s_Pass)).Worst ((qd.mk s_Worst s_Best s_Pass)).Best ((qd.mk s_Worst s_Best s_Pass)).Pass ((qa.mk (qc.mk a_Course_School a_Course_Code) a_Credits a_Grade a_Day [] a_Bundle [])).Course.School ((qa.mk (qc.mk a_Course_School a_Course_Code) a_Credits a_Grade a_Day [] a_Bundle [])).Course.Code ((qa.mk (qc.mk a_Course_School a_Course_Code) a_Credits a_Grade a_Day [] a_Bundle [])).Credits ((qa.mk (qc.mk a_Course_School a_Course_Code) a_Credits a_Grade a_Day [] a_Bundle [])).Grade ((qa.mk (qc.mk a_Course_School a_Course_Code) a_Credits a_Grade a_Day [] a_Bundle [])).Day ((qa.mk (qc.mk a_Course_School a_Course_Code) a_Credits a_Grade a_Day [] a_Bundle [])).Sources ((qa.mk (qc.mk a_Course_School a_Course_Code) a_Credits a_Grade a_Day [] a_Bundle [])).Bundle ((qa.mk (qc.mk a_Course_School a_Course_Code) a_Credits a_Grade a_Day [] a_Bundle [])).Path
  first
    | exact h
    | (simp only [rL, dL, bR, bZ, Nat.reduceAdd] at h; exact h)
noncomputable def JV (fu : Nat) (n : qb) (s : qd) (a : qa) : Option Bool :=
  if zH n = Bool.true then Option.bind (zf fu n.Set a.Course) fun (a2 : Bool) =>
    if a2 = Bool.true then Option.bind (q0J fu s a.Grade n.Min) fun (e0 : Bool) =>
      some e0
    else some Bool.false
  else some Bool.false
theorem q1P (fu : Nat) (n : qb) (s : qd) (a : qa) : qk (JV fu n s a) (QA n s a) := by
  unfold JV QA
  repeat (first
    | with_reducible exact qk.refl _
    | with_reducible exact qk.none _
    | with_reducible apply Zn
    | with_reducible apply q4X
    | with_reducible refine qk.bind ?_ (fun _ => ?_)
    | with_reducible refine qk.ite ?_ ?_
    | with_reducible refine qk.sum (fun _ => ?_) (fun _ => ?_)
    | with_reducible refine qk.lim (fun _ => ?_))
noncomputable def Qb (b0 : Int) (n : qb) (s : qd) (b3 : ql) (t13 : List qa) (t14 : Int) : (ql × Int) → Option ((ql × Int) ⊕ ql)
  | (out, t15) =>
    if t15 < t14 then if 0 ≤ t15 ∧ t15 < ((t13.length : Nat) : Int) then Option.bind t13[Int.toNat t15]? fun (a : qa) =>
        Option.bind (QX t15 b0) fun (a2 : Bool) =>
        if a2 = Bool.true then if out.fine = Bool.true then Option.bind (QA n s a) fun (a3 : Bool) =>
            some (Sum.inl (ql.mk (w64 (out.many + 1)) (w64 (out.credits + a.Credits)) a3, w64 (t15 + 1)))
          else some (Sum.inl (ql.mk (w64 (out.many + 1)) (w64 (out.credits + a.Credits)) Bool.false, w64 (t15 + 1)))
        else some (Sum.inl (out, w64 (t15 + 1)))
      else none
    else some (Sum.inr out)
theorem q6a : ∀ (b0 n_Kind n_N n_Min : Int) (n_Set : List qc) (n_L : List qb) (s_Worst s_Best s_Pass b3_many b3_credits : Int) (b3_fine : Bool) (out_many out_credits : Int) (out_fine : Bool) (t13 : List qa) (t14 t15 : Int), XL2 evo 32 1 3 ⟨[(3, R.c (C.fn 46 [] [dP 0])), (4, rP 1), (5, rP 2), (8, rP 3), (9, rP 4), (13, rL 8 qf t13), (14, rI t14), (15, rI t15)], [(0, B.blk 3 [dI b0]), (1, B.blk 31 [dI n_Kind, dI n_N, dI n_Min, dL 2 qe n_Set, dL 5 qg n_L]), (2, B.blk 37 [dI s_Worst, dI s_Best, dI s_Pass]), (3, B.blk 70 [dI b3_many, dI b3_credits, dB b3_fine]), (4, B.blk 70 [dI out_many, dI out_credits, dB out_fine])], 5, 44⟩ = (qM (Qb b0 (qb.mk n_Kind n_N n_Min n_Set n_L) (qd.mk s_Worst s_Best s_Pass) (ql.mk b3_many b3_credits b3_fine) t13 t14) ((ql.mk out_many out_credits out_fine), t15)).bind (fun (e : ql) => some (Go.Exit.exit 0, ⟨[(8, rP 1), (9, rP 2)], [(0, B.blk 3 [dI b0]), (1, B.blk 70 [dI b3_many, dI b3_credits, dB b3_fine]), (2, B.blk 70 [dI e.many, dI e.credits, dB e.fine])], 3, 44⟩)) :=
  fun b0 n_Kind n_N n_Min n_Set n_L s_Worst s_Best s_Pass b3_many b3_credits b3_fine out_many out_credits out_fine t13 t14 t15 => by
    have h := q1e (E := evo) (f := 32) (k := 1) (st := fun x : ql × Int => (⟨[(3, R.c (C.fn 46 [] [dP 0])), (4, rP 1), (5, rP 2), (8, rP 3), (9, rP 4), (13, rL 8 qf t13), (14, rI t14), (15, rI x.2)], [(0, B.blk 3 [dI b0]), (1, B.blk 31 [dI n_Kind, dI n_N, dI n_Min, dL 2 qe n_Set, dL 5 qg n_L]), (2, B.blk 37 [dI s_Worst, dI s_Best, dI s_Pass]), (3, B.blk 70 [dI b3_many, dI b3_credits, dB b3_fine]), (4, B.blk 70 [dI x.1.many, dI x.1.credits, dB x.1.fine])], 5, 44⟩ : S)) (ex := fun (e : ql) => (Go.Exit.exit 0, ⟨[(8, rP 1), (9, rP 2)], [(0, B.blk 3 [dI b0]), (1, B.blk 70 [dI b3_many, dI b3_credits, dB b3_fine]), (2, B.blk 70 [dI e.many, dI e.credits, dB e.fine])], 3, 44⟩)) (step := (Qb b0 (qb.mk n_Kind n_N n_Min n_Set n_L) (qd.mk s_Worst s_Best s_Pass) (ql.mk b3_many b3_credits b3_fine) t13 t14)) qii qhI (fun e h => by cases h) (fun x => by
      obtain ⟨out, t15⟩ := x; have := qml; have := @qc3.eq_1; have := @q4S; have := @q2b; have := @Qb.eq_1; exact gA) ((ql.mk out_many out_credits out_fine), t15)
    exact h
noncomputable def q1l (fu : Nat) (b0 : Int) (n : qb) (s : qd) (b3 : ql) (t13 : List qa) (t14 : Int) : (ql × Int) → Option ((ql × Int) ⊕ ql)
  | (out, t15) =>
    if t15 < t14 then if 0 ≤ t15 ∧ t15 < ((t13.length : Nat) : Int) then Option.bind t13[Int.toNat t15]? fun (a : qa) =>
        Option.bind (QX t15 b0) fun (a2 : Bool) =>
        if a2 = Bool.true then if out.fine = Bool.true then Option.bind (JV fu n s a) fun (a3 : Bool) =>
            some (Sum.inl (ql.mk (w64 (out.many + 1)) (w64 (out.credits + a.Credits)) a3, w64 (t15 + 1)))
          else some (Sum.inl (ql.mk (w64 (out.many + 1)) (w64 (out.credits + a.Credits)) Bool.false, w64 (t15 + 1)))
        else some (Sum.inl (out, w64 (t15 + 1)))
      else none
    else some (Sum.inr out)
theorem q6A (fu : Nat) (b0 : Int) (n : qb) (s : qd) (b3 : ql) (t13 : List qa) (t14 : Int) : ∀ x, qk (q1l fu b0 n s b3 t13 t14 x) (Qb b0 n s b3 t13 t14 x) := by
  rintro ⟨out, t15⟩
  unfold q1l Qb
  try dsimp only
  repeat (first
    | with_reducible exact qk.refl _
    | with_reducible exact qk.none _
    | with_reducible apply q1P
    | with_reducible refine qk.bind ?_ (fun _ => ?_)
    | with_reducible refine qk.ite ?_ ?_
    | with_reducible refine qk.sum (fun _ => ?_) (fun _ => ?_)
    | with_reducible refine qk.lim (fun _ => ?_))
noncomputable def QN (n : qb) (s : qd) (l : List qa) (b0 : Int) : Option ql :=
  Option.bind (qM (Qb b0 n s (ql.mk 0 0 Bool.false) l ((l.length : Nat) : Int)) (ql.mk 0 0 Bool.true, 0)) fun (a : ql) =>
  some a
theorem JZ : ∀ (n_Kind n_N n_Min : Int) (n_Set : List qc) (n_L : List qb) (s_Worst s_Best s_Pass : Int) (l : List qa) (b0 : Int), ev 32 1 [R.agg [dI n_Kind, dI n_N, dI n_Min, dL 2 qe n_Set, dL 5 qg n_L], R.agg [dI s_Worst, dI s_Best, dI s_Pass], rL 8 qf l, R.c (C.fn 46 [] [dP 0])] [(0, B.blk 3 [dI b0])] = (QN (qb.mk n_Kind n_N n_Min n_Set n_L) (qd.mk s_Worst s_Best s_Pass) l b0).bind (fun (e : ql) => some (R.agg [dI e.many, dI e.credits, dB e.fine], [(0, B.blk 3 [dI b0])])) :=
  fun n_Kind n_N n_Min n_Set n_L s_Worst s_Best s_Pass l b0 => by
    rw [qz qlq qqN.2.2.2 qpS]
    have := qml; have := @q6a; have := @QN.eq_1; exact gA
noncomputable def JT (fu : Nat) (n : qb) (s : qd) (l : List qa) (b0 : Int) : Option ql :=
  Option.bind (itT (q1l fu b0 n s (ql.mk 0 0 Bool.false) l ((l.length : Nat) : Int)) fu (ql.mk 0 0 Bool.true, 0)) fun (a : ql) =>
  some a
theorem q04 (fu : Nat) (n : qb) (s : qd) (l : List qa) (b0 : Int) : qk (JT fu n s l b0) (QN n s l b0) := by
  unfold JT QN
  repeat (first
    | with_reducible exact qk.refl _
    | with_reducible exact qk.none _
    | with_reducible apply q6A
    | with_reducible refine qk.bind ?_ (fun _ => ?_)
    | with_reducible refine qk.ite ?_ ?_
    | with_reducible refine qk.sum (fun _ => ?_) (fun _ => ?_)
    | with_reducible refine qk.lim (fun _ => ?_))
theorem qst : okL 50 qer := qy (qi qpf) (by kernel_rfl) (by kernel_rfl)
def qv9 := JA_ @qer.eq_1 (JA_ @Try.f50.eq_1 @qpf)
noncomputable def ZL (x : ql) (x1 : qb) : Option Bool :=
  if x.fine = Bool.true then some (x.many == 1)
  else some Bool.false
noncomputable def qG (x : ql) (x1 : qb) : Bool :=
  if x.fine = Bool.true then x.many == 1
  else Bool.false
theorem q3o (x : ql) (x1 : qb) : ZL x x1 = some (qG x x1) := by
  unfold ZL qG
  simp only [zX]
theorem ZR : ∀ (x_many x_credits : Int) (x_fine : Bool) (x1_Kind x1_N x1_Min : Int) (x1_Set : List qc) (x1_L : List qb), ev 50 0 [R.agg [dI x_many, dI x_credits, dB x_fine], R.agg [dI x1_Kind, dI x1_N, dI x1_Min, dL 2 qe x1_Set, dL 5 qg x1_L]] [] = some (rB (qG (ql.mk x_many x_credits x_fine) (qb.mk x1_Kind x1_N x1_Min x1_Set x1_L)), []) :=
  fun x_many x_credits x_fine x1_Kind x1_N x1_Min x1_Set x1_L => by
    have h : ev 50 0 [R.agg [dI x_many, dI x_credits, dB x_fine], R.agg [dI x1_Kind, dI x1_N, dI x1_Min, dL 2 qe x1_Set, dL 5 qg x1_L]] [] = (ZL (ql.mk x_many x_credits x_fine) (qb.mk x1_Kind x1_N x1_Min x1_Set x1_L)).bind (fun (e : Bool) => some (rB e, [])) := by
      rw [qz qpf qtb.2.2.2 qst]
      have := qv9; have := @ZL.eq_1; exact gA
    rw [q3o] at h
    exact h
theorem quJ : okL 51 qdY := qy (qi qpr) (by kernel_rfl) (by kernel_rfl)
def qsR := JA_ @qdY.eq_1 (JA_ @Try.f51.eq_1 @qpr)
noncomputable def q08 (x : ql) (n : qb) : Option Bool :=
  if x.fine = Bool.true then if 0 < x.many then some (decide (n.N ≤ x.credits))
    else some Bool.false
  else some Bool.false
noncomputable def qV (x : ql) (n : qb) : Bool :=
  if x.fine = Bool.true then if 0 < x.many then decide (n.N ≤ x.credits)
    else Bool.false
  else Bool.false
theorem q5g (x : ql) (n : qb) : q08 x n = some (qV x n) := by
  unfold q08 qV
  simp only [zX]
theorem JS : ∀ (x_many x_credits : Int) (x_fine : Bool) (n_Kind n_N n_Min : Int) (n_Set : List qc) (n_L : List qb), ev 51 0 [R.agg [dI x_many, dI x_credits, dB x_fine], R.agg [dI n_Kind, dI n_N, dI n_Min, dL 2 qe n_Set, dL 5 qg n_L]] [] = some (rB (qV (ql.mk x_many x_credits x_fine) (qb.mk n_Kind n_N n_Min n_Set n_L)), []) :=
  fun x_many x_credits x_fine n_Kind n_N n_Min n_Set n_L => by
    have h : ev 51 0 [R.agg [dI x_many, dI x_credits, dB x_fine], R.agg [dI n_Kind, dI n_N, dI n_Min, dL 2 qe n_Set, dL 5 qg n_L]] [] = (q08 (ql.mk x_many x_credits x_fine) (qb.mk n_Kind n_N n_Min n_Set n_L)).bind (fun (e : Bool) => some (rB e, [])) := by
      rw [qz qpr qt4.2.2.2 quJ]
      have := qsR; have := @q08.eq_1; exact gA
    rw [q5g] at h
    exact h
noncomputable def qx (x : (qb × List qa × Int × qd)) : List R × List (Nat × B) := ([R.agg [C.d (D.int .i64 x.1.Kind), C.d (D.int .i64 x.1.N), C.d (D.int .i64 x.1.Min), C.d (D.sl 2 x.1.Set.length (x.1.Set.flatMap qe)), C.d (D.sl 5 x.1.L.length (x.1.L.flatMap qg))], R.c (C.ptr 0 0), R.c (C.ptr 1 0), R.c (C.ptr 2 0), R.c (C.ptr 3 0), R.c (C.ptr 4 0), R.c (C.ptr 5 0)], [(0, B.blk 32 [C.d (D.sl 8 x.2.1.length (x.2.1.flatMap qf))]), (1, B.blk 62 [C.fn 22 [] []]), (2, B.blk 3 [C.d (D.int .i64 x.2.2.1)]), (3, B.blk 37 [C.d (D.int .i64 x.2.2.2.Worst), C.d (D.int .i64 x.2.2.2.Best), C.d (D.int .i64 x.2.2.2.Pass)]), (4, B.blk 94 [C.fn 45 [] [C.ptr 0 0, C.ptr 1 0, C.ptr 2 0, C.ptr 3 0, C.ptr 4 0, C.ptr 5 0]]), (5, B.blk 62 [C.fn 23 [] []])])
noncomputable def qP : (List Bool × List qa × Int × qd) → R × List (Nat × B) := fun (e : List Bool × List qa × Int × qd) => (R.c (C.d (D.sl 1 e.1.length (e.1.flatMap eB))), [(0, B.blk 32 [C.d (D.sl 8 e.2.1.length (e.2.1.flatMap qf))]), (1, B.blk 62 [C.fn 22 [] []]), (2, B.blk 3 [C.d (D.int .i64 e.2.2.1)]), (3, B.blk 37 [C.d (D.int .i64 e.2.2.2.Worst), C.d (D.int .i64 e.2.2.2.Best), C.d (D.int .i64 e.2.2.2.Pass)]), (4, B.blk 94 [C.fn 45 [] [C.ptr 0 0, C.ptr 1 0, C.ptr 2 0, C.ptr 3 0, C.ptr 4 0, C.ptr 5 0]]), (5, B.blk 62 [C.fn 23 [] []])])
noncomputable def zr (rF : (qb × List qa × Int × qd) → Option (List Bool × List qa × Int × qd)) (b0 : List qa) (b2 : Int) (b3 : qd) (b6 : qb) : (List Bool × Int) → Option ((List Bool × Int) ⊕ (List Bool))
  | (w7, b8) =>
    if b8 < ((w7.length : Nat) : Int) then Option.bind (QN b6 b3 b0 b8) fun (a2 : ql) =>
      if 0 ≤ b8 ∧ b8 < ((w7.length : Nat) : Int) then if Int.toNat b8 + 1 ≤ w7.length then some (Sum.inl (List.set w7 (Int.toNat b8) (qG a2 b6), w64 (b8 + 1)))
        else none
      else none
    else some (Sum.inr w7)
theorem q2V (rE : Orc) (rF : (qb × List qa × Int × qd) → Option (List Bool × List qa × Int × qd)) (hF : ∀ y, rE (.fn 45) 6 (qx y).1 (qx y).2 = (rF y).bind fun e => some (qP e)) (hM : ∀ g k a G, g ≠ 45 → rE (.fn g) k a G = ev g k a G) (hR : ∀ g asg bd k a G, rE (.rd g asg bd) k a G = evr g asg bd k a G) : ∀ (w7 : List Bool) (b0 : List qa) (b2 b3_Worst b3_Best b3_Pass b6_Kind b6_N b6_Min : Int) (b6_Set : List qc) (b6_L : List qb) (b8 : Int) (w7_len : Nat), w7_len = w7.length → XL2 rE 45 6 5 ⟨[(1, rP 0), (2, rP 1), (3, rP 2), (4, rP 3), (7, rP 6), (9, rO 7 1 w7_len), (10, R.c (C.fn 50 [] [])), (11, rP 8)], [(0, B.blk 32 [dL 8 qf b0]), (1, B.blk 62 [C.fn 22 [] []]), (2, B.blk 3 [dI b2]), (3, B.blk 37 [dI b3_Worst, dI b3_Best, dI b3_Pass]), (4, B.blk 94 [C.fn 45 [] [dP 0, dP 1, dP 2, dP 3, dP 4, dP 5]]), (5, B.blk 62 [C.fn 23 [] []]), (6, B.blk 31 [dI b6_Kind, dI b6_N, dI b6_Min, dL 2 qe b6_Set, dL 5 qg b6_L]), (7, bR 4 1 eB w7), (8, B.blk 3 [dI b8])], 9, 142⟩ = (qM (zr rF b0 b2 (qd.mk b3_Worst b3_Best b3_Pass) (qb.mk b6_Kind b6_N b6_Min b6_Set b6_L)) (w7, b8)).bind (fun (e : List Bool) => some (Go.Exit.exit 0, ⟨[(3, rP 2), (9, rO 6 1 e.length)], [(0, B.blk 32 [dL 8 qf b0]), (1, B.blk 62 [C.fn 22 [] []]), (2, B.blk 3 [dI b2]), (3, B.blk 37 [dI b3_Worst, dI b3_Best, dI b3_Pass]), (4, B.blk 94 [C.fn 45 [] [dP 0, dP 1, dP 2, dP 3, dP 4, dP 5]]), (5, B.blk 62 [C.fn 23 [] []]), (6, bR 4 1 eB e)], 7, 142⟩)) :=
  by
  intro w7 b0 b2 b3_Worst b3_Best b3_Pass b6_Kind b6_N b6_Min b6_Set b6_L b8 w7_len h0
  subst h0
  revert b8; revert w7; exact q8r qc8 qbI (fun e => by exact ⟨_, rfl, fun h => by cases h⟩) fun w7 b8 => by
    have hF' : ∀ (x0_Kind x0_N x0_Min : Int) (x0_Set : List qc) (x0_L : List qb) (v : List qa) (v2 v3_Worst v3_Best v3_Pass : Int), rE (.fn 45) 6 [R.agg [dI x0_Kind, dI x0_N, dI x0_Min, dL 2 qe x0_Set, dL 5 qg x0_L], rP 0, rP 1, rP 2, rP 3, rP 4, rP 5] [(0, B.blk 32 [dL 8 qf v]), (1, B.blk 62 [C.fn 22 [] []]), (2, B.blk 3 [dI v2]), (3, B.blk 37 [dI v3_Worst, dI v3_Best, dI v3_Pass]), (4, B.blk 94 [C.fn 45 [] [dP 0, dP 1, dP 2, dP 3, dP 4, dP 5]]), (5, B.blk 62 [C.fn 23 [] []])] = (rF ((qb.mk x0_Kind x0_N x0_Min x0_Set x0_L), v, v2, (qd.mk v3_Worst v3_Best v3_Pass))).bind (fun e => some (rL 1 eB e.1, [(0, B.blk 32 [dL 8 qf e.2.1]), (1, B.blk 62 [C.fn 22 [] []]), (2, B.blk 3 [dI e.2.2.1]), (3, B.blk 37 [dI e.2.2.2.Worst, dI e.2.2.2.Best, dI e.2.2.2.Pass]), (4, B.blk 94 [C.fn 45 [] [dP 0, dP 1, dP 2, dP 3, dP 4, dP 5]]), (5, B.blk 62 [C.fn 23 [] []])])) := fun x0_Kind x0_N x0_Min x0_Set x0_L v v2 v3_Worst v3_Best v3_Pass => hF ((qb.mk x0_Kind x0_N x0_Min x0_Set x0_L), v, v2, (qd.mk v3_Worst v3_Best v3_Pass))
    have := qc2; have := @q8V.eq_1; have := @q2W; have := @JZ; have := @ZR; have := @zr.eq_1; exact gA
noncomputable def JD (fu : Nat) (rF : (qb × List qa × Int × qd) → Option (List Bool × List qa × Int × qd)) (b0 : List qa) (b2 : Int) (b3 : qd) (b6 : qb) : (List Bool × Int) → Option ((List Bool × Int) ⊕ (List Bool))
  | (w7, b8) =>
    if b8 < ((w7.length : Nat) : Int) then Option.bind (JT fu b6 b3 b0 b8) fun (a2 : ql) =>
      if 0 ≤ b8 ∧ b8 < ((w7.length : Nat) : Int) then if Int.toNat b8 + 1 ≤ w7.length then some (Sum.inl (List.set w7 (Int.toNat b8) (qG a2 b6), w64 (b8 + 1)))
        else none
      else none
    else some (Sum.inr w7)
theorem q2Y (fu : Nat) (rF rF2 : (qb × List qa × Int × qd) → Option (List Bool × List qa × Int × qd)) (hF : ∀ y, qk (rF y) (rF2 y)) (b0 : List qa) (b2 : Int) (b3 : qd) (b6 : qb) : ∀ x, qk (JD fu rF b0 b2 b3 b6 x) (zr rF2 b0 b2 b3 b6 x) := by
  rintro ⟨w7, b8⟩
  unfold JD zr
  try dsimp only
  repeat (first
    | with_reducible exact qk.refl _
    | with_reducible exact qk.none _
    | exact hF _
    | with_reducible apply q04
    | with_reducible refine qk.bind ?_ (fun _ => ?_)
    | with_reducible refine qk.ite ?_ ?_
    | with_reducible refine qk.sum (fun _ => ?_) (fun _ => ?_)
    | with_reducible refine qk.lim (fun _ => ?_))
noncomputable def zt (rF : (qb × List qa × Int × qd) → Option (List Bool × List qa × Int × qd)) (b0 : List qa) (b2 : Int) (b3 : qd) (b6 : qb) : (List Bool × Int) → Option ((List Bool × Int) ⊕ (List Bool))
  | (w7, b8) =>
    if b8 < ((w7.length : Nat) : Int) then Option.bind (QN b6 b3 b0 b8) fun (a2 : ql) =>
      if 0 ≤ b8 ∧ b8 < ((w7.length : Nat) : Int) then if Int.toNat b8 + 1 ≤ w7.length then some (Sum.inl (List.set w7 (Int.toNat b8) (qV a2 b6), w64 (b8 + 1)))
        else none
      else none
    else some (Sum.inr w7)
theorem q3b (rE : Orc) (rF : (qb × List qa × Int × qd) → Option (List Bool × List qa × Int × qd)) (hF : ∀ y, rE (.fn 45) 6 (qx y).1 (qx y).2 = (rF y).bind fun e => some (qP e)) (hM : ∀ g k a G, g ≠ 45 → rE (.fn g) k a G = ev g k a G) (hR : ∀ g asg bd k a G, rE (.rd g asg bd) k a G = evr g asg bd k a G) : ∀ (w7 : List Bool) (b0 : List qa) (b2 b3_Worst b3_Best b3_Pass b6_Kind b6_N b6_Min : Int) (b6_Set : List qc) (b6_L : List qb) (b8 : Int) (w7_len : Nat), w7_len = w7.length → XL2 rE 45 6 5 ⟨[(1, rP 0), (2, rP 1), (3, rP 2), (4, rP 3), (7, rP 6), (9, rO 7 1 w7_len), (10, R.c (C.fn 51 [] [])), (11, rP 8)], [(0, B.blk 32 [dL 8 qf b0]), (1, B.blk 62 [C.fn 22 [] []]), (2, B.blk 3 [dI b2]), (3, B.blk 37 [dI b3_Worst, dI b3_Best, dI b3_Pass]), (4, B.blk 94 [C.fn 45 [] [dP 0, dP 1, dP 2, dP 3, dP 4, dP 5]]), (5, B.blk 62 [C.fn 23 [] []]), (6, B.blk 31 [dI b6_Kind, dI b6_N, dI b6_Min, dL 2 qe b6_Set, dL 5 qg b6_L]), (7, bR 4 1 eB w7), (8, B.blk 3 [dI b8])], 9, 142⟩ = (qM (zt rF b0 b2 (qd.mk b3_Worst b3_Best b3_Pass) (qb.mk b6_Kind b6_N b6_Min b6_Set b6_L)) (w7, b8)).bind (fun (e : List Bool) => some (Go.Exit.exit 0, ⟨[(3, rP 2), (9, rO 6 1 e.length)], [(0, B.blk 32 [dL 8 qf b0]), (1, B.blk 62 [C.fn 22 [] []]), (2, B.blk 3 [dI b2]), (3, B.blk 37 [dI b3_Worst, dI b3_Best, dI b3_Pass]), (4, B.blk 94 [C.fn 45 [] [dP 0, dP 1, dP 2, dP 3, dP 4, dP 5]]), (5, B.blk 62 [C.fn 23 [] []]), (6, bR 4 1 eB e)], 7, 142⟩)) :=
  by
  intro w7 b0 b2 b3_Worst b3_Best b3_Pass b6_Kind b6_N b6_Min b6_Set b6_L b8 w7_len h0
  subst h0
  revert b8; revert w7; exact q8r qc8 qbI (fun e => by exact ⟨_, rfl, fun h => by cases h⟩) fun w7 b8 => by
    have hF' : ∀ (x0_Kind x0_N x0_Min : Int) (x0_Set : List qc) (x0_L : List qb) (v : List qa) (v2 v3_Worst v3_Best v3_Pass : Int), rE (.fn 45) 6 [R.agg [dI x0_Kind, dI x0_N, dI x0_Min, dL 2 qe x0_Set, dL 5 qg x0_L], rP 0, rP 1, rP 2, rP 3, rP 4, rP 5] [(0, B.blk 32 [dL 8 qf v]), (1, B.blk 62 [C.fn 22 [] []]), (2, B.blk 3 [dI v2]), (3, B.blk 37 [dI v3_Worst, dI v3_Best, dI v3_Pass]), (4, B.blk 94 [C.fn 45 [] [dP 0, dP 1, dP 2, dP 3, dP 4, dP 5]]), (5, B.blk 62 [C.fn 23 [] []])] = (rF ((qb.mk x0_Kind x0_N x0_Min x0_Set x0_L), v, v2, (qd.mk v3_Worst v3_Best v3_Pass))).bind (fun e => some (rL 1 eB e.1, [(0, B.blk 32 [dL 8 qf e.2.1]), (1, B.blk 62 [C.fn 22 [] []]), (2, B.blk 3 [dI e.2.2.1]), (3, B.blk 37 [dI e.2.2.2.Worst, dI e.2.2.2.Best, dI e.2.2.2.Pass]), (4, B.blk 94 [C.fn 45 [] [dP 0, dP 1, dP 2, dP 3, dP 4, dP 5]]), (5, B.blk 62 [C.fn 23 [] []])])) := fun x0_Kind x0_N x0_Min x0_Set x0_L v v2 v3_Worst v3_Best v3_Pass => hF ((qb.mk x0_Kind x0_N x0_Min x0_Set x0_L), v, v2, (qd.mk v3_Worst v3_Best v3_Pass))
    have := qc2; have := @q8V.eq_1; have := @q2W; have := @JZ; have := @JS; have := @zt.eq_1; exact gA
noncomputable def Jr (fu : Nat) (rF : (qb × List qa × Int × qd) → Option (List Bool × List qa × Int × qd)) (b0 : List qa) (b2 : Int) (b3 : qd) (b6 : qb) : (List Bool × Int) → Option ((List Bool × Int) ⊕ (List Bool))
  | (w7, b8) =>
    if b8 < ((w7.length : Nat) : Int) then Option.bind (JT fu b6 b3 b0 b8) fun (a2 : ql) =>
      if 0 ≤ b8 ∧ b8 < ((w7.length : Nat) : Int) then if Int.toNat b8 + 1 ≤ w7.length then some (Sum.inl (List.set w7 (Int.toNat b8) (qV a2 b6), w64 (b8 + 1)))
        else none
      else none
    else some (Sum.inr w7)
theorem q3i (fu : Nat) (rF rF2 : (qb × List qa × Int × qd) → Option (List Bool × List qa × Int × qd)) (hF : ∀ y, qk (rF y) (rF2 y)) (b0 : List qa) (b2 : Int) (b3 : qd) (b6 : qb) : ∀ x, qk (Jr fu rF b0 b2 b3 b6 x) (zt rF2 b0 b2 b3 b6 x) := by
  rintro ⟨w7, b8⟩
  unfold Jr zt
  try dsimp only
  repeat (first
    | with_reducible exact qk.refl _
    | with_reducible exact qk.none _
    | exact hF _
    | with_reducible apply q04
    | with_reducible refine qk.bind ?_ (fun _ => ?_)
    | with_reducible refine qk.ite ?_ ?_
    | with_reducible refine qk.sum (fun _ => ?_) (fun _ => ?_)
    | with_reducible refine qk.lim (fun _ => ?_))
noncomputable def qT (rF : (qb × List qa × Int × qd) → Option (List Bool × List qa × Int × qd)) (w7 : List Bool) (b0 : List qa) (b2 : Int) (b3 : qd) (b6 : qb) : (List Int × Int) → Option ((List Int × Int) ⊕ (List Int))
  | (w9, t13) =>
    if t13 < ((w9.length : Nat) : Int) then if 0 ≤ t13 ∧ t13 < ((w9.length : Nat) : Int) then if Int.toNat t13 + 1 ≤ w9.length then some (Sum.inl (List.set w9 (Int.toNat t13) (-1), w64 (t13 + 1)))
        else none
      else none
    else some (Sum.inr w9)
theorem q2E (rE : Orc) (rF : (qb × List qa × Int × qd) → Option (List Bool × List qa × Int × qd)) (hF : ∀ y, rE (.fn 45) 6 (qx y).1 (qx y).2 = (rF y).bind fun e => some (qP e)) (hM : ∀ g k a G, g ≠ 45 → rE (.fn g) k a G = ev g k a G) (hR : ∀ g asg bd k a G, rE (.rd g asg bd) k a G = evr g asg bd k a G) : ∀ (w7 : List Bool) (w9 : List Int) (b0 : List qa) (b2 b3_Worst b3_Best b3_Pass b6_Kind b6_N b6_Min : Int) (b6_Set : List qc) (b6_L : List qb) (t13 : Int) (w7_len w9_len : Nat), w7_len = w7.length → w9_len = w9.length → XL2 rE 45 6 14 ⟨[(3, rP 2), (5, rP 4), (6, rP 5), (7, rP 6), (9, rO 7 1 w7_len), (12, rP 8), (13, rI t13)], [(0, B.blk 32 [dL 8 qf b0]), (1, B.blk 62 [C.fn 22 [] []]), (2, B.blk 3 [dI b2]), (3, B.blk 37 [dI b3_Worst, dI b3_Best, dI b3_Pass]), (4, B.blk 94 [C.fn 45 [] [dP 0, dP 1, dP 2, dP 3, dP 4, dP 5]]), (5, B.blk 62 [C.fn 23 [] []]), (6, B.blk 31 [dI b6_Kind, dI b6_N, dI b6_Min, dL 2 qe b6_Set, dL 5 qg b6_L]), (7, bR 4 1 eB w7), (8, B.blk 95 [dO 9 1 w9_len]), (9, bR 3 1 eI w9)], 10, 142⟩ = (qM (qT rF w7 b0 b2 (qd.mk b3_Worst b3_Best b3_Pass) (qb.mk b6_Kind b6_N b6_Min b6_Set b6_L)) (w9, t13)).bind (fun (e : List Int) => some (Go.Exit.exit 2, ⟨[(3, rP 2), (5, rP 4), (6, rP 5), (7, rP 6), (9, rO 7 1 w7.length), (12, rP 8)], [(0, B.blk 32 [dL 8 qf b0]), (1, B.blk 62 [C.fn 22 [] []]), (2, B.blk 3 [dI b2]), (3, B.blk 37 [dI b3_Worst, dI b3_Best, dI b3_Pass]), (4, B.blk 94 [C.fn 45 [] [dP 0, dP 1, dP 2, dP 3, dP 4, dP 5]]), (5, B.blk 62 [C.fn 23 [] []]), (6, B.blk 31 [dI b6_Kind, dI b6_N, dI b6_Min, dL 2 qe b6_Set, dL 5 qg b6_L]), (7, bR 4 1 eB w7), (8, B.blk 95 [dO 9 1 e.length]), (9, bR 3 1 eI e)], 10, 142⟩)) :=
  by
  intro w7 w9 b0 b2 b3_Worst b3_Best b3_Pass b6_Kind b6_N b6_Min b6_Set b6_L t13 w7_len w9_len h0 h1
  subst h0 h1
  revert t13; revert w9; exact q8r qdv qeP (fun e => by exact ⟨_, rfl, fun h => by cases h⟩) fun w9 t13 => by
    have hF' : ∀ (x0_Kind x0_N x0_Min : Int) (x0_Set : List qc) (x0_L : List qb) (v : List qa) (v2 v3_Worst v3_Best v3_Pass : Int), rE (.fn 45) 6 [R.agg [dI x0_Kind, dI x0_N, dI x0_Min, dL 2 qe x0_Set, dL 5 qg x0_L], rP 0, rP 1, rP 2, rP 3, rP 4, rP 5] [(0, B.blk 32 [dL 8 qf v]), (1, B.blk 62 [C.fn 22 [] []]), (2, B.blk 3 [dI v2]), (3, B.blk 37 [dI v3_Worst, dI v3_Best, dI v3_Pass]), (4, B.blk 94 [C.fn 45 [] [dP 0, dP 1, dP 2, dP 3, dP 4, dP 5]]), (5, B.blk 62 [C.fn 23 [] []])] = (rF ((qb.mk x0_Kind x0_N x0_Min x0_Set x0_L), v, v2, (qd.mk v3_Worst v3_Best v3_Pass))).bind (fun e => some (rL 1 eB e.1, [(0, B.blk 32 [dL 8 qf e.2.1]), (1, B.blk 62 [C.fn 22 [] []]), (2, B.blk 3 [dI e.2.2.1]), (3, B.blk 37 [dI e.2.2.2.Worst, dI e.2.2.2.Best, dI e.2.2.2.Pass]), (4, B.blk 94 [C.fn 45 [] [dP 0, dP 1, dP 2, dP 3, dP 4, dP 5]]), (5, B.blk 62 [C.fn 23 [] []])])) := fun x0_Kind x0_N x0_Min x0_Set x0_L v v2 v3_Worst v3_Best v3_Pass => hF ((qb.mk x0_Kind x0_N x0_Min x0_Set x0_L), v, v2, (qd.mk v3_Worst v3_Best v3_Pass))
    have := qc2; have := @q9u.eq_1; have := @qT.eq_1; exact gA
noncomputable def J8 (fu : Nat) (rF : (qb × List qa × Int × qd) → Option (List Bool × List qa × Int × qd)) (w7 : List Bool) (b0 : List qa) (b2 : Int) (b3 : qd) (b6 : qb) : (List Int × Int) → Option ((List Int × Int) ⊕ (List Int))
  | (w9, t13) =>
    if t13 < ((w9.length : Nat) : Int) then if 0 ≤ t13 ∧ t13 < ((w9.length : Nat) : Int) then if Int.toNat t13 + 1 ≤ w9.length then some (Sum.inl (List.set w9 (Int.toNat t13) (-1), w64 (t13 + 1)))
        else none
      else none
    else some (Sum.inr w9)
theorem q2K (fu : Nat) (rF rF2 : (qb × List qa × Int × qd) → Option (List Bool × List qa × Int × qd)) (hF : ∀ y, qk (rF y) (rF2 y)) (w7 : List Bool) (b0 : List qa) (b2 : Int) (b3 : qd) (b6 : qb) : ∀ x, qk (J8 fu rF w7 b0 b2 b3 b6 x) (qT rF2 w7 b0 b2 b3 b6 x) := by
  rintro ⟨w9, t13⟩
  unfold J8 qT
  try dsimp only
  repeat (first
    | with_reducible exact qk.refl _
    | with_reducible exact qk.none _
    | exact hF _
    | with_reducible refine qk.bind ?_ (fun _ => ?_)
    | with_reducible refine qk.ite ?_ ?_
    | with_reducible refine qk.sum (fun _ => ?_) (fun _ => ?_)
    | with_reducible refine qk.lim (fun _ => ?_))
theorem qtg : okL 23 qdt := qy (qi qnk) (by kernel_rfl) (by kernel_rfl)
def qtt := JA_ @qdt.eq_1 (JA_ @Try.f23.eq_1 @qnk)
noncomputable def q13 (x0 : Int) (x1 : Int) : Option Unit :=
  some ()
noncomputable def q46 (x0 : Int) (x1 : Int) : Unit :=
  ()
theorem q6T (x0 x1 : Int) : q13 x0 x1 = some (q46 x0 x1) := by
  unfold q13 q46
  simp only [zX]
theorem q7L : ∀ (x0 x1 : Int), ev 23 0 [rI x0, rI x1] [] = some (rB Bool.false, []) :=
  fun x0 x1 => by
    have h : ev 23 0 [rI x0, rI x1] [] = (q13 x0 x1).bind (fun (e : Unit) => some (rB Bool.false, [])) := by
      rw [qz qnk quF.2.2.2 qtg]
      have := qtt; have := @q13.eq_1; exact gA
    rw [q6T] at h
    exact h
theorem qs0 : okL 47 qbN := qy (qi qmq) (by kernel_rfl) (by kernel_rfl)
def qru := JA_ @qbN.eq_1 (JA_ @Try.f47.eq_1 @qmq)
theorem qlR : lbO 47 1 = qfR := Q8 (qi qmq) rfl
theorem qki : okL 47 qfR := zd qs0 (List.mem_of_getElem? (i := 0) (by kernel_rfl))
theorem qv2 : okL 48 qgb := qy (qi qo7) (by kernel_rfl) (by kernel_rfl)
def qtn := JA_ @qgb.eq_1 (JA_ @Try.f48.eq_1 @qo7)
noncomputable def ZG (sub : Int) (rest : Int) (w4 : List Int) (w5 : List Int) (v : List Bool) (v2 : Int) : Option (List Int) :=
  if 0 ≤ sub ∧ sub < ((v.length : Nat) : Int) then Option.bind v[Int.toNat sub]? fun (a : Bool) =>
    if a = Bool.true then if 0 ≤ rest ∧ rest < ((w4.length : Nat) : Int) then Option.bind w4[Int.toNat rest]? fun (a2 : Int) =>
        if 0 ≤ a2 then if 0 ≤ v2 ∧ v2 < ((w5.length : Nat) : Int) then Option.bind w5[Int.toNat v2]? fun (a3 : Int) =>
            if 0 ≤ rest ∧ rest < ((w4.length : Nat) : Int) then Option.bind w4[Int.toNat rest]? fun (a4 : Int) =>
              if 0 ≤ v2 ∧ v2 < ((w5.length : Nat) : Int) then if Int.toNat v2 + 1 ≤ w5.length then some (List.set w5 (Int.toNat v2) (max a3 (w64 (a4 + 1))))
                else none
              else none
            else none
          else none
        else some w5
      else none
    else some w5
  else none
theorem q4T : ∀ (sub rest : Int) (w4 w5 : List Int) (v : List Bool) (v2 : Int) (w4_len w5_len : Nat), w4_len = w4.length → w5_len = w5.length → ev 48 4 [rI sub, rI rest, rP 0, rP 1, rP 2, rP 3] [(0, B.blk 63 [dL 1 eB v]), (1, B.blk 95 [dO 4 1 w4_len]), (2, B.blk 95 [dO 5 1 w5_len]), (3, B.blk 3 [dI v2]), (4, bR 3 1 eI w4), (5, bR 3 1 eI w5)] = (ZG sub rest w4 w5 v v2).bind (fun (e : List Int) => some (R.tup [], [(0, B.blk 63 [dL 1 eB v]), (1, B.blk 95 [dO 4 1 w4.length]), (2, B.blk 95 [dO 5 1 e.length]), (3, B.blk 3 [dI v2]), (4, bR 3 1 eI w4), (5, bR 3 1 eI e)])) :=
  by
  intro sub rest w4 w5 v v2 w4_len w5_len h0 h1
  subst h0 h1
  rw [qz qo7 qtM.2.2.2 qv2]
  have := qtn; have := @ZG.eq_1; exact gA
noncomputable def qD (w4 : List Int) (b0 : List Bool) (b3 : Int) (set0 : Int) : (List Int × Int) → Option ((List Int × Int) ⊕ (List Int))
  | (w5, sub) =>
    if 0 < sub then Option.bind (ZG sub (J0 Go.BinOp.andNot Go.IntKind.i64 set0 sub) w4 w5 b0 b3) fun (a : List Int) =>
      some (Sum.inl (a, J0 Go.BinOp.and Go.IntKind.i64 (w64 (sub - 1)) set0))
    else some (Sum.inr w5)
theorem q0W : ∀ (w4 w5 : List Int) (b0 : List Bool) (b3 set0 sub : Int) (w4_len w5_len : Nat), w4_len = w4.length → w5_len = w5.length → XL2 evo 47 4 1 ⟨[(1, rI set0), (2, R.c (C.fn 48 [] [dP 0, dP 1, dP 2, dP 3])), (6, rI sub)], [(0, B.blk 63 [dL 1 eB b0]), (1, B.blk 95 [dO 4 1 w4_len]), (2, B.blk 95 [dO 5 1 w5_len]), (3, B.blk 3 [dI b3]), (4, bR 3 1 eI w4), (5, bR 3 1 eI w5)], 6, 20⟩ = (qM (qD w4 b0 b3 set0) (w5, sub)).bind (fun (e : List Int) => some (Go.Exit.exit 0, ⟨[], [(0, B.blk 63 [dL 1 eB b0]), (1, B.blk 95 [dO 4 1 w4.length]), (2, B.blk 95 [dO 5 1 e.length]), (3, B.blk 3 [dI b3]), (4, bR 3 1 eI w4), (5, bR 3 1 eI e)], 6, 20⟩)) :=
  by
  intro w4 w5 b0 b3 set0 sub w4_len w5_len h0 h1
  subst h0 h1
  revert sub; revert w5; exact q8r qlR qki (fun e => by exact ⟨_, rfl, fun h => by cases h⟩) fun w5 sub => by
    have := qru; have := @qfR.eq_1; have := @q4T; have := @qD.eq_1; exact gA
noncomputable def qJ (set0 : Int) (t : List Int) (w5 : List Int) (b0 : List Bool) (b3 : Int) : Option (List Int) :=
  Option.bind (qM (qD t b0 b3 set0) (w5, set0)) fun (a : List Int) =>
  some a
theorem Jo : ∀ (set0 : Int) (t w5 : List Int) (b0 : List Bool) (b3 : Int) (t_len w5_len : Nat), t_len = t.length → w5_len = w5.length → ev 47 4 [rO 4 1 t_len, rI set0, R.c (C.fn 48 [] [dP 0, dP 1, dP 2, dP 3])] [(0, B.blk 63 [dL 1 eB b0]), (1, B.blk 95 [dO 4 1 t_len]), (2, B.blk 95 [dO 5 1 w5_len]), (3, B.blk 3 [dI b3]), (4, bR 3 1 eI t), (5, bR 3 1 eI w5)] = (qJ set0 t w5 b0 b3).bind (fun (e : List Int) => some (R.tup [], [(0, B.blk 63 [dL 1 eB b0]), (1, B.blk 95 [dO 4 1 t.length]), (2, B.blk 95 [dO 5 1 e.length]), (3, B.blk 3 [dI b3]), (4, bR 3 1 eI t), (5, bR 3 1 eI e)])) :=
  by
  intro set0 t w5 b0 b3 t_len w5_len h0 h1
  subst h0 h1
  rw [qz qmq quT.2.2.2 qs0]
  have := qru; have := @q0W; have := @qJ.eq_1; exact gA
noncomputable def zN (fu : Nat) (set0 : Int) (t : List Int) (w5 : List Int) (b0 : List Bool) (b3 : Int) : Option (List Int) :=
  Option.bind (itT (qD t b0 b3 set0) fu (w5, set0)) fun (a : List Int) =>
  some a
theorem Jt (fu : Nat) (set0 : Int) (t w5 : List Int) (b0 : List Bool) (b3 : Int) : qk (zN fu set0 t w5 b0 b3) (qJ set0 t w5 b0 b3) := by
  unfold zN qJ
  repeat (first
    | with_reducible exact qk.refl _
    | with_reducible exact qk.none _
    | with_reducible refine qk.bind ?_ (fun _ => ?_)
    | with_reducible refine qk.ite ?_ ?_
    | with_reducible refine qk.sum (fun _ => ?_) (fun _ => ?_)
    | with_reducible refine qk.lim (fun _ => ?_))
noncomputable def z6 (rF : (qb × List qa × Int × qd) → Option (List Bool × List qa × Int × qd)) (w7 : List Bool) (w9 : List Int) (b0 : List qa) (b2 : Int) (b3 : qd) (b6 : qb) (b10 : List Bool) (t18 : Bool) (t72 : List qb) (t73 : Int) (t74 : Int) (t96 : Int) : (List Int × Int) → Option ((List Int × Int) ⊕ (List Int))
  | (w12, t97) =>
    if t97 < t96 then if 0 ≤ t97 ∧ t97 < ((w12.length : Nat) : Int) then if Int.toNat t97 + 1 ≤ w12.length then if t18 = Bool.true then if 0 ≤ t97 ∧ t97 < ((w9.length : Nat) : Int) then Option.bind w9[Int.toNat t97]? fun (a2 : Int) =>
              if 0 ≤ t97 ∧ t97 < ((w12.length : Nat) : Int) then if Int.toNat t97 + 1 ≤ w12.length then Option.bind (qJ t97 w9 (List.set (List.set w12 (Int.toNat t97) (-1)) (Int.toNat t97) a2) b10 t97) fun (a3 : List Int) =>
                  some (Sum.inl (a3, w64 (t97 + 1)))
                else none
              else none
            else none
          else Option.bind (qJ t97 w9 (List.set w12 (Int.toNat t97) (-1)) b10 t97) fun (a4 : List Int) =>
          some (Sum.inl (a4, w64 (t97 + 1)))
        else none
      else none
    else some (Sum.inr w12)
theorem q3R (rE : Orc) (rF : (qb × List qa × Int × qd) → Option (List Bool × List qa × Int × qd)) (hF : ∀ y, rE (.fn 45) 6 (qx y).1 (qx y).2 = (rF y).bind fun e => some (qP e)) (hM : ∀ g k a G, g ≠ 45 → rE (.fn g) k a G = ev g k a G) (hR : ∀ g asg bd k a G, rE (.rd g asg bd) k a G = evr g asg bd k a G) : ∀ (w7 : List Bool) (w9 w12 : List Int) (b0 : List qa) (b2 b3_Worst b3_Best b3_Pass b6_Kind b6_N b6_Min : Int) (b6_Set : List qc) (b6_L : List qb) (b10 : List Bool) (t18 : Bool) (t72 : List qb) (t73 t74 t96 t97 : Int) (w7_len w9_len w12_len : Nat), w7_len = w7.length → w9_len = w9.length → w12_len = w12.length → XL2 rE 45 6 25 ⟨[(3, rP 2), (5, rP 4), (6, rP 5), (7, rP 6), (9, rO 7 1 w7_len), (12, rP 8), (17, rP 10), (18, rB t18), (19, rP 11), (72, rL 5 qg t72), (73, rI t73), (74, rI t74), (96, rI t96), (97, rI t97)], [(0, B.blk 32 [dL 8 qf b0]), (1, B.blk 62 [C.fn 22 [] []]), (2, B.blk 3 [dI b2]), (3, B.blk 37 [dI b3_Worst, dI b3_Best, dI b3_Pass]), (4, B.blk 94 [C.fn 45 [] [dP 0, dP 1, dP 2, dP 3, dP 4, dP 5]]), (5, B.blk 62 [C.fn 23 [] []]), (6, B.blk 31 [dI b6_Kind, dI b6_N, dI b6_Min, dL 2 qe b6_Set, dL 5 qg b6_L]), (7, bR 4 1 eB w7), (8, B.blk 95 [dO 9 1 w9_len]), (9, bR 3 1 eI w9), (10, B.blk 63 [dL 1 eB b10]), (11, B.blk 95 [dO 12 1 w12_len]), (12, bR 3 1 eI w12)], 13, 142⟩ = (qM (z6 rF w7 w9 b0 b2 (qd.mk b3_Worst b3_Best b3_Pass) (qb.mk b6_Kind b6_N b6_Min b6_Set b6_L) b10 t18 t72 t73 t74 t96) (w12, t97)).bind (fun (e : List Int) => some (Go.Exit.exit 6, ⟨[(3, rP 2), (5, rP 4), (6, rP 5), (7, rP 6), (9, rO 7 1 w7.length), (12, rP 8), (19, rP 10), (72, rL 5 qg t72), (73, rI t73), (74, rI t74)], [(0, B.blk 32 [dL 8 qf b0]), (1, B.blk 62 [C.fn 22 [] []]), (2, B.blk 3 [dI b2]), (3, B.blk 37 [dI b3_Worst, dI b3_Best, dI b3_Pass]), (4, B.blk 94 [C.fn 45 [] [dP 0, dP 1, dP 2, dP 3, dP 4, dP 5]]), (5, B.blk 62 [C.fn 23 [] []]), (6, B.blk 31 [dI b6_Kind, dI b6_N, dI b6_Min, dL 2 qe b6_Set, dL 5 qg b6_L]), (7, bR 4 1 eB w7), (8, B.blk 95 [dO 9 1 w9.length]), (9, bR 3 1 eI w9), (10, B.blk 95 [dO 11 1 e.length]), (11, bR 3 1 eI e)], 12, 142⟩)) :=
  by
  intro w7 w9 w12 b0 b2 b3_Worst b3_Best b3_Pass b6_Kind b6_N b6_Min b6_Set b6_L b10 t18 t72 t73 t74 t96 t97 w7_len w9_len w12_len h0 h1 h2
  subst h0 h1 h2
  revert t97; revert w12; exact q8r qfQ qf7 (fun e => by exact ⟨_, rfl, fun h => by cases h⟩) fun w12 t97 => by
    have hF' : ∀ (x0_Kind x0_N x0_Min : Int) (x0_Set : List qc) (x0_L : List qb) (v : List qa) (v2 v3_Worst v3_Best v3_Pass : Int), rE (.fn 45) 6 [R.agg [dI x0_Kind, dI x0_N, dI x0_Min, dL 2 qe x0_Set, dL 5 qg x0_L], rP 0, rP 1, rP 2, rP 3, rP 4, rP 5] [(0, B.blk 32 [dL 8 qf v]), (1, B.blk 62 [C.fn 22 [] []]), (2, B.blk 3 [dI v2]), (3, B.blk 37 [dI v3_Worst, dI v3_Best, dI v3_Pass]), (4, B.blk 94 [C.fn 45 [] [dP 0, dP 1, dP 2, dP 3, dP 4, dP 5]]), (5, B.blk 62 [C.fn 23 [] []])] = (rF ((qb.mk x0_Kind x0_N x0_Min x0_Set x0_L), v, v2, (qd.mk v3_Worst v3_Best v3_Pass))).bind (fun e => some (rL 1 eB e.1, [(0, B.blk 32 [dL 8 qf e.2.1]), (1, B.blk 62 [C.fn 22 [] []]), (2, B.blk 3 [dI e.2.2.1]), (3, B.blk 37 [dI e.2.2.2.Worst, dI e.2.2.2.Best, dI e.2.2.2.Pass]), (4, B.blk 94 [C.fn 45 [] [dP 0, dP 1, dP 2, dP 3, dP 4, dP 5]]), (5, B.blk 62 [C.fn 23 [] []])])) := fun x0_Kind x0_N x0_Min x0_Set x0_L v v2 v3_Worst v3_Best v3_Pass => hF ((qb.mk x0_Kind x0_N x0_Min x0_Set x0_L), v, v2, (qd.mk v3_Worst v3_Best v3_Pass))
    have := qc2; have := @q9J.eq_1; have := @Jo; have := @z6.eq_1; exact gA
noncomputable def ZI (fu : Nat) (rF : (qb × List qa × Int × qd) → Option (List Bool × List qa × Int × qd)) (w7 : List Bool) (w9 : List Int) (b0 : List qa) (b2 : Int) (b3 : qd) (b6 : qb) (b10 : List Bool) (t18 : Bool) (t72 : List qb) (t73 : Int) (t74 : Int) (t96 : Int) : (List Int × Int) → Option ((List Int × Int) ⊕ (List Int))
  | (w12, t97) =>
    if t97 < t96 then if 0 ≤ t97 ∧ t97 < ((w12.length : Nat) : Int) then if Int.toNat t97 + 1 ≤ w12.length then if t18 = Bool.true then if 0 ≤ t97 ∧ t97 < ((w9.length : Nat) : Int) then Option.bind w9[Int.toNat t97]? fun (a2 : Int) =>
              if 0 ≤ t97 ∧ t97 < ((w12.length : Nat) : Int) then if Int.toNat t97 + 1 ≤ w12.length then Option.bind (zN fu t97 w9 (List.set (List.set w12 (Int.toNat t97) (-1)) (Int.toNat t97) a2) b10 t97) fun (a3 : List Int) =>
                  some (Sum.inl (a3, w64 (t97 + 1)))
                else none
              else none
            else none
          else Option.bind (zN fu t97 w9 (List.set w12 (Int.toNat t97) (-1)) b10 t97) fun (a4 : List Int) =>
          some (Sum.inl (a4, w64 (t97 + 1)))
        else none
      else none
    else some (Sum.inr w12)
theorem q3N (fu : Nat) (rF rF2 : (qb × List qa × Int × qd) → Option (List Bool × List qa × Int × qd)) (hF : ∀ y, qk (rF y) (rF2 y)) (w7 : List Bool) (w9 : List Int) (b0 : List qa) (b2 : Int) (b3 : qd) (b6 : qb) (b10 : List Bool) (t18 : Bool) (t72 : List qb) (t73 t74 t96 : Int) : ∀ x, qk (ZI fu rF w7 w9 b0 b2 b3 b6 b10 t18 t72 t73 t74 t96 x) (z6 rF2 w7 w9 b0 b2 b3 b6 b10 t18 t72 t73 t74 t96 x) := by
  rintro ⟨w12, t97⟩
  unfold ZI z6
  try dsimp only
  repeat (first
    | with_reducible exact qk.refl _
    | with_reducible exact qk.none _
    | exact hF _
    | with_reducible apply Jt
    | with_reducible refine qk.bind ?_ (fun _ => ?_)
    | with_reducible refine qk.ite ?_ ?_
    | with_reducible refine qk.sum (fun _ => ?_) (fun _ => ?_)
    | with_reducible refine qk.lim (fun _ => ?_))
end Go.Proofs.Ytgejdfnidjnjcaa.Vc
namespace Go.Proofs.Ytgejdfnidjnjcaa.Vc
open Go.RowKit
set_option linter.unusedVariables false
set_option linter.unusedSimpArgs false
set_option linter.defProp false
set_option maxRecDepth 20000
noncomputable def z5 (rF : (qb × List qa × Int × qd) → Option (List Bool × List qa × Int × qd)) (w7 : List Bool) (b6 : qb) (t72 : List qb) (t73 : Int) : (List Int × List qa × Int × qd × Int) → Option ((List Int × List qa × Int × qd × Int) ⊕ (List Int × List qa × Int × qd))
  | (w9, b0, b2, b3, t74) =>
    if t74 < t73 then if 0 ≤ t74 ∧ t74 < ((t72.length : Nat) : Int) then Option.bind t72[Int.toNat t74]? fun (a2 : qb) =>
        Option.bind (rF (a2, (b0, (b2, b3)))) fun (a3 : Prod (List Bool) (Prod (List qa) (Prod Int qd))) =>
        if (b6.Kind == 4) = Bool.true then if 0 ≤ ((w9.length : Nat) : Int) ∧ 8 * ((w9.length : Nat) : Int) ≤ 281474976710656 ∧ ((w9.length : Nat) : Int) ≤ 9223372036854775807 then Option.bind (qM (z6 rF w7 w9 a3.2.1 a3.2.2.1 a3.2.2.2 b6 a3.1 Bool.true t72 t73 t74 ((w9.length : Nat) : Int)) (List.replicate w9.length 0, 0)) fun (a4 : List Int) =>
            some (Sum.inl (a4, a3.2.1, a3.2.2.1, a3.2.2.2, w64 (t74 + 1)))
          else none
        else if 0 ≤ ((w9.length : Nat) : Int) ∧ 8 * ((w9.length : Nat) : Int) ≤ 281474976710656 ∧ ((w9.length : Nat) : Int) ≤ 9223372036854775807 then Option.bind (qM (z6 rF w7 w9 a3.2.1 a3.2.2.1 a3.2.2.2 b6 a3.1 Bool.false t72 t73 t74 ((w9.length : Nat) : Int)) (List.replicate w9.length 0, 0)) fun (a5 : List Int) =>
          some (Sum.inl (a5, a3.2.1, a3.2.2.1, a3.2.2.2, w64 (t74 + 1)))
        else none
      else none
    else some (Sum.inr (w9, b0, b2, b3))
theorem q3T (rE : Orc) (rF : (qb × List qa × Int × qd) → Option (List Bool × List qa × Int × qd)) (hF : ∀ y, rE (.fn 45) 6 (qx y).1 (qx y).2 = (rF y).bind fun e => some (qP e)) (hM : ∀ g k a G, g ≠ 45 → rE (.fn g) k a G = ev g k a G) (hR : ∀ g asg bd k a G, rE (.rd g asg bd) k a G = evr g asg bd k a G) : ∀ (w7 : List Bool) (w9 : List Int) (b0 : List qa) (b2 b3_Worst b3_Best b3_Pass b6_Kind b6_N b6_Min : Int) (b6_Set : List qc) (b6_L t72 : List qb) (t73 t74 : Int) (w7_len w9_len : Nat), w7_len = w7.length → w9_len = w9.length → XL2 rE 45 6 18 ⟨[(3, rP 2), (5, rP 4), (6, rP 5), (7, rP 6), (9, rO 7 1 w7_len), (12, rP 8), (72, rL 5 qg t72), (73, rI t73), (74, rI t74)], [(0, B.blk 32 [dL 8 qf b0]), (1, B.blk 62 [C.fn 22 [] []]), (2, B.blk 3 [dI b2]), (3, B.blk 37 [dI b3_Worst, dI b3_Best, dI b3_Pass]), (4, B.blk 94 [C.fn 45 [] [dP 0, dP 1, dP 2, dP 3, dP 4, dP 5]]), (5, B.blk 62 [C.fn 23 [] []]), (6, B.blk 31 [dI b6_Kind, dI b6_N, dI b6_Min, dL 2 qe b6_Set, dL 5 qg b6_L]), (7, bR 4 1 eB w7), (8, B.blk 95 [dO 9 1 w9_len]), (9, bR 3 1 eI w9)], 10, 142⟩ = (qM (z5 rF w7 (qb.mk b6_Kind b6_N b6_Min b6_Set b6_L) t72 t73) (w9, b0, b2, (qd.mk b3_Worst b3_Best b3_Pass), t74)).bind (fun (e : List Int × List qa × Int × qd) => some (Go.Exit.exit 4, ⟨[(7, rP 6), (9, rO 7 1 w7.length), (12, rP 8)], [(0, B.blk 32 [dL 8 qf e.2.1]), (1, B.blk 62 [C.fn 22 [] []]), (2, B.blk 3 [dI e.2.2.1]), (3, B.blk 37 [dI e.2.2.2.Worst, dI e.2.2.2.Best, dI e.2.2.2.Pass]), (4, B.blk 94 [C.fn 45 [] [dP 0, dP 1, dP 2, dP 3, dP 4, dP 5]]), (5, B.blk 62 [C.fn 23 [] []]), (6, B.blk 31 [dI b6_Kind, dI b6_N, dI b6_Min, dL 2 qe b6_Set, dL 5 qg b6_L]), (7, bR 4 1 eB w7), (8, B.blk 95 [dO 9 1 e.1.length]), (9, bR 3 1 eI e.1)], 10, 142⟩)) :=
  by
  intro w7 w9 b0 b2 b3_Worst b3_Best b3_Pass b6_Kind b6_N b6_Min b6_Set b6_L t72 t73 t74 w7_len w9_len h0 h1
  subst h0 h1
  have h := q1e (E := rE) (f := 45) (k := 6) (st := fun x : List Int × List qa × Int × qd × Int => (⟨[(3, rP 2), (5, rP 4), (6, rP 5), (7, rP 6), (9, rO 7 1 w7.length), (12, rP 8), (72, rL 5 qg t72), (73, rI t73), (74, rI x.2.2.2.2)], [(0, B.blk 32 [dL 8 qf x.2.1]), (1, B.blk 62 [C.fn 22 [] []]), (2, B.blk 3 [dI x.2.2.1]), (3, B.blk 37 [dI x.2.2.2.1.Worst, dI x.2.2.2.1.Best, dI x.2.2.2.1.Pass]), (4, B.blk 94 [C.fn 45 [] [dP 0, dP 1, dP 2, dP 3, dP 4, dP 5]]), (5, B.blk 62 [C.fn 23 [] []]), (6, B.blk 31 [dI b6_Kind, dI b6_N, dI b6_Min, dL 2 qe b6_Set, dL 5 qg b6_L]), (7, bR 4 1 eB w7), (8, B.blk 95 [dO 9 1 x.1.length]), (9, bR 3 1 eI x.1)], 10, 142⟩ : S)) (ex := fun (e : List Int × List qa × Int × qd) => (Go.Exit.exit 4, ⟨[(7, rP 6), (9, rO 7 1 w7.length), (12, rP 8)], [(0, B.blk 32 [dL 8 qf e.2.1]), (1, B.blk 62 [C.fn 22 [] []]), (2, B.blk 3 [dI e.2.2.1]), (3, B.blk 37 [dI e.2.2.2.Worst, dI e.2.2.2.Best, dI e.2.2.2.Pass]), (4, B.blk 94 [C.fn 45 [] [dP 0, dP 1, dP 2, dP 3, dP 4, dP 5]]), (5, B.blk 62 [C.fn 23 [] []]), (6, B.blk 31 [dI b6_Kind, dI b6_N, dI b6_Min, dL 2 qe b6_Set, dL 5 qg b6_L]), (7, bR 4 1 eB w7), (8, B.blk 95 [dO 9 1 e.1.length]), (9, bR 3 1 eI e.1)], 10, 142⟩)) (step := (z5 rF w7 (qb.mk b6_Kind b6_N b6_Min b6_Set b6_L) t72 t73)) qge qem (fun e h => by cases h) (fun x => by
    obtain ⟨w9, b0, b2, b3, t74⟩ := x; have hF' : ∀ (x0_Kind x0_N x0_Min : Int) (x0_Set : List qc) (x0_L : List qb) (v : List qa) (v2 v3_Worst v3_Best v3_Pass : Int), rE (.fn 45) 6 [R.agg [dI x0_Kind, dI x0_N, dI x0_Min, dL 2 qe x0_Set, dL 5 qg x0_L], rP 0, rP 1, rP 2, rP 3, rP 4, rP 5] [(0, B.blk 32 [dL 8 qf v]), (1, B.blk 62 [C.fn 22 [] []]), (2, B.blk 3 [dI v2]), (3, B.blk 37 [dI v3_Worst, dI v3_Best, dI v3_Pass]), (4, B.blk 94 [C.fn 45 [] [dP 0, dP 1, dP 2, dP 3, dP 4, dP 5]]), (5, B.blk 62 [C.fn 23 [] []])] = (rF ((qb.mk x0_Kind x0_N x0_Min x0_Set x0_L), v, v2, (qd.mk v3_Worst v3_Best v3_Pass))).bind (fun e => some (rL 1 eB e.1, [(0, B.blk 32 [dL 8 qf e.2.1]), (1, B.blk 62 [C.fn 22 [] []]), (2, B.blk 3 [dI e.2.2.1]), (3, B.blk 37 [dI e.2.2.2.Worst, dI e.2.2.2.Best, dI e.2.2.2.Pass]), (4, B.blk 94 [C.fn 45 [] [dP 0, dP 1, dP 2, dP 3, dP 4, dP 5]]), (5, B.blk 62 [C.fn 23 [] []])])) := fun x0_Kind x0_N x0_Min x0_Set x0_L v v2 v3_Worst v3_Best v3_Pass => hF ((qb.mk x0_Kind x0_N x0_Min x0_Set x0_L), v, v2, (qd.mk v3_Worst v3_Best v3_Pass))
    have := qc2; have := @q9B.eq_1; have := @q7L; have := q3R rE rF hF hM hR; have := @z5.eq_1; exact gA) (w9, b0, b2, (qd.mk b3_Worst b3_Best b3_Pass), t74)
  exact h
noncomputable def JP (fu : Nat) (rF : (qb × List qa × Int × qd) → Option (List Bool × List qa × Int × qd)) (w7 : List Bool) (b6 : qb) (t72 : List qb) (t73 : Int) : (List Int × List qa × Int × qd × Int) → Option ((List Int × List qa × Int × qd × Int) ⊕ (List Int × List qa × Int × qd))
  | (w9, b0, b2, b3, t74) =>
    if t74 < t73 then if 0 ≤ t74 ∧ t74 < ((t72.length : Nat) : Int) then Option.bind t72[Int.toNat t74]? fun (a2 : qb) =>
        Option.bind (rF (a2, (b0, (b2, b3)))) fun (a3 : Prod (List Bool) (Prod (List qa) (Prod Int qd))) =>
        if (b6.Kind == 4) = Bool.true then if 0 ≤ ((w9.length : Nat) : Int) ∧ 8 * ((w9.length : Nat) : Int) ≤ 281474976710656 ∧ ((w9.length : Nat) : Int) ≤ 9223372036854775807 then Option.bind (itT (ZI fu rF w7 w9 a3.2.1 a3.2.2.1 a3.2.2.2 b6 a3.1 Bool.true t72 t73 t74 ((w9.length : Nat) : Int)) fu (List.replicate w9.length 0, 0)) fun (a4 : List Int) =>
            some (Sum.inl (a4, a3.2.1, a3.2.2.1, a3.2.2.2, w64 (t74 + 1)))
          else none
        else if 0 ≤ ((w9.length : Nat) : Int) ∧ 8 * ((w9.length : Nat) : Int) ≤ 281474976710656 ∧ ((w9.length : Nat) : Int) ≤ 9223372036854775807 then Option.bind (itT (ZI fu rF w7 w9 a3.2.1 a3.2.2.1 a3.2.2.2 b6 a3.1 Bool.false t72 t73 t74 ((w9.length : Nat) : Int)) fu (List.replicate w9.length 0, 0)) fun (a5 : List Int) =>
          some (Sum.inl (a5, a3.2.1, a3.2.2.1, a3.2.2.2, w64 (t74 + 1)))
        else none
      else none
    else some (Sum.inr (w9, b0, b2, b3))
theorem q3I (fu : Nat) (rF rF2 : (qb × List qa × Int × qd) → Option (List Bool × List qa × Int × qd)) (hF : ∀ y, qk (rF y) (rF2 y)) (w7 : List Bool) (b6 : qb) (t72 : List qb) (t73 : Int) : ∀ x, qk (JP fu rF w7 b6 t72 t73 x) (z5 rF2 w7 b6 t72 t73 x) := by
  rintro ⟨w9, b0, b2, b3, t74⟩
  unfold JP z5
  try dsimp only
  repeat (first
    | with_reducible exact qk.refl _
    | with_reducible exact qk.none _
    | exact hF _
    | (with_reducible refine q3N _ _ _ hF ..)
    | with_reducible refine qk.bind ?_ (fun _ => ?_)
    | with_reducible refine qk.ite ?_ ?_
    | with_reducible refine qk.sum (fun _ => ?_) (fun _ => ?_)
    | with_reducible refine qk.lim (fun _ => ?_))
noncomputable def z0 (rF : (qb × List qa × Int × qd) → Option (List Bool × List qa × Int × qd)) (w8 : List Int) (b0 : List qa) (b2 : Int) (b3 : qd) (t21 : Int) : (List Bool × Int) → Option ((List Bool × Int) ⊕ (List Bool))
  | (w6, t22) =>
    if t22 < ((w6.length : Nat) : Int) then if 0 ≤ t22 ∧ t22 < ((w8.length : Nat) : Int) then Option.bind w8[Int.toNat t22]? fun (a2 : Int) =>
        if 0 ≤ t22 ∧ t22 < ((w6.length : Nat) : Int) then if Int.toNat t22 + 1 ≤ w6.length then some (Sum.inl (List.set w6 (Int.toNat t22) (decide (t21 ≤ a2)), w64 (t22 + 1)))
          else none
        else none
      else none
    else some (Sum.inr w6)
theorem q3H (rE : Orc) (rF : (qb × List qa × Int × qd) → Option (List Bool × List qa × Int × qd)) (hF : ∀ y, rE (.fn 45) 6 (qx y).1 (qx y).2 = (rF y).bind fun e => some (qP e)) (hM : ∀ g k a G, g ≠ 45 → rE (.fn g) k a G = ev g k a G) (hR : ∀ g asg bd k a G, rE (.rd g asg bd) k a G = evr g asg bd k a G) : ∀ (w6 : List Bool) (w8 : List Int) (b0 : List qa) (b2 b3_Worst b3_Best b3_Pass t21 t22 : Int) (w6_len w8_len : Nat), w6_len = w6.length → w8_len = w8.length → XL2 rE 45 6 38 ⟨[(9, rO 6 1 w6_len), (12, rP 7), (21, rI t21), (22, rI t22)], [(0, B.blk 32 [dL 8 qf b0]), (1, B.blk 62 [C.fn 22 [] []]), (2, B.blk 3 [dI b2]), (3, B.blk 37 [dI b3_Worst, dI b3_Best, dI b3_Pass]), (4, B.blk 94 [C.fn 45 [] [dP 0, dP 1, dP 2, dP 3, dP 4, dP 5]]), (5, B.blk 62 [C.fn 23 [] []]), (6, bR 4 1 eB w6), (7, B.blk 95 [dO 8 1 w8_len]), (8, bR 3 1 eI w8)], 9, 142⟩ = (qM (z0 rF w8 b0 b2 (qd.mk b3_Worst b3_Best b3_Pass) t21) (w6, t22)).bind (fun (e : List Bool) => some (Go.Exit.exit 8, ⟨[(9, rO 6 1 e.length)], [(0, B.blk 32 [dL 8 qf b0]), (1, B.blk 62 [C.fn 22 [] []]), (2, B.blk 3 [dI b2]), (3, B.blk 37 [dI b3_Worst, dI b3_Best, dI b3_Pass]), (4, B.blk 94 [C.fn 45 [] [dP 0, dP 1, dP 2, dP 3, dP 4, dP 5]]), (5, B.blk 62 [C.fn 23 [] []]), (6, bR 4 1 eB e)], 7, 142⟩)) :=
  by
  intro w6 w8 b0 b2 b3_Worst b3_Best b3_Pass t21 t22 w6_len w8_len h0 h1
  subst h0 h1
  revert t22; revert w6; exact q8r qeu qeC (fun e => by exact ⟨_, rfl, fun h => by cases h⟩) fun w6 t22 => by
    have hF' : ∀ (x0_Kind x0_N x0_Min : Int) (x0_Set : List qc) (x0_L : List qb) (v : List qa) (v2 v3_Worst v3_Best v3_Pass : Int), rE (.fn 45) 6 [R.agg [dI x0_Kind, dI x0_N, dI x0_Min, dL 2 qe x0_Set, dL 5 qg x0_L], rP 0, rP 1, rP 2, rP 3, rP 4, rP 5] [(0, B.blk 32 [dL 8 qf v]), (1, B.blk 62 [C.fn 22 [] []]), (2, B.blk 3 [dI v2]), (3, B.blk 37 [dI v3_Worst, dI v3_Best, dI v3_Pass]), (4, B.blk 94 [C.fn 45 [] [dP 0, dP 1, dP 2, dP 3, dP 4, dP 5]]), (5, B.blk 62 [C.fn 23 [] []])] = (rF ((qb.mk x0_Kind x0_N x0_Min x0_Set x0_L), v, v2, (qd.mk v3_Worst v3_Best v3_Pass))).bind (fun e => some (rL 1 eB e.1, [(0, B.blk 32 [dL 8 qf e.2.1]), (1, B.blk 62 [C.fn 22 [] []]), (2, B.blk 3 [dI e.2.2.1]), (3, B.blk 37 [dI e.2.2.2.Worst, dI e.2.2.2.Best, dI e.2.2.2.Pass]), (4, B.blk 94 [C.fn 45 [] [dP 0, dP 1, dP 2, dP 3, dP 4, dP 5]]), (5, B.blk 62 [C.fn 23 [] []])])) := fun x0_Kind x0_N x0_Min x0_Set x0_L v v2 v3_Worst v3_Best v3_Pass => hF ((qb.mk x0_Kind x0_N x0_Min x0_Set x0_L), v, v2, (qd.mk v3_Worst v3_Best v3_Pass))
    have := qc2; have := @q9G.eq_1; have := @z0.eq_1; exact gA
noncomputable def ZP (fu : Nat) (rF : (qb × List qa × Int × qd) → Option (List Bool × List qa × Int × qd)) (w8 : List Int) (b0 : List qa) (b2 : Int) (b3 : qd) (t21 : Int) : (List Bool × Int) → Option ((List Bool × Int) ⊕ (List Bool))
  | (w6, t22) =>
    if t22 < ((w6.length : Nat) : Int) then if 0 ≤ t22 ∧ t22 < ((w8.length : Nat) : Int) then Option.bind w8[Int.toNat t22]? fun (a2 : Int) =>
        if 0 ≤ t22 ∧ t22 < ((w6.length : Nat) : Int) then if Int.toNat t22 + 1 ≤ w6.length then some (Sum.inl (List.set w6 (Int.toNat t22) (decide (t21 ≤ a2)), w64 (t22 + 1)))
          else none
        else none
      else none
    else some (Sum.inr w6)
theorem q3Q (fu : Nat) (rF rF2 : (qb × List qa × Int × qd) → Option (List Bool × List qa × Int × qd)) (hF : ∀ y, qk (rF y) (rF2 y)) (w8 : List Int) (b0 : List qa) (b2 : Int) (b3 : qd) (t21 : Int) : ∀ x, qk (ZP fu rF w8 b0 b2 b3 t21 x) (z0 rF2 w8 b0 b2 b3 t21 x) := by
  rintro ⟨w6, t22⟩
  unfold ZP z0
  try dsimp only
  repeat (first
    | with_reducible exact qk.refl _
    | with_reducible exact qk.none _
    | exact hF _
    | with_reducible refine qk.bind ?_ (fun _ => ?_)
    | with_reducible refine qk.ite ?_ ?_
    | with_reducible refine qk.sum (fun _ => ?_) (fun _ => ?_)
    | with_reducible refine qk.lim (fun _ => ?_))
noncomputable def Qi (rF : (qb × List qa × Int × qd) → Option (List Bool × List qa × Int × qd)) : (qb × List qa × Int × qd) → Option (List Bool × List qa × Int × qd)
  | (x0, v, v2, v3) =>
    if 0 ≤ ((v.length : Nat) : Int) then if 0 ≤ w64 (1 * 2 ^ min v.length (Go.IntKind.bits Go.IntKind.i64)) ∧ 1 * w64 (1 * 2 ^ min v.length (Go.IntKind.bits Go.IntKind.i64)) ≤ 281474976710656 ∧ w64 (1 * 2 ^ min v.length (Go.IntKind.bits Go.IntKind.i64)) ≤ 9223372036854775807 then if zH x0 = Bool.true then Option.bind (Z2 x0.Kind) fun (a2 : Sum Unit Unit) =>
          Sum.elim (fun (a3 : Unit) => Option.bind (qM (zr rF v v2 v3 x0) (List.replicate (Int.toNat (w64 (1 * 2 ^ min v.length (Go.IntKind.bits Go.IntKind.i64)))) Bool.false, 1)) fun (a5 : List Bool) =>
            some (a5, v, w64 (v2 + 1), v3)) (fun (a4 : Unit) => Option.bind (qM (zt rF v v2 v3 x0) (List.replicate (Int.toNat (w64 (1 * 2 ^ min v.length (Go.IntKind.bits Go.IntKind.i64)))) Bool.false, 1)) fun (a6 : List Bool) =>
            some (a6, v, w64 (v2 + 1), v3)) a2
        else if 0 ≤ ((Int.toNat (w64 (1 * 2 ^ min v.length (Go.IntKind.bits Go.IntKind.i64))) : Nat) : Int) ∧ 8 * ((Int.toNat (w64 (1 * 2 ^ min v.length (Go.IntKind.bits Go.IntKind.i64))) : Nat) : Int) ≤ 281474976710656 ∧ ((Int.toNat (w64 (1 * 2 ^ min v.length (Go.IntKind.bits Go.IntKind.i64))) : Nat) : Int) ≤ 9223372036854775807 then Option.bind (qM (qT rF (List.replicate (Int.toNat (w64 (1 * 2 ^ min v.length (Go.IntKind.bits Go.IntKind.i64)))) Bool.false) v v2 v3 x0) (List.replicate (Int.toNat (w64 (1 * 2 ^ min v.length (Go.IntKind.bits Go.IntKind.i64)))) 0, 1)) fun (a7 : List Int) =>
          Option.bind (qM (z5 rF (List.replicate (Int.toNat (w64 (1 * 2 ^ min v.length (Go.IntKind.bits Go.IntKind.i64)))) Bool.false) x0 x0.L ((x0.L.length : Nat) : Int)) (a7, (v, (v2, (v3, 0))))) fun (a8 : Prod (List Int) (Prod (List qa) (Prod Int qd))) =>
          if (x0.Kind == 3) = Bool.true then Option.bind (qM (z0 rF a8.1 a8.2.1 a8.2.2.1 a8.2.2.2 ((x0.L.length : Nat) : Int)) (List.replicate (Int.toNat (w64 (1 * 2 ^ min v.length (Go.IntKind.bits Go.IntKind.i64)))) Bool.false, 1)) fun (a9 : List Bool) =>
            some (a9, a8.2.1, a8.2.2.1, a8.2.2.2)
          else Option.bind (qM (z0 rF a8.1 a8.2.1 a8.2.2.1 a8.2.2.2 x0.N) (List.replicate (Int.toNat (w64 (1 * 2 ^ min v.length (Go.IntKind.bits Go.IntKind.i64)))) Bool.false, 1)) fun (a10 : List Bool) =>
          some (a10, a8.2.1, a8.2.2.1, a8.2.2.2)
        else none
      else none
    else none
theorem q2f : q41 45 6 qx qP Qi := by
  intro rE rF hF hM hR x
  obtain ⟨x0, v, v2, v3⟩ := x
  show q5L rE 45 6 [R.agg [dI x0.Kind, dI x0.N, dI x0.Min, dL 2 qe x0.Set, dL 5 qg x0.L], rP 0, rP 1, rP 2, rP 3, rP 4, rP 5] [(0, B.blk 32 [dL 8 qf v]), (1, B.blk 62 [C.fn 22 [] []]), (2, B.blk 3 [dI v2]), (3, B.blk 37 [dI v3.Worst, dI v3.Best, dI v3.Pass]), (4, B.blk 94 [C.fn 45 [] [dP 0, dP 1, dP 2, dP 3, dP 4, dP 5]]), (5, B.blk 62 [C.fn 23 [] []])] = _
  have hF' : ∀ (x0_Kind x0_N x0_Min : Int) (x0_Set : List qc) (x0_L : List qb) (v : List qa) (v2 v3_Worst v3_Best v3_Pass : Int), rE (.fn 45) 6 [R.agg [dI x0_Kind, dI x0_N, dI x0_Min, dL 2 qe x0_Set, dL 5 qg x0_L], rP 0, rP 1, rP 2, rP 3, rP 4, rP 5] [(0, B.blk 32 [dL 8 qf v]), (1, B.blk 62 [C.fn 22 [] []]), (2, B.blk 3 [dI v2]), (3, B.blk 37 [dI v3_Worst, dI v3_Best, dI v3_Pass]), (4, B.blk 94 [C.fn 45 [] [dP 0, dP 1, dP 2, dP 3, dP 4, dP 5]]), (5, B.blk 62 [C.fn 23 [] []])] = (rF ((qb.mk x0_Kind x0_N x0_Min x0_Set x0_L), v, v2, (qd.mk v3_Worst v3_Best v3_Pass))).bind (fun e => some (rL 1 eB e.1, [(0, B.blk 32 [dL 8 qf e.2.1]), (1, B.blk 62 [C.fn 22 [] []]), (2, B.blk 3 [dI e.2.2.1]), (3, B.blk 37 [dI e.2.2.2.Worst, dI e.2.2.2.Best, dI e.2.2.2.Pass]), (4, B.blk 94 [C.fn 45 [] [dP 0, dP 1, dP 2, dP 3, dP 4, dP 5]]), (5, B.blk 62 [C.fn 23 [] []])])) := fun x0_Kind x0_N x0_Min x0_Set x0_L v v2 v3_Worst v3_Best v3_Pass => hF ((qb.mk x0_Kind x0_N x0_Min x0_Set x0_L), v, v2, (qd.mk v3_Worst v3_Best v3_Pass))
  rw [q17 qgx qip]
  have := qc2; have := @q0y; have := @q1d; have := q2V rE rF hF hM hR; have := q3b rE rF hF hM hR; have := q2E rE rF hF hM hR; have := q3T rE rF hF hM hR; have := q3H rE rF hF hM hR; have := @Qi.eq_1; have := @qP.eq_1; exact gA
theorem q0t : ∀ x y, qx x = qx y → x = y := by
  rintro ⟨⟨a0_0, a0_1, a0_2, a0_3, a0_4⟩, a1, a2, ⟨a3_0, a3_1, a3_2⟩⟩ ⟨⟨b0_0, b0_1, b0_2, b0_3, b0_4⟩, b1, b2, ⟨b3_0, b3_1, b3_2⟩⟩ h
  simp only [qx, Prod.mk.injEq, List.cons.injEq, R.c.injEq, R.agg.injEq, R.tup.injEq, C.d.injEq, C.own.injEq, C.ptr.injEq, C.eptr.injEq, D.int.injEq, D.bool.injEq, D.str.injEq, D.sl.injEq, B.blk.injEq, B.row.injEq, Zx, JK, ZC, ZU, Je, q0O, Zv, q14, true_and, and_true, List.nil_append] at h
  simp only [h]
theorem q4e : ∀ x y, qP x = qP y → x = y := by
  rintro ⟨a0, a1, a2, ⟨a3_0, a3_1, a3_2⟩⟩ ⟨b0, b1, b2, ⟨b3_0, b3_1, b3_2⟩⟩ h
  simp only [qP, Prod.mk.injEq, List.cons.injEq, R.c.injEq, R.agg.injEq, R.tup.injEq, C.d.injEq, C.own.injEq, C.ptr.injEq, C.eptr.injEq, D.int.injEq, D.bool.injEq, D.str.injEq, D.sl.injEq, B.blk.injEq, B.row.injEq, Zx, JK, ZC, ZU, Je, q0O, Zv, q14, true_and, and_true, List.nil_append] at h
  simp only [h]
noncomputable def qI : (qb × List qa × Int × qd) → Option (List Bool × List qa × Int × qd) := q4k 45 6 qx qP
theorem q2g (x : (qb × List qa × Int × qd)) : qI x = Qi qI x := q7w qn4.2.2.2 q0t q4e q2f x
theorem q6d (x0 : qb) (v : List qa) (v2 : Int) (v3 : qd) : ev 45 6 [R.agg [dI x0.Kind, dI x0.N, dI x0.Min, dL 2 qe x0.Set, dL 5 qg x0.L], rP 0, rP 1, rP 2, rP 3, rP 4, rP 5] [(0, B.blk 32 [dL 8 qf v]), (1, B.blk 62 [C.fn 22 [] []]), (2, B.blk 3 [dI v2]), (3, B.blk 37 [dI v3.Worst, dI v3.Best, dI v3.Pass]), (4, B.blk 94 [C.fn 45 [] [dP 0, dP 1, dP 2, dP 3, dP 4, dP 5]]), (5, B.blk 62 [C.fn 23 [] []])] = (qI (x0, v, v2, v3)).bind (fun (e : List Bool × List qa × Int × qd) => some (rL 1 eB e.1, [(0, B.blk 32 [dL 8 qf e.2.1]), (1, B.blk 62 [C.fn 22 [] []]), (2, B.blk 3 [dI e.2.2.1]), (3, B.blk 37 [dI e.2.2.2.Worst, dI e.2.2.2.Best, dI e.2.2.2.Pass]), (4, B.blk 94 [C.fn 45 [] [dP 0, dP 1, dP 2, dP 3, dP 4, dP 5]]), (5, B.blk 62 [C.fn 23 [] []])])) := (q5s qn4.2.2.2 q0t q2f (x0, v, v2, v3))
theorem q7d : ∀ (x0_Kind x0_N x0_Min : Int) (x0_Set : List qc) (x0_L : List qb) (v : List qa) (v2 v3_Worst v3_Best v3_Pass : Int), ev 45 6 [R.agg [dI x0_Kind, dI x0_N, dI x0_Min, dL 2 qe x0_Set, dL 5 qg x0_L], rP 0, rP 1, rP 2, rP 3, rP 4, rP 5] [(0, B.blk 32 [dL 8 qf v]), (1, B.blk 62 [C.fn 22 [] []]), (2, B.blk 3 [dI v2]), (3, B.blk 37 [dI v3_Worst, dI v3_Best, dI v3_Pass]), (4, B.blk 94 [C.fn 45 [] [dP 0, dP 1, dP 2, dP 3, dP 4, dP 5]]), (5, B.blk 62 [C.fn 23 [] []])] = (qI ((qb.mk x0_Kind x0_N x0_Min x0_Set x0_L), v, v2, (qd.mk v3_Worst v3_Best v3_Pass))).bind (fun (e : List Bool × List qa × Int × qd) => some (rL 1 eB e.1, [(0, B.blk 32 [dL 8 qf e.2.1]), (1, B.blk 62 [C.fn 22 [] []]), (2, B.blk 3 [dI e.2.2.1]), (3, B.blk 37 [dI e.2.2.2.Worst, dI e.2.2.2.Best, dI e.2.2.2.Pass]), (4, B.blk 94 [C.fn 45 [] [dP 0, dP 1, dP 2, dP 3, dP 4, dP 5]]), (5, B.blk 62 [C.fn 23 [] []])])) :=
  fun x0_Kind x0_N x0_Min x0_Set x0_L v v2 v3_Worst v3_Best v3_Pass => q6d (qb.mk x0_Kind x0_N x0_Min x0_Set x0_L) v v2 (qd.mk v3_Worst v3_Best v3_Pass)
noncomputable def JE (fu : Nat) (rF : (qb × List qa × Int × qd) → Option (List Bool × List qa × Int × qd)) : (qb × List qa × Int × qd) → Option (List Bool × List qa × Int × qd)
  | (x0, v, v2, v3) =>
    if 0 ≤ ((v.length : Nat) : Int) then if 0 ≤ w64 (1 * 2 ^ min v.length (Go.IntKind.bits Go.IntKind.i64)) ∧ 1 * w64 (1 * 2 ^ min v.length (Go.IntKind.bits Go.IntKind.i64)) ≤ 281474976710656 ∧ w64 (1 * 2 ^ min v.length (Go.IntKind.bits Go.IntKind.i64)) ≤ 9223372036854775807 then if zH x0 = Bool.true then Option.bind (Z2 x0.Kind) fun (a2 : Sum Unit Unit) =>
          Sum.elim (fun (a3 : Unit) => Option.bind (itT (JD fu rF v v2 v3 x0) fu (List.replicate (Int.toNat (w64 (1 * 2 ^ min v.length (Go.IntKind.bits Go.IntKind.i64)))) Bool.false, 1)) fun (a5 : List Bool) =>
            some (a5, v, w64 (v2 + 1), v3)) (fun (a4 : Unit) => Option.bind (itT (Jr fu rF v v2 v3 x0) fu (List.replicate (Int.toNat (w64 (1 * 2 ^ min v.length (Go.IntKind.bits Go.IntKind.i64)))) Bool.false, 1)) fun (a6 : List Bool) =>
            some (a6, v, w64 (v2 + 1), v3)) a2
        else if 0 ≤ ((Int.toNat (w64 (1 * 2 ^ min v.length (Go.IntKind.bits Go.IntKind.i64))) : Nat) : Int) ∧ 8 * ((Int.toNat (w64 (1 * 2 ^ min v.length (Go.IntKind.bits Go.IntKind.i64))) : Nat) : Int) ≤ 281474976710656 ∧ ((Int.toNat (w64 (1 * 2 ^ min v.length (Go.IntKind.bits Go.IntKind.i64))) : Nat) : Int) ≤ 9223372036854775807 then Option.bind (itT (J8 fu rF (List.replicate (Int.toNat (w64 (1 * 2 ^ min v.length (Go.IntKind.bits Go.IntKind.i64)))) Bool.false) v v2 v3 x0) fu (List.replicate (Int.toNat (w64 (1 * 2 ^ min v.length (Go.IntKind.bits Go.IntKind.i64)))) 0, 1)) fun (a7 : List Int) =>
          Option.bind (itT (JP fu rF (List.replicate (Int.toNat (w64 (1 * 2 ^ min v.length (Go.IntKind.bits Go.IntKind.i64)))) Bool.false) x0 x0.L ((x0.L.length : Nat) : Int)) fu (a7, (v, (v2, (v3, 0))))) fun (a8 : Prod (List Int) (Prod (List qa) (Prod Int qd))) =>
          if (x0.Kind == 3) = Bool.true then Option.bind (itT (ZP fu rF a8.1 a8.2.1 a8.2.2.1 a8.2.2.2 ((x0.L.length : Nat) : Int)) fu (List.replicate (Int.toNat (w64 (1 * 2 ^ min v.length (Go.IntKind.bits Go.IntKind.i64)))) Bool.false, 1)) fun (a9 : List Bool) =>
            some (a9, a8.2.1, a8.2.2.1, a8.2.2.2)
          else Option.bind (itT (ZP fu rF a8.1 a8.2.1 a8.2.2.1 a8.2.2.2 x0.N) fu (List.replicate (Int.toNat (w64 (1 * 2 ^ min v.length (Go.IntKind.bits Go.IntKind.i64)))) Bool.false, 1)) fun (a10 : List Bool) =>
          some (a10, a8.2.1, a8.2.2.1, a8.2.2.2)
        else none
      else none
    else none
theorem q30 (fu : Nat) (rF rF2 : (qb × List qa × Int × qd) → Option (List Bool × List qa × Int × qd)) (hF : ∀ y, qk (rF y) (rF2 y)) : ∀ x, qk (JE fu rF x) (Qi rF2 x) := by
  rintro ⟨x0, v, v2, v3⟩
  unfold JE Qi
  try dsimp only
  repeat (first
    | with_reducible exact qk.refl _
    | with_reducible exact qk.none _
    | exact hF _
    | (with_reducible refine q2Y _ _ _ hF ..)
    | (with_reducible refine q3i _ _ _ hF ..)
    | (with_reducible refine q2K _ _ _ hF ..)
    | (with_reducible refine q3I _ _ _ hF ..)
    | (with_reducible refine q3Q _ _ _ hF ..)
    | with_reducible refine qk.bind ?_ (fun _ => ?_)
    | with_reducible refine qk.ite ?_ ?_
    | with_reducible refine qk.sum (fun _ => ?_) (fun _ => ?_)
    | with_reducible refine qk.lim (fun _ => ?_))
noncomputable def q58 (fu : Nat) (x : (qb × List qa × Int × qd)) : Option (List Bool × List qa × Int × qd) := itR (JE fu) fu x
theorem q6K (fu : Nat) (x : (qb × List qa × Int × qd)) : qk (q58 fu x) (qI x) := qk.rec q2g (q30 fu) fu x
noncomputable def JO (n : qb) (s : qd) (l : List qa) : Option (List Bool) :=
  Option.bind (qI (n, (l, (0, s)))) fun (a : Prod (List Bool) (Prod (List qa) (Prod Int qd))) =>
  some a.1
theorem q8I : ∀ (n_Kind n_N n_Min : Int) (n_Set : List qc) (n_L : List qb) (s_Worst s_Best s_Pass : Int) (l : List qa), ev 24 0 [R.agg [dI n_Kind, dI n_N, dI n_Min, dL 2 qe n_Set, dL 5 qg n_L], R.agg [dI s_Worst, dI s_Best, dI s_Pass], rL 8 qf l, R.c (C.fn 22 [] []), R.c (C.fn 23 [] [])] [] = (JO (qb.mk n_Kind n_N n_Min n_Set n_L) (qd.mk s_Worst s_Best s_Pass) l).bind (fun (e : List Bool) => some (rL 1 eB e, [])) :=
  fun n_Kind n_N n_Min n_Set n_L s_Worst s_Best s_Pass l => by
    rw [qz qna qqo.2.2.2 qrq]
    have := qq8; have := @q7d; have := @JO.eq_1; exact gA
noncomputable def q4v (fu : Nat) (n : qb) (s : qd) (l : List qa) : Option (List Bool) :=
  Option.bind (q58 fu (n, (l, (0, s)))) fun (a : Prod (List Bool) (Prod (List qa) (Prod Int qd))) =>
  some a.1
theorem q8z (fu : Nat) (n : qb) (s : qd) (l : List qa) : qk (q4v fu n s l) (JO n s l) := by
  unfold q4v JO
  repeat (first
    | with_reducible exact qk.refl _
    | with_reducible exact qk.none _
    | with_reducible apply q6K
    | with_reducible refine qk.bind ?_ (fun _ => ?_)
    | with_reducible refine qk.ite ?_ ?_
    | with_reducible refine qk.sum (fun _ => ?_) (fun _ => ?_)
    | with_reducible refine qk.lim (fun _ => ?_))
theorem qqu : okL 25 qcq := qy (qi qn6) (by kernel_rfl) (by kernel_rfl)
def qqE := JA_ @qcq.eq_1 (JA_ @Try.f25.eq_1 @qn6)
theorem qlW : lbO 25 2 = qe2 := Q8 (qi qn6) rfl
theorem qjY : okL 25 qe2 := zd qqu (List.mem_of_getElem? (i := 0) (by kernel_rfl))
noncomputable def ZN (w1 : List Int) (leaf : Int) (set0 : Int) (t9 : Int) : Int → Option (Int ⊕ (Unit ⊕ Unit))
  | t10 =>
    if t10 < t9 then if 0 ≤ t10 ∧ t10 < ((w1.length : Nat) : Int) then Option.bind w1[Int.toNat t10]? fun (a : Int) =>
        if 0 ≤ t10 then if (!((J0 Go.BinOp.and Go.IntKind.i64 (Int.fdiv set0 (2 ^ min (Int.toNat t10) (Go.IntKind.bits Go.IntKind.i64))) 1 == 1) == (a == leaf))) = Bool.true then some (Sum.inr (Sum.inl ()))
          else some (Sum.inl (w64 (t10 + 1)))
        else none
      else none
    else some (Sum.inr (Sum.inr ()))
theorem q3L : ∀ (w1 : List Int) (leaf set0 t9 t10 : Int) (w1_len : Nat), w1_len = w1.length → XL2 evo 25 1 2 ⟨[(0, rI leaf), (1, rI set0), (8, rO 1 1 w1_len), (9, rI t9), (10, rI t10)], [(0, B.blk 22 [dO 1 1 w1_len]), (1, bR 3 1 eI w1)], 2, 25⟩ = (qM (ZN w1 leaf set0 t9) t10).bind (Sum.elim (fun (e : Unit) => some (Go.Exit.ret, ⟨[(5, rB Bool.false)], [(0, B.blk 22 [dO 1 1 w1.length]), (1, bR 3 1 eI w1)], 2, 25⟩)) (fun (e : Unit) => some (Go.Exit.exit 0, ⟨[(5, R.any)], [(0, B.blk 22 [dO 1 1 w1.length]), (1, bR 3 1 eI w1)], 2, 25⟩))) :=
  by
  intro w1 leaf set0 t9 t10 w1_len h0
  subst h0
  revert t10; exact qad qlW qjY (fun e => by rcases e with _ | _ <;> exact ⟨_, rfl, fun h => by cases h⟩) fun x => by
    have := qqE; have := @qe2.eq_1; have := @ZN.eq_1; exact gA
noncomputable def Zo (leaf : Int) (set0 : Int) (w1 : List Int) : Option Bool :=
  Option.bind (qM (ZN w1 leaf set0 ((w1.length : Nat) : Int)) 0) fun (a : Sum Unit Unit) =>
  Sum.elim (fun (a2 : Unit) => some Bool.false) (fun (a3 : Unit) => some Bool.true) a
theorem q1E : ∀ (leaf set0 : Int) (w1 : List Int) (w1_len : Nat), w1_len = w1.length → ev 25 1 [rI leaf, rI set0, rP 0] [(0, B.blk 22 [dO 1 1 w1_len]), (1, bR 3 1 eI w1)] = (Zo leaf set0 w1).bind (fun (e : Bool) => some (rB e, [(0, B.blk 22 [dO 1 1 w1.length]), (1, bR 3 1 eI w1)])) :=
  by
  intro leaf set0 w1 w1_len h0
  subst h0
  rw [qz qn6 qu0.2.2.2 qqu]
  have := qqE; have := @q3L; have := @Zo.eq_1; exact gA
noncomputable def q03 (fu : Nat) (leaf : Int) (set0 : Int) (w1 : List Int) : Option Bool :=
  Option.bind (itT (ZN w1 leaf set0 ((w1.length : Nat) : Int)) fu 0) fun (a : Sum Unit Unit) =>
  Sum.elim (fun (a2 : Unit) => some Bool.false) (fun (a3 : Unit) => some Bool.true) a
theorem q1v (fu : Nat) (leaf set0 : Int) (w1 : List Int) : qk (q03 fu leaf set0 w1) (Zo leaf set0 w1) := by
  unfold q03 Zo
  repeat (first
    | with_reducible exact qk.refl _
    | with_reducible exact qk.none _
    | with_reducible refine qk.bind ?_ (fun _ => ?_)
    | with_reducible refine qk.ite ?_ ?_
    | with_reducible refine qk.sum (fun _ => ?_) (fun _ => ?_)
    | with_reducible refine qk.lim (fun _ => ?_))
noncomputable def qr (x : (qb × List Int × List qa × Int × qd)) : List R × List (Nat × B) := ([R.agg [C.d (D.int .i64 x.1.Kind), C.d (D.int .i64 x.1.N), C.d (D.int .i64 x.1.Min), C.d (D.sl 2 x.1.Set.length (x.1.Set.flatMap qe)), C.d (D.sl 5 x.1.L.length (x.1.L.flatMap qg))], R.c (C.ptr 0 0), R.c (C.ptr 1 0), R.c (C.ptr 3 0), R.c (C.ptr 4 0), R.c (C.ptr 5 0), R.c (C.ptr 6 0)], [(0, B.blk 32 [C.d (D.sl 8 x.2.2.1.length (x.2.2.1.flatMap qf))]), (1, B.blk 62 [C.fn 25 [] [C.ptr 2 0]]), (2, B.blk 22 [C.own 7 1 0 x.2.1.length]), (3, B.blk 3 [C.d (D.int .i64 x.2.2.2.1)]), (4, B.blk 37 [C.d (D.int .i64 x.2.2.2.2.Worst), C.d (D.int .i64 x.2.2.2.2.Best), C.d (D.int .i64 x.2.2.2.2.Pass)]), (5, B.blk 94 [C.fn 45 [] [C.ptr 0 0, C.ptr 1 0, C.ptr 3 0, C.ptr 4 0, C.ptr 5 0, C.ptr 6 0]]), (6, B.blk 62 [C.fn 26 [] [C.ptr 2 0]]), (7, B.row 3 1 ((x.2.1.flatMap eI).map C.d))])
noncomputable def qF : (List Bool × List Int × List qa × Int × qd) → R × List (Nat × B) := fun (e : List Bool × List Int × List qa × Int × qd) => (R.c (C.d (D.sl 1 e.1.length (e.1.flatMap eB))), [(0, B.blk 32 [C.d (D.sl 8 e.2.2.1.length (e.2.2.1.flatMap qf))]), (1, B.blk 62 [C.fn 25 [] [C.ptr 2 0]]), (2, B.blk 22 [C.own 7 1 0 e.2.1.length]), (3, B.blk 3 [C.d (D.int .i64 e.2.2.2.1)]), (4, B.blk 37 [C.d (D.int .i64 e.2.2.2.2.Worst), C.d (D.int .i64 e.2.2.2.2.Best), C.d (D.int .i64 e.2.2.2.2.Pass)]), (5, B.blk 94 [C.fn 45 [] [C.ptr 0 0, C.ptr 1 0, C.ptr 3 0, C.ptr 4 0, C.ptr 5 0, C.ptr 6 0]]), (6, B.blk 62 [C.fn 26 [] [C.ptr 2 0]]), (7, B.row 3 1 ((e.2.1.flatMap eI).map C.d))])
noncomputable def QD (rF : (qb × List Int × List qa × Int × qd) → Option (List Bool × List Int × List qa × Int × qd)) (w7 : List Int) (b0 : List qa) (b3 : Int) (b4 : qd) (b8 : qb) : (List Bool × Int) → Option ((List Bool × Int) ⊕ (List Bool))
  | (w9, b10) =>
    if b10 < ((w9.length : Nat) : Int) then Option.bind (Zo b3 b10 w7) fun (a2 : Bool) =>
      if a2 = Bool.true then Option.bind (QN b8 b4 b0 b10) fun (a3 : ql) =>
        if 0 ≤ b10 ∧ b10 < ((w9.length : Nat) : Int) then if Int.toNat b10 + 1 ≤ w9.length then some (Sum.inl (List.set w9 (Int.toNat b10) (qG a3 b8), w64 (b10 + 1)))
          else none
        else none
      else if 0 ≤ b10 ∧ b10 < ((w9.length : Nat) : Int) then if Int.toNat b10 + 1 ≤ w9.length then some (Sum.inl (List.set w9 (Int.toNat b10) Bool.false, w64 (b10 + 1)))
        else none
      else none
    else some (Sum.inr w9)
theorem q3t (rE : Orc) (rF : (qb × List Int × List qa × Int × qd) → Option (List Bool × List Int × List qa × Int × qd)) (hF : ∀ y, rE (.fn 45) 7 (qr y).1 (qr y).2 = (rF y).bind fun e => some (qF e)) (hM : ∀ g k a G, g ≠ 45 → rE (.fn g) k a G = ev g k a G) (hR : ∀ g asg bd k a G, rE (.rd g asg bd) k a G = evr g asg bd k a G) : ∀ (w7 : List Int) (w9 : List Bool) (b0 : List qa) (b3 b4_Worst b4_Best b4_Pass b8_Kind b8_N b8_Min : Int) (b8_Set : List qc) (b8_L : List qb) (b10 : Int) (w9_len w7_len : Nat), w9_len = w9.length → w7_len = w7.length → XL2 rE 45 7 5 ⟨[(1, rP 0), (2, rP 1), (3, rP 3), (4, rP 4), (7, rP 8), (9, rO 9 1 w9_len), (10, R.c (C.fn 50 [] [])), (11, rP 10)], [(0, B.blk 32 [dL 8 qf b0]), (1, B.blk 62 [C.fn 25 [] [dP 2]]), (2, B.blk 22 [dO 7 1 w7_len]), (3, B.blk 3 [dI b3]), (4, B.blk 37 [dI b4_Worst, dI b4_Best, dI b4_Pass]), (5, B.blk 94 [C.fn 45 [] [dP 0, dP 1, dP 3, dP 4, dP 5, dP 6]]), (6, B.blk 62 [C.fn 26 [] [dP 2]]), (7, bR 3 1 eI w7), (8, B.blk 31 [dI b8_Kind, dI b8_N, dI b8_Min, dL 2 qe b8_Set, dL 5 qg b8_L]), (9, bR 4 1 eB w9), (10, B.blk 3 [dI b10])], 11, 142⟩ = (qM (QD rF w7 b0 b3 (qd.mk b4_Worst b4_Best b4_Pass) (qb.mk b8_Kind b8_N b8_Min b8_Set b8_L)) (w9, b10)).bind (fun (e : List Bool) => some (Go.Exit.exit 0, ⟨[(3, rP 3), (9, rO 8 1 e.length)], [(0, B.blk 32 [dL 8 qf b0]), (1, B.blk 62 [C.fn 25 [] [dP 2]]), (2, B.blk 22 [dO 7 1 w7.length]), (3, B.blk 3 [dI b3]), (4, B.blk 37 [dI b4_Worst, dI b4_Best, dI b4_Pass]), (5, B.blk 94 [C.fn 45 [] [dP 0, dP 1, dP 3, dP 4, dP 5, dP 6]]), (6, B.blk 62 [C.fn 26 [] [dP 2]]), (7, bR 3 1 eI w7), (8, bR 4 1 eB e)], 9, 142⟩)) :=
  by
  intro w7 w9 b0 b3 b4_Worst b4_Best b4_Pass b8_Kind b8_N b8_Min b8_Set b8_L b10 w9_len w7_len h0 h1
  subst h0 h1
  revert b10; revert w9; exact q8r qc8 qbI (fun e => by exact ⟨_, rfl, fun h => by cases h⟩) fun w9 b10 => by
    have hF' : ∀ (x0_Kind x0_N x0_Min : Int) (x0_Set : List qc) (x0_L : List qb) (w7 : List Int) (v : List qa) (v2 v3_Worst v3_Best v3_Pass : Int) (w7_len : Nat), w7_len = w7.length → rE (.fn 45) 7 [R.agg [dI x0_Kind, dI x0_N, dI x0_Min, dL 2 qe x0_Set, dL 5 qg x0_L], rP 0, rP 1, rP 3, rP 4, rP 5, rP 6] [(0, B.blk 32 [dL 8 qf v]), (1, B.blk 62 [C.fn 25 [] [dP 2]]), (2, B.blk 22 [dO 7 1 w7_len]), (3, B.blk 3 [dI v2]), (4, B.blk 37 [dI v3_Worst, dI v3_Best, dI v3_Pass]), (5, B.blk 94 [C.fn 45 [] [dP 0, dP 1, dP 3, dP 4, dP 5, dP 6]]), (6, B.blk 62 [C.fn 26 [] [dP 2]]), (7, bR 3 1 eI w7)] = (rF ((qb.mk x0_Kind x0_N x0_Min x0_Set x0_L), w7, v, v2, (qd.mk v3_Worst v3_Best v3_Pass))).bind (fun e => some (rL 1 eB e.1, [(0, B.blk 32 [dL 8 qf e.2.2.1]), (1, B.blk 62 [C.fn 25 [] [dP 2]]), (2, B.blk 22 [dO 7 1 e.2.1.length]), (3, B.blk 3 [dI e.2.2.2.1]), (4, B.blk 37 [dI e.2.2.2.2.Worst, dI e.2.2.2.2.Best, dI e.2.2.2.2.Pass]), (5, B.blk 94 [C.fn 45 [] [dP 0, dP 1, dP 3, dP 4, dP 5, dP 6]]), (6, B.blk 62 [C.fn 26 [] [dP 2]]), (7, bR 3 1 eI e.2.1)])) := by intro x0_Kind x0_N x0_Min x0_Set x0_L w7 v v2 v3_Worst v3_Best v3_Pass w7_len h0; subst h0; exact hF ((qb.mk x0_Kind x0_N x0_Min x0_Set x0_L), w7, v, v2, (qd.mk v3_Worst v3_Best v3_Pass))
    have := qc2; have := @q8V.eq_1; have := @q1E; have := @JZ; have := @ZR; have := @QD.eq_1; exact gA
noncomputable def JG (fu : Nat) (rF : (qb × List Int × List qa × Int × qd) → Option (List Bool × List Int × List qa × Int × qd)) (w7 : List Int) (b0 : List qa) (b3 : Int) (b4 : qd) (b8 : qb) : (List Bool × Int) → Option ((List Bool × Int) ⊕ (List Bool))
  | (w9, b10) =>
    if b10 < ((w9.length : Nat) : Int) then Option.bind (q03 fu b3 b10 w7) fun (a2 : Bool) =>
      if a2 = Bool.true then Option.bind (JT fu b8 b4 b0 b10) fun (a3 : ql) =>
        if 0 ≤ b10 ∧ b10 < ((w9.length : Nat) : Int) then if Int.toNat b10 + 1 ≤ w9.length then some (Sum.inl (List.set w9 (Int.toNat b10) (qG a3 b8), w64 (b10 + 1)))
          else none
        else none
      else if 0 ≤ b10 ∧ b10 < ((w9.length : Nat) : Int) then if Int.toNat b10 + 1 ≤ w9.length then some (Sum.inl (List.set w9 (Int.toNat b10) Bool.false, w64 (b10 + 1)))
        else none
      else none
    else some (Sum.inr w9)
theorem q36 (fu : Nat) (rF rF2 : (qb × List Int × List qa × Int × qd) → Option (List Bool × List Int × List qa × Int × qd)) (hF : ∀ y, qk (rF y) (rF2 y)) (w7 : List Int) (b0 : List qa) (b3 : Int) (b4 : qd) (b8 : qb) : ∀ x, qk (JG fu rF w7 b0 b3 b4 b8 x) (QD rF2 w7 b0 b3 b4 b8 x) := by
  rintro ⟨w9, b10⟩
  unfold JG QD
  try dsimp only
  repeat (first
    | with_reducible exact qk.refl _
    | with_reducible exact qk.none _
    | exact hF _
    | with_reducible apply q1v
    | with_reducible apply q04
    | with_reducible refine qk.bind ?_ (fun _ => ?_)
    | with_reducible refine qk.ite ?_ ?_
    | with_reducible refine qk.sum (fun _ => ?_) (fun _ => ?_)
    | with_reducible refine qk.lim (fun _ => ?_))
noncomputable def Qt (rF : (qb × List Int × List qa × Int × qd) → Option (List Bool × List Int × List qa × Int × qd)) (w7 : List Int) (b0 : List qa) (b3 : Int) (b4 : qd) (b8 : qb) : (List Bool × Int) → Option ((List Bool × Int) ⊕ (List Bool))
  | (w9, b10) =>
    if b10 < ((w9.length : Nat) : Int) then Option.bind (Zo b3 b10 w7) fun (a2 : Bool) =>
      if a2 = Bool.true then Option.bind (QN b8 b4 b0 b10) fun (a3 : ql) =>
        if 0 ≤ b10 ∧ b10 < ((w9.length : Nat) : Int) then if Int.toNat b10 + 1 ≤ w9.length then some (Sum.inl (List.set w9 (Int.toNat b10) (qV a3 b8), w64 (b10 + 1)))
          else none
        else none
      else if 0 ≤ b10 ∧ b10 < ((w9.length : Nat) : Int) then if Int.toNat b10 + 1 ≤ w9.length then some (Sum.inl (List.set w9 (Int.toNat b10) Bool.false, w64 (b10 + 1)))
        else none
      else none
    else some (Sum.inr w9)
theorem q1Q (rE : Orc) (rF : (qb × List Int × List qa × Int × qd) → Option (List Bool × List Int × List qa × Int × qd)) (hF : ∀ y, rE (.fn 45) 7 (qr y).1 (qr y).2 = (rF y).bind fun e => some (qF e)) (hM : ∀ g k a G, g ≠ 45 → rE (.fn g) k a G = ev g k a G) (hR : ∀ g asg bd k a G, rE (.rd g asg bd) k a G = evr g asg bd k a G) : ∀ (w7 : List Int) (w9 : List Bool) (b0 : List qa) (b3 b4_Worst b4_Best b4_Pass b8_Kind b8_N b8_Min : Int) (b8_Set : List qc) (b8_L : List qb) (b10 : Int) (w9_len w7_len : Nat), w9_len = w9.length → w7_len = w7.length → XL2 rE 45 7 5 ⟨[(1, rP 0), (2, rP 1), (3, rP 3), (4, rP 4), (7, rP 8), (9, rO 9 1 w9_len), (10, R.c (C.fn 51 [] [])), (11, rP 10)], [(0, B.blk 32 [dL 8 qf b0]), (1, B.blk 62 [C.fn 25 [] [dP 2]]), (2, B.blk 22 [dO 7 1 w7_len]), (3, B.blk 3 [dI b3]), (4, B.blk 37 [dI b4_Worst, dI b4_Best, dI b4_Pass]), (5, B.blk 94 [C.fn 45 [] [dP 0, dP 1, dP 3, dP 4, dP 5, dP 6]]), (6, B.blk 62 [C.fn 26 [] [dP 2]]), (7, bR 3 1 eI w7), (8, B.blk 31 [dI b8_Kind, dI b8_N, dI b8_Min, dL 2 qe b8_Set, dL 5 qg b8_L]), (9, bR 4 1 eB w9), (10, B.blk 3 [dI b10])], 11, 142⟩ = (qM (Qt rF w7 b0 b3 (qd.mk b4_Worst b4_Best b4_Pass) (qb.mk b8_Kind b8_N b8_Min b8_Set b8_L)) (w9, b10)).bind (fun (e : List Bool) => some (Go.Exit.exit 0, ⟨[(3, rP 3), (9, rO 8 1 e.length)], [(0, B.blk 32 [dL 8 qf b0]), (1, B.blk 62 [C.fn 25 [] [dP 2]]), (2, B.blk 22 [dO 7 1 w7.length]), (3, B.blk 3 [dI b3]), (4, B.blk 37 [dI b4_Worst, dI b4_Best, dI b4_Pass]), (5, B.blk 94 [C.fn 45 [] [dP 0, dP 1, dP 3, dP 4, dP 5, dP 6]]), (6, B.blk 62 [C.fn 26 [] [dP 2]]), (7, bR 3 1 eI w7), (8, bR 4 1 eB e)], 9, 142⟩)) :=
  by
  intro w7 w9 b0 b3 b4_Worst b4_Best b4_Pass b8_Kind b8_N b8_Min b8_Set b8_L b10 w9_len w7_len h0 h1
  subst h0 h1
  revert b10; revert w9; exact q8r qc8 qbI (fun e => by exact ⟨_, rfl, fun h => by cases h⟩) fun w9 b10 => by
    have hF' : ∀ (x0_Kind x0_N x0_Min : Int) (x0_Set : List qc) (x0_L : List qb) (w7 : List Int) (v : List qa) (v2 v3_Worst v3_Best v3_Pass : Int) (w7_len : Nat), w7_len = w7.length → rE (.fn 45) 7 [R.agg [dI x0_Kind, dI x0_N, dI x0_Min, dL 2 qe x0_Set, dL 5 qg x0_L], rP 0, rP 1, rP 3, rP 4, rP 5, rP 6] [(0, B.blk 32 [dL 8 qf v]), (1, B.blk 62 [C.fn 25 [] [dP 2]]), (2, B.blk 22 [dO 7 1 w7_len]), (3, B.blk 3 [dI v2]), (4, B.blk 37 [dI v3_Worst, dI v3_Best, dI v3_Pass]), (5, B.blk 94 [C.fn 45 [] [dP 0, dP 1, dP 3, dP 4, dP 5, dP 6]]), (6, B.blk 62 [C.fn 26 [] [dP 2]]), (7, bR 3 1 eI w7)] = (rF ((qb.mk x0_Kind x0_N x0_Min x0_Set x0_L), w7, v, v2, (qd.mk v3_Worst v3_Best v3_Pass))).bind (fun e => some (rL 1 eB e.1, [(0, B.blk 32 [dL 8 qf e.2.2.1]), (1, B.blk 62 [C.fn 25 [] [dP 2]]), (2, B.blk 22 [dO 7 1 e.2.1.length]), (3, B.blk 3 [dI e.2.2.2.1]), (4, B.blk 37 [dI e.2.2.2.2.Worst, dI e.2.2.2.2.Best, dI e.2.2.2.2.Pass]), (5, B.blk 94 [C.fn 45 [] [dP 0, dP 1, dP 3, dP 4, dP 5, dP 6]]), (6, B.blk 62 [C.fn 26 [] [dP 2]]), (7, bR 3 1 eI e.2.1)])) := by intro x0_Kind x0_N x0_Min x0_Set x0_L w7 v v2 v3_Worst v3_Best v3_Pass w7_len h0; subst h0; exact hF ((qb.mk x0_Kind x0_N x0_Min x0_Set x0_L), w7, v, v2, (qd.mk v3_Worst v3_Best v3_Pass))
    have := qc2; have := @q8V.eq_1; have := @q1E; have := @JZ; have := @JS; have := @Qt.eq_1; exact gA
noncomputable def ZT (fu : Nat) (rF : (qb × List Int × List qa × Int × qd) → Option (List Bool × List Int × List qa × Int × qd)) (w7 : List Int) (b0 : List qa) (b3 : Int) (b4 : qd) (b8 : qb) : (List Bool × Int) → Option ((List Bool × Int) ⊕ (List Bool))
  | (w9, b10) =>
    if b10 < ((w9.length : Nat) : Int) then Option.bind (q03 fu b3 b10 w7) fun (a2 : Bool) =>
      if a2 = Bool.true then Option.bind (JT fu b8 b4 b0 b10) fun (a3 : ql) =>
        if 0 ≤ b10 ∧ b10 < ((w9.length : Nat) : Int) then if Int.toNat b10 + 1 ≤ w9.length then some (Sum.inl (List.set w9 (Int.toNat b10) (qV a3 b8), w64 (b10 + 1)))
          else none
        else none
      else if 0 ≤ b10 ∧ b10 < ((w9.length : Nat) : Int) then if Int.toNat b10 + 1 ≤ w9.length then some (Sum.inl (List.set w9 (Int.toNat b10) Bool.false, w64 (b10 + 1)))
        else none
      else none
    else some (Sum.inr w9)
theorem q1O (fu : Nat) (rF rF2 : (qb × List Int × List qa × Int × qd) → Option (List Bool × List Int × List qa × Int × qd)) (hF : ∀ y, qk (rF y) (rF2 y)) (w7 : List Int) (b0 : List qa) (b3 : Int) (b4 : qd) (b8 : qb) : ∀ x, qk (ZT fu rF w7 b0 b3 b4 b8 x) (Qt rF2 w7 b0 b3 b4 b8 x) := by
  rintro ⟨w9, b10⟩
  unfold ZT Qt
  try dsimp only
  repeat (first
    | with_reducible exact qk.refl _
    | with_reducible exact qk.none _
    | exact hF _
    | with_reducible apply q1v
    | with_reducible apply q04
    | with_reducible refine qk.bind ?_ (fun _ => ?_)
    | with_reducible refine qk.ite ?_ ?_
    | with_reducible refine qk.sum (fun _ => ?_) (fun _ => ?_)
    | with_reducible refine qk.lim (fun _ => ?_))
noncomputable def Qx (rF : (qb × List Int × List qa × Int × qd) → Option (List Bool × List Int × List qa × Int × qd)) (w7 : List Int) (w9 : List Bool) (b0 : List qa) (b3 : Int) (b4 : qd) (b8 : qb) : (List Int × Int) → Option ((List Int × Int) ⊕ (List Int))
  | (w11, t13) =>
    if t13 < ((w11.length : Nat) : Int) then if 0 ≤ t13 ∧ t13 < ((w11.length : Nat) : Int) then if Int.toNat t13 + 1 ≤ w11.length then some (Sum.inl (List.set w11 (Int.toNat t13) (-1), w64 (t13 + 1)))
        else none
      else none
    else some (Sum.inr w11)
theorem q2L (rE : Orc) (rF : (qb × List Int × List qa × Int × qd) → Option (List Bool × List Int × List qa × Int × qd)) (hF : ∀ y, rE (.fn 45) 7 (qr y).1 (qr y).2 = (rF y).bind fun e => some (qF e)) (hM : ∀ g k a G, g ≠ 45 → rE (.fn g) k a G = ev g k a G) (hR : ∀ g asg bd k a G, rE (.rd g asg bd) k a G = evr g asg bd k a G) : ∀ (w7 : List Int) (w9 : List Bool) (w11 : List Int) (b0 : List qa) (b3 b4_Worst b4_Best b4_Pass b8_Kind b8_N b8_Min : Int) (b8_Set : List qc) (b8_L : List qb) (t13 : Int) (w9_len w7_len w11_len : Nat), w9_len = w9.length → w7_len = w7.length → w11_len = w11.length → XL2 rE 45 7 14 ⟨[(3, rP 3), (5, rP 5), (6, rP 6), (7, rP 8), (9, rO 9 1 w9_len), (12, rP 10), (13, rI t13)], [(0, B.blk 32 [dL 8 qf b0]), (1, B.blk 62 [C.fn 25 [] [dP 2]]), (2, B.blk 22 [dO 7 1 w7_len]), (3, B.blk 3 [dI b3]), (4, B.blk 37 [dI b4_Worst, dI b4_Best, dI b4_Pass]), (5, B.blk 94 [C.fn 45 [] [dP 0, dP 1, dP 3, dP 4, dP 5, dP 6]]), (6, B.blk 62 [C.fn 26 [] [dP 2]]), (7, bR 3 1 eI w7), (8, B.blk 31 [dI b8_Kind, dI b8_N, dI b8_Min, dL 2 qe b8_Set, dL 5 qg b8_L]), (9, bR 4 1 eB w9), (10, B.blk 95 [dO 11 1 w11_len]), (11, bR 3 1 eI w11)], 12, 142⟩ = (qM (Qx rF w7 w9 b0 b3 (qd.mk b4_Worst b4_Best b4_Pass) (qb.mk b8_Kind b8_N b8_Min b8_Set b8_L)) (w11, t13)).bind (fun (e : List Int) => some (Go.Exit.exit 2, ⟨[(3, rP 3), (5, rP 5), (6, rP 6), (7, rP 8), (9, rO 9 1 w9.length), (12, rP 10)], [(0, B.blk 32 [dL 8 qf b0]), (1, B.blk 62 [C.fn 25 [] [dP 2]]), (2, B.blk 22 [dO 7 1 w7.length]), (3, B.blk 3 [dI b3]), (4, B.blk 37 [dI b4_Worst, dI b4_Best, dI b4_Pass]), (5, B.blk 94 [C.fn 45 [] [dP 0, dP 1, dP 3, dP 4, dP 5, dP 6]]), (6, B.blk 62 [C.fn 26 [] [dP 2]]), (7, bR 3 1 eI w7), (8, B.blk 31 [dI b8_Kind, dI b8_N, dI b8_Min, dL 2 qe b8_Set, dL 5 qg b8_L]), (9, bR 4 1 eB w9), (10, B.blk 95 [dO 11 1 e.length]), (11, bR 3 1 eI e)], 12, 142⟩)) :=
  by
  intro w7 w9 w11 b0 b3 b4_Worst b4_Best b4_Pass b8_Kind b8_N b8_Min b8_Set b8_L t13 w9_len w7_len w11_len h0 h1 h2
  subst h0 h1 h2
  revert t13; revert w11; exact q8r qdv qeP (fun e => by exact ⟨_, rfl, fun h => by cases h⟩) fun w11 t13 => by
    have hF' : ∀ (x0_Kind x0_N x0_Min : Int) (x0_Set : List qc) (x0_L : List qb) (w7 : List Int) (v : List qa) (v2 v3_Worst v3_Best v3_Pass : Int) (w7_len : Nat), w7_len = w7.length → rE (.fn 45) 7 [R.agg [dI x0_Kind, dI x0_N, dI x0_Min, dL 2 qe x0_Set, dL 5 qg x0_L], rP 0, rP 1, rP 3, rP 4, rP 5, rP 6] [(0, B.blk 32 [dL 8 qf v]), (1, B.blk 62 [C.fn 25 [] [dP 2]]), (2, B.blk 22 [dO 7 1 w7_len]), (3, B.blk 3 [dI v2]), (4, B.blk 37 [dI v3_Worst, dI v3_Best, dI v3_Pass]), (5, B.blk 94 [C.fn 45 [] [dP 0, dP 1, dP 3, dP 4, dP 5, dP 6]]), (6, B.blk 62 [C.fn 26 [] [dP 2]]), (7, bR 3 1 eI w7)] = (rF ((qb.mk x0_Kind x0_N x0_Min x0_Set x0_L), w7, v, v2, (qd.mk v3_Worst v3_Best v3_Pass))).bind (fun e => some (rL 1 eB e.1, [(0, B.blk 32 [dL 8 qf e.2.2.1]), (1, B.blk 62 [C.fn 25 [] [dP 2]]), (2, B.blk 22 [dO 7 1 e.2.1.length]), (3, B.blk 3 [dI e.2.2.2.1]), (4, B.blk 37 [dI e.2.2.2.2.Worst, dI e.2.2.2.2.Best, dI e.2.2.2.2.Pass]), (5, B.blk 94 [C.fn 45 [] [dP 0, dP 1, dP 3, dP 4, dP 5, dP 6]]), (6, B.blk 62 [C.fn 26 [] [dP 2]]), (7, bR 3 1 eI e.2.1)])) := by intro x0_Kind x0_N x0_Min x0_Set x0_L w7 v v2 v3_Worst v3_Best v3_Pass w7_len h0; subst h0; exact hF ((qb.mk x0_Kind x0_N x0_Min x0_Set x0_L), w7, v, v2, (qd.mk v3_Worst v3_Best v3_Pass))
    have := qc2; have := @q9u.eq_1; have := @Qx.eq_1; exact gA
noncomputable def Jc (fu : Nat) (rF : (qb × List Int × List qa × Int × qd) → Option (List Bool × List Int × List qa × Int × qd)) (w7 : List Int) (w9 : List Bool) (b0 : List qa) (b3 : Int) (b4 : qd) (b8 : qb) : (List Int × Int) → Option ((List Int × Int) ⊕ (List Int))
  | (w11, t13) =>
    if t13 < ((w11.length : Nat) : Int) then if 0 ≤ t13 ∧ t13 < ((w11.length : Nat) : Int) then if Int.toNat t13 + 1 ≤ w11.length then some (Sum.inl (List.set w11 (Int.toNat t13) (-1), w64 (t13 + 1)))
        else none
      else none
    else some (Sum.inr w11)
theorem q2o (fu : Nat) (rF rF2 : (qb × List Int × List qa × Int × qd) → Option (List Bool × List Int × List qa × Int × qd)) (hF : ∀ y, qk (rF y) (rF2 y)) (w7 : List Int) (w9 : List Bool) (b0 : List qa) (b3 : Int) (b4 : qd) (b8 : qb) : ∀ x, qk (Jc fu rF w7 w9 b0 b3 b4 b8 x) (Qx rF2 w7 w9 b0 b3 b4 b8 x) := by
  rintro ⟨w11, t13⟩
  unfold Jc Qx
  try dsimp only
  repeat (first
    | with_reducible exact qk.refl _
    | with_reducible exact qk.none _
    | exact hF _
    | with_reducible refine qk.bind ?_ (fun _ => ?_)
    | with_reducible refine qk.ite ?_ ?_
    | with_reducible refine qk.sum (fun _ => ?_) (fun _ => ?_)
    | with_reducible refine qk.lim (fun _ => ?_))
theorem qtf : okL 26 qea := qy (qi qpa) (by kernel_rfl) (by kernel_rfl)
def qt3 := JA_ @qea.eq_1 (JA_ @Try.f26.eq_1 @qpa)
theorem qrv : okL 27 qg6 := qy (qi qmX) (by kernel_rfl) (by kernel_rfl)
def qq2 := JA_ @qg6.eq_1 (JA_ @Try.f27.eq_1 @qmX)
theorem qoF : okL 49 qcu := qy (qi ql0) (by kernel_rfl) (by kernel_rfl)
def qmF := JA_ @qcu.eq_1 (JA_ @Try.f49.eq_1 @ql0)
theorem qih : lbO 49 2 = qci := Q8 (qi ql0) rfl
theorem qi5 : okL 49 qci := zd qoF (List.mem_of_getElem? (i := 0) (by kernel_rfl))
theorem qva : okL 28 qfG := qy (qi qnv) (by kernel_rfl) (by kernel_rfl)
def qtS := JA_ @qfG.eq_1 (JA_ @Try.f28.eq_1 @qnv)
noncomputable def J4 (x : Int) (v : Int) (v2 : Int) : Option Bool :=
  if v ≤ x then some (decide (x < v2))
  else some Bool.false
noncomputable def Zt (x : Int) (v : Int) (v2 : Int) : Bool :=
  if v ≤ x then decide (x < v2)
  else Bool.false
theorem q3P (x v v2 : Int) : J4 x v v2 = some (Zt x v v2) := by
  unfold J4 Zt
  simp only [zX]
theorem q4g : ∀ (x v v2 : Int), ev 28 2 [rI x, rP 0, rP 1] [(0, B.blk 3 [dI v]), (1, B.blk 3 [dI v2])] = some (rB (Zt x v v2), [(0, B.blk 3 [dI v]), (1, B.blk 3 [dI v2])]) :=
  fun x v v2 => by
    have h : ev 28 2 [rI x, rP 0, rP 1] [(0, B.blk 3 [dI v]), (1, B.blk 3 [dI v2])] = (J4 x v v2).bind (fun (e : Bool) => some (rB e, [(0, B.blk 3 [dI v]), (1, B.blk 3 [dI v2])])) := by
      rw [qz qnv qv4.2.2.2 qva]
      have := qtS; have := @J4.eq_1; exact gA
    rw [q3P] at h
    exact h
noncomputable def zB (b0 : Int) (b1 : Int) (s : List Int) (t7 : Int) : Int → Option (Int ⊕ (Int ⊕ Unit))
  | t8 =>
    if t8 < t7 then if 0 ≤ t8 ∧ t8 < ((s.length : Nat) : Int) then Option.bind s[Int.toNat t8]? fun (a : Int) =>
        if Zt a b0 b1 = Bool.true then some (Sum.inr (Sum.inl t8))
        else some (Sum.inl (w64 (t8 + 1)))
      else none
    else some (Sum.inr (Sum.inr ()))
theorem JH : ∀ (b0 b1 : Int) (s : List Int) (t7 t8 : Int), XL2 evo 49 2 2 ⟨[(0, rL 1 eI s), (1, R.c (C.fn 28 [] [dP 0, dP 1])), (7, rI t7), (8, rI t8)], [(0, B.blk 3 [dI b0]), (1, B.blk 3 [dI b1])], 2, 19⟩ = (qM (zB b0 b1 s t7) t8).bind (Sum.elim (fun (e : Int) => some (Go.Exit.ret, ⟨[(4, rI e)], [(0, B.blk 3 [dI b0]), (1, B.blk 3 [dI b1])], 2, 19⟩)) (fun (e : Unit) => some (Go.Exit.exit 0, ⟨[(4, R.any)], [(0, B.blk 3 [dI b0]), (1, B.blk 3 [dI b1])], 2, 19⟩))) :=
  fun b0 b1 s t7 t8 => by
    revert t8; exact qad qih qi5 (fun e => by rcases e with _ | _ <;> exact ⟨_, rfl, fun h => by cases h⟩) fun x => by
      have := qmF; have := @qci.eq_1; have := @q4g; have := @zB.eq_1; exact gA
noncomputable def zm (s : List Int) (b0 : Int) (b1 : Int) : Option Int :=
  Option.bind (qM (zB b0 b1 s ((s.length : Nat) : Int)) 0) fun (a : Sum Int Unit) =>
  Sum.elim (fun (a2 : Int) => some a2) (fun (a3 : Unit) => some (-1)) a
theorem q0n : ∀ (s : List Int) (b0 b1 : Int), ev 49 2 [rL 1 eI s, R.c (C.fn 28 [] [dP 0, dP 1])] [(0, B.blk 3 [dI b0]), (1, B.blk 3 [dI b1])] = (zm s b0 b1).bind (fun (e : Int) => some (rI e, [(0, B.blk 3 [dI b0]), (1, B.blk 3 [dI b1])])) :=
  fun s b0 b1 => by
    rw [qz ql0 qrY.2.2.2 qoF]
    have := qmF; have := @JH; have := @zm.eq_1; exact gA
noncomputable def Qy (fu : Nat) (s : List Int) (b0 : Int) (b1 : Int) : Option Int :=
  Option.bind (itT (zB b0 b1 s ((s.length : Nat) : Int)) fu 0) fun (a : Sum Int Unit) =>
  Sum.elim (fun (a2 : Int) => some a2) (fun (a3 : Unit) => some (-1)) a
theorem q0j (fu : Nat) (s : List Int) (b0 b1 : Int) : qk (Qy fu s b0 b1) (zm s b0 b1) := by
  unfold Qy zm
  repeat (first
    | with_reducible exact qk.refl _
    | with_reducible exact qk.none _
    | with_reducible refine qk.bind ?_ (fun _ => ?_)
    | with_reducible refine qk.ite ?_ ?_
    | with_reducible refine qk.sum (fun _ => ?_) (fun _ => ?_)
    | with_reducible refine qk.lim (fun _ => ?_))
noncomputable def qW (s : List Int) (b0 : Int) (b1 : Int) : Option Bool :=
  Option.bind (zm s b0 b1) fun (a : Int) =>
  some (decide (0 ≤ a))
theorem JI : ∀ (s : List Int) (b0 b1 : Int), ev 27 2 [rL 1 eI s, R.c (C.fn 28 [] [dP 0, dP 1])] [(0, B.blk 3 [dI b0]), (1, B.blk 3 [dI b1])] = (qW s b0 b1).bind (fun (e : Bool) => some (rB e, [(0, B.blk 3 [dI b0]), (1, B.blk 3 [dI b1])])) :=
  fun s b0 b1 => by
    rw [qz qmX qqg.2.2.2 qrv]
    have := qq2; have := @q0n; have := @qW.eq_1; exact gA
noncomputable def Qn (fu : Nat) (s : List Int) (b0 : Int) (b1 : Int) : Option Bool :=
  Option.bind (Qy fu s b0 b1) fun (a : Int) =>
  some (decide (0 ≤ a))
theorem JJ (fu : Nat) (s : List Int) (b0 b1 : Int) : qk (Qn fu s b0 b1) (qW s b0 b1) := by
  unfold Qn qW
  repeat (first
    | with_reducible exact qk.refl _
    | with_reducible exact qk.none _
    | with_reducible apply q0j
    | with_reducible refine qk.bind ?_ (fun _ => ?_)
    | with_reducible refine qk.ite ?_ ?_
    | with_reducible refine qk.sum (fun _ => ?_) (fun _ => ?_)
    | with_reducible refine qk.lim (fun _ => ?_))
noncomputable def ZY (from0 : Int) (to : Int) (w1 : List Int) : Option Bool :=
  Option.bind (qW w1 from0 to) fun (a : Bool) =>
  some a
theorem q60 : ∀ (from0 to : Int) (w1 : List Int) (w1_len : Nat), w1_len = w1.length → ev 26 1 [rI from0, rI to, rP 0] [(0, B.blk 22 [dO 1 1 w1_len]), (1, bR 3 1 eI w1)] = (ZY from0 to w1).bind (fun (e : Bool) => some (rB e, [(0, B.blk 22 [dO 1 1 w1.length]), (1, bR 3 1 eI w1)])) :=
  by
  intro from0 to w1 w1_len h0
  subst h0
  rw [qz qpa qtG.2.2.2 qtf]
  have := qt3; have := @JI; have := @ZY.eq_1; exact gA
noncomputable def q1p (fu : Nat) (from0 : Int) (to : Int) (w1 : List Int) : Option Bool :=
  Option.bind (Qn fu w1 from0 to) fun (a : Bool) =>
  some a
theorem q5G (fu : Nat) (from0 to : Int) (w1 : List Int) : qk (q1p fu from0 to w1) (ZY from0 to w1) := by
  unfold q1p ZY
  repeat (first
    | with_reducible exact qk.refl _
    | with_reducible exact qk.none _
    | with_reducible apply JJ
    | with_reducible refine qk.bind ?_ (fun _ => ?_)
    | with_reducible refine qk.ite ?_ ?_
    | with_reducible refine qk.sum (fun _ => ?_) (fun _ => ?_)
    | with_reducible refine qk.lim (fun _ => ?_))
noncomputable def Q5 (rF : (qb × List Int × List qa × Int × qd) → Option (List Bool × List Int × List qa × Int × qd)) (w7 : List Int) (w9 : List Bool) (w11 : List Int) (b0 : List qa) (b3 : Int) (b4 : qd) (b8 : qb) (b12 : List Bool) (t18 : Bool) (t72 : List qb) (t73 : Int) (t74 : Int) (t96 : Int) : (List Int × Int) → Option ((List Int × Int) ⊕ (List Int))
  | (w14, t97) =>
    if t97 < t96 then if 0 ≤ t97 ∧ t97 < ((w14.length : Nat) : Int) then if Int.toNat t97 + 1 ≤ w14.length then if t18 = Bool.true then if 0 ≤ t97 ∧ t97 < ((w11.length : Nat) : Int) then Option.bind w11[Int.toNat t97]? fun (a2 : Int) =>
              if 0 ≤ t97 ∧ t97 < ((w14.length : Nat) : Int) then if Int.toNat t97 + 1 ≤ w14.length then Option.bind (qJ t97 w11 (List.set (List.set w14 (Int.toNat t97) (-1)) (Int.toNat t97) a2) b12 t97) fun (a3 : List Int) =>
                  some (Sum.inl (a3, w64 (t97 + 1)))
                else none
              else none
            else none
          else Option.bind (qJ t97 w11 (List.set w14 (Int.toNat t97) (-1)) b12 t97) fun (a4 : List Int) =>
          some (Sum.inl (a4, w64 (t97 + 1)))
        else none
      else none
    else some (Sum.inr w14)
theorem q2F (rE : Orc) (rF : (qb × List Int × List qa × Int × qd) → Option (List Bool × List Int × List qa × Int × qd)) (hF : ∀ y, rE (.fn 45) 7 (qr y).1 (qr y).2 = (rF y).bind fun e => some (qF e)) (hM : ∀ g k a G, g ≠ 45 → rE (.fn g) k a G = ev g k a G) (hR : ∀ g asg bd k a G, rE (.rd g asg bd) k a G = evr g asg bd k a G) : ∀ (w7 : List Int) (w9 : List Bool) (w11 w14 : List Int) (b0 : List qa) (b3 b4_Worst b4_Best b4_Pass b8_Kind b8_N b8_Min : Int) (b8_Set : List qc) (b8_L : List qb) (b12 : List Bool) (t18 : Bool) (t72 : List qb) (t73 t74 t96 t97 : Int) (w9_len w7_len w11_len w14_len : Nat), w9_len = w9.length → w7_len = w7.length → w11_len = w11.length → w14_len = w14.length → XL2 rE 45 7 25 ⟨[(3, rP 3), (5, rP 5), (6, rP 6), (7, rP 8), (9, rO 9 1 w9_len), (12, rP 10), (17, rP 12), (18, rB t18), (19, rP 13), (72, rL 5 qg t72), (73, rI t73), (74, rI t74), (96, rI t96), (97, rI t97)], [(0, B.blk 32 [dL 8 qf b0]), (1, B.blk 62 [C.fn 25 [] [dP 2]]), (2, B.blk 22 [dO 7 1 w7_len]), (3, B.blk 3 [dI b3]), (4, B.blk 37 [dI b4_Worst, dI b4_Best, dI b4_Pass]), (5, B.blk 94 [C.fn 45 [] [dP 0, dP 1, dP 3, dP 4, dP 5, dP 6]]), (6, B.blk 62 [C.fn 26 [] [dP 2]]), (7, bR 3 1 eI w7), (8, B.blk 31 [dI b8_Kind, dI b8_N, dI b8_Min, dL 2 qe b8_Set, dL 5 qg b8_L]), (9, bR 4 1 eB w9), (10, B.blk 95 [dO 11 1 w11_len]), (11, bR 3 1 eI w11), (12, B.blk 63 [dL 1 eB b12]), (13, B.blk 95 [dO 14 1 w14_len]), (14, bR 3 1 eI w14)], 15, 142⟩ = (qM (Q5 rF w7 w9 w11 b0 b3 (qd.mk b4_Worst b4_Best b4_Pass) (qb.mk b8_Kind b8_N b8_Min b8_Set b8_L) b12 t18 t72 t73 t74 t96) (w14, t97)).bind (fun (e : List Int) => some (Go.Exit.exit 6, ⟨[(3, rP 3), (5, rP 5), (6, rP 6), (7, rP 8), (9, rO 9 1 w9.length), (12, rP 10), (19, rP 12), (72, rL 5 qg t72), (73, rI t73), (74, rI t74)], [(0, B.blk 32 [dL 8 qf b0]), (1, B.blk 62 [C.fn 25 [] [dP 2]]), (2, B.blk 22 [dO 7 1 w7.length]), (3, B.blk 3 [dI b3]), (4, B.blk 37 [dI b4_Worst, dI b4_Best, dI b4_Pass]), (5, B.blk 94 [C.fn 45 [] [dP 0, dP 1, dP 3, dP 4, dP 5, dP 6]]), (6, B.blk 62 [C.fn 26 [] [dP 2]]), (7, bR 3 1 eI w7), (8, B.blk 31 [dI b8_Kind, dI b8_N, dI b8_Min, dL 2 qe b8_Set, dL 5 qg b8_L]), (9, bR 4 1 eB w9), (10, B.blk 95 [dO 11 1 w11.length]), (11, bR 3 1 eI w11), (12, B.blk 95 [dO 13 1 e.length]), (13, bR 3 1 eI e)], 14, 142⟩)) :=
  by
  intro w7 w9 w11 w14 b0 b3 b4_Worst b4_Best b4_Pass b8_Kind b8_N b8_Min b8_Set b8_L b12 t18 t72 t73 t74 t96 t97 w9_len w7_len w11_len w14_len h0 h1 h2 h3
  subst h0 h1 h2 h3
  revert t97; revert w14; exact q8r qfQ qf7 (fun e => by exact ⟨_, rfl, fun h => by cases h⟩) fun w14 t97 => by
    have hF' : ∀ (x0_Kind x0_N x0_Min : Int) (x0_Set : List qc) (x0_L : List qb) (w7 : List Int) (v : List qa) (v2 v3_Worst v3_Best v3_Pass : Int) (w7_len : Nat), w7_len = w7.length → rE (.fn 45) 7 [R.agg [dI x0_Kind, dI x0_N, dI x0_Min, dL 2 qe x0_Set, dL 5 qg x0_L], rP 0, rP 1, rP 3, rP 4, rP 5, rP 6] [(0, B.blk 32 [dL 8 qf v]), (1, B.blk 62 [C.fn 25 [] [dP 2]]), (2, B.blk 22 [dO 7 1 w7_len]), (3, B.blk 3 [dI v2]), (4, B.blk 37 [dI v3_Worst, dI v3_Best, dI v3_Pass]), (5, B.blk 94 [C.fn 45 [] [dP 0, dP 1, dP 3, dP 4, dP 5, dP 6]]), (6, B.blk 62 [C.fn 26 [] [dP 2]]), (7, bR 3 1 eI w7)] = (rF ((qb.mk x0_Kind x0_N x0_Min x0_Set x0_L), w7, v, v2, (qd.mk v3_Worst v3_Best v3_Pass))).bind (fun e => some (rL 1 eB e.1, [(0, B.blk 32 [dL 8 qf e.2.2.1]), (1, B.blk 62 [C.fn 25 [] [dP 2]]), (2, B.blk 22 [dO 7 1 e.2.1.length]), (3, B.blk 3 [dI e.2.2.2.1]), (4, B.blk 37 [dI e.2.2.2.2.Worst, dI e.2.2.2.2.Best, dI e.2.2.2.2.Pass]), (5, B.blk 94 [C.fn 45 [] [dP 0, dP 1, dP 3, dP 4, dP 5, dP 6]]), (6, B.blk 62 [C.fn 26 [] [dP 2]]), (7, bR 3 1 eI e.2.1)])) := by intro x0_Kind x0_N x0_Min x0_Set x0_L w7 v v2 v3_Worst v3_Best v3_Pass w7_len h0; subst h0; exact hF ((qb.mk x0_Kind x0_N x0_Min x0_Set x0_L), w7, v, v2, (qd.mk v3_Worst v3_Best v3_Pass))
    have := qc2; have := @q9J.eq_1; have := @Jo; have := @Q5.eq_1; exact gA
noncomputable def Z3 (fu : Nat) (rF : (qb × List Int × List qa × Int × qd) → Option (List Bool × List Int × List qa × Int × qd)) (w7 : List Int) (w9 : List Bool) (w11 : List Int) (b0 : List qa) (b3 : Int) (b4 : qd) (b8 : qb) (b12 : List Bool) (t18 : Bool) (t72 : List qb) (t73 : Int) (t74 : Int) (t96 : Int) : (List Int × Int) → Option ((List Int × Int) ⊕ (List Int))
  | (w14, t97) =>
    if t97 < t96 then if 0 ≤ t97 ∧ t97 < ((w14.length : Nat) : Int) then if Int.toNat t97 + 1 ≤ w14.length then if t18 = Bool.true then if 0 ≤ t97 ∧ t97 < ((w11.length : Nat) : Int) then Option.bind w11[Int.toNat t97]? fun (a2 : Int) =>
              if 0 ≤ t97 ∧ t97 < ((w14.length : Nat) : Int) then if Int.toNat t97 + 1 ≤ w14.length then Option.bind (zN fu t97 w11 (List.set (List.set w14 (Int.toNat t97) (-1)) (Int.toNat t97) a2) b12 t97) fun (a3 : List Int) =>
                  some (Sum.inl (a3, w64 (t97 + 1)))
                else none
              else none
            else none
          else Option.bind (zN fu t97 w11 (List.set w14 (Int.toNat t97) (-1)) b12 t97) fun (a4 : List Int) =>
          some (Sum.inl (a4, w64 (t97 + 1)))
        else none
      else none
    else some (Sum.inr w14)
theorem q2r (fu : Nat) (rF rF2 : (qb × List Int × List qa × Int × qd) → Option (List Bool × List Int × List qa × Int × qd)) (hF : ∀ y, qk (rF y) (rF2 y)) (w7 : List Int) (w9 : List Bool) (w11 : List Int) (b0 : List qa) (b3 : Int) (b4 : qd) (b8 : qb) (b12 : List Bool) (t18 : Bool) (t72 : List qb) (t73 t74 t96 : Int) : ∀ x, qk (Z3 fu rF w7 w9 w11 b0 b3 b4 b8 b12 t18 t72 t73 t74 t96 x) (Q5 rF2 w7 w9 w11 b0 b3 b4 b8 b12 t18 t72 t73 t74 t96 x) := by
  rintro ⟨w14, t97⟩
  unfold Z3 Q5
  try dsimp only
  repeat (first
    | with_reducible exact qk.refl _
    | with_reducible exact qk.none _
    | exact hF _
    | with_reducible apply Jt
    | with_reducible refine qk.bind ?_ (fun _ => ?_)
    | with_reducible refine qk.ite ?_ ?_
    | with_reducible refine qk.sum (fun _ => ?_) (fun _ => ?_)
    | with_reducible refine qk.lim (fun _ => ?_))
noncomputable def Q1 (rF : (qb × List Int × List qa × Int × qd) → Option (List Bool × List Int × List qa × Int × qd)) (w9 : List Bool) (b8 : qb) (t72 : List qb) (t73 : Int) : (List Int × List Int × List qa × Int × qd × Int) → Option ((List Int × List Int × List qa × Int × qd × Int) ⊕ (List Int × List Int × List qa × Int × qd))
  | (w7, w11, b0, b3, b4, t74) =>
    if t74 < t73 then if 0 ≤ t74 ∧ t74 < ((t72.length : Nat) : Int) then Option.bind t72[Int.toNat t74]? fun (a2 : qb) =>
        Option.bind (rF (a2, (w7, (b0, (b3, b4))))) fun (a3 : Prod (List Bool) (Prod (List Int) (Prod (List qa) (Prod Int qd)))) =>
        if (b8.Kind == 4) = Bool.true then Option.bind (ZY b3 a3.2.2.2.1 a3.2.1) fun (a4 : Bool) =>
          if 0 ≤ ((w11.length : Nat) : Int) ∧ 8 * ((w11.length : Nat) : Int) ≤ 281474976710656 ∧ ((w11.length : Nat) : Int) ≤ 9223372036854775807 then Option.bind (qM (Q5 rF a3.2.1 w9 w11 a3.2.2.1 a3.2.2.2.1 a3.2.2.2.2 b8 a3.1 (!a4) t72 t73 t74 ((w11.length : Nat) : Int)) (List.replicate w11.length 0, 0)) fun (a5 : List Int) =>
            some (Sum.inl (a3.2.1, a5, a3.2.2.1, a3.2.2.2.1, a3.2.2.2.2, w64 (t74 + 1)))
          else none
        else if 0 ≤ ((w11.length : Nat) : Int) ∧ 8 * ((w11.length : Nat) : Int) ≤ 281474976710656 ∧ ((w11.length : Nat) : Int) ≤ 9223372036854775807 then Option.bind (qM (Q5 rF a3.2.1 w9 w11 a3.2.2.1 a3.2.2.2.1 a3.2.2.2.2 b8 a3.1 Bool.false t72 t73 t74 ((w11.length : Nat) : Int)) (List.replicate w11.length 0, 0)) fun (a6 : List Int) =>
          some (Sum.inl (a3.2.1, a6, a3.2.2.1, a3.2.2.2.1, a3.2.2.2.2, w64 (t74 + 1)))
        else none
      else none
    else some (Sum.inr (w7, w11, b0, b3, b4))
theorem q2p (rE : Orc) (rF : (qb × List Int × List qa × Int × qd) → Option (List Bool × List Int × List qa × Int × qd)) (hF : ∀ y, rE (.fn 45) 7 (qr y).1 (qr y).2 = (rF y).bind fun e => some (qF e)) (hM : ∀ g k a G, g ≠ 45 → rE (.fn g) k a G = ev g k a G) (hR : ∀ g asg bd k a G, rE (.rd g asg bd) k a G = evr g asg bd k a G) : ∀ (w7 : List Int) (w9 : List Bool) (w11 : List Int) (b0 : List qa) (b3 b4_Worst b4_Best b4_Pass b8_Kind b8_N b8_Min : Int) (b8_Set : List qc) (b8_L t72 : List qb) (t73 t74 : Int) (w9_len w7_len w11_len : Nat), w9_len = w9.length → w7_len = w7.length → w11_len = w11.length → XL2 rE 45 7 18 ⟨[(3, rP 3), (5, rP 5), (6, rP 6), (7, rP 8), (9, rO 9 1 w9_len), (12, rP 10), (72, rL 5 qg t72), (73, rI t73), (74, rI t74)], [(0, B.blk 32 [dL 8 qf b0]), (1, B.blk 62 [C.fn 25 [] [dP 2]]), (2, B.blk 22 [dO 7 1 w7_len]), (3, B.blk 3 [dI b3]), (4, B.blk 37 [dI b4_Worst, dI b4_Best, dI b4_Pass]), (5, B.blk 94 [C.fn 45 [] [dP 0, dP 1, dP 3, dP 4, dP 5, dP 6]]), (6, B.blk 62 [C.fn 26 [] [dP 2]]), (7, bR 3 1 eI w7), (8, B.blk 31 [dI b8_Kind, dI b8_N, dI b8_Min, dL 2 qe b8_Set, dL 5 qg b8_L]), (9, bR 4 1 eB w9), (10, B.blk 95 [dO 11 1 w11_len]), (11, bR 3 1 eI w11)], 12, 142⟩ = (qM (Q1 rF w9 (qb.mk b8_Kind b8_N b8_Min b8_Set b8_L) t72 t73) (w7, w11, b0, b3, (qd.mk b4_Worst b4_Best b4_Pass), t74)).bind (fun (e : List Int × List Int × List qa × Int × qd) => some (Go.Exit.exit 4, ⟨[(7, rP 8), (9, rO 9 1 w9.length), (12, rP 10)], [(0, B.blk 32 [dL 8 qf e.2.2.1]), (1, B.blk 62 [C.fn 25 [] [dP 2]]), (2, B.blk 22 [dO 7 1 e.1.length]), (3, B.blk 3 [dI e.2.2.2.1]), (4, B.blk 37 [dI e.2.2.2.2.Worst, dI e.2.2.2.2.Best, dI e.2.2.2.2.Pass]), (5, B.blk 94 [C.fn 45 [] [dP 0, dP 1, dP 3, dP 4, dP 5, dP 6]]), (6, B.blk 62 [C.fn 26 [] [dP 2]]), (7, bR 3 1 eI e.1), (8, B.blk 31 [dI b8_Kind, dI b8_N, dI b8_Min, dL 2 qe b8_Set, dL 5 qg b8_L]), (9, bR 4 1 eB w9), (10, B.blk 95 [dO 11 1 e.2.1.length]), (11, bR 3 1 eI e.2.1)], 12, 142⟩)) :=
  by
  intro w7 w9 w11 b0 b3 b4_Worst b4_Best b4_Pass b8_Kind b8_N b8_Min b8_Set b8_L t72 t73 t74 w9_len w7_len w11_len h0 h1 h2
  subst h0 h1 h2
  have h := q1e (E := rE) (f := 45) (k := 7) (st := fun x : List Int × List Int × List qa × Int × qd × Int => (⟨[(3, rP 3), (5, rP 5), (6, rP 6), (7, rP 8), (9, rO 9 1 w9.length), (12, rP 10), (72, rL 5 qg t72), (73, rI t73), (74, rI x.2.2.2.2.2)], [(0, B.blk 32 [dL 8 qf x.2.2.1]), (1, B.blk 62 [C.fn 25 [] [dP 2]]), (2, B.blk 22 [dO 7 1 x.1.length]), (3, B.blk 3 [dI x.2.2.2.1]), (4, B.blk 37 [dI x.2.2.2.2.1.Worst, dI x.2.2.2.2.1.Best, dI x.2.2.2.2.1.Pass]), (5, B.blk 94 [C.fn 45 [] [dP 0, dP 1, dP 3, dP 4, dP 5, dP 6]]), (6, B.blk 62 [C.fn 26 [] [dP 2]]), (7, bR 3 1 eI x.1), (8, B.blk 31 [dI b8_Kind, dI b8_N, dI b8_Min, dL 2 qe b8_Set, dL 5 qg b8_L]), (9, bR 4 1 eB w9), (10, B.blk 95 [dO 11 1 x.2.1.length]), (11, bR 3 1 eI x.2.1)], 12, 142⟩ : S)) (ex := fun (e : List Int × List Int × List qa × Int × qd) => (Go.Exit.exit 4, ⟨[(7, rP 8), (9, rO 9 1 w9.length), (12, rP 10)], [(0, B.blk 32 [dL 8 qf e.2.2.1]), (1, B.blk 62 [C.fn 25 [] [dP 2]]), (2, B.blk 22 [dO 7 1 e.1.length]), (3, B.blk 3 [dI e.2.2.2.1]), (4, B.blk 37 [dI e.2.2.2.2.Worst, dI e.2.2.2.2.Best, dI e.2.2.2.2.Pass]), (5, B.blk 94 [C.fn 45 [] [dP 0, dP 1, dP 3, dP 4, dP 5, dP 6]]), (6, B.blk 62 [C.fn 26 [] [dP 2]]), (7, bR 3 1 eI e.1), (8, B.blk 31 [dI b8_Kind, dI b8_N, dI b8_Min, dL 2 qe b8_Set, dL 5 qg b8_L]), (9, bR 4 1 eB w9), (10, B.blk 95 [dO 11 1 e.2.1.length]), (11, bR 3 1 eI e.2.1)], 12, 142⟩)) (step := (Q1 rF w9 (qb.mk b8_Kind b8_N b8_Min b8_Set b8_L) t72 t73)) qge qem (fun e h => by cases h) (fun x => by
    obtain ⟨w7, w11, b0, b3, b4, t74⟩ := x; have hF' : ∀ (x0_Kind x0_N x0_Min : Int) (x0_Set : List qc) (x0_L : List qb) (w7 : List Int) (v : List qa) (v2 v3_Worst v3_Best v3_Pass : Int) (w7_len : Nat), w7_len = w7.length → rE (.fn 45) 7 [R.agg [dI x0_Kind, dI x0_N, dI x0_Min, dL 2 qe x0_Set, dL 5 qg x0_L], rP 0, rP 1, rP 3, rP 4, rP 5, rP 6] [(0, B.blk 32 [dL 8 qf v]), (1, B.blk 62 [C.fn 25 [] [dP 2]]), (2, B.blk 22 [dO 7 1 w7_len]), (3, B.blk 3 [dI v2]), (4, B.blk 37 [dI v3_Worst, dI v3_Best, dI v3_Pass]), (5, B.blk 94 [C.fn 45 [] [dP 0, dP 1, dP 3, dP 4, dP 5, dP 6]]), (6, B.blk 62 [C.fn 26 [] [dP 2]]), (7, bR 3 1 eI w7)] = (rF ((qb.mk x0_Kind x0_N x0_Min x0_Set x0_L), w7, v, v2, (qd.mk v3_Worst v3_Best v3_Pass))).bind (fun e => some (rL 1 eB e.1, [(0, B.blk 32 [dL 8 qf e.2.2.1]), (1, B.blk 62 [C.fn 25 [] [dP 2]]), (2, B.blk 22 [dO 7 1 e.2.1.length]), (3, B.blk 3 [dI e.2.2.2.1]), (4, B.blk 37 [dI e.2.2.2.2.Worst, dI e.2.2.2.2.Best, dI e.2.2.2.2.Pass]), (5, B.blk 94 [C.fn 45 [] [dP 0, dP 1, dP 3, dP 4, dP 5, dP 6]]), (6, B.blk 62 [C.fn 26 [] [dP 2]]), (7, bR 3 1 eI e.2.1)])) := by intro x0_Kind x0_N x0_Min x0_Set x0_L w7 v v2 v3_Worst v3_Best v3_Pass w7_len h0; subst h0; exact hF ((qb.mk x0_Kind x0_N x0_Min x0_Set x0_L), w7, v, v2, (qd.mk v3_Worst v3_Best v3_Pass))
    have := qc2; have := @q9B.eq_1; have := @q60; have := q2F rE rF hF hM hR; have := @Q1.eq_1; exact gA) (w7, w11, b0, b3, (qd.mk b4_Worst b4_Best b4_Pass), t74)
  exact h
noncomputable def Jh (fu : Nat) (rF : (qb × List Int × List qa × Int × qd) → Option (List Bool × List Int × List qa × Int × qd)) (w9 : List Bool) (b8 : qb) (t72 : List qb) (t73 : Int) : (List Int × List Int × List qa × Int × qd × Int) → Option ((List Int × List Int × List qa × Int × qd × Int) ⊕ (List Int × List Int × List qa × Int × qd))
  | (w7, w11, b0, b3, b4, t74) =>
    if t74 < t73 then if 0 ≤ t74 ∧ t74 < ((t72.length : Nat) : Int) then Option.bind t72[Int.toNat t74]? fun (a2 : qb) =>
        Option.bind (rF (a2, (w7, (b0, (b3, b4))))) fun (a3 : Prod (List Bool) (Prod (List Int) (Prod (List qa) (Prod Int qd)))) =>
        if (b8.Kind == 4) = Bool.true then Option.bind (q1p fu b3 a3.2.2.2.1 a3.2.1) fun (a4 : Bool) =>
          if 0 ≤ ((w11.length : Nat) : Int) ∧ 8 * ((w11.length : Nat) : Int) ≤ 281474976710656 ∧ ((w11.length : Nat) : Int) ≤ 9223372036854775807 then Option.bind (itT (Z3 fu rF a3.2.1 w9 w11 a3.2.2.1 a3.2.2.2.1 a3.2.2.2.2 b8 a3.1 (!a4) t72 t73 t74 ((w11.length : Nat) : Int)) fu (List.replicate w11.length 0, 0)) fun (a5 : List Int) =>
            some (Sum.inl (a3.2.1, a5, a3.2.2.1, a3.2.2.2.1, a3.2.2.2.2, w64 (t74 + 1)))
          else none
        else if 0 ≤ ((w11.length : Nat) : Int) ∧ 8 * ((w11.length : Nat) : Int) ≤ 281474976710656 ∧ ((w11.length : Nat) : Int) ≤ 9223372036854775807 then Option.bind (itT (Z3 fu rF a3.2.1 w9 w11 a3.2.2.1 a3.2.2.2.1 a3.2.2.2.2 b8 a3.1 Bool.false t72 t73 t74 ((w11.length : Nat) : Int)) fu (List.replicate w11.length 0, 0)) fun (a6 : List Int) =>
          some (Sum.inl (a3.2.1, a6, a3.2.2.1, a3.2.2.2.1, a3.2.2.2.2, w64 (t74 + 1)))
        else none
      else none
    else some (Sum.inr (w7, w11, b0, b3, b4))
theorem q2s (fu : Nat) (rF rF2 : (qb × List Int × List qa × Int × qd) → Option (List Bool × List Int × List qa × Int × qd)) (hF : ∀ y, qk (rF y) (rF2 y)) (w9 : List Bool) (b8 : qb) (t72 : List qb) (t73 : Int) : ∀ x, qk (Jh fu rF w9 b8 t72 t73 x) (Q1 rF2 w9 b8 t72 t73 x) := by
  rintro ⟨w7, w11, b0, b3, b4, t74⟩
  unfold Jh Q1
  try dsimp only
  repeat (first
    | with_reducible exact qk.refl _
    | with_reducible exact qk.none _
    | exact hF _
    | with_reducible apply q5G
    | (with_reducible refine q2r _ _ _ hF ..)
    | with_reducible refine qk.bind ?_ (fun _ => ?_)
    | with_reducible refine qk.ite ?_ ?_
    | with_reducible refine qk.sum (fun _ => ?_) (fun _ => ?_)
    | with_reducible refine qk.lim (fun _ => ?_))
noncomputable def Q7 (rF : (qb × List Int × List qa × Int × qd) → Option (List Bool × List Int × List qa × Int × qd)) (w7 : List Int) (w10 : List Int) (b0 : List qa) (b3 : Int) (b4 : qd) (t21 : Int) : (List Bool × Int) → Option ((List Bool × Int) ⊕ (List Bool))
  | (w8, t22) =>
    if t22 < ((w8.length : Nat) : Int) then if 0 ≤ t22 ∧ t22 < ((w10.length : Nat) : Int) then Option.bind w10[Int.toNat t22]? fun (a2 : Int) =>
        if 0 ≤ t22 ∧ t22 < ((w8.length : Nat) : Int) then if Int.toNat t22 + 1 ≤ w8.length then some (Sum.inl (List.set w8 (Int.toNat t22) (decide (t21 ≤ a2)), w64 (t22 + 1)))
          else none
        else none
      else none
    else some (Sum.inr w8)
theorem q2A (rE : Orc) (rF : (qb × List Int × List qa × Int × qd) → Option (List Bool × List Int × List qa × Int × qd)) (hF : ∀ y, rE (.fn 45) 7 (qr y).1 (qr y).2 = (rF y).bind fun e => some (qF e)) (hM : ∀ g k a G, g ≠ 45 → rE (.fn g) k a G = ev g k a G) (hR : ∀ g asg bd k a G, rE (.rd g asg bd) k a G = evr g asg bd k a G) : ∀ (w7 : List Int) (w8 : List Bool) (w10 : List Int) (b0 : List qa) (b3 b4_Worst b4_Best b4_Pass t21 t22 : Int) (w8_len w7_len w10_len : Nat), w8_len = w8.length → w7_len = w7.length → w10_len = w10.length → XL2 rE 45 7 38 ⟨[(9, rO 8 1 w8_len), (12, rP 9), (21, rI t21), (22, rI t22)], [(0, B.blk 32 [dL 8 qf b0]), (1, B.blk 62 [C.fn 25 [] [dP 2]]), (2, B.blk 22 [dO 7 1 w7_len]), (3, B.blk 3 [dI b3]), (4, B.blk 37 [dI b4_Worst, dI b4_Best, dI b4_Pass]), (5, B.blk 94 [C.fn 45 [] [dP 0, dP 1, dP 3, dP 4, dP 5, dP 6]]), (6, B.blk 62 [C.fn 26 [] [dP 2]]), (7, bR 3 1 eI w7), (8, bR 4 1 eB w8), (9, B.blk 95 [dO 10 1 w10_len]), (10, bR 3 1 eI w10)], 11, 142⟩ = (qM (Q7 rF w7 w10 b0 b3 (qd.mk b4_Worst b4_Best b4_Pass) t21) (w8, t22)).bind (fun (e : List Bool) => some (Go.Exit.exit 8, ⟨[(9, rO 8 1 e.length)], [(0, B.blk 32 [dL 8 qf b0]), (1, B.blk 62 [C.fn 25 [] [dP 2]]), (2, B.blk 22 [dO 7 1 w7.length]), (3, B.blk 3 [dI b3]), (4, B.blk 37 [dI b4_Worst, dI b4_Best, dI b4_Pass]), (5, B.blk 94 [C.fn 45 [] [dP 0, dP 1, dP 3, dP 4, dP 5, dP 6]]), (6, B.blk 62 [C.fn 26 [] [dP 2]]), (7, bR 3 1 eI w7), (8, bR 4 1 eB e)], 9, 142⟩)) :=
  by
  intro w7 w8 w10 b0 b3 b4_Worst b4_Best b4_Pass t21 t22 w8_len w7_len w10_len h0 h1 h2
  subst h0 h1 h2
  revert t22; revert w8; exact q8r qeu qeC (fun e => by exact ⟨_, rfl, fun h => by cases h⟩) fun w8 t22 => by
    have hF' : ∀ (x0_Kind x0_N x0_Min : Int) (x0_Set : List qc) (x0_L : List qb) (w7 : List Int) (v : List qa) (v2 v3_Worst v3_Best v3_Pass : Int) (w7_len : Nat), w7_len = w7.length → rE (.fn 45) 7 [R.agg [dI x0_Kind, dI x0_N, dI x0_Min, dL 2 qe x0_Set, dL 5 qg x0_L], rP 0, rP 1, rP 3, rP 4, rP 5, rP 6] [(0, B.blk 32 [dL 8 qf v]), (1, B.blk 62 [C.fn 25 [] [dP 2]]), (2, B.blk 22 [dO 7 1 w7_len]), (3, B.blk 3 [dI v2]), (4, B.blk 37 [dI v3_Worst, dI v3_Best, dI v3_Pass]), (5, B.blk 94 [C.fn 45 [] [dP 0, dP 1, dP 3, dP 4, dP 5, dP 6]]), (6, B.blk 62 [C.fn 26 [] [dP 2]]), (7, bR 3 1 eI w7)] = (rF ((qb.mk x0_Kind x0_N x0_Min x0_Set x0_L), w7, v, v2, (qd.mk v3_Worst v3_Best v3_Pass))).bind (fun e => some (rL 1 eB e.1, [(0, B.blk 32 [dL 8 qf e.2.2.1]), (1, B.blk 62 [C.fn 25 [] [dP 2]]), (2, B.blk 22 [dO 7 1 e.2.1.length]), (3, B.blk 3 [dI e.2.2.2.1]), (4, B.blk 37 [dI e.2.2.2.2.Worst, dI e.2.2.2.2.Best, dI e.2.2.2.2.Pass]), (5, B.blk 94 [C.fn 45 [] [dP 0, dP 1, dP 3, dP 4, dP 5, dP 6]]), (6, B.blk 62 [C.fn 26 [] [dP 2]]), (7, bR 3 1 eI e.2.1)])) := by intro x0_Kind x0_N x0_Min x0_Set x0_L w7 v v2 v3_Worst v3_Best v3_Pass w7_len h0; subst h0; exact hF ((qb.mk x0_Kind x0_N x0_Min x0_Set x0_L), w7, v, v2, (qd.mk v3_Worst v3_Best v3_Pass))
    have := qc2; have := @q9G.eq_1; have := @Q7.eq_1; exact gA
noncomputable def Z6 (fu : Nat) (rF : (qb × List Int × List qa × Int × qd) → Option (List Bool × List Int × List qa × Int × qd)) (w7 : List Int) (w10 : List Int) (b0 : List qa) (b3 : Int) (b4 : qd) (t21 : Int) : (List Bool × Int) → Option ((List Bool × Int) ⊕ (List Bool))
  | (w8, t22) =>
    if t22 < ((w8.length : Nat) : Int) then if 0 ≤ t22 ∧ t22 < ((w10.length : Nat) : Int) then Option.bind w10[Int.toNat t22]? fun (a2 : Int) =>
        if 0 ≤ t22 ∧ t22 < ((w8.length : Nat) : Int) then if Int.toNat t22 + 1 ≤ w8.length then some (Sum.inl (List.set w8 (Int.toNat t22) (decide (t21 ≤ a2)), w64 (t22 + 1)))
          else none
        else none
      else none
    else some (Sum.inr w8)
theorem q2t (fu : Nat) (rF rF2 : (qb × List Int × List qa × Int × qd) → Option (List Bool × List Int × List qa × Int × qd)) (hF : ∀ y, qk (rF y) (rF2 y)) (w7 w10 : List Int) (b0 : List qa) (b3 : Int) (b4 : qd) (t21 : Int) : ∀ x, qk (Z6 fu rF w7 w10 b0 b3 b4 t21 x) (Q7 rF2 w7 w10 b0 b3 b4 t21 x) := by
  rintro ⟨w8, t22⟩
  unfold Z6 Q7
  try dsimp only
  repeat (first
    | with_reducible exact qk.refl _
    | with_reducible exact qk.none _
    | exact hF _
    | with_reducible refine qk.bind ?_ (fun _ => ?_)
    | with_reducible refine qk.ite ?_ ?_
    | with_reducible refine qk.sum (fun _ => ?_) (fun _ => ?_)
    | with_reducible refine qk.lim (fun _ => ?_))
noncomputable def Qr (rF : (qb × List Int × List qa × Int × qd) → Option (List Bool × List Int × List qa × Int × qd)) : (qb × List Int × List qa × Int × qd) → Option (List Bool × List Int × List qa × Int × qd)
  | (x0, w7, v, v2, v3) =>
    if 0 ≤ ((v.length : Nat) : Int) then if 0 ≤ w64 (1 * 2 ^ min v.length (Go.IntKind.bits Go.IntKind.i64)) ∧ 1 * w64 (1 * 2 ^ min v.length (Go.IntKind.bits Go.IntKind.i64)) ≤ 281474976710656 ∧ w64 (1 * 2 ^ min v.length (Go.IntKind.bits Go.IntKind.i64)) ≤ 9223372036854775807 then if zH x0 = Bool.true then Option.bind (Z2 x0.Kind) fun (a2 : Sum Unit Unit) =>
          Sum.elim (fun (a3 : Unit) => Option.bind (qM (QD rF w7 v v2 v3 x0) (List.replicate (Int.toNat (w64 (1 * 2 ^ min v.length (Go.IntKind.bits Go.IntKind.i64)))) Bool.false, 1)) fun (a5 : List Bool) =>
            some (a5, w7, v, w64 (v2 + 1), v3)) (fun (a4 : Unit) => Option.bind (qM (Qt rF w7 v v2 v3 x0) (List.replicate (Int.toNat (w64 (1 * 2 ^ min v.length (Go.IntKind.bits Go.IntKind.i64)))) Bool.false, 1)) fun (a6 : List Bool) =>
            some (a6, w7, v, w64 (v2 + 1), v3)) a2
        else if 0 ≤ ((Int.toNat (w64 (1 * 2 ^ min v.length (Go.IntKind.bits Go.IntKind.i64))) : Nat) : Int) ∧ 8 * ((Int.toNat (w64 (1 * 2 ^ min v.length (Go.IntKind.bits Go.IntKind.i64))) : Nat) : Int) ≤ 281474976710656 ∧ ((Int.toNat (w64 (1 * 2 ^ min v.length (Go.IntKind.bits Go.IntKind.i64))) : Nat) : Int) ≤ 9223372036854775807 then Option.bind (qM (Qx rF w7 (List.replicate (Int.toNat (w64 (1 * 2 ^ min v.length (Go.IntKind.bits Go.IntKind.i64)))) Bool.false) v v2 v3 x0) (List.replicate (Int.toNat (w64 (1 * 2 ^ min v.length (Go.IntKind.bits Go.IntKind.i64)))) 0, 1)) fun (a7 : List Int) =>
          Option.bind (qM (Q1 rF (List.replicate (Int.toNat (w64 (1 * 2 ^ min v.length (Go.IntKind.bits Go.IntKind.i64)))) Bool.false) x0 x0.L ((x0.L.length : Nat) : Int)) (w7, (a7, (v, (v2, (v3, 0)))))) fun (a8 : Prod (List Int) (Prod (List Int) (Prod (List qa) (Prod Int qd)))) =>
          if (x0.Kind == 3) = Bool.true then Option.bind (qM (Q7 rF a8.1 a8.2.1 a8.2.2.1 a8.2.2.2.1 a8.2.2.2.2 ((x0.L.length : Nat) : Int)) (List.replicate (Int.toNat (w64 (1 * 2 ^ min v.length (Go.IntKind.bits Go.IntKind.i64)))) Bool.false, 1)) fun (a9 : List Bool) =>
            some (a9, a8.1, a8.2.2.1, a8.2.2.2.1, a8.2.2.2.2)
          else Option.bind (qM (Q7 rF a8.1 a8.2.1 a8.2.2.1 a8.2.2.2.1 a8.2.2.2.2 x0.N) (List.replicate (Int.toNat (w64 (1 * 2 ^ min v.length (Go.IntKind.bits Go.IntKind.i64)))) Bool.false, 1)) fun (a10 : List Bool) =>
          some (a10, a8.1, a8.2.2.1, a8.2.2.2.1, a8.2.2.2.2)
        else none
      else none
    else none
theorem q18 : q41 45 7 qr qF Qr := by
  intro rE rF hF hM hR x
  obtain ⟨x0, w7, v, v2, v3⟩ := x
  show q5L rE 45 7 [R.agg [dI x0.Kind, dI x0.N, dI x0.Min, dL 2 qe x0.Set, dL 5 qg x0.L], rP 0, rP 1, rP 3, rP 4, rP 5, rP 6] [(0, B.blk 32 [dL 8 qf v]), (1, B.blk 62 [C.fn 25 [] [dP 2]]), (2, B.blk 22 [dO 7 1 w7.length]), (3, B.blk 3 [dI v2]), (4, B.blk 37 [dI v3.Worst, dI v3.Best, dI v3.Pass]), (5, B.blk 94 [C.fn 45 [] [dP 0, dP 1, dP 3, dP 4, dP 5, dP 6]]), (6, B.blk 62 [C.fn 26 [] [dP 2]]), (7, bR 3 1 eI w7)] = _
  have hF' : ∀ (x0_Kind x0_N x0_Min : Int) (x0_Set : List qc) (x0_L : List qb) (w7 : List Int) (v : List qa) (v2 v3_Worst v3_Best v3_Pass : Int) (w7_len : Nat), w7_len = w7.length → rE (.fn 45) 7 [R.agg [dI x0_Kind, dI x0_N, dI x0_Min, dL 2 qe x0_Set, dL 5 qg x0_L], rP 0, rP 1, rP 3, rP 4, rP 5, rP 6] [(0, B.blk 32 [dL 8 qf v]), (1, B.blk 62 [C.fn 25 [] [dP 2]]), (2, B.blk 22 [dO 7 1 w7_len]), (3, B.blk 3 [dI v2]), (4, B.blk 37 [dI v3_Worst, dI v3_Best, dI v3_Pass]), (5, B.blk 94 [C.fn 45 [] [dP 0, dP 1, dP 3, dP 4, dP 5, dP 6]]), (6, B.blk 62 [C.fn 26 [] [dP 2]]), (7, bR 3 1 eI w7)] = (rF ((qb.mk x0_Kind x0_N x0_Min x0_Set x0_L), w7, v, v2, (qd.mk v3_Worst v3_Best v3_Pass))).bind (fun e => some (rL 1 eB e.1, [(0, B.blk 32 [dL 8 qf e.2.2.1]), (1, B.blk 62 [C.fn 25 [] [dP 2]]), (2, B.blk 22 [dO 7 1 e.2.1.length]), (3, B.blk 3 [dI e.2.2.2.1]), (4, B.blk 37 [dI e.2.2.2.2.Worst, dI e.2.2.2.2.Best, dI e.2.2.2.2.Pass]), (5, B.blk 94 [C.fn 45 [] [dP 0, dP 1, dP 3, dP 4, dP 5, dP 6]]), (6, B.blk 62 [C.fn 26 [] [dP 2]]), (7, bR 3 1 eI e.2.1)])) := by intro x0_Kind x0_N x0_Min x0_Set x0_L w7 v v2 v3_Worst v3_Best v3_Pass w7_len h0; subst h0; exact hF ((qb.mk x0_Kind x0_N x0_Min x0_Set x0_L), w7, v, v2, (qd.mk v3_Worst v3_Best v3_Pass))
  rw [q17 qgx qip]
  have := qc2; have := @q0y; have := @q1d; have := q3t rE rF hF hM hR; have := q1Q rE rF hF hM hR; have := q2L rE rF hF hM hR; have := q2p rE rF hF hM hR; have := q2A rE rF hF hM hR; have := @Qr.eq_1; have := @qF.eq_1; exact gA
theorem JL : ∀ x y, qr x = qr y → x = y := by
  rintro ⟨⟨a0_0, a0_1, a0_2, a0_3, a0_4⟩, a1, a2, a3, ⟨a4_0, a4_1, a4_2⟩⟩ ⟨⟨b0_0, b0_1, b0_2, b0_3, b0_4⟩, b1, b2, b3, ⟨b4_0, b4_1, b4_2⟩⟩ h
  simp only [qr, Prod.mk.injEq, List.cons.injEq, R.c.injEq, R.agg.injEq, R.tup.injEq, C.d.injEq, C.own.injEq, C.ptr.injEq, C.eptr.injEq, D.int.injEq, D.bool.injEq, D.str.injEq, D.sl.injEq, B.blk.injEq, B.row.injEq, Zx, JK, ZC, ZU, Je, q0O, Zv, q14, true_and, and_true, List.nil_append] at h
  simp only [h]
theorem q3p : ∀ x y, qF x = qF y → x = y := by
  rintro ⟨a0, a1, a2, a3, ⟨a4_0, a4_1, a4_2⟩⟩ ⟨b0, b1, b2, b3, ⟨b4_0, b4_1, b4_2⟩⟩ h
  simp only [qF, Prod.mk.injEq, List.cons.injEq, R.c.injEq, R.agg.injEq, R.tup.injEq, C.d.injEq, C.own.injEq, C.ptr.injEq, C.eptr.injEq, D.int.injEq, D.bool.injEq, D.str.injEq, D.sl.injEq, B.blk.injEq, B.row.injEq, Zx, JK, ZC, ZU, Je, q0O, Zv, q14, true_and, and_true, List.nil_append] at h
  simp only [h]
noncomputable def QY : (qb × List Int × List qa × Int × qd) → Option (List Bool × List Int × List qa × Int × qd) := q4k 45 7 qr qF
theorem q4U (x : (qb × List Int × List qa × Int × qd)) : QY x = Qr QY x := q7w qn4.2.2.2 JL q3p q18 x
theorem q4A (x0 : qb) (w7 : List Int) (v : List qa) (v2 : Int) (v3 : qd) : ev 45 7 [R.agg [dI x0.Kind, dI x0.N, dI x0.Min, dL 2 qe x0.Set, dL 5 qg x0.L], rP 0, rP 1, rP 3, rP 4, rP 5, rP 6] [(0, B.blk 32 [dL 8 qf v]), (1, B.blk 62 [C.fn 25 [] [dP 2]]), (2, B.blk 22 [dO 7 1 w7.length]), (3, B.blk 3 [dI v2]), (4, B.blk 37 [dI v3.Worst, dI v3.Best, dI v3.Pass]), (5, B.blk 94 [C.fn 45 [] [dP 0, dP 1, dP 3, dP 4, dP 5, dP 6]]), (6, B.blk 62 [C.fn 26 [] [dP 2]]), (7, bR 3 1 eI w7)] = (QY (x0, w7, v, v2, v3)).bind (fun (e : List Bool × List Int × List qa × Int × qd) => some (rL 1 eB e.1, [(0, B.blk 32 [dL 8 qf e.2.2.1]), (1, B.blk 62 [C.fn 25 [] [dP 2]]), (2, B.blk 22 [dO 7 1 e.2.1.length]), (3, B.blk 3 [dI e.2.2.2.1]), (4, B.blk 37 [dI e.2.2.2.2.Worst, dI e.2.2.2.2.Best, dI e.2.2.2.2.Pass]), (5, B.blk 94 [C.fn 45 [] [dP 0, dP 1, dP 3, dP 4, dP 5, dP 6]]), (6, B.blk 62 [C.fn 26 [] [dP 2]]), (7, bR 3 1 eI e.2.1)])) := (q5s qn4.2.2.2 JL q18 (x0, w7, v, v2, v3))
theorem q5v : ∀ (x0_Kind x0_N x0_Min : Int) (x0_Set : List qc) (x0_L : List qb) (w7 : List Int) (v : List qa) (v2 v3_Worst v3_Best v3_Pass : Int) (w7_len : Nat), w7_len = w7.length → ev 45 7 [R.agg [dI x0_Kind, dI x0_N, dI x0_Min, dL 2 qe x0_Set, dL 5 qg x0_L], rP 0, rP 1, rP 3, rP 4, rP 5, rP 6] [(0, B.blk 32 [dL 8 qf v]), (1, B.blk 62 [C.fn 25 [] [dP 2]]), (2, B.blk 22 [dO 7 1 w7_len]), (3, B.blk 3 [dI v2]), (4, B.blk 37 [dI v3_Worst, dI v3_Best, dI v3_Pass]), (5, B.blk 94 [C.fn 45 [] [dP 0, dP 1, dP 3, dP 4, dP 5, dP 6]]), (6, B.blk 62 [C.fn 26 [] [dP 2]]), (7, bR 3 1 eI w7)] = (QY ((qb.mk x0_Kind x0_N x0_Min x0_Set x0_L), w7, v, v2, (qd.mk v3_Worst v3_Best v3_Pass))).bind (fun (e : List Bool × List Int × List qa × Int × qd) => some (rL 1 eB e.1, [(0, B.blk 32 [dL 8 qf e.2.2.1]), (1, B.blk 62 [C.fn 25 [] [dP 2]]), (2, B.blk 22 [dO 7 1 e.2.1.length]), (3, B.blk 3 [dI e.2.2.2.1]), (4, B.blk 37 [dI e.2.2.2.2.Worst, dI e.2.2.2.2.Best, dI e.2.2.2.2.Pass]), (5, B.blk 94 [C.fn 45 [] [dP 0, dP 1, dP 3, dP 4, dP 5, dP 6]]), (6, B.blk 62 [C.fn 26 [] [dP 2]]), (7, bR 3 1 eI e.2.1)])) :=
  by
  intro x0_Kind x0_N x0_Min x0_Set x0_L w7 v v2 v3_Worst v3_Best v3_Pass w7_len h0
  subst h0
  exact q4A (qb.mk x0_Kind x0_N x0_Min x0_Set x0_L) w7 v v2 (qd.mk v3_Worst v3_Best v3_Pass)
noncomputable def ZV (fu : Nat) (rF : (qb × List Int × List qa × Int × qd) → Option (List Bool × List Int × List qa × Int × qd)) : (qb × List Int × List qa × Int × qd) → Option (List Bool × List Int × List qa × Int × qd)
  | (x0, w7, v, v2, v3) =>
    if 0 ≤ ((v.length : Nat) : Int) then if 0 ≤ w64 (1 * 2 ^ min v.length (Go.IntKind.bits Go.IntKind.i64)) ∧ 1 * w64 (1 * 2 ^ min v.length (Go.IntKind.bits Go.IntKind.i64)) ≤ 281474976710656 ∧ w64 (1 * 2 ^ min v.length (Go.IntKind.bits Go.IntKind.i64)) ≤ 9223372036854775807 then if zH x0 = Bool.true then Option.bind (Z2 x0.Kind) fun (a2 : Sum Unit Unit) =>
          Sum.elim (fun (a3 : Unit) => Option.bind (itT (JG fu rF w7 v v2 v3 x0) fu (List.replicate (Int.toNat (w64 (1 * 2 ^ min v.length (Go.IntKind.bits Go.IntKind.i64)))) Bool.false, 1)) fun (a5 : List Bool) =>
            some (a5, w7, v, w64 (v2 + 1), v3)) (fun (a4 : Unit) => Option.bind (itT (ZT fu rF w7 v v2 v3 x0) fu (List.replicate (Int.toNat (w64 (1 * 2 ^ min v.length (Go.IntKind.bits Go.IntKind.i64)))) Bool.false, 1)) fun (a6 : List Bool) =>
            some (a6, w7, v, w64 (v2 + 1), v3)) a2
        else if 0 ≤ ((Int.toNat (w64 (1 * 2 ^ min v.length (Go.IntKind.bits Go.IntKind.i64))) : Nat) : Int) ∧ 8 * ((Int.toNat (w64 (1 * 2 ^ min v.length (Go.IntKind.bits Go.IntKind.i64))) : Nat) : Int) ≤ 281474976710656 ∧ ((Int.toNat (w64 (1 * 2 ^ min v.length (Go.IntKind.bits Go.IntKind.i64))) : Nat) : Int) ≤ 9223372036854775807 then Option.bind (itT (Jc fu rF w7 (List.replicate (Int.toNat (w64 (1 * 2 ^ min v.length (Go.IntKind.bits Go.IntKind.i64)))) Bool.false) v v2 v3 x0) fu (List.replicate (Int.toNat (w64 (1 * 2 ^ min v.length (Go.IntKind.bits Go.IntKind.i64)))) 0, 1)) fun (a7 : List Int) =>
          Option.bind (itT (Jh fu rF (List.replicate (Int.toNat (w64 (1 * 2 ^ min v.length (Go.IntKind.bits Go.IntKind.i64)))) Bool.false) x0 x0.L ((x0.L.length : Nat) : Int)) fu (w7, (a7, (v, (v2, (v3, 0)))))) fun (a8 : Prod (List Int) (Prod (List Int) (Prod (List qa) (Prod Int qd)))) =>
          if (x0.Kind == 3) = Bool.true then Option.bind (itT (Z6 fu rF a8.1 a8.2.1 a8.2.2.1 a8.2.2.2.1 a8.2.2.2.2 ((x0.L.length : Nat) : Int)) fu (List.replicate (Int.toNat (w64 (1 * 2 ^ min v.length (Go.IntKind.bits Go.IntKind.i64)))) Bool.false, 1)) fun (a9 : List Bool) =>
            some (a9, a8.1, a8.2.2.1, a8.2.2.2.1, a8.2.2.2.2)
          else Option.bind (itT (Z6 fu rF a8.1 a8.2.1 a8.2.2.1 a8.2.2.2.1 a8.2.2.2.2 x0.N) fu (List.replicate (Int.toNat (w64 (1 * 2 ^ min v.length (Go.IntKind.bits Go.IntKind.i64)))) Bool.false, 1)) fun (a10 : List Bool) =>
          some (a10, a8.1, a8.2.2.1, a8.2.2.2.1, a8.2.2.2.2)
        else none
      else none
    else none
theorem q1X (fu : Nat) (rF rF2 : (qb × List Int × List qa × Int × qd) → Option (List Bool × List Int × List qa × Int × qd)) (hF : ∀ y, qk (rF y) (rF2 y)) : ∀ x, qk (ZV fu rF x) (Qr rF2 x) := by
  rintro ⟨x0, w7, v, v2, v3⟩
  unfold ZV Qr
  try dsimp only
  repeat (first
    | with_reducible exact qk.refl _
    | with_reducible exact qk.none _
    | exact hF _
    | (with_reducible refine q36 _ _ _ hF ..)
    | (with_reducible refine q1O _ _ _ hF ..)
    | (with_reducible refine q2o _ _ _ hF ..)
    | (with_reducible refine q2s _ _ _ hF ..)
    | (with_reducible refine q2t _ _ _ hF ..)
    | with_reducible refine qk.bind ?_ (fun _ => ?_)
    | with_reducible refine qk.ite ?_ ?_
    | with_reducible refine qk.sum (fun _ => ?_) (fun _ => ?_)
    | with_reducible refine qk.lim (fun _ => ?_))
noncomputable def q2P (fu : Nat) (x : (qb × List Int × List qa × Int × qd)) : Option (List Bool × List Int × List qa × Int × qd) := itR (ZV fu) fu x
theorem q5n (fu : Nat) (x : (qb × List Int × List qa × Int × qd)) : qk (q2P fu x) (QY x) := qk.rec q4U (q1X fu) fu x
noncomputable def Jx (n : qb) (s : qd) (l : List qa) (w1 : List Int) : Option (List Bool × List Int) :=
  Option.bind (QY (n, (w1, (l, (0, s))))) fun (a : Prod (List Bool) (Prod (List Int) (Prod (List qa) (Prod Int qd)))) =>
  some (a.1, a.2.1)
theorem q71 : ∀ (n_Kind n_N n_Min : Int) (n_Set : List qc) (n_L : List qb) (s_Worst s_Best s_Pass : Int) (l : List qa) (w1 : List Int) (w1_len : Nat), w1_len = w1.length → ev 24 1 [R.agg [dI n_Kind, dI n_N, dI n_Min, dL 2 qe n_Set, dL 5 qg n_L], R.agg [dI s_Worst, dI s_Best, dI s_Pass], rL 8 qf l, R.c (C.fn 25 [] [dP 0]), R.c (C.fn 26 [] [dP 0])] [(0, B.blk 22 [dO 1 1 w1_len]), (1, bR 3 1 eI w1)] = (Jx (qb.mk n_Kind n_N n_Min n_Set n_L) (qd.mk s_Worst s_Best s_Pass) l w1).bind (fun (e : List Bool × List Int) => some (rL 1 eB e.1, [(0, B.blk 22 [dO 1 1 e.2.length]), (1, bR 3 1 eI e.2)])) :=
  by
  intro n_Kind n_N n_Min n_Set n_L s_Worst s_Best s_Pass l w1 w1_len h0
  subst h0
  rw [qz qna qqo.2.2.2 qrq]
  have := qq8; have := @q5v; have := @Jx.eq_1; exact gA
noncomputable def q23 (fu : Nat) (n : qb) (s : qd) (l : List qa) (w1 : List Int) : Option (List Bool × List Int) :=
  Option.bind (q2P fu (n, (w1, (l, (0, s))))) fun (a : Prod (List Bool) (Prod (List Int) (Prod (List qa) (Prod Int qd)))) =>
  some (a.1, a.2.1)
theorem q6R (fu : Nat) (n : qb) (s : qd) (l : List qa) (w1 : List Int) : qk (q23 fu n s l w1) (Jx n s l w1) := by
  unfold q23 Jx
  repeat (first
    | with_reducible exact qk.refl _
    | with_reducible exact qk.none _
    | with_reducible apply q5n
    | with_reducible refine qk.bind ?_ (fun _ => ?_)
    | with_reducible refine qk.ite ?_ ?_
    | with_reducible refine qk.sum (fun _ => ?_) (fun _ => ?_)
    | with_reducible refine qk.lim (fun _ => ?_))
noncomputable def Zh (w4 : List Int) (b0 : qb) (b1 : qd) (t2 : List qa) (t3 : Int) (t16 : Int) (t49 : Int) (t50 : Int) : (List Int) → Option ((List Int) ⊕ (List Int))
  | w3 =>
    Option.bind (Jx b0 b1 t2 w3) fun (a : Prod (List Bool) (List Int)) =>
    if 0 ≤ t3 ∧ t3 < ((a.1.length : Nat) : Int) then Option.bind a.1[Int.toNat t3]? fun (a2 : Bool) =>
      if (!a2) = Bool.true then if 0 ≤ t16 ∧ t16 < ((a.2.length : Nat) : Int) then Option.bind a.2[Int.toNat t16]? fun (a3 : Int) =>
          if 0 ≤ t16 ∧ t16 < ((a.2.length : Nat) : Int) then if Int.toNat t16 + 1 ≤ a.2.length then some (Sum.inl (List.set a.2 (Int.toNat t16) (w64 (a3 + 1))))
            else none
          else none
        else none
      else some (Sum.inr a.2)
    else none
theorem q4q : ∀ (w3 w4 : List Int) (b0_Kind b0_N b0_Min : Int) (b0_Set : List qc) (b0_L : List qb) (b1_Worst b1_Best b1_Pass : Int) (t2 : List qa) (t3 t16 t49 t50 : Int) (w4_len w3_len : Nat), w4_len = w4.length → w3_len = w3.length → XL2 evo 11 0 14 ⟨[(2, rL 8 qf t2), (3, rI t3), (4, rP 0), (5, rP 1), (12, rP 2), (13, R.c (C.fn 25 [] [dP 2])), (14, R.c (C.fn 26 [] [dP 2])), (15, rO 4 1 w4_len), (16, rI t16), (49, rI t49), (50, rI t50)], [(0, B.blk 31 [dI b0_Kind, dI b0_N, dI b0_Min, dL 2 qe b0_Set, dL 5 qg b0_L]), (1, B.blk 37 [dI b1_Worst, dI b1_Best, dI b1_Pass]), (2, B.blk 22 [dO 3 1 w3_len]), (3, bR 3 1 eI w3), (4, bR 3 1 eI w4)], 5, 89⟩ = (qM (Zh w4 (qb.mk b0_Kind b0_N b0_Min b0_Set b0_L) (qd.mk b1_Worst b1_Best b1_Pass) t2 t3 t16 t49 t50) w3).bind (fun (e : List Int) => some (Go.Exit.exit 2, ⟨[(2, rL 8 qf t2), (3, rI t3), (4, rP 0), (5, rP 1), (12, rP 2), (13, R.c (C.fn 25 [] [dP 2])), (14, R.c (C.fn 26 [] [dP 2])), (15, rO 4 1 w4.length), (16, rI t16), (49, rI t49), (50, rI t50)], [(0, B.blk 31 [dI b0_Kind, dI b0_N, dI b0_Min, dL 2 qe b0_Set, dL 5 qg b0_L]), (1, B.blk 37 [dI b1_Worst, dI b1_Best, dI b1_Pass]), (2, B.blk 22 [dO 3 1 e.length]), (3, bR 3 1 eI e), (4, bR 3 1 eI w4)], 5, 89⟩)) :=
  by
  intro w3 w4 b0_Kind b0_N b0_Min b0_Set b0_L b1_Worst b1_Best b1_Pass t2 t3 t16 t49 t50 w4_len w3_len h0 h1
  subst h0 h1
  revert w3; exact qad qju qj9 (fun e => by exact ⟨_, rfl, fun h => by cases h⟩) fun x => by
    have := qnN; have := @qbn.eq_1; have := @q71; have := @Zh.eq_1; exact gA
noncomputable def q0q (fu : Nat) (w4 : List Int) (b0 : qb) (b1 : qd) (t2 : List qa) (t3 : Int) (t16 : Int) (t49 : Int) (t50 : Int) : (List Int) → Option ((List Int) ⊕ (List Int))
  | w3 =>
    Option.bind (q23 fu b0 b1 t2 w3) fun (a : Prod (List Bool) (List Int)) =>
    if 0 ≤ t3 ∧ t3 < ((a.1.length : Nat) : Int) then Option.bind a.1[Int.toNat t3]? fun (a2 : Bool) =>
      if (!a2) = Bool.true then if 0 ≤ t16 ∧ t16 < ((a.2.length : Nat) : Int) then Option.bind a.2[Int.toNat t16]? fun (a3 : Int) =>
          if 0 ≤ t16 ∧ t16 < ((a.2.length : Nat) : Int) then if Int.toNat t16 + 1 ≤ a.2.length then some (Sum.inl (List.set a.2 (Int.toNat t16) (w64 (a3 + 1))))
            else none
          else none
        else none
      else some (Sum.inr a.2)
    else none
theorem q4z (fu : Nat) (w4 : List Int) (b0 : qb) (b1 : qd) (t2 : List qa) (t3 t16 t49 t50 : Int) : ∀ x, qk (q0q fu w4 b0 b1 t2 t3 t16 t49 t50 x) (Zh w4 b0 b1 t2 t3 t16 t49 t50 x) := by
  rintro w3
  unfold q0q Zh
  try dsimp only
  repeat (first
    | with_reducible exact qk.refl _
    | with_reducible exact qk.none _
    | with_reducible apply q6R
    | with_reducible refine qk.bind ?_ (fun _ => ?_)
    | with_reducible refine qk.ite ?_ ?_
    | with_reducible refine qk.sum (fun _ => ?_) (fun _ => ?_)
    | with_reducible refine qk.lim (fun _ => ?_))
noncomputable def QV (b0 : qb) (b1 : qd) (t2 : List qa) (t3 : Int) (t49 : Int) : (List Int × List Int × Int) → Option ((List Int × List Int × Int) ⊕ (List Int))
  | (w3, w4, t50) =>
    if t50 < t49 then if w3.length + 1 ≤ Go.maxLen ∧ (w3.length + 1) * 8 ≤ 140737488355328 then if 0 ≤ t50 then if (J0 Go.BinOp.and Go.IntKind.i64 (Int.fdiv t3 (2 ^ min (Int.toNat t50) (Go.IntKind.bits Go.IntKind.i64))) 1 == 0) = Bool.true then some (Sum.inl (w3 ++ [(-1)], w4, w64 (t50 + 1)))
          else if 0 ≤ t50 ∧ t50 < ((w3.length + 1 : Nat) : Int) then if Int.toNat t50 ≤ w3.length then Option.bind (qM (Zh w4 b0 b1 t2 t3 t50 t49 t50) (List.set (w3 ++ [(-1)]) (Int.toNat t50) 0)) fun (a : List Int) =>
              if 0 ≤ t50 ∧ t50 < ((a.length : Nat) : Int) then Option.bind a[Int.toNat t50]? fun (a2 : Int) =>
                if w4.length + 1 ≤ Go.maxLen ∧ (w4.length + 1) * 8 ≤ 140737488355328 then some (Sum.inl (a, w4 ++ [a2], w64 (t50 + 1)))
                else none
              else none
            else none
          else none
        else none
      else none
    else some (Sum.inr w4)
theorem q53 : ∀ (w3 w4 : List Int) (b0_Kind b0_N b0_Min : Int) (b0_Set : List qc) (b0_L : List qb) (b1_Worst b1_Best b1_Pass : Int) (t2 : List qa) (t3 t49 t50 : Int) (w4_len w3_len : Nat), w4_len = w4.length → w3_len = w3.length → XL2 evo 11 0 9 ⟨[(2, rL 8 qf t2), (3, rI t3), (4, rP 0), (5, rP 1), (12, rP 2), (13, R.c (C.fn 25 [] [dP 2])), (14, R.c (C.fn 26 [] [dP 2])), (15, rO 4 1 w4_len), (49, rI t49), (50, rI t50)], [(0, B.blk 31 [dI b0_Kind, dI b0_N, dI b0_Min, dL 2 qe b0_Set, dL 5 qg b0_L]), (1, B.blk 37 [dI b1_Worst, dI b1_Best, dI b1_Pass]), (2, B.blk 22 [dO 3 1 w3_len]), (3, bR 3 1 eI w3), (4, bR 3 1 eI w4)], 5, 89⟩ = (qM (QV (qb.mk b0_Kind b0_N b0_Min b0_Set b0_L) (qd.mk b1_Worst b1_Best b1_Pass) t2 t3 t49) (w3, w4, t50)).bind (fun (e : List Int) => some (Go.Exit.exit 0, ⟨[(15, rO 0 1 e.length)], [(0, bR 3 1 eI e)], 1, 89⟩)) :=
  by
  intro w3 w4 b0_Kind b0_N b0_Min b0_Set b0_L b1_Worst b1_Best b1_Pass t2 t3 t49 t50 w4_len w3_len h0 h1
  subst h0 h1
  revert t50; revert w4; revert w3; exact qtF qkN qlw (fun e => by exact ⟨_, rfl, fun h => by cases h⟩) fun w3 w4 t50 => by
    have := qnN; have := @qef.eq_1; have := @q4q; have := @QV.eq_1; exact gA
theorem q3q : ∀  (b0_Kind b0_N b0_Min : Int) (b0_Set : List qc) (b0_L : List qb) (b1_Worst b1_Best b1_Pass : Int) (t2 : List qa) (t3 t49 t50 : Int), XL2 evo 11 0 9 ⟨[(2, rL 8 qf t2), (3, rI t3), (4, rP 0), (5, rP 1), (12, rP 2), (13, R.c (C.fn 25 [] [dP 2])), (14, R.c (C.fn 26 [] [dP 2])), (15, rO 4 1 0), (49, rI t49), (50, rI t50)], [(0, B.blk 31 [dI b0_Kind, dI b0_N, dI b0_Min, dL 2 qe b0_Set, dL 5 qg b0_L]), (1, B.blk 37 [dI b1_Worst, dI b1_Best, dI b1_Pass]), (2, B.blk 22 [dO 3 1 0]), (3, B.row 3 1 []), (4, B.row 3 1 [])], 5, 89⟩ = (qM (QV (qb.mk b0_Kind b0_N b0_Min b0_Set b0_L) (qd.mk b1_Worst b1_Best b1_Pass) t2 t3 t49) ([], [], t50)).bind (fun (e : List Int) => some (Go.Exit.exit 0, ⟨[(15, rO 0 1 e.length)], [(0, bR 3 1 eI e)], 1, 89⟩)) := by
  intro b0_Kind b0_N b0_Min b0_Set b0_L b1_Worst b1_Best b1_Pass t2 t3 t49 t50; have h := q53 [] [] ((qb.mk b0_Kind b0_N b0_Min b0_Set b0_L)).Kind ((qb.mk b0_Kind b0_N b0_Min b0_Set b0_L)).N ((qb.mk b0_Kind b0_N b0_Min b0_Set b0_L)).Min ((qb.mk b0_Kind b0_N b0_Min b0_Set b0_L)).Set ((qb.mk b0_Kind b0_N b0_Min b0_Set b0_L)).L ((qd.mk b1_Worst b1_Best b1_Pass)).Worst ((qd.mk b1_Worst b1_Best b1_Pass)).Best ((qd.mk b1_Worst b1_Best b1_Pass)).Pass t2 t3 t49 t50 _ _ rfl rfl
  first
    | exact h
    | (simp only [rL, dL, bR, bZ, Nat.reduceAdd] at h; exact h)
noncomputable def q0I (fu : Nat) (b0 : qb) (b1 : qd) (t2 : List qa) (t3 : Int) (t49 : Int) : (List Int × List Int × Int) → Option ((List Int × List Int × Int) ⊕ (List Int))
  | (w3, w4, t50) =>
    if t50 < t49 then if w3.length + 1 ≤ Go.maxLen ∧ (w3.length + 1) * 8 ≤ 140737488355328 then if 0 ≤ t50 then if (J0 Go.BinOp.and Go.IntKind.i64 (Int.fdiv t3 (2 ^ min (Int.toNat t50) (Go.IntKind.bits Go.IntKind.i64))) 1 == 0) = Bool.true then some (Sum.inl (w3 ++ [(-1)], w4, w64 (t50 + 1)))
          else if 0 ≤ t50 ∧ t50 < ((w3.length + 1 : Nat) : Int) then if Int.toNat t50 ≤ w3.length then Option.bind (itT (q0q fu w4 b0 b1 t2 t3 t50 t49 t50) fu (List.set (w3 ++ [(-1)]) (Int.toNat t50) 0)) fun (a : List Int) =>
              if 0 ≤ t50 ∧ t50 < ((a.length : Nat) : Int) then Option.bind a[Int.toNat t50]? fun (a2 : Int) =>
                if w4.length + 1 ≤ Go.maxLen ∧ (w4.length + 1) * 8 ≤ 140737488355328 then some (Sum.inl (a, w4 ++ [a2], w64 (t50 + 1)))
                else none
              else none
            else none
          else none
        else none
      else none
    else some (Sum.inr w4)
theorem q50 (fu : Nat) (b0 : qb) (b1 : qd) (t2 : List qa) (t3 t49 : Int) : ∀ x, qk (q0I fu b0 b1 t2 t3 t49 x) (QV b0 b1 t2 t3 t49 x) := by
  rintro ⟨w3, w4, t50⟩
  unfold q0I QV
  try dsimp only
  repeat (first
    | with_reducible exact qk.refl _
    | with_reducible exact qk.none _
    | with_reducible apply q4z
    | with_reducible refine qk.bind ?_ (fun _ => ?_)
    | with_reducible refine qk.ite ?_ ?_
    | with_reducible refine qk.sum (fun _ => ?_) (fun _ => ?_)
    | with_reducible refine qk.lim (fun _ => ?_))
theorem qsv : okL 12 qdh := qy (qi qnT) (by kernel_rfl) (by kernel_rfl)
def qts := JA_ @qdh.eq_1 (JA_ @Try.f12.eq_1 @qnT)
theorem qtp : okL 29 qdl := qy (qi qpp) (by kernel_rfl) (by kernel_rfl)
def qsm := JA_ @qdl.eq_1 (JA_ @Try.f29.eq_1 @qpp)
noncomputable def q0z (k : Int) (v : Int) : Option Bool :=
  if k < (-1) then some Bool.true
  else some (decide (v ≤ k))
noncomputable def Jz (k : Int) (v : Int) : Bool :=
  if k < (-1) then Bool.true
  else decide (v ≤ k)
theorem q6r (k v : Int) : q0z k v = some (Jz k v) := by
  unfold q0z Jz
  simp only [zX]
theorem q7c : ∀ (k v : Int), ev 29 1 [rI k, rP 0] [(0, B.blk 3 [dI v])] = some (rB (Jz k v), [(0, B.blk 3 [dI v])]) :=
  fun k v => by
    have h : ev 29 1 [rI k, rP 0] [(0, B.blk 3 [dI v])] = (q0z k v).bind (fun (e : Bool) => some (rB e, [(0, B.blk 3 [dI v])])) := by
      rw [qz qpp qsy.2.2.2 qtp]
      have := qsm; have := @q0z.eq_1; exact gA
    rw [q6r] at h
    exact h
noncomputable def zi (b0 : Int) (s : List Int) (t7 : Int) : Int → Option (Int ⊕ (Int ⊕ Unit))
  | t8 =>
    if t8 < t7 then if 0 ≤ t8 ∧ t8 < ((s.length : Nat) : Int) then Option.bind s[Int.toNat t8]? fun (a : Int) =>
        if Jz a b0 = Bool.true then some (Sum.inr (Sum.inl t8))
        else some (Sum.inl (w64 (t8 + 1)))
      else none
    else some (Sum.inr (Sum.inr ()))
theorem Jk : ∀ (b0 : Int) (s : List Int) (t7 t8 : Int), XL2 evo 49 1 2 ⟨[(0, rL 1 eI s), (1, R.c (C.fn 29 [] [dP 0])), (7, rI t7), (8, rI t8)], [(0, B.blk 3 [dI b0])], 1, 19⟩ = (qM (zi b0 s t7) t8).bind (Sum.elim (fun (e : Int) => some (Go.Exit.ret, ⟨[(4, rI e)], [(0, B.blk 3 [dI b0])], 1, 19⟩)) (fun (e : Unit) => some (Go.Exit.exit 0, ⟨[(4, R.any)], [(0, B.blk 3 [dI b0])], 1, 19⟩))) :=
  fun b0 s t7 t8 => by
    revert t8; exact qad qih qi5 (fun e => by rcases e with _ | _ <;> exact ⟨_, rfl, fun h => by cases h⟩) fun x => by
      have := qmF; have := @qci.eq_1; have := @q7c; have := @zi.eq_1; exact gA
noncomputable def zb (s : List Int) (b0 : Int) : Option Int :=
  Option.bind (qM (zi b0 s ((s.length : Nat) : Int)) 0) fun (a : Sum Int Unit) =>
  Sum.elim (fun (a2 : Int) => some a2) (fun (a3 : Unit) => some (-1)) a
theorem JX : ∀ (s : List Int) (b0 : Int), ev 49 1 [rL 1 eI s, R.c (C.fn 29 [] [dP 0])] [(0, B.blk 3 [dI b0])] = (zb s b0).bind (fun (e : Int) => some (rI e, [(0, B.blk 3 [dI b0])])) :=
  fun s b0 => by
    rw [qz ql0 qrY.2.2.2 qoF]
    have := qmF; have := @Jk; have := @zb.eq_1; exact gA
noncomputable def Qu (fu : Nat) (s : List Int) (b0 : Int) : Option Int :=
  Option.bind (itT (zi b0 s ((s.length : Nat) : Int)) fu 0) fun (a : Sum Int Unit) =>
  Sum.elim (fun (a2 : Int) => some a2) (fun (a3 : Unit) => some (-1)) a
theorem JU (fu : Nat) (s : List Int) (b0 : Int) : qk (Qu fu s b0) (zb s b0) := by
  unfold Qu zb
  repeat (first
    | with_reducible exact qk.refl _
    | with_reducible exact qk.none _
    | with_reducible refine qk.bind ?_ (fun _ => ?_)
    | with_reducible refine qk.ite ?_ ?_
    | with_reducible refine qk.sum (fun _ => ?_) (fun _ => ?_)
    | with_reducible refine qk.lim (fun _ => ?_))
noncomputable def qQ (s : List Int) (b0 : Int) : Option Bool :=
  Option.bind (zb s b0) fun (a : Int) =>
  some (decide (0 ≤ a))
theorem Jm : ∀ (s : List Int) (b0 : Int), ev 27 1 [rL 1 eI s, R.c (C.fn 29 [] [dP 0])] [(0, B.blk 3 [dI b0])] = (qQ s b0).bind (fun (e : Bool) => some (rB e, [(0, B.blk 3 [dI b0])])) :=
  fun s b0 => by
    rw [qz qmX qqg.2.2.2 qrv]
    have := qq2; have := @JX; have := @qQ.eq_1; exact gA
noncomputable def Q0 (fu : Nat) (s : List Int) (b0 : Int) : Option Bool :=
  Option.bind (Qu fu s b0) fun (a : Int) =>
  some (decide (0 ≤ a))
theorem Jl (fu : Nat) (s : List Int) (b0 : Int) : qk (Q0 fu s b0) (qQ s b0) := by
  unfold Q0 qQ
  repeat (first
    | with_reducible exact qk.refl _
    | with_reducible exact qk.none _
    | with_reducible apply JU
    | with_reducible refine qk.bind ?_ (fun _ => ?_)
    | with_reducible refine qk.ite ?_ ?_
    | with_reducible refine qk.sum (fun _ => ?_) (fun _ => ?_)
    | with_reducible refine qk.lim (fun _ => ?_))
theorem qrQ : okL 30 qbT := qy (qi qmB) (by kernel_rfl) (by kernel_rfl)
def qrd := JA_ @qbT.eq_1 (JA_ @Try.f30.eq_1 @qmB)
theorem qkK : lbO 30 8 = qeo := Q8 (qi qmB) rfl
theorem qlp : okL 30 qeo := zd qrQ (List.mem_of_getElem? (i := 0) (by kernel_rfl))
theorem qtB : okL 33 qet := qy (qi qnh) (by kernel_rfl) (by kernel_rfl)
def qtU := JA_ @qet.eq_1 (JA_ @Try.f33.eq_1 @qnh)
noncomputable def Js (k : Int) (v : List Int) (v2 : Int) : Option Bool :=
  if 0 ≤ k ∧ k < ((v.length : Nat) : Int) then Option.bind v[Int.toNat k]? fun (a : Int) =>
    some (a == v2)
  else none
theorem q5f : ∀ (k : Int) (v : List Int) (v2 : Int), ev 33 2 [rI k, rP 0, rP 1] [(0, B.blk 22 [dL 1 eI v]), (1, B.blk 3 [dI v2])] = (Js k v v2).bind (fun (e : Bool) => some (rB e, [(0, B.blk 22 [dL 1 eI v]), (1, B.blk 3 [dI v2])])) :=
  fun k v v2 => by
    rw [qz qnh quk.2.2.2 qtB]
    have := qtU; have := @Js.eq_1; exact gA
noncomputable def QB (b0 : List Int) (b1 : Int) (n : qb) (s : qd) (b4 : ql) (t13 : List qa) (t14 : Int) : (ql × Int) → Option ((ql × Int) ⊕ ql)
  | (out, t15) =>
    if t15 < t14 then if 0 ≤ t15 ∧ t15 < ((t13.length : Nat) : Int) then Option.bind t13[Int.toNat t15]? fun (a : qa) =>
        Option.bind (Js t15 b0 b1) fun (a2 : Bool) =>
        if a2 = Bool.true then if out.fine = Bool.true then Option.bind (QA n s a) fun (a3 : Bool) =>
            some (Sum.inl (ql.mk (w64 (out.many + 1)) (w64 (out.credits + a.Credits)) a3, w64 (t15 + 1)))
          else some (Sum.inl (ql.mk (w64 (out.many + 1)) (w64 (out.credits + a.Credits)) Bool.false, w64 (t15 + 1)))
        else some (Sum.inl (out, w64 (t15 + 1)))
      else none
    else some (Sum.inr out)
theorem q4r : ∀ (b0 : List Int) (b1 n_Kind n_N n_Min : Int) (n_Set : List qc) (n_L : List qb) (s_Worst s_Best s_Pass b4_many b4_credits : Int) (b4_fine : Bool) (out_many out_credits : Int) (out_fine : Bool) (t13 : List qa) (t14 t15 : Int), XL2 evo 32 2 3 ⟨[(3, R.c (C.fn 33 [] [dP 0, dP 1])), (4, rP 2), (5, rP 3), (8, rP 4), (9, rP 5), (13, rL 8 qf t13), (14, rI t14), (15, rI t15)], [(0, B.blk 22 [dL 1 eI b0]), (1, B.blk 3 [dI b1]), (2, B.blk 31 [dI n_Kind, dI n_N, dI n_Min, dL 2 qe n_Set, dL 5 qg n_L]), (3, B.blk 37 [dI s_Worst, dI s_Best, dI s_Pass]), (4, B.blk 70 [dI b4_many, dI b4_credits, dB b4_fine]), (5, B.blk 70 [dI out_many, dI out_credits, dB out_fine])], 6, 44⟩ = (qM (QB b0 b1 (qb.mk n_Kind n_N n_Min n_Set n_L) (qd.mk s_Worst s_Best s_Pass) (ql.mk b4_many b4_credits b4_fine) t13 t14) ((ql.mk out_many out_credits out_fine), t15)).bind (fun (e : ql) => some (Go.Exit.exit 0, ⟨[(8, rP 2), (9, rP 3)], [(0, B.blk 22 [dL 1 eI b0]), (1, B.blk 3 [dI b1]), (2, B.blk 70 [dI b4_many, dI b4_credits, dB b4_fine]), (3, B.blk 70 [dI e.many, dI e.credits, dB e.fine])], 4, 44⟩)) :=
  fun b0 b1 n_Kind n_N n_Min n_Set n_L s_Worst s_Best s_Pass b4_many b4_credits b4_fine out_many out_credits out_fine t13 t14 t15 => by
    have h := q1e (E := evo) (f := 32) (k := 2) (st := fun x : ql × Int => (⟨[(3, R.c (C.fn 33 [] [dP 0, dP 1])), (4, rP 2), (5, rP 3), (8, rP 4), (9, rP 5), (13, rL 8 qf t13), (14, rI t14), (15, rI x.2)], [(0, B.blk 22 [dL 1 eI b0]), (1, B.blk 3 [dI b1]), (2, B.blk 31 [dI n_Kind, dI n_N, dI n_Min, dL 2 qe n_Set, dL 5 qg n_L]), (3, B.blk 37 [dI s_Worst, dI s_Best, dI s_Pass]), (4, B.blk 70 [dI b4_many, dI b4_credits, dB b4_fine]), (5, B.blk 70 [dI x.1.many, dI x.1.credits, dB x.1.fine])], 6, 44⟩ : S)) (ex := fun (e : ql) => (Go.Exit.exit 0, ⟨[(8, rP 2), (9, rP 3)], [(0, B.blk 22 [dL 1 eI b0]), (1, B.blk 3 [dI b1]), (2, B.blk 70 [dI b4_many, dI b4_credits, dB b4_fine]), (3, B.blk 70 [dI e.many, dI e.credits, dB e.fine])], 4, 44⟩)) (step := (QB b0 b1 (qb.mk n_Kind n_N n_Min n_Set n_L) (qd.mk s_Worst s_Best s_Pass) (ql.mk b4_many b4_credits b4_fine) t13 t14)) qii qhI (fun e h => by cases h) (fun x => by
      obtain ⟨out, t15⟩ := x; have := qml; have := @qc3.eq_1; have := @q5f; have := @q2b; have := @QB.eq_1; exact gA) ((ql.mk out_many out_credits out_fine), t15)
    exact h
noncomputable def q0o (fu : Nat) (b0 : List Int) (b1 : Int) (n : qb) (s : qd) (b4 : ql) (t13 : List qa) (t14 : Int) : (ql × Int) → Option ((ql × Int) ⊕ ql)
  | (out, t15) =>
    if t15 < t14 then if 0 ≤ t15 ∧ t15 < ((t13.length : Nat) : Int) then Option.bind t13[Int.toNat t15]? fun (a : qa) =>
        Option.bind (Js t15 b0 b1) fun (a2 : Bool) =>
        if a2 = Bool.true then if out.fine = Bool.true then Option.bind (JV fu n s a) fun (a3 : Bool) =>
            some (Sum.inl (ql.mk (w64 (out.many + 1)) (w64 (out.credits + a.Credits)) a3, w64 (t15 + 1)))
          else some (Sum.inl (ql.mk (w64 (out.many + 1)) (w64 (out.credits + a.Credits)) Bool.false, w64 (t15 + 1)))
        else some (Sum.inl (out, w64 (t15 + 1)))
      else none
    else some (Sum.inr out)
theorem q4y (fu : Nat) (b0 : List Int) (b1 : Int) (n : qb) (s : qd) (b4 : ql) (t13 : List qa) (t14 : Int) : ∀ x, qk (q0o fu b0 b1 n s b4 t13 t14 x) (QB b0 b1 n s b4 t13 t14 x) := by
  rintro ⟨out, t15⟩
  unfold q0o QB
  try dsimp only
  repeat (first
    | with_reducible exact qk.refl _
    | with_reducible exact qk.none _
    | with_reducible apply q1P
    | with_reducible refine qk.bind ?_ (fun _ => ?_)
    | with_reducible refine qk.ite ?_ ?_
    | with_reducible refine qk.sum (fun _ => ?_) (fun _ => ?_)
    | with_reducible refine qk.lim (fun _ => ?_))
noncomputable def Jn (n : qb) (s : qd) (l : List qa) (b0 : List Int) (b1 : Int) : Option ql :=
  Option.bind (qM (QB b0 b1 n s (ql.mk 0 0 Bool.false) l ((l.length : Nat) : Int)) (ql.mk 0 0 Bool.true, 0)) fun (a : ql) =>
  some a
theorem q7i : ∀ (n_Kind n_N n_Min : Int) (n_Set : List qc) (n_L : List qb) (s_Worst s_Best s_Pass : Int) (l : List qa) (b0 : List Int) (b1 : Int), ev 32 2 [R.agg [dI n_Kind, dI n_N, dI n_Min, dL 2 qe n_Set, dL 5 qg n_L], R.agg [dI s_Worst, dI s_Best, dI s_Pass], rL 8 qf l, R.c (C.fn 33 [] [dP 0, dP 1])] [(0, B.blk 22 [dL 1 eI b0]), (1, B.blk 3 [dI b1])] = (Jn (qb.mk n_Kind n_N n_Min n_Set n_L) (qd.mk s_Worst s_Best s_Pass) l b0 b1).bind (fun (e : ql) => some (R.agg [dI e.many, dI e.credits, dB e.fine], [(0, B.blk 22 [dL 1 eI b0]), (1, B.blk 3 [dI b1])])) :=
  fun n_Kind n_N n_Min n_Set n_L s_Worst s_Best s_Pass l b0 b1 => by
    rw [qz qlq qqN.2.2.2 qpS]
    have := qml; have := @q4r; have := @Jn.eq_1; exact gA
noncomputable def q1S (fu : Nat) (n : qb) (s : qd) (l : List qa) (b0 : List Int) (b1 : Int) : Option ql :=
  Option.bind (itT (q0o fu b0 b1 n s (ql.mk 0 0 Bool.false) l ((l.length : Nat) : Int)) fu (ql.mk 0 0 Bool.true, 0)) fun (a : ql) =>
  some a
theorem q6M (fu : Nat) (n : qb) (s : qd) (l : List qa) (b0 : List Int) (b1 : Int) : qk (q1S fu n s l b0 b1) (Jn n s l b0 b1) := by
  unfold q1S Jn
  repeat (first
    | with_reducible exact qk.refl _
    | with_reducible exact qk.none _
    | with_reducible apply q4y
    | with_reducible refine qk.bind ?_ (fun _ => ?_)
    | with_reducible refine qk.ite ?_ ?_
    | with_reducible refine qk.sum (fun _ => ?_) (fun _ => ?_)
    | with_reducible refine qk.lim (fun _ => ?_))
noncomputable def Q4 (x : (qb × qd × List qa × List Int × Int)) : List R × List (Nat × B) := ([R.agg [C.d (D.int .i64 x.1.Kind), C.d (D.int .i64 x.1.N), C.d (D.int .i64 x.1.Min), C.d (D.sl 2 x.1.Set.length (x.1.Set.flatMap qe)), C.d (D.sl 5 x.1.L.length (x.1.L.flatMap qg))], R.c (C.ptr 0 0), R.c (C.ptr 1 0), R.c (C.ptr 2 0), R.c (C.ptr 3 0), R.c (C.ptr 4 0)], [(0, B.blk 37 [C.d (D.int .i64 x.2.1.Worst), C.d (D.int .i64 x.2.1.Best), C.d (D.int .i64 x.2.1.Pass)]), (1, B.blk 32 [C.d (D.sl 8 x.2.2.1.length (x.2.2.1.flatMap qf))]), (2, B.blk 22 [C.d (D.sl 1 x.2.2.2.1.length (x.2.2.2.1.flatMap eI))]), (3, B.blk 3 [C.d (D.int .i64 x.2.2.2.2)]), (4, B.blk 67 [C.fn 30 [] [C.ptr 0 0, C.ptr 1 0, C.ptr 2 0, C.ptr 3 0, C.ptr 4 0]])])
noncomputable def Qo : (Bool × Bool × qd × List qa × List Int × Int) → R × List (Nat × B) := fun (e : Bool × Bool × qd × List qa × List Int × Int) => (R.tup [R.c (C.d (D.bool e.1)), R.c (C.d (D.bool e.2.1))], [(0, B.blk 37 [C.d (D.int .i64 e.2.2.1.Worst), C.d (D.int .i64 e.2.2.1.Best), C.d (D.int .i64 e.2.2.1.Pass)]), (1, B.blk 32 [C.d (D.sl 8 e.2.2.2.1.length (e.2.2.2.1.flatMap qf))]), (2, B.blk 22 [C.d (D.sl 1 e.2.2.2.2.1.length (e.2.2.2.2.1.flatMap eI))]), (3, B.blk 3 [C.d (D.int .i64 e.2.2.2.2.2)]), (4, B.blk 67 [C.fn 30 [] [C.ptr 0 0, C.ptr 1 0, C.ptr 2 0, C.ptr 3 0, C.ptr 4 0]])])
noncomputable def Qz (rF : (qb × qd × List qa × List Int × Int) → Option (Bool × Bool × qd × List qa × List Int × Int)) (b5 : qb) (t35 : List qb) (t36 : Int) : (qd × List qa × List Int × Int × Bool × Int × Bool × Int) → Option ((qd × List qa × List Int × Int × Bool × Int × Bool × Int) ⊕ (qd × List qa × List Int × Int × Bool × Int × Bool))
  | (b0, b1, b2, b3, t7, t10, t11, t37) =>
    if t37 < t36 then if 0 ≤ t37 ∧ t37 < ((t35.length : Nat) : Int) then Option.bind t35[Int.toNat t37]? fun (a2 : qb) =>
        Option.bind (rF (a2, (b0, (b1, (b2, b3))))) fun (a3 : Prod Bool (Prod Bool (Prod qd (Prod (List qa) (Prod (List Int) Int))))) =>
        if t7 = Bool.true then if t11 = Bool.true then if a3.2.1 = Bool.true then some (Sum.inl (a3.2.2.1, a3.2.2.2.1, a3.2.2.2.2.1, a3.2.2.2.2.2, a3.1, w64 (t10 + 1), Bool.true, w64 (t37 + 1)))
            else some (Sum.inl (a3.2.2.1, a3.2.2.2.1, a3.2.2.2.2.1, a3.2.2.2.2.2, a3.1, t10, Bool.true, w64 (t37 + 1)))
          else if (!a3.2.1) = Bool.true then if (!a3.1) = Bool.true then if a3.2.1 = Bool.true then some (Sum.inl (a3.2.2.1, a3.2.2.2.1, a3.2.2.2.2.1, a3.2.2.2.2.2, a3.1, w64 (t10 + 1), Bool.true, w64 (t37 + 1)))
              else some (Sum.inl (a3.2.2.1, a3.2.2.2.1, a3.2.2.2.2.1, a3.2.2.2.2.2, a3.1, t10, Bool.true, w64 (t37 + 1)))
            else if a3.2.1 = Bool.true then some (Sum.inl (a3.2.2.1, a3.2.2.2.1, a3.2.2.2.2.1, a3.2.2.2.2.2, a3.1, w64 (t10 + 1), b5.Kind == 3, w64 (t37 + 1)))
            else some (Sum.inl (a3.2.2.1, a3.2.2.2.1, a3.2.2.2.2.1, a3.2.2.2.2.2, a3.1, t10, b5.Kind == 3, w64 (t37 + 1)))
          else if a3.2.1 = Bool.true then some (Sum.inl (a3.2.2.1, a3.2.2.2.1, a3.2.2.2.2.1, a3.2.2.2.2.2, a3.1, w64 (t10 + 1), Bool.false, w64 (t37 + 1)))
          else some (Sum.inl (a3.2.2.1, a3.2.2.2.1, a3.2.2.2.2.1, a3.2.2.2.2.2, a3.1, t10, Bool.false, w64 (t37 + 1)))
        else if t11 = Bool.true then if a3.2.1 = Bool.true then some (Sum.inl (a3.2.2.1, a3.2.2.2.1, a3.2.2.2.2.1, a3.2.2.2.2.2, Bool.false, w64 (t10 + 1), Bool.true, w64 (t37 + 1)))
          else some (Sum.inl (a3.2.2.1, a3.2.2.2.1, a3.2.2.2.2.1, a3.2.2.2.2.2, Bool.false, t10, Bool.true, w64 (t37 + 1)))
        else if (!a3.2.1) = Bool.true then if (!a3.1) = Bool.true then if a3.2.1 = Bool.true then some (Sum.inl (a3.2.2.1, a3.2.2.2.1, a3.2.2.2.2.1, a3.2.2.2.2.2, Bool.false, w64 (t10 + 1), Bool.true, w64 (t37 + 1)))
            else some (Sum.inl (a3.2.2.1, a3.2.2.2.1, a3.2.2.2.2.1, a3.2.2.2.2.2, Bool.false, t10, Bool.true, w64 (t37 + 1)))
          else if a3.2.1 = Bool.true then some (Sum.inl (a3.2.2.1, a3.2.2.2.1, a3.2.2.2.2.1, a3.2.2.2.2.2, Bool.false, w64 (t10 + 1), b5.Kind == 3, w64 (t37 + 1)))
          else some (Sum.inl (a3.2.2.1, a3.2.2.2.1, a3.2.2.2.2.1, a3.2.2.2.2.2, Bool.false, t10, b5.Kind == 3, w64 (t37 + 1)))
        else if a3.2.1 = Bool.true then some (Sum.inl (a3.2.2.1, a3.2.2.2.1, a3.2.2.2.2.1, a3.2.2.2.2.2, Bool.false, w64 (t10 + 1), Bool.false, w64 (t37 + 1)))
        else some (Sum.inl (a3.2.2.1, a3.2.2.2.1, a3.2.2.2.2.1, a3.2.2.2.2.2, Bool.false, t10, Bool.false, w64 (t37 + 1)))
      else none
    else some (Sum.inr (b0, b1, b2, b3, t7, t10, t11))
theorem q4j (rE : Orc) (rF : (qb × qd × List qa × List Int × Int) → Option (Bool × Bool × qd × List qa × List Int × Int)) (hF : ∀ y, rE (.fn 30) 5 (Q4 y).1 (Q4 y).2 = (rF y).bind fun e => some (Qo e)) (hM : ∀ g k a G, g ≠ 30 → rE (.fn g) k a G = ev g k a G) (hR : ∀ g asg bd k a G, rE (.rd g asg bd) k a G = evr g asg bd k a G) : ∀ (b0_Worst b0_Best b0_Pass : Int) (b1 : List qa) (b2 : List Int) (b3 b5_Kind b5_N b5_Min : Int) (b5_Set : List qc) (b5_L : List qb) (t7 : Bool) (t10 : Int) (t11 : Bool) (t35 : List qb) (t36 t37 : Int), XL2 rE 30 5 8 ⟨[(5, rP 4), (6, rP 5), (7, rB t7), (10, rI t10), (11, rB t11), (35, rL 5 qg t35), (36, rI t36), (37, rI t37)], [(0, B.blk 37 [dI b0_Worst, dI b0_Best, dI b0_Pass]), (1, B.blk 32 [dL 8 qf b1]), (2, B.blk 22 [dL 1 eI b2]), (3, B.blk 3 [dI b3]), (4, B.blk 67 [C.fn 30 [] [dP 0, dP 1, dP 2, dP 3, dP 4]]), (5, B.blk 31 [dI b5_Kind, dI b5_N, dI b5_Min, dL 2 qe b5_Set, dL 5 qg b5_L])], 6, 78⟩ = (qM (Qz rF (qb.mk b5_Kind b5_N b5_Min b5_Set b5_L) t35 t36) ((qd.mk b0_Worst b0_Best b0_Pass), b1, b2, b3, t7, t10, t11, t37)).bind (fun (e : qd × List qa × List Int × Int × Bool × Int × Bool) => some (Go.Exit.exit 0, ⟨[(6, rP 5), (7, rB e.2.2.2.2.1), (10, rI e.2.2.2.2.2.1), (11, rB e.2.2.2.2.2.2)], [(0, B.blk 37 [dI e.1.Worst, dI e.1.Best, dI e.1.Pass]), (1, B.blk 32 [dL 8 qf e.2.1]), (2, B.blk 22 [dL 1 eI e.2.2.1]), (3, B.blk 3 [dI e.2.2.2.1]), (4, B.blk 67 [C.fn 30 [] [dP 0, dP 1, dP 2, dP 3, dP 4]]), (5, B.blk 31 [dI b5_Kind, dI b5_N, dI b5_Min, dL 2 qe b5_Set, dL 5 qg b5_L])], 6, 78⟩)) :=
  fun b0_Worst b0_Best b0_Pass b1 b2 b3 b5_Kind b5_N b5_Min b5_Set b5_L t7 t10 t11 t35 t36 t37 => by
    have h := q1e (E := rE) (f := 30) (k := 5) (st := fun x : qd × List qa × List Int × Int × Bool × Int × Bool × Int => (⟨[(5, rP 4), (6, rP 5), (7, rB x.2.2.2.2.1), (10, rI x.2.2.2.2.2.1), (11, rB x.2.2.2.2.2.2.1), (35, rL 5 qg t35), (36, rI t36), (37, rI x.2.2.2.2.2.2.2)], [(0, B.blk 37 [dI x.1.Worst, dI x.1.Best, dI x.1.Pass]), (1, B.blk 32 [dL 8 qf x.2.1]), (2, B.blk 22 [dL 1 eI x.2.2.1]), (3, B.blk 3 [dI x.2.2.2.1]), (4, B.blk 67 [C.fn 30 [] [dP 0, dP 1, dP 2, dP 3, dP 4]]), (5, B.blk 31 [dI b5_Kind, dI b5_N, dI b5_Min, dL 2 qe b5_Set, dL 5 qg b5_L])], 6, 78⟩ : S)) (ex := fun (e : qd × List qa × List Int × Int × Bool × Int × Bool) => (Go.Exit.exit 0, ⟨[(6, rP 5), (7, rB e.2.2.2.2.1), (10, rI e.2.2.2.2.2.1), (11, rB e.2.2.2.2.2.2)], [(0, B.blk 37 [dI e.1.Worst, dI e.1.Best, dI e.1.Pass]), (1, B.blk 32 [dL 8 qf e.2.1]), (2, B.blk 22 [dL 1 eI e.2.2.1]), (3, B.blk 3 [dI e.2.2.2.1]), (4, B.blk 67 [C.fn 30 [] [dP 0, dP 1, dP 2, dP 3, dP 4]]), (5, B.blk 31 [dI b5_Kind, dI b5_N, dI b5_Min, dL 2 qe b5_Set, dL 5 qg b5_L])], 6, 78⟩)) (step := (Qz rF (qb.mk b5_Kind b5_N b5_Min b5_Set b5_L) t35 t36)) qkK qlp (fun e h => by cases h) (fun x => by
      obtain ⟨b0, b1, b2, b3, t7, t10, t11, t37⟩ := x; have hF' : ∀ (x0_Kind x0_N x0_Min : Int) (x0_Set : List qc) (x0_L : List qb) (v_Worst v_Best v_Pass : Int) (v2 : List qa) (v3 : List Int) (v4 : Int), rE (.fn 30) 5 [R.agg [dI x0_Kind, dI x0_N, dI x0_Min, dL 2 qe x0_Set, dL 5 qg x0_L], rP 0, rP 1, rP 2, rP 3, rP 4] [(0, B.blk 37 [dI v_Worst, dI v_Best, dI v_Pass]), (1, B.blk 32 [dL 8 qf v2]), (2, B.blk 22 [dL 1 eI v3]), (3, B.blk 3 [dI v4]), (4, B.blk 67 [C.fn 30 [] [dP 0, dP 1, dP 2, dP 3, dP 4]])] = (rF ((qb.mk x0_Kind x0_N x0_Min x0_Set x0_L), (qd.mk v_Worst v_Best v_Pass), v2, v3, v4)).bind (fun e => some (R.tup [rB e.1, rB e.2.1], [(0, B.blk 37 [dI e.2.2.1.Worst, dI e.2.2.1.Best, dI e.2.2.1.Pass]), (1, B.blk 32 [dL 8 qf e.2.2.2.1]), (2, B.blk 22 [dL 1 eI e.2.2.2.2.1]), (3, B.blk 3 [dI e.2.2.2.2.2]), (4, B.blk 67 [C.fn 30 [] [dP 0, dP 1, dP 2, dP 3, dP 4]])])) := fun x0_Kind x0_N x0_Min x0_Set x0_L v_Worst v_Best v_Pass v2 v3 v4 => hF ((qb.mk x0_Kind x0_N x0_Min x0_Set x0_L), (qd.mk v_Worst v_Best v_Pass), v2, v3, v4)
      have := qrd; have := @qeo.eq_1; have := @Qz.eq_1; exact gA) ((qd.mk b0_Worst b0_Best b0_Pass), b1, b2, b3, t7, t10, t11, t37)
    exact h
noncomputable def q0p (fu : Nat) (rF : (qb × qd × List qa × List Int × Int) → Option (Bool × Bool × qd × List qa × List Int × Int)) (b5 : qb) (t35 : List qb) (t36 : Int) : (qd × List qa × List Int × Int × Bool × Int × Bool × Int) → Option ((qd × List qa × List Int × Int × Bool × Int × Bool × Int) ⊕ (qd × List qa × List Int × Int × Bool × Int × Bool))
  | (b0, b1, b2, b3, t7, t10, t11, t37) =>
    if t37 < t36 then if 0 ≤ t37 ∧ t37 < ((t35.length : Nat) : Int) then Option.bind t35[Int.toNat t37]? fun (a2 : qb) =>
        Option.bind (rF (a2, (b0, (b1, (b2, b3))))) fun (a3 : Prod Bool (Prod Bool (Prod qd (Prod (List qa) (Prod (List Int) Int))))) =>
        if t7 = Bool.true then if t11 = Bool.true then if a3.2.1 = Bool.true then some (Sum.inl (a3.2.2.1, a3.2.2.2.1, a3.2.2.2.2.1, a3.2.2.2.2.2, a3.1, w64 (t10 + 1), Bool.true, w64 (t37 + 1)))
            else some (Sum.inl (a3.2.2.1, a3.2.2.2.1, a3.2.2.2.2.1, a3.2.2.2.2.2, a3.1, t10, Bool.true, w64 (t37 + 1)))
          else if (!a3.2.1) = Bool.true then if (!a3.1) = Bool.true then if a3.2.1 = Bool.true then some (Sum.inl (a3.2.2.1, a3.2.2.2.1, a3.2.2.2.2.1, a3.2.2.2.2.2, a3.1, w64 (t10 + 1), Bool.true, w64 (t37 + 1)))
              else some (Sum.inl (a3.2.2.1, a3.2.2.2.1, a3.2.2.2.2.1, a3.2.2.2.2.2, a3.1, t10, Bool.true, w64 (t37 + 1)))
            else if a3.2.1 = Bool.true then some (Sum.inl (a3.2.2.1, a3.2.2.2.1, a3.2.2.2.2.1, a3.2.2.2.2.2, a3.1, w64 (t10 + 1), b5.Kind == 3, w64 (t37 + 1)))
            else some (Sum.inl (a3.2.2.1, a3.2.2.2.1, a3.2.2.2.2.1, a3.2.2.2.2.2, a3.1, t10, b5.Kind == 3, w64 (t37 + 1)))
          else if a3.2.1 = Bool.true then some (Sum.inl (a3.2.2.1, a3.2.2.2.1, a3.2.2.2.2.1, a3.2.2.2.2.2, a3.1, w64 (t10 + 1), Bool.false, w64 (t37 + 1)))
          else some (Sum.inl (a3.2.2.1, a3.2.2.2.1, a3.2.2.2.2.1, a3.2.2.2.2.2, a3.1, t10, Bool.false, w64 (t37 + 1)))
        else if t11 = Bool.true then if a3.2.1 = Bool.true then some (Sum.inl (a3.2.2.1, a3.2.2.2.1, a3.2.2.2.2.1, a3.2.2.2.2.2, Bool.false, w64 (t10 + 1), Bool.true, w64 (t37 + 1)))
          else some (Sum.inl (a3.2.2.1, a3.2.2.2.1, a3.2.2.2.2.1, a3.2.2.2.2.2, Bool.false, t10, Bool.true, w64 (t37 + 1)))
        else if (!a3.2.1) = Bool.true then if (!a3.1) = Bool.true then if a3.2.1 = Bool.true then some (Sum.inl (a3.2.2.1, a3.2.2.2.1, a3.2.2.2.2.1, a3.2.2.2.2.2, Bool.false, w64 (t10 + 1), Bool.true, w64 (t37 + 1)))
            else some (Sum.inl (a3.2.2.1, a3.2.2.2.1, a3.2.2.2.2.1, a3.2.2.2.2.2, Bool.false, t10, Bool.true, w64 (t37 + 1)))
          else if a3.2.1 = Bool.true then some (Sum.inl (a3.2.2.1, a3.2.2.2.1, a3.2.2.2.2.1, a3.2.2.2.2.2, Bool.false, w64 (t10 + 1), b5.Kind == 3, w64 (t37 + 1)))
          else some (Sum.inl (a3.2.2.1, a3.2.2.2.1, a3.2.2.2.2.1, a3.2.2.2.2.2, Bool.false, t10, b5.Kind == 3, w64 (t37 + 1)))
        else if a3.2.1 = Bool.true then some (Sum.inl (a3.2.2.1, a3.2.2.2.1, a3.2.2.2.2.1, a3.2.2.2.2.2, Bool.false, w64 (t10 + 1), Bool.false, w64 (t37 + 1)))
        else some (Sum.inl (a3.2.2.1, a3.2.2.2.1, a3.2.2.2.2.1, a3.2.2.2.2.2, Bool.false, t10, Bool.false, w64 (t37 + 1)))
      else none
    else some (Sum.inr (b0, b1, b2, b3, t7, t10, t11))
theorem q4s (fu : Nat) (rF rF2 : (qb × qd × List qa × List Int × Int) → Option (Bool × Bool × qd × List qa × List Int × Int)) (hF : ∀ y, qk (rF y) (rF2 y)) (b5 : qb) (t35 : List qb) (t36 : Int) : ∀ x, qk (q0p fu rF b5 t35 t36 x) (Qz rF2 b5 t35 t36 x) := by
  rintro ⟨b0, b1, b2, b3, t7, t10, t11, t37⟩
  unfold q0p Qz
  try dsimp only
  repeat (first
    | with_reducible exact qk.refl _
    | with_reducible exact qk.none _
    | exact hF _
    | with_reducible refine qk.bind ?_ (fun _ => ?_)
    | with_reducible refine qk.ite ?_ ?_
    | with_reducible refine qk.sum (fun _ => ?_) (fun _ => ?_)
    | with_reducible refine qk.lim (fun _ => ?_))
noncomputable def QH (rF : (qb × qd × List qa × List Int × Int) → Option (Bool × Bool × qd × List qa × List Int × Int)) : (qb × qd × List qa × List Int × Int) → Option (Bool × Bool × qd × List qa × List Int × Int)
  | (x0, v, v2, v3, v4) =>
    if zH x0 = Bool.true then Option.bind (Jn x0 v v2 v3 v4) fun (a2 : ql) =>
      Option.bind (Z2 x0.Kind) fun (a3 : Sum Unit Unit) =>
      Sum.elim (fun (a4 : Unit) => some (a2.many == 0, qG a2 x0, v, v2, v3, w64 (v4 + 1))) (fun (a5 : Unit) => some (a2.many == 0, qV a2 x0, v, v2, v3, w64 (v4 + 1))) a3
    else Option.bind (qM (Qz rF x0 x0.L ((x0.L.length : Nat) : Int)) (v, (v2, (v3, (v4, (Bool.true, (0, (Bool.false, 0)))))))) fun (a6 : Prod qd (Prod (List qa) (Prod (List Int) (Prod Int (Prod Bool (Prod Int Bool)))))) =>
    if (!a6.2.2.2.2.2.2) = Bool.true then some (a6.2.2.2.2.1, decide (x0.N ≤ a6.2.2.2.2.2.1), a6.1, a6.2.1, a6.2.2.1, a6.2.2.2.1)
    else some (a6.2.2.2.2.1, Bool.false, a6.1, a6.2.1, a6.2.2.1, a6.2.2.2.1)
theorem q2e : q41 30 5 Q4 Qo QH := by
  intro rE rF hF hM hR x
  obtain ⟨x0, v, v2, v3, v4⟩ := x
  show q5L rE 30 5 [R.agg [dI x0.Kind, dI x0.N, dI x0.Min, dL 2 qe x0.Set, dL 5 qg x0.L], rP 0, rP 1, rP 2, rP 3, rP 4] [(0, B.blk 37 [dI v.Worst, dI v.Best, dI v.Pass]), (1, B.blk 32 [dL 8 qf v2]), (2, B.blk 22 [dL 1 eI v3]), (3, B.blk 3 [dI v4]), (4, B.blk 67 [C.fn 30 [] [dP 0, dP 1, dP 2, dP 3, dP 4]])] = _
  have hF' : ∀ (x0_Kind x0_N x0_Min : Int) (x0_Set : List qc) (x0_L : List qb) (v_Worst v_Best v_Pass : Int) (v2 : List qa) (v3 : List Int) (v4 : Int), rE (.fn 30) 5 [R.agg [dI x0_Kind, dI x0_N, dI x0_Min, dL 2 qe x0_Set, dL 5 qg x0_L], rP 0, rP 1, rP 2, rP 3, rP 4] [(0, B.blk 37 [dI v_Worst, dI v_Best, dI v_Pass]), (1, B.blk 32 [dL 8 qf v2]), (2, B.blk 22 [dL 1 eI v3]), (3, B.blk 3 [dI v4]), (4, B.blk 67 [C.fn 30 [] [dP 0, dP 1, dP 2, dP 3, dP 4]])] = (rF ((qb.mk x0_Kind x0_N x0_Min x0_Set x0_L), (qd.mk v_Worst v_Best v_Pass), v2, v3, v4)).bind (fun e => some (R.tup [rB e.1, rB e.2.1], [(0, B.blk 37 [dI e.2.2.1.Worst, dI e.2.2.1.Best, dI e.2.2.1.Pass]), (1, B.blk 32 [dL 8 qf e.2.2.2.1]), (2, B.blk 22 [dL 1 eI e.2.2.2.2.1]), (3, B.blk 3 [dI e.2.2.2.2.2]), (4, B.blk 67 [C.fn 30 [] [dP 0, dP 1, dP 2, dP 3, dP 4]])])) := fun x0_Kind x0_N x0_Min x0_Set x0_L v_Worst v_Best v_Pass v2 v3 v4 => hF ((qb.mk x0_Kind x0_N x0_Min x0_Set x0_L), (qd.mk v_Worst v_Best v_Pass), v2, v3, v4)
  rw [q17 qmB qrQ]
  have := qrd; have := @q0y; have := @q7i; have := @q1d; have := @ZR; have := @JS; have := q4j rE rF hF hM hR; have := @QH.eq_1; have := @Qo.eq_1; exact gA
theorem q0w : ∀ x y, Q4 x = Q4 y → x = y := by
  rintro ⟨⟨a0_0, a0_1, a0_2, a0_3, a0_4⟩, ⟨a1_0, a1_1, a1_2⟩, a2, a3, a4⟩ ⟨⟨b0_0, b0_1, b0_2, b0_3, b0_4⟩, ⟨b1_0, b1_1, b1_2⟩, b2, b3, b4⟩ h
  simp only [Q4, Prod.mk.injEq, List.cons.injEq, R.c.injEq, R.agg.injEq, R.tup.injEq, C.d.injEq, C.own.injEq, C.ptr.injEq, C.eptr.injEq, D.int.injEq, D.bool.injEq, D.str.injEq, D.sl.injEq, B.blk.injEq, B.row.injEq, Zx, JK, ZC, ZU, Je, q0O, Zv, q14, true_and, and_true, List.nil_append] at h
  simp only [h]
theorem q4w : ∀ x y, Qo x = Qo y → x = y := by
  rintro ⟨a0, a1, ⟨a2_0, a2_1, a2_2⟩, a3, a4, a5⟩ ⟨b0, b1, ⟨b2_0, b2_1, b2_2⟩, b3, b4, b5⟩ h
  simp only [Qo, Prod.mk.injEq, List.cons.injEq, R.c.injEq, R.agg.injEq, R.tup.injEq, C.d.injEq, C.own.injEq, C.ptr.injEq, C.eptr.injEq, D.int.injEq, D.bool.injEq, D.str.injEq, D.sl.injEq, B.blk.injEq, B.row.injEq, Zx, JK, ZC, ZU, Je, q0O, Zv, q14, true_and, and_true, List.nil_append] at h
  simp only [h]
noncomputable def ZO : (qb × qd × List qa × List Int × Int) → Option (Bool × Bool × qd × List qa × List Int × Int) := q4k 30 5 Q4 Qo
theorem q76 (x : (qb × qd × List qa × List Int × Int)) : ZO x = QH ZO x := q7w qq1.2.2.2 q0w q4w q2e x
theorem q5P (x0 : qb) (v : qd) (v2 : List qa) (v3 : List Int) (v4 : Int) : ev 30 5 [R.agg [dI x0.Kind, dI x0.N, dI x0.Min, dL 2 qe x0.Set, dL 5 qg x0.L], rP 0, rP 1, rP 2, rP 3, rP 4] [(0, B.blk 37 [dI v.Worst, dI v.Best, dI v.Pass]), (1, B.blk 32 [dL 8 qf v2]), (2, B.blk 22 [dL 1 eI v3]), (3, B.blk 3 [dI v4]), (4, B.blk 67 [C.fn 30 [] [dP 0, dP 1, dP 2, dP 3, dP 4]])] = (ZO (x0, v, v2, v3, v4)).bind (fun (e : Bool × Bool × qd × List qa × List Int × Int) => some (R.tup [rB e.1, rB e.2.1], [(0, B.blk 37 [dI e.2.2.1.Worst, dI e.2.2.1.Best, dI e.2.2.1.Pass]), (1, B.blk 32 [dL 8 qf e.2.2.2.1]), (2, B.blk 22 [dL 1 eI e.2.2.2.2.1]), (3, B.blk 3 [dI e.2.2.2.2.2]), (4, B.blk 67 [C.fn 30 [] [dP 0, dP 1, dP 2, dP 3, dP 4]])])) := (q5s qq1.2.2.2 q0w q2e (x0, v, v2, v3, v4))
theorem q6L : ∀ (x0_Kind x0_N x0_Min : Int) (x0_Set : List qc) (x0_L : List qb) (v_Worst v_Best v_Pass : Int) (v2 : List qa) (v3 : List Int) (v4 : Int), ev 30 5 [R.agg [dI x0_Kind, dI x0_N, dI x0_Min, dL 2 qe x0_Set, dL 5 qg x0_L], rP 0, rP 1, rP 2, rP 3, rP 4] [(0, B.blk 37 [dI v_Worst, dI v_Best, dI v_Pass]), (1, B.blk 32 [dL 8 qf v2]), (2, B.blk 22 [dL 1 eI v3]), (3, B.blk 3 [dI v4]), (4, B.blk 67 [C.fn 30 [] [dP 0, dP 1, dP 2, dP 3, dP 4]])] = (ZO ((qb.mk x0_Kind x0_N x0_Min x0_Set x0_L), (qd.mk v_Worst v_Best v_Pass), v2, v3, v4)).bind (fun (e : Bool × Bool × qd × List qa × List Int × Int) => some (R.tup [rB e.1, rB e.2.1], [(0, B.blk 37 [dI e.2.2.1.Worst, dI e.2.2.1.Best, dI e.2.2.1.Pass]), (1, B.blk 32 [dL 8 qf e.2.2.2.1]), (2, B.blk 22 [dL 1 eI e.2.2.2.2.1]), (3, B.blk 3 [dI e.2.2.2.2.2]), (4, B.blk 67 [C.fn 30 [] [dP 0, dP 1, dP 2, dP 3, dP 4]])])) :=
  fun x0_Kind x0_N x0_Min x0_Set x0_L v_Worst v_Best v_Pass v2 v3 v4 => q5P (qb.mk x0_Kind x0_N x0_Min x0_Set x0_L) (qd.mk v_Worst v_Best v_Pass) v2 v3 v4
noncomputable def Jw (fu : Nat) (rF : (qb × qd × List qa × List Int × Int) → Option (Bool × Bool × qd × List qa × List Int × Int)) : (qb × qd × List qa × List Int × Int) → Option (Bool × Bool × qd × List qa × List Int × Int)
  | (x0, v, v2, v3, v4) =>
    if zH x0 = Bool.true then Option.bind (q1S fu x0 v v2 v3 v4) fun (a2 : ql) =>
      Option.bind (Z2 x0.Kind) fun (a3 : Sum Unit Unit) =>
      Sum.elim (fun (a4 : Unit) => some (a2.many == 0, qG a2 x0, v, v2, v3, w64 (v4 + 1))) (fun (a5 : Unit) => some (a2.many == 0, qV a2 x0, v, v2, v3, w64 (v4 + 1))) a3
    else Option.bind (itT (q0p fu rF x0 x0.L ((x0.L.length : Nat) : Int)) fu (v, (v2, (v3, (v4, (Bool.true, (0, (Bool.false, 0)))))))) fun (a6 : Prod qd (Prod (List qa) (Prod (List Int) (Prod Int (Prod Bool (Prod Int Bool)))))) =>
    if (!a6.2.2.2.2.2.2) = Bool.true then some (a6.2.2.2.2.1, decide (x0.N ≤ a6.2.2.2.2.2.1), a6.1, a6.2.1, a6.2.2.1, a6.2.2.2.1)
    else some (a6.2.2.2.2.1, Bool.false, a6.1, a6.2.1, a6.2.2.1, a6.2.2.2.1)
theorem q2Z (fu : Nat) (rF rF2 : (qb × qd × List qa × List Int × Int) → Option (Bool × Bool × qd × List qa × List Int × Int)) (hF : ∀ y, qk (rF y) (rF2 y)) : ∀ x, qk (Jw fu rF x) (QH rF2 x) := by
  rintro ⟨x0, v, v2, v3, v4⟩
  unfold Jw QH
  try dsimp only
  repeat (first
    | with_reducible exact qk.refl _
    | with_reducible exact qk.none _
    | exact hF _
    | with_reducible apply q6M
    | (with_reducible refine q4s _ _ _ hF ..)
    | with_reducible refine qk.bind ?_ (fun _ => ?_)
    | with_reducible refine qk.ite ?_ ?_
    | with_reducible refine qk.sum (fun _ => ?_) (fun _ => ?_)
    | with_reducible refine qk.lim (fun _ => ?_))
noncomputable def q5i (fu : Nat) (x : (qb × qd × List qa × List Int × Int)) : Option (Bool × Bool × qd × List qa × List Int × Int) := itR (Jw fu) fu x
theorem q6P (fu : Nat) (x : (qb × qd × List qa × List Int × Int)) : qk (q5i fu x) (ZO x) := qk.rec q76 (q2Z fu) fu x
theorem qnX : okL 18 q9X := qy (qi qlL) (by kernel_rfl) (by kernel_rfl)
def qpx := JA_ @q9X.eq_1 (JA_ @Try.f18.eq_1 @qlL)
theorem qlT : lbO 18 6 = qfI := Q8 (qi qlL) rfl
theorem qkd : okL 18 qfI := zd qnX (List.mem_of_getElem? (i := 0) (by kernel_rfl))
theorem qjf : lbO 18 10 = qbf := Q8 (qi qlL) rfl
theorem qiB : okL 18 qbf := zd qnX (List.mem_of_getElem? (i := 1) (by kernel_rfl))
noncomputable def J3 (want : List Int) (set0 : Int) (ok : Bool) (t34 : List Bool) (t35 : Int) (t36 : Int) (t41 : List Int) (t42 : Int) : (Bool × Int) → Option ((Bool × Int) ⊕ Bool)
  | (in0, t43) =>
    if t43 < t42 then if 0 ≤ t43 ∧ t43 < ((t41.length : Nat) : Int) then Option.bind t41[Int.toNat t43]? fun (a : Int) =>
        if in0 = Bool.true then some (Sum.inl (Bool.true, w64 (t43 + 1)))
        else some (Sum.inl (a == set0, w64 (t43 + 1)))
      else none
    else some (Sum.inr in0)
theorem q4h : ∀ (want : List Int) (set0 : Int) (ok in0 : Bool) (t34 : List Bool) (t35 t36 : Int) (t41 : List Int) (t42 t43 : Int), XL2 evo 18 0 10 ⟨[(1, rL 1 eI want), (10, rI set0), (11, rB ok), (12, rB in0), (34, rL 1 eB t34), (35, rI t35), (36, rI t36), (41, rL 1 eI t41), (42, rI t42), (43, rI t43)], [], 0, 58⟩ = (qM (J3 want set0 ok t34 t35 t36 t41 t42) (in0, t43)).bind (fun (e : Bool) => some (Go.Exit.exit 2, ⟨[(1, rL 1 eI want), (11, rB ok), (12, rB e), (34, rL 1 eB t34), (35, rI t35), (36, rI t36)], [], 0, 58⟩)) :=
  fun want set0 ok in0 t34 t35 t36 t41 t42 t43 => by
    revert t43; revert in0; exact q8r qjf qiB (fun e => by exact ⟨_, rfl, fun h => by cases h⟩) fun in0 t43 => by
      have := qpx; have := @qbf.eq_1; have := @J3.eq_1; exact gA
noncomputable def ZE (want : List Int) (t34 : List Bool) (t35 : Int) : Int → Option (Int ⊕ (Unit ⊕ Unit))
  | t36 =>
    if t36 < t35 then if 0 ≤ t36 ∧ t36 < ((t34.length : Nat) : Int) then Option.bind t34[Int.toNat t36]? fun (a : Bool) =>
        Option.bind (qM (J3 want t36 a t34 t35 t36 want ((want.length : Nat) : Int)) (Bool.false, 0)) fun (a2 : Bool) =>
        if (!(a == a2)) = Bool.true then some (Sum.inr (Sum.inl ()))
        else some (Sum.inl (w64 (t36 + 1)))
      else none
    else some (Sum.inr (Sum.inr ()))
theorem q5A : ∀ (want : List Int) (t34 : List Bool) (t35 t36 : Int), XL2 evo 18 0 6 ⟨[(1, rL 1 eI want), (34, rL 1 eB t34), (35, rI t35), (36, rI t36)], [], 0, 58⟩ = (qM (ZE want t34 t35) t36).bind (Sum.elim (fun (e : Unit) => some (Go.Exit.ret, ⟨[(4, rB Bool.false)], [], 0, 58⟩)) (fun (e : Unit) => some (Go.Exit.exit 0, ⟨[(4, R.any)], [], 0, 58⟩))) :=
  fun want t34 t35 t36 => by
    revert t36; exact qad qlT qkd (fun e => by rcases e with _ | _ <;> exact ⟨_, rfl, fun h => by cases h⟩) fun x => by
      have := qpx; have := @qfI.eq_1; have := @q4h; have := @ZE.eq_1; exact gA
noncomputable def q0Q (fu : Nat) (want : List Int) (t34 : List Bool) (t35 : Int) : Int → Option (Int ⊕ (Unit ⊕ Unit))
  | t36 =>
    if t36 < t35 then if 0 ≤ t36 ∧ t36 < ((t34.length : Nat) : Int) then Option.bind t34[Int.toNat t36]? fun (a : Bool) =>
        Option.bind (itT (J3 want t36 a t34 t35 t36 want ((want.length : Nat) : Int)) fu (Bool.false, 0)) fun (a2 : Bool) =>
        if (!(a == a2)) = Bool.true then some (Sum.inr (Sum.inl ()))
        else some (Sum.inl (w64 (t36 + 1)))
      else none
    else some (Sum.inr (Sum.inr ()))
theorem q4Y (fu : Nat) (want : List Int) (t34 : List Bool) (t35 : Int) : ∀ x, qk (q0Q fu want t34 t35 x) (ZE want t34 t35 x) := by
  rintro t36
  unfold q0Q ZE
  try dsimp only
  repeat (first
    | with_reducible exact qk.refl _
    | with_reducible exact qk.none _
    | with_reducible refine qk.bind ?_ (fun _ => ?_)
    | with_reducible refine qk.ite ?_ ?_
    | with_reducible refine qk.sum (fun _ => ?_) (fun _ => ?_)
    | with_reducible refine qk.lim (fun _ => ?_))
theorem qre : okL 15 qcv := qy (qi qm5) (by kernel_rfl) (by kernel_rfl)
def qqL := JA_ @qcv.eq_1 (JA_ @Try.f15.eq_1 @qm5)
theorem qks : lbO 15 4 = qdJ := Q8 (qi qm5) rfl
theorem qlx : okL 15 qdJ := zd qre (List.mem_of_getElem? (i := 0) (by kernel_rfl))
noncomputable def Z4 (a : List Int) (b : List Int) : Int → Option (Int ⊕ (Unit ⊕ Unit))
  | k =>
    if k < ((a.length : Nat) : Int) then if 0 ≤ k ∧ k < ((a.length : Nat) : Int) then Option.bind a[Int.toNat k]? fun (a2 : Int) =>
        if 0 ≤ k ∧ k < ((b.length : Nat) : Int) then Option.bind b[Int.toNat k]? fun (a3 : Int) =>
          if (a2 != a3) = Bool.true then some (Sum.inr (Sum.inl ()))
          else some (Sum.inl (w64 (k + 1)))
        else none
      else none
    else some (Sum.inr (Sum.inr ()))
theorem q2w : ∀ (a b : List Int) (k : Int), XL2 evo 15 0 4 ⟨[(0, rL 1 eI a), (1, rL 1 eI b), (5, rI k)], [], 0, 26⟩ = (qM (Z4 a b) k).bind (Sum.elim (fun (e : Unit) => some (Go.Exit.ret, ⟨[(4, rB Bool.false)], [], 0, 26⟩)) (fun (e : Unit) => some (Go.Exit.exit 0, ⟨[(4, R.any)], [], 0, 26⟩))) :=
  fun a b k => by
    revert k; exact qad qks qlx (fun e => by rcases e with _ | _ <;> exact ⟨_, rfl, fun h => by cases h⟩) fun x => by
      have := qqL; have := @qdJ.eq_1; have := @Z4.eq_1; exact gA
noncomputable def zV (a : List Int) (b : List Int) : Option Bool :=
  if (((a.length : Nat) : Int) != ((b.length : Nat) : Int)) = Bool.true then some Bool.false
  else Option.bind (qM (Z4 a b) 0) fun (a2 : Sum Unit Unit) =>
  Sum.elim (fun (a3 : Unit) => some Bool.false) (fun (a4 : Unit) => some Bool.true) a2
theorem q0V : ∀ (a b : List Int), ev 15 0 [rL 1 eI a, rL 1 eI b] [] = (zV a b).bind (fun (e : Bool) => some (rB e, [])) :=
  fun a b => by
    rw [qz qm5 qsN.2.2.2 qre]
    have := qqL; have := @q2w; have := @zV.eq_1; exact gA
theorem q2J : ∀ (b0 b1 b2 : Int) (a : List Int), ev 15 0 [rL 1 eI a, R.c (C.d (D.sl 1 3 [D.int .i64 b0, D.int .i64 b1, D.int .i64 b2]))] [] = (zV a [b0, b1, b2]).bind (fun (e : Bool) => some (rB e, [])) := by
  intro b0 b1 b2 a; have h := q0V a [b0, b1, b2]
  first
    | exact h
    | (simp only [rL, dL, bR, bZ, Nat.reduceAdd] at h; exact h)
theorem q2G : ∀ (b0 b1 : Int) (a : List Int), ev 15 0 [rL 1 eI a, R.c (C.d (D.sl 1 2 [D.int .i64 b0, D.int .i64 b1]))] [] = (zV a [b0, b1]).bind (fun (e : Bool) => some (rB e, [])) := by
  intro b0 b1 a; have h := q0V a [b0, b1]
  first
    | exact h
    | (simp only [rL, dL, bR, bZ, Nat.reduceAdd] at h; exact h)
noncomputable def J7 (fu : Nat) (a : List Int) (b : List Int) : Option Bool :=
  if (((a.length : Nat) : Int) != ((b.length : Nat) : Int)) = Bool.true then some Bool.false
  else Option.bind (itT (Z4 a b) fu 0) fun (a2 : Sum Unit Unit) =>
  Sum.elim (fun (a3 : Unit) => some Bool.false) (fun (a4 : Unit) => some Bool.true) a2
theorem q4c (fu : Nat) (a b : List Int) : qk (J7 fu a b) (zV a b) := by
  unfold J7 zV
  repeat (first
    | with_reducible exact qk.refl _
    | with_reducible exact qk.none _
    | with_reducible refine qk.bind ?_ (fun _ => ?_)
    | with_reducible refine qk.ite ?_ ?_
    | with_reducible refine qk.sum (fun _ => ?_) (fun _ => ?_)
    | with_reducible refine qk.lim (fun _ => ?_))
theorem lo5 : okL 5 qcP := qy (qi bd5) (by kernel_rfl) (by kernel_rfl)
def cx5 := JA_ @qcP.eq_1 (JA_ @Try.f5.eq_1 @bd5)
theorem qob : lbO 5 7 = qjG := Q8 (qi bd5) rfl
theorem qpi : okL 5 qjG := zd lo5 (List.mem_of_getElem? (i := 0) (by kernel_rfl))
theorem qkz : lbO 5 19 = qez := Q8 (qi bd5) rfl
theorem qk9 : okL 5 qez := zd lo5 (List.mem_of_getElem? (i := 1) (by kernel_rfl))
theorem qkg : lbO 5 23 = qdP := Q8 (qi bd5) rfl
theorem qli : okL 5 qdP := zd lo5 (List.mem_of_getElem? (i := 2) (by kernel_rfl))
theorem lo7 : okL 7 qis := qy (qi bd7) (by kernel_rfl) (by kernel_rfl)
def cx7 := JA_ @qis.eq_1 (JA_ @Try.f7.eq_1 @bd7)
theorem quz : okL 19 qep := qy (qi qp8) (by kernel_rfl) (by kernel_rfl)
def qsS := JA_ @qep.eq_1 (JA_ @Try.f19.eq_1 @qp8)
theorem qrR : okL 40 qbL := qy (qi qn0) (by kernel_rfl) (by kernel_rfl)
def qr4 := JA_ @qbL.eq_1 (JA_ @Try.f40.eq_1 @qn0)
theorem qkc : lbO 40 9 = qfh := Q8 (qi qn0) rfl
theorem ql6 : okL 40 qfh := zd qrR (List.mem_of_getElem? (i := 0) (by kernel_rfl))
theorem qtx : okL 57 qeQ := qy (qi qo0) (by kernel_rfl) (by kernel_rfl)
def qtD := JA_ @qeQ.eq_1 (JA_ @Try.f57.eq_1 @qo0)
noncomputable def qm (most : Int) (d : qh) : Option (Int × qh) :=
  if ((d.L.length : Nat) : Int) ≤ d.At then some (0, d)
  else if 0 ≤ d.At ∧ d.At < ((d.L.length : Nat) : Int) then Option.bind d.L[Int.toNat d.At]? fun (a : Int) =>
    if most = 0 then none
    else if most = 0 then none
    else some (Int.tmod (w64 (Int.tmod a most + most)) most, qh.mk d.L (w64 (d.At + 1)))
  else none
theorem ZS : ∀ (most : Int) (d_L : List Int) (d_At : Int), ev 57 1 [rP 0, rI most] [(0, B.blk 83 [dL 1 eI d_L, dI d_At])] = (qm most (qh.mk d_L d_At)).bind (fun (e : Int × qh) => some (rI e.1, [(0, B.blk 83 [dL 1 eI e.2.L, dI e.2.At])])) :=
  fun most d_L d_At => by
    rw [qz qo0 qtu.2.2.2 qtx]
    have := qtD; have := @qm.eq_1; exact gA
theorem qoP : okL 58 qai := qy (qi qlk) (by kernel_rfl) (by kernel_rfl)
def qpl := JA_ @qai.eq_1 (JA_ @Try.f58.eq_1 @qlk)
theorem qla : lbO 58 4 = qfK := Q8 (qi qlk) rfl
theorem qlm : okL 58 qfK := zd qoP (List.mem_of_getElem? (i := 0) (by kernel_rfl))
theorem qlU : lbO 58 8 = qdN := Q8 (qi qlk) rfl
theorem qke : okL 58 qdN := zd qoP (List.mem_of_getElem? (i := 1) (by kernel_rfl))
theorem qsZ : okL 72 qe5 := qy (qi qnH) (by kernel_rfl) (by kernel_rfl)
def quB := JA_ @qe5.eq_1 (JA_ @Try.f72.eq_1 @qnH)
theorem qtm : okL 77 qgh := qy (qi qpz) (by kernel_rfl) (by kernel_rfl)
def qv0 := JA_ @qgh.eq_1 (JA_ @Try.f77.eq_1 @qpz)
noncomputable def q0C : Option (List ByteArray) :=
  some [ByteArray.mk (List.toArray [65, 49]), ByteArray.mk (List.toArray [66, 49]), ByteArray.mk (List.toArray [66, 50]), ByteArray.mk (List.toArray [67, 49]), ByteArray.mk (List.toArray [68, 49]), ByteArray.mk (List.toArray [69, 57])]
noncomputable def qL : List ByteArray :=
  [ByteArray.mk (List.toArray [65, 49]), ByteArray.mk (List.toArray [66, 49]), ByteArray.mk (List.toArray [66, 50]), ByteArray.mk (List.toArray [67, 49]), ByteArray.mk (List.toArray [68, 49]), ByteArray.mk (List.toArray [69, 57])]
theorem q5T : q0C = some (qL) := by
  unfold q0C qL
  simp only [zX]
theorem q75 : ev 77 0 [] [] = some (R.c (C.d (D.sl 1 (qL).length ((qL).flatMap eS))), []) :=
  by
    have h : ev 77 0 [] [] = (q0C).bind (fun (e : List ByteArray) => some (rL 1 eS e, [])) := by
      rw [qz qpz qsM.2.2.2 qtm]
      have := qv0; have := @q0C.eq_1; exact gA
    rw [q5T] at h
    exact h
noncomputable def ZX (d : qh) : Option (qc × qh) :=
  Option.bind (qm 6 d) fun (a : Prod Int qh) =>
  if 0 ≤ a.1 ∧ a.1 < 6 then Option.bind [(1 : Int), 1, 1, 2, 2, 3][Int.toNat a.1]? fun (a2 : Int) =>
    Option.bind (qm ((qL.length : Nat) : Int) a.2) fun (a3 : Prod Int qh) =>
    if 0 ≤ a3.1 ∧ a3.1 < ((qL.length : Nat) : Int) then Option.bind qL[Int.toNat a3.1]? fun (a4 : ByteArray) =>
      some (qc.mk a2 a4, a3.2)
    else none
  else none
theorem q6h : ∀ (d_L : List Int) (d_At : Int), ev 72 1 [rP 0] [(0, B.blk 83 [dL 1 eI d_L, dI d_At])] = (ZX (qh.mk d_L d_At)).bind (fun (e : qc × qh) => some (R.agg [dI e.1.School, dS e.1.Code], [(0, B.blk 83 [dL 1 eI e.2.L, dI e.2.At])])) :=
  fun d_L d_At => by
    rw [qz qnH qt9.2.2.2 qsZ]
    have := quB; have := @ZS; have := @q75; have := @ZX.eq_1; exact gA
theorem quY : okL 60 qdM := qy (qi qpA) (by kernel_rfl) (by kernel_rfl)
def qv3 := JA_ @qdM.eq_1 (JA_ @Try.f60.eq_1 @qpA)
noncomputable def J2 (a : qc) (b : qc) : Option Bool :=
  if a.School < b.School then some Bool.true
  else if (a.School == b.School) = Bool.true then some (Go.Op.bytesLess (ByteArray.toList a.Code) (ByteArray.toList b.Code))
  else some Bool.false
noncomputable def za (a : qc) (b : qc) : Bool :=
  if a.School < b.School then Bool.true
  else if (a.School == b.School) = Bool.true then Go.Op.bytesLess (ByteArray.toList a.Code) (ByteArray.toList b.Code)
  else Bool.false
theorem q3J (a b : qc) : J2 a b = some (za a b) := by
  unfold J2 za
  simp only [zX]
theorem Jg : ∀ (a_School : Int) (a_Code : ByteArray) (b_School : Int) (b_Code : ByteArray), ev 60 0 [R.agg [dI a_School, dS a_Code], R.agg [dI b_School, dS b_Code]] [] = some (rB (za (qc.mk a_School a_Code) (qc.mk b_School b_Code)), []) :=
  fun a_School a_Code b_School b_Code => by
    have h : ev 60 0 [R.agg [dI a_School, dS a_Code], R.agg [dI b_School, dS b_Code]] [] = (J2 (qc.mk a_School a_Code) (qc.mk b_School b_Code)).bind (fun (e : Bool) => some (rB e, [])) := by
      rw [qz qpA qu6.2.2.2 quY]
      have := qv3; have := @J2.eq_1; exact gA
    rw [q3J] at h
    exact h
noncomputable def QJ (out : List qc) (d : qh) (c : qc) (many : Int) (k : Int) : Int → Option (Int ⊕ Int)
  | at0 =>
    if at0 < ((out.length : Nat) : Int) then if 0 ≤ at0 ∧ at0 < ((out.length : Nat) : Int) then Option.bind out[Int.toNat at0]? fun (a : qc) =>
        if za a c = Bool.true then some (Sum.inl (w64 (at0 + 1)))
        else some (Sum.inr at0)
      else none
    else some (Sum.inr at0)
theorem q6i : ∀ (out : List qc) (d_L : List Int) (d_At c_School : Int) (c_Code : ByteArray) (many k at0 : Int) (out_len : Nat), out_len = out.length → XL2 evo 58 1 8 ⟨[(0, rP 0), (3, rI many), (4, rO 1 2 out_len), (5, rI k), (6, rP 2), (7, rI at0)], [(0, B.blk 83 [dL 1 eI d_L, dI d_At]), (1, bR 52 2 qe out), (2, B.blk 52 [dI c_School, dS c_Code])], 3, 61⟩ = (qM (QJ out (qh.mk d_L d_At) (qc.mk c_School c_Code) many k) at0).bind (fun (e : Int) => some (Go.Exit.exit 2, ⟨[(0, rP 0), (3, rI many), (4, rO 1 2 out.length), (5, rI k), (6, rP 2), (7, rI e)], [(0, B.blk 83 [dL 1 eI d_L, dI d_At]), (1, bR 52 2 qe out), (2, B.blk 52 [dI c_School, dS c_Code])], 3, 61⟩)) :=
  by
  intro out d_L d_At c_School c_Code many k at0 out_len h0
  subst h0
  revert at0; exact qad qlU qke (fun e => by exact ⟨_, rfl, fun h => by cases h⟩) fun x => by
    have := qpl; have := @qdN.eq_1; have := @Jg; have := @QJ.eq_1; exact gA
end Go.Proofs.Ytgejdfnidjnjcaa.Vc
