/- Part 4 of a proof. -/
import Derived.Test.YtgejdfnidjnjcaaM3
set_option linter.unusedVariables false
set_option linter.unusedSimpArgs false
set_option linter.defProp false
set_option linter.unusedSectionVars false
set_option linter.unnecessarySimpa false
namespace Go.Proofs.Ytgejdfnidjnjcaa.Vc
open Go.RowKit
set_option linter.unusedVariables false
set_option linter.unusedSimpArgs false
theorem qd7 (a : Nat) (h : a < 9223372036854775808) : IntKind.i64.wrap (a : Int) = a := wi _ (by omega) (by omega)
theorem qb5 (a : Nat) : BitVec.ofInt IntKind.i64.bits (a : Int) = BitVec.ofNat 64 a := by
  show BitVec.ofInt 64 (a : Int) = _
  simp
theorem q9V (a b : Nat) (ha : a < 9223372036854775808) (hb : b < 9223372036854775808) : ZZ .and .i64 (a : Int) (b : Int) = ((a &&& b : Nat) : Int) := by
  unfold ZZ
  simp only [qb5]
  have h1 : (BitVec.ofNat 64 a &&& BitVec.ofNat 64 b).toNat = a &&& b := by
    rw [BitVec.toNat_and, BitVec.toNat_ofNat, BitVec.toNat_ofNat, Nat.mod_eq_of_lt (by omega), Nat.mod_eq_of_lt (by omega)]
  have h2 : a &&& b ≤ a := Nat.and_le_left
  show IntKind.i64.wrap (((BitVec.ofNat 64 a &&& BitVec.ofNat 64 b).toNat : Nat) : Int) = _
  rw [h1]
  exact qd7 _ (by omega)
theorem qdL (a b : Nat) (ha : a < 9223372036854775808) (hb : b < 9223372036854775808) : ZZ .andNot .i64 (a : Int) (b : Int) = ((a ^^^ (a &&& b) : Nat) : Int) := by
  unfold ZZ
  simp only [qb5]
  have h1 : (BitVec.ofNat 64 a &&& ~~~BitVec.ofNat 64 b).toNat = a ^^^ (a &&& b) := by
    apply Nat.eq_of_testBit_eq
    intro i
    rw [BitVec.testBit_toNat, BitVec.getLsbD_and, BitVec.getLsbD_not, BitVec.getLsbD_ofNat, BitVec.getLsbD_ofNat, Nat.testBit_xor, Nat.testBit_and]
    by_cases hi : i < 64
    · simp only [hi, decide_true, Bool.true_and]
      cases a.testBit i <;> cases b.testBit i <;> rfl
    · have : a.testBit i = false := Nat.testBit_lt_two_pow (Nat.lt_of_lt_of_le ha (by
        have := Nat.pow_le_pow_right (n := 2) (by decide) (show 63 ≤ i by omega)
        exact this))
      simp [hi, this]
  have h2 : a ^^^ (a &&& b) < 2 ^ 63 := Nat.xor_lt_two_pow (by omega) (Nat.lt_of_le_of_lt Nat.and_le_left (by omega))
  show IntKind.i64.wrap (((BitVec.ofNat 64 a &&& ~~~BitVec.ofNat 64 b).toNat : Nat) : Int) = _
  rw [h1]
  exact qd7 _ (by omega)
theorem qag (a k : Nat) (hk : k ≤ 64) : ((a : Int)).fdiv (2 ^ min k IntKind.i64.bits) = ((a / 2 ^ k : Nat) : Int) := by
  have : min k IntKind.i64.bits = k := Nat.min_eq_left hk
  rw [this]
  show ((a : Int)).fdiv (2 ^ k) = _
  rw [show ((2 : Int) ^ k) = ((2 ^ k : Nat) : Int) by simp]
  rw [Int.fdiv_eq_ediv_of_nonneg _ (Int.natCast_nonneg _)]
  simp
theorem qgi (a k : Nat) (ha : a < 9223372036854775808) (hk : k ≤ 64) : (ZZ .and .i64 ((a : Int).fdiv (2 ^ min k IntKind.i64.bits)) 1 == 1) = a.testBit k := by
  rw [qag a k hk, show (1 : Int) = ((1 : Nat) : Int) from rfl, q9V _ _ (Nat.lt_of_le_of_lt (Nat.div_le_self _ _) ha) (by decide), Nat.and_one_is_mod, Nat.testBit_eq_decide_div_mod_eq]
  have : a / 2 ^ k % 2 < 2 := Nat.mod_lt _ (by decide)
  by_cases h : a / 2 ^ k % 2 = 1
  · simp [h]
  · have : a / 2 ^ k % 2 = 0 := by omega
    simp [this]
def QI {α : Type} (N : Nat) (g : Nat → α) : List α := (List.range N).map g
theorem qM {α : Type} (N : Nat) (g : Nat → α) : (QI N g).length = N := by simp [QI]
theorem Zo {α : Type} {N : Nat} (g : Nat → α) {i : Nat} (h : i < N) : (QI N g)[i]? = some (g i) := by
  unfold QI; rw [List.getElem?_map, List.getElem?_range h]; rfl
theorem ZB {α : Type} {N : Nat} {f g : Nat → α} (h : ∀ k, k < N → f k = g k) : QI N f = QI N g := by
  unfold QI
  refine List.map_congr_left fun k hk => h k (List.mem_range.1 hk)
theorem q1f {α : Type} (N : Nat) (c : α) : List.replicate N c = QI N (fun _ => c) := by
  unfold QI
  induction N with
  | zero => rfl
  | succ n ih => rw [List.range_succ, List.map_append, ← ih, List.replicate_succ']; rfl
def q74 {α : Type} (g : Nat → α) (i : Nat) (v : α) : Nat → α := fun k => if k = i then v else g k
theorem QD {α : Type} (N : Nat) (g : Nat → α) (i : Nat) (v : α) : (QI N g).set i v = QI N (q74 g i v) := by
  refine List.ext_getElem? fun k => ?_
  rw [List.getElem?_set, qM]
  by_cases hk : k < N
  · rw [Zo _ hk, Zo _ hk]
    unfold q74
    by_cases h : i = k
    · subst h; simp [hk]
    · rw [if_neg h, if_neg (fun h2 => h h2.symm)]
  · have e1 : (QI N g)[k]? = none := List.getElem?_eq_none (by rw [qM]; omega)
    have e2 : (QI N (q74 g i v))[k]? = none := List.getElem?_eq_none (by rw [qM]; omega)
    rw [e1, e2]
    split
    · rw [if_neg (by omega)]
    · rfl
theorem q8z {α : Type} (g : Nat → α) (i : Nat) (v : α) : q74 g i v i = v := by simp [q74]
theorem q5S {α : Type} (g : Nat → α) (i : Nat) (v w : α) : q74 (q74 g i v) i w = q74 g i w := by
  funext k; unfold q74; split <;> rfl
theorem qdT {α : Type} (f : Nat → α) (c : α) {i0 i : Nat} (h : i0 ≤ i) : q74 (fun k => if i0 ≤ k ∧ k < i then f k else c) i (f i) = fun k => if i0 ≤ k ∧ k < i + 1 then f k else c := by
  funext k
  unfold q74
  by_cases hk : k = i
  · subst hk; rw [if_pos rfl, if_pos ⟨h, Nat.lt_succ_self _⟩]
  · rw [if_neg hk]
    show (if i0 ≤ k ∧ k < i then f k else c) = _
    by_cases h : i0 ≤ k ∧ k < i
    · rw [if_pos h, if_pos ⟨h.1, by omega⟩]
    · rw [if_neg h, if_neg (by omega)]
end Go.Proofs.Ytgejdfnidjnjcaa.Vc
namespace Go.Proofs.Ytgejdfnidjnjcaa.Vc
open Go.RowKit
set_option linter.unusedVariables false
set_option linter.unusedSimpArgs false
set_option maxRecDepth 20000
set_option linter.defProp false
theorem lo6 : okL 6 qm2 := qz (qi bd6) (by kernel_rfl) (by kernel_rfl)
def cx6 := JA_ @qm2.eq_1 (JA_ @Try.f6.eq_1 @bd6)
theorem qvs : okL 16 qfR := qz (qi qrb) (by kernel_rfl) (by kernel_rfl)
def qut := JA_ @qfR.eq_1 (JA_ @Try.f16.eq_1 @qrb)
theorem q1d : ev 16 0 [] [] = some (R.tup [R.c (C.d (D.sl 8 3 [D.int Go.IntKind.i64 1, D.str (ByteArray.mk (List.toArray [65, 49])), D.int Go.IntKind.i64 5, D.int Go.IntKind.i64 60, D.int Go.IntKind.i64 0, D.sl 1 0 [], D.int Go.IntKind.i64 0, D.sl 1 0 [], D.int Go.IntKind.i64 1, D.str (ByteArray.mk (List.toArray [66, 49])), D.int Go.IntKind.i64 6, D.int Go.IntKind.i64 90, D.int Go.IntKind.i64 0, D.sl 1 0 [], D.int Go.IntKind.i64 0, D.sl 1 0 [], D.int Go.IntKind.i64 1, D.str (ByteArray.mk (List.toArray [65, 49])), D.int Go.IntKind.i64 5, D.int Go.IntKind.i64 40, D.int Go.IntKind.i64 0, D.sl 1 0 [], D.int Go.IntKind.i64 0, D.sl 1 0 []])), R.agg [C.d (D.int Go.IntKind.i64 1), C.d (D.int Go.IntKind.i64 0), C.d (D.int Go.IntKind.i64 50), C.d (D.sl 2 1 [D.int Go.IntKind.i64 1, D.str (ByteArray.mk (List.toArray [65, 49]))]), C.d (D.sl 5 0 [])], R.agg [C.d (D.int Go.IntKind.i64 2), C.d (D.int Go.IntKind.i64 10), C.d (D.int Go.IntKind.i64 0), C.d (D.sl 2 2 [D.int Go.IntKind.i64 1, D.str (ByteArray.mk (List.toArray [65, 49])), D.int Go.IntKind.i64 1, D.str (ByteArray.mk (List.toArray [66, 49]))]), C.d (D.sl 5 0 [])]], []) :=
  by
    rw [qA qrb qtj.2.2.2 qvs]
    have := qut; exact gA
theorem lo9 : okL 9 qlL := qz (qi bd9) (by kernel_rfl) (by kernel_rfl)
def cx9 := JA_ @qlL.eq_1 (JA_ @Try.f9.eq_1 @bd9)
noncomputable def q3X (school : Int) : Option qd :=
  if (school == 2) = Bool.true then some (qd.mk 5 1 3)
  else if (school == 3) = Bool.true then some (qd.mk 0 20 10)
  else some (qd.mk 0 100 50)
noncomputable def qq (school : Int) : qd :=
  if (school == 2) = Bool.true then qd.mk 5 1 3
  else if (school == 3) = Bool.true then qd.mk 0 20 10
  else qd.mk 0 100 50
theorem q90 (school : Int) : q3X school = some (qq school) := by
  unfold q3X qq
  simp only [Qa]
theorem q2o : ∀ (school : Int), ev 9 0 [rI school] [] = some (R.agg [dI (qq school).Worst, dI (qq school).Best, dI (qq school).Pass], []) :=
  fun school => by
    have h : ev 9 0 [rI school] [] = (q3X school).bind (fun (e : qd) => some (R.agg [dI e.Worst, dI e.Best, dI e.Pass], [])) := by
      rw [qA bd9 pw9.2.2.2 lo9]
      have := cx9; have := @q3X.eq_1; exact gA
    rw [q90] at h
    exact h
theorem qrs : okL 11 qaX := qz (qi qmQ) (by kernel_rfl) (by kernel_rfl)
def qse := JA_ @qaX.eq_1 (JA_ @Try.f11.eq_1 @qmQ)
theorem qn0 : lbO 11 9 = qfJ := Qj (qi qmQ) rfl
theorem qpi : okL 11 qfJ := zp qrs (List.mem_of_getElem? (i := 0) (by kernel_rfl))
theorem qlg : lbO 11 14 = qbz := Qj (qi qmQ) rfl
theorem qkg : okL 11 qbz := zp qrs (List.mem_of_getElem? (i := 1) (by kernel_rfl))
theorem qw0 : okL 10 qfk := qz (qi qrz) (by kernel_rfl) (by kernel_rfl)
def qul := JA_ @qfk.eq_1 (JA_ @Try.f10.eq_1 @qrz)
theorem qtl : okL 21 qdd := qz (qi qql) (by kernel_rfl) (by kernel_rfl)
def qtQ := JA_ @qdd.eq_1 (JA_ @Try.f21.eq_1 @qql)
theorem qpJ : lbO 21 6 = qg1 := Qj (qi qql) rfl
theorem qna : okL 21 qg1 := zp qtl (List.mem_of_getElem? (i := 0) (by kernel_rfl))
theorem qsE : okL 35 qaK := qz (qi qmR) (by kernel_rfl) (by kernel_rfl)
def qqC := JA_ @qaK.eq_1 (JA_ @Try.f35.eq_1 @qmR)
theorem qev : raO 35 4 = q8J := qpv (qi qmR) rfl
theorem qcP : rbO 35 4 = q71 := qmU (qi qmR) rfl
theorem qcQ : okL 35 q8J ∧ okL 35 q71 := qnl (key := 0) (q := (q8J, q71)) qsE (List.mem_of_getElem? (i := 0) (by kernel_rfl))
theorem qel : qP (rbO 35 4) = 4 := by rw [qcP]; exact qpo
theorem qjL : ∀ k s, XE2 evo 35 k (raO 35 4) s = XE2 evo 35 k q8J s := fun _ _ => by rw [qev]
theorem qjv : ∀ k s, XE2 evo 35 k (rbO 35 4) s = XE2 evo 35 k q71 s := fun _ _ => by rw [qcP]
theorem qwd : okL 52 qf7 := qz (qi qrt) (by kernel_rfl) (by kernel_rfl)
def qwa := JA_ @qf7.eq_1 (JA_ @Try.f52.eq_1 @qrt)
noncomputable def q1b (n : qb) : Option Unit :=
  some ()
noncomputable def q4j (n : qb) : Unit :=
  ()
theorem q7b (n : qb) : q1b n = some (q4j n) := by
  unfold q1b q4j
  simp only [Qa]
theorem q8E : ∀ (n_Kind n_N n_Min : Int) (n_Set : List qc) (n_L : List qb), ev 52 0 [R.agg [dI n_Kind, dI n_N, dI n_Min, dL 2 qe n_Set, dL 5 qg n_L]] [] = some (R.c (C.fn 68 [] [dP 0]), [(0, B.blk 31 [dI n_Kind, dI n_N, dI n_Min, dL 2 qe n_Set, dL 5 qg n_L])]) :=
  fun n_Kind n_N n_Min n_Set n_L => by
    have h : ev 52 0 [R.agg [dI n_Kind, dI n_N, dI n_Min, dL 2 qe n_Set, dL 5 qg n_L]] [] = (q1b (qb.mk n_Kind n_N n_Min n_Set n_L)).bind (fun (e : Unit) => some (R.c (C.fn 68 [] [dP 0]), [(0, B.blk 31 [dI n_Kind, dI n_N, dI n_Min, dL 2 qe n_Set, dL 5 qg n_L])])) := by
      rw [qA qrt qsw.2.2.2 qwd]
      have := qwa; have := @q1b.eq_1; exact gA
    rw [q7b] at h
    exact h
theorem qux : okL 68 qec := qz (qi qrc) (by kernel_rfl) (by kernel_rfl)
def qvv := JA_ @qec.eq_1 (JA_ @Try.f68.eq_1 @qrc)
theorem qqT : okL 69 qd6 := qz (qi qoU) (by kernel_rfl) (by kernel_rfl)
def qpS := JA_ @qd6.eq_1 (JA_ @Try.f69.eq_1 @qoU)
theorem qjK : lbO 69 4 = qd0 := Qj (qi qoU) rfl
theorem qjQ : okL 69 qd0 := zp qqT (List.mem_of_getElem? (i := 0) (by kernel_rfl))
noncomputable def J7 (t9 : Int) (t10 : Int) (t102 : Int) (t103 : Int) (t104 : List qc) (t105 : List qb) (deepest : Int) (ok : Bool) : Option (Unit ⊕ (List qb × Int)) :=
  if 100 < t9 then some (Sum.inl ())
  else if 1 ≤ Go.maxLen then some (Sum.inr ([qb.mk t10 t102 t103 t104 t105], max deepest t9))
  else none
theorem q6L : ∀ (t9 t10 t102 t103 : Int) (t104 : List qc) (t105 : List qb) (deepest : Int) (ok : Bool), evr 35 (raO 35 4) (rbO 35 4) 4 [R.any, R.any, rP 0, rP 1, rP 2, R.any, R.any, R.any, R.any, rI t9, R.agg [dI t10, dI t102, dI t103, dL 2 qe t104, dL 5 qg t105], R.any, R.any, R.any, R.any, R.any, R.any, R.any, R.any, R.any, R.any, R.any, R.any, R.any, R.any, R.any, R.any] [(0, B.blk 29 [C.nils]), (1, B.blk 3 [dI deepest]), (2, B.blk 4 [dB ok]), (3, B.ob (AO.lp 35 (R.any :: R.any :: rP 0 :: rP 1 :: rP 2 :: q4D) [9, 10] (raO 35 4) (rbO 35 4) Go.LoopState.ready none))] = (J7 t9 t10 t102 t103 t104 t105 deepest ok).bind (Sum.elim (fun (e : Unit) => some (rB Bool.false, [(0, B.blk 29 [C.nils]), (1, B.blk 3 [dI 0]), (2, B.blk 4 [dB Bool.false]), (3, B.ob (AO.lp 35 (R.any :: R.any :: rP 0 :: rP 1 :: rP 2 :: q4D) [9, 10] (raO 35 4) (rbO 35 4) Go.LoopState.done (some Go.Code.ret)))])) (fun (e : List qb × Int) => some (rB Bool.true, [(0, B.blk 29 [dO 4 5 e.1.length]), (1, B.blk 3 [dI e.2]), (2, B.blk 4 [dB ok]), (3, B.ob (AO.lp 35 (R.any :: R.any :: rP 0 :: rP 1 :: rP 2 :: q4D) [9, 10] (raO 35 4) (rbO 35 4) Go.LoopState.ready none)), (4, bR 31 5 qg e.1)]))) :=
  fun t9 t10 t102 t103 t104 t105 deepest ok => by
    rw [qeA qev qcP (by decide) qjT qcQ.1 qcQ.2]
    have := qqC; have := @qjL; have := @qjv; have := @q8J.eq_1; have := @q71.eq_1; have := @J7.eq_1; have := @qel; exact gA
noncomputable def Zu (t9 : Int) (t10 : Int) (t102 : Int) (t103 : Int) (t104 : List qc) (t105 : List qb) (w4 : List qb) (deepest : Int) (ok : Bool) : Option (Unit ⊕ (List qb × Int)) :=
  if 100 < t9 then some (Sum.inl ())
  else if (((w4.length : Nat) : Int) == 10000) = Bool.true then some (Sum.inl ())
  else if w4.length + 1 ≤ Go.maxLen ∧ (w4.length + 1) * 72 ≤ 140737488355328 then some (Sum.inr (w4 ++ [qb.mk t10 t102 t103 t104 t105], max deepest t9))
  else none
theorem q4X : ∀ (t9 t10 t102 t103 : Int) (t104 : List qc) (t105 w4 : List qb) (deepest : Int) (ok : Bool) (w4_len : Nat), w4_len = w4.length → evr 35 (raO 35 4) (rbO 35 4) 4 [R.any, R.any, rP 0, rP 1, rP 2, R.any, R.any, R.any, R.any, rI t9, R.agg [dI t10, dI t102, dI t103, dL 2 qe t104, dL 5 qg t105], R.any, R.any, R.any, R.any, R.any, R.any, R.any, R.any, R.any, R.any, R.any, R.any, R.any, R.any, R.any, R.any] [(0, B.blk 29 [dO 4 5 w4_len]), (1, B.blk 3 [dI deepest]), (2, B.blk 4 [dB ok]), (3, B.ob (AO.lp 35 (R.any :: R.any :: rP 0 :: rP 1 :: rP 2 :: q4D) [9, 10] (raO 35 4) (rbO 35 4) Go.LoopState.ready none)), (4, bR 31 5 qg w4)] = (Zu t9 t10 t102 t103 t104 t105 w4 deepest ok).bind (Sum.elim (fun (e : Unit) => some (rB Bool.false, [(0, B.blk 29 [C.nils]), (1, B.blk 3 [dI 0]), (2, B.blk 4 [dB Bool.false]), (3, B.ob (AO.lp 35 (R.any :: R.any :: rP 0 :: rP 1 :: rP 2 :: q4D) [9, 10] (raO 35 4) (rbO 35 4) Go.LoopState.done (some Go.Code.ret)))])) (fun (e : List qb × Int) => some (rB Bool.true, [(0, B.blk 29 [dO 4 5 e.1.length]), (1, B.blk 3 [dI e.2]), (2, B.blk 4 [dB ok]), (3, B.ob (AO.lp 35 (R.any :: R.any :: rP 0 :: rP 1 :: rP 2 :: q4D) [9, 10] (raO 35 4) (rbO 35 4) Go.LoopState.ready none)), (4, bR 31 5 qg e.1)]))) :=
  by
  intro t9 t10 t102 t103 t104 t105 w4 deepest ok w4_len h0
  subst h0
  rw [qeA qev qcP (by decide) qjT qcQ.1 qcQ.2]
  have := qqC; have := @qjL; have := @qjv; have := @q8J.eq_1; have := @q71.eq_1; have := @Zu.eq_1; have := @qel; exact gA
noncomputable def Qd (x : (qb × Int × List qb × Int × Bool)) : List R × List (Nat × B) := ([R.agg [C.d (D.int .i64 x.1.Kind), C.d (D.int .i64 x.1.N), C.d (D.int .i64 x.1.Min), C.d (D.sl 2 x.1.Set.length (x.1.Set.flatMap qe)), C.d (D.sl 5 x.1.L.length (x.1.L.flatMap qg))], R.c (C.d (D.int .i64 x.2.1)), R.c (C.hd .yield 0)], [(0, B.ob (AO.lp 35 [R.any, R.any, R.c (C.ptr 1 0), R.c (C.ptr 2 0), R.c (C.ptr 3 0), R.any, R.any, R.any, R.any, R.any, R.any, R.any, R.any, R.any, R.any, R.any, R.any, R.any, R.any, R.any, R.any, R.any, R.any, R.any, R.any, R.any, R.any] [9, 10] (raO 35 4) (rbO 35 4) Go.LoopState.ready none)), (1, B.blk 29 [C.own 4 5 0 x.2.2.1.length]), (2, B.blk 3 [C.d (D.int .i64 x.2.2.2.1)]), (3, B.blk 4 [C.d (D.bool x.2.2.2.2)]), (4, B.row 31 5 ((x.2.2.1.flatMap qg).map C.d))])
noncomputable def Qz : (Int ⊕ (List qb × Int × Bool)) → R × List (Nat × B) := Sum.elim (fun (e : Int) => (R.c (C.d (D.bool Bool.false)), [(0, B.ob (AO.lp 35 [R.any, R.any, R.c (C.ptr 1 0), R.c (C.ptr 2 0), R.c (C.ptr 3 0), R.any, R.any, R.any, R.any, R.any, R.any, R.any, R.any, R.any, R.any, R.any, R.any, R.any, R.any, R.any, R.any, R.any, R.any, R.any, R.any, R.any, R.any] [9, 10] (raO 35 4) (rbO 35 4) Go.LoopState.done (some Go.Code.ret))), (1, B.blk 29 [C.nils]), (2, B.blk 3 [C.d (D.int .i64 e)]), (3, B.blk 4 [C.d (D.bool Bool.false)])])) (fun (e : List qb × Int × Bool) => (R.c (C.d (D.bool Bool.true)), [(0, B.ob (AO.lp 35 [R.any, R.any, R.c (C.ptr 1 0), R.c (C.ptr 2 0), R.c (C.ptr 3 0), R.any, R.any, R.any, R.any, R.any, R.any, R.any, R.any, R.any, R.any, R.any, R.any, R.any, R.any, R.any, R.any, R.any, R.any, R.any, R.any, R.any, R.any] [9, 10] (raO 35 4) (rbO 35 4) Go.LoopState.ready none)), (1, B.blk 29 [C.own 4 5 0 e.1.length]), (2, B.blk 3 [C.d (D.int .i64 e.2.1)]), (3, B.blk 4 [C.d (D.bool e.2.2)]), (4, B.row 31 5 ((e.1.flatMap qg).map C.d))]))
noncomputable def Qv (rF : (qb × Int × List qb × Int × Bool) → Option (Int ⊕ (List qb × Int × Bool))) (deep : Int) (t15 : List qb) (t16 : Int) : (List qb × Int × Bool × Int) → Option ((List qb × Int × Bool × Int) ⊕ (Int ⊕ (List qb × Int × Bool)))
  | (w4, b2, b3, t17) =>
    if t17 < t16 then if 0 ≤ t17 ∧ t17 < ((t15.length : Nat) : Int) then Option.bind t15[Int.toNat t17]? fun (a2 : qb) =>
        Option.bind (rF (a2, (w64 (deep + 1), (w4, (b2, b3))))) fun (a3 : Sum Int (Prod (List qb) (Prod Int Bool))) =>
        Sum.elim (fun (a4 : Int) => some (Sum.inr (Sum.inl a4))) (fun (a5 : Prod (List qb) (Prod Int Bool)) => some (Sum.inl (a5.1, a5.2.1, a5.2.2, w64 (t17 + 1)))) a3
      else none
    else some (Sum.inr (Sum.inr (w4, b2, b3)))
theorem q3I (rE : Orc) (rF : (qb × Int × List qb × Int × Bool) → Option (Int ⊕ (List qb × Int × Bool))) (hF : ∀ y, rE (.fn 69) 4 (Qd y).1 (Qd y).2 = (rF y).bind fun e => some (Qz e)) (hM : ∀ g k a G, g ≠ 69 → rE (.fn g) k a G = ev g k a G) (hR : ∀ g asg bd k a G, rE (.rd g asg bd) k a G = evr g asg bd k a G) : ∀ (w4 : List qb) (b2 : Int) (b3 : Bool) (deep : Int) (t15 : List qb) (t16 t17 : Int) (w4_len : Nat), w4_len = w4.length → XL2 rE 69 4 4 ⟨[(1, rI deep), (2, R.c (C.hd .yield 0)), (15, rL 5 qg t15), (16, rI t16), (17, rI t17)], [(0, B.ob (AO.lp 35 (R.any :: R.any :: rP 1 :: rP 2 :: rP 3 :: q4D) [9, 10] (raO 35 4) (rbO 35 4) Go.LoopState.ready none)), (1, B.blk 29 [dO 4 5 w4_len]), (2, B.blk 3 [dI b2]), (3, B.blk 4 [dB b3]), (4, bR 31 5 qg w4)], 5, 28⟩ = (qQ (Qv rF deep t15 t16) (w4, b2, b3, t17)).bind (Sum.elim (fun (e : Int) => some (Go.Exit.ret, ⟨[(6, rB Bool.false)], [(0, B.ob (AO.lp 35 (R.any :: R.any :: rP 1 :: rP 2 :: rP 3 :: q4D) [9, 10] (raO 35 4) (rbO 35 4) Go.LoopState.done (some Go.Code.ret))), (1, B.blk 29 [C.nils]), (2, B.blk 3 [dI e]), (3, B.blk 4 [dB Bool.false])], 4, 28⟩)) (fun (e : List qb × Int × Bool) => some (Go.Exit.exit 0, ⟨[(6, R.any)], [(0, B.ob (AO.lp 35 (R.any :: R.any :: rP 1 :: rP 2 :: rP 3 :: q4D) [9, 10] (raO 35 4) (rbO 35 4) Go.LoopState.ready none)), (1, B.blk 29 [dO 4 5 e.1.length]), (2, B.blk 3 [dI e.2.1]), (3, B.blk 4 [dB e.2.2]), (4, bR 31 5 qg e.1)], 5, 28⟩))) :=
  by
  intro w4 b2 b3 deep t15 t16 t17 w4_len h0
  subst h0
  revert t17; revert b3; revert b2; revert w4; exact qtu qjK qjQ (fun e => by rcases e with _ | _ <;> exact ⟨_, rfl, fun h => by cases h⟩) fun w4 b2 b3 t17 => by
    have hF' : ∀ (n_Kind n_N n_Min : Int) (n_Set : List qc) (n_L : List qb) (deep : Int) (w4 : List qb) (b2 : Int) (b3 : Bool) (w4_len : Nat), w4_len = w4.length → rE (.fn 69) 4 [R.agg [dI n_Kind, dI n_N, dI n_Min, dL 2 qe n_Set, dL 5 qg n_L], rI deep, R.c (C.hd .yield 0)] [(0, B.ob (AO.lp 35 (R.any :: R.any :: rP 1 :: rP 2 :: rP 3 :: q4D) [9, 10] (raO 35 4) (rbO 35 4) Go.LoopState.ready none)), (1, B.blk 29 [dO 4 5 w4_len]), (2, B.blk 3 [dI b2]), (3, B.blk 4 [dB b3]), (4, bR 31 5 qg w4)] = (rF ((qb.mk n_Kind n_N n_Min n_Set n_L), deep, w4, b2, b3)).bind (Sum.elim (fun (e : Int) => some (rB Bool.false, [(0, B.ob (AO.lp 35 (R.any :: R.any :: rP 1 :: rP 2 :: rP 3 :: q4D) [9, 10] (raO 35 4) (rbO 35 4) Go.LoopState.done (some Go.Code.ret))), (1, B.blk 29 [C.nils]), (2, B.blk 3 [dI e]), (3, B.blk 4 [dB Bool.false])])) (fun (e : List qb × Int × Bool) => some (rB Bool.true, [(0, B.ob (AO.lp 35 (R.any :: R.any :: rP 1 :: rP 2 :: rP 3 :: q4D) [9, 10] (raO 35 4) (rbO 35 4) Go.LoopState.ready none)), (1, B.blk 29 [dO 4 5 e.1.length]), (2, B.blk 3 [dI e.2.1]), (3, B.blk 4 [dB e.2.2]), (4, bR 31 5 qg e.1)]))) := by intro n_Kind n_N n_Min n_Set n_L deep w4 b2 b3 w4_len h0; subst h0; exact (hF ((qb.mk n_Kind n_N n_Min n_Set n_L), deep, w4, b2, b3)).trans (by congr 1; funext e; rcases e with _ | _ <;> rfl)
    have := qpS; have := @qd0.eq_1; have := @Qv.eq_1; exact gA
noncomputable def JO (fu : Nat) (rF : (qb × Int × List qb × Int × Bool) → Option (Int ⊕ (List qb × Int × Bool))) (deep : Int) (t15 : List qb) (t16 : Int) : (List qb × Int × Bool × Int) → Option ((List qb × Int × Bool × Int) ⊕ (Int ⊕ (List qb × Int × Bool)))
  | (w4, b2, b3, t17) =>
    if t17 < t16 then if 0 ≤ t17 ∧ t17 < ((t15.length : Nat) : Int) then Option.bind t15[Int.toNat t17]? fun (a2 : qb) =>
        Option.bind (rF (a2, (w64 (deep + 1), (w4, (b2, b3))))) fun (a3 : Sum Int (Prod (List qb) (Prod Int Bool))) =>
        Sum.elim (fun (a4 : Int) => some (Sum.inr (Sum.inl a4))) (fun (a5 : Prod (List qb) (Prod Int Bool)) => some (Sum.inl (a5.1, a5.2.1, a5.2.2, w64 (t17 + 1)))) a3
      else none
    else some (Sum.inr (Sum.inr (w4, b2, b3)))
theorem q3C (fu : Nat) (rF rF2 : (qb × Int × List qb × Int × Bool) → Option (Int ⊕ (List qb × Int × Bool))) (hF : ∀ y, qk (rF y) (rF2 y)) (deep : Int) (t15 : List qb) (t16 : Int) : ∀ x, qk (JO fu rF deep t15 t16 x) (Qv rF2 deep t15 t16 x) := by
  rintro ⟨w4, b2, b3, t17⟩
  unfold JO Qv
  try dsimp only
  repeat (first
    | with_reducible exact qk.refl _
    | with_reducible exact qk.none _
    | exact hF _
    | with_reducible refine qk.bind ?_ (fun _ => ?_)
    | with_reducible refine qk.ite ?_ ?_
    | with_reducible refine qk.sum (fun _ => ?_) (fun _ => ?_)
    | with_reducible refine qk.lim (fun _ => ?_))
noncomputable def Qs (rF : (qb × Int × List qb × Int × Bool) → Option (Int ⊕ (List qb × Int × Bool))) : (qb × Int × List qb × Int × Bool) → Option (Int ⊕ (List qb × Int × Bool))
  | (n, deep, w4, b2, b3) =>
    Option.bind (Zu deep n.Kind n.N n.Min n.Set n.L w4 b2 b3) fun (a2 : Sum Unit (Prod (List qb) Int)) =>
    Sum.elim (fun (a3 : Unit) => some (Sum.inl 0)) (fun (a4 : Prod (List qb) Int) => Option.bind (qQ (Qv rF deep n.L ((n.L.length : Nat) : Int)) (a4.1, (a4.2, (b3, 0)))) fun (a5 : Sum Int (Prod (List qb) (Prod Int Bool))) =>
      Sum.elim (fun (a6 : Int) => some (Sum.inl a6)) (fun (a7 : Prod (List qb) (Prod Int Bool)) => some (Sum.inr (a7.1, a7.2.1, a7.2.2))) a5) a2
theorem q2r : q4n 69 4 Qd Qz Qs := by
  intro rE rF hF hM hR x
  obtain ⟨n, deep, w4, b2, b3⟩ := x
  show q6a rE 69 4 [R.agg [dI n.Kind, dI n.N, dI n.Min, dL 2 qe n.Set, dL 5 qg n.L], rI deep, R.c (C.hd .yield 0)] [(0, B.ob (AO.lp 35 (R.any :: R.any :: rP 1 :: rP 2 :: rP 3 :: q4D) [9, 10] (raO 35 4) (rbO 35 4) Go.LoopState.ready none)), (1, B.blk 29 [dO 4 5 w4.length]), (2, B.blk 3 [dI b2]), (3, B.blk 4 [dB b3]), (4, bR 31 5 qg w4)] = _
  have hF' : ∀ (n_Kind n_N n_Min : Int) (n_Set : List qc) (n_L : List qb) (deep : Int) (w4 : List qb) (b2 : Int) (b3 : Bool) (w4_len : Nat), w4_len = w4.length → rE (.fn 69) 4 [R.agg [dI n_Kind, dI n_N, dI n_Min, dL 2 qe n_Set, dL 5 qg n_L], rI deep, R.c (C.hd .yield 0)] [(0, B.ob (AO.lp 35 (R.any :: R.any :: rP 1 :: rP 2 :: rP 3 :: q4D) [9, 10] (raO 35 4) (rbO 35 4) Go.LoopState.ready none)), (1, B.blk 29 [dO 4 5 w4_len]), (2, B.blk 3 [dI b2]), (3, B.blk 4 [dB b3]), (4, bR 31 5 qg w4)] = (rF ((qb.mk n_Kind n_N n_Min n_Set n_L), deep, w4, b2, b3)).bind (Sum.elim (fun (e : Int) => some (rB Bool.false, [(0, B.ob (AO.lp 35 (R.any :: R.any :: rP 1 :: rP 2 :: rP 3 :: q4D) [9, 10] (raO 35 4) (rbO 35 4) Go.LoopState.done (some Go.Code.ret))), (1, B.blk 29 [C.nils]), (2, B.blk 3 [dI e]), (3, B.blk 4 [dB Bool.false])])) (fun (e : List qb × Int × Bool) => some (rB Bool.true, [(0, B.ob (AO.lp 35 (R.any :: R.any :: rP 1 :: rP 2 :: rP 3 :: q4D) [9, 10] (raO 35 4) (rbO 35 4) Go.LoopState.ready none)), (1, B.blk 29 [dO 4 5 e.1.length]), (2, B.blk 3 [dI e.2.1]), (3, B.blk 4 [dB e.2.2]), (4, bR 31 5 qg e.1)]))) := by intro n_Kind n_N n_Min n_Set n_L deep w4 b2 b3 w4_len h0; subst h0; exact (hF ((qb.mk n_Kind n_N n_Min n_Set n_L), deep, w4, b2, b3)).trans (by congr 1; funext e; rcases e with _ | _ <;> rfl)
  rw [q1h qoU qqT]
  have := qpS; have := @q4X; have := q3I rE rF hF hM hR; have := @Qs.eq_1; have := @Qz.eq_1; exact gA
theorem q0I : ∀ x y, Qd x = Qd y → x = y := by
  rintro ⟨⟨a0_0, a0_1, a0_2, a0_3, a0_4⟩, a1, a2, a3, a4⟩ ⟨⟨b0_0, b0_1, b0_2, b0_3, b0_4⟩, b1, b2, b3, b4⟩ h
  simp only [Qd, Prod.mk.injEq, List.cons.injEq, R.c.injEq, R.agg.injEq, R.tup.injEq, C.d.injEq, C.own.injEq, C.ptr.injEq, C.eptr.injEq, D.int.injEq, D.bool.injEq, D.str.injEq, D.sl.injEq, B.blk.injEq, B.row.injEq, ZD, JY, ZK, J4, Jm, q0W, ZG, q1j, true_and, and_true, List.nil_append] at h
  simp only [h]
theorem q4M : ∀ x y, Qz x = Qz y → x = y := by
  rintro (a0 | ⟨a1_0, a1_1, a1_2⟩) (b0 | ⟨b1_0, b1_1, b1_2⟩) h <;> simp only [Sum.elim_inl, Sum.elim_inr, Qz, Prod.mk.injEq, List.cons.injEq, R.c.injEq, R.agg.injEq, R.tup.injEq, C.d.injEq, C.own.injEq, C.ptr.injEq, C.eptr.injEq, D.int.injEq, D.bool.injEq, D.str.injEq, D.sl.injEq, B.blk.injEq, B.row.injEq, ZD, JY, ZK, J4, Jm, q0W, ZG, q1j, true_and, and_true, List.nil_append, reduceCtorEq, false_and, and_false] at h <;> simp only [h]
noncomputable def Qn : (qb × Int × List qb × Int × Bool) → Option (Int ⊕ (List qb × Int × Bool)) := q4N 69 4 Qd Qz
theorem q2v (x : (qb × Int × List qb × Int × Bool)) : Qn x = Qs Qn x := q8p qqi.2.2.2 q0I q4M q2r x
theorem q6k (n : qb) (deep : Int) (w4 : List qb) (b2 : Int) (b3 : Bool) : ev 69 4 [R.agg [dI n.Kind, dI n.N, dI n.Min, dL 2 qe n.Set, dL 5 qg n.L], rI deep, R.c (C.hd .yield 0)] [(0, B.ob (AO.lp 35 (R.any :: R.any :: rP 1 :: rP 2 :: rP 3 :: q4D) [9, 10] (raO 35 4) (rbO 35 4) Go.LoopState.ready none)), (1, B.blk 29 [dO 4 5 w4.length]), (2, B.blk 3 [dI b2]), (3, B.blk 4 [dB b3]), (4, bR 31 5 qg w4)] = (Qn (n, deep, w4, b2, b3)).bind (Sum.elim (fun (e : Int) => some (rB Bool.false, [(0, B.ob (AO.lp 35 (R.any :: R.any :: rP 1 :: rP 2 :: rP 3 :: q4D) [9, 10] (raO 35 4) (rbO 35 4) Go.LoopState.done (some Go.Code.ret))), (1, B.blk 29 [C.nils]), (2, B.blk 3 [dI e]), (3, B.blk 4 [dB Bool.false])])) (fun (e : List qb × Int × Bool) => some (rB Bool.true, [(0, B.ob (AO.lp 35 (R.any :: R.any :: rP 1 :: rP 2 :: rP 3 :: q4D) [9, 10] (raO 35 4) (rbO 35 4) Go.LoopState.ready none)), (1, B.blk 29 [dO 4 5 e.1.length]), (2, B.blk 3 [dI e.2.1]), (3, B.blk 4 [dB e.2.2]), (4, bR 31 5 qg e.1)]))) := (q5W qqi.2.2.2 q0I q2r (n, deep, w4, b2, b3)).trans (by congr 1; funext e; rcases e with _ | _ <;> rfl)
theorem q7H : ∀ (n_Kind n_N n_Min : Int) (n_Set : List qc) (n_L : List qb) (deep : Int) (w4 : List qb) (b2 : Int) (b3 : Bool) (w4_len : Nat), w4_len = w4.length → ev 69 4 [R.agg [dI n_Kind, dI n_N, dI n_Min, dL 2 qe n_Set, dL 5 qg n_L], rI deep, R.c (C.hd .yield 0)] [(0, B.ob (AO.lp 35 (R.any :: R.any :: rP 1 :: rP 2 :: rP 3 :: q4D) [9, 10] (raO 35 4) (rbO 35 4) Go.LoopState.ready none)), (1, B.blk 29 [dO 4 5 w4_len]), (2, B.blk 3 [dI b2]), (3, B.blk 4 [dB b3]), (4, bR 31 5 qg w4)] = (Qn ((qb.mk n_Kind n_N n_Min n_Set n_L), deep, w4, b2, b3)).bind (Sum.elim (fun (e : Int) => some (rB Bool.false, [(0, B.ob (AO.lp 35 (R.any :: R.any :: rP 1 :: rP 2 :: rP 3 :: q4D) [9, 10] (raO 35 4) (rbO 35 4) Go.LoopState.done (some Go.Code.ret))), (1, B.blk 29 [C.nils]), (2, B.blk 3 [dI e]), (3, B.blk 4 [dB Bool.false])])) (fun (e : List qb × Int × Bool) => some (rB Bool.true, [(0, B.ob (AO.lp 35 (R.any :: R.any :: rP 1 :: rP 2 :: rP 3 :: q4D) [9, 10] (raO 35 4) (rbO 35 4) Go.LoopState.ready none)), (1, B.blk 29 [dO 4 5 e.1.length]), (2, B.blk 3 [dI e.2.1]), (3, B.blk 4 [dB e.2.2]), (4, bR 31 5 qg e.1)]))) :=
  by
  intro n_Kind n_N n_Min n_Set n_L deep w4 b2 b3 w4_len h0
  subst h0
  exact q6k (qb.mk n_Kind n_N n_Min n_Set n_L) deep w4 b2 b3
noncomputable def JS (fu : Nat) (rF : (qb × Int × List qb × Int × Bool) → Option (Int ⊕ (List qb × Int × Bool))) : (qb × Int × List qb × Int × Bool) → Option (Int ⊕ (List qb × Int × Bool))
  | (n, deep, w4, b2, b3) =>
    Option.bind (Zu deep n.Kind n.N n.Min n.Set n.L w4 b2 b3) fun (a2 : Sum Unit (Prod (List qb) Int)) =>
    Sum.elim (fun (a3 : Unit) => some (Sum.inl 0)) (fun (a4 : Prod (List qb) Int) => Option.bind (itT (JO fu rF deep n.L ((n.L.length : Nat) : Int)) fu (a4.1, (a4.2, (b3, 0)))) fun (a5 : Sum Int (Prod (List qb) (Prod Int Bool))) =>
      Sum.elim (fun (a6 : Int) => some (Sum.inl a6)) (fun (a7 : Prod (List qb) (Prod Int Bool)) => some (Sum.inr (a7.1, a7.2.1, a7.2.2))) a5) a2
theorem q3g (fu : Nat) (rF rF2 : (qb × Int × List qb × Int × Bool) → Option (Int ⊕ (List qb × Int × Bool))) (hF : ∀ y, qk (rF y) (rF2 y)) : ∀ x, qk (JS fu rF x) (Qs rF2 x) := by
  rintro ⟨n, deep, w4, b2, b3⟩
  unfold JS Qs
  try dsimp only
  repeat (first
    | with_reducible exact qk.refl _
    | with_reducible exact qk.none _
    | exact hF _
    | (with_reducible refine q3C _ _ _ hF ..)
    | with_reducible refine qk.bind ?_ (fun _ => ?_)
    | with_reducible refine qk.ite ?_ ?_
    | with_reducible refine qk.sum (fun _ => ?_) (fun _ => ?_)
    | with_reducible refine qk.lim (fun _ => ?_))
noncomputable def q5f (fu : Nat) (x : (qb × Int × List qb × Int × Bool)) : Option (Int ⊕ (List qb × Int × Bool)) := itR (JS fu) fu x
theorem q7i (fu : Nat) (x : (qb × Int × List qb × Int × Bool)) : qk (q5f fu x) (Qn x) := qk.rec q2v (q3g fu) fu x
noncomputable def Zy (deep : Int) (t15 : List qb) (t16 : Int) : (List qb × Int × Bool × Int) → Option ((List qb × Int × Bool × Int) ⊕ (Int ⊕ (List qb × Int × Bool)))
  | (w4, b2, b3, t17) =>
    if t17 < t16 then if 0 ≤ t17 ∧ t17 < ((t15.length : Nat) : Int) then Option.bind t15[Int.toNat t17]? fun (a : qb) =>
        Option.bind (Qn (a, (w64 (deep + 1), (w4, (b2, b3))))) fun (a2 : Sum Int (Prod (List qb) (Prod Int Bool))) =>
        Sum.elim (fun (a3 : Int) => some (Sum.inr (Sum.inl a3))) (fun (a4 : Prod (List qb) (Prod Int Bool)) => some (Sum.inl (a4.1, a4.2.1, a4.2.2, w64 (t17 + 1)))) a2
      else none
    else some (Sum.inr (Sum.inr (w4, b2, b3)))
theorem q6i : ∀ (w4 : List qb) (b2 : Int) (b3 : Bool) (deep : Int) (t15 : List qb) (t16 t17 : Int) (w4_len : Nat), w4_len = w4.length → XL2 evo 69 4 4 ⟨[(1, rI deep), (2, R.c (C.hd .yield 0)), (15, rL 5 qg t15), (16, rI t16), (17, rI t17)], [(0, B.ob (AO.lp 35 (R.any :: R.any :: rP 1 :: rP 2 :: rP 3 :: q4D) [9, 10] (raO 35 4) (rbO 35 4) Go.LoopState.ready none)), (1, B.blk 29 [dO 4 5 w4_len]), (2, B.blk 3 [dI b2]), (3, B.blk 4 [dB b3]), (4, bR 31 5 qg w4)], 5, 28⟩ = (qQ (Zy deep t15 t16) (w4, b2, b3, t17)).bind (Sum.elim (fun (e : Int) => some (Go.Exit.ret, ⟨[(6, rB Bool.false)], [(0, B.ob (AO.lp 35 (R.any :: R.any :: rP 1 :: rP 2 :: rP 3 :: q4D) [9, 10] (raO 35 4) (rbO 35 4) Go.LoopState.done (some Go.Code.ret))), (1, B.blk 29 [C.nils]), (2, B.blk 3 [dI e]), (3, B.blk 4 [dB Bool.false])], 4, 28⟩)) (fun (e : List qb × Int × Bool) => some (Go.Exit.exit 0, ⟨[(6, R.any)], [(0, B.ob (AO.lp 35 (R.any :: R.any :: rP 1 :: rP 2 :: rP 3 :: q4D) [9, 10] (raO 35 4) (rbO 35 4) Go.LoopState.ready none)), (1, B.blk 29 [dO 4 5 e.1.length]), (2, B.blk 3 [dI e.2.1]), (3, B.blk 4 [dB e.2.2]), (4, bR 31 5 qg e.1)], 5, 28⟩))) :=
  by
  intro w4 b2 b3 deep t15 t16 t17 w4_len h0
  subst h0
  revert t17; revert b3; revert b2; revert w4; exact qtu qjK qjQ (fun e => by rcases e with _ | _ <;> exact ⟨_, rfl, fun h => by cases h⟩) fun w4 b2 b3 t17 => by
    have := qpS; have := @qd0.eq_1; have := @q7H; have := @Zy.eq_1; exact gA
noncomputable def q1y (fu : Nat) (deep : Int) (t15 : List qb) (t16 : Int) : (List qb × Int × Bool × Int) → Option ((List qb × Int × Bool × Int) ⊕ (Int ⊕ (List qb × Int × Bool)))
  | (w4, b2, b3, t17) =>
    if t17 < t16 then if 0 ≤ t17 ∧ t17 < ((t15.length : Nat) : Int) then Option.bind t15[Int.toNat t17]? fun (a : qb) =>
        Option.bind (q5f fu (a, (w64 (deep + 1), (w4, (b2, b3))))) fun (a2 : Sum Int (Prod (List qb) (Prod Int Bool))) =>
        Sum.elim (fun (a3 : Int) => some (Sum.inr (Sum.inl a3))) (fun (a4 : Prod (List qb) (Prod Int Bool)) => some (Sum.inl (a4.1, a4.2.1, a4.2.2, w64 (t17 + 1)))) a2
      else none
    else some (Sum.inr (Sum.inr (w4, b2, b3)))
theorem q6E (fu : Nat) (deep : Int) (t15 : List qb) (t16 : Int) : ∀ x, qk (q1y fu deep t15 t16 x) (Zy deep t15 t16 x) := by
  rintro ⟨w4, b2, b3, t17⟩
  unfold q1y Zy
  try dsimp only
  repeat (first
    | with_reducible exact qk.refl _
    | with_reducible exact qk.none _
    | with_reducible apply q7i
    | with_reducible refine qk.bind ?_ (fun _ => ?_)
    | with_reducible refine qk.ite ?_ ?_
    | with_reducible refine qk.sum (fun _ => ?_) (fun _ => ?_)
    | with_reducible refine qk.lim (fun _ => ?_))
noncomputable def q06 (n : qb) (deep : Int) (b2 : Int) (b3 : Bool) : Option (Int ⊕ (List qb × Int × Bool)) :=
  Option.bind (J7 deep n.Kind n.N n.Min n.Set n.L b2 b3) fun (a : Sum Unit (Prod (List qb) Int)) =>
  Sum.elim (fun (a2 : Unit) => some (Sum.inl 0)) (fun (a3 : Prod (List qb) Int) => Option.bind (qQ (Zy deep n.L ((n.L.length : Nat) : Int)) (a3.1, (a3.2, (b3, 0)))) fun (a4 : Sum Int (Prod (List qb) (Prod Int Bool))) =>
    Sum.elim (fun (a5 : Int) => some (Sum.inl a5)) (fun (a6 : Prod (List qb) (Prod Int Bool)) => some (Sum.inr (a6.1, a6.2.1, a6.2.2))) a4) a
theorem q8U : ∀ (n_Kind n_N n_Min : Int) (n_Set : List qc) (n_L : List qb) (deep b2 : Int) (b3 : Bool), ev 69 4 [R.agg [dI n_Kind, dI n_N, dI n_Min, dL 2 qe n_Set, dL 5 qg n_L], rI deep, R.c (C.hd .yield 0)] [(0, B.ob (AO.lp 35 (R.any :: R.any :: rP 1 :: rP 2 :: rP 3 :: q4D) [9, 10] (raO 35 4) (rbO 35 4) Go.LoopState.ready none)), (1, B.blk 29 [C.nils]), (2, B.blk 3 [dI b2]), (3, B.blk 4 [dB b3])] = (q06 (qb.mk n_Kind n_N n_Min n_Set n_L) deep b2 b3).bind (Sum.elim (fun (e : Int) => some (rB Bool.false, [(0, B.ob (AO.lp 35 (R.any :: R.any :: rP 1 :: rP 2 :: rP 3 :: q4D) [9, 10] (raO 35 4) (rbO 35 4) Go.LoopState.done (some Go.Code.ret))), (1, B.blk 29 [C.nils]), (2, B.blk 3 [dI e]), (3, B.blk 4 [dB Bool.false])])) (fun (e : List qb × Int × Bool) => some (rB Bool.true, [(0, B.ob (AO.lp 35 (R.any :: R.any :: rP 1 :: rP 2 :: rP 3 :: q4D) [9, 10] (raO 35 4) (rbO 35 4) Go.LoopState.ready none)), (1, B.blk 29 [dO 4 5 e.1.length]), (2, B.blk 3 [dI e.2.1]), (3, B.blk 4 [dB e.2.2]), (4, bR 31 5 qg e.1)]))) :=
  fun n_Kind n_N n_Min n_Set n_L deep b2 b3 => by
    rw [qA qoU qqi.2.2.2 qqT]
    have := qpS; have := @q6L; have := @q6i; have := @q06.eq_1; exact gA
noncomputable def q4A (fu : Nat) (n : qb) (deep : Int) (b2 : Int) (b3 : Bool) : Option (Int ⊕ (List qb × Int × Bool)) :=
  Option.bind (J7 deep n.Kind n.N n.Min n.Set n.L b2 b3) fun (a : Sum Unit (Prod (List qb) Int)) =>
  Sum.elim (fun (a2 : Unit) => some (Sum.inl 0)) (fun (a3 : Prod (List qb) Int) => Option.bind (itT (q1y fu deep n.L ((n.L.length : Nat) : Int)) fu (a3.1, (a3.2, (b3, 0)))) fun (a4 : Sum Int (Prod (List qb) (Prod Int Bool))) =>
    Sum.elim (fun (a5 : Int) => some (Sum.inl a5)) (fun (a6 : Prod (List qb) (Prod Int Bool)) => some (Sum.inr (a6.1, a6.2.1, a6.2.2))) a4) a
theorem q99 (fu : Nat) (n : qb) (deep b2 : Int) (b3 : Bool) : qk (q4A fu n deep b2 b3) (q06 n deep b2 b3) := by
  unfold q4A q06
  repeat (first
    | with_reducible exact qk.refl _
    | with_reducible exact qk.none _
    | with_reducible apply q6E
    | with_reducible refine qk.bind ?_ (fun _ => ?_)
    | with_reducible refine qk.ite ?_ ?_
    | with_reducible refine qk.sum (fun _ => ?_) (fun _ => ?_)
    | with_reducible refine qk.lim (fun _ => ?_))
noncomputable def Zz (b2 : Int) (b3 : Bool) (v : qb) : Option (Int ⊕ (List qb × Int × Bool)) :=
  Option.bind (q06 v 1 b2 b3) fun (a : Sum Int (Prod (List qb) (Prod Int Bool))) =>
  Sum.elim (fun (a2 : Int) => some (Sum.inl a2)) (fun (a3 : Prod (List qb) (Prod Int Bool)) => some (Sum.inr (a3.1, a3.2.1, a3.2.2))) a
theorem q6x : ∀ (b2 : Int) (b3 : Bool) (v_Kind v_N v_Min : Int) (v_Set : List qc) (v_L : List qb), ev 68 5 [R.c (C.hd .yield 0), rP 4] [(0, B.ob (AO.lp 35 (R.any :: R.any :: rP 1 :: rP 2 :: rP 3 :: q4D) [9, 10] (raO 35 4) (rbO 35 4) Go.LoopState.ready none)), (1, B.blk 29 [C.nils]), (2, B.blk 3 [dI b2]), (3, B.blk 4 [dB b3]), (4, B.blk 31 [dI v_Kind, dI v_N, dI v_Min, dL 2 qe v_Set, dL 5 qg v_L])] = (Zz b2 b3 (qb.mk v_Kind v_N v_Min v_Set v_L)).bind (Sum.elim (fun (e : Int) => some (R.tup [], [(0, B.ob (AO.lp 35 (R.any :: R.any :: rP 1 :: rP 2 :: rP 3 :: q4D) [9, 10] (raO 35 4) (rbO 35 4) Go.LoopState.done (some Go.Code.ret))), (1, B.blk 29 [C.nils]), (2, B.blk 3 [dI e]), (3, B.blk 4 [dB Bool.false]), (4, B.blk 31 [dI v_Kind, dI v_N, dI v_Min, dL 2 qe v_Set, dL 5 qg v_L])])) (fun (e : List qb × Int × Bool) => some (R.tup [], [(0, B.ob (AO.lp 35 (R.any :: R.any :: rP 1 :: rP 2 :: rP 3 :: q4D) [9, 10] (raO 35 4) (rbO 35 4) Go.LoopState.ready none)), (1, B.blk 29 [dO 5 5 e.1.length]), (2, B.blk 3 [dI e.2.1]), (3, B.blk 4 [dB e.2.2]), (4, B.blk 31 [dI v_Kind, dI v_N, dI v_Min, dL 2 qe v_Set, dL 5 qg v_L]), (5, bR 31 5 qg e.1)]))) :=
  fun b2 b3 v_Kind v_N v_Min v_Set v_L => by
    rw [qA qrc qu1.2.2.2 qux]
    have := qvv; have := @q8U; have := @Zz.eq_1; exact gA
noncomputable def q1w (fu : Nat) (b2 : Int) (b3 : Bool) (v : qb) : Option (Int ⊕ (List qb × Int × Bool)) :=
  Option.bind (q4A fu v 1 b2 b3) fun (a : Sum Int (Prod (List qb) (Prod Int Bool))) =>
  Sum.elim (fun (a2 : Int) => some (Sum.inl a2)) (fun (a3 : Prod (List qb) (Prod Int Bool)) => some (Sum.inr (a3.1, a3.2.1, a3.2.2))) a
theorem q65 (fu : Nat) (b2 : Int) (b3 : Bool) (v : qb) : qk (q1w fu b2 b3 v) (Zz b2 b3 v) := by
  unfold q1w Zz
  repeat (first
    | with_reducible exact qk.refl _
    | with_reducible exact qk.none _
    | with_reducible apply q99
    | with_reducible refine qk.bind ?_ (fun _ => ?_)
    | with_reducible refine qk.ite ?_ ?_
    | with_reducible refine qk.sum (fun _ => ?_) (fun _ => ?_)
    | with_reducible refine qk.lim (fun _ => ?_))
noncomputable def ZN (n : qb) : Option (List qb × Int × Bool) :=
  Option.bind (Zz 0 Bool.false n) fun (a : Sum Int (Prod (List qb) (Prod Int Bool))) =>
  Sum.elim (fun (a2 : Int) => some ([], a2, Bool.false)) (fun (a3 : Prod (List qb) (Prod Int Bool)) => some (a3.1, a3.2.1, Bool.true)) a
theorem q4k : ∀ (n_Kind n_N n_Min : Int) (n_Set : List qc) (n_L : List qb), ev 35 0 [R.agg [dI n_Kind, dI n_N, dI n_Min, dL 2 qe n_Set, dL 5 qg n_L]] [] = (ZN (qb.mk n_Kind n_N n_Min n_Set n_L)).bind (fun (e : List qb × Int × Bool) => some (R.tup [rL 5 qg e.1, rI e.2.1, rB e.2.2], [])) :=
  fun n_Kind n_N n_Min n_Set n_L => by
    rw [qA qmR qsF.2.2.2 qsE]
    have := qqC; have := @q8E; have := @q6x; have := @ZN.eq_1; have := @qel; exact gA
noncomputable def q2l (fu : Nat) (n : qb) : Option (List qb × Int × Bool) :=
  Option.bind (q1w fu 0 Bool.false n) fun (a : Sum Int (Prod (List qb) (Prod Int Bool))) =>
  Sum.elim (fun (a2 : Int) => some ([], a2, Bool.false)) (fun (a3 : Prod (List qb) (Prod Int Bool)) => some (a3.1, a3.2.1, Bool.true)) a
theorem q4g (fu : Nat) (n : qb) : qk (q2l fu n) (ZN n) := by
  unfold q2l ZN
  repeat (first
    | with_reducible exact qk.refl _
    | with_reducible exact qk.none _
    | with_reducible apply q65
    | with_reducible refine qk.bind ?_ (fun _ => ?_)
    | with_reducible refine qk.ite ?_ ?_
    | with_reducible refine qk.sum (fun _ => ?_) (fun _ => ?_)
    | with_reducible refine qk.lim (fun _ => ?_))
theorem qtU : okL 14 qct := qz (qi qqg) (by kernel_rfl) (by kernel_rfl)
def qsj := JA_ @qct.eq_1 (JA_ @Try.f14.eq_1 @qqg)
theorem qp4 : lbO 14 3 = qeQ := Qj (qi qqg) rfl
theorem qpF : okL 14 qeQ := zp qtU (List.mem_of_getElem? (i := 0) (by kernel_rfl))
theorem quU : okL 36 qhk := qz (qi qrU) (by kernel_rfl) (by kernel_rfl)
def qwo := JA_ @qhk.eq_1 (JA_ @Try.f36.eq_1 @qrU)
noncomputable def q2c (n : qb) : Option Bool :=
  if (n.Kind != 3) = Bool.true then some (n.Kind != 4)
  else some Bool.false
noncomputable def Zq (n : qb) : Bool :=
  if (n.Kind != 3) = Bool.true then n.Kind != 4
  else Bool.false
theorem q8d (n : qb) : q2c n = some (Zq n) := by
  unfold q2c Zq
  simp only [Qa]
theorem q8V : ∀ (n_Kind n_N n_Min : Int) (n_Set : List qc) (n_L : List qb), ev 36 0 [R.agg [dI n_Kind, dI n_N, dI n_Min, dL 2 qe n_Set, dL 5 qg n_L]] [] = some (rB (Zq (qb.mk n_Kind n_N n_Min n_Set n_L)), []) :=
  fun n_Kind n_N n_Min n_Set n_L => by
    have h : ev 36 0 [R.agg [dI n_Kind, dI n_N, dI n_Min, dL 2 qe n_Set, dL 5 qg n_L]] [] = (q2c (qb.mk n_Kind n_N n_Min n_Set n_L)).bind (fun (e : Bool) => some (rB e, [])) := by
      rw [qA qrU qsU.2.2.2 quU]
      have := qwo; have := @q2c.eq_1; exact gA
    rw [q8d] at h
    exact h
theorem qtk : okL 37 qcr := qz (qi qq6) (by kernel_rfl) (by kernel_rfl)
def qqt := JA_ @qcr.eq_1 (JA_ @Try.f37.eq_1 @qq6)
theorem qk5 : lbO 37 3 = qcA := Qj (qi qq6) rfl
theorem qjY : okL 37 qcA := zp qtk (List.mem_of_getElem? (i := 0) (by kernel_rfl))
noncomputable def qC (s : List qc) : Option Unit :=
  if s.length ≤ Go.maxLen ∧ s.length * 24 ≤ 140737488355328 then some ()
  else none
theorem ZM : ∀ (s : List qc), ev 53 0 [rL 2 qe s] [] = (qC s).bind (fun (e : Unit) => some (rL 2 qe s, [])) :=
  fun s => by
    rw [qln, qtr.2.2.2]
    have := @qC.eq_1; exact gA
noncomputable def qX (s : List qb) : Option (Unit ⊕ Unit) :=
  if s.length ≤ Go.maxLen ∧ s.length * 72 ≤ 140737488355328 then if ¬(s.length = 0) then some (Sum.inl ())
    else some (Sum.inr ())
  else none
theorem Jp : ∀ (s : List qb), ev 54 0 [rL 5 qg s] [] = (qX s).bind (Sum.elim (fun (e : Unit) => some (rO 0 5 s.length, [(0, bR 31 5 qg s)])) (fun (e : Unit) => some (rL 5 qg s, []))) :=
  fun s => by
    rw [qln, qu5.2.2.2]
    have := @qX.eq_1; exact gA
theorem qwv : okL 43 qeq := qz (qi qs9) (by kernel_rfl) (by kernel_rfl)
def qw6 := JA_ @qeq.eq_1 (JA_ @Try.f43.eq_1 @qs9)
noncomputable def q0N (n : Int) (low : Int) (high : Int) : Option Bool :=
  if low ≤ n then some (decide (n ≤ high))
  else some Bool.false
noncomputable def qG (n : Int) (low : Int) (high : Int) : Bool :=
  if low ≤ n then decide (n ≤ high)
  else Bool.false
theorem q6f (n low high : Int) : q0N n low high = some (qG n low high) := by
  unfold q0N qG
  simp only [Qa]
theorem Zw : ∀ (n low high : Int), ev 43 0 [rI n, rI low, rI high] [] = some (rB (qG n low high), []) :=
  fun n low high => by
    have h : ev 43 0 [rI n, rI low, rI high] [] = (q0N n low high).bind (fun (e : Bool) => some (rB e, [])) := by
      rw [qA qs9 qt8.2.2.2 qwv]
      have := qw6; have := @q0N.eq_1; exact gA
    rw [q6f] at h
    exact h
theorem qvi : okL 44 qea := qz (qi qrn) (by kernel_rfl) (by kernel_rfl)
def qwg := JA_ @qea.eq_1 (JA_ @Try.f44.eq_1 @qrn)
theorem q8H : ev 44 0 [] [] = some (R.c (C.hd HK.map 0), [(0, B.ob (@AO.mp [(Go.Value.int Go.IntKind.i64 1, (R.agg [C.fn 63 [] []], 0)), (Go.Value.int Go.IntKind.i64 2, (R.agg [C.fn 65 [] []], 1)), (Go.Value.int Go.IntKind.i64 3, (R.agg [C.fn 66 [] [dP 1]], 2)), (Go.Value.int Go.IntKind.i64 4, (R.agg [C.fn 67 [] [dP 1]], 3))] 4)), (1, B.blk 68 [C.fn 62 [] []])]) :=
  by
    rw [qA qrn qsG.2.2.2 qvi]
    have := qwg; exact gA
theorem quT : okL 63 qgl := qz (qi qrE) (by kernel_rfl) (by kernel_rfl)
def qva := JA_ @qgl.eq_1 (JA_ @Try.f63.eq_1 @qrE)
theorem qsl : okL 64 qcN := qz (qi qqe) (by kernel_rfl) (by kernel_rfl)
def qtC := JA_ @qcN.eq_1 (JA_ @Try.f64.eq_1 @qqe)
theorem qoP : lbO 64 7 = qft := Qj (qi qqe) rfl
theorem qob : okL 64 qft := zp qsl (List.mem_of_getElem? (i := 0) (by kernel_rfl))
theorem qvn : okL 73 qhj := qz (qi qr9) (by kernel_rfl) (by kernel_rfl)
def qvk := JA_ @qhj.eq_1 (JA_ @Try.f73.eq_1 @qr9)
theorem qtA : okL 78 qdb := qz (qi qqd) (by kernel_rfl) (by kernel_rfl)
def qsh := JA_ @qdb.eq_1 (JA_ @Try.f78.eq_1 @qqd)
theorem qnx : lbO 78 2 = qhq := Qj (qi qqd) rfl
theorem qmP : okL 78 qhq := zp qtA (List.mem_of_getElem? (i := 0) (by kernel_rfl))
theorem qvS : okL 74 qgD := qz (qi qrN) (by kernel_rfl) (by kernel_rfl)
def qv1 := JA_ @qgD.eq_1 (JA_ @Try.f74.eq_1 @qrN)
theorem quP : okL 75 qga := qz (qi qr2) (by kernel_rfl) (by kernel_rfl)
def qw2 := JA_ @qga.eq_1 (JA_ @Try.f75.eq_1 @qr2)
theorem quw : okL 79 qg2 := qz (qi qs6) (by kernel_rfl) (by kernel_rfl)
def qw3 := JA_ @qg2.eq_1 (JA_ @Try.f79.eq_1 @qs6)
theorem quk : okL 84 qei := qz (qi qsa) (by kernel_rfl) (by kernel_rfl)
def quW := JA_ @qei.eq_1 (JA_ @Try.f84.eq_1 @qsa)
theorem qtb : okL 87 qc9 := qz (qi qpU) (by kernel_rfl) (by kernel_rfl)
def qsD := JA_ @qc9.eq_1 (JA_ @Try.f87.eq_1 @qpU)
theorem qmO : lbO 87 2 = qf6 := Qj (qi qpU) rfl
theorem qpG : okL 87 qf6 := zp qtb (List.mem_of_getElem? (i := 0) (by kernel_rfl))
theorem qvp : okL 83 qeC := qz (qi qrT) (by kernel_rfl) (by kernel_rfl)
def qua := JA_ @qeC.eq_1 (JA_ @Try.f83.eq_1 @qrT)
noncomputable def JE (c : Int) : Option Bool :=
  if c < 65 then if c < 48 then some Bool.true
    else some (decide (57 < c))
  else if 90 < c then if c < 48 then some Bool.true
    else some (decide (57 < c))
  else some Bool.false
noncomputable def zT (c : Int) : Bool :=
  if c < 65 then if c < 48 then Bool.true
    else decide (57 < c)
  else if 90 < c then if c < 48 then Bool.true
    else decide (57 < c)
  else Bool.false
theorem q4P (c : Int) : JE c = some (zT c) := by
  unfold JE zT
  simp only [Qa]
theorem q5d : ∀ (c : Int), ev 83 0 [R.c (C.d (D.int .i32 c))] [] = some (rB (zT c), []) :=
  fun c => by
    have h : ev 83 0 [R.c (C.d (D.int .i32 c))] [] = (JE c).bind (fun (e : Bool) => some (rB e, [])) := by
      rw [qA qrT qtT.2.2.2 qvp]
      have := qua; have := @JE.eq_1; exact gA
    rw [q4P] at h
    exact h
noncomputable def qN (it0_s : ByteArray) (truth : Bool) : Nat → Option (Nat ⊕ (Int ⊕ Unit))
  | it0_p =>
    if it0_p < ByteArray.size it0_s then if (zT (((@Go.Utf8.decode it0_s it0_p).1 : Nat) : Int) == truth) = Bool.true then some (Sum.inr (Sum.inl ((it0_p : Nat) : Int)))
      else some (Sum.inl (it0_p + (@Go.Utf8.decode it0_s it0_p).2))
    else some (Sum.inr (Sum.inr ()))
theorem q1x : ∀ (it0_s : ByteArray) (it0_p : Nat) (truth : Bool), XL2 evo 87 0 2 ⟨[(1, R.c (C.fn 83 [] [])), (2, rB truth), (10, R.c (C.hd .iter 0))], [(0, B.ob (AO.si it0_s it0_p))], 1, 21⟩ = (qQ (qN it0_s truth) it0_p).bind (Sum.elim (fun (e : Int) => some (Go.Exit.ret, ⟨[(6, rI e)], [], 0, 21⟩)) (fun (e : Unit) => some (Go.Exit.exit 0, ⟨[(6, R.any)], [], 0, 21⟩))) :=
  fun it0_s it0_p truth => by
    revert it0_p; exact qau qmO qpG (fun e => by rcases e with _ | _ <;> exact ⟨_, rfl, fun h => by cases h⟩) fun x => by
      have := qsD; have := @qf6.eq_1; have := @q5d; have := @qN.eq_1; exact gA
noncomputable def Qi (s : ByteArray) (truth : Bool) : Option Int :=
  Option.bind (qQ (qN s truth) 0) fun (a : Sum Int Unit) =>
  Sum.elim (fun (a2 : Int) => some a2) (fun (a3 : Unit) => some (-1)) a
theorem q2P : ∀ (s : ByteArray) (truth : Bool), ev 87 0 [rS s, R.c (C.fn 83 [] []), rB truth] [] = (Qi s truth).bind (fun (e : Int) => some (rI e, [])) :=
  fun s truth => by
    rw [qA qpU qst.2.2.2 qtb]
    have := qsD; have := @q1x; have := @Qi.eq_1; exact gA
noncomputable def Jq (fu : Nat) (s : ByteArray) (truth : Bool) : Option Int :=
  Option.bind (itT (qN s truth) fu 0) fun (a : Sum Int Unit) =>
  Sum.elim (fun (a2 : Int) => some a2) (fun (a3 : Unit) => some (-1)) a
theorem q2Q (fu : Nat) (s : ByteArray) (truth : Bool) : qk (Jq fu s truth) (Qi s truth) := by
  unfold Jq Qi
  repeat (first
    | with_reducible exact qk.refl _
    | with_reducible exact qk.none _
    | with_reducible refine qk.bind ?_ (fun _ => ?_)
    | with_reducible refine qk.ite ?_ ?_
    | with_reducible refine qk.sum (fun _ => ?_) (fun _ => ?_)
    | with_reducible refine qk.lim (fun _ => ?_))
noncomputable def Qc (s : ByteArray) : Option Int :=
  Option.bind (Qi s Bool.true) fun (e0 : Int) =>
  some e0
theorem q2I : ∀ (s : ByteArray), ev 84 0 [rS s, R.c (C.fn 83 [] [])] [] = (Qc s).bind (fun (e : Int) => some (rI e, [])) :=
  fun s => by
    rw [qA qsa qtH.2.2.2 quk]
    have := quW; have := @q2P; have := @Qc.eq_1; exact gA
noncomputable def Jr (fu : Nat) (s : ByteArray) : Option Int :=
  Option.bind (Jq fu s Bool.true) fun (e0 : Int) =>
  some e0
theorem q2G (fu : Nat) (s : ByteArray) : qk (Jr fu s) (Qc s) := by
  unfold Jr Qc
  repeat (first
    | with_reducible exact qk.refl _
    | with_reducible exact qk.none _
    | with_reducible apply q2Q
    | with_reducible refine qk.bind ?_ (fun _ => ?_)
    | with_reducible refine qk.ite ?_ ?_
    | with_reducible refine qk.sum (fun _ => ?_) (fun _ => ?_)
    | with_reducible refine qk.lim (fun _ => ?_))
noncomputable def Zf (s : ByteArray) : Option Bool :=
  if (!(ByteArray.toList s == ByteArray.toList (ByteArray.mk (List.toArray [])))) = Bool.true then if ((ByteArray.size s : Nat) : Int) ≤ 8 then Option.bind (Qc s) fun (a : Int) =>
      some (decide (a < 0))
    else some Bool.false
  else some Bool.false
theorem q7r : ∀ (s : ByteArray), ev 79 0 [rS s] [] = (Zf s).bind (fun (e : Bool) => some (rB e, [])) :=
  fun s => by
    rw [qA qs6 qt3.2.2.2 quw]
    have := qw3; have := @q2I; have := @Zf.eq_1; exact gA
noncomputable def q2k (fu : Nat) (s : ByteArray) : Option Bool :=
  if (!(ByteArray.toList s == ByteArray.toList (ByteArray.mk (List.toArray [])))) = Bool.true then if ((ByteArray.size s : Nat) : Int) ≤ 8 then Option.bind (Jr fu s) fun (a : Int) =>
      some (decide (a < 0))
    else some Bool.false
  else some Bool.false
theorem q7p (fu : Nat) (s : ByteArray) : qk (q2k fu s) (Zf s) := by
  unfold q2k Zf
  repeat (first
    | with_reducible exact qk.refl _
    | with_reducible exact qk.none _
    | with_reducible apply q2G
    | with_reducible refine qk.bind ?_ (fun _ => ?_)
    | with_reducible refine qk.ite ?_ ?_
    | with_reducible refine qk.sum (fun _ => ?_) (fun _ => ?_)
    | with_reducible refine qk.lim (fun _ => ?_))
noncomputable def ZL (c : qc) : Option Bool :=
  if qG c.School 1 8 = Bool.true then Option.bind (Zf c.Code) fun (e0 : Bool) =>
    some e0
  else some Bool.false
theorem q88 : ∀ (c_School : Int) (c_Code : ByteArray), ev 75 0 [R.agg [dI c_School, dS c_Code]] [] = (ZL (qc.mk c_School c_Code)).bind (fun (e : Bool) => some (rB e, [])) :=
  fun c_School c_Code => by
    rw [qA qr2 qsf.2.2.2 quP]
    have := qw2; have := @Zw; have := @q7r; have := @ZL.eq_1; exact gA
noncomputable def q38 (fu : Nat) (c : qc) : Option Bool :=
  if qG c.School 1 8 = Bool.true then Option.bind (q2k fu c.Code) fun (e0 : Bool) =>
    some e0
  else some Bool.false
theorem q83 (fu : Nat) (c : qc) : qk (q38 fu c) (ZL c) := by
  unfold q38 ZL
  repeat (first
    | with_reducible exact qk.refl _
    | with_reducible exact qk.none _
    | with_reducible apply q7p
    | with_reducible refine qk.bind ?_ (fun _ => ?_)
    | with_reducible refine qk.ite ?_ ?_
    | with_reducible refine qk.sum (fun _ => ?_) (fun _ => ?_)
    | with_reducible refine qk.lim (fun _ => ?_))
noncomputable def QM (c : qc) : Option Bool :=
  Option.bind (ZL c) fun (a : Bool) =>
  some (!a)
theorem q4q : ∀ (c_School : Int) (c_Code : ByteArray), ev 74 0 [R.agg [dI c_School, dS c_Code]] [] = (QM (qc.mk c_School c_Code)).bind (fun (e : Bool) => some (rB e, [])) :=
  fun c_School c_Code => by
    rw [qA qrN qu0.2.2.2 qvS]
    have := qv1; have := @q88; have := @QM.eq_1; exact gA
noncomputable def q0z (fu : Nat) (c : qc) : Option Bool :=
  Option.bind (q38 fu c) fun (a : Bool) =>
  some (!a)
theorem q4o (fu : Nat) (c : qc) : qk (q0z fu c) (QM c) := by
  unfold q0z QM
  repeat (first
    | with_reducible exact qk.refl _
    | with_reducible exact qk.none _
    | with_reducible apply q83
    | with_reducible refine qk.bind ?_ (fun _ => ?_)
    | with_reducible refine qk.ite ?_ ?_
    | with_reducible refine qk.sum (fun _ => ?_) (fun _ => ?_)
    | with_reducible refine qk.lim (fun _ => ?_))
noncomputable def qo (s : List qc) (t7 : Int) : Int → Option (Int ⊕ (Int ⊕ Unit))
  | t8 =>
    if t8 < t7 then if 0 ≤ t8 ∧ t8 < ((s.length : Nat) : Int) then Option.bind s[Int.toNat t8]? fun (a : qc) =>
        Option.bind (QM a) fun (a2 : Bool) =>
        if a2 = Bool.true then some (Sum.inr (Sum.inl t8))
        else some (Sum.inl (w64 (t8 + 1)))
      else none
    else some (Sum.inr (Sum.inr ()))
theorem Z2 : ∀ (s : List qc) (t7 t8 : Int), XL2 evo 78 0 2 ⟨[(0, rL 2 qe s), (1, R.c (C.fn 74 [] [])), (7, rI t7), (8, rI t8)], [], 0, 19⟩ = (qQ (qo s t7) t8).bind (Sum.elim (fun (e : Int) => some (Go.Exit.ret, ⟨[(4, rI e)], [], 0, 19⟩)) (fun (e : Unit) => some (Go.Exit.exit 0, ⟨[(4, R.any)], [], 0, 19⟩))) :=
  fun s t7 t8 => by
    revert t8; exact qau qnx qmP (fun e => by rcases e with _ | _ <;> exact ⟨_, rfl, fun h => by cases h⟩) fun x => by
      have := qsh; have := @qhq.eq_1; have := @q4q; have := @qo.eq_1; exact gA
noncomputable def z7 (fu : Nat) (s : List qc) (t7 : Int) : Int → Option (Int ⊕ (Int ⊕ Unit))
  | t8 =>
    if t8 < t7 then if 0 ≤ t8 ∧ t8 < ((s.length : Nat) : Int) then Option.bind s[Int.toNat t8]? fun (a : qc) =>
        Option.bind (q0z fu a) fun (a2 : Bool) =>
        if a2 = Bool.true then some (Sum.inr (Sum.inl t8))
        else some (Sum.inl (w64 (t8 + 1)))
      else none
    else some (Sum.inr (Sum.inr ()))
theorem Z1 (fu : Nat) (s : List qc) (t7 : Int) : ∀ x, qk (z7 fu s t7 x) (qo s t7 x) := by
  rintro t8
  unfold z7 qo
  try dsimp only
  repeat (first
    | with_reducible exact qk.refl _
    | with_reducible exact qk.none _
    | with_reducible apply q4o
    | with_reducible refine qk.bind ?_ (fun _ => ?_)
    | with_reducible refine qk.ite ?_ ?_
    | with_reducible refine qk.sum (fun _ => ?_) (fun _ => ?_)
    | with_reducible refine qk.lim (fun _ => ?_))
noncomputable def qw (s : List qc) : Option Int :=
  Option.bind (qQ (qo s ((s.length : Nat) : Int)) 0) fun (a : Sum Int Unit) =>
  Sum.elim (fun (a2 : Int) => some a2) (fun (a3 : Unit) => some (-1)) a
theorem Zj : ∀ (s : List qc), ev 78 0 [rL 2 qe s, R.c (C.fn 74 [] [])] [] = (qw s).bind (fun (e : Int) => some (rI e, [])) :=
  fun s => by
    rw [qA qqd qtm.2.2.2 qtA]
    have := qsh; have := @Z2; have := @qw.eq_1; exact gA
noncomputable def zo (fu : Nat) (s : List qc) : Option Int :=
  Option.bind (itT (z7 fu s ((s.length : Nat) : Int)) fu 0) fun (a : Sum Int Unit) =>
  Sum.elim (fun (a2 : Int) => some a2) (fun (a3 : Unit) => some (-1)) a
theorem Zd (fu : Nat) (s : List qc) : qk (zo fu s) (qw s) := by
  unfold zo qw
  repeat (first
    | with_reducible exact qk.refl _
    | with_reducible exact qk.none _
    | with_reducible apply Z1
    | with_reducible refine qk.bind ?_ (fun _ => ?_)
    | with_reducible refine qk.ite ?_ ?_
    | with_reducible refine qk.sum (fun _ => ?_) (fun _ => ?_)
    | with_reducible refine qk.lim (fun _ => ?_))
noncomputable def qp (s : List qc) : Option Bool :=
  Option.bind (qw s) fun (a : Int) =>
  some (decide (0 ≤ a))
theorem Z0 : ∀ (s : List qc), ev 73 0 [rL 2 qe s, R.c (C.fn 74 [] [])] [] = (qp s).bind (fun (e : Bool) => some (rB e, [])) :=
  fun s => by
    rw [qA qr9 qsJ.2.2.2 qvn]
    have := qvk; have := @Zj; have := @qp.eq_1; exact gA
noncomputable def z6 (fu : Nat) (s : List qc) : Option Bool :=
  Option.bind (zo fu s) fun (a : Int) =>
  some (decide (0 ≤ a))
theorem Z3 (fu : Nat) (s : List qc) : qk (z6 fu s) (qp s) := by
  unfold z6 qp
  repeat (first
    | with_reducible exact qk.refl _
    | with_reducible exact qk.none _
    | with_reducible apply Zd
    | with_reducible refine qk.bind ?_ (fun _ => ?_)
    | with_reducible refine qk.ite ?_ ?_
    | with_reducible refine qk.sum (fun _ => ?_) (fun _ => ?_)
    | with_reducible refine qk.lim (fun _ => ?_))
theorem qvJ : okL 76 qgw := qz (qi qrk) (by kernel_rfl) (by kernel_rfl)
def qve := JA_ @qgw.eq_1 (JA_ @Try.f76.eq_1 @qrk)
theorem qvD : okL 81 qeN := qz (qi qqB) (by kernel_rfl) (by kernel_rfl)
def quM := JA_ @qeN.eq_1 (JA_ @Try.f81.eq_1 @qqB)
theorem qud : okL 85 qfn := qz (qi qqu) (by kernel_rfl) (by kernel_rfl)
def quq := JA_ @qfn.eq_1 (JA_ @Try.f85.eq_1 @qqu)
noncomputable def JD (x : Int) : Option Bool :=
  some (x != x)
noncomputable def zd (x : Int) : Bool :=
  x != x
theorem q4Y (x : Int) : JD x = some (zd x) := by
  unfold JD zd
  simp only [Qa]
theorem q64 : ∀ (x : Int), ev 85 0 [rI x] [] = some (rB (zd x), []) :=
  fun x => by
    have h : ev 85 0 [rI x] [] = (JD x).bind (fun (e : Bool) => some (rB e, [])) := by
      rw [qA qqu qsQ.2.2.2 qud]
      have := quq; have := @JD.eq_1; exact gA
    rw [q4Y] at h
    exact h
noncomputable def ZR (x : Int) (y : Int) : Option Int :=
  if zd x = Bool.true then if zd y = Bool.true then some 0
    else some (-1)
  else if zd y = Bool.true then some 1
  else if x < y then some (-1)
  else if y < x then some 1
  else some 0
noncomputable def zQ (x : Int) (y : Int) : Int :=
  if zd x = Bool.true then if zd y = Bool.true then 0
    else (-1)
  else if zd y = Bool.true then 1
  else if x < y then (-1)
  else if y < x then 1
  else 0
theorem q3p (x y : Int) : ZR x y = some (zQ x y) := by
  unfold ZR zQ
  simp only [Qa]
theorem q4a : ∀ (x y : Int), ev 81 0 [rI x, rI y] [] = some (rI (zQ x y), []) :=
  fun x y => by
    have h : ev 81 0 [rI x, rI y] [] = (ZR x y).bind (fun (e : Int) => some (rI e, [])) := by
      rw [qA qqB qss.2.2.2 qvD]
      have := quM; have := @q64; have := @ZR.eq_1; exact gA
    rw [q3p] at h
    exact h
theorem qwk : okL 82 qeS := qz (qi qrp) (by kernel_rfl) (by kernel_rfl)
def qvo := JA_ @qeS.eq_1 (JA_ @Try.f82.eq_1 @qrp)
theorem qwm : okL 86 qgV := qz (qi qrj) (by kernel_rfl) (by kernel_rfl)
def qw9 := JA_ @qgV.eq_1 (JA_ @Try.f86.eq_1 @qrj)
noncomputable def ZE (x : ByteArray) : Option Unit :=
  some ()
noncomputable def q0F (x : ByteArray) : Unit :=
  ()
theorem q2Y (x : ByteArray) : ZE x = some (q0F x) := by
  unfold ZE q0F
  simp only [Qa]
theorem q3B : ∀ (x : ByteArray), ev 86 0 [rS x] [] = some (rB Bool.false, []) :=
  fun x => by
    have h : ev 86 0 [rS x] [] = (ZE x).bind (fun (e : Unit) => some (rB Bool.false, [])) := by
      rw [qA qrj qu6.2.2.2 qwm]
      have := qw9; have := @ZE.eq_1; exact gA
    rw [q2Y] at h
    exact h
noncomputable def Z5 (x : ByteArray) (y : ByteArray) : Option Int :=
  if Go.Op.bytesLess (ByteArray.toList x) (ByteArray.toList y) = Bool.true then some (-1)
  else if (!(Go.Op.bytesLess (ByteArray.toList x) (ByteArray.toList y) || ByteArray.toList x == ByteArray.toList y)) = Bool.true then some 1
  else some 0
noncomputable def zj (x : ByteArray) (y : ByteArray) : Int :=
  if Go.Op.bytesLess (ByteArray.toList x) (ByteArray.toList y) = Bool.true then (-1)
  else if (!(Go.Op.bytesLess (ByteArray.toList x) (ByteArray.toList y) || ByteArray.toList x == ByteArray.toList y)) = Bool.true then 1
  else 0
theorem q1U (x y : ByteArray) : Z5 x y = some (zj x y) := by
  unfold Z5 zj
  simp only [Qa]
theorem q20 : ∀ (x y : ByteArray), ev 82 0 [rS x, rS y] [] = some (rI (zj x y), []) :=
  fun x y => by
    have h : ev 82 0 [rS x, rS y] [] = (Z5 x y).bind (fun (e : Int) => some (rI e, [])) := by
      rw [qA qrp qsX.2.2.2 qwk]
      have := qvo; have := @q3B; have := @Z5.eq_1; exact gA
    rw [q1U] at h
    exact h
theorem qte : okL 80 qcd := qz (qi qqo) (by kernel_rfl) (by kernel_rfl)
def qsS := JA_ @qcd.eq_1 (JA_ @Try.f80.eq_1 @qqo)
theorem qoD : lbO 80 3 = qeL := Qj (qi qqo) rfl
theorem qpE : okL 80 qeL := zp qte (List.mem_of_getElem? (i := 0) (by kernel_rfl))
noncomputable def zE (zero : Int) (t6 : List Int) (t7 : Int) : Int → Option (Int ⊕ (Int ⊕ Unit))
  | t8 =>
    if t8 < t7 then if 0 ≤ t8 ∧ t8 < ((t6.length : Nat) : Int) then Option.bind t6[Int.toNat t8]? fun (a : Int) =>
        if (a != zero) = Bool.true then some (Sum.inr (Sum.inl a))
        else some (Sum.inl (w64 (t8 + 1)))
      else none
    else some (Sum.inr (Sum.inr ()))
theorem q5J : ∀ (zero : Int) (t6 : List Int) (t7 t8 : Int), XL2 evo 80 0 3 ⟨[(3, rI zero), (6, rL 1 eI t6), (7, rI t7), (8, rI t8)], [], 0, 18⟩ = (qQ (zE zero t6 t7) t8).bind (Sum.elim (fun (e : Int) => some (Go.Exit.ret, ⟨[(2, rI e), (3, rI zero)], [], 0, 18⟩)) (fun (e : Unit) => some (Go.Exit.exit 0, ⟨[(2, R.any), (3, rI zero)], [], 0, 18⟩))) :=
  fun zero t6 t7 t8 => by
    revert t8; exact qau qoD qpE (fun e => by rcases e with _ | _ <;> exact ⟨_, rfl, fun h => by cases h⟩) fun x => by
      have := qsS; have := @qeL.eq_1; have := @zE.eq_1; exact gA
noncomputable def Zc (vals : List Int) : Option Int :=
  Option.bind (qQ (zE 0 vals ((vals.length : Nat) : Int)) 0) fun (a : Sum Int Unit) =>
  Sum.elim (fun (a2 : Int) => some a2) (fun (a3 : Unit) => some 0) a
theorem q8s : ∀ (vals : List Int), ev 80 0 [rL 1 eI vals] [] = (Zc vals).bind (fun (e : Int) => some (rI e, [])) :=
  fun vals => by
    rw [qA qqo qu4.2.2.2 qte]
    have := qsS; have := @q5J; have := @Zc.eq_1; exact gA
theorem q5r : ∀ (vals0 vals1 : Int) , ev 80 0 [R.c (C.d (D.sl 1 2 [D.int .i64 vals0, D.int .i64 vals1]))] [] = (Zc [vals0, vals1]).bind (fun (e : Int) => some (rI e, [])) := by
  intro vals0 vals1; have h := q8s [vals0, vals1]
  first
    | exact h
    | (simp only [rL, dL, bR, bZ, Nat.reduceAdd] at h; exact h)
noncomputable def q3z (fu : Nat) (vals : List Int) : Option Int :=
  Option.bind (itT (zE 0 vals ((vals.length : Nat) : Int)) fu 0) fun (a : Sum Int Unit) =>
  Sum.elim (fun (a2 : Int) => some a2) (fun (a3 : Unit) => some 0) a
theorem q87 (fu : Nat) (vals : List Int) : qk (q3z fu vals) (Zc vals) := by
  unfold q3z Zc
  repeat (first
    | with_reducible exact qk.refl _
    | with_reducible exact qk.none _
    | with_reducible refine qk.bind ?_ (fun _ => ?_)
    | with_reducible refine qk.ite ?_ ?_
    | with_reducible refine qk.sum (fun _ => ?_) (fun _ => ?_)
    | with_reducible refine qk.lim (fun _ => ?_))
noncomputable def QS (a : qc) (b : qc) : Option Int :=
  Option.bind (Zc [zQ a.School b.School, zj a.Code b.Code]) fun (e0 : Int) =>
  some e0
theorem q6J : ∀ (a_School : Int) (a_Code : ByteArray) (b_School : Int) (b_Code : ByteArray), ev 76 0 [R.agg [dI a_School, dS a_Code], R.agg [dI b_School, dS b_Code]] [] = (QS (qc.mk a_School a_Code) (qc.mk b_School b_Code)).bind (fun (e : Int) => some (rI e, [])) :=
  fun a_School a_Code b_School b_Code => by
    rw [qA qrk qti.2.2.2 qvJ]
    have := qve; have := @q4a; have := @q20; have := @q5r; have := @QS.eq_1; exact gA
noncomputable def q1v (fu : Nat) (a : qc) (b : qc) : Option Int :=
  Option.bind (q3z fu [zQ a.School b.School, zj a.Code b.Code]) fun (e0 : Int) =>
  some e0
theorem q6F (fu : Nat) (a b : qc) : qk (q1v fu a b) (QS a b) := by
  unfold q1v QS
  repeat (first
    | with_reducible exact qk.refl _
    | with_reducible exact qk.none _
    | with_reducible apply q87
    | with_reducible refine qk.bind ?_ (fun _ => ?_)
    | with_reducible refine qk.ite ?_ ?_
    | with_reducible refine qk.sum (fun _ => ?_) (fun _ => ?_)
    | with_reducible refine qk.lim (fun _ => ?_))
noncomputable def zf (n : qb) (t22 : List qc) (t23 : Int) : Int → Option (Int ⊕ (Unit ⊕ Unit))
  | t24 =>
    if t24 < t23 then if 0 ≤ t24 ∧ t24 < ((t22.length : Nat) : Int) then Option.bind t22[Int.toNat t24]? fun (a : qc) =>
        if 0 < t24 then if 0 ≤ w64 (t24 - 1) ∧ w64 (t24 - 1) < ((n.Set.length : Nat) : Int) then Option.bind n.Set[Int.toNat (w64 (t24 - 1))]? fun (a2 : qc) =>
            Option.bind (QS a2 a) fun (a3 : Int) =>
            if 0 ≤ a3 then some (Sum.inr (Sum.inl ()))
            else some (Sum.inl (w64 (t24 + 1)))
          else none
        else some (Sum.inl (w64 (t24 + 1)))
      else none
    else some (Sum.inr (Sum.inr ()))
theorem q47 : ∀ (n_Kind n_N n_Min : Int) (n_Set : List qc) (n_L : List qb) (t22 : List qc) (t23 t24 : Int), XL2 evo 64 0 7 ⟨[(1, rP 0), (22, rL 2 qe t22), (23, rI t23), (24, rI t24)], [(0, B.blk 31 [dI n_Kind, dI n_N, dI n_Min, dL 2 qe n_Set, dL 5 qg n_L])], 1, 43⟩ = (qQ (zf (qb.mk n_Kind n_N n_Min n_Set n_L) t22 t23) t24).bind (Sum.elim (fun (e : Unit) => some (Go.Exit.ret, ⟨[(2, rI 7)], [], 0, 43⟩)) (fun (e : Unit) => some (Go.Exit.exit 1, ⟨[(2, R.any)], [], 0, 43⟩))) :=
  fun n_Kind n_N n_Min n_Set n_L t22 t23 t24 => by
    revert t24; exact qau qoP qob (fun e => by rcases e with _ | _ <;> exact ⟨_, rfl, fun h => by cases h⟩) fun x => by
      have := qtC; have := @qft.eq_1; have := @q6J; have := @zf.eq_1; exact gA
noncomputable def q03 (fu : Nat) (n : qb) (t22 : List qc) (t23 : Int) : Int → Option (Int ⊕ (Unit ⊕ Unit))
  | t24 =>
    if t24 < t23 then if 0 ≤ t24 ∧ t24 < ((t22.length : Nat) : Int) then Option.bind t22[Int.toNat t24]? fun (a : qc) =>
        if 0 < t24 then if 0 ≤ w64 (t24 - 1) ∧ w64 (t24 - 1) < ((n.Set.length : Nat) : Int) then Option.bind n.Set[Int.toNat (w64 (t24 - 1))]? fun (a2 : qc) =>
            Option.bind (q1v fu a2 a) fun (a3 : Int) =>
            if 0 ≤ a3 then some (Sum.inr (Sum.inl ()))
            else some (Sum.inl (w64 (t24 + 1)))
          else none
        else some (Sum.inl (w64 (t24 + 1)))
      else none
    else some (Sum.inr (Sum.inr ()))
theorem q4b (fu : Nat) (n : qb) (t22 : List qc) (t23 : Int) : ∀ x, qk (q03 fu n t22 t23 x) (zf n t22 t23 x) := by
  rintro t24
  unfold q03 zf
  try dsimp only
  repeat (first
    | with_reducible exact qk.refl _
    | with_reducible exact qk.none _
    | with_reducible apply q6F
    | with_reducible refine qk.bind ?_ (fun _ => ?_)
    | with_reducible refine qk.ite ?_ ?_
    | with_reducible refine qk.sum (fun _ => ?_) (fun _ => ?_)
    | with_reducible refine qk.lim (fun _ => ?_))
noncomputable def QH (n : qb) : Option Int :=
  if (!(qG n.Min (-1000) 1000)) = Bool.true then some 3
  else if (!(qG ((n.Set.length : Nat) : Int) 1 12)) = Bool.true then some 2
  else Option.bind (qp n.Set) fun (a : Bool) =>
  if (!a) = Bool.true then Option.bind (qQ (zf n n.Set ((n.Set.length : Nat) : Int)) 0) fun (a2 : Sum Unit Unit) =>
    Sum.elim (fun (a3 : Unit) => some 7) (fun (a4 : Unit) => some 0) a2
  else some 1
theorem q1V : ∀ (n_Kind n_N n_Min : Int) (n_Set : List qc) (n_L : List qb), ev 64 0 [R.agg [dI n_Kind, dI n_N, dI n_Min, dL 2 qe n_Set, dL 5 qg n_L]] [] = (QH (qb.mk n_Kind n_N n_Min n_Set n_L)).bind (fun (e : Int) => some (rI e, [])) :=
  fun n_Kind n_N n_Min n_Set n_L => by
    rw [qA qqe qsx.2.2.2 qsl]
    have := qtC; have := @Zw; have := @Z0; have := @q47; have := @QH.eq_1; exact gA
noncomputable def q0j (fu : Nat) (n : qb) : Option Int :=
  if (!(qG n.Min (-1000) 1000)) = Bool.true then some 3
  else if (!(qG ((n.Set.length : Nat) : Int) 1 12)) = Bool.true then some 2
  else Option.bind (z6 fu n.Set) fun (a : Bool) =>
  if (!a) = Bool.true then Option.bind (itT (q03 fu n n.Set ((n.Set.length : Nat) : Int)) fu 0) fun (a2 : Sum Unit Unit) =>
    Sum.elim (fun (a3 : Unit) => some 7) (fun (a4 : Unit) => some 0) a2
  else some 1
theorem q1M (fu : Nat) (n : qb) : qk (q0j fu n) (QH n) := by
  unfold q0j QH
  repeat (first
    | with_reducible exact qk.refl _
    | with_reducible exact qk.none _
    | with_reducible apply Z3
    | with_reducible apply q4b
    | with_reducible refine qk.bind ?_ (fun _ => ?_)
    | with_reducible refine qk.ite ?_ ?_
    | with_reducible refine qk.sum (fun _ => ?_) (fun _ => ?_)
    | with_reducible refine qk.lim (fun _ => ?_))
noncomputable def QT (n : qb) : Option Int :=
  if (n.N != 0) = Bool.true then some 13
  else if 0 < ((n.L.length : Nat) : Int) then some 13
  else Option.bind (QH n) fun (e0 : Int) =>
  some e0
theorem q6R : ∀ (n_Kind n_N n_Min : Int) (n_Set : List qc) (n_L : List qb), ev 63 0 [R.agg [dI n_Kind, dI n_N, dI n_Min, dL 2 qe n_Set, dL 5 qg n_L]] [] = (QT (qb.mk n_Kind n_N n_Min n_Set n_L)).bind (fun (e : Int) => some (rI e, [])) :=
  fun n_Kind n_N n_Min n_Set n_L => by
    rw [qA qrE qt6.2.2.2 quT]
    have := qva; have := @q1V; have := @QT.eq_1; exact gA
noncomputable def q1z (fu : Nat) (n : qb) : Option Int :=
  if (n.N != 0) = Bool.true then some 13
  else if 0 < ((n.L.length : Nat) : Int) then some 13
  else Option.bind (q0j fu n) fun (e0 : Int) =>
  some e0
theorem q6w (fu : Nat) (n : qb) : qk (q1z fu n) (QT n) := by
  unfold q1z QT
  repeat (first
    | with_reducible exact qk.refl _
    | with_reducible exact qk.none _
    | with_reducible apply q1M
    | with_reducible refine qk.bind ?_ (fun _ => ?_)
    | with_reducible refine qk.ite ?_ ?_
    | with_reducible refine qk.sum (fun _ => ?_) (fun _ => ?_)
    | with_reducible refine qk.lim (fun _ => ?_))
theorem qvx : okL 65 qgr := qz (qi qrv) (by kernel_rfl) (by kernel_rfl)
def qvZ := JA_ @qgr.eq_1 (JA_ @Try.f65.eq_1 @qrv)
noncomputable def QV (n : qb) : Option Int :=
  if 0 < ((n.L.length : Nat) : Int) then some 13
  else if (!(qG n.N 1 600)) = Bool.true then some 3
  else Option.bind (QH n) fun (e0 : Int) =>
  some e0
theorem q6b : ∀ (n_Kind n_N n_Min : Int) (n_Set : List qc) (n_L : List qb), ev 65 0 [R.agg [dI n_Kind, dI n_N, dI n_Min, dL 2 qe n_Set, dL 5 qg n_L]] [] = (QV (qb.mk n_Kind n_N n_Min n_Set n_L)).bind (fun (e : Int) => some (rI e, [])) :=
  fun n_Kind n_N n_Min n_Set n_L => by
    rw [qA qrv qtR.2.2.2 qvx]
    have := qvZ; have := @Zw; have := @q1V; have := @QV.eq_1; exact gA
noncomputable def q1A (fu : Nat) (n : qb) : Option Int :=
  if 0 < ((n.L.length : Nat) : Int) then some 13
  else if (!(qG n.N 1 600)) = Bool.true then some 3
  else Option.bind (q0j fu n) fun (e0 : Int) =>
  some e0
theorem q67 (fu : Nat) (n : qb) : qk (q1A fu n) (QV n) := by
  unfold q1A QV
  repeat (first
    | with_reducible exact qk.refl _
    | with_reducible exact qk.none _
    | with_reducible apply q1M
    | with_reducible refine qk.bind ?_ (fun _ => ?_)
    | with_reducible refine qk.ite ?_ ?_
    | with_reducible refine qk.sum (fun _ => ?_) (fun _ => ?_)
    | with_reducible refine qk.lim (fun _ => ?_))
theorem qvm : okL 66 qfl := qz (qi qr5) (by kernel_rfl) (by kernel_rfl)
def qvN := JA_ @qfl.eq_1 (JA_ @Try.f66.eq_1 @qr5)
theorem qvj : okL 62 qgI := qz (qi qrM) (by kernel_rfl) (by kernel_rfl)
def qvK := JA_ @qgI.eq_1 (JA_ @Try.f62.eq_1 @qrM)
noncomputable def q0i (n : qb) : Option Bool :=
  if (n.Min == 0) = Bool.true then if (((n.Set.length : Nat) : Int) == 0) = Bool.true then some (decide (0 < ((n.L.length : Nat) : Int)))
    else some Bool.false
  else some Bool.false
noncomputable def zP (n : qb) : Bool :=
  if (n.Min == 0) = Bool.true then if (((n.Set.length : Nat) : Int) == 0) = Bool.true then decide (0 < ((n.L.length : Nat) : Int))
    else Bool.false
  else Bool.false
theorem q5w (n : qb) : q0i n = some (zP n) := by
  unfold q0i zP
  simp only [Qa]
theorem q1H : ∀ (n_Kind n_N n_Min : Int) (n_Set : List qc) (n_L : List qb), ev 62 0 [R.agg [dI n_Kind, dI n_N, dI n_Min, dL 2 qe n_Set, dL 5 qg n_L]] [] = some (rB (zP (qb.mk n_Kind n_N n_Min n_Set n_L)), []) :=
  fun n_Kind n_N n_Min n_Set n_L => by
    have h : ev 62 0 [R.agg [dI n_Kind, dI n_N, dI n_Min, dL 2 qe n_Set, dL 5 qg n_L]] [] = (q0i (qb.mk n_Kind n_N n_Min n_Set n_L)).bind (fun (e : Bool) => some (rB e, [])) := by
      rw [qA qrM qto.2.2.2 qvj]
      have := qvK; have := @q0i.eq_1; exact gA
    rw [q5w] at h
    exact h
noncomputable def q0k (n : qb) : Option Int :=
  if (!(zP n)) = Bool.true then some 13
  else if (n.N != 0) = Bool.true then some 13
  else some 0
noncomputable def zN (n : qb) : Int :=
  if (!(zP n)) = Bool.true then 13
  else if (n.N != 0) = Bool.true then 13
  else 0
theorem q5q (n : qb) : q0k n = some (zN n) := by
  unfold q0k zN
  simp only [Qa]
theorem q6H : ∀ (n_Kind n_N n_Min : Int) (n_Set : List qc) (n_L : List qb), ev 66 1 [R.agg [dI n_Kind, dI n_N, dI n_Min, dL 2 qe n_Set, dL 5 qg n_L], rP 0] [(0, B.blk 68 [C.fn 62 [] []])] = some (rI (zN (qb.mk n_Kind n_N n_Min n_Set n_L)), [(0, B.blk 68 [C.fn 62 [] []])]) :=
  fun n_Kind n_N n_Min n_Set n_L => by
    have h : ev 66 1 [R.agg [dI n_Kind, dI n_N, dI n_Min, dL 2 qe n_Set, dL 5 qg n_L], rP 0] [(0, B.blk 68 [C.fn 62 [] []])] = (q0k (qb.mk n_Kind n_N n_Min n_Set n_L)).bind (fun (e : Int) => some (rI e, [(0, B.blk 68 [C.fn 62 [] []])])) := by
      rw [qA qr5 qt7.2.2.2 qvm]
      have := qvN; have := @q1H; have := @q0k.eq_1; exact gA
    rw [q5q] at h
    exact h
theorem qw5 : okL 67 qh3 := qz (qi qs8) (by kernel_rfl) (by kernel_rfl)
def qv5 := JA_ @qh3.eq_1 (JA_ @Try.f67.eq_1 @qs8)
noncomputable def q0f (n : qb) : Option Int :=
  if (!(zP n)) = Bool.true then some 13
  else if (!(qG n.N 1 ((n.L.length : Nat) : Int))) = Bool.true then some 3
  else some 0
noncomputable def zM (n : qb) : Int :=
  if (!(zP n)) = Bool.true then 13
  else if (!(qG n.N 1 ((n.L.length : Nat) : Int))) = Bool.true then 3
  else 0
theorem q61 (n : qb) : q0f n = some (zM n) := by
  unfold q0f zM
  simp only [Qa]
theorem q6D : ∀ (n_Kind n_N n_Min : Int) (n_Set : List qc) (n_L : List qb), ev 67 1 [R.agg [dI n_Kind, dI n_N, dI n_Min, dL 2 qe n_Set, dL 5 qg n_L], rP 0] [(0, B.blk 68 [C.fn 62 [] []])] = some (rI (zM (qb.mk n_Kind n_N n_Min n_Set n_L)), [(0, B.blk 68 [C.fn 62 [] []])]) :=
  fun n_Kind n_N n_Min n_Set n_L => by
    have h : ev 67 1 [R.agg [dI n_Kind, dI n_N, dI n_Min, dL 2 qe n_Set, dL 5 qg n_L], rP 0] [(0, B.blk 68 [C.fn 62 [] []])] = (q0f (qb.mk n_Kind n_N n_Min n_Set n_L)).bind (fun (e : Int) => some (rI e, [(0, B.blk 68 [C.fn 62 [] []])])) := by
      rw [qA qs8 qsC.2.2.2 qw5]
      have := qv5; have := @q1H; have := @Zw; have := @q0f.eq_1; exact gA
    rw [q61] at h
    exact h
noncomputable def zX (t37 : List qb) (t38 : Int) : Int → Option (Int ⊕ (Int ⊕ Unit))
  | t39 =>
    if t39 < t38 then if 0 ≤ t39 ∧ t39 < ((t37.length : Nat) : Int) then Option.bind t37[Int.toNat t39]? fun (a : qb) =>
        if a.Kind = 1 then Option.bind (QT a) fun (a2 : Int) =>
          if (a2 != 0) = Bool.true then some (Sum.inr (Sum.inl a2))
          else some (Sum.inl (w64 (t39 + 1)))
        else if a.Kind = 2 then Option.bind (QV a) fun (a3 : Int) =>
          if (a3 != 0) = Bool.true then some (Sum.inr (Sum.inl a3))
          else some (Sum.inl (w64 (t39 + 1)))
        else if a.Kind = 3 then if (zN a != 0) = Bool.true then some (Sum.inr (Sum.inl (zN a)))
          else some (Sum.inl (w64 (t39 + 1)))
        else if a.Kind = 4 then if (zM a != 0) = Bool.true then some (Sum.inr (Sum.inl (zM a)))
          else some (Sum.inl (w64 (t39 + 1)))
        else some (Sum.inr (Sum.inl 13))
      else none
    else some (Sum.inr (Sum.inr ()))
theorem q5U : ∀ (t37 : List qb) (t38 t39 : Int), XL2 evo 21 0 6 ⟨[(6, R.c (C.hd .map 0)), (37, rL 5 qg t37), (38, rI t38), (39, rI t39)], [(0, B.ob (AO.mp [(Go.Value.int Go.IntKind.i64 1, R.agg [C.fn 63 [] []], 0), (Go.Value.int Go.IntKind.i64 2, R.agg [C.fn 65 [] []], 1), (Go.Value.int Go.IntKind.i64 3, R.agg [C.fn 66 [] [dP 1]], 2), (Go.Value.int Go.IntKind.i64 4, R.agg [C.fn 67 [] [dP 1]], 3)] 4)), (1, B.blk 68 [C.fn 62 [] []])], 2, 60⟩ = (qQ (zX t37 t38) t39).bind (Sum.elim (fun (e : Int) => some (Go.Exit.ret, ⟨[(2, rI e)], [], 0, 60⟩)) (fun (e : Unit) => some (Go.Exit.exit 0, ⟨[(2, R.any)], [], 0, 60⟩))) :=
  fun t37 t38 t39 => by
    revert t39; exact qau qpJ qna (fun e => by rcases e with _ | _ <;> exact ⟨_, rfl, fun h => by cases h⟩) fun x => by
      have := qtQ; have := @qg1.eq_1; have := @q6R; have := @q6b; have := @q6H; have := @q6D; have := @zX.eq_1; exact gA
noncomputable def q0Y (fu : Nat) (t37 : List qb) (t38 : Int) : Int → Option (Int ⊕ (Int ⊕ Unit))
  | t39 =>
    if t39 < t38 then if 0 ≤ t39 ∧ t39 < ((t37.length : Nat) : Int) then Option.bind t37[Int.toNat t39]? fun (a : qb) =>
        if a.Kind = 1 then Option.bind (q1z fu a) fun (a2 : Int) =>
          if (a2 != 0) = Bool.true then some (Sum.inr (Sum.inl a2))
          else some (Sum.inl (w64 (t39 + 1)))
        else if a.Kind = 2 then Option.bind (q1A fu a) fun (a3 : Int) =>
          if (a3 != 0) = Bool.true then some (Sum.inr (Sum.inl a3))
          else some (Sum.inl (w64 (t39 + 1)))
        else if a.Kind = 3 then if (zN a != 0) = Bool.true then some (Sum.inr (Sum.inl (zN a)))
          else some (Sum.inl (w64 (t39 + 1)))
        else if a.Kind = 4 then if (zM a != 0) = Bool.true then some (Sum.inr (Sum.inl (zM a)))
          else some (Sum.inl (w64 (t39 + 1)))
        else some (Sum.inr (Sum.inl 13))
      else none
    else some (Sum.inr (Sum.inr ()))
theorem q59 (fu : Nat) (t37 : List qb) (t38 : Int) : ∀ x, qk (q0Y fu t37 t38 x) (zX t37 t38 x) := by
  rintro t39
  unfold q0Y zX
  try dsimp only
  repeat (first
    | with_reducible exact qk.refl _
    | with_reducible exact qk.none _
    | with_reducible apply q6w
    | with_reducible apply q67
    | with_reducible refine qk.bind ?_ (fun _ => ?_)
    | with_reducible refine qk.ite ?_ ?_
    | with_reducible refine qk.sum (fun _ => ?_) (fun _ => ?_)
    | with_reducible refine qk.lim (fun _ => ?_))
theorem qtw : okL 24 qhc := qz (qi qq8) (by kernel_rfl) (by kernel_rfl)
def qtp := JA_ @qhc.eq_1 (JA_ @Try.f24.eq_1 @qq8)
theorem qke : okL 45 q6X := qz (qi qj6) (by kernel_rfl) (by kernel_rfl)
def qc7 := JA_ @q6X.eq_1 (JA_ @Try.f45.eq_1 @qj6)
theorem qc5 : lbO 45 5 = q9g := Qj (qi qj6) rfl
theorem qcn : okL 45 q9g := zp qke (List.mem_of_getElem? (i := 0) (by kernel_rfl))
theorem qgB : lbO 45 14 = qal := Qj (qi qj6) rfl
theorem qey : okL 45 qal := zp qke (List.mem_of_getElem? (i := 1) (by kernel_rfl))
theorem qgz : lbO 45 18 = q9K := Qj (qi qj6) rfl
theorem qgs : okL 45 q9K := zp qke (List.mem_of_getElem? (i := 2) (by kernel_rfl))
theorem qe6 : lbO 45 25 = qao := Qj (qi qj6) rfl
theorem qfN : okL 45 qao := zp qke (List.mem_of_getElem? (i := 3) (by kernel_rfl))
theorem qfq : lbO 45 38 = qak := Qj (qi qj6) rfl
theorem qeT : okL 45 qak := zp qke (List.mem_of_getElem? (i := 4) (by kernel_rfl))
theorem qvP : okL 31 qfb := qz (qi qre) (by kernel_rfl) (by kernel_rfl)
def qub := JA_ @qfb.eq_1 (JA_ @Try.f31.eq_1 @qre)
noncomputable def q3T (n : qb) : Option Bool :=
  if (n.Kind == 1) = Bool.true then some Bool.true
  else some (n.Kind == 2)
noncomputable def zS (n : qb) : Bool :=
  if (n.Kind == 1) = Bool.true then Bool.true
  else n.Kind == 2
theorem q94 (n : qb) : q3T n = some (zS n) := by
  unfold q3T zS
  simp only [Qa]
theorem q0M : ∀ (n_Kind n_N n_Min : Int) (n_Set : List qc) (n_L : List qb), ev 31 0 [R.agg [dI n_Kind, dI n_N, dI n_Min, dL 2 qe n_Set, dL 5 qg n_L]] [] = some (rB (zS (qb.mk n_Kind n_N n_Min n_Set n_L)), []) :=
  fun n_Kind n_N n_Min n_Set n_L => by
    have h : ev 31 0 [R.agg [dI n_Kind, dI n_N, dI n_Min, dL 2 qe n_Set, dL 5 qg n_L]] [] = (q3T (qb.mk n_Kind n_N n_Min n_Set n_L)).bind (fun (e : Bool) => some (rB e, [])) := by
      rw [qA qre qsL.2.2.2 qvP]
      have := qub; have := @q3T.eq_1; exact gA
    rw [q94] at h
    exact h
theorem qu9 : okL 34 qfu := qz (qi qru) (by kernel_rfl) (by kernel_rfl)
def qw7 := JA_ @qfu.eq_1 (JA_ @Try.f34.eq_1 @qru)
noncomputable def QK (kind : Int) : Option (Unit ⊕ Unit) :=
  if (kind == 1) = Bool.true then some (Sum.inl ())
  else some (Sum.inr ())
theorem q1C : ∀ (kind : Int), ev 34 0 [rI kind] [] = (QK kind).bind (Sum.elim (fun (e : Unit) => some (R.c (C.fn 50 [] []), [])) (fun (e : Unit) => some (R.c (C.fn 51 [] []), []))) :=
  fun kind => by
    rw [qA qru qtc.2.2.2 qu9]
    have := qw7; have := @QK.eq_1; exact gA
theorem qvO : okL 22 qgx := qz (qi qr6) (by kernel_rfl) (by kernel_rfl)
def qv4 := JA_ @qgx.eq_1 (JA_ @Try.f22.eq_1 @qr6)
noncomputable def q1c (x0 : Int) (x1 : Int) : Option Unit :=
  some ()
noncomputable def q4m (x0 : Int) (x1 : Int) : Unit :=
  ()
theorem q7d (x0 x1 : Int) : q1c x0 x1 = some (q4m x0 x1) := by
  unfold q1c q4m
  simp only [Qa]
theorem q3o : ∀ (x0 x1 : Int), ev 22 0 [rI x0, rI x1] [] = some (rB Bool.true, []) :=
  fun x0 x1 => by
    have h : ev 22 0 [rI x0, rI x1] [] = (q1c x0 x1).bind (fun (e : Unit) => some (rB Bool.true, [])) := by
      rw [qA qr6 qts.2.2.2 qvO]
      have := qv4; have := @q1c.eq_1; exact gA
    rw [q7d] at h
    exact h
theorem qrS : okL 32 qcC := qz (qi qni) (by kernel_rfl) (by kernel_rfl)
def qq3 := JA_ @qcC.eq_1 (JA_ @Try.f32.eq_1 @qni)
theorem qk9 : lbO 32 3 = qcl := Qj (qi qni) rfl
theorem qk2 : okL 32 qcl := zp qrS (List.mem_of_getElem? (i := 0) (by kernel_rfl))
theorem quC : okL 46 qet := qz (qi qrB) (by kernel_rfl) (by kernel_rfl)
def qum := JA_ @qet.eq_1 (JA_ @Try.f46.eq_1 @qrB)
noncomputable def Zb (k : Int) (v : Int) : Option Bool :=
  if 0 ≤ k then some (ZZ Go.BinOp.and Go.IntKind.i64 (Int.fdiv v (2 ^ min (Int.toNat k) (Go.IntKind.bits Go.IntKind.i64))) 1 == 1)
  else none
theorem q5T : ∀ (k v : Int), ev 46 1 [rI k, rP 0] [(0, B.blk 3 [dI v])] = (Zb k v).bind (fun (e : Bool) => some (rB e, [(0, B.blk 3 [dI v])])) :=
  fun k v => by
    rw [qA qrB qsW.2.2.2 quC]
    have := qum; have := @Zb.eq_1; exact gA
theorem qvz : okL 17 qfL := qz (qi qrd) (by kernel_rfl) (by kernel_rfl)
def qwr := JA_ @qfL.eq_1 (JA_ @Try.f17.eq_1 @qrd)
theorem qwx : okL 38 qf9 := qz (qi qqx) (by kernel_rfl) (by kernel_rfl)
def qvB := JA_ @qf9.eq_1 (JA_ @Try.f38.eq_1 @qqx)
theorem qsu : okL 55 qcf := qz (qi qqn) (by kernel_rfl) (by kernel_rfl)
def qsT := JA_ @qcf.eq_1 (JA_ @Try.f55.eq_1 @qqn)
theorem qnw : lbO 55 2 = qgQ := Qj (qi qqn) rfl
theorem qoR : okL 55 qgQ := zp qsu (List.mem_of_getElem? (i := 0) (by kernel_rfl))
noncomputable def qt (v : qc) (s : List qc) (t7 : Int) : Int → Option (Int ⊕ (Int ⊕ Unit))
  | t8 =>
    if t8 < t7 then if 0 ≤ t8 ∧ t8 < ((s.length : Nat) : Int) then Option.bind s[Int.toNat t8]? fun (a : qc) =>
        if (v.School == a.School) = Bool.true ∧ (ByteArray.toList v.Code == ByteArray.toList a.Code) = Bool.true then some (Sum.inr (Sum.inl t8))
        else some (Sum.inl (w64 (t8 + 1)))
      else none
    else some (Sum.inr (Sum.inr ()))
theorem Zv : ∀ (v_School : Int) (v_Code : ByteArray) (s : List qc) (t7 t8 : Int), XL2 evo 55 0 2 ⟨[(0, rL 2 qe s), (3, rP 0), (7, rI t7), (8, rI t8)], [(0, B.blk 52 [dI v_School, dS v_Code])], 1, 19⟩ = (qQ (qt (qc.mk v_School v_Code) s t7) t8).bind (Sum.elim (fun (e : Int) => some (Go.Exit.ret, ⟨[(4, rI e)], [], 0, 19⟩)) (fun (e : Unit) => some (Go.Exit.exit 0, ⟨[(4, R.any)], [], 0, 19⟩))) :=
  fun v_School v_Code s t7 t8 => by
    revert t8; exact qau qnw qoR (fun e => by rcases e with _ | _ <;> exact ⟨_, rfl, fun h => by cases h⟩) fun x => by
      have := qsT; have := @qgQ.eq_1; have := @qt.eq_1; exact gA
noncomputable def qv (s : List qc) (v : qc) : Option Int :=
  Option.bind (qQ (qt v s ((s.length : Nat) : Int)) 0) fun (a : Sum Int Unit) =>
  Sum.elim (fun (a2 : Int) => some a2) (fun (a3 : Unit) => some (-1)) a
theorem ZJ : ∀ (s : List qc) (v_School : Int) (v_Code : ByteArray), ev 55 0 [rL 2 qe s, R.agg [dI v_School, dS v_Code]] [] = (qv s (qc.mk v_School v_Code)).bind (fun (e : Int) => some (rI e, [])) :=
  fun s v_School v_Code => by
    rw [qA qqn qsY.2.2.2 qsu]
    have := qsT; have := @Zv; have := @qv.eq_1; exact gA
noncomputable def zG (fu : Nat) (s : List qc) (v : qc) : Option Int :=
  Option.bind (itT (qt v s ((s.length : Nat) : Int)) fu 0) fun (a : Sum Int Unit) =>
  Sum.elim (fun (a2 : Int) => some a2) (fun (a3 : Unit) => some (-1)) a
theorem ZO (fu : Nat) (s : List qc) (v : qc) : qk (zG fu s v) (qv s v) := by
  unfold zG qv
  repeat (first
    | with_reducible exact qk.refl _
    | with_reducible exact qk.none _
    | with_reducible refine qk.bind ?_ (fun _ => ?_)
    | with_reducible refine qk.ite ?_ ?_
    | with_reducible refine qk.sum (fun _ => ?_) (fun _ => ?_)
    | with_reducible refine qk.lim (fun _ => ?_))
noncomputable def qr (s : List qc) (v : qc) : Option Bool :=
  Option.bind (qv s v) fun (a : Int) =>
  some (decide (0 ≤ a))
theorem Zs : ∀ (s : List qc) (v_School : Int) (v_Code : ByteArray), ev 38 0 [rL 2 qe s, R.agg [dI v_School, dS v_Code]] [] = (qr s (qc.mk v_School v_Code)).bind (fun (e : Bool) => some (rB e, [])) :=
  fun s v_School v_Code => by
    rw [qA qqx qt5.2.2.2 qwx]
    have := qvB; have := @ZJ; have := @qr.eq_1; exact gA
noncomputable def zq (fu : Nat) (s : List qc) (v : qc) : Option Bool :=
  Option.bind (zG fu s v) fun (a : Int) =>
  some (decide (0 ≤ a))
theorem Zx (fu : Nat) (s : List qc) (v : qc) : qk (zq fu s v) (qr s v) := by
  unfold zq qr
  repeat (first
    | with_reducible exact qk.refl _
    | with_reducible exact qk.none _
    | with_reducible apply ZO
    | with_reducible refine qk.bind ?_ (fun _ => ?_)
    | with_reducible refine qk.ite ?_ ?_
    | with_reducible refine qk.sum (fun _ => ?_) (fun _ => ?_)
    | with_reducible refine qk.lim (fun _ => ?_))
theorem qug : okL 39 qgJ := qz (qi qqZ) (by kernel_rfl) (by kernel_rfl)
def quf := JA_ @qgJ.eq_1 (JA_ @Try.f39.eq_1 @qqZ)
theorem qvL : okL 56 qgb := qz (qi qrJ) (by kernel_rfl) (by kernel_rfl)
def quD := JA_ @qgb.eq_1 (JA_ @Try.f56.eq_1 @qrJ)
theorem qsI : okL 70 qcR := qz (qi qpO) (by kernel_rfl) (by kernel_rfl)
def qt4 := JA_ @qcR.eq_1 (JA_ @Try.f70.eq_1 @qpO)
theorem qno : lbO 70 2 = qf5 := Qj (qi qpO) rfl
theorem qpD : okL 70 qf5 := zp qsI (List.mem_of_getElem? (i := 0) (by kernel_rfl))
theorem quK : okL 71 qfy := qz (qi qra) (by kernel_rfl) (by kernel_rfl)
def qvh := JA_ @qfy.eq_1 (JA_ @Try.f71.eq_1 @qra)
noncomputable def Zm (n : Int) (a : Int) (b : Int) : Option Int :=
  some (max (min a b) (min n (max a b)))
noncomputable def qK (n : Int) (a : Int) (b : Int) : Int :=
  max (min a b) (min n (max a b))
theorem q24 (n a b : Int) : Zm n a b = some (qK n a b) := by
  unfold Zm qK
  simp only [Qa]
theorem ZC : ∀ (n a b : Int), ev 71 0 [rI n, rI a, rI b] [] = some (rI (qK n a b), []) :=
  fun n a b => by
    have h : ev 71 0 [rI n, rI a, rI b] [] = (Zm n a b).bind (fun (e : Int) => some (rI e, [])) := by
      rw [qA qra qsK.2.2.2 quK]
      have := qvh; have := @Zm.eq_1; exact gA
    rw [q24] at h
    exact h
noncomputable def Q7 (w1 : List Int) (s : qd) (t10 : Int) : Int → Option (Int ⊕ (Unit ⊕ Unit))
  | t11 =>
    if t11 < t10 then if 0 ≤ t11 ∧ t11 < ((w1.length : Nat) : Int) then Option.bind w1[Int.toNat t11]? fun (a : Int) =>
        if (qK a (-1000) 1000 != a) = Bool.true then some (Sum.inr (Sum.inl ()))
        else some (Sum.inl (w64 (t11 + 1)))
      else none
    else some (Sum.inr (Sum.inr ()))
theorem q4U : ∀ (w1 : List Int) (s_Worst s_Best s_Pass t10 t11 : Int) (w1_len : Nat), w1_len = w1.length → XL2 evo 70 0 2 ⟨[(1, rP 0), (9, rO 1 1 w1_len), (10, rI t10), (11, rI t11)], [(0, B.blk 37 [dI s_Worst, dI s_Best, dI s_Pass]), (1, bR 3 1 eI w1)], 2, 37⟩ = (qQ (Q7 w1 (qd.mk s_Worst s_Best s_Pass) t10) t11).bind (Sum.elim (fun (e : Unit) => some (Go.Exit.ret, ⟨[(1, rP 0), (2, rI 10)], [(0, B.blk 37 [dI s_Worst, dI s_Best, dI s_Pass])], 1, 37⟩)) (fun (e : Unit) => some (Go.Exit.exit 0, ⟨[(1, rP 0), (2, R.any)], [(0, B.blk 37 [dI s_Worst, dI s_Best, dI s_Pass])], 1, 37⟩))) :=
  by
  intro w1 s_Worst s_Best s_Pass t10 t11 w1_len h0
  subst h0
  revert t11; exact qau qno qpD (fun e => by rcases e with _ | _ <;> exact ⟨_, rfl, fun h => by cases h⟩) fun x => by
    have := qt4; have := @qf5.eq_1; have := @ZC; have := @Q7.eq_1; exact gA
theorem q2E : ∀ (w10 w11 s_Worst s_Best s_Pass t10 t11 : Int), XL2 evo 70 0 2 ⟨[(1, rP 0), (9, rO 1 1 2), (10, rI t10), (11, rI t11)], [(0, B.blk 37 [dI s_Worst, dI s_Best, dI s_Pass]), (1, B.row 3 1 [dI w10, dI w11])], 2, 37⟩ = (qQ (Q7 [w10, w11] (qd.mk s_Worst s_Best s_Pass) t10) t11).bind (Sum.elim (fun (e : Unit) => some (Go.Exit.ret, ⟨[(1, rP 0), (2, rI 10)], [(0, B.blk 37 [dI s_Worst, dI s_Best, dI s_Pass])], 1, 37⟩)) (fun (e : Unit) => some (Go.Exit.exit 0, ⟨[(1, rP 0), (2, R.any)], [(0, B.blk 37 [dI s_Worst, dI s_Best, dI s_Pass])], 1, 37⟩))) := by
  intro w10 w11 s_Worst s_Best s_Pass t10 t11; have h := q4U [w10, w11] ((qd.mk s_Worst s_Best s_Pass)).Worst ((qd.mk s_Worst s_Best s_Pass)).Best ((qd.mk s_Worst s_Best s_Pass)).Pass t10 t11 _ rfl
  first
    | exact h
    | (simp only [rL, dL, bR, bZ, Nat.reduceAdd] at h; exact h)
noncomputable def Zi (s : qd) : Option Int :=
  Option.bind (qQ (Q7 [s.Worst, s.Best] s 2) 0) fun (a : Sum Unit Unit) =>
  Sum.elim (fun (a2 : Unit) => some 10) (fun (a3 : Unit) => if (s.Worst == s.Best) = Bool.true then some 10
    else if (qK s.Pass s.Worst s.Best != s.Pass) = Bool.true then some 10
    else some 0) a
theorem q7F : ∀ (s_Worst s_Best s_Pass : Int), ev 70 0 [R.agg [dI s_Worst, dI s_Best, dI s_Pass]] [] = (Zi (qd.mk s_Worst s_Best s_Pass)).bind (fun (e : Int) => some (rI e, [])) :=
  fun s_Worst s_Best s_Pass => by
    rw [qA qpO qtF.2.2.2 qsI]
    have := qt4; have := @q2E; have := @ZC; have := @Zi.eq_1; exact gA
noncomputable def q2j (fu : Nat) (s : qd) : Option Int :=
  Option.bind (itT (Q7 [s.Worst, s.Best] s 2) fu 0) fun (a : Sum Unit Unit) =>
  Sum.elim (fun (a2 : Unit) => some 10) (fun (a3 : Unit) => if (s.Worst == s.Best) = Bool.true then some 10
    else if (qK s.Pass s.Worst s.Best != s.Pass) = Bool.true then some 10
    else some 0) a
theorem q78 (fu : Nat) (s : qd) : qk (q2j fu s) (Zi s) := by
  unfold q2j Zi
  repeat (first
    | with_reducible exact qk.refl _
    | with_reducible exact qk.none _
    | with_reducible refine qk.bind ?_ (fun _ => ?_)
    | with_reducible refine qk.ite ?_ ?_
    | with_reducible refine qk.sum (fun _ => ?_) (fun _ => ?_)
    | with_reducible refine qk.lim (fun _ => ?_))
noncomputable def Zh (s : qd) (g : Int) : Option Bool :=
  Option.bind (Zi s) fun (a : Int) =>
  if (a == 0) = Bool.true then some (qK g s.Worst s.Best == g)
  else some Bool.false
theorem q7f : ∀ (s_Worst s_Best s_Pass g : Int), ev 56 0 [R.agg [dI s_Worst, dI s_Best, dI s_Pass], rI g] [] = (Zh (qd.mk s_Worst s_Best s_Pass) g).bind (fun (e : Bool) => some (rB e, [])) :=
  fun s_Worst s_Best s_Pass g => by
    rw [qA qrJ qtE.2.2.2 qvL]
    have := quD; have := @q7F; have := @ZC; have := @Zh.eq_1; exact gA
noncomputable def q1X (fu : Nat) (s : qd) (g : Int) : Option Bool :=
  Option.bind (q2j fu s) fun (a : Int) =>
  if (a == 0) = Bool.true then some (qK g s.Worst s.Best == g)
  else some Bool.false
theorem q7e (fu : Nat) (s : qd) (g : Int) : qk (q1X fu s g) (Zh s g) := by
  unfold q1X Zh
  repeat (first
    | with_reducible exact qk.refl _
    | with_reducible exact qk.none _
    | with_reducible apply q78
    | with_reducible refine qk.bind ?_ (fun _ => ?_)
    | with_reducible refine qk.ite ?_ ?_
    | with_reducible refine qk.sum (fun _ => ?_) (fun _ => ?_)
    | with_reducible refine qk.lim (fun _ => ?_))
noncomputable def QJ (s : qd) (g : Int) (min : Int) : Option Bool :=
  Option.bind (Zh s g) fun (a : Bool) =>
  if a = Bool.true then if (g == min) = Bool.true then some Bool.true
    else some (decide (min < g) == decide (s.Worst < s.Best))
  else some Bool.false
theorem q57 : ∀ (s_Worst s_Best s_Pass g min : Int), ev 39 0 [R.agg [dI s_Worst, dI s_Best, dI s_Pass], rI g, rI min] [] = (QJ (qd.mk s_Worst s_Best s_Pass) g min).bind (fun (e : Bool) => some (rB e, [])) :=
  fun s_Worst s_Best s_Pass g min => by
    rw [qA qqZ qsR.2.2.2 qug]
    have := quf; have := @q7f; have := @QJ.eq_1; exact gA
noncomputable def q0T (fu : Nat) (s : qd) (g : Int) (min : Int) : Option Bool :=
  Option.bind (q1X fu s g) fun (a : Bool) =>
  if a = Bool.true then if (g == min) = Bool.true then some Bool.true
    else some (decide (min < g) == decide (s.Worst < s.Best))
  else some Bool.false
theorem q5N (fu : Nat) (s : qd) (g min : Int) : qk (q0T fu s g min) (QJ s g min) := by
  unfold q0T QJ
  repeat (first
    | with_reducible exact qk.refl _
    | with_reducible exact qk.none _
    | with_reducible apply q7e
    | with_reducible refine qk.bind ?_ (fun _ => ?_)
    | with_reducible refine qk.ite ?_ ?_
    | with_reducible refine qk.sum (fun _ => ?_) (fun _ => ?_)
    | with_reducible refine qk.lim (fun _ => ?_))
noncomputable def QN (n : qb) (s : qd) (a : qa) : Option Bool :=
  if zS n = Bool.true then Option.bind (qr n.Set a.Course) fun (a2 : Bool) =>
    if a2 = Bool.true then Option.bind (QJ s a.Grade n.Min) fun (e0 : Bool) =>
      some e0
    else some Bool.false
  else some Bool.false
theorem q2h : ∀ (n_Kind n_N n_Min : Int) (n_Set : List qc) (n_L : List qb) (s_Worst s_Best s_Pass a_Course_School : Int) (a_Course_Code : ByteArray) (a_Credits a_Grade a_Day : Int) (a_Sources : List Int) (a_Bundle : Int) (a_Path : List Int), ev 17 0 [R.agg [dI n_Kind, dI n_N, dI n_Min, dL 2 qe n_Set, dL 5 qg n_L], R.agg [dI s_Worst, dI s_Best, dI s_Pass], R.agg [dI a_Course_School, dS a_Course_Code, dI a_Credits, dI a_Grade, dI a_Day, dL 1 eI a_Sources, dI a_Bundle, dL 1 eI a_Path]] [] = (QN (qb.mk n_Kind n_N n_Min n_Set n_L) (qd.mk s_Worst s_Best s_Pass) (qa.mk (qc.mk a_Course_School a_Course_Code) a_Credits a_Grade a_Day a_Sources a_Bundle a_Path)).bind (fun (e : Bool) => some (rB e, [])) :=
  fun n_Kind n_N n_Min n_Set n_L s_Worst s_Best s_Pass a_Course_School a_Course_Code a_Credits a_Grade a_Day a_Sources a_Bundle a_Path => by
    rw [qA qrd qsN.2.2.2 qvz]
    have := qwr; have := @q0M; have := @Zs; have := @q57; have := @QN.eq_1; exact gA
theorem q77 : ∀ (n_Kind n_N n_Min n_Set0_School : Int) (n_Set0_Code : ByteArray) (a_Course_School : Int) (a_Course_Code : ByteArray) (a_Credits a_Grade a_Day a_Bundle s_Worst s_Best s_Pass : Int), ev 17 0 [R.agg [dI n_Kind, dI n_N, dI n_Min, C.d (D.sl 2 1 [D.int .i64 n_Set0_School, D.str n_Set0_Code]), C.d (D.sl 5 0 [])], R.agg [dI s_Worst, dI s_Best, dI s_Pass], R.agg [dI a_Course_School, dS a_Course_Code, dI a_Credits, dI a_Grade, dI a_Day, C.d (D.sl 1 0 []), dI a_Bundle, C.d (D.sl 1 0 [])]] [] = (QN (qb.mk n_Kind n_N n_Min [(qc.mk n_Set0_School n_Set0_Code)] []) (qd.mk s_Worst s_Best s_Pass) (qa.mk (qc.mk a_Course_School a_Course_Code) a_Credits a_Grade a_Day [] a_Bundle [])).bind (fun (e : Bool) => some (rB e, [])) := by
  intro n_Kind n_N n_Min n_Set0_School n_Set0_Code a_Course_School a_Course_Code a_Credits a_Grade a_Day a_Bundle s_Worst s_Best s_Pass; have h := q2h ((qb.mk n_Kind n_N n_Min [(qc.mk n_Set0_School n_Set0_Code)] [])).Kind ((qb.mk n_Kind n_N n_Min [(qc.mk n_Set0_School n_Set0_Code)] [])).N ((qb.mk n_Kind n_N n_Min [(qc.mk n_Set0_School n_Set0_Code)] [])).Min ((qb.mk n_Kind n_N n_Min [(qc.mk n_Set0_School n_Set0_Code)] [])).Set ((qb.mk n_Kind n_N n_Min [(qc.mk n_Set0_School n_Set0_Code)] [])).L ((qd.mk s_Worst s_Best s_Pass)).Worst ((qd.mk s_Worst s_Best s_Pass)).Best ((qd.mk s_Worst s_Best s_Pass)).Pass ((qa.mk (qc.mk a_Course_School a_Course_Code) a_Credits a_Grade a_Day [] a_Bundle [])).Course.School ((qa.mk (qc.mk a_Course_School a_Course_Code) a_Credits a_Grade a_Day [] a_Bundle [])).Course.Code ((qa.mk (qc.mk a_Course_School a_Course_Code) a_Credits a_Grade a_Day [] a_Bundle [])).Credits ((qa.mk (qc.mk a_Course_School a_Course_Code) a_Credits a_Grade a_Day [] a_Bundle [])).Grade ((qa.mk (qc.mk a_Course_School a_Course_Code) a_Credits a_Grade a_Day [] a_Bundle [])).Day ((qa.mk (qc.mk a_Course_School a_Course_Code) a_Credits a_Grade a_Day [] a_Bundle [])).Sources ((qa.mk (qc.mk a_Course_School a_Course_Code) a_Credits a_Grade a_Day [] a_Bundle [])).Bundle ((qa.mk (qc.mk a_Course_School a_Course_Code) a_Credits a_Grade a_Day [] a_Bundle [])).Path
  first
    | exact h
    | (simp only [rL, dL, bR, bZ, Nat.reduceAdd] at h; exact h)
noncomputable def q0a (fu : Nat) (n : qb) (s : qd) (a : qa) : Option Bool :=
  if zS n = Bool.true then Option.bind (zq fu n.Set a.Course) fun (a2 : Bool) =>
    if a2 = Bool.true then Option.bind (q0T fu s a.Grade n.Min) fun (e0 : Bool) =>
      some e0
    else some Bool.false
  else some Bool.false
theorem q2b (fu : Nat) (n : qb) (s : qd) (a : qa) : qk (q0a fu n s a) (QN n s a) := by
  unfold q0a QN
  repeat (first
    | with_reducible exact qk.refl _
    | with_reducible exact qk.none _
    | with_reducible apply Zx
    | with_reducible apply q5N
    | with_reducible refine qk.bind ?_ (fun _ => ?_)
    | with_reducible refine qk.ite ?_ ?_
    | with_reducible refine qk.sum (fun _ => ?_) (fun _ => ?_)
    | with_reducible refine qk.lim (fun _ => ?_))
noncomputable def Ql (b0 : Int) (n : qb) (s : qd) (b3 : ql) (t13 : List qa) (t14 : Int) : (ql × Int) → Option ((ql × Int) ⊕ ql)
  | (out, t15) =>
    if t15 < t14 then if 0 ≤ t15 ∧ t15 < ((t13.length : Nat) : Int) then Option.bind t13[Int.toNat t15]? fun (a : qa) =>
        Option.bind (Zb t15 b0) fun (a2 : Bool) =>
        if a2 = Bool.true then if out.fine = Bool.true then Option.bind (QN n s a) fun (a3 : Bool) =>
            some (Sum.inl (ql.mk (w64 (out.many + 1)) (w64 (out.credits + a.Credits)) a3, w64 (t15 + 1)))
          else some (Sum.inl (ql.mk (w64 (out.many + 1)) (w64 (out.credits + a.Credits)) Bool.false, w64 (t15 + 1)))
        else some (Sum.inl (out, w64 (t15 + 1)))
      else none
    else some (Sum.inr out)
theorem q6Q : ∀ (b0 n_Kind n_N n_Min : Int) (n_Set : List qc) (n_L : List qb) (s_Worst s_Best s_Pass b3_many b3_credits : Int) (b3_fine : Bool) (out_many out_credits : Int) (out_fine : Bool) (t13 : List qa) (t14 t15 : Int), XL2 evo 32 1 3 ⟨[(3, R.c (C.fn 46 [] [dP 0])), (4, rP 1), (5, rP 2), (8, rP 3), (9, rP 4), (13, rL 8 qf t13), (14, rI t14), (15, rI t15)], [(0, B.blk 3 [dI b0]), (1, B.blk 31 [dI n_Kind, dI n_N, dI n_Min, dL 2 qe n_Set, dL 5 qg n_L]), (2, B.blk 37 [dI s_Worst, dI s_Best, dI s_Pass]), (3, B.blk 70 [dI b3_many, dI b3_credits, dB b3_fine]), (4, B.blk 70 [dI out_many, dI out_credits, dB out_fine])], 5, 44⟩ = (qQ (Ql b0 (qb.mk n_Kind n_N n_Min n_Set n_L) (qd.mk s_Worst s_Best s_Pass) (ql.mk b3_many b3_credits b3_fine) t13 t14) ((ql.mk out_many out_credits out_fine), t15)).bind (fun (e : ql) => some (Go.Exit.exit 0, ⟨[(8, rP 1), (9, rP 2)], [(0, B.blk 3 [dI b0]), (1, B.blk 70 [dI b3_many, dI b3_credits, dB b3_fine]), (2, B.blk 70 [dI e.many, dI e.credits, dB e.fine])], 3, 44⟩)) :=
  fun b0 n_Kind n_N n_Min n_Set n_L s_Worst s_Best s_Pass b3_many b3_credits b3_fine out_many out_credits out_fine t13 t14 t15 => by
    have h := q1B (E := evo) (f := 32) (k := 1) (st := fun x : ql × Int => (⟨[(3, R.c (C.fn 46 [] [dP 0])), (4, rP 1), (5, rP 2), (8, rP 3), (9, rP 4), (13, rL 8 qf t13), (14, rI t14), (15, rI x.2)], [(0, B.blk 3 [dI b0]), (1, B.blk 31 [dI n_Kind, dI n_N, dI n_Min, dL 2 qe n_Set, dL 5 qg n_L]), (2, B.blk 37 [dI s_Worst, dI s_Best, dI s_Pass]), (3, B.blk 70 [dI b3_many, dI b3_credits, dB b3_fine]), (4, B.blk 70 [dI x.1.many, dI x.1.credits, dB x.1.fine])], 5, 44⟩ : S)) (ex := fun (e : ql) => (Go.Exit.exit 0, ⟨[(8, rP 1), (9, rP 2)], [(0, B.blk 3 [dI b0]), (1, B.blk 70 [dI b3_many, dI b3_credits, dB b3_fine]), (2, B.blk 70 [dI e.many, dI e.credits, dB e.fine])], 3, 44⟩)) (step := (Ql b0 (qb.mk n_Kind n_N n_Min n_Set n_L) (qd.mk s_Worst s_Best s_Pass) (ql.mk b3_many b3_credits b3_fine) t13 t14)) qk9 qk2 (fun e h => by cases h) (fun x => by
      obtain ⟨out, t15⟩ := x; have := qq3; have := @qcl.eq_1; have := @q5T; have := @q2h; have := @Ql.eq_1; exact gA) ((ql.mk out_many out_credits out_fine), t15)
    exact h
noncomputable def q1u (fu : Nat) (b0 : Int) (n : qb) (s : qd) (b3 : ql) (t13 : List qa) (t14 : Int) : (ql × Int) → Option ((ql × Int) ⊕ ql)
  | (out, t15) =>
    if t15 < t14 then if 0 ≤ t15 ∧ t15 < ((t13.length : Nat) : Int) then Option.bind t13[Int.toNat t15]? fun (a : qa) =>
        Option.bind (Zb t15 b0) fun (a2 : Bool) =>
        if a2 = Bool.true then if out.fine = Bool.true then Option.bind (q0a fu n s a) fun (a3 : Bool) =>
            some (Sum.inl (ql.mk (w64 (out.many + 1)) (w64 (out.credits + a.Credits)) a3, w64 (t15 + 1)))
          else some (Sum.inl (ql.mk (w64 (out.many + 1)) (w64 (out.credits + a.Credits)) Bool.false, w64 (t15 + 1)))
        else some (Sum.inl (out, w64 (t15 + 1)))
      else none
    else some (Sum.inr out)
theorem q6N (fu : Nat) (b0 : Int) (n : qb) (s : qd) (b3 : ql) (t13 : List qa) (t14 : Int) : ∀ x, qk (q1u fu b0 n s b3 t13 t14 x) (Ql b0 n s b3 t13 t14 x) := by
  rintro ⟨out, t15⟩
  unfold q1u Ql
  try dsimp only
  repeat (first
    | with_reducible exact qk.refl _
    | with_reducible exact qk.none _
    | with_reducible apply q2b
    | with_reducible refine qk.bind ?_ (fun _ => ?_)
    | with_reducible refine qk.ite ?_ ?_
    | with_reducible refine qk.sum (fun _ => ?_) (fun _ => ?_)
    | with_reducible refine qk.lim (fun _ => ?_))
noncomputable def QX (n : qb) (s : qd) (l : List qa) (b0 : Int) : Option ql :=
  Option.bind (qQ (Ql b0 n s (ql.mk 0 0 Bool.false) l ((l.length : Nat) : Int)) (ql.mk 0 0 Bool.true, 0)) fun (a : ql) =>
  some a
theorem q0e : ∀ (n_Kind n_N n_Min : Int) (n_Set : List qc) (n_L : List qb) (s_Worst s_Best s_Pass : Int) (l : List qa) (b0 : Int), ev 32 1 [R.agg [dI n_Kind, dI n_N, dI n_Min, dL 2 qe n_Set, dL 5 qg n_L], R.agg [dI s_Worst, dI s_Best, dI s_Pass], rL 8 qf l, R.c (C.fn 46 [] [dP 0])] [(0, B.blk 3 [dI b0])] = (QX (qb.mk n_Kind n_N n_Min n_Set n_L) (qd.mk s_Worst s_Best s_Pass) l b0).bind (fun (e : ql) => some (R.agg [dI e.many, dI e.credits, dB e.fine], [(0, B.blk 3 [dI b0])])) :=
  fun n_Kind n_N n_Min n_Set n_L s_Worst s_Best s_Pass l b0 => by
    rw [qA qni qqr.2.2.2 qrS]
    have := qq3; have := @q6Q; have := @QX.eq_1; exact gA
noncomputable def q08 (fu : Nat) (n : qb) (s : qd) (l : List qa) (b0 : Int) : Option ql :=
  Option.bind (itT (q1u fu b0 n s (ql.mk 0 0 Bool.false) l ((l.length : Nat) : Int)) fu (ql.mk 0 0 Bool.true, 0)) fun (a : ql) =>
  some a
theorem q0b (fu : Nat) (n : qb) (s : qd) (l : List qa) (b0 : Int) : qk (q08 fu n s l b0) (QX n s l b0) := by
  unfold q08 QX
  repeat (first
    | with_reducible exact qk.refl _
    | with_reducible exact qk.none _
    | with_reducible apply q6N
    | with_reducible refine qk.bind ?_ (fun _ => ?_)
    | with_reducible refine qk.ite ?_ ?_
    | with_reducible refine qk.sum (fun _ => ?_) (fun _ => ?_)
    | with_reducible refine qk.lim (fun _ => ?_))
theorem qvG : okL 50 qh9 := qz (qi qs0) (by kernel_rfl) (by kernel_rfl)
def quu := JA_ @qh9.eq_1 (JA_ @Try.f50.eq_1 @qs0)
noncomputable def ZY (x : ql) (x1 : qb) : Option Bool :=
  if x.fine = Bool.true then some (x.many == 1)
  else some Bool.false
noncomputable def qx (x : ql) (x1 : qb) : Bool :=
  if x.fine = Bool.true then x.many == 1
  else Bool.false
theorem q3A (x : ql) (x1 : qb) : ZY x x1 = some (qx x x1) := by
  unfold ZY qx
  simp only [Qa]
theorem J3 : ∀ (x_many x_credits : Int) (x_fine : Bool) (x1_Kind x1_N x1_Min : Int) (x1_Set : List qc) (x1_L : List qb), ev 50 0 [R.agg [dI x_many, dI x_credits, dB x_fine], R.agg [dI x1_Kind, dI x1_N, dI x1_Min, dL 2 qe x1_Set, dL 5 qg x1_L]] [] = some (rB (qx (ql.mk x_many x_credits x_fine) (qb.mk x1_Kind x1_N x1_Min x1_Set x1_L)), []) :=
  fun x_many x_credits x_fine x1_Kind x1_N x1_Min x1_Set x1_L => by
    have h : ev 50 0 [R.agg [dI x_many, dI x_credits, dB x_fine], R.agg [dI x1_Kind, dI x1_N, dI x1_Min, dL 2 qe x1_Set, dL 5 qg x1_L]] [] = (ZY (ql.mk x_many x_credits x_fine) (qb.mk x1_Kind x1_N x1_Min x1_Set x1_L)).bind (fun (e : Bool) => some (rB e, [])) := by
      rw [qA qs0 qsB.2.2.2 qvG]
      have := quu; have := @ZY.eq_1; exact gA
    rw [q3A] at h
    exact h
theorem qvr : okL 51 qfa := qz (qi qqE) (by kernel_rfl) (by kernel_rfl)
def quc := JA_ @qfa.eq_1 (JA_ @Try.f51.eq_1 @qqE)
noncomputable def q0g (x : ql) (n : qb) : Option Bool :=
  if x.fine = Bool.true then if 0 < x.many then some (decide (n.N ≤ x.credits))
    else some Bool.false
  else some Bool.false
noncomputable def qI (x : ql) (n : qb) : Bool :=
  if x.fine = Bool.true then if 0 < x.many then decide (n.N ≤ x.credits)
    else Bool.false
  else Bool.false
theorem q5k (x : ql) (n : qb) : q0g x n = some (qI x n) := by
  unfold q0g qI
  simp only [Qa]
theorem q01 : ∀ (x_many x_credits : Int) (x_fine : Bool) (n_Kind n_N n_Min : Int) (n_Set : List qc) (n_L : List qb), ev 51 0 [R.agg [dI x_many, dI x_credits, dB x_fine], R.agg [dI n_Kind, dI n_N, dI n_Min, dL 2 qe n_Set, dL 5 qg n_L]] [] = some (rB (qI (ql.mk x_many x_credits x_fine) (qb.mk n_Kind n_N n_Min n_Set n_L)), []) :=
  fun x_many x_credits x_fine n_Kind n_N n_Min n_Set n_L => by
    have h : ev 51 0 [R.agg [dI x_many, dI x_credits, dB x_fine], R.agg [dI n_Kind, dI n_N, dI n_Min, dL 2 qe n_Set, dL 5 qg n_L]] [] = (q0g (ql.mk x_many x_credits x_fine) (qb.mk n_Kind n_N n_Min n_Set n_L)).bind (fun (e : Bool) => some (rB e, [])) := by
      rw [qA qqE qsv.2.2.2 qvr]
      have := quc; have := @q0g.eq_1; exact gA
    rw [q5k] at h
    exact h
noncomputable def qy (x : (qb × List qa × Int × qd)) : List R × List (Nat × B) := ([R.agg [C.d (D.int .i64 x.1.Kind), C.d (D.int .i64 x.1.N), C.d (D.int .i64 x.1.Min), C.d (D.sl 2 x.1.Set.length (x.1.Set.flatMap qe)), C.d (D.sl 5 x.1.L.length (x.1.L.flatMap qg))], R.c (C.ptr 0 0), R.c (C.ptr 1 0), R.c (C.ptr 2 0), R.c (C.ptr 3 0), R.c (C.ptr 4 0), R.c (C.ptr 5 0)], [(0, B.blk 32 [C.d (D.sl 8 x.2.1.length (x.2.1.flatMap qf))]), (1, B.blk 62 [C.fn 22 [] []]), (2, B.blk 3 [C.d (D.int .i64 x.2.2.1)]), (3, B.blk 37 [C.d (D.int .i64 x.2.2.2.Worst), C.d (D.int .i64 x.2.2.2.Best), C.d (D.int .i64 x.2.2.2.Pass)]), (4, B.blk 94 [C.fn 45 [] [C.ptr 0 0, C.ptr 1 0, C.ptr 2 0, C.ptr 3 0, C.ptr 4 0, C.ptr 5 0]]), (5, B.blk 62 [C.fn 23 [] []])])
noncomputable def qY : (List Bool × List qa × Int × qd) → R × List (Nat × B) := fun (e : List Bool × List qa × Int × qd) => (R.c (C.d (D.sl 1 e.1.length (e.1.flatMap eB))), [(0, B.blk 32 [C.d (D.sl 8 e.2.1.length (e.2.1.flatMap qf))]), (1, B.blk 62 [C.fn 22 [] []]), (2, B.blk 3 [C.d (D.int .i64 e.2.2.1)]), (3, B.blk 37 [C.d (D.int .i64 e.2.2.2.Worst), C.d (D.int .i64 e.2.2.2.Best), C.d (D.int .i64 e.2.2.2.Pass)]), (4, B.blk 94 [C.fn 45 [] [C.ptr 0 0, C.ptr 1 0, C.ptr 2 0, C.ptr 3 0, C.ptr 4 0, C.ptr 5 0]]), (5, B.blk 62 [C.fn 23 [] []])])
end Go.Proofs.Ytgejdfnidjnjcaa.Vc
namespace Go.Proofs.Ytgejdfnidjnjcaa.Vc
open Go.RowKit
set_option linter.unusedVariables false
set_option linter.unusedSimpArgs false
set_option maxRecDepth 20000
set_option linter.defProp false
noncomputable def zB (rF : (qb × List qa × Int × qd) → Option (List Bool × List qa × Int × qd)) (b0 : List qa) (b2 : Int) (b3 : qd) (b6 : qb) : (List Bool × Int) → Option ((List Bool × Int) ⊕ (List Bool))
  | (w7, b8) =>
    if b8 < ((w7.length : Nat) : Int) then Option.bind (QX b6 b3 b0 b8) fun (a2 : ql) =>
      if 0 ≤ b8 ∧ b8 < ((w7.length : Nat) : Int) then if Int.toNat b8 + 1 ≤ w7.length then some (Sum.inl (List.set w7 (Int.toNat b8) (qx a2 b6), w64 (b8 + 1)))
        else none
      else none
    else some (Sum.inr w7)
theorem q30 (rE : Orc) (rF : (qb × List qa × Int × qd) → Option (List Bool × List qa × Int × qd)) (hF : ∀ y, rE (.fn 45) 6 (qy y).1 (qy y).2 = (rF y).bind fun e => some (qY e)) (hM : ∀ g k a G, g ≠ 45 → rE (.fn g) k a G = ev g k a G) (hR : ∀ g asg bd k a G, rE (.rd g asg bd) k a G = evr g asg bd k a G) : ∀ (w7 : List Bool) (b0 : List qa) (b2 b3_Worst b3_Best b3_Pass b6_Kind b6_N b6_Min : Int) (b6_Set : List qc) (b6_L : List qb) (b8 : Int) (w7_len : Nat), w7_len = w7.length → XL2 rE 45 6 5 ⟨[(1, rP 0), (2, rP 1), (3, rP 2), (4, rP 3), (7, rP 6), (9, rO 7 1 w7_len), (10, R.c (C.fn 50 [] [])), (11, rP 8)], [(0, B.blk 32 [dL 8 qf b0]), (1, B.blk 62 [C.fn 22 [] []]), (2, B.blk 3 [dI b2]), (3, B.blk 37 [dI b3_Worst, dI b3_Best, dI b3_Pass]), (4, B.blk 94 [C.fn 45 [] [dP 0, dP 1, dP 2, dP 3, dP 4, dP 5]]), (5, B.blk 62 [C.fn 23 [] []]), (6, B.blk 31 [dI b6_Kind, dI b6_N, dI b6_Min, dL 2 qe b6_Set, dL 5 qg b6_L]), (7, bR 4 1 eB w7), (8, B.blk 3 [dI b8])], 9, 142⟩ = (qQ (zB rF b0 b2 (qd.mk b3_Worst b3_Best b3_Pass) (qb.mk b6_Kind b6_N b6_Min b6_Set b6_L)) (w7, b8)).bind (fun (e : List Bool) => some (Go.Exit.exit 0, ⟨[(3, rP 2), (9, rO 6 1 e.length)], [(0, B.blk 32 [dL 8 qf b0]), (1, B.blk 62 [C.fn 22 [] []]), (2, B.blk 3 [dI b2]), (3, B.blk 37 [dI b3_Worst, dI b3_Best, dI b3_Pass]), (4, B.blk 94 [C.fn 45 [] [dP 0, dP 1, dP 2, dP 3, dP 4, dP 5]]), (5, B.blk 62 [C.fn 23 [] []]), (6, bR 4 1 eB e)], 7, 142⟩)) :=
  by
  intro w7 b0 b2 b3_Worst b3_Best b3_Pass b6_Kind b6_N b6_Min b6_Set b6_L b8 w7_len h0
  subst h0
  revert b8; revert w7; exact q92 qc5 qcn (fun e => by exact ⟨_, rfl, fun h => by cases h⟩) fun w7 b8 => by
    have hF' : ∀ (x0_Kind x0_N x0_Min : Int) (x0_Set : List qc) (x0_L : List qb) (v : List qa) (v2 v3_Worst v3_Best v3_Pass : Int), rE (.fn 45) 6 [R.agg [dI x0_Kind, dI x0_N, dI x0_Min, dL 2 qe x0_Set, dL 5 qg x0_L], rP 0, rP 1, rP 2, rP 3, rP 4, rP 5] [(0, B.blk 32 [dL 8 qf v]), (1, B.blk 62 [C.fn 22 [] []]), (2, B.blk 3 [dI v2]), (3, B.blk 37 [dI v3_Worst, dI v3_Best, dI v3_Pass]), (4, B.blk 94 [C.fn 45 [] [dP 0, dP 1, dP 2, dP 3, dP 4, dP 5]]), (5, B.blk 62 [C.fn 23 [] []])] = (rF ((qb.mk x0_Kind x0_N x0_Min x0_Set x0_L), v, v2, (qd.mk v3_Worst v3_Best v3_Pass))).bind (fun e => some (rL 1 eB e.1, [(0, B.blk 32 [dL 8 qf e.2.1]), (1, B.blk 62 [C.fn 22 [] []]), (2, B.blk 3 [dI e.2.2.1]), (3, B.blk 37 [dI e.2.2.2.Worst, dI e.2.2.2.Best, dI e.2.2.2.Pass]), (4, B.blk 94 [C.fn 45 [] [dP 0, dP 1, dP 2, dP 3, dP 4, dP 5]]), (5, B.blk 62 [C.fn 23 [] []])])) := fun x0_Kind x0_N x0_Min x0_Set x0_L v v2 v3_Worst v3_Best v3_Pass => hF ((qb.mk x0_Kind x0_N x0_Min x0_Set x0_L), v, v2, (qd.mk v3_Worst v3_Best v3_Pass))
    have := qc7; have := @q9g.eq_1; have := @q3o; have := @q0e; have := @J3; have := @zB.eq_1; exact gA
noncomputable def JB (fu : Nat) (rF : (qb × List qa × Int × qd) → Option (List Bool × List qa × Int × qd)) (b0 : List qa) (b2 : Int) (b3 : qd) (b6 : qb) : (List Bool × Int) → Option ((List Bool × Int) ⊕ (List Bool))
  | (w7, b8) =>
    if b8 < ((w7.length : Nat) : Int) then Option.bind (q08 fu b6 b3 b0 b8) fun (a2 : ql) =>
      if 0 ≤ b8 ∧ b8 < ((w7.length : Nat) : Int) then if Int.toNat b8 + 1 ≤ w7.length then some (Sum.inl (List.set w7 (Int.toNat b8) (qx a2 b6), w64 (b8 + 1)))
        else none
      else none
    else some (Sum.inr w7)
theorem q3s (fu : Nat) (rF rF2 : (qb × List qa × Int × qd) → Option (List Bool × List qa × Int × qd)) (hF : ∀ y, qk (rF y) (rF2 y)) (b0 : List qa) (b2 : Int) (b3 : qd) (b6 : qb) : ∀ x, qk (JB fu rF b0 b2 b3 b6 x) (zB rF2 b0 b2 b3 b6 x) := by
  rintro ⟨w7, b8⟩
  unfold JB zB
  try dsimp only
  repeat (first
    | with_reducible exact qk.refl _
    | with_reducible exact qk.none _
    | exact hF _
    | with_reducible apply q0b
    | with_reducible refine qk.bind ?_ (fun _ => ?_)
    | with_reducible refine qk.ite ?_ ?_
    | with_reducible refine qk.sum (fun _ => ?_) (fun _ => ?_)
    | with_reducible refine qk.lim (fun _ => ?_))
noncomputable def zC (rF : (qb × List qa × Int × qd) → Option (List Bool × List qa × Int × qd)) (b0 : List qa) (b2 : Int) (b3 : qd) (b6 : qb) : (List Bool × Int) → Option ((List Bool × Int) ⊕ (List Bool))
  | (w7, b8) =>
    if b8 < ((w7.length : Nat) : Int) then Option.bind (QX b6 b3 b0 b8) fun (a2 : ql) =>
      if 0 ≤ b8 ∧ b8 < ((w7.length : Nat) : Int) then if Int.toNat b8 + 1 ≤ w7.length then some (Sum.inl (List.set w7 (Int.toNat b8) (qI a2 b6), w64 (b8 + 1)))
        else none
      else none
    else some (Sum.inr w7)
theorem q3u (rE : Orc) (rF : (qb × List qa × Int × qd) → Option (List Bool × List qa × Int × qd)) (hF : ∀ y, rE (.fn 45) 6 (qy y).1 (qy y).2 = (rF y).bind fun e => some (qY e)) (hM : ∀ g k a G, g ≠ 45 → rE (.fn g) k a G = ev g k a G) (hR : ∀ g asg bd k a G, rE (.rd g asg bd) k a G = evr g asg bd k a G) : ∀ (w7 : List Bool) (b0 : List qa) (b2 b3_Worst b3_Best b3_Pass b6_Kind b6_N b6_Min : Int) (b6_Set : List qc) (b6_L : List qb) (b8 : Int) (w7_len : Nat), w7_len = w7.length → XL2 rE 45 6 5 ⟨[(1, rP 0), (2, rP 1), (3, rP 2), (4, rP 3), (7, rP 6), (9, rO 7 1 w7_len), (10, R.c (C.fn 51 [] [])), (11, rP 8)], [(0, B.blk 32 [dL 8 qf b0]), (1, B.blk 62 [C.fn 22 [] []]), (2, B.blk 3 [dI b2]), (3, B.blk 37 [dI b3_Worst, dI b3_Best, dI b3_Pass]), (4, B.blk 94 [C.fn 45 [] [dP 0, dP 1, dP 2, dP 3, dP 4, dP 5]]), (5, B.blk 62 [C.fn 23 [] []]), (6, B.blk 31 [dI b6_Kind, dI b6_N, dI b6_Min, dL 2 qe b6_Set, dL 5 qg b6_L]), (7, bR 4 1 eB w7), (8, B.blk 3 [dI b8])], 9, 142⟩ = (qQ (zC rF b0 b2 (qd.mk b3_Worst b3_Best b3_Pass) (qb.mk b6_Kind b6_N b6_Min b6_Set b6_L)) (w7, b8)).bind (fun (e : List Bool) => some (Go.Exit.exit 0, ⟨[(3, rP 2), (9, rO 6 1 e.length)], [(0, B.blk 32 [dL 8 qf b0]), (1, B.blk 62 [C.fn 22 [] []]), (2, B.blk 3 [dI b2]), (3, B.blk 37 [dI b3_Worst, dI b3_Best, dI b3_Pass]), (4, B.blk 94 [C.fn 45 [] [dP 0, dP 1, dP 2, dP 3, dP 4, dP 5]]), (5, B.blk 62 [C.fn 23 [] []]), (6, bR 4 1 eB e)], 7, 142⟩)) :=
  by
  intro w7 b0 b2 b3_Worst b3_Best b3_Pass b6_Kind b6_N b6_Min b6_Set b6_L b8 w7_len h0
  subst h0
  revert b8; revert w7; exact q92 qc5 qcn (fun e => by exact ⟨_, rfl, fun h => by cases h⟩) fun w7 b8 => by
    have hF' : ∀ (x0_Kind x0_N x0_Min : Int) (x0_Set : List qc) (x0_L : List qb) (v : List qa) (v2 v3_Worst v3_Best v3_Pass : Int), rE (.fn 45) 6 [R.agg [dI x0_Kind, dI x0_N, dI x0_Min, dL 2 qe x0_Set, dL 5 qg x0_L], rP 0, rP 1, rP 2, rP 3, rP 4, rP 5] [(0, B.blk 32 [dL 8 qf v]), (1, B.blk 62 [C.fn 22 [] []]), (2, B.blk 3 [dI v2]), (3, B.blk 37 [dI v3_Worst, dI v3_Best, dI v3_Pass]), (4, B.blk 94 [C.fn 45 [] [dP 0, dP 1, dP 2, dP 3, dP 4, dP 5]]), (5, B.blk 62 [C.fn 23 [] []])] = (rF ((qb.mk x0_Kind x0_N x0_Min x0_Set x0_L), v, v2, (qd.mk v3_Worst v3_Best v3_Pass))).bind (fun e => some (rL 1 eB e.1, [(0, B.blk 32 [dL 8 qf e.2.1]), (1, B.blk 62 [C.fn 22 [] []]), (2, B.blk 3 [dI e.2.2.1]), (3, B.blk 37 [dI e.2.2.2.Worst, dI e.2.2.2.Best, dI e.2.2.2.Pass]), (4, B.blk 94 [C.fn 45 [] [dP 0, dP 1, dP 2, dP 3, dP 4, dP 5]]), (5, B.blk 62 [C.fn 23 [] []])])) := fun x0_Kind x0_N x0_Min x0_Set x0_L v v2 v3_Worst v3_Best v3_Pass => hF ((qb.mk x0_Kind x0_N x0_Min x0_Set x0_L), v, v2, (qd.mk v3_Worst v3_Best v3_Pass))
    have := qc7; have := @q9g.eq_1; have := @q3o; have := @q0e; have := @q01; have := @zC.eq_1; exact gA
noncomputable def JL (fu : Nat) (rF : (qb × List qa × Int × qd) → Option (List Bool × List qa × Int × qd)) (b0 : List qa) (b2 : Int) (b3 : qd) (b6 : qb) : (List Bool × Int) → Option ((List Bool × Int) ⊕ (List Bool))
  | (w7, b8) =>
    if b8 < ((w7.length : Nat) : Int) then Option.bind (q08 fu b6 b3 b0 b8) fun (a2 : ql) =>
      if 0 ≤ b8 ∧ b8 < ((w7.length : Nat) : Int) then if Int.toNat b8 + 1 ≤ w7.length then some (Sum.inl (List.set w7 (Int.toNat b8) (qI a2 b6), w64 (b8 + 1)))
        else none
      else none
    else some (Sum.inr w7)
theorem q33 (fu : Nat) (rF rF2 : (qb × List qa × Int × qd) → Option (List Bool × List qa × Int × qd)) (hF : ∀ y, qk (rF y) (rF2 y)) (b0 : List qa) (b2 : Int) (b3 : qd) (b6 : qb) : ∀ x, qk (JL fu rF b0 b2 b3 b6 x) (zC rF2 b0 b2 b3 b6 x) := by
  rintro ⟨w7, b8⟩
  unfold JL zC
  try dsimp only
  repeat (first
    | with_reducible exact qk.refl _
    | with_reducible exact qk.none _
    | exact hF _
    | with_reducible apply q0b
    | with_reducible refine qk.bind ?_ (fun _ => ?_)
    | with_reducible refine qk.ite ?_ ?_
    | with_reducible refine qk.sum (fun _ => ?_) (fun _ => ?_)
    | with_reducible refine qk.lim (fun _ => ?_))
noncomputable def z5 (rF : (qb × List qa × Int × qd) → Option (List Bool × List qa × Int × qd)) (w7 : List Bool) (b0 : List qa) (b2 : Int) (b3 : qd) (b6 : qb) : (List Int × Int) → Option ((List Int × Int) ⊕ (List Int))
  | (w9, t13) =>
    if t13 < ((w9.length : Nat) : Int) then if 0 ≤ t13 ∧ t13 < ((w9.length : Nat) : Int) then if Int.toNat t13 + 1 ≤ w9.length then some (Sum.inl (List.set w9 (Int.toNat t13) (-1), w64 (t13 + 1)))
        else none
      else none
    else some (Sum.inr w9)
theorem q2S (rE : Orc) (rF : (qb × List qa × Int × qd) → Option (List Bool × List qa × Int × qd)) (hF : ∀ y, rE (.fn 45) 6 (qy y).1 (qy y).2 = (rF y).bind fun e => some (qY e)) (hM : ∀ g k a G, g ≠ 45 → rE (.fn g) k a G = ev g k a G) (hR : ∀ g asg bd k a G, rE (.rd g asg bd) k a G = evr g asg bd k a G) : ∀ (w7 : List Bool) (w9 : List Int) (b0 : List qa) (b2 b3_Worst b3_Best b3_Pass b6_Kind b6_N b6_Min : Int) (b6_Set : List qc) (b6_L : List qb) (t13 : Int) (w7_len w9_len : Nat), w7_len = w7.length → w9_len = w9.length → XL2 rE 45 6 14 ⟨[(3, rP 2), (5, rP 4), (6, rP 5), (7, rP 6), (9, rO 7 1 w7_len), (12, rP 8), (13, rI t13)], [(0, B.blk 32 [dL 8 qf b0]), (1, B.blk 62 [C.fn 22 [] []]), (2, B.blk 3 [dI b2]), (3, B.blk 37 [dI b3_Worst, dI b3_Best, dI b3_Pass]), (4, B.blk 94 [C.fn 45 [] [dP 0, dP 1, dP 2, dP 3, dP 4, dP 5]]), (5, B.blk 62 [C.fn 23 [] []]), (6, B.blk 31 [dI b6_Kind, dI b6_N, dI b6_Min, dL 2 qe b6_Set, dL 5 qg b6_L]), (7, bR 4 1 eB w7), (8, B.blk 95 [dO 9 1 w9_len]), (9, bR 3 1 eI w9)], 10, 142⟩ = (qQ (z5 rF w7 b0 b2 (qd.mk b3_Worst b3_Best b3_Pass) (qb.mk b6_Kind b6_N b6_Min b6_Set b6_L)) (w9, t13)).bind (fun (e : List Int) => some (Go.Exit.exit 2, ⟨[(3, rP 2), (5, rP 4), (6, rP 5), (7, rP 6), (9, rO 7 1 w7.length), (12, rP 8)], [(0, B.blk 32 [dL 8 qf b0]), (1, B.blk 62 [C.fn 22 [] []]), (2, B.blk 3 [dI b2]), (3, B.blk 37 [dI b3_Worst, dI b3_Best, dI b3_Pass]), (4, B.blk 94 [C.fn 45 [] [dP 0, dP 1, dP 2, dP 3, dP 4, dP 5]]), (5, B.blk 62 [C.fn 23 [] []]), (6, B.blk 31 [dI b6_Kind, dI b6_N, dI b6_Min, dL 2 qe b6_Set, dL 5 qg b6_L]), (7, bR 4 1 eB w7), (8, B.blk 95 [dO 9 1 e.length]), (9, bR 3 1 eI e)], 10, 142⟩)) :=
  by
  intro w7 w9 b0 b2 b3_Worst b3_Best b3_Pass b6_Kind b6_N b6_Min b6_Set b6_L t13 w7_len w9_len h0 h1
  subst h0 h1
  revert t13; revert w9; exact q92 qgB qey (fun e => by exact ⟨_, rfl, fun h => by cases h⟩) fun w9 t13 => by
    have hF' : ∀ (x0_Kind x0_N x0_Min : Int) (x0_Set : List qc) (x0_L : List qb) (v : List qa) (v2 v3_Worst v3_Best v3_Pass : Int), rE (.fn 45) 6 [R.agg [dI x0_Kind, dI x0_N, dI x0_Min, dL 2 qe x0_Set, dL 5 qg x0_L], rP 0, rP 1, rP 2, rP 3, rP 4, rP 5] [(0, B.blk 32 [dL 8 qf v]), (1, B.blk 62 [C.fn 22 [] []]), (2, B.blk 3 [dI v2]), (3, B.blk 37 [dI v3_Worst, dI v3_Best, dI v3_Pass]), (4, B.blk 94 [C.fn 45 [] [dP 0, dP 1, dP 2, dP 3, dP 4, dP 5]]), (5, B.blk 62 [C.fn 23 [] []])] = (rF ((qb.mk x0_Kind x0_N x0_Min x0_Set x0_L), v, v2, (qd.mk v3_Worst v3_Best v3_Pass))).bind (fun e => some (rL 1 eB e.1, [(0, B.blk 32 [dL 8 qf e.2.1]), (1, B.blk 62 [C.fn 22 [] []]), (2, B.blk 3 [dI e.2.2.1]), (3, B.blk 37 [dI e.2.2.2.Worst, dI e.2.2.2.Best, dI e.2.2.2.Pass]), (4, B.blk 94 [C.fn 45 [] [dP 0, dP 1, dP 2, dP 3, dP 4, dP 5]]), (5, B.blk 62 [C.fn 23 [] []])])) := fun x0_Kind x0_N x0_Min x0_Set x0_L v v2 v3_Worst v3_Best v3_Pass => hF ((qb.mk x0_Kind x0_N x0_Min x0_Set x0_L), v, v2, (qd.mk v3_Worst v3_Best v3_Pass))
    have := qc7; have := @qal.eq_1; have := @z5.eq_1; exact gA
noncomputable def Jl (fu : Nat) (rF : (qb × List qa × Int × qd) → Option (List Bool × List qa × Int × qd)) (w7 : List Bool) (b0 : List qa) (b2 : Int) (b3 : qd) (b6 : qb) : (List Int × Int) → Option ((List Int × Int) ⊕ (List Int))
  | (w9, t13) =>
    if t13 < ((w9.length : Nat) : Int) then if 0 ≤ t13 ∧ t13 < ((w9.length : Nat) : Int) then if Int.toNat t13 + 1 ≤ w9.length then some (Sum.inl (List.set w9 (Int.toNat t13) (-1), w64 (t13 + 1)))
        else none
      else none
    else some (Sum.inr w9)
theorem q2K (fu : Nat) (rF rF2 : (qb × List qa × Int × qd) → Option (List Bool × List qa × Int × qd)) (hF : ∀ y, qk (rF y) (rF2 y)) (w7 : List Bool) (b0 : List qa) (b2 : Int) (b3 : qd) (b6 : qb) : ∀ x, qk (Jl fu rF w7 b0 b2 b3 b6 x) (z5 rF2 w7 b0 b2 b3 b6 x) := by
  rintro ⟨w9, t13⟩
  unfold Jl z5
  try dsimp only
  repeat (first
    | with_reducible exact qk.refl _
    | with_reducible exact qk.none _
    | exact hF _
    | with_reducible refine qk.bind ?_ (fun _ => ?_)
    | with_reducible refine qk.ite ?_ ?_
    | with_reducible refine qk.sum (fun _ => ?_) (fun _ => ?_)
    | with_reducible refine qk.lim (fun _ => ?_))
theorem qup : okL 23 qfw := qz (qi qqs) (by kernel_rfl) (by kernel_rfl)
def qvQ := JA_ @qfw.eq_1 (JA_ @Try.f23.eq_1 @qqs)
noncomputable def q1g (x0 : Int) (x1 : Int) : Option Unit :=
  some ()
noncomputable def q4i (x0 : Int) (x1 : Int) : Unit :=
  ()
theorem q7A (x0 x1 : Int) : q1g x0 x1 = some (q4i x0 x1) := by
  unfold q1g q4i
  simp only [Qa]
theorem q8Q : ∀ (x0 x1 : Int), ev 23 0 [rI x0, rI x1] [] = some (rB Bool.false, []) :=
  fun x0 x1 => by
    have h : ev 23 0 [rI x0, rI x1] [] = (q1g x0 x1).bind (fun (e : Unit) => some (rB Bool.false, [])) := by
      rw [qA qqs qtN.2.2.2 qup]
      have := qvQ; have := @q1g.eq_1; exact gA
    rw [q7A] at h
    exact h
theorem qtI : okL 47 qcc := qz (qi qq5) (by kernel_rfl) (by kernel_rfl)
def qtX := JA_ @qcc.eq_1 (JA_ @Try.f47.eq_1 @qq5)
theorem qmW : lbO 47 1 = qh0 := Qj (qi qq5) rfl
theorem qnB : okL 47 qh0 := zp qtI (List.mem_of_getElem? (i := 0) (by kernel_rfl))
theorem quJ : okL 48 qeF := qz (qi qqM) (by kernel_rfl) (by kernel_rfl)
def qw8 := JA_ @qeF.eq_1 (JA_ @Try.f48.eq_1 @qqM)
noncomputable def ZI (sub : Int) (rest : Int) (w4 : List Int) (w5 : List Int) (v : List Bool) (v2 : Int) : Option (List Int) :=
  if 0 ≤ sub ∧ sub < ((v.length : Nat) : Int) then Option.bind v[Int.toNat sub]? fun (a : Bool) =>
    if a = Bool.true then if 0 ≤ rest ∧ rest < ((w4.length : Nat) : Int) then Option.bind w4[Int.toNat rest]? fun (a2 : Int) =>
        if 0 ≤ a2 then if 0 ≤ v2 ∧ v2 < ((w5.length : Nat) : Int) then Option.bind w5[Int.toNat v2]? fun (a3 : Int) =>
            if 0 ≤ rest ∧ rest < ((w4.length : Nat) : Int) then Option.bind w4[Int.toNat rest]? fun (a4 : Int) =>
              if 0 ≤ v2 ∧ v2 < ((w5.length : Nat) : Int) then if Int.toNat v2 + 1 ≤ w5.length then some (List.set w5 (Int.toNat v2) (max a3 (w64 (a4 + 1))))
                else none
              else none
            else none
          else none
        else some w5
      else none
    else some w5
  else none
theorem q5H : ∀ (sub rest : Int) (w4 w5 : List Int) (v : List Bool) (v2 : Int) (w4_len w5_len : Nat), w4_len = w4.length → w5_len = w5.length → ev 48 4 [rI sub, rI rest, rP 0, rP 1, rP 2, rP 3] [(0, B.blk 63 [dL 1 eB v]), (1, B.blk 95 [dO 4 1 w4_len]), (2, B.blk 95 [dO 5 1 w5_len]), (3, B.blk 3 [dI v2]), (4, bR 3 1 eI w4), (5, bR 3 1 eI w5)] = (ZI sub rest w4 w5 v v2).bind (fun (e : List Int) => some (R.tup [], [(0, B.blk 63 [dL 1 eB v]), (1, B.blk 95 [dO 4 1 w4.length]), (2, B.blk 95 [dO 5 1 e.length]), (3, B.blk 3 [dI v2]), (4, bR 3 1 eI w4), (5, bR 3 1 eI e)])) :=
  by
  intro sub rest w4 w5 v v2 w4_len w5_len h0 h1
  subst h0 h1
  rw [qA qqM qtL.2.2.2 quJ]
  have := qw8; have := @ZI.eq_1; exact gA
noncomputable def qJ (w4 : List Int) (b0 : List Bool) (b3 : Int) (set0 : Int) : (List Int × Int) → Option ((List Int × Int) ⊕ (List Int))
  | (w5, sub) =>
    if 0 < sub then Option.bind (ZI sub (ZZ Go.BinOp.andNot Go.IntKind.i64 set0 sub) w4 w5 b0 b3) fun (a : List Int) =>
      some (Sum.inl (a, ZZ Go.BinOp.and Go.IntKind.i64 (w64 (sub - 1)) set0))
    else some (Sum.inr w5)
theorem q19 : ∀ (w4 w5 : List Int) (b0 : List Bool) (b3 set0 sub : Int) (w4_len w5_len : Nat), w4_len = w4.length → w5_len = w5.length → XL2 evo 47 4 1 ⟨[(1, rI set0), (2, R.c (C.fn 48 [] [dP 0, dP 1, dP 2, dP 3])), (6, rI sub)], [(0, B.blk 63 [dL 1 eB b0]), (1, B.blk 95 [dO 4 1 w4_len]), (2, B.blk 95 [dO 5 1 w5_len]), (3, B.blk 3 [dI b3]), (4, bR 3 1 eI w4), (5, bR 3 1 eI w5)], 6, 20⟩ = (qQ (qJ w4 b0 b3 set0) (w5, sub)).bind (fun (e : List Int) => some (Go.Exit.exit 0, ⟨[], [(0, B.blk 63 [dL 1 eB b0]), (1, B.blk 95 [dO 4 1 w4.length]), (2, B.blk 95 [dO 5 1 e.length]), (3, B.blk 3 [dI b3]), (4, bR 3 1 eI w4), (5, bR 3 1 eI e)], 6, 20⟩)) :=
  by
  intro w4 w5 b0 b3 set0 sub w4_len w5_len h0 h1
  subst h0 h1
  revert sub; revert w5; exact q92 qmW qnB (fun e => by exact ⟨_, rfl, fun h => by cases h⟩) fun w5 sub => by
    have := qtX; have := @qh0.eq_1; have := @q5H; have := @qJ.eq_1; exact gA
noncomputable def qF (set0 : Int) (t : List Int) (w5 : List Int) (b0 : List Bool) (b3 : Int) : Option (List Int) :=
  Option.bind (qQ (qJ t b0 b3 set0) (w5, set0)) fun (a : List Int) =>
  some a
theorem Jz : ∀ (set0 : Int) (t w5 : List Int) (b0 : List Bool) (b3 : Int) (t_len w5_len : Nat), t_len = t.length → w5_len = w5.length → ev 47 4 [rO 4 1 t_len, rI set0, R.c (C.fn 48 [] [dP 0, dP 1, dP 2, dP 3])] [(0, B.blk 63 [dL 1 eB b0]), (1, B.blk 95 [dO 4 1 t_len]), (2, B.blk 95 [dO 5 1 w5_len]), (3, B.blk 3 [dI b3]), (4, bR 3 1 eI t), (5, bR 3 1 eI w5)] = (qF set0 t w5 b0 b3).bind (fun (e : List Int) => some (R.tup [], [(0, B.blk 63 [dL 1 eB b0]), (1, B.blk 95 [dO 4 1 t.length]), (2, B.blk 95 [dO 5 1 e.length]), (3, B.blk 3 [dI b3]), (4, bR 3 1 eI t), (5, bR 3 1 eI e)])) :=
  by
  intro set0 t w5 b0 b3 t_len w5_len h0 h1
  subst h0 h1
  rw [qA qq5 qsp.2.2.2 qtI]
  have := qtX; have := @q19; have := @qF.eq_1; exact gA
noncomputable def Q1 (fu : Nat) (set0 : Int) (t : List Int) (w5 : List Int) (b0 : List Bool) (b3 : Int) : Option (List Int) :=
  Option.bind (itT (qJ t b0 b3 set0) fu (w5, set0)) fun (a : List Int) =>
  some a
theorem JF (fu : Nat) (set0 : Int) (t w5 : List Int) (b0 : List Bool) (b3 : Int) : qk (Q1 fu set0 t w5 b0 b3) (qF set0 t w5 b0 b3) := by
  unfold Q1 qF
  repeat (first
    | with_reducible exact qk.refl _
    | with_reducible exact qk.none _
    | with_reducible refine qk.bind ?_ (fun _ => ?_)
    | with_reducible refine qk.ite ?_ ?_
    | with_reducible refine qk.sum (fun _ => ?_) (fun _ => ?_)
    | with_reducible refine qk.lim (fun _ => ?_))
noncomputable def zc (rF : (qb × List qa × Int × qd) → Option (List Bool × List qa × Int × qd)) (w7 : List Bool) (w9 : List Int) (b0 : List qa) (b2 : Int) (b3 : qd) (b6 : qb) (b10 : List Bool) (t18 : Bool) (t72 : List qb) (t73 : Int) (t74 : Int) (t96 : Int) : (List Int × Int) → Option ((List Int × Int) ⊕ (List Int))
  | (w12, t97) =>
    if t97 < t96 then if 0 ≤ t97 ∧ t97 < ((w12.length : Nat) : Int) then if Int.toNat t97 + 1 ≤ w12.length then if t18 = Bool.true then if 0 ≤ t97 ∧ t97 < ((w9.length : Nat) : Int) then Option.bind w9[Int.toNat t97]? fun (a2 : Int) =>
              if 0 ≤ t97 ∧ t97 < ((w12.length : Nat) : Int) then if Int.toNat t97 + 1 ≤ w12.length then Option.bind (qF t97 w9 (List.set (List.set w12 (Int.toNat t97) (-1)) (Int.toNat t97) a2) b10 t97) fun (a3 : List Int) =>
                  some (Sum.inl (a3, w64 (t97 + 1)))
                else none
              else none
            else none
          else Option.bind (qF t97 w9 (List.set w12 (Int.toNat t97) (-1)) b10 t97) fun (a4 : List Int) =>
          some (Sum.inl (a4, w64 (t97 + 1)))
        else none
      else none
    else some (Sum.inr w12)
theorem q42 (rE : Orc) (rF : (qb × List qa × Int × qd) → Option (List Bool × List qa × Int × qd)) (hF : ∀ y, rE (.fn 45) 6 (qy y).1 (qy y).2 = (rF y).bind fun e => some (qY e)) (hM : ∀ g k a G, g ≠ 45 → rE (.fn g) k a G = ev g k a G) (hR : ∀ g asg bd k a G, rE (.rd g asg bd) k a G = evr g asg bd k a G) : ∀ (w7 : List Bool) (w9 w12 : List Int) (b0 : List qa) (b2 b3_Worst b3_Best b3_Pass b6_Kind b6_N b6_Min : Int) (b6_Set : List qc) (b6_L : List qb) (b10 : List Bool) (t18 : Bool) (t72 : List qb) (t73 t74 t96 t97 : Int) (w7_len w9_len w12_len : Nat), w7_len = w7.length → w9_len = w9.length → w12_len = w12.length → XL2 rE 45 6 25 ⟨[(3, rP 2), (5, rP 4), (6, rP 5), (7, rP 6), (9, rO 7 1 w7_len), (12, rP 8), (17, rP 10), (18, rB t18), (19, rP 11), (72, rL 5 qg t72), (73, rI t73), (74, rI t74), (96, rI t96), (97, rI t97)], [(0, B.blk 32 [dL 8 qf b0]), (1, B.blk 62 [C.fn 22 [] []]), (2, B.blk 3 [dI b2]), (3, B.blk 37 [dI b3_Worst, dI b3_Best, dI b3_Pass]), (4, B.blk 94 [C.fn 45 [] [dP 0, dP 1, dP 2, dP 3, dP 4, dP 5]]), (5, B.blk 62 [C.fn 23 [] []]), (6, B.blk 31 [dI b6_Kind, dI b6_N, dI b6_Min, dL 2 qe b6_Set, dL 5 qg b6_L]), (7, bR 4 1 eB w7), (8, B.blk 95 [dO 9 1 w9_len]), (9, bR 3 1 eI w9), (10, B.blk 63 [dL 1 eB b10]), (11, B.blk 95 [dO 12 1 w12_len]), (12, bR 3 1 eI w12)], 13, 142⟩ = (qQ (zc rF w7 w9 b0 b2 (qd.mk b3_Worst b3_Best b3_Pass) (qb.mk b6_Kind b6_N b6_Min b6_Set b6_L) b10 t18 t72 t73 t74 t96) (w12, t97)).bind (fun (e : List Int) => some (Go.Exit.exit 6, ⟨[(3, rP 2), (5, rP 4), (6, rP 5), (7, rP 6), (9, rO 7 1 w7.length), (12, rP 8), (19, rP 10), (72, rL 5 qg t72), (73, rI t73), (74, rI t74)], [(0, B.blk 32 [dL 8 qf b0]), (1, B.blk 62 [C.fn 22 [] []]), (2, B.blk 3 [dI b2]), (3, B.blk 37 [dI b3_Worst, dI b3_Best, dI b3_Pass]), (4, B.blk 94 [C.fn 45 [] [dP 0, dP 1, dP 2, dP 3, dP 4, dP 5]]), (5, B.blk 62 [C.fn 23 [] []]), (6, B.blk 31 [dI b6_Kind, dI b6_N, dI b6_Min, dL 2 qe b6_Set, dL 5 qg b6_L]), (7, bR 4 1 eB w7), (8, B.blk 95 [dO 9 1 w9.length]), (9, bR 3 1 eI w9), (10, B.blk 95 [dO 11 1 e.length]), (11, bR 3 1 eI e)], 12, 142⟩)) :=
  by
  intro w7 w9 w12 b0 b2 b3_Worst b3_Best b3_Pass b6_Kind b6_N b6_Min b6_Set b6_L b10 t18 t72 t73 t74 t96 t97 w7_len w9_len w12_len h0 h1 h2
  subst h0 h1 h2
  revert t97; revert w12; exact q92 qe6 qfN (fun e => by exact ⟨_, rfl, fun h => by cases h⟩) fun w12 t97 => by
    have hF' : ∀ (x0_Kind x0_N x0_Min : Int) (x0_Set : List qc) (x0_L : List qb) (v : List qa) (v2 v3_Worst v3_Best v3_Pass : Int), rE (.fn 45) 6 [R.agg [dI x0_Kind, dI x0_N, dI x0_Min, dL 2 qe x0_Set, dL 5 qg x0_L], rP 0, rP 1, rP 2, rP 3, rP 4, rP 5] [(0, B.blk 32 [dL 8 qf v]), (1, B.blk 62 [C.fn 22 [] []]), (2, B.blk 3 [dI v2]), (3, B.blk 37 [dI v3_Worst, dI v3_Best, dI v3_Pass]), (4, B.blk 94 [C.fn 45 [] [dP 0, dP 1, dP 2, dP 3, dP 4, dP 5]]), (5, B.blk 62 [C.fn 23 [] []])] = (rF ((qb.mk x0_Kind x0_N x0_Min x0_Set x0_L), v, v2, (qd.mk v3_Worst v3_Best v3_Pass))).bind (fun e => some (rL 1 eB e.1, [(0, B.blk 32 [dL 8 qf e.2.1]), (1, B.blk 62 [C.fn 22 [] []]), (2, B.blk 3 [dI e.2.2.1]), (3, B.blk 37 [dI e.2.2.2.Worst, dI e.2.2.2.Best, dI e.2.2.2.Pass]), (4, B.blk 94 [C.fn 45 [] [dP 0, dP 1, dP 2, dP 3, dP 4, dP 5]]), (5, B.blk 62 [C.fn 23 [] []])])) := fun x0_Kind x0_N x0_Min x0_Set x0_L v v2 v3_Worst v3_Best v3_Pass => hF ((qb.mk x0_Kind x0_N x0_Min x0_Set x0_L), v, v2, (qd.mk v3_Worst v3_Best v3_Pass))
    have := qc7; have := @qao.eq_1; have := @Jz; have := @zc.eq_1; exact gA
noncomputable def ZS (fu : Nat) (rF : (qb × List qa × Int × qd) → Option (List Bool × List qa × Int × qd)) (w7 : List Bool) (w9 : List Int) (b0 : List qa) (b2 : Int) (b3 : qd) (b6 : qb) (b10 : List Bool) (t18 : Bool) (t72 : List qb) (t73 : Int) (t74 : Int) (t96 : Int) : (List Int × Int) → Option ((List Int × Int) ⊕ (List Int))
  | (w12, t97) =>
    if t97 < t96 then if 0 ≤ t97 ∧ t97 < ((w12.length : Nat) : Int) then if Int.toNat t97 + 1 ≤ w12.length then if t18 = Bool.true then if 0 ≤ t97 ∧ t97 < ((w9.length : Nat) : Int) then Option.bind w9[Int.toNat t97]? fun (a2 : Int) =>
              if 0 ≤ t97 ∧ t97 < ((w12.length : Nat) : Int) then if Int.toNat t97 + 1 ≤ w12.length then Option.bind (Q1 fu t97 w9 (List.set (List.set w12 (Int.toNat t97) (-1)) (Int.toNat t97) a2) b10 t97) fun (a3 : List Int) =>
                  some (Sum.inl (a3, w64 (t97 + 1)))
                else none
              else none
            else none
          else Option.bind (Q1 fu t97 w9 (List.set w12 (Int.toNat t97) (-1)) b10 t97) fun (a4 : List Int) =>
          some (Sum.inl (a4, w64 (t97 + 1)))
        else none
      else none
    else some (Sum.inr w12)
theorem q4e (fu : Nat) (rF rF2 : (qb × List qa × Int × qd) → Option (List Bool × List qa × Int × qd)) (hF : ∀ y, qk (rF y) (rF2 y)) (w7 : List Bool) (w9 : List Int) (b0 : List qa) (b2 : Int) (b3 : qd) (b6 : qb) (b10 : List Bool) (t18 : Bool) (t72 : List qb) (t73 t74 t96 : Int) : ∀ x, qk (ZS fu rF w7 w9 b0 b2 b3 b6 b10 t18 t72 t73 t74 t96 x) (zc rF2 w7 w9 b0 b2 b3 b6 b10 t18 t72 t73 t74 t96 x) := by
  rintro ⟨w12, t97⟩
  unfold ZS zc
  try dsimp only
  repeat (first
    | with_reducible exact qk.refl _
    | with_reducible exact qk.none _
    | exact hF _
    | with_reducible apply JF
    | with_reducible refine qk.bind ?_ (fun _ => ?_)
    | with_reducible refine qk.ite ?_ ?_
    | with_reducible refine qk.sum (fun _ => ?_) (fun _ => ?_)
    | with_reducible refine qk.lim (fun _ => ?_))
noncomputable def ze (rF : (qb × List qa × Int × qd) → Option (List Bool × List qa × Int × qd)) (w7 : List Bool) (b6 : qb) (t72 : List qb) (t73 : Int) : (List Int × List qa × Int × qd × Int) → Option ((List Int × List qa × Int × qd × Int) ⊕ (List Int × List qa × Int × qd))
  | (w9, b0, b2, b3, t74) =>
    if t74 < t73 then if 0 ≤ t74 ∧ t74 < ((t72.length : Nat) : Int) then Option.bind t72[Int.toNat t74]? fun (a2 : qb) =>
        Option.bind (rF (a2, (b0, (b2, b3)))) fun (a3 : Prod (List Bool) (Prod (List qa) (Prod Int qd))) =>
        if (b6.Kind == 4) = Bool.true then if 0 ≤ ((w9.length : Nat) : Int) ∧ 8 * ((w9.length : Nat) : Int) ≤ 281474976710656 ∧ ((w9.length : Nat) : Int) ≤ 9223372036854775807 then Option.bind (qQ (zc rF w7 w9 a3.2.1 a3.2.2.1 a3.2.2.2 b6 a3.1 Bool.true t72 t73 t74 ((w9.length : Nat) : Int)) (List.replicate w9.length 0, 0)) fun (a4 : List Int) =>
            some (Sum.inl (a4, a3.2.1, a3.2.2.1, a3.2.2.2, w64 (t74 + 1)))
          else none
        else if 0 ≤ ((w9.length : Nat) : Int) ∧ 8 * ((w9.length : Nat) : Int) ≤ 281474976710656 ∧ ((w9.length : Nat) : Int) ≤ 9223372036854775807 then Option.bind (qQ (zc rF w7 w9 a3.2.1 a3.2.2.1 a3.2.2.2 b6 a3.1 Bool.false t72 t73 t74 ((w9.length : Nat) : Int)) (List.replicate w9.length 0, 0)) fun (a5 : List Int) =>
          some (Sum.inl (a5, a3.2.1, a3.2.2.1, a3.2.2.2, w64 (t74 + 1)))
        else none
      else none
    else some (Sum.inr (w9, b0, b2, b3))
theorem q45 (rE : Orc) (rF : (qb × List qa × Int × qd) → Option (List Bool × List qa × Int × qd)) (hF : ∀ y, rE (.fn 45) 6 (qy y).1 (qy y).2 = (rF y).bind fun e => some (qY e)) (hM : ∀ g k a G, g ≠ 45 → rE (.fn g) k a G = ev g k a G) (hR : ∀ g asg bd k a G, rE (.rd g asg bd) k a G = evr g asg bd k a G) : ∀ (w7 : List Bool) (w9 : List Int) (b0 : List qa) (b2 b3_Worst b3_Best b3_Pass b6_Kind b6_N b6_Min : Int) (b6_Set : List qc) (b6_L t72 : List qb) (t73 t74 : Int) (w7_len w9_len : Nat), w7_len = w7.length → w9_len = w9.length → XL2 rE 45 6 18 ⟨[(3, rP 2), (5, rP 4), (6, rP 5), (7, rP 6), (9, rO 7 1 w7_len), (12, rP 8), (72, rL 5 qg t72), (73, rI t73), (74, rI t74)], [(0, B.blk 32 [dL 8 qf b0]), (1, B.blk 62 [C.fn 22 [] []]), (2, B.blk 3 [dI b2]), (3, B.blk 37 [dI b3_Worst, dI b3_Best, dI b3_Pass]), (4, B.blk 94 [C.fn 45 [] [dP 0, dP 1, dP 2, dP 3, dP 4, dP 5]]), (5, B.blk 62 [C.fn 23 [] []]), (6, B.blk 31 [dI b6_Kind, dI b6_N, dI b6_Min, dL 2 qe b6_Set, dL 5 qg b6_L]), (7, bR 4 1 eB w7), (8, B.blk 95 [dO 9 1 w9_len]), (9, bR 3 1 eI w9)], 10, 142⟩ = (qQ (ze rF w7 (qb.mk b6_Kind b6_N b6_Min b6_Set b6_L) t72 t73) (w9, b0, b2, (qd.mk b3_Worst b3_Best b3_Pass), t74)).bind (fun (e : List Int × List qa × Int × qd) => some (Go.Exit.exit 4, ⟨[(7, rP 6), (9, rO 7 1 w7.length), (12, rP 8)], [(0, B.blk 32 [dL 8 qf e.2.1]), (1, B.blk 62 [C.fn 22 [] []]), (2, B.blk 3 [dI e.2.2.1]), (3, B.blk 37 [dI e.2.2.2.Worst, dI e.2.2.2.Best, dI e.2.2.2.Pass]), (4, B.blk 94 [C.fn 45 [] [dP 0, dP 1, dP 2, dP 3, dP 4, dP 5]]), (5, B.blk 62 [C.fn 23 [] []]), (6, B.blk 31 [dI b6_Kind, dI b6_N, dI b6_Min, dL 2 qe b6_Set, dL 5 qg b6_L]), (7, bR 4 1 eB w7), (8, B.blk 95 [dO 9 1 e.1.length]), (9, bR 3 1 eI e.1)], 10, 142⟩)) :=
  by
  intro w7 w9 b0 b2 b3_Worst b3_Best b3_Pass b6_Kind b6_N b6_Min b6_Set b6_L t72 t73 t74 w7_len w9_len h0 h1
  subst h0 h1
  have h := q1B (E := rE) (f := 45) (k := 6) (st := fun x : List Int × List qa × Int × qd × Int => (⟨[(3, rP 2), (5, rP 4), (6, rP 5), (7, rP 6), (9, rO 7 1 w7.length), (12, rP 8), (72, rL 5 qg t72), (73, rI t73), (74, rI x.2.2.2.2)], [(0, B.blk 32 [dL 8 qf x.2.1]), (1, B.blk 62 [C.fn 22 [] []]), (2, B.blk 3 [dI x.2.2.1]), (3, B.blk 37 [dI x.2.2.2.1.Worst, dI x.2.2.2.1.Best, dI x.2.2.2.1.Pass]), (4, B.blk 94 [C.fn 45 [] [dP 0, dP 1, dP 2, dP 3, dP 4, dP 5]]), (5, B.blk 62 [C.fn 23 [] []]), (6, B.blk 31 [dI b6_Kind, dI b6_N, dI b6_Min, dL 2 qe b6_Set, dL 5 qg b6_L]), (7, bR 4 1 eB w7), (8, B.blk 95 [dO 9 1 x.1.length]), (9, bR 3 1 eI x.1)], 10, 142⟩ : S)) (ex := fun (e : List Int × List qa × Int × qd) => (Go.Exit.exit 4, ⟨[(7, rP 6), (9, rO 7 1 w7.length), (12, rP 8)], [(0, B.blk 32 [dL 8 qf e.2.1]), (1, B.blk 62 [C.fn 22 [] []]), (2, B.blk 3 [dI e.2.2.1]), (3, B.blk 37 [dI e.2.2.2.Worst, dI e.2.2.2.Best, dI e.2.2.2.Pass]), (4, B.blk 94 [C.fn 45 [] [dP 0, dP 1, dP 2, dP 3, dP 4, dP 5]]), (5, B.blk 62 [C.fn 23 [] []]), (6, B.blk 31 [dI b6_Kind, dI b6_N, dI b6_Min, dL 2 qe b6_Set, dL 5 qg b6_L]), (7, bR 4 1 eB w7), (8, B.blk 95 [dO 9 1 e.1.length]), (9, bR 3 1 eI e.1)], 10, 142⟩)) (step := (ze rF w7 (qb.mk b6_Kind b6_N b6_Min b6_Set b6_L) t72 t73)) qgz qgs (fun e h => by cases h) (fun x => by
    obtain ⟨w9, b0, b2, b3, t74⟩ := x; have hF' : ∀ (x0_Kind x0_N x0_Min : Int) (x0_Set : List qc) (x0_L : List qb) (v : List qa) (v2 v3_Worst v3_Best v3_Pass : Int), rE (.fn 45) 6 [R.agg [dI x0_Kind, dI x0_N, dI x0_Min, dL 2 qe x0_Set, dL 5 qg x0_L], rP 0, rP 1, rP 2, rP 3, rP 4, rP 5] [(0, B.blk 32 [dL 8 qf v]), (1, B.blk 62 [C.fn 22 [] []]), (2, B.blk 3 [dI v2]), (3, B.blk 37 [dI v3_Worst, dI v3_Best, dI v3_Pass]), (4, B.blk 94 [C.fn 45 [] [dP 0, dP 1, dP 2, dP 3, dP 4, dP 5]]), (5, B.blk 62 [C.fn 23 [] []])] = (rF ((qb.mk x0_Kind x0_N x0_Min x0_Set x0_L), v, v2, (qd.mk v3_Worst v3_Best v3_Pass))).bind (fun e => some (rL 1 eB e.1, [(0, B.blk 32 [dL 8 qf e.2.1]), (1, B.blk 62 [C.fn 22 [] []]), (2, B.blk 3 [dI e.2.2.1]), (3, B.blk 37 [dI e.2.2.2.Worst, dI e.2.2.2.Best, dI e.2.2.2.Pass]), (4, B.blk 94 [C.fn 45 [] [dP 0, dP 1, dP 2, dP 3, dP 4, dP 5]]), (5, B.blk 62 [C.fn 23 [] []])])) := fun x0_Kind x0_N x0_Min x0_Set x0_L v v2 v3_Worst v3_Best v3_Pass => hF ((qb.mk x0_Kind x0_N x0_Min x0_Set x0_L), v, v2, (qd.mk v3_Worst v3_Best v3_Pass))
    have := qc7; have := @q9K.eq_1; have := @q8Q; have := q42 rE rF hF hM hR; have := @ze.eq_1; exact gA) (w9, b0, b2, (qd.mk b3_Worst b3_Best b3_Pass), t74)
  exact h
noncomputable def JZ (fu : Nat) (rF : (qb × List qa × Int × qd) → Option (List Bool × List qa × Int × qd)) (w7 : List Bool) (b6 : qb) (t72 : List qb) (t73 : Int) : (List Int × List qa × Int × qd × Int) → Option ((List Int × List qa × Int × qd × Int) ⊕ (List Int × List qa × Int × qd))
  | (w9, b0, b2, b3, t74) =>
    if t74 < t73 then if 0 ≤ t74 ∧ t74 < ((t72.length : Nat) : Int) then Option.bind t72[Int.toNat t74]? fun (a2 : qb) =>
        Option.bind (rF (a2, (b0, (b2, b3)))) fun (a3 : Prod (List Bool) (Prod (List qa) (Prod Int qd))) =>
        if (b6.Kind == 4) = Bool.true then if 0 ≤ ((w9.length : Nat) : Int) ∧ 8 * ((w9.length : Nat) : Int) ≤ 281474976710656 ∧ ((w9.length : Nat) : Int) ≤ 9223372036854775807 then Option.bind (itT (ZS fu rF w7 w9 a3.2.1 a3.2.2.1 a3.2.2.2 b6 a3.1 Bool.true t72 t73 t74 ((w9.length : Nat) : Int)) fu (List.replicate w9.length 0, 0)) fun (a4 : List Int) =>
            some (Sum.inl (a4, a3.2.1, a3.2.2.1, a3.2.2.2, w64 (t74 + 1)))
          else none
        else if 0 ≤ ((w9.length : Nat) : Int) ∧ 8 * ((w9.length : Nat) : Int) ≤ 281474976710656 ∧ ((w9.length : Nat) : Int) ≤ 9223372036854775807 then Option.bind (itT (ZS fu rF w7 w9 a3.2.1 a3.2.2.1 a3.2.2.2 b6 a3.1 Bool.false t72 t73 t74 ((w9.length : Nat) : Int)) fu (List.replicate w9.length 0, 0)) fun (a5 : List Int) =>
          some (Sum.inl (a5, a3.2.1, a3.2.2.1, a3.2.2.2, w64 (t74 + 1)))
        else none
      else none
    else some (Sum.inr (w9, b0, b2, b3))
theorem q3Z (fu : Nat) (rF rF2 : (qb × List qa × Int × qd) → Option (List Bool × List qa × Int × qd)) (hF : ∀ y, qk (rF y) (rF2 y)) (w7 : List Bool) (b6 : qb) (t72 : List qb) (t73 : Int) : ∀ x, qk (JZ fu rF w7 b6 t72 t73 x) (ze rF2 w7 b6 t72 t73 x) := by
  rintro ⟨w9, b0, b2, b3, t74⟩
  unfold JZ ze
  try dsimp only
  repeat (first
    | with_reducible exact qk.refl _
    | with_reducible exact qk.none _
    | exact hF _
    | (with_reducible refine q4e _ _ _ hF ..)
    | with_reducible refine qk.bind ?_ (fun _ => ?_)
    | with_reducible refine qk.ite ?_ ?_
    | with_reducible refine qk.sum (fun _ => ?_) (fun _ => ?_)
    | with_reducible refine qk.lim (fun _ => ?_))
noncomputable def zb (rF : (qb × List qa × Int × qd) → Option (List Bool × List qa × Int × qd)) (w8 : List Int) (b0 : List qa) (b2 : Int) (b3 : qd) (t21 : Int) : (List Bool × Int) → Option ((List Bool × Int) ⊕ (List Bool))
  | (w6, t22) =>
    if t22 < ((w6.length : Nat) : Int) then if 0 ≤ t22 ∧ t22 < ((w8.length : Nat) : Int) then Option.bind w8[Int.toNat t22]? fun (a2 : Int) =>
        if 0 ≤ t22 ∧ t22 < ((w6.length : Nat) : Int) then if Int.toNat t22 + 1 ≤ w6.length then some (Sum.inl (List.set w6 (Int.toNat t22) (decide (t21 ≤ a2)), w64 (t22 + 1)))
          else none
        else none
      else none
    else some (Sum.inr w6)
theorem q41 (rE : Orc) (rF : (qb × List qa × Int × qd) → Option (List Bool × List qa × Int × qd)) (hF : ∀ y, rE (.fn 45) 6 (qy y).1 (qy y).2 = (rF y).bind fun e => some (qY e)) (hM : ∀ g k a G, g ≠ 45 → rE (.fn g) k a G = ev g k a G) (hR : ∀ g asg bd k a G, rE (.rd g asg bd) k a G = evr g asg bd k a G) : ∀ (w6 : List Bool) (w8 : List Int) (b0 : List qa) (b2 b3_Worst b3_Best b3_Pass t21 t22 : Int) (w6_len w8_len : Nat), w6_len = w6.length → w8_len = w8.length → XL2 rE 45 6 38 ⟨[(9, rO 6 1 w6_len), (12, rP 7), (21, rI t21), (22, rI t22)], [(0, B.blk 32 [dL 8 qf b0]), (1, B.blk 62 [C.fn 22 [] []]), (2, B.blk 3 [dI b2]), (3, B.blk 37 [dI b3_Worst, dI b3_Best, dI b3_Pass]), (4, B.blk 94 [C.fn 45 [] [dP 0, dP 1, dP 2, dP 3, dP 4, dP 5]]), (5, B.blk 62 [C.fn 23 [] []]), (6, bR 4 1 eB w6), (7, B.blk 95 [dO 8 1 w8_len]), (8, bR 3 1 eI w8)], 9, 142⟩ = (qQ (zb rF w8 b0 b2 (qd.mk b3_Worst b3_Best b3_Pass) t21) (w6, t22)).bind (fun (e : List Bool) => some (Go.Exit.exit 8, ⟨[(9, rO 6 1 e.length)], [(0, B.blk 32 [dL 8 qf b0]), (1, B.blk 62 [C.fn 22 [] []]), (2, B.blk 3 [dI b2]), (3, B.blk 37 [dI b3_Worst, dI b3_Best, dI b3_Pass]), (4, B.blk 94 [C.fn 45 [] [dP 0, dP 1, dP 2, dP 3, dP 4, dP 5]]), (5, B.blk 62 [C.fn 23 [] []]), (6, bR 4 1 eB e)], 7, 142⟩)) :=
  by
  intro w6 w8 b0 b2 b3_Worst b3_Best b3_Pass t21 t22 w6_len w8_len h0 h1
  subst h0 h1
  revert t22; revert w6; exact q92 qfq qeT (fun e => by exact ⟨_, rfl, fun h => by cases h⟩) fun w6 t22 => by
    have hF' : ∀ (x0_Kind x0_N x0_Min : Int) (x0_Set : List qc) (x0_L : List qb) (v : List qa) (v2 v3_Worst v3_Best v3_Pass : Int), rE (.fn 45) 6 [R.agg [dI x0_Kind, dI x0_N, dI x0_Min, dL 2 qe x0_Set, dL 5 qg x0_L], rP 0, rP 1, rP 2, rP 3, rP 4, rP 5] [(0, B.blk 32 [dL 8 qf v]), (1, B.blk 62 [C.fn 22 [] []]), (2, B.blk 3 [dI v2]), (3, B.blk 37 [dI v3_Worst, dI v3_Best, dI v3_Pass]), (4, B.blk 94 [C.fn 45 [] [dP 0, dP 1, dP 2, dP 3, dP 4, dP 5]]), (5, B.blk 62 [C.fn 23 [] []])] = (rF ((qb.mk x0_Kind x0_N x0_Min x0_Set x0_L), v, v2, (qd.mk v3_Worst v3_Best v3_Pass))).bind (fun e => some (rL 1 eB e.1, [(0, B.blk 32 [dL 8 qf e.2.1]), (1, B.blk 62 [C.fn 22 [] []]), (2, B.blk 3 [dI e.2.2.1]), (3, B.blk 37 [dI e.2.2.2.Worst, dI e.2.2.2.Best, dI e.2.2.2.Pass]), (4, B.blk 94 [C.fn 45 [] [dP 0, dP 1, dP 2, dP 3, dP 4, dP 5]]), (5, B.blk 62 [C.fn 23 [] []])])) := fun x0_Kind x0_N x0_Min x0_Set x0_L v v2 v3_Worst v3_Best v3_Pass => hF ((qb.mk x0_Kind x0_N x0_Min x0_Set x0_L), v, v2, (qd.mk v3_Worst v3_Best v3_Pass))
    have := qc7; have := @qak.eq_1; have := @zb.eq_1; exact gA
noncomputable def ZX (fu : Nat) (rF : (qb × List qa × Int × qd) → Option (List Bool × List qa × Int × qd)) (w8 : List Int) (b0 : List qa) (b2 : Int) (b3 : qd) (t21 : Int) : (List Bool × Int) → Option ((List Bool × Int) ⊕ (List Bool))
  | (w6, t22) =>
    if t22 < ((w6.length : Nat) : Int) then if 0 ≤ t22 ∧ t22 < ((w8.length : Nat) : Int) then Option.bind w8[Int.toNat t22]? fun (a2 : Int) =>
        if 0 ≤ t22 ∧ t22 < ((w6.length : Nat) : Int) then if Int.toNat t22 + 1 ≤ w6.length then some (Sum.inl (List.set w6 (Int.toNat t22) (decide (t21 ≤ a2)), w64 (t22 + 1)))
          else none
        else none
      else none
    else some (Sum.inr w6)
theorem q3Y (fu : Nat) (rF rF2 : (qb × List qa × Int × qd) → Option (List Bool × List qa × Int × qd)) (hF : ∀ y, qk (rF y) (rF2 y)) (w8 : List Int) (b0 : List qa) (b2 : Int) (b3 : qd) (t21 : Int) : ∀ x, qk (ZX fu rF w8 b0 b2 b3 t21 x) (zb rF2 w8 b0 b2 b3 t21 x) := by
  rintro ⟨w6, t22⟩
  unfold ZX zb
  try dsimp only
  repeat (first
    | with_reducible exact qk.refl _
    | with_reducible exact qk.none _
    | exact hF _
    | with_reducible refine qk.bind ?_ (fun _ => ?_)
    | with_reducible refine qk.ite ?_ ?_
    | with_reducible refine qk.sum (fun _ => ?_) (fun _ => ?_)
    | with_reducible refine qk.lim (fun _ => ?_))
noncomputable def Qw (rF : (qb × List qa × Int × qd) → Option (List Bool × List qa × Int × qd)) : (qb × List qa × Int × qd) → Option (List Bool × List qa × Int × qd)
  | (x0, v, v2, v3) =>
    if 0 ≤ ((v.length : Nat) : Int) then if 0 ≤ w64 (1 * 2 ^ min v.length (Go.IntKind.bits Go.IntKind.i64)) ∧ 1 * w64 (1 * 2 ^ min v.length (Go.IntKind.bits Go.IntKind.i64)) ≤ 281474976710656 ∧ w64 (1 * 2 ^ min v.length (Go.IntKind.bits Go.IntKind.i64)) ≤ 9223372036854775807 then if zS x0 = Bool.true then Option.bind (QK x0.Kind) fun (a2 : Sum Unit Unit) =>
          Sum.elim (fun (a3 : Unit) => Option.bind (qQ (zB rF v v2 v3 x0) (List.replicate (Int.toNat (w64 (1 * 2 ^ min v.length (Go.IntKind.bits Go.IntKind.i64)))) Bool.false, 1)) fun (a5 : List Bool) =>
            some (a5, v, w64 (v2 + 1), v3)) (fun (a4 : Unit) => Option.bind (qQ (zC rF v v2 v3 x0) (List.replicate (Int.toNat (w64 (1 * 2 ^ min v.length (Go.IntKind.bits Go.IntKind.i64)))) Bool.false, 1)) fun (a6 : List Bool) =>
            some (a6, v, w64 (v2 + 1), v3)) a2
        else if 0 ≤ ((Int.toNat (w64 (1 * 2 ^ min v.length (Go.IntKind.bits Go.IntKind.i64))) : Nat) : Int) ∧ 8 * ((Int.toNat (w64 (1 * 2 ^ min v.length (Go.IntKind.bits Go.IntKind.i64))) : Nat) : Int) ≤ 281474976710656 ∧ ((Int.toNat (w64 (1 * 2 ^ min v.length (Go.IntKind.bits Go.IntKind.i64))) : Nat) : Int) ≤ 9223372036854775807 then Option.bind (qQ (z5 rF (List.replicate (Int.toNat (w64 (1 * 2 ^ min v.length (Go.IntKind.bits Go.IntKind.i64)))) Bool.false) v v2 v3 x0) (List.replicate (Int.toNat (w64 (1 * 2 ^ min v.length (Go.IntKind.bits Go.IntKind.i64)))) 0, 1)) fun (a7 : List Int) =>
          Option.bind (qQ (ze rF (List.replicate (Int.toNat (w64 (1 * 2 ^ min v.length (Go.IntKind.bits Go.IntKind.i64)))) Bool.false) x0 x0.L ((x0.L.length : Nat) : Int)) (a7, (v, (v2, (v3, 0))))) fun (a8 : Prod (List Int) (Prod (List qa) (Prod Int qd))) =>
          if (x0.Kind == 3) = Bool.true then Option.bind (qQ (zb rF a8.1 a8.2.1 a8.2.2.1 a8.2.2.2 ((x0.L.length : Nat) : Int)) (List.replicate (Int.toNat (w64 (1 * 2 ^ min v.length (Go.IntKind.bits Go.IntKind.i64)))) Bool.false, 1)) fun (a9 : List Bool) =>
            some (a9, a8.2.1, a8.2.2.1, a8.2.2.2)
          else Option.bind (qQ (zb rF a8.1 a8.2.1 a8.2.2.1 a8.2.2.2 x0.N) (List.replicate (Int.toNat (w64 (1 * 2 ^ min v.length (Go.IntKind.bits Go.IntKind.i64)))) Bool.false, 1)) fun (a10 : List Bool) =>
          some (a10, a8.2.1, a8.2.2.1, a8.2.2.2)
        else none
      else none
    else none
theorem q2u : q4n 45 6 qy qY Qw := by
  intro rE rF hF hM hR x
  obtain ⟨x0, v, v2, v3⟩ := x
  show q6a rE 45 6 [R.agg [dI x0.Kind, dI x0.N, dI x0.Min, dL 2 qe x0.Set, dL 5 qg x0.L], rP 0, rP 1, rP 2, rP 3, rP 4, rP 5] [(0, B.blk 32 [dL 8 qf v]), (1, B.blk 62 [C.fn 22 [] []]), (2, B.blk 3 [dI v2]), (3, B.blk 37 [dI v3.Worst, dI v3.Best, dI v3.Pass]), (4, B.blk 94 [C.fn 45 [] [dP 0, dP 1, dP 2, dP 3, dP 4, dP 5]]), (5, B.blk 62 [C.fn 23 [] []])] = _
  have hF' : ∀ (x0_Kind x0_N x0_Min : Int) (x0_Set : List qc) (x0_L : List qb) (v : List qa) (v2 v3_Worst v3_Best v3_Pass : Int), rE (.fn 45) 6 [R.agg [dI x0_Kind, dI x0_N, dI x0_Min, dL 2 qe x0_Set, dL 5 qg x0_L], rP 0, rP 1, rP 2, rP 3, rP 4, rP 5] [(0, B.blk 32 [dL 8 qf v]), (1, B.blk 62 [C.fn 22 [] []]), (2, B.blk 3 [dI v2]), (3, B.blk 37 [dI v3_Worst, dI v3_Best, dI v3_Pass]), (4, B.blk 94 [C.fn 45 [] [dP 0, dP 1, dP 2, dP 3, dP 4, dP 5]]), (5, B.blk 62 [C.fn 23 [] []])] = (rF ((qb.mk x0_Kind x0_N x0_Min x0_Set x0_L), v, v2, (qd.mk v3_Worst v3_Best v3_Pass))).bind (fun e => some (rL 1 eB e.1, [(0, B.blk 32 [dL 8 qf e.2.1]), (1, B.blk 62 [C.fn 22 [] []]), (2, B.blk 3 [dI e.2.2.1]), (3, B.blk 37 [dI e.2.2.2.Worst, dI e.2.2.2.Best, dI e.2.2.2.Pass]), (4, B.blk 94 [C.fn 45 [] [dP 0, dP 1, dP 2, dP 3, dP 4, dP 5]]), (5, B.blk 62 [C.fn 23 [] []])])) := fun x0_Kind x0_N x0_Min x0_Set x0_L v v2 v3_Worst v3_Best v3_Pass => hF ((qb.mk x0_Kind x0_N x0_Min x0_Set x0_L), v, v2, (qd.mk v3_Worst v3_Best v3_Pass))
  rw [q1h qj6 qke]
  have := qc7; have := @q0M; have := @q1C; have := q30 rE rF hF hM hR; have := q3u rE rF hF hM hR; have := q2S rE rF hF hM hR; have := q45 rE rF hF hM hR; have := q41 rE rF hF hM hR; have := @Qw.eq_1; have := @qY.eq_1; exact gA
theorem q0J : ∀ x y, qy x = qy y → x = y := by
  rintro ⟨⟨a0_0, a0_1, a0_2, a0_3, a0_4⟩, a1, a2, ⟨a3_0, a3_1, a3_2⟩⟩ ⟨⟨b0_0, b0_1, b0_2, b0_3, b0_4⟩, b1, b2, ⟨b3_0, b3_1, b3_2⟩⟩ h
  simp only [qy, Prod.mk.injEq, List.cons.injEq, R.c.injEq, R.agg.injEq, R.tup.injEq, C.d.injEq, C.own.injEq, C.ptr.injEq, C.eptr.injEq, D.int.injEq, D.bool.injEq, D.str.injEq, D.sl.injEq, B.blk.injEq, B.row.injEq, ZD, JY, ZK, J4, Jm, q0W, ZG, q1j, true_and, and_true, List.nil_append] at h
  simp only [h]
theorem q4S : ∀ x y, qY x = qY y → x = y := by
  rintro ⟨a0, a1, a2, ⟨a3_0, a3_1, a3_2⟩⟩ ⟨b0, b1, b2, ⟨b3_0, b3_1, b3_2⟩⟩ h
  simp only [qY, Prod.mk.injEq, List.cons.injEq, R.c.injEq, R.agg.injEq, R.tup.injEq, C.d.injEq, C.own.injEq, C.ptr.injEq, C.eptr.injEq, D.int.injEq, D.bool.injEq, D.str.injEq, D.sl.injEq, B.blk.injEq, B.row.injEq, ZD, JY, ZK, J4, Jm, q0W, ZG, q1j, true_and, and_true, List.nil_append] at h
  simp only [h]
noncomputable def qO : (qb × List qa × Int × qd) → Option (List Bool × List qa × Int × qd) := q4N 45 6 qy qY
theorem q2w (x : (qb × List qa × Int × qd)) : qO x = Qw qO x := q8p qpe.2.2.2 q0J q4S q2u x
theorem q6z (x0 : qb) (v : List qa) (v2 : Int) (v3 : qd) : ev 45 6 [R.agg [dI x0.Kind, dI x0.N, dI x0.Min, dL 2 qe x0.Set, dL 5 qg x0.L], rP 0, rP 1, rP 2, rP 3, rP 4, rP 5] [(0, B.blk 32 [dL 8 qf v]), (1, B.blk 62 [C.fn 22 [] []]), (2, B.blk 3 [dI v2]), (3, B.blk 37 [dI v3.Worst, dI v3.Best, dI v3.Pass]), (4, B.blk 94 [C.fn 45 [] [dP 0, dP 1, dP 2, dP 3, dP 4, dP 5]]), (5, B.blk 62 [C.fn 23 [] []])] = (qO (x0, v, v2, v3)).bind (fun (e : List Bool × List qa × Int × qd) => some (rL 1 eB e.1, [(0, B.blk 32 [dL 8 qf e.2.1]), (1, B.blk 62 [C.fn 22 [] []]), (2, B.blk 3 [dI e.2.2.1]), (3, B.blk 37 [dI e.2.2.2.Worst, dI e.2.2.2.Best, dI e.2.2.2.Pass]), (4, B.blk 94 [C.fn 45 [] [dP 0, dP 1, dP 2, dP 3, dP 4, dP 5]]), (5, B.blk 62 [C.fn 23 [] []])])) := (q5W qpe.2.2.2 q0J q2u (x0, v, v2, v3))
theorem q7u : ∀ (x0_Kind x0_N x0_Min : Int) (x0_Set : List qc) (x0_L : List qb) (v : List qa) (v2 v3_Worst v3_Best v3_Pass : Int), ev 45 6 [R.agg [dI x0_Kind, dI x0_N, dI x0_Min, dL 2 qe x0_Set, dL 5 qg x0_L], rP 0, rP 1, rP 2, rP 3, rP 4, rP 5] [(0, B.blk 32 [dL 8 qf v]), (1, B.blk 62 [C.fn 22 [] []]), (2, B.blk 3 [dI v2]), (3, B.blk 37 [dI v3_Worst, dI v3_Best, dI v3_Pass]), (4, B.blk 94 [C.fn 45 [] [dP 0, dP 1, dP 2, dP 3, dP 4, dP 5]]), (5, B.blk 62 [C.fn 23 [] []])] = (qO ((qb.mk x0_Kind x0_N x0_Min x0_Set x0_L), v, v2, (qd.mk v3_Worst v3_Best v3_Pass))).bind (fun (e : List Bool × List qa × Int × qd) => some (rL 1 eB e.1, [(0, B.blk 32 [dL 8 qf e.2.1]), (1, B.blk 62 [C.fn 22 [] []]), (2, B.blk 3 [dI e.2.2.1]), (3, B.blk 37 [dI e.2.2.2.Worst, dI e.2.2.2.Best, dI e.2.2.2.Pass]), (4, B.blk 94 [C.fn 45 [] [dP 0, dP 1, dP 2, dP 3, dP 4, dP 5]]), (5, B.blk 62 [C.fn 23 [] []])])) :=
  fun x0_Kind x0_N x0_Min x0_Set x0_L v v2 v3_Worst v3_Best v3_Pass => q6z (qb.mk x0_Kind x0_N x0_Min x0_Set x0_L) v v2 (qd.mk v3_Worst v3_Best v3_Pass)
noncomputable def JA (fu : Nat) (rF : (qb × List qa × Int × qd) → Option (List Bool × List qa × Int × qd)) : (qb × List qa × Int × qd) → Option (List Bool × List qa × Int × qd)
  | (x0, v, v2, v3) =>
    if 0 ≤ ((v.length : Nat) : Int) then if 0 ≤ w64 (1 * 2 ^ min v.length (Go.IntKind.bits Go.IntKind.i64)) ∧ 1 * w64 (1 * 2 ^ min v.length (Go.IntKind.bits Go.IntKind.i64)) ≤ 281474976710656 ∧ w64 (1 * 2 ^ min v.length (Go.IntKind.bits Go.IntKind.i64)) ≤ 9223372036854775807 then if zS x0 = Bool.true then Option.bind (QK x0.Kind) fun (a2 : Sum Unit Unit) =>
          Sum.elim (fun (a3 : Unit) => Option.bind (itT (JB fu rF v v2 v3 x0) fu (List.replicate (Int.toNat (w64 (1 * 2 ^ min v.length (Go.IntKind.bits Go.IntKind.i64)))) Bool.false, 1)) fun (a5 : List Bool) =>
            some (a5, v, w64 (v2 + 1), v3)) (fun (a4 : Unit) => Option.bind (itT (JL fu rF v v2 v3 x0) fu (List.replicate (Int.toNat (w64 (1 * 2 ^ min v.length (Go.IntKind.bits Go.IntKind.i64)))) Bool.false, 1)) fun (a6 : List Bool) =>
            some (a6, v, w64 (v2 + 1), v3)) a2
        else if 0 ≤ ((Int.toNat (w64 (1 * 2 ^ min v.length (Go.IntKind.bits Go.IntKind.i64))) : Nat) : Int) ∧ 8 * ((Int.toNat (w64 (1 * 2 ^ min v.length (Go.IntKind.bits Go.IntKind.i64))) : Nat) : Int) ≤ 281474976710656 ∧ ((Int.toNat (w64 (1 * 2 ^ min v.length (Go.IntKind.bits Go.IntKind.i64))) : Nat) : Int) ≤ 9223372036854775807 then Option.bind (itT (Jl fu rF (List.replicate (Int.toNat (w64 (1 * 2 ^ min v.length (Go.IntKind.bits Go.IntKind.i64)))) Bool.false) v v2 v3 x0) fu (List.replicate (Int.toNat (w64 (1 * 2 ^ min v.length (Go.IntKind.bits Go.IntKind.i64)))) 0, 1)) fun (a7 : List Int) =>
          Option.bind (itT (JZ fu rF (List.replicate (Int.toNat (w64 (1 * 2 ^ min v.length (Go.IntKind.bits Go.IntKind.i64)))) Bool.false) x0 x0.L ((x0.L.length : Nat) : Int)) fu (a7, (v, (v2, (v3, 0))))) fun (a8 : Prod (List Int) (Prod (List qa) (Prod Int qd))) =>
          if (x0.Kind == 3) = Bool.true then Option.bind (itT (ZX fu rF a8.1 a8.2.1 a8.2.2.1 a8.2.2.2 ((x0.L.length : Nat) : Int)) fu (List.replicate (Int.toNat (w64 (1 * 2 ^ min v.length (Go.IntKind.bits Go.IntKind.i64)))) Bool.false, 1)) fun (a9 : List Bool) =>
            some (a9, a8.2.1, a8.2.2.1, a8.2.2.2)
          else Option.bind (itT (ZX fu rF a8.1 a8.2.1 a8.2.2.1 a8.2.2.2 x0.N) fu (List.replicate (Int.toNat (w64 (1 * 2 ^ min v.length (Go.IntKind.bits Go.IntKind.i64)))) Bool.false, 1)) fun (a10 : List Bool) =>
          some (a10, a8.2.1, a8.2.2.1, a8.2.2.2)
        else none
      else none
    else none
theorem q3D (fu : Nat) (rF rF2 : (qb × List qa × Int × qd) → Option (List Bool × List qa × Int × qd)) (hF : ∀ y, qk (rF y) (rF2 y)) : ∀ x, qk (JA fu rF x) (Qw rF2 x) := by
  rintro ⟨x0, v, v2, v3⟩
  unfold JA Qw
  try dsimp only
  repeat (first
    | with_reducible exact qk.refl _
    | with_reducible exact qk.none _
    | exact hF _
    | (with_reducible refine q3s _ _ _ hF ..)
    | (with_reducible refine q33 _ _ _ hF ..)
    | (with_reducible refine q2K _ _ _ hF ..)
    | (with_reducible refine q3Z _ _ _ hF ..)
    | (with_reducible refine q3Y _ _ _ hF ..)
    | with_reducible refine qk.bind ?_ (fun _ => ?_)
    | with_reducible refine qk.ite ?_ ?_
    | with_reducible refine qk.sum (fun _ => ?_) (fun _ => ?_)
    | with_reducible refine qk.lim (fun _ => ?_))
noncomputable def q5s (fu : Nat) (x : (qb × List qa × Int × qd)) : Option (List Bool × List qa × Int × qd) := itR (JA fu) fu x
theorem q79 (fu : Nat) (x : (qb × List qa × Int × qd)) : qk (q5s fu x) (qO x) := qk.rec q2w (q3D fu) fu x
noncomputable def q07 (n : qb) (s : qd) (l : List qa) : Option (List Bool) :=
  Option.bind (qO (n, (l, (0, s)))) fun (a : Prod (List Bool) (Prod (List qa) (Prod Int qd))) =>
  some a.1
theorem q8T : ∀ (n_Kind n_N n_Min : Int) (n_Set : List qc) (n_L : List qb) (s_Worst s_Best s_Pass : Int) (l : List qa), ev 24 0 [R.agg [dI n_Kind, dI n_N, dI n_Min, dL 2 qe n_Set, dL 5 qg n_L], R.agg [dI s_Worst, dI s_Best, dI s_Pass], rL 8 qf l, R.c (C.fn 22 [] []), R.c (C.fn 23 [] [])] [] = (q07 (qb.mk n_Kind n_N n_Min n_Set n_L) (qd.mk s_Worst s_Best s_Pass) l).bind (fun (e : List Bool) => some (rL 1 eB e, [])) :=
  fun n_Kind n_N n_Min n_Set n_L s_Worst s_Best s_Pass l => by
    rw [qA qq8 qrQ.2.2.2 qtw]
    have := qtp; have := @q7u; have := @q07.eq_1; exact gA
noncomputable def q4u (fu : Nat) (n : qb) (s : qd) (l : List qa) : Option (List Bool) :=
  Option.bind (q5s fu (n, (l, (0, s)))) fun (a : Prod (List Bool) (Prod (List qa) (Prod Int qd))) =>
  some a.1
theorem q9b (fu : Nat) (n : qb) (s : qd) (l : List qa) : qk (q4u fu n s l) (q07 n s l) := by
  unfold q4u q07
  repeat (first
    | with_reducible exact qk.refl _
    | with_reducible exact qk.none _
    | with_reducible apply q79
    | with_reducible refine qk.bind ?_ (fun _ => ?_)
    | with_reducible refine qk.ite ?_ ?_
    | with_reducible refine qk.sum (fun _ => ?_) (fun _ => ?_)
    | with_reducible refine qk.lim (fun _ => ?_))
theorem qtt : okL 25 qcL := qz (qi qpT) (by kernel_rfl) (by kernel_rfl)
def qtB := JA_ @qcL.eq_1 (JA_ @Try.f25.eq_1 @qpT)
theorem qoW : lbO 25 2 = qgP := Qj (qi qpT) rfl
theorem qos : okL 25 qgP := zp qtt (List.mem_of_getElem? (i := 0) (by kernel_rfl))
noncomputable def Qg (w1 : List Int) (leaf : Int) (set0 : Int) (t9 : Int) : Int → Option (Int ⊕ (Unit ⊕ Unit))
  | t10 =>
    if t10 < t9 then if 0 ≤ t10 ∧ t10 < ((w1.length : Nat) : Int) then Option.bind w1[Int.toNat t10]? fun (a : Int) =>
        if 0 ≤ t10 then if (!((ZZ Go.BinOp.and Go.IntKind.i64 (Int.fdiv set0 (2 ^ min (Int.toNat t10) (Go.IntKind.bits Go.IntKind.i64))) 1 == 1) == (a == leaf))) = Bool.true then some (Sum.inr (Sum.inl ()))
          else some (Sum.inl (w64 (t10 + 1)))
        else none
      else none
    else some (Sum.inr (Sum.inr ()))
theorem q44 : ∀ (w1 : List Int) (leaf set0 t9 t10 : Int) (w1_len : Nat), w1_len = w1.length → XL2 evo 25 1 2 ⟨[(0, rI leaf), (1, rI set0), (8, rO 1 1 w1_len), (9, rI t9), (10, rI t10)], [(0, B.blk 22 [dO 1 1 w1_len]), (1, bR 3 1 eI w1)], 2, 25⟩ = (qQ (Qg w1 leaf set0 t9) t10).bind (Sum.elim (fun (e : Unit) => some (Go.Exit.ret, ⟨[(5, rB Bool.false)], [(0, B.blk 22 [dO 1 1 w1.length]), (1, bR 3 1 eI w1)], 2, 25⟩)) (fun (e : Unit) => some (Go.Exit.exit 0, ⟨[(5, R.any)], [(0, B.blk 22 [dO 1 1 w1.length]), (1, bR 3 1 eI w1)], 2, 25⟩))) :=
  by
  intro w1 leaf set0 t9 t10 w1_len h0
  subst h0
  revert t10; exact qau qoW qos (fun e => by rcases e with _ | _ <;> exact ⟨_, rfl, fun h => by cases h⟩) fun x => by
    have := qtB; have := @qgP.eq_1; have := @Qg.eq_1; exact gA
noncomputable def QG (leaf : Int) (set0 : Int) (w1 : List Int) : Option Bool :=
  Option.bind (qQ (Qg w1 leaf set0 ((w1.length : Nat) : Int)) 0) fun (a : Sum Unit Unit) =>
  Sum.elim (fun (a2 : Unit) => some Bool.false) (fun (a3 : Unit) => some Bool.true) a
theorem q1T : ∀ (leaf set0 : Int) (w1 : List Int) (w1_len : Nat), w1_len = w1.length → ev 25 1 [rI leaf, rI set0, rP 0] [(0, B.blk 22 [dO 1 1 w1_len]), (1, bR 3 1 eI w1)] = (QG leaf set0 w1).bind (fun (e : Bool) => some (rB e, [(0, B.blk 22 [dO 1 1 w1.length]), (1, bR 3 1 eI w1)])) :=
  by
  intro leaf set0 w1 w1_len h0
  subst h0
  rw [qA qpT qt1.2.2.2 qtt]
  have := qtB; have := @q44; have := @QG.eq_1; exact gA
noncomputable def q0l (fu : Nat) (leaf : Int) (set0 : Int) (w1 : List Int) : Option Bool :=
  Option.bind (itT (Qg w1 leaf set0 ((w1.length : Nat) : Int)) fu 0) fun (a : Sum Unit Unit) =>
  Sum.elim (fun (a2 : Unit) => some Bool.false) (fun (a3 : Unit) => some Bool.true) a
theorem q1L (fu : Nat) (leaf set0 : Int) (w1 : List Int) : qk (q0l fu leaf set0 w1) (QG leaf set0 w1) := by
  unfold q0l QG
  repeat (first
    | with_reducible exact qk.refl _
    | with_reducible exact qk.none _
    | with_reducible refine qk.bind ?_ (fun _ => ?_)
    | with_reducible refine qk.ite ?_ ?_
    | with_reducible refine qk.sum (fun _ => ?_) (fun _ => ?_)
    | with_reducible refine qk.lim (fun _ => ?_))
noncomputable def qs (x : (qb × List Int × List qa × Int × qd)) : List R × List (Nat × B) := ([R.agg [C.d (D.int .i64 x.1.Kind), C.d (D.int .i64 x.1.N), C.d (D.int .i64 x.1.Min), C.d (D.sl 2 x.1.Set.length (x.1.Set.flatMap qe)), C.d (D.sl 5 x.1.L.length (x.1.L.flatMap qg))], R.c (C.ptr 0 0), R.c (C.ptr 1 0), R.c (C.ptr 3 0), R.c (C.ptr 4 0), R.c (C.ptr 5 0), R.c (C.ptr 6 0)], [(0, B.blk 32 [C.d (D.sl 8 x.2.2.1.length (x.2.2.1.flatMap qf))]), (1, B.blk 62 [C.fn 25 [] [C.ptr 2 0]]), (2, B.blk 22 [C.own 7 1 0 x.2.1.length]), (3, B.blk 3 [C.d (D.int .i64 x.2.2.2.1)]), (4, B.blk 37 [C.d (D.int .i64 x.2.2.2.2.Worst), C.d (D.int .i64 x.2.2.2.2.Best), C.d (D.int .i64 x.2.2.2.2.Pass)]), (5, B.blk 94 [C.fn 45 [] [C.ptr 0 0, C.ptr 1 0, C.ptr 3 0, C.ptr 4 0, C.ptr 5 0, C.ptr 6 0]]), (6, B.blk 62 [C.fn 26 [] [C.ptr 2 0]]), (7, B.row 3 1 ((x.2.1.flatMap eI).map C.d))])
noncomputable def qL : (List Bool × List Int × List qa × Int × qd) → R × List (Nat × B) := fun (e : List Bool × List Int × List qa × Int × qd) => (R.c (C.d (D.sl 1 e.1.length (e.1.flatMap eB))), [(0, B.blk 32 [C.d (D.sl 8 e.2.2.1.length (e.2.2.1.flatMap qf))]), (1, B.blk 62 [C.fn 25 [] [C.ptr 2 0]]), (2, B.blk 22 [C.own 7 1 0 e.2.1.length]), (3, B.blk 3 [C.d (D.int .i64 e.2.2.2.1)]), (4, B.blk 37 [C.d (D.int .i64 e.2.2.2.2.Worst), C.d (D.int .i64 e.2.2.2.2.Best), C.d (D.int .i64 e.2.2.2.2.Pass)]), (5, B.blk 94 [C.fn 45 [] [C.ptr 0 0, C.ptr 1 0, C.ptr 3 0, C.ptr 4 0, C.ptr 5 0, C.ptr 6 0]]), (6, B.blk 62 [C.fn 26 [] [C.ptr 2 0]]), (7, B.row 3 1 ((e.2.1.flatMap eI).map C.d))])
noncomputable def zD (rF : (qb × List Int × List qa × Int × qd) → Option (List Bool × List Int × List qa × Int × qd)) (w7 : List Int) (b0 : List qa) (b3 : Int) (b4 : qd) (b8 : qb) : (List Bool × Int) → Option ((List Bool × Int) ⊕ (List Bool))
  | (w9, b10) =>
    if b10 < ((w9.length : Nat) : Int) then Option.bind (QG b3 b10 w7) fun (a2 : Bool) =>
      if a2 = Bool.true then Option.bind (QX b8 b4 b0 b10) fun (a3 : ql) =>
        if 0 ≤ b10 ∧ b10 < ((w9.length : Nat) : Int) then if Int.toNat b10 + 1 ≤ w9.length then some (Sum.inl (List.set w9 (Int.toNat b10) (qx a3 b8), w64 (b10 + 1)))
          else none
        else none
      else if 0 ≤ b10 ∧ b10 < ((w9.length : Nat) : Int) then if Int.toNat b10 + 1 ≤ w9.length then some (Sum.inl (List.set w9 (Int.toNat b10) Bool.false, w64 (b10 + 1)))
        else none
      else none
    else some (Sum.inr w9)
theorem q36 (rE : Orc) (rF : (qb × List Int × List qa × Int × qd) → Option (List Bool × List Int × List qa × Int × qd)) (hF : ∀ y, rE (.fn 45) 7 (qs y).1 (qs y).2 = (rF y).bind fun e => some (qL e)) (hM : ∀ g k a G, g ≠ 45 → rE (.fn g) k a G = ev g k a G) (hR : ∀ g asg bd k a G, rE (.rd g asg bd) k a G = evr g asg bd k a G) : ∀ (w7 : List Int) (w9 : List Bool) (b0 : List qa) (b3 b4_Worst b4_Best b4_Pass b8_Kind b8_N b8_Min : Int) (b8_Set : List qc) (b8_L : List qb) (b10 : Int) (w9_len w7_len : Nat), w9_len = w9.length → w7_len = w7.length → XL2 rE 45 7 5 ⟨[(1, rP 0), (2, rP 1), (3, rP 3), (4, rP 4), (7, rP 8), (9, rO 9 1 w9_len), (10, R.c (C.fn 50 [] [])), (11, rP 10)], [(0, B.blk 32 [dL 8 qf b0]), (1, B.blk 62 [C.fn 25 [] [dP 2]]), (2, B.blk 22 [dO 7 1 w7_len]), (3, B.blk 3 [dI b3]), (4, B.blk 37 [dI b4_Worst, dI b4_Best, dI b4_Pass]), (5, B.blk 94 [C.fn 45 [] [dP 0, dP 1, dP 3, dP 4, dP 5, dP 6]]), (6, B.blk 62 [C.fn 26 [] [dP 2]]), (7, bR 3 1 eI w7), (8, B.blk 31 [dI b8_Kind, dI b8_N, dI b8_Min, dL 2 qe b8_Set, dL 5 qg b8_L]), (9, bR 4 1 eB w9), (10, B.blk 3 [dI b10])], 11, 142⟩ = (qQ (zD rF w7 b0 b3 (qd.mk b4_Worst b4_Best b4_Pass) (qb.mk b8_Kind b8_N b8_Min b8_Set b8_L)) (w9, b10)).bind (fun (e : List Bool) => some (Go.Exit.exit 0, ⟨[(3, rP 3), (9, rO 8 1 e.length)], [(0, B.blk 32 [dL 8 qf b0]), (1, B.blk 62 [C.fn 25 [] [dP 2]]), (2, B.blk 22 [dO 7 1 w7.length]), (3, B.blk 3 [dI b3]), (4, B.blk 37 [dI b4_Worst, dI b4_Best, dI b4_Pass]), (5, B.blk 94 [C.fn 45 [] [dP 0, dP 1, dP 3, dP 4, dP 5, dP 6]]), (6, B.blk 62 [C.fn 26 [] [dP 2]]), (7, bR 3 1 eI w7), (8, bR 4 1 eB e)], 9, 142⟩)) :=
  by
  intro w7 w9 b0 b3 b4_Worst b4_Best b4_Pass b8_Kind b8_N b8_Min b8_Set b8_L b10 w9_len w7_len h0 h1
  subst h0 h1
  revert b10; revert w9; exact q92 qc5 qcn (fun e => by exact ⟨_, rfl, fun h => by cases h⟩) fun w9 b10 => by
    have hF' : ∀ (x0_Kind x0_N x0_Min : Int) (x0_Set : List qc) (x0_L : List qb) (w7 : List Int) (v : List qa) (v2 v3_Worst v3_Best v3_Pass : Int) (w7_len : Nat), w7_len = w7.length → rE (.fn 45) 7 [R.agg [dI x0_Kind, dI x0_N, dI x0_Min, dL 2 qe x0_Set, dL 5 qg x0_L], rP 0, rP 1, rP 3, rP 4, rP 5, rP 6] [(0, B.blk 32 [dL 8 qf v]), (1, B.blk 62 [C.fn 25 [] [dP 2]]), (2, B.blk 22 [dO 7 1 w7_len]), (3, B.blk 3 [dI v2]), (4, B.blk 37 [dI v3_Worst, dI v3_Best, dI v3_Pass]), (5, B.blk 94 [C.fn 45 [] [dP 0, dP 1, dP 3, dP 4, dP 5, dP 6]]), (6, B.blk 62 [C.fn 26 [] [dP 2]]), (7, bR 3 1 eI w7)] = (rF ((qb.mk x0_Kind x0_N x0_Min x0_Set x0_L), w7, v, v2, (qd.mk v3_Worst v3_Best v3_Pass))).bind (fun e => some (rL 1 eB e.1, [(0, B.blk 32 [dL 8 qf e.2.2.1]), (1, B.blk 62 [C.fn 25 [] [dP 2]]), (2, B.blk 22 [dO 7 1 e.2.1.length]), (3, B.blk 3 [dI e.2.2.2.1]), (4, B.blk 37 [dI e.2.2.2.2.Worst, dI e.2.2.2.2.Best, dI e.2.2.2.2.Pass]), (5, B.blk 94 [C.fn 45 [] [dP 0, dP 1, dP 3, dP 4, dP 5, dP 6]]), (6, B.blk 62 [C.fn 26 [] [dP 2]]), (7, bR 3 1 eI e.2.1)])) := by intro x0_Kind x0_N x0_Min x0_Set x0_L w7 v v2 v3_Worst v3_Best v3_Pass w7_len h0; subst h0; exact hF ((qb.mk x0_Kind x0_N x0_Min x0_Set x0_L), w7, v, v2, (qd.mk v3_Worst v3_Best v3_Pass))
    have := qc7; have := @q9g.eq_1; have := @q1T; have := @q0e; have := @J3; have := @zD.eq_1; exact gA
noncomputable def JQ (fu : Nat) (rF : (qb × List Int × List qa × Int × qd) → Option (List Bool × List Int × List qa × Int × qd)) (w7 : List Int) (b0 : List qa) (b3 : Int) (b4 : qd) (b8 : qb) : (List Bool × Int) → Option ((List Bool × Int) ⊕ (List Bool))
  | (w9, b10) =>
    if b10 < ((w9.length : Nat) : Int) then Option.bind (q0l fu b3 b10 w7) fun (a2 : Bool) =>
      if a2 = Bool.true then Option.bind (q08 fu b8 b4 b0 b10) fun (a3 : ql) =>
        if 0 ≤ b10 ∧ b10 < ((w9.length : Nat) : Int) then if Int.toNat b10 + 1 ≤ w9.length then some (Sum.inl (List.set w9 (Int.toNat b10) (qx a3 b8), w64 (b10 + 1)))
          else none
        else none
      else if 0 ≤ b10 ∧ b10 < ((w9.length : Nat) : Int) then if Int.toNat b10 + 1 ≤ w9.length then some (Sum.inl (List.set w9 (Int.toNat b10) Bool.false, w64 (b10 + 1)))
        else none
      else none
    else some (Sum.inr w9)
theorem q3t (fu : Nat) (rF rF2 : (qb × List Int × List qa × Int × qd) → Option (List Bool × List Int × List qa × Int × qd)) (hF : ∀ y, qk (rF y) (rF2 y)) (w7 : List Int) (b0 : List qa) (b3 : Int) (b4 : qd) (b8 : qb) : ∀ x, qk (JQ fu rF w7 b0 b3 b4 b8 x) (zD rF2 w7 b0 b3 b4 b8 x) := by
  rintro ⟨w9, b10⟩
  unfold JQ zD
  try dsimp only
  repeat (first
    | with_reducible exact qk.refl _
    | with_reducible exact qk.none _
    | exact hF _
    | with_reducible apply q1L
    | with_reducible apply q0b
    | with_reducible refine qk.bind ?_ (fun _ => ?_)
    | with_reducible refine qk.ite ?_ ?_
    | with_reducible refine qk.sum (fun _ => ?_) (fun _ => ?_)
    | with_reducible refine qk.lim (fun _ => ?_))
noncomputable def zi (rF : (qb × List Int × List qa × Int × qd) → Option (List Bool × List Int × List qa × Int × qd)) (w7 : List Int) (b0 : List qa) (b3 : Int) (b4 : qd) (b8 : qb) : (List Bool × Int) → Option ((List Bool × Int) ⊕ (List Bool))
  | (w9, b10) =>
    if b10 < ((w9.length : Nat) : Int) then Option.bind (QG b3 b10 w7) fun (a2 : Bool) =>
      if a2 = Bool.true then Option.bind (QX b8 b4 b0 b10) fun (a3 : ql) =>
        if 0 ≤ b10 ∧ b10 < ((w9.length : Nat) : Int) then if Int.toNat b10 + 1 ≤ w9.length then some (Sum.inl (List.set w9 (Int.toNat b10) (qI a3 b8), w64 (b10 + 1)))
          else none
        else none
      else if 0 ≤ b10 ∧ b10 < ((w9.length : Nat) : Int) then if Int.toNat b10 + 1 ≤ w9.length then some (Sum.inl (List.set w9 (Int.toNat b10) Bool.false, w64 (b10 + 1)))
        else none
      else none
    else some (Sum.inr w9)
theorem q1W (rE : Orc) (rF : (qb × List Int × List qa × Int × qd) → Option (List Bool × List Int × List qa × Int × qd)) (hF : ∀ y, rE (.fn 45) 7 (qs y).1 (qs y).2 = (rF y).bind fun e => some (qL e)) (hM : ∀ g k a G, g ≠ 45 → rE (.fn g) k a G = ev g k a G) (hR : ∀ g asg bd k a G, rE (.rd g asg bd) k a G = evr g asg bd k a G) : ∀ (w7 : List Int) (w9 : List Bool) (b0 : List qa) (b3 b4_Worst b4_Best b4_Pass b8_Kind b8_N b8_Min : Int) (b8_Set : List qc) (b8_L : List qb) (b10 : Int) (w9_len w7_len : Nat), w9_len = w9.length → w7_len = w7.length → XL2 rE 45 7 5 ⟨[(1, rP 0), (2, rP 1), (3, rP 3), (4, rP 4), (7, rP 8), (9, rO 9 1 w9_len), (10, R.c (C.fn 51 [] [])), (11, rP 10)], [(0, B.blk 32 [dL 8 qf b0]), (1, B.blk 62 [C.fn 25 [] [dP 2]]), (2, B.blk 22 [dO 7 1 w7_len]), (3, B.blk 3 [dI b3]), (4, B.blk 37 [dI b4_Worst, dI b4_Best, dI b4_Pass]), (5, B.blk 94 [C.fn 45 [] [dP 0, dP 1, dP 3, dP 4, dP 5, dP 6]]), (6, B.blk 62 [C.fn 26 [] [dP 2]]), (7, bR 3 1 eI w7), (8, B.blk 31 [dI b8_Kind, dI b8_N, dI b8_Min, dL 2 qe b8_Set, dL 5 qg b8_L]), (9, bR 4 1 eB w9), (10, B.blk 3 [dI b10])], 11, 142⟩ = (qQ (zi rF w7 b0 b3 (qd.mk b4_Worst b4_Best b4_Pass) (qb.mk b8_Kind b8_N b8_Min b8_Set b8_L)) (w9, b10)).bind (fun (e : List Bool) => some (Go.Exit.exit 0, ⟨[(3, rP 3), (9, rO 8 1 e.length)], [(0, B.blk 32 [dL 8 qf b0]), (1, B.blk 62 [C.fn 25 [] [dP 2]]), (2, B.blk 22 [dO 7 1 w7.length]), (3, B.blk 3 [dI b3]), (4, B.blk 37 [dI b4_Worst, dI b4_Best, dI b4_Pass]), (5, B.blk 94 [C.fn 45 [] [dP 0, dP 1, dP 3, dP 4, dP 5, dP 6]]), (6, B.blk 62 [C.fn 26 [] [dP 2]]), (7, bR 3 1 eI w7), (8, bR 4 1 eB e)], 9, 142⟩)) :=
  by
  intro w7 w9 b0 b3 b4_Worst b4_Best b4_Pass b8_Kind b8_N b8_Min b8_Set b8_L b10 w9_len w7_len h0 h1
  subst h0 h1
  revert b10; revert w9; exact q92 qc5 qcn (fun e => by exact ⟨_, rfl, fun h => by cases h⟩) fun w9 b10 => by
    have hF' : ∀ (x0_Kind x0_N x0_Min : Int) (x0_Set : List qc) (x0_L : List qb) (w7 : List Int) (v : List qa) (v2 v3_Worst v3_Best v3_Pass : Int) (w7_len : Nat), w7_len = w7.length → rE (.fn 45) 7 [R.agg [dI x0_Kind, dI x0_N, dI x0_Min, dL 2 qe x0_Set, dL 5 qg x0_L], rP 0, rP 1, rP 3, rP 4, rP 5, rP 6] [(0, B.blk 32 [dL 8 qf v]), (1, B.blk 62 [C.fn 25 [] [dP 2]]), (2, B.blk 22 [dO 7 1 w7_len]), (3, B.blk 3 [dI v2]), (4, B.blk 37 [dI v3_Worst, dI v3_Best, dI v3_Pass]), (5, B.blk 94 [C.fn 45 [] [dP 0, dP 1, dP 3, dP 4, dP 5, dP 6]]), (6, B.blk 62 [C.fn 26 [] [dP 2]]), (7, bR 3 1 eI w7)] = (rF ((qb.mk x0_Kind x0_N x0_Min x0_Set x0_L), w7, v, v2, (qd.mk v3_Worst v3_Best v3_Pass))).bind (fun e => some (rL 1 eB e.1, [(0, B.blk 32 [dL 8 qf e.2.2.1]), (1, B.blk 62 [C.fn 25 [] [dP 2]]), (2, B.blk 22 [dO 7 1 e.2.1.length]), (3, B.blk 3 [dI e.2.2.2.1]), (4, B.blk 37 [dI e.2.2.2.2.Worst, dI e.2.2.2.2.Best, dI e.2.2.2.2.Pass]), (5, B.blk 94 [C.fn 45 [] [dP 0, dP 1, dP 3, dP 4, dP 5, dP 6]]), (6, B.blk 62 [C.fn 26 [] [dP 2]]), (7, bR 3 1 eI e.2.1)])) := by intro x0_Kind x0_N x0_Min x0_Set x0_L w7 v v2 v3_Worst v3_Best v3_Pass w7_len h0; subst h0; exact hF ((qb.mk x0_Kind x0_N x0_Min x0_Set x0_L), w7, v, v2, (qd.mk v3_Worst v3_Best v3_Pass))
    have := qc7; have := @q9g.eq_1; have := @q1T; have := @q0e; have := @q01; have := @zi.eq_1; exact gA
noncomputable def J0 (fu : Nat) (rF : (qb × List Int × List qa × Int × qd) → Option (List Bool × List Int × List qa × Int × qd)) (w7 : List Int) (b0 : List qa) (b3 : Int) (b4 : qd) (b8 : qb) : (List Bool × Int) → Option ((List Bool × Int) ⊕ (List Bool))
  | (w9, b10) =>
    if b10 < ((w9.length : Nat) : Int) then Option.bind (q0l fu b3 b10 w7) fun (a2 : Bool) =>
      if a2 = Bool.true then Option.bind (q08 fu b8 b4 b0 b10) fun (a3 : ql) =>
        if 0 ≤ b10 ∧ b10 < ((w9.length : Nat) : Int) then if Int.toNat b10 + 1 ≤ w9.length then some (Sum.inl (List.set w9 (Int.toNat b10) (qI a3 b8), w64 (b10 + 1)))
          else none
        else none
      else if 0 ≤ b10 ∧ b10 < ((w9.length : Nat) : Int) then if Int.toNat b10 + 1 ≤ w9.length then some (Sum.inl (List.set w9 (Int.toNat b10) Bool.false, w64 (b10 + 1)))
        else none
      else none
    else some (Sum.inr w9)
theorem q2e (fu : Nat) (rF rF2 : (qb × List Int × List qa × Int × qd) → Option (List Bool × List Int × List qa × Int × qd)) (hF : ∀ y, qk (rF y) (rF2 y)) (w7 : List Int) (b0 : List qa) (b3 : Int) (b4 : qd) (b8 : qb) : ∀ x, qk (J0 fu rF w7 b0 b3 b4 b8 x) (zi rF2 w7 b0 b3 b4 b8 x) := by
  rintro ⟨w9, b10⟩
  unfold J0 zi
  try dsimp only
  repeat (first
    | with_reducible exact qk.refl _
    | with_reducible exact qk.none _
    | exact hF _
    | with_reducible apply q1L
    | with_reducible apply q0b
    | with_reducible refine qk.bind ?_ (fun _ => ?_)
    | with_reducible refine qk.ite ?_ ?_
    | with_reducible refine qk.sum (fun _ => ?_) (fun _ => ?_)
    | with_reducible refine qk.lim (fun _ => ?_))
noncomputable def z0 (rF : (qb × List Int × List qa × Int × qd) → Option (List Bool × List Int × List qa × Int × qd)) (w7 : List Int) (w9 : List Bool) (b0 : List qa) (b3 : Int) (b4 : qd) (b8 : qb) : (List Int × Int) → Option ((List Int × Int) ⊕ (List Int))
  | (w11, t13) =>
    if t13 < ((w11.length : Nat) : Int) then if 0 ≤ t13 ∧ t13 < ((w11.length : Nat) : Int) then if Int.toNat t13 + 1 ≤ w11.length then some (Sum.inl (List.set w11 (Int.toNat t13) (-1), w64 (t13 + 1)))
        else none
      else none
    else some (Sum.inr w11)
theorem q2M (rE : Orc) (rF : (qb × List Int × List qa × Int × qd) → Option (List Bool × List Int × List qa × Int × qd)) (hF : ∀ y, rE (.fn 45) 7 (qs y).1 (qs y).2 = (rF y).bind fun e => some (qL e)) (hM : ∀ g k a G, g ≠ 45 → rE (.fn g) k a G = ev g k a G) (hR : ∀ g asg bd k a G, rE (.rd g asg bd) k a G = evr g asg bd k a G) : ∀ (w7 : List Int) (w9 : List Bool) (w11 : List Int) (b0 : List qa) (b3 b4_Worst b4_Best b4_Pass b8_Kind b8_N b8_Min : Int) (b8_Set : List qc) (b8_L : List qb) (t13 : Int) (w9_len w7_len w11_len : Nat), w9_len = w9.length → w7_len = w7.length → w11_len = w11.length → XL2 rE 45 7 14 ⟨[(3, rP 3), (5, rP 5), (6, rP 6), (7, rP 8), (9, rO 9 1 w9_len), (12, rP 10), (13, rI t13)], [(0, B.blk 32 [dL 8 qf b0]), (1, B.blk 62 [C.fn 25 [] [dP 2]]), (2, B.blk 22 [dO 7 1 w7_len]), (3, B.blk 3 [dI b3]), (4, B.blk 37 [dI b4_Worst, dI b4_Best, dI b4_Pass]), (5, B.blk 94 [C.fn 45 [] [dP 0, dP 1, dP 3, dP 4, dP 5, dP 6]]), (6, B.blk 62 [C.fn 26 [] [dP 2]]), (7, bR 3 1 eI w7), (8, B.blk 31 [dI b8_Kind, dI b8_N, dI b8_Min, dL 2 qe b8_Set, dL 5 qg b8_L]), (9, bR 4 1 eB w9), (10, B.blk 95 [dO 11 1 w11_len]), (11, bR 3 1 eI w11)], 12, 142⟩ = (qQ (z0 rF w7 w9 b0 b3 (qd.mk b4_Worst b4_Best b4_Pass) (qb.mk b8_Kind b8_N b8_Min b8_Set b8_L)) (w11, t13)).bind (fun (e : List Int) => some (Go.Exit.exit 2, ⟨[(3, rP 3), (5, rP 5), (6, rP 6), (7, rP 8), (9, rO 9 1 w9.length), (12, rP 10)], [(0, B.blk 32 [dL 8 qf b0]), (1, B.blk 62 [C.fn 25 [] [dP 2]]), (2, B.blk 22 [dO 7 1 w7.length]), (3, B.blk 3 [dI b3]), (4, B.blk 37 [dI b4_Worst, dI b4_Best, dI b4_Pass]), (5, B.blk 94 [C.fn 45 [] [dP 0, dP 1, dP 3, dP 4, dP 5, dP 6]]), (6, B.blk 62 [C.fn 26 [] [dP 2]]), (7, bR 3 1 eI w7), (8, B.blk 31 [dI b8_Kind, dI b8_N, dI b8_Min, dL 2 qe b8_Set, dL 5 qg b8_L]), (9, bR 4 1 eB w9), (10, B.blk 95 [dO 11 1 e.length]), (11, bR 3 1 eI e)], 12, 142⟩)) :=
  by
  intro w7 w9 w11 b0 b3 b4_Worst b4_Best b4_Pass b8_Kind b8_N b8_Min b8_Set b8_L t13 w9_len w7_len w11_len h0 h1 h2
  subst h0 h1 h2
  revert t13; revert w11; exact q92 qgB qey (fun e => by exact ⟨_, rfl, fun h => by cases h⟩) fun w11 t13 => by
    have hF' : ∀ (x0_Kind x0_N x0_Min : Int) (x0_Set : List qc) (x0_L : List qb) (w7 : List Int) (v : List qa) (v2 v3_Worst v3_Best v3_Pass : Int) (w7_len : Nat), w7_len = w7.length → rE (.fn 45) 7 [R.agg [dI x0_Kind, dI x0_N, dI x0_Min, dL 2 qe x0_Set, dL 5 qg x0_L], rP 0, rP 1, rP 3, rP 4, rP 5, rP 6] [(0, B.blk 32 [dL 8 qf v]), (1, B.blk 62 [C.fn 25 [] [dP 2]]), (2, B.blk 22 [dO 7 1 w7_len]), (3, B.blk 3 [dI v2]), (4, B.blk 37 [dI v3_Worst, dI v3_Best, dI v3_Pass]), (5, B.blk 94 [C.fn 45 [] [dP 0, dP 1, dP 3, dP 4, dP 5, dP 6]]), (6, B.blk 62 [C.fn 26 [] [dP 2]]), (7, bR 3 1 eI w7)] = (rF ((qb.mk x0_Kind x0_N x0_Min x0_Set x0_L), w7, v, v2, (qd.mk v3_Worst v3_Best v3_Pass))).bind (fun e => some (rL 1 eB e.1, [(0, B.blk 32 [dL 8 qf e.2.2.1]), (1, B.blk 62 [C.fn 25 [] [dP 2]]), (2, B.blk 22 [dO 7 1 e.2.1.length]), (3, B.blk 3 [dI e.2.2.2.1]), (4, B.blk 37 [dI e.2.2.2.2.Worst, dI e.2.2.2.2.Best, dI e.2.2.2.2.Pass]), (5, B.blk 94 [C.fn 45 [] [dP 0, dP 1, dP 3, dP 4, dP 5, dP 6]]), (6, B.blk 62 [C.fn 26 [] [dP 2]]), (7, bR 3 1 eI e.2.1)])) := by intro x0_Kind x0_N x0_Min x0_Set x0_L w7 v v2 v3_Worst v3_Best v3_Pass w7_len h0; subst h0; exact hF ((qb.mk x0_Kind x0_N x0_Min x0_Set x0_L), w7, v, v2, (qd.mk v3_Worst v3_Best v3_Pass))
    have := qc7; have := @qal.eq_1; have := @z0.eq_1; exact gA
noncomputable def Jn (fu : Nat) (rF : (qb × List Int × List qa × Int × qd) → Option (List Bool × List Int × List qa × Int × qd)) (w7 : List Int) (w9 : List Bool) (b0 : List qa) (b3 : Int) (b4 : qd) (b8 : qb) : (List Int × Int) → Option ((List Int × Int) ⊕ (List Int))
  | (w11, t13) =>
    if t13 < ((w11.length : Nat) : Int) then if 0 ≤ t13 ∧ t13 < ((w11.length : Nat) : Int) then if Int.toNat t13 + 1 ≤ w11.length then some (Sum.inl (List.set w11 (Int.toNat t13) (-1), w64 (t13 + 1)))
        else none
      else none
    else some (Sum.inr w11)
theorem q2R (fu : Nat) (rF rF2 : (qb × List Int × List qa × Int × qd) → Option (List Bool × List Int × List qa × Int × qd)) (hF : ∀ y, qk (rF y) (rF2 y)) (w7 : List Int) (w9 : List Bool) (b0 : List qa) (b3 : Int) (b4 : qd) (b8 : qb) : ∀ x, qk (Jn fu rF w7 w9 b0 b3 b4 b8 x) (z0 rF2 w7 w9 b0 b3 b4 b8 x) := by
  rintro ⟨w11, t13⟩
  unfold Jn z0
  try dsimp only
  repeat (first
    | with_reducible exact qk.refl _
    | with_reducible exact qk.none _
    | exact hF _
    | with_reducible refine qk.bind ?_ (fun _ => ?_)
    | with_reducible refine qk.ite ?_ ?_
    | with_reducible refine qk.sum (fun _ => ?_) (fun _ => ?_)
    | with_reducible refine qk.lim (fun _ => ?_))
theorem quz : okL 26 qfd := qz (qi qs1) (by kernel_rfl) (by kernel_rfl)
def qwf := JA_ @qfd.eq_1 (JA_ @Try.f26.eq_1 @qs1)
theorem qtW : okL 27 qh7 := qz (qi qqj) (by kernel_rfl) (by kernel_rfl)
def qsm := JA_ @qh7.eq_1 (JA_ @Try.f27.eq_1 @qqj)
theorem qqF : okL 49 qcb := qz (qi qnD) (by kernel_rfl) (by kernel_rfl)
def qqc := JA_ @qcb.eq_1 (JA_ @Try.f49.eq_1 @qnD)
theorem qjw : lbO 49 2 = qcg := Qj (qi qnD) rfl
theorem qk3 : okL 49 qcg := zp qqF (List.mem_of_getElem? (i := 0) (by kernel_rfl))
theorem qvC : okL 28 qgZ := qz (qi qqK) (by kernel_rfl) (by kernel_rfl)
def qvW := JA_ @qgZ.eq_1 (JA_ @Try.f28.eq_1 @qqK)
noncomputable def Jd (x : Int) (v : Int) (v2 : Int) : Option Bool :=
  if v ≤ x then some (decide (x < v2))
  else some Bool.false
noncomputable def QQ (x : Int) (v : Int) (v2 : Int) : Bool :=
  if v ≤ x then decide (x < v2)
  else Bool.false
theorem q43 (x v v2 : Int) : Jd x v v2 = some (QQ x v v2) := by
  unfold Jd QQ
  simp only [Qa]
theorem q4L : ∀ (x v v2 : Int), ev 28 2 [rI x, rP 0, rP 1] [(0, B.blk 3 [dI v]), (1, B.blk 3 [dI v2])] = some (rB (QQ x v v2), [(0, B.blk 3 [dI v]), (1, B.blk 3 [dI v2])]) :=
  fun x v v2 => by
    have h : ev 28 2 [rI x, rP 0, rP 1] [(0, B.blk 3 [dI v]), (1, B.blk 3 [dI v2])] = (Jd x v v2).bind (fun (e : Bool) => some (rB e, [(0, B.blk 3 [dI v]), (1, B.blk 3 [dI v2])])) := by
      rw [qA qqK qtS.2.2.2 qvC]
      have := qvW; have := @Jd.eq_1; exact gA
    rw [q43] at h
    exact h
noncomputable def qH (b0 : Int) (b1 : Int) (s : List Int) (t7 : Int) : Int → Option (Int ⊕ (Int ⊕ Unit))
  | t8 =>
    if t8 < t7 then if 0 ≤ t8 ∧ t8 < ((s.length : Nat) : Int) then Option.bind s[Int.toNat t8]? fun (a : Int) =>
        if QQ a b0 b1 = Bool.true then some (Sum.inr (Sum.inl t8))
        else some (Sum.inl (w64 (t8 + 1)))
      else none
    else some (Sum.inr (Sum.inr ()))
theorem JT : ∀ (b0 b1 : Int) (s : List Int) (t7 t8 : Int), XL2 evo 49 2 2 ⟨[(0, rL 1 eI s), (1, R.c (C.fn 28 [] [dP 0, dP 1])), (7, rI t7), (8, rI t8)], [(0, B.blk 3 [dI b0]), (1, B.blk 3 [dI b1])], 2, 19⟩ = (qQ (qH b0 b1 s t7) t8).bind (Sum.elim (fun (e : Int) => some (Go.Exit.ret, ⟨[(4, rI e)], [(0, B.blk 3 [dI b0]), (1, B.blk 3 [dI b1])], 2, 19⟩)) (fun (e : Unit) => some (Go.Exit.exit 0, ⟨[(4, R.any)], [(0, B.blk 3 [dI b0]), (1, B.blk 3 [dI b1])], 2, 19⟩))) :=
  fun b0 b1 s t7 t8 => by
    revert t8; exact qau qjw qk3 (fun e => by rcases e with _ | _ <;> exact ⟨_, rfl, fun h => by cases h⟩) fun x => by
      have := qqc; have := @qcg.eq_1; have := @q4L; have := @qH.eq_1; exact gA
noncomputable def qZ (s : List Int) (b0 : Int) (b1 : Int) : Option Int :=
  Option.bind (qQ (qH b0 b1 s ((s.length : Nat) : Int)) 0) fun (a : Sum Int Unit) =>
  Sum.elim (fun (a2 : Int) => some a2) (fun (a3 : Unit) => some (-1)) a
theorem q0y : ∀ (s : List Int) (b0 b1 : Int), ev 49 2 [rL 1 eI s, R.c (C.fn 28 [] [dP 0, dP 1])] [(0, B.blk 3 [dI b0]), (1, B.blk 3 [dI b1])] = (qZ s b0 b1).bind (fun (e : Int) => some (rI e, [(0, B.blk 3 [dI b0]), (1, B.blk 3 [dI b1])])) :=
  fun s b0 b1 => by
    rw [qA qnD qrP.2.2.2 qqF]
    have := qqc; have := @JT; have := @qZ.eq_1; exact gA
noncomputable def QL (fu : Nat) (s : List Int) (b0 : Int) (b1 : Int) : Option Int :=
  Option.bind (itT (qH b0 b1 s ((s.length : Nat) : Int)) fu 0) fun (a : Sum Int Unit) =>
  Sum.elim (fun (a2 : Int) => some a2) (fun (a3 : Unit) => some (-1)) a
theorem q0D (fu : Nat) (s : List Int) (b0 b1 : Int) : qk (QL fu s b0 b1) (qZ s b0 b1) := by
  unfold QL qZ
  repeat (first
    | with_reducible exact qk.refl _
    | with_reducible exact qk.none _
    | with_reducible refine qk.bind ?_ (fun _ => ?_)
    | with_reducible refine qk.ite ?_ ?_
    | with_reducible refine qk.sum (fun _ => ?_) (fun _ => ?_)
    | with_reducible refine qk.lim (fun _ => ?_))
noncomputable def qR (s : List Int) (b0 : Int) (b1 : Int) : Option Bool :=
  Option.bind (qZ s b0 b1) fun (a : Int) =>
  some (decide (0 ≤ a))
theorem JV : ∀ (s : List Int) (b0 b1 : Int), ev 27 2 [rL 1 eI s, R.c (C.fn 28 [] [dP 0, dP 1])] [(0, B.blk 3 [dI b0]), (1, B.blk 3 [dI b1])] = (qR s b0 b1).bind (fun (e : Bool) => some (rB e, [(0, B.blk 3 [dI b0]), (1, B.blk 3 [dI b1])])) :=
  fun s b0 b1 => by
    rw [qA qqj qrm.2.2.2 qtW]
    have := qsm; have := @q0y; have := @qR.eq_1; exact gA
noncomputable def QA (fu : Nat) (s : List Int) (b0 : Int) (b1 : Int) : Option Bool :=
  Option.bind (QL fu s b0 b1) fun (a : Int) =>
  some (decide (0 ≤ a))
theorem JU (fu : Nat) (s : List Int) (b0 b1 : Int) : qk (QA fu s b0 b1) (qR s b0 b1) := by
  unfold QA qR
  repeat (first
    | with_reducible exact qk.refl _
    | with_reducible exact qk.none _
    | with_reducible apply q0D
    | with_reducible refine qk.bind ?_ (fun _ => ?_)
    | with_reducible refine qk.ite ?_ ?_
    | with_reducible refine qk.sum (fun _ => ?_) (fun _ => ?_)
    | with_reducible refine qk.lim (fun _ => ?_))
noncomputable def QU (from0 : Int) (to : Int) (w1 : List Int) : Option Bool :=
  Option.bind (qR w1 from0 to) fun (a : Bool) =>
  some a
theorem q6s : ∀ (from0 to : Int) (w1 : List Int) (w1_len : Nat), w1_len = w1.length → ev 26 1 [rI from0, rI to, rP 0] [(0, B.blk 22 [dO 1 1 w1_len]), (1, bR 3 1 eI w1)] = (QU from0 to w1).bind (fun (e : Bool) => some (rB e, [(0, B.blk 22 [dO 1 1 w1.length]), (1, bR 3 1 eI w1)])) :=
  by
  intro from0 to w1 w1_len h0
  subst h0
  rw [qA qs1 qtq.2.2.2 quz]
  have := qwf; have := @JV; have := @QU.eq_1; exact gA
noncomputable def q1s (fu : Nat) (from0 : Int) (to : Int) (w1 : List Int) : Option Bool :=
  Option.bind (QA fu w1 from0 to) fun (a : Bool) =>
  some a
theorem q6T (fu : Nat) (from0 to : Int) (w1 : List Int) : qk (q1s fu from0 to w1) (QU from0 to w1) := by
  unfold q1s QU
  repeat (first
    | with_reducible exact qk.refl _
    | with_reducible exact qk.none _
    | with_reducible apply JU
    | with_reducible refine qk.bind ?_ (fun _ => ?_)
    | with_reducible refine qk.ite ?_ ?_
    | with_reducible refine qk.sum (fun _ => ?_) (fun _ => ?_)
    | with_reducible refine qk.lim (fun _ => ?_))
noncomputable def qU (rF : (qb × List Int × List qa × Int × qd) → Option (List Bool × List Int × List qa × Int × qd)) (w7 : List Int) (w9 : List Bool) (w11 : List Int) (b0 : List qa) (b3 : Int) (b4 : qd) (b8 : qb) (b12 : List Bool) (t18 : Bool) (t72 : List qb) (t73 : Int) (t74 : Int) (t96 : Int) : (List Int × Int) → Option ((List Int × Int) ⊕ (List Int))
  | (w14, t97) =>
    if t97 < t96 then if 0 ≤ t97 ∧ t97 < ((w14.length : Nat) : Int) then if Int.toNat t97 + 1 ≤ w14.length then if t18 = Bool.true then if 0 ≤ t97 ∧ t97 < ((w11.length : Nat) : Int) then Option.bind w11[Int.toNat t97]? fun (a2 : Int) =>
              if 0 ≤ t97 ∧ t97 < ((w14.length : Nat) : Int) then if Int.toNat t97 + 1 ≤ w14.length then Option.bind (qF t97 w11 (List.set (List.set w14 (Int.toNat t97) (-1)) (Int.toNat t97) a2) b12 t97) fun (a3 : List Int) =>
                  some (Sum.inl (a3, w64 (t97 + 1)))
                else none
              else none
            else none
          else Option.bind (qF t97 w11 (List.set w14 (Int.toNat t97) (-1)) b12 t97) fun (a4 : List Int) =>
          some (Sum.inl (a4, w64 (t97 + 1)))
        else none
      else none
    else some (Sum.inr w14)
theorem q2D (rE : Orc) (rF : (qb × List Int × List qa × Int × qd) → Option (List Bool × List Int × List qa × Int × qd)) (hF : ∀ y, rE (.fn 45) 7 (qs y).1 (qs y).2 = (rF y).bind fun e => some (qL e)) (hM : ∀ g k a G, g ≠ 45 → rE (.fn g) k a G = ev g k a G) (hR : ∀ g asg bd k a G, rE (.rd g asg bd) k a G = evr g asg bd k a G) : ∀ (w7 : List Int) (w9 : List Bool) (w11 w14 : List Int) (b0 : List qa) (b3 b4_Worst b4_Best b4_Pass b8_Kind b8_N b8_Min : Int) (b8_Set : List qc) (b8_L : List qb) (b12 : List Bool) (t18 : Bool) (t72 : List qb) (t73 t74 t96 t97 : Int) (w9_len w7_len w11_len w14_len : Nat), w9_len = w9.length → w7_len = w7.length → w11_len = w11.length → w14_len = w14.length → XL2 rE 45 7 25 ⟨[(3, rP 3), (5, rP 5), (6, rP 6), (7, rP 8), (9, rO 9 1 w9_len), (12, rP 10), (17, rP 12), (18, rB t18), (19, rP 13), (72, rL 5 qg t72), (73, rI t73), (74, rI t74), (96, rI t96), (97, rI t97)], [(0, B.blk 32 [dL 8 qf b0]), (1, B.blk 62 [C.fn 25 [] [dP 2]]), (2, B.blk 22 [dO 7 1 w7_len]), (3, B.blk 3 [dI b3]), (4, B.blk 37 [dI b4_Worst, dI b4_Best, dI b4_Pass]), (5, B.blk 94 [C.fn 45 [] [dP 0, dP 1, dP 3, dP 4, dP 5, dP 6]]), (6, B.blk 62 [C.fn 26 [] [dP 2]]), (7, bR 3 1 eI w7), (8, B.blk 31 [dI b8_Kind, dI b8_N, dI b8_Min, dL 2 qe b8_Set, dL 5 qg b8_L]), (9, bR 4 1 eB w9), (10, B.blk 95 [dO 11 1 w11_len]), (11, bR 3 1 eI w11), (12, B.blk 63 [dL 1 eB b12]), (13, B.blk 95 [dO 14 1 w14_len]), (14, bR 3 1 eI w14)], 15, 142⟩ = (qQ (qU rF w7 w9 w11 b0 b3 (qd.mk b4_Worst b4_Best b4_Pass) (qb.mk b8_Kind b8_N b8_Min b8_Set b8_L) b12 t18 t72 t73 t74 t96) (w14, t97)).bind (fun (e : List Int) => some (Go.Exit.exit 6, ⟨[(3, rP 3), (5, rP 5), (6, rP 6), (7, rP 8), (9, rO 9 1 w9.length), (12, rP 10), (19, rP 12), (72, rL 5 qg t72), (73, rI t73), (74, rI t74)], [(0, B.blk 32 [dL 8 qf b0]), (1, B.blk 62 [C.fn 25 [] [dP 2]]), (2, B.blk 22 [dO 7 1 w7.length]), (3, B.blk 3 [dI b3]), (4, B.blk 37 [dI b4_Worst, dI b4_Best, dI b4_Pass]), (5, B.blk 94 [C.fn 45 [] [dP 0, dP 1, dP 3, dP 4, dP 5, dP 6]]), (6, B.blk 62 [C.fn 26 [] [dP 2]]), (7, bR 3 1 eI w7), (8, B.blk 31 [dI b8_Kind, dI b8_N, dI b8_Min, dL 2 qe b8_Set, dL 5 qg b8_L]), (9, bR 4 1 eB w9), (10, B.blk 95 [dO 11 1 w11.length]), (11, bR 3 1 eI w11), (12, B.blk 95 [dO 13 1 e.length]), (13, bR 3 1 eI e)], 14, 142⟩)) :=
  by
  intro w7 w9 w11 w14 b0 b3 b4_Worst b4_Best b4_Pass b8_Kind b8_N b8_Min b8_Set b8_L b12 t18 t72 t73 t74 t96 t97 w9_len w7_len w11_len w14_len h0 h1 h2 h3
  subst h0 h1 h2 h3
  revert t97; revert w14; exact q92 qe6 qfN (fun e => by exact ⟨_, rfl, fun h => by cases h⟩) fun w14 t97 => by
    have hF' : ∀ (x0_Kind x0_N x0_Min : Int) (x0_Set : List qc) (x0_L : List qb) (w7 : List Int) (v : List qa) (v2 v3_Worst v3_Best v3_Pass : Int) (w7_len : Nat), w7_len = w7.length → rE (.fn 45) 7 [R.agg [dI x0_Kind, dI x0_N, dI x0_Min, dL 2 qe x0_Set, dL 5 qg x0_L], rP 0, rP 1, rP 3, rP 4, rP 5, rP 6] [(0, B.blk 32 [dL 8 qf v]), (1, B.blk 62 [C.fn 25 [] [dP 2]]), (2, B.blk 22 [dO 7 1 w7_len]), (3, B.blk 3 [dI v2]), (4, B.blk 37 [dI v3_Worst, dI v3_Best, dI v3_Pass]), (5, B.blk 94 [C.fn 45 [] [dP 0, dP 1, dP 3, dP 4, dP 5, dP 6]]), (6, B.blk 62 [C.fn 26 [] [dP 2]]), (7, bR 3 1 eI w7)] = (rF ((qb.mk x0_Kind x0_N x0_Min x0_Set x0_L), w7, v, v2, (qd.mk v3_Worst v3_Best v3_Pass))).bind (fun e => some (rL 1 eB e.1, [(0, B.blk 32 [dL 8 qf e.2.2.1]), (1, B.blk 62 [C.fn 25 [] [dP 2]]), (2, B.blk 22 [dO 7 1 e.2.1.length]), (3, B.blk 3 [dI e.2.2.2.1]), (4, B.blk 37 [dI e.2.2.2.2.Worst, dI e.2.2.2.2.Best, dI e.2.2.2.2.Pass]), (5, B.blk 94 [C.fn 45 [] [dP 0, dP 1, dP 3, dP 4, dP 5, dP 6]]), (6, B.blk 62 [C.fn 26 [] [dP 2]]), (7, bR 3 1 eI e.2.1)])) := by intro x0_Kind x0_N x0_Min x0_Set x0_L w7 v v2 v3_Worst v3_Best v3_Pass w7_len h0; subst h0; exact hF ((qb.mk x0_Kind x0_N x0_Min x0_Set x0_L), w7, v, v2, (qd.mk v3_Worst v3_Best v3_Pass))
    have := qc7; have := @qao.eq_1; have := @Jz; have := @qU.eq_1; exact gA
noncomputable def Zp (fu : Nat) (rF : (qb × List Int × List qa × Int × qd) → Option (List Bool × List Int × List qa × Int × qd)) (w7 : List Int) (w9 : List Bool) (w11 : List Int) (b0 : List qa) (b3 : Int) (b4 : qd) (b8 : qb) (b12 : List Bool) (t18 : Bool) (t72 : List qb) (t73 : Int) (t74 : Int) (t96 : Int) : (List Int × Int) → Option ((List Int × Int) ⊕ (List Int))
  | (w14, t97) =>
    if t97 < t96 then if 0 ≤ t97 ∧ t97 < ((w14.length : Nat) : Int) then if Int.toNat t97 + 1 ≤ w14.length then if t18 = Bool.true then if 0 ≤ t97 ∧ t97 < ((w11.length : Nat) : Int) then Option.bind w11[Int.toNat t97]? fun (a2 : Int) =>
              if 0 ≤ t97 ∧ t97 < ((w14.length : Nat) : Int) then if Int.toNat t97 + 1 ≤ w14.length then Option.bind (Q1 fu t97 w11 (List.set (List.set w14 (Int.toNat t97) (-1)) (Int.toNat t97) a2) b12 t97) fun (a3 : List Int) =>
                  some (Sum.inl (a3, w64 (t97 + 1)))
                else none
              else none
            else none
          else Option.bind (Q1 fu t97 w11 (List.set w14 (Int.toNat t97) (-1)) b12 t97) fun (a4 : List Int) =>
          some (Sum.inl (a4, w64 (t97 + 1)))
        else none
      else none
    else some (Sum.inr w14)
theorem q2Z (fu : Nat) (rF rF2 : (qb × List Int × List qa × Int × qd) → Option (List Bool × List Int × List qa × Int × qd)) (hF : ∀ y, qk (rF y) (rF2 y)) (w7 : List Int) (w9 : List Bool) (w11 : List Int) (b0 : List qa) (b3 : Int) (b4 : qd) (b8 : qb) (b12 : List Bool) (t18 : Bool) (t72 : List qb) (t73 t74 t96 : Int) : ∀ x, qk (Zp fu rF w7 w9 w11 b0 b3 b4 b8 b12 t18 t72 t73 t74 t96 x) (qU rF2 w7 w9 w11 b0 b3 b4 b8 b12 t18 t72 t73 t74 t96 x) := by
  rintro ⟨w14, t97⟩
  unfold Zp qU
  try dsimp only
  repeat (first
    | with_reducible exact qk.refl _
    | with_reducible exact qk.none _
    | exact hF _
    | with_reducible apply JF
    | with_reducible refine qk.bind ?_ (fun _ => ?_)
    | with_reducible refine qk.ite ?_ ?_
    | with_reducible refine qk.sum (fun _ => ?_) (fun _ => ?_)
    | with_reducible refine qk.lim (fun _ => ?_))
noncomputable def qT (rF : (qb × List Int × List qa × Int × qd) → Option (List Bool × List Int × List qa × Int × qd)) (w9 : List Bool) (b8 : qb) (t72 : List qb) (t73 : Int) : (List Int × List Int × List qa × Int × qd × Int) → Option ((List Int × List Int × List qa × Int × qd × Int) ⊕ (List Int × List Int × List qa × Int × qd))
  | (w7, w11, b0, b3, b4, t74) =>
    if t74 < t73 then if 0 ≤ t74 ∧ t74 < ((t72.length : Nat) : Int) then Option.bind t72[Int.toNat t74]? fun (a2 : qb) =>
        Option.bind (rF (a2, (w7, (b0, (b3, b4))))) fun (a3 : Prod (List Bool) (Prod (List Int) (Prod (List qa) (Prod Int qd)))) =>
        if (b8.Kind == 4) = Bool.true then Option.bind (QU b3 a3.2.2.2.1 a3.2.1) fun (a4 : Bool) =>
          if 0 ≤ ((w11.length : Nat) : Int) ∧ 8 * ((w11.length : Nat) : Int) ≤ 281474976710656 ∧ ((w11.length : Nat) : Int) ≤ 9223372036854775807 then Option.bind (qQ (qU rF a3.2.1 w9 w11 a3.2.2.1 a3.2.2.2.1 a3.2.2.2.2 b8 a3.1 (!a4) t72 t73 t74 ((w11.length : Nat) : Int)) (List.replicate w11.length 0, 0)) fun (a5 : List Int) =>
            some (Sum.inl (a3.2.1, a5, a3.2.2.1, a3.2.2.2.1, a3.2.2.2.2, w64 (t74 + 1)))
          else none
        else if 0 ≤ ((w11.length : Nat) : Int) ∧ 8 * ((w11.length : Nat) : Int) ≤ 281474976710656 ∧ ((w11.length : Nat) : Int) ≤ 9223372036854775807 then Option.bind (qQ (qU rF a3.2.1 w9 w11 a3.2.2.1 a3.2.2.2.1 a3.2.2.2.2 b8 a3.1 Bool.false t72 t73 t74 ((w11.length : Nat) : Int)) (List.replicate w11.length 0, 0)) fun (a6 : List Int) =>
          some (Sum.inl (a3.2.1, a6, a3.2.2.1, a3.2.2.2.1, a3.2.2.2.2, w64 (t74 + 1)))
        else none
      else none
    else some (Sum.inr (w7, w11, b0, b3, b4))
theorem q2J (rE : Orc) (rF : (qb × List Int × List qa × Int × qd) → Option (List Bool × List Int × List qa × Int × qd)) (hF : ∀ y, rE (.fn 45) 7 (qs y).1 (qs y).2 = (rF y).bind fun e => some (qL e)) (hM : ∀ g k a G, g ≠ 45 → rE (.fn g) k a G = ev g k a G) (hR : ∀ g asg bd k a G, rE (.rd g asg bd) k a G = evr g asg bd k a G) : ∀ (w7 : List Int) (w9 : List Bool) (w11 : List Int) (b0 : List qa) (b3 b4_Worst b4_Best b4_Pass b8_Kind b8_N b8_Min : Int) (b8_Set : List qc) (b8_L t72 : List qb) (t73 t74 : Int) (w9_len w7_len w11_len : Nat), w9_len = w9.length → w7_len = w7.length → w11_len = w11.length → XL2 rE 45 7 18 ⟨[(3, rP 3), (5, rP 5), (6, rP 6), (7, rP 8), (9, rO 9 1 w9_len), (12, rP 10), (72, rL 5 qg t72), (73, rI t73), (74, rI t74)], [(0, B.blk 32 [dL 8 qf b0]), (1, B.blk 62 [C.fn 25 [] [dP 2]]), (2, B.blk 22 [dO 7 1 w7_len]), (3, B.blk 3 [dI b3]), (4, B.blk 37 [dI b4_Worst, dI b4_Best, dI b4_Pass]), (5, B.blk 94 [C.fn 45 [] [dP 0, dP 1, dP 3, dP 4, dP 5, dP 6]]), (6, B.blk 62 [C.fn 26 [] [dP 2]]), (7, bR 3 1 eI w7), (8, B.blk 31 [dI b8_Kind, dI b8_N, dI b8_Min, dL 2 qe b8_Set, dL 5 qg b8_L]), (9, bR 4 1 eB w9), (10, B.blk 95 [dO 11 1 w11_len]), (11, bR 3 1 eI w11)], 12, 142⟩ = (qQ (qT rF w9 (qb.mk b8_Kind b8_N b8_Min b8_Set b8_L) t72 t73) (w7, w11, b0, b3, (qd.mk b4_Worst b4_Best b4_Pass), t74)).bind (fun (e : List Int × List Int × List qa × Int × qd) => some (Go.Exit.exit 4, ⟨[(7, rP 8), (9, rO 9 1 w9.length), (12, rP 10)], [(0, B.blk 32 [dL 8 qf e.2.2.1]), (1, B.blk 62 [C.fn 25 [] [dP 2]]), (2, B.blk 22 [dO 7 1 e.1.length]), (3, B.blk 3 [dI e.2.2.2.1]), (4, B.blk 37 [dI e.2.2.2.2.Worst, dI e.2.2.2.2.Best, dI e.2.2.2.2.Pass]), (5, B.blk 94 [C.fn 45 [] [dP 0, dP 1, dP 3, dP 4, dP 5, dP 6]]), (6, B.blk 62 [C.fn 26 [] [dP 2]]), (7, bR 3 1 eI e.1), (8, B.blk 31 [dI b8_Kind, dI b8_N, dI b8_Min, dL 2 qe b8_Set, dL 5 qg b8_L]), (9, bR 4 1 eB w9), (10, B.blk 95 [dO 11 1 e.2.1.length]), (11, bR 3 1 eI e.2.1)], 12, 142⟩)) :=
  by
  intro w7 w9 w11 b0 b3 b4_Worst b4_Best b4_Pass b8_Kind b8_N b8_Min b8_Set b8_L t72 t73 t74 w9_len w7_len w11_len h0 h1 h2
  subst h0 h1 h2
  have h := q1B (E := rE) (f := 45) (k := 7) (st := fun x : List Int × List Int × List qa × Int × qd × Int => (⟨[(3, rP 3), (5, rP 5), (6, rP 6), (7, rP 8), (9, rO 9 1 w9.length), (12, rP 10), (72, rL 5 qg t72), (73, rI t73), (74, rI x.2.2.2.2.2)], [(0, B.blk 32 [dL 8 qf x.2.2.1]), (1, B.blk 62 [C.fn 25 [] [dP 2]]), (2, B.blk 22 [dO 7 1 x.1.length]), (3, B.blk 3 [dI x.2.2.2.1]), (4, B.blk 37 [dI x.2.2.2.2.1.Worst, dI x.2.2.2.2.1.Best, dI x.2.2.2.2.1.Pass]), (5, B.blk 94 [C.fn 45 [] [dP 0, dP 1, dP 3, dP 4, dP 5, dP 6]]), (6, B.blk 62 [C.fn 26 [] [dP 2]]), (7, bR 3 1 eI x.1), (8, B.blk 31 [dI b8_Kind, dI b8_N, dI b8_Min, dL 2 qe b8_Set, dL 5 qg b8_L]), (9, bR 4 1 eB w9), (10, B.blk 95 [dO 11 1 x.2.1.length]), (11, bR 3 1 eI x.2.1)], 12, 142⟩ : S)) (ex := fun (e : List Int × List Int × List qa × Int × qd) => (Go.Exit.exit 4, ⟨[(7, rP 8), (9, rO 9 1 w9.length), (12, rP 10)], [(0, B.blk 32 [dL 8 qf e.2.2.1]), (1, B.blk 62 [C.fn 25 [] [dP 2]]), (2, B.blk 22 [dO 7 1 e.1.length]), (3, B.blk 3 [dI e.2.2.2.1]), (4, B.blk 37 [dI e.2.2.2.2.Worst, dI e.2.2.2.2.Best, dI e.2.2.2.2.Pass]), (5, B.blk 94 [C.fn 45 [] [dP 0, dP 1, dP 3, dP 4, dP 5, dP 6]]), (6, B.blk 62 [C.fn 26 [] [dP 2]]), (7, bR 3 1 eI e.1), (8, B.blk 31 [dI b8_Kind, dI b8_N, dI b8_Min, dL 2 qe b8_Set, dL 5 qg b8_L]), (9, bR 4 1 eB w9), (10, B.blk 95 [dO 11 1 e.2.1.length]), (11, bR 3 1 eI e.2.1)], 12, 142⟩)) (step := (qT rF w9 (qb.mk b8_Kind b8_N b8_Min b8_Set b8_L) t72 t73)) qgz qgs (fun e h => by cases h) (fun x => by
    obtain ⟨w7, w11, b0, b3, b4, t74⟩ := x; have hF' : ∀ (x0_Kind x0_N x0_Min : Int) (x0_Set : List qc) (x0_L : List qb) (w7 : List Int) (v : List qa) (v2 v3_Worst v3_Best v3_Pass : Int) (w7_len : Nat), w7_len = w7.length → rE (.fn 45) 7 [R.agg [dI x0_Kind, dI x0_N, dI x0_Min, dL 2 qe x0_Set, dL 5 qg x0_L], rP 0, rP 1, rP 3, rP 4, rP 5, rP 6] [(0, B.blk 32 [dL 8 qf v]), (1, B.blk 62 [C.fn 25 [] [dP 2]]), (2, B.blk 22 [dO 7 1 w7_len]), (3, B.blk 3 [dI v2]), (4, B.blk 37 [dI v3_Worst, dI v3_Best, dI v3_Pass]), (5, B.blk 94 [C.fn 45 [] [dP 0, dP 1, dP 3, dP 4, dP 5, dP 6]]), (6, B.blk 62 [C.fn 26 [] [dP 2]]), (7, bR 3 1 eI w7)] = (rF ((qb.mk x0_Kind x0_N x0_Min x0_Set x0_L), w7, v, v2, (qd.mk v3_Worst v3_Best v3_Pass))).bind (fun e => some (rL 1 eB e.1, [(0, B.blk 32 [dL 8 qf e.2.2.1]), (1, B.blk 62 [C.fn 25 [] [dP 2]]), (2, B.blk 22 [dO 7 1 e.2.1.length]), (3, B.blk 3 [dI e.2.2.2.1]), (4, B.blk 37 [dI e.2.2.2.2.Worst, dI e.2.2.2.2.Best, dI e.2.2.2.2.Pass]), (5, B.blk 94 [C.fn 45 [] [dP 0, dP 1, dP 3, dP 4, dP 5, dP 6]]), (6, B.blk 62 [C.fn 26 [] [dP 2]]), (7, bR 3 1 eI e.2.1)])) := by intro x0_Kind x0_N x0_Min x0_Set x0_L w7 v v2 v3_Worst v3_Best v3_Pass w7_len h0; subst h0; exact hF ((qb.mk x0_Kind x0_N x0_Min x0_Set x0_L), w7, v, v2, (qd.mk v3_Worst v3_Best v3_Pass))
    have := qc7; have := @q9K.eq_1; have := @q6s; have := q2D rE rF hF hM hR; have := @qT.eq_1; exact gA) (w7, w11, b0, b3, (qd.mk b4_Worst b4_Best b4_Pass), t74)
  exact h
noncomputable def Js (fu : Nat) (rF : (qb × List Int × List qa × Int × qd) → Option (List Bool × List Int × List qa × Int × qd)) (w9 : List Bool) (b8 : qb) (t72 : List qb) (t73 : Int) : (List Int × List Int × List qa × Int × qd × Int) → Option ((List Int × List Int × List qa × Int × qd × Int) ⊕ (List Int × List Int × List qa × Int × qd))
  | (w7, w11, b0, b3, b4, t74) =>
    if t74 < t73 then if 0 ≤ t74 ∧ t74 < ((t72.length : Nat) : Int) then Option.bind t72[Int.toNat t74]? fun (a2 : qb) =>
        Option.bind (rF (a2, (w7, (b0, (b3, b4))))) fun (a3 : Prod (List Bool) (Prod (List Int) (Prod (List qa) (Prod Int qd)))) =>
        if (b8.Kind == 4) = Bool.true then Option.bind (q1s fu b3 a3.2.2.2.1 a3.2.1) fun (a4 : Bool) =>
          if 0 ≤ ((w11.length : Nat) : Int) ∧ 8 * ((w11.length : Nat) : Int) ≤ 281474976710656 ∧ ((w11.length : Nat) : Int) ≤ 9223372036854775807 then Option.bind (itT (Zp fu rF a3.2.1 w9 w11 a3.2.2.1 a3.2.2.2.1 a3.2.2.2.2 b8 a3.1 (!a4) t72 t73 t74 ((w11.length : Nat) : Int)) fu (List.replicate w11.length 0, 0)) fun (a5 : List Int) =>
            some (Sum.inl (a3.2.1, a5, a3.2.2.1, a3.2.2.2.1, a3.2.2.2.2, w64 (t74 + 1)))
          else none
        else if 0 ≤ ((w11.length : Nat) : Int) ∧ 8 * ((w11.length : Nat) : Int) ≤ 281474976710656 ∧ ((w11.length : Nat) : Int) ≤ 9223372036854775807 then Option.bind (itT (Zp fu rF a3.2.1 w9 w11 a3.2.2.1 a3.2.2.2.1 a3.2.2.2.2 b8 a3.1 Bool.false t72 t73 t74 ((w11.length : Nat) : Int)) fu (List.replicate w11.length 0, 0)) fun (a6 : List Int) =>
          some (Sum.inl (a3.2.1, a6, a3.2.2.1, a3.2.2.2.1, a3.2.2.2.2, w64 (t74 + 1)))
        else none
      else none
    else some (Sum.inr (w7, w11, b0, b3, b4))
theorem q2T (fu : Nat) (rF rF2 : (qb × List Int × List qa × Int × qd) → Option (List Bool × List Int × List qa × Int × qd)) (hF : ∀ y, qk (rF y) (rF2 y)) (w9 : List Bool) (b8 : qb) (t72 : List qb) (t73 : Int) : ∀ x, qk (Js fu rF w9 b8 t72 t73 x) (qT rF2 w9 b8 t72 t73 x) := by
  rintro ⟨w7, w11, b0, b3, b4, t74⟩
  unfold Js qT
  try dsimp only
  repeat (first
    | with_reducible exact qk.refl _
    | with_reducible exact qk.none _
    | exact hF _
    | with_reducible apply q6T
    | (with_reducible refine q2Z _ _ _ hF ..)
    | with_reducible refine qk.bind ?_ (fun _ => ?_)
    | with_reducible refine qk.ite ?_ ?_
    | with_reducible refine qk.sum (fun _ => ?_) (fun _ => ?_)
    | with_reducible refine qk.lim (fun _ => ?_))
noncomputable def qV (rF : (qb × List Int × List qa × Int × qd) → Option (List Bool × List Int × List qa × Int × qd)) (w7 : List Int) (w10 : List Int) (b0 : List qa) (b3 : Int) (b4 : qd) (t21 : Int) : (List Bool × Int) → Option ((List Bool × Int) ⊕ (List Bool))
  | (w8, t22) =>
    if t22 < ((w8.length : Nat) : Int) then if 0 ≤ t22 ∧ t22 < ((w10.length : Nat) : Int) then Option.bind w10[Int.toNat t22]? fun (a2 : Int) =>
        if 0 ≤ t22 ∧ t22 < ((w8.length : Nat) : Int) then if Int.toNat t22 + 1 ≤ w8.length then some (Sum.inl (List.set w8 (Int.toNat t22) (decide (t21 ≤ a2)), w64 (t22 + 1)))
          else none
        else none
      else none
    else some (Sum.inr w8)
theorem q2X (rE : Orc) (rF : (qb × List Int × List qa × Int × qd) → Option (List Bool × List Int × List qa × Int × qd)) (hF : ∀ y, rE (.fn 45) 7 (qs y).1 (qs y).2 = (rF y).bind fun e => some (qL e)) (hM : ∀ g k a G, g ≠ 45 → rE (.fn g) k a G = ev g k a G) (hR : ∀ g asg bd k a G, rE (.rd g asg bd) k a G = evr g asg bd k a G) : ∀ (w7 : List Int) (w8 : List Bool) (w10 : List Int) (b0 : List qa) (b3 b4_Worst b4_Best b4_Pass t21 t22 : Int) (w8_len w7_len w10_len : Nat), w8_len = w8.length → w7_len = w7.length → w10_len = w10.length → XL2 rE 45 7 38 ⟨[(9, rO 8 1 w8_len), (12, rP 9), (21, rI t21), (22, rI t22)], [(0, B.blk 32 [dL 8 qf b0]), (1, B.blk 62 [C.fn 25 [] [dP 2]]), (2, B.blk 22 [dO 7 1 w7_len]), (3, B.blk 3 [dI b3]), (4, B.blk 37 [dI b4_Worst, dI b4_Best, dI b4_Pass]), (5, B.blk 94 [C.fn 45 [] [dP 0, dP 1, dP 3, dP 4, dP 5, dP 6]]), (6, B.blk 62 [C.fn 26 [] [dP 2]]), (7, bR 3 1 eI w7), (8, bR 4 1 eB w8), (9, B.blk 95 [dO 10 1 w10_len]), (10, bR 3 1 eI w10)], 11, 142⟩ = (qQ (qV rF w7 w10 b0 b3 (qd.mk b4_Worst b4_Best b4_Pass) t21) (w8, t22)).bind (fun (e : List Bool) => some (Go.Exit.exit 8, ⟨[(9, rO 8 1 e.length)], [(0, B.blk 32 [dL 8 qf b0]), (1, B.blk 62 [C.fn 25 [] [dP 2]]), (2, B.blk 22 [dO 7 1 w7.length]), (3, B.blk 3 [dI b3]), (4, B.blk 37 [dI b4_Worst, dI b4_Best, dI b4_Pass]), (5, B.blk 94 [C.fn 45 [] [dP 0, dP 1, dP 3, dP 4, dP 5, dP 6]]), (6, B.blk 62 [C.fn 26 [] [dP 2]]), (7, bR 3 1 eI w7), (8, bR 4 1 eB e)], 9, 142⟩)) :=
  by
  intro w7 w8 w10 b0 b3 b4_Worst b4_Best b4_Pass t21 t22 w8_len w7_len w10_len h0 h1 h2
  subst h0 h1 h2
  revert t22; revert w8; exact q92 qfq qeT (fun e => by exact ⟨_, rfl, fun h => by cases h⟩) fun w8 t22 => by
    have hF' : ∀ (x0_Kind x0_N x0_Min : Int) (x0_Set : List qc) (x0_L : List qb) (w7 : List Int) (v : List qa) (v2 v3_Worst v3_Best v3_Pass : Int) (w7_len : Nat), w7_len = w7.length → rE (.fn 45) 7 [R.agg [dI x0_Kind, dI x0_N, dI x0_Min, dL 2 qe x0_Set, dL 5 qg x0_L], rP 0, rP 1, rP 3, rP 4, rP 5, rP 6] [(0, B.blk 32 [dL 8 qf v]), (1, B.blk 62 [C.fn 25 [] [dP 2]]), (2, B.blk 22 [dO 7 1 w7_len]), (3, B.blk 3 [dI v2]), (4, B.blk 37 [dI v3_Worst, dI v3_Best, dI v3_Pass]), (5, B.blk 94 [C.fn 45 [] [dP 0, dP 1, dP 3, dP 4, dP 5, dP 6]]), (6, B.blk 62 [C.fn 26 [] [dP 2]]), (7, bR 3 1 eI w7)] = (rF ((qb.mk x0_Kind x0_N x0_Min x0_Set x0_L), w7, v, v2, (qd.mk v3_Worst v3_Best v3_Pass))).bind (fun e => some (rL 1 eB e.1, [(0, B.blk 32 [dL 8 qf e.2.2.1]), (1, B.blk 62 [C.fn 25 [] [dP 2]]), (2, B.blk 22 [dO 7 1 e.2.1.length]), (3, B.blk 3 [dI e.2.2.2.1]), (4, B.blk 37 [dI e.2.2.2.2.Worst, dI e.2.2.2.2.Best, dI e.2.2.2.2.Pass]), (5, B.blk 94 [C.fn 45 [] [dP 0, dP 1, dP 3, dP 4, dP 5, dP 6]]), (6, B.blk 62 [C.fn 26 [] [dP 2]]), (7, bR 3 1 eI e.2.1)])) := by intro x0_Kind x0_N x0_Min x0_Set x0_L w7 v v2 v3_Worst v3_Best v3_Pass w7_len h0; subst h0; exact hF ((qb.mk x0_Kind x0_N x0_Min x0_Set x0_L), w7, v, v2, (qd.mk v3_Worst v3_Best v3_Pass))
    have := qc7; have := @qak.eq_1; have := @qV.eq_1; exact gA
noncomputable def Zk (fu : Nat) (rF : (qb × List Int × List qa × Int × qd) → Option (List Bool × List Int × List qa × Int × qd)) (w7 : List Int) (w10 : List Int) (b0 : List qa) (b3 : Int) (b4 : qd) (t21 : Int) : (List Bool × Int) → Option ((List Bool × Int) ⊕ (List Bool))
  | (w8, t22) =>
    if t22 < ((w8.length : Nat) : Int) then if 0 ≤ t22 ∧ t22 < ((w10.length : Nat) : Int) then Option.bind w10[Int.toNat t22]? fun (a2 : Int) =>
        if 0 ≤ t22 ∧ t22 < ((w8.length : Nat) : Int) then if Int.toNat t22 + 1 ≤ w8.length then some (Sum.inl (List.set w8 (Int.toNat t22) (decide (t21 ≤ a2)), w64 (t22 + 1)))
          else none
        else none
      else none
    else some (Sum.inr w8)
theorem q2U (fu : Nat) (rF rF2 : (qb × List Int × List qa × Int × qd) → Option (List Bool × List Int × List qa × Int × qd)) (hF : ∀ y, qk (rF y) (rF2 y)) (w7 w10 : List Int) (b0 : List qa) (b3 : Int) (b4 : qd) (t21 : Int) : ∀ x, qk (Zk fu rF w7 w10 b0 b3 b4 t21 x) (qV rF2 w7 w10 b0 b3 b4 t21 x) := by
  rintro ⟨w8, t22⟩
  unfold Zk qV
  try dsimp only
  repeat (first
    | with_reducible exact qk.refl _
    | with_reducible exact qk.none _
    | exact hF _
    | with_reducible refine qk.bind ?_ (fun _ => ?_)
    | with_reducible refine qk.ite ?_ ?_
    | with_reducible refine qk.sum (fun _ => ?_) (fun _ => ?_)
    | with_reducible refine qk.lim (fun _ => ?_))
noncomputable def Q0 (rF : (qb × List Int × List qa × Int × qd) → Option (List Bool × List Int × List qa × Int × qd)) : (qb × List Int × List qa × Int × qd) → Option (List Bool × List Int × List qa × Int × qd)
  | (x0, w7, v, v2, v3) =>
    if 0 ≤ ((v.length : Nat) : Int) then if 0 ≤ w64 (1 * 2 ^ min v.length (Go.IntKind.bits Go.IntKind.i64)) ∧ 1 * w64 (1 * 2 ^ min v.length (Go.IntKind.bits Go.IntKind.i64)) ≤ 281474976710656 ∧ w64 (1 * 2 ^ min v.length (Go.IntKind.bits Go.IntKind.i64)) ≤ 9223372036854775807 then if zS x0 = Bool.true then Option.bind (QK x0.Kind) fun (a2 : Sum Unit Unit) =>
          Sum.elim (fun (a3 : Unit) => Option.bind (qQ (zD rF w7 v v2 v3 x0) (List.replicate (Int.toNat (w64 (1 * 2 ^ min v.length (Go.IntKind.bits Go.IntKind.i64)))) Bool.false, 1)) fun (a5 : List Bool) =>
            some (a5, w7, v, w64 (v2 + 1), v3)) (fun (a4 : Unit) => Option.bind (qQ (zi rF w7 v v2 v3 x0) (List.replicate (Int.toNat (w64 (1 * 2 ^ min v.length (Go.IntKind.bits Go.IntKind.i64)))) Bool.false, 1)) fun (a6 : List Bool) =>
            some (a6, w7, v, w64 (v2 + 1), v3)) a2
        else if 0 ≤ ((Int.toNat (w64 (1 * 2 ^ min v.length (Go.IntKind.bits Go.IntKind.i64))) : Nat) : Int) ∧ 8 * ((Int.toNat (w64 (1 * 2 ^ min v.length (Go.IntKind.bits Go.IntKind.i64))) : Nat) : Int) ≤ 281474976710656 ∧ ((Int.toNat (w64 (1 * 2 ^ min v.length (Go.IntKind.bits Go.IntKind.i64))) : Nat) : Int) ≤ 9223372036854775807 then Option.bind (qQ (z0 rF w7 (List.replicate (Int.toNat (w64 (1 * 2 ^ min v.length (Go.IntKind.bits Go.IntKind.i64)))) Bool.false) v v2 v3 x0) (List.replicate (Int.toNat (w64 (1 * 2 ^ min v.length (Go.IntKind.bits Go.IntKind.i64)))) 0, 1)) fun (a7 : List Int) =>
          Option.bind (qQ (qT rF (List.replicate (Int.toNat (w64 (1 * 2 ^ min v.length (Go.IntKind.bits Go.IntKind.i64)))) Bool.false) x0 x0.L ((x0.L.length : Nat) : Int)) (w7, (a7, (v, (v2, (v3, 0)))))) fun (a8 : Prod (List Int) (Prod (List Int) (Prod (List qa) (Prod Int qd)))) =>
          if (x0.Kind == 3) = Bool.true then Option.bind (qQ (qV rF a8.1 a8.2.1 a8.2.2.1 a8.2.2.2.1 a8.2.2.2.2 ((x0.L.length : Nat) : Int)) (List.replicate (Int.toNat (w64 (1 * 2 ^ min v.length (Go.IntKind.bits Go.IntKind.i64)))) Bool.false, 1)) fun (a9 : List Bool) =>
            some (a9, a8.1, a8.2.2.1, a8.2.2.2.1, a8.2.2.2.2)
          else Option.bind (qQ (qV rF a8.1 a8.2.1 a8.2.2.1 a8.2.2.2.1 a8.2.2.2.2 x0.N) (List.replicate (Int.toNat (w64 (1 * 2 ^ min v.length (Go.IntKind.bits Go.IntKind.i64)))) Bool.false, 1)) fun (a10 : List Bool) =>
          some (a10, a8.1, a8.2.2.1, a8.2.2.2.1, a8.2.2.2.2)
        else none
      else none
    else none
theorem q1k : q4n 45 7 qs qL Q0 := by
  intro rE rF hF hM hR x
  obtain ⟨x0, w7, v, v2, v3⟩ := x
  show q6a rE 45 7 [R.agg [dI x0.Kind, dI x0.N, dI x0.Min, dL 2 qe x0.Set, dL 5 qg x0.L], rP 0, rP 1, rP 3, rP 4, rP 5, rP 6] [(0, B.blk 32 [dL 8 qf v]), (1, B.blk 62 [C.fn 25 [] [dP 2]]), (2, B.blk 22 [dO 7 1 w7.length]), (3, B.blk 3 [dI v2]), (4, B.blk 37 [dI v3.Worst, dI v3.Best, dI v3.Pass]), (5, B.blk 94 [C.fn 45 [] [dP 0, dP 1, dP 3, dP 4, dP 5, dP 6]]), (6, B.blk 62 [C.fn 26 [] [dP 2]]), (7, bR 3 1 eI w7)] = _
  have hF' : ∀ (x0_Kind x0_N x0_Min : Int) (x0_Set : List qc) (x0_L : List qb) (w7 : List Int) (v : List qa) (v2 v3_Worst v3_Best v3_Pass : Int) (w7_len : Nat), w7_len = w7.length → rE (.fn 45) 7 [R.agg [dI x0_Kind, dI x0_N, dI x0_Min, dL 2 qe x0_Set, dL 5 qg x0_L], rP 0, rP 1, rP 3, rP 4, rP 5, rP 6] [(0, B.blk 32 [dL 8 qf v]), (1, B.blk 62 [C.fn 25 [] [dP 2]]), (2, B.blk 22 [dO 7 1 w7_len]), (3, B.blk 3 [dI v2]), (4, B.blk 37 [dI v3_Worst, dI v3_Best, dI v3_Pass]), (5, B.blk 94 [C.fn 45 [] [dP 0, dP 1, dP 3, dP 4, dP 5, dP 6]]), (6, B.blk 62 [C.fn 26 [] [dP 2]]), (7, bR 3 1 eI w7)] = (rF ((qb.mk x0_Kind x0_N x0_Min x0_Set x0_L), w7, v, v2, (qd.mk v3_Worst v3_Best v3_Pass))).bind (fun e => some (rL 1 eB e.1, [(0, B.blk 32 [dL 8 qf e.2.2.1]), (1, B.blk 62 [C.fn 25 [] [dP 2]]), (2, B.blk 22 [dO 7 1 e.2.1.length]), (3, B.blk 3 [dI e.2.2.2.1]), (4, B.blk 37 [dI e.2.2.2.2.Worst, dI e.2.2.2.2.Best, dI e.2.2.2.2.Pass]), (5, B.blk 94 [C.fn 45 [] [dP 0, dP 1, dP 3, dP 4, dP 5, dP 6]]), (6, B.blk 62 [C.fn 26 [] [dP 2]]), (7, bR 3 1 eI e.2.1)])) := by intro x0_Kind x0_N x0_Min x0_Set x0_L w7 v v2 v3_Worst v3_Best v3_Pass w7_len h0; subst h0; exact hF ((qb.mk x0_Kind x0_N x0_Min x0_Set x0_L), w7, v, v2, (qd.mk v3_Worst v3_Best v3_Pass))
  rw [q1h qj6 qke]
  have := qc7; have := @q0M; have := @q1C; have := q36 rE rF hF hM hR; have := q1W rE rF hF hM hR; have := q2M rE rF hF hM hR; have := q2J rE rF hF hM hR; have := q2X rE rF hF hM hR; have := @Q0.eq_1; have := @qL.eq_1; exact gA
theorem JX : ∀ x y, qs x = qs y → x = y := by
  rintro ⟨⟨a0_0, a0_1, a0_2, a0_3, a0_4⟩, a1, a2, a3, ⟨a4_0, a4_1, a4_2⟩⟩ ⟨⟨b0_0, b0_1, b0_2, b0_3, b0_4⟩, b1, b2, b3, ⟨b4_0, b4_1, b4_2⟩⟩ h
  simp only [qs, Prod.mk.injEq, List.cons.injEq, R.c.injEq, R.agg.injEq, R.tup.injEq, C.d.injEq, C.own.injEq, C.ptr.injEq, C.eptr.injEq, D.int.injEq, D.bool.injEq, D.str.injEq, D.sl.injEq, B.blk.injEq, B.row.injEq, ZD, JY, ZK, J4, Jm, q0W, ZG, q1j, true_and, and_true, List.nil_append] at h
  simp only [h]
theorem q3q : ∀ x y, qL x = qL y → x = y := by
  rintro ⟨a0, a1, a2, a3, ⟨a4_0, a4_1, a4_2⟩⟩ ⟨b0, b1, b2, b3, ⟨b4_0, b4_1, b4_2⟩⟩ h
  simp only [qL, Prod.mk.injEq, List.cons.injEq, R.c.injEq, R.agg.injEq, R.tup.injEq, C.d.injEq, C.own.injEq, C.ptr.injEq, C.eptr.injEq, D.int.injEq, D.bool.injEq, D.str.injEq, D.sl.injEq, B.blk.injEq, B.row.injEq, ZD, JY, ZK, J4, Jm, q0W, ZG, q1j, true_and, and_true, List.nil_append] at h
  simp only [h]
noncomputable def qB : (qb × List Int × List qa × Int × qd) → Option (List Bool × List Int × List qa × Int × qd) := q4N 45 7 qs qL
theorem q1n (x : (qb × List Int × List qa × Int × qd)) : qB x = Q0 qB x := q8p qpe.2.2.2 JX q3q q1k x
theorem q4O (x0 : qb) (w7 : List Int) (v : List qa) (v2 : Int) (v3 : qd) : ev 45 7 [R.agg [dI x0.Kind, dI x0.N, dI x0.Min, dL 2 qe x0.Set, dL 5 qg x0.L], rP 0, rP 1, rP 3, rP 4, rP 5, rP 6] [(0, B.blk 32 [dL 8 qf v]), (1, B.blk 62 [C.fn 25 [] [dP 2]]), (2, B.blk 22 [dO 7 1 w7.length]), (3, B.blk 3 [dI v2]), (4, B.blk 37 [dI v3.Worst, dI v3.Best, dI v3.Pass]), (5, B.blk 94 [C.fn 45 [] [dP 0, dP 1, dP 3, dP 4, dP 5, dP 6]]), (6, B.blk 62 [C.fn 26 [] [dP 2]]), (7, bR 3 1 eI w7)] = (qB (x0, w7, v, v2, v3)).bind (fun (e : List Bool × List Int × List qa × Int × qd) => some (rL 1 eB e.1, [(0, B.blk 32 [dL 8 qf e.2.2.1]), (1, B.blk 62 [C.fn 25 [] [dP 2]]), (2, B.blk 22 [dO 7 1 e.2.1.length]), (3, B.blk 3 [dI e.2.2.2.1]), (4, B.blk 37 [dI e.2.2.2.2.Worst, dI e.2.2.2.2.Best, dI e.2.2.2.2.Pass]), (5, B.blk 94 [C.fn 45 [] [dP 0, dP 1, dP 3, dP 4, dP 5, dP 6]]), (6, B.blk 62 [C.fn 26 [] [dP 2]]), (7, bR 3 1 eI e.2.1)])) := (q5W qpe.2.2.2 JX q1k (x0, w7, v, v2, v3))
theorem q5F : ∀ (x0_Kind x0_N x0_Min : Int) (x0_Set : List qc) (x0_L : List qb) (w7 : List Int) (v : List qa) (v2 v3_Worst v3_Best v3_Pass : Int) (w7_len : Nat), w7_len = w7.length → ev 45 7 [R.agg [dI x0_Kind, dI x0_N, dI x0_Min, dL 2 qe x0_Set, dL 5 qg x0_L], rP 0, rP 1, rP 3, rP 4, rP 5, rP 6] [(0, B.blk 32 [dL 8 qf v]), (1, B.blk 62 [C.fn 25 [] [dP 2]]), (2, B.blk 22 [dO 7 1 w7_len]), (3, B.blk 3 [dI v2]), (4, B.blk 37 [dI v3_Worst, dI v3_Best, dI v3_Pass]), (5, B.blk 94 [C.fn 45 [] [dP 0, dP 1, dP 3, dP 4, dP 5, dP 6]]), (6, B.blk 62 [C.fn 26 [] [dP 2]]), (7, bR 3 1 eI w7)] = (qB ((qb.mk x0_Kind x0_N x0_Min x0_Set x0_L), w7, v, v2, (qd.mk v3_Worst v3_Best v3_Pass))).bind (fun (e : List Bool × List Int × List qa × Int × qd) => some (rL 1 eB e.1, [(0, B.blk 32 [dL 8 qf e.2.2.1]), (1, B.blk 62 [C.fn 25 [] [dP 2]]), (2, B.blk 22 [dO 7 1 e.2.1.length]), (3, B.blk 3 [dI e.2.2.2.1]), (4, B.blk 37 [dI e.2.2.2.2.Worst, dI e.2.2.2.2.Best, dI e.2.2.2.2.Pass]), (5, B.blk 94 [C.fn 45 [] [dP 0, dP 1, dP 3, dP 4, dP 5, dP 6]]), (6, B.blk 62 [C.fn 26 [] [dP 2]]), (7, bR 3 1 eI e.2.1)])) :=
  by
  intro x0_Kind x0_N x0_Min x0_Set x0_L w7 v v2 v3_Worst v3_Best v3_Pass w7_len h0
  subst h0
  exact q4O (qb.mk x0_Kind x0_N x0_Min x0_Set x0_L) w7 v v2 (qd.mk v3_Worst v3_Best v3_Pass)
noncomputable def J5 (fu : Nat) (rF : (qb × List Int × List qa × Int × qd) → Option (List Bool × List Int × List qa × Int × qd)) : (qb × List Int × List qa × Int × qd) → Option (List Bool × List Int × List qa × Int × qd)
  | (x0, w7, v, v2, v3) =>
    if 0 ≤ ((v.length : Nat) : Int) then if 0 ≤ w64 (1 * 2 ^ min v.length (Go.IntKind.bits Go.IntKind.i64)) ∧ 1 * w64 (1 * 2 ^ min v.length (Go.IntKind.bits Go.IntKind.i64)) ≤ 281474976710656 ∧ w64 (1 * 2 ^ min v.length (Go.IntKind.bits Go.IntKind.i64)) ≤ 9223372036854775807 then if zS x0 = Bool.true then Option.bind (QK x0.Kind) fun (a2 : Sum Unit Unit) =>
          Sum.elim (fun (a3 : Unit) => Option.bind (itT (JQ fu rF w7 v v2 v3 x0) fu (List.replicate (Int.toNat (w64 (1 * 2 ^ min v.length (Go.IntKind.bits Go.IntKind.i64)))) Bool.false, 1)) fun (a5 : List Bool) =>
            some (a5, w7, v, w64 (v2 + 1), v3)) (fun (a4 : Unit) => Option.bind (itT (J0 fu rF w7 v v2 v3 x0) fu (List.replicate (Int.toNat (w64 (1 * 2 ^ min v.length (Go.IntKind.bits Go.IntKind.i64)))) Bool.false, 1)) fun (a6 : List Bool) =>
            some (a6, w7, v, w64 (v2 + 1), v3)) a2
        else if 0 ≤ ((Int.toNat (w64 (1 * 2 ^ min v.length (Go.IntKind.bits Go.IntKind.i64))) : Nat) : Int) ∧ 8 * ((Int.toNat (w64 (1 * 2 ^ min v.length (Go.IntKind.bits Go.IntKind.i64))) : Nat) : Int) ≤ 281474976710656 ∧ ((Int.toNat (w64 (1 * 2 ^ min v.length (Go.IntKind.bits Go.IntKind.i64))) : Nat) : Int) ≤ 9223372036854775807 then Option.bind (itT (Jn fu rF w7 (List.replicate (Int.toNat (w64 (1 * 2 ^ min v.length (Go.IntKind.bits Go.IntKind.i64)))) Bool.false) v v2 v3 x0) fu (List.replicate (Int.toNat (w64 (1 * 2 ^ min v.length (Go.IntKind.bits Go.IntKind.i64)))) 0, 1)) fun (a7 : List Int) =>
          Option.bind (itT (Js fu rF (List.replicate (Int.toNat (w64 (1 * 2 ^ min v.length (Go.IntKind.bits Go.IntKind.i64)))) Bool.false) x0 x0.L ((x0.L.length : Nat) : Int)) fu (w7, (a7, (v, (v2, (v3, 0)))))) fun (a8 : Prod (List Int) (Prod (List Int) (Prod (List qa) (Prod Int qd)))) =>
          if (x0.Kind == 3) = Bool.true then Option.bind (itT (Zk fu rF a8.1 a8.2.1 a8.2.2.1 a8.2.2.2.1 a8.2.2.2.2 ((x0.L.length : Nat) : Int)) fu (List.replicate (Int.toNat (w64 (1 * 2 ^ min v.length (Go.IntKind.bits Go.IntKind.i64)))) Bool.false, 1)) fun (a9 : List Bool) =>
            some (a9, a8.1, a8.2.2.1, a8.2.2.2.1, a8.2.2.2.2)
          else Option.bind (itT (Zk fu rF a8.1 a8.2.1 a8.2.2.1 a8.2.2.2.1 a8.2.2.2.2 x0.N) fu (List.replicate (Int.toNat (w64 (1 * 2 ^ min v.length (Go.IntKind.bits Go.IntKind.i64)))) Bool.false, 1)) fun (a10 : List Bool) =>
          some (a10, a8.1, a8.2.2.1, a8.2.2.2.1, a8.2.2.2.2)
        else none
      else none
    else none
theorem q2a (fu : Nat) (rF rF2 : (qb × List Int × List qa × Int × qd) → Option (List Bool × List Int × List qa × Int × qd)) (hF : ∀ y, qk (rF y) (rF2 y)) : ∀ x, qk (J5 fu rF x) (Q0 rF2 x) := by
  rintro ⟨x0, w7, v, v2, v3⟩
  unfold J5 Q0
  try dsimp only
  repeat (first
    | with_reducible exact qk.refl _
    | with_reducible exact qk.none _
    | exact hF _
    | (with_reducible refine q3t _ _ _ hF ..)
    | (with_reducible refine q2e _ _ _ hF ..)
    | (with_reducible refine q2R _ _ _ hF ..)
    | (with_reducible refine q2T _ _ _ hF ..)
    | (with_reducible refine q2U _ _ _ hF ..)
    | with_reducible refine qk.bind ?_ (fun _ => ?_)
    | with_reducible refine qk.ite ?_ ?_
    | with_reducible refine qk.sum (fun _ => ?_) (fun _ => ?_)
    | with_reducible refine qk.lim (fun _ => ?_))
noncomputable def q3N (fu : Nat) (x : (qb × List Int × List qa × Int × qd)) : Option (List Bool × List Int × List qa × Int × qd) := itR (J5 fu) fu x
theorem q5a (fu : Nat) (x : (qb × List Int × List qa × Int × qd)) : qk (q3N fu x) (qB x) := qk.rec q1n (q2a fu) fu x
noncomputable def Zg (n : qb) (s : qd) (l : List qa) (w1 : List Int) : Option (List Bool × List Int) :=
  Option.bind (qB (n, (w1, (l, (0, s))))) fun (a : Prod (List Bool) (Prod (List Int) (Prod (List qa) (Prod Int qd)))) =>
  some (a.1, a.2.1)
theorem q7C : ∀ (n_Kind n_N n_Min : Int) (n_Set : List qc) (n_L : List qb) (s_Worst s_Best s_Pass : Int) (l : List qa) (w1 : List Int) (w1_len : Nat), w1_len = w1.length → ev 24 1 [R.agg [dI n_Kind, dI n_N, dI n_Min, dL 2 qe n_Set, dL 5 qg n_L], R.agg [dI s_Worst, dI s_Best, dI s_Pass], rL 8 qf l, R.c (C.fn 25 [] [dP 0]), R.c (C.fn 26 [] [dP 0])] [(0, B.blk 22 [dO 1 1 w1_len]), (1, bR 3 1 eI w1)] = (Zg (qb.mk n_Kind n_N n_Min n_Set n_L) (qd.mk s_Worst s_Best s_Pass) l w1).bind (fun (e : List Bool × List Int) => some (rL 1 eB e.1, [(0, B.blk 22 [dO 1 1 e.2.length]), (1, bR 3 1 eI e.2)])) :=
  by
  intro n_Kind n_N n_Min n_Set n_L s_Worst s_Best s_Pass l w1 w1_len h0
  subst h0
  rw [qA qq8 qrQ.2.2.2 qtw]
  have := qtp; have := @q5F; have := @Zg.eq_1; exact gA
noncomputable def q2i (fu : Nat) (n : qb) (s : qd) (l : List qa) (w1 : List Int) : Option (List Bool × List Int) :=
  Option.bind (q3N fu (n, (w1, (l, (0, s))))) fun (a : Prod (List Bool) (Prod (List Int) (Prod (List qa) (Prod Int qd)))) =>
  some (a.1, a.2.1)
theorem q7B (fu : Nat) (n : qb) (s : qd) (l : List qa) (w1 : List Int) : qk (q2i fu n s l w1) (Zg n s l w1) := by
  unfold q2i Zg
  repeat (first
    | with_reducible exact qk.refl _
    | with_reducible exact qk.none _
    | with_reducible apply q5a
    | with_reducible refine qk.bind ?_ (fun _ => ?_)
    | with_reducible refine qk.ite ?_ ?_
    | with_reducible refine qk.sum (fun _ => ?_) (fun _ => ?_)
    | with_reducible refine qk.lim (fun _ => ?_))
end Go.Proofs.Ytgejdfnidjnjcaa.Vc
