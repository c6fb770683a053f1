/- Part 4 of a proof. -/
import Derived.Test.YtgejdfnidjnjcaaM3
set_option linter.unusedVariables false
set_option linter.unusedSimpArgs false
set_option linter.defProp false
set_option linter.unusedSectionVars false
set_option linter.unnecessarySimpa false
namespace Go.Proofs.Ytgejdfnidjnjcaa.Vc
open Go.RowKit
set_option linter.unusedVariables false
set_option linter.unusedSimpArgs false
theorem qch (a : Nat) (h : a < 9223372036854775808) : IntKind.i64.wrap (a : Int) = a := wi _ (by omega) (by omega)
theorem qah (a : Nat) : BitVec.ofInt IntKind.i64.bits (a : Int) = BitVec.ofNat 64 a := by
  show BitVec.ofInt 64 (a : Int) = _
  simp
theorem qaT (a b : Nat) (ha : a < 9223372036854775808) (hb : b < 9223372036854775808) : J0 .and .i64 (a : Int) (b : Int) = ((a &&& b : Nat) : Int) := by
  unfold J0
  simp only [qah]
  have h1 : (BitVec.ofNat 64 a &&& BitVec.ofNat 64 b).toNat = a &&& b := by
    rw [BitVec.toNat_and, BitVec.toNat_ofNat, BitVec.toNat_ofNat, Nat.mod_eq_of_lt (by omega), Nat.mod_eq_of_lt (by omega)]
  have h2 : a &&& b ≤ a := Nat.and_le_left
  show IntKind.i64.wrap (((BitVec.ofNat 64 a &&& BitVec.ofNat 64 b).toNat : Nat) : Int) = _
  rw [h1]
  exact qch _ (by omega)
theorem qd1 (a b : Nat) (ha : a < 9223372036854775808) (hb : b < 9223372036854775808) : J0 .andNot .i64 (a : Int) (b : Int) = ((a ^^^ (a &&& b) : Nat) : Int) := by
  unfold J0
  simp only [qah]
  have h1 : (BitVec.ofNat 64 a &&& ~~~BitVec.ofNat 64 b).toNat = a ^^^ (a &&& b) := by
    apply Nat.eq_of_testBit_eq
    intro i
    rw [BitVec.testBit_toNat, BitVec.getLsbD_and, BitVec.getLsbD_not, BitVec.getLsbD_ofNat, BitVec.getLsbD_ofNat, Nat.testBit_xor, Nat.testBit_and]
    by_cases hi : i < 64
    · simp only [hi, decide_true, Bool.true_and]
      cases a.testBit i <;> cases b.testBit i <;> rfl
    · have : a.testBit i = false := Nat.testBit_lt_two_pow (Nat.lt_of_lt_of_le ha (by
        have := Nat.pow_le_pow_right (n := 2) (by decide) (show 63 ≤ i by omega)
        exact this))
      simp [hi, this]
  have h2 : a ^^^ (a &&& b) < 2 ^ 63 := Nat.xor_lt_two_pow (by omega) (Nat.lt_of_le_of_lt Nat.and_le_left (by omega))
  show IntKind.i64.wrap (((BitVec.ofNat 64 a &&& ~~~BitVec.ofNat 64 b).toNat : Nat) : Int) = _
  rw [h1]
  exact qch _ (by omega)
theorem qcP (a k : Nat) (hk : k ≤ 64) : ((a : Int)).fdiv (2 ^ min k IntKind.i64.bits) = ((a / 2 ^ k : Nat) : Int) := by
  have : min k IntKind.i64.bits = k := Nat.min_eq_left hk
  rw [this]
  show ((a : Int)).fdiv (2 ^ k) = _
  rw [show ((2 : Int) ^ k) = ((2 ^ k : Nat) : Int) by simp]
  rw [Int.fdiv_eq_ediv_of_nonneg _ (Int.natCast_nonneg _)]
  simp
theorem ql5 (a k : Nat) (ha : a < 9223372036854775808) (hk : k ≤ 64) : (J0 .and .i64 ((a : Int).fdiv (2 ^ min k IntKind.i64.bits)) 1 == 1) = a.testBit k := by
  rw [qcP a k hk, show (1 : Int) = ((1 : Nat) : Int) from rfl, qaT _ _ (Nat.lt_of_le_of_lt (Nat.div_le_self _ _) ha) (by decide), Nat.and_one_is_mod, Nat.testBit_eq_decide_div_mod_eq]
  have : a / 2 ^ k % 2 < 2 := Nat.mod_lt _ (by decide)
  by_cases h : a / 2 ^ k % 2 = 1
  · simp [h]
  · have : a / 2 ^ k % 2 = 0 := by omega
    simp [this]
def Za {α : Type} (N : Nat) (g : Nat → α) : List α := (List.range N).map g
theorem zX {α : Type} (N : Nat) (g : Nat → α) : (Za N g).length = N := by simp [Za]
theorem J6 {α : Type} {N : Nat} (g : Nat → α) {i : Nat} (h : i < N) : (Za N g)[i]? = some (g i) := by
  unfold Za; rw [List.getElem?_map, List.getElem?_range h]; rfl
theorem q0I {α : Type} {N : Nat} {f g : Nat → α} (h : ∀ k, k < N → f k = g k) : Za N f = Za N g := by
  unfold Za
  refine List.map_congr_left fun k hk => h k (List.mem_range.1 hk)
theorem q7B {α : Type} (N : Nat) (c : α) : List.replicate N c = Za N (fun _ => c) := by
  unfold Za
  induction N with
  | zero => rfl
  | succ n ih => rw [List.range_succ, List.map_append, ← ih, List.replicate_succ']; rfl
def q8J {α : Type} (g : Nat → α) (i : Nat) (v : α) : Nat → α := fun k => if k = i then v else g k
theorem q06 {α : Type} (N : Nat) (g : Nat → α) (i : Nat) (v : α) : (Za N g).set i v = Za N (q8J g i v) := by
  refine List.ext_getElem? fun k => ?_
  rw [List.getElem?_set, zX]
  by_cases hk : k < N
  · rw [J6 _ hk, J6 _ hk]
    unfold q8J
    by_cases h : i = k
    · subst h; simp [hk]
    · rw [if_neg h, if_neg (fun h2 => h h2.symm)]
  · have e1 : (Za N g)[k]? = none := List.getElem?_eq_none (by rw [zX]; omega)
    have e2 : (Za N (q8J g i v))[k]? = none := List.getElem?_eq_none (by rw [zX]; omega)
    rw [e1, e2]
    split
    · rw [if_neg (by omega)]
    · rfl
theorem qaI {α : Type} (g : Nat → α) (i : Nat) (v : α) : q8J g i v i = v := by simp [q8J]
theorem q9Z {α : Type} (g : Nat → α) (i : Nat) (v w : α) : q8J (q8J g i v) i w = q8J g i w := by
  funext k; unfold q8J; split <;> rfl
theorem qlx {α : Type} (f : Nat → α) (c : α) {i0 i : Nat} (h : i0 ≤ i) : q8J (fun k => if i0 ≤ k ∧ k < i then f k else c) i (f i) = fun k => if i0 ≤ k ∧ k < i + 1 then f k else c := by
  funext k
  unfold q8J
  by_cases hk : k = i
  · subst hk; rw [if_pos rfl, if_pos ⟨h, Nat.lt_succ_self _⟩]
  · rw [if_neg hk]
    show (if i0 ≤ k ∧ k < i then f k else c) = _
    by_cases h : i0 ≤ k ∧ k < i
    · rw [if_pos h, if_pos ⟨h.1, by omega⟩]
    · rw [if_neg h, if_neg (by omega)]
end Go.Proofs.Ytgejdfnidjnjcaa.Vc
namespace Go.Proofs.Ytgejdfnidjnjcaa.Vc
open Go.RowKit
set_option linter.unusedVariables false
set_option linter.unusedSimpArgs false
set_option linter.defProp false
set_option maxRecDepth 20000
theorem lo6 : okL 6 qk5 := qy (qi bd6) (by kernel_rfl) (by kernel_rfl)
def cx6 := JA_ @qk5.eq_1 (JA_ @Try.f6.eq_1 @bd6)
theorem quK : okL 16 qf8 := qy (qi qq6) (by kernel_rfl) (by kernel_rfl)
def qu7 := JA_ @qf8.eq_1 (JA_ @Try.f16.eq_1 @qq6)
theorem q1c : ev 16 0 [] [] = some (R.tup [R.c (C.d (D.sl 8 3 [D.int Go.IntKind.i64 1, D.str (ByteArray.mk (List.toArray [65, 49])), D.int Go.IntKind.i64 5, D.int Go.IntKind.i64 60, D.int Go.IntKind.i64 0, D.sl 1 0 [], D.int Go.IntKind.i64 0, D.sl 1 0 [], D.int Go.IntKind.i64 1, D.str (ByteArray.mk (List.toArray [66, 49])), D.int Go.IntKind.i64 6, D.int Go.IntKind.i64 90, D.int Go.IntKind.i64 0, D.sl 1 0 [], D.int Go.IntKind.i64 0, D.sl 1 0 [], D.int Go.IntKind.i64 1, D.str (ByteArray.mk (List.toArray [65, 49])), D.int Go.IntKind.i64 5, D.int Go.IntKind.i64 40, D.int Go.IntKind.i64 0, D.sl 1 0 [], D.int Go.IntKind.i64 0, D.sl 1 0 []])), R.agg [C.d (D.int Go.IntKind.i64 1), C.d (D.int Go.IntKind.i64 0), C.d (D.int Go.IntKind.i64 50), C.d (D.sl 2 1 [D.int Go.IntKind.i64 1, D.str (ByteArray.mk (List.toArray [65, 49]))]), C.d (D.sl 5 0 [])], R.agg [C.d (D.int Go.IntKind.i64 2), C.d (D.int Go.IntKind.i64 10), C.d (D.int Go.IntKind.i64 0), C.d (D.sl 2 2 [D.int Go.IntKind.i64 1, D.str (ByteArray.mk (List.toArray [65, 49])), D.int Go.IntKind.i64 1, D.str (ByteArray.mk (List.toArray [66, 49]))]), C.d (D.sl 5 0 [])]], []) :=
  by
    rw [qz qq6 qs9.2.2.2 quK]
    have := qu7; exact gA
theorem lo9 : okL 9 ql8 := qy (qi bd9) (by kernel_rfl) (by kernel_rfl)
def cx9 := JA_ @ql8.eq_1 (JA_ @Try.f9.eq_1 @bd9)
noncomputable def q3M (school : Int) : Option qd :=
  if (school == 2) = Bool.true then some (qd.mk 5 1 3)
  else if (school == 3) = Bool.true then some (qd.mk 0 20 10)
  else some (qd.mk 0 100 50)
noncomputable def qn (school : Int) : qd :=
  if (school == 2) = Bool.true then qd.mk 5 1 3
  else if (school == 3) = Bool.true then qd.mk 0 20 10
  else qd.mk 0 100 50
theorem q8V (school : Int) : q3M school = some (qn school) := by
  unfold q3M qn
  simp only [zY]
theorem q24 : ∀ (school : Int), ev 9 0 [rI school] [] = some (R.agg [dI (qn school).Worst, dI (qn school).Best, dI (qn school).Pass], []) :=
  fun school => by
    have h : ev 9 0 [rI school] [] = (q3M school).bind (fun (e : qd) => some (R.agg [dI e.Worst, dI e.Best, dI e.Pass], [])) := by
      rw [qz bd9 pw9.2.2.2 lo9]
      have := cx9; have := @q3M.eq_1; exact gA
    rw [q8V] at h
    exact h
theorem qqU : okL 11 qas := qy (qi qnR) (by kernel_rfl) (by kernel_rfl)
def qq5 := JA_ @qas.eq_1 (JA_ @Try.f11.eq_1 @qnR)
theorem qnE : lbO 11 9 = qdT := Q8 (qi qnR) rfl
theorem qn9 : okL 11 qdT := zc qqU (List.mem_of_getElem? (i := 0) (by kernel_rfl))
theorem qky : lbO 11 14 = qbB := Q8 (qi qnR) rfl
theorem qlu : okL 11 qbB := zc qqU (List.mem_of_getElem? (i := 1) (by kernel_rfl))
theorem qva : okL 10 qf2 := qy (qi qqn) (by kernel_rfl) (by kernel_rfl)
def qvp := JA_ @qf2.eq_1 (JA_ @Try.f10.eq_1 @qqn)
theorem qsD : okL 21 qcL := qy (qi qpk) (by kernel_rfl) (by kernel_rfl)
def qt0 := JA_ @qcL.eq_1 (JA_ @Try.f21.eq_1 @qpk)
theorem qox : lbO 21 6 = qgD := Q8 (qi qpk) rfl
theorem qo3 : okL 21 qgD := zc qsD (List.mem_of_getElem? (i := 0) (by kernel_rfl))
theorem qts : okL 35 qaL := qy (qi qo0) (by kernel_rfl) (by kernel_rfl)
def qrj := JA_ @qaL.eq_1 (JA_ @Try.f35.eq_1 @qo0)
theorem qen : raO 35 4 = q7K := qm3 (qi qo0) rfl
theorem qbT : rbO 35 4 = q6O := qnV (qi qo0) rfl
theorem qbS : okL 35 q7K ∧ okL 35 q6O := qp9 (key := 0) (q := (q7K, q6O)) qts (List.mem_of_getElem? (i := 0) (by kernel_rfl))
theorem qfp : qK (rbO 35 4) = 4 := by rw [qbT]; exact qoS
theorem qjh : ∀ k s, XE2 evo 35 k (raO 35 4) s = XE2 evo 35 k q7K s := fun _ _ => by rw [qen]
theorem qjd : ∀ k s, XE2 evo 35 k (rbO 35 4) s = XE2 evo 35 k q6O s := fun _ _ => by rw [qbT]
theorem quZ : okL 52 qg0 := qy (qi qqb) (by kernel_rfl) (by kernel_rfl)
def qup := JA_ @qg0.eq_1 (JA_ @Try.f52.eq_1 @qqb)
noncomputable def q18 (n : qb) : Option Unit :=
  some ()
noncomputable def q4e (n : qb) : Unit :=
  ()
theorem q7j (n : qb) : q18 n = some (q4e n) := by
  unfold q18 q4e
  simp only [zY]
theorem q8y : ∀ (n_Kind n_N n_Min : Int) (n_Set : List qc) (n_L : List qb), ev 52 0 [R.agg [dI n_Kind, dI n_N, dI n_Min, dL 2 qe n_Set, dL 5 qg n_L]] [] = some (R.c (C.fn 68 [] [dP 0]), [(0, B.blk 31 [dI n_Kind, dI n_N, dI n_Min, dL 2 qe n_Set, dL 5 qg n_L])]) :=
  fun n_Kind n_N n_Min n_Set n_L => by
    have h : ev 52 0 [R.agg [dI n_Kind, dI n_N, dI n_Min, dL 2 qe n_Set, dL 5 qg n_L]] [] = (q18 (qb.mk n_Kind n_N n_Min n_Set n_L)).bind (fun (e : Unit) => some (R.c (C.fn 68 [] [dP 0]), [(0, B.blk 31 [dI n_Kind, dI n_N, dI n_Min, dL 2 qe n_Set, dL 5 qg n_L])])) := by
      rw [qz qqb qtq.2.2.2 quZ]
      have := qup; have := @q18.eq_1; exact gA
    rw [q7j] at h
    exact h
theorem qu9 : okL 68 qg3 := qy (qi qr8) (by kernel_rfl) (by kernel_rfl)
def quL := JA_ @qg3.eq_1 (JA_ @Try.f68.eq_1 @qr8)
theorem qrk : okL 69 qcB := qy (qi qmm) (by kernel_rfl) (by kernel_rfl)
def qpD := JA_ @qcB.eq_1 (JA_ @Try.f69.eq_1 @qmm)
theorem qjy : lbO 69 4 = qci := Q8 (qi qmm) rfl
theorem qjw : okL 69 qci := zc qrk (List.mem_of_getElem? (i := 0) (by kernel_rfl))
noncomputable def ZY (t9 : Int) (t10 : Int) (t102 : Int) (t103 : Int) (t104 : List qc) (t105 : List qb) (deepest : Int) (ok : Bool) : Option (Unit ⊕ (List qb × Int)) :=
  if 100 < t9 then some (Sum.inl ())
  else if 1 ≤ Go.maxLen then some (Sum.inr ([qb.mk t10 t102 t103 t104 t105], max deepest t9))
  else none
theorem q5S : ∀ (t9 t10 t102 t103 : Int) (t104 : List qc) (t105 : List qb) (deepest : Int) (ok : Bool), evr 35 (raO 35 4) (rbO 35 4) 4 [R.any, R.any, rP 0, rP 1, rP 2, R.any, R.any, R.any, R.any, rI t9, R.agg [dI t10, dI t102, dI t103, dL 2 qe t104, dL 5 qg t105], R.any, R.any, R.any, R.any, R.any, R.any, R.any, R.any, R.any, R.any, R.any, R.any, R.any, R.any, R.any, R.any] [(0, B.blk 29 [C.nils]), (1, B.blk 3 [dI deepest]), (2, B.blk 4 [dB ok]), (3, B.ob (AO.lp 35 (R.any :: R.any :: rP 0 :: rP 1 :: rP 2 :: q4y) [9, 10] (raO 35 4) (rbO 35 4) Go.LoopState.ready none))] = (ZY t9 t10 t102 t103 t104 t105 deepest ok).bind (Sum.elim (fun (e : Unit) => some (rB Bool.false, [(0, B.blk 29 [C.nils]), (1, B.blk 3 [dI 0]), (2, B.blk 4 [dB Bool.false]), (3, B.ob (AO.lp 35 (R.any :: R.any :: rP 0 :: rP 1 :: rP 2 :: q4y) [9, 10] (raO 35 4) (rbO 35 4) Go.LoopState.done (some Go.Code.ret)))])) (fun (e : List qb × Int) => some (rB Bool.true, [(0, B.blk 29 [dO 4 5 e.1.length]), (1, B.blk 3 [dI e.2]), (2, B.blk 4 [dB ok]), (3, B.ob (AO.lp 35 (R.any :: R.any :: rP 0 :: rP 1 :: rP 2 :: q4y) [9, 10] (raO 35 4) (rbO 35 4) Go.LoopState.ready none)), (4, bR 31 5 qg e.1)]))) :=
  fun t9 t10 t102 t103 t104 t105 deepest ok => by
    rw [qdL qen qbT (by decide) qjk qbS.1 qbS.2]
    have := qrj; have := @qjh; have := @qjd; have := @q7K.eq_1; have := @q6O.eq_1; have := @ZY.eq_1; have := @qfp; exact gA
noncomputable def Zg (t9 : Int) (t10 : Int) (t102 : Int) (t103 : Int) (t104 : List qc) (t105 : List qb) (w4 : List qb) (deepest : Int) (ok : Bool) : Option (Unit ⊕ (List qb × Int)) :=
  if 100 < t9 then some (Sum.inl ())
  else if (((w4.length : Nat) : Int) == 10000) = Bool.true then some (Sum.inl ())
  else if w4.length + 1 ≤ Go.maxLen ∧ (w4.length + 1) * 72 ≤ 140737488355328 then some (Sum.inr (w4 ++ [qb.mk t10 t102 t103 t104 t105], max deepest t9))
  else none
theorem q4A : ∀ (t9 t10 t102 t103 : Int) (t104 : List qc) (t105 w4 : List qb) (deepest : Int) (ok : Bool) (w4_len : Nat), w4_len = w4.length → evr 35 (raO 35 4) (rbO 35 4) 4 [R.any, R.any, rP 0, rP 1, rP 2, R.any, R.any, R.any, R.any, rI t9, R.agg [dI t10, dI t102, dI t103, dL 2 qe t104, dL 5 qg t105], R.any, R.any, R.any, R.any, R.any, R.any, R.any, R.any, R.any, R.any, R.any, R.any, R.any, R.any, R.any, R.any] [(0, B.blk 29 [dO 4 5 w4_len]), (1, B.blk 3 [dI deepest]), (2, B.blk 4 [dB ok]), (3, B.ob (AO.lp 35 (R.any :: R.any :: rP 0 :: rP 1 :: rP 2 :: q4y) [9, 10] (raO 35 4) (rbO 35 4) Go.LoopState.ready none)), (4, bR 31 5 qg w4)] = (Zg t9 t10 t102 t103 t104 t105 w4 deepest ok).bind (Sum.elim (fun (e : Unit) => some (rB Bool.false, [(0, B.blk 29 [C.nils]), (1, B.blk 3 [dI 0]), (2, B.blk 4 [dB Bool.false]), (3, B.ob (AO.lp 35 (R.any :: R.any :: rP 0 :: rP 1 :: rP 2 :: q4y) [9, 10] (raO 35 4) (rbO 35 4) Go.LoopState.done (some Go.Code.ret)))])) (fun (e : List qb × Int) => some (rB Bool.true, [(0, B.blk 29 [dO 4 5 e.1.length]), (1, B.blk 3 [dI e.2]), (2, B.blk 4 [dB ok]), (3, B.ob (AO.lp 35 (R.any :: R.any :: rP 0 :: rP 1 :: rP 2 :: q4y) [9, 10] (raO 35 4) (rbO 35 4) Go.LoopState.ready none)), (4, bR 31 5 qg e.1)]))) :=
  by
  intro t9 t10 t102 t103 t104 t105 w4 deepest ok w4_len h0
  subst h0
  rw [qdL qen qbT (by decide) qjk qbS.1 qbS.2]
  have := qrj; have := @qjh; have := @qjd; have := @q7K.eq_1; have := @q6O.eq_1; have := @Zg.eq_1; have := @qfp; exact gA
noncomputable def Q4 (x : (qb × Int × List qb × Int × Bool)) : List R × List (Nat × B) := ([R.agg [C.d (D.int .i64 x.1.Kind), C.d (D.int .i64 x.1.N), C.d (D.int .i64 x.1.Min), C.d (D.sl 2 x.1.Set.length (x.1.Set.flatMap qe)), C.d (D.sl 5 x.1.L.length (x.1.L.flatMap qg))], R.c (C.d (D.int .i64 x.2.1)), R.c (C.hd .yield 0)], [(0, B.ob (AO.lp 35 [R.any, R.any, R.c (C.ptr 1 0), R.c (C.ptr 2 0), R.c (C.ptr 3 0), R.any, R.any, R.any, R.any, R.any, R.any, R.any, R.any, R.any, R.any, R.any, R.any, R.any, R.any, R.any, R.any, R.any, R.any, R.any, R.any, R.any, R.any] [9, 10] (raO 35 4) (rbO 35 4) Go.LoopState.ready none)), (1, B.blk 29 [C.own 4 5 0 x.2.2.1.length]), (2, B.blk 3 [C.d (D.int .i64 x.2.2.2.1)]), (3, B.blk 4 [C.d (D.bool x.2.2.2.2)]), (4, B.row 31 5 ((x.2.2.1.flatMap qg).map C.d))])
noncomputable def Qn : (Int ⊕ (List qb × Int × Bool)) → R × List (Nat × B) := Sum.elim (fun (e : Int) => (R.c (C.d (D.bool Bool.false)), [(0, B.ob (AO.lp 35 [R.any, R.any, R.c (C.ptr 1 0), R.c (C.ptr 2 0), R.c (C.ptr 3 0), R.any, R.any, R.any, R.any, R.any, R.any, R.any, R.any, R.any, R.any, R.any, R.any, R.any, R.any, R.any, R.any, R.any, R.any, R.any, R.any, R.any, R.any] [9, 10] (raO 35 4) (rbO 35 4) Go.LoopState.done (some Go.Code.ret))), (1, B.blk 29 [C.nils]), (2, B.blk 3 [C.d (D.int .i64 e)]), (3, B.blk 4 [C.d (D.bool Bool.false)])])) (fun (e : List qb × Int × Bool) => (R.c (C.d (D.bool Bool.true)), [(0, B.ob (AO.lp 35 [R.any, R.any, R.c (C.ptr 1 0), R.c (C.ptr 2 0), R.c (C.ptr 3 0), R.any, R.any, R.any, R.any, R.any, R.any, R.any, R.any, R.any, R.any, R.any, R.any, R.any, R.any, R.any, R.any, R.any, R.any, R.any, R.any, R.any, R.any] [9, 10] (raO 35 4) (rbO 35 4) Go.LoopState.ready none)), (1, B.blk 29 [C.own 4 5 0 e.1.length]), (2, B.blk 3 [C.d (D.int .i64 e.2.1)]), (3, B.blk 4 [C.d (D.bool e.2.2)]), (4, B.row 31 5 ((e.1.flatMap qg).map C.d))]))
noncomputable def Qf (rF : (qb × Int × List qb × Int × Bool) → Option (Int ⊕ (List qb × Int × Bool))) (deep : Int) (t15 : List qb) (t16 : Int) : (List qb × Int × Bool × Int) → Option ((List qb × Int × Bool × Int) ⊕ (Int ⊕ (List qb × Int × Bool)))
  | (w4, b2, b3, t17) =>
    if t17 < t16 then if 0 ≤ t17 ∧ t17 < ((t15.length : Nat) : Int) then Option.bind t15[Int.toNat t17]? fun (a2 : qb) =>
        Option.bind (rF (a2, (w64 (deep + 1), (w4, (b2, b3))))) fun (a3 : Sum Int (Prod (List qb) (Prod Int Bool))) =>
        Sum.elim (fun (a4 : Int) => some (Sum.inr (Sum.inl a4))) (fun (a5 : Prod (List qb) (Prod Int Bool)) => some (Sum.inl (a5.1, a5.2.1, a5.2.2, w64 (t17 + 1)))) a3
      else none
    else some (Sum.inr (Sum.inr (w4, b2, b3)))
theorem q2Z (rE : Orc) (rF : (qb × Int × List qb × Int × Bool) → Option (Int ⊕ (List qb × Int × Bool))) (hF : ∀ y, rE (.fn 69) 4 (Q4 y).1 (Q4 y).2 = (rF y).bind fun e => some (Qn e)) (hM : ∀ g k a G, g ≠ 69 → rE (.fn g) k a G = ev g k a G) (hR : ∀ g asg bd k a G, rE (.rd g asg bd) k a G = evr g asg bd k a G) : ∀ (w4 : List qb) (b2 : Int) (b3 : Bool) (deep : Int) (t15 : List qb) (t16 t17 : Int) (w4_len : Nat), w4_len = w4.length → XL2 rE 69 4 4 ⟨[(1, rI deep), (2, R.c (C.hd .yield 0)), (15, rL 5 qg t15), (16, rI t16), (17, rI t17)], [(0, B.ob (AO.lp 35 (R.any :: R.any :: rP 1 :: rP 2 :: rP 3 :: q4y) [9, 10] (raO 35 4) (rbO 35 4) Go.LoopState.ready none)), (1, B.blk 29 [dO 4 5 w4_len]), (2, B.blk 3 [dI b2]), (3, B.blk 4 [dB b3]), (4, bR 31 5 qg w4)], 5, 28⟩ = (qN (Qf rF deep t15 t16) (w4, b2, b3, t17)).bind (Sum.elim (fun (e : Int) => some (Go.Exit.ret, ⟨[(6, rB Bool.false)], [(0, B.ob (AO.lp 35 (R.any :: R.any :: rP 1 :: rP 2 :: rP 3 :: q4y) [9, 10] (raO 35 4) (rbO 35 4) Go.LoopState.done (some Go.Code.ret))), (1, B.blk 29 [C.nils]), (2, B.blk 3 [dI e]), (3, B.blk 4 [dB Bool.false])], 4, 28⟩)) (fun (e : List qb × Int × Bool) => some (Go.Exit.exit 0, ⟨[(6, R.any)], [(0, B.ob (AO.lp 35 (R.any :: R.any :: rP 1 :: rP 2 :: rP 3 :: q4y) [9, 10] (raO 35 4) (rbO 35 4) Go.LoopState.ready none)), (1, B.blk 29 [dO 4 5 e.1.length]), (2, B.blk 3 [dI e.2.1]), (3, B.blk 4 [dB e.2.2]), (4, bR 31 5 qg e.1)], 5, 28⟩))) :=
  by
  intro w4 b2 b3 deep t15 t16 t17 w4_len h0
  subst h0
  revert t17; revert b3; revert b2; revert w4; exact qrV qjy qjw (fun e => by rcases e with _ | _ <;> exact ⟨_, rfl, fun h => by cases h⟩) fun w4 b2 b3 t17 => by
    have hF' : ∀ (n_Kind n_N n_Min : Int) (n_Set : List qc) (n_L : List qb) (deep : Int) (w4 : List qb) (b2 : Int) (b3 : Bool) (w4_len : Nat), w4_len = w4.length → rE (.fn 69) 4 [R.agg [dI n_Kind, dI n_N, dI n_Min, dL 2 qe n_Set, dL 5 qg n_L], rI deep, R.c (C.hd .yield 0)] [(0, B.ob (AO.lp 35 (R.any :: R.any :: rP 1 :: rP 2 :: rP 3 :: q4y) [9, 10] (raO 35 4) (rbO 35 4) Go.LoopState.ready none)), (1, B.blk 29 [dO 4 5 w4_len]), (2, B.blk 3 [dI b2]), (3, B.blk 4 [dB b3]), (4, bR 31 5 qg w4)] = (rF ((qb.mk n_Kind n_N n_Min n_Set n_L), deep, w4, b2, b3)).bind (Sum.elim (fun (e : Int) => some (rB Bool.false, [(0, B.ob (AO.lp 35 (R.any :: R.any :: rP 1 :: rP 2 :: rP 3 :: q4y) [9, 10] (raO 35 4) (rbO 35 4) Go.LoopState.done (some Go.Code.ret))), (1, B.blk 29 [C.nils]), (2, B.blk 3 [dI e]), (3, B.blk 4 [dB Bool.false])])) (fun (e : List qb × Int × Bool) => some (rB Bool.true, [(0, B.ob (AO.lp 35 (R.any :: R.any :: rP 1 :: rP 2 :: rP 3 :: q4y) [9, 10] (raO 35 4) (rbO 35 4) Go.LoopState.ready none)), (1, B.blk 29 [dO 4 5 e.1.length]), (2, B.blk 3 [dI e.2.1]), (3, B.blk 4 [dB e.2.2]), (4, bR 31 5 qg e.1)]))) := by intro n_Kind n_N n_Min n_Set n_L deep w4 b2 b3 w4_len h0; subst h0; exact (hF ((qb.mk n_Kind n_N n_Min n_Set n_L), deep, w4, b2, b3)).trans (by congr 1; funext e; rcases e with _ | _ <;> rfl)
    have := qpD; have := @qci.eq_1; have := @Qf.eq_1; exact gA
noncomputable def JD (fu : Nat) (rF : (qb × Int × List qb × Int × Bool) → Option (Int ⊕ (List qb × Int × Bool))) (deep : Int) (t15 : List qb) (t16 : Int) : (List qb × Int × Bool × Int) → Option ((List qb × Int × Bool × Int) ⊕ (Int ⊕ (List qb × Int × Bool)))
  | (w4, b2, b3, t17) =>
    if t17 < t16 then if 0 ≤ t17 ∧ t17 < ((t15.length : Nat) : Int) then Option.bind t15[Int.toNat t17]? fun (a2 : qb) =>
        Option.bind (rF (a2, (w64 (deep + 1), (w4, (b2, b3))))) fun (a3 : Sum Int (Prod (List qb) (Prod Int Bool))) =>
        Sum.elim (fun (a4 : Int) => some (Sum.inr (Sum.inl a4))) (fun (a5 : Prod (List qb) (Prod Int Bool)) => some (Sum.inl (a5.1, a5.2.1, a5.2.2, w64 (t17 + 1)))) a3
      else none
    else some (Sum.inr (Sum.inr (w4, b2, b3)))
theorem q2Y (fu : Nat) (rF rF2 : (qb × Int × List qb × Int × Bool) → Option (Int ⊕ (List qb × Int × Bool))) (hF : ∀ y, qk (rF y) (rF2 y)) (deep : Int) (t15 : List qb) (t16 : Int) : ∀ x, qk (JD fu rF deep t15 t16 x) (Qf rF2 deep t15 t16 x) := by
  rintro ⟨w4, b2, b3, t17⟩
  unfold JD Qf
  try dsimp only
  repeat (first
    | with_reducible exact qk.refl _
    | with_reducible exact qk.none _
    | exact hF _
    | with_reducible refine qk.bind ?_ (fun _ => ?_)
    | with_reducible refine qk.ite ?_ ?_
    | with_reducible refine qk.sum (fun _ => ?_) (fun _ => ?_)
    | with_reducible refine qk.lim (fun _ => ?_))
noncomputable def Qg (rF : (qb × Int × List qb × Int × Bool) → Option (Int ⊕ (List qb × Int × Bool))) : (qb × Int × List qb × Int × Bool) → Option (Int ⊕ (List qb × Int × Bool))
  | (n, deep, w4, b2, b3) =>
    Option.bind (Zg deep n.Kind n.N n.Min n.Set n.L w4 b2 b3) fun (a2 : Sum Unit (Prod (List qb) Int)) =>
    Sum.elim (fun (a3 : Unit) => some (Sum.inl 0)) (fun (a4 : Prod (List qb) Int) => Option.bind (qN (Qf rF deep n.L ((n.L.length : Nat) : Int)) (a4.1, (a4.2, (b3, 0)))) fun (a5 : Sum Int (Prod (List qb) (Prod Int Bool))) =>
      Sum.elim (fun (a6 : Int) => some (Sum.inl a6)) (fun (a7 : Prod (List qb) (Prod Int Bool)) => some (Sum.inr (a7.1, a7.2.1, a7.2.2))) a5) a2
theorem q2m : q4a 69 4 Q4 Qn Qg := by
  intro rE rF hF hM hR x
  obtain ⟨n, deep, w4, b2, b3⟩ := x
  show q6D rE 69 4 [R.agg [dI n.Kind, dI n.N, dI n.Min, dL 2 qe n.Set, dL 5 qg n.L], rI deep, R.c (C.hd .yield 0)] [(0, B.ob (AO.lp 35 (R.any :: R.any :: rP 1 :: rP 2 :: rP 3 :: q4y) [9, 10] (raO 35 4) (rbO 35 4) Go.LoopState.ready none)), (1, B.blk 29 [dO 4 5 w4.length]), (2, B.blk 3 [dI b2]), (3, B.blk 4 [dB b3]), (4, bR 31 5 qg w4)] = _
  have hF' : ∀ (n_Kind n_N n_Min : Int) (n_Set : List qc) (n_L : List qb) (deep : Int) (w4 : List qb) (b2 : Int) (b3 : Bool) (w4_len : Nat), w4_len = w4.length → rE (.fn 69) 4 [R.agg [dI n_Kind, dI n_N, dI n_Min, dL 2 qe n_Set, dL 5 qg n_L], rI deep, R.c (C.hd .yield 0)] [(0, B.ob (AO.lp 35 (R.any :: R.any :: rP 1 :: rP 2 :: rP 3 :: q4y) [9, 10] (raO 35 4) (rbO 35 4) Go.LoopState.ready none)), (1, B.blk 29 [dO 4 5 w4_len]), (2, B.blk 3 [dI b2]), (3, B.blk 4 [dB b3]), (4, bR 31 5 qg w4)] = (rF ((qb.mk n_Kind n_N n_Min n_Set n_L), deep, w4, b2, b3)).bind (Sum.elim (fun (e : Int) => some (rB Bool.false, [(0, B.ob (AO.lp 35 (R.any :: R.any :: rP 1 :: rP 2 :: rP 3 :: q4y) [9, 10] (raO 35 4) (rbO 35 4) Go.LoopState.done (some Go.Code.ret))), (1, B.blk 29 [C.nils]), (2, B.blk 3 [dI e]), (3, B.blk 4 [dB Bool.false])])) (fun (e : List qb × Int × Bool) => some (rB Bool.true, [(0, B.ob (AO.lp 35 (R.any :: R.any :: rP 1 :: rP 2 :: rP 3 :: q4y) [9, 10] (raO 35 4) (rbO 35 4) Go.LoopState.ready none)), (1, B.blk 29 [dO 4 5 e.1.length]), (2, B.blk 3 [dI e.2.1]), (3, B.blk 4 [dB e.2.2]), (4, bR 31 5 qg e.1)]))) := by intro n_Kind n_N n_Min n_Set n_L deep w4 b2 b3 w4_len h0; subst h0; exact (hF ((qb.mk n_Kind n_N n_Min n_Set n_L), deep, w4, b2, b3)).trans (by congr 1; funext e; rcases e with _ | _ <;> rfl)
  rw [q14 qmm qrk]
  have := qpD; have := @q4A; have := q2Z rE rF hF hM hR; have := @Qg.eq_1; have := @Qn.eq_1; exact gA
theorem q0v : ∀ x y, Q4 x = Q4 y → x = y := by
  rintro ⟨⟨a0_0, a0_1, a0_2, a0_3, a0_4⟩, a1, a2, a3, a4⟩ ⟨⟨b0_0, b0_1, b0_2, b0_3, b0_4⟩, b1, b2, b3, b4⟩ h
  simp only [Q4, Prod.mk.injEq, List.cons.injEq, R.c.injEq, R.agg.injEq, R.tup.injEq, C.d.injEq, C.own.injEq, C.ptr.injEq, C.eptr.injEq, D.int.injEq, D.bool.injEq, D.str.injEq, D.sl.injEq, B.blk.injEq, B.row.injEq, Zu, JO, ZC, ZU, Jb, q0Q, Zw, q0Y, true_and, and_true, List.nil_append] at h
  simp only [h]
theorem q4z : ∀ x y, Qn x = Qn y → x = y := by
  rintro (a0 | ⟨a1_0, a1_1, a1_2⟩) (b0 | ⟨b1_0, b1_1, b1_2⟩) h <;> simp only [Sum.elim_inl, Sum.elim_inr, Qn, Prod.mk.injEq, List.cons.injEq, R.c.injEq, R.agg.injEq, R.tup.injEq, C.d.injEq, C.own.injEq, C.ptr.injEq, C.eptr.injEq, D.int.injEq, D.bool.injEq, D.str.injEq, D.sl.injEq, B.blk.injEq, B.row.injEq, Zu, JO, ZC, ZU, Jb, q0Q, Zw, q0Y, true_and, and_true, List.nil_append, reduceCtorEq, false_and, and_false] at h <;> simp only [h]
noncomputable def Qc : (qb × Int × List qb × Int × Bool) → Option (Int ⊕ (List qb × Int × Bool)) := q4p 69 4 Q4 Qn
theorem q2p (x : (qb × Int × List qb × Int × Bool)) : Qc x = Qg Qc x := q8u qpG.2.2.2 q0v q4z q2m x
theorem q5W (n : qb) (deep : Int) (w4 : List qb) (b2 : Int) (b3 : Bool) : ev 69 4 [R.agg [dI n.Kind, dI n.N, dI n.Min, dL 2 qe n.Set, dL 5 qg n.L], rI deep, R.c (C.hd .yield 0)] [(0, B.ob (AO.lp 35 (R.any :: R.any :: rP 1 :: rP 2 :: rP 3 :: q4y) [9, 10] (raO 35 4) (rbO 35 4) Go.LoopState.ready none)), (1, B.blk 29 [dO 4 5 w4.length]), (2, B.blk 3 [dI b2]), (3, B.blk 4 [dB b3]), (4, bR 31 5 qg w4)] = (Qc (n, deep, w4, b2, b3)).bind (Sum.elim (fun (e : Int) => some (rB Bool.false, [(0, B.ob (AO.lp 35 (R.any :: R.any :: rP 1 :: rP 2 :: rP 3 :: q4y) [9, 10] (raO 35 4) (rbO 35 4) Go.LoopState.done (some Go.Code.ret))), (1, B.blk 29 [C.nils]), (2, B.blk 3 [dI e]), (3, B.blk 4 [dB Bool.false])])) (fun (e : List qb × Int × Bool) => some (rB Bool.true, [(0, B.ob (AO.lp 35 (R.any :: R.any :: rP 1 :: rP 2 :: rP 3 :: q4y) [9, 10] (raO 35 4) (rbO 35 4) Go.LoopState.ready none)), (1, B.blk 29 [dO 4 5 e.1.length]), (2, B.blk 3 [dI e.2.1]), (3, B.blk 4 [dB e.2.2]), (4, bR 31 5 qg e.1)]))) := (q5i qpG.2.2.2 q0v q2m (n, deep, w4, b2, b3)).trans (by congr 1; funext e; rcases e with _ | _ <;> rfl)
theorem q6Y : ∀ (n_Kind n_N n_Min : Int) (n_Set : List qc) (n_L : List qb) (deep : Int) (w4 : List qb) (b2 : Int) (b3 : Bool) (w4_len : Nat), w4_len = w4.length → ev 69 4 [R.agg [dI n_Kind, dI n_N, dI n_Min, dL 2 qe n_Set, dL 5 qg n_L], rI deep, R.c (C.hd .yield 0)] [(0, B.ob (AO.lp 35 (R.any :: R.any :: rP 1 :: rP 2 :: rP 3 :: q4y) [9, 10] (raO 35 4) (rbO 35 4) Go.LoopState.ready none)), (1, B.blk 29 [dO 4 5 w4_len]), (2, B.blk 3 [dI b2]), (3, B.blk 4 [dB b3]), (4, bR 31 5 qg w4)] = (Qc ((qb.mk n_Kind n_N n_Min n_Set n_L), deep, w4, b2, b3)).bind (Sum.elim (fun (e : Int) => some (rB Bool.false, [(0, B.ob (AO.lp 35 (R.any :: R.any :: rP 1 :: rP 2 :: rP 3 :: q4y) [9, 10] (raO 35 4) (rbO 35 4) Go.LoopState.done (some Go.Code.ret))), (1, B.blk 29 [C.nils]), (2, B.blk 3 [dI e]), (3, B.blk 4 [dB Bool.false])])) (fun (e : List qb × Int × Bool) => some (rB Bool.true, [(0, B.ob (AO.lp 35 (R.any :: R.any :: rP 1 :: rP 2 :: rP 3 :: q4y) [9, 10] (raO 35 4) (rbO 35 4) Go.LoopState.ready none)), (1, B.blk 29 [dO 4 5 e.1.length]), (2, B.blk 3 [dI e.2.1]), (3, B.blk 4 [dB e.2.2]), (4, bR 31 5 qg e.1)]))) :=
  by
  intro n_Kind n_N n_Min n_Set n_L deep w4 b2 b3 w4_len h0
  subst h0
  exact q5W (qb.mk n_Kind n_N n_Min n_Set n_L) deep w4 b2 b3
noncomputable def Ju (fu : Nat) (rF : (qb × Int × List qb × Int × Bool) → Option (Int ⊕ (List qb × Int × Bool))) : (qb × Int × List qb × Int × Bool) → Option (Int ⊕ (List qb × Int × Bool))
  | (n, deep, w4, b2, b3) =>
    Option.bind (Zg deep n.Kind n.N n.Min n.Set n.L w4 b2 b3) fun (a2 : Sum Unit (Prod (List qb) Int)) =>
    Sum.elim (fun (a3 : Unit) => some (Sum.inl 0)) (fun (a4 : Prod (List qb) Int) => Option.bind (itT (JD fu rF deep n.L ((n.L.length : Nat) : Int)) fu (a4.1, (a4.2, (b3, 0)))) fun (a5 : Sum Int (Prod (List qb) (Prod Int Bool))) =>
      Sum.elim (fun (a6 : Int) => some (Sum.inl a6)) (fun (a7 : Prod (List qb) (Prod Int Bool)) => some (Sum.inr (a7.1, a7.2.1, a7.2.2))) a5) a2
theorem q3r (fu : Nat) (rF rF2 : (qb × Int × List qb × Int × Bool) → Option (Int ⊕ (List qb × Int × Bool))) (hF : ∀ y, qk (rF y) (rF2 y)) : ∀ x, qk (Ju fu rF x) (Qg rF2 x) := by
  rintro ⟨n, deep, w4, b2, b3⟩
  unfold Ju Qg
  try dsimp only
  repeat (first
    | with_reducible exact qk.refl _
    | with_reducible exact qk.none _
    | exact hF _
    | (with_reducible refine q2Y _ _ _ hF ..)
    | with_reducible refine qk.bind ?_ (fun _ => ?_)
    | with_reducible refine qk.ite ?_ ?_
    | with_reducible refine qk.sum (fun _ => ?_) (fun _ => ?_)
    | with_reducible refine qk.lim (fun _ => ?_))
noncomputable def q5M (fu : Nat) (x : (qb × Int × List qb × Int × Bool)) : Option (Int ⊕ (List qb × Int × Bool)) := itR (Ju fu) fu x
theorem q7l (fu : Nat) (x : (qb × Int × List qb × Int × Bool)) : qk (q5M fu x) (Qc x) := qk.rec q2p (q3r fu) fu x
noncomputable def Zq (deep : Int) (t15 : List qb) (t16 : Int) : (List qb × Int × Bool × Int) → Option ((List qb × Int × Bool × Int) ⊕ (Int ⊕ (List qb × Int × Bool)))
  | (w4, b2, b3, t17) =>
    if t17 < t16 then if 0 ≤ t17 ∧ t17 < ((t15.length : Nat) : Int) then Option.bind t15[Int.toNat t17]? fun (a : qb) =>
        Option.bind (Qc (a, (w64 (deep + 1), (w4, (b2, b3))))) fun (a2 : Sum Int (Prod (List qb) (Prod Int Bool))) =>
        Sum.elim (fun (a3 : Int) => some (Sum.inr (Sum.inl a3))) (fun (a4 : Prod (List qb) (Prod Int Bool)) => some (Sum.inl (a4.1, a4.2.1, a4.2.2, w64 (t17 + 1)))) a2
      else none
    else some (Sum.inr (Sum.inr (w4, b2, b3)))
theorem q6A : ∀ (w4 : List qb) (b2 : Int) (b3 : Bool) (deep : Int) (t15 : List qb) (t16 t17 : Int) (w4_len : Nat), w4_len = w4.length → XL2 evo 69 4 4 ⟨[(1, rI deep), (2, R.c (C.hd .yield 0)), (15, rL 5 qg t15), (16, rI t16), (17, rI t17)], [(0, B.ob (AO.lp 35 (R.any :: R.any :: rP 1 :: rP 2 :: rP 3 :: q4y) [9, 10] (raO 35 4) (rbO 35 4) Go.LoopState.ready none)), (1, B.blk 29 [dO 4 5 w4_len]), (2, B.blk 3 [dI b2]), (3, B.blk 4 [dB b3]), (4, bR 31 5 qg w4)], 5, 28⟩ = (qN (Zq deep t15 t16) (w4, b2, b3, t17)).bind (Sum.elim (fun (e : Int) => some (Go.Exit.ret, ⟨[(6, rB Bool.false)], [(0, B.ob (AO.lp 35 (R.any :: R.any :: rP 1 :: rP 2 :: rP 3 :: q4y) [9, 10] (raO 35 4) (rbO 35 4) Go.LoopState.done (some Go.Code.ret))), (1, B.blk 29 [C.nils]), (2, B.blk 3 [dI e]), (3, B.blk 4 [dB Bool.false])], 4, 28⟩)) (fun (e : List qb × Int × Bool) => some (Go.Exit.exit 0, ⟨[(6, R.any)], [(0, B.ob (AO.lp 35 (R.any :: R.any :: rP 1 :: rP 2 :: rP 3 :: q4y) [9, 10] (raO 35 4) (rbO 35 4) Go.LoopState.ready none)), (1, B.blk 29 [dO 4 5 e.1.length]), (2, B.blk 3 [dI e.2.1]), (3, B.blk 4 [dB e.2.2]), (4, bR 31 5 qg e.1)], 5, 28⟩))) :=
  by
  intro w4 b2 b3 deep t15 t16 t17 w4_len h0
  subst h0
  revert t17; revert b3; revert b2; revert w4; exact qrV qjy qjw (fun e => by rcases e with _ | _ <;> exact ⟨_, rfl, fun h => by cases h⟩) fun w4 b2 b3 t17 => by
    have := qpD; have := @qci.eq_1; have := @q6Y; have := @Zq.eq_1; exact gA
noncomputable def q1j (fu : Nat) (deep : Int) (t15 : List qb) (t16 : Int) : (List qb × Int × Bool × Int) → Option ((List qb × Int × Bool × Int) ⊕ (Int ⊕ (List qb × Int × Bool)))
  | (w4, b2, b3, t17) =>
    if t17 < t16 then if 0 ≤ t17 ∧ t17 < ((t15.length : Nat) : Int) then Option.bind t15[Int.toNat t17]? fun (a : qb) =>
        Option.bind (q5M fu (a, (w64 (deep + 1), (w4, (b2, b3))))) fun (a2 : Sum Int (Prod (List qb) (Prod Int Bool))) =>
        Sum.elim (fun (a3 : Int) => some (Sum.inr (Sum.inl a3))) (fun (a4 : Prod (List qb) (Prod Int Bool)) => some (Sum.inl (a4.1, a4.2.1, a4.2.2, w64 (t17 + 1)))) a2
      else none
    else some (Sum.inr (Sum.inr (w4, b2, b3)))
theorem q6z (fu : Nat) (deep : Int) (t15 : List qb) (t16 : Int) : ∀ x, qk (q1j fu deep t15 t16 x) (Zq deep t15 t16 x) := by
  rintro ⟨w4, b2, b3, t17⟩
  unfold q1j Zq
  try dsimp only
  repeat (first
    | with_reducible exact qk.refl _
    | with_reducible exact qk.none _
    | with_reducible apply q7l
    | with_reducible refine qk.bind ?_ (fun _ => ?_)
    | with_reducible refine qk.ite ?_ ?_
    | with_reducible refine qk.sum (fun _ => ?_) (fun _ => ?_)
    | with_reducible refine qk.lim (fun _ => ?_))
noncomputable def JS (n : qb) (deep : Int) (b2 : Int) (b3 : Bool) : Option (Int ⊕ (List qb × Int × Bool)) :=
  Option.bind (ZY deep n.Kind n.N n.Min n.Set n.L b2 b3) fun (a : Sum Unit (Prod (List qb) Int)) =>
  Sum.elim (fun (a2 : Unit) => some (Sum.inl 0)) (fun (a3 : Prod (List qb) Int) => Option.bind (qN (Zq deep n.L ((n.L.length : Nat) : Int)) (a3.1, (a3.2, (b3, 0)))) fun (a4 : Sum Int (Prod (List qb) (Prod Int Bool))) =>
    Sum.elim (fun (a5 : Int) => some (Sum.inl a5)) (fun (a6 : Prod (List qb) (Prod Int Bool)) => some (Sum.inr (a6.1, a6.2.1, a6.2.2))) a4) a
theorem q8P : ∀ (n_Kind n_N n_Min : Int) (n_Set : List qc) (n_L : List qb) (deep b2 : Int) (b3 : Bool), ev 69 4 [R.agg [dI n_Kind, dI n_N, dI n_Min, dL 2 qe n_Set, dL 5 qg n_L], rI deep, R.c (C.hd .yield 0)] [(0, B.ob (AO.lp 35 (R.any :: R.any :: rP 1 :: rP 2 :: rP 3 :: q4y) [9, 10] (raO 35 4) (rbO 35 4) Go.LoopState.ready none)), (1, B.blk 29 [C.nils]), (2, B.blk 3 [dI b2]), (3, B.blk 4 [dB b3])] = (JS (qb.mk n_Kind n_N n_Min n_Set n_L) deep b2 b3).bind (Sum.elim (fun (e : Int) => some (rB Bool.false, [(0, B.ob (AO.lp 35 (R.any :: R.any :: rP 1 :: rP 2 :: rP 3 :: q4y) [9, 10] (raO 35 4) (rbO 35 4) Go.LoopState.done (some Go.Code.ret))), (1, B.blk 29 [C.nils]), (2, B.blk 3 [dI e]), (3, B.blk 4 [dB Bool.false])])) (fun (e : List qb × Int × Bool) => some (rB Bool.true, [(0, B.ob (AO.lp 35 (R.any :: R.any :: rP 1 :: rP 2 :: rP 3 :: q4y) [9, 10] (raO 35 4) (rbO 35 4) Go.LoopState.ready none)), (1, B.blk 29 [dO 4 5 e.1.length]), (2, B.blk 3 [dI e.2.1]), (3, B.blk 4 [dB e.2.2]), (4, bR 31 5 qg e.1)]))) :=
  fun n_Kind n_N n_Min n_Set n_L deep b2 b3 => by
    rw [qz qmm qpG.2.2.2 qrk]
    have := qpD; have := @q5S; have := @q6A; have := @JS.eq_1; exact gA
noncomputable def q4m (fu : Nat) (n : qb) (deep : Int) (b2 : Int) (b3 : Bool) : Option (Int ⊕ (List qb × Int × Bool)) :=
  Option.bind (ZY deep n.Kind n.N n.Min n.Set n.L b2 b3) fun (a : Sum Unit (Prod (List qb) Int)) =>
  Sum.elim (fun (a2 : Unit) => some (Sum.inl 0)) (fun (a3 : Prod (List qb) Int) => Option.bind (itT (q1j fu deep n.L ((n.L.length : Nat) : Int)) fu (a3.1, (a3.2, (b3, 0)))) fun (a4 : Sum Int (Prod (List qb) (Prod Int Bool))) =>
    Sum.elim (fun (a5 : Int) => some (Sum.inl a5)) (fun (a6 : Prod (List qb) (Prod Int Bool)) => some (Sum.inr (a6.1, a6.2.1, a6.2.2))) a4) a
theorem q8T (fu : Nat) (n : qb) (deep b2 : Int) (b3 : Bool) : qk (q4m fu n deep b2 b3) (JS n deep b2 b3) := by
  unfold q4m JS
  repeat (first
    | with_reducible exact qk.refl _
    | with_reducible exact qk.none _
    | with_reducible apply q6z
    | with_reducible refine qk.bind ?_ (fun _ => ?_)
    | with_reducible refine qk.ite ?_ ?_
    | with_reducible refine qk.sum (fun _ => ?_) (fun _ => ?_)
    | with_reducible refine qk.lim (fun _ => ?_))
noncomputable def Zp (b2 : Int) (b3 : Bool) (v : qb) : Option (Int ⊕ (List qb × Int × Bool)) :=
  Option.bind (JS v 1 b2 b3) fun (a : Sum Int (Prod (List qb) (Prod Int Bool))) =>
  Sum.elim (fun (a2 : Int) => some (Sum.inl a2)) (fun (a3 : Prod (List qb) (Prod Int Bool)) => some (Sum.inr (a3.1, a3.2.1, a3.2.2))) a
theorem q64 : ∀ (b2 : Int) (b3 : Bool) (v_Kind v_N v_Min : Int) (v_Set : List qc) (v_L : List qb), ev 68 5 [R.c (C.hd .yield 0), rP 4] [(0, B.ob (AO.lp 35 (R.any :: R.any :: rP 1 :: rP 2 :: rP 3 :: q4y) [9, 10] (raO 35 4) (rbO 35 4) Go.LoopState.ready none)), (1, B.blk 29 [C.nils]), (2, B.blk 3 [dI b2]), (3, B.blk 4 [dB b3]), (4, B.blk 31 [dI v_Kind, dI v_N, dI v_Min, dL 2 qe v_Set, dL 5 qg v_L])] = (Zp b2 b3 (qb.mk v_Kind v_N v_Min v_Set v_L)).bind (Sum.elim (fun (e : Int) => some (R.tup [], [(0, B.ob (AO.lp 35 (R.any :: R.any :: rP 1 :: rP 2 :: rP 3 :: q4y) [9, 10] (raO 35 4) (rbO 35 4) Go.LoopState.done (some Go.Code.ret))), (1, B.blk 29 [C.nils]), (2, B.blk 3 [dI e]), (3, B.blk 4 [dB Bool.false]), (4, B.blk 31 [dI v_Kind, dI v_N, dI v_Min, dL 2 qe v_Set, dL 5 qg v_L])])) (fun (e : List qb × Int × Bool) => some (R.tup [], [(0, B.ob (AO.lp 35 (R.any :: R.any :: rP 1 :: rP 2 :: rP 3 :: q4y) [9, 10] (raO 35 4) (rbO 35 4) Go.LoopState.ready none)), (1, B.blk 29 [dO 5 5 e.1.length]), (2, B.blk 3 [dI e.2.1]), (3, B.blk 4 [dB e.2.2]), (4, B.blk 31 [dI v_Kind, dI v_N, dI v_Min, dL 2 qe v_Set, dL 5 qg v_L]), (5, bR 31 5 qg e.1)]))) :=
  fun b2 b3 v_Kind v_N v_Min v_Set v_L => by
    rw [qz qr8 qsj.2.2.2 qu9]
    have := quL; have := @q8P; have := @Zp.eq_1; exact gA
noncomputable def q1g (fu : Nat) (b2 : Int) (b3 : Bool) (v : qb) : Option (Int ⊕ (List qb × Int × Bool)) :=
  Option.bind (q4m fu v 1 b2 b3) fun (a : Sum Int (Prod (List qb) (Prod Int Bool))) =>
  Sum.elim (fun (a2 : Int) => some (Sum.inl a2)) (fun (a3 : Prod (List qb) (Prod Int Bool)) => some (Sum.inr (a3.1, a3.2.1, a3.2.2))) a
theorem q5Z (fu : Nat) (b2 : Int) (b3 : Bool) (v : qb) : qk (q1g fu b2 b3 v) (Zp b2 b3 v) := by
  unfold q1g Zp
  repeat (first
    | with_reducible exact qk.refl _
    | with_reducible exact qk.none _
    | with_reducible apply q8T
    | with_reducible refine qk.bind ?_ (fun _ => ?_)
    | with_reducible refine qk.ite ?_ ?_
    | with_reducible refine qk.sum (fun _ => ?_) (fun _ => ?_)
    | with_reducible refine qk.lim (fun _ => ?_))
noncomputable def ZE (n : qb) : Option (List qb × Int × Bool) :=
  Option.bind (Zp 0 Bool.false n) fun (a : Sum Int (Prod (List qb) (Prod Int Bool))) =>
  Sum.elim (fun (a2 : Int) => some ([], a2, Bool.false)) (fun (a3 : Prod (List qb) (Prod Int Bool)) => some (a3.1, a3.2.1, Bool.true)) a
theorem q4d : ∀ (n_Kind n_N n_Min : Int) (n_Set : List qc) (n_L : List qb), ev 35 0 [R.agg [dI n_Kind, dI n_N, dI n_Min, dL 2 qe n_Set, dL 5 qg n_L]] [] = (ZE (qb.mk n_Kind n_N n_Min n_Set n_L)).bind (fun (e : List qb × Int × Bool) => some (R.tup [rL 5 qg e.1, rI e.2.1, rB e.2.2], [])) :=
  fun n_Kind n_N n_Min n_Set n_L => by
    rw [qz qo0 qsh.2.2.2 qts]
    have := qrj; have := @q8y; have := @q64; have := @ZE.eq_1; have := @qfp; exact gA
noncomputable def q25 (fu : Nat) (n : qb) : Option (List qb × Int × Bool) :=
  Option.bind (q1g fu 0 Bool.false n) fun (a : Sum Int (Prod (List qb) (Prod Int Bool))) =>
  Sum.elim (fun (a2 : Int) => some ([], a2, Bool.false)) (fun (a3 : Prod (List qb) (Prod Int Bool)) => some (a3.1, a3.2.1, Bool.true)) a
theorem q4c (fu : Nat) (n : qb) : qk (q25 fu n) (ZE n) := by
  unfold q25 ZE
  repeat (first
    | with_reducible exact qk.refl _
    | with_reducible exact qk.none _
    | with_reducible apply q5Z
    | with_reducible refine qk.bind ?_ (fun _ => ?_)
    | with_reducible refine qk.ite ?_ ?_
    | with_reducible refine qk.sum (fun _ => ?_) (fun _ => ?_)
    | with_reducible refine qk.lim (fun _ => ?_))
theorem qt3 : okL 14 qc7 := qy (qi qpi) (by kernel_rfl) (by kernel_rfl)
def qrX := JA_ @qc7.eq_1 (JA_ @Try.f14.eq_1 @qpi)
theorem qnH : lbO 14 3 = qfT := Q8 (qi qpi) rfl
theorem qnh : okL 14 qfT := zc qt3 (List.mem_of_getElem? (i := 0) (by kernel_rfl))
theorem que : okL 36 qfr := qy (qi qqR) (by kernel_rfl) (by kernel_rfl)
def quR := JA_ @qfr.eq_1 (JA_ @Try.f36.eq_1 @qqR)
noncomputable def q2d (n : qb) : Option Bool :=
  if (n.Kind != 3) = Bool.true then some (n.Kind != 4)
  else some Bool.false
noncomputable def Zb (n : qb) : Bool :=
  if (n.Kind != 3) = Bool.true then n.Kind != 4
  else Bool.false
theorem q7T (n : qb) : q2d n = some (Zb n) := by
  unfold q2d Zb
  simp only [zY]
theorem q8N : ∀ (n_Kind n_N n_Min : Int) (n_Set : List qc) (n_L : List qb), ev 36 0 [R.agg [dI n_Kind, dI n_N, dI n_Min, dL 2 qe n_Set, dL 5 qg n_L]] [] = some (rB (Zb (qb.mk n_Kind n_N n_Min n_Set n_L)), []) :=
  fun n_Kind n_N n_Min n_Set n_L => by
    have h : ev 36 0 [R.agg [dI n_Kind, dI n_N, dI n_Min, dL 2 qe n_Set, dL 5 qg n_L]] [] = (q2d (qb.mk n_Kind n_N n_Min n_Set n_L)).bind (fun (e : Bool) => some (rB e, [])) := by
      rw [qz qqR qtv.2.2.2 que]
      have := quR; have := @q2d.eq_1; exact gA
    rw [q7T] at h
    exact h
theorem qsI : okL 37 qcl := qy (qi qpt) (by kernel_rfl) (by kernel_rfl)
def qrm := JA_ @qcl.eq_1 (JA_ @Try.f37.eq_1 @qpt)
theorem qjp : lbO 37 3 = qcc := Q8 (qi qpt) rfl
theorem qj2 : okL 37 qcc := zc qsI (List.mem_of_getElem? (i := 0) (by kernel_rfl))
noncomputable def qA (s : List qc) : Option Unit :=
  if s.length ≤ Go.maxLen ∧ s.length * 24 ≤ 140737488355328 then some ()
  else none
theorem ZG : ∀ (s : List qc), ev 53 0 [rL 2 qe s] [] = (qA s).bind (fun (e : Unit) => some (rL 2 qe s, [])) :=
  fun s => by
    rw [qlN, qsC.2.2.2]
    have := @qA.eq_1; exact gA
noncomputable def qO (s : List qb) : Option (Unit ⊕ Unit) :=
  if s.length ≤ Go.maxLen ∧ s.length * 72 ≤ 140737488355328 then if ¬(s.length = 0) then some (Sum.inl ())
    else some (Sum.inr ())
  else none
theorem Jd : ∀ (s : List qb), ev 54 0 [rL 5 qg s] [] = (qO s).bind (Sum.elim (fun (e : Unit) => some (rO 0 5 s.length, [(0, bR 31 5 qg s)])) (fun (e : Unit) => some (rL 5 qg s, []))) :=
  fun s => by
    rw [qlN, qti.2.2.2]
    have := @qO.eq_1; exact gA
theorem qvu : okL 43 qfn := qy (qi qqH) (by kernel_rfl) (by kernel_rfl)
def qve := JA_ @qfn.eq_1 (JA_ @Try.f43.eq_1 @qqH)
noncomputable def q0B (n : Int) (low : Int) (high : Int) : Option Bool :=
  if low ≤ n then some (decide (n ≤ high))
  else some Bool.false
noncomputable def qC (n : Int) (low : Int) (high : Int) : Bool :=
  if low ≤ n then decide (n ≤ high)
  else Bool.false
theorem q6d (n low high : Int) : q0B n low high = some (qC n low high) := by
  unfold q0B qC
  simp only [zY]
theorem Zj : ∀ (n low high : Int), ev 43 0 [rI n, rI low, rI high] [] = some (rB (qC n low high), []) :=
  fun n low high => by
    have h : ev 43 0 [rI n, rI low, rI high] [] = (q0B n low high).bind (fun (e : Bool) => some (rB e, [])) := by
      rw [qz qqH qsg.2.2.2 qvu]
      have := qve; have := @q0B.eq_1; exact gA
    rw [q6d] at h
    exact h
theorem qvD : okL 44 qfJ := qy (qi qrb) (by kernel_rfl) (by kernel_rfl)
def qv1 := JA_ @qfJ.eq_1 (JA_ @Try.f44.eq_1 @qrb)
theorem q8f : ev 44 0 [] [] = some (R.c (C.hd HK.map 0), [(0, B.ob (@AO.mp [(Go.Value.int Go.IntKind.i64 1, (R.agg [C.fn 63 [] []], 0)), (Go.Value.int Go.IntKind.i64 2, (R.agg [C.fn 65 [] []], 1)), (Go.Value.int Go.IntKind.i64 3, (R.agg [C.fn 66 [] [dP 1]], 2)), (Go.Value.int Go.IntKind.i64 4, (R.agg [C.fn 67 [] [dP 1]], 3))] 4)), (1, B.blk 68 [C.fn 62 [] []])]) :=
  by
    rw [qz qrb qs7.2.2.2 qvD]
    have := qv1; exact gA
theorem qvH : okL 63 qfm := qy (qi qr5) (by kernel_rfl) (by kernel_rfl)
def quN := JA_ @qfm.eq_1 (JA_ @Try.f63.eq_1 @qr5)
theorem qs1 : okL 64 qcu := qy (qi qpn) (by kernel_rfl) (by kernel_rfl)
def qsK := JA_ @qcu.eq_1 (JA_ @Try.f64.eq_1 @qpn)
theorem qos : lbO 64 7 = qeU := Q8 (qi qpn) rfl
theorem qnS : okL 64 qeU := zc qs1 (List.mem_of_getElem? (i := 0) (by kernel_rfl))
theorem qtN : okL 73 qgv := qy (qi qqw) (by kernel_rfl) (by kernel_rfl)
def qvq := JA_ @qgv.eq_1 (JA_ @Try.f73.eq_1 @qqw)
theorem qsc : okL 78 qcJ := qy (qi qpl) (by kernel_rfl) (by kernel_rfl)
def qsr := JA_ @qcJ.eq_1 (JA_ @Try.f78.eq_1 @qpl)
theorem qp8 : lbO 78 2 = qgA := Q8 (qi qpl) rfl
theorem qo5 : okL 78 qgA := zc qsc (List.mem_of_getElem? (i := 0) (by kernel_rfl))
theorem qu2 : okL 74 qep := qy (qi qr4) (by kernel_rfl) (by kernel_rfl)
def qtM := JA_ @qep.eq_1 (JA_ @Try.f74.eq_1 @qr4)
theorem qtK : okL 75 qe6 := qy (qi qq4) (by kernel_rfl) (by kernel_rfl)
def qtJ := JA_ @qe6.eq_1 (JA_ @Try.f75.eq_1 @qq4)
theorem qum : okL 79 qgn := qy (qi qqK) (by kernel_rfl) (by kernel_rfl)
def qv8 := JA_ @qgn.eq_1 (JA_ @Try.f79.eq_1 @qqK)
theorem qvE : okL 84 qfq := qy (qi qrh) (by kernel_rfl) (by kernel_rfl)
def qvY := JA_ @qfq.eq_1 (JA_ @Try.f84.eq_1 @qrh)
theorem qsG : okL 87 qcC := qy (qi qpB) (by kernel_rfl) (by kernel_rfl)
def qsm := JA_ @qcC.eq_1 (JA_ @Try.f87.eq_1 @qpB)
theorem qmI : lbO 87 2 = qfC := Q8 (qi qpB) rfl
theorem qnl : okL 87 qfC := zc qsG (List.mem_of_getElem? (i := 0) (by kernel_rfl))
theorem qtX : okL 83 qe7 := qy (qi qq8) (by kernel_rfl) (by kernel_rfl)
def qtZ := JA_ @qe7.eq_1 (JA_ @Try.f83.eq_1 @qq8)
noncomputable def JH (c : Int) : Option Bool :=
  if c < 65 then if c < 48 then some Bool.true
    else some (decide (57 < c))
  else if 90 < c then if c < 48 then some Bool.true
    else some (decide (57 < c))
  else some Bool.false
noncomputable def zH (c : Int) : Bool :=
  if c < 65 then if c < 48 then Bool.true
    else decide (57 < c)
  else if 90 < c then if c < 48 then Bool.true
    else decide (57 < c)
  else Bool.false
theorem q4R (c : Int) : JH c = some (zH c) := by
  unfold JH zH
  simp only [zY]
theorem q4W : ∀ (c : Int), ev 83 0 [R.c (C.d (D.int .i32 c))] [] = some (rB (zH c), []) :=
  fun c => by
    have h : ev 83 0 [R.c (C.d (D.int .i32 c))] [] = (JH c).bind (fun (e : Bool) => some (rB e, [])) := by
      rw [qz qq8 qtn.2.2.2 qtX]
      have := qtZ; have := @JH.eq_1; exact gA
    rw [q4R] at h
    exact h
noncomputable def qH (it0_s : ByteArray) (truth : Bool) : Nat → Option (Nat ⊕ (Int ⊕ Unit))
  | it0_p =>
    if it0_p < ByteArray.size it0_s then if (zH (((@Go.Utf8.decode it0_s it0_p).1 : Nat) : Int) == truth) = Bool.true then some (Sum.inr (Sum.inl ((it0_p : Nat) : Int)))
      else some (Sum.inl (it0_p + (@Go.Utf8.decode it0_s it0_p).2))
    else some (Sum.inr (Sum.inr ()))
theorem q1h : ∀ (it0_s : ByteArray) (it0_p : Nat) (truth : Bool), XL2 evo 87 0 2 ⟨[(1, R.c (C.fn 83 [] [])), (2, rB truth), (10, R.c (C.hd .iter 0))], [(0, B.ob (AO.si it0_s it0_p))], 1, 21⟩ = (qN (qH it0_s truth) it0_p).bind (Sum.elim (fun (e : Int) => some (Go.Exit.ret, ⟨[(6, rI e)], [], 0, 21⟩)) (fun (e : Unit) => some (Go.Exit.exit 0, ⟨[(6, R.any)], [], 0, 21⟩))) :=
  fun it0_s it0_p truth => by
    revert it0_p; exact qaK qmI qnl (fun e => by rcases e with _ | _ <;> exact ⟨_, rfl, fun h => by cases h⟩) fun x => by
      have := qsm; have := @qfC.eq_1; have := @q4W; have := @qH.eq_1; exact gA
noncomputable def Q1 (s : ByteArray) (truth : Bool) : Option Int :=
  Option.bind (qN (qH s truth) 0) fun (a : Sum Int Unit) =>
  Sum.elim (fun (a2 : Int) => some a2) (fun (a3 : Unit) => some (-1)) a
theorem q2C : ∀ (s : ByteArray) (truth : Bool), ev 87 0 [rS s, R.c (C.fn 83 [] []), rB truth] [] = (Q1 s truth).bind (fun (e : Int) => some (rI e, [])) :=
  fun s truth => by
    rw [qz qpB qt9.2.2.2 qsG]
    have := qsm; have := @q1h; have := @Q1.eq_1; exact gA
noncomputable def Jj (fu : Nat) (s : ByteArray) (truth : Bool) : Option Int :=
  Option.bind (itT (qH s truth) fu 0) fun (a : Sum Int Unit) =>
  Sum.elim (fun (a2 : Int) => some a2) (fun (a3 : Unit) => some (-1)) a
theorem q2x (fu : Nat) (s : ByteArray) (truth : Bool) : qk (Jj fu s truth) (Q1 s truth) := by
  unfold Jj Q1
  repeat (first
    | with_reducible exact qk.refl _
    | with_reducible exact qk.none _
    | with_reducible refine qk.bind ?_ (fun _ => ?_)
    | with_reducible refine qk.ite ?_ ?_
    | with_reducible refine qk.sum (fun _ => ?_) (fun _ => ?_)
    | with_reducible refine qk.lim (fun _ => ?_))
noncomputable def zZ (s : ByteArray) : Option Int :=
  Option.bind (Q1 s Bool.true) fun (e0 : Int) =>
  some e0
theorem q2O : ∀ (s : ByteArray), ev 84 0 [rS s, R.c (C.fn 83 [] [])] [] = (zZ s).bind (fun (e : Int) => some (rI e, [])) :=
  fun s => by
    rw [qz qrh qs4.2.2.2 qvE]
    have := qvY; have := @q2C; have := @zZ.eq_1; exact gA
noncomputable def Jc (fu : Nat) (s : ByteArray) : Option Int :=
  Option.bind (Jj fu s Bool.true) fun (e0 : Int) =>
  some e0
theorem q2N (fu : Nat) (s : ByteArray) : qk (Jc fu s) (zZ s) := by
  unfold Jc zZ
  repeat (first
    | with_reducible exact qk.refl _
    | with_reducible exact qk.none _
    | with_reducible apply q2x
    | with_reducible refine qk.bind ?_ (fun _ => ?_)
    | with_reducible refine qk.ite ?_ ?_
    | with_reducible refine qk.sum (fun _ => ?_) (fun _ => ?_)
    | with_reducible refine qk.lim (fun _ => ?_))
noncomputable def Z1 (s : ByteArray) : Option Bool :=
  if (!(ByteArray.toList s == ByteArray.toList (ByteArray.mk (List.toArray [])))) = Bool.true then if ((ByteArray.size s : Nat) : Int) ≤ 8 then Option.bind (zZ s) fun (a : Int) =>
      some (decide (a < 0))
    else some Bool.false
  else some Bool.false
theorem q7s : ∀ (s : ByteArray), ev 79 0 [rS s] [] = (Z1 s).bind (fun (e : Bool) => some (rB e, [])) :=
  fun s => by
    rw [qz qqK qs0.2.2.2 qum]
    have := qv8; have := @q2O; have := @Z1.eq_1; exact gA
noncomputable def q2a (fu : Nat) (s : ByteArray) : Option Bool :=
  if (!(ByteArray.toList s == ByteArray.toList (ByteArray.mk (List.toArray [])))) = Bool.true then if ((ByteArray.size s : Nat) : Int) ≤ 8 then Option.bind (Jc fu s) fun (a : Int) =>
      some (decide (a < 0))
    else some Bool.false
  else some Bool.false
theorem q6R (fu : Nat) (s : ByteArray) : qk (q2a fu s) (Z1 s) := by
  unfold q2a Z1
  repeat (first
    | with_reducible exact qk.refl _
    | with_reducible exact qk.none _
    | with_reducible apply q2N
    | with_reducible refine qk.bind ?_ (fun _ => ?_)
    | with_reducible refine qk.ite ?_ ?_
    | with_reducible refine qk.sum (fun _ => ?_) (fun _ => ?_)
    | with_reducible refine qk.lim (fun _ => ?_))
noncomputable def ZA (c : qc) : Option Bool :=
  if qC c.School 1 8 = Bool.true then Option.bind (Z1 c.Code) fun (e0 : Bool) =>
    some e0
  else some Bool.false
theorem q7O : ∀ (c_School : Int) (c_Code : ByteArray), ev 75 0 [R.agg [dI c_School, dS c_Code]] [] = (ZA (qc.mk c_School c_Code)).bind (fun (e : Bool) => some (rB e, [])) :=
  fun c_School c_Code => by
    rw [qz qq4 qsx.2.2.2 qtK]
    have := qtJ; have := @Zj; have := @q7s; have := @ZA.eq_1; exact gA
noncomputable def q38 (fu : Nat) (c : qc) : Option Bool :=
  if qC c.School 1 8 = Bool.true then Option.bind (q2a fu c.Code) fun (e0 : Bool) =>
    some e0
  else some Bool.false
theorem q8v (fu : Nat) (c : qc) : qk (q38 fu c) (ZA c) := by
  unfold q38 ZA
  repeat (first
    | with_reducible exact qk.refl _
    | with_reducible exact qk.none _
    | with_reducible apply q6R
    | with_reducible refine qk.bind ?_ (fun _ => ?_)
    | with_reducible refine qk.ite ?_ ?_
    | with_reducible refine qk.sum (fun _ => ?_) (fun _ => ?_)
    | with_reducible refine qk.lim (fun _ => ?_))
noncomputable def QB (c : qc) : Option Bool :=
  Option.bind (ZA c) fun (a : Bool) =>
  some (!a)
theorem q4l : ∀ (c_School : Int) (c_Code : ByteArray), ev 74 0 [R.agg [dI c_School, dS c_Code]] [] = (QB (qc.mk c_School c_Code)).bind (fun (e : Bool) => some (rB e, [])) :=
  fun c_School c_Code => by
    rw [qz qr4 qsv.2.2.2 qu2]
    have := qtM; have := @q7O; have := @QB.eq_1; exact gA
noncomputable def q0s (fu : Nat) (c : qc) : Option Bool :=
  Option.bind (q38 fu c) fun (a : Bool) =>
  some (!a)
theorem q4B (fu : Nat) (c : qc) : qk (q0s fu c) (QB c) := by
  unfold q0s QB
  repeat (first
    | with_reducible exact qk.refl _
    | with_reducible exact qk.none _
    | with_reducible apply q8v
    | with_reducible refine qk.bind ?_ (fun _ => ?_)
    | with_reducible refine qk.ite ?_ ?_
    | with_reducible refine qk.sum (fun _ => ?_) (fun _ => ?_)
    | with_reducible refine qk.lim (fun _ => ?_))
noncomputable def qp (s : List qc) (t7 : Int) : Int → Option (Int ⊕ (Int ⊕ Unit))
  | t8 =>
    if t8 < t7 then if 0 ≤ t8 ∧ t8 < ((s.length : Nat) : Int) then Option.bind s[Int.toNat t8]? fun (a : qc) =>
        Option.bind (QB a) fun (a2 : Bool) =>
        if a2 = Bool.true then some (Sum.inr (Sum.inl t8))
        else some (Sum.inl (w64 (t8 + 1)))
      else none
    else some (Sum.inr (Sum.inr ()))
theorem QP : ∀ (s : List qc) (t7 t8 : Int), XL2 evo 78 0 2 ⟨[(0, rL 2 qe s), (1, R.c (C.fn 74 [] [])), (7, rI t7), (8, rI t8)], [], 0, 19⟩ = (qN (qp s t7) t8).bind (Sum.elim (fun (e : Int) => some (Go.Exit.ret, ⟨[(4, rI e)], [], 0, 19⟩)) (fun (e : Unit) => some (Go.Exit.exit 0, ⟨[(4, R.any)], [], 0, 19⟩))) :=
  fun s t7 t8 => by
    revert t8; exact qaK qp8 qo5 (fun e => by rcases e with _ | _ <;> exact ⟨_, rfl, fun h => by cases h⟩) fun x => by
      have := qsr; have := @qgA.eq_1; have := @q4l; have := @qp.eq_1; exact gA
noncomputable def qS (fu : Nat) (s : List qc) (t7 : Int) : Int → Option (Int ⊕ (Int ⊕ Unit))
  | t8 =>
    if t8 < t7 then if 0 ≤ t8 ∧ t8 < ((s.length : Nat) : Int) then Option.bind s[Int.toNat t8]? fun (a : qc) =>
        Option.bind (q0s fu a) fun (a2 : Bool) =>
        if a2 = Bool.true then some (Sum.inr (Sum.inl t8))
        else some (Sum.inl (w64 (t8 + 1)))
      else none
    else some (Sum.inr (Sum.inr ()))
theorem QR (fu : Nat) (s : List qc) (t7 : Int) : ∀ x, qk (qS fu s t7 x) (qp s t7 x) := by
  rintro t8
  unfold qS qp
  try dsimp only
  repeat (first
    | with_reducible exact qk.refl _
    | with_reducible exact qk.none _
    | with_reducible apply q4B
    | with_reducible refine qk.bind ?_ (fun _ => ?_)
    | with_reducible refine qk.ite ?_ ?_
    | with_reducible refine qk.sum (fun _ => ?_) (fun _ => ?_)
    | with_reducible refine qk.lim (fun _ => ?_))
noncomputable def qw (s : List qc) : Option Int :=
  Option.bind (qN (qp s ((s.length : Nat) : Int)) 0) fun (a : Sum Int Unit) =>
  Sum.elim (fun (a2 : Int) => some a2) (fun (a3 : Unit) => some (-1)) a
theorem Z3 : ∀ (s : List qc), ev 78 0 [rL 2 qe s, R.c (C.fn 74 [] [])] [] = (qw s).bind (fun (e : Int) => some (rI e, [])) :=
  fun s => by
    rw [qz qpl qtk.2.2.2 qsc]
    have := qsr; have := @QP; have := @qw.eq_1; exact gA
noncomputable def zd (fu : Nat) (s : List qc) : Option Int :=
  Option.bind (itT (qS fu s ((s.length : Nat) : Int)) fu 0) fun (a : Sum Int Unit) =>
  Sum.elim (fun (a2 : Int) => some a2) (fun (a3 : Unit) => some (-1)) a
theorem Z9 (fu : Nat) (s : List qc) : qk (zd fu s) (qw s) := by
  unfold zd qw
  repeat (first
    | with_reducible exact qk.refl _
    | with_reducible exact qk.none _
    | with_reducible apply QR
    | with_reducible refine qk.bind ?_ (fun _ => ?_)
    | with_reducible refine qk.ite ?_ ?_
    | with_reducible refine qk.sum (fun _ => ?_) (fun _ => ?_)
    | with_reducible refine qk.lim (fun _ => ?_))
noncomputable def qq (s : List qc) : Option Bool :=
  Option.bind (qw s) fun (a : Int) =>
  some (decide (0 ≤ a))
theorem QQ : ∀ (s : List qc), ev 73 0 [rL 2 qe s, R.c (C.fn 74 [] [])] [] = (qq s).bind (fun (e : Bool) => some (rB e, [])) :=
  fun s => by
    rw [qz qqw qrY.2.2.2 qtN]
    have := qvq; have := @Z3; have := @qq.eq_1; exact gA
noncomputable def qR (fu : Nat) (s : List qc) : Option Bool :=
  Option.bind (zd fu s) fun (a : Int) =>
  some (decide (0 ≤ a))
theorem QS (fu : Nat) (s : List qc) : qk (qR fu s) (qq s) := by
  unfold qR qq
  repeat (first
    | with_reducible exact qk.refl _
    | with_reducible exact qk.none _
    | with_reducible apply Z9
    | with_reducible refine qk.bind ?_ (fun _ => ?_)
    | with_reducible refine qk.ite ?_ ?_
    | with_reducible refine qk.sum (fun _ => ?_) (fun _ => ?_)
    | with_reducible refine qk.lim (fun _ => ?_))
theorem quh : okL 76 qe1 := qy (qi qrD) (by kernel_rfl) (by kernel_rfl)
def quJ := JA_ @qe1.eq_1 (JA_ @Try.f76.eq_1 @qrD)
theorem qvX : okL 81 qfZ := qy (qi qri) (by kernel_rfl) (by kernel_rfl)
def qvy := JA_ @qfZ.eq_1 (JA_ @Try.f81.eq_1 @qri)
theorem qtY : okL 85 qdK := qy (qi qqg) (by kernel_rfl) (by kernel_rfl)
def qug := JA_ @qdK.eq_1 (JA_ @Try.f85.eq_1 @qqg)
noncomputable def Jw (x : Int) : Option Bool :=
  some (x != x)
noncomputable def z6 (x : Int) : Bool :=
  x != x
theorem q4O (x : Int) : Jw x = some (z6 x) := by
  unfold Jw z6
  simp only [zY]
theorem q57 : ∀ (x : Int), ev 85 0 [rI x] [] = some (rB (z6 x), []) :=
  fun x => by
    have h : ev 85 0 [rI x] [] = (Jw x).bind (fun (e : Bool) => some (rB e, [])) := by
      rw [qz qqg qrU.2.2.2 qtY]
      have := qug; have := @Jw.eq_1; exact gA
    rw [q4O] at h
    exact h
noncomputable def ZO (x : Int) (y : Int) : Option Int :=
  if z6 x = Bool.true then if z6 y = Bool.true then some 0
    else some (-1)
  else if z6 y = Bool.true then some 1
  else if x < y then some (-1)
  else if y < x then some 1
  else some 0
noncomputable def zG (x : Int) (y : Int) : Int :=
  if z6 x = Bool.true then if z6 y = Bool.true then 0
    else (-1)
  else if z6 y = Bool.true then 1
  else if x < y then (-1)
  else if y < x then 1
  else 0
theorem q2T (x y : Int) : ZO x y = some (zG x y) := by
  unfold ZO zG
  simp only [zY]
theorem q41 : ∀ (x y : Int), ev 81 0 [rI x, rI y] [] = some (rI (zG x y), []) :=
  fun x y => by
    have h : ev 81 0 [rI x, rI y] [] = (ZO x y).bind (fun (e : Int) => some (rI e, [])) := by
      rw [qz qri qtt.2.2.2 qvX]
      have := qvy; have := @q57; have := @ZO.eq_1; exact gA
    rw [q2T] at h
    exact h
theorem qv2 : okL 82 qgb := qy (qi qqr) (by kernel_rfl) (by kernel_rfl)
def qul := JA_ @qgb.eq_1 (JA_ @Try.f82.eq_1 @qqr)
theorem quA : okL 86 qdS := qy (qi qqA) (by kernel_rfl) (by kernel_rfl)
def quu := JA_ @qdS.eq_1 (JA_ @Try.f86.eq_1 @qqA)
noncomputable def Zt (x : ByteArray) : Option Unit :=
  some ()
noncomputable def q0z (x : ByteArray) : Unit :=
  ()
theorem q2w (x : ByteArray) : Zt x = some (q0z x) := by
  unfold Zt q0z
  simp only [zY]
theorem q3y : ∀ (x : ByteArray), ev 86 0 [rS x] [] = some (rB Bool.false, []) :=
  fun x => by
    have h : ev 86 0 [rS x] [] = (Zt x).bind (fun (e : Unit) => some (rB Bool.false, [])) := by
      rw [qz qqA qtg.2.2.2 quA]
      have := quu; have := @Zt.eq_1; exact gA
    rw [q2w] at h
    exact h
noncomputable def QT (x : ByteArray) (y : ByteArray) : Option Int :=
  if Go.Op.bytesLess (ByteArray.toList x) (ByteArray.toList y) = Bool.true then some (-1)
  else if (!(Go.Op.bytesLess (ByteArray.toList x) (ByteArray.toList y) || ByteArray.toList x == ByteArray.toList y)) = Bool.true then some 1
  else some 0
noncomputable def z7 (x : ByteArray) (y : ByteArray) : Int :=
  if Go.Op.bytesLess (ByteArray.toList x) (ByteArray.toList y) = Bool.true then (-1)
  else if (!(Go.Op.bytesLess (ByteArray.toList x) (ByteArray.toList y) || ByteArray.toList x == ByteArray.toList y)) = Bool.true then 1
  else 0
theorem q1t (x y : ByteArray) : QT x y = some (z7 x y) := by
  unfold QT z7
  simp only [zY]
theorem q1X : ∀ (x y : ByteArray), ev 82 0 [rS x, rS y] [] = some (rI (z7 x y), []) :=
  fun x y => by
    have h : ev 82 0 [rS x, rS y] [] = (QT x y).bind (fun (e : Int) => some (rI e, [])) := by
      rw [qz qqr qrQ.2.2.2 qv2]
      have := qul; have := @q3y; have := @QT.eq_1; exact gA
    rw [q1t] at h
    exact h
theorem qsQ : okL 80 qc8 := qy (qi qpu) (by kernel_rfl) (by kernel_rfl)
def qst := JA_ @qc8.eq_1 (JA_ @Try.f80.eq_1 @qpu)
theorem qmB : lbO 80 3 = qdV := Q8 (qi qpu) rfl
theorem qmt : okL 80 qdV := zc qsQ (List.mem_of_getElem? (i := 0) (by kernel_rfl))
noncomputable def zu (zero : Int) (t6 : List Int) (t7 : Int) : Int → Option (Int ⊕ (Int ⊕ Unit))
  | t8 =>
    if t8 < t7 then if 0 ≤ t8 ∧ t8 < ((t6.length : Nat) : Int) then Option.bind t6[Int.toNat t8]? fun (a : Int) =>
        if (a != zero) = Bool.true then some (Sum.inr (Sum.inl a))
        else some (Sum.inl (w64 (t8 + 1)))
      else none
    else some (Sum.inr (Sum.inr ()))
theorem q5a : ∀ (zero : Int) (t6 : List Int) (t7 t8 : Int), XL2 evo 80 0 3 ⟨[(3, rI zero), (6, rL 1 eI t6), (7, rI t7), (8, rI t8)], [], 0, 18⟩ = (qN (zu zero t6 t7) t8).bind (Sum.elim (fun (e : Int) => some (Go.Exit.ret, ⟨[(2, rI e), (3, rI zero)], [], 0, 18⟩)) (fun (e : Unit) => some (Go.Exit.exit 0, ⟨[(2, R.any), (3, rI zero)], [], 0, 18⟩))) :=
  fun zero t6 t7 t8 => by
    revert t8; exact qaK qmB qmt (fun e => by rcases e with _ | _ <;> exact ⟨_, rfl, fun h => by cases h⟩) fun x => by
      have := qst; have := @qdV.eq_1; have := @zu.eq_1; exact gA
noncomputable def Z0 (vals : List Int) : Option Int :=
  Option.bind (qN (zu 0 vals ((vals.length : Nat) : Int)) 0) fun (a : Sum Int Unit) =>
  Sum.elim (fun (a2 : Int) => some a2) (fun (a3 : Unit) => some 0) a
theorem q8e : ∀ (vals : List Int), ev 80 0 [rL 1 eI vals] [] = (Z0 vals).bind (fun (e : Int) => some (rI e, [])) :=
  fun vals => by
    rw [qz qpu qtw.2.2.2 qsQ]
    have := qst; have := @q5a; have := @Z0.eq_1; exact gA
theorem q5m : ∀ (vals0 vals1 : Int) , ev 80 0 [R.c (C.d (D.sl 1 2 [D.int .i64 vals0, D.int .i64 vals1]))] [] = (Z0 [vals0, vals1]).bind (fun (e : Int) => some (rI e, [])) := by
  intro vals0 vals1; have h := q8e [vals0, vals1]
  first
    | exact h
    | (simp only [rL, dL, bR, bZ, Nat.reduceAdd] at h; exact h)
noncomputable def q3m (fu : Nat) (vals : List Int) : Option Int :=
  Option.bind (itT (zu 0 vals ((vals.length : Nat) : Int)) fu 0) fun (a : Sum Int Unit) =>
  Sum.elim (fun (a2 : Int) => some a2) (fun (a3 : Unit) => some 0) a
theorem q7N (fu : Nat) (vals : List Int) : qk (q3m fu vals) (Z0 vals) := by
  unfold q3m Z0
  repeat (first
    | with_reducible exact qk.refl _
    | with_reducible exact qk.none _
    | with_reducible refine qk.bind ?_ (fun _ => ?_)
    | with_reducible refine qk.ite ?_ ?_
    | with_reducible refine qk.sum (fun _ => ?_) (fun _ => ?_)
    | with_reducible refine qk.lim (fun _ => ?_))
noncomputable def QK (a : qc) (b : qc) : Option Int :=
  Option.bind (Z0 [zG a.School b.School, z7 a.Code b.Code]) fun (e0 : Int) =>
  some e0
theorem q6y : ∀ (a_School : Int) (a_Code : ByteArray) (b_School : Int) (b_Code : ByteArray), ev 76 0 [R.agg [dI a_School, dS a_Code], R.agg [dI b_School, dS b_Code]] [] = (QK (qc.mk a_School a_Code) (qc.mk b_School b_Code)).bind (fun (e : Int) => some (rI e, [])) :=
  fun a_School a_Code b_School b_Code => by
    rw [qz qrD qsX.2.2.2 quh]
    have := quJ; have := @q41; have := @q1X; have := @q5m; have := @QK.eq_1; exact gA
noncomputable def q1s (fu : Nat) (a : qc) (b : qc) : Option Int :=
  Option.bind (q3m fu [zG a.School b.School, z7 a.Code b.Code]) fun (e0 : Int) =>
  some e0
theorem q5V (fu : Nat) (a b : qc) : qk (q1s fu a b) (QK a b) := by
  unfold q1s QK
  repeat (first
    | with_reducible exact qk.refl _
    | with_reducible exact qk.none _
    | with_reducible apply q7N
    | with_reducible refine qk.bind ?_ (fun _ => ?_)
    | with_reducible refine qk.ite ?_ ?_
    | with_reducible refine qk.sum (fun _ => ?_) (fun _ => ?_)
    | with_reducible refine qk.lim (fun _ => ?_))
noncomputable def qZ (n : qb) (t22 : List qc) (t23 : Int) : Int → Option (Int ⊕ (Unit ⊕ Unit))
  | t24 =>
    if t24 < t23 then if 0 ≤ t24 ∧ t24 < ((t22.length : Nat) : Int) then Option.bind t22[Int.toNat t24]? fun (a : qc) =>
        if 0 < t24 then if 0 ≤ w64 (t24 - 1) ∧ w64 (t24 - 1) < ((n.Set.length : Nat) : Int) then Option.bind n.Set[Int.toNat (w64 (t24 - 1))]? fun (a2 : qc) =>
            Option.bind (QK a2 a) fun (a3 : Int) =>
            if 0 ≤ a3 then some (Sum.inr (Sum.inl ()))
            else some (Sum.inl (w64 (t24 + 1)))
          else none
        else some (Sum.inl (w64 (t24 + 1)))
      else none
    else some (Sum.inr (Sum.inr ()))
theorem q3Z : ∀ (n_Kind n_N n_Min : Int) (n_Set : List qc) (n_L : List qb) (t22 : List qc) (t23 t24 : Int), XL2 evo 64 0 7 ⟨[(1, rP 0), (22, rL 2 qe t22), (23, rI t23), (24, rI t24)], [(0, B.blk 31 [dI n_Kind, dI n_N, dI n_Min, dL 2 qe n_Set, dL 5 qg n_L])], 1, 43⟩ = (qN (qZ (qb.mk n_Kind n_N n_Min n_Set n_L) t22 t23) t24).bind (Sum.elim (fun (e : Unit) => some (Go.Exit.ret, ⟨[(2, rI 7)], [], 0, 43⟩)) (fun (e : Unit) => some (Go.Exit.exit 1, ⟨[(2, R.any)], [], 0, 43⟩))) :=
  fun n_Kind n_N n_Min n_Set n_L t22 t23 t24 => by
    revert t24; exact qaK qos qnS (fun e => by rcases e with _ | _ <;> exact ⟨_, rfl, fun h => by cases h⟩) fun x => by
      have := qsK; have := @qeU.eq_1; have := @q6y; have := @qZ.eq_1; exact gA
noncomputable def JU (fu : Nat) (n : qb) (t22 : List qc) (t23 : Int) : Int → Option (Int ⊕ (Unit ⊕ Unit))
  | t24 =>
    if t24 < t23 then if 0 ≤ t24 ∧ t24 < ((t22.length : Nat) : Int) then Option.bind t22[Int.toNat t24]? fun (a : qc) =>
        if 0 < t24 then if 0 ≤ w64 (t24 - 1) ∧ w64 (t24 - 1) < ((n.Set.length : Nat) : Int) then Option.bind n.Set[Int.toNat (w64 (t24 - 1))]? fun (a2 : qc) =>
            Option.bind (q1s fu a2 a) fun (a3 : Int) =>
            if 0 ≤ a3 then some (Sum.inr (Sum.inl ()))
            else some (Sum.inl (w64 (t24 + 1)))
          else none
        else some (Sum.inl (w64 (t24 + 1)))
      else none
    else some (Sum.inr (Sum.inr ()))
theorem q3S (fu : Nat) (n : qb) (t22 : List qc) (t23 : Int) : ∀ x, qk (JU fu n t22 t23 x) (qZ n t22 t23 x) := by
  rintro t24
  unfold JU qZ
  try dsimp only
  repeat (first
    | with_reducible exact qk.refl _
    | with_reducible exact qk.none _
    | with_reducible apply q5V
    | with_reducible refine qk.bind ?_ (fun _ => ?_)
    | with_reducible refine qk.ite ?_ ?_
    | with_reducible refine qk.sum (fun _ => ?_) (fun _ => ?_)
    | with_reducible refine qk.lim (fun _ => ?_))
noncomputable def Qw (n : qb) : Option Int :=
  if (!(qC n.Min (-1000) 1000)) = Bool.true then some 3
  else if (!(qC ((n.Set.length : Nat) : Int) 1 12)) = Bool.true then some 2
  else Option.bind (qq n.Set) fun (a : Bool) =>
  if (!a) = Bool.true then Option.bind (qN (qZ n n.Set ((n.Set.length : Nat) : Int)) 0) fun (a2 : Sum Unit Unit) =>
    Sum.elim (fun (a3 : Unit) => some 7) (fun (a4 : Unit) => some 0) a2
  else some 1
theorem q1z : ∀ (n_Kind n_N n_Min : Int) (n_Set : List qc) (n_L : List qb), ev 64 0 [R.agg [dI n_Kind, dI n_N, dI n_Min, dL 2 qe n_Set, dL 5 qg n_L]] [] = (Qw (qb.mk n_Kind n_N n_Min n_Set n_L)).bind (fun (e : Int) => some (rI e, [])) :=
  fun n_Kind n_N n_Min n_Set n_L => by
    rw [qz qpn qrK.2.2.2 qs1]
    have := qsK; have := @Zj; have := @QQ; have := @q3Z; have := @Qw.eq_1; exact gA
noncomputable def q08 (fu : Nat) (n : qb) : Option Int :=
  if (!(qC n.Min (-1000) 1000)) = Bool.true then some 3
  else if (!(qC ((n.Set.length : Nat) : Int) 1 12)) = Bool.true then some 2
  else Option.bind (qR fu n.Set) fun (a : Bool) =>
  if (!a) = Bool.true then Option.bind (itT (JU fu n n.Set ((n.Set.length : Nat) : Int)) fu 0) fun (a2 : Sum Unit Unit) =>
    Sum.elim (fun (a3 : Unit) => some 7) (fun (a4 : Unit) => some 0) a2
  else some 1
theorem q1E (fu : Nat) (n : qb) : qk (q08 fu n) (Qw n) := by
  unfold q08 Qw
  repeat (first
    | with_reducible exact qk.refl _
    | with_reducible exact qk.none _
    | with_reducible apply QS
    | with_reducible apply q3S
    | with_reducible refine qk.bind ?_ (fun _ => ?_)
    | with_reducible refine qk.ite ?_ ?_
    | with_reducible refine qk.sum (fun _ => ?_) (fun _ => ?_)
    | with_reducible refine qk.lim (fun _ => ?_))
noncomputable def QJ (n : qb) : Option Int :=
  if (n.N != 0) = Bool.true then some 13
  else if 0 < ((n.L.length : Nat) : Int) then some 13
  else Option.bind (Qw n) fun (e0 : Int) =>
  some e0
theorem q6k : ∀ (n_Kind n_N n_Min : Int) (n_Set : List qc) (n_L : List qb), ev 63 0 [R.agg [dI n_Kind, dI n_N, dI n_Min, dL 2 qe n_Set, dL 5 qg n_L]] [] = (QJ (qb.mk n_Kind n_N n_Min n_Set n_L)).bind (fun (e : Int) => some (rI e, [])) :=
  fun n_Kind n_N n_Min n_Set n_L => by
    rw [qz qr5 qso.2.2.2 qvH]
    have := quN; have := @q1z; have := @QJ.eq_1; exact gA
noncomputable def q1r (fu : Nat) (n : qb) : Option Int :=
  if (n.N != 0) = Bool.true then some 13
  else if 0 < ((n.L.length : Nat) : Int) then some 13
  else Option.bind (q08 fu n) fun (e0 : Int) =>
  some e0
theorem q6a (fu : Nat) (n : qb) : qk (q1r fu n) (QJ n) := by
  unfold q1r QJ
  repeat (first
    | with_reducible exact qk.refl _
    | with_reducible exact qk.none _
    | with_reducible apply q1E
    | with_reducible refine qk.bind ?_ (fun _ => ?_)
    | with_reducible refine qk.ite ?_ ?_
    | with_reducible refine qk.sum (fun _ => ?_) (fun _ => ?_)
    | with_reducible refine qk.lim (fun _ => ?_))
theorem qvo : okL 65 qe2 := qy (qi qrA) (by kernel_rfl) (by kernel_rfl)
def qvl := JA_ @qe2.eq_1 (JA_ @Try.f65.eq_1 @qrA)
noncomputable def QO (n : qb) : Option Int :=
  if 0 < ((n.L.length : Nat) : Int) then some 13
  else if (!(qC n.N 1 600)) = Bool.true then some 3
  else Option.bind (Qw n) fun (e0 : Int) =>
  some e0
theorem q6x : ∀ (n_Kind n_N n_Min : Int) (n_Set : List qc) (n_L : List qb), ev 65 0 [R.agg [dI n_Kind, dI n_N, dI n_Min, dL 2 qe n_Set, dL 5 qg n_L]] [] = (QO (qb.mk n_Kind n_N n_Min n_Set n_L)).bind (fun (e : Int) => some (rI e, [])) :=
  fun n_Kind n_N n_Min n_Set n_L => by
    rw [qz qrA qth.2.2.2 qvo]
    have := qvl; have := @Zj; have := @q1z; have := @QO.eq_1; exact gA
noncomputable def q1m (fu : Nat) (n : qb) : Option Int :=
  if 0 < ((n.L.length : Nat) : Int) then some 13
  else if (!(qC n.N 1 600)) = Bool.true then some 3
  else Option.bind (q08 fu n) fun (e0 : Int) =>
  some e0
theorem q6u (fu : Nat) (n : qb) : qk (q1m fu n) (QO n) := by
  unfold q1m QO
  repeat (first
    | with_reducible exact qk.refl _
    | with_reducible exact qk.none _
    | with_reducible apply q1E
    | with_reducible refine qk.bind ?_ (fun _ => ?_)
    | with_reducible refine qk.ite ?_ ?_
    | with_reducible refine qk.sum (fun _ => ?_) (fun _ => ?_)
    | with_reducible refine qk.lim (fun _ => ?_))
theorem quP : okL 66 qeR := qy (qi qrs) (by kernel_rfl) (by kernel_rfl)
def qvO := JA_ @qeR.eq_1 (JA_ @Try.f66.eq_1 @qrs)
theorem quG : okL 62 qfa := qy (qi qru) (by kernel_rfl) (by kernel_rfl)
def qtG := JA_ @qfa.eq_1 (JA_ @Try.f62.eq_1 @qru)
noncomputable def q0e (n : qb) : Option Bool :=
  if (n.Min == 0) = Bool.true then if (((n.Set.length : Nat) : Int) == 0) = Bool.true then some (decide (0 < ((n.L.length : Nat) : Int)))
    else some Bool.false
  else some Bool.false
noncomputable def zA (n : qb) : Bool :=
  if (n.Min == 0) = Bool.true then if (((n.Set.length : Nat) : Int) == 0) = Bool.true then decide (0 < ((n.L.length : Nat) : Int))
    else Bool.false
  else Bool.false
theorem q5p (n : qb) : q0e n = some (zA n) := by
  unfold q0e zA
  simp only [zY]
theorem q1M : ∀ (n_Kind n_N n_Min : Int) (n_Set : List qc) (n_L : List qb), ev 62 0 [R.agg [dI n_Kind, dI n_N, dI n_Min, dL 2 qe n_Set, dL 5 qg n_L]] [] = some (rB (zA (qb.mk n_Kind n_N n_Min n_Set n_L)), []) :=
  fun n_Kind n_N n_Min n_Set n_L => by
    have h : ev 62 0 [R.agg [dI n_Kind, dI n_N, dI n_Min, dL 2 qe n_Set, dL 5 qg n_L]] [] = (q0e (qb.mk n_Kind n_N n_Min n_Set n_L)).bind (fun (e : Bool) => some (rB e, [])) := by
      rw [qz qru qt5.2.2.2 quG]
      have := qtG; have := @q0e.eq_1; exact gA
    rw [q5p] at h
    exact h
noncomputable def q09 (n : qb) : Option Int :=
  if (!(zA n)) = Bool.true then some 13
  else if (n.N != 0) = Bool.true then some 13
  else some 0
noncomputable def zF (n : qb) : Int :=
  if (!(zA n)) = Bool.true then 13
  else if (n.N != 0) = Bool.true then 13
  else 0
theorem q5C (n : qb) : q09 n = some (zF n) := by
  unfold q09 zF
  simp only [zY]
theorem q6G : ∀ (n_Kind n_N n_Min : Int) (n_Set : List qc) (n_L : List qb), ev 66 1 [R.agg [dI n_Kind, dI n_N, dI n_Min, dL 2 qe n_Set, dL 5 qg n_L], rP 0] [(0, B.blk 68 [C.fn 62 [] []])] = some (rI (zF (qb.mk n_Kind n_N n_Min n_Set n_L)), [(0, B.blk 68 [C.fn 62 [] []])]) :=
  fun n_Kind n_N n_Min n_Set n_L => by
    have h : ev 66 1 [R.agg [dI n_Kind, dI n_N, dI n_Min, dL 2 qe n_Set, dL 5 qg n_L], rP 0] [(0, B.blk 68 [C.fn 62 [] []])] = (q09 (qb.mk n_Kind n_N n_Min n_Set n_L)).bind (fun (e : Int) => some (rI e, [(0, B.blk 68 [C.fn 62 [] []])])) := by
      rw [qz qrs qsU.2.2.2 quP]
      have := qvO; have := @q1M; have := @q09.eq_1; exact gA
    rw [q5C] at h
    exact h
theorem qvM : okL 67 qfe := qy (qi qqa) (by kernel_rfl) (by kernel_rfl)
def qvs := JA_ @qfe.eq_1 (JA_ @Try.f67.eq_1 @qqa)
noncomputable def q04 (n : qb) : Option Int :=
  if (!(zA n)) = Bool.true then some 13
  else if (!(qC n.N 1 ((n.L.length : Nat) : Int))) = Bool.true then some 3
  else some 0
noncomputable def zE (n : qb) : Int :=
  if (!(zA n)) = Bool.true then 13
  else if (!(qC n.N 1 ((n.L.length : Nat) : Int))) = Bool.true then 3
  else 0
theorem q5o (n : qb) : q04 n = some (zE n) := by
  unfold q04 zE
  simp only [zY]
theorem q6f : ∀ (n_Kind n_N n_Min : Int) (n_Set : List qc) (n_L : List qb), ev 67 1 [R.agg [dI n_Kind, dI n_N, dI n_Min, dL 2 qe n_Set, dL 5 qg n_L], rP 0] [(0, B.blk 68 [C.fn 62 [] []])] = some (rI (zE (qb.mk n_Kind n_N n_Min n_Set n_L)), [(0, B.blk 68 [C.fn 62 [] []])]) :=
  fun n_Kind n_N n_Min n_Set n_L => by
    have h : ev 67 1 [R.agg [dI n_Kind, dI n_N, dI n_Min, dL 2 qe n_Set, dL 5 qg n_L], rP 0] [(0, B.blk 68 [C.fn 62 [] []])] = (q04 (qb.mk n_Kind n_N n_Min n_Set n_L)).bind (fun (e : Int) => some (rI e, [(0, B.blk 68 [C.fn 62 [] []])])) := by
      rw [qz qqa qrL.2.2.2 qvM]
      have := qvs; have := @q1M; have := @Zj; have := @q04.eq_1; exact gA
    rw [q5o] at h
    exact h
noncomputable def zL (t37 : List qb) (t38 : Int) : Int → Option (Int ⊕ (Int ⊕ Unit))
  | t39 =>
    if t39 < t38 then if 0 ≤ t39 ∧ t39 < ((t37.length : Nat) : Int) then Option.bind t37[Int.toNat t39]? fun (a : qb) =>
        if a.Kind = 1 then Option.bind (QJ a) fun (a2 : Int) =>
          if (a2 != 0) = Bool.true then some (Sum.inr (Sum.inl a2))
          else some (Sum.inl (w64 (t39 + 1)))
        else if a.Kind = 2 then Option.bind (QO a) fun (a3 : Int) =>
          if (a3 != 0) = Bool.true then some (Sum.inr (Sum.inl a3))
          else some (Sum.inl (w64 (t39 + 1)))
        else if a.Kind = 3 then if (zF a != 0) = Bool.true then some (Sum.inr (Sum.inl (zF a)))
          else some (Sum.inl (w64 (t39 + 1)))
        else if a.Kind = 4 then if (zE a != 0) = Bool.true then some (Sum.inr (Sum.inl (zE a)))
          else some (Sum.inl (w64 (t39 + 1)))
        else some (Sum.inr (Sum.inl 13))
      else none
    else some (Sum.inr (Sum.inr ()))
theorem q5I : ∀ (t37 : List qb) (t38 t39 : Int), XL2 evo 21 0 6 ⟨[(6, R.c (C.hd .map 0)), (37, rL 5 qg t37), (38, rI t38), (39, rI t39)], [(0, B.ob (AO.mp [(Go.Value.int Go.IntKind.i64 1, R.agg [C.fn 63 [] []], 0), (Go.Value.int Go.IntKind.i64 2, R.agg [C.fn 65 [] []], 1), (Go.Value.int Go.IntKind.i64 3, R.agg [C.fn 66 [] [dP 1]], 2), (Go.Value.int Go.IntKind.i64 4, R.agg [C.fn 67 [] [dP 1]], 3)] 4)), (1, B.blk 68 [C.fn 62 [] []])], 2, 60⟩ = (qN (zL t37 t38) t39).bind (Sum.elim (fun (e : Int) => some (Go.Exit.ret, ⟨[(2, rI e)], [], 0, 60⟩)) (fun (e : Unit) => some (Go.Exit.exit 0, ⟨[(2, R.any)], [], 0, 60⟩))) :=
  fun t37 t38 t39 => by
    revert t39; exact qaK qox qo3 (fun e => by rcases e with _ | _ <;> exact ⟨_, rfl, fun h => by cases h⟩) fun x => by
      have := qt0; have := @qgD.eq_1; have := @q6k; have := @q6x; have := @q6G; have := @q6f; have := @zL.eq_1; exact gA
noncomputable def q0M (fu : Nat) (t37 : List qb) (t38 : Int) : Int → Option (Int ⊕ (Int ⊕ Unit))
  | t39 =>
    if t39 < t38 then if 0 ≤ t39 ∧ t39 < ((t37.length : Nat) : Int) then Option.bind t37[Int.toNat t39]? fun (a : qb) =>
        if a.Kind = 1 then Option.bind (q1r fu a) fun (a2 : Int) =>
          if (a2 != 0) = Bool.true then some (Sum.inr (Sum.inl a2))
          else some (Sum.inl (w64 (t39 + 1)))
        else if a.Kind = 2 then Option.bind (q1m fu a) fun (a3 : Int) =>
          if (a3 != 0) = Bool.true then some (Sum.inr (Sum.inl a3))
          else some (Sum.inl (w64 (t39 + 1)))
        else if a.Kind = 3 then if (zF a != 0) = Bool.true then some (Sum.inr (Sum.inl (zF a)))
          else some (Sum.inl (w64 (t39 + 1)))
        else if a.Kind = 4 then if (zE a != 0) = Bool.true then some (Sum.inr (Sum.inl (zE a)))
          else some (Sum.inl (w64 (t39 + 1)))
        else some (Sum.inr (Sum.inl 13))
      else none
    else some (Sum.inr (Sum.inr ()))
theorem q5A (fu : Nat) (t37 : List qb) (t38 : Int) : ∀ x, qk (q0M fu t37 t38 x) (zL t37 t38 x) := by
  rintro t39
  unfold q0M zL
  try dsimp only
  repeat (first
    | with_reducible exact qk.refl _
    | with_reducible exact qk.none _
    | with_reducible apply q6a
    | with_reducible apply q6u
    | with_reducible refine qk.bind ?_ (fun _ => ?_)
    | with_reducible refine qk.ite ?_ ?_
    | with_reducible refine qk.sum (fun _ => ?_) (fun _ => ?_)
    | with_reducible refine qk.lim (fun _ => ?_))
theorem qrW : okL 24 qfz := qy (qi qpx) (by kernel_rfl) (by kernel_rfl)
def qsT := JA_ @qfz.eq_1 (JA_ @Try.f24.eq_1 @qpx)
theorem qkT : okL 45 q6N := qy (qi qgZ) (by kernel_rfl) (by kernel_rfl)
def qcD := JA_ @q6N.eq_1 (JA_ @Try.f45.eq_1 @qgZ)
theorem qcy : lbO 45 5 = q94 := Q8 (qi qgZ) rfl
theorem qbV : okL 45 q94 := zc qkT (List.mem_of_getElem? (i := 0) (by kernel_rfl))
theorem qdY : lbO 45 14 = q9m := Q8 (qi qgZ) rfl
theorem qga : okL 45 q9m := zc qkT (List.mem_of_getElem? (i := 1) (by kernel_rfl))
theorem qgk : lbO 45 18 = q9p := Q8 (qi qgZ) rfl
theorem qgu : okL 45 q9p := zc qkT (List.mem_of_getElem? (i := 2) (by kernel_rfl))
theorem qeM : lbO 45 25 = qa2 := Q8 (qi qgZ) rfl
theorem qew : okL 45 qa2 := zc qkT (List.mem_of_getElem? (i := 3) (by kernel_rfl))
theorem qg6 : lbO 45 38 = qa1 := Q8 (qi qgZ) rfl
theorem qgF : okL 45 qa1 := zc qkT (List.mem_of_getElem? (i := 4) (by kernel_rfl))
theorem qv5 : okL 31 qeZ := qy (qi qr6) (by kernel_rfl) (by kernel_rfl)
def quq := JA_ @qeZ.eq_1 (JA_ @Try.f31.eq_1 @qr6)
noncomputable def q3G (n : qb) : Option Bool :=
  if (n.Kind == 1) = Bool.true then some Bool.true
  else some (n.Kind == 2)
noncomputable def zI (n : qb) : Bool :=
  if (n.Kind == 1) = Bool.true then Bool.true
  else n.Kind == 2
theorem q8K (n : qb) : q3G n = some (zI n) := by
  unfold q3G zI
  simp only [zY]
theorem q0E : ∀ (n_Kind n_N n_Min : Int) (n_Set : List qc) (n_L : List qb), ev 31 0 [R.agg [dI n_Kind, dI n_N, dI n_Min, dL 2 qe n_Set, dL 5 qg n_L]] [] = some (rB (zI (qb.mk n_Kind n_N n_Min n_Set n_L)), []) :=
  fun n_Kind n_N n_Min n_Set n_L => by
    have h : ev 31 0 [R.agg [dI n_Kind, dI n_N, dI n_Min, dL 2 qe n_Set, dL 5 qg n_L]] [] = (q3G (qb.mk n_Kind n_N n_Min n_Set n_L)).bind (fun (e : Bool) => some (rB e, [])) := by
      rw [qz qr6 qsi.2.2.2 qv5]
      have := quq; have := @q3G.eq_1; exact gA
    rw [q8K] at h
    exact h
theorem qvn : okL 34 qeV := qy (qi qqM) (by kernel_rfl) (by kernel_rfl)
def quQ := JA_ @qeV.eq_1 (JA_ @Try.f34.eq_1 @qqM)
noncomputable def Ze (kind : Int) : Option (Unit ⊕ Unit) :=
  if (kind == 1) = Bool.true then some (Sum.inl ())
  else some (Sum.inr ())
theorem q1d : ∀ (kind : Int), ev 34 0 [rI kind] [] = (Ze kind).bind (Sum.elim (fun (e : Unit) => some (R.c (C.fn 50 [] []), [])) (fun (e : Unit) => some (R.c (C.fn 51 [] []), []))) :=
  fun kind => by
    rw [qz qqM qtd.2.2.2 qvn]
    have := quQ; have := @Ze.eq_1; exact gA
theorem qvi : okL 22 qf5 := qy (qi qqk) (by kernel_rfl) (by kernel_rfl)
def qtI := JA_ @qf5.eq_1 (JA_ @Try.f22.eq_1 @qqk)
noncomputable def q0Z (x0 : Int) (x1 : Int) : Option Unit :=
  some ()
noncomputable def q49 (x0 : Int) (x1 : Int) : Unit :=
  ()
theorem q71 (x0 x1 : Int) : q0Z x0 x1 = some (q49 x0 x1) := by
  unfold q0Z q49
  simp only [zY]
theorem q3D : ∀ (x0 x1 : Int), ev 22 0 [rI x0, rI x1] [] = some (rB Bool.true, []) :=
  fun x0 x1 => by
    have h : ev 22 0 [rI x0, rI x1] [] = (q0Z x0 x1).bind (fun (e : Unit) => some (rB Bool.true, [])) := by
      rw [qz qqk qsB.2.2.2 qvi]
      have := qtI; have := @q0Z.eq_1; exact gA
    rw [q71] at h
    exact h
theorem qqs : okL 32 qc1 := qy (qi qo7) (by kernel_rfl) (by kernel_rfl)
def qph := JA_ @qc1.eq_1 (JA_ @Try.f32.eq_1 @qo7)
theorem qjo : lbO 32 3 = qbM := Q8 (qi qo7) rfl
theorem qj0 : okL 32 qbM := zc qqs (List.mem_of_getElem? (i := 0) (by kernel_rfl))
theorem quM : okL 46 qg1 := qy (qi qqd) (by kernel_rfl) (by kernel_rfl)
def qvk := JA_ @qg1.eq_1 (JA_ @Try.f46.eq_1 @qqd)
noncomputable def QY (k : Int) (v : Int) : Option Bool :=
  if 0 ≤ k then some (J0 Go.BinOp.and Go.IntKind.i64 (Int.fdiv v (2 ^ min (Int.toNat k) (Go.IntKind.bits Go.IntKind.i64))) 1 == 1)
  else none
theorem q4S : ∀ (k v : Int), ev 46 1 [rI k, rP 0] [(0, B.blk 3 [dI v])] = (QY k v).bind (fun (e : Bool) => some (rB e, [(0, B.blk 3 [dI v])])) :=
  fun k v => by
    rw [qz qqd qte.2.2.2 quM]
    have := qvk; have := @QY.eq_1; exact gA
theorem qu8 : okL 17 qgy := qy (qi qqO) (by kernel_rfl) (by kernel_rfl)
def qvj := JA_ @qgy.eq_1 (JA_ @Try.f17.eq_1 @qqO)
theorem quv : okL 38 qeN := qy (qi qrv) (by kernel_rfl) (by kernel_rfl)
def qut := JA_ @qeN.eq_1 (JA_ @Try.f38.eq_1 @qrv)
theorem qta : okL 55 qcp := qy (qi qpj) (by kernel_rfl) (by kernel_rfl)
def qt4 := JA_ @qcp.eq_1 (JA_ @Try.f55.eq_1 @qpj)
theorem qnx : lbO 55 2 = qg8 := Q8 (qi qpj) rfl
theorem qns : okL 55 qg8 := zc qta (List.mem_of_getElem? (i := 0) (by kernel_rfl))
noncomputable def qs (v : qc) (s : List qc) (t7 : Int) : Int → Option (Int ⊕ (Int ⊕ Unit))
  | t8 =>
    if t8 < t7 then if 0 ≤ t8 ∧ t8 < ((s.length : Nat) : Int) then Option.bind s[Int.toNat t8]? fun (a : qc) =>
        if (v.School == a.School) = Bool.true ∧ (ByteArray.toList v.Code == ByteArray.toList a.Code) = Bool.true then some (Sum.inr (Sum.inl t8))
        else some (Sum.inl (w64 (t8 + 1)))
      else none
    else some (Sum.inr (Sum.inr ()))
theorem Zn : ∀ (v_School : Int) (v_Code : ByteArray) (s : List qc) (t7 t8 : Int), XL2 evo 55 0 2 ⟨[(0, rL 2 qe s), (3, rP 0), (7, rI t7), (8, rI t8)], [(0, B.blk 52 [dI v_School, dS v_Code])], 1, 19⟩ = (qN (qs (qc.mk v_School v_Code) s t7) t8).bind (Sum.elim (fun (e : Int) => some (Go.Exit.ret, ⟨[(4, rI e)], [], 0, 19⟩)) (fun (e : Unit) => some (Go.Exit.exit 0, ⟨[(4, R.any)], [], 0, 19⟩))) :=
  fun v_School v_Code s t7 t8 => by
    revert t8; exact qaK qnx qns (fun e => by rcases e with _ | _ <;> exact ⟨_, rfl, fun h => by cases h⟩) fun x => by
      have := qt4; have := @qg8.eq_1; have := @qs.eq_1; exact gA
noncomputable def qv (s : List qc) (v : qc) : Option Int :=
  Option.bind (qN (qs v s ((s.length : Nat) : Int)) 0) fun (a : Sum Int Unit) =>
  Sum.elim (fun (a2 : Int) => some a2) (fun (a3 : Unit) => some (-1)) a
theorem ZD : ∀ (s : List qc) (v_School : Int) (v_Code : ByteArray), ev 55 0 [rL 2 qe s, R.agg [dI v_School, dS v_Code]] [] = (qv s (qc.mk v_School v_Code)).bind (fun (e : Int) => some (rI e, [])) :=
  fun s v_School v_Code => by
    rw [qz qpj qsZ.2.2.2 qta]
    have := qt4; have := @Zn; have := @qv.eq_1; exact gA
noncomputable def zw (fu : Nat) (s : List qc) (v : qc) : Option Int :=
  Option.bind (itT (qs v s ((s.length : Nat) : Int)) fu 0) fun (a : Sum Int Unit) =>
  Sum.elim (fun (a2 : Int) => some a2) (fun (a3 : Unit) => some (-1)) a
theorem Zz (fu : Nat) (s : List qc) (v : qc) : qk (zw fu s v) (qv s v) := by
  unfold zw qv
  repeat (first
    | with_reducible exact qk.refl _
    | with_reducible exact qk.none _
    | with_reducible refine qk.bind ?_ (fun _ => ?_)
    | with_reducible refine qk.ite ?_ ?_
    | with_reducible refine qk.sum (fun _ => ?_) (fun _ => ?_)
    | with_reducible refine qk.lim (fun _ => ?_))
noncomputable def qt (s : List qc) (v : qc) : Option Bool :=
  Option.bind (qv s v) fun (a : Int) =>
  some (decide (0 ≤ a))
theorem Zi : ∀ (s : List qc) (v_School : Int) (v_Code : ByteArray), ev 38 0 [rL 2 qe s, R.agg [dI v_School, dS v_Code]] [] = (qt s (qc.mk v_School v_Code)).bind (fun (e : Bool) => some (rB e, [])) :=
  fun s v_School v_Code => by
    rw [qz qrv qtu.2.2.2 quv]
    have := qut; have := @ZD; have := @qt.eq_1; exact gA
noncomputable def zf (fu : Nat) (s : List qc) (v : qc) : Option Bool :=
  Option.bind (zw fu s v) fun (a : Int) =>
  some (decide (0 ≤ a))
theorem Zm (fu : Nat) (s : List qc) (v : qc) : qk (zf fu s v) (qt s v) := by
  unfold zf qt
  repeat (first
    | with_reducible exact qk.refl _
    | with_reducible exact qk.none _
    | with_reducible apply Zz
    | with_reducible refine qk.bind ?_ (fun _ => ?_)
    | with_reducible refine qk.ite ?_ ?_
    | with_reducible refine qk.sum (fun _ => ?_) (fun _ => ?_)
    | with_reducible refine qk.lim (fun _ => ?_))
theorem qu0 : okL 39 qgK := qy (qi qrc) (by kernel_rfl) (by kernel_rfl)
def quC := JA_ @qgK.eq_1 (JA_ @Try.f39.eq_1 @qrc)
theorem qv3 : okL 56 qe5 := qy (qi qpZ) (by kernel_rfl) (by kernel_rfl)
def qtE := JA_ @qe5.eq_1 (JA_ @Try.f56.eq_1 @qpZ)
theorem qsE : okL 70 qck := qy (qi qpA) (by kernel_rfl) (by kernel_rfl)
def qs3 := JA_ @qck.eq_1 (JA_ @Try.f70.eq_1 @qpA)
theorem qml : lbO 70 2 = qfy := Q8 (qi qpA) rfl
theorem qmx : okL 70 qfy := zc qsE (List.mem_of_getElem? (i := 0) (by kernel_rfl))
theorem qvT : okL 71 qe3 := qy (qi qqB) (by kernel_rfl) (by kernel_rfl)
def qvz := JA_ @qe3.eq_1 (JA_ @Try.f71.eq_1 @qqB)
noncomputable def Z2 (n : Int) (a : Int) (b : Int) : Option Int :=
  some (max (min a b) (min n (max a b)))
noncomputable def qE (n : Int) (a : Int) (b : Int) : Int :=
  max (min a b) (min n (max a b))
theorem q1U (n a b : Int) : Z2 n a b = some (qE n a b) := by
  unfold Z2 qE
  simp only [zY]
theorem Zs : ∀ (n a b : Int), ev 71 0 [rI n, rI a, rI b] [] = some (rI (qE n a b), []) :=
  fun n a b => by
    have h : ev 71 0 [rI n, rI a, rI b] [] = (Z2 n a b).bind (fun (e : Int) => some (rI e, [])) := by
      rw [qz qqB qrT.2.2.2 qvT]
      have := qvz; have := @Z2.eq_1; exact gA
    rw [q1U] at h
    exact h
noncomputable def zU (w1 : List Int) (s : qd) (t10 : Int) : Int → Option (Int ⊕ (Unit ⊕ Unit))
  | t11 =>
    if t11 < t10 then if 0 ≤ t11 ∧ t11 < ((w1.length : Nat) : Int) then Option.bind w1[Int.toNat t11]? fun (a : Int) =>
        if (qE a (-1000) 1000 != a) = Bool.true then some (Sum.inr (Sum.inl ()))
        else some (Sum.inl (w64 (t11 + 1)))
      else none
    else some (Sum.inr (Sum.inr ()))
theorem q4s : ∀ (w1 : List Int) (s_Worst s_Best s_Pass t10 t11 : Int) (w1_len : Nat), w1_len = w1.length → XL2 evo 70 0 2 ⟨[(1, rP 0), (9, rO 1 1 w1_len), (10, rI t10), (11, rI t11)], [(0, B.blk 37 [dI s_Worst, dI s_Best, dI s_Pass]), (1, bR 3 1 eI w1)], 2, 37⟩ = (qN (zU w1 (qd.mk s_Worst s_Best s_Pass) t10) t11).bind (Sum.elim (fun (e : Unit) => some (Go.Exit.ret, ⟨[(1, rP 0), (2, rI 10)], [(0, B.blk 37 [dI s_Worst, dI s_Best, dI s_Pass])], 1, 37⟩)) (fun (e : Unit) => some (Go.Exit.exit 0, ⟨[(1, rP 0), (2, R.any)], [(0, B.blk 37 [dI s_Worst, dI s_Best, dI s_Pass])], 1, 37⟩))) :=
  by
  intro w1 s_Worst s_Best s_Pass t10 t11 w1_len h0
  subst h0
  revert t11; exact qaK qml qmx (fun e => by rcases e with _ | _ <;> exact ⟨_, rfl, fun h => by cases h⟩) fun x => by
    have := qs3; have := @qfy.eq_1; have := @Zs; have := @zU.eq_1; exact gA
theorem q2D : ∀ (w10 w11 s_Worst s_Best s_Pass t10 t11 : Int), XL2 evo 70 0 2 ⟨[(1, rP 0), (9, rO 1 1 2), (10, rI t10), (11, rI t11)], [(0, B.blk 37 [dI s_Worst, dI s_Best, dI s_Pass]), (1, B.row 3 1 [dI w10, dI w11])], 2, 37⟩ = (qN (zU [w10, w11] (qd.mk s_Worst s_Best s_Pass) t10) t11).bind (Sum.elim (fun (e : Unit) => some (Go.Exit.ret, ⟨[(1, rP 0), (2, rI 10)], [(0, B.blk 37 [dI s_Worst, dI s_Best, dI s_Pass])], 1, 37⟩)) (fun (e : Unit) => some (Go.Exit.exit 0, ⟨[(1, rP 0), (2, R.any)], [(0, B.blk 37 [dI s_Worst, dI s_Best, dI s_Pass])], 1, 37⟩))) := by
  intro w10 w11 s_Worst s_Best s_Pass t10 t11; have h := q4s [w10, w11] ((qd.mk s_Worst s_Best s_Pass)).Worst ((qd.mk s_Worst s_Best s_Pass)).Best ((qd.mk s_Worst s_Best s_Pass)).Pass t10 t11 _ rfl
  first
    | exact h
    | (simp only [rL, dL, bR, bZ, Nat.reduceAdd] at h; exact h)
noncomputable def Z6 (s : qd) : Option Int :=
  Option.bind (qN (zU [s.Worst, s.Best] s 2) 0) fun (a : Sum Unit Unit) =>
  Sum.elim (fun (a2 : Unit) => some 10) (fun (a3 : Unit) => if (s.Worst == s.Best) = Bool.true then some 10
    else if (qE s.Pass s.Worst s.Best != s.Pass) = Bool.true then some 10
    else some 0) a
theorem q78 : ∀ (s_Worst s_Best s_Pass : Int), ev 70 0 [R.agg [dI s_Worst, dI s_Best, dI s_Pass]] [] = (Z6 (qd.mk s_Worst s_Best s_Pass)).bind (fun (e : Int) => some (rI e, [])) :=
  fun s_Worst s_Best s_Pass => by
    rw [qz qpA qse.2.2.2 qsE]
    have := qs3; have := @q2D; have := @Zs; have := @Z6.eq_1; exact gA
noncomputable def q20 (fu : Nat) (s : qd) : Option Int :=
  Option.bind (itT (zU [s.Worst, s.Best] s 2) fu 0) fun (a : Sum Unit Unit) =>
  Sum.elim (fun (a2 : Unit) => some 10) (fun (a3 : Unit) => if (s.Worst == s.Best) = Bool.true then some 10
    else if (qE s.Pass s.Worst s.Best != s.Pass) = Bool.true then some 10
    else some 0) a
theorem q77 (fu : Nat) (s : qd) : qk (q20 fu s) (Z6 s) := by
  unfold q20 Z6
  repeat (first
    | with_reducible exact qk.refl _
    | with_reducible exact qk.none _
    | with_reducible refine qk.bind ?_ (fun _ => ?_)
    | with_reducible refine qk.ite ?_ ?_
    | with_reducible refine qk.sum (fun _ => ?_) (fun _ => ?_)
    | with_reducible refine qk.lim (fun _ => ?_))
noncomputable def Zd (s : qd) (g : Int) : Option Bool :=
  Option.bind (Z6 s) fun (a : Int) =>
  if (a == 0) = Bool.true then some (qE g s.Worst s.Best == g)
  else some Bool.false
theorem q7h : ∀ (s_Worst s_Best s_Pass g : Int), ev 56 0 [R.agg [dI s_Worst, dI s_Best, dI s_Pass], rI g] [] = (Zd (qd.mk s_Worst s_Best s_Pass) g).bind (fun (e : Bool) => some (rB e, [])) :=
  fun s_Worst s_Best s_Pass g => by
    rw [qz qpZ qt6.2.2.2 qv3]
    have := qtE; have := @q78; have := @Zs; have := @Zd.eq_1; exact gA
noncomputable def q2b (fu : Nat) (s : qd) (g : Int) : Option Bool :=
  Option.bind (q20 fu s) fun (a : Int) =>
  if (a == 0) = Bool.true then some (qE g s.Worst s.Best == g)
  else some Bool.false
theorem q74 (fu : Nat) (s : qd) (g : Int) : qk (q2b fu s g) (Zd s g) := by
  unfold q2b Zd
  repeat (first
    | with_reducible exact qk.refl _
    | with_reducible exact qk.none _
    | with_reducible apply q77
    | with_reducible refine qk.bind ?_ (fun _ => ?_)
    | with_reducible refine qk.ite ?_ ?_
    | with_reducible refine qk.sum (fun _ => ?_) (fun _ => ?_)
    | with_reducible refine qk.lim (fun _ => ?_))
noncomputable def Qx (s : qd) (g : Int) (min : Int) : Option Bool :=
  Option.bind (Zd s g) fun (a : Bool) =>
  if a = Bool.true then if (g == min) = Bool.true then some Bool.true
    else some (decide (min < g) == decide (s.Worst < s.Best))
  else some Bool.false
theorem q5l : ∀ (s_Worst s_Best s_Pass g min : Int), ev 39 0 [R.agg [dI s_Worst, dI s_Best, dI s_Pass], rI g, rI min] [] = (Qx (qd.mk s_Worst s_Best s_Pass) g min).bind (fun (e : Bool) => some (rB e, [])) :=
  fun s_Worst s_Best s_Pass g min => by
    rw [qz qrc qsV.2.2.2 qu0]
    have := quC; have := @q7h; have := @Qx.eq_1; exact gA
noncomputable def q0P (fu : Nat) (s : qd) (g : Int) (min : Int) : Option Bool :=
  Option.bind (q2b fu s g) fun (a : Bool) =>
  if a = Bool.true then if (g == min) = Bool.true then some Bool.true
    else some (decide (min < g) == decide (s.Worst < s.Best))
  else some Bool.false
theorem q5f (fu : Nat) (s : qd) (g min : Int) : qk (q0P fu s g min) (Qx s g min) := by
  unfold q0P Qx
  repeat (first
    | with_reducible exact qk.refl _
    | with_reducible exact qk.none _
    | with_reducible apply q74
    | with_reducible refine qk.bind ?_ (fun _ => ?_)
    | with_reducible refine qk.ite ?_ ?_
    | with_reducible refine qk.sum (fun _ => ?_) (fun _ => ?_)
    | with_reducible refine qk.lim (fun _ => ?_))
noncomputable def QC (n : qb) (s : qd) (a : qa) : Option Bool :=
  if zI n = Bool.true then Option.bind (qt n.Set a.Course) fun (a2 : Bool) =>
    if a2 = Bool.true then Option.bind (Qx s a.Grade n.Min) fun (e0 : Bool) =>
      some e0
    else some Bool.false
  else some Bool.false
theorem q2c : ∀ (n_Kind n_N n_Min : Int) (n_Set : List qc) (n_L : List qb) (s_Worst s_Best s_Pass a_Course_School : Int) (a_Course_Code : ByteArray) (a_Credits a_Grade a_Day : Int) (a_Sources : List Int) (a_Bundle : Int) (a_Path : List Int), ev 17 0 [R.agg [dI n_Kind, dI n_N, dI n_Min, dL 2 qe n_Set, dL 5 qg n_L], R.agg [dI s_Worst, dI s_Best, dI s_Pass], R.agg [dI a_Course_School, dS a_Course_Code, dI a_Credits, dI a_Grade, dI a_Day, dL 1 eI a_Sources, dI a_Bundle, dL 1 eI a_Path]] [] = (QC (qb.mk n_Kind n_N n_Min n_Set n_L) (qd.mk s_Worst s_Best s_Pass) (qa.mk (qc.mk a_Course_School a_Course_Code) a_Credits a_Grade a_Day a_Sources a_Bundle a_Path)).bind (fun (e : Bool) => some (rB e, [])) :=
  fun n_Kind n_N n_Min n_Set n_L s_Worst s_Best s_Pass a_Course_School a_Course_Code a_Credits a_Grade a_Day a_Sources a_Bundle a_Path => by
    rw [qz qqO qsJ.2.2.2 qu8]
    have := qvj; have := @q0E; have := @Zi; have := @q5l; have := @QC.eq_1; exact gA
theorem q7m : ∀ (n_Kind n_N n_Min n_Set0_School : Int) (n_Set0_Code : ByteArray) (a_Course_School : Int) (a_Course_Code : ByteArray) (a_Credits a_Grade a_Day a_Bundle s_Worst s_Best s_Pass : Int), ev 17 0 [R.agg [dI n_Kind, dI n_N, dI n_Min, C.d (D.sl 2 1 [D.int .i64 n_Set0_School, D.str n_Set0_Code]), C.d (D.sl 5 0 [])], R.agg [dI s_Worst, dI s_Best, dI s_Pass], R.agg [dI a_Course_School, dS a_Course_Code, dI a_Credits, dI a_Grade, dI a_Day, C.d (D.sl 1 0 []), dI a_Bundle, C.d (D.sl 1 0 [])]] [] = (QC (qb.mk n_Kind n_N n_Min [(qc.mk n_Set0_School n_Set0_Code)] []) (qd.mk s_Worst s_Best s_Pass) (qa.mk (qc.mk a_Course_School a_Course_Code) a_Credits a_Grade a_Day [] a_Bundle [])).bind (fun (e : Bool) => some (rB e, [])) := by
  intro n_Kind n_N n_Min n_Set0_School n_Set0_Code a_Course_School a_Course_Code a_Credits a_Grade a_Day a_Bundle s_Worst s_Best s_Pass; have h := q2c ((qb.mk n_Kind n_N n_Min [(qc.mk n_Set0_School n_Set0_Code)] [])).Kind ((qb.mk n_Kind n_N n_Min [(qc.mk n_Set0_School n_Set0_Code)] [])).N ((qb.mk n_Kind n_N n_Min [(qc.mk n_Set0_School n_Set0_Code)] [])).Min ((qb.mk n_Kind n_N n_Min [(qc.mk n_Set0_School n_Set0_Code)] [])).Set ((qb.mk n_Kind n_N n_Min [(qc.mk n_Set0_School n_Set0_Code)] [])).L ((qd.mk s_Worst s_Best s_Pass)).Worst ((qd.mk s_Worst s_Best s_Pass)).Best ((qd.mk s_Worst s_Best s_Pass)).Pass ((qa.mk (qc.mk a_Course_School a_Course_Code) a_Credits a_Grade a_Day [] a_Bundle [])).Course.School ((qa.mk (qc.mk a_Course_School a_Course_Code) a_Credits a_Grade a_Day [] a_Bundle [])).Course.Code ((qa.mk (qc.mk a_Course_School a_Course_Code) a_Credits a_Grade a_Day [] a_Bundle [])).Credits ((qa.mk (qc.mk a_Course_School a_Course_Code) a_Credits a_Grade a_Day [] a_Bundle [])).Grade ((qa.mk (qc.mk a_Course_School a_Course_Code) a_Credits a_Grade a_Day [] a_Bundle [])).Day ((qa.mk (qc.mk a_Course_School a_Course_Code) a_Credits a_Grade a_Day [] a_Bundle [])).Sources ((qa.mk (qc.mk a_Course_School a_Course_Code) a_Credits a_Grade a_Day [] a_Bundle [])).Bundle ((qa.mk (qc.mk a_Course_School a_Course_Code) a_Credits a_Grade a_Day [] a_Bundle [])).Path
  first
    | exact h
    | (simp only [rL, dL, bR, bZ, Nat.reduceAdd] at h; exact h)
noncomputable def JW (fu : Nat) (n : qb) (s : qd) (a : qa) : Option Bool :=
  if zI n = Bool.true then Option.bind (zf fu n.Set a.Course) fun (a2 : Bool) =>
    if a2 = Bool.true then Option.bind (q0P fu s a.Grade n.Min) fun (e0 : Bool) =>
      some e0
    else some Bool.false
  else some Bool.false
theorem q1P (fu : Nat) (n : qb) (s : qd) (a : qa) : qk (JW fu n s a) (QC n s a) := by
  unfold JW QC
  repeat (first
    | with_reducible exact qk.refl _
    | with_reducible exact qk.none _
    | with_reducible apply Zm
    | with_reducible apply q5f
    | with_reducible refine qk.bind ?_ (fun _ => ?_)
    | with_reducible refine qk.ite ?_ ?_
    | with_reducible refine qk.sum (fun _ => ?_) (fun _ => ?_)
    | with_reducible refine qk.lim (fun _ => ?_))
noncomputable def Qd (b0 : Int) (n : qb) (s : qd) (b3 : ql) (t13 : List qa) (t14 : Int) : (ql × Int) → Option ((ql × Int) ⊕ ql)
  | (out, t15) =>
    if t15 < t14 then if 0 ≤ t15 ∧ t15 < ((t13.length : Nat) : Int) then Option.bind t13[Int.toNat t15]? fun (a : qa) =>
        Option.bind (QY t15 b0) fun (a2 : Bool) =>
        if a2 = Bool.true then if out.fine = Bool.true then Option.bind (QC n s a) fun (a3 : Bool) =>
            some (Sum.inl (ql.mk (w64 (out.many + 1)) (w64 (out.credits + a.Credits)) a3, w64 (t15 + 1)))
          else some (Sum.inl (ql.mk (w64 (out.many + 1)) (w64 (out.credits + a.Credits)) Bool.false, w64 (t15 + 1)))
        else some (Sum.inl (out, w64 (t15 + 1)))
      else none
    else some (Sum.inr out)
theorem q6t : ∀ (b0 n_Kind n_N n_Min : Int) (n_Set : List qc) (n_L : List qb) (s_Worst s_Best s_Pass b3_many b3_credits : Int) (b3_fine : Bool) (out_many out_credits : Int) (out_fine : Bool) (t13 : List qa) (t14 t15 : Int), XL2 evo 32 1 3 ⟨[(3, R.c (C.fn 46 [] [dP 0])), (4, rP 1), (5, rP 2), (8, rP 3), (9, rP 4), (13, rL 8 qf t13), (14, rI t14), (15, rI t15)], [(0, B.blk 3 [dI b0]), (1, B.blk 31 [dI n_Kind, dI n_N, dI n_Min, dL 2 qe n_Set, dL 5 qg n_L]), (2, B.blk 37 [dI s_Worst, dI s_Best, dI s_Pass]), (3, B.blk 70 [dI b3_many, dI b3_credits, dB b3_fine]), (4, B.blk 70 [dI out_many, dI out_credits, dB out_fine])], 5, 44⟩ = (qN (Qd b0 (qb.mk n_Kind n_N n_Min n_Set n_L) (qd.mk s_Worst s_Best s_Pass) (ql.mk b3_many b3_credits b3_fine) t13 t14) ((ql.mk out_many out_credits out_fine), t15)).bind (fun (e : ql) => some (Go.Exit.exit 0, ⟨[(8, rP 1), (9, rP 2)], [(0, B.blk 3 [dI b0]), (1, B.blk 70 [dI b3_many, dI b3_credits, dB b3_fine]), (2, B.blk 70 [dI e.many, dI e.credits, dB e.fine])], 3, 44⟩)) :=
  fun b0 n_Kind n_N n_Min n_Set n_L s_Worst s_Best s_Pass b3_many b3_credits b3_fine out_many out_credits out_fine t13 t14 t15 => by
    have h := q1e (E := evo) (f := 32) (k := 1) (st := fun x : ql × Int => (⟨[(3, R.c (C.fn 46 [] [dP 0])), (4, rP 1), (5, rP 2), (8, rP 3), (9, rP 4), (13, rL 8 qf t13), (14, rI t14), (15, rI x.2)], [(0, B.blk 3 [dI b0]), (1, B.blk 31 [dI n_Kind, dI n_N, dI n_Min, dL 2 qe n_Set, dL 5 qg n_L]), (2, B.blk 37 [dI s_Worst, dI s_Best, dI s_Pass]), (3, B.blk 70 [dI b3_many, dI b3_credits, dB b3_fine]), (4, B.blk 70 [dI x.1.many, dI x.1.credits, dB x.1.fine])], 5, 44⟩ : S)) (ex := fun (e : ql) => (Go.Exit.exit 0, ⟨[(8, rP 1), (9, rP 2)], [(0, B.blk 3 [dI b0]), (1, B.blk 70 [dI b3_many, dI b3_credits, dB b3_fine]), (2, B.blk 70 [dI e.many, dI e.credits, dB e.fine])], 3, 44⟩)) (step := (Qd b0 (qb.mk n_Kind n_N n_Min n_Set n_L) (qd.mk s_Worst s_Best s_Pass) (ql.mk b3_many b3_credits b3_fine) t13 t14)) qjo qj0 (fun e h => by cases h) (fun x => by
      obtain ⟨out, t15⟩ := x; have := qph; have := @qbM.eq_1; have := @q4S; have := @q2c; have := @Qd.eq_1; exact gA) ((ql.mk out_many out_credits out_fine), t15)
    exact h
noncomputable def q1f (fu : Nat) (b0 : Int) (n : qb) (s : qd) (b3 : ql) (t13 : List qa) (t14 : Int) : (ql × Int) → Option ((ql × Int) ⊕ ql)
  | (out, t15) =>
    if t15 < t14 then if 0 ≤ t15 ∧ t15 < ((t13.length : Nat) : Int) then Option.bind t13[Int.toNat t15]? fun (a : qa) =>
        Option.bind (QY t15 b0) fun (a2 : Bool) =>
        if a2 = Bool.true then if out.fine = Bool.true then Option.bind (JW fu n s a) fun (a3 : Bool) =>
            some (Sum.inl (ql.mk (w64 (out.many + 1)) (w64 (out.credits + a.Credits)) a3, w64 (t15 + 1)))
          else some (Sum.inl (ql.mk (w64 (out.many + 1)) (w64 (out.credits + a.Credits)) Bool.false, w64 (t15 + 1)))
        else some (Sum.inl (out, w64 (t15 + 1)))
      else none
    else some (Sum.inr out)
theorem q6s (fu : Nat) (b0 : Int) (n : qb) (s : qd) (b3 : ql) (t13 : List qa) (t14 : Int) : ∀ x, qk (q1f fu b0 n s b3 t13 t14 x) (Qd b0 n s b3 t13 t14 x) := by
  rintro ⟨out, t15⟩
  unfold q1f Qd
  try dsimp only
  repeat (first
    | with_reducible exact qk.refl _
    | with_reducible exact qk.none _
    | with_reducible apply q1P
    | with_reducible refine qk.bind ?_ (fun _ => ?_)
    | with_reducible refine qk.ite ?_ ?_
    | with_reducible refine qk.sum (fun _ => ?_) (fun _ => ?_)
    | with_reducible refine qk.lim (fun _ => ?_))
noncomputable def QN (n : qb) (s : qd) (l : List qa) (b0 : Int) : Option ql :=
  Option.bind (qN (Qd b0 n s (ql.mk 0 0 Bool.false) l ((l.length : Nat) : Int)) (ql.mk 0 0 Bool.true, 0)) fun (a : ql) =>
  some a
theorem q0b : ∀ (n_Kind n_N n_Min : Int) (n_Set : List qc) (n_L : List qb) (s_Worst s_Best s_Pass : Int) (l : List qa) (b0 : Int), ev 32 1 [R.agg [dI n_Kind, dI n_N, dI n_Min, dL 2 qe n_Set, dL 5 qg n_L], R.agg [dI s_Worst, dI s_Best, dI s_Pass], rL 8 qf l, R.c (C.fn 46 [] [dP 0])] [(0, B.blk 3 [dI b0])] = (QN (qb.mk n_Kind n_N n_Min n_Set n_L) (qd.mk s_Worst s_Best s_Pass) l b0).bind (fun (e : ql) => some (R.agg [dI e.many, dI e.credits, dB e.fine], [(0, B.blk 3 [dI b0])])) :=
  fun n_Kind n_N n_Min n_Set n_L s_Worst s_Best s_Pass l b0 => by
    rw [qz qo7 qrd.2.2.2 qqs]
    have := qph; have := @q6t; have := @QN.eq_1; exact gA
noncomputable def JY (fu : Nat) (n : qb) (s : qd) (l : List qa) (b0 : Int) : Option ql :=
  Option.bind (itT (q1f fu b0 n s (ql.mk 0 0 Bool.false) l ((l.length : Nat) : Int)) fu (ql.mk 0 0 Bool.true, 0)) fun (a : ql) =>
  some a
theorem q0c (fu : Nat) (n : qb) (s : qd) (l : List qa) (b0 : Int) : qk (JY fu n s l b0) (QN n s l b0) := by
  unfold JY QN
  repeat (first
    | with_reducible exact qk.refl _
    | with_reducible exact qk.none _
    | with_reducible apply q6s
    | with_reducible refine qk.bind ?_ (fun _ => ?_)
    | with_reducible refine qk.ite ?_ ?_
    | with_reducible refine qk.sum (fun _ => ?_) (fun _ => ?_)
    | with_reducible refine qk.lim (fun _ => ?_))
theorem qvm : okL 50 qgJ := qy (qi qqP) (by kernel_rfl) (by kernel_rfl)
def qvF := JA_ @qgJ.eq_1 (JA_ @Try.f50.eq_1 @qqP)
noncomputable def ZM (x : ql) (x1 : qb) : Option Bool :=
  if x.fine = Bool.true then some (x.many == 1)
  else some Bool.false
noncomputable def qG (x : ql) (x1 : qb) : Bool :=
  if x.fine = Bool.true then x.many == 1
  else Bool.false
theorem q2S (x : ql) (x1 : qb) : ZM x x1 = some (qG x x1) := by
  unfold ZM qG
  simp only [zY]
theorem ZV : ∀ (x_many x_credits : Int) (x_fine : Bool) (x1_Kind x1_N x1_Min : Int) (x1_Set : List qc) (x1_L : List qb), ev 50 0 [R.agg [dI x_many, dI x_credits, dB x_fine], R.agg [dI x1_Kind, dI x1_N, dI x1_Min, dL 2 qe x1_Set, dL 5 qg x1_L]] [] = some (rB (qG (ql.mk x_many x_credits x_fine) (qb.mk x1_Kind x1_N x1_Min x1_Set x1_L)), []) :=
  fun x_many x_credits x_fine x1_Kind x1_N x1_Min x1_Set x1_L => by
    have h : ev 50 0 [R.agg [dI x_many, dI x_credits, dB x_fine], R.agg [dI x1_Kind, dI x1_N, dI x1_Min, dL 2 qe x1_Set, dL 5 qg x1_L]] [] = (ZM (ql.mk x_many x_credits x_fine) (qb.mk x1_Kind x1_N x1_Min x1_Set x1_L)).bind (fun (e : Bool) => some (rB e, [])) := by
      rw [qz qqP qt1.2.2.2 qvm]
      have := qvF; have := @ZM.eq_1; exact gA
    rw [q2S] at h
    exact h
theorem qv6 : okL 51 qdG := qy (qi qrz) (by kernel_rfl) (by kernel_rfl)
def qtF := JA_ @qdG.eq_1 (JA_ @Try.f51.eq_1 @qrz)
noncomputable def q07 (x : ql) (n : qb) : Option Bool :=
  if x.fine = Bool.true then if 0 < x.many then some (decide (n.N ≤ x.credits))
    else some Bool.false
  else some Bool.false
noncomputable def qW (x : ql) (n : qb) : Bool :=
  if x.fine = Bool.true then if 0 < x.many then decide (n.N ≤ x.credits)
    else Bool.false
  else Bool.false
theorem q50 (x : ql) (n : qb) : q07 x n = some (qW x n) := by
  unfold q07 qW
  simp only [zY]
theorem q02 : ∀ (x_many x_credits : Int) (x_fine : Bool) (n_Kind n_N n_Min : Int) (n_Set : List qc) (n_L : List qb), ev 51 0 [R.agg [dI x_many, dI x_credits, dB x_fine], R.agg [dI n_Kind, dI n_N, dI n_Min, dL 2 qe n_Set, dL 5 qg n_L]] [] = some (rB (qW (ql.mk x_many x_credits x_fine) (qb.mk n_Kind n_N n_Min n_Set n_L)), []) :=
  fun x_many x_credits x_fine n_Kind n_N n_Min n_Set n_L => by
    have h : ev 51 0 [R.agg [dI x_many, dI x_credits, dB x_fine], R.agg [dI n_Kind, dI n_N, dI n_Min, dL 2 qe n_Set, dL 5 qg n_L]] [] = (q07 (ql.mk x_many x_credits x_fine) (qb.mk n_Kind n_N n_Min n_Set n_L)).bind (fun (e : Bool) => some (rB e, [])) := by
      rw [qz qrz qt8.2.2.2 qv6]
      have := qtF; have := @q07.eq_1; exact gA
    rw [q50] at h
    exact h
noncomputable def qx (x : (qb × List qa × Int × qd)) : List R × List (Nat × B) := ([R.agg [C.d (D.int .i64 x.1.Kind), C.d (D.int .i64 x.1.N), C.d (D.int .i64 x.1.Min), C.d (D.sl 2 x.1.Set.length (x.1.Set.flatMap qe)), C.d (D.sl 5 x.1.L.length (x.1.L.flatMap qg))], R.c (C.ptr 0 0), R.c (C.ptr 1 0), R.c (C.ptr 2 0), R.c (C.ptr 3 0), R.c (C.ptr 4 0), R.c (C.ptr 5 0)], [(0, B.blk 32 [C.d (D.sl 8 x.2.1.length (x.2.1.flatMap qf))]), (1, B.blk 62 [C.fn 22 [] []]), (2, B.blk 3 [C.d (D.int .i64 x.2.2.1)]), (3, B.blk 37 [C.d (D.int .i64 x.2.2.2.Worst), C.d (D.int .i64 x.2.2.2.Best), C.d (D.int .i64 x.2.2.2.Pass)]), (4, B.blk 94 [C.fn 45 [] [C.ptr 0 0, C.ptr 1 0, C.ptr 2 0, C.ptr 3 0, C.ptr 4 0, C.ptr 5 0]]), (5, B.blk 62 [C.fn 23 [] []])])
noncomputable def qP : (List Bool × List qa × Int × qd) → R × List (Nat × B) := fun (e : List Bool × List qa × Int × qd) => (R.c (C.d (D.sl 1 e.1.length (e.1.flatMap eB))), [(0, B.blk 32 [C.d (D.sl 8 e.2.1.length (e.2.1.flatMap qf))]), (1, B.blk 62 [C.fn 22 [] []]), (2, B.blk 3 [C.d (D.int .i64 e.2.2.1)]), (3, B.blk 37 [C.d (D.int .i64 e.2.2.2.Worst), C.d (D.int .i64 e.2.2.2.Best), C.d (D.int .i64 e.2.2.2.Pass)]), (4, B.blk 94 [C.fn 45 [] [C.ptr 0 0, C.ptr 1 0, C.ptr 2 0, C.ptr 3 0, C.ptr 4 0, C.ptr 5 0]]), (5, B.blk 62 [C.fn 23 [] []])])
noncomputable def zt (rF : (qb × List qa × Int × qd) → Option (List Bool × List qa × Int × qd)) (b0 : List qa) (b2 : Int) (b3 : qd) (b6 : qb) : (List Bool × Int) → Option ((List Bool × Int) ⊕ (List Bool))
  | (w7, b8) =>
    if b8 < ((w7.length : Nat) : Int) then Option.bind (QN b6 b3 b0 b8) fun (a2 : ql) =>
      if 0 ≤ b8 ∧ b8 < ((w7.length : Nat) : Int) then if Int.toNat b8 + 1 ≤ w7.length then some (Sum.inl (List.set w7 (Int.toNat b8) (qG a2 b6), w64 (b8 + 1)))
        else none
      else none
    else some (Sum.inr w7)
theorem q3t (rE : Orc) (rF : (qb × List qa × Int × qd) → Option (List Bool × List qa × Int × qd)) (hF : ∀ y, rE (.fn 45) 6 (qx y).1 (qx y).2 = (rF y).bind fun e => some (qP e)) (hM : ∀ g k a G, g ≠ 45 → rE (.fn g) k a G = ev g k a G) (hR : ∀ g asg bd k a G, rE (.rd g asg bd) k a G = evr g asg bd k a G) : ∀ (w7 : List Bool) (b0 : List qa) (b2 b3_Worst b3_Best b3_Pass b6_Kind b6_N b6_Min : Int) (b6_Set : List qc) (b6_L : List qb) (b8 : Int) (w7_len : Nat), w7_len = w7.length → XL2 rE 45 6 5 ⟨[(1, rP 0), (2, rP 1), (3, rP 2), (4, rP 3), (7, rP 6), (9, rO 7 1 w7_len), (10, R.c (C.fn 50 [] [])), (11, rP 8)], [(0, B.blk 32 [dL 8 qf b0]), (1, B.blk 62 [C.fn 22 [] []]), (2, B.blk 3 [dI b2]), (3, B.blk 37 [dI b3_Worst, dI b3_Best, dI b3_Pass]), (4, B.blk 94 [C.fn 45 [] [dP 0, dP 1, dP 2, dP 3, dP 4, dP 5]]), (5, B.blk 62 [C.fn 23 [] []]), (6, B.blk 31 [dI b6_Kind, dI b6_N, dI b6_Min, dL 2 qe b6_Set, dL 5 qg b6_L]), (7, bR 4 1 eB w7), (8, B.blk 3 [dI b8])], 9, 142⟩ = (qN (zt rF b0 b2 (qd.mk b3_Worst b3_Best b3_Pass) (qb.mk b6_Kind b6_N b6_Min b6_Set b6_L)) (w7, b8)).bind (fun (e : List Bool) => some (Go.Exit.exit 0, ⟨[(3, rP 2), (9, rO 6 1 e.length)], [(0, B.blk 32 [dL 8 qf b0]), (1, B.blk 62 [C.fn 22 [] []]), (2, B.blk 3 [dI b2]), (3, B.blk 37 [dI b3_Worst, dI b3_Best, dI b3_Pass]), (4, B.blk 94 [C.fn 45 [] [dP 0, dP 1, dP 2, dP 3, dP 4, dP 5]]), (5, B.blk 62 [C.fn 23 [] []]), (6, bR 4 1 eB e)], 7, 142⟩)) :=
  by
  intro w7 b0 b2 b3_Worst b3_Best b3_Pass b6_Kind b6_N b6_Min b6_Set b6_L b8 w7_len h0
  subst h0
  revert b8; revert w7; exact q8F qcy qbV (fun e => by exact ⟨_, rfl, fun h => by cases h⟩) fun w7 b8 => by
    have hF' : ∀ (x0_Kind x0_N x0_Min : Int) (x0_Set : List qc) (x0_L : List qb) (v : List qa) (v2 v3_Worst v3_Best v3_Pass : Int), rE (.fn 45) 6 [R.agg [dI x0_Kind, dI x0_N, dI x0_Min, dL 2 qe x0_Set, dL 5 qg x0_L], rP 0, rP 1, rP 2, rP 3, rP 4, rP 5] [(0, B.blk 32 [dL 8 qf v]), (1, B.blk 62 [C.fn 22 [] []]), (2, B.blk 3 [dI v2]), (3, B.blk 37 [dI v3_Worst, dI v3_Best, dI v3_Pass]), (4, B.blk 94 [C.fn 45 [] [dP 0, dP 1, dP 2, dP 3, dP 4, dP 5]]), (5, B.blk 62 [C.fn 23 [] []])] = (rF ((qb.mk x0_Kind x0_N x0_Min x0_Set x0_L), v, v2, (qd.mk v3_Worst v3_Best v3_Pass))).bind (fun e => some (rL 1 eB e.1, [(0, B.blk 32 [dL 8 qf e.2.1]), (1, B.blk 62 [C.fn 22 [] []]), (2, B.blk 3 [dI e.2.2.1]), (3, B.blk 37 [dI e.2.2.2.Worst, dI e.2.2.2.Best, dI e.2.2.2.Pass]), (4, B.blk 94 [C.fn 45 [] [dP 0, dP 1, dP 2, dP 3, dP 4, dP 5]]), (5, B.blk 62 [C.fn 23 [] []])])) := fun x0_Kind x0_N x0_Min x0_Set x0_L v v2 v3_Worst v3_Best v3_Pass => hF ((qb.mk x0_Kind x0_N x0_Min x0_Set x0_L), v, v2, (qd.mk v3_Worst v3_Best v3_Pass))
    have := qcD; have := @q94.eq_1; have := @q3D; have := @q0b; have := @ZV; have := @zt.eq_1; exact gA
noncomputable def JF (fu : Nat) (rF : (qb × List qa × Int × qd) → Option (List Bool × List qa × Int × qd)) (b0 : List qa) (b2 : Int) (b3 : qd) (b6 : qb) : (List Bool × Int) → Option ((List Bool × Int) ⊕ (List Bool))
  | (w7, b8) =>
    if b8 < ((w7.length : Nat) : Int) then Option.bind (JY fu b6 b3 b0 b8) fun (a2 : ql) =>
      if 0 ≤ b8 ∧ b8 < ((w7.length : Nat) : Int) then if Int.toNat b8 + 1 ≤ w7.length then some (Sum.inl (List.set w7 (Int.toNat b8) (qG a2 b6), w64 (b8 + 1)))
        else none
      else none
    else some (Sum.inr w7)
theorem q3F (fu : Nat) (rF rF2 : (qb × List qa × Int × qd) → Option (List Bool × List qa × Int × qd)) (hF : ∀ y, qk (rF y) (rF2 y)) (b0 : List qa) (b2 : Int) (b3 : qd) (b6 : qb) : ∀ x, qk (JF fu rF b0 b2 b3 b6 x) (zt rF2 b0 b2 b3 b6 x) := by
  rintro ⟨w7, b8⟩
  unfold JF zt
  try dsimp only
  repeat (first
    | with_reducible exact qk.refl _
    | with_reducible exact qk.none _
    | exact hF _
    | with_reducible apply q0c
    | with_reducible refine qk.bind ?_ (fun _ => ?_)
    | with_reducible refine qk.ite ?_ ?_
    | with_reducible refine qk.sum (fun _ => ?_) (fun _ => ?_)
    | with_reducible refine qk.lim (fun _ => ?_))
noncomputable def zr (rF : (qb × List qa × Int × qd) → Option (List Bool × List qa × Int × qd)) (b0 : List qa) (b2 : Int) (b3 : qd) (b6 : qb) : (List Bool × Int) → Option ((List Bool × Int) ⊕ (List Bool))
  | (w7, b8) =>
    if b8 < ((w7.length : Nat) : Int) then Option.bind (QN b6 b3 b0 b8) fun (a2 : ql) =>
      if 0 ≤ b8 ∧ b8 < ((w7.length : Nat) : Int) then if Int.toNat b8 + 1 ≤ w7.length then some (Sum.inl (List.set w7 (Int.toNat b8) (qW a2 b6), w64 (b8 + 1)))
        else none
      else none
    else some (Sum.inr w7)
theorem q33 (rE : Orc) (rF : (qb × List qa × Int × qd) → Option (List Bool × List qa × Int × qd)) (hF : ∀ y, rE (.fn 45) 6 (qx y).1 (qx y).2 = (rF y).bind fun e => some (qP e)) (hM : ∀ g k a G, g ≠ 45 → rE (.fn g) k a G = ev g k a G) (hR : ∀ g asg bd k a G, rE (.rd g asg bd) k a G = evr g asg bd k a G) : ∀ (w7 : List Bool) (b0 : List qa) (b2 b3_Worst b3_Best b3_Pass b6_Kind b6_N b6_Min : Int) (b6_Set : List qc) (b6_L : List qb) (b8 : Int) (w7_len : Nat), w7_len = w7.length → XL2 rE 45 6 5 ⟨[(1, rP 0), (2, rP 1), (3, rP 2), (4, rP 3), (7, rP 6), (9, rO 7 1 w7_len), (10, R.c (C.fn 51 [] [])), (11, rP 8)], [(0, B.blk 32 [dL 8 qf b0]), (1, B.blk 62 [C.fn 22 [] []]), (2, B.blk 3 [dI b2]), (3, B.blk 37 [dI b3_Worst, dI b3_Best, dI b3_Pass]), (4, B.blk 94 [C.fn 45 [] [dP 0, dP 1, dP 2, dP 3, dP 4, dP 5]]), (5, B.blk 62 [C.fn 23 [] []]), (6, B.blk 31 [dI b6_Kind, dI b6_N, dI b6_Min, dL 2 qe b6_Set, dL 5 qg b6_L]), (7, bR 4 1 eB w7), (8, B.blk 3 [dI b8])], 9, 142⟩ = (qN (zr rF b0 b2 (qd.mk b3_Worst b3_Best b3_Pass) (qb.mk b6_Kind b6_N b6_Min b6_Set b6_L)) (w7, b8)).bind (fun (e : List Bool) => some (Go.Exit.exit 0, ⟨[(3, rP 2), (9, rO 6 1 e.length)], [(0, B.blk 32 [dL 8 qf b0]), (1, B.blk 62 [C.fn 22 [] []]), (2, B.blk 3 [dI b2]), (3, B.blk 37 [dI b3_Worst, dI b3_Best, dI b3_Pass]), (4, B.blk 94 [C.fn 45 [] [dP 0, dP 1, dP 2, dP 3, dP 4, dP 5]]), (5, B.blk 62 [C.fn 23 [] []]), (6, bR 4 1 eB e)], 7, 142⟩)) :=
  by
  intro w7 b0 b2 b3_Worst b3_Best b3_Pass b6_Kind b6_N b6_Min b6_Set b6_L b8 w7_len h0
  subst h0
  revert b8; revert w7; exact q8F qcy qbV (fun e => by exact ⟨_, rfl, fun h => by cases h⟩) fun w7 b8 => by
    have hF' : ∀ (x0_Kind x0_N x0_Min : Int) (x0_Set : List qc) (x0_L : List qb) (v : List qa) (v2 v3_Worst v3_Best v3_Pass : Int), rE (.fn 45) 6 [R.agg [dI x0_Kind, dI x0_N, dI x0_Min, dL 2 qe x0_Set, dL 5 qg x0_L], rP 0, rP 1, rP 2, rP 3, rP 4, rP 5] [(0, B.blk 32 [dL 8 qf v]), (1, B.blk 62 [C.fn 22 [] []]), (2, B.blk 3 [dI v2]), (3, B.blk 37 [dI v3_Worst, dI v3_Best, dI v3_Pass]), (4, B.blk 94 [C.fn 45 [] [dP 0, dP 1, dP 2, dP 3, dP 4, dP 5]]), (5, B.blk 62 [C.fn 23 [] []])] = (rF ((qb.mk x0_Kind x0_N x0_Min x0_Set x0_L), v, v2, (qd.mk v3_Worst v3_Best v3_Pass))).bind (fun e => some (rL 1 eB e.1, [(0, B.blk 32 [dL 8 qf e.2.1]), (1, B.blk 62 [C.fn 22 [] []]), (2, B.blk 3 [dI e.2.2.1]), (3, B.blk 37 [dI e.2.2.2.Worst, dI e.2.2.2.Best, dI e.2.2.2.Pass]), (4, B.blk 94 [C.fn 45 [] [dP 0, dP 1, dP 2, dP 3, dP 4, dP 5]]), (5, B.blk 62 [C.fn 23 [] []])])) := fun x0_Kind x0_N x0_Min x0_Set x0_L v v2 v3_Worst v3_Best v3_Pass => hF ((qb.mk x0_Kind x0_N x0_Min x0_Set x0_L), v, v2, (qd.mk v3_Worst v3_Best v3_Pass))
    have := qcD; have := @q94.eq_1; have := @q3D; have := @q0b; have := @q02; have := @zr.eq_1; exact gA
noncomputable def JI (fu : Nat) (rF : (qb × List qa × Int × qd) → Option (List Bool × List qa × Int × qd)) (b0 : List qa) (b2 : Int) (b3 : qd) (b6 : qb) : (List Bool × Int) → Option ((List Bool × Int) ⊕ (List Bool))
  | (w7, b8) =>
    if b8 < ((w7.length : Nat) : Int) then Option.bind (JY fu b6 b3 b0 b8) fun (a2 : ql) =>
      if 0 ≤ b8 ∧ b8 < ((w7.length : Nat) : Int) then if Int.toNat b8 + 1 ≤ w7.length then some (Sum.inl (List.set w7 (Int.toNat b8) (qW a2 b6), w64 (b8 + 1)))
        else none
      else none
    else some (Sum.inr w7)
theorem q3p (fu : Nat) (rF rF2 : (qb × List qa × Int × qd) → Option (List Bool × List qa × Int × qd)) (hF : ∀ y, qk (rF y) (rF2 y)) (b0 : List qa) (b2 : Int) (b3 : qd) (b6 : qb) : ∀ x, qk (JI fu rF b0 b2 b3 b6 x) (zr rF2 b0 b2 b3 b6 x) := by
  rintro ⟨w7, b8⟩
  unfold JI zr
  try dsimp only
  repeat (first
    | with_reducible exact qk.refl _
    | with_reducible exact qk.none _
    | exact hF _
    | with_reducible apply q0c
    | with_reducible refine qk.bind ?_ (fun _ => ?_)
    | with_reducible refine qk.ite ?_ ?_
    | with_reducible refine qk.sum (fun _ => ?_) (fun _ => ?_)
    | with_reducible refine qk.lim (fun _ => ?_))
noncomputable def qT (rF : (qb × List qa × Int × qd) → Option (List Bool × List qa × Int × qd)) (w7 : List Bool) (b0 : List qa) (b2 : Int) (b3 : qd) (b6 : qb) : (List Int × Int) → Option ((List Int × Int) ⊕ (List Int))
  | (w9, t13) =>
    if t13 < ((w9.length : Nat) : Int) then if 0 ≤ t13 ∧ t13 < ((w9.length : Nat) : Int) then if Int.toNat t13 + 1 ≤ w9.length then some (Sum.inl (List.set w9 (Int.toNat t13) (-1), w64 (t13 + 1)))
        else none
      else none
    else some (Sum.inr w9)
theorem q2K (rE : Orc) (rF : (qb × List qa × Int × qd) → Option (List Bool × List qa × Int × qd)) (hF : ∀ y, rE (.fn 45) 6 (qx y).1 (qx y).2 = (rF y).bind fun e => some (qP e)) (hM : ∀ g k a G, g ≠ 45 → rE (.fn g) k a G = ev g k a G) (hR : ∀ g asg bd k a G, rE (.rd g asg bd) k a G = evr g asg bd k a G) : ∀ (w7 : List Bool) (w9 : List Int) (b0 : List qa) (b2 b3_Worst b3_Best b3_Pass b6_Kind b6_N b6_Min : Int) (b6_Set : List qc) (b6_L : List qb) (t13 : Int) (w7_len w9_len : Nat), w7_len = w7.length → w9_len = w9.length → XL2 rE 45 6 14 ⟨[(3, rP 2), (5, rP 4), (6, rP 5), (7, rP 6), (9, rO 7 1 w7_len), (12, rP 8), (13, rI t13)], [(0, B.blk 32 [dL 8 qf b0]), (1, B.blk 62 [C.fn 22 [] []]), (2, B.blk 3 [dI b2]), (3, B.blk 37 [dI b3_Worst, dI b3_Best, dI b3_Pass]), (4, B.blk 94 [C.fn 45 [] [dP 0, dP 1, dP 2, dP 3, dP 4, dP 5]]), (5, B.blk 62 [C.fn 23 [] []]), (6, B.blk 31 [dI b6_Kind, dI b6_N, dI b6_Min, dL 2 qe b6_Set, dL 5 qg b6_L]), (7, bR 4 1 eB w7), (8, B.blk 95 [dO 9 1 w9_len]), (9, bR 3 1 eI w9)], 10, 142⟩ = (qN (qT rF w7 b0 b2 (qd.mk b3_Worst b3_Best b3_Pass) (qb.mk b6_Kind b6_N b6_Min b6_Set b6_L)) (w9, t13)).bind (fun (e : List Int) => some (Go.Exit.exit 2, ⟨[(3, rP 2), (5, rP 4), (6, rP 5), (7, rP 6), (9, rO 7 1 w7.length), (12, rP 8)], [(0, B.blk 32 [dL 8 qf b0]), (1, B.blk 62 [C.fn 22 [] []]), (2, B.blk 3 [dI b2]), (3, B.blk 37 [dI b3_Worst, dI b3_Best, dI b3_Pass]), (4, B.blk 94 [C.fn 45 [] [dP 0, dP 1, dP 2, dP 3, dP 4, dP 5]]), (5, B.blk 62 [C.fn 23 [] []]), (6, B.blk 31 [dI b6_Kind, dI b6_N, dI b6_Min, dL 2 qe b6_Set, dL 5 qg b6_L]), (7, bR 4 1 eB w7), (8, B.blk 95 [dO 9 1 e.length]), (9, bR 3 1 eI e)], 10, 142⟩)) :=
  by
  intro w7 w9 b0 b2 b3_Worst b3_Best b3_Pass b6_Kind b6_N b6_Min b6_Set b6_L t13 w7_len w9_len h0 h1
  subst h0 h1
  revert t13; revert w9; exact q8F qdY qga (fun e => by exact ⟨_, rfl, fun h => by cases h⟩) fun w9 t13 => by
    have hF' : ∀ (x0_Kind x0_N x0_Min : Int) (x0_Set : List qc) (x0_L : List qb) (v : List qa) (v2 v3_Worst v3_Best v3_Pass : Int), rE (.fn 45) 6 [R.agg [dI x0_Kind, dI x0_N, dI x0_Min, dL 2 qe x0_Set, dL 5 qg x0_L], rP 0, rP 1, rP 2, rP 3, rP 4, rP 5] [(0, B.blk 32 [dL 8 qf v]), (1, B.blk 62 [C.fn 22 [] []]), (2, B.blk 3 [dI v2]), (3, B.blk 37 [dI v3_Worst, dI v3_Best, dI v3_Pass]), (4, B.blk 94 [C.fn 45 [] [dP 0, dP 1, dP 2, dP 3, dP 4, dP 5]]), (5, B.blk 62 [C.fn 23 [] []])] = (rF ((qb.mk x0_Kind x0_N x0_Min x0_Set x0_L), v, v2, (qd.mk v3_Worst v3_Best v3_Pass))).bind (fun e => some (rL 1 eB e.1, [(0, B.blk 32 [dL 8 qf e.2.1]), (1, B.blk 62 [C.fn 22 [] []]), (2, B.blk 3 [dI e.2.2.1]), (3, B.blk 37 [dI e.2.2.2.Worst, dI e.2.2.2.Best, dI e.2.2.2.Pass]), (4, B.blk 94 [C.fn 45 [] [dP 0, dP 1, dP 2, dP 3, dP 4, dP 5]]), (5, B.blk 62 [C.fn 23 [] []])])) := fun x0_Kind x0_N x0_Min x0_Set x0_L v v2 v3_Worst v3_Best v3_Pass => hF ((qb.mk x0_Kind x0_N x0_Min x0_Set x0_L), v, v2, (qd.mk v3_Worst v3_Best v3_Pass))
    have := qcD; have := @q9m.eq_1; have := @qT.eq_1; exact gA
noncomputable def Jf (fu : Nat) (rF : (qb × List qa × Int × qd) → Option (List Bool × List qa × Int × qd)) (w7 : List Bool) (b0 : List qa) (b2 : Int) (b3 : qd) (b6 : qb) : (List Int × Int) → Option ((List Int × Int) ⊕ (List Int))
  | (w9, t13) =>
    if t13 < ((w9.length : Nat) : Int) then if 0 ≤ t13 ∧ t13 < ((w9.length : Nat) : Int) then if Int.toNat t13 + 1 ≤ w9.length then some (Sum.inl (List.set w9 (Int.toNat t13) (-1), w64 (t13 + 1)))
        else none
      else none
    else some (Sum.inr w9)
theorem q2u (fu : Nat) (rF rF2 : (qb × List qa × Int × qd) → Option (List Bool × List qa × Int × qd)) (hF : ∀ y, qk (rF y) (rF2 y)) (w7 : List Bool) (b0 : List qa) (b2 : Int) (b3 : qd) (b6 : qb) : ∀ x, qk (Jf fu rF w7 b0 b2 b3 b6 x) (qT rF2 w7 b0 b2 b3 b6 x) := by
  rintro ⟨w9, t13⟩
  unfold Jf qT
  try dsimp only
  repeat (first
    | with_reducible exact qk.refl _
    | with_reducible exact qk.none _
    | exact hF _
    | with_reducible refine qk.bind ?_ (fun _ => ?_)
    | with_reducible refine qk.ite ?_ ?_
    | with_reducible refine qk.sum (fun _ => ?_) (fun _ => ?_)
    | with_reducible refine qk.lim (fun _ => ?_))
theorem qvh : okL 23 qdO := qy (qi qqv) (by kernel_rfl) (by kernel_rfl)
def qvf := JA_ @qdO.eq_1 (JA_ @Try.f23.eq_1 @qqv)
noncomputable def q1b (x0 : Int) (x1 : Int) : Option Unit :=
  some ()
noncomputable def q4f (x0 : Int) (x1 : Int) : Unit :=
  ()
theorem q7a (x0 x1 : Int) : q1b x0 x1 = some (q4f x0 x1) := by
  unfold q1b q4f
  simp only [zY]
theorem q7W : ∀ (x0 x1 : Int), ev 23 0 [rI x0, rI x1] [] = some (rB Bool.false, []) :=
  fun x0 x1 => by
    have h : ev 23 0 [rI x0, rI x1] [] = (q1b x0 x1).bind (fun (e : Unit) => some (rB Bool.false, [])) := by
      rw [qz qqv qsA.2.2.2 qvh]
      have := qvf; have := @q1b.eq_1; exact gA
    rw [q7a] at h
    exact h
theorem qrP : okL 47 qbY := qy (qi qpz) (by kernel_rfl) (by kernel_rfl)
def qsu := JA_ @qbY.eq_1 (JA_ @Try.f47.eq_1 @qpz)
theorem qoN : lbO 47 1 = qe4 := Q8 (qi qpz) rfl
theorem qoz : okL 47 qe4 := zc qrP (List.mem_of_getElem? (i := 0) (by kernel_rfl))
theorem qvw : okL 48 qgp := qy (qi qrt) (by kernel_rfl) (by kernel_rfl)
def quY := JA_ @qgp.eq_1 (JA_ @Try.f48.eq_1 @qrt)
noncomputable def ZH (sub : Int) (rest : Int) (w4 : List Int) (w5 : List Int) (v : List Bool) (v2 : Int) : Option (List Int) :=
  if 0 ≤ sub ∧ sub < ((v.length : Nat) : Int) then Option.bind v[Int.toNat sub]? fun (a : Bool) =>
    if a = Bool.true then if 0 ≤ rest ∧ rest < ((w4.length : Nat) : Int) then Option.bind w4[Int.toNat rest]? fun (a2 : Int) =>
        if 0 ≤ a2 then if 0 ≤ v2 ∧ v2 < ((w5.length : Nat) : Int) then Option.bind w5[Int.toNat v2]? fun (a3 : Int) =>
            if 0 ≤ rest ∧ rest < ((w4.length : Nat) : Int) then Option.bind w4[Int.toNat rest]? fun (a4 : Int) =>
              if 0 ≤ v2 ∧ v2 < ((w5.length : Nat) : Int) then if Int.toNat v2 + 1 ≤ w5.length then some (List.set w5 (Int.toNat v2) (max a3 (w64 (a4 + 1))))
                else none
              else none
            else none
          else none
        else some w5
      else none
    else some w5
  else none
theorem q5h : ∀ (sub rest : Int) (w4 w5 : List Int) (v : List Bool) (v2 : Int) (w4_len w5_len : Nat), w4_len = w4.length → w5_len = w5.length → ev 48 4 [rI sub, rI rest, rP 0, rP 1, rP 2, rP 3] [(0, B.blk 63 [dL 1 eB v]), (1, B.blk 95 [dO 4 1 w4_len]), (2, B.blk 95 [dO 5 1 w5_len]), (3, B.blk 3 [dI v2]), (4, bR 3 1 eI w4), (5, bR 3 1 eI w5)] = (ZH sub rest w4 w5 v v2).bind (fun (e : List Int) => some (R.tup [], [(0, B.blk 63 [dL 1 eB v]), (1, B.blk 95 [dO 4 1 w4.length]), (2, B.blk 95 [dO 5 1 e.length]), (3, B.blk 3 [dI v2]), (4, bR 3 1 eI w4), (5, bR 3 1 eI e)])) :=
  by
  intro sub rest w4 w5 v v2 w4_len w5_len h0 h1
  subst h0 h1
  rw [qz qrt qsH.2.2.2 qvw]
  have := quY; have := @ZH.eq_1; exact gA
noncomputable def qD (w4 : List Int) (b0 : List Bool) (b3 : Int) (set0 : Int) : (List Int × Int) → Option ((List Int × Int) ⊕ (List Int))
  | (w5, sub) =>
    if 0 < sub then Option.bind (ZH sub (J0 Go.BinOp.andNot Go.IntKind.i64 set0 sub) w4 w5 b0 b3) fun (a : List Int) =>
      some (Sum.inl (a, J0 Go.BinOp.and Go.IntKind.i64 (w64 (sub - 1)) set0))
    else some (Sum.inr w5)
theorem q0X : ∀ (w4 w5 : List Int) (b0 : List Bool) (b3 set0 sub : Int) (w4_len w5_len : Nat), w4_len = w4.length → w5_len = w5.length → XL2 evo 47 4 1 ⟨[(1, rI set0), (2, R.c (C.fn 48 [] [dP 0, dP 1, dP 2, dP 3])), (6, rI sub)], [(0, B.blk 63 [dL 1 eB b0]), (1, B.blk 95 [dO 4 1 w4_len]), (2, B.blk 95 [dO 5 1 w5_len]), (3, B.blk 3 [dI b3]), (4, bR 3 1 eI w4), (5, bR 3 1 eI w5)], 6, 20⟩ = (qN (qD w4 b0 b3 set0) (w5, sub)).bind (fun (e : List Int) => some (Go.Exit.exit 0, ⟨[], [(0, B.blk 63 [dL 1 eB b0]), (1, B.blk 95 [dO 4 1 w4.length]), (2, B.blk 95 [dO 5 1 e.length]), (3, B.blk 3 [dI b3]), (4, bR 3 1 eI w4), (5, bR 3 1 eI e)], 6, 20⟩)) :=
  by
  intro w4 w5 b0 b3 set0 sub w4_len w5_len h0 h1
  subst h0 h1
  revert sub; revert w5; exact q8F qoN qoz (fun e => by exact ⟨_, rfl, fun h => by cases h⟩) fun w5 sub => by
    have := qsu; have := @qe4.eq_1; have := @q5h; have := @qD.eq_1; exact gA
noncomputable def qJ (set0 : Int) (t : List Int) (w5 : List Int) (b0 : List Bool) (b3 : Int) : Option (List Int) :=
  Option.bind (qN (qD t b0 b3 set0) (w5, set0)) fun (a : List Int) =>
  some a
theorem Jo : ∀ (set0 : Int) (t w5 : List Int) (b0 : List Bool) (b3 : Int) (t_len w5_len : Nat), t_len = t.length → w5_len = w5.length → ev 47 4 [rO 4 1 t_len, rI set0, R.c (C.fn 48 [] [dP 0, dP 1, dP 2, dP 3])] [(0, B.blk 63 [dL 1 eB b0]), (1, B.blk 95 [dO 4 1 t_len]), (2, B.blk 95 [dO 5 1 w5_len]), (3, B.blk 3 [dI b3]), (4, bR 3 1 eI t), (5, bR 3 1 eI w5)] = (qJ set0 t w5 b0 b3).bind (fun (e : List Int) => some (R.tup [], [(0, B.blk 63 [dL 1 eB b0]), (1, B.blk 95 [dO 4 1 t.length]), (2, B.blk 95 [dO 5 1 e.length]), (3, B.blk 3 [dI b3]), (4, bR 3 1 eI t), (5, bR 3 1 eI e)])) :=
  by
  intro set0 t w5 b0 b3 t_len w5_len h0 h1
  subst h0 h1
  rw [qz qpz qsb.2.2.2 qrP]
  have := qsu; have := @q0X; have := @qJ.eq_1; exact gA
noncomputable def zO (fu : Nat) (set0 : Int) (t : List Int) (w5 : List Int) (b0 : List Bool) (b3 : Int) : Option (List Int) :=
  Option.bind (itT (qD t b0 b3 set0) fu (w5, set0)) fun (a : List Int) =>
  some a
theorem JC (fu : Nat) (set0 : Int) (t w5 : List Int) (b0 : List Bool) (b3 : Int) : qk (zO fu set0 t w5 b0 b3) (qJ set0 t w5 b0 b3) := by
  unfold zO qJ
  repeat (first
    | with_reducible exact qk.refl _
    | with_reducible exact qk.none _
    | with_reducible refine qk.bind ?_ (fun _ => ?_)
    | with_reducible refine qk.ite ?_ ?_
    | with_reducible refine qk.sum (fun _ => ?_) (fun _ => ?_)
    | with_reducible refine qk.lim (fun _ => ?_))
noncomputable def qY (rF : (qb × List qa × Int × qd) → Option (List Bool × List qa × Int × qd)) (w7 : List Bool) (w9 : List Int) (b0 : List qa) (b2 : Int) (b3 : qd) (b6 : qb) (b10 : List Bool) (t18 : Bool) (t72 : List qb) (t73 : Int) (t74 : Int) (t96 : Int) : (List Int × Int) → Option ((List Int × Int) ⊕ (List Int))
  | (w12, t97) =>
    if t97 < t96 then if 0 ≤ t97 ∧ t97 < ((w12.length : Nat) : Int) then if Int.toNat t97 + 1 ≤ w12.length then if t18 = Bool.true then if 0 ≤ t97 ∧ t97 < ((w9.length : Nat) : Int) then Option.bind w9[Int.toNat t97]? fun (a2 : Int) =>
              if 0 ≤ t97 ∧ t97 < ((w12.length : Nat) : Int) then if Int.toNat t97 + 1 ≤ w12.length then Option.bind (qJ t97 w9 (List.set (List.set w12 (Int.toNat t97) (-1)) (Int.toNat t97) a2) b10 t97) fun (a3 : List Int) =>
                  some (Sum.inl (a3, w64 (t97 + 1)))
                else none
              else none
            else none
          else Option.bind (qJ t97 w9 (List.set w12 (Int.toNat t97) (-1)) b10 t97) fun (a4 : List Int) =>
          some (Sum.inl (a4, w64 (t97 + 1)))
        else none
      else none
    else some (Sum.inr w12)
theorem q44 (rE : Orc) (rF : (qb × List qa × Int × qd) → Option (List Bool × List qa × Int × qd)) (hF : ∀ y, rE (.fn 45) 6 (qx y).1 (qx y).2 = (rF y).bind fun e => some (qP e)) (hM : ∀ g k a G, g ≠ 45 → rE (.fn g) k a G = ev g k a G) (hR : ∀ g asg bd k a G, rE (.rd g asg bd) k a G = evr g asg bd k a G) : ∀ (w7 : List Bool) (w9 w12 : List Int) (b0 : List qa) (b2 b3_Worst b3_Best b3_Pass b6_Kind b6_N b6_Min : Int) (b6_Set : List qc) (b6_L : List qb) (b10 : List Bool) (t18 : Bool) (t72 : List qb) (t73 t74 t96 t97 : Int) (w7_len w9_len w12_len : Nat), w7_len = w7.length → w9_len = w9.length → w12_len = w12.length → XL2 rE 45 6 25 ⟨[(3, rP 2), (5, rP 4), (6, rP 5), (7, rP 6), (9, rO 7 1 w7_len), (12, rP 8), (17, rP 10), (18, rB t18), (19, rP 11), (72, rL 5 qg t72), (73, rI t73), (74, rI t74), (96, rI t96), (97, rI t97)], [(0, B.blk 32 [dL 8 qf b0]), (1, B.blk 62 [C.fn 22 [] []]), (2, B.blk 3 [dI b2]), (3, B.blk 37 [dI b3_Worst, dI b3_Best, dI b3_Pass]), (4, B.blk 94 [C.fn 45 [] [dP 0, dP 1, dP 2, dP 3, dP 4, dP 5]]), (5, B.blk 62 [C.fn 23 [] []]), (6, B.blk 31 [dI b6_Kind, dI b6_N, dI b6_Min, dL 2 qe b6_Set, dL 5 qg b6_L]), (7, bR 4 1 eB w7), (8, B.blk 95 [dO 9 1 w9_len]), (9, bR 3 1 eI w9), (10, B.blk 63 [dL 1 eB b10]), (11, B.blk 95 [dO 12 1 w12_len]), (12, bR 3 1 eI w12)], 13, 142⟩ = (qN (qY rF w7 w9 b0 b2 (qd.mk b3_Worst b3_Best b3_Pass) (qb.mk b6_Kind b6_N b6_Min b6_Set b6_L) b10 t18 t72 t73 t74 t96) (w12, t97)).bind (fun (e : List Int) => some (Go.Exit.exit 6, ⟨[(3, rP 2), (5, rP 4), (6, rP 5), (7, rP 6), (9, rO 7 1 w7.length), (12, rP 8), (19, rP 10), (72, rL 5 qg t72), (73, rI t73), (74, rI t74)], [(0, B.blk 32 [dL 8 qf b0]), (1, B.blk 62 [C.fn 22 [] []]), (2, B.blk 3 [dI b2]), (3, B.blk 37 [dI b3_Worst, dI b3_Best, dI b3_Pass]), (4, B.blk 94 [C.fn 45 [] [dP 0, dP 1, dP 2, dP 3, dP 4, dP 5]]), (5, B.blk 62 [C.fn 23 [] []]), (6, B.blk 31 [dI b6_Kind, dI b6_N, dI b6_Min, dL 2 qe b6_Set, dL 5 qg b6_L]), (7, bR 4 1 eB w7), (8, B.blk 95 [dO 9 1 w9.length]), (9, bR 3 1 eI w9), (10, B.blk 95 [dO 11 1 e.length]), (11, bR 3 1 eI e)], 12, 142⟩)) :=
  by
  intro w7 w9 w12 b0 b2 b3_Worst b3_Best b3_Pass b6_Kind b6_N b6_Min b6_Set b6_L b10 t18 t72 t73 t74 t96 t97 w7_len w9_len w12_len h0 h1 h2
  subst h0 h1 h2
  revert t97; revert w12; exact q8F qeM qew (fun e => by exact ⟨_, rfl, fun h => by cases h⟩) fun w12 t97 => by
    have hF' : ∀ (x0_Kind x0_N x0_Min : Int) (x0_Set : List qc) (x0_L : List qb) (v : List qa) (v2 v3_Worst v3_Best v3_Pass : Int), rE (.fn 45) 6 [R.agg [dI x0_Kind, dI x0_N, dI x0_Min, dL 2 qe x0_Set, dL 5 qg x0_L], rP 0, rP 1, rP 2, rP 3, rP 4, rP 5] [(0, B.blk 32 [dL 8 qf v]), (1, B.blk 62 [C.fn 22 [] []]), (2, B.blk 3 [dI v2]), (3, B.blk 37 [dI v3_Worst, dI v3_Best, dI v3_Pass]), (4, B.blk 94 [C.fn 45 [] [dP 0, dP 1, dP 2, dP 3, dP 4, dP 5]]), (5, B.blk 62 [C.fn 23 [] []])] = (rF ((qb.mk x0_Kind x0_N x0_Min x0_Set x0_L), v, v2, (qd.mk v3_Worst v3_Best v3_Pass))).bind (fun e => some (rL 1 eB e.1, [(0, B.blk 32 [dL 8 qf e.2.1]), (1, B.blk 62 [C.fn 22 [] []]), (2, B.blk 3 [dI e.2.2.1]), (3, B.blk 37 [dI e.2.2.2.Worst, dI e.2.2.2.Best, dI e.2.2.2.Pass]), (4, B.blk 94 [C.fn 45 [] [dP 0, dP 1, dP 2, dP 3, dP 4, dP 5]]), (5, B.blk 62 [C.fn 23 [] []])])) := fun x0_Kind x0_N x0_Min x0_Set x0_L v v2 v3_Worst v3_Best v3_Pass => hF ((qb.mk x0_Kind x0_N x0_Min x0_Set x0_L), v, v2, (qd.mk v3_Worst v3_Best v3_Pass))
    have := qcD; have := @qa2.eq_1; have := @Jo; have := @qY.eq_1; exact gA
noncomputable def ZP (fu : Nat) (rF : (qb × List qa × Int × qd) → Option (List Bool × List qa × Int × qd)) (w7 : List Bool) (w9 : List Int) (b0 : List qa) (b2 : Int) (b3 : qd) (b6 : qb) (b10 : List Bool) (t18 : Bool) (t72 : List qb) (t73 : Int) (t74 : Int) (t96 : Int) : (List Int × Int) → Option ((List Int × Int) ⊕ (List Int))
  | (w12, t97) =>
    if t97 < t96 then if 0 ≤ t97 ∧ t97 < ((w12.length : Nat) : Int) then if Int.toNat t97 + 1 ≤ w12.length then if t18 = Bool.true then if 0 ≤ t97 ∧ t97 < ((w9.length : Nat) : Int) then Option.bind w9[Int.toNat t97]? fun (a2 : Int) =>
              if 0 ≤ t97 ∧ t97 < ((w12.length : Nat) : Int) then if Int.toNat t97 + 1 ≤ w12.length then Option.bind (zO fu t97 w9 (List.set (List.set w12 (Int.toNat t97) (-1)) (Int.toNat t97) a2) b10 t97) fun (a3 : List Int) =>
                  some (Sum.inl (a3, w64 (t97 + 1)))
                else none
              else none
            else none
          else Option.bind (zO fu t97 w9 (List.set w12 (Int.toNat t97) (-1)) b10 t97) fun (a4 : List Int) =>
          some (Sum.inl (a4, w64 (t97 + 1)))
        else none
      else none
    else some (Sum.inr w12)
theorem q42 (fu : Nat) (rF rF2 : (qb × List qa × Int × qd) → Option (List Bool × List qa × Int × qd)) (hF : ∀ y, qk (rF y) (rF2 y)) (w7 : List Bool) (w9 : List Int) (b0 : List qa) (b2 : Int) (b3 : qd) (b6 : qb) (b10 : List Bool) (t18 : Bool) (t72 : List qb) (t73 t74 t96 : Int) : ∀ x, qk (ZP fu rF w7 w9 b0 b2 b3 b6 b10 t18 t72 t73 t74 t96 x) (qY rF2 w7 w9 b0 b2 b3 b6 b10 t18 t72 t73 t74 t96 x) := by
  rintro ⟨w12, t97⟩
  unfold ZP qY
  try dsimp only
  repeat (first
    | with_reducible exact qk.refl _
    | with_reducible exact qk.none _
    | exact hF _
    | with_reducible apply JC
    | with_reducible refine qk.bind ?_ (fun _ => ?_)
    | with_reducible refine qk.ite ?_ ?_
    | with_reducible refine qk.sum (fun _ => ?_) (fun _ => ?_)
    | with_reducible refine qk.lim (fun _ => ?_))
end Go.Proofs.Ytgejdfnidjnjcaa.Vc
namespace Go.Proofs.Ytgejdfnidjnjcaa.Vc
open Go.RowKit
set_option linter.unusedVariables false
set_option linter.unusedSimpArgs false
set_option linter.defProp false
set_option maxRecDepth 20000
noncomputable def qX (rF : (qb × List qa × Int × qd) → Option (List Bool × List qa × Int × qd)) (w7 : List Bool) (b6 : qb) (t72 : List qb) (t73 : Int) : (List Int × List qa × Int × qd × Int) → Option ((List Int × List qa × Int × qd × Int) ⊕ (List Int × List qa × Int × qd))
  | (w9, b0, b2, b3, t74) =>
    if t74 < t73 then if 0 ≤ t74 ∧ t74 < ((t72.length : Nat) : Int) then Option.bind t72[Int.toNat t74]? fun (a2 : qb) =>
        Option.bind (rF (a2, (b0, (b2, b3)))) fun (a3 : Prod (List Bool) (Prod (List qa) (Prod Int qd))) =>
        if (b6.Kind == 4) = Bool.true then if 0 ≤ ((w9.length : Nat) : Int) ∧ 8 * ((w9.length : Nat) : Int) ≤ 281474976710656 ∧ ((w9.length : Nat) : Int) ≤ 9223372036854775807 then Option.bind (qN (qY rF w7 w9 a3.2.1 a3.2.2.1 a3.2.2.2 b6 a3.1 Bool.true t72 t73 t74 ((w9.length : Nat) : Int)) (List.replicate w9.length 0, 0)) fun (a4 : List Int) =>
            some (Sum.inl (a4, a3.2.1, a3.2.2.1, a3.2.2.2, w64 (t74 + 1)))
          else none
        else if 0 ≤ ((w9.length : Nat) : Int) ∧ 8 * ((w9.length : Nat) : Int) ≤ 281474976710656 ∧ ((w9.length : Nat) : Int) ≤ 9223372036854775807 then Option.bind (qN (qY rF w7 w9 a3.2.1 a3.2.2.1 a3.2.2.2 b6 a3.1 Bool.false t72 t73 t74 ((w9.length : Nat) : Int)) (List.replicate w9.length 0, 0)) fun (a5 : List Int) =>
          some (Sum.inl (a5, a3.2.1, a3.2.2.1, a3.2.2.2, w64 (t74 + 1)))
        else none
      else none
    else some (Sum.inr (w9, b0, b2, b3))
theorem q3V (rE : Orc) (rF : (qb × List qa × Int × qd) → Option (List Bool × List qa × Int × qd)) (hF : ∀ y, rE (.fn 45) 6 (qx y).1 (qx y).2 = (rF y).bind fun e => some (qP e)) (hM : ∀ g k a G, g ≠ 45 → rE (.fn g) k a G = ev g k a G) (hR : ∀ g asg bd k a G, rE (.rd g asg bd) k a G = evr g asg bd k a G) : ∀ (w7 : List Bool) (w9 : List Int) (b0 : List qa) (b2 b3_Worst b3_Best b3_Pass b6_Kind b6_N b6_Min : Int) (b6_Set : List qc) (b6_L t72 : List qb) (t73 t74 : Int) (w7_len w9_len : Nat), w7_len = w7.length → w9_len = w9.length → XL2 rE 45 6 18 ⟨[(3, rP 2), (5, rP 4), (6, rP 5), (7, rP 6), (9, rO 7 1 w7_len), (12, rP 8), (72, rL 5 qg t72), (73, rI t73), (74, rI t74)], [(0, B.blk 32 [dL 8 qf b0]), (1, B.blk 62 [C.fn 22 [] []]), (2, B.blk 3 [dI b2]), (3, B.blk 37 [dI b3_Worst, dI b3_Best, dI b3_Pass]), (4, B.blk 94 [C.fn 45 [] [dP 0, dP 1, dP 2, dP 3, dP 4, dP 5]]), (5, B.blk 62 [C.fn 23 [] []]), (6, B.blk 31 [dI b6_Kind, dI b6_N, dI b6_Min, dL 2 qe b6_Set, dL 5 qg b6_L]), (7, bR 4 1 eB w7), (8, B.blk 95 [dO 9 1 w9_len]), (9, bR 3 1 eI w9)], 10, 142⟩ = (qN (qX rF w7 (qb.mk b6_Kind b6_N b6_Min b6_Set b6_L) t72 t73) (w9, b0, b2, (qd.mk b3_Worst b3_Best b3_Pass), t74)).bind (fun (e : List Int × List qa × Int × qd) => some (Go.Exit.exit 4, ⟨[(7, rP 6), (9, rO 7 1 w7.length), (12, rP 8)], [(0, B.blk 32 [dL 8 qf e.2.1]), (1, B.blk 62 [C.fn 22 [] []]), (2, B.blk 3 [dI e.2.2.1]), (3, B.blk 37 [dI e.2.2.2.Worst, dI e.2.2.2.Best, dI e.2.2.2.Pass]), (4, B.blk 94 [C.fn 45 [] [dP 0, dP 1, dP 2, dP 3, dP 4, dP 5]]), (5, B.blk 62 [C.fn 23 [] []]), (6, B.blk 31 [dI b6_Kind, dI b6_N, dI b6_Min, dL 2 qe b6_Set, dL 5 qg b6_L]), (7, bR 4 1 eB w7), (8, B.blk 95 [dO 9 1 e.1.length]), (9, bR 3 1 eI e.1)], 10, 142⟩)) :=
  by
  intro w7 w9 b0 b2 b3_Worst b3_Best b3_Pass b6_Kind b6_N b6_Min b6_Set b6_L t72 t73 t74 w7_len w9_len h0 h1
  subst h0 h1
  have h := q1e (E := rE) (f := 45) (k := 6) (st := fun x : List Int × List qa × Int × qd × Int => (⟨[(3, rP 2), (5, rP 4), (6, rP 5), (7, rP 6), (9, rO 7 1 w7.length), (12, rP 8), (72, rL 5 qg t72), (73, rI t73), (74, rI x.2.2.2.2)], [(0, B.blk 32 [dL 8 qf x.2.1]), (1, B.blk 62 [C.fn 22 [] []]), (2, B.blk 3 [dI x.2.2.1]), (3, B.blk 37 [dI x.2.2.2.1.Worst, dI x.2.2.2.1.Best, dI x.2.2.2.1.Pass]), (4, B.blk 94 [C.fn 45 [] [dP 0, dP 1, dP 2, dP 3, dP 4, dP 5]]), (5, B.blk 62 [C.fn 23 [] []]), (6, B.blk 31 [dI b6_Kind, dI b6_N, dI b6_Min, dL 2 qe b6_Set, dL 5 qg b6_L]), (7, bR 4 1 eB w7), (8, B.blk 95 [dO 9 1 x.1.length]), (9, bR 3 1 eI x.1)], 10, 142⟩ : S)) (ex := fun (e : List Int × List qa × Int × qd) => (Go.Exit.exit 4, ⟨[(7, rP 6), (9, rO 7 1 w7.length), (12, rP 8)], [(0, B.blk 32 [dL 8 qf e.2.1]), (1, B.blk 62 [C.fn 22 [] []]), (2, B.blk 3 [dI e.2.2.1]), (3, B.blk 37 [dI e.2.2.2.Worst, dI e.2.2.2.Best, dI e.2.2.2.Pass]), (4, B.blk 94 [C.fn 45 [] [dP 0, dP 1, dP 2, dP 3, dP 4, dP 5]]), (5, B.blk 62 [C.fn 23 [] []]), (6, B.blk 31 [dI b6_Kind, dI b6_N, dI b6_Min, dL 2 qe b6_Set, dL 5 qg b6_L]), (7, bR 4 1 eB w7), (8, B.blk 95 [dO 9 1 e.1.length]), (9, bR 3 1 eI e.1)], 10, 142⟩)) (step := (qX rF w7 (qb.mk b6_Kind b6_N b6_Min b6_Set b6_L) t72 t73)) qgk qgu (fun e h => by cases h) (fun x => by
    obtain ⟨w9, b0, b2, b3, t74⟩ := x; have hF' : ∀ (x0_Kind x0_N x0_Min : Int) (x0_Set : List qc) (x0_L : List qb) (v : List qa) (v2 v3_Worst v3_Best v3_Pass : Int), rE (.fn 45) 6 [R.agg [dI x0_Kind, dI x0_N, dI x0_Min, dL 2 qe x0_Set, dL 5 qg x0_L], rP 0, rP 1, rP 2, rP 3, rP 4, rP 5] [(0, B.blk 32 [dL 8 qf v]), (1, B.blk 62 [C.fn 22 [] []]), (2, B.blk 3 [dI v2]), (3, B.blk 37 [dI v3_Worst, dI v3_Best, dI v3_Pass]), (4, B.blk 94 [C.fn 45 [] [dP 0, dP 1, dP 2, dP 3, dP 4, dP 5]]), (5, B.blk 62 [C.fn 23 [] []])] = (rF ((qb.mk x0_Kind x0_N x0_Min x0_Set x0_L), v, v2, (qd.mk v3_Worst v3_Best v3_Pass))).bind (fun e => some (rL 1 eB e.1, [(0, B.blk 32 [dL 8 qf e.2.1]), (1, B.blk 62 [C.fn 22 [] []]), (2, B.blk 3 [dI e.2.2.1]), (3, B.blk 37 [dI e.2.2.2.Worst, dI e.2.2.2.Best, dI e.2.2.2.Pass]), (4, B.blk 94 [C.fn 45 [] [dP 0, dP 1, dP 2, dP 3, dP 4, dP 5]]), (5, B.blk 62 [C.fn 23 [] []])])) := fun x0_Kind x0_N x0_Min x0_Set x0_L v v2 v3_Worst v3_Best v3_Pass => hF ((qb.mk x0_Kind x0_N x0_Min x0_Set x0_L), v, v2, (qd.mk v3_Worst v3_Best v3_Pass))
    have := qcD; have := @q9p.eq_1; have := @q7W; have := q44 rE rF hF hM hR; have := @qX.eq_1; exact gA) (w9, b0, b2, (qd.mk b3_Worst b3_Best b3_Pass), t74)
  exact h
noncomputable def JT (fu : Nat) (rF : (qb × List qa × Int × qd) → Option (List Bool × List qa × Int × qd)) (w7 : List Bool) (b6 : qb) (t72 : List qb) (t73 : Int) : (List Int × List qa × Int × qd × Int) → Option ((List Int × List qa × Int × qd × Int) ⊕ (List Int × List qa × Int × qd))
  | (w9, b0, b2, b3, t74) =>
    if t74 < t73 then if 0 ≤ t74 ∧ t74 < ((t72.length : Nat) : Int) then Option.bind t72[Int.toNat t74]? fun (a2 : qb) =>
        Option.bind (rF (a2, (b0, (b2, b3)))) fun (a3 : Prod (List Bool) (Prod (List qa) (Prod Int qd))) =>
        if (b6.Kind == 4) = Bool.true then if 0 ≤ ((w9.length : Nat) : Int) ∧ 8 * ((w9.length : Nat) : Int) ≤ 281474976710656 ∧ ((w9.length : Nat) : Int) ≤ 9223372036854775807 then Option.bind (itT (ZP fu rF w7 w9 a3.2.1 a3.2.2.1 a3.2.2.2 b6 a3.1 Bool.true t72 t73 t74 ((w9.length : Nat) : Int)) fu (List.replicate w9.length 0, 0)) fun (a4 : List Int) =>
            some (Sum.inl (a4, a3.2.1, a3.2.2.1, a3.2.2.2, w64 (t74 + 1)))
          else none
        else if 0 ≤ ((w9.length : Nat) : Int) ∧ 8 * ((w9.length : Nat) : Int) ≤ 281474976710656 ∧ ((w9.length : Nat) : Int) ≤ 9223372036854775807 then Option.bind (itT (ZP fu rF w7 w9 a3.2.1 a3.2.2.1 a3.2.2.2 b6 a3.1 Bool.false t72 t73 t74 ((w9.length : Nat) : Int)) fu (List.replicate w9.length 0, 0)) fun (a5 : List Int) =>
          some (Sum.inl (a5, a3.2.1, a3.2.2.1, a3.2.2.2, w64 (t74 + 1)))
        else none
      else none
    else some (Sum.inr (w9, b0, b2, b3))
theorem q3T (fu : Nat) (rF rF2 : (qb × List qa × Int × qd) → Option (List Bool × List qa × Int × qd)) (hF : ∀ y, qk (rF y) (rF2 y)) (w7 : List Bool) (b6 : qb) (t72 : List qb) (t73 : Int) : ∀ x, qk (JT fu rF w7 b6 t72 t73 x) (qX rF2 w7 b6 t72 t73 x) := by
  rintro ⟨w9, b0, b2, b3, t74⟩
  unfold JT qX
  try dsimp only
  repeat (first
    | with_reducible exact qk.refl _
    | with_reducible exact qk.none _
    | exact hF _
    | (with_reducible refine q42 _ _ _ hF ..)
    | with_reducible refine qk.bind ?_ (fun _ => ?_)
    | with_reducible refine qk.ite ?_ ?_
    | with_reducible refine qk.sum (fun _ => ?_) (fun _ => ?_)
    | with_reducible refine qk.lim (fun _ => ?_))
noncomputable def z0 (rF : (qb × List qa × Int × qd) → Option (List Bool × List qa × Int × qd)) (w8 : List Int) (b0 : List qa) (b2 : Int) (b3 : qd) (t21 : Int) : (List Bool × Int) → Option ((List Bool × Int) ⊕ (List Bool))
  | (w6, t22) =>
    if t22 < ((w6.length : Nat) : Int) then if 0 ≤ t22 ∧ t22 < ((w8.length : Nat) : Int) then Option.bind w8[Int.toNat t22]? fun (a2 : Int) =>
        if 0 ≤ t22 ∧ t22 < ((w6.length : Nat) : Int) then if Int.toNat t22 + 1 ≤ w6.length then some (Sum.inl (List.set w6 (Int.toNat t22) (decide (t21 ≤ a2)), w64 (t22 + 1)))
          else none
        else none
      else none
    else some (Sum.inr w6)
theorem q3W (rE : Orc) (rF : (qb × List qa × Int × qd) → Option (List Bool × List qa × Int × qd)) (hF : ∀ y, rE (.fn 45) 6 (qx y).1 (qx y).2 = (rF y).bind fun e => some (qP e)) (hM : ∀ g k a G, g ≠ 45 → rE (.fn g) k a G = ev g k a G) (hR : ∀ g asg bd k a G, rE (.rd g asg bd) k a G = evr g asg bd k a G) : ∀ (w6 : List Bool) (w8 : List Int) (b0 : List qa) (b2 b3_Worst b3_Best b3_Pass t21 t22 : Int) (w6_len w8_len : Nat), w6_len = w6.length → w8_len = w8.length → XL2 rE 45 6 38 ⟨[(9, rO 6 1 w6_len), (12, rP 7), (21, rI t21), (22, rI t22)], [(0, B.blk 32 [dL 8 qf b0]), (1, B.blk 62 [C.fn 22 [] []]), (2, B.blk 3 [dI b2]), (3, B.blk 37 [dI b3_Worst, dI b3_Best, dI b3_Pass]), (4, B.blk 94 [C.fn 45 [] [dP 0, dP 1, dP 2, dP 3, dP 4, dP 5]]), (5, B.blk 62 [C.fn 23 [] []]), (6, bR 4 1 eB w6), (7, B.blk 95 [dO 8 1 w8_len]), (8, bR 3 1 eI w8)], 9, 142⟩ = (qN (z0 rF w8 b0 b2 (qd.mk b3_Worst b3_Best b3_Pass) t21) (w6, t22)).bind (fun (e : List Bool) => some (Go.Exit.exit 8, ⟨[(9, rO 6 1 e.length)], [(0, B.blk 32 [dL 8 qf b0]), (1, B.blk 62 [C.fn 22 [] []]), (2, B.blk 3 [dI b2]), (3, B.blk 37 [dI b3_Worst, dI b3_Best, dI b3_Pass]), (4, B.blk 94 [C.fn 45 [] [dP 0, dP 1, dP 2, dP 3, dP 4, dP 5]]), (5, B.blk 62 [C.fn 23 [] []]), (6, bR 4 1 eB e)], 7, 142⟩)) :=
  by
  intro w6 w8 b0 b2 b3_Worst b3_Best b3_Pass t21 t22 w6_len w8_len h0 h1
  subst h0 h1
  revert t22; revert w6; exact q8F qg6 qgF (fun e => by exact ⟨_, rfl, fun h => by cases h⟩) fun w6 t22 => by
    have hF' : ∀ (x0_Kind x0_N x0_Min : Int) (x0_Set : List qc) (x0_L : List qb) (v : List qa) (v2 v3_Worst v3_Best v3_Pass : Int), rE (.fn 45) 6 [R.agg [dI x0_Kind, dI x0_N, dI x0_Min, dL 2 qe x0_Set, dL 5 qg x0_L], rP 0, rP 1, rP 2, rP 3, rP 4, rP 5] [(0, B.blk 32 [dL 8 qf v]), (1, B.blk 62 [C.fn 22 [] []]), (2, B.blk 3 [dI v2]), (3, B.blk 37 [dI v3_Worst, dI v3_Best, dI v3_Pass]), (4, B.blk 94 [C.fn 45 [] [dP 0, dP 1, dP 2, dP 3, dP 4, dP 5]]), (5, B.blk 62 [C.fn 23 [] []])] = (rF ((qb.mk x0_Kind x0_N x0_Min x0_Set x0_L), v, v2, (qd.mk v3_Worst v3_Best v3_Pass))).bind (fun e => some (rL 1 eB e.1, [(0, B.blk 32 [dL 8 qf e.2.1]), (1, B.blk 62 [C.fn 22 [] []]), (2, B.blk 3 [dI e.2.2.1]), (3, B.blk 37 [dI e.2.2.2.Worst, dI e.2.2.2.Best, dI e.2.2.2.Pass]), (4, B.blk 94 [C.fn 45 [] [dP 0, dP 1, dP 2, dP 3, dP 4, dP 5]]), (5, B.blk 62 [C.fn 23 [] []])])) := fun x0_Kind x0_N x0_Min x0_Set x0_L v v2 v3_Worst v3_Best v3_Pass => hF ((qb.mk x0_Kind x0_N x0_Min x0_Set x0_L), v, v2, (qd.mk v3_Worst v3_Best v3_Pass))
    have := qcD; have := @qa1.eq_1; have := @z0.eq_1; exact gA
noncomputable def ZJ (fu : Nat) (rF : (qb × List qa × Int × qd) → Option (List Bool × List qa × Int × qd)) (w8 : List Int) (b0 : List qa) (b2 : Int) (b3 : qd) (t21 : Int) : (List Bool × Int) → Option ((List Bool × Int) ⊕ (List Bool))
  | (w6, t22) =>
    if t22 < ((w6.length : Nat) : Int) then if 0 ≤ t22 ∧ t22 < ((w8.length : Nat) : Int) then Option.bind w8[Int.toNat t22]? fun (a2 : Int) =>
        if 0 ≤ t22 ∧ t22 < ((w6.length : Nat) : Int) then if Int.toNat t22 + 1 ≤ w6.length then some (Sum.inl (List.set w6 (Int.toNat t22) (decide (t21 ≤ a2)), w64 (t22 + 1)))
          else none
        else none
      else none
    else some (Sum.inr w6)
theorem q3R (fu : Nat) (rF rF2 : (qb × List qa × Int × qd) → Option (List Bool × List qa × Int × qd)) (hF : ∀ y, qk (rF y) (rF2 y)) (w8 : List Int) (b0 : List qa) (b2 : Int) (b3 : qd) (t21 : Int) : ∀ x, qk (ZJ fu rF w8 b0 b2 b3 t21 x) (z0 rF2 w8 b0 b2 b3 t21 x) := by
  rintro ⟨w6, t22⟩
  unfold ZJ z0
  try dsimp only
  repeat (first
    | with_reducible exact qk.refl _
    | with_reducible exact qk.none _
    | exact hF _
    | with_reducible refine qk.bind ?_ (fun _ => ?_)
    | with_reducible refine qk.ite ?_ ?_
    | with_reducible refine qk.sum (fun _ => ?_) (fun _ => ?_)
    | with_reducible refine qk.lim (fun _ => ?_))
noncomputable def Qi (rF : (qb × List qa × Int × qd) → Option (List Bool × List qa × Int × qd)) : (qb × List qa × Int × qd) → Option (List Bool × List qa × Int × qd)
  | (x0, v, v2, v3) =>
    if 0 ≤ ((v.length : Nat) : Int) then if 0 ≤ w64 (1 * 2 ^ min v.length (Go.IntKind.bits Go.IntKind.i64)) ∧ 1 * w64 (1 * 2 ^ min v.length (Go.IntKind.bits Go.IntKind.i64)) ≤ 281474976710656 ∧ w64 (1 * 2 ^ min v.length (Go.IntKind.bits Go.IntKind.i64)) ≤ 9223372036854775807 then if zI x0 = Bool.true then Option.bind (Ze x0.Kind) fun (a2 : Sum Unit Unit) =>
          Sum.elim (fun (a3 : Unit) => Option.bind (qN (zt rF v v2 v3 x0) (List.replicate (Int.toNat (w64 (1 * 2 ^ min v.length (Go.IntKind.bits Go.IntKind.i64)))) Bool.false, 1)) fun (a5 : List Bool) =>
            some (a5, v, w64 (v2 + 1), v3)) (fun (a4 : Unit) => Option.bind (qN (zr rF v v2 v3 x0) (List.replicate (Int.toNat (w64 (1 * 2 ^ min v.length (Go.IntKind.bits Go.IntKind.i64)))) Bool.false, 1)) fun (a6 : List Bool) =>
            some (a6, v, w64 (v2 + 1), v3)) a2
        else if 0 ≤ ((Int.toNat (w64 (1 * 2 ^ min v.length (Go.IntKind.bits Go.IntKind.i64))) : Nat) : Int) ∧ 8 * ((Int.toNat (w64 (1 * 2 ^ min v.length (Go.IntKind.bits Go.IntKind.i64))) : Nat) : Int) ≤ 281474976710656 ∧ ((Int.toNat (w64 (1 * 2 ^ min v.length (Go.IntKind.bits Go.IntKind.i64))) : Nat) : Int) ≤ 9223372036854775807 then Option.bind (qN (qT rF (List.replicate (Int.toNat (w64 (1 * 2 ^ min v.length (Go.IntKind.bits Go.IntKind.i64)))) Bool.false) v v2 v3 x0) (List.replicate (Int.toNat (w64 (1 * 2 ^ min v.length (Go.IntKind.bits Go.IntKind.i64)))) 0, 1)) fun (a7 : List Int) =>
          Option.bind (qN (qX rF (List.replicate (Int.toNat (w64 (1 * 2 ^ min v.length (Go.IntKind.bits Go.IntKind.i64)))) Bool.false) x0 x0.L ((x0.L.length : Nat) : Int)) (a7, (v, (v2, (v3, 0))))) fun (a8 : Prod (List Int) (Prod (List qa) (Prod Int qd))) =>
          if (x0.Kind == 3) = Bool.true then Option.bind (qN (z0 rF a8.1 a8.2.1 a8.2.2.1 a8.2.2.2 ((x0.L.length : Nat) : Int)) (List.replicate (Int.toNat (w64 (1 * 2 ^ min v.length (Go.IntKind.bits Go.IntKind.i64)))) Bool.false, 1)) fun (a9 : List Bool) =>
            some (a9, a8.2.1, a8.2.2.1, a8.2.2.2)
          else Option.bind (qN (z0 rF a8.1 a8.2.1 a8.2.2.1 a8.2.2.2 x0.N) (List.replicate (Int.toNat (w64 (1 * 2 ^ min v.length (Go.IntKind.bits Go.IntKind.i64)))) Bool.false, 1)) fun (a10 : List Bool) =>
          some (a10, a8.2.1, a8.2.2.1, a8.2.2.2)
        else none
      else none
    else none
theorem q2o : q4a 45 6 qx qP Qi := by
  intro rE rF hF hM hR x
  obtain ⟨x0, v, v2, v3⟩ := x
  show q6D rE 45 6 [R.agg [dI x0.Kind, dI x0.N, dI x0.Min, dL 2 qe x0.Set, dL 5 qg x0.L], rP 0, rP 1, rP 2, rP 3, rP 4, rP 5] [(0, B.blk 32 [dL 8 qf v]), (1, B.blk 62 [C.fn 22 [] []]), (2, B.blk 3 [dI v2]), (3, B.blk 37 [dI v3.Worst, dI v3.Best, dI v3.Pass]), (4, B.blk 94 [C.fn 45 [] [dP 0, dP 1, dP 2, dP 3, dP 4, dP 5]]), (5, B.blk 62 [C.fn 23 [] []])] = _
  have hF' : ∀ (x0_Kind x0_N x0_Min : Int) (x0_Set : List qc) (x0_L : List qb) (v : List qa) (v2 v3_Worst v3_Best v3_Pass : Int), rE (.fn 45) 6 [R.agg [dI x0_Kind, dI x0_N, dI x0_Min, dL 2 qe x0_Set, dL 5 qg x0_L], rP 0, rP 1, rP 2, rP 3, rP 4, rP 5] [(0, B.blk 32 [dL 8 qf v]), (1, B.blk 62 [C.fn 22 [] []]), (2, B.blk 3 [dI v2]), (3, B.blk 37 [dI v3_Worst, dI v3_Best, dI v3_Pass]), (4, B.blk 94 [C.fn 45 [] [dP 0, dP 1, dP 2, dP 3, dP 4, dP 5]]), (5, B.blk 62 [C.fn 23 [] []])] = (rF ((qb.mk x0_Kind x0_N x0_Min x0_Set x0_L), v, v2, (qd.mk v3_Worst v3_Best v3_Pass))).bind (fun e => some (rL 1 eB e.1, [(0, B.blk 32 [dL 8 qf e.2.1]), (1, B.blk 62 [C.fn 22 [] []]), (2, B.blk 3 [dI e.2.2.1]), (3, B.blk 37 [dI e.2.2.2.Worst, dI e.2.2.2.Best, dI e.2.2.2.Pass]), (4, B.blk 94 [C.fn 45 [] [dP 0, dP 1, dP 2, dP 3, dP 4, dP 5]]), (5, B.blk 62 [C.fn 23 [] []])])) := fun x0_Kind x0_N x0_Min x0_Set x0_L v v2 v3_Worst v3_Best v3_Pass => hF ((qb.mk x0_Kind x0_N x0_Min x0_Set x0_L), v, v2, (qd.mk v3_Worst v3_Best v3_Pass))
  rw [q14 qgZ qkT]
  have := qcD; have := @q0E; have := @q1d; have := q3t rE rF hF hM hR; have := q33 rE rF hF hM hR; have := q2K rE rF hF hM hR; have := q3V rE rF hF hM hR; have := q3W rE rF hF hM hR; have := @Qi.eq_1; have := @qP.eq_1; exact gA
theorem q0w : ∀ x y, qx x = qx y → x = y := by
  rintro ⟨⟨a0_0, a0_1, a0_2, a0_3, a0_4⟩, a1, a2, ⟨a3_0, a3_1, a3_2⟩⟩ ⟨⟨b0_0, b0_1, b0_2, b0_3, b0_4⟩, b1, b2, ⟨b3_0, b3_1, b3_2⟩⟩ h
  simp only [qx, Prod.mk.injEq, List.cons.injEq, R.c.injEq, R.agg.injEq, R.tup.injEq, C.d.injEq, C.own.injEq, C.ptr.injEq, C.eptr.injEq, D.int.injEq, D.bool.injEq, D.str.injEq, D.sl.injEq, B.blk.injEq, B.row.injEq, Zu, JO, ZC, ZU, Jb, q0Q, Zw, q0Y, true_and, and_true, List.nil_append] at h
  simp only [h]
theorem q4K : ∀ x y, qP x = qP y → x = y := by
  rintro ⟨a0, a1, a2, ⟨a3_0, a3_1, a3_2⟩⟩ ⟨b0, b1, b2, ⟨b3_0, b3_1, b3_2⟩⟩ h
  simp only [qP, Prod.mk.injEq, List.cons.injEq, R.c.injEq, R.agg.injEq, R.tup.injEq, C.d.injEq, C.own.injEq, C.ptr.injEq, C.eptr.injEq, D.int.injEq, D.bool.injEq, D.str.injEq, D.sl.injEq, B.blk.injEq, B.row.injEq, Zu, JO, ZC, ZU, Jb, q0Q, Zw, q0Y, true_and, and_true, List.nil_append] at h
  simp only [h]
noncomputable def qI : (qb × List qa × Int × qd) → Option (List Bool × List qa × Int × qd) := q4p 45 6 qx qP
theorem q2l (x : (qb × List qa × Int × qd)) : qI x = Qi qI x := q8u qnA.2.2.2 q0w q4K q2o x
theorem q6H (x0 : qb) (v : List qa) (v2 : Int) (v3 : qd) : ev 45 6 [R.agg [dI x0.Kind, dI x0.N, dI x0.Min, dL 2 qe x0.Set, dL 5 qg x0.L], rP 0, rP 1, rP 2, rP 3, rP 4, rP 5] [(0, B.blk 32 [dL 8 qf v]), (1, B.blk 62 [C.fn 22 [] []]), (2, B.blk 3 [dI v2]), (3, B.blk 37 [dI v3.Worst, dI v3.Best, dI v3.Pass]), (4, B.blk 94 [C.fn 45 [] [dP 0, dP 1, dP 2, dP 3, dP 4, dP 5]]), (5, B.blk 62 [C.fn 23 [] []])] = (qI (x0, v, v2, v3)).bind (fun (e : List Bool × List qa × Int × qd) => some (rL 1 eB e.1, [(0, B.blk 32 [dL 8 qf e.2.1]), (1, B.blk 62 [C.fn 22 [] []]), (2, B.blk 3 [dI e.2.2.1]), (3, B.blk 37 [dI e.2.2.2.Worst, dI e.2.2.2.Best, dI e.2.2.2.Pass]), (4, B.blk 94 [C.fn 45 [] [dP 0, dP 1, dP 2, dP 3, dP 4, dP 5]]), (5, B.blk 62 [C.fn 23 [] []])])) := (q5i qnA.2.2.2 q0w q2o (x0, v, v2, v3))
theorem q79 : ∀ (x0_Kind x0_N x0_Min : Int) (x0_Set : List qc) (x0_L : List qb) (v : List qa) (v2 v3_Worst v3_Best v3_Pass : Int), ev 45 6 [R.agg [dI x0_Kind, dI x0_N, dI x0_Min, dL 2 qe x0_Set, dL 5 qg x0_L], rP 0, rP 1, rP 2, rP 3, rP 4, rP 5] [(0, B.blk 32 [dL 8 qf v]), (1, B.blk 62 [C.fn 22 [] []]), (2, B.blk 3 [dI v2]), (3, B.blk 37 [dI v3_Worst, dI v3_Best, dI v3_Pass]), (4, B.blk 94 [C.fn 45 [] [dP 0, dP 1, dP 2, dP 3, dP 4, dP 5]]), (5, B.blk 62 [C.fn 23 [] []])] = (qI ((qb.mk x0_Kind x0_N x0_Min x0_Set x0_L), v, v2, (qd.mk v3_Worst v3_Best v3_Pass))).bind (fun (e : List Bool × List qa × Int × qd) => some (rL 1 eB e.1, [(0, B.blk 32 [dL 8 qf e.2.1]), (1, B.blk 62 [C.fn 22 [] []]), (2, B.blk 3 [dI e.2.2.1]), (3, B.blk 37 [dI e.2.2.2.Worst, dI e.2.2.2.Best, dI e.2.2.2.Pass]), (4, B.blk 94 [C.fn 45 [] [dP 0, dP 1, dP 2, dP 3, dP 4, dP 5]]), (5, B.blk 62 [C.fn 23 [] []])])) :=
  fun x0_Kind x0_N x0_Min x0_Set x0_L v v2 v3_Worst v3_Best v3_Pass => q6H (qb.mk x0_Kind x0_N x0_Min x0_Set x0_L) v v2 (qd.mk v3_Worst v3_Best v3_Pass)
noncomputable def Js (fu : Nat) (rF : (qb × List qa × Int × qd) → Option (List Bool × List qa × Int × qd)) : (qb × List qa × Int × qd) → Option (List Bool × List qa × Int × qd)
  | (x0, v, v2, v3) =>
    if 0 ≤ ((v.length : Nat) : Int) then if 0 ≤ w64 (1 * 2 ^ min v.length (Go.IntKind.bits Go.IntKind.i64)) ∧ 1 * w64 (1 * 2 ^ min v.length (Go.IntKind.bits Go.IntKind.i64)) ≤ 281474976710656 ∧ w64 (1 * 2 ^ min v.length (Go.IntKind.bits Go.IntKind.i64)) ≤ 9223372036854775807 then if zI x0 = Bool.true then Option.bind (Ze x0.Kind) fun (a2 : Sum Unit Unit) =>
          Sum.elim (fun (a3 : Unit) => Option.bind (itT (JF fu rF v v2 v3 x0) fu (List.replicate (Int.toNat (w64 (1 * 2 ^ min v.length (Go.IntKind.bits Go.IntKind.i64)))) Bool.false, 1)) fun (a5 : List Bool) =>
            some (a5, v, w64 (v2 + 1), v3)) (fun (a4 : Unit) => Option.bind (itT (JI fu rF v v2 v3 x0) fu (List.replicate (Int.toNat (w64 (1 * 2 ^ min v.length (Go.IntKind.bits Go.IntKind.i64)))) Bool.false, 1)) fun (a6 : List Bool) =>
            some (a6, v, w64 (v2 + 1), v3)) a2
        else if 0 ≤ ((Int.toNat (w64 (1 * 2 ^ min v.length (Go.IntKind.bits Go.IntKind.i64))) : Nat) : Int) ∧ 8 * ((Int.toNat (w64 (1 * 2 ^ min v.length (Go.IntKind.bits Go.IntKind.i64))) : Nat) : Int) ≤ 281474976710656 ∧ ((Int.toNat (w64 (1 * 2 ^ min v.length (Go.IntKind.bits Go.IntKind.i64))) : Nat) : Int) ≤ 9223372036854775807 then Option.bind (itT (Jf fu rF (List.replicate (Int.toNat (w64 (1 * 2 ^ min v.length (Go.IntKind.bits Go.IntKind.i64)))) Bool.false) v v2 v3 x0) fu (List.replicate (Int.toNat (w64 (1 * 2 ^ min v.length (Go.IntKind.bits Go.IntKind.i64)))) 0, 1)) fun (a7 : List Int) =>
          Option.bind (itT (JT fu rF (List.replicate (Int.toNat (w64 (1 * 2 ^ min v.length (Go.IntKind.bits Go.IntKind.i64)))) Bool.false) x0 x0.L ((x0.L.length : Nat) : Int)) fu (a7, (v, (v2, (v3, 0))))) fun (a8 : Prod (List Int) (Prod (List qa) (Prod Int qd))) =>
          if (x0.Kind == 3) = Bool.true then Option.bind (itT (ZJ fu rF a8.1 a8.2.1 a8.2.2.1 a8.2.2.2 ((x0.L.length : Nat) : Int)) fu (List.replicate (Int.toNat (w64 (1 * 2 ^ min v.length (Go.IntKind.bits Go.IntKind.i64)))) Bool.false, 1)) fun (a9 : List Bool) =>
            some (a9, a8.2.1, a8.2.2.1, a8.2.2.2)
          else Option.bind (itT (ZJ fu rF a8.1 a8.2.1 a8.2.2.1 a8.2.2.2 x0.N) fu (List.replicate (Int.toNat (w64 (1 * 2 ^ min v.length (Go.IntKind.bits Go.IntKind.i64)))) Bool.false, 1)) fun (a10 : List Bool) =>
          some (a10, a8.2.1, a8.2.2.1, a8.2.2.2)
        else none
      else none
    else none
theorem q3f (fu : Nat) (rF rF2 : (qb × List qa × Int × qd) → Option (List Bool × List qa × Int × qd)) (hF : ∀ y, qk (rF y) (rF2 y)) : ∀ x, qk (Js fu rF x) (Qi rF2 x) := by
  rintro ⟨x0, v, v2, v3⟩
  unfold Js Qi
  try dsimp only
  repeat (first
    | with_reducible exact qk.refl _
    | with_reducible exact qk.none _
    | exact hF _
    | (with_reducible refine q3F _ _ _ hF ..)
    | (with_reducible refine q3p _ _ _ hF ..)
    | (with_reducible refine q2u _ _ _ hF ..)
    | (with_reducible refine q3T _ _ _ hF ..)
    | (with_reducible refine q3R _ _ _ hF ..)
    | with_reducible refine qk.bind ?_ (fun _ => ?_)
    | with_reducible refine qk.ite ?_ ?_
    | with_reducible refine qk.sum (fun _ => ?_) (fun _ => ?_)
    | with_reducible refine qk.lim (fun _ => ?_))
noncomputable def q51 (fu : Nat) (x : (qb × List qa × Int × qd)) : Option (List Bool × List qa × Int × qd) := itR (Js fu) fu x
theorem q6U (fu : Nat) (x : (qb × List qa × Int × qd)) : qk (q51 fu x) (qI x) := qk.rec q2l (q3f fu) fu x
noncomputable def q00 (n : qb) (s : qd) (l : List qa) : Option (List Bool) :=
  Option.bind (qI (n, (l, (0, s)))) fun (a : Prod (List Bool) (Prod (List qa) (Prod Int qd))) =>
  some a.1
theorem q8R : ∀ (n_Kind n_N n_Min : Int) (n_Set : List qc) (n_L : List qb) (s_Worst s_Best s_Pass : Int) (l : List qa), ev 24 0 [R.agg [dI n_Kind, dI n_N, dI n_Min, dL 2 qe n_Set, dL 5 qg n_L], R.agg [dI s_Worst, dI s_Best, dI s_Pass], rL 8 qf l, R.c (C.fn 22 [] []), R.c (C.fn 23 [] [])] [] = (q00 (qb.mk n_Kind n_N n_Min n_Set n_L) (qd.mk s_Worst s_Best s_Pass) l).bind (fun (e : List Bool) => some (rL 1 eB e, [])) :=
  fun n_Kind n_N n_Min n_Set n_L s_Worst s_Best s_Pass l => by
    rw [qz qpx qrB.2.2.2 qrW]
    have := qsT; have := @q79; have := @q00.eq_1; exact gA
noncomputable def q4k (fu : Nat) (n : qb) (s : qd) (l : List qa) : Option (List Bool) :=
  Option.bind (q51 fu (n, (l, (0, s)))) fun (a : Prod (List Bool) (Prod (List qa) (Prod Int qd))) =>
  some a.1
theorem q8I (fu : Nat) (n : qb) (s : qd) (l : List qa) : qk (q4k fu n s l) (q00 n s l) := by
  unfold q4k q00
  repeat (first
    | with_reducible exact qk.refl _
    | with_reducible exact qk.none _
    | with_reducible apply q6U
    | with_reducible refine qk.bind ?_ (fun _ => ?_)
    | with_reducible refine qk.ite ?_ ?_
    | with_reducible refine qk.sum (fun _ => ?_) (fun _ => ?_)
    | with_reducible refine qk.lim (fun _ => ?_))
theorem qsp : okL 25 qc2 := qy (qi qpR) (by kernel_rfl) (by kernel_rfl)
def qsl := JA_ @qc2.eq_1 (JA_ @Try.f25.eq_1 @qpR)
theorem qnr : lbO 25 2 = qfI := Q8 (qi qpR) rfl
theorem qot : okL 25 qfI := zc qsp (List.mem_of_getElem? (i := 0) (by kernel_rfl))
noncomputable def ZK (w1 : List Int) (leaf : Int) (set0 : Int) (t9 : Int) : Int → Option (Int ⊕ (Unit ⊕ Unit))
  | t10 =>
    if t10 < t9 then if 0 ≤ t10 ∧ t10 < ((w1.length : Nat) : Int) then Option.bind w1[Int.toNat t10]? fun (a : Int) =>
        if 0 ≤ t10 then if (!((J0 Go.BinOp.and Go.IntKind.i64 (Int.fdiv set0 (2 ^ min (Int.toNat t10) (Go.IntKind.bits Go.IntKind.i64))) 1 == 1) == (a == leaf))) = Bool.true then some (Sum.inr (Sum.inl ()))
          else some (Sum.inl (w64 (t10 + 1)))
        else none
      else none
    else some (Sum.inr (Sum.inr ()))
theorem q3X : ∀ (w1 : List Int) (leaf set0 t9 t10 : Int) (w1_len : Nat), w1_len = w1.length → XL2 evo 25 1 2 ⟨[(0, rI leaf), (1, rI set0), (8, rO 1 1 w1_len), (9, rI t9), (10, rI t10)], [(0, B.blk 22 [dO 1 1 w1_len]), (1, bR 3 1 eI w1)], 2, 25⟩ = (qN (ZK w1 leaf set0 t9) t10).bind (Sum.elim (fun (e : Unit) => some (Go.Exit.ret, ⟨[(5, rB Bool.false)], [(0, B.blk 22 [dO 1 1 w1.length]), (1, bR 3 1 eI w1)], 2, 25⟩)) (fun (e : Unit) => some (Go.Exit.exit 0, ⟨[(5, R.any)], [(0, B.blk 22 [dO 1 1 w1.length]), (1, bR 3 1 eI w1)], 2, 25⟩))) :=
  by
  intro w1 leaf set0 t9 t10 w1_len h0
  subst h0
  revert t10; exact qaK qnr qot (fun e => by rcases e with _ | _ <;> exact ⟨_, rfl, fun h => by cases h⟩) fun x => by
    have := qsl; have := @qfI.eq_1; have := @ZK.eq_1; exact gA
noncomputable def Zo (leaf : Int) (set0 : Int) (w1 : List Int) : Option Bool :=
  Option.bind (qN (ZK w1 leaf set0 ((w1.length : Nat) : Int)) 0) fun (a : Sum Unit Unit) =>
  Sum.elim (fun (a2 : Unit) => some Bool.false) (fun (a3 : Unit) => some Bool.true) a
theorem q1K : ∀ (leaf set0 : Int) (w1 : List Int) (w1_len : Nat), w1_len = w1.length → ev 25 1 [rI leaf, rI set0, rP 0] [(0, B.blk 22 [dO 1 1 w1_len]), (1, bR 3 1 eI w1)] = (Zo leaf set0 w1).bind (fun (e : Bool) => some (rB e, [(0, B.blk 22 [dO 1 1 w1.length]), (1, bR 3 1 eI w1)])) :=
  by
  intro leaf set0 w1 w1_len h0
  subst h0
  rw [qz qpR qsd.2.2.2 qsp]
  have := qsl; have := @q3X; have := @Zo.eq_1; exact gA
noncomputable def q03 (fu : Nat) (leaf : Int) (set0 : Int) (w1 : List Int) : Option Bool :=
  Option.bind (itT (ZK w1 leaf set0 ((w1.length : Nat) : Int)) fu 0) fun (a : Sum Unit Unit) =>
  Sum.elim (fun (a2 : Unit) => some Bool.false) (fun (a3 : Unit) => some Bool.true) a
theorem q1A (fu : Nat) (leaf set0 : Int) (w1 : List Int) : qk (q03 fu leaf set0 w1) (Zo leaf set0 w1) := by
  unfold q03 Zo
  repeat (first
    | with_reducible exact qk.refl _
    | with_reducible exact qk.none _
    | with_reducible refine qk.bind ?_ (fun _ => ?_)
    | with_reducible refine qk.ite ?_ ?_
    | with_reducible refine qk.sum (fun _ => ?_) (fun _ => ?_)
    | with_reducible refine qk.lim (fun _ => ?_))
noncomputable def qr (x : (qb × List Int × List qa × Int × qd)) : List R × List (Nat × B) := ([R.agg [C.d (D.int .i64 x.1.Kind), C.d (D.int .i64 x.1.N), C.d (D.int .i64 x.1.Min), C.d (D.sl 2 x.1.Set.length (x.1.Set.flatMap qe)), C.d (D.sl 5 x.1.L.length (x.1.L.flatMap qg))], R.c (C.ptr 0 0), R.c (C.ptr 1 0), R.c (C.ptr 3 0), R.c (C.ptr 4 0), R.c (C.ptr 5 0), R.c (C.ptr 6 0)], [(0, B.blk 32 [C.d (D.sl 8 x.2.2.1.length (x.2.2.1.flatMap qf))]), (1, B.blk 62 [C.fn 25 [] [C.ptr 2 0]]), (2, B.blk 22 [C.own 7 1 0 x.2.1.length]), (3, B.blk 3 [C.d (D.int .i64 x.2.2.2.1)]), (4, B.blk 37 [C.d (D.int .i64 x.2.2.2.2.Worst), C.d (D.int .i64 x.2.2.2.2.Best), C.d (D.int .i64 x.2.2.2.2.Pass)]), (5, B.blk 94 [C.fn 45 [] [C.ptr 0 0, C.ptr 1 0, C.ptr 3 0, C.ptr 4 0, C.ptr 5 0, C.ptr 6 0]]), (6, B.blk 62 [C.fn 26 [] [C.ptr 2 0]]), (7, B.row 3 1 ((x.2.1.flatMap eI).map C.d))])
noncomputable def qF : (List Bool × List Int × List qa × Int × qd) → R × List (Nat × B) := fun (e : List Bool × List Int × List qa × Int × qd) => (R.c (C.d (D.sl 1 e.1.length (e.1.flatMap eB))), [(0, B.blk 32 [C.d (D.sl 8 e.2.2.1.length (e.2.2.1.flatMap qf))]), (1, B.blk 62 [C.fn 25 [] [C.ptr 2 0]]), (2, B.blk 22 [C.own 7 1 0 e.2.1.length]), (3, B.blk 3 [C.d (D.int .i64 e.2.2.2.1)]), (4, B.blk 37 [C.d (D.int .i64 e.2.2.2.2.Worst), C.d (D.int .i64 e.2.2.2.2.Best), C.d (D.int .i64 e.2.2.2.2.Pass)]), (5, B.blk 94 [C.fn 45 [] [C.ptr 0 0, C.ptr 1 0, C.ptr 3 0, C.ptr 4 0, C.ptr 5 0, C.ptr 6 0]]), (6, B.blk 62 [C.fn 26 [] [C.ptr 2 0]]), (7, B.row 3 1 ((e.2.1.flatMap eI).map C.d))])
noncomputable def QG (rF : (qb × List Int × List qa × Int × qd) → Option (List Bool × List Int × List qa × Int × qd)) (w7 : List Int) (b0 : List qa) (b3 : Int) (b4 : qd) (b8 : qb) : (List Bool × Int) → Option ((List Bool × Int) ⊕ (List Bool))
  | (w9, b10) =>
    if b10 < ((w9.length : Nat) : Int) then Option.bind (Zo b3 b10 w7) fun (a2 : Bool) =>
      if a2 = Bool.true then Option.bind (QN b8 b4 b0 b10) fun (a3 : ql) =>
        if 0 ≤ b10 ∧ b10 < ((w9.length : Nat) : Int) then if Int.toNat b10 + 1 ≤ w9.length then some (Sum.inl (List.set w9 (Int.toNat b10) (qG a3 b8), w64 (b10 + 1)))
          else none
        else none
      else if 0 ≤ b10 ∧ b10 < ((w9.length : Nat) : Int) then if Int.toNat b10 + 1 ≤ w9.length then some (Sum.inl (List.set w9 (Int.toNat b10) Bool.false, w64 (b10 + 1)))
        else none
      else none
    else some (Sum.inr w9)
theorem q3e (rE : Orc) (rF : (qb × List Int × List qa × Int × qd) → Option (List Bool × List Int × List qa × Int × qd)) (hF : ∀ y, rE (.fn 45) 7 (qr y).1 (qr y).2 = (rF y).bind fun e => some (qF e)) (hM : ∀ g k a G, g ≠ 45 → rE (.fn g) k a G = ev g k a G) (hR : ∀ g asg bd k a G, rE (.rd g asg bd) k a G = evr g asg bd k a G) : ∀ (w7 : List Int) (w9 : List Bool) (b0 : List qa) (b3 b4_Worst b4_Best b4_Pass b8_Kind b8_N b8_Min : Int) (b8_Set : List qc) (b8_L : List qb) (b10 : Int) (w9_len w7_len : Nat), w9_len = w9.length → w7_len = w7.length → XL2 rE 45 7 5 ⟨[(1, rP 0), (2, rP 1), (3, rP 3), (4, rP 4), (7, rP 8), (9, rO 9 1 w9_len), (10, R.c (C.fn 50 [] [])), (11, rP 10)], [(0, B.blk 32 [dL 8 qf b0]), (1, B.blk 62 [C.fn 25 [] [dP 2]]), (2, B.blk 22 [dO 7 1 w7_len]), (3, B.blk 3 [dI b3]), (4, B.blk 37 [dI b4_Worst, dI b4_Best, dI b4_Pass]), (5, B.blk 94 [C.fn 45 [] [dP 0, dP 1, dP 3, dP 4, dP 5, dP 6]]), (6, B.blk 62 [C.fn 26 [] [dP 2]]), (7, bR 3 1 eI w7), (8, B.blk 31 [dI b8_Kind, dI b8_N, dI b8_Min, dL 2 qe b8_Set, dL 5 qg b8_L]), (9, bR 4 1 eB w9), (10, B.blk 3 [dI b10])], 11, 142⟩ = (qN (QG rF w7 b0 b3 (qd.mk b4_Worst b4_Best b4_Pass) (qb.mk b8_Kind b8_N b8_Min b8_Set b8_L)) (w9, b10)).bind (fun (e : List Bool) => some (Go.Exit.exit 0, ⟨[(3, rP 3), (9, rO 8 1 e.length)], [(0, B.blk 32 [dL 8 qf b0]), (1, B.blk 62 [C.fn 25 [] [dP 2]]), (2, B.blk 22 [dO 7 1 w7.length]), (3, B.blk 3 [dI b3]), (4, B.blk 37 [dI b4_Worst, dI b4_Best, dI b4_Pass]), (5, B.blk 94 [C.fn 45 [] [dP 0, dP 1, dP 3, dP 4, dP 5, dP 6]]), (6, B.blk 62 [C.fn 26 [] [dP 2]]), (7, bR 3 1 eI w7), (8, bR 4 1 eB e)], 9, 142⟩)) :=
  by
  intro w7 w9 b0 b3 b4_Worst b4_Best b4_Pass b8_Kind b8_N b8_Min b8_Set b8_L b10 w9_len w7_len h0 h1
  subst h0 h1
  revert b10; revert w9; exact q8F qcy qbV (fun e => by exact ⟨_, rfl, fun h => by cases h⟩) fun w9 b10 => by
    have hF' : ∀ (x0_Kind x0_N x0_Min : Int) (x0_Set : List qc) (x0_L : List qb) (w7 : List Int) (v : List qa) (v2 v3_Worst v3_Best v3_Pass : Int) (w7_len : Nat), w7_len = w7.length → rE (.fn 45) 7 [R.agg [dI x0_Kind, dI x0_N, dI x0_Min, dL 2 qe x0_Set, dL 5 qg x0_L], rP 0, rP 1, rP 3, rP 4, rP 5, rP 6] [(0, B.blk 32 [dL 8 qf v]), (1, B.blk 62 [C.fn 25 [] [dP 2]]), (2, B.blk 22 [dO 7 1 w7_len]), (3, B.blk 3 [dI v2]), (4, B.blk 37 [dI v3_Worst, dI v3_Best, dI v3_Pass]), (5, B.blk 94 [C.fn 45 [] [dP 0, dP 1, dP 3, dP 4, dP 5, dP 6]]), (6, B.blk 62 [C.fn 26 [] [dP 2]]), (7, bR 3 1 eI w7)] = (rF ((qb.mk x0_Kind x0_N x0_Min x0_Set x0_L), w7, v, v2, (qd.mk v3_Worst v3_Best v3_Pass))).bind (fun e => some (rL 1 eB e.1, [(0, B.blk 32 [dL 8 qf e.2.2.1]), (1, B.blk 62 [C.fn 25 [] [dP 2]]), (2, B.blk 22 [dO 7 1 e.2.1.length]), (3, B.blk 3 [dI e.2.2.2.1]), (4, B.blk 37 [dI e.2.2.2.2.Worst, dI e.2.2.2.2.Best, dI e.2.2.2.2.Pass]), (5, B.blk 94 [C.fn 45 [] [dP 0, dP 1, dP 3, dP 4, dP 5, dP 6]]), (6, B.blk 62 [C.fn 26 [] [dP 2]]), (7, bR 3 1 eI e.2.1)])) := by intro x0_Kind x0_N x0_Min x0_Set x0_L w7 v v2 v3_Worst v3_Best v3_Pass w7_len h0; subst h0; exact hF ((qb.mk x0_Kind x0_N x0_Min x0_Set x0_L), w7, v, v2, (qd.mk v3_Worst v3_Best v3_Pass))
    have := qcD; have := @q94.eq_1; have := @q1K; have := @q0b; have := @ZV; have := @QG.eq_1; exact gA
noncomputable def Jq (fu : Nat) (rF : (qb × List Int × List qa × Int × qd) → Option (List Bool × List Int × List qa × Int × qd)) (w7 : List Int) (b0 : List qa) (b3 : Int) (b4 : qd) (b8 : qb) : (List Bool × Int) → Option ((List Bool × Int) ⊕ (List Bool))
  | (w9, b10) =>
    if b10 < ((w9.length : Nat) : Int) then Option.bind (q03 fu b3 b10 w7) fun (a2 : Bool) =>
      if a2 = Bool.true then Option.bind (JY fu b8 b4 b0 b10) fun (a3 : ql) =>
        if 0 ≤ b10 ∧ b10 < ((w9.length : Nat) : Int) then if Int.toNat b10 + 1 ≤ w9.length then some (Sum.inl (List.set w9 (Int.toNat b10) (qG a3 b8), w64 (b10 + 1)))
          else none
        else none
      else if 0 ≤ b10 ∧ b10 < ((w9.length : Nat) : Int) then if Int.toNat b10 + 1 ≤ w9.length then some (Sum.inl (List.set w9 (Int.toNat b10) Bool.false, w64 (b10 + 1)))
        else none
      else none
    else some (Sum.inr w9)
theorem q35 (fu : Nat) (rF rF2 : (qb × List Int × List qa × Int × qd) → Option (List Bool × List Int × List qa × Int × qd)) (hF : ∀ y, qk (rF y) (rF2 y)) (w7 : List Int) (b0 : List qa) (b3 : Int) (b4 : qd) (b8 : qb) : ∀ x, qk (Jq fu rF w7 b0 b3 b4 b8 x) (QG rF2 w7 b0 b3 b4 b8 x) := by
  rintro ⟨w9, b10⟩
  unfold Jq QG
  try dsimp only
  repeat (first
    | with_reducible exact qk.refl _
    | with_reducible exact qk.none _
    | exact hF _
    | with_reducible apply q1A
    | with_reducible apply q0c
    | with_reducible refine qk.bind ?_ (fun _ => ?_)
    | with_reducible refine qk.ite ?_ ?_
    | with_reducible refine qk.sum (fun _ => ?_) (fun _ => ?_)
    | with_reducible refine qk.lim (fun _ => ?_))
noncomputable def Qu (rF : (qb × List Int × List qa × Int × qd) → Option (List Bool × List Int × List qa × Int × qd)) (w7 : List Int) (b0 : List qa) (b3 : Int) (b4 : qd) (b8 : qb) : (List Bool × Int) → Option ((List Bool × Int) ⊕ (List Bool))
  | (w9, b10) =>
    if b10 < ((w9.length : Nat) : Int) then Option.bind (Zo b3 b10 w7) fun (a2 : Bool) =>
      if a2 = Bool.true then Option.bind (QN b8 b4 b0 b10) fun (a3 : ql) =>
        if 0 ≤ b10 ∧ b10 < ((w9.length : Nat) : Int) then if Int.toNat b10 + 1 ≤ w9.length then some (Sum.inl (List.set w9 (Int.toNat b10) (qW a3 b8), w64 (b10 + 1)))
          else none
        else none
      else if 0 ≤ b10 ∧ b10 < ((w9.length : Nat) : Int) then if Int.toNat b10 + 1 ≤ w9.length then some (Sum.inl (List.set w9 (Int.toNat b10) Bool.false, w64 (b10 + 1)))
        else none
      else none
    else some (Sum.inr w9)
theorem q2e (rE : Orc) (rF : (qb × List Int × List qa × Int × qd) → Option (List Bool × List Int × List qa × Int × qd)) (hF : ∀ y, rE (.fn 45) 7 (qr y).1 (qr y).2 = (rF y).bind fun e => some (qF e)) (hM : ∀ g k a G, g ≠ 45 → rE (.fn g) k a G = ev g k a G) (hR : ∀ g asg bd k a G, rE (.rd g asg bd) k a G = evr g asg bd k a G) : ∀ (w7 : List Int) (w9 : List Bool) (b0 : List qa) (b3 b4_Worst b4_Best b4_Pass b8_Kind b8_N b8_Min : Int) (b8_Set : List qc) (b8_L : List qb) (b10 : Int) (w9_len w7_len : Nat), w9_len = w9.length → w7_len = w7.length → XL2 rE 45 7 5 ⟨[(1, rP 0), (2, rP 1), (3, rP 3), (4, rP 4), (7, rP 8), (9, rO 9 1 w9_len), (10, R.c (C.fn 51 [] [])), (11, rP 10)], [(0, B.blk 32 [dL 8 qf b0]), (1, B.blk 62 [C.fn 25 [] [dP 2]]), (2, B.blk 22 [dO 7 1 w7_len]), (3, B.blk 3 [dI b3]), (4, B.blk 37 [dI b4_Worst, dI b4_Best, dI b4_Pass]), (5, B.blk 94 [C.fn 45 [] [dP 0, dP 1, dP 3, dP 4, dP 5, dP 6]]), (6, B.blk 62 [C.fn 26 [] [dP 2]]), (7, bR 3 1 eI w7), (8, B.blk 31 [dI b8_Kind, dI b8_N, dI b8_Min, dL 2 qe b8_Set, dL 5 qg b8_L]), (9, bR 4 1 eB w9), (10, B.blk 3 [dI b10])], 11, 142⟩ = (qN (Qu rF w7 b0 b3 (qd.mk b4_Worst b4_Best b4_Pass) (qb.mk b8_Kind b8_N b8_Min b8_Set b8_L)) (w9, b10)).bind (fun (e : List Bool) => some (Go.Exit.exit 0, ⟨[(3, rP 3), (9, rO 8 1 e.length)], [(0, B.blk 32 [dL 8 qf b0]), (1, B.blk 62 [C.fn 25 [] [dP 2]]), (2, B.blk 22 [dO 7 1 w7.length]), (3, B.blk 3 [dI b3]), (4, B.blk 37 [dI b4_Worst, dI b4_Best, dI b4_Pass]), (5, B.blk 94 [C.fn 45 [] [dP 0, dP 1, dP 3, dP 4, dP 5, dP 6]]), (6, B.blk 62 [C.fn 26 [] [dP 2]]), (7, bR 3 1 eI w7), (8, bR 4 1 eB e)], 9, 142⟩)) :=
  by
  intro w7 w9 b0 b3 b4_Worst b4_Best b4_Pass b8_Kind b8_N b8_Min b8_Set b8_L b10 w9_len w7_len h0 h1
  subst h0 h1
  revert b10; revert w9; exact q8F qcy qbV (fun e => by exact ⟨_, rfl, fun h => by cases h⟩) fun w9 b10 => by
    have hF' : ∀ (x0_Kind x0_N x0_Min : Int) (x0_Set : List qc) (x0_L : List qb) (w7 : List Int) (v : List qa) (v2 v3_Worst v3_Best v3_Pass : Int) (w7_len : Nat), w7_len = w7.length → rE (.fn 45) 7 [R.agg [dI x0_Kind, dI x0_N, dI x0_Min, dL 2 qe x0_Set, dL 5 qg x0_L], rP 0, rP 1, rP 3, rP 4, rP 5, rP 6] [(0, B.blk 32 [dL 8 qf v]), (1, B.blk 62 [C.fn 25 [] [dP 2]]), (2, B.blk 22 [dO 7 1 w7_len]), (3, B.blk 3 [dI v2]), (4, B.blk 37 [dI v3_Worst, dI v3_Best, dI v3_Pass]), (5, B.blk 94 [C.fn 45 [] [dP 0, dP 1, dP 3, dP 4, dP 5, dP 6]]), (6, B.blk 62 [C.fn 26 [] [dP 2]]), (7, bR 3 1 eI w7)] = (rF ((qb.mk x0_Kind x0_N x0_Min x0_Set x0_L), w7, v, v2, (qd.mk v3_Worst v3_Best v3_Pass))).bind (fun e => some (rL 1 eB e.1, [(0, B.blk 32 [dL 8 qf e.2.2.1]), (1, B.blk 62 [C.fn 25 [] [dP 2]]), (2, B.blk 22 [dO 7 1 e.2.1.length]), (3, B.blk 3 [dI e.2.2.2.1]), (4, B.blk 37 [dI e.2.2.2.2.Worst, dI e.2.2.2.2.Best, dI e.2.2.2.2.Pass]), (5, B.blk 94 [C.fn 45 [] [dP 0, dP 1, dP 3, dP 4, dP 5, dP 6]]), (6, B.blk 62 [C.fn 26 [] [dP 2]]), (7, bR 3 1 eI e.2.1)])) := by intro x0_Kind x0_N x0_Min x0_Set x0_L w7 v v2 v3_Worst v3_Best v3_Pass w7_len h0; subst h0; exact hF ((qb.mk x0_Kind x0_N x0_Min x0_Set x0_L), w7, v, v2, (qd.mk v3_Worst v3_Best v3_Pass))
    have := qcD; have := @q94.eq_1; have := @q1K; have := @q0b; have := @q02; have := @Qu.eq_1; exact gA
noncomputable def ZQ (fu : Nat) (rF : (qb × List Int × List qa × Int × qd) → Option (List Bool × List Int × List qa × Int × qd)) (w7 : List Int) (b0 : List qa) (b3 : Int) (b4 : qd) (b8 : qb) : (List Bool × Int) → Option ((List Bool × Int) ⊕ (List Bool))
  | (w9, b10) =>
    if b10 < ((w9.length : Nat) : Int) then Option.bind (q03 fu b3 b10 w7) fun (a2 : Bool) =>
      if a2 = Bool.true then Option.bind (JY fu b8 b4 b0 b10) fun (a3 : ql) =>
        if 0 ≤ b10 ∧ b10 < ((w9.length : Nat) : Int) then if Int.toNat b10 + 1 ≤ w9.length then some (Sum.inl (List.set w9 (Int.toNat b10) (qW a3 b8), w64 (b10 + 1)))
          else none
        else none
      else if 0 ≤ b10 ∧ b10 < ((w9.length : Nat) : Int) then if Int.toNat b10 + 1 ≤ w9.length then some (Sum.inl (List.set w9 (Int.toNat b10) Bool.false, w64 (b10 + 1)))
        else none
      else none
    else some (Sum.inr w9)
theorem q1R (fu : Nat) (rF rF2 : (qb × List Int × List qa × Int × qd) → Option (List Bool × List Int × List qa × Int × qd)) (hF : ∀ y, qk (rF y) (rF2 y)) (w7 : List Int) (b0 : List qa) (b3 : Int) (b4 : qd) (b8 : qb) : ∀ x, qk (ZQ fu rF w7 b0 b3 b4 b8 x) (Qu rF2 w7 b0 b3 b4 b8 x) := by
  rintro ⟨w9, b10⟩
  unfold ZQ Qu
  try dsimp only
  repeat (first
    | with_reducible exact qk.refl _
    | with_reducible exact qk.none _
    | exact hF _
    | with_reducible apply q1A
    | with_reducible apply q0c
    | with_reducible refine qk.bind ?_ (fun _ => ?_)
    | with_reducible refine qk.ite ?_ ?_
    | with_reducible refine qk.sum (fun _ => ?_) (fun _ => ?_)
    | with_reducible refine qk.lim (fun _ => ?_))
noncomputable def Qy (rF : (qb × List Int × List qa × Int × qd) → Option (List Bool × List Int × List qa × Int × qd)) (w7 : List Int) (w9 : List Bool) (b0 : List qa) (b3 : Int) (b4 : qd) (b8 : qb) : (List Int × Int) → Option ((List Int × Int) ⊕ (List Int))
  | (w11, t13) =>
    if t13 < ((w11.length : Nat) : Int) then if 0 ≤ t13 ∧ t13 < ((w11.length : Nat) : Int) then if Int.toNat t13 + 1 ≤ w11.length then some (Sum.inl (List.set w11 (Int.toNat t13) (-1), w64 (t13 + 1)))
        else none
      else none
    else some (Sum.inr w11)
theorem q2z (rE : Orc) (rF : (qb × List Int × List qa × Int × qd) → Option (List Bool × List Int × List qa × Int × qd)) (hF : ∀ y, rE (.fn 45) 7 (qr y).1 (qr y).2 = (rF y).bind fun e => some (qF e)) (hM : ∀ g k a G, g ≠ 45 → rE (.fn g) k a G = ev g k a G) (hR : ∀ g asg bd k a G, rE (.rd g asg bd) k a G = evr g asg bd k a G) : ∀ (w7 : List Int) (w9 : List Bool) (w11 : List Int) (b0 : List qa) (b3 b4_Worst b4_Best b4_Pass b8_Kind b8_N b8_Min : Int) (b8_Set : List qc) (b8_L : List qb) (t13 : Int) (w9_len w7_len w11_len : Nat), w9_len = w9.length → w7_len = w7.length → w11_len = w11.length → XL2 rE 45 7 14 ⟨[(3, rP 3), (5, rP 5), (6, rP 6), (7, rP 8), (9, rO 9 1 w9_len), (12, rP 10), (13, rI t13)], [(0, B.blk 32 [dL 8 qf b0]), (1, B.blk 62 [C.fn 25 [] [dP 2]]), (2, B.blk 22 [dO 7 1 w7_len]), (3, B.blk 3 [dI b3]), (4, B.blk 37 [dI b4_Worst, dI b4_Best, dI b4_Pass]), (5, B.blk 94 [C.fn 45 [] [dP 0, dP 1, dP 3, dP 4, dP 5, dP 6]]), (6, B.blk 62 [C.fn 26 [] [dP 2]]), (7, bR 3 1 eI w7), (8, B.blk 31 [dI b8_Kind, dI b8_N, dI b8_Min, dL 2 qe b8_Set, dL 5 qg b8_L]), (9, bR 4 1 eB w9), (10, B.blk 95 [dO 11 1 w11_len]), (11, bR 3 1 eI w11)], 12, 142⟩ = (qN (Qy rF w7 w9 b0 b3 (qd.mk b4_Worst b4_Best b4_Pass) (qb.mk b8_Kind b8_N b8_Min b8_Set b8_L)) (w11, t13)).bind (fun (e : List Int) => some (Go.Exit.exit 2, ⟨[(3, rP 3), (5, rP 5), (6, rP 6), (7, rP 8), (9, rO 9 1 w9.length), (12, rP 10)], [(0, B.blk 32 [dL 8 qf b0]), (1, B.blk 62 [C.fn 25 [] [dP 2]]), (2, B.blk 22 [dO 7 1 w7.length]), (3, B.blk 3 [dI b3]), (4, B.blk 37 [dI b4_Worst, dI b4_Best, dI b4_Pass]), (5, B.blk 94 [C.fn 45 [] [dP 0, dP 1, dP 3, dP 4, dP 5, dP 6]]), (6, B.blk 62 [C.fn 26 [] [dP 2]]), (7, bR 3 1 eI w7), (8, B.blk 31 [dI b8_Kind, dI b8_N, dI b8_Min, dL 2 qe b8_Set, dL 5 qg b8_L]), (9, bR 4 1 eB w9), (10, B.blk 95 [dO 11 1 e.length]), (11, bR 3 1 eI e)], 12, 142⟩)) :=
  by
  intro w7 w9 w11 b0 b3 b4_Worst b4_Best b4_Pass b8_Kind b8_N b8_Min b8_Set b8_L t13 w9_len w7_len w11_len h0 h1 h2
  subst h0 h1 h2
  revert t13; revert w11; exact q8F qdY qga (fun e => by exact ⟨_, rfl, fun h => by cases h⟩) fun w11 t13 => by
    have hF' : ∀ (x0_Kind x0_N x0_Min : Int) (x0_Set : List qc) (x0_L : List qb) (w7 : List Int) (v : List qa) (v2 v3_Worst v3_Best v3_Pass : Int) (w7_len : Nat), w7_len = w7.length → rE (.fn 45) 7 [R.agg [dI x0_Kind, dI x0_N, dI x0_Min, dL 2 qe x0_Set, dL 5 qg x0_L], rP 0, rP 1, rP 3, rP 4, rP 5, rP 6] [(0, B.blk 32 [dL 8 qf v]), (1, B.blk 62 [C.fn 25 [] [dP 2]]), (2, B.blk 22 [dO 7 1 w7_len]), (3, B.blk 3 [dI v2]), (4, B.blk 37 [dI v3_Worst, dI v3_Best, dI v3_Pass]), (5, B.blk 94 [C.fn 45 [] [dP 0, dP 1, dP 3, dP 4, dP 5, dP 6]]), (6, B.blk 62 [C.fn 26 [] [dP 2]]), (7, bR 3 1 eI w7)] = (rF ((qb.mk x0_Kind x0_N x0_Min x0_Set x0_L), w7, v, v2, (qd.mk v3_Worst v3_Best v3_Pass))).bind (fun e => some (rL 1 eB e.1, [(0, B.blk 32 [dL 8 qf e.2.2.1]), (1, B.blk 62 [C.fn 25 [] [dP 2]]), (2, B.blk 22 [dO 7 1 e.2.1.length]), (3, B.blk 3 [dI e.2.2.2.1]), (4, B.blk 37 [dI e.2.2.2.2.Worst, dI e.2.2.2.2.Best, dI e.2.2.2.2.Pass]), (5, B.blk 94 [C.fn 45 [] [dP 0, dP 1, dP 3, dP 4, dP 5, dP 6]]), (6, B.blk 62 [C.fn 26 [] [dP 2]]), (7, bR 3 1 eI e.2.1)])) := by intro x0_Kind x0_N x0_Min x0_Set x0_L w7 v v2 v3_Worst v3_Best v3_Pass w7_len h0; subst h0; exact hF ((qb.mk x0_Kind x0_N x0_Min x0_Set x0_L), w7, v, v2, (qd.mk v3_Worst v3_Best v3_Pass))
    have := qcD; have := @q9m.eq_1; have := @Qy.eq_1; exact gA
noncomputable def J9 (fu : Nat) (rF : (qb × List Int × List qa × Int × qd) → Option (List Bool × List Int × List qa × Int × qd)) (w7 : List Int) (w9 : List Bool) (b0 : List qa) (b3 : Int) (b4 : qd) (b8 : qb) : (List Int × Int) → Option ((List Int × Int) ⊕ (List Int))
  | (w11, t13) =>
    if t13 < ((w11.length : Nat) : Int) then if 0 ≤ t13 ∧ t13 < ((w11.length : Nat) : Int) then if Int.toNat t13 + 1 ≤ w11.length then some (Sum.inl (List.set w11 (Int.toNat t13) (-1), w64 (t13 + 1)))
        else none
      else none
    else some (Sum.inr w11)
theorem q2I (fu : Nat) (rF rF2 : (qb × List Int × List qa × Int × qd) → Option (List Bool × List Int × List qa × Int × qd)) (hF : ∀ y, qk (rF y) (rF2 y)) (w7 : List Int) (w9 : List Bool) (b0 : List qa) (b3 : Int) (b4 : qd) (b8 : qb) : ∀ x, qk (J9 fu rF w7 w9 b0 b3 b4 b8 x) (Qy rF2 w7 w9 b0 b3 b4 b8 x) := by
  rintro ⟨w11, t13⟩
  unfold J9 Qy
  try dsimp only
  repeat (first
    | with_reducible exact qk.refl _
    | with_reducible exact qk.none _
    | exact hF _
    | with_reducible refine qk.bind ?_ (fun _ => ?_)
    | with_reducible refine qk.ite ?_ ?_
    | with_reducible refine qk.sum (fun _ => ?_) (fun _ => ?_)
    | with_reducible refine qk.lim (fun _ => ?_))
theorem quB : okL 26 qfV := qy (qi qqV) (by kernel_rfl) (by kernel_rfl)
def qtR := JA_ @qfV.eq_1 (JA_ @Try.f26.eq_1 @qqV)
theorem qrM : okL 27 qeJ := qy (qi qpJ) (by kernel_rfl) (by kernel_rfl)
def qtp := JA_ @qeJ.eq_1 (JA_ @Try.f27.eq_1 @qpJ)
theorem qqe : okL 49 qcw := qy (qi qpb) (by kernel_rfl) (by kernel_rfl)
def qpp := JA_ @qcw.eq_1 (JA_ @Try.f49.eq_1 @qpb)
theorem qj8 : lbO 49 2 = qct := Q8 (qi qpb) rfl
theorem qiU : okL 49 qct := zc qqe (List.mem_of_getElem? (i := 0) (by kernel_rfl))
theorem qv7 : okL 28 qec := qy (qi qqq) (by kernel_rfl) (by kernel_rfl)
def qtL := JA_ @qec.eq_1 (JA_ @Try.f28.eq_1 @qqq)
noncomputable def J4 (x : Int) (v : Int) (v2 : Int) : Option Bool :=
  if v ≤ x then some (decide (x < v2))
  else some Bool.false
noncomputable def Zx (x : Int) (v : Int) (v2 : Int) : Bool :=
  if v ≤ x then decide (x < v2)
  else Bool.false
theorem q3Q (x v v2 : Int) : J4 x v v2 = some (Zx x v v2) := by
  unfold J4 Zx
  simp only [zY]
theorem q4i : ∀ (x v v2 : Int), ev 28 2 [rI x, rP 0, rP 1] [(0, B.blk 3 [dI v]), (1, B.blk 3 [dI v2])] = some (rB (Zx x v v2), [(0, B.blk 3 [dI v]), (1, B.blk 3 [dI v2])]) :=
  fun x v v2 => by
    have h : ev 28 2 [rI x, rP 0, rP 1] [(0, B.blk 3 [dI v]), (1, B.blk 3 [dI v2])] = (J4 x v v2).bind (fun (e : Bool) => some (rB e, [(0, B.blk 3 [dI v]), (1, B.blk 3 [dI v2])])) := by
      rw [qz qqq qsk.2.2.2 qv7]
      have := qtL; have := @J4.eq_1; exact gA
    rw [q3Q] at h
    exact h
noncomputable def zD (b0 : Int) (b1 : Int) (s : List Int) (t7 : Int) : Int → Option (Int ⊕ (Int ⊕ Unit))
  | t8 =>
    if t8 < t7 then if 0 ≤ t8 ∧ t8 < ((s.length : Nat) : Int) then Option.bind s[Int.toNat t8]? fun (a : Int) =>
        if Zx a b0 b1 = Bool.true then some (Sum.inr (Sum.inl t8))
        else some (Sum.inl (w64 (t8 + 1)))
      else none
    else some (Sum.inr (Sum.inr ()))
theorem JK : ∀ (b0 b1 : Int) (s : List Int) (t7 t8 : Int), XL2 evo 49 2 2 ⟨[(0, rL 1 eI s), (1, R.c (C.fn 28 [] [dP 0, dP 1])), (7, rI t7), (8, rI t8)], [(0, B.blk 3 [dI b0]), (1, B.blk 3 [dI b1])], 2, 19⟩ = (qN (zD b0 b1 s t7) t8).bind (Sum.elim (fun (e : Int) => some (Go.Exit.ret, ⟨[(4, rI e)], [(0, B.blk 3 [dI b0]), (1, B.blk 3 [dI b1])], 2, 19⟩)) (fun (e : Unit) => some (Go.Exit.exit 0, ⟨[(4, R.any)], [(0, B.blk 3 [dI b0]), (1, B.blk 3 [dI b1])], 2, 19⟩))) :=
  fun b0 b1 s t7 t8 => by
    revert t8; exact qaK qj8 qiU (fun e => by rcases e with _ | _ <;> exact ⟨_, rfl, fun h => by cases h⟩) fun x => by
      have := qpp; have := @qct.eq_1; have := @q4i; have := @zD.eq_1; exact gA
noncomputable def zn (s : List Int) (b0 : Int) (b1 : Int) : Option Int :=
  Option.bind (qN (zD b0 b1 s ((s.length : Nat) : Int)) 0) fun (a : Sum Int Unit) =>
  Sum.elim (fun (a2 : Int) => some a2) (fun (a3 : Unit) => some (-1)) a
theorem q0t : ∀ (s : List Int) (b0 b1 : Int), ev 49 2 [rL 1 eI s, R.c (C.fn 28 [] [dP 0, dP 1])] [(0, B.blk 3 [dI b0]), (1, B.blk 3 [dI b1])] = (zn s b0 b1).bind (fun (e : Int) => some (rI e, [(0, B.blk 3 [dI b0]), (1, B.blk 3 [dI b1])])) :=
  fun s b0 b1 => by
    rw [qz qpb qqm.2.2.2 qqe]
    have := qpp; have := @JK; have := @zn.eq_1; exact gA
noncomputable def Qz (fu : Nat) (s : List Int) (b0 : Int) (b1 : Int) : Option Int :=
  Option.bind (itT (zD b0 b1 s ((s.length : Nat) : Int)) fu 0) fun (a : Sum Int Unit) =>
  Sum.elim (fun (a2 : Int) => some a2) (fun (a3 : Unit) => some (-1)) a
theorem q0u (fu : Nat) (s : List Int) (b0 b1 : Int) : qk (Qz fu s b0 b1) (zn s b0 b1) := by
  unfold Qz zn
  repeat (first
    | with_reducible exact qk.refl _
    | with_reducible exact qk.none _
    | with_reducible refine qk.bind ?_ (fun _ => ?_)
    | with_reducible refine qk.ite ?_ ?_
    | with_reducible refine qk.sum (fun _ => ?_) (fun _ => ?_)
    | with_reducible refine qk.lim (fun _ => ?_))
noncomputable def qV (s : List Int) (b0 : Int) (b1 : Int) : Option Bool :=
  Option.bind (zn s b0 b1) fun (a : Int) =>
  some (decide (0 ≤ a))
theorem JM : ∀ (s : List Int) (b0 b1 : Int), ev 27 2 [rL 1 eI s, R.c (C.fn 28 [] [dP 0, dP 1])] [(0, B.blk 3 [dI b0]), (1, B.blk 3 [dI b1])] = (qV s b0 b1).bind (fun (e : Bool) => some (rB e, [(0, B.blk 3 [dI b0]), (1, B.blk 3 [dI b1])])) :=
  fun s b0 b1 => by
    rw [qz qpJ qry.2.2.2 qrM]
    have := qtp; have := @q0t; have := @qV.eq_1; exact gA
noncomputable def Qm (fu : Nat) (s : List Int) (b0 : Int) (b1 : Int) : Option Bool :=
  Option.bind (Qz fu s b0 b1) fun (a : Int) =>
  some (decide (0 ≤ a))
theorem JL (fu : Nat) (s : List Int) (b0 b1 : Int) : qk (Qm fu s b0 b1) (qV s b0 b1) := by
  unfold Qm qV
  repeat (first
    | with_reducible exact qk.refl _
    | with_reducible exact qk.none _
    | with_reducible apply q0u
    | with_reducible refine qk.bind ?_ (fun _ => ?_)
    | with_reducible refine qk.ite ?_ ?_
    | with_reducible refine qk.sum (fun _ => ?_) (fun _ => ?_)
    | with_reducible refine qk.lim (fun _ => ?_))
noncomputable def J1 (from0 : Int) (to : Int) (w1 : List Int) : Option Bool :=
  Option.bind (qV w1 from0 to) fun (a : Bool) =>
  some a
theorem q6q : ∀ (from0 to : Int) (w1 : List Int) (w1_len : Nat), w1_len = w1.length → ev 26 1 [rI from0, rI to, rP 0] [(0, B.blk 22 [dO 1 1 w1_len]), (1, bR 3 1 eI w1)] = (J1 from0 to w1).bind (fun (e : Bool) => some (rB e, [(0, B.blk 22 [dO 1 1 w1.length]), (1, bR 3 1 eI w1)])) :=
  by
  intro from0 to w1 w1_len h0
  subst h0
  rw [qz qqV qsW.2.2.2 quB]
  have := qtR; have := @JM; have := @J1.eq_1; exact gA
noncomputable def q1l (fu : Nat) (from0 : Int) (to : Int) (w1 : List Int) : Option Bool :=
  Option.bind (Qm fu w1 from0 to) fun (a : Bool) =>
  some a
theorem q5X (fu : Nat) (from0 to : Int) (w1 : List Int) : qk (q1l fu from0 to w1) (J1 from0 to w1) := by
  unfold q1l J1
  repeat (first
    | with_reducible exact qk.refl _
    | with_reducible exact qk.none _
    | with_reducible apply JL
    | with_reducible refine qk.bind ?_ (fun _ => ?_)
    | with_reducible refine qk.ite ?_ ?_
    | with_reducible refine qk.sum (fun _ => ?_) (fun _ => ?_)
    | with_reducible refine qk.lim (fun _ => ?_))
noncomputable def Q6 (rF : (qb × List Int × List qa × Int × qd) → Option (List Bool × List Int × List qa × Int × qd)) (w7 : List Int) (w9 : List Bool) (w11 : List Int) (b0 : List qa) (b3 : Int) (b4 : qd) (b8 : qb) (b12 : List Bool) (t18 : Bool) (t72 : List qb) (t73 : Int) (t74 : Int) (t96 : Int) : (List Int × Int) → Option ((List Int × Int) ⊕ (List Int))
  | (w14, t97) =>
    if t97 < t96 then if 0 ≤ t97 ∧ t97 < ((w14.length : Nat) : Int) then if Int.toNat t97 + 1 ≤ w14.length then if t18 = Bool.true then if 0 ≤ t97 ∧ t97 < ((w11.length : Nat) : Int) then Option.bind w11[Int.toNat t97]? fun (a2 : Int) =>
              if 0 ≤ t97 ∧ t97 < ((w14.length : Nat) : Int) then if Int.toNat t97 + 1 ≤ w14.length then Option.bind (qJ t97 w11 (List.set (List.set w14 (Int.toNat t97) (-1)) (Int.toNat t97) a2) b12 t97) fun (a3 : List Int) =>
                  some (Sum.inl (a3, w64 (t97 + 1)))
                else none
              else none
            else none
          else Option.bind (qJ t97 w11 (List.set w14 (Int.toNat t97) (-1)) b12 t97) fun (a4 : List Int) =>
          some (Sum.inl (a4, w64 (t97 + 1)))
        else none
      else none
    else some (Sum.inr w14)
theorem q2y (rE : Orc) (rF : (qb × List Int × List qa × Int × qd) → Option (List Bool × List Int × List qa × Int × qd)) (hF : ∀ y, rE (.fn 45) 7 (qr y).1 (qr y).2 = (rF y).bind fun e => some (qF e)) (hM : ∀ g k a G, g ≠ 45 → rE (.fn g) k a G = ev g k a G) (hR : ∀ g asg bd k a G, rE (.rd g asg bd) k a G = evr g asg bd k a G) : ∀ (w7 : List Int) (w9 : List Bool) (w11 w14 : List Int) (b0 : List qa) (b3 b4_Worst b4_Best b4_Pass b8_Kind b8_N b8_Min : Int) (b8_Set : List qc) (b8_L : List qb) (b12 : List Bool) (t18 : Bool) (t72 : List qb) (t73 t74 t96 t97 : Int) (w9_len w7_len w11_len w14_len : Nat), w9_len = w9.length → w7_len = w7.length → w11_len = w11.length → w14_len = w14.length → XL2 rE 45 7 25 ⟨[(3, rP 3), (5, rP 5), (6, rP 6), (7, rP 8), (9, rO 9 1 w9_len), (12, rP 10), (17, rP 12), (18, rB t18), (19, rP 13), (72, rL 5 qg t72), (73, rI t73), (74, rI t74), (96, rI t96), (97, rI t97)], [(0, B.blk 32 [dL 8 qf b0]), (1, B.blk 62 [C.fn 25 [] [dP 2]]), (2, B.blk 22 [dO 7 1 w7_len]), (3, B.blk 3 [dI b3]), (4, B.blk 37 [dI b4_Worst, dI b4_Best, dI b4_Pass]), (5, B.blk 94 [C.fn 45 [] [dP 0, dP 1, dP 3, dP 4, dP 5, dP 6]]), (6, B.blk 62 [C.fn 26 [] [dP 2]]), (7, bR 3 1 eI w7), (8, B.blk 31 [dI b8_Kind, dI b8_N, dI b8_Min, dL 2 qe b8_Set, dL 5 qg b8_L]), (9, bR 4 1 eB w9), (10, B.blk 95 [dO 11 1 w11_len]), (11, bR 3 1 eI w11), (12, B.blk 63 [dL 1 eB b12]), (13, B.blk 95 [dO 14 1 w14_len]), (14, bR 3 1 eI w14)], 15, 142⟩ = (qN (Q6 rF w7 w9 w11 b0 b3 (qd.mk b4_Worst b4_Best b4_Pass) (qb.mk b8_Kind b8_N b8_Min b8_Set b8_L) b12 t18 t72 t73 t74 t96) (w14, t97)).bind (fun (e : List Int) => some (Go.Exit.exit 6, ⟨[(3, rP 3), (5, rP 5), (6, rP 6), (7, rP 8), (9, rO 9 1 w9.length), (12, rP 10), (19, rP 12), (72, rL 5 qg t72), (73, rI t73), (74, rI t74)], [(0, B.blk 32 [dL 8 qf b0]), (1, B.blk 62 [C.fn 25 [] [dP 2]]), (2, B.blk 22 [dO 7 1 w7.length]), (3, B.blk 3 [dI b3]), (4, B.blk 37 [dI b4_Worst, dI b4_Best, dI b4_Pass]), (5, B.blk 94 [C.fn 45 [] [dP 0, dP 1, dP 3, dP 4, dP 5, dP 6]]), (6, B.blk 62 [C.fn 26 [] [dP 2]]), (7, bR 3 1 eI w7), (8, B.blk 31 [dI b8_Kind, dI b8_N, dI b8_Min, dL 2 qe b8_Set, dL 5 qg b8_L]), (9, bR 4 1 eB w9), (10, B.blk 95 [dO 11 1 w11.length]), (11, bR 3 1 eI w11), (12, B.blk 95 [dO 13 1 e.length]), (13, bR 3 1 eI e)], 14, 142⟩)) :=
  by
  intro w7 w9 w11 w14 b0 b3 b4_Worst b4_Best b4_Pass b8_Kind b8_N b8_Min b8_Set b8_L b12 t18 t72 t73 t74 t96 t97 w9_len w7_len w11_len w14_len h0 h1 h2 h3
  subst h0 h1 h2 h3
  revert t97; revert w14; exact q8F qeM qew (fun e => by exact ⟨_, rfl, fun h => by cases h⟩) fun w14 t97 => by
    have hF' : ∀ (x0_Kind x0_N x0_Min : Int) (x0_Set : List qc) (x0_L : List qb) (w7 : List Int) (v : List qa) (v2 v3_Worst v3_Best v3_Pass : Int) (w7_len : Nat), w7_len = w7.length → rE (.fn 45) 7 [R.agg [dI x0_Kind, dI x0_N, dI x0_Min, dL 2 qe x0_Set, dL 5 qg x0_L], rP 0, rP 1, rP 3, rP 4, rP 5, rP 6] [(0, B.blk 32 [dL 8 qf v]), (1, B.blk 62 [C.fn 25 [] [dP 2]]), (2, B.blk 22 [dO 7 1 w7_len]), (3, B.blk 3 [dI v2]), (4, B.blk 37 [dI v3_Worst, dI v3_Best, dI v3_Pass]), (5, B.blk 94 [C.fn 45 [] [dP 0, dP 1, dP 3, dP 4, dP 5, dP 6]]), (6, B.blk 62 [C.fn 26 [] [dP 2]]), (7, bR 3 1 eI w7)] = (rF ((qb.mk x0_Kind x0_N x0_Min x0_Set x0_L), w7, v, v2, (qd.mk v3_Worst v3_Best v3_Pass))).bind (fun e => some (rL 1 eB e.1, [(0, B.blk 32 [dL 8 qf e.2.2.1]), (1, B.blk 62 [C.fn 25 [] [dP 2]]), (2, B.blk 22 [dO 7 1 e.2.1.length]), (3, B.blk 3 [dI e.2.2.2.1]), (4, B.blk 37 [dI e.2.2.2.2.Worst, dI e.2.2.2.2.Best, dI e.2.2.2.2.Pass]), (5, B.blk 94 [C.fn 45 [] [dP 0, dP 1, dP 3, dP 4, dP 5, dP 6]]), (6, B.blk 62 [C.fn 26 [] [dP 2]]), (7, bR 3 1 eI e.2.1)])) := by intro x0_Kind x0_N x0_Min x0_Set x0_L w7 v v2 v3_Worst v3_Best v3_Pass w7_len h0; subst h0; exact hF ((qb.mk x0_Kind x0_N x0_Min x0_Set x0_L), w7, v, v2, (qd.mk v3_Worst v3_Best v3_Pass))
    have := qcD; have := @qa2.eq_1; have := @Jo; have := @Q6.eq_1; exact gA
noncomputable def Z8 (fu : Nat) (rF : (qb × List Int × List qa × Int × qd) → Option (List Bool × List Int × List qa × Int × qd)) (w7 : List Int) (w9 : List Bool) (w11 : List Int) (b0 : List qa) (b3 : Int) (b4 : qd) (b8 : qb) (b12 : List Bool) (t18 : Bool) (t72 : List qb) (t73 : Int) (t74 : Int) (t96 : Int) : (List Int × Int) → Option ((List Int × Int) ⊕ (List Int))
  | (w14, t97) =>
    if t97 < t96 then if 0 ≤ t97 ∧ t97 < ((w14.length : Nat) : Int) then if Int.toNat t97 + 1 ≤ w14.length then if t18 = Bool.true then if 0 ≤ t97 ∧ t97 < ((w11.length : Nat) : Int) then Option.bind w11[Int.toNat t97]? fun (a2 : Int) =>
              if 0 ≤ t97 ∧ t97 < ((w14.length : Nat) : Int) then if Int.toNat t97 + 1 ≤ w14.length then Option.bind (zO fu t97 w11 (List.set (List.set w14 (Int.toNat t97) (-1)) (Int.toNat t97) a2) b12 t97) fun (a3 : List Int) =>
                  some (Sum.inl (a3, w64 (t97 + 1)))
                else none
              else none
            else none
          else Option.bind (zO fu t97 w11 (List.set w14 (Int.toNat t97) (-1)) b12 t97) fun (a4 : List Int) =>
          some (Sum.inl (a4, w64 (t97 + 1)))
        else none
      else none
    else some (Sum.inr w14)
theorem q2t (fu : Nat) (rF rF2 : (qb × List Int × List qa × Int × qd) → Option (List Bool × List Int × List qa × Int × qd)) (hF : ∀ y, qk (rF y) (rF2 y)) (w7 : List Int) (w9 : List Bool) (w11 : List Int) (b0 : List qa) (b3 : Int) (b4 : qd) (b8 : qb) (b12 : List Bool) (t18 : Bool) (t72 : List qb) (t73 t74 t96 : Int) : ∀ x, qk (Z8 fu rF w7 w9 w11 b0 b3 b4 b8 b12 t18 t72 t73 t74 t96 x) (Q6 rF2 w7 w9 w11 b0 b3 b4 b8 b12 t18 t72 t73 t74 t96 x) := by
  rintro ⟨w14, t97⟩
  unfold Z8 Q6
  try dsimp only
  repeat (first
    | with_reducible exact qk.refl _
    | with_reducible exact qk.none _
    | exact hF _
    | with_reducible apply JC
    | with_reducible refine qk.bind ?_ (fun _ => ?_)
    | with_reducible refine qk.ite ?_ ?_
    | with_reducible refine qk.sum (fun _ => ?_) (fun _ => ?_)
    | with_reducible refine qk.lim (fun _ => ?_))
noncomputable def Q0 (rF : (qb × List Int × List qa × Int × qd) → Option (List Bool × List Int × List qa × Int × qd)) (w9 : List Bool) (b8 : qb) (t72 : List qb) (t73 : Int) : (List Int × List Int × List qa × Int × qd × Int) → Option ((List Int × List Int × List qa × Int × qd × Int) ⊕ (List Int × List Int × List qa × Int × qd))
  | (w7, w11, b0, b3, b4, t74) =>
    if t74 < t73 then if 0 ≤ t74 ∧ t74 < ((t72.length : Nat) : Int) then Option.bind t72[Int.toNat t74]? fun (a2 : qb) =>
        Option.bind (rF (a2, (w7, (b0, (b3, b4))))) fun (a3 : Prod (List Bool) (Prod (List Int) (Prod (List qa) (Prod Int qd)))) =>
        if (b8.Kind == 4) = Bool.true then Option.bind (J1 b3 a3.2.2.2.1 a3.2.1) fun (a4 : Bool) =>
          if 0 ≤ ((w11.length : Nat) : Int) ∧ 8 * ((w11.length : Nat) : Int) ≤ 281474976710656 ∧ ((w11.length : Nat) : Int) ≤ 9223372036854775807 then Option.bind (qN (Q6 rF a3.2.1 w9 w11 a3.2.2.1 a3.2.2.2.1 a3.2.2.2.2 b8 a3.1 (!a4) t72 t73 t74 ((w11.length : Nat) : Int)) (List.replicate w11.length 0, 0)) fun (a5 : List Int) =>
            some (Sum.inl (a3.2.1, a5, a3.2.2.1, a3.2.2.2.1, a3.2.2.2.2, w64 (t74 + 1)))
          else none
        else if 0 ≤ ((w11.length : Nat) : Int) ∧ 8 * ((w11.length : Nat) : Int) ≤ 281474976710656 ∧ ((w11.length : Nat) : Int) ≤ 9223372036854775807 then Option.bind (qN (Q6 rF a3.2.1 w9 w11 a3.2.2.1 a3.2.2.2.1 a3.2.2.2.2 b8 a3.1 Bool.false t72 t73 t74 ((w11.length : Nat) : Int)) (List.replicate w11.length 0, 0)) fun (a6 : List Int) =>
          some (Sum.inl (a3.2.1, a6, a3.2.2.1, a3.2.2.2.1, a3.2.2.2.2, w64 (t74 + 1)))
        else none
      else none
    else some (Sum.inr (w7, w11, b0, b3, b4))
theorem q2G (rE : Orc) (rF : (qb × List Int × List qa × Int × qd) → Option (List Bool × List Int × List qa × Int × qd)) (hF : ∀ y, rE (.fn 45) 7 (qr y).1 (qr y).2 = (rF y).bind fun e => some (qF e)) (hM : ∀ g k a G, g ≠ 45 → rE (.fn g) k a G = ev g k a G) (hR : ∀ g asg bd k a G, rE (.rd g asg bd) k a G = evr g asg bd k a G) : ∀ (w7 : List Int) (w9 : List Bool) (w11 : List Int) (b0 : List qa) (b3 b4_Worst b4_Best b4_Pass b8_Kind b8_N b8_Min : Int) (b8_Set : List qc) (b8_L t72 : List qb) (t73 t74 : Int) (w9_len w7_len w11_len : Nat), w9_len = w9.length → w7_len = w7.length → w11_len = w11.length → XL2 rE 45 7 18 ⟨[(3, rP 3), (5, rP 5), (6, rP 6), (7, rP 8), (9, rO 9 1 w9_len), (12, rP 10), (72, rL 5 qg t72), (73, rI t73), (74, rI t74)], [(0, B.blk 32 [dL 8 qf b0]), (1, B.blk 62 [C.fn 25 [] [dP 2]]), (2, B.blk 22 [dO 7 1 w7_len]), (3, B.blk 3 [dI b3]), (4, B.blk 37 [dI b4_Worst, dI b4_Best, dI b4_Pass]), (5, B.blk 94 [C.fn 45 [] [dP 0, dP 1, dP 3, dP 4, dP 5, dP 6]]), (6, B.blk 62 [C.fn 26 [] [dP 2]]), (7, bR 3 1 eI w7), (8, B.blk 31 [dI b8_Kind, dI b8_N, dI b8_Min, dL 2 qe b8_Set, dL 5 qg b8_L]), (9, bR 4 1 eB w9), (10, B.blk 95 [dO 11 1 w11_len]), (11, bR 3 1 eI w11)], 12, 142⟩ = (qN (Q0 rF w9 (qb.mk b8_Kind b8_N b8_Min b8_Set b8_L) t72 t73) (w7, w11, b0, b3, (qd.mk b4_Worst b4_Best b4_Pass), t74)).bind (fun (e : List Int × List Int × List qa × Int × qd) => some (Go.Exit.exit 4, ⟨[(7, rP 8), (9, rO 9 1 w9.length), (12, rP 10)], [(0, B.blk 32 [dL 8 qf e.2.2.1]), (1, B.blk 62 [C.fn 25 [] [dP 2]]), (2, B.blk 22 [dO 7 1 e.1.length]), (3, B.blk 3 [dI e.2.2.2.1]), (4, B.blk 37 [dI e.2.2.2.2.Worst, dI e.2.2.2.2.Best, dI e.2.2.2.2.Pass]), (5, B.blk 94 [C.fn 45 [] [dP 0, dP 1, dP 3, dP 4, dP 5, dP 6]]), (6, B.blk 62 [C.fn 26 [] [dP 2]]), (7, bR 3 1 eI e.1), (8, B.blk 31 [dI b8_Kind, dI b8_N, dI b8_Min, dL 2 qe b8_Set, dL 5 qg b8_L]), (9, bR 4 1 eB w9), (10, B.blk 95 [dO 11 1 e.2.1.length]), (11, bR 3 1 eI e.2.1)], 12, 142⟩)) :=
  by
  intro w7 w9 w11 b0 b3 b4_Worst b4_Best b4_Pass b8_Kind b8_N b8_Min b8_Set b8_L t72 t73 t74 w9_len w7_len w11_len h0 h1 h2
  subst h0 h1 h2
  have h := q1e (E := rE) (f := 45) (k := 7) (st := fun x : List Int × List Int × List qa × Int × qd × Int => (⟨[(3, rP 3), (5, rP 5), (6, rP 6), (7, rP 8), (9, rO 9 1 w9.length), (12, rP 10), (72, rL 5 qg t72), (73, rI t73), (74, rI x.2.2.2.2.2)], [(0, B.blk 32 [dL 8 qf x.2.2.1]), (1, B.blk 62 [C.fn 25 [] [dP 2]]), (2, B.blk 22 [dO 7 1 x.1.length]), (3, B.blk 3 [dI x.2.2.2.1]), (4, B.blk 37 [dI x.2.2.2.2.1.Worst, dI x.2.2.2.2.1.Best, dI x.2.2.2.2.1.Pass]), (5, B.blk 94 [C.fn 45 [] [dP 0, dP 1, dP 3, dP 4, dP 5, dP 6]]), (6, B.blk 62 [C.fn 26 [] [dP 2]]), (7, bR 3 1 eI x.1), (8, B.blk 31 [dI b8_Kind, dI b8_N, dI b8_Min, dL 2 qe b8_Set, dL 5 qg b8_L]), (9, bR 4 1 eB w9), (10, B.blk 95 [dO 11 1 x.2.1.length]), (11, bR 3 1 eI x.2.1)], 12, 142⟩ : S)) (ex := fun (e : List Int × List Int × List qa × Int × qd) => (Go.Exit.exit 4, ⟨[(7, rP 8), (9, rO 9 1 w9.length), (12, rP 10)], [(0, B.blk 32 [dL 8 qf e.2.2.1]), (1, B.blk 62 [C.fn 25 [] [dP 2]]), (2, B.blk 22 [dO 7 1 e.1.length]), (3, B.blk 3 [dI e.2.2.2.1]), (4, B.blk 37 [dI e.2.2.2.2.Worst, dI e.2.2.2.2.Best, dI e.2.2.2.2.Pass]), (5, B.blk 94 [C.fn 45 [] [dP 0, dP 1, dP 3, dP 4, dP 5, dP 6]]), (6, B.blk 62 [C.fn 26 [] [dP 2]]), (7, bR 3 1 eI e.1), (8, B.blk 31 [dI b8_Kind, dI b8_N, dI b8_Min, dL 2 qe b8_Set, dL 5 qg b8_L]), (9, bR 4 1 eB w9), (10, B.blk 95 [dO 11 1 e.2.1.length]), (11, bR 3 1 eI e.2.1)], 12, 142⟩)) (step := (Q0 rF w9 (qb.mk b8_Kind b8_N b8_Min b8_Set b8_L) t72 t73)) qgk qgu (fun e h => by cases h) (fun x => by
    obtain ⟨w7, w11, b0, b3, b4, t74⟩ := x; have hF' : ∀ (x0_Kind x0_N x0_Min : Int) (x0_Set : List qc) (x0_L : List qb) (w7 : List Int) (v : List qa) (v2 v3_Worst v3_Best v3_Pass : Int) (w7_len : Nat), w7_len = w7.length → rE (.fn 45) 7 [R.agg [dI x0_Kind, dI x0_N, dI x0_Min, dL 2 qe x0_Set, dL 5 qg x0_L], rP 0, rP 1, rP 3, rP 4, rP 5, rP 6] [(0, B.blk 32 [dL 8 qf v]), (1, B.blk 62 [C.fn 25 [] [dP 2]]), (2, B.blk 22 [dO 7 1 w7_len]), (3, B.blk 3 [dI v2]), (4, B.blk 37 [dI v3_Worst, dI v3_Best, dI v3_Pass]), (5, B.blk 94 [C.fn 45 [] [dP 0, dP 1, dP 3, dP 4, dP 5, dP 6]]), (6, B.blk 62 [C.fn 26 [] [dP 2]]), (7, bR 3 1 eI w7)] = (rF ((qb.mk x0_Kind x0_N x0_Min x0_Set x0_L), w7, v, v2, (qd.mk v3_Worst v3_Best v3_Pass))).bind (fun e => some (rL 1 eB e.1, [(0, B.blk 32 [dL 8 qf e.2.2.1]), (1, B.blk 62 [C.fn 25 [] [dP 2]]), (2, B.blk 22 [dO 7 1 e.2.1.length]), (3, B.blk 3 [dI e.2.2.2.1]), (4, B.blk 37 [dI e.2.2.2.2.Worst, dI e.2.2.2.2.Best, dI e.2.2.2.2.Pass]), (5, B.blk 94 [C.fn 45 [] [dP 0, dP 1, dP 3, dP 4, dP 5, dP 6]]), (6, B.blk 62 [C.fn 26 [] [dP 2]]), (7, bR 3 1 eI e.2.1)])) := by intro x0_Kind x0_N x0_Min x0_Set x0_L w7 v v2 v3_Worst v3_Best v3_Pass w7_len h0; subst h0; exact hF ((qb.mk x0_Kind x0_N x0_Min x0_Set x0_L), w7, v, v2, (qd.mk v3_Worst v3_Best v3_Pass))
    have := qcD; have := @q9p.eq_1; have := @q6q; have := q2y rE rF hF hM hR; have := @Q0.eq_1; exact gA) (w7, w11, b0, b3, (qd.mk b4_Worst b4_Best b4_Pass), t74)
  exact h
noncomputable def Jh (fu : Nat) (rF : (qb × List Int × List qa × Int × qd) → Option (List Bool × List Int × List qa × Int × qd)) (w9 : List Bool) (b8 : qb) (t72 : List qb) (t73 : Int) : (List Int × List Int × List qa × Int × qd × Int) → Option ((List Int × List Int × List qa × Int × qd × Int) ⊕ (List Int × List Int × List qa × Int × qd))
  | (w7, w11, b0, b3, b4, t74) =>
    if t74 < t73 then if 0 ≤ t74 ∧ t74 < ((t72.length : Nat) : Int) then Option.bind t72[Int.toNat t74]? fun (a2 : qb) =>
        Option.bind (rF (a2, (w7, (b0, (b3, b4))))) fun (a3 : Prod (List Bool) (Prod (List Int) (Prod (List qa) (Prod Int qd)))) =>
        if (b8.Kind == 4) = Bool.true then Option.bind (q1l fu b3 a3.2.2.2.1 a3.2.1) fun (a4 : Bool) =>
          if 0 ≤ ((w11.length : Nat) : Int) ∧ 8 * ((w11.length : Nat) : Int) ≤ 281474976710656 ∧ ((w11.length : Nat) : Int) ≤ 9223372036854775807 then Option.bind (itT (Z8 fu rF a3.2.1 w9 w11 a3.2.2.1 a3.2.2.2.1 a3.2.2.2.2 b8 a3.1 (!a4) t72 t73 t74 ((w11.length : Nat) : Int)) fu (List.replicate w11.length 0, 0)) fun (a5 : List Int) =>
            some (Sum.inl (a3.2.1, a5, a3.2.2.1, a3.2.2.2.1, a3.2.2.2.2, w64 (t74 + 1)))
          else none
        else if 0 ≤ ((w11.length : Nat) : Int) ∧ 8 * ((w11.length : Nat) : Int) ≤ 281474976710656 ∧ ((w11.length : Nat) : Int) ≤ 9223372036854775807 then Option.bind (itT (Z8 fu rF a3.2.1 w9 w11 a3.2.2.1 a3.2.2.2.1 a3.2.2.2.2 b8 a3.1 Bool.false t72 t73 t74 ((w11.length : Nat) : Int)) fu (List.replicate w11.length 0, 0)) fun (a6 : List Int) =>
          some (Sum.inl (a3.2.1, a6, a3.2.2.1, a3.2.2.2.1, a3.2.2.2.2, w64 (t74 + 1)))
        else none
      else none
    else some (Sum.inr (w7, w11, b0, b3, b4))
theorem q2Q (fu : Nat) (rF rF2 : (qb × List Int × List qa × Int × qd) → Option (List Bool × List Int × List qa × Int × qd)) (hF : ∀ y, qk (rF y) (rF2 y)) (w9 : List Bool) (b8 : qb) (t72 : List qb) (t73 : Int) : ∀ x, qk (Jh fu rF w9 b8 t72 t73 x) (Q0 rF2 w9 b8 t72 t73 x) := by
  rintro ⟨w7, w11, b0, b3, b4, t74⟩
  unfold Jh Q0
  try dsimp only
  repeat (first
    | with_reducible exact qk.refl _
    | with_reducible exact qk.none _
    | exact hF _
    | with_reducible apply q5X
    | (with_reducible refine q2t _ _ _ hF ..)
    | with_reducible refine qk.bind ?_ (fun _ => ?_)
    | with_reducible refine qk.ite ?_ ?_
    | with_reducible refine qk.sum (fun _ => ?_) (fun _ => ?_)
    | with_reducible refine qk.lim (fun _ => ?_))
noncomputable def Q2 (rF : (qb × List Int × List qa × Int × qd) → Option (List Bool × List Int × List qa × Int × qd)) (w7 : List Int) (w10 : List Int) (b0 : List qa) (b3 : Int) (b4 : qd) (t21 : Int) : (List Bool × Int) → Option ((List Bool × Int) ⊕ (List Bool))
  | (w8, t22) =>
    if t22 < ((w8.length : Nat) : Int) then if 0 ≤ t22 ∧ t22 < ((w10.length : Nat) : Int) then Option.bind w10[Int.toNat t22]? fun (a2 : Int) =>
        if 0 ≤ t22 ∧ t22 < ((w8.length : Nat) : Int) then if Int.toNat t22 + 1 ≤ w8.length then some (Sum.inl (List.set w8 (Int.toNat t22) (decide (t21 ≤ a2)), w64 (t22 + 1)))
          else none
        else none
      else none
    else some (Sum.inr w8)
theorem q2F (rE : Orc) (rF : (qb × List Int × List qa × Int × qd) → Option (List Bool × List Int × List qa × Int × qd)) (hF : ∀ y, rE (.fn 45) 7 (qr y).1 (qr y).2 = (rF y).bind fun e => some (qF e)) (hM : ∀ g k a G, g ≠ 45 → rE (.fn g) k a G = ev g k a G) (hR : ∀ g asg bd k a G, rE (.rd g asg bd) k a G = evr g asg bd k a G) : ∀ (w7 : List Int) (w8 : List Bool) (w10 : List Int) (b0 : List qa) (b3 b4_Worst b4_Best b4_Pass t21 t22 : Int) (w8_len w7_len w10_len : Nat), w8_len = w8.length → w7_len = w7.length → w10_len = w10.length → XL2 rE 45 7 38 ⟨[(9, rO 8 1 w8_len), (12, rP 9), (21, rI t21), (22, rI t22)], [(0, B.blk 32 [dL 8 qf b0]), (1, B.blk 62 [C.fn 25 [] [dP 2]]), (2, B.blk 22 [dO 7 1 w7_len]), (3, B.blk 3 [dI b3]), (4, B.blk 37 [dI b4_Worst, dI b4_Best, dI b4_Pass]), (5, B.blk 94 [C.fn 45 [] [dP 0, dP 1, dP 3, dP 4, dP 5, dP 6]]), (6, B.blk 62 [C.fn 26 [] [dP 2]]), (7, bR 3 1 eI w7), (8, bR 4 1 eB w8), (9, B.blk 95 [dO 10 1 w10_len]), (10, bR 3 1 eI w10)], 11, 142⟩ = (qN (Q2 rF w7 w10 b0 b3 (qd.mk b4_Worst b4_Best b4_Pass) t21) (w8, t22)).bind (fun (e : List Bool) => some (Go.Exit.exit 8, ⟨[(9, rO 8 1 e.length)], [(0, B.blk 32 [dL 8 qf b0]), (1, B.blk 62 [C.fn 25 [] [dP 2]]), (2, B.blk 22 [dO 7 1 w7.length]), (3, B.blk 3 [dI b3]), (4, B.blk 37 [dI b4_Worst, dI b4_Best, dI b4_Pass]), (5, B.blk 94 [C.fn 45 [] [dP 0, dP 1, dP 3, dP 4, dP 5, dP 6]]), (6, B.blk 62 [C.fn 26 [] [dP 2]]), (7, bR 3 1 eI w7), (8, bR 4 1 eB e)], 9, 142⟩)) :=
  by
  intro w7 w8 w10 b0 b3 b4_Worst b4_Best b4_Pass t21 t22 w8_len w7_len w10_len h0 h1 h2
  subst h0 h1 h2
  revert t22; revert w8; exact q8F qg6 qgF (fun e => by exact ⟨_, rfl, fun h => by cases h⟩) fun w8 t22 => by
    have hF' : ∀ (x0_Kind x0_N x0_Min : Int) (x0_Set : List qc) (x0_L : List qb) (w7 : List Int) (v : List qa) (v2 v3_Worst v3_Best v3_Pass : Int) (w7_len : Nat), w7_len = w7.length → rE (.fn 45) 7 [R.agg [dI x0_Kind, dI x0_N, dI x0_Min, dL 2 qe x0_Set, dL 5 qg x0_L], rP 0, rP 1, rP 3, rP 4, rP 5, rP 6] [(0, B.blk 32 [dL 8 qf v]), (1, B.blk 62 [C.fn 25 [] [dP 2]]), (2, B.blk 22 [dO 7 1 w7_len]), (3, B.blk 3 [dI v2]), (4, B.blk 37 [dI v3_Worst, dI v3_Best, dI v3_Pass]), (5, B.blk 94 [C.fn 45 [] [dP 0, dP 1, dP 3, dP 4, dP 5, dP 6]]), (6, B.blk 62 [C.fn 26 [] [dP 2]]), (7, bR 3 1 eI w7)] = (rF ((qb.mk x0_Kind x0_N x0_Min x0_Set x0_L), w7, v, v2, (qd.mk v3_Worst v3_Best v3_Pass))).bind (fun e => some (rL 1 eB e.1, [(0, B.blk 32 [dL 8 qf e.2.2.1]), (1, B.blk 62 [C.fn 25 [] [dP 2]]), (2, B.blk 22 [dO 7 1 e.2.1.length]), (3, B.blk 3 [dI e.2.2.2.1]), (4, B.blk 37 [dI e.2.2.2.2.Worst, dI e.2.2.2.2.Best, dI e.2.2.2.2.Pass]), (5, B.blk 94 [C.fn 45 [] [dP 0, dP 1, dP 3, dP 4, dP 5, dP 6]]), (6, B.blk 62 [C.fn 26 [] [dP 2]]), (7, bR 3 1 eI e.2.1)])) := by intro x0_Kind x0_N x0_Min x0_Set x0_L w7 v v2 v3_Worst v3_Best v3_Pass w7_len h0; subst h0; exact hF ((qb.mk x0_Kind x0_N x0_Min x0_Set x0_L), w7, v, v2, (qd.mk v3_Worst v3_Best v3_Pass))
    have := qcD; have := @qa1.eq_1; have := @Q2.eq_1; exact gA
noncomputable def Z7 (fu : Nat) (rF : (qb × List Int × List qa × Int × qd) → Option (List Bool × List Int × List qa × Int × qd)) (w7 : List Int) (w10 : List Int) (b0 : List qa) (b3 : Int) (b4 : qd) (t21 : Int) : (List Bool × Int) → Option ((List Bool × Int) ⊕ (List Bool))
  | (w8, t22) =>
    if t22 < ((w8.length : Nat) : Int) then if 0 ≤ t22 ∧ t22 < ((w10.length : Nat) : Int) then Option.bind w10[Int.toNat t22]? fun (a2 : Int) =>
        if 0 ≤ t22 ∧ t22 < ((w8.length : Nat) : Int) then if Int.toNat t22 + 1 ≤ w8.length then some (Sum.inl (List.set w8 (Int.toNat t22) (decide (t21 ≤ a2)), w64 (t22 + 1)))
          else none
        else none
      else none
    else some (Sum.inr w8)
theorem q2H (fu : Nat) (rF rF2 : (qb × List Int × List qa × Int × qd) → Option (List Bool × List Int × List qa × Int × qd)) (hF : ∀ y, qk (rF y) (rF2 y)) (w7 w10 : List Int) (b0 : List qa) (b3 : Int) (b4 : qd) (t21 : Int) : ∀ x, qk (Z7 fu rF w7 w10 b0 b3 b4 t21 x) (Q2 rF2 w7 w10 b0 b3 b4 t21 x) := by
  rintro ⟨w8, t22⟩
  unfold Z7 Q2
  try dsimp only
  repeat (first
    | with_reducible exact qk.refl _
    | with_reducible exact qk.none _
    | exact hF _
    | with_reducible refine qk.bind ?_ (fun _ => ?_)
    | with_reducible refine qk.ite ?_ ?_
    | with_reducible refine qk.sum (fun _ => ?_) (fun _ => ?_)
    | with_reducible refine qk.lim (fun _ => ?_))
noncomputable def Qr (rF : (qb × List Int × List qa × Int × qd) → Option (List Bool × List Int × List qa × Int × qd)) : (qb × List Int × List qa × Int × qd) → Option (List Bool × List Int × List qa × Int × qd)
  | (x0, w7, v, v2, v3) =>
    if 0 ≤ ((v.length : Nat) : Int) then if 0 ≤ w64 (1 * 2 ^ min v.length (Go.IntKind.bits Go.IntKind.i64)) ∧ 1 * w64 (1 * 2 ^ min v.length (Go.IntKind.bits Go.IntKind.i64)) ≤ 281474976710656 ∧ w64 (1 * 2 ^ min v.length (Go.IntKind.bits Go.IntKind.i64)) ≤ 9223372036854775807 then if zI x0 = Bool.true then Option.bind (Ze x0.Kind) fun (a2 : Sum Unit Unit) =>
          Sum.elim (fun (a3 : Unit) => Option.bind (qN (QG rF w7 v v2 v3 x0) (List.replicate (Int.toNat (w64 (1 * 2 ^ min v.length (Go.IntKind.bits Go.IntKind.i64)))) Bool.false, 1)) fun (a5 : List Bool) =>
            some (a5, w7, v, w64 (v2 + 1), v3)) (fun (a4 : Unit) => Option.bind (qN (Qu rF w7 v v2 v3 x0) (List.replicate (Int.toNat (w64 (1 * 2 ^ min v.length (Go.IntKind.bits Go.IntKind.i64)))) Bool.false, 1)) fun (a6 : List Bool) =>
            some (a6, w7, v, w64 (v2 + 1), v3)) a2
        else if 0 ≤ ((Int.toNat (w64 (1 * 2 ^ min v.length (Go.IntKind.bits Go.IntKind.i64))) : Nat) : Int) ∧ 8 * ((Int.toNat (w64 (1 * 2 ^ min v.length (Go.IntKind.bits Go.IntKind.i64))) : Nat) : Int) ≤ 281474976710656 ∧ ((Int.toNat (w64 (1 * 2 ^ min v.length (Go.IntKind.bits Go.IntKind.i64))) : Nat) : Int) ≤ 9223372036854775807 then Option.bind (qN (Qy rF w7 (List.replicate (Int.toNat (w64 (1 * 2 ^ min v.length (Go.IntKind.bits Go.IntKind.i64)))) Bool.false) v v2 v3 x0) (List.replicate (Int.toNat (w64 (1 * 2 ^ min v.length (Go.IntKind.bits Go.IntKind.i64)))) 0, 1)) fun (a7 : List Int) =>
          Option.bind (qN (Q0 rF (List.replicate (Int.toNat (w64 (1 * 2 ^ min v.length (Go.IntKind.bits Go.IntKind.i64)))) Bool.false) x0 x0.L ((x0.L.length : Nat) : Int)) (w7, (a7, (v, (v2, (v3, 0)))))) fun (a8 : Prod (List Int) (Prod (List Int) (Prod (List qa) (Prod Int qd)))) =>
          if (x0.Kind == 3) = Bool.true then Option.bind (qN (Q2 rF a8.1 a8.2.1 a8.2.2.1 a8.2.2.2.1 a8.2.2.2.2 ((x0.L.length : Nat) : Int)) (List.replicate (Int.toNat (w64 (1 * 2 ^ min v.length (Go.IntKind.bits Go.IntKind.i64)))) Bool.false, 1)) fun (a9 : List Bool) =>
            some (a9, a8.1, a8.2.2.1, a8.2.2.2.1, a8.2.2.2.2)
          else Option.bind (qN (Q2 rF a8.1 a8.2.1 a8.2.2.1 a8.2.2.2.1 a8.2.2.2.2 x0.N) (List.replicate (Int.toNat (w64 (1 * 2 ^ min v.length (Go.IntKind.bits Go.IntKind.i64)))) Bool.false, 1)) fun (a10 : List Bool) =>
          some (a10, a8.1, a8.2.2.1, a8.2.2.2.1, a8.2.2.2.2)
        else none
      else none
    else none
theorem q1a : q4a 45 7 qr qF Qr := by
  intro rE rF hF hM hR x
  obtain ⟨x0, w7, v, v2, v3⟩ := x
  show q6D rE 45 7 [R.agg [dI x0.Kind, dI x0.N, dI x0.Min, dL 2 qe x0.Set, dL 5 qg x0.L], rP 0, rP 1, rP 3, rP 4, rP 5, rP 6] [(0, B.blk 32 [dL 8 qf v]), (1, B.blk 62 [C.fn 25 [] [dP 2]]), (2, B.blk 22 [dO 7 1 w7.length]), (3, B.blk 3 [dI v2]), (4, B.blk 37 [dI v3.Worst, dI v3.Best, dI v3.Pass]), (5, B.blk 94 [C.fn 45 [] [dP 0, dP 1, dP 3, dP 4, dP 5, dP 6]]), (6, B.blk 62 [C.fn 26 [] [dP 2]]), (7, bR 3 1 eI w7)] = _
  have hF' : ∀ (x0_Kind x0_N x0_Min : Int) (x0_Set : List qc) (x0_L : List qb) (w7 : List Int) (v : List qa) (v2 v3_Worst v3_Best v3_Pass : Int) (w7_len : Nat), w7_len = w7.length → rE (.fn 45) 7 [R.agg [dI x0_Kind, dI x0_N, dI x0_Min, dL 2 qe x0_Set, dL 5 qg x0_L], rP 0, rP 1, rP 3, rP 4, rP 5, rP 6] [(0, B.blk 32 [dL 8 qf v]), (1, B.blk 62 [C.fn 25 [] [dP 2]]), (2, B.blk 22 [dO 7 1 w7_len]), (3, B.blk 3 [dI v2]), (4, B.blk 37 [dI v3_Worst, dI v3_Best, dI v3_Pass]), (5, B.blk 94 [C.fn 45 [] [dP 0, dP 1, dP 3, dP 4, dP 5, dP 6]]), (6, B.blk 62 [C.fn 26 [] [dP 2]]), (7, bR 3 1 eI w7)] = (rF ((qb.mk x0_Kind x0_N x0_Min x0_Set x0_L), w7, v, v2, (qd.mk v3_Worst v3_Best v3_Pass))).bind (fun e => some (rL 1 eB e.1, [(0, B.blk 32 [dL 8 qf e.2.2.1]), (1, B.blk 62 [C.fn 25 [] [dP 2]]), (2, B.blk 22 [dO 7 1 e.2.1.length]), (3, B.blk 3 [dI e.2.2.2.1]), (4, B.blk 37 [dI e.2.2.2.2.Worst, dI e.2.2.2.2.Best, dI e.2.2.2.2.Pass]), (5, B.blk 94 [C.fn 45 [] [dP 0, dP 1, dP 3, dP 4, dP 5, dP 6]]), (6, B.blk 62 [C.fn 26 [] [dP 2]]), (7, bR 3 1 eI e.2.1)])) := by intro x0_Kind x0_N x0_Min x0_Set x0_L w7 v v2 v3_Worst v3_Best v3_Pass w7_len h0; subst h0; exact hF ((qb.mk x0_Kind x0_N x0_Min x0_Set x0_L), w7, v, v2, (qd.mk v3_Worst v3_Best v3_Pass))
  rw [q14 qgZ qkT]
  have := qcD; have := @q0E; have := @q1d; have := q3e rE rF hF hM hR; have := q2e rE rF hF hM hR; have := q2z rE rF hF hM hR; have := q2G rE rF hF hM hR; have := q2F rE rF hF hM hR; have := @Qr.eq_1; have := @qF.eq_1; exact gA
theorem JQ : ∀ x y, qr x = qr y → x = y := by
  rintro ⟨⟨a0_0, a0_1, a0_2, a0_3, a0_4⟩, a1, a2, a3, ⟨a4_0, a4_1, a4_2⟩⟩ ⟨⟨b0_0, b0_1, b0_2, b0_3, b0_4⟩, b1, b2, b3, ⟨b4_0, b4_1, b4_2⟩⟩ h
  simp only [qr, Prod.mk.injEq, List.cons.injEq, R.c.injEq, R.agg.injEq, R.tup.injEq, C.d.injEq, C.own.injEq, C.ptr.injEq, C.eptr.injEq, D.int.injEq, D.bool.injEq, D.str.injEq, D.sl.injEq, B.blk.injEq, B.row.injEq, Zu, JO, ZC, ZU, Jb, q0Q, Zw, q0Y, true_and, and_true, List.nil_append] at h
  simp only [h]
theorem q3d : ∀ x y, qF x = qF y → x = y := by
  rintro ⟨a0, a1, a2, a3, ⟨a4_0, a4_1, a4_2⟩⟩ ⟨b0, b1, b2, b3, ⟨b4_0, b4_1, b4_2⟩⟩ h
  simp only [qF, Prod.mk.injEq, List.cons.injEq, R.c.injEq, R.agg.injEq, R.tup.injEq, C.d.injEq, C.own.injEq, C.ptr.injEq, C.eptr.injEq, D.int.injEq, D.bool.injEq, D.str.injEq, D.sl.injEq, B.blk.injEq, B.row.injEq, Zu, JO, ZC, ZU, Jb, q0Q, Zw, q0Y, true_and, and_true, List.nil_append] at h
  simp only [h]
noncomputable def QU : (qb × List Int × List qa × Int × qd) → Option (List Bool × List Int × List qa × Int × qd) := q4p 45 7 qr qF
theorem q5J (x : (qb × List Int × List qa × Int × qd)) : QU x = Qr QU x := q8u qnA.2.2.2 JQ q3d q1a x
theorem q4t (x0 : qb) (w7 : List Int) (v : List qa) (v2 : Int) (v3 : qd) : ev 45 7 [R.agg [dI x0.Kind, dI x0.N, dI x0.Min, dL 2 qe x0.Set, dL 5 qg x0.L], rP 0, rP 1, rP 3, rP 4, rP 5, rP 6] [(0, B.blk 32 [dL 8 qf v]), (1, B.blk 62 [C.fn 25 [] [dP 2]]), (2, B.blk 22 [dO 7 1 w7.length]), (3, B.blk 3 [dI v2]), (4, B.blk 37 [dI v3.Worst, dI v3.Best, dI v3.Pass]), (5, B.blk 94 [C.fn 45 [] [dP 0, dP 1, dP 3, dP 4, dP 5, dP 6]]), (6, B.blk 62 [C.fn 26 [] [dP 2]]), (7, bR 3 1 eI w7)] = (QU (x0, w7, v, v2, v3)).bind (fun (e : List Bool × List Int × List qa × Int × qd) => some (rL 1 eB e.1, [(0, B.blk 32 [dL 8 qf e.2.2.1]), (1, B.blk 62 [C.fn 25 [] [dP 2]]), (2, B.blk 22 [dO 7 1 e.2.1.length]), (3, B.blk 3 [dI e.2.2.2.1]), (4, B.blk 37 [dI e.2.2.2.2.Worst, dI e.2.2.2.2.Best, dI e.2.2.2.2.Pass]), (5, B.blk 94 [C.fn 45 [] [dP 0, dP 1, dP 3, dP 4, dP 5, dP 6]]), (6, B.blk 62 [C.fn 26 [] [dP 2]]), (7, bR 3 1 eI e.2.1)])) := (q5i qnA.2.2.2 JQ q1a (x0, w7, v, v2, v3))
theorem q5r : ∀ (x0_Kind x0_N x0_Min : Int) (x0_Set : List qc) (x0_L : List qb) (w7 : List Int) (v : List qa) (v2 v3_Worst v3_Best v3_Pass : Int) (w7_len : Nat), w7_len = w7.length → ev 45 7 [R.agg [dI x0_Kind, dI x0_N, dI x0_Min, dL 2 qe x0_Set, dL 5 qg x0_L], rP 0, rP 1, rP 3, rP 4, rP 5, rP 6] [(0, B.blk 32 [dL 8 qf v]), (1, B.blk 62 [C.fn 25 [] [dP 2]]), (2, B.blk 22 [dO 7 1 w7_len]), (3, B.blk 3 [dI v2]), (4, B.blk 37 [dI v3_Worst, dI v3_Best, dI v3_Pass]), (5, B.blk 94 [C.fn 45 [] [dP 0, dP 1, dP 3, dP 4, dP 5, dP 6]]), (6, B.blk 62 [C.fn 26 [] [dP 2]]), (7, bR 3 1 eI w7)] = (QU ((qb.mk x0_Kind x0_N x0_Min x0_Set x0_L), w7, v, v2, (qd.mk v3_Worst v3_Best v3_Pass))).bind (fun (e : List Bool × List Int × List qa × Int × qd) => some (rL 1 eB e.1, [(0, B.blk 32 [dL 8 qf e.2.2.1]), (1, B.blk 62 [C.fn 25 [] [dP 2]]), (2, B.blk 22 [dO 7 1 e.2.1.length]), (3, B.blk 3 [dI e.2.2.2.1]), (4, B.blk 37 [dI e.2.2.2.2.Worst, dI e.2.2.2.2.Best, dI e.2.2.2.2.Pass]), (5, B.blk 94 [C.fn 45 [] [dP 0, dP 1, dP 3, dP 4, dP 5, dP 6]]), (6, B.blk 62 [C.fn 26 [] [dP 2]]), (7, bR 3 1 eI e.2.1)])) :=
  by
  intro x0_Kind x0_N x0_Min x0_Set x0_L w7 v v2 v3_Worst v3_Best v3_Pass w7_len h0
  subst h0
  exact q4t (qb.mk x0_Kind x0_N x0_Min x0_Set x0_L) w7 v v2 (qd.mk v3_Worst v3_Best v3_Pass)
noncomputable def ZT (fu : Nat) (rF : (qb × List Int × List qa × Int × qd) → Option (List Bool × List Int × List qa × Int × qd)) : (qb × List Int × List qa × Int × qd) → Option (List Bool × List Int × List qa × Int × qd)
  | (x0, w7, v, v2, v3) =>
    if 0 ≤ ((v.length : Nat) : Int) then if 0 ≤ w64 (1 * 2 ^ min v.length (Go.IntKind.bits Go.IntKind.i64)) ∧ 1 * w64 (1 * 2 ^ min v.length (Go.IntKind.bits Go.IntKind.i64)) ≤ 281474976710656 ∧ w64 (1 * 2 ^ min v.length (Go.IntKind.bits Go.IntKind.i64)) ≤ 9223372036854775807 then if zI x0 = Bool.true then Option.bind (Ze x0.Kind) fun (a2 : Sum Unit Unit) =>
          Sum.elim (fun (a3 : Unit) => Option.bind (itT (Jq fu rF w7 v v2 v3 x0) fu (List.replicate (Int.toNat (w64 (1 * 2 ^ min v.length (Go.IntKind.bits Go.IntKind.i64)))) Bool.false, 1)) fun (a5 : List Bool) =>
            some (a5, w7, v, w64 (v2 + 1), v3)) (fun (a4 : Unit) => Option.bind (itT (ZQ fu rF w7 v v2 v3 x0) fu (List.replicate (Int.toNat (w64 (1 * 2 ^ min v.length (Go.IntKind.bits Go.IntKind.i64)))) Bool.false, 1)) fun (a6 : List Bool) =>
            some (a6, w7, v, w64 (v2 + 1), v3)) a2
        else if 0 ≤ ((Int.toNat (w64 (1 * 2 ^ min v.length (Go.IntKind.bits Go.IntKind.i64))) : Nat) : Int) ∧ 8 * ((Int.toNat (w64 (1 * 2 ^ min v.length (Go.IntKind.bits Go.IntKind.i64))) : Nat) : Int) ≤ 281474976710656 ∧ ((Int.toNat (w64 (1 * 2 ^ min v.length (Go.IntKind.bits Go.IntKind.i64))) : Nat) : Int) ≤ 9223372036854775807 then Option.bind (itT (J9 fu rF w7 (List.replicate (Int.toNat (w64 (1 * 2 ^ min v.length (Go.IntKind.bits Go.IntKind.i64)))) Bool.false) v v2 v3 x0) fu (List.replicate (Int.toNat (w64 (1 * 2 ^ min v.length (Go.IntKind.bits Go.IntKind.i64)))) 0, 1)) fun (a7 : List Int) =>
          Option.bind (itT (Jh fu rF (List.replicate (Int.toNat (w64 (1 * 2 ^ min v.length (Go.IntKind.bits Go.IntKind.i64)))) Bool.false) x0 x0.L ((x0.L.length : Nat) : Int)) fu (w7, (a7, (v, (v2, (v3, 0)))))) fun (a8 : Prod (List Int) (Prod (List Int) (Prod (List qa) (Prod Int qd)))) =>
          if (x0.Kind == 3) = Bool.true then Option.bind (itT (Z7 fu rF a8.1 a8.2.1 a8.2.2.1 a8.2.2.2.1 a8.2.2.2.2 ((x0.L.length : Nat) : Int)) fu (List.replicate (Int.toNat (w64 (1 * 2 ^ min v.length (Go.IntKind.bits Go.IntKind.i64)))) Bool.false, 1)) fun (a9 : List Bool) =>
            some (a9, a8.1, a8.2.2.1, a8.2.2.2.1, a8.2.2.2.2)
          else Option.bind (itT (Z7 fu rF a8.1 a8.2.1 a8.2.2.1 a8.2.2.2.1 a8.2.2.2.2 x0.N) fu (List.replicate (Int.toNat (w64 (1 * 2 ^ min v.length (Go.IntKind.bits Go.IntKind.i64)))) Bool.false, 1)) fun (a10 : List Bool) =>
          some (a10, a8.1, a8.2.2.1, a8.2.2.2.1, a8.2.2.2.2)
        else none
      else none
    else none
theorem q1Z (fu : Nat) (rF rF2 : (qb × List Int × List qa × Int × qd) → Option (List Bool × List Int × List qa × Int × qd)) (hF : ∀ y, qk (rF y) (rF2 y)) : ∀ x, qk (ZT fu rF x) (Qr rF2 x) := by
  rintro ⟨x0, w7, v, v2, v3⟩
  unfold ZT Qr
  try dsimp only
  repeat (first
    | with_reducible exact qk.refl _
    | with_reducible exact qk.none _
    | exact hF _
    | (with_reducible refine q35 _ _ _ hF ..)
    | (with_reducible refine q1R _ _ _ hF ..)
    | (with_reducible refine q2I _ _ _ hF ..)
    | (with_reducible refine q2Q _ _ _ hF ..)
    | (with_reducible refine q2H _ _ _ hF ..)
    | with_reducible refine qk.bind ?_ (fun _ => ?_)
    | with_reducible refine qk.ite ?_ ?_
    | with_reducible refine qk.sum (fun _ => ?_) (fun _ => ?_)
    | with_reducible refine qk.lim (fun _ => ?_))
noncomputable def q3u (fu : Nat) (x : (qb × List Int × List qa × Int × qd)) : Option (List Bool × List Int × List qa × Int × qd) := itR (ZT fu) fu x
theorem q4V (fu : Nat) (x : (qb × List Int × List qa × Int × qd)) : qk (q3u fu x) (QU x) := qk.rec q5J (q1Z fu) fu x
noncomputable def JJ (n : qb) (s : qd) (l : List qa) (w1 : List Int) : Option (List Bool × List Int) :=
  Option.bind (QU (n, (w1, (l, (0, s))))) fun (a : Prod (List Bool) (Prod (List Int) (Prod (List qa) (Prod Int qd)))) =>
  some (a.1, a.2.1)
theorem q7q : ∀ (n_Kind n_N n_Min : Int) (n_Set : List qc) (n_L : List qb) (s_Worst s_Best s_Pass : Int) (l : List qa) (w1 : List Int) (w1_len : Nat), w1_len = w1.length → ev 24 1 [R.agg [dI n_Kind, dI n_N, dI n_Min, dL 2 qe n_Set, dL 5 qg n_L], R.agg [dI s_Worst, dI s_Best, dI s_Pass], rL 8 qf l, R.c (C.fn 25 [] [dP 0]), R.c (C.fn 26 [] [dP 0])] [(0, B.blk 22 [dO 1 1 w1_len]), (1, bR 3 1 eI w1)] = (JJ (qb.mk n_Kind n_N n_Min n_Set n_L) (qd.mk s_Worst s_Best s_Pass) l w1).bind (fun (e : List Bool × List Int) => some (rL 1 eB e.1, [(0, B.blk 22 [dO 1 1 e.2.length]), (1, bR 3 1 eI e.2)])) :=
  by
  intro n_Kind n_N n_Min n_Set n_L s_Worst s_Best s_Pass l w1 w1_len h0
  subst h0
  rw [qz qpx qrB.2.2.2 qrW]
  have := qsT; have := @q5r; have := @JJ.eq_1; exact gA
noncomputable def q2g (fu : Nat) (n : qb) (s : qd) (l : List qa) (w1 : List Int) : Option (List Bool × List Int) :=
  Option.bind (q3u fu (n, (w1, (l, (0, s))))) fun (a : Prod (List Bool) (Prod (List Int) (Prod (List qa) (Prod Int qd)))) =>
  some (a.1, a.2.1)
theorem q7f (fu : Nat) (n : qb) (s : qd) (l : List qa) (w1 : List Int) : qk (q2g fu n s l w1) (JJ n s l w1) := by
  unfold q2g JJ
  repeat (first
    | with_reducible exact qk.refl _
    | with_reducible exact qk.none _
    | with_reducible apply q4V
    | with_reducible refine qk.bind ?_ (fun _ => ?_)
    | with_reducible refine qk.ite ?_ ?_
    | with_reducible refine qk.sum (fun _ => ?_) (fun _ => ?_)
    | with_reducible refine qk.lim (fun _ => ?_))
noncomputable def Zk (w4 : List Int) (b0 : qb) (b1 : qd) (t2 : List qa) (t3 : Int) (t16 : Int) (t49 : Int) (t50 : Int) : (List Int) → Option ((List Int) ⊕ (List Int))
  | w3 =>
    Option.bind (JJ b0 b1 t2 w3) fun (a : Prod (List Bool) (List Int)) =>
    if 0 ≤ t3 ∧ t3 < ((a.1.length : Nat) : Int) then Option.bind a.1[Int.toNat t3]? fun (a2 : Bool) =>
      if (!a2) = Bool.true then if 0 ≤ t16 ∧ t16 < ((a.2.length : Nat) : Int) then Option.bind a.2[Int.toNat t16]? fun (a3 : Int) =>
          if 0 ≤ t16 ∧ t16 < ((a.2.length : Nat) : Int) then if Int.toNat t16 + 1 ≤ a.2.length then some (Sum.inl (List.set a.2 (Int.toNat t16) (w64 (a3 + 1))))
            else none
          else none
        else none
      else some (Sum.inr a.2)
    else none
theorem q4M : ∀ (w3 w4 : List Int) (b0_Kind b0_N b0_Min : Int) (b0_Set : List qc) (b0_L : List qb) (b1_Worst b1_Best b1_Pass : Int) (t2 : List qa) (t3 t16 t49 t50 : Int) (w4_len w3_len : Nat), w4_len = w4.length → w3_len = w3.length → XL2 evo 11 0 14 ⟨[(2, rL 8 qf t2), (3, rI t3), (4, rP 0), (5, rP 1), (12, rP 2), (13, R.c (C.fn 25 [] [dP 2])), (14, R.c (C.fn 26 [] [dP 2])), (15, rO 4 1 w4_len), (16, rI t16), (49, rI t49), (50, rI t50)], [(0, B.blk 31 [dI b0_Kind, dI b0_N, dI b0_Min, dL 2 qe b0_Set, dL 5 qg b0_L]), (1, B.blk 37 [dI b1_Worst, dI b1_Best, dI b1_Pass]), (2, B.blk 22 [dO 3 1 w3_len]), (3, bR 3 1 eI w3), (4, bR 3 1 eI w4)], 5, 89⟩ = (qN (Zk w4 (qb.mk b0_Kind b0_N b0_Min b0_Set b0_L) (qd.mk b1_Worst b1_Best b1_Pass) t2 t3 t16 t49 t50) w3).bind (fun (e : List Int) => some (Go.Exit.exit 2, ⟨[(2, rL 8 qf t2), (3, rI t3), (4, rP 0), (5, rP 1), (12, rP 2), (13, R.c (C.fn 25 [] [dP 2])), (14, R.c (C.fn 26 [] [dP 2])), (15, rO 4 1 w4.length), (16, rI t16), (49, rI t49), (50, rI t50)], [(0, B.blk 31 [dI b0_Kind, dI b0_N, dI b0_Min, dL 2 qe b0_Set, dL 5 qg b0_L]), (1, B.blk 37 [dI b1_Worst, dI b1_Best, dI b1_Pass]), (2, B.blk 22 [dO 3 1 e.length]), (3, bR 3 1 eI e), (4, bR 3 1 eI w4)], 5, 89⟩)) :=
  by
  intro w3 w4 b0_Kind b0_N b0_Min b0_Set b0_L b1_Worst b1_Best b1_Pass t2 t3 t16 t49 t50 w4_len w3_len h0 h1
  subst h0 h1
  revert w3; exact qaK qky qlu (fun e => by exact ⟨_, rfl, fun h => by cases h⟩) fun x => by
    have := qq5; have := @qbB.eq_1; have := @q7q; have := @Zk.eq_1; exact gA
noncomputable def q0o (fu : Nat) (w4 : List Int) (b0 : qb) (b1 : qd) (t2 : List qa) (t3 : Int) (t16 : Int) (t49 : Int) (t50 : Int) : (List Int) → Option ((List Int) ⊕ (List Int))
  | w3 =>
    Option.bind (q2g fu b0 b1 t2 w3) fun (a : Prod (List Bool) (List Int)) =>
    if 0 ≤ t3 ∧ t3 < ((a.1.length : Nat) : Int) then Option.bind a.1[Int.toNat t3]? fun (a2 : Bool) =>
      if (!a2) = Bool.true then if 0 ≤ t16 ∧ t16 < ((a.2.length : Nat) : Int) then Option.bind a.2[Int.toNat t16]? fun (a3 : Int) =>
          if 0 ≤ t16 ∧ t16 < ((a.2.length : Nat) : Int) then if Int.toNat t16 + 1 ≤ a.2.length then some (Sum.inl (List.set a.2 (Int.toNat t16) (w64 (a3 + 1))))
            else none
          else none
        else none
      else some (Sum.inr a.2)
    else none
theorem q4J (fu : Nat) (w4 : List Int) (b0 : qb) (b1 : qd) (t2 : List qa) (t3 t16 t49 t50 : Int) : ∀ x, qk (q0o fu w4 b0 b1 t2 t3 t16 t49 t50 x) (Zk w4 b0 b1 t2 t3 t16 t49 t50 x) := by
  rintro w3
  unfold q0o Zk
  try dsimp only
  repeat (first
    | with_reducible exact qk.refl _
    | with_reducible exact qk.none _
    | with_reducible apply q7f
    | with_reducible refine qk.bind ?_ (fun _ => ?_)
    | with_reducible refine qk.ite ?_ ?_
    | with_reducible refine qk.sum (fun _ => ?_) (fun _ => ?_)
    | with_reducible refine qk.lim (fun _ => ?_))
noncomputable def QV (b0 : qb) (b1 : qd) (t2 : List qa) (t3 : Int) (t49 : Int) : (List Int × List Int × Int) → Option ((List Int × List Int × Int) ⊕ (List Int))
  | (w3, w4, t50) =>
    if t50 < t49 then if w3.length + 1 ≤ Go.maxLen ∧ (w3.length + 1) * 8 ≤ 140737488355328 then if 0 ≤ t50 then if (J0 Go.BinOp.and Go.IntKind.i64 (Int.fdiv t3 (2 ^ min (Int.toNat t50) (Go.IntKind.bits Go.IntKind.i64))) 1 == 0) = Bool.true then some (Sum.inl (w3 ++ [(-1)], w4, w64 (t50 + 1)))
          else if 0 ≤ t50 ∧ t50 < ((w3.length + 1 : Nat) : Int) then if Int.toNat t50 ≤ w3.length then Option.bind (qN (Zk w4 b0 b1 t2 t3 t50 t49 t50) (List.set (w3 ++ [(-1)]) (Int.toNat t50) 0)) fun (a : List Int) =>
              if 0 ≤ t50 ∧ t50 < ((a.length : Nat) : Int) then Option.bind a[Int.toNat t50]? fun (a2 : Int) =>
                if w4.length + 1 ≤ Go.maxLen ∧ (w4.length + 1) * 8 ≤ 140737488355328 then some (Sum.inl (a, w4 ++ [a2], w64 (t50 + 1)))
                else none
              else none
            else none
          else none
        else none
      else none
    else some (Sum.inr w4)
theorem q5z : ∀ (w3 w4 : List Int) (b0_Kind b0_N b0_Min : Int) (b0_Set : List qc) (b0_L : List qb) (b1_Worst b1_Best b1_Pass : Int) (t2 : List qa) (t3 t49 t50 : Int) (w4_len w3_len : Nat), w4_len = w4.length → w3_len = w3.length → XL2 evo 11 0 9 ⟨[(2, rL 8 qf t2), (3, rI t3), (4, rP 0), (5, rP 1), (12, rP 2), (13, R.c (C.fn 25 [] [dP 2])), (14, R.c (C.fn 26 [] [dP 2])), (15, rO 4 1 w4_len), (49, rI t49), (50, rI t50)], [(0, B.blk 31 [dI b0_Kind, dI b0_N, dI b0_Min, dL 2 qe b0_Set, dL 5 qg b0_L]), (1, B.blk 37 [dI b1_Worst, dI b1_Best, dI b1_Pass]), (2, B.blk 22 [dO 3 1 w3_len]), (3, bR 3 1 eI w3), (4, bR 3 1 eI w4)], 5, 89⟩ = (qN (QV (qb.mk b0_Kind b0_N b0_Min b0_Set b0_L) (qd.mk b1_Worst b1_Best b1_Pass) t2 t3 t49) (w3, w4, t50)).bind (fun (e : List Int) => some (Go.Exit.exit 0, ⟨[(15, rO 0 1 e.length)], [(0, bR 3 1 eI e)], 1, 89⟩)) :=
  by
  intro w3 w4 b0_Kind b0_N b0_Min b0_Set b0_L b1_Worst b1_Best b1_Pass t2 t3 t49 t50 w4_len w3_len h0 h1
  subst h0 h1
  revert t50; revert w4; revert w3; exact qtB qnE qn9 (fun e => by exact ⟨_, rfl, fun h => by cases h⟩) fun w3 w4 t50 => by
    have := qq5; have := @qdT.eq_1; have := @q4M; have := @QV.eq_1; exact gA
theorem q3q : ∀  (b0_Kind b0_N b0_Min : Int) (b0_Set : List qc) (b0_L : List qb) (b1_Worst b1_Best b1_Pass : Int) (t2 : List qa) (t3 t49 t50 : Int), XL2 evo 11 0 9 ⟨[(2, rL 8 qf t2), (3, rI t3), (4, rP 0), (5, rP 1), (12, rP 2), (13, R.c (C.fn 25 [] [dP 2])), (14, R.c (C.fn 26 [] [dP 2])), (15, rO 4 1 0), (49, rI t49), (50, rI t50)], [(0, B.blk 31 [dI b0_Kind, dI b0_N, dI b0_Min, dL 2 qe b0_Set, dL 5 qg b0_L]), (1, B.blk 37 [dI b1_Worst, dI b1_Best, dI b1_Pass]), (2, B.blk 22 [dO 3 1 0]), (3, B.row 3 1 []), (4, B.row 3 1 [])], 5, 89⟩ = (qN (QV (qb.mk b0_Kind b0_N b0_Min b0_Set b0_L) (qd.mk b1_Worst b1_Best b1_Pass) t2 t3 t49) ([], [], t50)).bind (fun (e : List Int) => some (Go.Exit.exit 0, ⟨[(15, rO 0 1 e.length)], [(0, bR 3 1 eI e)], 1, 89⟩)) := by
  intro b0_Kind b0_N b0_Min b0_Set b0_L b1_Worst b1_Best b1_Pass t2 t3 t49 t50; have h := q5z [] [] ((qb.mk b0_Kind b0_N b0_Min b0_Set b0_L)).Kind ((qb.mk b0_Kind b0_N b0_Min b0_Set b0_L)).N ((qb.mk b0_Kind b0_N b0_Min b0_Set b0_L)).Min ((qb.mk b0_Kind b0_N b0_Min b0_Set b0_L)).Set ((qb.mk b0_Kind b0_N b0_Min b0_Set b0_L)).L ((qd.mk b1_Worst b1_Best b1_Pass)).Worst ((qd.mk b1_Worst b1_Best b1_Pass)).Best ((qd.mk b1_Worst b1_Best b1_Pass)).Pass t2 t3 t49 t50 _ _ rfl rfl
  first
    | exact h
    | (simp only [rL, dL, bR, bZ, Nat.reduceAdd] at h; exact h)
noncomputable def q0T (fu : Nat) (b0 : qb) (b1 : qd) (t2 : List qa) (t3 : Int) (t49 : Int) : (List Int × List Int × Int) → Option ((List Int × List Int × Int) ⊕ (List Int))
  | (w3, w4, t50) =>
    if t50 < t49 then if w3.length + 1 ≤ Go.maxLen ∧ (w3.length + 1) * 8 ≤ 140737488355328 then if 0 ≤ t50 then if (J0 Go.BinOp.and Go.IntKind.i64 (Int.fdiv t3 (2 ^ min (Int.toNat t50) (Go.IntKind.bits Go.IntKind.i64))) 1 == 0) = Bool.true then some (Sum.inl (w3 ++ [(-1)], w4, w64 (t50 + 1)))
          else if 0 ≤ t50 ∧ t50 < ((w3.length + 1 : Nat) : Int) then if Int.toNat t50 ≤ w3.length then Option.bind (itT (q0o fu w4 b0 b1 t2 t3 t50 t49 t50) fu (List.set (w3 ++ [(-1)]) (Int.toNat t50) 0)) fun (a : List Int) =>
              if 0 ≤ t50 ∧ t50 < ((a.length : Nat) : Int) then Option.bind a[Int.toNat t50]? fun (a2 : Int) =>
                if w4.length + 1 ≤ Go.maxLen ∧ (w4.length + 1) * 8 ≤ 140737488355328 then some (Sum.inl (a, w4 ++ [a2], w64 (t50 + 1)))
                else none
              else none
            else none
          else none
        else none
      else none
    else some (Sum.inr w4)
theorem q4X (fu : Nat) (b0 : qb) (b1 : qd) (t2 : List qa) (t3 t49 : Int) : ∀ x, qk (q0T fu b0 b1 t2 t3 t49 x) (QV b0 b1 t2 t3 t49 x) := by
  rintro ⟨w3, w4, t50⟩
  unfold q0T QV
  try dsimp only
  repeat (first
    | with_reducible exact qk.refl _
    | with_reducible exact qk.none _
    | with_reducible apply q4J
    | with_reducible refine qk.bind ?_ (fun _ => ?_)
    | with_reducible refine qk.ite ?_ ?_
    | with_reducible refine qk.sum (fun _ => ?_) (fun _ => ?_)
    | with_reducible refine qk.lim (fun _ => ?_))
theorem quw : okL 12 qfU := qy (qi qpY) (by kernel_rfl) (by kernel_rfl)
def qvJ := JA_ @qfU.eq_1 (JA_ @Try.f12.eq_1 @qpY)
theorem quS : okL 29 qdM := qy (qi qqJ) (by kernel_rfl) (by kernel_rfl)
def quW := JA_ @qdM.eq_1 (JA_ @Try.f29.eq_1 @qqJ)
noncomputable def q0C (k : Int) (v : Int) : Option Bool :=
  if k < (-1) then some Bool.true
  else some (decide (v ≤ k))
noncomputable def JB (k : Int) (v : Int) : Bool :=
  if k < (-1) then Bool.true
  else decide (v ≤ k)
theorem q6b (k v : Int) : q0C k v = some (JB k v) := by
  unfold q0C JB
  simp only [zY]
theorem q7b : ∀ (k v : Int), ev 29 1 [rI k, rP 0] [(0, B.blk 3 [dI v])] = some (rB (JB k v), [(0, B.blk 3 [dI v])]) :=
  fun k v => by
    have h : ev 29 1 [rI k, rP 0] [(0, B.blk 3 [dI v])] = (q0C k v).bind (fun (e : Bool) => some (rB e, [(0, B.blk 3 [dI v])])) := by
      rw [qz qqJ qsz.2.2.2 quS]
      have := quW; have := @q0C.eq_1; exact gA
    rw [q6b] at h
    exact h
noncomputable def zi (b0 : Int) (s : List Int) (t7 : Int) : Int → Option (Int ⊕ (Int ⊕ Unit))
  | t8 =>
    if t8 < t7 then if 0 ≤ t8 ∧ t8 < ((s.length : Nat) : Int) then Option.bind s[Int.toNat t8]? fun (a : Int) =>
        if JB a b0 = Bool.true then some (Sum.inr (Sum.inl t8))
        else some (Sum.inl (w64 (t8 + 1)))
      else none
    else some (Sum.inr (Sum.inr ()))
theorem Jl : ∀ (b0 : Int) (s : List Int) (t7 t8 : Int), XL2 evo 49 1 2 ⟨[(0, rL 1 eI s), (1, R.c (C.fn 29 [] [dP 0])), (7, rI t7), (8, rI t8)], [(0, B.blk 3 [dI b0])], 1, 19⟩ = (qN (zi b0 s t7) t8).bind (Sum.elim (fun (e : Int) => some (Go.Exit.ret, ⟨[(4, rI e)], [(0, B.blk 3 [dI b0])], 1, 19⟩)) (fun (e : Unit) => some (Go.Exit.exit 0, ⟨[(4, R.any)], [(0, B.blk 3 [dI b0])], 1, 19⟩))) :=
  fun b0 s t7 t8 => by
    revert t8; exact qaK qj8 qiU (fun e => by rcases e with _ | _ <;> exact ⟨_, rfl, fun h => by cases h⟩) fun x => by
      have := qpp; have := @qct.eq_1; have := @q7b; have := @zi.eq_1; exact gA
noncomputable def zb (s : List Int) (b0 : Int) : Option Int :=
  Option.bind (qN (zi b0 s ((s.length : Nat) : Int)) 0) fun (a : Sum Int Unit) =>
  Sum.elim (fun (a2 : Int) => some a2) (fun (a3 : Unit) => some (-1)) a
theorem JV : ∀ (s : List Int) (b0 : Int), ev 49 1 [rL 1 eI s, R.c (C.fn 29 [] [dP 0])] [(0, B.blk 3 [dI b0])] = (zb s b0).bind (fun (e : Int) => some (rI e, [(0, B.blk 3 [dI b0])])) :=
  fun s b0 => by
    rw [qz qpb qqm.2.2.2 qqe]
    have := qpp; have := @Jl; have := @zb.eq_1; exact gA
noncomputable def Qv (fu : Nat) (s : List Int) (b0 : Int) : Option Int :=
  Option.bind (itT (zi b0 s ((s.length : Nat) : Int)) fu 0) fun (a : Sum Int Unit) =>
  Sum.elim (fun (a2 : Int) => some a2) (fun (a3 : Unit) => some (-1)) a
theorem JR (fu : Nat) (s : List Int) (b0 : Int) : qk (Qv fu s b0) (zb s b0) := by
  unfold Qv zb
  repeat (first
    | with_reducible exact qk.refl _
    | with_reducible exact qk.none _
    | with_reducible refine qk.bind ?_ (fun _ => ?_)
    | with_reducible refine qk.ite ?_ ?_
    | with_reducible refine qk.sum (fun _ => ?_) (fun _ => ?_)
    | with_reducible refine qk.lim (fun _ => ?_))
noncomputable def qQ (s : List Int) (b0 : Int) : Option Bool :=
  Option.bind (zb s b0) fun (a : Int) =>
  some (decide (0 ≤ a))
theorem Jm : ∀ (s : List Int) (b0 : Int), ev 27 1 [rL 1 eI s, R.c (C.fn 29 [] [dP 0])] [(0, B.blk 3 [dI b0])] = (qQ s b0).bind (fun (e : Bool) => some (rB e, [(0, B.blk 3 [dI b0])])) :=
  fun s b0 => by
    rw [qz qpJ qry.2.2.2 qrM]
    have := qtp; have := @JV; have := @qQ.eq_1; exact gA
noncomputable def Q3 (fu : Nat) (s : List Int) (b0 : Int) : Option Bool :=
  Option.bind (Qv fu s b0) fun (a : Int) =>
  some (decide (0 ≤ a))
theorem Jn (fu : Nat) (s : List Int) (b0 : Int) : qk (Q3 fu s b0) (qQ s b0) := by
  unfold Q3 qQ
  repeat (first
    | with_reducible exact qk.refl _
    | with_reducible exact qk.none _
    | with_reducible apply JR
    | with_reducible refine qk.bind ?_ (fun _ => ?_)
    | with_reducible refine qk.ite ?_ ?_
    | with_reducible refine qk.sum (fun _ => ?_) (fun _ => ?_)
    | with_reducible refine qk.lim (fun _ => ?_))
theorem qsL : okL 30 qcR := qy (qi qpI) (by kernel_rfl) (by kernel_rfl)
def qsa := JA_ @qcR.eq_1 (JA_ @Try.f30.eq_1 @qpI)
theorem qmk : lbO 30 8 = qfW := Q8 (qi qpI) rfl
theorem qnt : okL 30 qfW := zc qsL (List.mem_of_getElem? (i := 0) (by kernel_rfl))
theorem qvR : okL 33 qey := qy (qi qq9) (by kernel_rfl) (by kernel_rfl)
def qus := JA_ @qey.eq_1 (JA_ @Try.f33.eq_1 @qq9)
noncomputable def Jr (k : Int) (v : List Int) (v2 : Int) : Option Bool :=
  if 0 ≤ k ∧ k < ((v.length : Nat) : Int) then Option.bind v[Int.toNat k]? fun (a : Int) =>
    some (a == v2)
  else none
theorem q5c : ∀ (k : Int) (v : List Int) (v2 : Int), ev 33 2 [rI k, rP 0, rP 1] [(0, B.blk 22 [dL 1 eI v]), (1, B.blk 3 [dI v2])] = (Jr k v v2).bind (fun (e : Bool) => some (rB e, [(0, B.blk 22 [dL 1 eI v]), (1, B.blk 3 [dI v2])])) :=
  fun k v v2 => by
    rw [qz qq9 qsN.2.2.2 qvR]
    have := qus; have := @Jr.eq_1; exact gA
noncomputable def QD (b0 : List Int) (b1 : Int) (n : qb) (s : qd) (b4 : ql) (t13 : List qa) (t14 : Int) : (ql × Int) → Option ((ql × Int) ⊕ ql)
  | (out, t15) =>
    if t15 < t14 then if 0 ≤ t15 ∧ t15 < ((t13.length : Nat) : Int) then Option.bind t13[Int.toNat t15]? fun (a : qa) =>
        Option.bind (Jr t15 b0 b1) fun (a2 : Bool) =>
        if a2 = Bool.true then if out.fine = Bool.true then Option.bind (QC n s a) fun (a3 : Bool) =>
            some (Sum.inl (ql.mk (w64 (out.many + 1)) (w64 (out.credits + a.Credits)) a3, w64 (t15 + 1)))
          else some (Sum.inl (ql.mk (w64 (out.many + 1)) (w64 (out.credits + a.Credits)) Bool.false, w64 (t15 + 1)))
        else some (Sum.inl (out, w64 (t15 + 1)))
      else none
    else some (Sum.inr out)
theorem q4F : ∀ (b0 : List Int) (b1 n_Kind n_N n_Min : Int) (n_Set : List qc) (n_L : List qb) (s_Worst s_Best s_Pass b4_many b4_credits : Int) (b4_fine : Bool) (out_many out_credits : Int) (out_fine : Bool) (t13 : List qa) (t14 t15 : Int), XL2 evo 32 2 3 ⟨[(3, R.c (C.fn 33 [] [dP 0, dP 1])), (4, rP 2), (5, rP 3), (8, rP 4), (9, rP 5), (13, rL 8 qf t13), (14, rI t14), (15, rI t15)], [(0, B.blk 22 [dL 1 eI b0]), (1, B.blk 3 [dI b1]), (2, B.blk 31 [dI n_Kind, dI n_N, dI n_Min, dL 2 qe n_Set, dL 5 qg n_L]), (3, B.blk 37 [dI s_Worst, dI s_Best, dI s_Pass]), (4, B.blk 70 [dI b4_many, dI b4_credits, dB b4_fine]), (5, B.blk 70 [dI out_many, dI out_credits, dB out_fine])], 6, 44⟩ = (qN (QD b0 b1 (qb.mk n_Kind n_N n_Min n_Set n_L) (qd.mk s_Worst s_Best s_Pass) (ql.mk b4_many b4_credits b4_fine) t13 t14) ((ql.mk out_many out_credits out_fine), t15)).bind (fun (e : ql) => some (Go.Exit.exit 0, ⟨[(8, rP 2), (9, rP 3)], [(0, B.blk 22 [dL 1 eI b0]), (1, B.blk 3 [dI b1]), (2, B.blk 70 [dI b4_many, dI b4_credits, dB b4_fine]), (3, B.blk 70 [dI e.many, dI e.credits, dB e.fine])], 4, 44⟩)) :=
  fun b0 b1 n_Kind n_N n_Min n_Set n_L s_Worst s_Best s_Pass b4_many b4_credits b4_fine out_many out_credits out_fine t13 t14 t15 => by
    have h := q1e (E := evo) (f := 32) (k := 2) (st := fun x : ql × Int => (⟨[(3, R.c (C.fn 33 [] [dP 0, dP 1])), (4, rP 2), (5, rP 3), (8, rP 4), (9, rP 5), (13, rL 8 qf t13), (14, rI t14), (15, rI x.2)], [(0, B.blk 22 [dL 1 eI b0]), (1, B.blk 3 [dI b1]), (2, B.blk 31 [dI n_Kind, dI n_N, dI n_Min, dL 2 qe n_Set, dL 5 qg n_L]), (3, B.blk 37 [dI s_Worst, dI s_Best, dI s_Pass]), (4, B.blk 70 [dI b4_many, dI b4_credits, dB b4_fine]), (5, B.blk 70 [dI x.1.many, dI x.1.credits, dB x.1.fine])], 6, 44⟩ : S)) (ex := fun (e : ql) => (Go.Exit.exit 0, ⟨[(8, rP 2), (9, rP 3)], [(0, B.blk 22 [dL 1 eI b0]), (1, B.blk 3 [dI b1]), (2, B.blk 70 [dI b4_many, dI b4_credits, dB b4_fine]), (3, B.blk 70 [dI e.many, dI e.credits, dB e.fine])], 4, 44⟩)) (step := (QD b0 b1 (qb.mk n_Kind n_N n_Min n_Set n_L) (qd.mk s_Worst s_Best s_Pass) (ql.mk b4_many b4_credits b4_fine) t13 t14)) qjo qj0 (fun e h => by cases h) (fun x => by
      obtain ⟨out, t15⟩ := x; have := qph; have := @qbM.eq_1; have := @q5c; have := @q2c; have := @QD.eq_1; exact gA) ((ql.mk out_many out_credits out_fine), t15)
    exact h
noncomputable def q0q (fu : Nat) (b0 : List Int) (b1 : Int) (n : qb) (s : qd) (b4 : ql) (t13 : List qa) (t14 : Int) : (ql × Int) → Option ((ql × Int) ⊕ ql)
  | (out, t15) =>
    if t15 < t14 then if 0 ≤ t15 ∧ t15 < ((t13.length : Nat) : Int) then Option.bind t13[Int.toNat t15]? fun (a : qa) =>
        Option.bind (Jr t15 b0 b1) fun (a2 : Bool) =>
        if a2 = Bool.true then if out.fine = Bool.true then Option.bind (JW fu n s a) fun (a3 : Bool) =>
            some (Sum.inl (ql.mk (w64 (out.many + 1)) (w64 (out.credits + a.Credits)) a3, w64 (t15 + 1)))
          else some (Sum.inl (ql.mk (w64 (out.many + 1)) (w64 (out.credits + a.Credits)) Bool.false, w64 (t15 + 1)))
        else some (Sum.inl (out, w64 (t15 + 1)))
      else none
    else some (Sum.inr out)
theorem q4H (fu : Nat) (b0 : List Int) (b1 : Int) (n : qb) (s : qd) (b4 : ql) (t13 : List qa) (t14 : Int) : ∀ x, qk (q0q fu b0 b1 n s b4 t13 t14 x) (QD b0 b1 n s b4 t13 t14 x) := by
  rintro ⟨out, t15⟩
  unfold q0q QD
  try dsimp only
  repeat (first
    | with_reducible exact qk.refl _
    | with_reducible exact qk.none _
    | with_reducible apply q1P
    | with_reducible refine qk.bind ?_ (fun _ => ?_)
    | with_reducible refine qk.ite ?_ ?_
    | with_reducible refine qk.sum (fun _ => ?_) (fun _ => ?_)
    | with_reducible refine qk.lim (fun _ => ?_))
noncomputable def Jv (n : qb) (s : qd) (l : List qa) (b0 : List Int) (b1 : Int) : Option ql :=
  Option.bind (qN (QD b0 b1 n s (ql.mk 0 0 Bool.false) l ((l.length : Nat) : Int)) (ql.mk 0 0 Bool.true, 0)) fun (a : ql) =>
  some a
theorem q7k : ∀ (n_Kind n_N n_Min : Int) (n_Set : List qc) (n_L : List qb) (s_Worst s_Best s_Pass : Int) (l : List qa) (b0 : List Int) (b1 : Int), ev 32 2 [R.agg [dI n_Kind, dI n_N, dI n_Min, dL 2 qe n_Set, dL 5 qg n_L], R.agg [dI s_Worst, dI s_Best, dI s_Pass], rL 8 qf l, R.c (C.fn 33 [] [dP 0, dP 1])] [(0, B.blk 22 [dL 1 eI b0]), (1, B.blk 3 [dI b1])] = (Jv (qb.mk n_Kind n_N n_Min n_Set n_L) (qd.mk s_Worst s_Best s_Pass) l b0 b1).bind (fun (e : ql) => some (R.agg [dI e.many, dI e.credits, dB e.fine], [(0, B.blk 22 [dL 1 eI b0]), (1, B.blk 3 [dI b1])])) :=
  fun n_Kind n_N n_Min n_Set n_L s_Worst s_Best s_Pass l b0 b1 => by
    rw [qz qo7 qrd.2.2.2 qqs]
    have := qph; have := @q4F; have := @Jv.eq_1; exact gA
noncomputable def q1Y (fu : Nat) (n : qb) (s : qd) (l : List qa) (b0 : List Int) (b1 : Int) : Option ql :=
  Option.bind (itT (q0q fu b0 b1 n s (ql.mk 0 0 Bool.false) l ((l.length : Nat) : Int)) fu (ql.mk 0 0 Bool.true, 0)) fun (a : ql) =>
  some a
theorem q6Z (fu : Nat) (n : qb) (s : qd) (l : List qa) (b0 : List Int) (b1 : Int) : qk (q1Y fu n s l b0 b1) (Jv n s l b0 b1) := by
  unfold q1Y Jv
  repeat (first
    | with_reducible exact qk.refl _
    | with_reducible exact qk.none _
    | with_reducible apply q4H
    | with_reducible refine qk.bind ?_ (fun _ => ?_)
    | with_reducible refine qk.ite ?_ ?_
    | with_reducible refine qk.sum (fun _ => ?_) (fun _ => ?_)
    | with_reducible refine qk.lim (fun _ => ?_))
noncomputable def Q5 (x : (qb × qd × List qa × List Int × Int)) : List R × List (Nat × B) := ([R.agg [C.d (D.int .i64 x.1.Kind), C.d (D.int .i64 x.1.N), C.d (D.int .i64 x.1.Min), C.d (D.sl 2 x.1.Set.length (x.1.Set.flatMap qe)), C.d (D.sl 5 x.1.L.length (x.1.L.flatMap qg))], R.c (C.ptr 0 0), R.c (C.ptr 1 0), R.c (C.ptr 2 0), R.c (C.ptr 3 0), R.c (C.ptr 4 0)], [(0, B.blk 37 [C.d (D.int .i64 x.2.1.Worst), C.d (D.int .i64 x.2.1.Best), C.d (D.int .i64 x.2.1.Pass)]), (1, B.blk 32 [C.d (D.sl 8 x.2.2.1.length (x.2.2.1.flatMap qf))]), (2, B.blk 22 [C.d (D.sl 1 x.2.2.2.1.length (x.2.2.2.1.flatMap eI))]), (3, B.blk 3 [C.d (D.int .i64 x.2.2.2.2)]), (4, B.blk 67 [C.fn 30 [] [C.ptr 0 0, C.ptr 1 0, C.ptr 2 0, C.ptr 3 0, C.ptr 4 0]])])
noncomputable def Ql : (Bool × Bool × qd × List qa × List Int × Int) → R × List (Nat × B) := fun (e : Bool × Bool × qd × List qa × List Int × Int) => (R.tup [R.c (C.d (D.bool e.1)), R.c (C.d (D.bool e.2.1))], [(0, B.blk 37 [C.d (D.int .i64 e.2.2.1.Worst), C.d (D.int .i64 e.2.2.1.Best), C.d (D.int .i64 e.2.2.1.Pass)]), (1, B.blk 32 [C.d (D.sl 8 e.2.2.2.1.length (e.2.2.2.1.flatMap qf))]), (2, B.blk 22 [C.d (D.sl 1 e.2.2.2.2.1.length (e.2.2.2.2.1.flatMap eI))]), (3, B.blk 3 [C.d (D.int .i64 e.2.2.2.2.2)]), (4, B.blk 67 [C.fn 30 [] [C.ptr 0 0, C.ptr 1 0, C.ptr 2 0, C.ptr 3 0, C.ptr 4 0]])])
noncomputable def QA (rF : (qb × qd × List qa × List Int × Int) → Option (Bool × Bool × qd × List qa × List Int × Int)) (b5 : qb) (t35 : List qb) (t36 : Int) : (qd × List qa × List Int × Int × Bool × Int × Bool × Int) → Option ((qd × List qa × List Int × Int × Bool × Int × Bool × Int) ⊕ (qd × List qa × List Int × Int × Bool × Int × Bool))
  | (b0, b1, b2, b3, t7, t10, t11, t37) =>
    if t37 < t36 then if 0 ≤ t37 ∧ t37 < ((t35.length : Nat) : Int) then Option.bind t35[Int.toNat t37]? fun (a2 : qb) =>
        Option.bind (rF (a2, (b0, (b1, (b2, b3))))) fun (a3 : Prod Bool (Prod Bool (Prod qd (Prod (List qa) (Prod (List Int) Int))))) =>
        if t7 = Bool.true then if t11 = Bool.true then if a3.2.1 = Bool.true then some (Sum.inl (a3.2.2.1, a3.2.2.2.1, a3.2.2.2.2.1, a3.2.2.2.2.2, a3.1, w64 (t10 + 1), Bool.true, w64 (t37 + 1)))
            else some (Sum.inl (a3.2.2.1, a3.2.2.2.1, a3.2.2.2.2.1, a3.2.2.2.2.2, a3.1, t10, Bool.true, w64 (t37 + 1)))
          else if (!a3.2.1) = Bool.true then if (!a3.1) = Bool.true then if a3.2.1 = Bool.true then some (Sum.inl (a3.2.2.1, a3.2.2.2.1, a3.2.2.2.2.1, a3.2.2.2.2.2, a3.1, w64 (t10 + 1), Bool.true, w64 (t37 + 1)))
              else some (Sum.inl (a3.2.2.1, a3.2.2.2.1, a3.2.2.2.2.1, a3.2.2.2.2.2, a3.1, t10, Bool.true, w64 (t37 + 1)))
            else if a3.2.1 = Bool.true then some (Sum.inl (a3.2.2.1, a3.2.2.2.1, a3.2.2.2.2.1, a3.2.2.2.2.2, a3.1, w64 (t10 + 1), b5.Kind == 3, w64 (t37 + 1)))
            else some (Sum.inl (a3.2.2.1, a3.2.2.2.1, a3.2.2.2.2.1, a3.2.2.2.2.2, a3.1, t10, b5.Kind == 3, w64 (t37 + 1)))
          else if a3.2.1 = Bool.true then some (Sum.inl (a3.2.2.1, a3.2.2.2.1, a3.2.2.2.2.1, a3.2.2.2.2.2, a3.1, w64 (t10 + 1), Bool.false, w64 (t37 + 1)))
          else some (Sum.inl (a3.2.2.1, a3.2.2.2.1, a3.2.2.2.2.1, a3.2.2.2.2.2, a3.1, t10, Bool.false, w64 (t37 + 1)))
        else if t11 = Bool.true then if a3.2.1 = Bool.true then some (Sum.inl (a3.2.2.1, a3.2.2.2.1, a3.2.2.2.2.1, a3.2.2.2.2.2, Bool.false, w64 (t10 + 1), Bool.true, w64 (t37 + 1)))
          else some (Sum.inl (a3.2.2.1, a3.2.2.2.1, a3.2.2.2.2.1, a3.2.2.2.2.2, Bool.false, t10, Bool.true, w64 (t37 + 1)))
        else if (!a3.2.1) = Bool.true then if (!a3.1) = Bool.true then if a3.2.1 = Bool.true then some (Sum.inl (a3.2.2.1, a3.2.2.2.1, a3.2.2.2.2.1, a3.2.2.2.2.2, Bool.false, w64 (t10 + 1), Bool.true, w64 (t37 + 1)))
            else some (Sum.inl (a3.2.2.1, a3.2.2.2.1, a3.2.2.2.2.1, a3.2.2.2.2.2, Bool.false, t10, Bool.true, w64 (t37 + 1)))
          else if a3.2.1 = Bool.true then some (Sum.inl (a3.2.2.1, a3.2.2.2.1, a3.2.2.2.2.1, a3.2.2.2.2.2, Bool.false, w64 (t10 + 1), b5.Kind == 3, w64 (t37 + 1)))
          else some (Sum.inl (a3.2.2.1, a3.2.2.2.1, a3.2.2.2.2.1, a3.2.2.2.2.2, Bool.false, t10, b5.Kind == 3, w64 (t37 + 1)))
        else if a3.2.1 = Bool.true then some (Sum.inl (a3.2.2.1, a3.2.2.2.1, a3.2.2.2.2.1, a3.2.2.2.2.2, Bool.false, w64 (t10 + 1), Bool.false, w64 (t37 + 1)))
        else some (Sum.inl (a3.2.2.1, a3.2.2.2.1, a3.2.2.2.2.1, a3.2.2.2.2.2, Bool.false, t10, Bool.false, w64 (t37 + 1)))
      else none
    else some (Sum.inr (b0, b1, b2, b3, t7, t10, t11))
theorem q4o (rE : Orc) (rF : (qb × qd × List qa × List Int × Int) → Option (Bool × Bool × qd × List qa × List Int × Int)) (hF : ∀ y, rE (.fn 30) 5 (Q5 y).1 (Q5 y).2 = (rF y).bind fun e => some (Ql e)) (hM : ∀ g k a G, g ≠ 30 → rE (.fn g) k a G = ev g k a G) (hR : ∀ g asg bd k a G, rE (.rd g asg bd) k a G = evr g asg bd k a G) : ∀ (b0_Worst b0_Best b0_Pass : Int) (b1 : List qa) (b2 : List Int) (b3 b5_Kind b5_N b5_Min : Int) (b5_Set : List qc) (b5_L : List qb) (t7 : Bool) (t10 : Int) (t11 : Bool) (t35 : List qb) (t36 t37 : Int), XL2 rE 30 5 8 ⟨[(5, rP 4), (6, rP 5), (7, rB t7), (10, rI t10), (11, rB t11), (35, rL 5 qg t35), (36, rI t36), (37, rI t37)], [(0, B.blk 37 [dI b0_Worst, dI b0_Best, dI b0_Pass]), (1, B.blk 32 [dL 8 qf b1]), (2, B.blk 22 [dL 1 eI b2]), (3, B.blk 3 [dI b3]), (4, B.blk 67 [C.fn 30 [] [dP 0, dP 1, dP 2, dP 3, dP 4]]), (5, B.blk 31 [dI b5_Kind, dI b5_N, dI b5_Min, dL 2 qe b5_Set, dL 5 qg b5_L])], 6, 78⟩ = (qN (QA rF (qb.mk b5_Kind b5_N b5_Min b5_Set b5_L) t35 t36) ((qd.mk b0_Worst b0_Best b0_Pass), b1, b2, b3, t7, t10, t11, t37)).bind (fun (e : qd × List qa × List Int × Int × Bool × Int × Bool) => some (Go.Exit.exit 0, ⟨[(6, rP 5), (7, rB e.2.2.2.2.1), (10, rI e.2.2.2.2.2.1), (11, rB e.2.2.2.2.2.2)], [(0, B.blk 37 [dI e.1.Worst, dI e.1.Best, dI e.1.Pass]), (1, B.blk 32 [dL 8 qf e.2.1]), (2, B.blk 22 [dL 1 eI e.2.2.1]), (3, B.blk 3 [dI e.2.2.2.1]), (4, B.blk 67 [C.fn 30 [] [dP 0, dP 1, dP 2, dP 3, dP 4]]), (5, B.blk 31 [dI b5_Kind, dI b5_N, dI b5_Min, dL 2 qe b5_Set, dL 5 qg b5_L])], 6, 78⟩)) :=
  fun b0_Worst b0_Best b0_Pass b1 b2 b3 b5_Kind b5_N b5_Min b5_Set b5_L t7 t10 t11 t35 t36 t37 => by
    have h := q1e (E := rE) (f := 30) (k := 5) (st := fun x : qd × List qa × List Int × Int × Bool × Int × Bool × Int => (⟨[(5, rP 4), (6, rP 5), (7, rB x.2.2.2.2.1), (10, rI x.2.2.2.2.2.1), (11, rB x.2.2.2.2.2.2.1), (35, rL 5 qg t35), (36, rI t36), (37, rI x.2.2.2.2.2.2.2)], [(0, B.blk 37 [dI x.1.Worst, dI x.1.Best, dI x.1.Pass]), (1, B.blk 32 [dL 8 qf x.2.1]), (2, B.blk 22 [dL 1 eI x.2.2.1]), (3, B.blk 3 [dI x.2.2.2.1]), (4, B.blk 67 [C.fn 30 [] [dP 0, dP 1, dP 2, dP 3, dP 4]]), (5, B.blk 31 [dI b5_Kind, dI b5_N, dI b5_Min, dL 2 qe b5_Set, dL 5 qg b5_L])], 6, 78⟩ : S)) (ex := fun (e : qd × List qa × List Int × Int × Bool × Int × Bool) => (Go.Exit.exit 0, ⟨[(6, rP 5), (7, rB e.2.2.2.2.1), (10, rI e.2.2.2.2.2.1), (11, rB e.2.2.2.2.2.2)], [(0, B.blk 37 [dI e.1.Worst, dI e.1.Best, dI e.1.Pass]), (1, B.blk 32 [dL 8 qf e.2.1]), (2, B.blk 22 [dL 1 eI e.2.2.1]), (3, B.blk 3 [dI e.2.2.2.1]), (4, B.blk 67 [C.fn 30 [] [dP 0, dP 1, dP 2, dP 3, dP 4]]), (5, B.blk 31 [dI b5_Kind, dI b5_N, dI b5_Min, dL 2 qe b5_Set, dL 5 qg b5_L])], 6, 78⟩)) (step := (QA rF (qb.mk b5_Kind b5_N b5_Min b5_Set b5_L) t35 t36)) qmk qnt (fun e h => by cases h) (fun x => by
      obtain ⟨b0, b1, b2, b3, t7, t10, t11, t37⟩ := x; have hF' : ∀ (x0_Kind x0_N x0_Min : Int) (x0_Set : List qc) (x0_L : List qb) (v_Worst v_Best v_Pass : Int) (v2 : List qa) (v3 : List Int) (v4 : Int), rE (.fn 30) 5 [R.agg [dI x0_Kind, dI x0_N, dI x0_Min, dL 2 qe x0_Set, dL 5 qg x0_L], rP 0, rP 1, rP 2, rP 3, rP 4] [(0, B.blk 37 [dI v_Worst, dI v_Best, dI v_Pass]), (1, B.blk 32 [dL 8 qf v2]), (2, B.blk 22 [dL 1 eI v3]), (3, B.blk 3 [dI v4]), (4, B.blk 67 [C.fn 30 [] [dP 0, dP 1, dP 2, dP 3, dP 4]])] = (rF ((qb.mk x0_Kind x0_N x0_Min x0_Set x0_L), (qd.mk v_Worst v_Best v_Pass), v2, v3, v4)).bind (fun e => some (R.tup [rB e.1, rB e.2.1], [(0, B.blk 37 [dI e.2.2.1.Worst, dI e.2.2.1.Best, dI e.2.2.1.Pass]), (1, B.blk 32 [dL 8 qf e.2.2.2.1]), (2, B.blk 22 [dL 1 eI e.2.2.2.2.1]), (3, B.blk 3 [dI e.2.2.2.2.2]), (4, B.blk 67 [C.fn 30 [] [dP 0, dP 1, dP 2, dP 3, dP 4]])])) := fun x0_Kind x0_N x0_Min x0_Set x0_L v_Worst v_Best v_Pass v2 v3 v4 => hF ((qb.mk x0_Kind x0_N x0_Min x0_Set x0_L), (qd.mk v_Worst v_Best v_Pass), v2, v3, v4)
      have := qsa; have := @qfW.eq_1; have := @QA.eq_1; exact gA) ((qd.mk b0_Worst b0_Best b0_Pass), b1, b2, b3, t7, t10, t11, t37)
    exact h
noncomputable def q0p (fu : Nat) (rF : (qb × qd × List qa × List Int × Int) → Option (Bool × Bool × qd × List qa × List Int × Int)) (b5 : qb) (t35 : List qb) (t36 : Int) : (qd × List qa × List Int × Int × Bool × Int × Bool × Int) → Option ((qd × List qa × List Int × Int × Bool × Int × Bool × Int) ⊕ (qd × List qa × List Int × Int × Bool × Int × Bool))
  | (b0, b1, b2, b3, t7, t10, t11, t37) =>
    if t37 < t36 then if 0 ≤ t37 ∧ t37 < ((t35.length : Nat) : Int) then Option.bind t35[Int.toNat t37]? fun (a2 : qb) =>
        Option.bind (rF (a2, (b0, (b1, (b2, b3))))) fun (a3 : Prod Bool (Prod Bool (Prod qd (Prod (List qa) (Prod (List Int) Int))))) =>
        if t7 = Bool.true then if t11 = Bool.true then if a3.2.1 = Bool.true then some (Sum.inl (a3.2.2.1, a3.2.2.2.1, a3.2.2.2.2.1, a3.2.2.2.2.2, a3.1, w64 (t10 + 1), Bool.true, w64 (t37 + 1)))
            else some (Sum.inl (a3.2.2.1, a3.2.2.2.1, a3.2.2.2.2.1, a3.2.2.2.2.2, a3.1, t10, Bool.true, w64 (t37 + 1)))
          else if (!a3.2.1) = Bool.true then if (!a3.1) = Bool.true then if a3.2.1 = Bool.true then some (Sum.inl (a3.2.2.1, a3.2.2.2.1, a3.2.2.2.2.1, a3.2.2.2.2.2, a3.1, w64 (t10 + 1), Bool.true, w64 (t37 + 1)))
              else some (Sum.inl (a3.2.2.1, a3.2.2.2.1, a3.2.2.2.2.1, a3.2.2.2.2.2, a3.1, t10, Bool.true, w64 (t37 + 1)))
            else if a3.2.1 = Bool.true then some (Sum.inl (a3.2.2.1, a3.2.2.2.1, a3.2.2.2.2.1, a3.2.2.2.2.2, a3.1, w64 (t10 + 1), b5.Kind == 3, w64 (t37 + 1)))
            else some (Sum.inl (a3.2.2.1, a3.2.2.2.1, a3.2.2.2.2.1, a3.2.2.2.2.2, a3.1, t10, b5.Kind == 3, w64 (t37 + 1)))
          else if a3.2.1 = Bool.true then some (Sum.inl (a3.2.2.1, a3.2.2.2.1, a3.2.2.2.2.1, a3.2.2.2.2.2, a3.1, w64 (t10 + 1), Bool.false, w64 (t37 + 1)))
          else some (Sum.inl (a3.2.2.1, a3.2.2.2.1, a3.2.2.2.2.1, a3.2.2.2.2.2, a3.1, t10, Bool.false, w64 (t37 + 1)))
        else if t11 = Bool.true then if a3.2.1 = Bool.true then some (Sum.inl (a3.2.2.1, a3.2.2.2.1, a3.2.2.2.2.1, a3.2.2.2.2.2, Bool.false, w64 (t10 + 1), Bool.true, w64 (t37 + 1)))
          else some (Sum.inl (a3.2.2.1, a3.2.2.2.1, a3.2.2.2.2.1, a3.2.2.2.2.2, Bool.false, t10, Bool.true, w64 (t37 + 1)))
        else if (!a3.2.1) = Bool.true then if (!a3.1) = Bool.true then if a3.2.1 = Bool.true then some (Sum.inl (a3.2.2.1, a3.2.2.2.1, a3.2.2.2.2.1, a3.2.2.2.2.2, Bool.false, w64 (t10 + 1), Bool.true, w64 (t37 + 1)))
            else some (Sum.inl (a3.2.2.1, a3.2.2.2.1, a3.2.2.2.2.1, a3.2.2.2.2.2, Bool.false, t10, Bool.true, w64 (t37 + 1)))
          else if a3.2.1 = Bool.true then some (Sum.inl (a3.2.2.1, a3.2.2.2.1, a3.2.2.2.2.1, a3.2.2.2.2.2, Bool.false, w64 (t10 + 1), b5.Kind == 3, w64 (t37 + 1)))
          else some (Sum.inl (a3.2.2.1, a3.2.2.2.1, a3.2.2.2.2.1, a3.2.2.2.2.2, Bool.false, t10, b5.Kind == 3, w64 (t37 + 1)))
        else if a3.2.1 = Bool.true then some (Sum.inl (a3.2.2.1, a3.2.2.2.1, a3.2.2.2.2.1, a3.2.2.2.2.2, Bool.false, w64 (t10 + 1), Bool.false, w64 (t37 + 1)))
        else some (Sum.inl (a3.2.2.1, a3.2.2.2.1, a3.2.2.2.2.1, a3.2.2.2.2.2, Bool.false, t10, Bool.false, w64 (t37 + 1)))
      else none
    else some (Sum.inr (b0, b1, b2, b3, t7, t10, t11))
theorem q4x (fu : Nat) (rF rF2 : (qb × qd × List qa × List Int × Int) → Option (Bool × Bool × qd × List qa × List Int × Int)) (hF : ∀ y, qk (rF y) (rF2 y)) (b5 : qb) (t35 : List qb) (t36 : Int) : ∀ x, qk (q0p fu rF b5 t35 t36 x) (QA rF2 b5 t35 t36 x) := by
  rintro ⟨b0, b1, b2, b3, t7, t10, t11, t37⟩
  unfold q0p QA
  try dsimp only
  repeat (first
    | with_reducible exact qk.refl _
    | with_reducible exact qk.none _
    | exact hF _
    | with_reducible refine qk.bind ?_ (fun _ => ?_)
    | with_reducible refine qk.ite ?_ ?_
    | with_reducible refine qk.sum (fun _ => ?_) (fun _ => ?_)
    | with_reducible refine qk.lim (fun _ => ?_))
noncomputable def QF (rF : (qb × qd × List qa × List Int × Int) → Option (Bool × Bool × qd × List qa × List Int × Int)) : (qb × qd × List qa × List Int × Int) → Option (Bool × Bool × qd × List qa × List Int × Int)
  | (x0, v, v2, v3, v4) =>
    if zI x0 = Bool.true then Option.bind (Jv x0 v v2 v3 v4) fun (a2 : ql) =>
      Option.bind (Ze x0.Kind) fun (a3 : Sum Unit Unit) =>
      Sum.elim (fun (a4 : Unit) => some (a2.many == 0, qG a2 x0, v, v2, v3, w64 (v4 + 1))) (fun (a5 : Unit) => some (a2.many == 0, qW a2 x0, v, v2, v3, w64 (v4 + 1))) a3
    else Option.bind (qN (QA rF x0 x0.L ((x0.L.length : Nat) : Int)) (v, (v2, (v3, (v4, (Bool.true, (0, (Bool.false, 0)))))))) fun (a6 : Prod qd (Prod (List qa) (Prod (List Int) (Prod Int (Prod Bool (Prod Int Bool)))))) =>
    if (!a6.2.2.2.2.2.2) = Bool.true then some (a6.2.2.2.2.1, decide (x0.N ≤ a6.2.2.2.2.2.1), a6.1, a6.2.1, a6.2.2.1, a6.2.2.2.1)
    else some (a6.2.2.2.2.1, Bool.false, a6.1, a6.2.1, a6.2.2.1, a6.2.2.2.1)
theorem q2n : q4a 30 5 Q5 Ql QF := by
  intro rE rF hF hM hR x
  obtain ⟨x0, v, v2, v3, v4⟩ := x
  show q6D rE 30 5 [R.agg [dI x0.Kind, dI x0.N, dI x0.Min, dL 2 qe x0.Set, dL 5 qg x0.L], rP 0, rP 1, rP 2, rP 3, rP 4] [(0, B.blk 37 [dI v.Worst, dI v.Best, dI v.Pass]), (1, B.blk 32 [dL 8 qf v2]), (2, B.blk 22 [dL 1 eI v3]), (3, B.blk 3 [dI v4]), (4, B.blk 67 [C.fn 30 [] [dP 0, dP 1, dP 2, dP 3, dP 4]])] = _
  have hF' : ∀ (x0_Kind x0_N x0_Min : Int) (x0_Set : List qc) (x0_L : List qb) (v_Worst v_Best v_Pass : Int) (v2 : List qa) (v3 : List Int) (v4 : Int), rE (.fn 30) 5 [R.agg [dI x0_Kind, dI x0_N, dI x0_Min, dL 2 qe x0_Set, dL 5 qg x0_L], rP 0, rP 1, rP 2, rP 3, rP 4] [(0, B.blk 37 [dI v_Worst, dI v_Best, dI v_Pass]), (1, B.blk 32 [dL 8 qf v2]), (2, B.blk 22 [dL 1 eI v3]), (3, B.blk 3 [dI v4]), (4, B.blk 67 [C.fn 30 [] [dP 0, dP 1, dP 2, dP 3, dP 4]])] = (rF ((qb.mk x0_Kind x0_N x0_Min x0_Set x0_L), (qd.mk v_Worst v_Best v_Pass), v2, v3, v4)).bind (fun e => some (R.tup [rB e.1, rB e.2.1], [(0, B.blk 37 [dI e.2.2.1.Worst, dI e.2.2.1.Best, dI e.2.2.1.Pass]), (1, B.blk 32 [dL 8 qf e.2.2.2.1]), (2, B.blk 22 [dL 1 eI e.2.2.2.2.1]), (3, B.blk 3 [dI e.2.2.2.2.2]), (4, B.blk 67 [C.fn 30 [] [dP 0, dP 1, dP 2, dP 3, dP 4]])])) := fun x0_Kind x0_N x0_Min x0_Set x0_L v_Worst v_Best v_Pass v2 v3 v4 => hF ((qb.mk x0_Kind x0_N x0_Min x0_Set x0_L), (qd.mk v_Worst v_Best v_Pass), v2, v3, v4)
  rw [q14 qpI qsL]
  have := qsa; have := @q0E; have := @q7k; have := @q1d; have := @ZV; have := @q02; have := q4o rE rF hF hM hR; have := @QF.eq_1; have := @Ql.eq_1; exact gA
theorem q0x : ∀ x y, Q5 x = Q5 y → x = y := by
  rintro ⟨⟨a0_0, a0_1, a0_2, a0_3, a0_4⟩, ⟨a1_0, a1_1, a1_2⟩, a2, a3, a4⟩ ⟨⟨b0_0, b0_1, b0_2, b0_3, b0_4⟩, ⟨b1_0, b1_1, b1_2⟩, b2, b3, b4⟩ h
  simp only [Q5, Prod.mk.injEq, List.cons.injEq, R.c.injEq, R.agg.injEq, R.tup.injEq, C.d.injEq, C.own.injEq, C.ptr.injEq, C.eptr.injEq, D.int.injEq, D.bool.injEq, D.str.injEq, D.sl.injEq, B.blk.injEq, B.row.injEq, Zu, JO, ZC, ZU, Jb, q0Q, Zw, q0Y, true_and, and_true, List.nil_append] at h
  simp only [h]
theorem q4L : ∀ x y, Ql x = Ql y → x = y := by
  rintro ⟨a0, a1, ⟨a2_0, a2_1, a2_2⟩, a3, a4, a5⟩ ⟨b0, b1, ⟨b2_0, b2_1, b2_2⟩, b3, b4, b5⟩ h
  simp only [Ql, Prod.mk.injEq, List.cons.injEq, R.c.injEq, R.agg.injEq, R.tup.injEq, C.d.injEq, C.own.injEq, C.ptr.injEq, C.eptr.injEq, D.int.injEq, D.bool.injEq, D.str.injEq, D.sl.injEq, B.blk.injEq, B.row.injEq, Zu, JO, ZC, ZU, Jb, q0Q, Zw, q0Y, true_and, and_true, List.nil_append] at h
  simp only [h]
noncomputable def ZL : (qb × qd × List qa × List Int × Int) → Option (Bool × Bool × qd × List qa × List Int × Int) := q4p 30 5 Q5 Ql
theorem q6W (x : (qb × qd × List qa × List Int × Int)) : ZL x = QF ZL x := q8u qrr.2.2.2 q0x q4L q2n x
theorem q6c (x0 : qb) (v : qd) (v2 : List qa) (v3 : List Int) (v4 : Int) : ev 30 5 [R.agg [dI x0.Kind, dI x0.N, dI x0.Min, dL 2 qe x0.Set, dL 5 qg x0.L], rP 0, rP 1, rP 2, rP 3, rP 4] [(0, B.blk 37 [dI v.Worst, dI v.Best, dI v.Pass]), (1, B.blk 32 [dL 8 qf v2]), (2, B.blk 22 [dL 1 eI v3]), (3, B.blk 3 [dI v4]), (4, B.blk 67 [C.fn 30 [] [dP 0, dP 1, dP 2, dP 3, dP 4]])] = (ZL (x0, v, v2, v3, v4)).bind (fun (e : Bool × Bool × qd × List qa × List Int × Int) => some (R.tup [rB e.1, rB e.2.1], [(0, B.blk 37 [dI e.2.2.1.Worst, dI e.2.2.1.Best, dI e.2.2.1.Pass]), (1, B.blk 32 [dL 8 qf e.2.2.2.1]), (2, B.blk 22 [dL 1 eI e.2.2.2.2.1]), (3, B.blk 3 [dI e.2.2.2.2.2]), (4, B.blk 67 [C.fn 30 [] [dP 0, dP 1, dP 2, dP 3, dP 4]])])) := (q5i qrr.2.2.2 q0x q2n (x0, v, v2, v3, v4))
theorem q76 : ∀ (x0_Kind x0_N x0_Min : Int) (x0_Set : List qc) (x0_L : List qb) (v_Worst v_Best v_Pass : Int) (v2 : List qa) (v3 : List Int) (v4 : Int), ev 30 5 [R.agg [dI x0_Kind, dI x0_N, dI x0_Min, dL 2 qe x0_Set, dL 5 qg x0_L], rP 0, rP 1, rP 2, rP 3, rP 4] [(0, B.blk 37 [dI v_Worst, dI v_Best, dI v_Pass]), (1, B.blk 32 [dL 8 qf v2]), (2, B.blk 22 [dL 1 eI v3]), (3, B.blk 3 [dI v4]), (4, B.blk 67 [C.fn 30 [] [dP 0, dP 1, dP 2, dP 3, dP 4]])] = (ZL ((qb.mk x0_Kind x0_N x0_Min x0_Set x0_L), (qd.mk v_Worst v_Best v_Pass), v2, v3, v4)).bind (fun (e : Bool × Bool × qd × List qa × List Int × Int) => some (R.tup [rB e.1, rB e.2.1], [(0, B.blk 37 [dI e.2.2.1.Worst, dI e.2.2.1.Best, dI e.2.2.1.Pass]), (1, B.blk 32 [dL 8 qf e.2.2.2.1]), (2, B.blk 22 [dL 1 eI e.2.2.2.2.1]), (3, B.blk 3 [dI e.2.2.2.2.2]), (4, B.blk 67 [C.fn 30 [] [dP 0, dP 1, dP 2, dP 3, dP 4]])])) :=
  fun x0_Kind x0_N x0_Min x0_Set x0_L v_Worst v_Best v_Pass v2 v3 v4 => q6c (qb.mk x0_Kind x0_N x0_Min x0_Set x0_L) (qd.mk v_Worst v_Best v_Pass) v2 v3 v4
noncomputable def Jy (fu : Nat) (rF : (qb × qd × List qa × List Int × Int) → Option (Bool × Bool × qd × List qa × List Int × Int)) : (qb × qd × List qa × List Int × Int) → Option (Bool × Bool × qd × List qa × List Int × Int)
  | (x0, v, v2, v3, v4) =>
    if zI x0 = Bool.true then Option.bind (q1Y fu x0 v v2 v3 v4) fun (a2 : ql) =>
      Option.bind (Ze x0.Kind) fun (a3 : Sum Unit Unit) =>
      Sum.elim (fun (a4 : Unit) => some (a2.many == 0, qG a2 x0, v, v2, v3, w64 (v4 + 1))) (fun (a5 : Unit) => some (a2.many == 0, qW a2 x0, v, v2, v3, w64 (v4 + 1))) a3
    else Option.bind (itT (q0p fu rF x0 x0.L ((x0.L.length : Nat) : Int)) fu (v, (v2, (v3, (v4, (Bool.true, (0, (Bool.false, 0)))))))) fun (a6 : Prod qd (Prod (List qa) (Prod (List Int) (Prod Int (Prod Bool (Prod Int Bool)))))) =>
    if (!a6.2.2.2.2.2.2) = Bool.true then some (a6.2.2.2.2.1, decide (x0.N ≤ a6.2.2.2.2.2.1), a6.1, a6.2.1, a6.2.2.1, a6.2.2.2.1)
    else some (a6.2.2.2.2.1, Bool.false, a6.1, a6.2.1, a6.2.2.1, a6.2.2.2.1)
theorem q2R (fu : Nat) (rF rF2 : (qb × qd × List qa × List Int × Int) → Option (Bool × Bool × qd × List qa × List Int × Int)) (hF : ∀ y, qk (rF y) (rF2 y)) : ∀ x, qk (Jy fu rF x) (QF rF2 x) := by
  rintro ⟨x0, v, v2, v3, v4⟩
  unfold Jy QF
  try dsimp only
  repeat (first
    | with_reducible exact qk.refl _
    | with_reducible exact qk.none _
    | exact hF _
    | with_reducible apply q6Z
    | (with_reducible refine q4x _ _ _ hF ..)
    | with_reducible refine qk.bind ?_ (fun _ => ?_)
    | with_reducible refine qk.ite ?_ ?_
    | with_reducible refine qk.sum (fun _ => ?_) (fun _ => ?_)
    | with_reducible refine qk.lim (fun _ => ?_))
noncomputable def q5s (fu : Nat) (x : (qb × qd × List qa × List Int × Int)) : Option (Bool × Bool × qd × List qa × List Int × Int) := itR (Jy fu) fu x
theorem q7u (fu : Nat) (x : (qb × qd × List qa × List Int × Int)) : qk (q5s fu x) (ZL x) := qk.rec q6W (q2R fu) fu x
theorem qqY : okL 18 qaF := qy (qi qom) (by kernel_rfl) (by kernel_rfl)
def qrH := JA_ @qaF.eq_1 (JA_ @Try.f18.eq_1 @qom)
theorem qoE : lbO 18 6 = qeT := Q8 (qi qom) rfl
theorem qmp : okL 18 qeT := zc qqY (List.mem_of_getElem? (i := 0) (by kernel_rfl))
theorem qjZ : lbO 18 10 = qb2 := Q8 (qi qom) rfl
theorem qjK : okL 18 qb2 := zc qqY (List.mem_of_getElem? (i := 1) (by kernel_rfl))
noncomputable def J2 (want : List Int) (set0 : Int) (ok : Bool) (t34 : List Bool) (t35 : Int) (t36 : Int) (t41 : List Int) (t42 : Int) : (Bool × Int) → Option ((Bool × Int) ⊕ Bool)
  | (in0, t43) =>
    if t43 < t42 then if 0 ≤ t43 ∧ t43 < ((t41.length : Nat) : Int) then Option.bind t41[Int.toNat t43]? fun (a : Int) =>
        if in0 = Bool.true then some (Sum.inl (Bool.true, w64 (t43 + 1)))
        else some (Sum.inl (a == set0, w64 (t43 + 1)))
      else none
    else some (Sum.inr in0)
theorem q4u : ∀ (want : List Int) (set0 : Int) (ok in0 : Bool) (t34 : List Bool) (t35 t36 : Int) (t41 : List Int) (t42 t43 : Int), XL2 evo 18 0 10 ⟨[(1, rL 1 eI want), (10, rI set0), (11, rB ok), (12, rB in0), (34, rL 1 eB t34), (35, rI t35), (36, rI t36), (41, rL 1 eI t41), (42, rI t42), (43, rI t43)], [], 0, 58⟩ = (qN (J2 want set0 ok t34 t35 t36 t41 t42) (in0, t43)).bind (fun (e : Bool) => some (Go.Exit.exit 2, ⟨[(1, rL 1 eI want), (11, rB ok), (12, rB e), (34, rL 1 eB t34), (35, rI t35), (36, rI t36)], [], 0, 58⟩)) :=
  fun want set0 ok in0 t34 t35 t36 t41 t42 t43 => by
    revert t43; revert in0; exact q8F qjZ qjK (fun e => by exact ⟨_, rfl, fun h => by cases h⟩) fun in0 t43 => by
      have := qrH; have := @qb2.eq_1; have := @J2.eq_1; exact gA
noncomputable def ZB (want : List Int) (t34 : List Bool) (t35 : Int) : Int → Option (Int ⊕ (Unit ⊕ Unit))
  | t36 =>
    if t36 < t35 then if 0 ≤ t36 ∧ t36 < ((t34.length : Nat) : Int) then Option.bind t34[Int.toNat t36]? fun (a : Bool) =>
        Option.bind (qN (J2 want t36 a t34 t35 t36 want ((want.length : Nat) : Int)) (Bool.false, 0)) fun (a2 : Bool) =>
        if (!(a == a2)) = Bool.true then some (Sum.inr (Sum.inl ()))
        else some (Sum.inl (w64 (t36 + 1)))
      else none
    else some (Sum.inr (Sum.inr ()))
theorem q5j : ∀ (want : List Int) (t34 : List Bool) (t35 t36 : Int), XL2 evo 18 0 6 ⟨[(1, rL 1 eI want), (34, rL 1 eB t34), (35, rI t35), (36, rI t36)], [], 0, 58⟩ = (qN (ZB want t34 t35) t36).bind (Sum.elim (fun (e : Unit) => some (Go.Exit.ret, ⟨[(4, rB Bool.false)], [], 0, 58⟩)) (fun (e : Unit) => some (Go.Exit.exit 0, ⟨[(4, R.any)], [], 0, 58⟩))) :=
  fun want t34 t35 t36 => by
    revert t36; exact qaK qoE qmp (fun e => by rcases e with _ | _ <;> exact ⟨_, rfl, fun h => by cases h⟩) fun x => by
      have := qrH; have := @qeT.eq_1; have := @q4u; have := @ZB.eq_1; exact gA
noncomputable def q0V (fu : Nat) (want : List Int) (t34 : List Bool) (t35 : Int) : Int → Option (Int ⊕ (Unit ⊕ Unit))
  | t36 =>
    if t36 < t35 then if 0 ≤ t36 ∧ t36 < ((t34.length : Nat) : Int) then Option.bind t34[Int.toNat t36]? fun (a : Bool) =>
        Option.bind (itT (J2 want t36 a t34 t35 t36 want ((want.length : Nat) : Int)) fu (Bool.false, 0)) fun (a2 : Bool) =>
        if (!(a == a2)) = Bool.true then some (Sum.inr (Sum.inl ()))
        else some (Sum.inl (w64 (t36 + 1)))
      else none
    else some (Sum.inr (Sum.inr ()))
theorem q5x (fu : Nat) (want : List Int) (t34 : List Bool) (t35 : Int) : ∀ x, qk (q0V fu want t34 t35 x) (ZB want t34 t35 x) := by
  rintro t36
  unfold q0V ZB
  try dsimp only
  repeat (first
    | with_reducible exact qk.refl _
    | with_reducible exact qk.none _
    | with_reducible refine qk.bind ?_ (fun _ => ?_)
    | with_reducible refine qk.ite ?_ ?_
    | with_reducible refine qk.sum (fun _ => ?_) (fun _ => ?_)
    | with_reducible refine qk.lim (fun _ => ?_))
theorem qsn : okL 15 qcI := qy (qi qps) (by kernel_rfl) (by kernel_rfl)
def qss := JA_ @qcI.eq_1 (JA_ @Try.f15.eq_1 @qps)
theorem qo2 : lbO 15 4 = qfB := Q8 (qi qps) rfl
theorem qnj : okL 15 qfB := zc qsn (List.mem_of_getElem? (i := 0) (by kernel_rfl))
noncomputable def Z5 (a : List Int) (b : List Int) : Int → Option (Int ⊕ (Unit ⊕ Unit))
  | k =>
    if k < ((a.length : Nat) : Int) then if 0 ≤ k ∧ k < ((a.length : Nat) : Int) then Option.bind a[Int.toNat k]? fun (a2 : Int) =>
        if 0 ≤ k ∧ k < ((b.length : Nat) : Int) then Option.bind b[Int.toNat k]? fun (a3 : Int) =>
          if (a2 != a3) = Bool.true then some (Sum.inr (Sum.inl ()))
          else some (Sum.inl (w64 (k + 1)))
        else none
      else none
    else some (Sum.inr (Sum.inr ()))
theorem q2J : ∀ (a b : List Int) (k : Int), XL2 evo 15 0 4 ⟨[(0, rL 1 eI a), (1, rL 1 eI b), (5, rI k)], [], 0, 26⟩ = (qN (Z5 a b) k).bind (Sum.elim (fun (e : Unit) => some (Go.Exit.ret, ⟨[(4, rB Bool.false)], [], 0, 26⟩)) (fun (e : Unit) => some (Go.Exit.exit 0, ⟨[(4, R.any)], [], 0, 26⟩))) :=
  fun a b k => by
    revert k; exact qaK qo2 qnj (fun e => by rcases e with _ | _ <;> exact ⟨_, rfl, fun h => by cases h⟩) fun x => by
      have := qss; have := @qfB.eq_1; have := @Z5.eq_1; exact gA
noncomputable def zV (a : List Int) (b : List Int) : Option Bool :=
  if (((a.length : Nat) : Int) != ((b.length : Nat) : Int)) = Bool.true then some Bool.false
  else Option.bind (qN (Z5 a b) 0) fun (a2 : Sum Unit Unit) =>
  Sum.elim (fun (a3 : Unit) => some Bool.false) (fun (a4 : Unit) => some Bool.true) a2
theorem q0N : ∀ (a b : List Int), ev 15 0 [rL 1 eI a, rL 1 eI b] [] = (zV a b).bind (fun (e : Bool) => some (rB e, [])) :=
  fun a b => by
    rw [qz qps qsy.2.2.2 qsn]
    have := qss; have := @q2J; have := @zV.eq_1; exact gA
theorem q2B : ∀ (b0 b1 b2 : Int) (a : List Int), ev 15 0 [rL 1 eI a, R.c (C.d (D.sl 1 3 [D.int .i64 b0, D.int .i64 b1, D.int .i64 b2]))] [] = (zV a [b0, b1, b2]).bind (fun (e : Bool) => some (rB e, [])) := by
  intro b0 b1 b2 a; have h := q0N a [b0, b1, b2]
  first
    | exact h
    | (simp only [rL, dL, bR, bZ, Nat.reduceAdd] at h; exact h)
theorem q2M : ∀ (b0 b1 : Int) (a : List Int), ev 15 0 [rL 1 eI a, R.c (C.d (D.sl 1 2 [D.int .i64 b0, D.int .i64 b1]))] [] = (zV a [b0, b1]).bind (fun (e : Bool) => some (rB e, [])) := by
  intro b0 b1 a; have h := q0N a [b0, b1]
  first
    | exact h
    | (simp only [rL, dL, bR, bZ, Nat.reduceAdd] at h; exact h)
noncomputable def J3 (fu : Nat) (a : List Int) (b : List Int) : Option Bool :=
  if (((a.length : Nat) : Int) != ((b.length : Nat) : Int)) = Bool.true then some Bool.false
  else Option.bind (itT (Z5 a b) fu 0) fun (a2 : Sum Unit Unit) =>
  Sum.elim (fun (a3 : Unit) => some Bool.false) (fun (a4 : Unit) => some Bool.true) a2
theorem q4Q (fu : Nat) (a b : List Int) : qk (J3 fu a b) (zV a b) := by
  unfold J3 zV
  repeat (first
    | with_reducible exact qk.refl _
    | with_reducible exact qk.none _
    | with_reducible refine qk.bind ?_ (fun _ => ?_)
    | with_reducible refine qk.ite ?_ ?_
    | with_reducible refine qk.sum (fun _ => ?_) (fun _ => ?_)
    | with_reducible refine qk.lim (fun _ => ?_))
theorem lo5 : okL 5 qcU := qy (qi bd5) (by kernel_rfl) (by kernel_rfl)
def cx5 := JA_ @qcU.eq_1 (JA_ @Try.f5.eq_1 @bd5)
theorem qqx : lbO 5 7 = qke := Q8 (qi bd5) rfl
theorem qqN : okL 5 qke := zc lo5 (List.mem_of_getElem? (i := 0) (by kernel_rfl))
theorem qma : lbO 5 19 = qfQ := Q8 (qi bd5) rfl
theorem qm6 : okL 5 qfQ := zc lo5 (List.mem_of_getElem? (i := 1) (by kernel_rfl))
theorem qoZ : lbO 5 23 = qeB := Q8 (qi bd5) rfl
theorem qoq : okL 5 qeB := zc lo5 (List.mem_of_getElem? (i := 2) (by kernel_rfl))
theorem lo7 : okL 7 qk7 := qy (qi bd7) (by kernel_rfl) (by kernel_rfl)
def cx7 := JA_ @qk7.eq_1 (JA_ @Try.f7.eq_1 @bd7)
theorem quH : okL 19 qdI := qy (qi qr7) (by kernel_rfl) (by kernel_rfl)
def qvU := JA_ @qdI.eq_1 (JA_ @Try.f19.eq_1 @qr7)
theorem qs6 : okL 40 qcq := qy (qi qpv) (by kernel_rfl) (by kernel_rfl)
def qtm := JA_ @qcq.eq_1 (JA_ @Try.f40.eq_1 @qpv)
theorem qn4 : lbO 40 9 = qeW := Q8 (qi qpv) rfl
theorem qmW : okL 40 qeW := zc qs6 (List.mem_of_getElem? (i := 0) (by kernel_rfl))
theorem qvd : okL 57 qgd := qy (qi qr2) (by kernel_rfl) (by kernel_rfl)
def qvS := JA_ @qgd.eq_1 (JA_ @Try.f57.eq_1 @qr2)
noncomputable def qm (most : Int) (d : qh) : Option (Int × qh) :=
  if ((d.L.length : Nat) : Int) ≤ d.At then some (0, d)
  else if 0 ≤ d.At ∧ d.At < ((d.L.length : Nat) : Int) then Option.bind d.L[Int.toNat d.At]? fun (a : Int) =>
    if most = 0 then none
    else if most = 0 then none
    else some (Int.tmod (w64 (Int.tmod a most + most)) most, qh.mk d.L (w64 (d.At + 1)))
  else none
theorem ZR : ∀ (most : Int) (d_L : List Int) (d_At : Int), ev 57 1 [rP 0, rI most] [(0, B.blk 83 [dL 1 eI d_L, dI d_At])] = (qm most (qh.mk d_L d_At)).bind (fun (e : Int × qh) => some (rI e.1, [(0, B.blk 83 [dL 1 eI e.2.L, dI e.2.At])])) :=
  fun most d_L d_At => by
    rw [qz qr2 qt7.2.2.2 qvd]
    have := qvS; have := @qm.eq_1; exact gA
theorem qqT : okL 58 qaM := qy (qi qmH) (by kernel_rfl) (by kernel_rfl)
def qqD := JA_ @qaM.eq_1 (JA_ @Try.f58.eq_1 @qmH)
theorem qmT : lbO 58 4 = qf4 := Q8 (qi qmH) rfl
theorem qmg : okL 58 qf4 := zc qqT (List.mem_of_getElem? (i := 0) (by kernel_rfl))
theorem qnm : lbO 58 8 = qgm := Q8 (qi qmH) rfl
theorem qne : okL 58 qgm := zc qqT (List.mem_of_getElem? (i := 1) (by kernel_rfl))
theorem quy : okL 72 qgL := qy (qi qrE) (by kernel_rfl) (by kernel_rfl)
def qvW := JA_ @qgL.eq_1 (JA_ @Try.f72.eq_1 @qrE)
theorem qvv : okL 77 qfD := qy (qi qqC) (by kernel_rfl) (by kernel_rfl)
def quz := JA_ @qfD.eq_1 (JA_ @Try.f77.eq_1 @qqC)
noncomputable def q0F : Option (List ByteArray) :=
  some [ByteArray.mk (List.toArray [65, 49]), ByteArray.mk (List.toArray [66, 49]), ByteArray.mk (List.toArray [66, 50]), ByteArray.mk (List.toArray [67, 49]), ByteArray.mk (List.toArray [68, 49]), ByteArray.mk (List.toArray [69, 57])]
noncomputable def qM : List ByteArray :=
  [ByteArray.mk (List.toArray [65, 49]), ByteArray.mk (List.toArray [66, 49]), ByteArray.mk (List.toArray [66, 50]), ByteArray.mk (List.toArray [67, 49]), ByteArray.mk (List.toArray [68, 49]), ByteArray.mk (List.toArray [69, 57])]
theorem q5Y : q0F = some (qM) := by
  unfold q0F qM
  simp only [zY]
theorem q7p : ev 77 0 [] [] = some (R.c (C.d (D.sl 1 (qM).length ((qM).flatMap eS))), []) :=
  by
    have h : ev 77 0 [] [] = (q0F).bind (fun (e : List ByteArray) => some (rL 1 eS e, [])) := by
      rw [qz qqC qsP.2.2.2 qvv]
      have := quz; have := @q0F.eq_1; exact gA
    rw [q5Y] at h
    exact h
noncomputable def ZZ (d : qh) : Option (qc × qh) :=
  Option.bind (qm 6 d) fun (a : Prod Int qh) =>
  if 0 ≤ a.1 ∧ a.1 < 6 then Option.bind [(1 : Int), 1, 1, 2, 2, 3][Int.toNat a.1]? fun (a2 : Int) =>
    Option.bind (qm ((qM.length : Nat) : Int) a.2) fun (a3 : Prod Int qh) =>
    if 0 ≤ a3.1 ∧ a3.1 < ((qM.length : Nat) : Int) then Option.bind qM[Int.toNat a3.1]? fun (a4 : ByteArray) =>
      some (qc.mk a2 a4, a3.2)
    else none
  else none
theorem q5R : ∀ (d_L : List Int) (d_At : Int), ev 72 1 [rP 0] [(0, B.blk 83 [dL 1 eI d_L, dI d_At])] = (ZZ (qh.mk d_L d_At)).bind (fun (e : qc × qh) => some (R.agg [dI e.1.School, dS e.1.Code], [(0, B.blk 83 [dL 1 eI e.2.L, dI e.2.At])])) :=
  fun d_L d_At => by
    rw [qz qrE qs5.2.2.2 quy]
    have := qvW; have := @ZR; have := @q7p; have := @ZZ.eq_1; exact gA
theorem qtV : okL 60 qgi := qy (qi qqS) (by kernel_rfl) (by kernel_rfl)
def qtC := JA_ @qgi.eq_1 (JA_ @Try.f60.eq_1 @qqS)
noncomputable def J5 (a : qc) (b : qc) : Option Bool :=
  if a.School < b.School then some Bool.true
  else if (a.School == b.School) = Bool.true then some (Go.Op.bytesLess (ByteArray.toList a.Code) (ByteArray.toList b.Code))
  else some Bool.false
noncomputable def za (a : qc) (b : qc) : Bool :=
  if a.School < b.School then Bool.true
  else if (a.School == b.School) = Bool.true then Go.Op.bytesLess (ByteArray.toList a.Code) (ByteArray.toList b.Code)
  else Bool.false
theorem q3Y (a b : qc) : J5 a b = some (za a b) := by
  unfold J5 za
  simp only [zY]
theorem Jg : ∀ (a_School : Int) (a_Code : ByteArray) (b_School : Int) (b_Code : ByteArray), ev 60 0 [R.agg [dI a_School, dS a_Code], R.agg [dI b_School, dS b_Code]] [] = some (rB (za (qc.mk a_School a_Code) (qc.mk b_School b_Code)), []) :=
  fun a_School a_Code b_School b_Code => by
    have h : ev 60 0 [R.agg [dI a_School, dS a_Code], R.agg [dI b_School, dS b_Code]] [] = (J5 (qc.mk a_School a_Code) (qc.mk b_School b_Code)).bind (fun (e : Bool) => some (rB e, [])) := by
      rw [qz qqS qs8.2.2.2 qtV]
      have := qtC; have := @J5.eq_1; exact gA
    rw [q3Y] at h
    exact h
noncomputable def QM (out : List qc) (d : qh) (c : qc) (many : Int) (k : Int) : Int → Option (Int ⊕ Int)
  | at0 =>
    if at0 < ((out.length : Nat) : Int) then if 0 ≤ at0 ∧ at0 < ((out.length : Nat) : Int) then Option.bind out[Int.toNat at0]? fun (a : qc) =>
        if za a c = Bool.true then some (Sum.inl (w64 (at0 + 1)))
        else some (Sum.inr at0)
      else none
    else some (Sum.inr at0)
theorem q61 : ∀ (out : List qc) (d_L : List Int) (d_At c_School : Int) (c_Code : ByteArray) (many k at0 : Int) (out_len : Nat), out_len = out.length → XL2 evo 58 1 8 ⟨[(0, rP 0), (3, rI many), (4, rO 1 2 out_len), (5, rI k), (6, rP 2), (7, rI at0)], [(0, B.blk 83 [dL 1 eI d_L, dI d_At]), (1, bR 52 2 qe out), (2, B.blk 52 [dI c_School, dS c_Code])], 3, 61⟩ = (qN (QM out (qh.mk d_L d_At) (qc.mk c_School c_Code) many k) at0).bind (fun (e : Int) => some (Go.Exit.exit 2, ⟨[(0, rP 0), (3, rI many), (4, rO 1 2 out.length), (5, rI k), (6, rP 2), (7, rI e)], [(0, B.blk 83 [dL 1 eI d_L, dI d_At]), (1, bR 52 2 qe out), (2, B.blk 52 [dI c_School, dS c_Code])], 3, 61⟩)) :=
  by
  intro out d_L d_At c_School c_Code many k at0 out_len h0
  subst h0
  revert at0; exact qaK qnm qne (fun e => by exact ⟨_, rfl, fun h => by cases h⟩) fun x => by
    have := qqD; have := @qgm.eq_1; have := @Jg; have := @QM.eq_1; exact gA
end Go.Proofs.Ytgejdfnidjnjcaa.Vc
