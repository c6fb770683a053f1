/- Part 8 of a proof. -/
import Derived.Test.YtplfjlcnffcenaaGreatM7
import Derived.Test.YtplfjlcnffcenaaGreatRows
import Derived.ChangeSlices
import Derived.OpenShut
import Derived.Carry
import Derived.ChangeSame
import Derived.ChangeMaps5
import Derived.WideShapes
import Derived.ProofKit
import Derived.Deep.DeepHandedRow
import Derived.Lib.LaidTab
import Derived.Stop.LaidErr
set_option linter.unusedVariables false
set_option linter.unusedSimpArgs false
set_option linter.defProp false
set_option linter.unusedSectionVars false
set_option linter.unnecessarySimpa false
namespace Go.Proofs.YtplfjlcnffcenaaGreat.Vc
open Go.RowKit
set_option linter.unusedVariables false
set_option maxRecDepth 100000
theorem Q4 {α : Type} (ds : List α) (o s : Nat) : ds.drop o = (ds.drop o).take s ++ ds.drop (o + s) := by
  rw [← List.drop_drop]; exact (List.take_append_drop s _).symm
theorem q4c {X : Type} {E : X → List D} {W : X → Prop} {sz : Nat} (hz : 0 < sz) : ∀ (m : Nat) (es : List D), es.length = m * sz → (∀ i, i < m → ∃ x, (es.drop (i * sz)).take sz = E x ∧ W x) → ∃ l : List X, es = l.flatMap E ∧ l.length = m ∧ ∀ x ∈ l, W x
  | 0, es, hl, _ => ⟨[], by rw [Nat.zero_mul] at hl; exact List.eq_nil_of_length_eq_zero hl, rfl, by simp⟩
  | m + 1, es, hl, h => by
    obtain ⟨x, hx, wx⟩ := h 0 (by omega)
    obtain ⟨l, g1, g2, g3⟩ := q4c hz m (es.drop sz) (by rw [List.length_drop, hl, Nat.add_mul]; omega) fun i hi => by
      obtain ⟨y, hy, wy⟩ := h (i + 1) (by omega)
      refine ⟨y, ?_, wy⟩
      rw [List.drop_drop, show sz + i * sz = (i + 1) * sz by rw [Nat.add_mul, Nat.one_mul, Nat.add_comm]]; exact hy
    refine ⟨x :: l, ?_, by simp [g2], fun y hy => ?_⟩
    · rw [Nat.zero_mul, List.drop_zero] at hx
      rw [List.flatMap_cons, ← g1, ← hx, List.take_append_drop]
    · rcases List.mem_cons.1 hy with rfl | hy
      · exact wx
      · exact g3 y hy
abbrev qtC : List TypeId := [22, 45, 3, 47, 23, 35, 30, 25, 9, 26, 79, 28, 32, 33, 53, 51]
theorem qd8 : qwv Tryz.prog qtC = true := by kernel_rfl
theorem ty3 : ∀ (n : Nat) (ds : List D), zq Tryz.prog n 3 ds → ∃ v : Int, ds = [D.int .i64 v] ∧ (Lit.int .i64 v).wf = true := by
  intro n ds h
  cases n with
  | zero => exact h.elim
  | succ n =>
    unfold zq at h
    rw [Tryz.underlying3] at h
    obtain ⟨z, h1, h2⟩ := h
    exact ⟨z, h1, h2⟩
theorem cz3 : Tryz.prog.cellsOf 3 = 1 := by kernel_rfl
theorem ty45 : ∀ (n : Nat) (ds : List D), zq Tryz.prog n 45 ds → ∃ v : List Int, ds = [D.sl 1 v.length (v.flatMap eI)] ∧ (v.length ≤ maxLen ∧ ∀ y ∈ v, (Lit.int .i64 y).wf = true) := by
  intro n ds h
  cases n with
  | zero => exact h.elim
  | succ n =>
    unfold zq at h
    rw [Tryz.underlying45] at h
    obtain ⟨m, es, h1, h2, h3, h4⟩ := h
    rw [cz3] at h1 h3 h4
    obtain ⟨l, g1, g2, g3⟩ := q4c (E := eI) (W := fun y => (Lit.int .i64 y).wf = true) (sz := 1) (by decide) m es h3 fun i hi => by
      obtain ⟨v, q1, q2⟩ := ty3 n _ (h4 i hi)
      exact ⟨v, q1.trans (rfl), q2⟩
    refine ⟨l, ?_, by omega, g3⟩
    rw [h1, g1, g2]
theorem qtO : Tryz.prog.cellsOf 45 = 1 := by kernel_rfl
theorem ty22 : ∀ (n : Nat) (ds : List D), zq Tryz.prog n 22 ds → ∃ v : List (List Int), ds = [D.sl 1 v.length (v.flatMap (eL 1 eI))] ∧ (v.length ≤ maxLen ∧ ∀ y ∈ v, (y.length ≤ maxLen ∧ ∀ yy ∈ y, (Lit.int .i64 yy).wf = true)) := by
  intro n ds h
  cases n with
  | zero => exact h.elim
  | succ n =>
    unfold zq at h
    rw [Tryz.underlying22] at h
    obtain ⟨m, es, h1, h2, h3, h4⟩ := h
    rw [qtO] at h1 h3 h4
    obtain ⟨l, g1, g2, g3⟩ := q4c (E := (eL 1 eI)) (W := fun y => (y.length ≤ maxLen ∧ ∀ yy ∈ y, (Lit.int .i64 yy).wf = true)) (sz := 1) (by decide) m es h3 fun i hi => by
      obtain ⟨v, q1, q2⟩ := ty45 n _ (h4 i hi)
      exact ⟨v, q1.trans (rfl), q2⟩
    refine ⟨l, ?_, by omega, g3⟩
    rw [h1, g1, g2]
theorem qwq : Tryz.prog.cellsOf 23 = 2 := by kernel_rfl
theorem qx7 : ∀ (n : Nat) (ds : List D), zq Tryz.prog n 23 ds → ∃ v : Z6 Int, ds = [D.int .i64 v.a0, D.int .i64 v.a1] ∧ ((Lit.int .i64 v.a0).wf = true ∧ (Lit.int .i64 v.a1).wf = true) := by
  intro n ds h
  cases n with
  | zero => exact h.elim
  | succ n =>
    unfold zq at h
    rw [Tryz.underlying23] at h
    obtain ⟨hl, hf⟩ := h
    rw [qwq] at hl
    have h0 : zq Tryz.prog n 3 ((ds.drop 0).take (Tryz.prog.cellsOf 3)) := by
      have := hf 0 (by decide)
      rwa [cz3] at this ⊢
    rw [cz3] at h0
    obtain ⟨v0, e0, w0⟩ := ty3 _ _ h0
    have c0 := Q4 ds 0 1
    rw [e0] at c0
    have h1 : zq Tryz.prog n 3 ((ds.drop 1).take (Tryz.prog.cellsOf 3)) := by
      have := hf 1 (by decide)
      rwa [cz3] at this ⊢
    rw [cz3] at h1
    obtain ⟨v1, e1, w1⟩ := ty3 _ _ h1
    have c1 := Q4 ds 1 1
    rw [e1] at c1
    have cl : ds.drop 2 = [] := List.drop_eq_nil_of_le (by omega)
    refine ⟨⟨v0, v1⟩, ?_, ⟨w0, w1⟩⟩
    have c : ds.drop 0 = _ := c0
    simp only [Nat.reduceAdd] at c0 c1 c
    rw [c1, cl] at c
    exact c
theorem ty9 : ∀ (n : Nat) (ds : List D), zq Tryz.prog n 9 ds → ∃ v : ByteArray, ds = [D.str v] ∧ v.size ≤ maxLen := by
  intro n ds h
  cases n with
  | zero => exact h.elim
  | succ n =>
    unfold zq at h
    rw [Tryz.underlying9] at h
    obtain ⟨s, h1, h2⟩ := h
    exact ⟨s, h1, h2⟩
theorem cz9 : Tryz.prog.cellsOf 9 = 1 := by kernel_rfl
theorem qy2 : ∀ (n : Nat) (ds : List D), zq Tryz.prog n 25 ds → ∃ v : List ByteArray, ds = [D.sl 1 v.length (v.flatMap eS)] ∧ (v.length ≤ maxLen ∧ ∀ y ∈ v, y.size ≤ maxLen) := by
  intro n ds h
  cases n with
  | zero => exact h.elim
  | succ n =>
    unfold zq at h
    rw [Tryz.underlying25] at h
    obtain ⟨m, es, h1, h2, h3, h4⟩ := h
    rw [cz9] at h1 h3 h4
    obtain ⟨l, g1, g2, g3⟩ := q4c (E := eS) (W := fun y => y.size ≤ maxLen) (sz := 1) (by decide) m es h3 fun i hi => by
      obtain ⟨v, q1, q2⟩ := ty9 n _ (h4 i hi)
      exact ⟨v, q1.trans (rfl), q2⟩
    refine ⟨l, ?_, by omega, g3⟩
    rw [h1, g1, g2]
theorem qwP : Tryz.prog.cellsOf 79 = 2 := by kernel_rfl
def q1R (x : qh) : Prop := x.Code.size ≤ maxLen ∧ (Lit.int .i64 x.Credits).wf = true
theorem qzX : ∀ (n : Nat) (ds : List D), zq Tryz.prog n 79 ds → ∃ v : qh, ds = [D.str v.Code, D.int .i64 v.Credits] ∧ q1R v := by
  intro n ds h
  cases n with
  | zero => exact h.elim
  | succ n =>
    unfold zq at h
    rw [Tryz.underlying79] at h
    obtain ⟨hl, hf⟩ := h
    rw [qwP] at hl
    have h0 : zq Tryz.prog n 9 ((ds.drop 0).take (Tryz.prog.cellsOf 9)) := hf _ (List.mem_of_getElem? (i := 0) rfl)
    rw [cz9] at h0
    obtain ⟨v0, e0, w0⟩ := ty9 _ _ h0
    have c0 := Q4 ds 0 1
    rw [e0] at c0
    have h1 : zq Tryz.prog n 3 ((ds.drop 1).take (Tryz.prog.cellsOf 3)) := hf _ (List.mem_of_getElem? (i := 1) rfl)
    rw [cz3] at h1
    obtain ⟨v1, e1, w1⟩ := ty3 _ _ h1
    have c1 := Q4 ds 1 1
    rw [e1] at c1
    have cl : ds.drop 2 = [] := List.drop_eq_nil_of_le (by omega)
    refine ⟨⟨v0, v1⟩, ?_, ⟨w0, w1⟩⟩
    have c : ds.drop 0 = _ := c0
    simp only [Nat.reduceAdd] at c0 c1 c
    rw [c1, cl] at c
    exact c
theorem qy5 : ∀ (n : Nat) (ds : List D), zq Tryz.prog n 26 ds → ∃ v : List qh, ds = [D.sl 2 v.length (v.flatMap qe)] ∧ (v.length ≤ maxLen ∧ ∀ y ∈ v, q1R y) := by
  intro n ds h
  cases n with
  | zero => exact h.elim
  | succ n =>
    unfold zq at h
    rw [Tryz.underlying26] at h
    obtain ⟨m, es, h1, h2, h3, h4⟩ := h
    rw [qwP] at h1 h3 h4
    obtain ⟨l, g1, g2, g3⟩ := q4c (E := qe) (W := fun y => q1R y) (sz := 2) (by decide) m es h3 fun i hi => by
      obtain ⟨v, q1, q2⟩ := qzX n _ (h4 i hi)
      exact ⟨v, q1.trans ((Qw v).symm), q2⟩
    refine ⟨l, ?_, by omega, g3⟩
    rw [h1, g1, g2]
theorem qvd : Tryz.prog.cellsOf 28 = 4 := by kernel_rfl
def q6H (x : qd) : Prop := (Lit.int .i64 x.Num).wf = true ∧ (Lit.int .i64 x.Add).wf = true ∧ (Lit.int .i64 x.Den).wf = true ∧ (Lit.int .i64 x.Round).wf = true
theorem qzt : ∀ (n : Nat) (ds : List D), zq Tryz.prog n 28 ds → ∃ v : qd, ds = [D.int .i64 v.Num, D.int .i64 v.Add, D.int .i64 v.Den, D.int .i64 v.Round] ∧ q6H v := by
  intro n ds h
  cases n with
  | zero => exact h.elim
  | succ n =>
    unfold zq at h
    rw [Tryz.underlying28] at h
    obtain ⟨hl, hf⟩ := h
    rw [qvd] at hl
    have h0 : zq Tryz.prog n 3 ((ds.drop 0).take (Tryz.prog.cellsOf 3)) := hf _ (List.mem_of_getElem? (i := 0) rfl)
    rw [cz3] at h0
    obtain ⟨v0, e0, w0⟩ := ty3 _ _ h0
    have c0 := Q4 ds 0 1
    rw [e0] at c0
    have h1 : zq Tryz.prog n 3 ((ds.drop 1).take (Tryz.prog.cellsOf 3)) := hf _ (List.mem_of_getElem? (i := 1) rfl)
    rw [cz3] at h1
    obtain ⟨v1, e1, w1⟩ := ty3 _ _ h1
    have c1 := Q4 ds 1 1
    rw [e1] at c1
    have h2 : zq Tryz.prog n 3 ((ds.drop 2).take (Tryz.prog.cellsOf 3)) := hf _ (List.mem_of_getElem? (i := 2) rfl)
    rw [cz3] at h2
    obtain ⟨v2, e2, w2⟩ := ty3 _ _ h2
    have c2 := Q4 ds 2 1
    rw [e2] at c2
    have h3 : zq Tryz.prog n 3 ((ds.drop 3).take (Tryz.prog.cellsOf 3)) := hf _ (List.mem_of_getElem? (i := 3) rfl)
    rw [cz3] at h3
    obtain ⟨v3, e3, w3⟩ := ty3 _ _ h3
    have c3 := Q4 ds 3 1
    rw [e3] at c3
    have cl : ds.drop 4 = [] := List.drop_eq_nil_of_le (by omega)
    refine ⟨⟨v0, v1, v2, v3⟩, ?_, ⟨w0, w1, w2, w3⟩⟩
    have c : ds.drop 0 = _ := c0
    simp only [Nat.reduceAdd] at c0 c1 c2 c3 c
    rw [c1, c2, c3, cl] at c
    exact c
theorem qzF : Tryz.prog.cellsOf 25 = 1 := by kernel_rfl
theorem qzC : Tryz.prog.cellsOf 26 = 1 := by kernel_rfl
theorem qvS : Tryz.prog.cellsOf 30 = 11 := by kernel_rfl
def q1G (x : qa) : Prop := (Lit.int .i64 x.Id).wf = true ∧ (Lit.int .i64 x.From).wf = true ∧ (Lit.int .i64 x.To).wf = true ∧ (Lit.int .i64 x.Begin).wf = true ∧ (Lit.int .i64 x.End).wf = true ∧ (x.In.length ≤ maxLen ∧ ∀ y ∈ x.In, y.size ≤ maxLen) ∧ (x.Out.length ≤ maxLen ∧ ∀ y ∈ x.Out, q1R y) ∧ q6H x.Conv
theorem qyn : ∀ (n : Nat) (ds : List D), zq Tryz.prog n 30 ds → ∃ v : qa, ds = [D.int .i64 v.Id, D.int .i64 v.From, D.int .i64 v.To, D.int .i64 v.Begin, D.int .i64 v.End, D.sl 1 v.In.length (v.In.flatMap eS), D.sl 2 v.Out.length (v.Out.flatMap qe), D.int .i64 v.Conv.Num, D.int .i64 v.Conv.Add, D.int .i64 v.Conv.Den, D.int .i64 v.Conv.Round] ∧ q1G v := by
  intro n ds h
  cases n with
  | zero => exact h.elim
  | succ n =>
    unfold zq at h
    rw [Tryz.underlying30] at h
    obtain ⟨hl, hf⟩ := h
    rw [qvS] at hl
    have h0 : zq Tryz.prog n 3 ((ds.drop 0).take (Tryz.prog.cellsOf 3)) := hf _ (List.mem_of_getElem? (i := 0) rfl)
    rw [cz3] at h0
    obtain ⟨v0, e0, w0⟩ := ty3 _ _ h0
    have c0 := Q4 ds 0 1
    rw [e0] at c0
    have h1 : zq Tryz.prog n 3 ((ds.drop 1).take (Tryz.prog.cellsOf 3)) := hf _ (List.mem_of_getElem? (i := 1) rfl)
    rw [cz3] at h1
    obtain ⟨v1, e1, w1⟩ := ty3 _ _ h1
    have c1 := Q4 ds 1 1
    rw [e1] at c1
    have h2 : zq Tryz.prog n 3 ((ds.drop 2).take (Tryz.prog.cellsOf 3)) := hf _ (List.mem_of_getElem? (i := 2) rfl)
    rw [cz3] at h2
    obtain ⟨v2, e2, w2⟩ := ty3 _ _ h2
    have c2 := Q4 ds 2 1
    rw [e2] at c2
    have h3 : zq Tryz.prog n 3 ((ds.drop 3).take (Tryz.prog.cellsOf 3)) := hf _ (List.mem_of_getElem? (i := 3) rfl)
    rw [cz3] at h3
    obtain ⟨v3, e3, w3⟩ := ty3 _ _ h3
    have c3 := Q4 ds 3 1
    rw [e3] at c3
    have h4 : zq Tryz.prog n 3 ((ds.drop 4).take (Tryz.prog.cellsOf 3)) := hf _ (List.mem_of_getElem? (i := 4) rfl)
    rw [cz3] at h4
    obtain ⟨v4, e4, w4⟩ := ty3 _ _ h4
    have c4 := Q4 ds 4 1
    rw [e4] at c4
    have h5 : zq Tryz.prog n 25 ((ds.drop 5).take (Tryz.prog.cellsOf 25)) := hf _ (List.mem_of_getElem? (i := 5) rfl)
    rw [qzF] at h5
    obtain ⟨v5, e5, w5⟩ := qy2 _ _ h5
    have c5 := Q4 ds 5 1
    rw [e5] at c5
    have h6 : zq Tryz.prog n 26 ((ds.drop 6).take (Tryz.prog.cellsOf 26)) := hf _ (List.mem_of_getElem? (i := 6) rfl)
    rw [qzC] at h6
    obtain ⟨v6, e6, w6⟩ := qy5 _ _ h6
    have c6 := Q4 ds 6 1
    rw [e6] at c6
    have h7 : zq Tryz.prog n 28 ((ds.drop 7).take (Tryz.prog.cellsOf 28)) := hf _ (List.mem_of_getElem? (i := 7) rfl)
    rw [qvd] at h7
    obtain ⟨v7, e7, w7⟩ := qzt _ _ h7
    have c7 := Q4 ds 7 4
    rw [e7] at c7
    have cl : ds.drop 11 = [] := List.drop_eq_nil_of_le (by omega)
    refine ⟨⟨v0, v1, v2, v3, v4, v5, v6, v7⟩, ?_, ⟨w0, w1, w2, w3, w4, w5, w6, w7⟩⟩
    have c : ds.drop 0 = _ := c0
    simp only [Nat.reduceAdd] at c0 c1 c2 c3 c4 c5 c6 c7 c
    rw [c1, c2, c3, c4, c5, c6, c7, cl] at c
    exact c
theorem qvj : Tryz.prog.cellsOf 32 = 3 := by kernel_rfl
def q5X (x : qf) : Prop := (Lit.int .i64 x.Worst).wf = true ∧ (Lit.int .i64 x.Best).wf = true ∧ (Lit.int .i64 x.Pass).wf = true
theorem qyJ : ∀ (n : Nat) (ds : List D), zq Tryz.prog n 32 ds → ∃ v : qf, ds = [D.int .i64 v.Worst, D.int .i64 v.Best, D.int .i64 v.Pass] ∧ q5X v := by
  intro n ds h
  cases n with
  | zero => exact h.elim
  | succ n =>
    unfold zq at h
    rw [Tryz.underlying32] at h
    obtain ⟨hl, hf⟩ := h
    rw [qvj] at hl
    have h0 : zq Tryz.prog n 3 ((ds.drop 0).take (Tryz.prog.cellsOf 3)) := hf _ (List.mem_of_getElem? (i := 0) rfl)
    rw [cz3] at h0
    obtain ⟨v0, e0, w0⟩ := ty3 _ _ h0
    have c0 := Q4 ds 0 1
    rw [e0] at c0
    have h1 : zq Tryz.prog n 3 ((ds.drop 1).take (Tryz.prog.cellsOf 3)) := hf _ (List.mem_of_getElem? (i := 1) rfl)
    rw [cz3] at h1
    obtain ⟨v1, e1, w1⟩ := ty3 _ _ h1
    have c1 := Q4 ds 1 1
    rw [e1] at c1
    have h2 : zq Tryz.prog n 3 ((ds.drop 2).take (Tryz.prog.cellsOf 3)) := hf _ (List.mem_of_getElem? (i := 2) rfl)
    rw [cz3] at h2
    obtain ⟨v2, e2, w2⟩ := ty3 _ _ h2
    have c2 := Q4 ds 2 1
    rw [e2] at c2
    have cl : ds.drop 3 = [] := List.drop_eq_nil_of_le (by omega)
    refine ⟨⟨v0, v1, v2⟩, ?_, ⟨w0, w1, w2⟩⟩
    have c : ds.drop 0 = _ := c0
    simp only [Nat.reduceAdd] at c0 c1 c2 c
    rw [c1, c2, cl] at c
    exact c
theorem quV : Tryz.prog.cellsOf 51 = 2 := by kernel_rfl
def q4v (x : qt) : Prop := (Lit.int .i64 x.School).wf = true ∧ x.Code.size ≤ maxLen
theorem qzO : ∀ (n : Nat) (ds : List D), zq Tryz.prog n 51 ds → ∃ v : qt, ds = [D.int .i64 v.School, D.str v.Code] ∧ q4v v := by
  intro n ds h
  cases n with
  | zero => exact h.elim
  | succ n =>
    unfold zq at h
    rw [Tryz.underlying51] at h
    obtain ⟨hl, hf⟩ := h
    rw [quV] at hl
    have h0 : zq Tryz.prog n 3 ((ds.drop 0).take (Tryz.prog.cellsOf 3)) := hf _ (List.mem_of_getElem? (i := 0) rfl)
    rw [cz3] at h0
    obtain ⟨v0, e0, w0⟩ := ty3 _ _ h0
    have c0 := Q4 ds 0 1
    rw [e0] at c0
    have h1 : zq Tryz.prog n 9 ((ds.drop 1).take (Tryz.prog.cellsOf 9)) := hf _ (List.mem_of_getElem? (i := 1) rfl)
    rw [cz9] at h1
    obtain ⟨v1, e1, w1⟩ := ty9 _ _ h1
    have c1 := Q4 ds 1 1
    rw [e1] at c1
    have cl : ds.drop 2 = [] := List.drop_eq_nil_of_le (by omega)
    refine ⟨⟨v0, v1⟩, ?_, ⟨w0, w1⟩⟩
    have c : ds.drop 0 = _ := c0
    simp only [Nat.reduceAdd] at c0 c1 c
    rw [c1, cl] at c
    exact c
theorem qwr : Tryz.prog.cellsOf 53 = 8 := by kernel_rfl
def Zn (x : qb) : Prop := q4v x.Course ∧ (Lit.int .i64 x.Credits).wf = true ∧ (Lit.int .i64 x.Grade).wf = true ∧ (Lit.int .i64 x.Day).wf = true ∧ (x.Sources.length ≤ maxLen ∧ ∀ y ∈ x.Sources, (Lit.int .i64 y).wf = true) ∧ (Lit.int .i64 x.Bundle).wf = true ∧ (x.Path.length ≤ maxLen ∧ ∀ y ∈ x.Path, (Lit.int .i64 y).wf = true)
theorem qyQ : ∀ (n : Nat) (ds : List D), zq Tryz.prog n 53 ds → ∃ v : qb, ds = [D.int .i64 v.Course.School, D.str v.Course.Code, D.int .i64 v.Credits, D.int .i64 v.Grade, D.int .i64 v.Day, D.sl 1 v.Sources.length (v.Sources.flatMap eI), D.int .i64 v.Bundle, D.sl 1 v.Path.length (v.Path.flatMap eI)] ∧ Zn v := by
  intro n ds h
  cases n with
  | zero => exact h.elim
  | succ n =>
    unfold zq at h
    rw [Tryz.underlying53] at h
    obtain ⟨hl, hf⟩ := h
    rw [qwr] at hl
    have h0 : zq Tryz.prog n 51 ((ds.drop 0).take (Tryz.prog.cellsOf 51)) := hf _ (List.mem_of_getElem? (i := 0) rfl)
    rw [quV] at h0
    obtain ⟨v0, e0, w0⟩ := qzO _ _ h0
    have c0 := Q4 ds 0 2
    rw [e0] at c0
    have h1 : zq Tryz.prog n 3 ((ds.drop 2).take (Tryz.prog.cellsOf 3)) := hf _ (List.mem_of_getElem? (i := 1) rfl)
    rw [cz3] at h1
    obtain ⟨v1, e1, w1⟩ := ty3 _ _ h1
    have c1 := Q4 ds 2 1
    rw [e1] at c1
    have h2 : zq Tryz.prog n 3 ((ds.drop 3).take (Tryz.prog.cellsOf 3)) := hf _ (List.mem_of_getElem? (i := 2) rfl)
    rw [cz3] at h2
    obtain ⟨v2, e2, w2⟩ := ty3 _ _ h2
    have c2 := Q4 ds 3 1
    rw [e2] at c2
    have h3 : zq Tryz.prog n 3 ((ds.drop 4).take (Tryz.prog.cellsOf 3)) := hf _ (List.mem_of_getElem? (i := 3) rfl)
    rw [cz3] at h3
    obtain ⟨v3, e3, w3⟩ := ty3 _ _ h3
    have c3 := Q4 ds 4 1
    rw [e3] at c3
    have h4 : zq Tryz.prog n 45 ((ds.drop 5).take (Tryz.prog.cellsOf 45)) := hf _ (List.mem_of_getElem? (i := 4) rfl)
    rw [qtO] at h4
    obtain ⟨v4, e4, w4⟩ := ty45 _ _ h4
    have c4 := Q4 ds 5 1
    rw [e4] at c4
    have h5 : zq Tryz.prog n 3 ((ds.drop 6).take (Tryz.prog.cellsOf 3)) := hf _ (List.mem_of_getElem? (i := 5) rfl)
    rw [cz3] at h5
    obtain ⟨v5, e5, w5⟩ := ty3 _ _ h5
    have c5 := Q4 ds 6 1
    rw [e5] at c5
    have h6 : zq Tryz.prog n 45 ((ds.drop 7).take (Tryz.prog.cellsOf 45)) := hf _ (List.mem_of_getElem? (i := 6) rfl)
    rw [qtO] at h6
    obtain ⟨v6, e6, w6⟩ := ty45 _ _ h6
    have c6 := Q4 ds 7 1
    rw [e6] at c6
    have cl : ds.drop 8 = [] := List.drop_eq_nil_of_le (by omega)
    refine ⟨⟨v0, v1, v2, v3, v4, v5, v6⟩, ?_, ⟨w0, w1, w2, w3, w4, w5, w6⟩⟩
    have c : ds.drop 0 = _ := c0
    simp only [Nat.reduceAdd] at c0 c1 c2 c3 c4 c5 c6 c
    rw [c1, c2, c3, c4, c5, c6, cl] at c
    exact c
theorem qxW : ∀ (n : Nat) (ds : List D), zq Tryz.prog n 33 ds → ∃ v : List qb, ds = [D.sl 8 v.length (v.flatMap qc)] ∧ (v.length ≤ maxLen ∧ ∀ y ∈ v, Zn y) := by
  intro n ds h
  cases n with
  | zero => exact h.elim
  | succ n =>
    unfold zq at h
    rw [Tryz.underlying33] at h
    obtain ⟨m, es, h1, h2, h3, h4⟩ := h
    rw [qwr] at h1 h3 h4
    obtain ⟨l, g1, g2, g3⟩ := q4c (E := qc) (W := fun y => Zn y) (sz := 8) (by decide) m es h3 fun i hi => by
      obtain ⟨v, q1, q2⟩ := qyQ n _ (h4 i hi)
      exact ⟨v, q1.trans ((qI v).symm), q2⟩
    refine ⟨l, ?_, by omega, g3⟩
    rw [h1, g1, g2]
theorem qyL : Tryz.prog.cellsOf 33 = 1 := by kernel_rfl
theorem qvJ : Tryz.prog.cellsOf 35 = 16 := by kernel_rfl
def q64 (x : qm) : Prop := q1G x.Agreement ∧ (Lit.int .i64 x.Day).wf = true ∧ q5X x.Scale ∧ (x.L.length ≤ maxLen ∧ ∀ y ∈ x.L, Zn y)
theorem qzy : ∀ (n : Nat) (ds : List D), zq Tryz.prog n 35 ds → ∃ v : qm, ds = [D.int .i64 v.Agreement.Id, D.int .i64 v.Agreement.From, D.int .i64 v.Agreement.To, D.int .i64 v.Agreement.Begin, D.int .i64 v.Agreement.End, D.sl 1 v.Agreement.In.length (v.Agreement.In.flatMap eS), D.sl 2 v.Agreement.Out.length (v.Agreement.Out.flatMap qe), D.int .i64 v.Agreement.Conv.Num, D.int .i64 v.Agreement.Conv.Add, D.int .i64 v.Agreement.Conv.Den, D.int .i64 v.Agreement.Conv.Round, D.int .i64 v.Day, D.int .i64 v.Scale.Worst, D.int .i64 v.Scale.Best, D.int .i64 v.Scale.Pass, D.sl 8 v.L.length (v.L.flatMap qc)] ∧ q64 v := by
  intro n ds h
  cases n with
  | zero => exact h.elim
  | succ n =>
    unfold zq at h
    rw [Tryz.underlying35] at h
    obtain ⟨hl, hf⟩ := h
    rw [qvJ] at hl
    have h0 : zq Tryz.prog n 30 ((ds.drop 0).take (Tryz.prog.cellsOf 30)) := hf _ (List.mem_of_getElem? (i := 0) rfl)
    rw [qvS] at h0
    obtain ⟨v0, e0, w0⟩ := qyn _ _ h0
    have c0 := Q4 ds 0 11
    rw [e0] at c0
    have h1 : zq Tryz.prog n 3 ((ds.drop 11).take (Tryz.prog.cellsOf 3)) := hf _ (List.mem_of_getElem? (i := 1) rfl)
    rw [cz3] at h1
    obtain ⟨v1, e1, w1⟩ := ty3 _ _ h1
    have c1 := Q4 ds 11 1
    rw [e1] at c1
    have h2 : zq Tryz.prog n 32 ((ds.drop 12).take (Tryz.prog.cellsOf 32)) := hf _ (List.mem_of_getElem? (i := 2) rfl)
    rw [qvj] at h2
    obtain ⟨v2, e2, w2⟩ := qyJ _ _ h2
    have c2 := Q4 ds 12 3
    rw [e2] at c2
    have h3 : zq Tryz.prog n 33 ((ds.drop 15).take (Tryz.prog.cellsOf 33)) := hf _ (List.mem_of_getElem? (i := 3) rfl)
    rw [qyL] at h3
    obtain ⟨v3, e3, w3⟩ := qxW _ _ h3
    have c3 := Q4 ds 15 1
    rw [e3] at c3
    have cl : ds.drop 16 = [] := List.drop_eq_nil_of_le (by omega)
    refine ⟨⟨v0, v1, v2, v3⟩, ?_, ⟨w0, w1, w2, w3⟩⟩
    have c : ds.drop 0 = _ := c0
    simp only [Nat.reduceAdd] at c0 c1 c2 c3 c
    rw [c1, c2, c3, cl] at c
    exact c
theorem qzU : Tryz.prog.cellsOf 47 = 19 := by kernel_rfl
def q2j (x : qi) : Prop := (Lit.int .i64 x.At).wf = true ∧ ((Lit.int .i64 x.Odd.a0).wf = true ∧ (Lit.int .i64 x.Odd.a1).wf = true) ∧ q64 x.Raw
theorem ty47 : ∀ (n : Nat) (ds : List D), zq Tryz.prog n 47 ds → ∃ v : qi, ds = [D.int .i64 v.At, D.int .i64 v.Odd.a0, D.int .i64 v.Odd.a1, D.int .i64 v.Raw.Agreement.Id, D.int .i64 v.Raw.Agreement.From, D.int .i64 v.Raw.Agreement.To, D.int .i64 v.Raw.Agreement.Begin, D.int .i64 v.Raw.Agreement.End, D.sl 1 v.Raw.Agreement.In.length (v.Raw.Agreement.In.flatMap eS), D.sl 2 v.Raw.Agreement.Out.length (v.Raw.Agreement.Out.flatMap qe), D.int .i64 v.Raw.Agreement.Conv.Num, D.int .i64 v.Raw.Agreement.Conv.Add, D.int .i64 v.Raw.Agreement.Conv.Den, D.int .i64 v.Raw.Agreement.Conv.Round, D.int .i64 v.Raw.Day, D.int .i64 v.Raw.Scale.Worst, D.int .i64 v.Raw.Scale.Best, D.int .i64 v.Raw.Scale.Pass, D.sl 8 v.Raw.L.length (v.Raw.L.flatMap qc)] ∧ q2j v := by
  intro n ds h
  cases n with
  | zero => exact h.elim
  | succ n =>
    unfold zq at h
    rw [Tryz.underlying47] at h
    obtain ⟨hl, hf⟩ := h
    rw [qzU] at hl
    have h0 : zq Tryz.prog n 3 ((ds.drop 0).take (Tryz.prog.cellsOf 3)) := hf _ (List.mem_of_getElem? (i := 0) rfl)
    rw [cz3] at h0
    obtain ⟨v0, e0, w0⟩ := ty3 _ _ h0
    have c0 := Q4 ds 0 1
    rw [e0] at c0
    have h1 : zq Tryz.prog n 23 ((ds.drop 1).take (Tryz.prog.cellsOf 23)) := hf _ (List.mem_of_getElem? (i := 1) rfl)
    rw [qwq] at h1
    obtain ⟨v1, e1, w1⟩ := qx7 _ _ h1
    have c1 := Q4 ds 1 2
    rw [e1] at c1
    have h2 : zq Tryz.prog n 35 ((ds.drop 3).take (Tryz.prog.cellsOf 35)) := hf _ (List.mem_of_getElem? (i := 2) rfl)
    rw [qvJ] at h2
    obtain ⟨v2, e2, w2⟩ := qzy _ _ h2
    have c2 := Q4 ds 3 16
    rw [e2] at c2
    have cl : ds.drop 19 = [] := List.drop_eq_nil_of_le (by omega)
    refine ⟨⟨v0, v1, v2⟩, ?_, ⟨w0, w1, w2⟩⟩
    have c : ds.drop 0 = _ := c0
    simp only [Nat.reduceAdd] at c0 c1 c2 c
    rw [c1, c2, cl] at c
    exact c
end Go.Proofs.YtplfjlcnffcenaaGreat.Vc
namespace Go.Proofs.YtplfjlcnffcenaaGreat.Vc
open Go.RowKit Go.WideShapes Go.ChangeShapes
inductive q92 (N : Nat) : D → Prop
  | int (k : IntKind) (z : Int) : q92 N (.int k z)
  | bool (b : Bool) : q92 N (.bool b)
  | str (s : ByteArray) : s.size ≤ N → q92 N (.str s)
  | sl (sz n : Nat) (cs : List D) : n ≤ N → (∀ c ∈ cs, q92 N c) → q92 N (.sl sz n cs)
def PVq (N : Nat) (w : World) (cs : List Value) (ds : List D) : Prop := cs.length = ds.length ∧ ∀ (j : Nat) (v : Value) (d : D), cs[j]? = some v → ds[j]? = some d → RD w (fun _ => False) v d ∧ q92 N d
theorem PVq.pv {N : Nat} {w : World} {cs : List Value} {ds : List D} (h : PVq N w cs ds) : PV w cs ds := ⟨h.1, fun j v d h1 h2 => (h.2 j v d h1 h2).1⟩
theorem PVq.lim {N : Nat} {w : World} {cs : List Value} {ds : List D} (h : PVq N w cs ds) : ∀ d ∈ ds, q92 N d := fun d hd => by
  obtain ⟨j, hj⟩ := List.mem_iff_getElem?.1 hd
  have hl := (List.getElem?_eq_some_iff.1 hj).1
  have h1 := h.1
  exact (h.2 j _ d (List.getElem?_eq_getElem (by omega)) hj).2
structure qw8 {H : Type} (bl : DataW H → Nat) : Prop where
  ag : ∀ l x, x ∈ l → bl x ≤ bl (.agg l)
  sl : ∀ l r x, x ∈ l → bl x ≤ bl (.slice l r)
  ln : ∀ l r, l.length ≤ bl (.slice l r)
  st : ∀ l : List UInt8, l.length ≤ bl (.lit (.string l))
theorem qgs {N : Nat} {P : Program} {w : World} {Tt : TypeId → List D → Prop} : ∀ (l : List (Nat × TypeId)) (o e : Nat) (cs : List Value), tl P o l e = true → cs.length = e →
    (∀ f ∈ l, ∃ ds, PVq N w ((cs.drop f.1).take (P.cellsOf f.2)) ds ∧ Tt f.2 ds) → ∃ ds : List D, PVq N w (cs.drop o) ds ∧ ∀ f ∈ l, o ≤ f.1 ∧ Tt f.2 ((ds.drop (f.1 - o)).take (P.cellsOf f.2))
  | [], o, e, cs, h, hl, _ => by
    have : o = e := eq_of_beq h
    exact ⟨[], ⟨by simp; omega, fun j v d _ h => by simp at h⟩, fun f hf => by simp at hf⟩
  | (f, t) :: l, o, e, cs, h, hl, hf => by
    obtain ⟨h1, h2⟩ := (Bool.and_eq_true _ _).mp h
    have h1' : f = o := eq_of_beq h1
    subst h1'
    obtain ⟨ds0, ⟨g1, g2⟩, g3⟩ := hf (f, t) List.mem_cons_self
    obtain ⟨ds1, ⟨g4, g5⟩, g6⟩ := qgs l (f + P.cellsOf t) e cs h2 hl (fun x hx => hf x (List.mem_cons_of_mem _ hx))
    have hle := qqd h2
    have hc : ds0.length = P.cellsOf t := by rw [← g1, List.length_take, List.length_drop]; simp only; omega
    refine ⟨ds0 ++ ds1, ⟨?_, fun j v d hv hd => ?_⟩, fun x hx => ?_⟩
    · rw [List.length_append, hc, ← g4, List.length_drop, List.length_drop]; omega
    · by_cases hj : j < P.cellsOf t
      · rw [List.getElem?_append_left (by omega)] at hd
        refine g2 j v d ?_ hd
        rw [List.getElem?_take_of_lt hj]; exact hv
      · rw [List.getElem?_append_right (by omega), hc] at hd
        refine g5 (j - P.cellsOf t) v d ?_ hd
        rw [List.getElem?_drop] at hv ⊢
        rw [show f + P.cellsOf t + (j - P.cellsOf t) = f + j by omega]; exact hv
    · rcases List.mem_cons.1 hx with rfl | hx
      · refine ⟨Nat.le_refl _, ?_⟩
        rw [Nat.sub_self, List.drop_zero, ← hc, List.take_left']
        · exact g3
        · rfl
      · obtain ⟨g7, g8⟩ := g6 x hx
        refine ⟨by omega, ?_⟩
        rw [show x.1 - f = ds0.length + (x.1 - (f + P.cellsOf t)) by omega, List.drop_length_add_append]
        exact g8
section
variable {N : Nat} {H : Type} {bl : DataW H → Nat} {enc : TypeId × Value → H} {P : Program} {w : World} {base : Nat} {spare : Nat → Bool} {held : Bool}
theorem q3K {l : List TypeId} (hM : qw8 bl) (hl : qwv P l = true) : ∀ (n : Nat) (t : TypeId) (cs : List Value) (x : DataW H × List MemPlace), t ∈ l → DataW.trod enc P w base spare held n t cs = some x → bl x.1 ≤ N → ∃ ds, PVq N w cs ds ∧ zq P n t ds
  | 0, t, cs, x, _, h, _ => by simp [DataW.trod] at h
  | n + 1, t, cs, x, hm, h, hB => by
    have h0 := List.all_eq_true.1 hl t hm
    have hone : ∀ (v : Value) (d : D), RD w (fun _ => False) v d → q92 N d → PVq N w [v] [d] := fun v d hd hq => ⟨rfl, fun j v' d' h1 h2 => by
      cases j with
      | zero => simp only [List.getElem?_cons_zero, Option.some.injEq] at h1 h2; subst h1 h2; exact ⟨hd, hq⟩
      | succ j => simp at h1⟩
    unfold zq
    split at h0
    · rename_i k hu
      obtain ⟨z, rfl, -, hw⟩ := DataW.trod_int hu h
      exact ⟨_, hone _ _ (.int k z) (.int k z), z, rfl, hw⟩
    · rename_i hu
      obtain ⟨b, rfl, -⟩ := DataW.trod_bool hu h
      exact ⟨_, hone _ _ (.bool b) (.bool b), b, rfl⟩
    · rename_i hu
      obtain ⟨s, rfl, hx, hw⟩ := DataW.trod_string hu h
      rw [hx] at hB
      have hB2 := Nat.le_trans (hM.st s.data.toList) hB
      rw [Array.length_toList] at hB2
      exact ⟨_, hone _ _ (.str s) (.str s hB2), s, rfl, hw⟩
    · rename_i e hu
      simp only [Bool.and_eq_true, List.contains_eq_mem, decide_eq_true_eq] at h0
      obtain ⟨he, hc⟩ := h0
      rcases DataW.trod_slice hu h with ⟨rfl, -⟩ | ⟨a, len, cap, elems, rest, n', hn, rfl, hx, hb, hlc, hcm, hlen, hel, -, -⟩
      · exact ⟨_, hone _ _ (.nil none 0 (P.cellsOf e) (Nat.zero_le _) (fun _ => rfl)) (.sl _ _ _ (Nat.zero_le _) (by simp)), 0, [], rfl, Nat.zero_le _, by simp, fun i hi => by omega⟩
      · have hn' : n' = n := by omega
        subst hn'
        rw [hx] at hB
        have hlenN : len ≤ N := by
          have := hM.ln (elems.map (·.1)) (rest.map (·.1))
          rw [List.length_map, hlen] at this
          exact Nat.le_trans this hB
        have hcell : ∀ i, i < len → ∃ cs' y, w.cells? base (a.add (i * P.cellsOf e)) (P.cellsOf e) = some cs' ∧ DataW.trod enc P w base spare held n' e cs' = some y ∧ bl y.1 ≤ N := fun i hi => by
          have h1 := hel i hi
          rw [List.getElem?_eq_getElem (by omega)] at h1
          obtain ⟨cs', h2, h3⟩ := Option.bind_eq_some_iff.1 h1
          exact ⟨cs', _, h2, h3, Nat.le_trans (hM.sl _ _ _ (List.mem_map.2 ⟨_, List.getElem_mem _, rfl⟩)) hB⟩
        by_cases hlen0 : len = 0
        · subst hlen0
          exact ⟨_, hone _ _ (.nil (some a) cap (P.cellsOf e) hcm (fun h => by cases h)) (.sl _ _ _ (Nat.zero_le _) (by simp)), 0, [], rfl, Nat.zero_le _, by simp, fun i hi => by omega⟩
        · obtain ⟨b, off, spot⟩ := a
          have hspot : spot = none := by
            obtain ⟨cs', y, h2, -⟩ := hcell 0 (by omega)
            obtain ⟨-, h4, h5⟩ := World.cells?_some h2
            have h6 := h5 0 hc
            rw [List.getElem?_eq_getElem (by omega)] at h6
            simpa [Addr.add] using World.cell?_spot h6
          subst hspot
          obtain ⟨all, hall⟩ : ∃ all : List Value, all = (List.range (len * P.cellsOf e)).map fun j => (w.cell? ⟨b, off + j, none⟩).getD undef := ⟨_, rfl⟩
          have hal : all.length = len * P.cellsOf e := by rw [hall]; simp
          have hsub : ∀ i, i < len → ∀ cs', w.cells? base ((⟨b, off, none⟩ : Addr).add (i * P.cellsOf e)) (P.cellsOf e) = some cs' → (all.drop (i * P.cellsOf e)).take (P.cellsOf e) = cs' ∧ ∀ j, j < P.cellsOf e → w.cell? ⟨b, off + (i * P.cellsOf e + j), none⟩ = cs'[j]? := fun i hi cs' h2 => by
            obtain ⟨-, h4, h5⟩ := World.cells?_some h2
            have hib : (i + 1) * P.cellsOf e ≤ len * P.cellsOf e := Nat.mul_le_mul_right _ hi
            rw [Nat.add_mul, Nat.one_mul] at hib
            have hcj : ∀ j, j < P.cellsOf e → w.cell? ⟨b, off + (i * P.cellsOf e + j), none⟩ = cs'[j]? := fun j hj => by
              have := h5 j hj
              rw [Zm, Zm, Nat.add_assoc] at this
              exact this
            refine ⟨List.ext_getElem? fun j => ?_, hcj⟩
            by_cases hj : j < P.cellsOf e
            · rw [List.getElem?_take_of_lt hj, List.getElem?_drop, hall, List.getElem?_map, List.getElem?_range (by omega)]
              simp only [Option.map_some]
              rw [hcj j hj, List.getElem?_eq_getElem (by omega)]
              rfl
            · rw [List.getElem?_eq_none (by rw [List.length_take]; omega), List.getElem?_eq_none (by omega)]
          have htl : ∀ m, m ≤ len → tl P ((len - m) * P.cellsOf e) (((List.range len).drop (len - m)).map fun i => (i * P.cellsOf e, e)) (len * P.cellsOf e) = true := by
            intro m
            induction m with
            | zero => intro _; rw [Nat.sub_zero, List.drop_of_length_le (by simp)]; simp [tl]
            | succ m ih =>
              intro hm'
              rw [List.drop_eq_getElem_cons (by simp; omega)]
              simp only [List.getElem_range, List.map_cons, tl, beq_self_eq_true, Bool.true_and]
              have := ih (by omega)
              rw [show len - m = len - (m + 1) + 1 by omega] at this
              rw [Nat.add_mul, Nat.one_mul] at this
              exact this
          have htl0 := htl len (Nat.le_refl _)
          rw [Nat.sub_self, Nat.zero_mul, List.drop_zero] at htl0
          obtain ⟨es, hes1, hes2⟩ := qgs (N := N) (w := w) (Tt := zq P n') _ 0 (len * P.cellsOf e) all htl0 hal (fun f hf => by
            obtain ⟨i, hi, rfl⟩ := List.mem_map.1 hf
            have hi' : i < len := by simpa using hi
            obtain ⟨cs', y, h2, h3, h3b⟩ := hcell i hi'
            obtain ⟨ds, g1, g2⟩ := q3K hM hl n' e cs' y he h3 h3b
            exact ⟨ds, by simp only; rw [(hsub i hi' cs' h2).1]; exact g1, g2⟩)
          rw [List.drop_zero] at hes1
          have hel' : es.length = len * P.cellsOf e := by rw [← hes1.1, hal]
          have hsome : ∀ j, j < len * P.cellsOf e → ∃ v, w.cell? ⟨b, off + j, none⟩ = some v ∧ all[j]? = some v := fun j hj => by
            have hdiv : j / P.cellsOf e < len := Nat.div_lt_of_lt_mul (by rw [Nat.mul_comm]; exact hj)
            obtain ⟨cs', y, h2, -⟩ := hcell _ hdiv
            obtain ⟨-, h4, -⟩ := World.cells?_some h2
            have h5 := (hsub _ hdiv cs' h2).2 (j % P.cellsOf e) (Nat.mod_lt _ hc)
            rw [show j / P.cellsOf e * P.cellsOf e + j % P.cellsOf e = j by rw [Nat.mul_comm]; exact Nat.div_add_mod j _] at h5
            rw [List.getElem?_eq_getElem (by rw [h4]; exact Nat.mod_lt _ hc)] at h5
            refine ⟨_, h5, ?_⟩
            rw [hall, List.getElem?_map, List.getElem?_range hj]
            simp only [Option.map_some]
            rw [h5]; rfl
          refine ⟨[.sl (P.cellsOf e) len es], hone _ _ ?_ (.sl _ _ _ hlenN hes1.lim), len, es, rfl, by omega, hel', fun i hi => ?_⟩
          · refine .sl b off len cap (P.cellsOf e) es (fun j => all.getD j undef) hel' hlc hcm ?_ (fun h => h) (fun j c hj => ?_) (fun j c hj => ?_)
            · obtain ⟨v, hv, -⟩ := hsome 0 (Nat.mul_pos (by omega) hc)
              rcases Nat.lt_or_ge b w.heap.size with hb' | hb'
              · exact hb'
              · simp [World.cell?, Array.getElem?_eq_none hb'] at hv
            · have hj' : j < len * P.cellsOf e := by rw [← hel']; exact (List.getElem?_eq_some_iff.1 hj).1
              obtain ⟨v, h5, h6⟩ := hsome j hj'
              rw [h5, List.getD, h6]; rfl
            · have hj' : j < len * P.cellsOf e := by rw [← hel']; exact (List.getElem?_eq_some_iff.1 hj).1
              obtain ⟨v, h5, h6⟩ := hsome j hj'
              rw [List.getD, h6]
              exact (hes1.2 j v c h6 hj).1
          · have := (hes2 (i * P.cellsOf e, e) (List.mem_map.2 ⟨i, by simpa using hi, rfl⟩)).2
            rw [Nat.sub_zero] at this
            exact this
    · rename_i k e hu
      simp only [Bool.and_eq_true, List.contains_eq_mem, decide_eq_true_eq] at h0
      obtain ⟨he, ht⟩ := h0
      obtain ⟨xs, m, hn, hx, h1, h2, h3⟩ := DataW.trod_array hu h
      have hn' : m = n := by omega
      subst hn'
      obtain ⟨ds, g1, g2⟩ := qgs (N := N) (w := w) (Tt := zq P m) _ 0 (P.cellsOf t) cs ht h1 (fun f hf => by
        obtain ⟨i, hi, rfl⟩ := List.mem_map.1 hf
        have hi' : i < k := by simpa using hi
        have h4 := h3 i hi'
        rw [List.getElem?_eq_getElem (by omega)] at h4
        exact q3K hM hl m e _ _ he h4 (by rw [hx] at hB; exact Nat.le_trans (hM.ag _ _ (List.mem_map.2 ⟨_, List.getElem_mem _, rfl⟩)) hB))
      rw [List.drop_zero] at g1
      refine ⟨ds, g1, by rw [← g1.1, h1], fun i hi => ?_⟩
      have := (g2 (i * P.cellsOf e, e) (List.mem_map.2 ⟨i, by simpa using hi, rfl⟩)).2
      rw [Nat.sub_zero] at this
      exact this
    · rename_i fs hu
      simp only [Bool.and_eq_true] at h0
      obtain ⟨he, ht⟩ := h0
      obtain ⟨xs, m, hn, hx, h1, h2, h3⟩ := DataW.trod_struct hu h
      have hn' : m = n := by omega
      subst hn'
      obtain ⟨ds, g1, g2⟩ := qgs (N := N) (w := w) (Tt := zq P m) _ 0 (P.cellsOf t) cs ht h1 (fun f hf => by
        obtain ⟨f', hf', rfl⟩ := List.mem_map.1 hf
        have hm' : f'.type ∈ l := by have := List.all_eq_true.1 he f' hf'; simpa using this
        obtain ⟨i, hi⟩ := List.getElem?_of_mem hf'
        have hi2 : fs[i]? = some f' := by simpa using hi
        have h4 := h3 i f' hi2
        have hlt : i < xs.length := by rw [h2]; exact (Array.getElem?_eq_some_iff.1 hi2).1
        rw [List.getElem?_eq_getElem hlt] at h4
        exact q3K hM hl m f'.type _ _ hm' h4 (by rw [hx] at hB; exact Nat.le_trans (hM.ag _ _ (List.mem_map.2 ⟨_, List.getElem_mem _, rfl⟩)) hB))
      rw [List.drop_zero] at g1
      refine ⟨ds, g1, by rw [← g1.1, h1], fun f hf => ?_⟩
      have := (g2 (f.offset, f.type) (List.mem_map.2 ⟨f, hf, rfl⟩)).2
      rw [Nat.sub_zero] at this
      exact this
    · cases h0
end
end Go.Proofs.YtplfjlcnffcenaaGreat.Vc
namespace Go.Proofs.YtplfjlcnffcenaaGreat.Vc
open Go.RowKit
theorem ql9 {N sz n : Nat} {cs : List D} (h : q92 N (.sl sz n cs)) : n ≤ N ∧ ∀ c ∈ cs, q92 N c := by
  cases h with
  | sl _ _ _ h1 h2 => exact ⟨h1, h2⟩
theorem qlW {N : Nat} (hN : N ≤ 4194304) {l : List qb} (h : q92 N (.sl 8 l.length (l.flatMap qc))) : Sml l := by
  have h2 := (ql9 h).2
  have key : ∀ x ∈ l, x.Sources.length ≤ N ∧ x.Path.length ≤ N := fun x hx => by
    have h3 : ∀ c ∈ qc x, q92 N c := fun c hc => h2 c (List.mem_flatMap.2 ⟨x, hx, hc⟩)
    rw [qI] at h3
    exact ⟨(ql9 (h3 (D.sl 1 x.Sources.length (x.Sources.flatMap eI)) (by simp))).1, (ql9 (h3 (D.sl 1 x.Path.length (x.Path.flatMap eI)) (by simp))).1⟩
  exact ⟨fun x hx => by have := (key x hx).1; omega, fun x hx => by have := (key x hx).2; omega⟩
theorem q4H (x0 : List (List Int)) (w0 : x0.length ≤ maxLen ∧ ∀ y ∈ x0, (y.length ≤ maxLen ∧ ∀ yy ∈ y, (Lit.int .i64 yy).wf = true)) (_ : ∀ d ∈ [D.sl 1 x0.length (x0.flatMap (eL 1 eI))], q92 1048576 d)
    (x1 : List Int) (w1 : x1.length ≤ maxLen ∧ ∀ y ∈ x1, (Lit.int .i64 y).wf = true) (_ : ∀ d ∈ [D.sl 1 x1.length (x1.flatMap eI)], q92 1048576 d)
    (x2 : qi) (_ : q2j x2) (l2 : ∀ d ∈ [D.int .i64 x2.At, D.int .i64 x2.Odd.a0, D.int .i64 x2.Odd.a1, D.int .i64 x2.Raw.Agreement.Id, D.int .i64 x2.Raw.Agreement.From, D.int .i64 x2.Raw.Agreement.To, D.int .i64 x2.Raw.Agreement.Begin, D.int .i64 x2.Raw.Agreement.End, D.sl 1 x2.Raw.Agreement.In.length (x2.Raw.Agreement.In.flatMap eS), D.sl 2 x2.Raw.Agreement.Out.length (x2.Raw.Agreement.Out.flatMap qe), D.int .i64 x2.Raw.Agreement.Conv.Num, D.int .i64 x2.Raw.Agreement.Conv.Add, D.int .i64 x2.Raw.Agreement.Conv.Den, D.int .i64 x2.Raw.Agreement.Conv.Round, D.int .i64 x2.Raw.Day, D.int .i64 x2.Raw.Scale.Worst, D.int .i64 x2.Raw.Scale.Best, D.int .i64 x2.Raw.Scale.Pass, D.sl 8 x2.Raw.L.length (x2.Raw.L.flatMap qc)], q92 1048576 d) : Qd x0 x1 x2 = some true :=
  q3E x0 x1 x2 w0.1 (fun y hy => (w0.2 y hy).1) w1.1 (qlW (N := 1048576) (by decide) (l2 _ (by simp)))
end Go.Proofs.YtplfjlcnffcenaaGreat.Vc
namespace Go.Proofs.YtplfjlcnffcenaaGreat
open Go.ChangeShapes Go.WideShapes Go.ChangeAt Go.RowKit Go.ChangeMaps
theorem own : ownKnob Tryz.prog.godebug = none := by kernel_rfl
theorem qiR : laidOutB Tryz.prog = true := by kernel_rfl
section
variable {H : Type} {enc : TypeId × Value → H} {P : Program} {W W' : World}
theorem q8t (hl : laidOutB P = true) (hb : Below W.heap.size W W') : ∀ {ts : List TypeId} {vs : List Value} {ds : List (DataW H)} {ps : List MemPlace}, (∀ t ∈ ts, P.readableRec t = true ∧ t < P.types.size) →
    DataW.TrodAll enc P W 0 (fun _ => true) true ts vs ds ps → (∀ p ∈ ps, p.block < W.heap.size) → DataW.TrodAll enc P W' 0 (fun b => decide (b < W.heap.size)) true ts vs ds ps
  | [], _, _, _, _, h, _ => by
    obtain ⟨rfl, rfl, rfl⟩ := trodAll_nil h
    exact trodAll_mk0
  | t :: ts, _, _, _, ht, h, hlt => by
    obtain ⟨v, vs, d, ds, p, q, rfl, rfl, rfl, h1, h2⟩ := trodAll_cons h
    exact trodAll_cons_mk (Below.trod hl (ht t List.mem_cons_self).1 (ht t List.mem_cons_self).2 h1 hb (fun x hx => hlt x (List.mem_append_left _ hx)))
      (q8t hl hb (fun u hu => ht u (List.mem_cons_of_mem _ hu)) h2 (fun x hx => hlt x (List.mem_append_right _ hx)))
theorem qfK {f : Func} {s : ChangeSpec} {apart fresh handsOn : Bool} {args : Array Value} {ds gs : List (DataW H)} {before : List MemPlace} {tb : TypeId} (hl : laidOutB P = true)
    (hts : ∀ t ∈ f.params.toList, P.readableRec t = true ∧ t < P.types.size) (hr : f.resultTypes = #[tb]) (htb : P.underlying tb = some .bool) (hv : s.vars = [])
    (h1 : (s.fn H (ds ++ gs)).results = [.lit (.bool true)]) (h2 : (s.fn H (ds ++ gs)).args = ds) (h3 : (s.fn H (ds ++ gs)).vars = [])
    (hW : DataW.Whole enc P f.params.toList s.vars apart W args.toList ds gs before) (hb : Below W.heap.size W W') :
    s.post enc P f apart fresh handsOn false W args (.bool true) W' := by
  have hlt : ∀ p ∈ before, p.block < W.heap.size := fun p hp => hW.lt p hp
  have hW2 := hW
  obtain ⟨pa, pv, hA, hV, hp, -, -⟩ := hW2
  rw [hv] at hV
  obtain ⟨rfl, rfl⟩ := trodVars_none hV
  rw [List.append_nil] at hp
  subst hp
  refine ⟨ds, [], before, [], before, [], hW, ?_, ?_, ?_, ?_, fun h => by cases h⟩
  · rw [h1, hr]
    exact trodAll_mk1 (shut_bool htb true)
  · rw [h2]
    exact q8t hl hb hts hA hlt
  · rw [h3, hv]
    exact hV
  · exact World.keptBut_mono (fun p hp => ⟨hp, .inr (.inl hp)⟩) (hb.frame (· ∈ before))
end
end Go.Proofs.YtplfjlcnffcenaaGreat
namespace Go.Proofs.YtplfjlcnffcenaaGreat.Vc
open Go.RowKit
theorem qfM {H : Type} (d : DataW H) : 1 ≤ Rows.uptoBulk d := by
  cases d with
  | lit l => cases l <;> simp [Rows.uptoBulk]
  | nil => simp [Rows.uptoBulk]
  | ptr d => simp [Rows.uptoBulk]
  | slice elems spare => simp [Rows.uptoBulk]
  | agg parts => simp [Rows.uptoBulk]
  | iface t d => simp [Rows.uptoBulk]
  | map entries => simp [Rows.uptoBulk]
  | held h => simp [Rows.uptoBulk]
theorem q4T {H : Type} {d : DataW H} : ∀ {l : List (DataW H)}, d ∈ l → Rows.uptoBulk d ≤ Rows.uptoBulkAll l
  | x :: r, h => by
    simp only [Rows.uptoBulkAll]
    rcases List.mem_cons.1 h with rfl | h
    · omega
    · have := q4T h; omega
theorem qb1 {H : Type} : ∀ l : List (DataW H), l.length ≤ Rows.uptoBulkAll l
  | [] => by simp
  | x :: r => by
    have h1 := qfM x
    have h2 := qb1 r
    simp only [Rows.uptoBulkAll, List.length_cons]
    omega
theorem q5A {H : Type} : qw8 (H := H) Rows.uptoBulk where
  ag l x h := by
    have := q4T h
    simp only [Rows.uptoBulk]
    omega
  sl l r x h := by
    have := q4T h
    simp only [Rows.uptoBulk]
    omega
  ln l r := by
    have := qb1 l
    simp only [Rows.uptoBulk]
    omega
  st l := by
    simp only [Rows.uptoBulk]
    omega
theorem q3O {H : Type} {l : List (DataW H)} (hk : Rows.uptoSmall H l = true) {d : DataW H} (hd : d ∈ l) : Rows.uptoBulk d ≤ 1048576 :=
  Nat.le_trans (q4T hd) (of_decide_eq_true hk)
end Go.Proofs.YtplfjlcnffcenaaGreat.Vc
