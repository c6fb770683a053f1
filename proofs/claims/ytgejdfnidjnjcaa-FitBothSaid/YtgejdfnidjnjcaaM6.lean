/- Part 6 of a proof. -/
import Derived.Test.YtgejdfnidjnjcaaM5
import Derived.KernelRfl
import Derived.Test.YtgejdfnidjnjcaaRows
import Derived.ChangeSlices
import Derived.OpenShut
import Derived.Carry
import Derived.ChangeSame
import Derived.ChangeMaps5
import Derived.WideShapes
import Derived.ProofKit
import Derived.Deep.DeepHandedRow
import Derived.Lib.LaidTab
import Derived.Stop.LaidErr
set_option linter.unusedVariables false
set_option linter.unusedSimpArgs false
set_option linter.defProp false
set_option linter.unusedSectionVars false
set_option linter.unnecessarySimpa false
namespace Go.Proofs.Ytgejdfnidjnjcaa.Vc
open Go.RowKit
set_option linter.unusedVariables false
set_option linter.unusedSimpArgs false
structure q7O (n : qb) : Prop where
  kd : (n.Kind = 2 ∧ 1 ≤ n.N ∧ n.N ≤ 12) ∨ (n.Kind = 1 ∧ n.N = 0)
  mn : 0 ≤ n.Min ∧ n.Min ≤ 80
  st : q6M n.Set
  s1 : 1 ≤ n.Set.length
  s3 : n.Set.length ≤ 3
  nl : n.L = []
structure qaM (n : qb) : Prop where
  kd : (n.Kind = 3 ∧ n.N = 0) ∨ (n.Kind = 4 ∧ 1 ≤ n.N ∧ n.N ≤ n.L.length)
  mn : n.Min = 0
  st : n.Set = []
  ne : n.L ≠ []
def q2g (n : qb) : Prop := q7O n ∨ qaM n
structure q11 (deep leaves : Nat) (n : qb) : Prop where
  ok : ∀ y ∈ ndN n, q2g y
  hg : hgN n ≤ deep + 1
  l1 : 1 ≤ lvN n
  l2 : lvN n ≤ max 1 leaves
  nd : (ndN n).length ≤ lvN n * (deep + 1)
theorem q8I {n : qb} (h : q7O n) (deep leaves : Nat) : q11 deep leaves n := by
  have e1 : ndN n = [n] := by rw [QZ, h.nl, ndL]
  have e2 : lvN n = 1 := by rw [q8D, if_pos]; rcases h.kd with h | h <;> simp [h.1]
  have e3 : hgN n = 1 := by rw [q9p, h.nl, hgL]
  refine ⟨fun y hy => ?_, by omega, by omega, by omega, ?_⟩
  · rw [e1] at hy
    rw [List.mem_singleton.1 hy]; exact .inl h
  · rw [e1, e2, List.length_singleton]; omega
noncomputable def qeM (d : qh) : Option (qb × qh) :=
  Option.bind (qm (3 : Int) d) fun a3 =>
      if (a3.1 == (0 : Int)) = Bool.true then Option.bind (qm (12 : Int) a3.2) fun a4 =>
        Option.bind (qm (3 : Int) a4.2) fun a5 =>
        if (0 : Int) ≤ a5.1 ∧ a5.1 < (3 : Int) then Option.bind [(0 : Int), (50 : Int), (60 : Int)][Int.toNat a5.1]? fun a6 =>
          Option.bind (Qx a5.2) fun a7 =>
          some (qb.mk (2 : Int) (w64 ((1 : Int) + a4.1)) a6 a7.1 [], a7.2)
        else none
      else Option.bind (qm (4 : Int) a3.2) fun a8 =>
      if (0 : Int) ≤ a8.1 ∧ a8.1 < (4 : Int) then Option.bind [(0 : Int), (50 : Int), (60 : Int), (80 : Int)][Int.toNat a8.1]? fun a9 =>
        Option.bind (Qx a8.2) fun a10 =>
        some (qb.mk (1 : Int) (0 : Int) a9 a10.1 [], a10.2)
      else none
theorem qcW {d : qh} (hd : J9 d) : ∃ n d', qeM d = some (n, d') ∧ q7O n ∧ J9 d' := by
  obtain ⟨v, d1, e1, a1, b1, h1⟩ := q85 hd (most := 3) (by omega) (by omega)
  unfold qeM
  rw [e1, Option.bind_some]
  simp only
  by_cases hv : v = 0
  · obtain ⟨w, d2, e2, a2, b2, h2⟩ := q85 h1 (most := 12) (by omega) (by omega)
    obtain ⟨u, d3, e3, a3, b3, h3⟩ := q85 h2 (most := 3) (by omega) (by omega)
    obtain ⟨x, hx, mx⟩ := qlJ [(0 : Int), 50, 60] u a3 (by simpa using b3)
    obtain ⟨S, d4, e4, h4, s1, s2, s3⟩ := qt0 h3
    have hw : w64 (1 + w) = 1 + w := Qk (by omega) (by omega)
    have hm : ∀ x ∈ [(0 : Int), 50, 60], 0 ≤ x ∧ x ≤ 80 := by decide
    refine ⟨⟨2, 1 + w, x, S, []⟩, d4, ?_, ⟨.inl ⟨rfl, by show 1 ≤ 1 + w; omega, by show 1 + w ≤ 12; omega⟩, hm x mx, s1, s2, s3, rfl⟩, h4⟩
    rw [if_pos (by simp [hv]), e2, Option.bind_some]
    simp only
    rw [e3, Option.bind_some]
    simp only
    rw [if_pos ⟨a3, b3⟩, hx, Option.bind_some, e4, Option.bind_some, hw]
  · obtain ⟨u, d3, e3, a3, b3, h3⟩ := q85 h1 (most := 4) (by omega) (by omega)
    obtain ⟨x, hx, mx⟩ := qlJ [(0 : Int), 50, 60, 80] u a3 (by simpa using b3)
    obtain ⟨S, d4, e4, h4, s1, s2, s3⟩ := qt0 h3
    have hm : ∀ x ∈ [(0 : Int), 50, 60, 80], 0 ≤ x ∧ x ≤ 80 := by decide
    refine ⟨⟨1, 0, x, S, []⟩, d4, ?_, ⟨.inr ⟨rfl, rfl⟩, hm x mx, s1, s2, s3, rfl⟩, h4⟩
    rw [if_neg (by simpa using hv), e3, Option.bind_some]
    simp only
    rw [if_pos ⟨a3, b3⟩, hx, Option.bind_some, e4, Option.bind_some]
theorem q76 (rF : (Int × Int × qh) → Option (qb × qh)) (x1 x2 : Int) (v : qh) : ZU rF (x1, x2, v) = (qm 6 v).bind fun a2 =>
    if x1 ≤ 0 then qeM a2.2 else if x2 < 2 then qeM a2.2 else if a2.1 < 2 then qeM a2.2 else
    Option.bind (qm (min (3 : Int) x2) a2.2) fun a27 =>
    Option.bind (qQ (zJ rF (0 : Int) (0 : Int) (0 : Int) (3 : Int) (0 : Int) (0 : Int) x1 x2 a2.1 (w64 ((1 : Int) + a27.1))) ([], (a27.2, (0 : Int)))) fun a28 =>
    if (3 : Int) < a2.1 then Option.bind (qm (w64 ((1 : Int) + a27.1)) a28.2) fun a29 =>
      some (qb.mk (4 : Int) (w64 ((1 : Int) + a29.1)) (0 : Int) [] a28.1, a29.2)
    else some (qb.mk (3 : Int) (0 : Int) (0 : Int) [] a28.1, a28.2) := rfl
theorem qeE {deep q : Nat} (hq : 1 ≤ q) : ∀ (L : List qb), (∀ y ∈ L, q11 deep q y) → hgL L ≤ deep + 1 ∧ L.length ≤ lvL L ∧ lvL L ≤ L.length * q ∧ (ndL L).length ≤ lvL L * (deep + 1) ∧ ∀ y ∈ ndL L, q2g y
  | [], _ => ⟨by simp [hgL], by simp [lvL], by simp [lvL], by simp [ndL], by simp [ndL]⟩
  | x :: L, h => by
    obtain ⟨a, b, c, d, e⟩ := qeE hq L fun y hy => h y (List.mem_cons_of_mem _ hy)
    obtain ⟨f, g, i, j, k⟩ := h x List.mem_cons_self
    rw [Nat.max_eq_right hq] at j
    refine ⟨?_, ?_, ?_, ?_, ?_⟩
    · rw [hgL]; omega
    · rw [lvL, List.length_cons]; omega
    · rw [lvL, List.length_cons, Nat.add_mul]; omega
    · rw [ndL, lvL, List.length_append, Nat.add_mul]; omega
    · rw [ndL]
      intro y hy
      rcases List.mem_append.1 hy with hy | hy
      · exact f y hy
      · exact e y hy
theorem q9x {n : qb} (h : qaM n) {deep leaves q : Nat} (hq : 1 ≤ q) (hk : n.L.length * q ≤ leaves) (hL : ∀ y ∈ n.L, q11 deep q y) : q11 (deep + 1) leaves n := by
  obtain ⟨a, b, c, d, e⟩ := qeE hq n.L hL
  have hlen : 1 ≤ n.L.length := by cases hn : n.L with | nil => exact absurd hn h.ne | cons x l => simp
  have e2 : lvN n = lvL n.L := by rw [q8D, if_neg]; rcases h.kd with h | h <;> simp [h.1]
  refine ⟨fun y hy => ?_, ?_, by omega, by omega, ?_⟩
  · rw [QZ] at hy
    rcases List.mem_cons.1 hy with rfl | hy
    · exact .inr h
    · exact e y hy
  · rw [q9p]; omega
  · rw [QZ, List.length_cons, e2, show deep + 1 + 1 = (deep + 1) + 1 from rfl, Nat.mul_add]; omega
theorem qky : ∀ (deep leaves : Nat) (d : qh), deep ≤ 10 → leaves ≤ 100 → J9 d → ∃ n d', QR ((deep : Int), (leaves : Int), d) = some (n, d') ∧ q11 deep leaves n ∧ J9 d' := by
  intro deep
  induction deep with
  | zero =>
    intro leaves d _ _ hd
    obtain ⟨v, d1, e1, a1, b1, h1⟩ := q85 hd (most := 6) (by omega) (by omega)
    obtain ⟨n, d', g1, g2, g3⟩ := qcW h1
    refine ⟨n, d', ?_, q8I g2 _ _, g3⟩
    rw [q3r, q76, e1, Option.bind_some, if_pos (by omega)]
    exact g1
  | succ deep ih =>
    intro leaves d hdp hlv hd
    obtain ⟨v, d1, e1, a1, b1, h1⟩ := q85 hd (most := 6) (by omega) (by omega)
    obtain ⟨n0, d0, g1, g2, g3⟩ := qcW h1
    rw [q3r, q76, e1, Option.bind_some, if_neg (by omega)]
    by_cases hl : leaves < 2
    · exact ⟨n0, d0, by rw [if_pos (by omega)]; exact g1, q8I g2 _ _, g3⟩
    · rw [if_neg (by omega)]
      by_cases hv : v < 2
      · exact ⟨n0, d0, by rw [if_pos hv]; exact g1, q8I g2 _ _, g3⟩
      · rw [if_neg hv]
        clear g1 g2 g3 n0 d0
        obtain ⟨w, d2, e2, a2, b2, h2⟩ := q85 h1 (most := min 3 (leaves : Int)) (by omega) (by omega)
        simp only
        rw [e2, Option.bind_some]
        simp only
        obtain ⟨m, hm⟩ : ∃ m : Nat, (m : Int) = 1 + w := ⟨(1 + w).toNat, by omega⟩
        have hw : w64 (1 + w) = (m : Int) := by rw [Qk (by omega) (by omega)]; omega
        rw [hw]
        have hm1 : 1 ≤ m := by omega
        have hm3 : m ≤ 3 := by omega
        have hml : m ≤ leaves := by omega
        obtain ⟨q, hq⟩ : ∃ q, q = leaves / m := ⟨_, rfl⟩
        have hq1 : 1 ≤ q := by rw [hq]; exact (Nat.le_div_iff_mul_le (by omega)).2 (by omega)
        have hqm : m * q ≤ leaves := by rw [hq]; exact Nat.mul_div_le _ _
        have hq2 : q ≤ leaves := by rw [hq]; exact Nat.div_le_self _ _
        have hML : 100000 ≤ maxLen := by unfold maxLen; omega
        have hdiv : w64 (Int.tdiv (leaves : Int) (m : Int)) = (q : Int) := by
          rw [← Int.ofNat_tdiv, ← hq, Qk (by omega) (by omega)]
        have hdeep : w64 (((deep + 1 : Nat) : Int) - 1) = (deep : Int) := by rw [Qk (by omega) (by omega)]; omega
        have key : ∀ (j i : Nat) (l : List qb) (d : qh), j + i = m → l.length = i → (∀ y ∈ l, q11 deep q y) → J9 d → ∃ l' d', qQ (zJ QR 0 0 0 3 0 0 ((deep + 1 : Nat) : Int) (leaves : Int) v (m : Int)) (l, d, (i : Int)) = some (l', d') ∧ l'.length = m ∧ (∀ y ∈ l', q11 deep q y) ∧ J9 d' := by
          intro j
          induction j with
          | zero =>
            intro i l d hi hl hy hd
            refine ⟨l, d, zl ?_, by omega, hy, hd⟩
            unfold zJ
            simp only
            rw [if_neg (by omega)]
          | succ j ihj =>
            intro i l d hi hl hy hd
            obtain ⟨n, d', q1, q2, q3⟩ := ih q d (by omega) (by omega) hd
            have hs : zJ QR 0 0 0 3 0 0 ((deep + 1 : Nat) : Int) (leaves : Int) v (m : Int) (l, d, (i : Int)) = some (.inl (l ++ [n], d', ((i + 1 : Nat) : Int))) := by
              unfold zJ
              simp only
              rw [if_pos (by omega), if_neg (by omega), hdiv, hdeep, q1, Option.bind_some]
              simp only
              rw [if_pos ⟨by omega, by omega⟩, Qk (by omega) (by omega)]
              rfl
            rw [zU hs]
            refine ihj (i + 1) (l ++ [n]) d' (by omega) (by simp [hl]) (fun y hy2 => ?_) q3
            rcases List.mem_append.1 hy2 with h | h
            · exact hy y h
            · rw [List.mem_singleton.1 h]; exact q2
        obtain ⟨l, d3, q1, q2, q3, q4⟩ := key m 0 [] d2 (by omega) rfl (by simp) h2
        rw [show ((0 : Nat) : Int) = 0 from rfl] at q1
        rw [q1, Option.bind_some]
        have hne : l ≠ [] := fun h => by rw [h] at q2; simp at q2; omega
        by_cases hv3 : (3 : Int) < v
        · obtain ⟨u, d4, e4, a4, b4, h4⟩ := q85 q4 (most := (m : Int)) (by omega) (by omega)
          have hwu : w64 (1 + u) = 1 + u := Qk (by omega) (by omega)
          simp only
          rw [if_pos hv3, e4, Option.bind_some, hwu]
          exact ⟨_, d4, rfl, q9x (q := q) ⟨.inr ⟨rfl, by show 1 ≤ 1 + u; omega, by show 1 + u ≤ (l.length : Int); omega⟩, rfl, rfl, hne⟩ hq1 (by show l.length * q ≤ leaves; rw [q2]; exact hqm) q3, h4⟩
        · simp only
          rw [if_neg hv3]
          exact ⟨_, d3, rfl, q9x (q := q) ⟨.inl ⟨rfl, rfl⟩, rfl, rfl, hne⟩ hq1 (by show l.length * q ≤ leaves; rw [q2]; exact hqm) q3, q4⟩
theorem ql3 (l : List Int) (hl : l.length ≤ 9223372036854775807) : ∃ n, q0m l = some n ∧ q11 3 6 n := by
  obtain ⟨n, d', h1, h2, h3⟩ := qky 3 6 ⟨l, 0⟩ (by omega) (by omega) ⟨by show (0 : Int) ≤ 0; omega, by show (0 : Int) ≤ (l.length : Int); omega, hl⟩
  refine ⟨n, ?_, h2⟩
  unfold q0m
  change Option.bind (QR (((3 : Nat) : Int), ((6 : Nat) : Int), ⟨l, 0⟩)) _ = _
  rw [h1, Option.bind_some]
theorem qb1 {n : qb} (h : q7O n) : q0h n = 0 := by
  have h1 := h.s1
  have h3 := h.s3
  have hm := h.mn
  have e1 : inF n.Min (-1000) 1000 = true := by unfold inF; simp; omega
  have e2 : inF n.Set.length 1 12 = true := by unfold inF; simp; omega
  have e3 : n.Set.all Jj = true := List.all_eq_true.2 fun c hc => qdV (h.st.ok c hc)
  unfold q0h
  rw [e1, e2, e3, h.st.ord]
  simp
theorem qfS {n : qb} (h : q2g n) : qa6 n = 0 := by
  unfold qa6
  rcases h with h | h
  · have hc := qb1 h
    rcases h.kd with ⟨k, a, b⟩ | ⟨k, a⟩
    · have e : inF n.N 1 600 = true := by unfold inF; simp; omega
      simp [k, h.nl, e, hc]
    · simp [k, h.nl, a, hc]
  · have hb : q7D n = true := by
      unfold q7D
      rw [h.mn, h.st]
      cases hL : n.L with
      | nil => exact absurd hL h.ne
      | cons x l => rfl
    rcases h.kd with ⟨k, a⟩ | ⟨k, a, b⟩
    · simp [k, hb, a]
    · have e : inF n.N 1 n.L.length = true := by unfold inF; simp; omega
      simp [k, hb, e]
theorem qcK : ∀ (l : List qb), (∀ y ∈ l, qa6 y = 0) → qmr l = none
  | [], _ => rfl
  | x :: l, h => by
    unfold qmr
    rw [List.findSome?_cons, h x List.mem_cons_self]
    simp only [ne_eq, not_true_eq_false, if_false]
    exact qcK l fun y hy => h y (List.mem_cons_of_mem _ hy)
theorem qqq : ∀ (n : qb) (d m : Int), dpN d n m ≤ max m (d + hgN n - 1) := by
  intro n
  induction n using qb.rec (motive_2 := fun L => ∀ (d m : Int), dpL d L m ≤ max m (d + hgL L - 1)) with
  | mk k n m S L ih =>
    intro d mm
    rw [dpN, hgN]
    have := ih (d + 1) (max mm d)
    omega
  | nil => rename_i d m; rw [dpL]; omega
  | cons x L h1 h2 =>
    rename_i d m
    rw [dpL, hgL]
    have a := h1 d m
    have b := h2 d (dpN d x m)
    omega
theorem qbp : ∀ (n : qb), (∀ y ∈ ndN n, q2g y) → ((ndN n).filter J6).length = lvN n := by
  intro n
  induction n using qb.rec (motive_2 := fun L => (∀ y ∈ ndL L, q2g y) → ((ndL L).filter J6).length = lvL L) with
  | mk k n m S L ih =>
    intro h
    rw [ndN] at h ⊢
    have h0 := h _ List.mem_cons_self
    have hr := ih fun y hy => h y (List.mem_cons_of_mem _ hy)
    rw [List.filter_cons, lvN]
    rcases h0 with h0 | h0
    · have e : L = [] := h0.nl
      subst e
      have e1 : k = 1 ∨ k = 2 := by rcases h0.kd with h | h; exact .inr h.1; exact .inl h.1
      have e2 : J6 ⟨k, n, m, S, []⟩ = true := by unfold J6; rcases e1 with rfl | rfl <;> rfl
      rw [if_pos e2, if_pos e1]
      simp [ndL]
    · have e1 : k = 3 ∨ k = 4 := by rcases h0.kd with h | h; exact .inl h.1; exact .inr h.1
      have e2 : J6 ⟨k, n, m, S, L⟩ = false := by unfold J6; rcases e1 with rfl | rfl <;> rfl
      rw [e2, if_neg (by simp), if_neg (by omega), hr]
  | nil => simp [ndL, lvL]
  | cons x L h1 h2 =>
    rename_i h
    rw [ndL] at h ⊢
    rw [lvL, List.filter_append, List.length_append, h1 fun y hy => h y (List.mem_append_left _ hy), h2 fun y hy => h y (List.mem_append_right _ hy)]
theorem q9U {n : qb} (h : ∀ y ∈ ndN n, q2g y) : ∀ y ∈ ndN n, y.Set.length ≤ 1000000 := fun y hy => by
  rcases h y hy with h | h
  · have := h.s3; omega
  · rw [h.st]; simp
theorem q9t {n : qb} (h : q11 3 6 n) : QP n = some 0 := by
  have h1 := h.hg
  have h2 := h.l1
  have h3 := h.l2
  have h4 := h.nd
  rw [qi6 n (by omega) (by omega) (q9U h.ok)]
  unfold qgg
  have hf := qbp n h.ok
  have hd := qqq n 1 0
  have e : inF ((ndN n).filter J6).length 1 8 = true := by unfold inF; rw [hf]; simp; omega
  rw [if_neg (by omega), if_neg (by omega), e, if_neg (by simp), qcK _ fun y hy => qfS (h.ok y hy)]
  rfl
theorem qee {n : qb} (h : q11 3 6 n) (s : qd) (l : List qa) (hl : l.length ≤ 10) : Z8 n s l = some (QI (2 ^ l.length) (Q8 [] s l n 0), 0) := by
  have h3 := h.l2
  have h4 := h.nd
  unfold Z8
  rw [q9t h, Option.bind_some, if_neg (by simp), if_neg (by omega)]
  unfold q07
  have := qh2 [] rfl s l (by omega) _ n (Nat.le_refl _) (by omega) (q9U h.ok) 0 (by omega)
  rw [show ((0 : Nat) : Int) = 0 from rfl] at this
  rw [this, Option.bind_some, Option.bind_some]
end Go.Proofs.Ytgejdfnidjnjcaa.Vc
namespace Go.Proofs.Ytgejdfnidjnjcaa.Vc
open Go.RowKit
set_option linter.unusedVariables false
set_option linter.unusedSimpArgs false
theorem qbX (x y : Nat) : (x &&& y) / 2 = (x / 2) &&& (y / 2) := by
  apply Nat.eq_of_testBit_eq
  intro i
  rw [Nat.testBit_div_two, Nat.testBit_and, Nat.testBit_and, Nat.testBit_div_two, Nat.testBit_div_two]
theorem qbN (x y : Nat) : (x &&& y) % 2 = if x % 2 = 1 ∧ y % 2 = 1 then 1 else 0 := by
  have h : (x &&& y).testBit 0 = (x.testBit 0 && y.testBit 0) := Nat.testBit_and x y 0
  rw [Nat.testBit_zero, Nat.testBit_zero, Nat.testBit_zero] at h
  have h1 : x % 2 < 2 := Nat.mod_lt _ (by decide)
  have h2 : y % 2 < 2 := Nat.mod_lt _ (by decide)
  have h3 : (x &&& y) % 2 < 2 := Nat.mod_lt _ (by decide)
  by_cases hx : x % 2 = 1
  · by_cases hy : y % 2 = 1
    · rw [if_pos ⟨hx, hy⟩]
      simpa [hx, hy] using h
    · rw [if_neg (fun h => hy h.2)]
      have : ¬ (x &&& y) % 2 = 1 := by simpa [hx, hy] using h
      omega
  · rw [if_neg (fun h => hx h.1)]
    have : ¬ (x &&& y) % 2 = 1 := by simpa [hx] using h
    omega
theorem qhI : ∀ (sub set t : Nat), sub &&& set = sub → t &&& set = t → t < sub → t ≤ (sub - 1) &&& set := by
  intro sub
  induction sub using Nat.strongRecOn with
  | _ sub ih =>
    intro set t hs ht hlt
    have hs2 := qbX sub set
    have hsm := qbN sub set
    have ht2 := qbX t set
    have htm := qbN t set
    rw [hs] at hs2 hsm
    rw [ht] at ht2 htm
    have hr2 := qbX (sub - 1) set
    have hrm := qbN (sub - 1) set
    by_cases hodd : sub % 2 = 1
    · have e : (sub - 1) / 2 = sub / 2 := by omega
      rw [e, ← hs2] at hr2
      have e2 : (sub - 1) % 2 = 0 := by omega
      rw [if_neg (by omega)] at hrm
      omega
    · have hpos : sub / 2 ≠ 0 := by omega
      have e : (sub - 1) / 2 = sub / 2 - 1 := by omega
      rw [e] at hr2
      have hlt2 : t / 2 < sub / 2 := by omega
      have := ih (sub / 2) (by omega) (set / 2) (t / 2) hs2.symm ht2.symm hlt2
      have hset : set % 2 < 2 := Nat.mod_lt _ (by decide)
      have e3 : (sub - 1) % 2 = 1 := by omega
      by_cases hm : set % 2 = 1
      · rw [if_pos ⟨e3, hm⟩] at hrm
        have : t % 2 < 2 := Nat.mod_lt _ (by decide)
        omega
      · rw [if_neg (fun h => hm h.2)] at hrm htm
        omega
structure IsB (own : Nat → Bool) (best : Nat → Int) (set : Nat) (base v : Int) : Prop where
  ge : base ≤ v
  all : ∀ t, t ≠ 0 → t &&& set = t → own t = true → 0 ≤ best (ZT set t) → best (ZT set t) + 1 ≤ v
  is : v = base ∨ ∃ t, t ≠ 0 ∧ t &&& set = t ∧ own t = true ∧ 0 ≤ best (ZT set t) ∧ v = best (ZT set t) + 1
theorem qod {own : Nat → Bool} {best : Nat → Int} {set : Nat} : ∀ (f sub : Nat) (v : Int), sub ≤ f → sub &&& set = sub → v ≤ eaF own best set f sub v ∧ (∀ t, t ≠ 0 → t &&& set = t → t ≤ sub → own t = true → 0 ≤ best (ZT set t) → best (ZT set t) + 1 ≤ eaF own best set f sub v) ∧
    (eaF own best set f sub v = v ∨ ∃ t, t ≠ 0 ∧ t &&& set = t ∧ own t = true ∧ 0 ≤ best (ZT set t) ∧ eaF own best set f sub v = best (ZT set t) + 1) := by
  intro f
  induction f with
  | zero =>
    intro sub v hf _
    have : sub = 0 := by omega
    subst this
    exact ⟨Int.le_refl _, fun t h1 _ h3 => by omega, .inl rfl⟩
  | succ f ih =>
    intro sub v hf hs
    unfold eaF
    by_cases hz : sub = 0
    · rw [if_pos hz]
      exact ⟨Int.le_refl _, fun t h1 _ h3 => by omega, .inl rfl⟩
    · rw [if_neg hz]
      have ha : (sub - 1) &&& set ≤ sub - 1 := Nat.and_le_left
      have hb : ((sub - 1) &&& set) &&& set = (sub - 1) &&& set := by rw [Nat.and_assoc, Nat.and_self]
      obtain ⟨i1, i2, i3⟩ := ih ((sub - 1) &&& set) (eaV own best set sub v) (by omega) hb
      have hv : v ≤ eaV own best set sub v := by unfold eaV; split <;> omega
      refine ⟨by omega, fun t h1 h2 h3 h4 h5 => ?_, ?_⟩
      · by_cases e : t = sub
        · subst e
          have : best (ZT set t) + 1 ≤ eaV own best set t v := by unfold eaV; rw [if_pos ⟨h4, h5⟩]; omega
          omega
        · exact i2 t h1 h2 (qhI sub set t hs h2 (by omega)) h4 h5
      · rcases i3 with e | h
        · by_cases hc : own sub = true ∧ 0 ≤ best (ZT set sub)
          · have e2 : eaV own best set sub v = max v (best (ZT set sub) + 1) := by unfold eaV; rw [if_pos hc]
            by_cases hm : v ≤ best (ZT set sub) + 1
            · exact .inr ⟨sub, hz, hs, hc.1, hc.2, by rw [e, e2]; omega⟩
            · exact .inl (by rw [e, e2]; omega)
          · exact .inl (by rw [e]; unfold eaV; rw [if_neg hc])
        · exact .inr h
theorem qgt (skip : Bool) (own : Nat → Bool) (best : Nat → Int) (set : Nat) : IsB own best set (if skip = true then best set else -1) (stF skip own best set) := by
  obtain ⟨h1, h2, h3⟩ := qod (own := own) (best := best) (set := set) set set (if skip = true then best set else -1) (Nat.le_refl _) (Nat.and_self _)
  refine ⟨h1, fun t t1 t2 t3 t4 => h2 t t1 t2 ?_ t3 t4, h3⟩
  rw [← t2]; exact Nat.and_le_right
theorem qjN {w m j : Nat} (h : m < 2 ^ w) (hj : m.testBit j = true) : j < w := by
  rcases Nat.lt_or_ge j w with h1 | h1
  · exact h1
  · rw [Nat.testBit_lt_two_pow (Nat.lt_of_lt_of_le h (Nat.pow_le_pow_right (by decide) h1))] at hj
    cases hj
def qe0 (n : qb) (s : qd) (x : ql) (a : qa) : ql := ⟨w64 (x.many + 1), w64 (x.credits + a.Credits), x.fine && qdm n s a⟩
def q0u {α : Type} (p : Nat → Bool) : List α → List α
  | [] => []
  | a :: l => (if p 0 = true then [a] else []) ++ q0u (fun j => p (j + 1)) l
theorem qbj (n : qb) (s : qd) (set : Nat) : ∀ (l : List qa) (k : Nat) (x : ql), wgF n s set l k x = (q0u (fun j => set.testBit (k + j)) l).foldl (qe0 n s) x
  | [], k, x => rfl
  | a :: l, k, x => by
    rw [wgF, q0u, qbj n s set l (k + 1), List.foldl_append, show (fun j => set.testBit (k + (j + 1))) = fun j => set.testBit (k + 1 + j) from funext fun j => by rw [Nat.add_right_comm, Nat.add_assoc]]
    congr 1
    cases set.testBit (k + 0) <;> simp [qe0]
theorem q6U {α : Type} : ∀ {l : List α} {p q : Nat → Bool}, (∀ j, j < l.length → p j = q j) → q0u p l = q0u q l
  | [], _, _, _ => rfl
  | a :: l, p, q, h => by
    rw [q0u, q0u, h 0 (by simp), q6U fun j hj => h (j + 1) (by simpa using hj)]
theorem q58 {α : Type} : ∀ (l : List α) (a : α) (p : Nat → Bool), q0u p (l ++ [a]) = q0u p l ++ (if p l.length = true then [a] else [])
  | [], a, p => by simp [q0u]
  | b :: l, a, p => by rw [List.cons_append, q0u, q58 l a, q0u, List.append_assoc]; rfl
end Go.Proofs.Ytgejdfnidjnjcaa.Vc
namespace Go.Proofs.Ytgejdfnidjnjcaa.Vc
open Go.RowKit
set_option linter.unusedVariables false
set_option linter.unusedSimpArgs false
def qcs (n : qb) (s : qd) (l : List qa) (p : Nat → Bool) : ql := (q0u p l).foldl (qe0 n s) ld0
mutual
def q23 (s : qd) (l : List qa) (a : Nat → Int) : qb → Nat → Bool × Bool
  | ⟨k, n, m, S, L⟩, nx => if k = 1 ∨ k = 2 then ((qcs ⟨k, n, m, S, L⟩ s l (fun j => a j == (nx : Int))).many == 0, q9d ⟨k, n, m, S, L⟩ (qcs ⟨k, n, m, S, L⟩ s l (fun j => a j == (nx : Int))))
    else ((q0t s l a (k == 3) L nx).1, !(q0t s l a (k == 3) L nx).2.2 && decide (n ≤ ((q0t s l a (k == 3) L nx).2.1 : Int)))
def q0t (s : qd) (l : List qa) (a : Nat → Int) (al : Bool) : List qb → Nat → Bool × Nat × Bool
  | [], _ => (true, 0, false)
  | x :: L, nx => ((q23 s l a x nx).1 && (q0t s l a al L (nx + lvN x)).1, (if (q23 s l a x nx).2 = true then 1 else 0) + (q0t s l a al L (nx + lvN x)).2.1,
      (!(q23 s l a x nx).2 && (!(q23 s l a x nx).1 || al)) || (q0t s l a al L (nx + lvN x)).2.2)
end
theorem q4T (s : qd) (l : List qa) (a : Nat → Int) (n : qb) (nx : Nat) : q23 s l a n nx = if n.Kind = 1 ∨ n.Kind = 2 then ((qcs n s l (fun j => a j == (nx : Int))).many == 0, q9d n (qcs n s l (fun j => a j == (nx : Int))))
    else ((q0t s l a (n.Kind == 3) n.L nx).1, !(q0t s l a (n.Kind == 3) n.L nx).2.2 && decide (n.N ≤ ((q0t s l a (n.Kind == 3) n.L nx).2.1 : Int))) := by
  cases n; rw [q23]
structure q0B (n : qb) : Prop where
  kind : n.Kind = 1 ∨ n.Kind = 2 ∨ n.Kind = 3 ∨ n.Kind = 4
  all : n.Kind = 3 → n.N ≤ (n.L.length : Int) ∧ n.L ≠ []
  some : n.Kind = 4 → 1 ≤ n.N
theorem q9X (n : qb) : n ∈ ndN n := by rw [QZ]; exact List.mem_cons_self ..
theorem q53 (s : qd) (l : List qa) (a b : Nat → Int) : ∀ (n : qb) (nx : Nat), (∀ k, k < l.length → ∀ x : Int, (nx : Int) ≤ x → x < ((nx + lvN n : Nat) : Int) → (a k = x ↔ b k = x)) → q23 s l a n nx = q23 s l b n nx := by
  intro n
  induction n using qb.rec (motive_2 := fun L => ∀ (al : Bool) (nx : Nat), (∀ k, k < l.length → ∀ x : Int, (nx : Int) ≤ x → x < ((nx + lvL L : Nat) : Int) → (a k = x ↔ b k = x)) → q0t s l a al L nx = q0t s l b al L nx) with
  | mk k n m S L ih =>
    intro nx h
    rw [q4T, q4T]
    rw [lvN] at h
    by_cases hk : k = 1 ∨ k = 2
    · rw [if_pos hk] at h
      rw [if_pos hk, if_pos hk]
      have : q0u (fun j => a j == (nx : Int)) l = q0u (fun j => b j == (nx : Int)) l := q6U fun j hj => by
        have := h j hj nx (Int.le_refl _) (by omega)
        by_cases e : a j = nx
        · rw [e, this.1 e]
        · have e' : ¬ b j = nx := fun e2 => e (this.2 e2)
          rw [beq_eq_false_iff_ne.2 e, beq_eq_false_iff_ne.2 e']
      unfold qcs
      rw [this]
    · rw [if_neg hk] at h
      rw [if_neg hk, if_neg hk]
      simp only
      rw [ih _ nx h]
  | nil => rw [q0t, q0t]
  | cons x L h1 h2 =>
    rename_i al nx h
    rw [lvL] at h
    rw [q0t, q0t, h1 nx (fun k hk y hy hy2 => h k hk y hy (by omega)), h2 al (nx + lvN x) (fun k hk y hy hy2 => h k hk y (by omega) (by omega))]
theorem qaF (n : qb) (s : qd) : ∀ (L : List qa) (x : ql), 0 ≤ x.many → x.many + L.length ≤ 9223372036854775807 → (L.foldl (qe0 n s) x).many = x.many + L.length
  | [], x, _, _ => by simp
  | a :: L, x, h0, h => by
    rw [List.length_cons] at h
    have hw : w64 (x.many + 1) = x.many + 1 := Qk (by omega) (by omega)
    rw [List.foldl_cons, qaF n s L (qe0 n s x a) (by unfold qe0; simp only; omega) (by unfold qe0; simp only; omega), List.length_cons]
    unfold qe0
    simp only
    omega
theorem q7T {α : Type} : ∀ (l : List α) (p : Nat → Bool), (q0u p l).length ≤ l.length
  | [], _ => by simp [q0u]
  | a :: l, p => by
    have := q7T l (fun j => p (j + 1))
    rw [q0u, List.length_append, List.length_cons]
    split <;> simp <;> omega
theorem qah {α : Type} : ∀ (l : List α) (p : Nat → Bool), (q0u p l).length = 0 ↔ ∀ k, k < l.length → p k = false
  | [], _ => by simp [q0u]
  | a :: l, p => by
    have ih := qah l (fun j => p (j + 1))
    rw [q0u, List.length_append]
    constructor
    · intro h k hk
      cases k with
      | zero => by_cases e : p 0 = true
                · rw [if_pos e] at h; simp at h
                · simpa using e
      | succ k => exact ih.1 (by omega) k (by simpa using hk)
    · intro h
      rw [ih.2 fun k hk => h (k + 1) (by simpa using hk), if_neg (by rw [h 0 (by simp)]; decide)]
      try rfl
theorem qgW (n : qb) (s : qd) (l : List qa) (hl : l.length ≤ 62) (p : Nat → Bool) : (qcs n s l p).many = ((q0u p l).length : Int) := by
  have := q7T l p
  unfold qcs
  rw [qaF n s _ _ (by decide) (by show (0 : Int) + _ ≤ _; omega)]
  show (0 : Int) + _ = _
  omega
theorem q51 (s : qd) (l : List qa) (hl : l.length ≤ 62) (a : Nat → Int) : ∀ (n : qb) (nx : Nat), (q23 s l a n nx).1 = true ↔ ∀ k, k < l.length → ¬((nx : Int) ≤ a k ∧ a k < ((nx + lvN n : Nat) : Int)) := by
  intro n
  induction n using qb.rec (motive_2 := fun L => ∀ (al : Bool) (nx : Nat), (q0t s l a al L nx).1 = true ↔ ∀ k, k < l.length → ¬((nx : Int) ≤ a k ∧ a k < ((nx + lvL L : Nat) : Int))) with
  | mk k n m S L ih =>
    intro nx
    rw [q4T, lvN]
    by_cases hk : k = 1 ∨ k = 2
    · rw [if_pos hk, if_pos hk]
      simp only
      rw [qgW _ _ _ hl, beq_iff_eq, show (((q0u (fun j => a j == (nx : Int)) l).length : Int) = 0) ↔ (q0u (fun j => a j == (nx : Int)) l).length = 0 from by omega, qah]
      constructor
      · intro h k hk h2
        have := beq_eq_false_iff_ne.1 (h k hk)
        omega
      · intro h k hk
        have := h k hk
        exact beq_eq_false_iff_ne.2 (by omega)
    · rw [if_neg hk, if_neg hk]
      exact ih _ nx
  | nil => rename_i al nx; rw [q0t, lvL]; simp only [true_iff]; intro k hk; omega
  | cons x L h1 h2 =>
    rename_i al nx
    rw [q0t, lvL, Bool.and_eq_true, h1, h2]
    constructor
    · intro h k hk
      have a1 := h.1 k hk
      have a2 := h.2 k hk
      omega
    · intro h
      exact ⟨fun k hk => by have := h k hk; omega, fun k hk => by have := h k hk; omega⟩
theorem qby (s : qd) (l : List qa) (a : Nat → Int) : ∀ (n : qb) (nx : Nat), (∀ y ∈ ndN n, q0B y) → (q23 s l a n nx).2 = true → (q23 s l a n nx).1 = false := by
  intro n
  induction n using qb.rec (motive_2 := fun L => ∀ (al : Bool) (nx : Nat), (∀ y ∈ ndL L, q0B y) → (q0t s l a al L nx).1 = true → (q0t s l a al L nx).2.1 = 0 ∧ (al = true → (q0t s l a al L nx).2.2 = false → L = [])) with
  | mk k n m S L ih =>
    intro nx hf h
    have hn := hf _ (q9X _)
    rw [q4T] at h ⊢
    by_cases hk : k = 1 ∨ k = 2
    · rw [if_pos hk] at h ⊢
      simp only at h ⊢
      generalize qcs ⟨k, n, m, S, L⟩ s l (fun j => a j == (nx : Int)) = x at h
      unfold q9d at h
      simp only at h
      refine beq_eq_false_iff_ne.2 fun e => ?_
      rw [e] at h
      split at h <;> simp at h
    · rw [if_neg hk] at h ⊢
      simp only at h ⊢
      refine Bool.eq_false_iff.2 fun e => ?_
      obtain ⟨h1, h2⟩ := ih (k == 3) nx (fun y hy => hf y (by rw [ndN]; exact List.mem_cons_of_mem _ hy)) e
      rw [Bool.and_eq_true, h1, decide_eq_true_eq] at h
      rcases hn.kind with q | q | q | q
      · exact hk (.inl q)
      · exact hk (.inr q)
      · simp only at q
        subst q
        exact (hn.all rfl).2 (h2 (by decide) (by simpa using h.1))
      · have := hn.some q
        simp only at this
        omega
  | nil => rename_i al nx _ _; rw [q0t]; exact ⟨rfl, fun _ _ => rfl⟩
  | cons x L h1 h2 =>
    rename_i al nx hf h
    rw [q0t] at h ⊢
    simp only at h ⊢
    rw [Bool.and_eq_true] at h
    have hx : (q23 s l a x nx).2 = false := by
      refine Bool.eq_false_iff.2 fun e => ?_
      have := h1 nx (fun y hy => hf y (by rw [ndL]; exact List.mem_append_left _ hy)) e
      rw [this] at h
      exact absurd h.1 (by decide)
    obtain ⟨h3, h4⟩ := h2 al (nx + lvN x) (fun y hy => hf y (by rw [ndL]; exact List.mem_append_right _ hy)) h.2
    rw [hx, h3]
    refine ⟨by simp, fun ha hw => ?_⟩
    rw [ha] at hw
    simp at hw
end Go.Proofs.Ytgejdfnidjnjcaa.Vc
namespace Go.Proofs.Ytgejdfnidjnjcaa.Vc
open Go.RowKit
set_option linter.unusedVariables false
set_option linter.unusedSimpArgs false
def mkS (p : Nat → Bool) : Nat → Nat
  | 0 => 0
  | n + 1 => mkS p n ||| (if p n = true then 2 ^ n else 0)
theorem qfE (p : Nat → Bool) : ∀ (n k : Nat), (mkS p n).testBit k = (decide (k < n) && p k)
  | 0, k => by simp [mkS]
  | n + 1, k => by
    rw [mkS, Nat.testBit_or, qfE p n k]
    by_cases e : k = n
    · subst e
      by_cases hp : p k = true
      · rw [if_pos hp, Nat.testBit_two_pow]; simp [hp]
      · rw [if_neg hp]; simp [Bool.eq_false_iff.2 hp]
    · have h1 : (if p n = true then 2 ^ n else 0).testBit k = false := by
        split
        · rw [Nat.testBit_two_pow]; exact decide_eq_false (fun h => e h.symm)
        · exact Nat.zero_testBit k
      rw [h1, Bool.or_false]
      have : decide (k < n + 1) = decide (k < n) := by
        by_cases h : k < n
        · rw [decide_eq_true h, decide_eq_true (by omega)]
        · rw [decide_eq_false h, decide_eq_false (by omega)]
      rw [this]
theorem qfz (leaf : Int) (set : Nat) : ∀ (d : List Int) (i : Nat), alG leaf set d i = true ↔ ∀ (k : Nat) (x : Int), d[k]? = some x → (set.testBit (i + k) = true ↔ x = leaf)
  | [], i => by simp [alG]
  | y :: d, i => by
    rw [alG, Bool.and_eq_true, qfz leaf set d (i + 1), beq_iff_eq]
    constructor
    · intro h k x hx
      cases k with
      | zero =>
        simp only [List.getElem?_cons_zero, Option.some.injEq] at hx
        subst hx
        rw [Nat.add_zero, h.1, beq_iff_eq]
      | succ k =>
        rw [List.getElem?_cons_succ] at hx
        have := h.2 k x hx
        rwa [Nat.add_right_comm, Nat.add_assoc] at this
    · intro h
      refine ⟨?_, fun k x hx => ?_⟩
      · have := h 0 y (by simp)
        rw [Nat.add_zero] at this
        by_cases e : y = leaf
        · rw [this.2 e, beq_iff_eq.2 e]
        · rw [beq_eq_false_iff_ne.2 e]; exact Bool.eq_false_iff.2 fun h2 => e (this.1 h2)
      · have := h (k + 1) x (by rw [List.getElem?_cons_succ]; exact hx)
        rwa [show i + 1 + k = i + (k + 1) from by omega]
theorem qlb (d : List Int) (leaf set : Nat) : alF d leaf set = true ↔ ∀ (k : Nat) (x : Int), d[k]? = some x → (set.testBit k = true ↔ x = (leaf : Int)) := by
  unfold alF
  rw [qfz]
  simp only [Nat.zero_add]
theorem qgR (d : List Int) (a b : Nat) : foF d a b = true ↔ ∃ (k : Nat) (x : Int), d[k]? = some x ∧ (a : Int) ≤ x ∧ x < (b : Int) := by
  unfold foF
  rw [List.any_eq_true]
  constructor
  · rintro ⟨x, hx, h⟩
    obtain ⟨k, hk⟩ := List.mem_iff_getElem?.1 hx
    rw [Bool.and_eq_true, decide_eq_true_eq, decide_eq_true_eq] at h
    exact ⟨k, x, hk, h⟩
  · rintro ⟨k, x, hk, h⟩
    exact ⟨x, List.mem_iff_getElem?.2 ⟨k, hk⟩, by rw [Bool.and_eq_true, decide_eq_true_eq, decide_eq_true_eq]; exact h⟩
structure Asg (d : List Int) (a : Nat → Int) (lo w set : Nat) : Prop where
  inn : ∀ k, set.testBit k = true → (lo : Int) ≤ a k ∧ a k < ((lo + w : Nat) : Int)
  out : ∀ k, set.testBit k = false → a k = -1
  com : ∀ k y, d[k]? = some y → ∀ x : Int, (lo : Int) ≤ x → x < ((lo + w : Nat) : Int) → (y = x ↔ a k = x)
theorem Asg.bit {d : List Int} {a : Nat → Int} {lo w set : Nat} (h : Asg d a lo w set) (k : Nat) (h1 : (lo : Int) ≤ a k) : set.testBit k = true := by
  by_cases e : set.testBit k = true
  · exact e
  · have := h.out k (Bool.eq_false_iff.2 e)
    omega
theorem q6C (s : qd) (l : List qa) (a b : Nat → Int) (al : Bool) : ∀ (L : List qb) (nx : Nat), (∀ k, k < l.length → ∀ x : Int, (nx : Int) ≤ x → x < ((nx + lvL L : Nat) : Int) → (a k = x ↔ b k = x)) → q0t s l a al L nx = q0t s l b al L nx
  | [], nx, _ => by rw [q0t, q0t]
  | x :: L, nx, h => by
    rw [lvL] at h
    rw [q0t, q0t, q53 s l a b x nx (fun k hk y hy hy2 => h k hk y hy (by omega)), q6C s l a b al L (nx + lvN x) (fun k hk y hy hy2 => h k hk y (by omega) (by omega))]
theorem qcD (s : qd) (l : List qa) (a : Nat → Int) : ∀ (L : List qb) (nx : Nat), (q0t s l a true L nx).2.2 = false → (q0t s l a true L nx).2.1 = L.length
  | [], nx, _ => by rw [q0t]; rfl
  | x :: L, nx, h => by
    rw [q0t] at h ⊢
    simp only at h ⊢
    rw [Bool.or_eq_false_iff] at h
    have hx : (q23 s l a x nx).2 = true := by
      have := h.1
      rw [Bool.or_true, Bool.and_true] at this
      simpa using this
    rw [if_pos hx, qcD s l a L _ h.2, List.length_cons]
    omega
theorem qax (set : Nat) : ZT set 0 = set := Nat.eq_of_testBit_eq fun i => by rw [zx]; simp
theorem qae {t s : Nat} (h : t &&& s = t) {k : Nat} (hk : t.testBit k = true) : s.testBit k = true := by
  rw [← h, Nat.testBit_and, Bool.and_eq_true] at hk
  exact hk.2
theorem qcV {t s : Nat} (h : ∀ k, t.testBit k = true → s.testBit k = true) : t &&& s = t := Nat.eq_of_testBit_eq fun i => by
  rw [Nat.testBit_and]
  by_cases e : t.testBit i = true
  · rw [e, h i e]; rfl
  · rw [Bool.eq_false_iff.2 e]; rfl
theorem qj3 (d : List Int) (s : qd) (l : List qa) (n : qb) (hk : n.Kind = 1 ∨ n.Kind = 2) (nx set : Nat) (hlt : set < 2 ^ l.length) (hl : l.length ≤ 62) :
    Ja d s l n nx set = true ↔ ∃ a, Asg d a nx 1 set ∧ q9d n (qcs n s l (fun j => a j == (nx : Int))) = true := by
  have key : ∀ a, Asg d a nx 1 set → qcs n s l (fun j => a j == (nx : Int)) = wgF n s set l 0 ld0 := fun a ha => by
    rw [qbj]
    unfold qcs
    rw [q6U (p := fun j => a j == (nx : Int)) (q := fun j => set.testBit (0 + j)) fun j hj => ?_]
    rw [Nat.zero_add]
    by_cases e : set.testBit j = true
    · have := ha.inn j e
      rw [e, beq_iff_eq]
      omega
    · rw [Bool.eq_false_iff.2 e, ha.out j (Bool.eq_false_iff.2 e)]
      exact beq_eq_false_iff_ne.2 (by omega)
  unfold Ja
  rw [Bool.and_eq_true, Bool.and_eq_true, decide_eq_true_eq, qlb]
  constructor
  · rintro ⟨h0, h1, h2⟩
    have ha : Asg d (fun k => if set.testBit k = true then (nx : Int) else -1) nx 1 set := {
      inn := fun k hk => by simp only [hk, if_true]; omega
      out := fun k hk => by simp only [hk]; rfl
      com := fun k y hy x hx hx2 => by
        have e : x = nx := by omega
        subst e
        rw [← h1 k y hy]
        show set.testBit k = true ↔ (if set.testBit k = true then (nx : Int) else -1) = (nx : Int)
        by_cases e : set.testBit k = true
        · rw [if_pos e]; exact ⟨fun _ => rfl, fun _ => e⟩
        · rw [if_neg e]; exact ⟨fun h => absurd h e, fun h => by omega⟩ }
    exact ⟨_, ha, by rw [key _ ha]; exact h2⟩
  · rintro ⟨a, ha, hm⟩
    rw [key a ha] at hm
    refine ⟨fun e => ?_, fun k x hx => ?_, hm⟩
    · have h3 : q0u (fun j => set.testBit (0 + j)) l = [] := List.eq_nil_of_length_eq_zero ((qah _ _).2 fun k hk => by rw [e]; exact Nat.zero_testBit _)
      rw [qbj, h3] at hm
      unfold q9d ld0 at hm
      simp only [List.foldl_nil] at hm
      split at hm <;> simp at hm
    · constructor
      · intro hb
        have := ha.inn k hb
        exact (ha.com k x hx (nx : Int) (by omega) (by omega)).2 (by omega)
      · intro e
        have := (ha.com k x hx (nx : Int) (by omega) (by omega)).1 e
        exact ha.bit k (by omega)
theorem qlH (s : qd) (l : List qa) (hl : l.length ≤ 62) (a : Nat → Int) (n : qb) (nx : Nat) (hf : ∀ y ∈ ndN n, q0B y) (h : ∀ k, ¬((nx : Int) ≤ a k ∧ a k < ((nx + lvN n : Nat) : Int))) : (q23 s l a n nx).1 = true ∧ (q23 s l a n nx).2 = false := by
  have h1 := (q51 s l hl a n nx).2 fun k _ => h k
  refine ⟨h1, Bool.eq_false_iff.2 fun e => ?_⟩
  rw [qby s l a n nx hf e] at h1
  exact absurd h1 (by decide)
theorem q8n (d : List Int) (s : qd) (l : List qa) (hl : l.length ≤ 62) : ∀ (n : qb) (nx set : Nat), (∀ y ∈ ndN n, q0B y) → set < 2 ^ l.length →
    (Q8 d s l n nx set = true ↔ ∃ a, Asg d a nx (lvN n) set ∧ (q23 s l a n nx).2 = true) := by
  intro n
  induction n using qb.rec (motive_2 := fun L => ∀ (sk : Bool) (nx : Nat) (b : Nat → Int) (set : Nat), (∀ y ∈ ndL L, q0B y) → set < 2 ^ l.length →
      (0 ≤ q7s d s l sk L nx b set → ∃ s1 a, s1 &&& set = s1 ∧ 0 ≤ b s1 ∧ Asg d a nx (lvL L) (ZT set s1) ∧ (q0t s l a (!sk) L nx).2.2 = false ∧ q7s d s l sk L nx b set = b s1 + ((q0t s l a (!sk) L nx).2.1 : Int)) ∧
      (∀ s1 a, s1 &&& set = s1 → 0 ≤ b s1 → Asg d a nx (lvL L) (ZT set s1) → (q0t s l a (!sk) L nx).2.2 = false → b s1 + ((q0t s l a (!sk) L nx).2.1 : Int) ≤ q7s d s l sk L nx b set)) with
  | mk k n m S L ih =>
    intro nx set hf hlt
    have hn := hf _ (q9X _)
    have hfL : ∀ y ∈ ndL L, q0B y := fun y hy => hf y (by rw [ndN]; exact List.mem_cons_of_mem _ hy)
    rw [q5O, q8D]
    simp only [q4T]
    by_cases hk : k = 1 ∨ k = 2
    · rw [if_pos hk, if_pos hk]
      simp only [if_pos hk]
      exact qj3 d s l _ hk nx set hlt hl
    · rw [if_neg hk, if_neg hk]
      simp only [if_neg hk]
      have hk4 : (!(k == 4)) = (k == 3) := by
        rcases hn.kind with q | q | q | q <;> simp only at q <;> subst q <;> first | decide | exact absurd (by decide) hk
      obtain ⟨i1, i2⟩ := ih (k == 4) nx b0F set hfL hlt
      rw [hk4] at i1 i2
      rw [Bool.and_eq_true, decide_eq_true_eq, decide_eq_true_eq]
      constructor
      · rintro ⟨h0, h1⟩
        have hz : 0 ≤ q7s d s l (k == 4) L nx b0F set := by
          rcases hn.kind with q | q | q | q
          · exact absurd (.inl q) hk
          · exact absurd (.inr q) hk
          · simp only at q
            rw [if_pos q] at h1
            omega
          · have := hn.some q
            simp only at q this
            rw [if_neg (by omega)] at h1
            omega
        obtain ⟨s1, a, e1, e2, e3, e4, e5⟩ := i1 hz
        have hs1 : s1 = 0 := by
          unfold b0F at e2
          by_cases e : s1 = 0
          · exact e
          · rw [if_neg e] at e2; omega
        subst hs1
        rw [qax] at e3
        refine ⟨a, e3, ?_⟩
        rw [e4, Bool.not_false, Bool.true_and, decide_eq_true_eq]
        have hb0 : b0F 0 = 0 := rfl
        rw [hb0] at e5
        by_cases q : k = 3
        · rw [if_pos q] at h1
          have := (hn.all q).1
          simp only at this
          omega
        · rw [if_neg q] at h1
          omega
      · rintro ⟨a, ha, hm⟩
        rw [Bool.and_eq_true, decide_eq_true_eq] at hm
        have hw : (q0t s l a (k == 3) L nx).2.2 = false := by simpa using hm.1
        have hb0 : b0F 0 = 0 := rfl
        have h2 := i2 0 a (Nat.zero_and _) (by rw [hb0]; exact Int.le_refl _) (by rw [qax]; exact ha) hw
        rw [hb0] at h2
        have h3 : (q23 s l a ⟨k, n, m, S, L⟩ nx).1 = false := qby s l a _ nx hf (by rw [q4T, if_neg hk]; simp only; rw [Bool.and_eq_true, decide_eq_true_eq]; exact hm)
        refine ⟨fun e => ?_, ?_⟩
        · have h4 : (q23 s l a ⟨k, n, m, S, L⟩ nx).1 = true := (q51 s l hl a _ nx).2 fun j _ hj => by
            have := ha.bit j hj.1
            rw [e, Nat.zero_testBit] at this
            exact absurd this (by decide)
          rw [h3] at h4
          exact absurd h4 (by decide)
        · by_cases q : k = 3
          · rw [if_pos q]
            have h5 : (k == 3) = true := by rw [q]; rfl
            rw [h5] at hw h2
            rw [qcD s l a L nx hw] at h2
            omega
          · rw [if_neg q]
            omega
  | nil =>
    rename_i sk nx b set hf hlt
    rw [lvL, q7s]
    refine ⟨fun h => ⟨set, fun _ => -1, Nat.and_self _, h, ⟨fun k hk => ?_, fun _ _ => rfl, fun k y hy x hx hx2 => by omega⟩, by rw [q0t], by rw [q0t]; simp⟩, fun s1 a h1 h2 h3 h4 => ?_⟩
    · rw [zx] at hk
      cases h : set.testBit k <;> rw [h] at hk <;> simp at hk
    · have : s1 = set := Nat.eq_of_testBit_eq fun i => by
        by_cases e : (ZT set s1).testBit i = true
        · have := h3.inn i e
          omega
        · rw [zx] at e
          by_cases e2 : s1.testBit i = true
          · rw [e2, qae h1 e2]
          · cases h : set.testBit i
            · exact Bool.eq_false_iff.2 e2
            · rw [h, Bool.eq_false_iff.2 e2] at e
              exact absurd rfl e
      subst this
      rw [q0t]
      simp
  | cons x L h1 h2 =>
    rename_i sk nx b set hf hlt
    have hfx : ∀ y ∈ ndN x, q0B y := fun y hy => hf y (by rw [ndL]; exact List.mem_append_left _ hy)
    have hfL : ∀ y ∈ ndL L, q0B y := fun y hy => hf y (by rw [ndL]; exact List.mem_append_right _ hy)
    obtain ⟨i1, i2⟩ := h2 sk (nx + lvN x) (stF (sk && !foF d nx (nx + lvN x)) (Q8 d s l x nx) b) set hfL hlt
    rw [lvL, q7s]
    simp only [q0t]
    constructor
    · intro h0
      obtain ⟨s1, a1, e1, e2, e3, e4, e5⟩ := i1 h0
      have hI := qgt (sk && !foF d nx (nx + lvN x)) (Q8 d s l x nx) b s1
      rcases hI.is with e | ⟨t, t1, t2, t3, t4, e⟩
      · have hsk : (sk && !foF d nx (nx + lvN x)) = true := by
          refine Classical.byContradiction fun hc => ?_
          rw [if_neg hc] at e
          omega
        rw [if_pos hsk] at e
        rw [Bool.and_eq_true] at hsk
        have hfo : ¬ foF d nx (nx + lvN x) = true := by simpa using hsk.2
        rw [qgR] at hfo
        have hr : ∀ k, ¬((nx : Int) ≤ a1 k ∧ a1 k < ((nx + lvN x : Nat) : Int)) := fun k hk => by
          by_cases hb : (ZT set s1).testBit k = true
          · have := e3.inn k hb; omega
          · have := e3.out k (Bool.eq_false_iff.2 hb); omega
        obtain ⟨v1, v2⟩ := qlH s l hl a1 x nx hfx hr
        refine ⟨s1, a1, e1, by omega, ⟨fun k hk => by have := e3.inn k hk; omega, e3.out, fun k y hy z hz hz2 => ?_⟩, ?_, ?_⟩
        · by_cases hz3 : z < ((nx + lvN x : Nat) : Int)
          · constructor
            · intro e; subst e; exact absurd ⟨k, y, hy, hz, hz3⟩ hfo
            · intro e; exact absurd ⟨by omega, by omega⟩ (hr k)
          · exact e3.com k y hy z (by omega) (by omega)
        · rw [v1, v2, e4, hsk.1]; rfl
        · rw [e5, e, v2]; simp
      · obtain ⟨a2, ha2, hm2⟩ := (h1 nx t hfx (Nat.lt_of_le_of_lt (Nat.le_trans (by rw [← t2]; exact Nat.and_le_right) (by rw [← e1]; exact Nat.and_le_right)) hlt)).1 t3
        have hts : ∀ k, t.testBit k = true → s1.testBit k = true := fun k hk => qae t2 hk
        have hss : ∀ k, s1.testBit k = true → set.testBit k = true := fun k hk => qae e1 hk
        have hin : ∀ k, t.testBit k = true → (fun k => if t.testBit k = true then a2 k else a1 k) k = a2 k := fun k hk => by show (if _ then _ else _) = _; rw [if_pos hk]
        have hnot : ∀ k, t.testBit k = false → (fun k => if t.testBit k = true then a2 k else a1 k) k = a1 k := fun k hk => by show (if _ then _ else _) = _; rw [if_neg (by rw [hk]; decide)]
        generalize (fun k => if t.testBit k = true then a2 k else a1 k) = a at hin hnot
        have ht1 : ∀ k, t.testBit k = true → a1 k = -1 := fun k hk => e3.out k (by rw [zx, hts k hk]; simp)
        have hu1 : ∀ k, t.testBit k = false → a2 k = -1 := fun k hk => ha2.out k hk
        have hc1 : q23 s l a x nx = q23 s l a2 x nx := q53 s l a a2 x nx fun k _ z hz hz2 => by
          cases hb : t.testBit k
          · rw [hnot k hb, hu1 k hb]
            by_cases hb2 : (ZT set s1).testBit k = true
            · have := e3.inn k hb2; omega
            · have := e3.out k (Bool.eq_false_iff.2 hb2); omega
          · rw [hin k hb]
        have hc2 : q0t s l a (!sk) L (nx + lvN x) = q0t s l a1 (!sk) L (nx + lvN x) := q6C s l a a1 (!sk) L (nx + lvN x) fun k _ z hz hz2 => by
          cases hb : t.testBit k
          · rw [hnot k hb]
          · rw [hin k hb, ht1 k hb]
            have := ha2.inn k hb
            omega
        refine ⟨ZT s1 t, a, ?_, t4, ⟨fun k hk => ?_, fun k hk => ?_, fun k y hy z hz hz2 => ?_⟩, ?_, ?_⟩
        · exact qcV fun k hk => hss k (by rw [zx, Bool.and_eq_true] at hk; exact hk.1)
        · cases hb : t.testBit k
          · rw [hnot k hb]
            have : (ZT set s1).testBit k = true := by
              rw [zx, zx, hb] at hk
              rw [zx]
              simpa using hk
            have := e3.inn k this
            omega
          · rw [hin k hb]
            have := ha2.inn k hb
            omega
        · cases hb : t.testBit k
          · rw [hnot k hb]
            refine e3.out k ?_
            rw [zx, zx, hb] at hk
            rw [zx]
            simpa using hk
          · exfalso
            rw [zx, zx, hb, hss k (hts k hb)] at hk
            simp at hk
        · by_cases hz3 : z < ((nx + lvN x : Nat) : Int)
          · rw [ha2.com k y hy z hz hz3]
            cases hb : t.testBit k
            · rw [hnot k hb, hu1 k hb]
              by_cases hb2 : (ZT set s1).testBit k = true
              · have := e3.inn k hb2; omega
              · have := e3.out k (Bool.eq_false_iff.2 hb2); omega
            · rw [hin k hb]
          · rw [e3.com k y hy z (by omega) (by omega)]
            cases hb : t.testBit k
            · rw [hnot k hb]
            · rw [hin k hb, ht1 k hb]
              have := ha2.inn k hb
              omega
        · rw [hc1, hc2, hm2, e4]; rfl
        · rw [e5, e, hc1, hc2, if_pos hm2]; omega
    · intro s1 a g1 g2 g3 g4
      rw [Bool.or_eq_false_iff] at g4
      obtain ⟨g4, g5⟩ := g4
      have hss : ∀ k, s1.testBit k = true → set.testBit k = true := fun k hk => qae g1 hk
      by_cases hm : (q23 s l a x nx).2 = true
      · have hlen : ∀ k, (nx : Int) ≤ a k → k < l.length := fun k hk => by
          have hb := g3.bit k hk
          have : set.testBit k = true := by rw [zx, Bool.and_eq_true] at hb; exact hb.1
          exact qjN hlt this
        obtain ⟨t, tb⟩ : ∃ t : Nat, ∀ k, t.testBit k = true ↔ ((nx : Int) ≤ a k ∧ a k < ((nx + lvN x : Nat) : Int)) := ⟨mkS (fun k => decide ((nx : Int) ≤ a k) && decide (a k < ((nx + lvN x : Nat) : Int))) l.length, fun k => by
          rw [qfE, Bool.and_eq_true, Bool.and_eq_true, decide_eq_true_eq, decide_eq_true_eq, decide_eq_true_eq]
          exact ⟨fun h => h.2, fun h => ⟨hlen k h.1, h⟩⟩⟩
        have hdis : ∀ k, t.testBit k = true → set.testBit k = true ∧ s1.testBit k = false := fun k hk => by
          have hb := g3.bit k ((tb k).1 hk).1
          rw [zx, Bool.and_eq_true] at hb
          exact ⟨hb.1, by simpa using hb.2⟩
        obtain ⟨a2, hin2, hnot2⟩ : ∃ a2 : Nat → Int, (∀ k, t.testBit k = true → a2 k = a k) ∧ (∀ k, t.testBit k = false → a2 k = -1) := ⟨fun k => if t.testBit k = true then a k else -1, fun k hk => if_pos hk, fun k hk => if_neg (by rw [hk]; decide)⟩
        obtain ⟨a1, hin1, hnot1⟩ : ∃ a1 : Nat → Int, (∀ k, t.testBit k = true → a1 k = -1) ∧ (∀ k, t.testBit k = false → a1 k = a k) := ⟨fun k => if t.testBit k = true then -1 else a k, fun k hk => if_pos hk, fun k hk => if_neg (by rw [hk]; decide)⟩
        have hoff : ∀ k, t.testBit k = false → ¬((nx : Int) ≤ a k ∧ a k < ((nx + lvN x : Nat) : Int)) := fun k hk h => by
          rw [(tb k).2 h] at hk
          exact absurd hk (by decide)
        have hA2 : Asg d a2 nx (lvN x) t := ⟨fun k hk => by rw [hin2 k hk]; exact (tb k).1 hk, hnot2, fun k y hy z hz hz2 => by
          rw [g3.com k y hy z hz (by omega)]
          cases hb : t.testBit k
          · rw [hnot2 k hb]
            have := hoff k hb
            omega
          · rw [hin2 k hb]⟩
        have hc1 : q23 s l a2 x nx = q23 s l a x nx := q53 s l a2 a x nx fun k _ z hz hz2 => by
          cases hb : t.testBit k
          · rw [hnot2 k hb]
            have := hoff k hb
            omega
          · rw [hin2 k hb]
        have hc2 : q0t s l a1 (!sk) L (nx + lvN x) = q0t s l a (!sk) L (nx + lvN x) := q6C s l a1 a (!sk) L (nx + lvN x) fun k _ z hz hz2 => by
          cases hb : t.testBit k
          · rw [hnot1 k hb]
          · rw [hin1 k hb]
            have := (tb k).1 hb
            omega
        have hown : Q8 d s l x nx t = true := (h1 nx t hfx (Nat.lt_of_le_of_lt (Nat.le_trans (by rw [← qcV (t := t) (s := set) fun k hk => (hdis k hk).1]; exact Nat.and_le_right) (Nat.le_refl _)) hlt)).2 ⟨a2, hA2, by rw [hc1]; exact hm⟩
        have ht0 : t ≠ 0 := fun e => by
          have h3 := qby s l a x nx hfx hm
          have h4 := (q51 s l hl a x nx).2 fun k _ hk => by
            have := (tb k).2 hk
            rw [e, Nat.zero_testBit] at this
            exact absurd this (by decide)
          rw [h3] at h4
          exact absurd h4 (by decide)
        have hI := qgt (sk && !foF d nx (nx + lvN x)) (Q8 d s l x nx) b (s1 ||| t)
        have hle : ZT (s1 ||| t) t = s1 := Nat.eq_of_testBit_eq fun k => by
          rw [zx, Nat.testBit_or]
          cases hb : t.testBit k
          · simp
          · rw [(hdis k hb).2]; rfl
        have hall := hI.all t ht0 (qcV fun k hk => by rw [Nat.testBit_or, hk, Bool.or_true]) hown (by rw [hle]; exact g2)
        rw [hle] at hall
        have := i2 (s1 ||| t) a1 (qcV fun k hk => by
            rw [Nat.testBit_or, Bool.or_eq_true] at hk
            rcases hk with hk | hk
            · exact hss k hk
            · exact (hdis k hk).1) (by omega) ⟨fun k hk => by
              rw [zx, Nat.testBit_or, Bool.and_eq_true] at hk
              have hb : t.testBit k = false := by
                have := hk.2
                cases h : t.testBit k
                · rfl
                · rw [h, Bool.or_true] at this; exact absurd this (by decide)
              have h5 := g3.inn k (by rw [zx, Bool.and_eq_true]; refine ⟨hk.1, ?_⟩; have := hk.2; rw [hb, Bool.or_false] at this; exact this)
              have h6 := hoff k hb
              rw [hnot1 k hb]
              omega, fun k hk => by
              cases hb : t.testBit k
              · rw [hnot1 k hb]
                refine g3.out k ?_
                rw [zx, Nat.testBit_or, hb, Bool.or_false] at hk
                rw [zx]
                exact hk
              · exact hin1 k hb, fun k y hy z hz hz2 => by
              rw [g3.com k y hy z (by omega) (by omega)]
              cases hb : t.testBit k
              · rw [hnot1 k hb]
              · rw [hin1 k hb]
                have := (tb k).1 hb
                omega⟩ (by rw [hc2]; exact g5)
        rw [hc2] at this
        rw [if_pos hm]
        omega
      · have hm' : (q23 s l a x nx).2 = false := Bool.eq_false_iff.2 hm
        rw [hm', Bool.not_false, Bool.true_and, Bool.or_eq_false_iff] at g4
        have hem : (q23 s l a x nx).1 = true := by simpa using g4.1
        have hsk : sk = true := by simpa using g4.2
        have hr : ∀ k, ¬((nx : Int) ≤ a k ∧ a k < ((nx + lvN x : Nat) : Int)) := fun k hk => by
          have hb := g3.bit k hk.1
          have : set.testBit k = true := by rw [zx, Bool.and_eq_true] at hb; exact hb.1
          have hkl : k < l.length := qjN hlt this
          exact (q51 s l hl a x nx).1 hem k hkl hk
        have hfo : foF d nx (nx + lvN x) = false := Bool.eq_false_iff.2 fun h => by
          obtain ⟨k, y, hy, h3, h4⟩ := (qgR d nx (nx + lvN x)).1 h
          have := (g3.com k y hy y h3 (by omega)).1 rfl
          exact hr k (by omega)
        have hI := qgt (sk && !foF d nx (nx + lvN x)) (Q8 d s l x nx) b s1
        have hge := hI.ge
        rw [hsk, hfo] at hge
        simp only [Bool.not_false, Bool.and_true, if_true] at hge
        have hge2 : b s1 ≤ stF (sk && !foF d nx (nx + lvN x)) (Q8 d s l x nx) b s1 := by rw [hsk, hfo]; exact hge
        have := i2 s1 a g1 (by omega) ⟨fun k hk => by
            have h5 := g3.inn k hk
            have h6 := hr k
            omega, g3.out, fun k y hy z hz hz2 => g3.com k y hy z (by omega) (by omega)⟩ g5
        rw [hm']
        simp only [Bool.false_eq_true, if_false, Nat.zero_add]
        omega
end Go.Proofs.Ytgejdfnidjnjcaa.Vc
namespace Go.Proofs.Ytgejdfnidjnjcaa.Vc
open Go.RowKit
set_option linter.unusedVariables false
set_option linter.unusedSimpArgs false
structure q3x (n : qb) (l : List qa) (set : Nat) : Prop where
  fit : ∀ y ∈ ndN n, q0B y
  nd : (ndN n).length ≤ 9999
  st : ∀ y ∈ ndN n, y.Set.length ≤ 1000000
  ll : l.length ≤ 16
  lt : set < 2 ^ l.length
theorem q3x.lt64 {n : qb} {l : List qa} {set : Nat} (h : q3x n l set) : set < 9223372036854775808 := by
  have h1 := h.lt
  have h2 : (2 : Nat) ^ l.length ≤ 2 ^ 16 := Nat.pow_le_pow_right (by decide) h.ll
  have h3 : (2 : Nat) ^ 16 = 65536 := by decide
  omega
theorem q3x.lv {n : qb} {l : List qa} {set : Nat} (h : q3x n l set) : lvN n ≤ 9999 := Nat.le_trans (qdJ n) h.nd
theorem qed {n : qb} {l : List qa} {set : Nat} (h : q3x n l set) (s : qd) (d : List Int) (hd : d.length ≤ 16) : Zg n s l d = some (QI (2 ^ l.length) (Q8 d s l n 0), d) := by
  have := qfi d hd s l h.ll _ n (Nat.le_refl _) (by have := h.nd; omega) h.st 0 (by have := h.nd; omega)
  unfold Zg
  change Option.bind (qB (n, d, l, ((0 : Nat) : Int), s)) _ = _
  rw [this]
  rfl
theorem qam {α : Type} {d : List α} {y z : α} {j : Nat} (h : (d ++ [y])[j]? = some z) : d[j]? = some z ∨ (j = d.length ∧ z = y) := by
  by_cases hj : j < d.length
  · rw [List.getElem?_append_left hj] at h
    exact .inl h
  · rw [List.getElem?_append_right (by omega)] at h
    have := JH h
    rw [List.length_singleton] at this
    have e : j - d.length = 0 := by omega
    rw [e] at h
    simp only [List.getElem?_cons_zero, Option.some.injEq] at h
    exact .inr ⟨by omega, h.symm⟩
theorem qhZ {d : List Int} {a : Nat → Int} {w set : Nat} (h : Asg d a 0 w set) : Asg (d ++ [a d.length]) a 0 w set := ⟨h.inn, h.out, fun k y hy x hx hx2 => by
  rcases qam hy with e | ⟨e1, e2⟩
  · exact h.com k y e x hx hx2
  · rw [e1, e2]⟩
theorem qhr {n : qb} {l : List qa} {set : Nat} (h : q3x n l set) (s : qd) (w4 : List Int) (t49 t50 : Int) (d : List Int) (hd : d.length + 1 ≤ 16) : ∀ (m x : Nat), x + m ≤ 1000000 →
    (∃ v : Nat, x ≤ v ∧ v ≤ x + m ∧ Q8 (d ++ [(v : Int)]) s l n 0 set = true) →
    ∃ v : Nat, x ≤ v ∧ v ≤ x + m ∧ Q8 (d ++ [(v : Int)]) s l n 0 set = true ∧ (∀ y : Nat, x ≤ y → y < v → Q8 (d ++ [(y : Int)]) s l n 0 set = false) ∧
      qQ (Q5 w4 n s l (set : Int) (d.length : Int) t49 t50) (d ++ [(x : Int)]) = some (d ++ [(v : Int)]) := by
  have hstep : ∀ x : Nat, x ≤ 1000000 → Q5 w4 n s l (set : Int) (d.length : Int) t49 t50 (d ++ [(x : Int)]) = if Q8 (d ++ [(x : Int)]) s l n 0 set = true then some (.inr (d ++ [(x : Int)])) else some (.inl (d ++ [((x + 1 : Nat) : Int)])) := by
    intro x hx
    have hlen : (d ++ [(x : Int)]).length = d.length + 1 := by rw [List.length_append, List.length_singleton]
    have hg : (d ++ [(x : Int)])[d.length]? = some (x : Int) := by rw [List.getElem?_append_right (Nat.le_refl _), Nat.sub_self]; rfl
    have hlt := h.lt
    have hw : w64 ((x : Int) + 1) = ((x + 1 : Nat) : Int) := Qk (by omega) (by omega)
    have hset : (d ++ [(x : Int)]).set d.length ((x + 1 : Nat) : Int) = d ++ [((x + 1 : Nat) : Int)] := by
      rw [List.set_append_right _ _ (Nat.le_refl _), Nat.sub_self]
      rfl
    unfold Q5
    simp only
    rw [qed h s _ (by omega), Option.bind_some]
    simp only
    rw [if_pos (by rw [qM]; omega), Int.toNat_natCast, Zo _ hlt, Option.bind_some]
    cases hs : Q8 (d ++ [(x : Int)]) s l n 0 set
    · rw [if_pos (by decide), if_pos (by rw [hlen]; omega), Int.toNat_natCast, hg, Option.bind_some, if_pos (by rw [hlen]; omega), if_pos (by rw [hlen]; omega), hw, hset]
      rfl
    · rfl
  intro m
  induction m with
  | zero =>
    intro x hx hv
    obtain ⟨v, h1, h2, h3⟩ := hv
    have e : v = x := by omega
    subst e
    exact ⟨v, Nat.le_refl _, by omega, h3, fun y _ _ => by omega, zl (by rw [hstep v (by omega), if_pos h3])⟩
  | succ m ih =>
    intro x hx hv
    by_cases hs : Q8 (d ++ [(x : Int)]) s l n 0 set = true
    · exact ⟨x, Nat.le_refl _, by omega, hs, fun y _ _ => by omega, zl (by rw [hstep x (by omega), if_pos hs])⟩
    · obtain ⟨v, h1, h2, h3⟩ := hv
      have hne : v ≠ x := fun e => hs (by rw [← e]; exact h3)
      obtain ⟨u, u1, u2, u3, u4, u5⟩ := ih (x + 1) (by omega) ⟨v, by omega, by omega, h3⟩
      refine ⟨u, by omega, by omega, u3, fun y hy hy2 => ?_, ?_⟩
      · by_cases e : y = x
        · subst e; exact Bool.eq_false_iff.2 hs
        · exact u4 y (by omega) hy2
      · rw [zU (by rw [hstep x (by omega), if_neg hs])]
        exact u5
structure qbJ (d : List Int) (s : qd) (l : List qa) (n : qb) (set : Nat) : Prop where
  ok : Q8 d s l n 0 set = true
  val : ∀ (j : Nat) (y : Int), d[j]? = some y → if set.testBit j = true then 0 ≤ y ∧ y < (lvN n : Int) else y = -1
theorem qdK {n : qb} {l : List qa} {set : Nat} (h : q3x n l set) {s : qd} {d : List Int} (hf : qbJ d s l n set) (hd : d.length < l.length) :
    (set.testBit d.length = false → qbJ (d ++ [-1]) s l n set) ∧ (set.testBit d.length = true → ∃ v : Nat, v < lvN n ∧ Q8 (d ++ [(v : Int)]) s l n 0 set = true) := by
  have hll := h.ll
  obtain ⟨a, ha, hm⟩ := (q8n d s l (by omega) n 0 set h.fit h.lt).1 hf.ok
  have hs := (q8n (d ++ [a d.length]) s l (by omega) n 0 set h.fit h.lt).2 ⟨a, qhZ ha, hm⟩
  constructor
  · intro hb
    rw [ha.out _ hb] at hs
    refine ⟨hs, fun j y hy => ?_⟩
    rcases qam hy with e | ⟨e1, e2⟩
    · exact hf.val j y e
    · rw [e1, hb, if_neg (by decide)]; exact e2
  · intro hb
    have := ha.inn _ hb
    refine ⟨(a d.length).toNat, by omega, ?_⟩
    rw [show (((a d.length).toNat : Nat) : Int) = a d.length from by omega]
    exact hs
theorem qbl {n : qb} {l : List qa} {set : Nat} (h : q3x n l set) (s : qd) : ∀ (m : Nat) (d : List Int), d.length + m = l.length → qbJ d s l n set →
    ∃ d', d'.length = l.length ∧ qbJ d' s l n set ∧ (∃ e, d' = d ++ e) ∧ qQ (zF n s l (set : Int) (l.length : Int)) (d, q0u set.testBit d, (d.length : Int)) = some (q0u set.testBit d') := by
  intro m
  induction m with
  | zero =>
    intro d hd hf
    refine ⟨d, by omega, hf, ⟨[], (List.append_nil _).symm⟩, zl ?_⟩
    unfold zF
    simp only
    rw [if_neg (by omega)]
  | succ m ih =>
    intro d hd hf
    have hll := h.ll
    have hlt := h.lt64
    have hML : 100000 ≤ Go.maxLen := by unfold Go.maxLen; omega
    have hsel := q7T d set.testBit
    obtain ⟨f1, f2⟩ := qdK h hf (by omega)
    have hw : w64 ((d.length : Int) + 1) = ((d.length + 1 : Nat) : Int) := Qk (by omega) (by omega)
    have hbit : (ZZ Go.BinOp.and Go.IntKind.i64 (Int.fdiv (set : Int) ((2 : Int) ^ min (Int.toNat (d.length : Int)) (Go.IntKind.bits Go.IntKind.i64))) (1 : Int) == (0 : Int)) = !set.testBit d.length := by
      rw [Int.toNat_natCast, qag set d.length (by omega), show (1 : Int) = ((1 : Nat) : Int) from rfl, q9V _ 1 (Nat.lt_of_le_of_lt (Nat.div_le_self _ _) hlt) (by decide), Nat.and_one_is_mod, Nat.testBit_eq_decide_div_mod_eq]
      have : set / 2 ^ d.length % 2 < 2 := Nat.mod_lt _ (by decide)
      by_cases e : set / 2 ^ d.length % 2 = 1
      · rw [e]; rfl
      · have e0 : set / 2 ^ d.length % 2 = 0 := by omega
        rw [e0]; rfl
    have hset : ∀ y z : Int, (d ++ [y]).set d.length z = d ++ [z] := fun y z => by
      rw [List.set_append_right _ _ (Nat.le_refl _), Nat.sub_self]
      rfl
    cases hb : set.testBit d.length
    · obtain ⟨d', g1, g2, ⟨e, g3⟩, g4⟩ := ih (d ++ [-1]) (by rw [List.length_append, List.length_singleton]; omega) (f1 hb)
      refine ⟨d', g1, g2, ⟨[-1] ++ e, by rw [g3, List.append_assoc]⟩, ?_⟩
      rw [q58, hb, if_neg (by decide), List.append_nil, List.length_append, List.length_singleton] at g4
      rw [← g4]
      refine zU ?_
      unfold zF
      simp only
      rw [if_pos (by omega), if_pos ⟨by omega, by omega⟩, if_pos (by omega), hbit, hb, if_pos (by decide), hw]
    · obtain ⟨v0, hv0, hs0⟩ := f2 hb
      have hlv := h.lv
      obtain ⟨v, v1, v2, v3, v4, v5⟩ := qhr h s (q0u set.testBit d) (l.length : Int) (d.length : Int) d (by omega) v0 0 (by omega) ⟨v0, by omega, by omega, hs0⟩
      have hF : qbJ (d ++ [(v : Int)]) s l n set := ⟨v3, fun j y hy => by
        rcases qam hy with e | ⟨e1, e2⟩
        · exact hf.val j y e
        · rw [e1, hb, if_pos rfl, e2]; omega⟩
      obtain ⟨d', g1, g2, ⟨e, g3⟩, g4⟩ := ih (d ++ [(v : Int)]) (by rw [List.length_append, List.length_singleton]; omega) hF
      refine ⟨d', g1, g2, ⟨[(v : Int)] ++ e, by rw [g3, List.append_assoc]⟩, ?_⟩
      rw [q58, hb, if_pos rfl, List.length_append, List.length_singleton] at g4
      rw [← g4]
      refine zU ?_
      have hg : (d ++ [(v : Int)])[d.length]? = some (v : Int) := by rw [List.getElem?_append_right (Nat.le_refl _), Nat.sub_self]; rfl
      unfold zF
      simp only
      rw [if_pos (by omega), if_pos ⟨by omega, by omega⟩, if_pos (by omega), hbit, hb, if_neg (by decide), if_pos ⟨by omega, by omega⟩, Int.toNat_natCast, if_pos (Nat.le_refl _), hset]
      rw [show (0 : Int) = ((0 : Nat) : Int) from rfl, v5, Option.bind_some, if_pos (by rw [List.length_append, List.length_singleton]; omega), hg, Option.bind_some, if_pos ⟨by omega, by omega⟩, hw]
theorem qgu {n : qb} {l : List qa} {set : Nat} (h : q3x n l set) (s : qd) (hS : Z8 n s l = some (QI (2 ^ l.length) (Q8 [] s l n 0), 0)) :
    (Q8 [] s l n 0 set = false ∧ zh n s l (set : Int) = some ([], false)) ∨
    (Q8 [] s l n 0 set = true ∧ ∃ d, d.length = l.length ∧ qbJ d s l n set ∧ zh n s l (set : Int) = some (q0u set.testBit d, true)) := by
  have hlt := h.lt
  have hll := h.ll
  unfold zh
  rw [hS, Option.bind_some]
  simp only
  rw [if_neg (by decide), if_neg (by omega), if_neg (by rw [qM]; omega), if_pos (by rw [qM]; omega), Int.toNat_natCast, Zo _ hlt, Option.bind_some]
  cases hs : Q8 [] s l n 0 set
  · exact .inl ⟨rfl, by rw [if_pos (by decide)]⟩
  · refine .inr ⟨rfl, ?_⟩
    obtain ⟨d', g1, g2, _, g4⟩ := qbl h s l.length [] (by simp) ⟨hs, fun j y hy => by simp at hy⟩
    refine ⟨d', g1, g2, ?_⟩
    rw [if_neg (by decide), if_pos ⟨by omega, by omega, by omega⟩]
    change Option.bind (qQ _ ([], q0u set.testBit [], ((([] : List Int).length : Nat) : Int))) _ = _
    rw [g4]
    rfl
end Go.Proofs.Ytgejdfnidjnjcaa.Vc
namespace Go.Proofs.Ytgejdfnidjnjcaa.Vc
open Go.RowKit
set_option linter.unusedVariables false
set_option linter.unusedSimpArgs false
theorem qaf {α : Type} : ∀ (a b : List α) (p : Nat → Bool), q0u p (a ++ b) = q0u p a ++ q0u (fun j => p (a.length + j)) b
  | [], b, p => by simp [q0u]
  | x :: a, b, p => by
    rw [List.cons_append, q0u, q0u, qaf a b, List.append_assoc, List.length_cons]
    congr 3
    funext j
    rw [Nat.add_right_comm]
theorem qj8 {set k : Nat} (hs : set < 9223372036854775808) (hk : k ≤ 62) : (ZZ Go.BinOp.and Go.IntKind.i64 (Int.fdiv (set : Int) ((2 : Int) ^ min (Int.toNat (k : Int)) (Go.IntKind.bits Go.IntKind.i64))) (1 : Int) == (0 : Int)) = !set.testBit k := by
  rw [Int.toNat_natCast, qag set k (by omega), show (1 : Int) = ((1 : Nat) : Int) from rfl, q9V _ 1 (Nat.lt_of_le_of_lt (Nat.div_le_self _ _) hs) (by decide), Nat.and_one_is_mod, Nat.testBit_eq_decide_div_mod_eq]
  have : set / 2 ^ k % 2 < 2 := Nat.mod_lt _ (by decide)
  by_cases e : set / 2 ^ k % 2 = 1
  · rw [e]; rfl
  · have e0 : set / 2 ^ k % 2 = 0 := by omega
    rw [e0]; rfl
theorem qen {l : List qa} {set : Nat} (hs : set < 9223372036854775808) (hl : l.length ≤ 16) (d : List Int) (hd : d.length = l.length) (hv : ∀ (j : Nat) (y : Int), d[j]? = some y → set.testBit j = false → y = -1) :
    Jb l (set : Int) (q0u set.testBit d) = some d := by
  have hML : 100000 ≤ Go.maxLen := by unfold Go.maxLen; omega
  have h := Je (step := Qf (set : Int) (q0u set.testBit d) (l.length : Int)) (e := d) (fun i => (d.take i, (((q0u set.testBit (d.take i)).length : Nat) : Int), (i : Int))) 0 l.length (Nat.zero_le _) (fun i _ hi => by
      have hlen : (d.take i).length = i := by rw [List.length_take]; omega
      obtain ⟨y, hy⟩ : ∃ y, d[i]? = some y := ⟨_, List.getElem?_eq_getElem (by omega)⟩
      have ht : d.take (i + 1) = d.take i ++ [y] := by rw [List.take_add_one, hy]; rfl
      have hw : w64 ((i : Int) + 1) = ((i + 1 : Nat) : Int) := za (n := 17) (by omega) (by omega)
      have hsl := q7T (d.take i) set.testBit
      rw [hlen] at hsl
      have hdr : d = d.take i ++ ([y] ++ d.drop (i + 1)) := by rw [← List.append_assoc, ← ht, List.take_append_drop]
      unfold Qf
      simp only
      rw [if_pos (by omega), if_pos (by omega), qj8 hs (by omega), ht, q58, hlen]
      cases hb : set.testBit i
      · rw [if_pos (by decide), if_pos ⟨by omega, by omega⟩, hw, if_neg (by decide), List.append_nil, hv i y hy hb]
      · have hsp : q0u set.testBit d = q0u set.testBit (d.take i) ++ ([y] ++ q0u (fun j => set.testBit (i + (1 + j))) (d.drop (i + 1))) := by
          conv => lhs; rw [hdr]
          rw [qaf, hlen, qaf]
          congr 1
          rw [q0u, if_pos (by simpa using hb)]
          rfl
        have hlt : (q0u set.testBit (d.take i)).length < (q0u set.testBit d).length := by
          rw [hsp, List.length_append, List.length_append, List.length_singleton]; omega
        have hg : (q0u set.testBit d)[(q0u set.testBit (d.take i)).length]? = some y := by
          rw [hsp, List.getElem?_append_right (Nat.le_refl _), Nat.sub_self]; rfl
        have hw2 : w64 (((q0u set.testBit (d.take i)).length : Int) + 1) = (((q0u set.testBit (d.take i) ++ [y]).length : Nat) : Int) := by
          rw [List.length_append, List.length_singleton]; exact Qk (by omega) (by omega)
        rw [if_neg (by decide), if_pos (by omega), if_pos ⟨by omega, by omega⟩, Int.toNat_natCast, hg, Option.bind_some, if_pos ⟨by omega, by omega⟩, hw, if_pos rfl, hw2]) (by
      unfold Qf
      simp only
      rw [if_neg (by omega), List.take_of_length_le (by omega)])
  unfold Jb
  change Option.bind (qQ _ (d.take 0, (((q0u set.testBit (d.take 0)).length : Nat) : Int), ((0 : Nat) : Int))) _ = _
  rw [h]
  rfl
theorem qeH (n : qb) (hn : n.Set.length ≤ 9223372036854775807) (s : qd) (l : List qa) (hl : l.length ≤ 62) (d : List Int) (hd : d.length = l.length) (nx : Nat) : Zn n s l d (nx : Int) = some (qcs n s l (fun j => d.getD j (-1) == (nx : Int))) := by
  have h1 := Ju (ε := ql) (step := zL d (nx : Int) n s (ql.mk (0 : Int) (0 : Int) Bool.false) l (l.length : Int)) l (fun (b : ql) i => (b, (i : Int))) (fun i b a => .inl (if (d.getD i (-1) == (nx : Int)) = true then qe0 n s b a else b)) (fun b => b) (fun b i a ha => by
      have hi := JH ha
      have hw : w64 ((i : Int) + 1) = ((i + 1 : Nat) : Int) := za hi (by omega)
      have hb : Za (i : Int) d (nx : Int) = some (d.getD i (-1) == (nx : Int)) := by
        unfold Za
        rw [if_pos ⟨by omega, by omega⟩, Int.toNat_natCast, List.getElem?_eq_getElem (by omega), Option.bind_some, List.getD_eq_getElem?_getD, List.getElem?_eq_getElem (by omega)]
        rfl
      unfold zL qe0
      simp only
      rw [if_pos (by omega), if_pos ⟨by omega, by omega⟩, Int.toNat_natCast, ha, Option.bind_some, hw, hb, Option.bind_some]
      cases (d.getD i (-1) == (nx : Int))
      · simp
      · cases hf : b.fine
        · simp
        · simp [qgF n hn s a]) (fun b => by
      unfold zL
      simp only
      rw [if_neg (by omega)]) ld0
  unfold Zn qcs
  change Option.bind (qQ _ (ld0, ((0 : Nat) : Int))) _ = _
  rw [h1, Option.bind_some]
  congr 1
  have : ∀ (l : List qa) (i : Nat) (b : ql), q17 (ε := ql) (fun i (b : ql) (a : qa) => .inl (if (d.getD i (-1) == (nx : Int)) = true then qe0 n s b a else b)) (fun b => b) l i b = (q0u (fun j => d.getD (i + j) (-1) == (nx : Int)) l).foldl (qe0 n s) b := by
    intro l
    induction l with
    | nil => intro i b; rfl
    | cons a l ih =>
      intro i b
      unfold q17 q0u
      rw [List.foldl_append]
      simp only [Nat.add_zero]
      rw [ih (i + 1)]
      rw [show (fun j => d.getD (i + 1 + j) (-1) == (nx : Int)) = fun j => d.getD (i + (j + 1)) (-1) == (nx : Int) from funext fun j => by rw [Nat.add_right_comm, Nat.add_assoc]]
      split <;> rfl
  rw [this l 0 ld0]
  simp only [Nat.zero_add]
end Go.Proofs.Ytgejdfnidjnjcaa.Vc
namespace Go.Proofs.Ytgejdfnidjnjcaa.Vc
open Go.RowKit
set_option linter.unusedVariables false
set_option linter.unusedSimpArgs false
mutual
def itN (d : Int) : qb → List qj
  | ⟨k, n, m, S, L⟩ => ⟨⟨k, n, m, S, L⟩, d⟩ :: itL (d + 1) L
def itL (d : Int) : List qb → List qj
  | [] => []
  | x :: L => itN d x ++ itL d L
end
theorem qjG (d : Int) (n : qb) : itN d n = ⟨n, d⟩ :: itL (d + 1) n.L := by cases n; rw [itN]
theorem qf1 : ∀ (n : qb) (d : Int), (itN d n).map (·.Need) = ndN n := by
  intro n
  induction n using qb.rec (motive_2 := fun L => ∀ d, (itL d L).map (·.Need) = ndL L) with
  | mk k n m S L ih => intro d; rw [itN, ndN, List.map_cons, ih]
  | nil => rw [itL, ndL]; rfl
  | cons x L h1 h2 => rw [itL, ndL, List.map_append, h1, h2]
theorem qez (n : qb) (d : Int) : (itN d n).length = (ndN n).length := by rw [← qf1 n d, List.length_map]
theorem qb8 (rF : (qb × Int × List qj) → Option (Unit ⊕ (List qj))) (deep : Int) (hd : 1 ≤ deep) (n : qb) (hL : n.L.length ≤ 10000)
    (step : List qj × Int → Option ((List qj × Int) ⊕ (Unit ⊕ (List qj))))
    (hst : ∀ w (i : Nat), step (w, (i : Int)) = if (i : Int) < ((n.L.length : Nat) : Int) then if (0 : Int) ≤ i ∧ (i : Int) < ((n.L.length : Nat) : Int) then Option.bind n.L[Int.toNat i]? fun a2 => Option.bind (rF (a2, w64 (deep + 1), w)) fun a3 => Sum.elim (fun _ => some (Sum.inr (Sum.inl ()))) (fun a5 => some (Sum.inl (a5, w64 ((i : Int) + 1)))) a3 else none else some (.inr (.inr w)))
    (hP : ∀ y ∈ n.L, ∀ w, deep + 1 + hgN y ≤ 101 → w.length + (ndN y).length ≤ 10000 → rF (y, deep + 1, w) = some (.inr (w ++ itN (deep + 1) y))) :
    ∀ (r : List qb) (i : Nat) (w : List qj), r.length + i = n.L.length → (∀ j, r[j]? = n.L[i + j]?) → deep + 1 + hgL r ≤ 101 → w.length + (ndL r).length ≤ 10000 →
    qQ step (w, (i : Int)) = some (.inr (w ++ itL (deep + 1) r)) := by
  intro r
  induction r with
  | nil =>
    intro i w hi _ _ _
    have hi : i = n.L.length := by simpa using hi
    subst hi
    refine zl ?_
    rw [hst, if_neg (by omega), itL, List.append_nil]
  | cons y r ih =>
    intro i w hi hr hh hw
    rw [hgL] at hh
    rw [ndL, List.length_append] at hw
    simp only [List.length_cons] at hi
    have hget : n.L[i]? = some y := by have := hr 0; simpa using this.symm
    have hlt := JH hget
    have hcall := hP y (List.mem_of_getElem? hget) w (by omega) (by omega)
    have hstep : step (w, (i : Int)) = some (.inl (w ++ itN (deep + 1) y, ((i + 1 : Nat) : Int))) := by
      rw [hst, if_pos (by omega), if_pos ⟨by omega, by omega⟩, Int.toNat_natCast, hget, Option.bind_some, Qk (by omega) (by omega), hcall, Option.bind_some, za hlt (by omega)]
      rfl
    rw [zU hstep, ih (i + 1) _ (by omega) (fun j => by rw [show i + 1 + j = i + (j + 1) by omega, ← hr (j + 1)]; rfl) (by omega) (by rw [List.length_append, qez]; omega), itL, List.append_assoc]
theorem qiP : ∀ (m : Nat) (y : qb), (ndN y).length ≤ m → ∀ (deep : Int) (w : List qj), 1 ≤ deep → deep + hgN y ≤ 101 → w.length + (ndN y).length ≤ 10000 → zV (y, deep, w) = some (.inr (w ++ itN deep y)) := by
  intro m
  induction m with
  | zero => intro y h; rw [QZ] at h; simp at h
  | succ m ih =>
    intro y h deep w hd hh hw
    rw [QZ, List.length_cons] at h hw
    rw [q9p] at hh
    have hsub : ∀ (L : List qb), (ndL L).length ≤ m → ∀ z ∈ L, ∀ (deep : Int) (w : List qj), 1 ≤ deep → deep + hgN z ≤ 101 → w.length + (ndN z).length ≤ 10000 → zV (z, deep, w) = some (.inr (w ++ itN deep z)) := by
      intro L
      induction L with
      | nil => intro _ z hz; simp at hz
      | cons x L ihl =>
        intro g z hz
        rw [ndL, List.length_append] at g
        rcases List.mem_cons.1 hz with rfl | hz
        · exact ih _ (by omega)
        · exact ihl (by omega) z hz
    have hP := hsub y.L (by omega)
    have hl := q8f y.L
    have hML : 100000 ≤ maxLen := by unfold maxLen; omega
    rw [q6o, Zr, if_neg (by omega), if_neg (by omega), if_pos ⟨by omega, by omega⟩]
    have h1 := qb8 zV deep hd y (by omega) (Ze zV y deep) (fun w i => by rfl) (fun z hz w g1 g2 => hP z hz (deep + 1) w (by omega) g1 g2) y.L 0 (w ++ [⟨y, deep⟩]) (by simp) (by simp) (by omega) (by rw [List.length_append, List.length_singleton]; omega)
    rw [show ((0 : Nat) : Int) = 0 from rfl] at h1
    rw [h1, Option.bind_some, Sum.elim_inr, qjG, List.append_assoc]
    rfl
theorem qjp (n : qb) (hh : hgN n ≤ 100) (hn : (ndN n).length ≤ 9999) : q0n n 1 = some (.inr (itN 1 n)) := by
  rw [q9p] at hh
  rw [QZ, List.length_cons] at hn
  have hl := q8f n.L
  unfold q0n
  rw [if_neg (by omega), if_pos (by unfold maxLen; omega)]
  have h1 := qb8 zV 1 (by omega) n (by omega) (ZQ n 1) (fun w i => by rfl) (fun z hz w g1 g2 => qiP _ z (Nat.le_refl _) (1 + 1) w (by omega) (by omega) g2) n.L 0 [⟨n, 1⟩] (by simp) (by simp) (by omega) (by simp only [List.length_singleton]; omega)
  rw [show ((0 : Nat) : Int) = 0 from rfl] at h1
  rw [h1, Option.bind_some, Sum.elim_inr, qjG]
  rfl
end Go.Proofs.Ytgejdfnidjnjcaa.Vc
namespace Go.Proofs.Ytgejdfnidjnjcaa.Vc
open Go.RowKit
set_option linter.unusedVariables false
set_option linter.unusedSimpArgs false
theorem qjr (items : List qj) (out : List qc) (hl : out.length ≤ 1000000) (t6 : Int) (S : List qc) (k : Nat) (c : qc) (hc : S[k]? = some c) (hS : S.length ≤ 1000000) : qQ (zr items out t6 S (k : Int)) 0 = some ((atF out c : Nat) : Int) := by
  have hk := JH hc
  have h1 := Ju (ε := Int) (step := zr items out t6 S (k : Int)) out (fun (_ : Unit) i => (i : Int)) (fun i _ x => if q1q x c = true then .inl () else .inr (i : Int)) (fun _ => (out.length : Int)) (fun _ i x hx => by
      have hi := JH hx
      unfold zr
      rw [if_pos (by omega), if_pos ⟨by omega, by omega⟩, Int.toNat_natCast, hx, Option.bind_some, if_pos ⟨by omega, by omega⟩, Int.toNat_natCast, hc, Option.bind_some, za hi (by omega)]
      show (if q1q x c = true then _ else _) = _
      cases q1q x c <;> simp) (fun _ => by
      unfold zr
      rw [if_neg (by omega)]) ()
  rw [show ((0 : Nat) : Int) = 0 from rfl] at h1
  rw [h1]
  congr 1
  have : ∀ (l : List qc) (i : Nat) (n : Nat), i + l.length = n → q17 (ε := Int) (fun i (_ : Unit) (x : qc) => if q1q x c = true then .inl () else .inr (i : Int)) (fun _ => (n : Int)) l i () = ((i + atF l c : Nat) : Int) := by
    intro l
    induction l with
    | nil => intro i n h; simp at h; unfold q17 atF; simp [h]
    | cons x l ih =>
      intro i n h
      simp only [List.length_cons] at h
      unfold q17
      by_cases hx : q1q x c = true
      · have e : atF (x :: l) c = atF l c + 1 := by unfold atF; rw [List.takeWhile_cons, if_pos hx]; rfl
        simp only [hx, if_true]
        rw [ih (i + 1) n (by omega), e]
        omega
      · have e : atF (x :: l) c = 0 := by unfold atF; rw [List.takeWhile_cons, if_neg hx]; rfl
        have hx' : q1q x c = false := by simpa using hx
        simp only [hx', Bool.false_eq_true, if_false]
        rw [e]; rfl
  have := this out 0 out.length (by simp)
  simpa using this
theorem qa0 (items : List qj) (out : List qc) (hl : out.length ≤ 1000) (t6 : Int) (S : List qc) (hS : S.length ≤ 1000000) (k : Nat) (c : qc) (hc : S[k]? = some c) :
    zA items t6 S (out, (k : Int)) = some (.inl (qbT out c, ((k + 1 : Nat) : Int))) := by
  have hk := JH hc
  have hML : 100000 ≤ maxLen := by unfold maxLen; omega
  have hat := qeK out c
  unfold zA
  simp only
  rw [if_pos (by omega), qjr items out (by omega) t6 S k c hc hS, Option.bind_some]
  have hwk : w64 ((k : Int) + 1) = ((k + 1 : Nat) : Int) := by rw [Qk (by omega) (by omega)]; omega
  have hwa : w64 (((atF out c : Nat) : Int) + 1) = ((atF out c + 1 : Nat) : Int) := by rw [Qk (by omega) (by omega)]; omega
  rw [hwk, hwa]
  simp only [Int.toNat_natCast, List.length_take, List.length_drop, List.length_append, List.length_cons, List.length_nil]
  rw [hc]
  simp only [Option.bind_some]
  have hkk : (0 : Int) ≤ (k : Int) ∧ (k : Int) < ((S.length : Nat) : Int) := ⟨by omega, by omega⟩
  simp only [hkk, and_self, if_true]
  unfold qbT
  by_cases hlt : atF out c < out.length
  · obtain ⟨x, hx⟩ : ∃ x, out[atF out c]? = some x := ⟨_, List.getElem?_eq_getElem hlt⟩
    rw [if_pos (by omega), if_pos ⟨by omega, by omega⟩, hx, Option.bind_some]
    simp only [Option.any_some]
    by_cases hc : ceq x c = true
    · have hc2 := hc
      unfold ceq at hc2
      simp only [Bool.and_eq_true] at hc2
      rw [if_pos hc2, if_pos hc]
    · have hc2 : ¬ ((x.School == c.School) = true ∧ (x.Code.toList == c.Code.toList) = true) := fun h => hc (by unfold ceq; rw [h.1, h.2]; rfl)
      rw [if_neg hc2, if_neg hc]
      repeat (first | rw [if_pos (by omega)] | rw [if_neg (by omega)])
      rw [qfv _ _ _ _ hlt]
  · have he : atF out c = out.length := by omega
    have hnone : out[out.length]? = none := List.getElem?_eq_none (Nat.le_refl _)
    rw [he, hnone]
    simp only [Option.any_none, Bool.false_eq_true, if_false]
    repeat (first | rw [if_pos (by omega)] | rw [if_neg (by omega)])
    rw [qcO]
theorem qmB (l : List qc) : ∀ (out : List qc), (l.foldl qbT out).length ≤ out.length + l.length := by
  induction l with
  | nil => intro out; simp
  | cons c l ih =>
    intro out
    rw [List.foldl_cons, List.length_cons]
    have := ih (qbT out c)
    have := (qbk out c).2.1
    omega
theorem qbY (items : List qj) (t6 : Int) (S : List qc) (hS : S.length ≤ 100) : ∀ (r : List qc) (k : Nat) (out : List qc), r.length + k = S.length → (∀ j, r[j]? = S[k + j]?) → out.length + r.length ≤ 1000 → qQ (zA items t6 S) (out, (k : Int)) = some (r.foldl qbT out) := by
  intro r
  induction r with
  | nil =>
    intro k out hk _ _
    have hk : k = S.length := by simpa using hk
    subst hk
    refine zl ?_
    unfold zA
    simp only
    rw [if_neg (by omega)]
    rfl
  | cons c r ih =>
    intro k out hk hr hl
    simp only [List.length_cons] at hk hl
    have hget : S[k]? = some c := by have := hr 0; simpa using this.symm
    rw [zU (qa0 items out (by omega) t6 S (by omega) k c hget), List.foldl_cons]
    have := (qbk out c).2.1
    exact ih (k + 1) _ (by omega) (fun j => by rw [show k + 1 + j = k + (j + 1) by omega, ← hr (j + 1)]; rfl) (by omega)
theorem qbU (items : List qj) (hn : items.length ≤ 100) (hS : ∀ x ∈ items, x.Need.Set.length ≤ 3) : ∀ (r : List qj) (i : Nat) (out : List qc), r.length + i = items.length → (∀ j, r[j]? = items[i + j]?) → out.length + 3 * r.length ≤ 900 → ∃ cs, qQ (zz items) (out, (i : Int)) = some cs ∧ cs.length ≤ 900 := by
  intro r
  induction r with
  | nil =>
    intro i out hi _ hl
    have hi : i = items.length := by simpa using hi
    subst hi
    refine ⟨out, zl ?_, by simp at hl; omega⟩
    unfold zz
    simp only
    rw [if_neg (by omega)]
  | cons x r ih =>
    intro i out hi hr hl
    simp only [List.length_cons] at hi hl
    have hget : items[i]? = some x := by have := hr 0; simpa using this.symm
    have hlt := JH hget
    have hx := hS x (List.mem_of_getElem? hget)
    have hs := qbY items (i : Int) x.Need.Set (by omega) x.Need.Set 0 out (by simp) (by simp) (by omega)
    rw [show ((0 : Nat) : Int) = 0 from rfl] at hs
    have hp := qmB x.Need.Set out
    obtain ⟨cs, h1, h2⟩ := ih (i + 1) (x.Need.Set.foldl qbT out) (by omega) (fun j => by rw [show i + 1 + j = i + (j + 1) by omega, ← hr (j + 1)]; rfl) (by omega)
    refine ⟨cs, ?_, h2⟩
    rw [zU (y := (x.Need.Set.foldl qbT out, ((i + 1 : Nat) : Int))) (by
      unfold zz
      simp only
      rw [if_pos (by omega), if_pos ⟨by omega, by omega⟩, Int.toNat_natCast, hget, Option.bind_some, hs, Option.bind_some, za hlt (by omega)])]
    exact h1
theorem qdh {n : qb} (h : q11 3 6 n) : ∃ cs, ZP n = some cs ∧ cs.length ≤ 900 := by
  have h1 := h.hg
  have h2 := h.l2
  have h3 := h.nd
  have hlen := qez n 1
  have hS : ∀ x ∈ itN 1 n, x.Need.Set.length ≤ 3 := fun x hx => by
    have hm : x.Need ∈ ndN n := by rw [← qf1 n 1]; exact List.mem_map.2 ⟨x, hx, rfl⟩
    rcases h.ok _ hm with h | h
    · exact h.s3
    · rw [h.st]; simp
  obtain ⟨cs, g1, g2⟩ := qbU (itN 1 n) (by omega) hS (itN 1 n) 0 [] (by simp) (by simp) (by simp; omega)
  refine ⟨cs, ?_, g2⟩
  unfold ZP
  rw [qjp n (by omega) (by omega), Option.bind_some, Sum.elim_inr]
  rw [show ((0 : Nat) : Int) = 0 from rfl] at g1
  rw [g1, Option.bind_some]
theorem qoZ (x m : Int) (h0 : 0 < m) (h1 : m ≤ 1000000) : ∃ v, q0U x m = some v ∧ 0 ≤ v ∧ v < m := by
  have e1 := Int.tmod_lt_of_pos x h0
  have e2 : -m < Int.tmod x m := by
    have := Int.tmod_lt_of_pos (-x) h0
    rw [Int.neg_tmod] at this; omega
  have e3 : w64 (Int.tmod x m + m) = Int.tmod x m + m := Qk (by omega) (by omega)
  refine ⟨Int.tmod (Int.tmod x m + m) m, ?_, Int.tmod_nonneg _ (by omega), Int.tmod_lt_of_pos _ h0⟩
  unfold q0U
  rw [if_neg (by omega), if_neg (by omega), e3]
theorem qdC {d : qh} (h : J9 d) {most : Int} (h0 : 0 < most) (h1 : most ≤ 1000000) : ∃ v d', zg most d = some (v, d') ∧ 0 ≤ v ∧ v < most ∧ J9 d' := by
  obtain ⟨a, b, c⟩ := h
  unfold zg
  by_cases he : (d.L.length : Int) ≤ d.At
  · exact ⟨0, d, if_pos he, Int.le_refl _, h0, ⟨a, b, c⟩⟩
  · obtain ⟨x, hx⟩ : ∃ x, d.L[Int.toNat d.At]? = some x := ⟨_, List.getElem?_eq_getElem (by omega)⟩
    obtain ⟨v, e1, e2, e3⟩ := qoZ x most h0 h1
    have e6 : w64 (d.At + 1) = d.At + 1 := Qk (by omega) (by omega)
    have e7 : w64 (d.At + 1 - 1) = d.At := by rw [Qk (by omega) (by omega)]; omega
    refine ⟨v, ⟨d.L, d.At + 1⟩, ?_, e2, e3, ⟨by show 0 ≤ d.At + 1; omega, by show d.At + 1 ≤ d.L.length; omega, c⟩⟩
    rw [if_neg he, e6, e7, if_pos ⟨a, by omega⟩, hx, Option.bind_some, e1, Option.bind_some]
def qmI (l : List qa) : Prop := ∀ a ∈ l, 0 < a.Sources.length
theorem qh8 (cs : List qc) (hc : 1 ≤ cs.length) (hc2 : cs.length ≤ 1000) (many : Int) (hm : many ≤ 7) (l : List qa) (k : Nat) (hl : l.length = k) (hs : qmI l) (hk : (k : Int) < many) {d : qh} (hd : J9 d) :
    ∃ a d', 0 < a.Sources.length ∧ (a.Credits = 5 ∨ a.Credits = 6 ∨ a.Credits = 10 ∨ a.Credits = 3) ∧ J9 d' ∧ zI cs many (l, d, (k : Int)) = some (.inl (l ++ [a], d', ((k + 1 : Nat) : Int))) := by
  have hML : 100000 ≤ maxLen := by unfold maxLen; omega
  obtain ⟨v1, d1, e1, a1, b1, h1⟩ := qdC hd (most := ((cs.length : Nat) : Int)) (by omega) (by omega)
  obtain ⟨c, hc1, _⟩ := qlJ cs v1 a1 b1
  obtain ⟨v2, d2, e2, a2, b2, h2⟩ := qdC h1 (most := 4) (by omega) (by omega)
  obtain ⟨cr, hcr, mcr⟩ := qlJ [(5 : Int), 6, 10, 3] v2 a2 (by simpa using b2)
  obtain ⟨v3, d3, e3, a3, b3, h3⟩ := qdC h2 (most := 7) (by omega) (by omega)
  obtain ⟨gr, hgr, _⟩ := qlJ [(50 : Int), 60, 90, 40, 100, 79, 80] v3 a3 (by simpa using b3)
  obtain ⟨v4, d4, e4, a4, b4, h4⟩ := qdC h3 (most := 600) (by omega) (by omega)
  obtain ⟨v5, d5, e5, a5, b5, h5⟩ := qdC h4 (most := 8) (by omega) (by omega)
  have hw : w64 ((k : Int) + 1) = ((k + 1 : Nat) : Int) := by rw [Qk (by omega) (by omega)]; omega
  have hcr2 : cr = 5 ∨ cr = 6 ∨ cr = 10 ∨ cr = 3 := by simpa using mcr
  by_cases hz : v5 = 0 ∧ 0 < k
  · have hwk : w64 ((k : Int) - 1) = ((k - 1 : Nat) : Int) := by rw [Qk (by omega) (by omega)]; omega
    obtain ⟨p, hp⟩ : ∃ p, l[k - 1]? = some p := ⟨_, List.getElem?_eq_getElem (by omega)⟩
    have hps := hs p (List.mem_of_getElem? hp)
    obtain ⟨x, hx⟩ : ∃ x, p.Sources[0]? = some x := ⟨_, List.getElem?_eq_getElem hps⟩
    refine ⟨⟨c, cr, gr, v4, [x], 0, []⟩, d5, by simp, hcr2, h5, ?_⟩
    unfold zI
    simp only
    rw [if_pos hk, e1, Option.bind_some]
    simp only
    rw [if_pos ⟨a1, b1⟩, hc1, Option.bind_some, e2, Option.bind_some]
    simp only
    rw [if_pos ⟨a2, b2⟩, hcr, Option.bind_some, e3, Option.bind_some]
    simp only
    rw [if_pos ⟨a3, b3⟩, hgr, Option.bind_some, e4, Option.bind_some]
    simp only
    rw [e5, Option.bind_some]
    simp only
    rw [if_pos (by simp [hz.1]), if_pos (by omega), hwk, if_pos ⟨by omega, by omega⟩, Int.toNat_natCast, hp, Option.bind_some, if_pos (by omega), hx, Option.bind_some, if_pos ⟨by omega, by omega⟩, hw]
  · refine ⟨⟨c, cr, gr, v4, [w64 (w64 (w64 ((1000000 : Int) * c.School) + (k : Int)) + (1 : Int))], 0, []⟩, d5, by simp, hcr2, h5, ?_⟩
    unfold zI
    simp only
    rw [if_pos hk, e1, Option.bind_some]
    simp only
    rw [if_pos ⟨a1, b1⟩, hc1, Option.bind_some, e2, Option.bind_some]
    simp only
    rw [if_pos ⟨a2, b2⟩, hcr, Option.bind_some, e3, Option.bind_some]
    simp only
    rw [if_pos ⟨a3, b3⟩, hgr, Option.bind_some, e4, Option.bind_some]
    simp only
    rw [e5, Option.bind_some]
    simp only
    by_cases h0 : v5 = 0
    · rw [if_pos (by simp [h0]), if_neg (by omega), if_pos ⟨by omega, by omega⟩, hw]
    · rw [if_neg (by simpa using h0), if_pos ⟨by omega, by omega⟩, hw]
theorem qn4 {n : qb} (h : q11 3 6 n) (q : List Int) (hq : q.length ≤ 9223372036854775807) : ∃ l, q0s n q = some l ∧ l.length ≤ 7 ∧ ∀ a ∈ l, a.Credits = 5 ∨ a.Credits = 6 ∨ a.Credits = 10 ∨ a.Credits = 3 := by
  obtain ⟨cs, g1, g2⟩ := qdh h
  obtain ⟨v, d, e1, a1, b1, h1⟩ := qdC (d := ⟨q, 0⟩) ⟨by show (0 : Int) ≤ 0; omega, by show (0 : Int) ≤ (q.length : Int); omega, hq⟩ (most := 8) (by omega) (by omega)
  have hML : 100000 ≤ maxLen := by unfold maxLen; omega
  obtain ⟨m, rfl⟩ : ∃ m : Nat, v = (m : Int) := ⟨v.toNat, by omega⟩
  have key : ∀ (j k : Nat) (l : List qa) (d : qh), j + k = m → l.length = k → qmI l → (∀ a ∈ l, a.Credits = 5 ∨ a.Credits = 6 ∨ a.Credits = 10 ∨ a.Credits = 3) → J9 d → ∃ l', qQ (zI (cs ++ [qc.mk (1 : Int) (ByteArray.mk (List.toArray [90]))]) (m : Int)) (l, d, (k : Int)) = some l' ∧ l'.length = m ∧ ∀ a ∈ l', a.Credits = 5 ∨ a.Credits = 6 ∨ a.Credits = 10 ∨ a.Credits = 3 := by
    intro j
    induction j with
    | zero =>
      intro k l d hk hl hs hcr hd
      refine ⟨l, zl ?_, by omega, hcr⟩
      unfold zI
      simp only
      rw [if_neg (by omega)]
    | succ j ih =>
      intro k l d hk hl hs hcr hd
      obtain ⟨a, d', q1, q2, q3, q4⟩ := qh8 (cs ++ [qc.mk (1 : Int) (ByteArray.mk (List.toArray [90]))]) (by simp) (by simp; omega) (m : Int) (by omega) l k hl hs (by omega) hd
      rw [zU q4]
      refine ih (k + 1) (l ++ [a]) d' (by omega) (by simp [hl]) (fun x hx => ?_) (fun x hx => ?_) q3
      · rcases List.mem_append.1 hx with h | h
        · exact hs x h
        · rw [List.mem_singleton.1 h]; exact q1
      · rcases List.mem_append.1 hx with h | h
        · exact hcr x h
        · rw [List.mem_singleton.1 h]; exact q2
  obtain ⟨l, q1, q2, q3⟩ := key m 0 [] d (by omega) rfl (fun a ha => by simp at ha) (by simp) h1
  refine ⟨l, ?_, by omega, q3⟩
  unfold q0s
  rw [g1, Option.bind_some, if_pos ⟨by omega, by omega⟩, e1, Option.bind_some]
  rw [show ((0 : Nat) : Int) = 0 from rfl] at q1
  simp only
  rw [q1, Option.bind_some]
end Go.Proofs.Ytgejdfnidjnjcaa.Vc
namespace Go.Proofs.Ytgejdfnidjnjcaa.Vc
open Go.RowKit
set_option linter.unusedVariables false
set_option linter.unusedSimpArgs false
theorem qnv (l : List qa) : q0Z l = some (l.take 5) := by
  unfold q0Z
  rw [if_pos ⟨by omega, by omega⟩]
  congr 1
  by_cases h : l.length ≤ 5
  · rw [show Int.toNat (min (l.length : Int) 5) - 0 = l.length by omega, List.take_length, List.take_of_length_le h]
  · rw [show Int.toNat (min (l.length : Int) 5) - 0 = 5 by omega]
structure qov (c : ZV) : Prop where
  h1 : c.Need.length ≤ 9223372036854775807
  h2 : c.L.length ≤ 9223372036854775807
theorem qek {c : ZV} (h : qov c) : ∃ n l, Z7 c = some (n, l) ∧ q11 3 6 n ∧ l.length ≤ 7 ∧ ∀ a ∈ l, a.Credits = 5 ∨ a.Credits = 6 ∨ a.Credits = 10 ∨ a.Credits = 3 := by
  obtain ⟨n, e1, hn⟩ := ql3 c.Need h.h1
  obtain ⟨l, e2, hl, hc⟩ := qn4 hn c.L h.h2
  refine ⟨n, l, ?_, hn, hl, hc⟩
  unfold Z7
  rw [e1, Option.bind_some, e2, Option.bind_some]
end Go.Proofs.Ytgejdfnidjnjcaa.Vc
namespace Go.Proofs.Ytgejdfnidjnjcaa.Vc
open Go.RowKit
set_option linter.unusedVariables false
set_option linter.unusedSimpArgs false
theorem qp6 : ∀ L : List qb, L.length ≤ (ndL L).length
  | [] => Nat.zero_le _
  | x :: L => by
    have := qp6 L
    rw [ndL, List.length_append, QZ, List.length_cons, List.length_cons]
    omega
theorem qgO (s : qd) (l : List qa) (hl : l.length ≤ 62) (d : List Int) (hd : d.length = l.length) : ∀ (n : qb) (nx : Nat), (∀ y ∈ ndN n, y.Set.length ≤ 1000000) → nx + (ndN n).length ≤ 100000 →
    QF (n, s, l, d, (nx : Int)) = some ((q23 s l (fun j => d.getD j (-1)) n nx).1, (q23 s l (fun j => d.getD j (-1)) n nx).2, s, l, d, ((nx + lvN n : Nat) : Int)) := by
  intro n
  induction n using qb.rec (motive_2 := fun L => ∀ (b5 : qb) (pre : List qb) (nx many : Nat) (em wr : Bool), (∀ y ∈ ndL L, y.Set.length ≤ 1000000) → nx + (ndL L).length ≤ 100000 → many + L.length ≤ 200000 → pre.length + L.length ≤ 200000 →
      qQ (zK QF b5 (pre ++ L) ((pre ++ L).length : Int)) (s, l, d, (nx : Int), em, (many : Int), wr, (pre.length : Int)) =
        some (s, l, d, ((nx + lvL L : Nat) : Int), em && (q0t s l (fun j => d.getD j (-1)) (b5.Kind == 3) L nx).1, ((many + (q0t s l (fun j => d.getD j (-1)) (b5.Kind == 3) L nx).2.1 : Nat) : Int), wr || (q0t s l (fun j => d.getD j (-1)) (b5.Kind == 3) L nx).2.2)) with
  | mk k n m S L ih =>
    intro nx hs hn
    rw [ndN, List.length_cons] at hn
    rw [q2t]
    unfold Qr
    simp only
    rw [q7I, q4T, lvN]
    have hlf : q5h ⟨k, n, m, S, L⟩ = decide (k = 1 ∨ k = 2) := by
      unfold q5h
      simp only
      by_cases h1 : k = 1
      · subst h1; rfl
      · by_cases h2 : k = 2
        · subst h2; rfl
        · rw [beq_eq_false_iff_ne.2 h1, beq_eq_false_iff_ne.2 h2, decide_eq_false (by omega)]; rfl
    rw [hlf]
    by_cases hk : k = 1 ∨ k = 2
    · have hsz := hs _ (q9X _)
      rw [if_pos (decide_eq_true hk), if_pos hk, if_pos hk, qeH _ (by omega) s l hl d hd nx, Option.bind_some]
      simp only
      generalize qcs ⟨k, n, m, S, L⟩ s l (fun j => d.getD j (-1) == (nx : Int)) = x
      have hw : w64 ((nx : Int) + 1) = ((nx + 1 : Nat) : Int) := Qk (by omega) (by omega)
      rw [hw]
      unfold QK
      by_cases h1 : k = 1
      · subst h1
        have hx : qx x ⟨1, n, m, S, L⟩ = q9d ⟨1, n, m, S, L⟩ x := by
          unfold qx q9d
          rw [if_pos rfl]
          cases x.fine <;> simp
        rw [if_pos (by decide), Option.bind_some, Sum.elim_inl, hx]
      · have hx : qI x ⟨k, n, m, S, L⟩ = q9d ⟨k, n, m, S, L⟩ x := by
          unfold qI q9d
          simp only
          rw [if_neg h1]
          cases x.fine
          · simp
          · by_cases h : 0 < x.many <;> simp [h]
        rw [if_neg (by rw [beq_eq_false_iff_ne.2 h1]; decide), Option.bind_some, Sum.elim_inr, hx]
    · have hln := qp6 L
      have h := ih ⟨k, n, m, S, L⟩ [] nx 0 true false (fun y hy => hs y (by rw [ndN]; exact List.mem_cons_of_mem _ hy)) (by omega) (by omega) (by simp; omega)
      rw [if_neg (by rw [decide_eq_false hk]; decide), if_neg hk, if_neg hk]
      simp only [List.nil_append] at h
      change Option.bind (qQ _ (s, l, d, (nx : Int), true, ((0 : Nat) : Int), false, ((([] : List qb).length : Nat) : Int))) _ = _
      rw [h, Option.bind_some]
      simp only [Bool.true_and, Bool.false_or, Nat.zero_add]
      cases (q0t s l (fun j => d.getD j (-1)) (k == 3) L nx).2.2 <;> simp
  | nil =>
    rename_i b5 pre nx many em wr hs hn hm hp
    rw [lvL, q0t]
    refine zl ?_
    unfold zK
    simp only
    rw [List.append_nil, if_neg (by omega)]
    simp
  | cons x L h1 h2 =>
    rename_i b5 pre nx many em wr hs hn hm hp
    rw [ndL, List.length_append] at hn
    rw [List.length_cons] at hm hp
    have hx := h1 nx (fun y hy => hs y (by rw [ndL]; exact List.mem_append_left _ hy)) (by omega)
    have hlv := qdJ x
    have hw : w64 ((pre.length : Int) + 1) = ((pre.length + 1 : Nat) : Int) := Qk (by omega) (by omega)
    have hw2 : w64 ((many : Int) + 1) = ((many + 1 : Nat) : Int) := Qk (by omega) (by omega)
    have hL := h2 b5 (pre ++ [x]) (nx + lvN x) (many + if (q23 s l (fun j => d.getD j (-1)) x nx).2 = true then 1 else 0) (em && (q23 s l (fun j => d.getD j (-1)) x nx).1) (wr || (!(q23 s l (fun j => d.getD j (-1)) x nx).2 && (!(q23 s l (fun j => d.getD j (-1)) x nx).1 || (b5.Kind == 3)))) (fun y hy => hs y (by rw [ndL]; exact List.mem_append_right _ hy)) (by omega) (by split <;> omega) (by rw [List.length_append, List.length_singleton]; omega)
    rw [List.append_assoc, List.singleton_append, show (pre ++ [x]).length = pre.length + 1 from by rw [List.length_append, List.length_singleton]] at hL
    have hg : (pre ++ x :: L)[pre.length]? = some x := by rw [List.getElem?_append_right (Nat.le_refl _), Nat.sub_self]; rfl
    rw [q0t, lvL]
    simp only
    rw [zU (y := (s, l, d, ((nx + lvN x : Nat) : Int), em && (q23 s l (fun j => d.getD j (-1)) x nx).1, ((many + (if (q23 s l (fun j => d.getD j (-1)) x nx).2 = true then 1 else 0) : Nat) : Int), wr || (!(q23 s l (fun j => d.getD j (-1)) x nx).2 && (!(q23 s l (fun j => d.getD j (-1)) x nx).1 || (b5.Kind == 3))), ((pre.length + 1 : Nat) : Int))) ?_, hL]
    · simp only [Nat.add_assoc, Bool.and_assoc, Bool.or_assoc]
    · unfold zK
      simp only
      rw [if_pos (by rw [List.length_append, List.length_cons]; omega), if_pos (by rw [List.length_append, List.length_cons]; omega), Int.toNat_natCast, hg, Option.bind_some, hx, Option.bind_some]
      simp only
      rw [hw, hw2]
      generalize (q23 s l (fun j => d.getD j (-1)) x nx).1 = q1
      generalize (q23 s l (fun j => d.getD j (-1)) x nx).2 = q2
      cases em <;> cases wr <;> cases q1 <;> cases q2 <;> simp
end Go.Proofs.Ytgejdfnidjnjcaa.Vc
namespace Go.Proofs.Ytgejdfnidjnjcaa.Vc
open Go.RowKit
set_option linter.unusedVariables false
set_option maxRecDepth 100000
theorem q6Z {α : Type} (ds : List α) (o s : Nat) : ds.drop o = (ds.drop o).take s ++ ds.drop (o + s) := by
  rw [← List.drop_drop]; exact (List.take_append_drop s _).symm
theorem qhn {X : Type} {E : X → List D} {W : X → Prop} {sz : Nat} (hz : 0 < sz) : ∀ (m : Nat) (es : List D), es.length = m * sz → (∀ i, i < m → ∃ x, (es.drop (i * sz)).take sz = E x ∧ W x) → ∃ l : List X, es = l.flatMap E ∧ l.length = m ∧ ∀ x ∈ l, W x
  | 0, es, hl, _ => ⟨[], by rw [Nat.zero_mul] at hl; exact List.eq_nil_of_length_eq_zero hl, rfl, by simp⟩
  | m + 1, es, hl, h => by
    obtain ⟨x, hx, wx⟩ := h 0 (by omega)
    obtain ⟨l, g1, g2, g3⟩ := qhn hz m (es.drop sz) (by rw [List.length_drop, hl, Nat.add_mul]; omega) fun i hi => by
      obtain ⟨y, hy, wy⟩ := h (i + 1) (by omega)
      refine ⟨y, ?_, wy⟩
      rw [List.drop_drop, show sz + i * sz = (i + 1) * sz by rw [Nat.add_mul, Nat.one_mul, Nat.add_comm]]; exact hy
    refine ⟨x :: l, ?_, by simp [g2], fun y hy => ?_⟩
    · rw [Nat.zero_mul, List.drop_zero] at hx
      rw [List.flatMap_cons, ← g1, ← hx, List.take_append_drop]
    · rcases List.mem_cons.1 hy with rfl | hy
      · exact wx
      · exact g3 y hy
abbrev qqL : List TypeId := [26, 22, 3, 24, 23]
theorem qnd : qtz Try.prog qqL = true := by kernel_rfl
theorem ty3 : ∀ (n : Nat) (ds : List D), q0p Try.prog n 3 ds → ∃ v : Int, ds = [D.int .i64 v] ∧ (Lit.int .i64 v).wf = true := by
  intro n ds h
  cases n with
  | zero => exact h.elim
  | succ n =>
    unfold q0p at h
    rw [Try.underlying3] at h
    obtain ⟨z, h1, h2⟩ := h
    exact ⟨z, h1, h2⟩
theorem cz3 : Try.prog.cellsOf 3 = 1 := by kernel_rfl
theorem qu8 : ∀ (n : Nat) (ds : List D), q0p Try.prog n 22 ds → ∃ v : List Int, ds = [D.sl 1 v.length (v.flatMap eI)] ∧ (v.length ≤ maxLen ∧ ∀ y ∈ v, (Lit.int .i64 y).wf = true) := by
  intro n ds h
  cases n with
  | zero => exact h.elim
  | succ n =>
    unfold q0p at h
    rw [Try.underlying22] at h
    obtain ⟨m, es, h1, h2, h3, h4⟩ := h
    rw [cz3] at h1 h3 h4
    obtain ⟨l, g1, g2, g3⟩ := qhn (E := eI) (W := fun y => (Lit.int .i64 y).wf = true) (sz := 1) (by decide) m es h3 fun i hi => by
      obtain ⟨v, q1, q2⟩ := ty3 n _ (h4 i hi)
      exact ⟨v, q1.trans (rfl), q2⟩
    refine ⟨l, ?_, by omega, g3⟩
    rw [h1, g1, g2]
theorem qnS : Try.prog.cellsOf 23 = 3 := by kernel_rfl
theorem qsr : ∀ (n : Nat) (ds : List D), q0p Try.prog n 23 ds → ∃ v : qkh Int, ds = [D.int .i64 v.a0, D.int .i64 v.a1, D.int .i64 v.a2] ∧ ((Lit.int .i64 v.a0).wf = true ∧ (Lit.int .i64 v.a1).wf = true ∧ (Lit.int .i64 v.a2).wf = true) := by
  intro n ds h
  cases n with
  | zero => exact h.elim
  | succ n =>
    unfold q0p at h
    rw [Try.underlying23] at h
    obtain ⟨hl, hf⟩ := h
    rw [qnS] at hl
    have h0 : q0p Try.prog n 3 ((ds.drop 0).take (Try.prog.cellsOf 3)) := by
      have := hf 0 (by decide)
      rwa [cz3] at this ⊢
    rw [cz3] at h0
    obtain ⟨v0, e0, w0⟩ := ty3 _ _ h0
    have c0 := q6Z ds 0 1
    rw [e0] at c0
    have h1 : q0p Try.prog n 3 ((ds.drop 1).take (Try.prog.cellsOf 3)) := by
      have := hf 1 (by decide)
      rwa [cz3] at this ⊢
    rw [cz3] at h1
    obtain ⟨v1, e1, w1⟩ := ty3 _ _ h1
    have c1 := q6Z ds 1 1
    rw [e1] at c1
    have h2 : q0p Try.prog n 3 ((ds.drop 2).take (Try.prog.cellsOf 3)) := by
      have := hf 2 (by decide)
      rwa [cz3] at this ⊢
    rw [cz3] at h2
    obtain ⟨v2, e2, w2⟩ := ty3 _ _ h2
    have c2 := q6Z ds 2 1
    rw [e2] at c2
    have cl : ds.drop 3 = [] := List.drop_eq_nil_of_le (by omega)
    refine ⟨⟨v0, v1, v2⟩, ?_, ⟨w0, w1, w2⟩⟩
    have c : ds.drop 0 = _ := c0
    simp only [Nat.reduceAdd] at c0 c1 c2 c
    rw [c1, c2, cl] at c
    exact c
theorem qtf : Try.prog.cellsOf 24 = 6 := by kernel_rfl
theorem quj : ∀ (n : Nat) (ds : List D), q0p Try.prog n 24 ds → ∃ v : qpR (qkh Int), ds = [D.int .i64 v.a0.a0, D.int .i64 v.a0.a1, D.int .i64 v.a0.a2, D.int .i64 v.a1.a0, D.int .i64 v.a1.a1, D.int .i64 v.a1.a2] ∧ (((Lit.int .i64 v.a0.a0).wf = true ∧ (Lit.int .i64 v.a0.a1).wf = true ∧ (Lit.int .i64 v.a0.a2).wf = true) ∧ ((Lit.int .i64 v.a1.a0).wf = true ∧ (Lit.int .i64 v.a1.a1).wf = true ∧ (Lit.int .i64 v.a1.a2).wf = true)) := by
  intro n ds h
  cases n with
  | zero => exact h.elim
  | succ n =>
    unfold q0p at h
    rw [Try.underlying24] at h
    obtain ⟨hl, hf⟩ := h
    rw [qtf] at hl
    have h0 : q0p Try.prog n 23 ((ds.drop 0).take (Try.prog.cellsOf 23)) := by
      have := hf 0 (by decide)
      rwa [qnS] at this ⊢
    rw [qnS] at h0
    obtain ⟨v0, e0, w0⟩ := qsr _ _ h0
    have c0 := q6Z ds 0 3
    rw [e0] at c0
    have h1 : q0p Try.prog n 23 ((ds.drop 3).take (Try.prog.cellsOf 23)) := by
      have := hf 1 (by decide)
      rwa [qnS] at this ⊢
    rw [qnS] at h1
    obtain ⟨v1, e1, w1⟩ := qsr _ _ h1
    have c1 := q6Z ds 3 3
    rw [e1] at c1
    have cl : ds.drop 6 = [] := List.drop_eq_nil_of_le (by omega)
    refine ⟨⟨v0, v1⟩, ?_, ⟨w0, w1⟩⟩
    have c : ds.drop 0 = _ := c0
    simp only [Nat.reduceAdd] at c0 c1 c
    rw [c1, cl] at c
    exact c
theorem qsM : Try.prog.cellsOf 22 = 1 := by kernel_rfl
theorem qui : Try.prog.cellsOf 26 = 8 := by kernel_rfl
def q6Y (x : ZV) : Prop := (x.Need.length ≤ maxLen ∧ ∀ y ∈ x.Need, (Lit.int .i64 y).wf = true) ∧ (x.L.length ≤ maxLen ∧ ∀ y ∈ x.L, (Lit.int .i64 y).wf = true) ∧ (((Lit.int .i64 x.Odd.a0.a0).wf = true ∧ (Lit.int .i64 x.Odd.a0.a1).wf = true ∧ (Lit.int .i64 x.Odd.a0.a2).wf = true) ∧ ((Lit.int .i64 x.Odd.a1.a0).wf = true ∧ (Lit.int .i64 x.Odd.a1.a1).wf = true ∧ (Lit.int .i64 x.Odd.a1.a2).wf = true))
theorem ty26 : ∀ (n : Nat) (ds : List D), q0p Try.prog n 26 ds → ∃ v : ZV, ds = [D.sl 1 v.Need.length (v.Need.flatMap eI), D.sl 1 v.L.length (v.L.flatMap eI), D.int .i64 v.Odd.a0.a0, D.int .i64 v.Odd.a0.a1, D.int .i64 v.Odd.a0.a2, D.int .i64 v.Odd.a1.a0, D.int .i64 v.Odd.a1.a1, D.int .i64 v.Odd.a1.a2] ∧ q6Y v := by
  intro n ds h
  cases n with
  | zero => exact h.elim
  | succ n =>
    unfold q0p at h
    rw [Try.underlying26] at h
    obtain ⟨hl, hf⟩ := h
    rw [qui] at hl
    have h0 : q0p Try.prog n 22 ((ds.drop 0).take (Try.prog.cellsOf 22)) := hf _ (List.mem_of_getElem? (i := 0) rfl)
    rw [qsM] at h0
    obtain ⟨v0, e0, w0⟩ := qu8 _ _ h0
    have c0 := q6Z ds 0 1
    rw [e0] at c0
    have h1 : q0p Try.prog n 22 ((ds.drop 1).take (Try.prog.cellsOf 22)) := hf _ (List.mem_of_getElem? (i := 1) rfl)
    rw [qsM] at h1
    obtain ⟨v1, e1, w1⟩ := qu8 _ _ h1
    have c1 := q6Z ds 1 1
    rw [e1] at c1
    have h2 : q0p Try.prog n 24 ((ds.drop 2).take (Try.prog.cellsOf 24)) := hf _ (List.mem_of_getElem? (i := 2) rfl)
    rw [qtf] at h2
    obtain ⟨v2, e2, w2⟩ := quj _ _ h2
    have c2 := q6Z ds 2 6
    rw [e2] at c2
    have cl : ds.drop 8 = [] := List.drop_eq_nil_of_le (by omega)
    refine ⟨⟨v0, v1, v2⟩, ?_, ⟨w0, w1, w2⟩⟩
    have c : ds.drop 0 = _ := c0
    simp only [Nat.reduceAdd] at c0 c1 c2 c
    rw [c1, c2, cl] at c
    exact c
end Go.Proofs.Ytgejdfnidjnjcaa.Vc
namespace Go.Proofs.Ytgejdfnidjnjcaa.Vc
open Go.RowKit
set_option maxRecDepth 100000
theorem qbA : ZA = some true := by
  have h : q1p 40 = some true := by kernel_rfl
  exact q6e 40 _ h
end Go.Proofs.Ytgejdfnidjnjcaa.Vc
namespace Go.Proofs.Ytgejdfnidjnjcaa.Vc
open Go.RowKit
set_option linter.unusedVariables false
set_option linter.unusedSimpArgs false
theorem qfs : ∀ n : qb, (∀ y ∈ ndN n, q0B y) → lvN n ≤ ((ndN n).filter J6).length := by
  intro n
  induction n using qb.rec (motive_2 := fun L => (∀ y ∈ ndL L, q0B y) → lvL L ≤ ((ndL L).filter J6).length) with
  | mk k n m S L ih =>
    intro hf
    have h1 := ih fun y hy => hf y (by rw [ndN]; exact List.mem_cons_of_mem _ hy)
    rw [lvN, ndN, List.filter_cons]
    have hk := (hf _ (q9X _)).kind
    simp only at hk
    by_cases h : k = 1 ∨ k = 2
    · rw [if_pos h, if_pos (by unfold J6; simp only; rcases h with h | h <;> subst h <;> decide), List.length_cons]
      omega
    · rw [if_neg h]
      split
      · rw [List.length_cons]; omega
      · exact h1
  | nil => rename_i hf; rw [lvL]; exact Nat.zero_le _
  | cons x L h1 h2 =>
    rename_i hf
    have a := h1 fun y hy => hf y (by rw [ndL]; exact List.mem_append_left _ hy)
    have b := h2 fun y hy => hf y (by rw [ndL]; exact List.mem_append_right _ hy)
    rw [lvL, ndL, List.filter_append, List.length_append]
    omega
theorem qiu {n : qb} (h : q2g n) : q0B n := by
  rcases h with h | h
  · refine ⟨?_, fun e => ?_, fun e => ?_⟩
    · rcases h.kd with q | q
      · exact .inr (.inl q.1)
      · exact .inl q.1
    · rcases h.kd with q | q <;> (have := q.1; omega)
    · rcases h.kd with q | q <;> (have := q.1; omega)
  · refine ⟨?_, fun e => ?_, fun e => ?_⟩
    · rcases h.kd with q | q
      · exact .inr (.inr (.inl q.1))
      · exact .inr (.inr (.inr q.1))
    · refine ⟨?_, h.ne⟩
      rcases h.kd with q | q
      · rw [q.2]; omega
      · have := q.1; omega
    · rcases h.kd with q | q
      · have := q.1; omega
      · exact q.2.1
theorem qi2 (d : List Int) (hd : d.length ≤ 100) (v : Int) (h : ∀ (j : Nat) (y : Int), d[j]? = some y → Z9 y v = false) : qD d v = some false := by
  have h1 := Je (step := qE v d (d.length : Int)) (e := .inr ()) (fun i => (i : Int)) 0 d.length (Nat.zero_le _) (fun i _ hi => by
      obtain ⟨y, hy⟩ : ∃ y, d[i]? = some y := ⟨_, List.getElem?_eq_getElem hi⟩
      have hw : w64 ((i : Int) + 1) = ((i + 1 : Nat) : Int) := za (n := 100) (by omega) (by omega)
      unfold qE
      rw [if_pos (by omega), if_pos ⟨by omega, by omega⟩, Int.toNat_natCast, hy, Option.bind_some, h i y hy, if_neg (by decide), hw]) (by
      unfold qE
      rw [if_neg (by omega)])
  unfold qD qW
  change Option.bind (Option.bind (qQ _ ((0 : Nat) : Int)) _) _ = _
  rw [h1]
  rfl
theorem qbV {n : qb} (hn : q11 3 6 n) {l : List qa} {set : Nat} (h : q3x n l set) (s : qd) (d : List Int) (hd : d.length = l.length) (hf : qbJ d s l n set) : QY n s l d = some true := by
  have hll := h.ll
  have hnd := h.nd
  have hhg := hn.hg
  obtain ⟨a, ha, hm⟩ := (q8n d s l (by omega) n 0 set h.fit h.lt).1 hf.ok
  have hlf := qfs n h.fit
  have hget : ∀ j, j < l.length → ∃ y, d[j]? = some y ∧ d.getD j (-1) = y := fun j hj => ⟨d[j]'(by omega), List.getElem?_eq_getElem (by omega), by rw [List.getD_eq_getElem?_getD, List.getElem?_eq_getElem (by omega)]; rfl⟩
  have hv : q23 s l (fun j => d.getD j (-1)) n 0 = q23 s l a n 0 := q53 s l _ a n 0 fun k hk x hx hx2 => by
    obtain ⟨y, hy, e⟩ := hget k hk
    show d.getD k (-1) = x ↔ a k = x
    rw [e]
    exact ha.com k y hy x hx (by omega)
  unfold QY
  rw [qaH n (by omega) hnd h.st, Option.bind_some, q9t hn, Option.bind_some, if_neg (by decide), if_neg (by rw [hd]; simp), qi2 d (by omega) _ fun j y hy => ?_, Option.bind_some, if_neg (by decide)]
  · change Option.bind (QF (n, s, l, d, ((0 : Nat) : Int))) _ = _
    rw [qgO s l (by omega) d hd n 0 h.st (by omega), Option.bind_some]
    simp only
    rw [hv, hm]
  · have := hf.val j y hy
    unfold Z9
    split at this
    · rw [if_neg (by omega)]; exact decide_eq_false (by omega)
    · rw [if_neg (by omega)]; exact decide_eq_false (by omega)
theorem qbE {n : qb} (hn : q11 3 6 n) {l : List qa} (hl : l.length ≤ 10) {set : Nat} (hs : set < 2 ^ l.length) : q3x n l set := by
  have h1 := hn.nd
  have h2 := hn.l2
  exact ⟨fun y hy => qiu (hn.ok y hy), by omega, q9U hn.ok, by omega, hs⟩
theorem qaT (c : ZV) (w : q6Y c) : JG c = some true := by
  obtain ⟨h1, h2, _⟩ := w
  obtain ⟨n, l0, e1, hn, hl0, _⟩ := qek (c := c) ⟨h1.1, h2.1⟩
  clear h1 h2
  have hl : (l0.take 5).length ≤ 5 := by rw [List.length_take]; omega
  unfold JG
  rw [qbA, Option.bind_some, e1, Option.bind_some]
  simp only
  rw [qnv, Option.bind_some]
  generalize l0.take 5 = l at hl
  have hS := qee hn (qq 1) l (by omega)
  have hp : 2 ^ l.length ≤ 32 := Nat.pow_le_pow_right (by decide) hl
  have hp1 : 1 ≤ 2 ^ l.length := Nat.one_le_two_pow
  have hcast : ((2 ^ l.length : Nat) : Int) = (2 : Int) ^ l.length := by push_cast; rfl
  have hw1 : w64 ((1 : Int) * (2 : Int) ^ min l.length (Go.IntKind.bits Go.IntKind.i64)) = ((2 ^ l.length : Nat) : Int) := by
    rw [show min l.length (Go.IntKind.bits Go.IntKind.i64) = l.length from Nat.min_eq_left (by show l.length ≤ 64; omega), Int.one_mul, ← hcast]
    exact Qk (by omega) (by omega)
  have h0 : Q8 [] (qq 1) l n 0 0 = false := by
    rw [q5O]
    unfold Ja
    split <;> simp
  have hloop : qQ (Qq n (qq 1) true l (QI (2 ^ l.length) (Q8 [] (qq 1) l n 0)) (QI (2 ^ l.length) (Q8 [] (qq 1) l n 0)) ((2 ^ l.length : Nat) : Int)) ((0 : Nat) : Int) = some (.inr ()) := by
    refine Je (fun i => (i : Int)) 0 (2 ^ l.length) (Nat.zero_le _) (fun i _ hi => ?_) ?_
    · have hG := qbE hn (by omega) hi
      have hw : w64 ((i : Int) + 1) = ((i + 1 : Nat) : Int) := za (n := 100) (by omega) (by omega)
      unfold Qq
      rw [if_pos (by omega), if_pos ⟨by omega, by rw [qM]; omega⟩, Int.toNat_natCast, Zo _ hi, Option.bind_some, hw]
      rcases qgu hG (qq 1) hS with ⟨g1, g2⟩ | ⟨g1, d, g2, g3, g4⟩
      · rw [g2, g1, Option.bind_some]
        rfl
      · rw [g4, g1, Option.bind_some]
        simp only
        rw [if_neg (by decide), if_pos trivial, qen hG.lt64 hG.ll d g2 (fun j y hy hb => by have := g3.val j y hy; rw [hb, if_neg (by decide)] at this; exact this), Option.bind_some, qbV hn hG _ d g2 g3, Option.bind_some]
        rfl
    · unfold Qq
      rw [if_neg (by omega)]
  rw [hS, Option.bind_some]
  simp only
  rw [qM, hw1, if_neg (by decide), if_pos (by omega), if_neg (by simp), if_pos (by omega)]
  rw [Zo _ hp1, Option.bind_some, h0, if_neg (by decide)]
  change Option.bind (qQ _ ((0 : Nat) : Int)) _ = _
  rw [hloop, Option.bind_some, Sum.elim_inr]
  have hA : ∀ x : Int, (x < 0 ∨ ((2 ^ l.length : Nat) : Int) ≤ x) → zh n (qq 1) l x = some ([], false) := fun x hx => by
    unfold zh
    rw [hS, Option.bind_some]
    simp only
    rw [qM, if_neg (by decide)]
    by_cases h : x < 0
    · rw [if_pos h]
    · rw [if_neg h, if_pos (by omega)]
  rw [hA _ (.inl (by decide)), Option.bind_some, hA _ (.inr (Int.le_refl _)), Option.bind_some]
  rfl
end Go.Proofs.Ytgejdfnidjnjcaa.Vc
namespace Go.Proofs.Ytgejdfnidjnjcaa
open Go.ChangeShapes Go.WideShapes Go.ChangeAt Go.RowKit Go.ChangeMaps
theorem own : ownKnob Try.prog.godebug = none := by kernel_rfl
theorem qm4 : laidOutB Try.prog = true := by kernel_rfl
section
variable {H : Type} {enc : TypeId × Value → H} {P : Program} {W W' : World}
theorem qb2 (hl : laidOutB P = true) (hb : Below W.heap.size W W') : ∀ {ts : List TypeId} {vs : List Value} {ds : List (DataW H)} {ps : List MemPlace}, (∀ t ∈ ts, P.readableRec t = true ∧ t < P.types.size) →
    DataW.TrodAll enc P W 0 (fun _ => true) true ts vs ds ps → (∀ p ∈ ps, p.block < W.heap.size) → DataW.TrodAll enc P W' 0 (fun b => decide (b < W.heap.size)) true ts vs ds ps
  | [], _, _, _, _, h, _ => by
    obtain ⟨rfl, rfl, rfl⟩ := trodAll_nil h
    exact trodAll_mk0
  | t :: ts, _, _, _, ht, h, hlt => by
    obtain ⟨v, vs, d, ds, p, q, rfl, rfl, rfl, h1, h2⟩ := trodAll_cons h
    exact trodAll_cons_mk (Below.trod hl (ht t List.mem_cons_self).1 (ht t List.mem_cons_self).2 h1 hb (fun x hx => hlt x (List.mem_append_left _ hx)))
      (qb2 hl hb (fun u hu => ht u (List.mem_cons_of_mem _ hu)) h2 (fun x hx => hlt x (List.mem_append_right _ hx)))
theorem qjj {f : Func} {s : ChangeSpec} {apart fresh handsOn : Bool} {args : Array Value} {ds gs : List (DataW H)} {before : List MemPlace} {tb : TypeId} (hl : laidOutB P = true)
    (hts : ∀ t ∈ f.params.toList, P.readableRec t = true ∧ t < P.types.size) (hr : f.resultTypes = #[tb]) (htb : P.underlying tb = some .bool) (hv : s.vars = [])
    (h1 : (s.fn H (ds ++ gs)).results = [.lit (.bool true)]) (h2 : (s.fn H (ds ++ gs)).args = ds) (h3 : (s.fn H (ds ++ gs)).vars = [])
    (hW : DataW.Whole enc P f.params.toList s.vars apart W args.toList ds gs before) (hb : Below W.heap.size W W') :
    s.post enc P f apart fresh handsOn false W args (.bool true) W' := by
  have hlt : ∀ p ∈ before, p.block < W.heap.size := fun p hp => hW.lt p hp
  have hW2 := hW
  obtain ⟨pa, pv, hA, hV, hp, -, -⟩ := hW2
  rw [hv] at hV
  obtain ⟨rfl, rfl⟩ := trodVars_none hV
  rw [List.append_nil] at hp
  subst hp
  refine ⟨ds, [], before, [], before, [], hW, ?_, ?_, ?_, ?_, fun h => by cases h⟩
  · rw [h1, hr]
    exact trodAll_mk1 (shut_bool htb true)
  · rw [h2]
    exact qb2 hl hb hts hA hlt
  · rw [h3, hv]
    exact hV
  · exact World.keptBut_mono (fun p hp => ⟨hp, .inr (.inl hp)⟩) (hb.frame (· ∈ before))
end
end Go.Proofs.Ytgejdfnidjnjcaa
