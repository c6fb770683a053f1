/- Part 6 of a proof. -/
import Derived.Test.YtgejdfnidjnjcaaM5
import Derived.KernelRfl
import Derived.Test.YtgejdfnidjnjcaaRows
import Derived.ChangeSlices
import Derived.OpenShut
import Derived.Carry
import Derived.ChangeSame
import Derived.ChangeMaps5
import Derived.WideShapes
import Derived.ProofKit
import Derived.Deep.DeepHandedRow
import Derived.Lib.LaidTab
import Derived.Stop.LaidErr
set_option linter.unusedVariables false
set_option linter.unusedSimpArgs false
set_option linter.defProp false
set_option linter.unusedSectionVars false
set_option linter.unnecessarySimpa false
namespace Go.Proofs.Ytgejdfnidjnjcaa.Vc
open Go.RowKit
set_option linter.unusedVariables false
set_option linter.unusedSimpArgs false
mutual
def hgN : qb → Nat
  | ⟨_, _, _, _, L⟩ => 1 + hgL L
def hgL : List qb → Nat
  | [] => 0
  | x :: L => max (hgN x) (hgL L)
end
mutual
def dpN (d : Int) : qb → Int → Int
  | ⟨_, _, _, _, L⟩, m => dpL (d + 1) L (max m d)
def dpL (d : Int) : List qb → Int → Int
  | [], m => m
  | x :: L, m => dpL d L (dpN d x m)
end
theorem q9E (n : qb) : hgN n = 1 + hgL n.L := by cases n; rw [hgN]
theorem qkZ (d : Int) (n : qb) (m : Int) : dpN d n m = dpL (d + 1) n.L (max m d) := by cases n; rw [dpN]
theorem q3Y (k : Nat) (h : k ≤ 100000) : k ≤ maxLen ∧ k * 72 ≤ 140737488355328 := ⟨by unfold maxLen; omega, by omega⟩
def qkF (y : qb) : Prop := ∀ (deep : Int) (w : List qb) (b2 : Int) (b3 : Bool), 1 ≤ deep → deep + hgN y ≤ 101 → w.length + (ndN y).length ≤ 10000 → Qp (y, deep, w, b2, b3) = some (.inr (w ++ ndN y, dpN deep y b2, b3))
theorem qcJ (rF : (qb × Int × List qb × Int × Bool) → Option (Int ⊕ (List qb × Int × Bool))) (deep : Int) (hd : 1 ≤ deep) (L : List qb) (hL : L.length ≤ 10000)
    (step : List qb × Int × Bool × Int → Option ((List qb × Int × Bool × Int) ⊕ (Int ⊕ (List qb × Int × Bool))))
    (hst : ∀ w b2 b3 (i : Nat), step (w, b2, b3, (i : Int)) = if (i : Int) < (L.length : Int) then if (0 : Int) ≤ i ∧ (i : Int) < (L.length : Int) then Option.bind L[Int.toNat i]? fun a2 => Option.bind (rF (a2, w64 (deep + 1), w, b2, b3)) fun a3 => Sum.elim (fun a4 => some (Sum.inr (Sum.inl a4))) (fun a5 => some (Sum.inl (a5.1, a5.2.1, a5.2.2, w64 ((i : Int) + 1)))) a3 else none else some (.inr (.inr (w, b2, b3))))
    (hP : ∀ y ∈ L, ∀ (w : List qb) (b2 : Int) (b3 : Bool), deep + 1 + hgN y ≤ 101 → w.length + (ndN y).length ≤ 10000 → rF (y, deep + 1, w, b2, b3) = some (.inr (w ++ ndN y, dpN (deep + 1) y b2, b3))) :
    ∀ (r : List qb) (i : Nat) (w : List qb) (b2 : Int) (b3 : Bool), r.length + i = L.length → (∀ j, r[j]? = L[i + j]?) → deep + 1 + hgL r ≤ 101 → w.length + (ndL r).length ≤ 10000 →
    qN step (w, b2, b3, (i : Int)) = some (.inr (w ++ ndL r, dpL (deep + 1) r b2, b3)) := by
  intro r
  induction r with
  | nil =>
    intro i w b2 b3 hi _ _ _
    have hi : i = L.length := by simpa using hi
    subst hi
    refine zt ?_
    rw [hst, if_neg (by omega), ndL, dpL, List.append_nil]
  | cons y r ih =>
    intro i w b2 b3 hi hr hh hw
    rw [hgL] at hh
    rw [ndL, List.length_append] at hw
    simp only [List.length_cons] at hi
    have hget : L[i]? = some y := by have := hr 0; simpa using this.symm
    have hlt := Jd hget
    have hcall := hP y (List.mem_of_getElem? hget) w b2 b3 (by omega) (by omega)
    have hstep : step (w, b2, b3, (i : Int)) = some (.inl (w ++ ndN y, dpN (deep + 1) y b2, b3, ((i + 1 : Nat) : Int))) := by
      rw [hst, if_pos (by omega), if_pos ⟨by omega, by omega⟩, Int.toNat_natCast, hget, Option.bind_some, zZ (by omega) (by omega), hcall, Option.bind_some, qT hlt (by omega)]
      rfl
    rw [zV hstep, ih (i + 1) _ _ _ (by omega) (fun j => by rw [show i + 1 + j = i + (j + 1) by omega, ← hr (j + 1)]; rfl) (by omega) (by rw [List.length_append]; omega), ndL, dpL, List.append_assoc]
theorem q8o (L : List qb) : L.length ≤ (ndL L).length := by
  induction L with
  | nil => simp
  | cons x L ih => rw [ndL, List.length_append, List.length_cons, Z3, List.length_cons]; omega
theorem qmQ : ∀ (m : Nat) (y : qb), (ndN y).length ≤ m → qkF y := by
  intro m
  induction m with
  | zero => intro y h; rw [Z3] at h; simp at h
  | succ m ih =>
    intro y h deep w b2 b3 hd hh hw
    rw [Z3, List.length_cons] at h hw
    rw [q9E] at hh
    have hsub : ∀ (L : List qb), (ndL L).length ≤ m → ∀ z ∈ L, qkF z := by
      intro L
      induction L with
      | nil => intro _ z hz; simp at hz
      | cons x L ihl =>
        intro g z hz
        rw [ndL, List.length_append] at g
        rcases List.mem_cons.1 hz with rfl | hz
        · exact ih _ (by omega)
        · exact ihl (by omega) z hz
    have hP := hsub y.L (by omega)
    have hl := q8o y.L
    rw [q2G, Qw]
    unfold Zx
    have hne : (((w.length : Nat) : Int) == (10000 : Int)) = false := by simp; omega
    rw [if_neg (by omega), if_neg (by rw [hne]; simp), if_pos ⟨(q3Y _ (by omega)).1, (q3Y _ (by omega)).2⟩, Option.bind_some, Sum.elim_inr]
    have h1 := qcJ Qp deep hd y.L (by omega) (Qx Qp deep y.L (y.L.length : Int)) (fun w b2 b3 i => by rfl) (fun z hz w b2 b3 g1 g2 => hP z hz (deep + 1) w b2 b3 (by omega) g1 g2) y.L 0 (w ++ [y]) (max b2 deep) b3 (by simp) (by simp) (by omega) (by rw [List.length_append, List.length_singleton]; omega)
    rw [show ((0 : Nat) : Int) = 0 from rfl] at h1
    dsimp only
    have h2 : (⟨y.Kind, y.N, y.Min, y.Set, y.L⟩ : qb) = y := by cases y; rfl
    rw [h2, h1, Option.bind_some, Sum.elim_inr, Z3, qkZ, List.append_assoc]
    rfl
theorem qeY (n : qb) (hh : hgN n ≤ 100) (hn : (ndN n).length ≤ 9999) : ZQ n = some (ndN n, dpN 1 n 0, true) := by
  rw [q9E] at hh
  rw [Z3, List.length_cons] at hn
  have hl := q8o n.L
  unfold ZQ ZC q0d Jb
  rw [if_neg (by omega), if_pos (by unfold maxLen; omega), Option.bind_some, Sum.elim_inr]
  have h1 := qcJ Qp 1 (by omega) n.L (by omega) (ZD 1 n.L (n.L.length : Int)) (fun w b2 b3 i => by rfl) (fun z hz w b2 b3 g1 g2 => qmQ _ z (Nat.le_refl _) (1 + 1) w b2 b3 (by omega) g1 g2) n.L 0 [n] (max 0 1) false (by simp) (by simp) (by omega) (by simp only [List.length_singleton]; omega)
  rw [show ((0 : Nat) : Int) = 0 from rfl] at h1
  dsimp only
  have h2 : (⟨n.Kind, n.N, n.Min, n.Set, n.L⟩ : qb) = n := by cases n; rfl
  rw [h2, h1, Option.bind_some, Sum.elim_inr, Option.bind_some, Sum.elim_inr, Option.bind_some, Sum.elim_inr, Z3, qkZ]
  rfl
def J3 (n : qb) : Bool := n.Kind != 3 && n.Kind != 4
theorem qiM (n : qb) : Zi n = J3 n := by
  unfold Zi J3
  cases h : (n.Kind != 3) <;> simp
theorem qhN (l : List qc) (h : l.length ≤ 1000000) : qC l = some () := by
  unfold qC
  rw [if_pos ⟨by unfold maxLen; omega, by omega⟩]
theorem qgr : ∀ (m : Nat) (n : qb), (ndN n).length ≤ m → (ndN n).length ≤ 100000 → (∀ y ∈ ndN n, y.Set.length ≤ 1000000) → Qq n = some n := by
  intro m
  induction m with
  | zero => intro n h; rw [Z3] at h; simp at h
  | succ m ih =>
    intro n h1 h2 h3
    have hset := h3 n (by rw [Z3]; exact List.mem_cons_self)
    have hsub : ∀ (L : List qb), (ndL L).length ≤ m → (ndL L).length ≤ 100000 → (∀ y ∈ ndL L, y.Set.length ≤ 1000000) → ∀ y ∈ L, Qq y = some y := by
      intro L
      induction L with
      | nil => intro _ _ _ y hy; simp at hy
      | cons x L ihl =>
        intro g1 g2 g3 y hy
        rw [ndL, List.length_append] at g1 g2
        rw [ndL] at g3
        rcases List.mem_cons.1 hy with rfl | hy
        · exact ih _ (by omega) (by omega) fun z hz => g3 z (List.mem_append_left _ hz)
        · exact ihl (by omega) (by omega) (fun z hz => g3 z (List.mem_append_right _ hz)) y hy
    have e0 : ndN n = n :: ndL n.L := Z3 n
    have hlen : (ndN n).length = (ndL n.L).length + 1 := by rw [e0]; rfl
    have hP := hsub n.L (by omega) (by omega) fun y hy => h3 y (by rw [e0]; exact List.mem_cons_of_mem _ hy)
    have hl := q8o n.L
    have hn : (⟨n.Kind, n.N, n.Min, n.Set, n.L⟩ : qb) = n := by cases n; rfl
    rw [q2I, Qu, qhN _ hset, Option.bind_some]
    unfold qY
    rw [if_pos ⟨by unfold maxLen; omega, by omega⟩]
    rw [Option.bind_some]
    have hL : ∀ i0 : Nat, qN (Qb Qq n.Kind n.N n.Min n.Set 0 0 0 (n.L.length : Int)) (n.L, ((0 : Nat) : Int)) = some n.L := fun _ => by
      refine Zp (fun i => (n.L, (i : Int))) 0 n.L.length (Nat.zero_le _) (fun i _ hi => ?_) ?_
      · obtain ⟨y, hy⟩ : ∃ y, n.L[i]? = some y := ⟨_, List.getElem?_eq_getElem hi⟩
        unfold Qb
        simp only
        rw [if_pos (by omega), if_pos ⟨by omega, by omega⟩, Int.toNat_natCast, hy, Option.bind_some, hP y (List.mem_of_getElem? hy), Option.bind_some, if_pos ⟨by omega, by omega⟩, if_pos (by omega), qT hi (by omega)]
        have : n.L.set i y = n.L := by
          obtain ⟨h1, h2⟩ := List.getElem?_eq_some_iff.1 hy
          rw [← h2, List.set_getElem_self]
        rw [this]
      · unfold Qb
        simp only
        rw [if_neg (by omega)]
    have := hL 0
    rw [show ((0 : Nat) : Int) = 0 from rfl] at this
    rw [this, Option.bind_some, hn]
theorem q8N (n : qb) (hh : hgN n ≤ 100) (hn : (ndN n).length ≤ 9999) (hs : ∀ y ∈ ndN n, y.Set.length ≤ 1000000) : QI n = some ((ndN n).filter J3) := by
  have hsub : ∀ (m : Nat) (n y : qb), (ndN n).length ≤ m → y ∈ ndN n → (ndN y).length ≤ (ndN n).length ∧ ∀ z ∈ ndN y, z ∈ ndN n := by
    intro m
    induction m with
    | zero => intro n y h; rw [Z3] at h; simp at h
    | succ m ih =>
      intro n y h hy
      rw [Z3] at hy
      rcases List.mem_cons.1 hy with rfl | hy
      · exact ⟨Nat.le_refl _, fun z hz => hz⟩
      · have hL : ∀ (L : List qb), (ndL L).length ≤ m → y ∈ ndL L → (ndN y).length ≤ (ndL L).length ∧ ∀ z ∈ ndN y, z ∈ ndL L := by
          intro L
          induction L with
          | nil => intro _ h; simp [ndL] at h
          | cons x L ihl =>
            intro g gy
            rw [ndL, List.length_append] at g
            rw [ndL] at gy ⊢
            rw [List.length_append]
            rcases List.mem_append.1 gy with gy | gy
            · obtain ⟨a, b⟩ := ih x y (by omega) gy
              exact ⟨by omega, fun z hz => List.mem_append_left _ (b z hz)⟩
            · obtain ⟨a, b⟩ := ihl (by omega) gy
              exact ⟨by omega, fun z hz => List.mem_append_right _ (b z hz)⟩
        have e0 := Z3 n
        have : (ndN n).length = (ndL n.L).length + 1 := by rw [e0]; rfl
        obtain ⟨a, b⟩ := hL n.L (by omega) hy
        exact ⟨by omega, fun z hz => by rw [e0]; exact List.mem_cons_of_mem _ (b z hz)⟩
  have hc : ∀ y ∈ ndN n, J3 y = true → Qq y = some y := fun y hy _ => by
    obtain ⟨a, b⟩ := hsub _ n y (Nat.le_refl _) hy
    exact qgr _ y (Nat.le_refl _) (by omega) fun z hz => hs z (b z hz)
  clear hsub hs
  unfold QI
  rw [qeY n hh hn, Option.bind_some]
  simp only
  generalize ndN n = l at hn hc
  have key : ∀ (r : List qb) (i : Nat) (b : List qb), r.length + i = l.length → (∀ j, r[j]? = l[i + j]?) → b.length ≤ i → qN (zz l (l.length : Int)) (b, (i : Int)) = some (b ++ r.filter J3) := by
    intro r
    induction r with
    | nil =>
      intro i b hi _ _
      have hi : i = l.length := by simpa using hi
      subst hi
      refine zt ?_
      unfold zz
      simp
    | cons y r ih =>
      intro i b hi hr hb
      simp only [List.length_cons] at hi
      have hget : l[i]? = some y := by have := hr 0; simpa using this.symm
      have hlt := Jd hget
      have hstep : zz l (l.length : Int) (b, (i : Int)) = some (.inl (if J3 y = true then b ++ [y] else b, ((i + 1 : Nat) : Int))) := by
        unfold zz
        simp only
        rw [if_pos (by omega), if_pos ⟨by omega, by omega⟩, Int.toNat_natCast, hget, Option.bind_some, qiM, qT hlt (by omega)]
        cases h : J3 y
        · simp
        · rw [hc y (List.mem_of_getElem? hget) h, Option.bind_some, if_pos rfl, if_pos ⟨(q3Y _ (by omega)).1, (q3Y _ (by omega)).2⟩]
          simp
      have hb2 : (if J3 y = true then b ++ [y] else b).length ≤ i + 1 := by
        split
        · rw [List.length_append, List.length_singleton]; omega
        · omega
      rw [zV hstep, ih (i + 1) _ (by omega) (fun j => by rw [show i + 1 + j = i + (j + 1) by omega, ← hr (j + 1)]; rfl) hb2, List.filter_cons]
      cases J3 y <;> simp
  have := key l 0 [] (by simp) (by simp) (by simp)
  change Option.bind (qN _ ([], ((0 : Nat) : Int))) _ = _
  rw [this, Option.bind_some, List.nil_append]
end Go.Proofs.Ytgejdfnidjnjcaa.Vc
namespace Go.Proofs.Ytgejdfnidjnjcaa.Vc
open Go.RowKit
set_option linter.unusedVariables false
set_option linter.unusedSimpArgs false
def q76 (b : UInt8) : Bool := (48 ≤ b.toNat && b.toNat ≤ 57) || (65 ≤ b.toNat && b.toNat ≤ 90)
theorem qkj (s : ByteArray) (i : Nat) (h : (s.get! i).toNat < 128) : Utf8.decode s i = ((s.get! i).toNat, 1) := by
  unfold Utf8.decode
  simp only [Nat.add_zero]
  rw [if_pos h]
theorem qlo (s : ByteArray) (i : Nat) (h : ¬ (s.get! i).toNat < 128) : 128 ≤ (Utf8.decode s i).1 := by
  unfold Utf8.decode
  simp only [Nat.add_zero]
  rw [if_neg h]
  have hr : 128 ≤ Utf8.runeError := by decide
  split
  · split
    · assumption
    · exact hr
  · split
    · split
      · rename_i h; simp only [ge_iff_le, Bool.and_eq_true, decide_eq_true_eq] at h; omega
      · exact hr
    · split
      · split
        · rename_i h; simp only [ge_iff_le, Bool.and_eq_true, decide_eq_true_eq] at h; omega
        · exact hr
      · exact hr
theorem q9w (b : UInt8) (h : b.toNat < 128) : Q2 (b.toNat : Int) = !q76 b := by
  unfold Q2 q76
  by_cases h1 : b.toNat < 65
  · rw [if_pos (by omega)]
    by_cases h2 : b.toNat < 48
    · rw [if_pos (by omega)]
      have e1 : decide (48 ≤ b.toNat) = false := decide_eq_false (by omega)
      have e2 : decide (65 ≤ b.toNat) = false := decide_eq_false (by omega)
      simp [e1, e2]
    · rw [if_neg (by omega)]
      have e1 : decide (48 ≤ b.toNat) = true := decide_eq_true (by omega)
      have e2 : decide (65 ≤ b.toNat) = false := decide_eq_false (by omega)
      by_cases h3 : b.toNat ≤ 57
      · have e3 : decide (b.toNat ≤ 57) = true := decide_eq_true h3
        have e4 : decide ((57 : Int) < b.toNat) = false := decide_eq_false (by omega)
        simp [e1, e2, e3, e4]
      · have e3 : decide (b.toNat ≤ 57) = false := decide_eq_false h3
        have e4 : decide ((57 : Int) < b.toNat) = true := decide_eq_true (by omega)
        simp [e1, e2, e3, e4]
  · rw [if_neg (by omega)]
    have e0 : decide (b.toNat ≤ 57) = false := decide_eq_false (by omega)
    have e1 : decide (65 ≤ b.toNat) = true := decide_eq_true (by omega)
    by_cases h2 : 90 < b.toNat
    · rw [if_pos (by omega), if_neg (by omega)]
      have e3 : decide (b.toNat ≤ 90) = false := decide_eq_false (by omega)
      have e4 : decide ((57 : Int) < b.toNat) = true := decide_eq_true (by omega)
      simp [e0, e1, e3, e4]
    · rw [if_neg (by omega)]
      have e3 : decide (b.toNat ≤ 90) = true := decide_eq_true (by omega)
      simp [e0, e1, e3]
theorem qie (n : Nat) (h : 128 ≤ n) : Q2 (n : Int) = true := by
  unfold Q2
  rw [if_neg (by omega), if_pos (by omega), if_neg (by omega)]
  exact decide_eq_true (by omega)
theorem qj1 (s : ByteArray) (i : Nat) (h : i < s.size) : s.get! i = s.data.toList.getD i 0 := by
  obtain ⟨⟨l⟩⟩ := s
  have h' : i < l.length := h
  show (Array.mk l)[i]! = l.getD i 0
  simp [h', List.getD]
theorem qcs (s : ByteArray) : ∀ (r : List UInt8) (p : Nat), r.length + p = s.size → (∀ j, r[j]? = s.data.toList[p + j]?) → ∃ e, qN (qP s true) p = some e ∧ ((∃ i : Int, e = .inl i ∧ 0 ≤ i ∧ r.all q76 = false) ∨ (e = .inr () ∧ r.all q76 = true)) := by
  intro r
  induction r with
  | nil =>
    intro p hp _
    have hp : p = s.size := by simpa using hp
    subst hp
    refine ⟨.inr (), zt ?_, .inr ⟨rfl, rfl⟩⟩
    unfold qP
    rw [if_neg (by omega)]
  | cons b r ih =>
    intro p hp hr
    simp only [List.length_cons] at hp
    have hb : s.data.toList[p]? = some b := by have := hr 0; simpa using this.symm
    have hg : s.get! p = b := by rw [qj1 s p (by omega), List.getD, hb]; rfl
    by_cases h : b.toNat < 128
    · have hd := qkj s p (by rw [hg]; exact h)
      rw [hg] at hd
      cases ho : q76 b
      · refine ⟨.inl (p : Int), zt ?_, .inl ⟨_, rfl, by omega, by simp [ho]⟩⟩
        unfold qP
        rw [if_pos (by omega), hd, q9w b h, ho]
        rfl
      · obtain ⟨e, h1, h2⟩ := ih (p + 1) (by omega) (fun j => by rw [show p + 1 + j = p + (j + 1) by omega, ← hr (j + 1)]; rfl)
        refine ⟨e, ?_, by rw [List.all_cons, ho, Bool.true_and]; exact h2⟩
        rw [zV (y := p + 1) (by
          unfold qP
          rw [if_pos (by omega), hd, q9w b h, ho]
          rfl)]
        exact h1
    · have hbig := qlo s p (by rw [hg]; exact h)
      have hbad : q76 b = false := by
        unfold q76
        have e1 : decide (b.toNat ≤ 57) = false := decide_eq_false (by omega)
        have e2 : decide (b.toNat ≤ 90) = false := decide_eq_false (by omega)
        simp [e1, e2]
      refine ⟨.inl (p : Int), zt ?_, .inl ⟨_, rfl, by omega, by simp [hbad]⟩⟩
      unfold qP
      rw [if_pos (by omega), qie _ hbig]
      rfl
def qj7 (s : ByteArray) : Bool := decide (s.size ≠ 0) && decide (s.size ≤ 8) && s.data.toList.all q76
theorem qe1 (s : ByteArray) : (s.toList == ByteArray.toList (ByteArray.mk (List.toArray []))) = decide (s.size = 0) := by
  rw [ByteArray.toList_eq, ByteArray.toList_eq]
  obtain ⟨⟨l⟩⟩ := s
  show (l == []) = decide (l.length = 0)
  cases l <;> simp
theorem qmm (s : ByteArray) : Zs s = some (qj7 s) := by
  unfold Zs qj7
  rw [qe1]
  by_cases h0 : s.size = 0
  · simp [h0]
  · have e0 : decide (s.size = 0) = false := decide_eq_false h0
    have e1 : decide (s.size ≠ 0) = true := decide_eq_true h0
    rw [e0, e1, if_pos (by rfl)]
    by_cases h8 : s.size ≤ 8
    · have e2 : decide (s.size ≤ 8) = true := decide_eq_true h8
      obtain ⟨e, h1, h2⟩ := qcs s s.data.toList 0 (by simp) (by simp)
      rw [if_pos (by omega), e2]
      unfold Qk Qn
      rw [h1, Option.bind_some]
      rcases h2 with ⟨i, rfl, hi, ha⟩ | ⟨rfl, ha⟩
      · rw [Sum.elim_inl, Option.bind_some, Option.bind_some, ha]
        have : decide (i < 0) = false := decide_eq_false (by omega)
        rw [this]; rfl
      · rw [Sum.elim_inr, Option.bind_some, Option.bind_some, ha]
        rfl
    · have e2 : decide (s.size ≤ 8) = false := decide_eq_false h8
      rw [if_neg (by omega), e2]
      rfl
def inF (n a b : Int) : Bool := decide (a ≤ n) && decide (n ≤ b)
theorem q1U (n a b : Int) : qG n a b = inF n a b := by
  unfold qG inF
  by_cases h : a ≤ n <;> simp [h]
def Jr (c : qc) : Bool := inF c.School 1 8 && qj7 c.Code
theorem qki (c : qc) : ZP c = some (Jr c) := by
  unfold ZP Jr
  rw [q1U, qmm]
  cases inF c.School 1 8 <;> simp
def qjJ (x y : Int) : Int := if x < y then -1 else if y < x then 1 else 0
def qsv (x y : ByteArray) : Int := if Op.bytesLess x.toList y.toList = true then -1 else if x.toList == y.toList then 0 else 1
def qnP (a b : qc) : Int := if a.School ≠ b.School then qjJ a.School b.School else qsv a.Code b.Code
theorem qsW (x y : Int) : Zg [x, y] = some (if x ≠ 0 then x else y) := by
  unfold Zg
  by_cases hx : x = 0
  · by_cases hy : y = 0
    · rw [zV (y := 1) (by unfold zO; simp [hx]; rfl), zV (y := 2) (by unfold zO; simp [hx, hy]; rfl), zt (e := .inr ()) (by unfold zO; simp)]
      simp [hx, hy]
    · rw [zV (y := 1) (by unfold zO; simp [hx]; rfl), zt (e := .inl y) (by unfold zO; simp [hx, hy])]
      simp [hx, hy]
  · rw [zt (e := .inl x) (by unfold zO; simp [hx])]
    simp [hx]
theorem q9u (a b : qc) : QZ a b = some (qnP a b) := by
  unfold QZ
  rw [qsW, Option.bind_some]
  congr 1
  have e1 : Q0 a.School b.School = qjJ a.School b.School := by
    unfold Q0 zi qjJ
    simp
  have e2 : zp a.Code b.Code = qsv a.Code b.Code := by
    unfold zp qsv
    cases h1 : Op.bytesLess a.Code.toList b.Code.toList
    · cases h2 : (a.Code.toList == b.Code.toList) <;> simp
    · simp
  rw [e1, e2]
  unfold qnP
  by_cases h : a.School = b.School
  · have : qjJ a.School b.School = 0 := by unfold qjJ; rw [if_neg (by omega), if_neg (by omega)]
    simp [h, this]
    intro h2; exact absurd (by unfold qjJ; simp) h2
  · have : qjJ a.School b.School ≠ 0 := by unfold qjJ; split <;> (try split) <;> omega
    simp [h, this]
def qbA : List qc → Bool
  | x :: y :: l => decide (qnP x y < 0) && qbA (y :: l)
  | _ => true
def q0i (n : qb) : Int :=
  if inF n.Min (-1000) 1000 = false then 3 else if inF n.Set.length 1 12 = false then 2 else if n.Set.all Jr = false then 1 else if qbA n.Set = true then 0 else 7
theorem q9c (l : List qc) (hl : l.length ≤ 1000000) : qp l = some (!l.all Jr) := by
  have h1 := JA (ε := Int ⊕ Unit) (step := qo l (l.length : Int)) l (fun (b : Unit) i => (i : Int)) (fun i b a => if (!Jr a) = true then .inr (.inl (i : Int)) else .inl ()) (fun _ => .inr ()) (fun b i a ha => by
      have hi := Jd ha
      have hw : w64 ((i : Int) + 1) = ((i + 1 : Nat) : Int) := qT hi (by omega)
      unfold qo QT
      rw [if_pos (by omega), if_pos ⟨by omega, by omega⟩, Int.toNat_natCast, ha, Option.bind_some, hw, qki, Option.bind_some, Option.bind_some]
      cases Jr a <;> simp) (fun b => by
      unfold qo
      rw [if_neg (by omega)]) ()
  have h2 := q8a (fun a => !Jr a) l 0
  unfold qp qw
  rw [show ((0 : Nat) : Int) = 0 from rfl] at h1
  rw [h1, Option.bind_some]
  have e : l.any (fun a => !Jr a) = !l.all Jr := by
    clear h1 h2 hl
    induction l with
    | nil => rfl
    | cons a l ih => rw [List.any_cons, List.all_cons, ih]; cases Jr a <;> simp
  rw [← e, ← h2]
  cases (q1b (ε := Int ⊕ Unit) (fun i (_ : Unit) (a : qc) => if (!Jr a) = true then .inr (.inl (i : Int)) else .inl ()) (fun _ => .inr ()) l 0 ()) <;> rfl
theorem qev (n : qb) (hl : n.Set.length ≤ 1000000) : ∀ (r : List qc) (i : Nat), r.length + i = n.Set.length → (∀ j, r[j]? = n.Set[i + j]?) → qN (zl n n.Set (n.Set.length : Int)) (i : Int) = some (if (match i, n.Set[i - 1]? with | _ + 1, some x => qbA (x :: r) | _, _ => qbA r) = true then .inr () else .inl ()) := by
  intro r
  induction r with
  | nil =>
    intro i hi _
    have hi : i = n.Set.length := by simpa using hi
    subst hi
    refine zt ?_
    unfold zl
    rw [if_neg (by omega)]
    split <;> simp [qbA]
  | cons a r ih =>
    intro i hi hr
    simp only [List.length_cons] at hi
    have hget : n.Set[i]? = some a := by have := hr 0; simpa using this.symm
    have hlt := Jd hget
    have hnext := ih (i + 1) (by omega) (fun j => by rw [show i + 1 + j = i + (j + 1) by omega, ← hr (j + 1)]; rfl)
    simp only [Nat.add_sub_cancel, hget] at hnext
    cases i with
    | zero =>
      rw [zV (y := ((0 + 1 : Nat) : Int)) (by
        unfold zl
        rw [if_pos (by omega), if_pos ⟨by omega, by omega⟩, Int.toNat_natCast, hget, Option.bind_some, if_neg (by omega), qT hlt (by omega)])]
      exact hnext
    | succ i =>
      obtain ⟨x, hx⟩ : ∃ x, n.Set[i]? = some x := ⟨_, List.getElem?_eq_getElem (by omega)⟩
      simp only [Nat.add_sub_cancel, hx]
      have hw : w64 (((i + 1 : Nat) : Int) - 1) = (i : Int) := by rw [zZ (by omega) (by omega)]; omega
      by_cases hc : qnP x a < 0
      · rw [zV (y := ((i + 1 + 1 : Nat) : Int)) (by
          unfold zl
          rw [if_pos (by omega), if_pos ⟨by omega, by omega⟩, Int.toNat_natCast, hget, Option.bind_some, if_pos (by omega), hw, if_pos ⟨by omega, by omega⟩, Int.toNat_natCast, hx, Option.bind_some, q9u, Option.bind_some, if_neg (by omega), qT hlt (by omega)]), hnext]
        simp [qbA, hc]
      · rw [zt (e := .inl ()) (by
          unfold zl
          rw [if_pos (by omega), if_pos ⟨by omega, by omega⟩, Int.toNat_natCast, hget, Option.bind_some, if_pos (by omega), hw, if_pos ⟨by omega, by omega⟩, Int.toNat_natCast, hx, Option.bind_some, q9u, Option.bind_some, if_pos (by omega)])]
        simp [qbA, hc]
theorem q9K (n : qb) (hl : n.Set.length ≤ 1000000) : QM n = some (q0i n) := by
  unfold QM q0i
  rw [q1U, q1U, q9c _ hl, Option.bind_some]
  have h := qev n hl n.Set 0 (by simp) (by simp)
  simp only at h
  rw [show ((0 : Nat) : Int) = 0 from rfl] at h
  rw [h, Option.bind_some]
  cases inF n.Min (-1000) 1000
  · simp
  · cases inF n.Set.length 1 12
    · simp
    · cases n.Set.all Jr
      · simp
      · cases qbA n.Set <;> simp
def q7o (n : qb) : Bool := n.Min == 0 && n.Set.isEmpty && !n.L.isEmpty
def qaH (n : qb) : Int :=
  if n.Kind = 1 then (if n.N ≠ 0 ∨ n.L ≠ [] then 13 else q0i n)
  else if n.Kind = 2 then (if n.L ≠ [] then 13 else if inF n.N 1 600 = false then 3 else q0i n)
  else if n.Kind = 3 then (if q7o n = false ∨ n.N ≠ 0 then 13 else 0)
  else if n.Kind = 4 then (if q7o n = false then 13 else if inF n.N 1 n.L.length = false then 3 else 0)
  else 13
theorem qf6 (n : qb) : zX n = q7o n := by
  unfold zX q7o
  cases n.Min == 0
  · simp
  · cases hS : n.Set <;> cases hL : n.L <;> simp
    all_goals omega
theorem qtT (n : qb) (hl : n.Set.length ≤ 1000000) : QX n = some (if n.N ≠ 0 ∨ n.L ≠ [] then 13 else q0i n) := by
  unfold QX
  rw [q9K n hl, Option.bind_some]
  by_cases h : n.N = 0
  · cases hL : n.L with
    | nil => simp [h]
    | cons x l => rw [if_neg (by simp [h]), if_pos (by simp), if_pos (.inr (by simp))]
  · simp [h]
theorem qtx (n : qb) (hl : n.Set.length ≤ 1000000) : Z0 n = some (if n.L ≠ [] then 13 else if inF n.N 1 600 = false then 3 else q0i n) := by
  unfold Z0
  rw [q9K n hl, Option.bind_some, q1U]
  cases hL : n.L with
  | nil =>
    cases hI : inF n.N 1 600 <;> simp [hI]
  | cons x l => rw [if_pos (by simp), if_pos (by simp)]
theorem qtt (n : qb) : zW n = if q7o n = false ∨ n.N ≠ 0 then 13 else 0 := by
  unfold zW
  rw [qf6]
  cases q7o n
  · simp
  · by_cases h : n.N = 0 <;> simp [h]
theorem qsT (n : qb) : zS n = if q7o n = false then 13 else if inF n.N 1 n.L.length = false then 3 else 0 := by
  unfold zS
  rw [qf6, q1U]
  cases q7o n
  · simp
  · cases inF n.N 1 n.L.length <;> simp
def qnM (l : List qb) : Option Int := l.findSome? fun y => if qaH y ≠ 0 then some (qaH y) else none
theorem qem (l : List qb) (hl : l.length ≤ 1000000) (hs : ∀ y ∈ l, y.Set.length ≤ 1000000) : qN (Q5 l (l.length : Int)) 0 = some (match qnM l with | some e => .inl e | none => .inr ()) := by
  have h1 := qb4 (ε := Int ⊕ Unit) (step := Q5 l (l.length : Int)) l (fun i => (i : Int)) (fun y => if qaH y ≠ 0 then some (.inl (qaH y)) else none) (.inr ()) (fun i y hy => by
      have hi := Jd hy
      have hw : w64 ((i : Int) + 1) = ((i + 1 : Nat) : Int) := qT hi (by omega)
      have hset := hs y (List.mem_of_getElem? hy)
      unfold Q5
      rw [if_pos (by omega), if_pos ⟨by omega, by omega⟩, Int.toNat_natCast, hy, Option.bind_some, hw, qtT y hset, qtx y hset, qtt, qsT, Option.bind_some, Option.bind_some]
      unfold qaH
      by_cases e1 : y.Kind = 1
      · simp only [if_pos e1]; generalize (if y.N ≠ 0 ∨ y.L ≠ [] then 13 else q0i y) = v; by_cases h : v = 0 <;> simp [h]
      · by_cases e2 : y.Kind = 2
        · simp only [if_neg e1, if_pos e2]; generalize (if y.L ≠ [] then 13 else if inF y.N 1 600 = false then 3 else q0i y) = v; by_cases h : v = 0 <;> simp [h]
        · by_cases e3 : y.Kind = 3
          · simp only [if_neg e1, if_neg e2, if_pos e3]; generalize (if q7o y = false ∨ y.N ≠ 0 then (13 : Int) else 0) = v; by_cases h : v = 0 <;> simp [h]
          · by_cases e4 : y.Kind = 4
            · simp only [if_neg e1, if_neg e2, if_neg e3, if_pos e4]; generalize (if q7o y = false then (13 : Int) else if inF y.N 1 y.L.length = false then 3 else 0) = v; by_cases h : v = 0 <;> simp [h]
            · simp [e1, e2, e3, e4]) (by
      unfold Q5
      rw [if_neg (by omega)])
  rw [show ((0 : Nat) : Int) = 0 from rfl] at h1
  rw [h1]
  congr 1
  unfold qnM
  clear h1 hl hs
  induction l with
  | nil => rfl
  | cons y l ih =>
    rw [List.findSome?_cons, List.findSome?_cons]
    by_cases h : qaH y = 0 <;> simp only [h, ne_eq, not_true_eq_false, not_false_eq_true, if_true, if_false]
    · exact ih
    · rfl
def qge (n : qb) : Int :=
  if 24 < (ndN n).length then 2 else if 5 < dpN 1 n 0 then 2 else if inF ((ndN n).filter J3).length 1 8 = false then 2 else (qnM (ndN n)).getD 0
theorem qjZ (n : qb) (hh : hgN n ≤ 100) (hn : (ndN n).length ≤ 9999) (hs : ∀ y ∈ ndN n, y.Set.length ≤ 1000000) : QV n = some (qge n) := by
  unfold QV qge
  rw [qeY n hh hn, Option.bind_some, q8N n hh hn hs]
  simp only [Option.bind_some]
  rw [qem (ndN n) (by omega) hs, q1U, if_neg (by simp)]
  by_cases h1 : 24 < (ndN n).length
  · rw [if_pos (by omega), if_pos h1]
  · rw [if_neg (by omega), if_neg h1]
    by_cases h2 : 5 < dpN 1 n 0
    · rw [if_pos h2, if_pos h2]
    · rw [if_neg h2, if_neg h2]
      cases inF ((ndN n).filter J3).length 1 8
      · simp
      · simp only [Bool.not_true, Bool.false_eq_true, if_false, Option.bind_some]
        cases qnM (ndN n) <;> rfl
end Go.Proofs.Ytgejdfnidjnjcaa.Vc
namespace Go.Proofs.Ytgejdfnidjnjcaa.Vc
open Go.RowKit
set_option linter.unusedVariables false
set_option linter.unusedSimpArgs false
section
variable {N : Nat} {best : Nat → Int} {M : Int}
theorem qgs (rF : (qb × List qa × Int × qd) → Option (List Bool × List qa × Int × qd)) (hN : N ≤ 65536) (hM : M ≤ 1000000) (hb : Bnd best N M) (w9 : List Bool) (b0 : List qa) (b3 : Int) (b4 : qd) (b8 : qb) (own : Nat → Bool) (skip : Bool) (t72 : List qb) (t73 t74 : Int) :
    qN (zh rF w9 (QH N best) b0 b3 b4 b8 (QH N own) skip t72 t73 t74 ((N : Nat) : Int)) (List.replicate N 0, 0) = some (QH N (stF skip own best)) := by
  have h1 := Zp (step := zh rF w9 (QH N best) b0 b3 b4 b8 (QH N own) skip t72 t73 t74 ((N : Nat) : Int)) (fun i => (QH N (fun k => if k < i then stF skip own best k else 0), (i : Int))) 0 N (Nat.zero_le _) (e := QH N (stF skip own best)) (fun i _ hi => by
      have hbi := hb i hi
      have hw : w64 ((i : Int) + 1) = ((i + 1 : Nat) : Int) := qT hi (by omega)
      have hg : ∀ v : Int, v = (if skip = true then best i else -1) → q75 (q75 (fun k => if k < i then stF skip own best k else 0) i v) i (eaF own best i i i (q75 (fun k => if k < i then stF skip own best k else 0) i v i)) = fun k => if k < i + 1 then stF skip own best k else 0 := fun v hv => by
        funext k
        rw [q8J, q5g]
        unfold q75
        by_cases hk : k = i
        · subst hk
          rw [if_pos rfl, if_pos (by omega)]
          unfold stF
          rw [← hv]
        · rw [if_neg hk]
          show (if k < i then stF skip own best k else 0) = _
          by_cases h : k < i
          · rw [if_pos h, if_pos (by omega)]
          · rw [if_neg h, if_neg (by omega)]
      unfold zh
      simp only
      rw [if_pos (by omega), qM, if_pos ⟨by omega, by omega⟩, Int.toNat_natCast, if_pos (by omega)]
      cases hs : skip
      · simp only [Bool.false_eq_true, if_false]
        rw [QJ]
        unfold qF
        rw [qas hN hM hb (own := own) hi i i (Nat.le_refl _) (Nat.le_refl _), Option.bind_some, Option.bind_some, hw, ← hs, hg (-1) (by rw [hs]; rfl)]
      · simp only [if_true]
        rw [qM, if_pos ⟨by omega, by omega⟩, Zq best hi, Option.bind_some, if_pos ⟨by omega, by omega⟩, if_pos (by omega), QJ, QJ, q5g]
        unfold qF
        rw [qas hN hM hb (own := own) hi i i (Nat.le_refl _) (Nat.le_refl _), Option.bind_some, Option.bind_some, hw, ← hs, hg (best i) (by rw [hs]; rfl)]) (by
      unfold zh
      simp only
      rw [if_neg (by omega)]
      congr 2
      exact ZF fun k hk => if_pos hk)
  rw [q1j]
  have e : (fun k : Nat => if k < 0 then stF skip own best k else 0) = fun _ => 0 := by funext k; rw [if_neg (by omega)]
  rw [e] at h1
  exact h1
theorem qnI (rF : (qb × List qa × Int × qd) → Option (List Bool × List qa × Int × qd)) (hN : N ≤ 65536) (hN1 : 1 ≤ N) (w9 : List Bool) (b0 : List qa) (b3 : Int) (b4 : qd) (b8 : qb) :
    qN (z7 rF w9 b0 b3 b4 b8) (List.replicate N 0, 1) = some (QH N b0F) := by
  have h1 := Zp (step := z7 rF w9 b0 b3 b4 b8) (fun i => (QH N (fun k => if 1 ≤ k ∧ k < i then -1 else 0), (i : Int))) 1 N hN1 (e := QH N b0F) (fun i h1 hi => by
      have hw : w64 ((i : Int) + 1) = ((i + 1 : Nat) : Int) := qT hi (by omega)
      unfold z7
      simp only
      rw [qM, if_pos (by omega), if_pos ⟨by omega, by omega⟩, Int.toNat_natCast, if_pos (by omega), hw, QJ]
      rw [qe4 (fun _ => (-1 : Int)) 0 h1]) (by
      unfold z7
      simp only
      rw [qM, if_neg (by omega)]
      congr 2
      refine ZF fun k hk => ?_
      unfold b0F
      by_cases h : k = 0
      · rw [if_pos h, if_neg (by omega)]
      · rw [if_neg h, if_pos (by omega)])
  rw [q1j]
  have e : (fun k : Nat => if 1 ≤ k ∧ k < 1 then (-1 : Int) else 0) = fun _ => 0 := by funext k; rw [if_neg (by omega)]
  rw [e] at h1
  exact h1
theorem qfx (rF : (qb × List qa × Int × qd) → Option (List Bool × List qa × Int × qd)) (hN : N ≤ 65536) (hN1 : 1 ≤ N) (b0 : List qa) (b3 : Int) (b4 : qd) (least : Int) :
    qN (zg rF (QH N best) b0 b3 b4 least) (List.replicate N false, 1) = some (QH N (fun k => decide (k ≠ 0) && decide (least ≤ best k))) := by
  have h1 := Zp (step := zg rF (QH N best) b0 b3 b4 least) (fun i => (QH N (fun k => if 1 ≤ k ∧ k < i then decide (least ≤ best k) else false), (i : Int))) 1 N hN1 (e := QH N (fun k => decide (k ≠ 0) && decide (least ≤ best k))) (fun i h1 hi => by
      have hw : w64 ((i : Int) + 1) = ((i + 1 : Nat) : Int) := qT hi (by omega)
      unfold zg
      simp only
      rw [qM, qM, if_pos (by omega), if_pos ⟨by omega, by omega⟩, Int.toNat_natCast, Zq best hi, Option.bind_some, if_pos ⟨by omega, by omega⟩, if_pos (by omega), hw, QJ]
      rw [qe4 (fun k => decide (least ≤ best k)) false h1]) (by
      unfold zg
      simp only
      rw [qM, if_neg (by omega)]
      congr 2
      refine ZF fun k hk => ?_
      by_cases h : k = 0
      · subst h; simp
      · rw [if_pos ⟨by omega, hk⟩]; simp [h])
  rw [q1j]
  have e : (fun k : Nat => if 1 ≤ k ∧ k < 1 then decide (least ≤ best k) else false) = fun _ => false := by funext k; rw [if_neg (by omega)]
  rw [e] at h1
  exact h1
theorem qcM (rF : (qb × List qa × Int × qd) → Option (List Bool × List qa × Int × qd)) (d : List Int) (hd : d = []) (s : qd) (l : List qa) (hl : l.length ≤ 16) (n : qb) (hn : n.Set.length ≤ 1000000) (nx : Nat) (hnx : nx ≤ 1000000) (step : List Bool × Int → Option ((List Bool × Int) ⊕ List Bool))
    (hst : step = (if n.Kind = 1 then zK rF l (nx : Int) s n else zJ rF l (nx : Int) s n)) (hN : N ≤ 65536) (hN1 : 1 ≤ N) :
    qN step (List.replicate N false, 1) = some (QH N (Jt d s l n nx)) := by
  have h1 := Zp (step := step) (fun i => (QH N (fun k => if 1 ≤ k ∧ k < i then Jt d s l n nx k else false), (i : Int))) 1 N hN1 (e := QH N (Jt d s l n nx)) (fun i h1 hi => by
      have hw : w64 ((i : Int) + 1) = ((i + 1 : Nat) : Int) := qT hi (by omega)
      have hc : QH N (q75 (fun k => if 1 ≤ k ∧ k < i then Jt d s l n nx k else false) i (Jt d s l n nx i)) = QH N (fun k => if 1 ≤ k ∧ k < i + 1 then Jt d s l n nx k else false) := by
        rw [qe4 (Jt d s l n nx) false h1]
      have hz : decide (i ≠ 0) = true := decide_eq_true (by omega)
      have hwg := qcU n (by omega) s l (by omega) i (by omega)
      have hal : alF d nx i = true := by rw [hd]; rfl
      have hv : Jt d s l n nx i = (alF d nx i && q9D n (wgF n s i l 0 ld0)) := by unfold Jt; rw [hz]; simp
      have m1 : n.Kind = 1 → qx (wgF n s i l 0 ld0) n = q9D n (wgF n s i l 0 ld0) := fun hk => by
        unfold qx q9D
        rw [if_pos hk]
        cases (wgF n s i l 0 ld0).fine <;> simp
      have m2 : n.Kind ≠ 1 → qI (wgF n s i l 0 ld0) n = q9D n (wgF n s i l 0 ld0) := fun hk => by
        unfold qI q9D
        rw [if_neg hk]
        cases (wgF n s i l 0 ld0).fine
        · simp
        · by_cases h : 0 < (wgF n s i l 0 ld0).many <;> simp [h]
      rw [hst]
      by_cases hk : n.Kind = 1
      · rw [if_pos hk]
        unfold zK
        simp only
        rw [qM, if_pos (by omega), hwg, Option.bind_some]
        rw [if_pos ⟨by omega, by omega⟩, Int.toNat_natCast, if_pos (by omega), hw, m1 hk, QJ, ← hc, hv, hal, Bool.true_and]
      · rw [if_neg hk]
        unfold zJ
        simp only
        rw [qM, if_pos (by omega), hwg, Option.bind_some]
        rw [if_pos ⟨by omega, by omega⟩, Int.toNat_natCast, if_pos (by omega), hw, m2 hk, QJ, ← hc, hv, hal, Bool.true_and]) (by
      have hend : some (Sum.inr (α := List Bool × Int) (QH N (fun k => if 1 ≤ k ∧ k < N then Jt d s l n nx k else false))) = some (Sum.inr (QH N (Jt d s l n nx))) := by
        congr 2
        refine ZF fun k hk => ?_
        by_cases h : k = 0
        · subst h; simp [Jt]
        · rw [if_pos ⟨by omega, hk⟩]
      rw [hst]
      by_cases hk : n.Kind = 1
      · rw [if_pos hk]
        unfold zK
        simp only
        rw [qM, if_neg (by omega)]
        exact hend
      · rw [if_neg hk]
        unfold zJ
        simp only
        rw [qM, if_neg (by omega)]
        exact hend)
  rw [q1j]
  have e : (fun k : Nat => if 1 ≤ k ∧ k < 1 then Jt d s l n nx k else false) = fun _ => false := by funext k; rw [if_neg (by omega)]
  rw [e] at h1
  exact h1
end
end Go.Proofs.Ytgejdfnidjnjcaa.Vc
namespace Go.Proofs.Ytgejdfnidjnjcaa.Vc
open Go.RowKit
set_option linter.unusedVariables false
set_option linter.unusedSimpArgs false
section
variable {N : Nat} {best : Nat → Int} {M : Int}
theorem qgq (rF : (qb × List Int × List qa × Int × qd) → Option (List Bool × List Int × List qa × Int × qd)) (hN : N ≤ 65536) (hM : M ≤ 1000000) (hb : Bnd best N M) (w7 : List Int) (w9 : List Bool) (b0 : List qa) (b3 : Int) (b4 : qd) (b8 : qb) (own : Nat → Bool) (skip : Bool) (t72 : List qb) (t73 t74 : Int) :
    qN (qV rF w7 w9 (QH N best) b0 b3 b4 b8 (QH N own) skip t72 t73 t74 ((N : Nat) : Int)) (List.replicate N 0, 0) = some (QH N (stF skip own best)) := by
  have h1 := Zp (step := qV rF w7 w9 (QH N best) b0 b3 b4 b8 (QH N own) skip t72 t73 t74 ((N : Nat) : Int)) (fun i => (QH N (fun k => if k < i then stF skip own best k else 0), (i : Int))) 0 N (Nat.zero_le _) (e := QH N (stF skip own best)) (fun i _ hi => by
      have hbi := hb i hi
      have hw : w64 ((i : Int) + 1) = ((i + 1 : Nat) : Int) := qT hi (by omega)
      have hg : ∀ v : Int, v = (if skip = true then best i else -1) → q75 (q75 (fun k => if k < i then stF skip own best k else 0) i v) i (eaF own best i i i (q75 (fun k => if k < i then stF skip own best k else 0) i v i)) = fun k => if k < i + 1 then stF skip own best k else 0 := fun v hv => by
        funext k
        rw [q8J, q5g]
        unfold q75
        by_cases hk : k = i
        · subst hk
          rw [if_pos rfl, if_pos (by omega)]
          unfold stF
          rw [← hv]
        · rw [if_neg hk]
          show (if k < i then stF skip own best k else 0) = _
          by_cases h : k < i
          · rw [if_pos h, if_pos (by omega)]
          · rw [if_neg h, if_neg (by omega)]
      unfold qV
      simp only
      rw [if_pos (by omega), qM, if_pos ⟨by omega, by omega⟩, Int.toNat_natCast, if_pos (by omega)]
      cases hs : skip
      · simp only [Bool.false_eq_true, if_false]
        rw [QJ]
        unfold qF
        rw [qas hN hM hb (own := own) hi i i (Nat.le_refl _) (Nat.le_refl _), Option.bind_some, Option.bind_some, hw, ← hs, hg (-1) (by rw [hs]; rfl)]
      · simp only [if_true]
        rw [qM, if_pos ⟨by omega, by omega⟩, Zq best hi, Option.bind_some, if_pos ⟨by omega, by omega⟩, if_pos (by omega), QJ, QJ, q5g]
        unfold qF
        rw [qas hN hM hb (own := own) hi i i (Nat.le_refl _) (Nat.le_refl _), Option.bind_some, Option.bind_some, hw, ← hs, hg (best i) (by rw [hs]; rfl)]) (by
      unfold qV
      simp only
      rw [if_neg (by omega)]
      congr 2
      exact ZF fun k hk => if_pos hk)
  rw [q1j]
  have e : (fun k : Nat => if k < 0 then stF skip own best k else 0) = fun _ => 0 := by funext k; rw [if_neg (by omega)]
  rw [e] at h1
  exact h1
theorem qnb (rF : (qb × List Int × List qa × Int × qd) → Option (List Bool × List Int × List qa × Int × qd)) (hN : N ≤ 65536) (hN1 : 1 ≤ N) (w7 : List Int) (w9 : List Bool) (b0 : List qa) (b3 : Int) (b4 : qd) (b8 : qb) :
    qN (z6 rF w7 w9 b0 b3 b4 b8) (List.replicate N 0, 1) = some (QH N b0F) := by
  have h1 := Zp (step := z6 rF w7 w9 b0 b3 b4 b8) (fun i => (QH N (fun k => if 1 ≤ k ∧ k < i then -1 else 0), (i : Int))) 1 N hN1 (e := QH N b0F) (fun i h1 hi => by
      have hw : w64 ((i : Int) + 1) = ((i + 1 : Nat) : Int) := qT hi (by omega)
      unfold z6
      simp only
      rw [qM, if_pos (by omega), if_pos ⟨by omega, by omega⟩, Int.toNat_natCast, if_pos (by omega), hw, QJ]
      rw [qe4 (fun _ => (-1 : Int)) 0 h1]) (by
      unfold z6
      simp only
      rw [qM, if_neg (by omega)]
      congr 2
      refine ZF fun k hk => ?_
      unfold b0F
      by_cases h : k = 0
      · rw [if_pos h, if_neg (by omega)]
      · rw [if_neg h, if_pos (by omega)])
  rw [q1j]
  have e : (fun k : Nat => if 1 ≤ k ∧ k < 1 then (-1 : Int) else 0) = fun _ => 0 := by funext k; rw [if_neg (by omega)]
  rw [e] at h1
  exact h1
theorem qgz (rF : (qb × List Int × List qa × Int × qd) → Option (List Bool × List Int × List qa × Int × qd)) (hN : N ≤ 65536) (hN1 : 1 ≤ N) (w7 : List Int) (b0 : List qa) (b3 : Int) (b4 : qd) (least : Int) :
    qN (qW rF w7 (QH N best) b0 b3 b4 least) (List.replicate N false, 1) = some (QH N (fun k => decide (k ≠ 0) && decide (least ≤ best k))) := by
  have h1 := Zp (step := qW rF w7 (QH N best) b0 b3 b4 least) (fun i => (QH N (fun k => if 1 ≤ k ∧ k < i then decide (least ≤ best k) else false), (i : Int))) 1 N hN1 (e := QH N (fun k => decide (k ≠ 0) && decide (least ≤ best k))) (fun i h1 hi => by
      have hw : w64 ((i : Int) + 1) = ((i + 1 : Nat) : Int) := qT hi (by omega)
      unfold qW
      simp only
      rw [qM, qM, if_pos (by omega), if_pos ⟨by omega, by omega⟩, Int.toNat_natCast, Zq best hi, Option.bind_some, if_pos ⟨by omega, by omega⟩, if_pos (by omega), hw, QJ]
      rw [qe4 (fun k => decide (least ≤ best k)) false h1]) (by
      unfold qW
      simp only
      rw [qM, if_neg (by omega)]
      congr 2
      refine ZF fun k hk => ?_
      by_cases h : k = 0
      · subst h; simp
      · rw [if_pos ⟨by omega, hk⟩]; simp [h])
  rw [q1j]
  have e : (fun k : Nat => if 1 ≤ k ∧ k < 1 then decide (least ≤ best k) else false) = fun _ => false := by funext k; rw [if_neg (by omega)]
  rw [e] at h1
  exact h1
theorem qcI (rF : (qb × List Int × List qa × Int × qd) → Option (List Bool × List Int × List qa × Int × qd)) (d : List Int) (hd : d.length ≤ 16) (s : qd) (l : List qa) (hl : l.length ≤ 16) (n : qb) (hn : n.Set.length ≤ 1000000) (nx : Nat) (hnx : nx ≤ 1000000) (step : List Bool × Int → Option ((List Bool × Int) ⊕ List Bool))
    (hst : step = (if n.Kind = 1 then zI rF d l (nx : Int) s n else zm rF d l (nx : Int) s n)) (hN : N ≤ 65536) (hN1 : 1 ≤ N) :
    qN step (List.replicate N false, 1) = some (QH N (Jt d s l n nx)) := by
  have h1 := Zp (step := step) (fun i => (QH N (fun k => if 1 ≤ k ∧ k < i then Jt d s l n nx k else false), (i : Int))) 1 N hN1 (e := QH N (Jt d s l n nx)) (fun i h1 hi => by
      have hw : w64 ((i : Int) + 1) = ((i + 1 : Nat) : Int) := qT hi (by omega)
      have hc : QH N (q75 (fun k => if 1 ≤ k ∧ k < i then Jt d s l n nx k else false) i (Jt d s l n nx i)) = QH N (fun k => if 1 ≤ k ∧ k < i + 1 then Jt d s l n nx k else false) := by
        rw [qe4 (Jt d s l n nx) false h1]
      have hz : decide (i ≠ 0) = true := decide_eq_true (by omega)
      have hwg := qcU n (by omega) s l (by omega) i (by omega)
      have hal := qdZ d hd nx i (by omega)
      have hv : Jt d s l n nx i = (alF d nx i && q9D n (wgF n s i l 0 ld0)) := by unfold Jt; rw [hz]; simp
      have m1 : n.Kind = 1 → qx (wgF n s i l 0 ld0) n = q9D n (wgF n s i l 0 ld0) := fun hk => by
        unfold qx q9D
        rw [if_pos hk]
        cases (wgF n s i l 0 ld0).fine <;> simp
      have m2 : n.Kind ≠ 1 → qI (wgF n s i l 0 ld0) n = q9D n (wgF n s i l 0 ld0) := fun hk => by
        unfold qI q9D
        rw [if_neg hk]
        cases (wgF n s i l 0 ld0).fine
        · simp
        · by_cases h : 0 < (wgF n s i l 0 ld0).many <;> simp [h]
      rw [hst]
      by_cases hk : n.Kind = 1
      · rw [if_pos hk]
        unfold zI
        simp only
        rw [qM, if_pos (by omega), hal, Option.bind_some]
        cases ha : alF d nx i
        · rw [if_neg (by simp), if_pos ⟨by omega, by omega⟩, Int.toNat_natCast, if_pos (by omega), hw, QJ, ← hc, hv, ha, Bool.false_and]
        · rw [if_pos rfl, hwg, Option.bind_some, if_pos ⟨by omega, by omega⟩, Int.toNat_natCast, if_pos (by omega), hw, m1 hk, QJ, ← hc, hv, ha, Bool.true_and]
      · rw [if_neg hk]
        unfold zm
        simp only
        rw [qM, if_pos (by omega), hal, Option.bind_some]
        cases ha : alF d nx i
        · rw [if_neg (by simp), if_pos ⟨by omega, by omega⟩, Int.toNat_natCast, if_pos (by omega), hw, QJ, ← hc, hv, ha, Bool.false_and]
        · rw [if_pos rfl, hwg, Option.bind_some, if_pos ⟨by omega, by omega⟩, Int.toNat_natCast, if_pos (by omega), hw, m2 hk, QJ, ← hc, hv, ha, Bool.true_and]) (by
      have hend : some (Sum.inr (α := List Bool × Int) (QH N (fun k => if 1 ≤ k ∧ k < N then Jt d s l n nx k else false))) = some (Sum.inr (QH N (Jt d s l n nx))) := by
        congr 2
        refine ZF fun k hk => ?_
        by_cases h : k = 0
        · subst h; simp [Jt]
        · rw [if_pos ⟨by omega, hk⟩]
      rw [hst]
      by_cases hk : n.Kind = 1
      · rw [if_pos hk]
        unfold zI
        simp only
        rw [qM, if_neg (by omega)]
        exact hend
      · rw [if_neg hk]
        unfold zm
        simp only
        rw [qM, if_neg (by omega)]
        exact hend)
  rw [q1j]
  have e : (fun k : Nat => if 1 ≤ k ∧ k < 1 then Jt d s l n nx k else false) = fun _ => false := by funext k; rw [if_neg (by omega)]
  rw [e] at h1
  exact h1
end
end Go.Proofs.Ytgejdfnidjnjcaa.Vc
namespace Go.Proofs.Ytgejdfnidjnjcaa.Vc
open Go.RowKit
set_option linter.unusedVariables false
set_option linter.unusedSimpArgs false
theorem q9Q (N : Nat) (d : List Int) (s : qd) (l : List qa) (n : qb) (nx : Nat) : QH N (zH d s l n nx) = if n.Kind = 1 ∨ n.Kind = 2 then QH N (Jt d s l n nx) else QH N (fun k => decide (k ≠ 0) && decide ((if n.Kind = 3 then (n.L.length : Int) else n.N) ≤ q7y d s l (n.Kind == 4) n.L nx b0F k)) := by
  have : zH d s l n nx = fun k => zH d s l n nx k := rfl
  by_cases h : n.Kind = 1 ∨ n.Kind = 2
  · rw [if_pos h]; refine ZF fun k _ => ?_; rw [q8j, if_pos h]
  · rw [if_neg h]; refine ZF fun k _ => ?_; rw [q8j, if_neg h]
theorem qfZ (d : List Int) (hd : d = []) (s : qd) (l : List qa) (hl : l.length ≤ 16) (n : qb) (hLn : n.L.length ≤ 1000000)
    (hP : ∀ y ∈ n.L, ∀ nx : Nat, nx + (ndN y).length ≤ 100000 → qO (y, l, (nx : Int), s) = some (QH (2 ^ l.length) (zH d s l y nx), l, ((nx + lvN y : Nat) : Int), s)) (w9 : List Bool) :
    ∀ (r : List qb) (i nx : Nat) (best : Nat → Int) (M : Int), r.length + i = n.L.length → (∀ j, r[j]? = n.L[i + j]?) → nx + (ndL r).length ≤ 100000 → Bnd best (2 ^ l.length) M → 0 ≤ M → M + r.length ≤ 100000 →
    qN (zj qO w9 n n.L (n.L.length : Int)) (QH (2 ^ l.length) best, l, (nx : Int), s, (i : Int)) = some ((QH (2 ^ l.length) (q7y d s l (n.Kind == 4) r nx best), l, ((nx + lvL r : Nat) : Int), s)) := by
  intro r
  induction r with
  | nil =>
    intro i nx best M hi _ _ _ _ _
    have hi : i = n.L.length := by simpa using hi
    subst hi
    refine zt ?_
    unfold zj
    simp only
    rw [if_neg (by omega), lvL, Nat.add_zero]
    rfl
  | cons y r ih =>
    intro i nx best M hi hr hnx hb hM0 hM
    rw [ndL, List.length_append] at hnx
    have hlv := qe2 y
    simp only [List.length_cons, Int.natCast_add, Int.natCast_one] at hM hi
    have hget : n.L[i]? = some y := by have := hr 0; simpa using this.symm
    have hlt : i < n.L.length := Jd hget
    have hN : 2 ^ l.length ≤ 65536 := Nat.le_trans (Nat.pow_le_pow_right (by decide) hl) (by decide)
    have hN1 : 1 ≤ 2 ^ l.length := Nat.one_le_two_pow
    have hcall := hP y (List.mem_of_getElem? hget) nx (by omega)
    have hw : w64 ((i : Int) + 1) = ((i + 1 : Nat) : Int) := qT hlt (by omega)
    have hstep : zj qO w9 n n.L (n.L.length : Int) (QH (2 ^ l.length) best, l, (nx : Int), s, (i : Int)) = some (.inl (QH (2 ^ l.length) (stF (n.Kind == 4 && !foF d nx (nx + lvN y)) (zH d s l y nx) best), l, ((nx + lvN y : Nat) : Int), s, ((i + 1 : Nat) : Int))) := by
      unfold zj
      simp only
      rw [if_pos (by omega), if_pos ⟨by omega, by omega⟩, Int.toNat_natCast, hget, Option.bind_some, hcall, Option.bind_some]
      simp only [qM]
      have hfo : foF d nx (nx + lvN y) = false := by rw [hd]; rfl
      cases hk4 : (n.Kind == 4)
      · rw [if_neg (by simp), if_pos ⟨by omega, by omega, by omega⟩, qgs (M := M) qO hN (by omega) hb, Option.bind_some, hw, Bool.false_and]
      · rw [if_pos rfl, if_pos ⟨by omega, by omega, by omega⟩, qgs (M := M) qO hN (by omega) hb, Option.bind_some, hw, hfo]
        rfl
    rw [zV hstep, ih (i + 1) _ _ (M + 1) (by omega) (fun j => by rw [show i + 1 + j = i + (j + 1) by omega, ← hr (j + 1)]; rfl) (by omega) (qfF hb (by omega)) (by omega) (by omega)]
    rw [lvL, ← Nat.add_assoc]
    rfl
theorem qeT (d : List Int) (hd : d = []) (s : qd) (l : List qa) (hl : l.length ≤ 16) : ∀ (m : Nat) (n : qb), (ndN n).length ≤ m → (ndN n).length ≤ 10000 → (∀ y ∈ ndN n, y.Set.length ≤ 1000000) → ∀ nx : Nat, nx + (ndN n).length ≤ 100000 → qO (n, l, (nx : Int), s) = some (QH (2 ^ l.length) (zH d s l n nx), l, ((nx + lvN n : Nat) : Int), s) := by
  intro m
  induction m with
  | zero => intro n h; rw [Z3] at h; simp at h
  | succ m ih =>
    intro n h1 h2 h3 nx hnx
    have hN : 2 ^ l.length ≤ 65536 := Nat.le_trans (Nat.pow_le_pow_right (by decide) hl) (by decide)
    have hN1 : 1 ≤ 2 ^ l.length := Nat.one_le_two_pow
    have hlv := qe2 n
    have hset := h3 n (by rw [Z3]; exact List.mem_cons_self)
    have hsub : ∀ (L : List qb), (ndL L).length ≤ m → (ndL L).length ≤ 10000 → (∀ y ∈ ndL L, y.Set.length ≤ 1000000) → ∀ y ∈ L, ∀ nx : Nat, nx + (ndN y).length ≤ 100000 → qO (y, l, (nx : Int), s) = some (QH (2 ^ l.length) (zH d s l y nx), l, ((nx + lvN y : Nat) : Int), s) := by
      intro L
      induction L with
      | nil => intro _ _ _ y hy; simp at hy
      | cons x L ihl =>
        intro g1 g2 g3 y hy
        rw [ndL, List.length_append] at g1 g2
        rw [ndL] at g3
        rcases List.mem_cons.1 hy with rfl | hy
        · exact ih _ (by omega) (by omega) fun z hz => g3 z (List.mem_append_left _ hz)
        · exact ihl (by omega) (by omega) (fun z hz => g3 z (List.mem_append_right _ hz)) y hy
    have e0 : ndN n = n :: ndL n.L := Z3 n
    have hlen : (ndN n).length = (ndL n.L).length + 1 := by rw [e0]; rfl
    have hP := hsub n.L (by omega) (by omega) fun y hy => h3 y (by rw [e0]; exact List.mem_cons_of_mem _ hy)
    have hLlen : ∀ L : List qb, L.length ≤ (ndL L).length := fun L => by
      induction L with
      | nil => simp
      | cons x L ihL => rw [ndL, List.length_append, List.length_cons, Z3, List.length_cons]; omega
    have hLl := hLlen n.L
    have hpow : w64 ((1 : Int) * (2 : Int) ^ min l.length (IntKind.bits IntKind.i64)) = ((2 ^ l.length : Nat) : Int) := by
      rw [show min l.length (IntKind.bits IntKind.i64) = l.length from Nat.min_eq_left (by show l.length ≤ 64; omega), Int.one_mul, show ((2 : Int) ^ l.length) = ((2 ^ l.length : Nat) : Int) by simp]
      exact zZ (by omega) (by omega)
    rw [q2D, Qz]
    rw [hpow, if_pos (by omega), if_pos ⟨by omega, by omega, by omega⟩, Int.toNat_natCast, q7Y, q9Q]
    by_cases hlf : n.Kind = 1 ∨ n.Kind = 2
    · have e1 : q5L n = true := by unfold q5L; rcases hlf with h | h <;> simp [h]
      have e2 : lvN n = 1 := by rw [q8X, if_pos hlf]
      have hw2 : w64 ((nx : Int) + 1) = ((nx + 1 : Nat) : Int) := by rw [zZ (by omega) (by omega)]; omega
      rw [if_pos e1, if_pos hlf, e2]
      unfold QO
      by_cases hk : n.Kind = 1
      · have hlt := qcM qO d hd s l hl n hset nx (by omega) _ (if_pos hk).symm hN hN1
        rw [if_pos (by simpa using hk), Option.bind_some, Sum.elim_inl, hlt, Option.bind_some, hw2]
      · have hlt := qcM qO d hd s l hl n hset nx (by omega) _ (if_neg hk).symm hN hN1
        rw [if_neg (by simpa using hk), Option.bind_some, Sum.elim_inr, hlt, Option.bind_some, hw2]
    · have e1 : q5L n = false := by unfold q5L; have h1 : n.Kind ≠ 1 := fun h => hlf (.inl h); have h2 : n.Kind ≠ 2 := fun h => hlf (.inr h); simp [h1, h2]
      have e2 : lvN n = lvL n.L := by rw [q8X, if_neg hlf]
      have hb0 : Bnd b0F (2 ^ l.length) 0 := fun k _ => by unfold b0F; split <;> omega
      have hch := qfZ d hd s l hl n (by omega) hP (List.replicate (2 ^ l.length) false) n.L 0 nx b0F 0 (by simp) (by simp) (by omega) hb0 (by omega) (by omega)
      rw [e1, if_neg (by simp), if_neg hlf, e2, if_pos ⟨by omega, by omega, by omega⟩]
      rw [qnI qO hN hN1, Option.bind_some]
      change Option.bind (qN _ (QH (2 ^ l.length) b0F, l, (nx : Int), s, ((0 : Nat) : Int))) _ = _
      rw [hch, Option.bind_some]
      simp only
      by_cases hk : n.Kind = 3
      · rw [if_pos (by simpa using hk), qfx qO hN hN1, Option.bind_some]
        simp only [if_pos hk]
      · rw [if_neg (by simpa using hk), qfx qO hN hN1, Option.bind_some]
        simp only [if_neg hk]
theorem qeP (d : List Int) (hd : d.length ≤ 16) (s : qd) (l : List qa) (hl : l.length ≤ 16) (n : qb) (hLn : n.L.length ≤ 1000000)
    (hP : ∀ y ∈ n.L, ∀ nx : Nat, nx + (ndN y).length ≤ 100000 → qz (y, d, l, (nx : Int), s) = some (QH (2 ^ l.length) (zH d s l y nx), d, l, ((nx + lvN y : Nat) : Int), s)) (w9 : List Bool) :
    ∀ (r : List qb) (i nx : Nat) (best : Nat → Int) (M : Int), r.length + i = n.L.length → (∀ j, r[j]? = n.L[i + j]?) → nx + (ndL r).length ≤ 100000 → Bnd best (2 ^ l.length) M → 0 ≤ M → M + r.length ≤ 100000 →
    qN (qU qz w9 n n.L (n.L.length : Int)) (d, QH (2 ^ l.length) best, l, (nx : Int), s, (i : Int)) = some ((d, QH (2 ^ l.length) (q7y d s l (n.Kind == 4) r nx best), l, ((nx + lvL r : Nat) : Int), s)) := by
  intro r
  induction r with
  | nil =>
    intro i nx best M hi _ _ _ _ _
    have hi : i = n.L.length := by simpa using hi
    subst hi
    refine zt ?_
    unfold qU
    simp only
    rw [if_neg (by omega), lvL, Nat.add_zero]
    rfl
  | cons y r ih =>
    intro i nx best M hi hr hnx hb hM0 hM
    rw [ndL, List.length_append] at hnx
    have hlv := qe2 y
    simp only [List.length_cons, Int.natCast_add, Int.natCast_one] at hM hi
    have hget : n.L[i]? = some y := by have := hr 0; simpa using this.symm
    have hlt : i < n.L.length := Jd hget
    have hN : 2 ^ l.length ≤ 65536 := Nat.le_trans (Nat.pow_le_pow_right (by decide) hl) (by decide)
    have hN1 : 1 ≤ 2 ^ l.length := Nat.one_le_two_pow
    have hcall := hP y (List.mem_of_getElem? hget) nx (by omega)
    have hw : w64 ((i : Int) + 1) = ((i + 1 : Nat) : Int) := qT hlt (by omega)
    have hstep : qU qz w9 n n.L (n.L.length : Int) (d, QH (2 ^ l.length) best, l, (nx : Int), s, (i : Int)) = some (.inl (d, QH (2 ^ l.length) (stF (n.Kind == 4 && !foF d nx (nx + lvN y)) (zH d s l y nx) best), l, ((nx + lvN y : Nat) : Int), s, ((i + 1 : Nat) : Int))) := by
      unfold qU
      simp only
      rw [if_pos (by omega), if_pos ⟨by omega, by omega⟩, Int.toNat_natCast, hget, Option.bind_some, hcall, Option.bind_some]
      simp only [qM]
      cases hk4 : (n.Kind == 4)
      · rw [if_neg (by simp), if_pos ⟨by omega, by omega, by omega⟩, qgq (M := M) qz hN (by omega) hb, Option.bind_some, hw, Bool.false_and]
      · rw [if_pos rfl, qha d hd nx (nx + lvN y), Option.bind_some, if_pos ⟨by omega, by omega, by omega⟩, qgq (M := M) qz hN (by omega) hb, Option.bind_some, hw, Bool.true_and]
    rw [zV hstep, ih (i + 1) _ _ (M + 1) (by omega) (fun j => by rw [show i + 1 + j = i + (j + 1) by omega, ← hr (j + 1)]; rfl) (by omega) (qfF hb (by omega)) (by omega) (by omega)]
    rw [lvL, ← Nat.add_assoc]
    rfl
theorem qhb (d : List Int) (hd : d.length ≤ 16) (s : qd) (l : List qa) (hl : l.length ≤ 16) : ∀ (m : Nat) (n : qb), (ndN n).length ≤ m → (ndN n).length ≤ 10000 → (∀ y ∈ ndN n, y.Set.length ≤ 1000000) → ∀ nx : Nat, nx + (ndN n).length ≤ 100000 → qz (n, d, l, (nx : Int), s) = some (QH (2 ^ l.length) (zH d s l n nx), d, l, ((nx + lvN n : Nat) : Int), s) := by
  intro m
  induction m with
  | zero => intro n h; rw [Z3] at h; simp at h
  | succ m ih =>
    intro n h1 h2 h3 nx hnx
    have hN : 2 ^ l.length ≤ 65536 := Nat.le_trans (Nat.pow_le_pow_right (by decide) hl) (by decide)
    have hN1 : 1 ≤ 2 ^ l.length := Nat.one_le_two_pow
    have hlv := qe2 n
    have hset := h3 n (by rw [Z3]; exact List.mem_cons_self)
    have hsub : ∀ (L : List qb), (ndL L).length ≤ m → (ndL L).length ≤ 10000 → (∀ y ∈ ndL L, y.Set.length ≤ 1000000) → ∀ y ∈ L, ∀ nx : Nat, nx + (ndN y).length ≤ 100000 → qz (y, d, l, (nx : Int), s) = some (QH (2 ^ l.length) (zH d s l y nx), d, l, ((nx + lvN y : Nat) : Int), s) := by
      intro L
      induction L with
      | nil => intro _ _ _ y hy; simp at hy
      | cons x L ihl =>
        intro g1 g2 g3 y hy
        rw [ndL, List.length_append] at g1 g2
        rw [ndL] at g3
        rcases List.mem_cons.1 hy with rfl | hy
        · exact ih _ (by omega) (by omega) fun z hz => g3 z (List.mem_append_left _ hz)
        · exact ihl (by omega) (by omega) (fun z hz => g3 z (List.mem_append_right _ hz)) y hy
    have e0 : ndN n = n :: ndL n.L := Z3 n
    have hlen : (ndN n).length = (ndL n.L).length + 1 := by rw [e0]; rfl
    have hP := hsub n.L (by omega) (by omega) fun y hy => h3 y (by rw [e0]; exact List.mem_cons_of_mem _ hy)
    have hLlen : ∀ L : List qb, L.length ≤ (ndL L).length := fun L => by
      induction L with
      | nil => simp
      | cons x L ihL => rw [ndL, List.length_append, List.length_cons, Z3, List.length_cons]; omega
    have hLl := hLlen n.L
    have hpow : w64 ((1 : Int) * (2 : Int) ^ min l.length (IntKind.bits IntKind.i64)) = ((2 ^ l.length : Nat) : Int) := by
      rw [show min l.length (IntKind.bits IntKind.i64) = l.length from Nat.min_eq_left (by show l.length ≤ 64; omega), Int.one_mul, show ((2 : Int) ^ l.length) = ((2 ^ l.length : Nat) : Int) by simp]
      exact zZ (by omega) (by omega)
    rw [q1q, Q7]
    rw [hpow, if_pos (by omega), if_pos ⟨by omega, by omega, by omega⟩, Int.toNat_natCast, q7Y, q9Q]
    by_cases hlf : n.Kind = 1 ∨ n.Kind = 2
    · have e1 : q5L n = true := by unfold q5L; rcases hlf with h | h <;> simp [h]
      have e2 : lvN n = 1 := by rw [q8X, if_pos hlf]
      have hw2 : w64 ((nx : Int) + 1) = ((nx + 1 : Nat) : Int) := by rw [zZ (by omega) (by omega)]; omega
      rw [if_pos e1, if_pos hlf, e2]
      unfold QO
      by_cases hk : n.Kind = 1
      · have hlt := qcI qz d hd s l hl n hset nx (by omega) _ (if_pos hk).symm hN hN1
        rw [if_pos (by simpa using hk), Option.bind_some, Sum.elim_inl, hlt, Option.bind_some, hw2]
      · have hlt := qcI qz d hd s l hl n hset nx (by omega) _ (if_neg hk).symm hN hN1
        rw [if_neg (by simpa using hk), Option.bind_some, Sum.elim_inr, hlt, Option.bind_some, hw2]
    · have e1 : q5L n = false := by unfold q5L; have h1 : n.Kind ≠ 1 := fun h => hlf (.inl h); have h2 : n.Kind ≠ 2 := fun h => hlf (.inr h); simp [h1, h2]
      have e2 : lvN n = lvL n.L := by rw [q8X, if_neg hlf]
      have hb0 : Bnd b0F (2 ^ l.length) 0 := fun k _ => by unfold b0F; split <;> omega
      have hch := qeP d hd s l hl n (by omega) hP (List.replicate (2 ^ l.length) false) n.L 0 nx b0F 0 (by simp) (by simp) (by omega) hb0 (by omega) (by omega)
      rw [e1, if_neg (by simp), if_neg hlf, e2, if_pos ⟨by omega, by omega, by omega⟩]
      rw [qnb qz hN hN1, Option.bind_some]
      change Option.bind (qN _ (d, QH (2 ^ l.length) b0F, l, (nx : Int), s, ((0 : Nat) : Int))) _ = _
      rw [hch, Option.bind_some]
      simp only
      by_cases hk : n.Kind = 3
      · rw [if_pos (by simpa using hk), qgz qz hN hN1, Option.bind_some]
        simp only [if_pos hk]
      · rw [if_neg (by simpa using hk), qgz qz hN hN1, Option.bind_some]
        simp only [if_neg hk]
end Go.Proofs.Ytgejdfnidjnjcaa.Vc
namespace Go.Proofs.Ytgejdfnidjnjcaa.Vc
open Go.RowKit
set_option linter.unusedVariables false
set_option linter.unusedSimpArgs false
structure Jc (d : qh) : Prop where
  lo : 0 ≤ d.At
  hi : d.At ≤ d.L.length
  len : d.L.length ≤ 9223372036854775807
theorem q8v {d : qh} (h : Jc d) {most : Int} (h0 : 0 < most) (h1 : most ≤ 1000000) : ∃ v d', qm most d = some (v, d') ∧ 0 ≤ v ∧ v < most ∧ Jc d' := by
  obtain ⟨a, b, c⟩ := h
  unfold qm
  by_cases he : (d.L.length : Int) ≤ d.At
  · exact ⟨0, d, if_pos he, Int.le_refl _, h0, ⟨a, b, c⟩⟩
  · obtain ⟨x, hx⟩ : ∃ x, d.L[Int.toNat d.At]? = some x := ⟨_, List.getElem?_eq_getElem (by omega)⟩
    have e1 := Int.tmod_lt_of_pos x h0
    have e2 : -most < Int.tmod x most := by
      have := Int.tmod_lt_of_pos (-x) h0
      rw [Int.neg_tmod] at this; omega
    have e3 : w64 (Int.tmod x most + most) = Int.tmod x most + most := zZ (by omega) (by omega)
    have e4 := Int.tmod_lt_of_pos (Int.tmod x most + most) h0
    have e5 : 0 ≤ Int.tmod (Int.tmod x most + most) most := Int.tmod_nonneg _ (by omega)
    have e6 : w64 (d.At + 1) = d.At + 1 := zZ (by omega) (by omega)
    refine ⟨Int.tmod (Int.tmod x most + most) most, ⟨d.L, d.At + 1⟩, ?_, e5, e4, ⟨by show 0 ≤ d.At + 1; omega, by show d.At + 1 ≤ d.L.length; omega, c⟩⟩
    rw [if_neg he, if_pos ⟨a, by omega⟩, hx, Option.bind_some, if_neg (by omega), if_neg (by omega), e3, e6]
def q67 : List Int := [1, 1, 1, 2, 2, 3]
def q8R (c : qc) : Prop := c.School ∈ q67 ∧ c.Code ∈ qS
theorem qnt {α : Type} (l : List α) (i : Int) (h0 : 0 ≤ i) (h1 : i < l.length) : ∃ x, l[Int.toNat i]? = some x ∧ x ∈ l := ⟨l[Int.toNat i], List.getElem?_eq_getElem (by omega), List.getElem_mem _⟩
theorem qn5 {d : qh} (h : Jc d) : ∃ c d', Ja d = some (c, d') ∧ q8R c ∧ Jc d' := by
  obtain ⟨v, d1, e1, a1, b1, h1⟩ := q8v h (most := 6) (by omega) (by omega)
  obtain ⟨w, d2, e2, a2, b2, h2⟩ := q8v h1 (most := ((qS.length : Nat) : Int)) (by unfold qS; simp) (by unfold qS; simp)
  obtain ⟨x, hx, mx⟩ := qnt q67 v a1 (by simpa [q67] using b1)
  obtain ⟨y, hy, my⟩ := qnt qS w a2 b2
  refine ⟨⟨x, y⟩, d2, ?_, ⟨mx, my⟩, h2⟩
  unfold Ja
  rw [e1, Option.bind_some, if_pos ⟨a1, b1⟩]
  unfold q67 at hx
  rw [hx, Option.bind_some, e2, Option.bind_some, if_pos ⟨a2, b2⟩, hy, Option.bind_some]
theorem qe3 {c : qc} (h : q8R c) : Jr c = true := by
  obtain ⟨s, k⟩ := c
  obtain ⟨h1, h2⟩ := h
  have e1 : ∀ s ∈ q67, inF s 1 8 = true := by decide
  have e2 : ∀ k ∈ qS, qj7 k = true := by unfold qS; decide
  unfold Jr
  rw [e1 s h1, e2 k h2]; rfl
theorem qlh : ∀ (x y : List UInt8), Op.bytesLess x y = true ∨ x = y ∨ Op.bytesLess y x = true
  | [], [] => .inr (.inl rfl)
  | [], _ :: _ => .inl rfl
  | _ :: _, [] => .inr (.inr rfl)
  | a :: x, b :: y => by
    simp only [Op.bytesLess]
    by_cases h1 : a < b
    · simp [h1]
    · by_cases h2 : b < a
      · simp [h1, h2]
      · have : a = b := by
          apply UInt8.toNat_inj.1
          have h1' : ¬ a.toNat < b.toNat := h1
          have h2' : ¬ b.toNat < a.toNat := h2
          omega
        subst this
        rcases qlh x y with h | h | h <;> simp [h]
noncomputable def q1F (a b : qc) : Bool := zq a b
theorem qk1 (a b : qc) : q1F a b = decide (qnP a b < 0) := by
  unfold q1F zq qnP qjJ qsv
  by_cases h1 : a.School < b.School
  · rw [if_pos h1, if_pos (by omega), if_pos h1]; rfl
  · rw [if_neg h1]
    by_cases h2 : a.School = b.School
    · rw [if_pos (by simpa using h2), if_neg (fun h => h h2)]
      cases h3 : Op.bytesLess a.Code.toList b.Code.toList
      · cases h4 : (a.Code.toList == b.Code.toList) <;> simp
      · simp
    · rw [if_neg (by simpa using h2), if_pos h2, if_neg h1, if_pos (by omega)]; rfl
theorem qjH (a b : qc) : q1F a b = true ∨ ceq a b = true ∨ q1F b a = true := by
  unfold q1F zq ceq
  by_cases h1 : a.School < b.School
  · simp [h1]
  · by_cases h2 : b.School < a.School
    · simp [h2]
    · have h3 : a.School = b.School := by omega
      rcases qlh a.Code.toList b.Code.toList with h | h | h
      · left; simp [h3, h]
      · right; left; simp [h3, h]
      · right; right; simp [h3, h]
def qbM {α : Type} (l : List α) (k : Nat) (c : α) : List α := l.take k ++ c :: l.drop k
theorem qlb {α : Type} : ∀ (ys l : List α) (k : Nat), k + ys.length ≤ l.length → spl l k ys = l.take k ++ (ys ++ l.drop (k + ys.length))
  | [], l, k, _ => by rw [spl, List.length_nil, Nat.add_zero, List.nil_append, List.take_append_drop]
  | x :: ys, l, k, h => by
    simp only [List.length_cons] at h ⊢
    rw [spl, qlb ys (l.set k x) (k + 1) (by rw [List.length_set]; omega)]
    have e : l.set k x = l.take k ++ x :: l.drop (k + 1) := by rw [List.set_eq_take_append_cons_drop, if_pos (by omega)]
    have hl : (l.take k).length = k := by rw [List.length_take]; omega
    have e1 : (l.set k x).take (k + 1) = l.take k ++ [x] := by
      rw [e, List.take_append, hl, List.take_of_length_le (by omega), show k + 1 - k = 1 by omega]; rfl
    have e2 : (l.set k x).drop (k + 1 + ys.length) = l.drop (k + (ys.length + 1)) := by
      rw [e, List.drop_append, hl, List.drop_eq_nil_of_le (by omega), List.nil_append, show k + 1 + ys.length - k = ys.length + 1 by omega, List.drop_succ_cons, List.drop_drop]
      congr 1; omega
    rw [e1, e2, List.append_assoc]
    rfl
theorem qhc {α : Type} (l : List α) (z c : α) (k : Nat) (h : k < l.length) : List.set (spl (l ++ [z]) (k + 1) (List.take (min (l.length + 1 - k) (l.length + 1 - (k + 1))) (List.take (l.length + 1 - k) (List.drop k (l ++ [z]))))) k c = qbM l k c := by
  have e1 : List.take (min (l.length + 1 - k) (l.length + 1 - (k + 1))) (List.take (l.length + 1 - k) (List.drop k (l ++ [z]))) = l.drop k := by
    rw [List.take_take, List.drop_append_of_le_length (by omega), show min (min (l.length + 1 - k) (l.length + 1 - (k + 1))) (l.length + 1 - k) = l.length - k by omega, List.take_append_of_le_length (by rw [List.length_drop]; omega), List.take_of_length_le (by rw [List.length_drop]; omega)]
  rw [e1, qlb _ _ _ (by rw [List.length_drop, List.length_append, List.length_singleton]; omega)]
  unfold qbM
  have e2 : List.drop (k + 1 + (l.length - k)) (l ++ [z]) = [] := List.drop_eq_nil_of_le (by rw [List.length_append, List.length_singleton]; omega)
  rw [List.length_drop, e2, List.append_nil, List.take_append_of_le_length (by omega)]
  rw [List.take_add_one, List.getElem?_eq_getElem h, Option.toList_some, List.append_assoc, List.set_append_right _ _ (by rw [List.length_take]; omega), List.length_take, Nat.min_eq_left (by omega), Nat.sub_self]
  rfl
theorem qdK {α : Type} (l : List α) (z c : α) : List.set (l ++ [z]) l.length c = qbM l l.length c := by
  unfold qbM
  rw [List.set_append_right _ _ (Nat.le_refl _), Nat.sub_self, List.take_length, List.drop_length]
  rfl
end Go.Proofs.Ytgejdfnidjnjcaa.Vc
namespace Go.Proofs.Ytgejdfnidjnjcaa.Vc
open Go.RowKit
set_option linter.unusedVariables false
set_option linter.unusedSimpArgs false
structure q6E (l : List qc) : Prop where
  ok : ∀ c ∈ l, q8R c
  ord : qbA l = true
theorem q1J {x y : qc} {l : List qc} : qbA (x :: y :: l) = (q1F x y && qbA (y :: l)) := by rw [qbA, qk1]
theorem qfz {x : qc} {l : List qc} (h : qbA (x :: l) = true) : qbA l = true := by
  cases l with
  | nil => rfl
  | cons y l => rw [q1J, Bool.and_eq_true] at h; exact h.2
noncomputable def atF (l : List qc) (c : qc) : Nat := (l.takeWhile fun x => q1F x c).length
theorem qir (l : List qc) (c : qc) : atF l c ≤ l.length := by
  unfold atF
  induction l with
  | nil => simp
  | cons x l ih => rw [List.takeWhile_cons]; split <;> simp <;> omega
theorem qhg {c : qc} : ∀ {l : List qc}, qbA l = true → (∀ x, l[atF l c]? = some x → ceq x c = false) → qbA (qbM l (atF l c) c) = true
  | [], _, _ => rfl
  | x :: l, h, hc => by
    by_cases hx : q1F x c = true
    · have e : atF (x :: l) c = atF l c + 1 := by unfold atF; rw [List.takeWhile_cons, if_pos hx]; rfl
      rw [e] at hc ⊢
      have ih := qhg (qfz h) (fun y hy => hc y (by simpa using hy))
      have e2 : qbM (x :: l) (atF l c + 1) c = x :: qbM l (atF l c) c := rfl
      rw [e2]
      cases l with
      | nil => rw [show qbM ([] : List qc) (atF [] c) c = [c] from rfl, q1J, hx]; rfl
      | cons y l =>
        rw [q1J, Bool.and_eq_true] at h
        by_cases hy : q1F y c = true
        · have e3 : atF (y :: l) c = atF l c + 1 := by unfold atF; rw [List.takeWhile_cons, if_pos hy]; rfl
          rw [e3] at ih ⊢
          have e4 : qbM (y :: l) (atF l c + 1) c = y :: qbM l (atF l c) c := rfl
          rw [e4] at ih ⊢
          rw [q1J, h.1, ih]; rfl
        · have e3 : atF (y :: l) c = 0 := by unfold atF; rw [List.takeWhile_cons, if_neg hy]; rfl
          rw [e3] at ih ⊢
          have e4 : qbM (y :: l) 0 c = c :: y :: l := rfl
          rw [e4] at ih ⊢
          rw [q1J, hx, ih]; rfl
    · have e : atF (x :: l) c = 0 := by unfold atF; rw [List.takeWhile_cons, if_neg hx]; rfl
      rw [e] at hc ⊢
      have e2 : qbM (x :: l) 0 c = c :: x :: l := rfl
      rw [e2, q1J]
      have h1 := hc x (by simp)
      rcases qjH x c with h2 | h2 | h2
      · exact absurd h2 hx
      · rw [h2] at h1; cases h1
      · rw [h2, h]; rfl
theorem qlY (out : List qc) (hl : out.length ≤ 1000000) (d : qh) (c : qc) (many k : Int) : qN (Z1 out d c many k) 0 = some ((atF out c : Nat) : Int) := by
  have h1 := JA (ε := Int) (step := Z1 out d c many k) out (fun (_ : Unit) i => (i : Int)) (fun i _ x => if q1F x c = true then .inl () else .inr (i : Int)) (fun _ => (out.length : Int)) (fun _ i x hx => by
      have hi := Jd hx
      unfold Z1
      rw [if_pos (by omega), if_pos ⟨by omega, by omega⟩, Int.toNat_natCast, hx, Option.bind_some, qT hi (by omega)]
      show (if q1F x c = true then _ else _) = _
      cases q1F x c <;> simp) (fun _ => by
      unfold Z1
      rw [if_neg (by omega)]) ()
  rw [show ((0 : Nat) : Int) = 0 from rfl] at h1
  rw [h1]
  congr 1
  have : ∀ (l : List qc) (i : Nat) (n : Nat), i + l.length = n → q1b (ε := Int) (fun i (_ : Unit) (x : qc) => if q1F x c = true then .inl () else .inr (i : Int)) (fun _ => (n : Int)) l i () = ((i + atF l c : Nat) : Int) := by
    intro l
    induction l with
    | nil => intro i n h; simp at h; unfold q1b atF; simp [h]
    | cons x l ih =>
      intro i n h
      simp only [List.length_cons] at h
      unfold q1b
      by_cases hx : q1F x c = true
      · have e : atF (x :: l) c = atF l c + 1 := by unfold atF; rw [List.takeWhile_cons, if_pos hx]; rfl
        simp only [hx, if_true]
        rw [ih (i + 1) n (by omega), e]
        omega
      · have e : atF (x :: l) c = 0 := by unfold atF; rw [List.takeWhile_cons, if_neg hx]; rfl
        have hx' : q1F x c = false := by simpa using hx
        simp only [hx', Bool.false_eq_true, if_false]
        rw [e]; rfl
  have := this out 0 out.length (by simp)
  simpa using this
noncomputable def qc7 (l : List qc) (c : qc) : List qc := if (l[atF l c]?).any (fun x => ceq x c) = true then l else qbM l (atF l c) c
theorem qbE (l : List qc) (c : qc) : l.length ≤ (qc7 l c).length ∧ (qc7 l c).length ≤ l.length + 1 ∧ 1 ≤ (qc7 l c).length := by
  have h := qir l c
  unfold qc7
  split
  · rename_i h2
    refine ⟨Nat.le_refl _, by omega, ?_⟩
    cases l with
    | nil => simp at h2
    | cons x l => simp
  · unfold qbM
    simp only [List.length_append, List.length_cons, List.length_take, List.length_drop]
    omega
theorem qiV {l : List qc} {c : qc} (h : q6E l) (hc : q8R c) : q6E (qc7 l c) := by
  unfold qc7
  split
  · exact h
  · rename_i h2
    refine ⟨fun x hx => ?_, qhg h.ord fun x hx => ?_⟩
    · unfold qbM at hx
      rcases List.mem_append.1 hx with hx | hx
      · exact h.ok x (List.mem_of_mem_take hx)
      · rcases List.mem_cons.1 hx with rfl | hx
        · exact hc
        · exact h.ok x (List.mem_of_mem_drop hx)
    · rw [hx] at h2
      simpa using h2
theorem qhv (out : List qc) (hl : out.length ≤ 1000) {d : qh} (hd : Jc d) (many : Int) (k : Nat) (hk : (k : Int) < many) (hk2 : k ≤ 1000) : ∃ c d', q8R c ∧ Jc d' ∧ Qr many (out, d, (k : Int)) = some (.inl (qc7 out c, d', ((k + 1 : Nat) : Int))) := by
  obtain ⟨c, d', h1, h2, h3⟩ := qn5 hd
  refine ⟨c, d', h2, h3, ?_⟩
  have hML : 100000 ≤ maxLen := by unfold maxLen; omega
  have hat := qir out c
  unfold Qr
  simp only
  rw [if_pos hk, h1, Option.bind_some]
  simp only
  rw [qlY out (by omega), Option.bind_some]
  have hwk : w64 ((k : Int) + 1) = ((k + 1 : Nat) : Int) := by rw [zZ (by omega) (by omega)]; omega
  have hwa : w64 (((atF out c : Nat) : Int) + 1) = ((atF out c + 1 : Nat) : Int) := by rw [zZ (by omega) (by omega)]; omega
  rw [hwk, hwa]
  simp only [Int.toNat_natCast, List.length_take, List.length_drop, List.length_append, List.length_cons, List.length_nil]
  unfold qc7
  by_cases hlt : atF out c < out.length
  · obtain ⟨x, hx⟩ : ∃ x, out[atF out c]? = some x := ⟨_, List.getElem?_eq_getElem hlt⟩
    rw [if_pos (by omega), if_pos ⟨by omega, by omega⟩, hx, Option.bind_some]
    simp only [Option.any_some]
    by_cases hc : ceq x c = true
    · have hc2 := hc
      unfold ceq at hc2
      simp only [Bool.and_eq_true] at hc2
      rw [if_pos hc2, if_pos hc]
    · have hc2 : ¬ ((x.School == c.School) = true ∧ (x.Code.toList == c.Code.toList) = true) := fun h => hc (by unfold ceq; rw [h.1, h.2]; rfl)
      rw [if_neg hc2, if_neg hc]
      repeat (first | rw [if_pos (by omega)] | rw [if_neg (by omega)])
      rw [qhc _ _ _ _ hlt]
  · have he : atF out c = out.length := by omega
    have hnone : out[out.length]? = none := List.getElem?_eq_none (Nat.le_refl _)
    rw [he, hnone]
    simp only [Option.any_none, Bool.false_eq_true, if_false]
    repeat (first | rw [if_pos (by omega)] | rw [if_neg (by omega)])
    rw [qdK]
theorem qvB {d : qh} (hd : Jc d) : ∃ S d', QB d = some (S, d') ∧ Jc d' ∧ q6E S ∧ 1 ≤ S.length ∧ S.length ≤ 3 := by
  obtain ⟨v, d1, e1, a1, b1, h1⟩ := q8v hd (most := 3) (by omega) (by omega)
  obtain ⟨m, rfl⟩ : ∃ m : Nat, v = (m : Int) := ⟨v.toNat, by omega⟩
  have hw : w64 (1 + (m : Int)) = ((m + 1 : Nat) : Int) := by rw [zZ (by omega) (by omega)]; omega
  have key : ∀ (j k : Nat) (out : List qc) (d : qh), j + k = m + 1 → Jc d → q6E out → out.length ≤ k → (1 ≤ k → 1 ≤ out.length) → ∃ S d', qN (Qr ((m + 1 : Nat) : Int)) (out, d, (k : Int)) = some (S, d') ∧ Jc d' ∧ q6E S ∧ 1 ≤ S.length ∧ S.length ≤ m + 1 := by
    intro j
    induction j with
    | zero =>
      intro k out d hk hd hs hl1 hl2
      refine ⟨out, d, zt ?_, hd, hs, hl2 (by omega), by omega⟩
      unfold Qr
      simp only
      rw [if_neg (by omega)]
    | succ j ih =>
      intro k out d hk hd hs hl1 hl2
      obtain ⟨c, d', g1, g2, g3⟩ := qhv out (by omega) hd ((m + 1 : Nat) : Int) k (by omega) (by omega)
      obtain ⟨p1, p2, p3⟩ := qbE out c
      rw [zV g3]
      exact ih (k + 1) _ d' (by omega) g2 (qiV hs g1) (by omega) (fun _ => p3)
  obtain ⟨S, d', g1, g2, g3, g4, g5⟩ := key (m + 1) 0 [] d1 (by omega) h1 ⟨by simp, rfl⟩ (by simp) (by omega)
  refine ⟨S, d', ?_, g2, g3, g4, by omega⟩
  unfold QB
  rw [e1, Option.bind_some, hw]
  rw [show ((0 : Nat) : Int) = 0 from rfl] at g1
  simp only
  rw [g1, Option.bind_some]
end Go.Proofs.Ytgejdfnidjnjcaa.Vc
namespace Go.Proofs.Ytgejdfnidjnjcaa.Vc
open Go.RowKit
set_option linter.unusedVariables false
set_option linter.unusedSimpArgs false
structure q86 (n : qb) : Prop where
  kd : (n.Kind = 2 ∧ 1 ≤ n.N ∧ n.N ≤ 12) ∨ (n.Kind = 1 ∧ n.N = 0)
  mn : 0 ≤ n.Min ∧ n.Min ≤ 80
  st : q6E n.Set
  s1 : 1 ≤ n.Set.length
  s3 : n.Set.length ≤ 3
  nl : n.L = []
structure qb2 (n : qb) : Prop where
  kd : (n.Kind = 3 ∧ n.N = 0) ∨ (n.Kind = 4 ∧ 1 ≤ n.N ∧ n.N ≤ n.L.length)
  mn : n.Min = 0
  st : n.Set = []
  ne : n.L ≠ []
def q2u (n : qb) : Prop := q86 n ∨ qb2 n
structure q00 (deep leaves : Nat) (n : qb) : Prop where
  ok : ∀ y ∈ ndN n, q2u y
  hg : hgN n ≤ deep + 1
  l1 : 1 ≤ lvN n
  l2 : lvN n ≤ max 1 leaves
  nd : (ndN n).length ≤ lvN n * (deep + 1)
theorem q8F {n : qb} (h : q86 n) (deep leaves : Nat) : q00 deep leaves n := by
  have e1 : ndN n = [n] := by rw [Z3, h.nl, ndL]
  have e2 : lvN n = 1 := by rw [q8X, if_pos]; rcases h.kd with h | h <;> simp [h.1]
  have e3 : hgN n = 1 := by rw [q9E, h.nl, hgL]
  refine ⟨fun y hy => ?_, by omega, by omega, by omega, ?_⟩
  · rw [e1] at hy
    rw [List.mem_singleton.1 hy]; exact .inl h
  · rw [e1, e2, List.length_singleton]; omega
noncomputable def qic (d : qh) : Option (qb × qh) := Option.bind (qm (3 : Int) d) fun a3 => if (a3.1 == (0 : Int)) = Bool.true then Option.bind (qm (12 : Int) a3.2) fun a4 => Option.bind (qm (3 : Int) a4.2) fun a5 => if (0 : Int) ≤ a5.1 ∧ a5.1 < (3 : Int) then Option.bind [(0 : Int), (50 : Int), (60 : Int)][Int.toNat a5.1]? fun a6 => Option.bind (QB a5.2) fun a7 => some (qb.mk (2 : Int) (w64 ((1 : Int) + a4.1)) a6 a7.1 [], a7.2) else none else Option.bind (qm (4 : Int) a3.2) fun a8 => if (0 : Int) ≤ a8.1 ∧ a8.1 < (4 : Int) then Option.bind [(0 : Int), (50 : Int), (60 : Int), (80 : Int)][Int.toNat a8.1]? fun a9 => Option.bind (QB a8.2) fun a10 => some (qb.mk (1 : Int) (0 : Int) a9 a10.1 [], a10.2) else none
theorem qcH {d : qh} (hd : Jc d) : ∃ n d', qic d = some (n, d') ∧ q86 n ∧ Jc d' := by
  obtain ⟨v, d1, e1, a1, b1, h1⟩ := q8v hd (most := 3) (by omega) (by omega)
  unfold qic
  rw [e1, Option.bind_some]
  simp only
  by_cases hv : v = 0
  · obtain ⟨w, d2, e2, a2, b2, h2⟩ := q8v h1 (most := 12) (by omega) (by omega)
    obtain ⟨u, d3, e3, a3, b3, h3⟩ := q8v h2 (most := 3) (by omega) (by omega)
    obtain ⟨x, hx, mx⟩ := qnt [(0 : Int), 50, 60] u a3 (by simpa using b3)
    obtain ⟨S, d4, e4, h4, s1, s2, s3⟩ := qvB h3
    have hw : w64 (1 + w) = 1 + w := zZ (by omega) (by omega)
    have hm : ∀ x ∈ [(0 : Int), 50, 60], 0 ≤ x ∧ x ≤ 80 := by decide
    refine ⟨⟨2, 1 + w, x, S, []⟩, d4, ?_, ⟨.inl ⟨rfl, by show 1 ≤ 1 + w; omega, by show 1 + w ≤ 12; omega⟩, hm x mx, s1, s2, s3, rfl⟩, h4⟩
    rw [if_pos (by simp [hv]), e2, Option.bind_some]
    simp only
    rw [e3, Option.bind_some]
    simp only
    rw [if_pos ⟨a3, b3⟩, hx, Option.bind_some, e4, Option.bind_some, hw]
  · obtain ⟨u, d3, e3, a3, b3, h3⟩ := q8v h1 (most := 4) (by omega) (by omega)
    obtain ⟨x, hx, mx⟩ := qnt [(0 : Int), 50, 60, 80] u a3 (by simpa using b3)
    obtain ⟨S, d4, e4, h4, s1, s2, s3⟩ := qvB h3
    have hm : ∀ x ∈ [(0 : Int), 50, 60, 80], 0 ≤ x ∧ x ≤ 80 := by decide
    refine ⟨⟨1, 0, x, S, []⟩, d4, ?_, ⟨.inr ⟨rfl, rfl⟩, hm x mx, s1, s2, s3, rfl⟩, h4⟩
    rw [if_neg (by simpa using hv), e3, Option.bind_some]
    simp only
    rw [if_pos ⟨a3, b3⟩, hx, Option.bind_some, e4, Option.bind_some]
theorem q7d (rF : (Int × Int × qh) → Option (qb × qh)) (x1 x2 : Int) (v : qh) : ZX rF (x1, x2, v) = (qm 6 v).bind fun a2 =>
    if x1 ≤ 0 then qic a2.2 else if x2 < 2 then qic a2.2 else if a2.1 < 2 then qic a2.2 else
    Option.bind (qm (min (3 : Int) x2) a2.2) fun a27 =>
    Option.bind (qN (zN rF (0 : Int) (0 : Int) (0 : Int) (3 : Int) (0 : Int) (0 : Int) x1 x2 a2.1 (w64 ((1 : Int) + a27.1))) ([], (a27.2, (0 : Int)))) fun a28 =>
    if (3 : Int) < a2.1 then Option.bind (qm (w64 ((1 : Int) + a27.1)) a28.2) fun a29 =>
      some (qb.mk (4 : Int) (w64 ((1 : Int) + a29.1)) (0 : Int) [] a28.1, a29.2)
    else some (qb.mk (3 : Int) (0 : Int) (0 : Int) [] a28.1, a28.2) := rfl
theorem qeL {deep q : Nat} (hq : 1 ≤ q) : ∀ (L : List qb), (∀ y ∈ L, q00 deep q y) → hgL L ≤ deep + 1 ∧ L.length ≤ lvL L ∧ lvL L ≤ L.length * q ∧ (ndL L).length ≤ lvL L * (deep + 1) ∧ ∀ y ∈ ndL L, q2u y
  | [], _ => ⟨by simp [hgL], by simp [lvL], by simp [lvL], by simp [ndL], by simp [ndL]⟩
  | x :: L, h => by
    obtain ⟨a, b, c, d, e⟩ := qeL hq L fun y hy => h y (List.mem_cons_of_mem _ hy)
    obtain ⟨f, g, i, j, k⟩ := h x List.mem_cons_self
    rw [Nat.max_eq_right hq] at j
    refine ⟨?_, ?_, ?_, ?_, ?_⟩
    · rw [hgL]; omega
    · rw [lvL, List.length_cons]; omega
    · rw [lvL, List.length_cons, Nat.add_mul]; omega
    · rw [ndL, lvL, List.length_append, Nat.add_mul]; omega
    · rw [ndL]
      intro y hy
      rcases List.mem_append.1 hy with hy | hy
      · exact f y hy
      · exact e y hy
theorem q9N {n : qb} (h : qb2 n) {deep leaves q : Nat} (hq : 1 ≤ q) (hk : n.L.length * q ≤ leaves) (hL : ∀ y ∈ n.L, q00 deep q y) : q00 (deep + 1) leaves n := by
  obtain ⟨a, b, c, d, e⟩ := qeL hq n.L hL
  have hlen : 1 ≤ n.L.length := by cases hn : n.L with | nil => exact absurd hn h.ne | cons x l => simp
  have e2 : lvN n = lvL n.L := by rw [q8X, if_neg]; rcases h.kd with h | h <;> simp [h.1]
  refine ⟨fun y hy => ?_, ?_, by omega, by omega, ?_⟩
  · rw [Z3] at hy
    rcases List.mem_cons.1 hy with rfl | hy
    · exact .inr h
    · exact e y hy
  · rw [q9E]; omega
  · rw [Z3, List.length_cons, e2, show deep + 1 + 1 = (deep + 1) + 1 from rfl, Nat.mul_add]; omega
theorem qme : ∀ (deep leaves : Nat) (d : qh), deep ≤ 10 → leaves ≤ 100 → Jc d → ∃ n d', QW ((deep : Int), (leaves : Int), d) = some (n, d') ∧ q00 deep leaves n ∧ Jc d' := by
  intro deep
  induction deep with
  | zero =>
    intro leaves d _ _ hd
    obtain ⟨v, d1, e1, a1, b1, h1⟩ := q8v hd (most := 6) (by omega) (by omega)
    obtain ⟨n, d', g1, g2, g3⟩ := qcH h1
    refine ⟨n, d', ?_, q8F g2 _ _, g3⟩
    rw [q3N, q7d, e1, Option.bind_some, if_pos (by omega)]
    exact g1
  | succ deep ih =>
    intro leaves d hdp hlv hd
    obtain ⟨v, d1, e1, a1, b1, h1⟩ := q8v hd (most := 6) (by omega) (by omega)
    obtain ⟨n0, d0, g1, g2, g3⟩ := qcH h1
    rw [q3N, q7d, e1, Option.bind_some, if_neg (by omega)]
    by_cases hl : leaves < 2
    · exact ⟨n0, d0, by rw [if_pos (by omega)]; exact g1, q8F g2 _ _, g3⟩
    · rw [if_neg (by omega)]
      by_cases hv : v < 2
      · exact ⟨n0, d0, by rw [if_pos hv]; exact g1, q8F g2 _ _, g3⟩
      · rw [if_neg hv]
        clear g1 g2 g3 n0 d0
        obtain ⟨w, d2, e2, a2, b2, h2⟩ := q8v h1 (most := min 3 (leaves : Int)) (by omega) (by omega)
        simp only
        rw [e2, Option.bind_some]
        simp only
        obtain ⟨m, hm⟩ : ∃ m : Nat, (m : Int) = 1 + w := ⟨(1 + w).toNat, by omega⟩
        have hw : w64 (1 + w) = (m : Int) := by rw [zZ (by omega) (by omega)]; omega
        rw [hw]
        have hm1 : 1 ≤ m := by omega
        have hm3 : m ≤ 3 := by omega
        have hml : m ≤ leaves := by omega
        obtain ⟨q, hq⟩ : ∃ q, q = leaves / m := ⟨_, rfl⟩
        have hq1 : 1 ≤ q := by rw [hq]; exact (Nat.le_div_iff_mul_le (by omega)).2 (by omega)
        have hqm : m * q ≤ leaves := by rw [hq]; exact Nat.mul_div_le _ _
        have hq2 : q ≤ leaves := by rw [hq]; exact Nat.div_le_self _ _
        have hML : 100000 ≤ maxLen := by unfold maxLen; omega
        have hdiv : w64 (Int.tdiv (leaves : Int) (m : Int)) = (q : Int) := by
          rw [← Int.ofNat_tdiv, ← hq, zZ (by omega) (by omega)]
        have hdeep : w64 (((deep + 1 : Nat) : Int) - 1) = (deep : Int) := by rw [zZ (by omega) (by omega)]; omega
        have key : ∀ (j i : Nat) (l : List qb) (d : qh), j + i = m → l.length = i → (∀ y ∈ l, q00 deep q y) → Jc d → ∃ l' d', qN (zN QW 0 0 0 3 0 0 ((deep + 1 : Nat) : Int) (leaves : Int) v (m : Int)) (l, d, (i : Int)) = some (l', d') ∧ l'.length = m ∧ (∀ y ∈ l', q00 deep q y) ∧ Jc d' := by
          intro j
          induction j with
          | zero =>
            intro i l d hi hl hy hd
            refine ⟨l, d, zt ?_, by omega, hy, hd⟩
            unfold zN
            simp only
            rw [if_neg (by omega)]
          | succ j ihj =>
            intro i l d hi hl hy hd
            obtain ⟨n, d', q1, q2, q3⟩ := ih q d (by omega) (by omega) hd
            have hs : zN QW 0 0 0 3 0 0 ((deep + 1 : Nat) : Int) (leaves : Int) v (m : Int) (l, d, (i : Int)) = some (.inl (l ++ [n], d', ((i + 1 : Nat) : Int))) := by
              unfold zN
              simp only
              rw [if_pos (by omega), if_neg (by omega), hdiv, hdeep, q1, Option.bind_some]
              simp only
              rw [if_pos ⟨by omega, by omega⟩, zZ (by omega) (by omega)]
              rfl
            rw [zV hs]
            refine ihj (i + 1) (l ++ [n]) d' (by omega) (by simp [hl]) (fun y hy2 => ?_) q3
            rcases List.mem_append.1 hy2 with h | h
            · exact hy y h
            · rw [List.mem_singleton.1 h]; exact q2
        obtain ⟨l, d3, q1, q2, q3, q4⟩ := key m 0 [] d2 (by omega) rfl (by simp) h2
        rw [show ((0 : Nat) : Int) = 0 from rfl] at q1
        rw [q1, Option.bind_some]
        have hne : l ≠ [] := fun h => by rw [h] at q2; simp at q2; omega
        by_cases hv3 : (3 : Int) < v
        · obtain ⟨u, d4, e4, a4, b4, h4⟩ := q8v q4 (most := (m : Int)) (by omega) (by omega)
          have hwu : w64 (1 + u) = 1 + u := zZ (by omega) (by omega)
          simp only
          rw [if_pos hv3, e4, Option.bind_some, hwu]
          exact ⟨_, d4, rfl, q9N (q := q) ⟨.inr ⟨rfl, by show 1 ≤ 1 + u; omega, by show 1 + u ≤ (l.length : Int); omega⟩, rfl, rfl, hne⟩ hq1 (by show l.length * q ≤ leaves; rw [q2]; exact hqm) q3, h4⟩
        · simp only
          rw [if_neg hv3]
          exact ⟨_, d3, rfl, q9N (q := q) ⟨.inl ⟨rfl, rfl⟩, rfl, rfl, hne⟩ hq1 (by show l.length * q ≤ leaves; rw [q2]; exact hqm) q3, q4⟩
theorem qml (l : List Int) (hl : l.length ≤ 9223372036854775807) : ∃ n, q0q l = some n ∧ q00 3 6 n := by
  obtain ⟨n, d', h1, h2, h3⟩ := qme 3 6 ⟨l, 0⟩ (by omega) (by omega) ⟨by show (0 : Int) ≤ 0; omega, by show (0 : Int) ≤ (l.length : Int); omega, hl⟩
  refine ⟨n, ?_, h2⟩
  unfold q0q
  change Option.bind (QW (((3 : Nat) : Int), ((6 : Nat) : Int), ⟨l, 0⟩)) _ = _
  rw [h1, Option.bind_some]
theorem qaW {n : qb} (h : q86 n) : q0i n = 0 := by
  have h1 := h.s1
  have h3 := h.s3
  have hm := h.mn
  have e1 : inF n.Min (-1000) 1000 = true := by unfold inF; simp; omega
  have e2 : inF n.Set.length 1 12 = true := by unfold inF; simp; omega
  have e3 : n.Set.all Jr = true := List.all_eq_true.2 fun c hc => qe3 (h.st.ok c hc)
  unfold q0i
  rw [e1, e2, e3, h.st.ord]
  simp
theorem qgK {n : qb} (h : q2u n) : qaH n = 0 := by
  unfold qaH
  rcases h with h | h
  · have hc := qaW h
    rcases h.kd with ⟨k, a, b⟩ | ⟨k, a⟩
    · have e : inF n.N 1 600 = true := by unfold inF; simp; omega
      simp [k, h.nl, e, hc]
    · simp [k, h.nl, a, hc]
  · have hb : q7o n = true := by
      unfold q7o
      rw [h.mn, h.st]
      cases hL : n.L with
      | nil => exact absurd hL h.ne
      | cons x l => rfl
    rcases h.kd with ⟨k, a⟩ | ⟨k, a, b⟩
    · simp [k, hb, a]
    · have e : inF n.N 1 n.L.length = true := by unfold inF; simp; omega
      simp [k, hb, e]
theorem qd7 : ∀ (l : List qb), (∀ y ∈ l, qaH y = 0) → qnM l = none
  | [], _ => rfl
  | x :: l, h => by
    unfold qnM
    rw [List.findSome?_cons, h x List.mem_cons_self]
    simp only [ne_eq, not_true_eq_false, if_false]
    exact qd7 l fun y hy => h y (List.mem_cons_of_mem _ hy)
theorem quA : ∀ (n : qb) (d m : Int), dpN d n m ≤ max m (d + hgN n - 1) := by
  intro n
  induction n using qb.rec (motive_2 := fun L => ∀ (d m : Int), dpL d L m ≤ max m (d + hgL L - 1)) with
  | mk k n m S L ih =>
    intro d mm
    rw [dpN, hgN]
    have := ih (d + 1) (max mm d)
    omega
  | nil => rename_i d m; rw [dpL]; omega
  | cons x L h1 h2 =>
    rename_i d m
    rw [dpL, hgL]
    have a := h1 d m
    have b := h2 d (dpN d x m)
    omega
theorem q8n : ∀ (n : qb), (∀ y ∈ ndN n, q2u y) → ((ndN n).filter J3).length = lvN n := by
  intro n
  induction n using qb.rec (motive_2 := fun L => (∀ y ∈ ndL L, q2u y) → ((ndL L).filter J3).length = lvL L) with
  | mk k n m S L ih =>
    intro h
    rw [ndN] at h ⊢
    have h0 := h _ List.mem_cons_self
    have hr := ih fun y hy => h y (List.mem_cons_of_mem _ hy)
    rw [List.filter_cons, lvN]
    rcases h0 with h0 | h0
    · have e : L = [] := h0.nl
      subst e
      have e1 : k = 1 ∨ k = 2 := by rcases h0.kd with h | h; exact .inr h.1; exact .inl h.1
      have e2 : J3 ⟨k, n, m, S, []⟩ = true := by unfold J3; rcases e1 with rfl | rfl <;> rfl
      rw [if_pos e2, if_pos e1]
      simp [ndL]
    · have e1 : k = 3 ∨ k = 4 := by rcases h0.kd with h | h; exact .inl h.1; exact .inr h.1
      have e2 : J3 ⟨k, n, m, S, L⟩ = false := by unfold J3; rcases e1 with rfl | rfl <;> rfl
      rw [e2, if_neg (by simp), if_neg (by omega), hr]
  | nil => simp [ndL, lvL]
  | cons x L h1 h2 =>
    rename_i h
    rw [ndL] at h ⊢
    rw [lvL, List.filter_append, List.length_append, h1 fun y hy => h y (List.mem_append_left _ hy), h2 fun y hy => h y (List.mem_append_right _ hy)]
theorem q7R {n : qb} (h : ∀ y ∈ ndN n, q2u y) : ∀ y ∈ ndN n, y.Set.length ≤ 1000000 := fun y hy => by
  rcases h y hy with h | h
  · have := h.s3; omega
  · rw [h.st]; simp
theorem q9R {n : qb} (h : q00 3 6 n) : QV n = some 0 := by
  have h1 := h.hg
  have h2 := h.l1
  have h3 := h.l2
  have h4 := h.nd
  rw [qjZ n (by omega) (by omega) (q7R h.ok)]
  unfold qge
  have hf := q8n n h.ok
  have hd := quA n 1 0
  have e : inF ((ndN n).filter J3).length 1 8 = true := by unfold inF; rw [hf]; simp; omega
  rw [if_neg (by omega), if_neg (by omega), e, if_neg (by simp), qd7 _ fun y hy => qgK (h.ok y hy)]
  rfl
theorem q8f {n : qb} (h : q00 3 6 n) (s : qd) (l : List qa) (hl : l.length ≤ 10) : Zc n s l = some (QH (2 ^ l.length) (zH [] s l n 0), 0) := by
  have h3 := h.l2
  have h4 := h.nd
  unfold Zc
  rw [q9R h, Option.bind_some, if_neg (by simp), if_neg (by omega)]
  unfold q0c
  have := qeT [] rfl s l (by omega) _ n (Nat.le_refl _) (by omega) (q7R h.ok) 0 (by omega)
  rw [show ((0 : Nat) : Int) = 0 from rfl] at this
  rw [this, Option.bind_some, Option.bind_some]
end Go.Proofs.Ytgejdfnidjnjcaa.Vc
namespace Go.Proofs.Ytgejdfnidjnjcaa.Vc
open Go.RowKit
set_option linter.unusedVariables false
set_option linter.unusedSimpArgs false
theorem qc4 (x y : Nat) : (x &&& y) / 2 = (x / 2) &&& (y / 2) := by
  apply Nat.eq_of_testBit_eq
  intro i
  rw [Nat.testBit_div_two, Nat.testBit_and, Nat.testBit_and, Nat.testBit_div_two, Nat.testBit_div_two]
theorem qcm (x y : Nat) : (x &&& y) % 2 = if x % 2 = 1 ∧ y % 2 = 1 then 1 else 0 := by
  have h : (x &&& y).testBit 0 = (x.testBit 0 && y.testBit 0) := Nat.testBit_and x y 0
  rw [Nat.testBit_zero, Nat.testBit_zero, Nat.testBit_zero] at h
  have h1 : x % 2 < 2 := Nat.mod_lt _ (by decide)
  have h2 : y % 2 < 2 := Nat.mod_lt _ (by decide)
  have h3 : (x &&& y) % 2 < 2 := Nat.mod_lt _ (by decide)
  by_cases hx : x % 2 = 1
  · by_cases hy : y % 2 = 1
    · rw [if_pos ⟨hx, hy⟩]
      simpa [hx, hy] using h
    · rw [if_neg (fun h => hy h.2)]
      have : ¬ (x &&& y) % 2 = 1 := by simpa [hx, hy] using h
      omega
  · rw [if_neg (fun h => hx h.1)]
    have : ¬ (x &&& y) % 2 = 1 := by simpa [hx] using h
    omega
theorem qiI : ∀ (sub set t : Nat), sub &&& set = sub → t &&& set = t → t < sub → t ≤ (sub - 1) &&& set := by
  intro sub
  induction sub using Nat.strongRecOn with
  | _ sub ih =>
    intro set t hs ht hlt
    have hs2 := qc4 sub set
    have hsm := qcm sub set
    have ht2 := qc4 t set
    have htm := qcm t set
    rw [hs] at hs2 hsm
    rw [ht] at ht2 htm
    have hr2 := qc4 (sub - 1) set
    have hrm := qcm (sub - 1) set
    by_cases hodd : sub % 2 = 1
    · have e : (sub - 1) / 2 = sub / 2 := by omega
      rw [e, ← hs2] at hr2
      have e2 : (sub - 1) % 2 = 0 := by omega
      rw [if_neg (by omega)] at hrm
      omega
    · have hpos : sub / 2 ≠ 0 := by omega
      have e : (sub - 1) / 2 = sub / 2 - 1 := by omega
      rw [e] at hr2
      have hlt2 : t / 2 < sub / 2 := by omega
      have := ih (sub / 2) (by omega) (set / 2) (t / 2) hs2.symm ht2.symm hlt2
      have hset : set % 2 < 2 := Nat.mod_lt _ (by decide)
      have e3 : (sub - 1) % 2 = 1 := by omega
      by_cases hm : set % 2 = 1
      · rw [if_pos ⟨e3, hm⟩] at hrm
        have : t % 2 < 2 := Nat.mod_lt _ (by decide)
        omega
      · rw [if_neg (fun h => hm h.2)] at hrm htm
        omega
structure IsB (own : Nat → Bool) (best : Nat → Int) (set : Nat) (base v : Int) : Prop where
  ge : base ≤ v
  all : ∀ t, t ≠ 0 → t &&& set = t → own t = true → 0 ≤ best (J2 set t) → best (J2 set t) + 1 ≤ v
  is : v = base ∨ ∃ t, t ≠ 0 ∧ t &&& set = t ∧ own t = true ∧ 0 ≤ best (J2 set t) ∧ v = best (J2 set t) + 1
theorem qrv {own : Nat → Bool} {best : Nat → Int} {set : Nat} : ∀ (f sub : Nat) (v : Int), sub ≤ f → sub &&& set = sub → v ≤ eaF own best set f sub v ∧ (∀ t, t ≠ 0 → t &&& set = t → t ≤ sub → own t = true → 0 ≤ best (J2 set t) → best (J2 set t) + 1 ≤ eaF own best set f sub v) ∧
    (eaF own best set f sub v = v ∨ ∃ t, t ≠ 0 ∧ t &&& set = t ∧ own t = true ∧ 0 ≤ best (J2 set t) ∧ eaF own best set f sub v = best (J2 set t) + 1) := by
  intro f
  induction f with
  | zero =>
    intro sub v hf _
    have : sub = 0 := by omega
    subst this
    exact ⟨Int.le_refl _, fun t h1 _ h3 => by omega, .inl rfl⟩
  | succ f ih =>
    intro sub v hf hs
    unfold eaF
    by_cases hz : sub = 0
    · rw [if_pos hz]
      exact ⟨Int.le_refl _, fun t h1 _ h3 => by omega, .inl rfl⟩
    · rw [if_neg hz]
      have ha : (sub - 1) &&& set ≤ sub - 1 := Nat.and_le_left
      have hb : ((sub - 1) &&& set) &&& set = (sub - 1) &&& set := by rw [Nat.and_assoc, Nat.and_self]
      obtain ⟨i1, i2, i3⟩ := ih ((sub - 1) &&& set) (eaV own best set sub v) (by omega) hb
      have hv : v ≤ eaV own best set sub v := by unfold eaV; split <;> omega
      refine ⟨by omega, fun t h1 h2 h3 h4 h5 => ?_, ?_⟩
      · by_cases e : t = sub
        · subst e
          have : best (J2 set t) + 1 ≤ eaV own best set t v := by unfold eaV; rw [if_pos ⟨h4, h5⟩]; omega
          omega
        · exact i2 t h1 h2 (qiI sub set t hs h2 (by omega)) h4 h5
      · rcases i3 with e | h
        · by_cases hc : own sub = true ∧ 0 ≤ best (J2 set sub)
          · have e2 : eaV own best set sub v = max v (best (J2 set sub) + 1) := by unfold eaV; rw [if_pos hc]
            by_cases hm : v ≤ best (J2 set sub) + 1
            · exact .inr ⟨sub, hz, hs, hc.1, hc.2, by rw [e, e2]; omega⟩
            · exact .inl (by rw [e, e2]; omega)
          · exact .inl (by rw [e]; unfold eaV; rw [if_neg hc])
        · exact .inr h
theorem qgv (skip : Bool) (own : Nat → Bool) (best : Nat → Int) (set : Nat) : IsB own best set (if skip = true then best set else -1) (stF skip own best set) := by
  obtain ⟨h1, h2, h3⟩ := qrv (own := own) (best := best) (set := set) set set (if skip = true then best set else -1) (Nat.le_refl _) (Nat.and_self _)
  refine ⟨h1, fun t t1 t2 t3 t4 => h2 t t1 t2 ?_ t3 t4, h3⟩
  rw [← t2]; exact Nat.and_le_right
theorem qf1 {w m j : Nat} (h : m < 2 ^ w) (hj : m.testBit j = true) : j < w := by
  rcases Nat.lt_or_ge j w with h1 | h1
  · exact h1
  · rw [Nat.testBit_lt_two_pow (Nat.lt_of_lt_of_le h (Nat.pow_le_pow_right (by decide) h1))] at hj
    cases hj
def qeH (n : qb) (s : qd) (x : ql) (a : qa) : ql := ⟨w64 (x.many + 1), w64 (x.credits + a.Credits), x.fine && qdQ n s a⟩
def q3n {α : Type} (p : Nat → Bool) : List α → List α
  | [] => []
  | a :: l => (if p 0 = true then [a] else []) ++ q3n (fun j => p (j + 1)) l
theorem qcf (n : qb) (s : qd) (set : Nat) : ∀ (l : List qa) (k : Nat) (x : ql), wgF n s set l k x = (q3n (fun j => set.testBit (k + j)) l).foldl (qeH n s) x
  | [], k, x => rfl
  | a :: l, k, x => by
    rw [wgF, q3n, qcf n s set l (k + 1), List.foldl_append, show (fun j => set.testBit (k + (j + 1))) = fun j => set.testBit (k + 1 + j) from funext fun j => by rw [Nat.add_right_comm, Nat.add_assoc]]
    congr 1
    cases set.testBit (k + 0) <;> simp [qeH]
theorem q6v {α : Type} : ∀ {l : List α} {p q : Nat → Bool}, (∀ j, j < l.length → p j = q j) → q3n p l = q3n q l
  | [], _, _, _ => rfl
  | a :: l, p, q, h => by
    rw [q3n, q3n, h 0 (by simp), q6v fun j hj => h (j + 1) (by simpa using hj)]
theorem q8e {α : Type} : ∀ (l : List α) (a : α) (p : Nat → Bool), q3n p (l ++ [a]) = q3n p l ++ (if p l.length = true then [a] else [])
  | [], a, p => by simp [q3n]
  | b :: l, a, p => by rw [List.cons_append, q3n, q8e l a, q3n, List.append_assoc]; rfl
end Go.Proofs.Ytgejdfnidjnjcaa.Vc
namespace Go.Proofs.Ytgejdfnidjnjcaa.Vc
open Go.RowKit
set_option linter.unusedVariables false
set_option linter.unusedSimpArgs false
def qdf (n : qb) (s : qd) (l : List qa) (p : Nat → Bool) : ql := (q3n p l).foldl (qeH n s) ld0
mutual
def q1H (s : qd) (l : List qa) (a : Nat → Int) : qb → Nat → Bool × Bool
  | ⟨k, n, m, S, L⟩, nx => if k = 1 ∨ k = 2 then ((qdf ⟨k, n, m, S, L⟩ s l (fun j => a j == (nx : Int))).many == 0, q9D ⟨k, n, m, S, L⟩ (qdf ⟨k, n, m, S, L⟩ s l (fun j => a j == (nx : Int))))
    else ((q0y s l a (k == 3) L nx).1, !(q0y s l a (k == 3) L nx).2.2 && decide (n ≤ ((q0y s l a (k == 3) L nx).2.1 : Int)))
def q0y (s : qd) (l : List qa) (a : Nat → Int) (al : Bool) : List qb → Nat → Bool × Nat × Bool
  | [], _ => (true, 0, false)
  | x :: L, nx => ((q1H s l a x nx).1 && (q0y s l a al L (nx + lvN x)).1, (if (q1H s l a x nx).2 = true then 1 else 0) + (q0y s l a al L (nx + lvN x)).2.1,
      (!(q1H s l a x nx).2 && (!(q1H s l a x nx).1 || al)) || (q0y s l a al L (nx + lvN x)).2.2)
end
theorem q4Y (s : qd) (l : List qa) (a : Nat → Int) (n : qb) (nx : Nat) : q1H s l a n nx = if n.Kind = 1 ∨ n.Kind = 2 then ((qdf n s l (fun j => a j == (nx : Int))).many == 0, q9D n (qdf n s l (fun j => a j == (nx : Int))))
    else ((q0y s l a (n.Kind == 3) n.L nx).1, !(q0y s l a (n.Kind == 3) n.L nx).2.2 && decide (n.N ≤ ((q0y s l a (n.Kind == 3) n.L nx).2.1 : Int))) := by
  cases n; rw [q1H]
structure q0z (n : qb) : Prop where
  kind : n.Kind = 1 ∨ n.Kind = 2 ∨ n.Kind = 3 ∨ n.Kind = 4
  all : n.Kind = 3 → n.N ≤ (n.L.length : Int) ∧ n.L ≠ []
  some : n.Kind = 4 → 1 ≤ n.N
theorem qak (n : qb) : n ∈ ndN n := by rw [Z3]; exact List.mem_cons_self ..
theorem q5Q (s : qd) (l : List qa) (a b : Nat → Int) : ∀ (n : qb) (nx : Nat), (∀ k, k < l.length → ∀ x : Int, (nx : Int) ≤ x → x < ((nx + lvN n : Nat) : Int) → (a k = x ↔ b k = x)) → q1H s l a n nx = q1H s l b n nx := by
  intro n
  induction n using qb.rec (motive_2 := fun L => ∀ (al : Bool) (nx : Nat), (∀ k, k < l.length → ∀ x : Int, (nx : Int) ≤ x → x < ((nx + lvL L : Nat) : Int) → (a k = x ↔ b k = x)) → q0y s l a al L nx = q0y s l b al L nx) with
  | mk k n m S L ih =>
    intro nx h
    rw [q4Y, q4Y]
    rw [lvN] at h
    by_cases hk : k = 1 ∨ k = 2
    · rw [if_pos hk] at h
      rw [if_pos hk, if_pos hk]
      have : q3n (fun j => a j == (nx : Int)) l = q3n (fun j => b j == (nx : Int)) l := q6v fun j hj => by
        have := h j hj nx (Int.le_refl _) (by omega)
        by_cases e : a j = nx
        · rw [e, this.1 e]
        · have e' : ¬ b j = nx := fun e2 => e (this.2 e2)
          rw [beq_eq_false_iff_ne.2 e, beq_eq_false_iff_ne.2 e']
      unfold qdf
      rw [this]
    · rw [if_neg hk] at h
      rw [if_neg hk, if_neg hk]
      simp only
      rw [ih _ nx h]
  | nil => rw [q0y, q0y]
  | cons x L h1 h2 =>
    rename_i al nx h
    rw [lvL] at h
    rw [q0y, q0y, h1 nx (fun k hk y hy hy2 => h k hk y hy (by omega)), h2 al (nx + lvN x) (fun k hk y hy hy2 => h k hk y (by omega) (by omega))]
theorem qbp (n : qb) (s : qd) : ∀ (L : List qa) (x : ql), 0 ≤ x.many → x.many + L.length ≤ 9223372036854775807 → (L.foldl (qeH n s) x).many = x.many + L.length
  | [], x, _, _ => by simp
  | a :: L, x, h0, h => by
    rw [List.length_cons] at h
    have hw : w64 (x.many + 1) = x.many + 1 := zZ (by omega) (by omega)
    rw [List.foldl_cons, qbp n s L (qeH n s x a) (by unfold qeH; simp only; omega) (by unfold qeH; simp only; omega), List.length_cons]
    unfold qeH
    simp only
    omega
theorem qar {α : Type} : ∀ (l : List α) (p : Nat → Bool), (q3n p l).length ≤ l.length
  | [], _ => by simp [q3n]
  | a :: l, p => by
    have := qar l (fun j => p (j + 1))
    rw [q3n, List.length_append, List.length_cons]
    split <;> simp <;> omega
theorem qag {α : Type} : ∀ (l : List α) (p : Nat → Bool), (q3n p l).length = 0 ↔ ∀ k, k < l.length → p k = false
  | [], _ => by simp [q3n]
  | a :: l, p => by
    have ih := qag l (fun j => p (j + 1))
    rw [q3n, List.length_append]
    constructor
    · intro h k hk
      cases k with
      | zero => by_cases e : p 0 = true
                · rw [if_pos e] at h; simp at h
                · simpa using e
      | succ k => exact ih.1 (by omega) k (by simpa using hk)
    · intro h
      rw [ih.2 fun k hk => h (k + 1) (by simpa using hk), if_neg (by rw [h 0 (by simp)]; decide)]
      try rfl
theorem qhM (n : qb) (s : qd) (l : List qa) (hl : l.length ≤ 62) (p : Nat → Bool) : (qdf n s l p).many = ((q3n p l).length : Int) := by
  have := qar l p
  unfold qdf
  rw [qbp n s _ _ (by decide) (by show (0 : Int) + _ ≤ _; omega)]
  show (0 : Int) + _ = _
  omega
theorem q5d (s : qd) (l : List qa) (hl : l.length ≤ 62) (a : Nat → Int) : ∀ (n : qb) (nx : Nat), (q1H s l a n nx).1 = true ↔ ∀ k, k < l.length → ¬((nx : Int) ≤ a k ∧ a k < ((nx + lvN n : Nat) : Int)) := by
  intro n
  induction n using qb.rec (motive_2 := fun L => ∀ (al : Bool) (nx : Nat), (q0y s l a al L nx).1 = true ↔ ∀ k, k < l.length → ¬((nx : Int) ≤ a k ∧ a k < ((nx + lvL L : Nat) : Int))) with
  | mk k n m S L ih =>
    intro nx
    rw [q4Y, lvN]
    by_cases hk : k = 1 ∨ k = 2
    · rw [if_pos hk, if_pos hk]
      simp only
      rw [qhM _ _ _ hl, beq_iff_eq, show (((q3n (fun j => a j == (nx : Int)) l).length : Int) = 0) ↔ (q3n (fun j => a j == (nx : Int)) l).length = 0 from by omega, qag]
      constructor
      · intro h k hk h2
        have := beq_eq_false_iff_ne.1 (h k hk)
        omega
      · intro h k hk
        have := h k hk
        exact beq_eq_false_iff_ne.2 (by omega)
    · rw [if_neg hk, if_neg hk]
      exact ih _ nx
  | nil => rename_i al nx; rw [q0y, lvL]; simp only [true_iff]; intro k hk; omega
  | cons x L h1 h2 =>
    rename_i al nx
    rw [q0y, lvL, Bool.and_eq_true, h1, h2]
    constructor
    · intro h k hk
      have a1 := h.1 k hk
      have a2 := h.2 k hk
      omega
    · intro h
      exact ⟨fun k hk => by have := h k hk; omega, fun k hk => by have := h k hk; omega⟩
theorem qcg (s : qd) (l : List qa) (a : Nat → Int) : ∀ (n : qb) (nx : Nat), (∀ y ∈ ndN n, q0z y) → (q1H s l a n nx).2 = true → (q1H s l a n nx).1 = false := by
  intro n
  induction n using qb.rec (motive_2 := fun L => ∀ (al : Bool) (nx : Nat), (∀ y ∈ ndL L, q0z y) → (q0y s l a al L nx).1 = true → (q0y s l a al L nx).2.1 = 0 ∧ (al = true → (q0y s l a al L nx).2.2 = false → L = [])) with
  | mk k n m S L ih =>
    intro nx hf h
    have hn := hf _ (qak _)
    rw [q4Y] at h ⊢
    by_cases hk : k = 1 ∨ k = 2
    · rw [if_pos hk] at h ⊢
      simp only at h ⊢
      generalize qdf ⟨k, n, m, S, L⟩ s l (fun j => a j == (nx : Int)) = x at h
      unfold q9D at h
      simp only at h
      refine beq_eq_false_iff_ne.2 fun e => ?_
      rw [e] at h
      split at h <;> simp at h
    · rw [if_neg hk] at h ⊢
      simp only at h ⊢
      refine Bool.eq_false_iff.2 fun e => ?_
      obtain ⟨h1, h2⟩ := ih (k == 3) nx (fun y hy => hf y (by rw [ndN]; exact List.mem_cons_of_mem _ hy)) e
      rw [Bool.and_eq_true, h1, decide_eq_true_eq] at h
      rcases hn.kind with q | q | q | q
      · exact hk (.inl q)
      · exact hk (.inr q)
      · simp only at q
        subst q
        exact (hn.all rfl).2 (h2 (by decide) (by simpa using h.1))
      · have := hn.some q
        simp only at this
        omega
  | nil => rename_i al nx _ _; rw [q0y]; exact ⟨rfl, fun _ _ => rfl⟩
  | cons x L h1 h2 =>
    rename_i al nx hf h
    rw [q0y] at h ⊢
    simp only at h ⊢
    rw [Bool.and_eq_true] at h
    have hx : (q1H s l a x nx).2 = false := by
      refine Bool.eq_false_iff.2 fun e => ?_
      have := h1 nx (fun y hy => hf y (by rw [ndL]; exact List.mem_append_left _ hy)) e
      rw [this] at h
      exact absurd h.1 (by decide)
    obtain ⟨h3, h4⟩ := h2 al (nx + lvN x) (fun y hy => hf y (by rw [ndL]; exact List.mem_append_right _ hy)) h.2
    rw [hx, h3]
    refine ⟨by simp, fun ha hw => ?_⟩
    rw [ha] at hw
    simp at hw
end Go.Proofs.Ytgejdfnidjnjcaa.Vc
namespace Go.Proofs.Ytgejdfnidjnjcaa.Vc
open Go.RowKit
set_option linter.unusedVariables false
set_option linter.unusedSimpArgs false
def mkS (p : Nat → Bool) : Nat → Nat
  | 0 => 0
  | n + 1 => mkS p n ||| (if p n = true then 2 ^ n else 0)
theorem qau (p : Nat → Bool) : ∀ (n k : Nat), (mkS p n).testBit k = (decide (k < n) && p k)
  | 0, k => by simp [mkS]
  | n + 1, k => by
    rw [mkS, Nat.testBit_or, qau p n k]
    by_cases e : k = n
    · subst e
      by_cases hp : p k = true
      · rw [if_pos hp, Nat.testBit_two_pow]; simp [hp]
      · rw [if_neg hp]; simp [Bool.eq_false_iff.2 hp]
    · have h1 : (if p n = true then 2 ^ n else 0).testBit k = false := by
        split
        · rw [Nat.testBit_two_pow]; exact decide_eq_false (fun h => e h.symm)
        · exact Nat.zero_testBit k
      rw [h1, Bool.or_false]
      have : decide (k < n + 1) = decide (k < n) := by
        by_cases h : k < n
        · rw [decide_eq_true h, decide_eq_true (by omega)]
        · rw [decide_eq_false h, decide_eq_false (by omega)]
      rw [this]
theorem qkN (p : Nat → Bool) (n : Nat) : mkS p n < 2 ^ n := Nat.lt_pow_two_of_testBit _ fun i hi => by
  rw [qau, decide_eq_false (by omega)]; rfl
theorem qfi (leaf : Int) (set : Nat) : ∀ (d : List Int) (i : Nat), alG leaf set d i = true ↔ ∀ (k : Nat) (x : Int), d[k]? = some x → (set.testBit (i + k) = true ↔ x = leaf)
  | [], i => by simp [alG]
  | y :: d, i => by
    rw [alG, Bool.and_eq_true, qfi leaf set d (i + 1), beq_iff_eq]
    constructor
    · intro h k x hx
      cases k with
      | zero =>
        simp only [List.getElem?_cons_zero, Option.some.injEq] at hx
        subst hx
        rw [Nat.add_zero, h.1, beq_iff_eq]
      | succ k =>
        rw [List.getElem?_cons_succ] at hx
        have := h.2 k x hx
        rwa [Nat.add_right_comm, Nat.add_assoc] at this
    · intro h
      refine ⟨?_, fun k x hx => ?_⟩
      · have := h 0 y (by simp)
        rw [Nat.add_zero] at this
        by_cases e : y = leaf
        · rw [this.2 e, beq_iff_eq.2 e]
        · rw [beq_eq_false_iff_ne.2 e]; exact Bool.eq_false_iff.2 fun h2 => e (this.1 h2)
      · have := h (k + 1) x (by rw [List.getElem?_cons_succ]; exact hx)
        rwa [show i + 1 + k = i + (k + 1) from by omega]
theorem qlD (d : List Int) (leaf set : Nat) : alF d leaf set = true ↔ ∀ (k : Nat) (x : Int), d[k]? = some x → (set.testBit k = true ↔ x = (leaf : Int)) := by
  unfold alF
  rw [qfi]
  simp only [Nat.zero_add]
theorem qgY (d : List Int) (a b : Nat) : foF d a b = true ↔ ∃ (k : Nat) (x : Int), d[k]? = some x ∧ (a : Int) ≤ x ∧ x < (b : Int) := by
  unfold foF
  rw [List.any_eq_true]
  constructor
  · rintro ⟨x, hx, h⟩
    obtain ⟨k, hk⟩ := List.mem_iff_getElem?.1 hx
    rw [Bool.and_eq_true, decide_eq_true_eq, decide_eq_true_eq] at h
    exact ⟨k, x, hk, h⟩
  · rintro ⟨k, x, hk, h⟩
    exact ⟨x, List.mem_iff_getElem?.2 ⟨k, hk⟩, by rw [Bool.and_eq_true, decide_eq_true_eq, decide_eq_true_eq]; exact h⟩
structure Asg (d : List Int) (a : Nat → Int) (lo w set : Nat) : Prop where
  inn : ∀ k, set.testBit k = true → (lo : Int) ≤ a k ∧ a k < ((lo + w : Nat) : Int)
  out : ∀ k, set.testBit k = false → a k = -1
  com : ∀ k y, d[k]? = some y → ∀ x : Int, (lo : Int) ≤ x → x < ((lo + w : Nat) : Int) → (y = x ↔ a k = x)
theorem Asg.bit {d : List Int} {a : Nat → Int} {lo w set : Nat} (h : Asg d a lo w set) (k : Nat) (h1 : (lo : Int) ≤ a k) : set.testBit k = true := by
  by_cases e : set.testBit k = true
  · exact e
  · have := h.out k (Bool.eq_false_iff.2 e)
    omega
theorem q6i (s : qd) (l : List qa) (a b : Nat → Int) (al : Bool) : ∀ (L : List qb) (nx : Nat), (∀ k, k < l.length → ∀ x : Int, (nx : Int) ≤ x → x < ((nx + lvL L : Nat) : Int) → (a k = x ↔ b k = x)) → q0y s l a al L nx = q0y s l b al L nx
  | [], nx, _ => by rw [q0y, q0y]
  | x :: L, nx, h => by
    rw [lvL] at h
    rw [q0y, q0y, q5Q s l a b x nx (fun k hk y hy hy2 => h k hk y hy (by omega)), q6i s l a b al L (nx + lvN x) (fun k hk y hy hy2 => h k hk y (by omega) (by omega))]
theorem qcK (s : qd) (l : List qa) (a : Nat → Int) : ∀ (L : List qb) (nx : Nat), (q0y s l a true L nx).2.2 = false → (q0y s l a true L nx).2.1 = L.length
  | [], nx, _ => by rw [q0y]; rfl
  | x :: L, nx, h => by
    rw [q0y] at h ⊢
    simp only at h ⊢
    rw [Bool.or_eq_false_iff] at h
    have hx : (q1H s l a x nx).2 = true := by
      have := h.1
      rw [Bool.or_true, Bool.and_true] at this
      simpa using this
    rw [if_pos hx, qcK s l a L _ h.2, List.length_cons]
    omega
theorem qb9 (set : Nat) : J2 set 0 = set := Nat.eq_of_testBit_eq fun i => by rw [zB]; simp
theorem qaI {t s : Nat} (h : t &&& s = t) {k : Nat} (hk : t.testBit k = true) : s.testBit k = true := by
  rw [← h, Nat.testBit_and, Bool.and_eq_true] at hk
  exact hk.2
theorem qd8 {t s : Nat} (h : ∀ k, t.testBit k = true → s.testBit k = true) : t &&& s = t := Nat.eq_of_testBit_eq fun i => by
  rw [Nat.testBit_and]
  by_cases e : t.testBit i = true
  · rw [e, h i e]; rfl
  · rw [Bool.eq_false_iff.2 e]; rfl
theorem qiL (d : List Int) (s : qd) (l : List qa) (n : qb) (hk : n.Kind = 1 ∨ n.Kind = 2) (nx set : Nat) (hlt : set < 2 ^ l.length) (hl : l.length ≤ 62) :
    Jt d s l n nx set = true ↔ ∃ a, Asg d a nx 1 set ∧ q9D n (qdf n s l (fun j => a j == (nx : Int))) = true := by
  have key : ∀ a, Asg d a nx 1 set → qdf n s l (fun j => a j == (nx : Int)) = wgF n s set l 0 ld0 := fun a ha => by
    rw [qcf]
    unfold qdf
    rw [q6v (p := fun j => a j == (nx : Int)) (q := fun j => set.testBit (0 + j)) fun j hj => ?_]
    rw [Nat.zero_add]
    by_cases e : set.testBit j = true
    · have := ha.inn j e
      rw [e, beq_iff_eq]
      omega
    · rw [Bool.eq_false_iff.2 e, ha.out j (Bool.eq_false_iff.2 e)]
      exact beq_eq_false_iff_ne.2 (by omega)
  unfold Jt
  rw [Bool.and_eq_true, Bool.and_eq_true, decide_eq_true_eq, qlD]
  constructor
  · rintro ⟨h0, h1, h2⟩
    have ha : Asg d (fun k => if set.testBit k = true then (nx : Int) else -1) nx 1 set := {
      inn := fun k hk => by simp only [hk, if_true]; omega
      out := fun k hk => by simp only [hk]; rfl
      com := fun k y hy x hx hx2 => by
        have e : x = nx := by omega
        subst e
        rw [← h1 k y hy]
        show set.testBit k = true ↔ (if set.testBit k = true then (nx : Int) else -1) = (nx : Int)
        by_cases e : set.testBit k = true
        · rw [if_pos e]; exact ⟨fun _ => rfl, fun _ => e⟩
        · rw [if_neg e]; exact ⟨fun h => absurd h e, fun h => by omega⟩ }
    exact ⟨_, ha, by rw [key _ ha]; exact h2⟩
  · rintro ⟨a, ha, hm⟩
    rw [key a ha] at hm
    refine ⟨fun e => ?_, fun k x hx => ?_, hm⟩
    · have h3 : q3n (fun j => set.testBit (0 + j)) l = [] := List.eq_nil_of_length_eq_zero ((qag _ _).2 fun k hk => by rw [e]; exact Nat.zero_testBit _)
      rw [qcf, h3] at hm
      unfold q9D ld0 at hm
      simp only [List.foldl_nil] at hm
      split at hm <;> simp at hm
    · constructor
      · intro hb
        have := ha.inn k hb
        exact (ha.com k x hx (nx : Int) (by omega) (by omega)).2 (by omega)
      · intro e
        have := (ha.com k x hx (nx : Int) (by omega) (by omega)).1 e
        exact ha.bit k (by omega)
theorem qm5 (s : qd) (l : List qa) (hl : l.length ≤ 62) (a : Nat → Int) (n : qb) (nx : Nat) (hf : ∀ y ∈ ndN n, q0z y) (h : ∀ k, ¬((nx : Int) ≤ a k ∧ a k < ((nx + lvN n : Nat) : Int))) : (q1H s l a n nx).1 = true ∧ (q1H s l a n nx).2 = false := by
  have h1 := (q5d s l hl a n nx).2 fun k _ => h k
  refine ⟨h1, Bool.eq_false_iff.2 fun e => ?_⟩
  rw [qcg s l a n nx hf e] at h1
  exact absurd h1 (by decide)
theorem q3R (d : List Int) (s : qd) (l : List qa) (hl : l.length ≤ 62) : ∀ (n : qb) (nx set : Nat), (∀ y ∈ ndN n, q0z y) → set < 2 ^ l.length →
    (zH d s l n nx set = true ↔ ∃ a, Asg d a nx (lvN n) set ∧ (q1H s l a n nx).2 = true) := by
  intro n
  induction n using qb.rec (motive_2 := fun L => ∀ (sk : Bool) (nx : Nat) (b : Nat → Int) (set : Nat), (∀ y ∈ ndL L, q0z y) → set < 2 ^ l.length →
      (0 ≤ q7y d s l sk L nx b set → ∃ s1 a, s1 &&& set = s1 ∧ 0 ≤ b s1 ∧ Asg d a nx (lvL L) (J2 set s1) ∧ (q0y s l a (!sk) L nx).2.2 = false ∧ q7y d s l sk L nx b set = b s1 + ((q0y s l a (!sk) L nx).2.1 : Int)) ∧
      (∀ s1 a, s1 &&& set = s1 → 0 ≤ b s1 → Asg d a nx (lvL L) (J2 set s1) → (q0y s l a (!sk) L nx).2.2 = false → b s1 + ((q0y s l a (!sk) L nx).2.1 : Int) ≤ q7y d s l sk L nx b set)) with
  | mk k n m S L ih =>
    intro nx set hf hlt
    have hn := hf _ (qak _)
    have hfL : ∀ y ∈ ndL L, q0z y := fun y hy => hf y (by rw [ndN]; exact List.mem_cons_of_mem _ hy)
    rw [q8j, q8X]
    simp only [q4Y]
    by_cases hk : k = 1 ∨ k = 2
    · rw [if_pos hk, if_pos hk]
      simp only [if_pos hk]
      exact qiL d s l _ hk nx set hlt hl
    · rw [if_neg hk, if_neg hk]
      simp only [if_neg hk]
      have hk4 : (!(k == 4)) = (k == 3) := by
        rcases hn.kind with q | q | q | q <;> simp only at q <;> subst q <;> first | decide | exact absurd (by decide) hk
      obtain ⟨i1, i2⟩ := ih (k == 4) nx b0F set hfL hlt
      rw [hk4] at i1 i2
      rw [Bool.and_eq_true, decide_eq_true_eq, decide_eq_true_eq]
      constructor
      · rintro ⟨h0, h1⟩
        have hz : 0 ≤ q7y d s l (k == 4) L nx b0F set := by
          rcases hn.kind with q | q | q | q
          · exact absurd (.inl q) hk
          · exact absurd (.inr q) hk
          · simp only at q
            rw [if_pos q] at h1
            omega
          · have := hn.some q
            simp only at q this
            rw [if_neg (by omega)] at h1
            omega
        obtain ⟨s1, a, e1, e2, e3, e4, e5⟩ := i1 hz
        have hs1 : s1 = 0 := by
          unfold b0F at e2
          by_cases e : s1 = 0
          · exact e
          · rw [if_neg e] at e2; omega
        subst hs1
        rw [qb9] at e3
        refine ⟨a, e3, ?_⟩
        rw [e4, Bool.not_false, Bool.true_and, decide_eq_true_eq]
        have hb0 : b0F 0 = 0 := rfl
        rw [hb0] at e5
        by_cases q : k = 3
        · rw [if_pos q] at h1
          have := (hn.all q).1
          simp only at this
          omega
        · rw [if_neg q] at h1
          omega
      · rintro ⟨a, ha, hm⟩
        rw [Bool.and_eq_true, decide_eq_true_eq] at hm
        have hw : (q0y s l a (k == 3) L nx).2.2 = false := by simpa using hm.1
        have hb0 : b0F 0 = 0 := rfl
        have h2 := i2 0 a (Nat.zero_and _) (by rw [hb0]; exact Int.le_refl _) (by rw [qb9]; exact ha) hw
        rw [hb0] at h2
        have h3 : (q1H s l a ⟨k, n, m, S, L⟩ nx).1 = false := qcg s l a _ nx hf (by rw [q4Y, if_neg hk]; simp only; rw [Bool.and_eq_true, decide_eq_true_eq]; exact hm)
        refine ⟨fun e => ?_, ?_⟩
        · have h4 : (q1H s l a ⟨k, n, m, S, L⟩ nx).1 = true := (q5d s l hl a _ nx).2 fun j _ hj => by
            have := ha.bit j hj.1
            rw [e, Nat.zero_testBit] at this
            exact absurd this (by decide)
          rw [h3] at h4
          exact absurd h4 (by decide)
        · by_cases q : k = 3
          · rw [if_pos q]
            have h5 : (k == 3) = true := by rw [q]; rfl
            rw [h5] at hw h2
            rw [qcK s l a L nx hw] at h2
            omega
          · rw [if_neg q]
            omega
  | nil =>
    rename_i sk nx b set hf hlt
    rw [lvL, q7y]
    refine ⟨fun h => ⟨set, fun _ => -1, Nat.and_self _, h, ⟨fun k hk => ?_, fun _ _ => rfl, fun k y hy x hx hx2 => by omega⟩, by rw [q0y], by rw [q0y]; simp⟩, fun s1 a h1 h2 h3 h4 => ?_⟩
    · rw [zB] at hk
      cases h : set.testBit k <;> rw [h] at hk <;> simp at hk
    · have : s1 = set := Nat.eq_of_testBit_eq fun i => by
        by_cases e : (J2 set s1).testBit i = true
        · have := h3.inn i e
          omega
        · rw [zB] at e
          by_cases e2 : s1.testBit i = true
          · rw [e2, qaI h1 e2]
          · cases h : set.testBit i
            · exact Bool.eq_false_iff.2 e2
            · rw [h, Bool.eq_false_iff.2 e2] at e
              exact absurd rfl e
      subst this
      rw [q0y]
      simp
  | cons x L h1 h2 =>
    rename_i sk nx b set hf hlt
    have hfx : ∀ y ∈ ndN x, q0z y := fun y hy => hf y (by rw [ndL]; exact List.mem_append_left _ hy)
    have hfL : ∀ y ∈ ndL L, q0z y := fun y hy => hf y (by rw [ndL]; exact List.mem_append_right _ hy)
    obtain ⟨i1, i2⟩ := h2 sk (nx + lvN x) (stF (sk && !foF d nx (nx + lvN x)) (zH d s l x nx) b) set hfL hlt
    rw [lvL, q7y]
    simp only [q0y]
    constructor
    · intro h0
      obtain ⟨s1, a1, e1, e2, e3, e4, e5⟩ := i1 h0
      have hI := qgv (sk && !foF d nx (nx + lvN x)) (zH d s l x nx) b s1
      rcases hI.is with e | ⟨t, t1, t2, t3, t4, e⟩
      · have hsk : (sk && !foF d nx (nx + lvN x)) = true := by
          refine Classical.byContradiction fun hc => ?_
          rw [if_neg hc] at e
          omega
        rw [if_pos hsk] at e
        rw [Bool.and_eq_true] at hsk
        have hfo : ¬ foF d nx (nx + lvN x) = true := by simpa using hsk.2
        rw [qgY] at hfo
        have hr : ∀ k, ¬((nx : Int) ≤ a1 k ∧ a1 k < ((nx + lvN x : Nat) : Int)) := fun k hk => by
          by_cases hb : (J2 set s1).testBit k = true
          · have := e3.inn k hb; omega
          · have := e3.out k (Bool.eq_false_iff.2 hb); omega
        obtain ⟨v1, v2⟩ := qm5 s l hl a1 x nx hfx hr
        refine ⟨s1, a1, e1, by omega, ⟨fun k hk => by have := e3.inn k hk; omega, e3.out, fun k y hy z hz hz2 => ?_⟩, ?_, ?_⟩
        · by_cases hz3 : z < ((nx + lvN x : Nat) : Int)
          · constructor
            · intro e; subst e; exact absurd ⟨k, y, hy, hz, hz3⟩ hfo
            · intro e; exact absurd ⟨by omega, by omega⟩ (hr k)
          · exact e3.com k y hy z (by omega) (by omega)
        · rw [v1, v2, e4, hsk.1]; rfl
        · rw [e5, e, v2]; simp
      · obtain ⟨a2, ha2, hm2⟩ := (h1 nx t hfx (Nat.lt_of_le_of_lt (Nat.le_trans (by rw [← t2]; exact Nat.and_le_right) (by rw [← e1]; exact Nat.and_le_right)) hlt)).1 t3
        have hts : ∀ k, t.testBit k = true → s1.testBit k = true := fun k hk => qaI t2 hk
        have hss : ∀ k, s1.testBit k = true → set.testBit k = true := fun k hk => qaI e1 hk
        have hin : ∀ k, t.testBit k = true → (fun k => if t.testBit k = true then a2 k else a1 k) k = a2 k := fun k hk => by show (if _ then _ else _) = _; rw [if_pos hk]
        have hnot : ∀ k, t.testBit k = false → (fun k => if t.testBit k = true then a2 k else a1 k) k = a1 k := fun k hk => by show (if _ then _ else _) = _; rw [if_neg (by rw [hk]; decide)]
        generalize (fun k => if t.testBit k = true then a2 k else a1 k) = a at hin hnot
        have ht1 : ∀ k, t.testBit k = true → a1 k = -1 := fun k hk => e3.out k (by rw [zB, hts k hk]; simp)
        have hu1 : ∀ k, t.testBit k = false → a2 k = -1 := fun k hk => ha2.out k hk
        have hc1 : q1H s l a x nx = q1H s l a2 x nx := q5Q s l a a2 x nx fun k _ z hz hz2 => by
          cases hb : t.testBit k
          · rw [hnot k hb, hu1 k hb]
            by_cases hb2 : (J2 set s1).testBit k = true
            · have := e3.inn k hb2; omega
            · have := e3.out k (Bool.eq_false_iff.2 hb2); omega
          · rw [hin k hb]
        have hc2 : q0y s l a (!sk) L (nx + lvN x) = q0y s l a1 (!sk) L (nx + lvN x) := q6i s l a a1 (!sk) L (nx + lvN x) fun k _ z hz hz2 => by
          cases hb : t.testBit k
          · rw [hnot k hb]
          · rw [hin k hb, ht1 k hb]
            have := ha2.inn k hb
            omega
        refine ⟨J2 s1 t, a, ?_, t4, ⟨fun k hk => ?_, fun k hk => ?_, fun k y hy z hz hz2 => ?_⟩, ?_, ?_⟩
        · exact qd8 fun k hk => hss k (by rw [zB, Bool.and_eq_true] at hk; exact hk.1)
        · cases hb : t.testBit k
          · rw [hnot k hb]
            have : (J2 set s1).testBit k = true := by
              rw [zB, zB, hb] at hk
              rw [zB]
              simpa using hk
            have := e3.inn k this
            omega
          · rw [hin k hb]
            have := ha2.inn k hb
            omega
        · cases hb : t.testBit k
          · rw [hnot k hb]
            refine e3.out k ?_
            rw [zB, zB, hb] at hk
            rw [zB]
            simpa using hk
          · exfalso
            rw [zB, zB, hb, hss k (hts k hb)] at hk
            simp at hk
        · by_cases hz3 : z < ((nx + lvN x : Nat) : Int)
          · rw [ha2.com k y hy z hz hz3]
            cases hb : t.testBit k
            · rw [hnot k hb, hu1 k hb]
              by_cases hb2 : (J2 set s1).testBit k = true
              · have := e3.inn k hb2; omega
              · have := e3.out k (Bool.eq_false_iff.2 hb2); omega
            · rw [hin k hb]
          · rw [e3.com k y hy z (by omega) (by omega)]
            cases hb : t.testBit k
            · rw [hnot k hb]
            · rw [hin k hb, ht1 k hb]
              have := ha2.inn k hb
              omega
        · rw [hc1, hc2, hm2, e4]; rfl
        · rw [e5, e, hc1, hc2, if_pos hm2]; omega
    · intro s1 a g1 g2 g3 g4
      rw [Bool.or_eq_false_iff] at g4
      obtain ⟨g4, g5⟩ := g4
      have hss : ∀ k, s1.testBit k = true → set.testBit k = true := fun k hk => qaI g1 hk
      by_cases hm : (q1H s l a x nx).2 = true
      · have hlen : ∀ k, (nx : Int) ≤ a k → k < l.length := fun k hk => by
          have hb := g3.bit k hk
          have : set.testBit k = true := by rw [zB, Bool.and_eq_true] at hb; exact hb.1
          exact qf1 hlt this
        obtain ⟨t, tb⟩ : ∃ t : Nat, ∀ k, t.testBit k = true ↔ ((nx : Int) ≤ a k ∧ a k < ((nx + lvN x : Nat) : Int)) := ⟨mkS (fun k => decide ((nx : Int) ≤ a k) && decide (a k < ((nx + lvN x : Nat) : Int))) l.length, fun k => by
          rw [qau, Bool.and_eq_true, Bool.and_eq_true, decide_eq_true_eq, decide_eq_true_eq, decide_eq_true_eq]
          exact ⟨fun h => h.2, fun h => ⟨hlen k h.1, h⟩⟩⟩
        have hdis : ∀ k, t.testBit k = true → set.testBit k = true ∧ s1.testBit k = false := fun k hk => by
          have hb := g3.bit k ((tb k).1 hk).1
          rw [zB, Bool.and_eq_true] at hb
          exact ⟨hb.1, by simpa using hb.2⟩
        obtain ⟨a2, hin2, hnot2⟩ : ∃ a2 : Nat → Int, (∀ k, t.testBit k = true → a2 k = a k) ∧ (∀ k, t.testBit k = false → a2 k = -1) := ⟨fun k => if t.testBit k = true then a k else -1, fun k hk => if_pos hk, fun k hk => if_neg (by rw [hk]; decide)⟩
        obtain ⟨a1, hin1, hnot1⟩ : ∃ a1 : Nat → Int, (∀ k, t.testBit k = true → a1 k = -1) ∧ (∀ k, t.testBit k = false → a1 k = a k) := ⟨fun k => if t.testBit k = true then -1 else a k, fun k hk => if_pos hk, fun k hk => if_neg (by rw [hk]; decide)⟩
        have hoff : ∀ k, t.testBit k = false → ¬((nx : Int) ≤ a k ∧ a k < ((nx + lvN x : Nat) : Int)) := fun k hk h => by
          rw [(tb k).2 h] at hk
          exact absurd hk (by decide)
        have hA2 : Asg d a2 nx (lvN x) t := ⟨fun k hk => by rw [hin2 k hk]; exact (tb k).1 hk, hnot2, fun k y hy z hz hz2 => by
          rw [g3.com k y hy z hz (by omega)]
          cases hb : t.testBit k
          · rw [hnot2 k hb]
            have := hoff k hb
            omega
          · rw [hin2 k hb]⟩
        have hc1 : q1H s l a2 x nx = q1H s l a x nx := q5Q s l a2 a x nx fun k _ z hz hz2 => by
          cases hb : t.testBit k
          · rw [hnot2 k hb]
            have := hoff k hb
            omega
          · rw [hin2 k hb]
        have hc2 : q0y s l a1 (!sk) L (nx + lvN x) = q0y s l a (!sk) L (nx + lvN x) := q6i s l a1 a (!sk) L (nx + lvN x) fun k _ z hz hz2 => by
          cases hb : t.testBit k
          · rw [hnot1 k hb]
          · rw [hin1 k hb]
            have := (tb k).1 hb
            omega
        have hown : zH d s l x nx t = true := (h1 nx t hfx (Nat.lt_of_le_of_lt (Nat.le_trans (by rw [← qd8 (t := t) (s := set) fun k hk => (hdis k hk).1]; exact Nat.and_le_right) (Nat.le_refl _)) hlt)).2 ⟨a2, hA2, by rw [hc1]; exact hm⟩
        have ht0 : t ≠ 0 := fun e => by
          have h3 := qcg s l a x nx hfx hm
          have h4 := (q5d s l hl a x nx).2 fun k _ hk => by
            have := (tb k).2 hk
            rw [e, Nat.zero_testBit] at this
            exact absurd this (by decide)
          rw [h3] at h4
          exact absurd h4 (by decide)
        have hI := qgv (sk && !foF d nx (nx + lvN x)) (zH d s l x nx) b (s1 ||| t)
        have hle : J2 (s1 ||| t) t = s1 := Nat.eq_of_testBit_eq fun k => by
          rw [zB, Nat.testBit_or]
          cases hb : t.testBit k
          · simp
          · rw [(hdis k hb).2]; rfl
        have hall := hI.all t ht0 (qd8 fun k hk => by rw [Nat.testBit_or, hk, Bool.or_true]) hown (by rw [hle]; exact g2)
        rw [hle] at hall
        have := i2 (s1 ||| t) a1 (qd8 fun k hk => by
            rw [Nat.testBit_or, Bool.or_eq_true] at hk
            rcases hk with hk | hk
            · exact hss k hk
            · exact (hdis k hk).1) (by omega) ⟨fun k hk => by
              rw [zB, Nat.testBit_or, Bool.and_eq_true] at hk
              have hb : t.testBit k = false := by
                have := hk.2
                cases h : t.testBit k
                · rfl
                · rw [h, Bool.or_true] at this; exact absurd this (by decide)
              have h5 := g3.inn k (by rw [zB, Bool.and_eq_true]; refine ⟨hk.1, ?_⟩; have := hk.2; rw [hb, Bool.or_false] at this; exact this)
              have h6 := hoff k hb
              rw [hnot1 k hb]
              omega, fun k hk => by
              cases hb : t.testBit k
              · rw [hnot1 k hb]
                refine g3.out k ?_
                rw [zB, Nat.testBit_or, hb, Bool.or_false] at hk
                rw [zB]
                exact hk
              · exact hin1 k hb, fun k y hy z hz hz2 => by
              rw [g3.com k y hy z (by omega) (by omega)]
              cases hb : t.testBit k
              · rw [hnot1 k hb]
              · rw [hin1 k hb]
                have := (tb k).1 hb
                omega⟩ (by rw [hc2]; exact g5)
        rw [hc2] at this
        rw [if_pos hm]
        omega
      · have hm' : (q1H s l a x nx).2 = false := Bool.eq_false_iff.2 hm
        rw [hm', Bool.not_false, Bool.true_and, Bool.or_eq_false_iff] at g4
        have hem : (q1H s l a x nx).1 = true := by simpa using g4.1
        have hsk : sk = true := by simpa using g4.2
        have hr : ∀ k, ¬((nx : Int) ≤ a k ∧ a k < ((nx + lvN x : Nat) : Int)) := fun k hk => by
          have hb := g3.bit k hk.1
          have : set.testBit k = true := by rw [zB, Bool.and_eq_true] at hb; exact hb.1
          have hkl : k < l.length := qf1 hlt this
          exact (q5d s l hl a x nx).1 hem k hkl hk
        have hfo : foF d nx (nx + lvN x) = false := Bool.eq_false_iff.2 fun h => by
          obtain ⟨k, y, hy, h3, h4⟩ := (qgY d nx (nx + lvN x)).1 h
          have := (g3.com k y hy y h3 (by omega)).1 rfl
          exact hr k (by omega)
        have hI := qgv (sk && !foF d nx (nx + lvN x)) (zH d s l x nx) b s1
        have hge := hI.ge
        rw [hsk, hfo] at hge
        simp only [Bool.not_false, Bool.and_true, if_true] at hge
        have hge2 : b s1 ≤ stF (sk && !foF d nx (nx + lvN x)) (zH d s l x nx) b s1 := by rw [hsk, hfo]; exact hge
        have := i2 s1 a g1 (by omega) ⟨fun k hk => by
            have h5 := g3.inn k hk
            have h6 := hr k
            omega, g3.out, fun k y hy z hz hz2 => g3.com k y hy z (by omega) (by omega)⟩ g5
        rw [hm']
        simp only [Bool.false_eq_true, if_false, Nat.zero_add]
        omega
end Go.Proofs.Ytgejdfnidjnjcaa.Vc
namespace Go.Proofs.Ytgejdfnidjnjcaa.Vc
open Go.RowKit
set_option linter.unusedVariables false
set_option linter.unusedSimpArgs false
structure q02 (n : qb) (l : List qa) (set : Nat) : Prop where
  fit : ∀ y ∈ ndN n, q0z y
  nd : (ndN n).length ≤ 9999
  st : ∀ y ∈ ndN n, y.Set.length ≤ 1000000
  ll : l.length ≤ 16
  lt : set < 2 ^ l.length
theorem q02.lt64 {n : qb} {l : List qa} {set : Nat} (h : q02 n l set) : set < 9223372036854775808 := by
  have h1 := h.lt
  have h2 : (2 : Nat) ^ l.length ≤ 2 ^ 16 := Nat.pow_le_pow_right (by decide) h.ll
  have h3 : (2 : Nat) ^ 16 = 65536 := by decide
  omega
theorem q02.lv {n : qb} {l : List qa} {set : Nat} (h : q02 n l set) : lvN n ≤ 9999 := Nat.le_trans (qe2 n) h.nd
theorem qhW {n : qb} {l : List qa} {set : Nat} (h : q02 n l set) (s : qd) (d : List Int) (hd : d.length ≤ 16) : Zn n s l d = some (QH (2 ^ l.length) (zH d s l n 0), d) := by
  have := qhb d hd s l h.ll _ n (Nat.le_refl _) (by have := h.nd; omega) h.st 0 (by have := h.nd; omega)
  unfold Zn
  change Option.bind (qz (n, d, l, ((0 : Nat) : Int), s)) _ = _
  rw [this]
  rfl
theorem q45 {α : Type} {d : List α} {y z : α} {j : Nat} (h : (d ++ [y])[j]? = some z) : d[j]? = some z ∨ (j = d.length ∧ z = y) := by
  by_cases hj : j < d.length
  · rw [List.getElem?_append_left hj] at h
    exact .inl h
  · rw [List.getElem?_append_right (by omega)] at h
    have := Jd h
    rw [List.length_singleton] at this
    have e : j - d.length = 0 := by omega
    rw [e] at h
    simp only [List.getElem?_cons_zero, Option.some.injEq] at h
    exact .inr ⟨by omega, h.symm⟩
theorem qjy {d : List Int} {a : Nat → Int} {w set : Nat} (h : Asg d a 0 w set) : Asg (d ++ [a d.length]) a 0 w set := ⟨h.inn, h.out, fun k y hy x hx hx2 => by
  rcases q45 hy with e | ⟨e1, e2⟩
  · exact h.com k y e x hx hx2
  · rw [e1, e2]⟩
theorem qhx {n : qb} {l : List qa} {set : Nat} (h : q02 n l set) (s : qd) (w4 : List Int) (t49 t50 : Int) (d : List Int) (hd : d.length + 1 ≤ 16) : ∀ (m x : Nat), x + m ≤ 1000000 →
    (∃ v : Nat, x ≤ v ∧ v ≤ x + m ∧ zH (d ++ [(v : Int)]) s l n 0 set = true) →
    ∃ v : Nat, x ≤ v ∧ v ≤ x + m ∧ zH (d ++ [(v : Int)]) s l n 0 set = true ∧ (∀ y : Nat, x ≤ y → y < v → zH (d ++ [(y : Int)]) s l n 0 set = false) ∧
      qN (Qe w4 n s l (set : Int) (d.length : Int) t49 t50) (d ++ [(x : Int)]) = some (d ++ [(v : Int)]) := by
  have hstep : ∀ x : Nat, x ≤ 1000000 → Qe w4 n s l (set : Int) (d.length : Int) t49 t50 (d ++ [(x : Int)]) = if zH (d ++ [(x : Int)]) s l n 0 set = true then some (.inr (d ++ [(x : Int)])) else some (.inl (d ++ [((x + 1 : Nat) : Int)])) := by
    intro x hx
    have hlen : (d ++ [(x : Int)]).length = d.length + 1 := by rw [List.length_append, List.length_singleton]
    have hg : (d ++ [(x : Int)])[d.length]? = some (x : Int) := by rw [List.getElem?_append_right (Nat.le_refl _), Nat.sub_self]; rfl
    have hlt := h.lt
    have hw : w64 ((x : Int) + 1) = ((x + 1 : Nat) : Int) := zZ (by omega) (by omega)
    have hset : (d ++ [(x : Int)]).set d.length ((x + 1 : Nat) : Int) = d ++ [((x + 1 : Nat) : Int)] := by
      rw [List.set_append_right _ _ (Nat.le_refl _), Nat.sub_self]
      rfl
    unfold Qe
    simp only
    rw [qhW h s _ (by omega), Option.bind_some]
    simp only
    rw [if_pos (by rw [qM]; omega), Int.toNat_natCast, Zq _ hlt, Option.bind_some]
    cases hs : zH (d ++ [(x : Int)]) s l n 0 set
    · rw [if_pos (by decide), if_pos (by rw [hlen]; omega), Int.toNat_natCast, hg, Option.bind_some, if_pos (by rw [hlen]; omega), if_pos (by rw [hlen]; omega), hw, hset]
      rfl
    · rfl
  intro m
  induction m with
  | zero =>
    intro x hx hv
    obtain ⟨v, h1, h2, h3⟩ := hv
    have e : v = x := by omega
    subst e
    exact ⟨v, Nat.le_refl _, by omega, h3, fun y _ _ => by omega, zt (by rw [hstep v (by omega), if_pos h3])⟩
  | succ m ih =>
    intro x hx hv
    by_cases hs : zH (d ++ [(x : Int)]) s l n 0 set = true
    · exact ⟨x, Nat.le_refl _, by omega, hs, fun y _ _ => by omega, zt (by rw [hstep x (by omega), if_pos hs])⟩
    · obtain ⟨v, h1, h2, h3⟩ := hv
      have hne : v ≠ x := fun e => hs (by rw [← e]; exact h3)
      obtain ⟨u, u1, u2, u3, u4, u5⟩ := ih (x + 1) (by omega) ⟨v, by omega, by omega, h3⟩
      refine ⟨u, by omega, by omega, u3, fun y hy hy2 => ?_, ?_⟩
      · by_cases e : y = x
        · subst e; exact Bool.eq_false_iff.2 hs
        · exact u4 y (by omega) hy2
      · rw [zV (by rw [hstep x (by omega), if_neg hs])]
        exact u5
structure q8K (d : List Int) (s : qd) (l : List qa) (n : qb) (set : Nat) : Prop where
  ok : zH d s l n 0 set = true
  val : ∀ (j : Nat) (y : Int), d[j]? = some y → if set.testBit j = true then 0 ≤ y ∧ y < (lvN n : Int) else y = -1
  lst : ∀ (j : Nat) (x : Int), d[j]? = some x → set.testBit j = true → ∀ y : Nat, (y : Int) < x → zH (d.take j ++ [(y : Int)]) s l n 0 set = false
theorem qaY {α : Type} {d : List α} {j : Nat} {x y : α} (h : d[j]? = some x) : (d ++ [y]).take j = d.take j := List.take_append_of_le_length (by have := Jd h; omega)
theorem qer {n : qb} {l : List qa} {set : Nat} (h : q02 n l set) {s : qd} {d : List Int} (hf : q8K d s l n set) (hd : d.length < l.length) :
    (set.testBit d.length = false → q8K (d ++ [-1]) s l n set) ∧ (set.testBit d.length = true → ∃ v : Nat, v < lvN n ∧ zH (d ++ [(v : Int)]) s l n 0 set = true) := by
  have hll := h.ll
  obtain ⟨a, ha, hm⟩ := (q3R d s l (by omega) n 0 set h.fit h.lt).1 hf.ok
  have hs := (q3R (d ++ [a d.length]) s l (by omega) n 0 set h.fit h.lt).2 ⟨a, qjy ha, hm⟩
  constructor
  · intro hb
    rw [ha.out _ hb] at hs
    refine ⟨hs, fun j y hy => ?_, fun j x hx hj y hy => ?_⟩
    · rcases q45 hy with e | ⟨e1, e2⟩
      · exact hf.val j y e
      · rw [e1, hb, if_neg (by decide)]; exact e2
    · rcases q45 hx with e | ⟨e1, e2⟩
      · rw [qaY e]; exact hf.lst j x e hj y hy
      · rw [e1, hb] at hj; exact absurd hj (by decide)
  · intro hb
    have := ha.inn _ hb
    refine ⟨(a d.length).toNat, by omega, ?_⟩
    rw [show (((a d.length).toNat : Nat) : Int) = a d.length from by omega]
    exact hs
theorem qck {n : qb} {l : List qa} {set : Nat} (h : q02 n l set) (s : qd) : ∀ (m : Nat) (d : List Int), d.length + m = l.length → q8K d s l n set →
    ∃ d', d'.length = l.length ∧ q8K d' s l n set ∧ (∃ e, d' = d ++ e) ∧ qN (zM n s l (set : Int) (l.length : Int)) (d, q3n set.testBit d, (d.length : Int)) = some (q3n set.testBit d') := by
  intro m
  induction m with
  | zero =>
    intro d hd hf
    refine ⟨d, by omega, hf, ⟨[], (List.append_nil _).symm⟩, zt ?_⟩
    unfold zM
    simp only
    rw [if_neg (by omega)]
  | succ m ih =>
    intro d hd hf
    have hll := h.ll
    have hlt := h.lt64
    have hML : 100000 ≤ Go.maxLen := by unfold Go.maxLen; omega
    have hsel := qar d set.testBit
    obtain ⟨f1, f2⟩ := qer h hf (by omega)
    have hw : w64 ((d.length : Int) + 1) = ((d.length + 1 : Nat) : Int) := zZ (by omega) (by omega)
    have hbit : (Jz Go.BinOp.and Go.IntKind.i64 (Int.fdiv (set : Int) ((2 : Int) ^ min (Int.toNat (d.length : Int)) (Go.IntKind.bits Go.IntKind.i64))) (1 : Int) == (0 : Int)) = !set.testBit d.length := by
      rw [Int.toNat_natCast, qcO set d.length (by omega), show (1 : Int) = ((1 : Nat) : Int) from rfl, qcx _ 1 (Nat.lt_of_le_of_lt (Nat.div_le_self _ _) hlt) (by decide), Nat.and_one_is_mod, Nat.testBit_eq_decide_div_mod_eq]
      have : set / 2 ^ d.length % 2 < 2 := Nat.mod_lt _ (by decide)
      by_cases e : set / 2 ^ d.length % 2 = 1
      · rw [e]; rfl
      · have e0 : set / 2 ^ d.length % 2 = 0 := by omega
        rw [e0]; rfl
    have hset : ∀ y z : Int, (d ++ [y]).set d.length z = d ++ [z] := fun y z => by
      rw [List.set_append_right _ _ (Nat.le_refl _), Nat.sub_self]
      rfl
    cases hb : set.testBit d.length
    · obtain ⟨d', g1, g2, ⟨e, g3⟩, g4⟩ := ih (d ++ [-1]) (by rw [List.length_append, List.length_singleton]; omega) (f1 hb)
      refine ⟨d', g1, g2, ⟨[-1] ++ e, by rw [g3, List.append_assoc]⟩, ?_⟩
      rw [q8e, hb, if_neg (by decide), List.append_nil, List.length_append, List.length_singleton] at g4
      rw [← g4]
      refine zV ?_
      unfold zM
      simp only
      rw [if_pos (by omega), if_pos ⟨by omega, by omega⟩, if_pos (by omega), hbit, hb, if_pos (by decide), hw]
    · obtain ⟨v0, hv0, hs0⟩ := f2 hb
      have hlv := h.lv
      obtain ⟨v, v1, v2, v3, v4, v5⟩ := qhx h s (q3n set.testBit d) (l.length : Int) (d.length : Int) d (by omega) v0 0 (by omega) ⟨v0, by omega, by omega, hs0⟩
      have hF : q8K (d ++ [(v : Int)]) s l n set := ⟨v3, fun j y hy => by
        rcases q45 hy with e | ⟨e1, e2⟩
        · exact hf.val j y e
        · rw [e1, hb, if_pos rfl, e2]; omega, fun j x hx hj y hy => by
        rcases q45 hx with e | ⟨e1, e2⟩
        · rw [qaY e]; exact hf.lst j x e hj y hy
        · rw [e1, List.take_left]
          exact v4 y (Nat.zero_le _) (by omega)⟩
      obtain ⟨d', g1, g2, ⟨e, g3⟩, g4⟩ := ih (d ++ [(v : Int)]) (by rw [List.length_append, List.length_singleton]; omega) hF
      refine ⟨d', g1, g2, ⟨[(v : Int)] ++ e, by rw [g3, List.append_assoc]⟩, ?_⟩
      rw [q8e, hb, if_pos rfl, List.length_append, List.length_singleton] at g4
      rw [← g4]
      refine zV ?_
      have hg : (d ++ [(v : Int)])[d.length]? = some (v : Int) := by rw [List.getElem?_append_right (Nat.le_refl _), Nat.sub_self]; rfl
      unfold zM
      simp only
      rw [if_pos (by omega), if_pos ⟨by omega, by omega⟩, if_pos (by omega), hbit, hb, if_neg (by decide), if_pos ⟨by omega, by omega⟩, Int.toNat_natCast, if_pos (Nat.le_refl _), hset]
      rw [show (0 : Int) = ((0 : Nat) : Int) from rfl, v5, Option.bind_some, if_pos (by rw [List.length_append, List.length_singleton]; omega), hg, Option.bind_some, if_pos ⟨by omega, by omega⟩, hw]
theorem qbs {n : qb} {l : List qa} {set : Nat} (h : q02 n l set) (s : qd) (hS : Zc n s l = some (QH (2 ^ l.length) (zH [] s l n 0), 0)) :
    (zH [] s l n 0 set = false ∧ Qa n s l (set : Int) = some ([], false)) ∨
    (zH [] s l n 0 set = true ∧ ∃ d, d.length = l.length ∧ q8K d s l n set ∧ Qa n s l (set : Int) = some (q3n set.testBit d, true)) := by
  have hlt := h.lt
  have hll := h.ll
  unfold Qa
  rw [hS, Option.bind_some]
  simp only
  rw [if_neg (by decide), if_neg (by omega), if_neg (by rw [qM]; omega), if_pos (by rw [qM]; omega), Int.toNat_natCast, Zq _ hlt, Option.bind_some]
  cases hs : zH [] s l n 0 set
  · exact .inl ⟨rfl, by rw [if_pos (by decide)]⟩
  · refine .inr ⟨rfl, ?_⟩
    obtain ⟨d', g1, g2, _, g4⟩ := qck h s l.length [] (by simp) ⟨hs, fun j y hy => by simp at hy, fun j x hx => by simp at hx⟩
    refine ⟨d', g1, g2, ?_⟩
    rw [if_neg (by decide), if_pos ⟨by omega, by omega, by omega⟩]
    change Option.bind (qN _ ([], q3n set.testBit [], ((([] : List Int).length : Nat) : Int))) _ = _
    rw [g4]
    rfl
end Go.Proofs.Ytgejdfnidjnjcaa.Vc
namespace Go.Proofs.Ytgejdfnidjnjcaa.Vc
open Go.RowKit
set_option linter.unusedVariables false
set_option linter.unusedSimpArgs false
theorem qft (n : qb) (hn : n.Set.length ≤ 9223372036854775807) (s : qd) (l : List qa) (hl : l.length ≤ 62) (d : List Int) (hd : d.length = l.length) (nx : Nat) : Zh n s l d (nx : Int) = some (qdf n s l (fun j => d.getD j (-1) == (nx : Int))) := by
  have h1 := JA (ε := ql) (step := zT d (nx : Int) n s (ql.mk (0 : Int) (0 : Int) Bool.false) l (l.length : Int)) l (fun (b : ql) i => (b, (i : Int))) (fun i b a => .inl (if (d.getD i (-1) == (nx : Int)) = true then qeH n s b a else b)) (fun b => b) (fun b i a ha => by
      have hi := Jd ha
      have hw : w64 ((i : Int) + 1) = ((i + 1 : Nat) : Int) := qT hi (by omega)
      have hb : Zd (i : Int) d (nx : Int) = some (d.getD i (-1) == (nx : Int)) := by
        unfold Zd
        rw [if_pos ⟨by omega, by omega⟩, Int.toNat_natCast, List.getElem?_eq_getElem (by omega), Option.bind_some, List.getD_eq_getElem?_getD, List.getElem?_eq_getElem (by omega)]
        rfl
      unfold zT qeH
      simp only
      rw [if_pos (by omega), if_pos ⟨by omega, by omega⟩, Int.toNat_natCast, ha, Option.bind_some, hw, hb, Option.bind_some]
      cases (d.getD i (-1) == (nx : Int))
      · simp
      · cases hf : b.fine
        · simp
        · simp [qfJ n hn s a]) (fun b => by
      unfold zT
      simp only
      rw [if_neg (by omega)]) ld0
  unfold Zh qdf
  change Option.bind (qN _ (ld0, ((0 : Nat) : Int))) _ = _
  rw [h1, Option.bind_some]
  congr 1
  have : ∀ (l : List qa) (i : Nat) (b : ql), q1b (ε := ql) (fun i (b : ql) (a : qa) => .inl (if (d.getD i (-1) == (nx : Int)) = true then qeH n s b a else b)) (fun b => b) l i b = (q3n (fun j => d.getD (i + j) (-1) == (nx : Int)) l).foldl (qeH n s) b := by
    intro l
    induction l with
    | nil => intro i b; rfl
    | cons a l ih =>
      intro i b
      unfold q1b q3n
      rw [List.foldl_append]
      simp only [Nat.add_zero]
      rw [ih (i + 1)]
      rw [show (fun j => d.getD (i + 1 + j) (-1) == (nx : Int)) = fun j => d.getD (i + (j + 1)) (-1) == (nx : Int) from funext fun j => by rw [Nat.add_right_comm, Nat.add_assoc]]
      split <;> rfl
  rw [this l 0 ld0]
  simp only [Nat.zero_add]
end Go.Proofs.Ytgejdfnidjnjcaa.Vc
namespace Go.Proofs.Ytgejdfnidjnjcaa.Vc
open Go.RowKit
set_option linter.unusedVariables false
set_option linter.unusedSimpArgs false
mutual
def itN (d : Int) : qb → List qj
  | ⟨k, n, m, S, L⟩ => ⟨⟨k, n, m, S, L⟩, d⟩ :: itL (d + 1) L
def itL (d : Int) : List qb → List qj
  | [] => []
  | x :: L => itN d x ++ itL d L
end
theorem qlj (d : Int) (n : qb) : itN d n = ⟨n, d⟩ :: itL (d + 1) n.L := by cases n; rw [itN]
theorem qgi : ∀ (n : qb) (d : Int), (itN d n).map (·.Need) = ndN n := by
  intro n
  induction n using qb.rec (motive_2 := fun L => ∀ d, (itL d L).map (·.Need) = ndL L) with
  | mk k n m S L ih => intro d; rw [itN, ndN, List.map_cons, ih]
  | nil => rw [itL, ndL]; rfl
  | cons x L h1 h2 => rw [itL, ndL, List.map_append, h1, h2]
theorem qfo (n : qb) (d : Int) : (itN d n).length = (ndN n).length := by rw [← qgi n d, List.length_map]
theorem qbi (rF : (qb × Int × List qj) → Option (Unit ⊕ (List qj))) (deep : Int) (hd : 1 ≤ deep) (n : qb) (hL : n.L.length ≤ 10000)
    (step : List qj × Int → Option ((List qj × Int) ⊕ (Unit ⊕ (List qj))))
    (hst : ∀ w (i : Nat), step (w, (i : Int)) = if (i : Int) < ((n.L.length : Nat) : Int) then if (0 : Int) ≤ i ∧ (i : Int) < ((n.L.length : Nat) : Int) then Option.bind n.L[Int.toNat i]? fun a2 => Option.bind (rF (a2, w64 (deep + 1), w)) fun a3 => Sum.elim (fun _ => some (Sum.inr (Sum.inl ()))) (fun a5 => some (Sum.inl (a5, w64 ((i : Int) + 1)))) a3 else none else some (.inr (.inr w)))
    (hP : ∀ y ∈ n.L, ∀ w, deep + 1 + hgN y ≤ 101 → w.length + (ndN y).length ≤ 10000 → rF (y, deep + 1, w) = some (.inr (w ++ itN (deep + 1) y))) :
    ∀ (r : List qb) (i : Nat) (w : List qj), r.length + i = n.L.length → (∀ j, r[j]? = n.L[i + j]?) → deep + 1 + hgL r ≤ 101 → w.length + (ndL r).length ≤ 10000 →
    qN step (w, (i : Int)) = some (.inr (w ++ itL (deep + 1) r)) := by
  intro r
  induction r with
  | nil =>
    intro i w hi _ _ _
    have hi : i = n.L.length := by simpa using hi
    subst hi
    refine zt ?_
    rw [hst, if_neg (by omega), itL, List.append_nil]
  | cons y r ih =>
    intro i w hi hr hh hw
    rw [hgL] at hh
    rw [ndL, List.length_append] at hw
    simp only [List.length_cons] at hi
    have hget : n.L[i]? = some y := by have := hr 0; simpa using this.symm
    have hlt := Jd hget
    have hcall := hP y (List.mem_of_getElem? hget) w (by omega) (by omega)
    have hstep : step (w, (i : Int)) = some (.inl (w ++ itN (deep + 1) y, ((i + 1 : Nat) : Int))) := by
      rw [hst, if_pos (by omega), if_pos ⟨by omega, by omega⟩, Int.toNat_natCast, hget, Option.bind_some, zZ (by omega) (by omega), hcall, Option.bind_some, qT hlt (by omega)]
      rfl
    rw [zV hstep, ih (i + 1) _ (by omega) (fun j => by rw [show i + 1 + j = i + (j + 1) by omega, ← hr (j + 1)]; rfl) (by omega) (by rw [List.length_append, qfo]; omega), itL, List.append_assoc]
theorem qjE : ∀ (m : Nat) (y : qb), (ndN y).length ≤ m → ∀ (deep : Int) (w : List qj), 1 ≤ deep → deep + hgN y ≤ 101 → w.length + (ndN y).length ≤ 10000 → Q4 (y, deep, w) = some (.inr (w ++ itN deep y)) := by
  intro m
  induction m with
  | zero => intro y h; rw [Z3] at h; simp at h
  | succ m ih =>
    intro y h deep w hd hh hw
    rw [Z3, List.length_cons] at h hw
    rw [q9E] at hh
    have hsub : ∀ (L : List qb), (ndL L).length ≤ m → ∀ z ∈ L, ∀ (deep : Int) (w : List qj), 1 ≤ deep → deep + hgN z ≤ 101 → w.length + (ndN z).length ≤ 10000 → Q4 (z, deep, w) = some (.inr (w ++ itN deep z)) := by
      intro L
      induction L with
      | nil => intro _ z hz; simp at hz
      | cons x L ihl =>
        intro g z hz
        rw [ndL, List.length_append] at g
        rcases List.mem_cons.1 hz with rfl | hz
        · exact ih _ (by omega)
        · exact ihl (by omega) z hz
    have hP := hsub y.L (by omega)
    have hl := q8o y.L
    have hML : 100000 ≤ maxLen := by unfold maxLen; omega
    rw [q6P, Zk, if_neg (by omega), if_neg (by omega), if_pos ⟨by omega, by omega⟩]
    have h1 := qbi Q4 deep hd y (by omega) (Zu Q4 y deep) (fun w i => by rfl) (fun z hz w g1 g2 => hP z hz (deep + 1) w (by omega) g1 g2) y.L 0 (w ++ [⟨y, deep⟩]) (by simp) (by simp) (by omega) (by rw [List.length_append, List.length_singleton]; omega)
    rw [show ((0 : Nat) : Int) = 0 from rfl] at h1
    rw [h1, Option.bind_some, Sum.elim_inr, qlj, List.append_assoc]
    rfl
theorem qko (n : qb) (hh : hgN n ≤ 100) (hn : (ndN n).length ≤ 9999) : q0w n 1 = some (.inr (itN 1 n)) := by
  rw [q9E] at hh
  rw [Z3, List.length_cons] at hn
  have hl := q8o n.L
  unfold q0w
  rw [if_neg (by omega), if_pos (by unfold maxLen; omega)]
  have h1 := qbi Q4 1 (by omega) n (by omega) (ZL n 1) (fun w i => by rfl) (fun z hz w g1 g2 => qjE _ z (Nat.le_refl _) (1 + 1) w (by omega) (by omega) g2) n.L 0 [⟨n, 1⟩] (by simp) (by simp) (by omega) (by simp only [List.length_singleton]; omega)
  rw [show ((0 : Nat) : Int) = 0 from rfl] at h1
  rw [h1, Option.bind_some, Sum.elim_inr, qlj]
  rfl
end Go.Proofs.Ytgejdfnidjnjcaa.Vc
namespace Go.Proofs.Ytgejdfnidjnjcaa.Vc
open Go.RowKit
set_option linter.unusedVariables false
set_option linter.unusedSimpArgs false
theorem qjP (items : List qj) (out : List qc) (hl : out.length ≤ 1000000) (t6 : Int) (S : List qc) (k : Nat) (c : qc) (hc : S[k]? = some c) (hS : S.length ≤ 1000000) : qN (zy items out t6 S (k : Int)) 0 = some ((atF out c : Nat) : Int) := by
  have hk := Jd hc
  have h1 := JA (ε := Int) (step := zy items out t6 S (k : Int)) out (fun (_ : Unit) i => (i : Int)) (fun i _ x => if q1F x c = true then .inl () else .inr (i : Int)) (fun _ => (out.length : Int)) (fun _ i x hx => by
      have hi := Jd hx
      unfold zy
      rw [if_pos (by omega), if_pos ⟨by omega, by omega⟩, Int.toNat_natCast, hx, Option.bind_some, if_pos ⟨by omega, by omega⟩, Int.toNat_natCast, hc, Option.bind_some, qT hi (by omega)]
      show (if q1F x c = true then _ else _) = _
      cases q1F x c <;> simp) (fun _ => by
      unfold zy
      rw [if_neg (by omega)]) ()
  rw [show ((0 : Nat) : Int) = 0 from rfl] at h1
  rw [h1]
  congr 1
  have : ∀ (l : List qc) (i : Nat) (n : Nat), i + l.length = n → q1b (ε := Int) (fun i (_ : Unit) (x : qc) => if q1F x c = true then .inl () else .inr (i : Int)) (fun _ => (n : Int)) l i () = ((i + atF l c : Nat) : Int) := by
    intro l
    induction l with
    | nil => intro i n h; simp at h; unfold q1b atF; simp [h]
    | cons x l ih =>
      intro i n h
      simp only [List.length_cons] at h
      unfold q1b
      by_cases hx : q1F x c = true
      · have e : atF (x :: l) c = atF l c + 1 := by unfold atF; rw [List.takeWhile_cons, if_pos hx]; rfl
        simp only [hx, if_true]
        rw [ih (i + 1) n (by omega), e]
        omega
      · have e : atF (x :: l) c = 0 := by unfold atF; rw [List.takeWhile_cons, if_neg hx]; rfl
        have hx' : q1F x c = false := by simpa using hx
        simp only [hx', Bool.false_eq_true, if_false]
        rw [e]; rfl
  have := this out 0 out.length (by simp)
  simpa using this
theorem qac (items : List qj) (out : List qc) (hl : out.length ≤ 1000) (t6 : Int) (S : List qc) (hS : S.length ≤ 1000000) (k : Nat) (c : qc) (hc : S[k]? = some c) :
    zE items t6 S (out, (k : Int)) = some (.inl (qc7 out c, ((k + 1 : Nat) : Int))) := by
  have hk := Jd hc
  have hML : 100000 ≤ maxLen := by unfold maxLen; omega
  have hat := qir out c
  unfold zE
  simp only
  rw [if_pos (by omega), qjP items out (by omega) t6 S k c hc hS, Option.bind_some]
  have hwk : w64 ((k : Int) + 1) = ((k + 1 : Nat) : Int) := by rw [zZ (by omega) (by omega)]; omega
  have hwa : w64 (((atF out c : Nat) : Int) + 1) = ((atF out c + 1 : Nat) : Int) := by rw [zZ (by omega) (by omega)]; omega
  rw [hwk, hwa]
  simp only [Int.toNat_natCast, List.length_take, List.length_drop, List.length_append, List.length_cons, List.length_nil]
  rw [hc]
  simp only [Option.bind_some]
  have hkk : (0 : Int) ≤ (k : Int) ∧ (k : Int) < ((S.length : Nat) : Int) := ⟨by omega, by omega⟩
  simp only [hkk, and_self, if_true]
  unfold qc7
  by_cases hlt : atF out c < out.length
  · obtain ⟨x, hx⟩ : ∃ x, out[atF out c]? = some x := ⟨_, List.getElem?_eq_getElem hlt⟩
    rw [if_pos (by omega), if_pos ⟨by omega, by omega⟩, hx, Option.bind_some]
    simp only [Option.any_some]
    by_cases hc : ceq x c = true
    · have hc2 := hc
      unfold ceq at hc2
      simp only [Bool.and_eq_true] at hc2
      rw [if_pos hc2, if_pos hc]
    · have hc2 : ¬ ((x.School == c.School) = true ∧ (x.Code.toList == c.Code.toList) = true) := fun h => hc (by unfold ceq; rw [h.1, h.2]; rfl)
      rw [if_neg hc2, if_neg hc]
      repeat (first | rw [if_pos (by omega)] | rw [if_neg (by omega)])
      rw [qhc _ _ _ _ hlt]
  · have he : atF out c = out.length := by omega
    have hnone : out[out.length]? = none := List.getElem?_eq_none (Nat.le_refl _)
    rw [he, hnone]
    simp only [Option.any_none, Bool.false_eq_true, if_false]
    repeat (first | rw [if_pos (by omega)] | rw [if_neg (by omega)])
    rw [qdK]
theorem qpP (l : List qc) : ∀ (out : List qc), (l.foldl qc7 out).length ≤ out.length + l.length := by
  induction l with
  | nil => intro out; simp
  | cons c l ih =>
    intro out
    rw [List.foldl_cons, List.length_cons]
    have := ih (qc7 out c)
    have := (qbE out c).2.1
    omega
theorem qcu (items : List qj) (t6 : Int) (S : List qc) (hS : S.length ≤ 100) : ∀ (r : List qc) (k : Nat) (out : List qc), r.length + k = S.length → (∀ j, r[j]? = S[k + j]?) → out.length + r.length ≤ 1000 → qN (zE items t6 S) (out, (k : Int)) = some (r.foldl qc7 out) := by
  intro r
  induction r with
  | nil =>
    intro k out hk _ _
    have hk : k = S.length := by simpa using hk
    subst hk
    refine zt ?_
    unfold zE
    simp only
    rw [if_neg (by omega)]
    rfl
  | cons c r ih =>
    intro k out hk hr hl
    simp only [List.length_cons] at hk hl
    have hget : S[k]? = some c := by have := hr 0; simpa using this.symm
    rw [zV (qac items out (by omega) t6 S (by omega) k c hget), List.foldl_cons]
    have := (qbE out c).2.1
    exact ih (k + 1) _ (by omega) (fun j => by rw [show k + 1 + j = k + (j + 1) by omega, ← hr (j + 1)]; rfl) (by omega)
theorem qbG (items : List qj) (hn : items.length ≤ 100) (hS : ∀ x ∈ items, x.Need.Set.length ≤ 3) : ∀ (r : List qj) (i : Nat) (out : List qc), r.length + i = items.length → (∀ j, r[j]? = items[i + j]?) → out.length + 3 * r.length ≤ 900 → ∃ cs, qN (zD items) (out, (i : Int)) = some cs ∧ cs.length ≤ 900 := by
  intro r
  induction r with
  | nil =>
    intro i out hi _ hl
    have hi : i = items.length := by simpa using hi
    subst hi
    refine ⟨out, zt ?_, by simp at hl; omega⟩
    unfold zD
    simp only
    rw [if_neg (by omega)]
  | cons x r ih =>
    intro i out hi hr hl
    simp only [List.length_cons] at hi hl
    have hget : items[i]? = some x := by have := hr 0; simpa using this.symm
    have hlt := Jd hget
    have hx := hS x (List.mem_of_getElem? hget)
    have hs := qcu items (i : Int) x.Need.Set (by omega) x.Need.Set 0 out (by simp) (by simp) (by omega)
    rw [show ((0 : Nat) : Int) = 0 from rfl] at hs
    have hp := qpP x.Need.Set out
    obtain ⟨cs, h1, h2⟩ := ih (i + 1) (x.Need.Set.foldl qc7 out) (by omega) (fun j => by rw [show i + 1 + j = i + (j + 1) by omega, ← hr (j + 1)]; rfl) (by omega)
    refine ⟨cs, ?_, h2⟩
    rw [zV (y := (x.Need.Set.foldl qc7 out, ((i + 1 : Nat) : Int))) (by
      unfold zD
      simp only
      rw [if_pos (by omega), if_pos ⟨by omega, by omega⟩, Int.toNat_natCast, hget, Option.bind_some, hs, Option.bind_some, qT hlt (by omega)])]
    exact h1
theorem qe0 {n : qb} (h : q00 3 6 n) : ∃ cs, ZU n = some cs ∧ cs.length ≤ 900 := by
  have h1 := h.hg
  have h2 := h.l2
  have h3 := h.nd
  have hlen := qfo n 1
  have hS : ∀ x ∈ itN 1 n, x.Need.Set.length ≤ 3 := fun x hx => by
    have hm : x.Need ∈ ndN n := by rw [← qgi n 1]; exact List.mem_map.2 ⟨x, hx, rfl⟩
    rcases h.ok _ hm with h | h
    · exact h.s3
    · rw [h.st]; simp
  obtain ⟨cs, g1, g2⟩ := qbG (itN 1 n) (by omega) hS (itN 1 n) 0 [] (by simp) (by simp) (by simp; omega)
  refine ⟨cs, ?_, g2⟩
  unfold ZU
  rw [qko n (by omega) (by omega), Option.bind_some, Sum.elim_inr]
  rw [show ((0 : Nat) : Int) = 0 from rfl] at g1
  rw [g1, Option.bind_some]
theorem qqp (x m : Int) (h0 : 0 < m) (h1 : m ≤ 1000000) : ∃ v, q12 x m = some v ∧ 0 ≤ v ∧ v < m := by
  have e1 := Int.tmod_lt_of_pos x h0
  have e2 : -m < Int.tmod x m := by
    have := Int.tmod_lt_of_pos (-x) h0
    rw [Int.neg_tmod] at this; omega
  have e3 : w64 (Int.tmod x m + m) = Int.tmod x m + m := zZ (by omega) (by omega)
  refine ⟨Int.tmod (Int.tmod x m + m) m, ?_, Int.tmod_nonneg _ (by omega), Int.tmod_lt_of_pos _ h0⟩
  unfold q12
  rw [if_neg (by omega), if_neg (by omega), e3]
theorem qef {d : qh} (h : Jc d) {most : Int} (h0 : 0 < most) (h1 : most ≤ 1000000) : ∃ v d', zf most d = some (v, d') ∧ 0 ≤ v ∧ v < most ∧ Jc d' := by
  obtain ⟨a, b, c⟩ := h
  unfold zf
  by_cases he : (d.L.length : Int) ≤ d.At
  · exact ⟨0, d, if_pos he, Int.le_refl _, h0, ⟨a, b, c⟩⟩
  · obtain ⟨x, hx⟩ : ∃ x, d.L[Int.toNat d.At]? = some x := ⟨_, List.getElem?_eq_getElem (by omega)⟩
    obtain ⟨v, e1, e2, e3⟩ := qqp x most h0 h1
    have e6 : w64 (d.At + 1) = d.At + 1 := zZ (by omega) (by omega)
    have e7 : w64 (d.At + 1 - 1) = d.At := by rw [zZ (by omega) (by omega)]; omega
    refine ⟨v, ⟨d.L, d.At + 1⟩, ?_, e2, e3, ⟨by show 0 ≤ d.At + 1; omega, by show d.At + 1 ≤ d.L.length; omega, c⟩⟩
    rw [if_neg he, e6, e7, if_pos ⟨a, by omega⟩, hx, Option.bind_some, e1, Option.bind_some]
def qqE (l : List qa) : Prop := ∀ a ∈ l, 0 < a.Sources.length
theorem qi7 (cs : List qc) (hc : 1 ≤ cs.length) (hc2 : cs.length ≤ 1000) (many : Int) (hm : many ≤ 7) (l : List qa) (k : Nat) (hl : l.length = k) (hs : qqE l) (hk : (k : Int) < many) {d : qh} (hd : Jc d) :
    ∃ a d', 0 < a.Sources.length ∧ (a.Credits = 5 ∨ a.Credits = 6 ∨ a.Credits = 10 ∨ a.Credits = 3) ∧ Jc d' ∧ zQ cs many (l, d, (k : Int)) = some (.inl (l ++ [a], d', ((k + 1 : Nat) : Int))) := by
  have hML : 100000 ≤ maxLen := by unfold maxLen; omega
  obtain ⟨v1, d1, e1, a1, b1, h1⟩ := qef hd (most := ((cs.length : Nat) : Int)) (by omega) (by omega)
  obtain ⟨c, hc1, _⟩ := qnt cs v1 a1 b1
  obtain ⟨v2, d2, e2, a2, b2, h2⟩ := qef h1 (most := 4) (by omega) (by omega)
  obtain ⟨cr, hcr, mcr⟩ := qnt [(5 : Int), 6, 10, 3] v2 a2 (by simpa using b2)
  obtain ⟨v3, d3, e3, a3, b3, h3⟩ := qef h2 (most := 7) (by omega) (by omega)
  obtain ⟨gr, hgr, _⟩ := qnt [(50 : Int), 60, 90, 40, 100, 79, 80] v3 a3 (by simpa using b3)
  obtain ⟨v4, d4, e4, a4, b4, h4⟩ := qef h3 (most := 600) (by omega) (by omega)
  obtain ⟨v5, d5, e5, a5, b5, h5⟩ := qef h4 (most := 8) (by omega) (by omega)
  have hw : w64 ((k : Int) + 1) = ((k + 1 : Nat) : Int) := by rw [zZ (by omega) (by omega)]; omega
  have hcr2 : cr = 5 ∨ cr = 6 ∨ cr = 10 ∨ cr = 3 := by simpa using mcr
  by_cases hz : v5 = 0 ∧ 0 < k
  · have hwk : w64 ((k : Int) - 1) = ((k - 1 : Nat) : Int) := by rw [zZ (by omega) (by omega)]; omega
    obtain ⟨p, hp⟩ : ∃ p, l[k - 1]? = some p := ⟨_, List.getElem?_eq_getElem (by omega)⟩
    have hps := hs p (List.mem_of_getElem? hp)
    obtain ⟨x, hx⟩ : ∃ x, p.Sources[0]? = some x := ⟨_, List.getElem?_eq_getElem hps⟩
    refine ⟨⟨c, cr, gr, v4, [x], 0, []⟩, d5, by simp, hcr2, h5, ?_⟩
    unfold zQ
    simp only
    rw [if_pos hk, e1, Option.bind_some]
    simp only
    rw [if_pos ⟨a1, b1⟩, hc1, Option.bind_some, e2, Option.bind_some]
    simp only
    rw [if_pos ⟨a2, b2⟩, hcr, Option.bind_some, e3, Option.bind_some]
    simp only
    rw [if_pos ⟨a3, b3⟩, hgr, Option.bind_some, e4, Option.bind_some]
    simp only
    rw [e5, Option.bind_some]
    simp only
    rw [if_pos (by simp [hz.1]), if_pos (by omega), hwk, if_pos ⟨by omega, by omega⟩, Int.toNat_natCast, hp, Option.bind_some, if_pos (by omega), hx, Option.bind_some, if_pos ⟨by omega, by omega⟩, hw]
  · refine ⟨⟨c, cr, gr, v4, [w64 (w64 (w64 ((1000000 : Int) * c.School) + (k : Int)) + (1 : Int))], 0, []⟩, d5, by simp, hcr2, h5, ?_⟩
    unfold zQ
    simp only
    rw [if_pos hk, e1, Option.bind_some]
    simp only
    rw [if_pos ⟨a1, b1⟩, hc1, Option.bind_some, e2, Option.bind_some]
    simp only
    rw [if_pos ⟨a2, b2⟩, hcr, Option.bind_some, e3, Option.bind_some]
    simp only
    rw [if_pos ⟨a3, b3⟩, hgr, Option.bind_some, e4, Option.bind_some]
    simp only
    rw [e5, Option.bind_some]
    simp only
    by_cases h0 : v5 = 0
    · rw [if_pos (by simp [h0]), if_neg (by omega), if_pos ⟨by omega, by omega⟩, hw]
    · rw [if_neg (by simpa using h0), if_pos ⟨by omega, by omega⟩, hw]
theorem qpB {n : qb} (h : q00 3 6 n) (q : List Int) (hq : q.length ≤ 9223372036854775807) : ∃ l, q0t n q = some l ∧ l.length ≤ 7 ∧ ∀ a ∈ l, a.Credits = 5 ∨ a.Credits = 6 ∨ a.Credits = 10 ∨ a.Credits = 3 := by
  obtain ⟨cs, g1, g2⟩ := qe0 h
  obtain ⟨v, d, e1, a1, b1, h1⟩ := qef (d := ⟨q, 0⟩) ⟨by show (0 : Int) ≤ 0; omega, by show (0 : Int) ≤ (q.length : Int); omega, hq⟩ (most := 8) (by omega) (by omega)
  have hML : 100000 ≤ maxLen := by unfold maxLen; omega
  obtain ⟨m, rfl⟩ : ∃ m : Nat, v = (m : Int) := ⟨v.toNat, by omega⟩
  have key : ∀ (j k : Nat) (l : List qa) (d : qh), j + k = m → l.length = k → qqE l → (∀ a ∈ l, a.Credits = 5 ∨ a.Credits = 6 ∨ a.Credits = 10 ∨ a.Credits = 3) → Jc d → ∃ l', qN (zQ (cs ++ [qc.mk (1 : Int) (ByteArray.mk (List.toArray [90]))]) (m : Int)) (l, d, (k : Int)) = some l' ∧ l'.length = m ∧ ∀ a ∈ l', a.Credits = 5 ∨ a.Credits = 6 ∨ a.Credits = 10 ∨ a.Credits = 3 := by
    intro j
    induction j with
    | zero =>
      intro k l d hk hl hs hcr hd
      refine ⟨l, zt ?_, by omega, hcr⟩
      unfold zQ
      simp only
      rw [if_neg (by omega)]
    | succ j ih =>
      intro k l d hk hl hs hcr hd
      obtain ⟨a, d', q1, q2, q3, q4⟩ := qi7 (cs ++ [qc.mk (1 : Int) (ByteArray.mk (List.toArray [90]))]) (by simp) (by simp; omega) (m : Int) (by omega) l k hl hs (by omega) hd
      rw [zV q4]
      refine ih (k + 1) (l ++ [a]) d' (by omega) (by simp [hl]) (fun x hx => ?_) (fun x hx => ?_) q3
      · rcases List.mem_append.1 hx with h | h
        · exact hs x h
        · rw [List.mem_singleton.1 h]; exact q1
      · rcases List.mem_append.1 hx with h | h
        · exact hcr x h
        · rw [List.mem_singleton.1 h]; exact q2
  obtain ⟨l, q1, q2, q3⟩ := key m 0 [] d (by omega) rfl (fun a ha => by simp at ha) (by simp) h1
  refine ⟨l, ?_, by omega, q3⟩
  unfold q0t
  rw [g1, Option.bind_some, if_pos ⟨by omega, by omega⟩, e1, Option.bind_some]
  rw [show ((0 : Nat) : Int) = 0 from rfl] at q1
  simp only
  rw [q1, Option.bind_some]
end Go.Proofs.Ytgejdfnidjnjcaa.Vc
namespace Go.Proofs.Ytgejdfnidjnjcaa.Vc
open Go.RowKit
set_option linter.unusedVariables false
set_option maxRecDepth 100000
theorem q7c {α : Type} (ds : List α) (o s : Nat) : ds.drop o = (ds.drop o).take s ++ ds.drop (o + s) := by
  rw [← List.drop_drop]; exact (List.take_append_drop s _).symm
theorem qi5 {X : Type} {E : X → List D} {W : X → Prop} {sz : Nat} (hz : 0 < sz) : ∀ (m : Nat) (es : List D), es.length = m * sz → (∀ i, i < m → ∃ x, (es.drop (i * sz)).take sz = E x ∧ W x) → ∃ l : List X, es = l.flatMap E ∧ l.length = m ∧ ∀ x ∈ l, W x
  | 0, es, hl, _ => ⟨[], by rw [Nat.zero_mul] at hl; exact List.eq_nil_of_length_eq_zero hl, rfl, by simp⟩
  | m + 1, es, hl, h => by
    obtain ⟨x, hx, wx⟩ := h 0 (by omega)
    obtain ⟨l, g1, g2, g3⟩ := qi5 hz m (es.drop sz) (by rw [List.length_drop, hl, Nat.add_mul]; omega) fun i hi => by
      obtain ⟨y, hy, wy⟩ := h (i + 1) (by omega)
      refine ⟨y, ?_, wy⟩
      rw [List.drop_drop, show sz + i * sz = (i + 1) * sz by rw [Nat.add_mul, Nat.one_mul, Nat.add_comm]]; exact hy
    refine ⟨x :: l, ?_, by simp [g2], fun y hy => ?_⟩
    · rw [Nat.zero_mul, List.drop_zero] at hx
      rw [List.flatMap_cons, ← g1, ← hx, List.take_append_drop]
    · rcases List.mem_cons.1 hy with rfl | hy
      · exact wx
      · exact g3 y hy
abbrev qsB : List TypeId := [26, 22, 3, 24, 23]
theorem qpz : qwm Try.prog qsB = true := by kernel_rfl
theorem ty3 : ∀ (n : Nat) (ds : List D), q0s Try.prog n 3 ds → ∃ v : Int, ds = [D.int .i64 v] ∧ (Lit.int .i64 v).wf = true := by
  intro n ds h
  cases n with
  | zero => exact h.elim
  | succ n =>
    unfold q0s at h
    rw [Try.underlying3] at h
    obtain ⟨z, h1, h2⟩ := h
    exact ⟨z, h1, h2⟩
theorem cz3 : Try.prog.cellsOf 3 = 1 := by kernel_rfl
theorem qvd : ∀ (n : Nat) (ds : List D), q0s Try.prog n 22 ds → ∃ v : List Int, ds = [D.sl 1 v.length (v.flatMap eI)] ∧ (v.length ≤ maxLen ∧ ∀ y ∈ v, (Lit.int .i64 y).wf = true) := by
  intro n ds h
  cases n with
  | zero => exact h.elim
  | succ n =>
    unfold q0s at h
    rw [Try.underlying22] at h
    obtain ⟨m, es, h1, h2, h3, h4⟩ := h
    rw [cz3] at h1 h3 h4
    obtain ⟨l, g1, g2, g3⟩ := qi5 (E := eI) (W := fun y => (Lit.int .i64 y).wf = true) (sz := 1) (by decide) m es h3 fun i hi => by
      obtain ⟨v, q1, q2⟩ := ty3 n _ (h4 i hi)
      exact ⟨v, q1.trans (rfl), q2⟩
    refine ⟨l, ?_, by omega, g3⟩
    rw [h1, g1, g2]
theorem qpJ : Try.prog.cellsOf 23 = 3 := by kernel_rfl
theorem qvQ : ∀ (n : Nat) (ds : List D), q0s Try.prog n 23 ds → ∃ v : qm9 Int, ds = [D.int .i64 v.a0, D.int .i64 v.a1, D.int .i64 v.a2] ∧ ((Lit.int .i64 v.a0).wf = true ∧ (Lit.int .i64 v.a1).wf = true ∧ (Lit.int .i64 v.a2).wf = true) := by
  intro n ds h
  cases n with
  | zero => exact h.elim
  | succ n =>
    unfold q0s at h
    rw [Try.underlying23] at h
    obtain ⟨hl, hf⟩ := h
    rw [qpJ] at hl
    have h0 : q0s Try.prog n 3 ((ds.drop 0).take (Try.prog.cellsOf 3)) := by
      have := hf 0 (by decide)
      rwa [cz3] at this ⊢
    rw [cz3] at h0
    obtain ⟨v0, e0, w0⟩ := ty3 _ _ h0
    have c0 := q7c ds 0 1
    rw [e0] at c0
    have h1 : q0s Try.prog n 3 ((ds.drop 1).take (Try.prog.cellsOf 3)) := by
      have := hf 1 (by decide)
      rwa [cz3] at this ⊢
    rw [cz3] at h1
    obtain ⟨v1, e1, w1⟩ := ty3 _ _ h1
    have c1 := q7c ds 1 1
    rw [e1] at c1
    have h2 : q0s Try.prog n 3 ((ds.drop 2).take (Try.prog.cellsOf 3)) := by
      have := hf 2 (by decide)
      rwa [cz3] at this ⊢
    rw [cz3] at h2
    obtain ⟨v2, e2, w2⟩ := ty3 _ _ h2
    have c2 := q7c ds 2 1
    rw [e2] at c2
    have cl : ds.drop 3 = [] := List.drop_eq_nil_of_le (by omega)
    refine ⟨⟨v0, v1, v2⟩, ?_, ⟨w0, w1, w2⟩⟩
    have c : ds.drop 0 = _ := c0
    simp only [Nat.reduceAdd] at c0 c1 c2 c
    rw [c1, c2, cl] at c
    exact c
theorem qvT : Try.prog.cellsOf 24 = 6 := by kernel_rfl
theorem qxB : ∀ (n : Nat) (ds : List D), q0s Try.prog n 24 ds → ∃ v : qsf (qm9 Int), ds = [D.int .i64 v.a0.a0, D.int .i64 v.a0.a1, D.int .i64 v.a0.a2, D.int .i64 v.a1.a0, D.int .i64 v.a1.a1, D.int .i64 v.a1.a2] ∧ (((Lit.int .i64 v.a0.a0).wf = true ∧ (Lit.int .i64 v.a0.a1).wf = true ∧ (Lit.int .i64 v.a0.a2).wf = true) ∧ ((Lit.int .i64 v.a1.a0).wf = true ∧ (Lit.int .i64 v.a1.a1).wf = true ∧ (Lit.int .i64 v.a1.a2).wf = true)) := by
  intro n ds h
  cases n with
  | zero => exact h.elim
  | succ n =>
    unfold q0s at h
    rw [Try.underlying24] at h
    obtain ⟨hl, hf⟩ := h
    rw [qvT] at hl
    have h0 : q0s Try.prog n 23 ((ds.drop 0).take (Try.prog.cellsOf 23)) := by
      have := hf 0 (by decide)
      rwa [qpJ] at this ⊢
    rw [qpJ] at h0
    obtain ⟨v0, e0, w0⟩ := qvQ _ _ h0
    have c0 := q7c ds 0 3
    rw [e0] at c0
    have h1 : q0s Try.prog n 23 ((ds.drop 3).take (Try.prog.cellsOf 23)) := by
      have := hf 1 (by decide)
      rwa [qpJ] at this ⊢
    rw [qpJ] at h1
    obtain ⟨v1, e1, w1⟩ := qvQ _ _ h1
    have c1 := q7c ds 3 3
    rw [e1] at c1
    have cl : ds.drop 6 = [] := List.drop_eq_nil_of_le (by omega)
    refine ⟨⟨v0, v1⟩, ?_, ⟨w0, w1⟩⟩
    have c : ds.drop 0 = _ := c0
    simp only [Nat.reduceAdd] at c0 c1 c
    rw [c1, cl] at c
    exact c
theorem qwo : Try.prog.cellsOf 22 = 1 := by kernel_rfl
theorem qwP : Try.prog.cellsOf 26 = 8 := by kernel_rfl
def q79 (x : ZV) : Prop := (x.Need.length ≤ maxLen ∧ ∀ y ∈ x.Need, (Lit.int .i64 y).wf = true) ∧ (x.L.length ≤ maxLen ∧ ∀ y ∈ x.L, (Lit.int .i64 y).wf = true) ∧ (((Lit.int .i64 x.Odd.a0.a0).wf = true ∧ (Lit.int .i64 x.Odd.a0.a1).wf = true ∧ (Lit.int .i64 x.Odd.a0.a2).wf = true) ∧ ((Lit.int .i64 x.Odd.a1.a0).wf = true ∧ (Lit.int .i64 x.Odd.a1.a1).wf = true ∧ (Lit.int .i64 x.Odd.a1.a2).wf = true))
theorem ty26 : ∀ (n : Nat) (ds : List D), q0s Try.prog n 26 ds → ∃ v : ZV, ds = [D.sl 1 v.Need.length (v.Need.flatMap eI), D.sl 1 v.L.length (v.L.flatMap eI), D.int .i64 v.Odd.a0.a0, D.int .i64 v.Odd.a0.a1, D.int .i64 v.Odd.a0.a2, D.int .i64 v.Odd.a1.a0, D.int .i64 v.Odd.a1.a1, D.int .i64 v.Odd.a1.a2] ∧ q79 v := by
  intro n ds h
  cases n with
  | zero => exact h.elim
  | succ n =>
    unfold q0s at h
    rw [Try.underlying26] at h
    obtain ⟨hl, hf⟩ := h
    rw [qwP] at hl
    have h0 : q0s Try.prog n 22 ((ds.drop 0).take (Try.prog.cellsOf 22)) := hf _ (List.mem_of_getElem? (i := 0) rfl)
    rw [qwo] at h0
    obtain ⟨v0, e0, w0⟩ := qvd _ _ h0
    have c0 := q7c ds 0 1
    rw [e0] at c0
    have h1 : q0s Try.prog n 22 ((ds.drop 1).take (Try.prog.cellsOf 22)) := hf _ (List.mem_of_getElem? (i := 1) rfl)
    rw [qwo] at h1
    obtain ⟨v1, e1, w1⟩ := qvd _ _ h1
    have c1 := q7c ds 1 1
    rw [e1] at c1
    have h2 : q0s Try.prog n 24 ((ds.drop 2).take (Try.prog.cellsOf 24)) := hf _ (List.mem_of_getElem? (i := 2) rfl)
    rw [qvT] at h2
    obtain ⟨v2, e2, w2⟩ := qxB _ _ h2
    have c2 := q7c ds 2 6
    rw [e2] at c2
    have cl : ds.drop 8 = [] := List.drop_eq_nil_of_le (by omega)
    refine ⟨⟨v0, v1, v2⟩, ?_, ⟨w0, w1, w2⟩⟩
    have c : ds.drop 0 = _ := c0
    simp only [Nat.reduceAdd] at c0 c1 c2 c
    rw [c1, c2, cl] at c
    exact c
end Go.Proofs.Ytgejdfnidjnjcaa.Vc
namespace Go.Proofs.Ytgejdfnidjnjcaa.Vc
open Go.RowKit
set_option linter.unusedVariables false
set_option linter.unusedSimpArgs false
structure qqt (c : ZV) : Prop where
  h1 : c.Need.length ≤ 9223372036854775807
  h2 : c.L.length ≤ 9223372036854775807
theorem qhC {c : ZV} (h : qqt c) : ∃ n l, Za c = some (n, l) ∧ q00 3 6 n ∧ l.length ≤ 7 ∧ ∀ a ∈ l, a.Credits = 5 ∨ a.Credits = 6 ∨ a.Credits = 10 ∨ a.Credits = 3 := by
  obtain ⟨n, e1, hn⟩ := qml c.Need h.h1
  obtain ⟨l, e2, hl, hc⟩ := qpB hn c.L h.h2
  refine ⟨n, l, ?_, hn, hl, hc⟩
  unfold Za
  rw [e1, Option.bind_some, e2, Option.bind_some]
set_option maxRecDepth 100000 in
theorem qbZ : ZE = some true := by
  have h : q1y 40 = some true := by kernel_rfl
  exact q6e 40 _ h
end Go.Proofs.Ytgejdfnidjnjcaa.Vc
namespace Go.Proofs.Ytgejdfnidjnjcaa.Vc
open Go.RowKit
set_option linter.unusedVariables false
set_option linter.unusedSimpArgs false
theorem qo2 : ∀ L : List qb, L.length ≤ (ndL L).length
  | [] => Nat.zero_le _
  | x :: L => by
    have := qo2 L
    rw [ndL, List.length_append, Z3, List.length_cons, List.length_cons]
    omega
theorem qeN (s : qd) (l : List qa) (hl : l.length ≤ 62) (d : List Int) (hd : d.length = l.length) : ∀ (n : qb) (nx : Nat), (∀ y ∈ ndN n, y.Set.length ≤ 1000000) → nx + (ndN n).length ≤ 100000 →
    QL (n, s, l, d, (nx : Int)) = some ((q1H s l (fun j => d.getD j (-1)) n nx).1, (q1H s l (fun j => d.getD j (-1)) n nx).2, s, l, d, ((nx + lvN n : Nat) : Int)) := by
  intro n
  induction n using qb.rec (motive_2 := fun L => ∀ (b5 : qb) (pre : List qb) (nx many : Nat) (em wr : Bool), (∀ y ∈ ndL L, y.Set.length ≤ 1000000) → nx + (ndL L).length ≤ 100000 → many + L.length ≤ 200000 → pre.length + L.length ≤ 200000 →
      qN (zY QL b5 (pre ++ L) ((pre ++ L).length : Int)) (s, l, d, (nx : Int), em, (many : Int), wr, (pre.length : Int)) =
        some (s, l, d, ((nx + lvL L : Nat) : Int), em && (q0y s l (fun j => d.getD j (-1)) (b5.Kind == 3) L nx).1, ((many + (q0y s l (fun j => d.getD j (-1)) (b5.Kind == 3) L nx).2.1 : Nat) : Int), wr || (q0y s l (fun j => d.getD j (-1)) (b5.Kind == 3) L nx).2.2)) with
  | mk k n m S L ih =>
    intro nx hs hn
    rw [ndN, List.length_cons] at hn
    rw [q2z]
    unfold Qv
    simp only
    rw [q7Y, q4Y, lvN]
    have hlf : q5L ⟨k, n, m, S, L⟩ = decide (k = 1 ∨ k = 2) := by
      unfold q5L
      simp only
      by_cases h1 : k = 1
      · subst h1; rfl
      · by_cases h2 : k = 2
        · subst h2; rfl
        · rw [beq_eq_false_iff_ne.2 h1, beq_eq_false_iff_ne.2 h2, decide_eq_false (by omega)]; rfl
    rw [hlf]
    by_cases hk : k = 1 ∨ k = 2
    · have hsz := hs _ (qak _)
      rw [if_pos (decide_eq_true hk), if_pos hk, if_pos hk, qft _ (by omega) s l hl d hd nx, Option.bind_some]
      simp only
      generalize qdf ⟨k, n, m, S, L⟩ s l (fun j => d.getD j (-1) == (nx : Int)) = x
      have hw : w64 ((nx : Int) + 1) = ((nx + 1 : Nat) : Int) := zZ (by omega) (by omega)
      rw [hw]
      unfold QO
      by_cases h1 : k = 1
      · subst h1
        have hx : qx x ⟨1, n, m, S, L⟩ = q9D ⟨1, n, m, S, L⟩ x := by
          unfold qx q9D
          rw [if_pos rfl]
          cases x.fine <;> simp
        rw [if_pos (by decide), Option.bind_some, Sum.elim_inl, hx]
      · have hx : qI x ⟨k, n, m, S, L⟩ = q9D ⟨k, n, m, S, L⟩ x := by
          unfold qI q9D
          simp only
          rw [if_neg h1]
          cases x.fine
          · simp
          · by_cases h : 0 < x.many <;> simp [h]
        rw [if_neg (by rw [beq_eq_false_iff_ne.2 h1]; decide), Option.bind_some, Sum.elim_inr, hx]
    · have hln := qo2 L
      have h := ih ⟨k, n, m, S, L⟩ [] nx 0 true false (fun y hy => hs y (by rw [ndN]; exact List.mem_cons_of_mem _ hy)) (by omega) (by omega) (by simp; omega)
      rw [if_neg (by rw [decide_eq_false hk]; decide), if_neg hk, if_neg hk]
      simp only [List.nil_append] at h
      change Option.bind (qN _ (s, l, d, (nx : Int), true, ((0 : Nat) : Int), false, ((([] : List qb).length : Nat) : Int))) _ = _
      rw [h, Option.bind_some]
      simp only [Bool.true_and, Bool.false_or, Nat.zero_add]
      cases (q0y s l (fun j => d.getD j (-1)) (k == 3) L nx).2.2 <;> simp
  | nil =>
    rename_i b5 pre nx many em wr hs hn hm hp
    rw [lvL, q0y]
    refine zt ?_
    unfold zY
    simp only
    rw [List.append_nil, if_neg (by omega)]
    simp
  | cons x L h1 h2 =>
    rename_i b5 pre nx many em wr hs hn hm hp
    rw [ndL, List.length_append] at hn
    rw [List.length_cons] at hm hp
    have hx := h1 nx (fun y hy => hs y (by rw [ndL]; exact List.mem_append_left _ hy)) (by omega)
    have hlv := qe2 x
    have hw : w64 ((pre.length : Int) + 1) = ((pre.length + 1 : Nat) : Int) := zZ (by omega) (by omega)
    have hw2 : w64 ((many : Int) + 1) = ((many + 1 : Nat) : Int) := zZ (by omega) (by omega)
    have hL := h2 b5 (pre ++ [x]) (nx + lvN x) (many + if (q1H s l (fun j => d.getD j (-1)) x nx).2 = true then 1 else 0) (em && (q1H s l (fun j => d.getD j (-1)) x nx).1) (wr || (!(q1H s l (fun j => d.getD j (-1)) x nx).2 && (!(q1H s l (fun j => d.getD j (-1)) x nx).1 || (b5.Kind == 3)))) (fun y hy => hs y (by rw [ndL]; exact List.mem_append_right _ hy)) (by omega) (by split <;> omega) (by rw [List.length_append, List.length_singleton]; omega)
    rw [List.append_assoc, List.singleton_append, show (pre ++ [x]).length = pre.length + 1 from by rw [List.length_append, List.length_singleton]] at hL
    have hg : (pre ++ x :: L)[pre.length]? = some x := by rw [List.getElem?_append_right (Nat.le_refl _), Nat.sub_self]; rfl
    rw [q0y, lvL]
    simp only
    rw [zV (y := (s, l, d, ((nx + lvN x : Nat) : Int), em && (q1H s l (fun j => d.getD j (-1)) x nx).1, ((many + (if (q1H s l (fun j => d.getD j (-1)) x nx).2 = true then 1 else 0) : Nat) : Int), wr || (!(q1H s l (fun j => d.getD j (-1)) x nx).2 && (!(q1H s l (fun j => d.getD j (-1)) x nx).1 || (b5.Kind == 3))), ((pre.length + 1 : Nat) : Int))) ?_, hL]
    · simp only [Nat.add_assoc, Bool.and_assoc, Bool.or_assoc]
    · unfold zY
      simp only
      rw [if_pos (by rw [List.length_append, List.length_cons]; omega), if_pos (by rw [List.length_append, List.length_cons]; omega), Int.toNat_natCast, hg, Option.bind_some, hx, Option.bind_some]
      simp only
      rw [hw, hw2]
      generalize (q1H s l (fun j => d.getD j (-1)) x nx).1 = q1
      generalize (q1H s l (fun j => d.getD j (-1)) x nx).2 = q2
      cases em <;> cases wr <;> cases q1 <;> cases q2 <;> simp
end Go.Proofs.Ytgejdfnidjnjcaa.Vc
namespace Go.Proofs.Ytgejdfnidjnjcaa.Vc
open Go.RowKit
set_option linter.unusedVariables false
set_option linter.unusedSimpArgs false
theorem qiq : ∀ n : qb, (∀ y ∈ ndN n, q0z y) → lvN n ≤ ((ndN n).filter J3).length := by
  intro n
  induction n using qb.rec (motive_2 := fun L => (∀ y ∈ ndL L, q0z y) → lvL L ≤ ((ndL L).filter J3).length) with
  | mk k n m S L ih =>
    intro hf
    have h1 := ih fun y hy => hf y (by rw [ndN]; exact List.mem_cons_of_mem _ hy)
    rw [lvN, ndN, List.filter_cons]
    have hk := (hf _ (qak _)).kind
    simp only at hk
    by_cases h : k = 1 ∨ k = 2
    · rw [if_pos h, if_pos (by unfold J3; simp only; rcases h with h | h <;> subst h <;> decide), List.length_cons]
      omega
    · rw [if_neg h]
      split
      · rw [List.length_cons]; omega
      · exact h1
  | nil => rename_i hf; rw [lvL]; exact Nat.zero_le _
  | cons x L h1 h2 =>
    rename_i hf
    have a := h1 fun y hy => hf y (by rw [ndL]; exact List.mem_append_left _ hy)
    have b := h2 fun y hy => hf y (by rw [ndL]; exact List.mem_append_right _ hy)
    rw [lvL, ndL, List.filter_append, List.length_append]
    omega
theorem qjg {n : qb} (h : q2u n) : q0z n := by
  rcases h with h | h
  · refine ⟨?_, fun e => ?_, fun e => ?_⟩
    · rcases h.kd with q | q
      · exact .inr (.inl q.1)
      · exact .inl q.1
    · rcases h.kd with q | q <;> (have := q.1; omega)
    · rcases h.kd with q | q <;> (have := q.1; omega)
  · refine ⟨?_, fun e => ?_, fun e => ?_⟩
    · rcases h.kd with q | q
      · exact .inr (.inr (.inl q.1))
      · exact .inr (.inr (.inr q.1))
    · refine ⟨?_, h.ne⟩
      rcases h.kd with q | q
      · rw [q.2]; omega
      · have := q.1; omega
    · rcases h.kd with q | q
      · have := q.1; omega
      · exact q.2.1
theorem qiW (d : List Int) (hd : d.length ≤ 100) (v : Int) (h : ∀ (j : Nat) (y : Int), d[j]? = some y → Ze y v = false) : qE d v = some false := by
  have h1 := Zp (step := qD v d (d.length : Int)) (e := .inr ()) (fun i => (i : Int)) 0 d.length (Nat.zero_le _) (fun i _ hi => by
      obtain ⟨y, hy⟩ : ∃ y, d[i]? = some y := ⟨_, List.getElem?_eq_getElem hi⟩
      have hw : w64 ((i : Int) + 1) = ((i + 1 : Nat) : Int) := qT (n := 100) (by omega) (by omega)
      unfold qD
      rw [if_pos (by omega), if_pos ⟨by omega, by omega⟩, Int.toNat_natCast, hy, Option.bind_some, h i y hy, if_neg (by decide), hw]) (by
      unfold qD
      rw [if_neg (by omega)])
  unfold qE qX
  change Option.bind (Option.bind (qN _ ((0 : Nat) : Int)) _) _ = _
  rw [h1]
  rfl
theorem qja {n : qb} (hn : q00 3 6 n) {l : List qa} {set : Nat} (h : q02 n l set) (s : qd) (d : List Int) (hd : d.length = l.length) (hv : ∀ (j : Nat) (y : Int), d[j]? = some y → -1 ≤ y ∧ y < (lvN n : Int)) : QQ n s l d = some (q1H s l (fun j => d.getD j (-1)) n 0).2 := by
  have hll := h.ll
  have hnd := h.nd
  have hhg := hn.hg
  have hlf := qiq n h.fit
  unfold QQ
  rw [q8N n (by omega) hnd h.st, Option.bind_some, q9R hn, Option.bind_some, if_neg (by decide), if_neg (by rw [hd]; simp), qiW d (by omega) _ fun j y hy => ?_, Option.bind_some, if_neg (by decide)]
  · change Option.bind (QL (n, s, l, d, ((0 : Nat) : Int))) _ = _
    rw [qeN s l (by omega) d hd n 0 h.st (by omega), Option.bind_some]
  · have := hv j y hy
    unfold Ze
    rw [if_neg (by omega)]; exact decide_eq_false (by omega)
theorem q92 {n : qb} (hn : q00 3 6 n) {l : List qa} (hl : l.length ≤ 10) {set : Nat} (hs : set < 2 ^ l.length) : q02 n l set := by
  have h1 := hn.nd
  have h2 := hn.l2
  exact ⟨fun y hy => qjg (hn.ok y hy), by omega, q7R hn.ok, by omega, hs⟩
end Go.Proofs.Ytgejdfnidjnjcaa.Vc
namespace Go.Proofs.Ytgejdfnidjnjcaa.Vc
open Go.RowKit
set_option linter.unusedVariables false
set_option linter.unusedSimpArgs false
def qbz (W : Nat) (l : List Int) : Nat := l.foldl (fun acc y => acc * W + (y + 1).toNat) 0
theorem q5R (W : Nat) (l : List Int) (y : Int) : qbz W (l ++ [y]) = qbz W l * W + (y + 1).toNat := by
  unfold qbz
  rw [List.foldl_append]
  rfl
def dgR (W : Nat) : Nat → Nat → List Int
  | 0, _ => []
  | k + 1, p => dgR W k (p / W) ++ [((p % W : Nat) : Int) - 1]
theorem q8S (W : Nat) : ∀ k p, (dgR W k p).length = k
  | 0, _ => rfl
  | k + 1, p => by rw [dgR, List.length_append, q8S W k]; rfl
theorem qcp (W : Nat) (hW : 1 ≤ W) : ∀ (k p j : Nat) (y : Int), (dgR W k p)[j]? = some y → -1 ≤ y ∧ y + 1 < (W : Int)
  | 0, p, j, y, h => by simp [dgR] at h
  | k + 1, p, j, y, h => by
    rw [dgR] at h
    rcases q45 h with e | ⟨_, e⟩
    · exact qcp W hW k _ j y e
    · have := Nat.mod_lt p hW
      omega
theorem qfR (W : Nat) : ∀ k p, p < W ^ k → qbz W (dgR W k p) = p
  | 0, p, h => by
    rw [Nat.pow_zero] at h
    have : p = 0 := by omega
    rw [this]; rfl
  | k + 1, p, h => by
    have h1 : p / W < W ^ k := by
      rw [Nat.pow_succ] at h
      exact Nat.div_lt_of_lt_mul (by rwa [Nat.mul_comm])
    rw [dgR, q5R, qfR W k _ h1]
    have := Nat.div_add_mod p W
    rw [Nat.mul_comm] at this
    omega
theorem qhK (W : Nat) : ∀ (m : Nat) (d : List Int), d.length = m → (∀ (j : Nat) (y : Int), d[j]? = some y → -1 ≤ y ∧ y + 1 < (W : Int)) → dgR W m (qbz W d) = d ∧ qbz W d < W ^ m
  | 0, d, h, _ => by
    have : d = [] := List.length_eq_zero_iff.1 h
    subst this
    exact ⟨rfl, by simp [qbz]⟩
  | m + 1, d, h, hv => by
    have ht : d = d.take m ++ [d[m]'(by omega)] := by
      have := List.take_add_one (l := d) (i := m)
      rw [List.getElem?_eq_getElem (by omega), List.take_of_length_le (by omega)] at this
      exact this
    have hy := hv m (d[m]'(by omega)) (List.getElem?_eq_getElem (by omega))
    generalize d[m]'(by omega) = y at ht hy
    obtain ⟨e1, e2⟩ := qhK W m (d.take m) (by rw [List.length_take]; omega) fun j z hz => hv j z (by
      rw [List.getElem?_take] at hz
      split at hz
      · exact hz
      · cases hz)
    generalize d.take m = t at ht e1 e2
    subst ht
    have hz : (y + 1).toNat < W := by omega
    rw [q5R, dgR]
    have hd : (qbz W t * W + (y + 1).toNat) / W = qbz W t := by
      rw [Nat.mul_comm, Nat.mul_add_div (by omega), Nat.div_eq_of_lt hz]; rfl
    have hm : (qbz W t * W + (y + 1).toNat) % W = (y + 1).toNat := by
      rw [Nat.mul_comm, Nat.mul_add_mod, Nat.mod_eq_of_lt hz]
    rw [hd, hm, e1]
    refine ⟨?_, ?_⟩
    · congr 2
      omega
    · rw [Nat.pow_succ]
      have := Nat.mul_le_mul_right W e2
      rw [Nat.succ_mul] at this
      omega
def qe9 (b : List Int) (set w : Nat) : Prop := ∀ (j : Nat) (y : Int), b[j]? = some y → if set.testBit j = true then 0 ≤ y ∧ y < (w : Int) else y = -1
theorem qb0 {n : qb} {l : List qa} {set : Nat} (h : q02 n l set) {b : List Int} (hb : b.length = l.length) (hv : qe9 b set (lvN n)) (j : Nat) : Asg (b.take j) (fun k => b.getD k (-1)) 0 (lvN n) set := by
  have hget : ∀ k y, b[k]? = some y → b.getD k (-1) = y := fun k y hk => by rw [List.getD_eq_getElem?_getD, hk]; rfl
  refine ⟨fun k hk => ?_, fun k hk => ?_, fun k y hy x hx hx2 => ?_⟩
  · have hl := qf1 h.lt hk
    obtain ⟨y, hy⟩ : ∃ y, b[k]? = some y := ⟨_, List.getElem?_eq_getElem (by omega)⟩
    have := hv k y hy
    rw [if_pos hk] at this
    show _ ≤ b.getD k (-1) ∧ b.getD k (-1) < _
    rw [hget k y hy]
    omega
  · show b.getD k (-1) = -1
    by_cases hl : k < b.length
    · have hy := List.getElem?_eq_getElem hl
      have := hv k _ hy
      rw [hk, if_neg (by decide)] at this
      rw [hget k _ hy, this]
    · rw [List.getD_eq_getElem?_getD, List.getElem?_eq_none (by omega)]; rfl
  · rw [List.getElem?_take] at hy
    split at hy
    · show y = x ↔ b.getD k (-1) = x
      rw [hget k y hy]
    · cases hy
theorem qgF {n : qb} {l : List qa} {set : Nat} (h : q02 n l set) {s : qd} {d b : List Int} (hd : d.length = l.length) (hf : q8K d s l n set) (hb : b.length = l.length) (hv : qe9 b set (lvN n))
    (hm : (q1H s l (fun k => b.getD k (-1)) n 0).2 = true) : d = b ∨ qbz (lvN n + 1) d < qbz (lvN n + 1) b := by
  have hll := h.ll
  have key : ∀ j, j ≤ l.length → d.take j = b.take j ∨ qbz (lvN n + 1) (d.take j) < qbz (lvN n + 1) (b.take j) := by
    intro j
    induction j with
    | zero => intro _; left; rw [List.take_zero, List.take_zero]
    | succ j ih =>
      intro hj
      obtain ⟨x, hx⟩ : ∃ x, d[j]? = some x := ⟨_, List.getElem?_eq_getElem (by omega)⟩
      obtain ⟨z, hz⟩ : ∃ z, b[j]? = some z := ⟨_, List.getElem?_eq_getElem (by omega)⟩
      have ed : d.take (j + 1) = d.take j ++ [x] := by rw [List.take_add_one, hx]; rfl
      have eb : b.take (j + 1) = b.take j ++ [z] := by rw [List.take_add_one, hz]; rfl
      have vx := hf.val j x hx
      have vz := hv j z hz
      have hA := (q3R (b.take (j + 1)) s l (by omega) n 0 set h.fit h.lt).2 ⟨_, qb0 h hb hv (j + 1), hm⟩
      rw [ed, eb, q5R, q5R]
      rw [eb] at hA
      rcases ih (by omega) with e | e
      · by_cases hbit : set.testBit j = true
        · rw [if_pos hbit] at vx vz
          rcases Int.lt_trichotomy z x with g | g | g
          · exfalso
            have := hf.lst j x hx hbit z.toNat (by omega)
            rw [e, show ((z.toNat : Nat) : Int) = z from by omega, hA] at this
            exact absurd this (by decide)
          · left; rw [e, g]
          · right; rw [e]; omega
        · rw [if_neg hbit] at vx vz
          left; rw [e, vx, vz]
      · right
        have h1 : (x + 1).toNat < lvN n + 1 := by split at vx <;> omega
        have := Nat.mul_le_mul_right (lvN n + 1) e
        rw [Nat.succ_mul] at this
        omega
  have := key l.length (Nat.le_refl _)
  rwa [List.take_of_length_le (by omega), List.take_of_length_le (by omega)] at this
def q5U (b : List Int) : Nat := mkS (fun j => decide (0 ≤ b.getD j (-1))) b.length
theorem qav {b : List Int} {j : Nat} {y : Int} (h : b[j]? = some y) : (q5U b).testBit j = decide (0 ≤ y) := by
  unfold q5U
  rw [qau, decide_eq_true (Jd h), Bool.true_and, List.getD_eq_getElem?_getD, h]
  rfl
theorem qbN (b : List Int) : q5U b < 2 ^ b.length := qkN _ _
theorem qdT {b : List Int} {w : Nat} (h : ∀ (j : Nat) (y : Int), b[j]? = some y → -1 ≤ y ∧ y < (w : Int)) : qe9 b (q5U b) w := fun j y hy => by
  have := h j y hy
  rw [qav hy]
  by_cases e : 0 ≤ y
  · rw [if_pos (decide_eq_true e)]; omega
  · rw [decide_eq_false e, if_neg (by decide)]; omega
theorem qeh {b : List Int} {set w : Nat} (hs : set < 2 ^ b.length) (h : qe9 b set w) : q5U b = set := Nat.eq_of_testBit_eq fun j => by
  by_cases hj : j < b.length
  · have hy := List.getElem?_eq_getElem hj
    have := h j _ hy
    rw [qav hy]
    cases e : set.testBit j
    · rw [e, if_neg (by decide)] at this
      exact decide_eq_false (by omega)
    · rw [e, if_pos rfl] at this
      exact decide_eq_true this.1
  · rw [Nat.testBit_lt_two_pow (Nat.lt_of_lt_of_le (qbN b) (Nat.pow_le_pow_right (by decide) (by omega))), Nat.testBit_lt_two_pow (Nat.lt_of_lt_of_le hs (Nat.pow_le_pow_right (by decide) (by omega)))]
def qiv (n : qb) (s : qd) (l : List qa) (b : List Int) : Bool := (q1H s l (fun k => b.getD k (-1)) n 0).2
theorem qi3 {n : qb} {l : List qa} {set : Nat} (h : q02 n l set) {s : qd} {b : List Int} (hb : b.length = l.length) (hv : qe9 b set (lvN n)) (hm : qiv n s l b = true) : zH [] s l n 0 set = true := by
  have := qb0 h hb hv 0
  rw [List.take_zero] at this
  exact (q3R [] s l (by have := h.ll; omega) n 0 set h.fit h.lt).2 ⟨_, this, hm⟩
end Go.Proofs.Ytgejdfnidjnjcaa.Vc
namespace Go.Proofs.Ytgejdfnidjnjcaa.Vc
open Go.RowKit
set_option linter.unusedVariables false
set_option linter.unusedSimpArgs false
theorem qg7 {n : qb} {l : List qa} {set : Nat} (h : q02 n l set) {s : qd} {d : List Int} (hd : d.length = l.length) (hf : q8K d s l n set) : qiv n s l d = true := by
  have hll := h.ll
  obtain ⟨a, ha, hm⟩ := (q3R d s l (by omega) n 0 set h.fit h.lt).1 hf.ok
  have hget : ∀ j, j < l.length → ∃ y, d[j]? = some y ∧ d.getD j (-1) = y := fun j hj => ⟨d[j]'(by omega), List.getElem?_eq_getElem (by omega), by rw [List.getD_eq_getElem?_getD, List.getElem?_eq_getElem (by omega)]; rfl⟩
  have hv : q1H s l (fun j => d.getD j (-1)) n 0 = q1H s l a n 0 := q5Q s l _ a n 0 fun k hk x hx hx2 => by
    obtain ⟨y, hy, e⟩ := hget k hk
    show d.getD k (-1) = x ↔ a k = x
    rw [e]
    exact ha.com k y hy x hx (by omega)
  unfold qiv
  rw [hv]; exact hm
theorem qct {n : qb} {l : List qa} {set : Nat} {s : qd} {d : List Int} (hf : q8K d s l n set) (j : Nat) (y : Int) (hy : d[j]? = some y) : -1 ≤ y ∧ y + 1 < ((lvN n + 1 : Nat) : Int) := by
  have := hf.val j y hy
  split at this <;> omega
theorem qbu {n : qb} (m x : Nat) : qe9 (dgR (lvN n + 1) m x) (q5U (dgR (lvN n + 1) m x)) (lvN n) := qdT fun j y hy => by
  have := qcp (lvN n + 1) (by omega) m x j y hy
  omega
theorem qfX {n : qb} {l : List qa} {set : Nat} (h : q02 n l set) {s : qd} {d : List Int} (hd : d.length = l.length) (hf : q8K d s l n set) :
    qbz (lvN n + 1) d < (lvN n + 1) ^ l.length ∧ dgR (lvN n + 1) l.length (qbz (lvN n + 1) d) = d ∧ q5U d = set ∧ qiv n s l d = true := by
  obtain ⟨e1, e2⟩ := qhK (lvN n + 1) l.length d hd fun j y hy => qct hf j y hy
  exact ⟨e2, e1, qeh (by rw [hd]; exact h.lt) hf.val, qg7 h hd hf⟩
theorem qib {n : qb} {l : List qa} {s : qd} {x : Nat} (h : q02 n l (q5U (dgR (lvN n + 1) l.length x))) (hm : qiv n s l (dgR (lvN n + 1) l.length x) = true) : zH [] s l n 0 (q5U (dgR (lvN n + 1) l.length x)) = true :=
  qi3 h (q8S _ _ _) (qbu _ _) hm
theorem qiN {n : qb} {l : List qa} {s : qd} {x : Nat} (hx : x < (lvN n + 1) ^ l.length) (h : q02 n l (q5U (dgR (lvN n + 1) l.length x))) (hm : qiv n s l (dgR (lvN n + 1) l.length x) = true) {d : List Int} (hd : d.length = l.length)
    (hf : q8K d s l n (q5U (dgR (lvN n + 1) l.length x))) (hno : ∀ y, y < x → q5U (dgR (lvN n + 1) l.length y) = q5U (dgR (lvN n + 1) l.length x) → qiv n s l (dgR (lvN n + 1) l.length y) = false) : d = dgR (lvN n + 1) l.length x := by
  rcases qgF h hd hf (q8S _ _ _) (qbu _ _) hm with e | e
  · exact e
  · exfalso
    rw [qfR _ _ _ hx] at e
    obtain ⟨q1, q2, q3, q4⟩ := qfX h hd hf
    have := hno _ e (by rw [q2]; exact q3)
    rw [q2, q4] at this
    exact absurd this (by decide)
theorem qaO {p q : Nat → Bool} : ∀ n, (∀ k, k < n → p k = q k) → mkS p n = mkS q n
  | 0, _ => rfl
  | n + 1, h => by rw [mkS, mkS, qaO n fun k hk => h k (by omega), h n (by omega)]
theorem qfu (b : List Int) (y : Int) : q5U (b ++ [y]) = q5U b + if 0 ≤ y then 2 ^ b.length else 0 := by
  unfold q5U
  rw [List.length_append, List.length_singleton, mkS, qaO (q := fun j => decide (0 ≤ b.getD j (-1))) b.length fun k hk => by
    simp only [List.getD_eq_getElem?_getD]
    rw [List.getElem?_append_left hk]]
  have hl := qkN (fun j => decide (0 ≤ b.getD j (-1))) b.length
  have e : (b ++ [y]).getD b.length (-1) = y := by
    rw [List.getD_eq_getElem?_getD, List.getElem?_append_right (Nat.le_refl _), Nat.sub_self]; rfl
  simp only [e, decide_eq_true_eq]
  by_cases h : 0 ≤ y
  · rw [if_pos h]
    have := Nat.two_pow_add_eq_or_of_lt hl 1
    rw [Nat.mul_one] at this
    rw [Nat.or_comm, ← this, Nat.add_comm]
  · rw [if_neg h, Nat.or_zero, Nat.add_zero]
def q9s (b : List Int) : List Int := b.filter fun y => decide (0 ≤ y)
theorem qel (b : List Int) (y : Int) : q9s (b ++ [y]) = q9s b ++ if 0 ≤ y then [y] else [] := by
  unfold q9s
  rw [List.filter_append]
  congr 1
  by_cases h : 0 ≤ y
  · rw [if_pos h, List.filter_cons, if_pos (decide_eq_true h)]; rfl
  · rw [if_neg h, List.filter_cons, if_neg (by simpa using h)]; rfl
theorem qaL : ∀ (b : List Int) (p : Nat → Bool), (∀ (j : Nat) (y : Int), b[j]? = some y → p j = decide (0 ≤ y)) → q3n p b = q9s b
  | [], p, h => rfl
  | y :: b, p, h => by
    have h0 := h 0 y (by simp)
    rw [q3n, qaL b (fun j => p (j + 1)) fun j z hz => h (j + 1) z (by simpa using hz), h0]
    unfold q9s
    rw [List.filter_cons]
    by_cases e : 0 ≤ y
    · rw [decide_eq_true e]; rfl
    · rw [decide_eq_false e]; rfl
theorem qkq (b : List Int) : q3n (q5U b).testBit b = q9s b := qaL b _ fun j y hy => qav hy
theorem qaV (b : List Int) : (q9s b).length ≤ b.length := List.length_filter_le ..
theorem qjf (W m k x : Nat) (hk : k < m) : dgR W (k + 1) (x / W ^ (m - (k + 1))) = dgR W k (x / W ^ (m - k)) ++ [((x % W ^ (m - k) / W ^ (m - (k + 1)) : Nat) : Int) - 1] := by
  have hp : W ^ (m - k) = W ^ (m - (k + 1)) * W := by rw [← Nat.pow_succ]; congr 1; omega
  rw [dgR, Nat.div_div_eq_div_mul, ← hp]
  congr 3
  rw [hp, Nat.mod_mul_right_div_self]
end Go.Proofs.Ytgejdfnidjnjcaa.Vc
namespace Go.Proofs.Ytgejdfnidjnjcaa.Vc
open Go.RowKit
set_option linter.unusedVariables false
set_option linter.unusedSimpArgs false
theorem qbd {κ ν : Type} [DecidableEq κ] (z : ν) (k : κ) (v : ν) (b : κ) : ∀ M : List (κ × ν), qaK z (qbB M k v) b = if b = k then v else qaK z M b
  | [] => by simp only [qbB, qaK]
  | p :: M => by
    unfold qbB
    by_cases hp : k = p.1
    · rw [if_pos hp]
      simp only [qaK]
      by_cases hb : b = k
      · rw [if_pos hb, if_pos hb]
      · rw [if_neg hb, if_neg hb, if_neg (fun q => hb (q.trans hp.symm))]
    · rw [if_neg hp]
      simp only [qaK, qbd z k v b M]
      by_cases hb : b = p.1
      · rw [if_pos hb, if_neg (fun q => hp (q.symm.trans hb)), if_pos hb]
      · rw [if_neg hb, if_neg hb]
theorem qap {l : List Int} (hl : l.length ≤ 1000) : ze l l = some true := by
  have := Zp (step := Q1 l l) (e := .inr ()) (fun i => (i : Int)) 0 l.length (Nat.zero_le _) (fun i _ hi => by
    have hw : w64 ((i : Int) + 1) = ((i + 1 : Nat) : Int) := qT (n := 10000) (by omega) (by omega)
    have hr : l[i]? = some l[i] := List.getElem?_eq_getElem hi
    unfold Q1
    rw [if_pos (by omega), if_pos ⟨by omega, by omega⟩, Int.toNat_natCast, hr, Option.bind_some, if_pos ⟨by omega, by omega⟩, Option.bind_some, if_neg (by simp), hw]) (by
    unfold Q1
    rw [if_neg (by omega)])
  unfold ze
  rw [if_neg (by simp)]
  change Option.bind (qN _ ((0 : Nat) : Int)) _ = _
  rw [this]
  rfl
theorem q1L {W m : Nat} (h1 : 1 ≤ W) (hW : W ≤ 7) (hm : m ≤ 3) : W ^ m ≤ 343 :=
  Nat.le_trans (Nat.pow_le_pow_right h1 hm) (Nat.le_trans (Nat.pow_le_pow_left hW 3) (by decide))
theorem qgd (b0 : qb) (b1 : qd) (t3 : Bool) (t5 : List qa) (t7 : List Bool) {W m : Nat} (h1 : 1 ≤ W) (hW : W ≤ 7) (hm : m ≤ 3) : qN (zC b0 b1 t3 t5 t7 (W : Int) (m : Int)) ((1 : Int), (0 : Int)) = some ((W ^ m : Nat) : Int) := by
  have := Zp (step := zC b0 b1 t3 t5 t7 (W : Int) (m : Int)) (e := ((W ^ m : Nat) : Int)) (fun i => (((W ^ i : Nat) : Int), (i : Int))) 0 m (Nat.zero_le _) (fun i _ hi => by
    have hp := q1L h1 hW (show i + 1 ≤ 3 by omega)
    have e : ((W ^ i : Nat) : Int) * (W : Int) = ((W ^ (i + 1) : Nat) : Int) := by rw [Nat.pow_succ, Int.natCast_mul]
    unfold zC
    dsimp only
    rw [if_pos (by omega), e, zZ (n := ((W ^ (i + 1) : Nat) : Int)) (by omega) (by omega), qT (n := 100) (by omega) (by omega)]) (by
    unfold zC
    dsimp only
    rw [if_neg (by omega)])
  exact this
theorem qj9 (w3 w4 : List Int) (b0 : qb) (b1 : qd) (m2 : List (Int × Bool)) (t3 : Bool) (t5 : List qa) (t7 : List Bool) (t12 t15 t16 t17 t73 t74 : Int) {W m k : Nat} (h1 : 1 ≤ W) (hW : W ≤ 7) (hm : m ≤ 3) (hk : k < m) :
    qN (zF w3 w4 b0 b1 m2 t3 t5 t7 (W : Int) ((W ^ m : Nat) : Int) t12 t15 t16 t17 t73 t74 (k : Int)) (w64 (Int.tdiv ((W ^ m : Nat) : Int) (W : Int)), (0 : Int)) = some ((W ^ (m - (k + 1)) : Nat) : Int) := by
  have hdiv : ∀ i, Int.tdiv ((W ^ (i + 1) : Nat) : Int) (W : Int) = ((W ^ i : Nat) : Int) := fun i => by
    rw [← Int.ofNat_tdiv, Nat.pow_succ, Nat.mul_div_cancel _ h1]
  have e0 : w64 (Int.tdiv ((W ^ m : Nat) : Int) (W : Int)) = ((W ^ (m - 1 - 0) : Nat) : Int) := by
    have hp := q1L h1 hW (show m - 1 ≤ 3 by omega)
    have := hdiv (m - 1)
    rw [show m - 1 + 1 = m by omega] at this
    rw [this, zZ (by omega) (by omega), Nat.sub_zero]
  have := Zp (step := zF w3 w4 b0 b1 m2 t3 t5 t7 (W : Int) ((W ^ m : Nat) : Int) t12 t15 t16 t17 t73 t74 (k : Int)) (e := ((W ^ (m - 1 - k) : Nat) : Int)) (fun i => (((W ^ (m - 1 - i) : Nat) : Int), (i : Int))) 0 k (Nat.zero_le _) (fun i _ hi => by
    have hp := q1L h1 hW (show m - 1 - (i + 1) ≤ 3 by omega)
    have e := hdiv (m - 1 - (i + 1))
    rw [show m - 1 - (i + 1) + 1 = m - 1 - i by omega] at e
    unfold zF
    dsimp only
    rw [if_pos (by omega), if_neg (by omega), e, zZ (n := ((W ^ (m - 1 - (i + 1)) : Nat) : Int)) (by omega) (by omega), qT (n := 100) (by omega) (by omega)]) (by
    unfold zF
    dsimp only
    rw [if_neg (by omega)])
  rw [e0, show m - (k + 1) = m - 1 - k by omega]
  exact this
theorem qjb (b0 : qb) (b1 : qd) (m2 : List (Int × Bool)) (t3 : Bool) (t5 : List qa) (t7 : List Bool) {W m x : Nat} (h1 : 1 ≤ W) (hW : W ≤ 7) (hm : m ≤ 3) (hx : x < W ^ m) :
    qN (zn b0 b1 m2 t3 t5 t7 (W : Int) ((W ^ m : Nat) : Int) (x : Int) (m : Int)) ([], ([], ((0 : Int), ((x : Int), (0 : Int))))) = some (dgR W m x, q9s (dgR W m x), ((q5U (dgR W m x) : Nat) : Int)) := by
  have hML : 100000 ≤ Go.maxLen := by unfold Go.maxLen; omega
  have := Zp (step := zn b0 b1 m2 t3 t5 t7 (W : Int) ((W ^ m : Nat) : Int) (x : Int) (m : Int)) (e := (dgR W m x, q9s (dgR W m x), ((q5U (dgR W m x) : Nat) : Int)))
    (fun k => (dgR W k (x / W ^ (m - k)), (q9s (dgR W k (x / W ^ (m - k))), (((q5U (dgR W k (x / W ^ (m - k))) : Nat) : Int), (((x % W ^ (m - k) : Nat) : Int), (k : Int)))))) 0 m (Nat.zero_le _) (fun k _ hk => by
    have hst := qjf W m k x hk
    have hA0 : 0 < W ^ (m - (k + 1)) := Nat.pow_pos h1
    have hAb := q1L h1 hW (show m - (k + 1) ≤ 3 by omega)
    have hdvd : W ^ (m - (k + 1)) ∣ W ^ (m - k) := Nat.pow_dvd_pow W (by omega)
    have hmod : (x % W ^ (m - k)) % W ^ (m - (k + 1)) = x % W ^ (m - (k + 1)) := Nat.mod_mod_of_dvd x hdvd
    have hr : x % W ^ (m - k) / W ^ (m - (k + 1)) ≤ 343 := by
      have h2 := q1L h1 hW (show m - k ≤ 3 by omega)
      have h3 := Nat.mod_lt x (show 0 < W ^ (m - k) from Nat.pow_pos h1)
      have h4 := Nat.div_le_self (x % W ^ (m - k)) (W ^ (m - (k + 1)))
      omega
    have hlen := q8S W k (x / W ^ (m - k))
    have hleaf := qaV (dgR W k (x / W ^ (m - k)))
    have hset := qbN (dgR W k (x / W ^ (m - k)))
    have hp1 : 1 ≤ 2 ^ k := Nat.one_le_two_pow
    have hp2 : 2 ^ k ≤ 8 := Nat.le_trans (Nat.pow_le_pow_right (by decide) (show k ≤ 3 by omega)) (by decide)
    have htd : Int.tdiv ((x % W ^ (m - k) : Nat) : Int) ((W ^ (m - (k + 1)) : Nat) : Int) = ((x % W ^ (m - k) / W ^ (m - (k + 1)) : Nat) : Int) := (Int.ofNat_tdiv _ _).symm
    have htm : Int.tmod ((x % W ^ (m - k) : Nat) : Int) ((W ^ (m - (k + 1)) : Nat) : Int) = ((x % W ^ (m - (k + 1)) : Nat) : Int) := by rw [← Int.ofNat_tmod, hmod]
    have hpw : w64 ((1 : Int) * (2 : Int) ^ min (Int.toNat (k : Int)) (Go.IntKind.bits Go.IntKind.i64)) = ((2 ^ k : Nat) : Int) := by
      rw [Int.toNat_natCast, show min k (Go.IntKind.bits Go.IntKind.i64) = k from Nat.min_eq_left (by show k ≤ 64; omega), Int.one_mul]
      have : ((2 ^ k : Nat) : Int) = (2 : Int) ^ k := by push_cast; rfl
      rw [← this]
      exact zZ (by omega) (by omega)
    rw [hst, qel, qfu, hlen]
    rw [hlen] at hset hleaf
    unfold zn
    dsimp only
    rw [if_pos (by omega), if_neg (by omega), qj9 _ _ b0 b1 m2 t3 t5 t7 _ _ _ _ _ _ h1 hW hm hk, Option.bind_some, if_neg (by omega), if_neg (by omega), htd, htm, hpw]
    generalize x % W ^ (m - k) / W ^ (m - (k + 1)) = D at hr
    generalize dgR W k (x / W ^ (m - k)) = b at hlen hset hleaf
    rw [zZ (n := (D : Int)) (by omega) (by omega), zZ (n := (D : Int) - 1) (by omega) (by omega), qT (n := 100) (by omega) (by omega), if_pos (by rw [hlen]; exact ⟨by omega, by omega⟩)]
    have hsum : ((q5U b : Nat) : Int) + ((2 ^ k : Nat) : Int) = ((q5U b + 2 ^ k : Nat) : Int) := (Int.natCast_add _ _).symm
    by_cases hD : 0 < D
    · rw [if_pos (by omega), if_pos (by omega), if_pos ⟨by omega, by omega⟩, if_pos (by omega), if_pos (by omega), zZ (n := ((q5U b : Nat) : Int) + ((2 ^ k : Nat) : Int)) (by omega) (by omega), hsum]
    · rw [if_neg (by omega), if_neg (by omega), if_neg (by omega), List.append_nil]
      rfl) (by
    unfold zn
    dsimp only
    rw [if_neg (by omega), Nat.sub_self, Nat.pow_zero, Nat.div_one])
  rw [Nat.sub_zero, Nat.mod_eq_of_lt hx] at this
  exact this
def qnQ (n : qb) (s : qd) (l : List qa) (M : List (Int × Bool)) (x : Nat) : Prop := ∀ t : Int, qaK false M t = true ↔ ∃ y, y < x ∧ ((q5U (dgR (lvN n + 1) l.length y) : Nat) : Int) = t ∧ qiv n s l (dgR (lvN n + 1) l.length y) = true
theorem qc8 {n : qb} (hn : q00 3 6 n) {l : List qa} (hl : l.length ≤ 3) (s : qd) (t3 : Bool) {M : List (Int × Bool)} {x : Nat} (hx : x < (lvN n + 1) ^ l.length) (hM : qnQ n s l M x) :
    ∃ M', zo n s t3 l (QH (2 ^ l.length) (zH [] s l n 0)) ((lvN n + 1 : Nat) : Int) (((lvN n + 1) ^ l.length : Nat) : Int) (M, (x : Int)) = some (.inl (M', ((x + 1 : Nat) : Int))) ∧ qnQ n s l M' (x + 1) := by
  have hlv : lvN n + 1 ≤ 7 := by have := hn.l2; omega
  have hbd := q1L (show 1 ≤ lvN n + 1 by omega) hlv hl
  have hb := q8S (lvN n + 1) l.length x
  have hlt : q5U (dgR (lvN n + 1) l.length x) < 2 ^ l.length := by
    have := qbN (dgR (lvN n + 1) l.length x)
    rwa [hb] at this
  have hG := q92 hn (l := l) (by omega) hlt
  have hS := q8f hn s l (by omega)
  have hw : w64 ((x : Int) + 1) = ((x + 1 : Nat) : Int) := qT (n := 10000) (by omega) (by omega)
  have hmeet : QQ n s l (dgR (lvN n + 1) l.length x) = some (qiv n s l (dgR (lvN n + 1) l.length x)) := qja hn hG s _ hb fun j y hy => by
    have := qcp (lvN n + 1) (by omega) l.length x j y hy
    omega
  unfold zo
  dsimp only
  rw [if_pos (by omega), qjb n s M t3 l _ (by omega) hlv hl hx, Option.bind_some]
  dsimp only
  rw [hmeet, Option.bind_some, hw]
  by_cases hm : qiv n s l (dgR (lvN n + 1) l.length x) = true
  · have hall := qib hG hm
    rw [hm, if_neg (by decide)]
    rcases qbs hG s hS with ⟨g1, _⟩ | ⟨_, d, g2, g3, g4⟩
    · rw [hall] at g1; cases g1
    · have hput : qnQ n s l (qbB M ((q5U (dgR (lvN n + 1) l.length x) : Nat) : Int) true) (x + 1) := fun t => by
        rw [qbd]
        by_cases ht : t = ((q5U (dgR (lvN n + 1) l.length x) : Nat) : Int)
        · rw [if_pos ht]
          exact ⟨fun _ => ⟨x, by omega, ht.symm, hm⟩, fun _ => rfl⟩
        · rw [if_neg ht, hM t]
          constructor
          · rintro ⟨y, h1, h2⟩
            exact ⟨y, by omega, h2⟩
          · rintro ⟨y, h1, h2, h3⟩
            rcases Nat.lt_or_ge y x with h4 | h4
            · exact ⟨y, h4, h2, h3⟩
            · have : y = x := by omega
              subst this
              exact absurd h2.symm ht
      rw [g4, Option.bind_some, if_pos ⟨by omega, by rw [qM]; omega⟩, Int.toNat_natCast, Zq _ hlt, Option.bind_some, hall, if_neg (by decide), if_neg (by simp)]
      by_cases hs : qaK false M ((q5U (dgR (lvN n + 1) l.length x) : Nat) : Int) = true
      · rw [hs, if_neg (by decide)]
        exact ⟨_, rfl, hput⟩
      · have hd := qiN hx hG hm g2 g3 fun y hy h2 => Bool.eq_false_iff.2 fun h3 => hs ((hM _).2 ⟨y, hy, by rw [h2], h3⟩)
        have hll := qaV (dgR (lvN n + 1) l.length x)
        rw [Bool.eq_false_iff.2 hs, if_pos (by decide)]
        dsimp only
        rw [hd, qkq, qap (by omega), Option.bind_some, if_neg (by decide)]
        exact ⟨_, rfl, hput⟩
  · have hmf := Bool.eq_false_iff.2 hm
    rw [hmf, if_pos (by decide)]
    refine ⟨_, rfl, fun t => ?_⟩
    rw [hM t]
    constructor
    · rintro ⟨y, h1, h2⟩
      exact ⟨y, by omega, h2⟩
    · rintro ⟨y, h1, h2, h3⟩
      rcases Nat.lt_or_ge y x with h4 | h4
      · exact ⟨y, h4, h2, h3⟩
      · have : y = x := by omega
        subst this
        rw [hmf] at h3; cases h3
theorem q9O {n : qb} (hn : q00 3 6 n) {l : List qa} (hl : l.length ≤ 3) (s : qd) (t3 : Bool) : ∀ (j x : Nat) (M : List (Int × Bool)), j + x = (lvN n + 1) ^ l.length → qnQ n s l M x →
    ∃ M', qN (zo n s t3 l (QH (2 ^ l.length) (zH [] s l n 0)) ((lvN n + 1 : Nat) : Int) (((lvN n + 1) ^ l.length : Nat) : Int)) (M, (x : Int)) = some (.inr M') ∧ qnQ n s l M' ((lvN n + 1) ^ l.length)
  | 0, x, M, hj, hM => by
    rw [Nat.zero_add] at hj
    rw [hj] at hM
    refine ⟨M, zt ?_, hM⟩
    unfold zo
    dsimp only
    rw [if_neg (by omega)]
  | j + 1, x, M, hj, hM => by
    obtain ⟨M1, h1, h2⟩ := qc8 hn hl s t3 (x := x) (by omega) hM
    obtain ⟨M2, h3, h4⟩ := q9O hn hl s t3 j (x + 1) M1 (by omega) h2
    exact ⟨M2, by rw [zV h1, h3], h4⟩
theorem qk8 {n : qb} (hn : q00 3 6 n) {l : List qa} (hl : l.length ≤ 3) (s : qd) (t3 : Bool) {M : List (Int × Bool)} (hM : qnQ n s l M ((lvN n + 1) ^ l.length)) :
    qN (zG M t3 (QH (2 ^ l.length) (zH [] s l n 0)) ((2 ^ l.length : Nat) : Int)) (0 : Int) = some (.inr ()) := by
  have hp : 2 ^ l.length ≤ 8 := Nat.pow_le_pow_right (by decide) hl
  have hS := q8f hn s l (by omega)
  have := Zp (step := zG M t3 (QH (2 ^ l.length) (zH [] s l n 0)) ((2 ^ l.length : Nat) : Int)) (e := .inr ()) (fun i => (i : Int)) 0 (2 ^ l.length) (Nat.zero_le _) (fun i _ hi => by
    have hw : w64 ((i : Int) + 1) = ((i + 1 : Nat) : Int) := qT (n := 10000) (by omega) (by omega)
    have hG := q92 hn (l := l) (by omega) hi
    have e : zH [] s l n 0 i = qaK false M (i : Int) := by
      rw [Bool.eq_iff_iff, hM]
      constructor
      · intro h
        rcases qbs hG s hS with ⟨g1, _⟩ | ⟨_, d, g2, g3, _⟩
        · rw [h] at g1; cases g1
        · obtain ⟨q1, q2, q3, q4⟩ := qfX hG g2 g3
          exact ⟨_, q1, by rw [q2, q3], by rw [q2]; exact q4⟩
      · rintro ⟨y, _, h2, h3⟩
        have h4 : q5U (dgR (lvN n + 1) l.length y) = i := by omega
        rw [← h4]
        rw [← h4] at hG
        exact qib hG h3
    unfold zG
    rw [if_pos (by omega), if_pos ⟨by omega, by rw [qM]; omega⟩, Int.toNat_natCast, Zq _ hi, Option.bind_some, e, if_neg (by simp), hw]) (by
    unfold zG
    rw [if_neg (by omega)])
  exact this
theorem qa0 (c : ZV) (w : q79 c) : Jg c = some true := by
  obtain ⟨h1, h2, _⟩ := w
  obtain ⟨n, l0, e1, hn, hl0, _⟩ := qhC (c := c) ⟨h1.1, h2.1⟩
  clear h1 h2
  have hl : (l0.take 3).length ≤ 3 := by rw [List.length_take]; omega
  have htake : List.take (Int.toNat (min ((l0.length : Nat) : Int) 3) - 0) l0 = l0.take 3 := by
    by_cases h : l0.length ≤ 3
    · rw [show Int.toNat (min (l0.length : Int) 3) - 0 = l0.length by omega, List.take_length, List.take_of_length_le h]
    · rw [show Int.toNat (min (l0.length : Int) 3) - 0 = 3 by omega]
  unfold Jg
  rw [qbZ, Option.bind_some, e1, Option.bind_some]
  simp only
  rw [if_pos ⟨by omega, by omega⟩, htake]
  generalize l0.take 3 = l at hl
  have hS := q8f hn (qq 1) l (by omega)
  have hlv : lvN n + 1 ≤ 7 := by have := hn.l2; omega
  have hnd := hn.nd
  have hhg := hn.hg
  have hp : 2 ^ l.length ≤ 8 := Nat.pow_le_pow_right (by decide) hl
  have hp1 : 1 ≤ 2 ^ l.length := Nat.one_le_two_pow
  have hcast : ((2 ^ l.length : Nat) : Int) = (2 : Int) ^ l.length := by push_cast; rfl
  have hw1 : w64 ((1 : Int) * (2 : Int) ^ min l.length (Go.IntKind.bits Go.IntKind.i64)) = ((2 ^ l.length : Nat) : Int) := by
    rw [show min l.length (Go.IntKind.bits Go.IntKind.i64) = l.length from Nat.min_eq_left (by show l.length ≤ 64; omega), Int.one_mul, ← hcast]
    exact zZ (by omega) (by omega)
  have hW : w64 (((((ndN n).filter J3).length : Nat) : Int) + 1) = ((lvN n + 1 : Nat) : Int) := by
    rw [q8n n hn.ok]
    exact qT (n := 100) (by omega) (by omega)
  rw [hS, Option.bind_some, q8N n (by omega) (by omega) (q7R hn.ok), Option.bind_some]
  simp only
  rw [qM, hw1, hW, if_neg (by decide), if_pos (by omega), if_neg (by simp), qgd n (qq 1) true l _ (by omega) hlv hl, Option.bind_some]
  obtain ⟨M, m1, m2⟩ := q9O hn hl (qq 1) true ((lvN n + 1) ^ l.length) 0 [] (by omega) (fun t => by
    constructor
    · intro h; simp [qaK] at h
    · rintro ⟨y, h, _⟩; omega)
  have m1' : qN (zo n (qq 1) true l (QH (2 ^ l.length) (zH [] (qq 1) l n 0)) ((lvN n + 1 : Nat) : Int) (((lvN n + 1) ^ l.length : Nat) : Int)) ([], (0 : Int)) = some (.inr M) := m1
  rw [m1', Option.bind_some, Sum.elim_inr, qk8 hn hl (qq 1) true m2, Option.bind_some, Sum.elim_inr]
end Go.Proofs.Ytgejdfnidjnjcaa.Vc
namespace Go.Proofs.Ytgejdfnidjnjcaa
open Go.ChangeShapes Go.WideShapes Go.ChangeAt Go.RowKit Go.ChangeMaps
theorem own : ownKnob Try.prog.godebug = none := by kernel_rfl
theorem qmh : laidOutB Try.prog = true := by kernel_rfl
section
variable {H : Type} {enc : TypeId × Value → H} {P : Program} {W W' : World}
theorem qb6 (hl : laidOutB P = true) (hb : Below W.heap.size W W') : ∀ {ts : List TypeId} {vs : List Value} {ds : List (DataW H)} {ps : List MemPlace}, (∀ t ∈ ts, P.readableRec t = true ∧ t < P.types.size) →
    DataW.TrodAll enc P W 0 (fun _ => true) true ts vs ds ps → (∀ p ∈ ps, p.block < W.heap.size) → DataW.TrodAll enc P W' 0 (fun b => decide (b < W.heap.size)) true ts vs ds ps
  | [], _, _, _, _, h, _ => by
    obtain ⟨rfl, rfl, rfl⟩ := trodAll_nil h
    exact trodAll_mk0
  | t :: ts, _, _, _, ht, h, hlt => by
    obtain ⟨v, vs, d, ds, p, q, rfl, rfl, rfl, h1, h2⟩ := trodAll_cons h
    exact trodAll_cons_mk (Below.trod hl (ht t List.mem_cons_self).1 (ht t List.mem_cons_self).2 h1 hb (fun x hx => hlt x (List.mem_append_left _ hx)))
      (qb6 hl hb (fun u hu => ht u (List.mem_cons_of_mem _ hu)) h2 (fun x hx => hlt x (List.mem_append_right _ hx)))
theorem qk5 {f : Func} {s : ChangeSpec} {apart fresh handsOn : Bool} {args : Array Value} {ds gs : List (DataW H)} {before : List MemPlace} {tb : TypeId} (hl : laidOutB P = true)
    (hts : ∀ t ∈ f.params.toList, P.readableRec t = true ∧ t < P.types.size) (hr : f.resultTypes = #[tb]) (htb : P.underlying tb = some .bool) (hv : s.vars = [])
    (h1 : (s.fn H (ds ++ gs)).results = [.lit (.bool true)]) (h2 : (s.fn H (ds ++ gs)).args = ds) (h3 : (s.fn H (ds ++ gs)).vars = [])
    (hW : DataW.Whole enc P f.params.toList s.vars apart W args.toList ds gs before) (hb : Below W.heap.size W W') :
    s.post enc P f apart fresh handsOn false W args (.bool true) W' := by
  have hlt : ∀ p ∈ before, p.block < W.heap.size := fun p hp => hW.lt p hp
  have hW2 := hW
  obtain ⟨pa, pv, hA, hV, hp, -, -⟩ := hW2
  rw [hv] at hV
  obtain ⟨rfl, rfl⟩ := trodVars_none hV
  rw [List.append_nil] at hp
  subst hp
  refine ⟨ds, [], before, [], before, [], hW, ?_, ?_, ?_, ?_, fun h => by cases h⟩
  · rw [h1, hr]
    exact trodAll_mk1 (shut_bool htb true)
  · rw [h2]
    exact qb6 hl hb hts hA hlt
  · rw [h3, hv]
    exact hV
  · exact World.keptBut_mono (fun p hp => ⟨hp, .inr (.inl hp)⟩) (hb.frame (· ∈ before))
end
end Go.Proofs.Ytgejdfnidjnjcaa
