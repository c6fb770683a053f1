/- Plain facts on thefts in made rings. -/
import Derived.Test.YtikinldimecgaaaDoorKeyX
namespace Go.Proofs.YtikinldimecgaaaDoor
open Go.RowKit

theorem chk1_zero {last k : Ky} (h : chk1 last k = 0) : ¬ (k.id < 1 ∨ k.sec.size = 0 ∨ 40 < k.sec.size) ∧ ¬ k.id ≤ last.id ∧ ¬ (rightB k.fr = false ∨ rightB k.st = false ∨ (k.st ≠ 0 ∧ k.st < k.fr)) ∧ ¬ k.fr < last.fr := by
  unfold chk1 at h
  split at h
  · cases h
  · split at h
    · cases h
    · split at h
      · cases h
      · split at h
        · cases h
        · exact ⟨by assumption, by assumption, by assumption, by assumption⟩
theorem chk1_of {last k : Ky} (h1 : ¬ (k.id < 1 ∨ k.sec.size = 0 ∨ 40 < k.sec.size)) (h2 : ¬ k.id ≤ last.id) (h3 : ¬ (rightB k.fr = false ∨ rightB k.st = false ∨ (k.st ≠ 0 ∧ k.st < k.fr))) (h4 : ¬ k.fr < last.fr) : chk1 last k = 0 := by
  unfold chk1; rw [if_neg h1, if_neg h2, if_neg h3, if_neg h4]
theorem chkL_cons {last k : Ky} {ks : List Ky} : chkL last (k :: ks) = 0 ↔ chk1 last k = 0 ∧ chkL k ks = 0 := by
  rw [chkL]
  by_cases h : chk1 last k = 0
  · rw [if_pos h]; simp [h]
  · rw [if_neg h]; simp [h]
theorem chkL_last {a b : Ky} (h1 : a.id = b.id) (h2 : a.fr = b.fr) (ks : List Ky) : chkL a ks = chkL b ks := by
  cases ks with
  | nil => rfl
  | cons k ks =>
    have h : chk1 a k = chk1 b k := by unfold chk1; rw [h1, h2]
    rw [chkL, chkL, h]
theorem rightB_of {d : Int} (h0 : 0 ≤ d) (h1 : d ≤ 100000) : rightB d = true := by simp [rightB, h0, h1]
theorem newSt_cases (st a : Int) : newSt st a = a ∨ newSt st a = st ∧ st ≠ 0 ∧ st ≤ a := by
  unfold newSt; split
  · exact .inl rfl
  · rename_i h; exact .inr ⟨rfl, fun h0 => h (.inl h0), by have := fun h1 => h (.inr h1); omega⟩
theorem chkL_set : ∀ (ks : List Ky) (last : Ky) (i : Nat) (k : Ky) (a : Int), ks[i]? = some k → 1 ≤ a → a ≤ 100000 → k.fr ≤ a → chkL last ks = 0 → chkL last (ks.set i (stKey k a)) = 0
  | [], _, _, _, _, h, _, _, _, _ => by simp at h
  | x :: ks, last, 0, k, a, h, h1, h2, h3, hc => by
    simp only [List.getElem?_cons_zero, Option.some.injEq] at h
    subst h
    rw [List.set_cons_zero]
    obtain ⟨c1, c2⟩ := chkL_cons.1 hc
    obtain ⟨d1, d2, d3, d4⟩ := chk1_zero c1
    refine chkL_cons.2 ⟨chk1_of d1 d2 ?_ d4, by rw [← c2]; exact chkL_last (a := stKey x a) (b := x) rfl rfl ks⟩
    intro h
    apply d3
    rcases h with h | h | ⟨h, h'⟩
    · exact .inl h
    · replace h : rightB (newSt x.st a) = false := h
      rcases newSt_cases x.st a with he | ⟨he, -, -⟩
      · rw [he, rightB_of (by omega) h2] at h; cases h
      · rw [he] at h; exact .inr (.inl h)
    · replace h : newSt x.st a ≠ 0 := h
      replace h' : newSt x.st a < x.fr := h'
      rcases newSt_cases x.st a with he | ⟨he, -, -⟩
      · omega
      · rw [he] at h h'; exact .inr (.inr ⟨h, h'⟩)
  | x :: ks, last, i + 1, k, a, h, h1, h2, h3, hc => by
    obtain ⟨c1, c2⟩ := chkL_cons.1 hc
    rw [List.set_cons_succ]
    exact chkL_cons.2 ⟨c1, chkL_set ks x i k a (by simpa using h) h1 h2 h3 c2⟩
theorem madeL_chk (school : Int) (l : List Int) (hs : 1 ≤ school ∧ school ≤ 8) (hl : ∀ x ∈ l, Rng x) : ∀ (f k : Nat) (day : Int) (last : Ky), k + f ≤ 3 → 0 ≤ day → day ≤ 120 * k → last.id < 1 + 2 * (k : Int) → last.fr ≤ day → chkL last (madeL school l f k day) = 0 := by
  intro f
  induction f with
  | zero => intro k day last _ _ _ _ _; rfl
  | succ f ih =>
    intro k day last hk h0 h1 h2 h3
    rw [madeL]
    split
    · rfl
    · have hn := nAt_bd l k hl
      refine chkL_cons.2 ⟨chk1_of ?_ ?_ ?_ ?_, ih (k + 1) _ _ (by omega) (by omega) (by omega) ?_ ?_⟩
      · have hz : (madeKy school k (nAt l k) day).sec.size = 4 := by
          show (bs (secB k ++ Lib.itoa school)).size = 4
          rw [bs_size, List.length_append, secB_len, itoa_small school hs.1 hs.2]
        have hi : (madeKy school k (nAt l k) day).id = 1 + 2 * (k : Int) := rfl
        omega
      · have hi : (madeKy school k (nAt l k) day).id = 1 + 2 * (k : Int) := rfl
        omega
      · intro h
        have ht : (madeKy school k (nAt l k) day).st = 0 ∨ (day < (madeKy school k (nAt l k) day).st ∧ (madeKy school k (nAt l k) day).st ≤ 1000) := by
          show (if nAt l k % 5 = 4 then day + 1 + nAt l k / 5 % 300 else 0) = 0 ∨ (day < (if nAt l k % 5 = 4 then day + 1 + nAt l k / 5 % 300 else 0) ∧ (if nAt l k % 5 = 4 then day + 1 + nAt l k / 5 % 300 else 0) ≤ 1000)
          split
          · right; omega
          · exact .inl rfl
        have hf : (madeKy school k (nAt l k) day).fr = day := rfl
        rcases h with h | h | ⟨h, h'⟩
        · rw [hf, rightB_of h0 (by omega)] at h; cases h
        · rw [rightB_of (by omega) (by omega)] at h; cases h
        · omega
      · have hf : (madeKy school k (nAt l k) day).fr = day := rfl
        omega
      · show 1 + 2 * (k : Int) < 1 + 2 * ((k + 1 : Nat) : Int); omega
      · show day ≤ day + 20 * (nAt l k % 7); omega
theorem madeD_chk (school : Int) (l : List Int) (hs : 1 ≤ school ∧ school ≤ 8) (hl : ∀ x ∈ l, Rng x) : chkR school (madeD school l) = 0 := by
  have hlen := (madeD_ok school l hs hl).2
  unfold chkR
  rw [if_neg (by omega), if_neg (by omega)]
  exact madeL_chk school l hs hl 3 0 0 Ky.zero (by omega) (by omega) (by omega) (by decide) (by decide)
theorem madeD_pos (school : Int) (l : List Int) : 0 < (madeD school l).length := by
  unfold madeD
  rw [madeL, if_neg (by omega)]
  simp
theorem chkR_set {school : Int} {ks : List Ky} {i : Nat} {k : Ky} {a : Int} (h : chkR school ks = 0) (hk : ks[i]? = some k) (h1 : 1 ≤ a) (h2 : a ≤ 100000) (h3 : k.fr ≤ a) : chkR school (ks.set i (stKey k a)) = 0 := by
  unfold chkR at h ⊢
  split at h
  · cases h
  · rename_i g1
    split at h
    · cases h
    · rename_i g2
      rw [if_neg g1, if_neg (by rw [List.length_set]; exact g2)]
      exact chkL_set ks _ i k a hk h1 h2 h3 h
theorem idx_set (ks : List Ky) (i : Nat) (k k' : Ky) (hk : ks[i]? = some k) (he : k'.id = k.id) (id : Int) : ∀ n, idxFrom id (ks.set i k') n = idxFrom id ks n := by
  induction ks generalizing i with
  | nil => intro n; simp at hk
  | cons x ks ih =>
    intro n
    rcases i with _ | i
    · simp only [List.getElem?_cons_zero, Option.some.injEq] at hk
      subst hk
      simp [idxFrom, he]
    · rw [List.set_cons_succ, idxFrom, idxFrom, ih i (by simpa using hk)]
theorem newSt_comm (st a b : Int) (_ha : a ≠ 0) (_hb : b ≠ 0) : newSt (newSt st a) b = newSt (newSt st b) a ∧ newSt (newSt st a) b = newSt st (min a b) := by
  unfold newSt
  constructor
  · repeat split
    all_goals omega
  · repeat split
    all_goals omega

end Go.Proofs.YtikinldimecgaaaDoor
