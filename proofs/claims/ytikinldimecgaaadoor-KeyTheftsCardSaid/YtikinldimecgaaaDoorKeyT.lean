/- Plain facts on made rings: the numbers of their keys, and what is signed with them. -/
import Derived.Test.YtikinldimecgaaaDoorKeyS
namespace Go.Proofs.YtikinldimecgaaaDoor
open Go.RowKit

structure KMd (k : Ky) : Prop where
  id0 : 1 ≤ k.id
  id1 : k.id ≤ 5
  s0 : 4 ≤ k.sec.size
  s1 : k.sec.size ≤ 30
  f0 : 0 ≤ k.fr
  f1 : k.fr ≤ 360
  t0 : 0 ≤ k.st
  t1 : k.st ≤ 1000

theorem itoa_small (n : Int) (h0 : 1 ≤ n) (h1 : n ≤ 8) : (Lib.itoa n).length = 1 := by
  rw [itoa_digit n (by omega) (by omega)]; rfl
theorem secB_len (k : Nat) : (secB k).length = 3 := by unfold secB; split <;> rfl
theorem madeL_md (school : Int) (l : List Int) (hs : 1 ≤ school ∧ school ≤ 8) (hl : ∀ x ∈ l, Rng x) : ∀ (f k : Nat) (day : Int), k + f ≤ 3 → 0 ≤ day → day ≤ 120 * k →
    ∀ (i : Nat) (x : Ky), (madeL school l f k day)[i]? = some x → KMd x ∧ x.id = 1 + 2 * ((k + i : Nat) : Int) := by
  intro f
  induction f with
  | zero => intro k day _ _ _ i x hx; simp [madeL] at hx
  | succ f ih =>
    intro k day hk h0 h1 i x hx
    rw [madeL] at hx
    split at hx
    · simp at hx
    · have hn := nAt_bd l k hl
      rcases i with _ | i
      · simp only [List.getElem?_cons_zero, Option.some.injEq] at hx
        subst hx
        refine ⟨⟨?_, ?_, ?_, ?_, ?_, ?_, ?_, ?_⟩, ?_⟩
        · show 1 ≤ 1 + 2 * (k : Int); omega
        · show 1 + 2 * (k : Int) ≤ 5; omega
        · show 4 ≤ (bs (secB k ++ Lib.itoa school)).size
          rw [bs_size, List.length_append, secB_len, itoa_small school hs.1 hs.2]; omega
        · show (bs (secB k ++ Lib.itoa school)).size ≤ 30
          rw [bs_size, List.length_append, secB_len, itoa_small school hs.1 hs.2]; omega
        · show 0 ≤ day; omega
        · show day ≤ 360; omega
        · show 0 ≤ (if nAt l k % 5 = 4 then day + 1 + nAt l k / 5 % 300 else 0); split <;> omega
        · show (if nAt l k % 5 = 4 then day + 1 + nAt l k / 5 % 300 else 0) ≤ 1000; split <;> omega
        · show 1 + 2 * (k : Int) = 1 + 2 * ((k + 0 : Nat) : Int); omega
      · simp only [List.getElem?_cons_succ] at hx
        have := ih (k + 1) (day + 20 * (nAt l k % 7)) (by omega) (by omega) (by omega) i x hx
        exact ⟨this.1, by rw [this.2]; omega⟩
theorem madeD_md (school : Int) (l : List Int) (hs : 1 ≤ school ∧ school ≤ 8) (hl : ∀ x ∈ l, Rng x) (i : Nat) (x : Ky) (h : (madeD school l)[i]? = some x) : KMd x ∧ x.id = 1 + 2 * (i : Int) := by
  have := madeL_md school l hs hl 3 0 0 (by omega) (by omega) (by omega) i x h
  exact ⟨this.1, by rw [this.2]; omega⟩

theorem idx_of (ks : List Ky) (m : Nat) (h : ∀ (i : Nat) (x : Ky), ks[i]? = some x → x.id = 1 + 2 * ((m + i : Nat) : Int)) : ∀ (i : Nat) (x : Ky) (n : Nat), ks[i]? = some x → idxFrom x.id ks n = ((n + i : Nat) : Int) := by
  induction ks generalizing m with
  | nil => intro i x n hx; simp at hx
  | cons k ks ih =>
    intro i x n hx
    have hk := h 0 k rfl
    have hx' := h i x hx
    rcases i with _ | i
    · simp only [List.getElem?_cons_zero, Option.some.injEq] at hx
      subst hx
      simp [idxFrom]
    · rw [idxFrom, if_neg (by omega)]
      simp only [List.getElem?_cons_succ] at hx
      rw [ih (m + 1) (fun j y hy => by rw [h (j + 1) y (by simpa using hy)]; omega) i x (n + 1) hx]
      omega
theorem made_idx (school : Int) (l : List Int) (hs : 1 ≤ school ∧ school ≤ 8) (hl : ∀ x ∈ l, Rng x) (i : Nat) (x : Ky) (h : (madeD school l)[i]? = some x) : idxFrom x.id (madeD school l) 0 = (i : Int) := by
  have := idx_of (madeD school l) 0 (fun j y hy => by rw [(madeD_md school l hs hl j y hy).2]; omega) i x 0 h
  rw [this]; omega

theorem chkD_mark (key msg : ByteArray) (h : key.size ≠ 0) : chkD key msg (bs (markD key.data.toList msg.data.toList)) = true := by
  unfold chkD
  simp [h, toList_data, bs]
def wantE (k : Ky) (day seen : Int) : Int := if day < k.fr then 23 else if k.st ≠ 0 ∧ k.st ≤ seen then 11 else 0
theorem valid_own (school : Int) (ks : List Ky) (i : Nat) (k : Ky) (text : ByteArray) (day seen : Int) (hi : idxFrom k.id ks 0 = (i : Int)) (hk : ks[i]? = some k) (hs : k.sec.size ≠ 0) :
    validE school ks k.id text (bs (signM school ks k.id text)) day seen = wantE k day seen := by
  unfold validE signM
  rw [if_neg (by omega), if_neg (by omega), kyAt_eq hi hk]
  unfold validK wantE
  rw [show chkD k.sec (bs (msgD school k.id text)) (bs (markD k.sec.data.toList (msgD school k.id text))) = true from chkD_mark k.sec (bs (msgD school k.id text)) hs]
  simp
theorem sign_own (ks : List Ky) (i : Nat) (id : Int) (hi : idxFrom id ks 0 = (i : Int)) : signE ks id = 0 := by
  unfold signE; rw [if_neg (by omega)]
def cutT (t : ByteArray) (n : Nat) : ByteArray := t.extract 0 (min t.size n)
theorem cutT_size (t : ByteArray) (n : Nat) : (cutT t n).size ≤ n := by
  unfold cutT; rw [ByteArray.size_extract]; omega

end Go.Proofs.YtikinldimecgaaaDoor
