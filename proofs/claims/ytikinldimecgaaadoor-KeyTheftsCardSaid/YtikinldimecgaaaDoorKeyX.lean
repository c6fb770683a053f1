/- Plain facts on the current key of a made ring. -/
import Derived.Test.YtikinldimecgaaaDoorKeyT
namespace Go.Proofs.YtikinldimecgaaaDoor
open Go.RowKit

theorem curR_spec (day : Int) : ∀ (L : List Ky), L.Pairwise (fun a b => b.id < a.id) →
    (curR day L = (0, false) ∧ ∀ x ∈ L, curB x day = false) ∨ ∃ k ∈ L, curB k day = true ∧ curR day L = (k.id, true) ∧ ∀ x ∈ L, k.id < x.id → curB x day = false
  | [], _ => .inl ⟨rfl, fun x hx => by cases hx⟩
  | k :: L, hp => by
    rw [List.pairwise_cons] at hp
    by_cases hk : curB k day = true
    · refine .inr ⟨k, List.mem_cons_self, hk, by simp [curR, hk], fun x hx hlt => ?_⟩
      rcases List.mem_cons.1 hx with rfl | hx
      · omega
      · have := hp.1 x hx; omega
    · have hkf : curB k day = false := by simpa using hk
      rcases curR_spec day L hp.2 with ⟨h1, h2⟩ | ⟨y, hy, h1, h2, h3⟩
      · refine .inl ⟨by simp [curR, hkf, h1], fun x hx => ?_⟩
        rcases List.mem_cons.1 hx with rfl | hx
        · exact hkf
        · exact h2 x hx
      · refine .inr ⟨y, List.mem_cons_of_mem _ hy, h1, by simp [curR, hkf, h2], fun x hx hlt => ?_⟩
        rcases List.mem_cons.1 hx with rfl | hx
        · exact hkf
        · exact h3 x hx hlt
theorem curD_spec (day : Int) (ks : List Ky) (h : ∀ (i : Nat) (x : Ky), ks[i]? = some x → x.id = 1 + 2 * (i : Int)) :
    (curD day ks).2 = ks.any (fun k => curB k day) ∧ ∀ (i : Nat) (x : Ky), ks[i]? = some x → (x.id = (curD day ks).1 → curB x day = true) ∧ ((curD day ks).1 < x.id → curB x day = false) := by
  have hpw : ks.reverse.Pairwise (fun a b => b.id < a.id) := by
    rw [List.pairwise_reverse, List.pairwise_iff_getElem]
    intro i j hi hj hij
    rw [h i _ (List.getElem?_eq_getElem hi), h j _ (List.getElem?_eq_getElem hj)]
    omega
  unfold curD
  rcases curR_spec day ks.reverse hpw with ⟨h1, h2⟩ | ⟨y, hy, h1, h2, h3⟩
  · rw [h1]
    refine ⟨?_, fun i x hx => ⟨fun he => ?_, fun _ => h2 x (by rw [List.mem_reverse]; exact List.mem_of_getElem? hx)⟩⟩
    · show false = _
      rw [eq_comm, List.any_eq_false]
      intro x hx
      rw [h2 x (by rw [List.mem_reverse]; exact hx)]
      decide
    · have := h i x hx
      replace he : x.id = 0 := he
      omega
  · rw [h2]
    rw [List.mem_reverse] at hy
    refine ⟨?_, fun i x hx => ⟨fun he => ?_, fun hlt => h3 x (by rw [List.mem_reverse]; exact List.mem_of_getElem? hx) hlt⟩⟩
    · show true = _
      rw [eq_comm, List.any_eq_true]
      exact ⟨y, hy, h1⟩
    · replace he : x.id = y.id := he
      obtain ⟨j, hj⟩ := List.getElem?_of_mem hy
      have h4 := h i x hx
      have h5 := h j y hj
      obtain rfl : i = j := by omega
      rw [hx] at hj
      injection hj with hj
      rw [hj]; exact h1
theorem any_take (ks : List Ky) (p : Ky → Bool) (i : Nat) (k : Ky) (h : ks[i]? = some k) : (ks.take (i + 1)).any p = ((ks.take i).any p || p k) := by
  rw [List.take_add_one, h, List.any_append]
  simp
theorem want_cur (k : Ky) (day : Int) : (wantE k day day = 0 ∧ curB k day = true) ∨ (wantE k day day = 23 ∧ curB k day = false) ∨ (wantE k day day = 11 ∧ curB k day = false) := by
  unfold wantE curB
  by_cases h1 : day < k.fr
  · exact .inr (.inl ⟨if_pos h1, by simp; omega⟩)
  · rw [if_neg h1]
    by_cases h2 : k.st ≠ 0 ∧ k.st ≤ day
    · exact .inr (.inr ⟨if_pos h2, by simp [h2.1]; omega⟩)
    · exact .inl ⟨if_neg h2, by simp; omega⟩

end Go.Proofs.YtikinldimecgaaaDoor
