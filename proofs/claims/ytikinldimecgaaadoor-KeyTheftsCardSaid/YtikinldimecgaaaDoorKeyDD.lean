/- Plain facts on thefts: what Steal answers for a right ring, once and twice, and what stays valid. -/
import Derived.Test.YtikinldimecgaaaDoorKeyCC
namespace Go.Proofs.YtikinldimecgaaaDoor
open Go.RowKit

structure Stl (sc : Int) (ks : List Ky) (m : Nat) (k : Ky) : Prop where
  chk : chkR sc ks = 0
  idx : idxFrom k.id ks 0 = (m : Int)
  at_ : ks[m]? = some k

section
variable {sc a b : Int} {ks : List Ky} {m : Nat} {k : Ky}
theorem dayBad_no (h1 : 1 ≤ a) (h2 : a ≤ 100000) (h3 : k.fr ≤ a) : dayBad k a = false := by
  unfold dayBad; rw [rightB_of (by omega) h2]; simp; omega
theorem dayBad_yes (h : a < k.fr) : dayBad k a = true := by unfold dayBad; simp [h]
theorem Stl.ok (h : Stl sc ks m k) (h1 : 1 ≤ a) (h2 : a ≤ 100000) (h3 : k.fr ≤ a) : stealE sc ks k.id a = 0 ∧ stealS sc ks k.id a = sc ∧ stealK sc ks k.id a = ks.set m (stKey k a) :=
  stealE_ok h.chk h.idx h.at_ (dayBad_no h1 h2 h3)
theorem Stl.bad (h : Stl sc ks m k) (h3 : a < k.fr) : stealE sc ks k.id a = 23 ∧ stealS sc ks k.id a = 0 ∧ stealK sc ks k.id a = [] := by
  have e := stealE_day h.chk h.idx h.at_ (dayBad_yes h3)
  exact ⟨e, steal_bad e (by decide)⟩
theorem Stl.lt (h : Stl sc ks m k) : m < ks.length := (List.getElem?_eq_some_iff.1 h.at_).1
theorem Stl.next (h : Stl sc ks m k) (h1 : 1 ≤ a) (h2 : a ≤ 100000) (h3 : k.fr ≤ a) : Stl sc (ks.set m (stKey k a)) m (stKey k a) :=
  ⟨chkR_set h.chk h.at_ h1 h2 h3, by rw [idx_set ks m k (stKey k a) h.at_ rfl]; exact h.idx, by rw [List.getElem?_set_self h.lt]⟩
theorem stKey_two (ha : a ≠ 0) (hb : b ≠ 0) : stKey (stKey k a) b = stKey (stKey k b) a ∧ stKey (stKey k a) b = stKey k (min a b) := by
  obtain ⟨h1, h2⟩ := newSt_comm k.st a b ha hb
  exact ⟨congrArg (fun s => ({ k with st := s } : Ky)) h1, congrArg (fun s => ({ k with st := s } : Ky)) h2⟩

theorem want_two (k : Ky) (s : Int) : wantE k k.fr s = if k.st ≠ 0 ∧ k.st ≤ s then 11 else 0 := by
  unfold wantE; rw [if_neg (by omega)]
/- before and behind a theft -/
theorem theft_cases (h : Stl sc ks m k) (ha : 1 ≤ a) (hi : ∀ (i : Nat) (x : Ky), ks[i]? = some x → x.id = 1 + 2 * (i : Int)) {i : Nat} {x : Ky} (hx : ks[i]? = some x) :
    ∃ y, (ks.set m (stKey k a))[i]? = some y ∧ y.id = x.id ∧ y.sec = x.sec ∧ y.fr = x.fr ∧ ∀ s, ∃ u v, wantE x x.fr s = u ∧ wantE y x.fr s = v ∧
      ((x.id ≠ k.id ∧ (u = 0 ∧ v = 0 ∨ u = 11 ∧ v = 11)) ∨ (x.id = k.id ∧ s < a ∧ (u = 0 ∧ v = 0 ∨ u = 11 ∧ v = 11)) ∨ (x.id = k.id ∧ a ≤ s ∧ (u = 0 ∧ v = 11 ∨ u = 11 ∧ v = 11))) := by
  have hm := hi m k h.at_
  have hxi := hi i x hx
  by_cases hmi : m = i
  · subst hmi
    obtain rfl : k = x := by have := h.at_; rw [hx] at this; exact (Option.some.inj this).symm
    refine ⟨stKey k a, by rw [List.getElem?_set_self h.lt], rfl, rfl, rfl, fun s => ⟨_, _, want_two k s, want_two (stKey k a) s, .inr ?_⟩⟩
    show (k.id = k.id ∧ s < a ∧ _) ∨ _
    have hst : (stKey k a).st = newSt k.st a := rfl
    have hc := newSt_cases k.st a
    have hn : newSt k.st a = if k.st = 0 ∨ a < k.st then a else k.st := rfl
    rw [hst]
    by_cases hs : s < a
    · refine .inl ⟨rfl, hs, ?_⟩
      by_cases h1 : k.st = 0 ∨ a < k.st
      · rw [if_pos h1] at hn
        rw [hn, if_neg (by omega), if_neg (by omega)]
        exact .inl ⟨rfl, rfl⟩
      · rw [if_neg h1] at hn
        rw [hn]
        by_cases h2 : k.st ≠ 0 ∧ k.st ≤ s
        · rw [if_pos h2]; exact .inr ⟨rfl, rfl⟩
        · rw [if_neg h2]; exact .inl ⟨rfl, rfl⟩
    · refine .inr ⟨rfl, by omega, ?_⟩
      rw [if_pos (c := newSt k.st a ≠ 0 ∧ newSt k.st a ≤ s) (by omega)]
      by_cases h2 : k.st ≠ 0 ∧ k.st ≤ s
      · rw [if_pos h2]; exact .inr ⟨rfl, rfl⟩
      · rw [if_neg h2]; exact .inl ⟨rfl, rfl⟩
  · refine ⟨x, by rw [List.getElem?_set_ne hmi]; exact hx, rfl, rfl, rfl, fun s => ⟨_, _, want_two x s, want_two x s, .inl ⟨by omega, ?_⟩⟩⟩
    by_cases h2 : x.st ≠ 0 ∧ x.st ≤ s
    · rw [if_pos h2]; exact .inr ⟨rfl, rfl⟩
    · rw [if_neg h2]; exact .inl ⟨rfl, rfl⟩
/- one round: what is signed with the ring behind the theft, asked of both rings -/
theorem theft_round (h : Stl sc ks m k) (ha : 1 ≤ a) (hi : ∀ (i : Nat) (x : Ky), ks[i]? = some x → x.id = 1 + 2 * (i : Int)) (hj : ∀ (i : Nat) (x : Ky), ks[i]? = some x → idxFrom x.id ks 0 = (i : Int)) {i : Nat} {x : Ky} (hx : ks[i]? = some x) (hz : x.sec.size ≠ 0) (tx : ByteArray) :
    signE (ks.set m (stKey k a)) x.id = 0 ∧ ∃ mk, signM sc (ks.set m (stKey k a)) x.id tx = mk ∧ ∀ s, ∃ u v, validE sc ks x.id tx (bs mk) x.fr s = u ∧ validE sc (ks.set m (stKey k a)) x.id tx (bs mk) x.fr s = v ∧
      ((x.id ≠ k.id ∧ (u = 0 ∧ v = 0 ∨ u = 11 ∧ v = 11)) ∨ (x.id = k.id ∧ s < a ∧ (u = 0 ∧ v = 0 ∨ u = 11 ∧ v = 11)) ∨ (x.id = k.id ∧ a ≤ s ∧ (u = 0 ∧ v = 11 ∨ u = 11 ∧ v = 11))) := by
  obtain ⟨y, hy, e1, e2, e3, hc⟩ := theft_cases h ha hi hx
  have hj0 := hj i x hx
  have hj1 : idxFrom x.id (ks.set m (stKey k a)) 0 = (i : Int) := by rw [idx_set ks m k (stKey k a) h.at_ rfl]; exact hj0
  have hM : signM sc (ks.set m (stKey k a)) x.id tx = signM sc ks x.id tx := by
    unfold signM
    rw [if_neg (by omega), if_neg (by omega), kyAt_eq hj1 hy, kyAt_eq hj0 hx, e2]
  refine ⟨sign_own _ i _ hj1, _, hM, fun s => ?_⟩
  obtain ⟨u, v, hu, hv, h'⟩ := hc s
  refine ⟨u, v, ?_, ?_, h'⟩
  · rw [valid_own sc ks i x tx x.fr s hj0 hx hz, hu]
  · have := valid_own sc (ks.set m (stKey k a)) i y tx x.fr s (by rw [e1]; exact hj1) hy (by rw [e2]; exact hz)
    rw [e1] at this
    rw [← hM, this, hv]
end

end Go.Proofs.YtikinldimecgaaaDoor
