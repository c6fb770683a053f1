/- The walks of Same and of the reference's Current. -/
import Derived.Test.YtikinldimecgaaaDoorKeyL
namespace Go.Proofs.YtikinldimecgaaaDoor
open Go.RowKit

set_option maxRecDepth 20000 in
set_option maxHeartbeats 2000000 in
theorem same_true (A A' : Option Addr) (c c' : Nat) (school : Int) (ks : List Ky) (w : World) (hk : KSl w A c ks) (hk' : KSl w A' c' ks) (hn : ks.length ≤ 2000) :
    Calls Tryd.prog 17 #[.agg #[.int .i64 school, .slice A ks.length c], .agg #[.int .i64 school, .slice A' ks.length c']] w fun e w' => e = .returned (.bool true) ∧ Below w.heap.size w w' := by
  have HK := Lib.hid hk
  have HK' := Lib.hid hk'
  clear hk hk'
  have hm : Tryd.prog.eqGuardType Tryd.prog.depth 28 = false := by kernel_rfl
  go_enter Tryd.func17, Tryd.ntmps17
  go_wp2
  go_loopw [5] (fun i wr => ∃ (j : Nat), j ≤ ks.length ∧ i = .int .i64 j ∧ Blk wr w.heap.size 34 #[.int .i64 school, .slice A ks.length c] ∧ Blk wr (w.heap.size + 1) 34 #[.int .i64 school, .slice A' ks.length c'] ∧ Below w.heap.size w wr) (fun i _ => ks.length - (intOf i).toNat)
  case atStart => exact ⟨0, by omega, rfl, (Blk.new w _ _).alloc _, Blk.new' (by simp), by go_grown⟩
  case round =>
    obtain ⟨j, hj, rfl, ha, hb, hB⟩ := hrel
    obtain ⟨a0, a1, a2, a3⟩ := ha.f2
    obtain ⟨b0, b1, b2, b3⟩ := hb.f2
    have HA := hide ha
    have HBB := hide hb
    clear ha hb
    by_cases hlt : j < ks.length
    · obtain ⟨b, off, rfl, hb, k0, k1, k2, k3⟩ := HK.out.at_ hlt
      obtain ⟨b', off', rfl, hb', k0', k1', k2', k3'⟩ := HK'.out.at_ hlt
      generalize hkj : ks[j] = k at *
      clear hkj
      obtain ⟨hc, hf⟩ := bcell hB
      go_wp2_with fail
      go_quiet (fail)
      go_wp2_with fail
      go_roundw
      case rel => exact ⟨j + 1, by omega, by go_num, (unhide HA).drewN _, (unhide HBB).drewN _, below_drewN hB _⟩
      case measure => simp [intOf]; omega
    · go_wp2
      go_ret
      exact ⟨rfl, hB⟩

/- the last key that can sign on a day -/
def curB (k : Ky) (day : Int) : Bool := decide (k.fr ≤ day) && (k.st == 0 || decide (day < k.st))
def curR (day : Int) : List Ky → Int × Bool
  | [] => (0, false)
  | k :: r => if curB k day = true then (k.id, true) else curR day r
def curD (day : Int) (ks : List Ky) : Int × Bool := curR day ks.reverse

theorem cur_step (day : Int) (ks : List Ky) (j : Nat) (hj : j < ks.length) : curR day (ks.take (j + 1)).reverse = if curB ks[j] day = true then (ks[j].id, true) else curR day (ks.take j).reverse := by
  rw [List.take_succ_eq_append_getElem hj, List.reverse_append]
  rfl
theorem curB_true {k : Ky} {day : Int} (h1 : k.fr ≤ day) (h2 : k.st = 0 ∨ day < k.st) : curB k day = true := by
  unfold curB; simp [h1, h2]
theorem curB_false {k : Ky} {day : Int} (h : ¬ (k.fr ≤ day ∧ (k.st = 0 ∨ day < k.st))) : curB k day = false := by
  unfold curB
  rw [Bool.eq_false_iff]
  intro hc
  simp at hc
  exact h hc

set_option maxRecDepth 20000 in
set_option maxHeartbeats 2000000 in
theorem rcur_any (A : Option Addr) (c : Nat) (school : Int) (ks : List Ky) (day : Int) (w : World) (hk : KSl w A c ks) (hn : ks.length ≤ 2000) :
    Calls Tryd.prog 19 #[.agg #[.int .i64 school, .slice A ks.length c], .int .i64 day] w fun e w' =>
      e = .returned (.tuple #[.int .i64 (curD day ks).1, .bool (curD day ks).2]) ∧ Below w.heap.size w w' := by
  have HK := Lib.hid hk
  clear hk
  go_enter Tryd.func19, Tryd.ntmps19
  go_wp2
  go_loopw [6] (fun i wr => ∃ (j : Nat), j ≤ ks.length ∧ i = .int .i64 ((j : Int) - 1) ∧ curD day ks = curR day (ks.take j).reverse ∧ Blk wr w.heap.size 34 #[.int .i64 school, .slice A ks.length c] ∧ Below w.heap.size w wr) (fun i _ => (intOf i + 1).toNat)
  case atStart => exact ⟨ks.length, Nat.le_refl _, rfl, by rw [List.take_length]; rfl, Blk.new w _ _, by go_grown⟩
  case round =>
    obtain ⟨j, hj, rfl, hR, ha, hB⟩ := hrel
    have HR := Lib.hid hR
    obtain ⟨a0, a1, a2, a3⟩ := ha.f2
    have HA := hide ha
    clear ha hR
    rcases j with _ | j
    · go_wp2
      rw [HR.out]
      go_ret2
      exact ⟨rfl, hB⟩
    · obtain ⟨b, off, rfl, hb, k0, k1, k2, k3⟩ := HK.out.at_ (i := j) (by omega)
      have HL := Lib.hid (cur_step day ks j (by omega))
      generalize hkj : ks[j] = k at *
      clear hkj
      obtain ⟨hc, hf⟩ := bcell hB
      have e1 : ((j + 1 : Nat) : Int) - 1 = (j : Int) := by omega
      rw [e1]
      clear e1
      by_cases d1 : k.fr ≤ day
      all_goals
        by_cases d2 : k.st = 0
        all_goals
          have D2 := Lib.hid d2
          first
          | (have d2' : (k.st == 0) = true := by simp [d2]
             clear d2)
          | (have d2' : (k.st == 0) = false := by simp [d2]
             clear d2)
          by_cases d3 : day < k.st
          all_goals
            go_wp2_with fail
            first
            | (go_ret2
               rw [HR.out, HL.out, if_pos (curB_true (by omega) (by have := D2.out; omega))]
               exact ⟨rfl, by go_grown⟩)
            | (go_roundw
               case rel => exact ⟨j, by omega, by go_num, by rw [HR.out, HL.out, if_neg (by rw [curB_false (by have := D2.out; omega)]; simp)], (unhide HA).alloc _, by go_grown⟩
               case measure => simp [intOf])

end Go.Proofs.YtikinldimecgaaaDoor
