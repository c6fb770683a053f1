/- The walks of the small functions of the laws: example, current, digits. -/
import Derived.Test.YtikinldimecgaaaDoorKeyQ
namespace Go.Proofs.YtikinldimecgaaaDoor
open Go.RowKit

theorem slc_newN (w : World) (t : TypeId) (g n size : Nat) (cs : List Value) (h : g = w.heap.size) (hl : cs.length = n * size) (hn : n ≤ maxLen) : Slc (w.alloc (.cells cs.toArray t)) (w.alloc (.cells cs.toArray t)).heap.size (some ⟨g, 0, none⟩) n n size cs := by
  subst h
  exact ⟨hl, (fun h => by cases h), Nat.le_refl _, hn, Rd.new w t cs⟩

def exKs : List Ky := [⟨1, ⟨#[97]⟩, 0, 0⟩, ⟨4, ⟨#[98]⟩, 50, 0⟩]

set_option maxHeartbeats 1000000 in
theorem example_any (w : World) :
    Calls Tryd.prog 26 #[] w fun e w' => ∃ A c, e = .returned (.agg #[.int .i64 3, .slice A 2 c]) ∧ KSl w' A c exKs ∧ Below w.heap.size w w' := by
  go_enter Tryd.func26, Tryd.ntmps26
  go_wp2_with fail
  refine bodyPost_ret (v := .agg #[.int .i64 3, .slice (some ⟨w.heap.size + 1, 0, none⟩) 2 2]) ?_ rfl ⟨some ⟨w.heap.size + 1, 0, none⟩, 2, rfl, ?_, ?_⟩
  · simp [results, Tryd.results26, go_sem]
  · exact slc_newN (w.alloc _) 28 (w.heap.size + 1) 2 4 (kcells exKs) (by simp) rfl (by decide)
  · go_grown

set_option maxHeartbeats 1000000 in
theorem current_true (A : Option Addr) (c : Nat) (school : Int) (ks : List Ky) (day id : Int) (w : World) (hk : KSl w A c ks) (hl : ks.length ≤ 2000) (hc : curD day ks = (id, true)) (h0 : id ≠ 0) :
    Calls Tryd.prog 27 #[.agg #[.int .i64 school, .slice A ks.length c], .int .i64 day, .int .i64 id] w fun e w' => e = .returned (.bool true) ∧ Below w.heap.size w w' := by
  have HK := Lib.hid hk
  have HC := Lib.hid hc
  have hb0 : (id != 0) = true := by simp [h0]
  clear hk hc
  go_enter Tryd.func27, Tryd.ntmps27
  go_wp2_with fail
  refine (cur_any A c school ks day _ (HK.out.below (by go_grown) (Nat.le_refl _) |>.more (by go_size)) hl).mono ?_
  rintro e w1 ⟨rfl, hb1⟩
  rw [HC.out]
  have HB1 := ext_below (w0 := w) (by go_grown) hb1
  clear hb1
  go_wp2_with fail
  go_ret
  exact ⟨rfl, HB1⟩

set_option maxHeartbeats 1000000 in
theorem digits_any (n : Int) (w : World) (h0 : 0 ≤ n) (h1 : n < 10) :
    Calls Tryd.prog 25 #[.int .i64 n] w fun e w' => e = .returned (.string (bs (Lib.itoa n))) ∧ Below w.heap.size w w' := by
  have hcv := str1
  have HI := Lib.hid (itoa_digit n h0 h1)
  have hm : n % 10 = n := by omega
  go_enter Tryd.func25, Tryd.ntmps25
  go_wp2_with fail
  go_ret
  rw [HI.out]
  exact ⟨rfl, by go_grown⟩

end Go.Proofs.YtikinldimecgaaaDoor
