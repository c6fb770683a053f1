/- The walk of the reference's check of one key. -/
import Derived.Test.YtikinldimecgaaaDoorKeyD
namespace Go.Proofs.YtikinldimecgaaaDoor
open Go.RowKit

section
variable {last k : Ky}
theorem chk1_a (h : k.id < 1 ∨ k.sec.size = 0 ∨ 40 < k.sec.size) : chk1 last k = 3 := by unfold chk1; rw [if_pos h]
theorem chk1_b (h : ¬ (k.id < 1 ∨ k.sec.size = 0 ∨ 40 < k.sec.size)) (h2 : k.id ≤ last.id) : chk1 last k = 7 := by unfold chk1; rw [if_neg h, if_pos h2]
theorem chk1_c (h : ¬ (k.id < 1 ∨ k.sec.size = 0 ∨ 40 < k.sec.size)) (h2 : ¬ k.id ≤ last.id) (h3 : rightB k.fr = false ∨ rightB k.st = false ∨ (k.st ≠ 0 ∧ k.st < k.fr)) : chk1 last k = 23 := by unfold chk1; rw [if_neg h, if_neg h2, if_pos h3]
theorem chk1_d (h : ¬ (k.id < 1 ∨ k.sec.size = 0 ∨ 40 < k.sec.size)) (h2 : ¬ k.id ≤ last.id) (h3 : ¬ (rightB k.fr = false ∨ rightB k.st = false ∨ (k.st ≠ 0 ∧ k.st < k.fr))) (h4 : k.fr < last.fr) : chk1 last k = 7 := by unfold chk1; rw [if_neg h, if_neg h2, if_neg h3, if_pos h4]
theorem chk1_e (h : ¬ (k.id < 1 ∨ k.sec.size = 0 ∨ 40 < k.sec.size)) (h2 : ¬ k.id ≤ last.id) (h3 : ¬ (rightB k.fr = false ∨ rightB k.st = false ∨ (k.st ≠ 0 ∧ k.st < k.fr))) (h4 : ¬ k.fr < last.fr) : chk1 last k = 0 := by unfold chk1; rw [if_neg h, if_neg h2, if_neg h3, if_neg h4]
end

set_option maxHeartbeats 4000000 in
theorem one_first (b off n c : Nat) (k : Ky) (w : World) (hn : 0 < n) (_hn2 : n ≤ 100000) (_hb : b < w.heap.size) (hc : w.cell? ⟨b, off, none⟩ = some (.int .i64 k.id)) (hc1 : w.cell? ⟨b, off + 1, none⟩ = some (.string k.sec)) (hc2 : w.cell? ⟨b, off + 2, none⟩ = some (.int .i64 k.fr)) (hc3 : w.cell? ⟨b, off + 3, none⟩ = some (.int .i64 k.st)) :
    Calls Tryd.prog 31 #[.slice (some ⟨b, off, none⟩) n c, .int .i64 0] w fun e w' => e = .returned (.int .i64 (chk1 Ky.zero k)) ∧ Below w.heap.size w w' := by
  by_cases c1 : k.id < 1
  · go_enter Tryd.func31, Tryd.ntmps31
    go_wp2_with (go_at_call 37; refine (right3_any _ _).mono ?_; rintro e w' ⟨rfl, rfl⟩)
    go_ret
    exact ⟨ret_int (by symm; exact chk1_a (.inl c1)), (Below.refl _ _).alloc (Nat.le_refl _) _⟩
  by_cases c2 : k.sec.size < 1
  · go_enter Tryd.func31, Tryd.ntmps31
    go_wp2_with (go_at_call 37; refine (right3_any _ _).mono ?_; rintro e w' ⟨rfl, rfl⟩)
    go_ret
    exact ⟨ret_int (by symm; exact chk1_a (.inr (.inl (by omega)))), (Below.refl _ _).alloc (Nat.le_refl _) _⟩
  by_cases c3 : 40 < k.sec.size
  · go_enter Tryd.func31, Tryd.ntmps31
    go_wp2_with (go_at_call 37; refine (right3_any _ _).mono ?_; rintro e w' ⟨rfl, rfl⟩)
    go_ret
    exact ⟨ret_int (by symm; exact chk1_a (.inr (.inr c3))), (Below.refl _ _).alloc (Nat.le_refl _) _⟩
  have CA : Hid (¬ (k.id < 1 ∨ k.sec.size = 0 ∨ 40 < k.sec.size)) := Lib.hid (fun h => h.elim c1 (fun h => h.elim (by omega) c3))
  have c4 : ¬ k.id ≤ Ky.zero.id := by show ¬ k.id ≤ 0; omega
  have C4 := Lib.hid c4
  clear c4
  rcases c5 : rightB k.fr with _ | _
  · have C5 := Lib.hid c5
    rcases c6 : rightB k.st with _ | _
    all_goals
      go_enter Tryd.func31, Tryd.ntmps31
      go_wp2_with (go_at_call 37; refine (right3_any _ _).mono ?_; rintro e w' ⟨rfl, rfl⟩)
      go_quiet (fail)
      go_wp2_with (go_at_call 37; refine (right3_any _ _).mono ?_; rintro e w' ⟨rfl, rfl⟩)
      go_ret
      exact ⟨ret_int (by symm; exact chk1_c CA.out (by have := C4.out; omega) (.inl C5.out)), below_drewN ((Below.refl _ _).alloc (Nat.le_refl _) _) _⟩
  rcases c6 : rightB k.st with _ | _
  · have C6 := Lib.hid c6
    go_enter Tryd.func31, Tryd.ntmps31
    go_wp2_with (go_at_call 37; refine (right3_any _ _).mono ?_; rintro e w' ⟨rfl, rfl⟩)
    go_quiet (fail)
    go_wp2_with (go_at_call 37; refine (right3_any _ _).mono ?_; rintro e w' ⟨rfl, rfl⟩)
    go_ret
    exact ⟨ret_int (by symm; exact chk1_c CA.out (by have := C4.out; omega) (.inr (.inl C6.out))), below_drewN ((Below.refl _ _).alloc (Nat.le_refl _) _) _⟩
  have C5 := Lib.hid c5
  have C6 := Lib.hid c6
  by_cases c7 : k.st = 0
  · have c7' : (k.st != 0) = false := by simp [c7]
    have CC : Hid (¬ (rightB k.fr = false ∨ rightB k.st = false ∨ (k.st ≠ 0 ∧ k.st < k.fr))) := Lib.hid (by rw [c5, c6]; simp; intro h; exact absurd c7 h)
    clear c7
    have c9 : ¬ k.fr < Ky.zero.fr := by have := (of_decide_eq_true C5.out).1; show ¬ k.fr < 0; omega
    have C9 := Lib.hid c9
    clear c9
    go_enter Tryd.func31, Tryd.ntmps31
    go_wp2_with (go_at_call 37; refine (right3_any _ _).mono ?_; rintro e w' ⟨rfl, rfl⟩)
    go_quiet (fail)
    go_wp2_with (go_at_call 37; refine (right3_any _ _).mono ?_; rintro e w' ⟨rfl, rfl⟩)
    go_quiet (fail)
    go_wp2_with (go_at_call 37; refine (right3_any _ _).mono ?_; rintro e w' ⟨rfl, rfl⟩)
    go_ret
    exact ⟨ret_int (by symm; exact chk1_e CA.out (by have := C4.out; omega) CC.out (by have := C9.out; omega)), below_drewN (below_drewN ((Below.refl _ _).alloc (Nat.le_refl _) _) _) _⟩
  · have c7' : (k.st != 0) = true := by simp [c7]
    by_cases c8 : k.st < k.fr
    · go_enter Tryd.func31, Tryd.ntmps31
      go_wp2_with (go_at_call 37; refine (right3_any _ _).mono ?_; rintro e w' ⟨rfl, rfl⟩)
      go_quiet (fail)
      go_wp2_with (go_at_call 37; refine (right3_any _ _).mono ?_; rintro e w' ⟨rfl, rfl⟩)
      go_ret
      exact ⟨ret_int (by symm; exact chk1_c CA.out (by have := C4.out; omega) (.inr (.inr ⟨c7, c8⟩))), below_drewN ((Below.refl _ _).alloc (Nat.le_refl _) _) _⟩
    have CC : Hid (¬ (rightB k.fr = false ∨ rightB k.st = false ∨ (k.st ≠ 0 ∧ k.st < k.fr))) := Lib.hid (by rw [c5, c6]; simp; intro _; omega)
    have c9 : ¬ k.fr < Ky.zero.fr := by have := (of_decide_eq_true C5.out).1; show ¬ k.fr < 0; omega
    have C9 := Lib.hid c9
    clear c9
    go_enter Tryd.func31, Tryd.ntmps31
    go_wp2_with (go_at_call 37; refine (right3_any _ _).mono ?_; rintro e w' ⟨rfl, rfl⟩)
    go_quiet (fail)
    go_wp2_with (go_at_call 37; refine (right3_any _ _).mono ?_; rintro e w' ⟨rfl, rfl⟩)
    go_quiet (fail)
    go_wp2_with (go_at_call 37; refine (right3_any _ _).mono ?_; rintro e w' ⟨rfl, rfl⟩)
    go_ret
    exact ⟨ret_int (by symm; exact chk1_e CA.out (by have := C4.out; omega) CC.out (by have := C9.out; omega)), below_drewN (below_drewN ((Below.refl _ _).alloc (Nat.le_refl _) _) _) _⟩

set_option maxHeartbeats 4000000 in
theorem one_next (b off n c i : Nat) (last k : Ky) (w : World) (hn : i + 1 < n) (hn2 : n ≤ 100000) (hb : b < w.heap.size) (hc : w.cell? ⟨b, off + (i + 1) * 4, none⟩ = some (.int .i64 k.id)) (hc1 : w.cell? ⟨b, off + (i + 1) * 4 + 1, none⟩ = some (.string k.sec)) (hc2 : w.cell? ⟨b, off + (i + 1) * 4 + 2, none⟩ = some (.int .i64 k.fr)) (hc3 : w.cell? ⟨b, off + (i + 1) * 4 + 3, none⟩ = some (.int .i64 k.st))
    (hl : w.cell? ⟨b, off + i * 4, none⟩ = some (.int .i64 last.id)) (hl2 : w.cell? ⟨b, off + i * 4 + 2, none⟩ = some (.int .i64 last.fr)) :
    Calls Tryd.prog 31 #[.slice (some ⟨b, off, none⟩) n c, .int .i64 ((i : Int) + 1)] w fun e w' => e = .returned (.int .i64 (chk1 last k)) ∧ Below w.heap.size w w' := by
  by_cases c1 : k.id < 1
  · go_enter Tryd.func31, Tryd.ntmps31
    go_wp2_with (go_at_call 37; refine (right3_any _ _).mono ?_; rintro e w' ⟨rfl, rfl⟩)
    go_ret
    exact ⟨ret_int (by symm; exact chk1_a (.inl c1)), (Below.refl _ _).alloc (Nat.le_refl _) _⟩
  by_cases c2 : k.sec.size < 1
  · go_enter Tryd.func31, Tryd.ntmps31
    go_wp2_with (go_at_call 37; refine (right3_any _ _).mono ?_; rintro e w' ⟨rfl, rfl⟩)
    go_ret
    exact ⟨ret_int (by symm; exact chk1_a (.inr (.inl (by omega)))), (Below.refl _ _).alloc (Nat.le_refl _) _⟩
  by_cases c3 : 40 < k.sec.size
  · go_enter Tryd.func31, Tryd.ntmps31
    go_wp2_with (go_at_call 37; refine (right3_any _ _).mono ?_; rintro e w' ⟨rfl, rfl⟩)
    go_ret
    exact ⟨ret_int (by symm; exact chk1_a (.inr (.inr c3))), (Below.refl _ _).alloc (Nat.le_refl _) _⟩
  have CA : Hid (¬ (k.id < 1 ∨ k.sec.size = 0 ∨ 40 < k.sec.size)) := Lib.hid (fun h => h.elim c1 (fun h => h.elim (by omega) c3))
  by_cases c4 : k.id ≤ last.id
  · go_enter Tryd.func31, Tryd.ntmps31
    go_wp2_with (go_at_call 37; refine (right3_any _ _).mono ?_; rintro e w' ⟨rfl, rfl⟩)
    go_quiet (fail)
    go_wp2_with (go_at_call 37; refine (right3_any _ _).mono ?_; rintro e w' ⟨rfl, rfl⟩)
    go_ret
    exact ⟨ret_int (by symm; exact chk1_b CA.out c4), below_drewN ((Below.refl _ _).alloc (Nat.le_refl _) _) _⟩
  have C4 := Lib.hid c4
  rcases c5 : rightB k.fr with _ | _
  · have C5 := Lib.hid c5
    rcases c6 : rightB k.st with _ | _
    all_goals
      go_enter Tryd.func31, Tryd.ntmps31
      go_wp2_with (go_at_call 37; refine (right3_any _ _).mono ?_; rintro e w' ⟨rfl, rfl⟩)
      go_quiet (fail)
      go_wp2_with (go_at_call 37; refine (right3_any _ _).mono ?_; rintro e w' ⟨rfl, rfl⟩)
      go_ret
      exact ⟨ret_int (by symm; exact chk1_c CA.out (by have := C4.out; omega) (.inl C5.out)), below_drewN ((Below.refl _ _).alloc (Nat.le_refl _) _) _⟩
  rcases c6 : rightB k.st with _ | _
  · have C6 := Lib.hid c6
    go_enter Tryd.func31, Tryd.ntmps31
    go_wp2_with (go_at_call 37; refine (right3_any _ _).mono ?_; rintro e w' ⟨rfl, rfl⟩)
    go_quiet (fail)
    go_wp2_with (go_at_call 37; refine (right3_any _ _).mono ?_; rintro e w' ⟨rfl, rfl⟩)
    go_ret
    exact ⟨ret_int (by symm; exact chk1_c CA.out (by have := C4.out; omega) (.inr (.inl C6.out))), below_drewN ((Below.refl _ _).alloc (Nat.le_refl _) _) _⟩
  have C5 := Lib.hid c5
  have C6 := Lib.hid c6
  by_cases c7 : k.st = 0
  · have c7' : (k.st != 0) = false := by simp [c7]
    have CC : Hid (¬ (rightB k.fr = false ∨ rightB k.st = false ∨ (k.st ≠ 0 ∧ k.st < k.fr))) := Lib.hid (by rw [c5, c6]; simp; intro h; exact absurd c7 h)
    clear c7
    by_cases c9 : k.fr < last.fr
    · go_enter Tryd.func31, Tryd.ntmps31
      go_wp2_with (go_at_call 37; refine (right3_any _ _).mono ?_; rintro e w' ⟨rfl, rfl⟩)
      go_quiet (fail)
      go_wp2_with (go_at_call 37; refine (right3_any _ _).mono ?_; rintro e w' ⟨rfl, rfl⟩)
      go_quiet (fail)
      go_wp2_with (go_at_call 37; refine (right3_any _ _).mono ?_; rintro e w' ⟨rfl, rfl⟩)
      go_ret
      exact ⟨ret_int (by symm; exact chk1_d CA.out (by have := C4.out; omega) CC.out c9), below_drewN (below_drewN ((Below.refl _ _).alloc (Nat.le_refl _) _) _) _⟩
    go_enter Tryd.func31, Tryd.ntmps31
    go_wp2_with (go_at_call 37; refine (right3_any _ _).mono ?_; rintro e w' ⟨rfl, rfl⟩)
    go_quiet (fail)
    go_wp2_with (go_at_call 37; refine (right3_any _ _).mono ?_; rintro e w' ⟨rfl, rfl⟩)
    go_quiet (fail)
    go_wp2_with (go_at_call 37; refine (right3_any _ _).mono ?_; rintro e w' ⟨rfl, rfl⟩)
    go_ret
    exact ⟨ret_int (by symm; exact chk1_e CA.out (by have := C4.out; omega) CC.out (by omega)), below_drewN (below_drewN ((Below.refl _ _).alloc (Nat.le_refl _) _) _) _⟩
  · have c7' : (k.st != 0) = true := by simp [c7]
    by_cases c8 : k.st < k.fr
    · go_enter Tryd.func31, Tryd.ntmps31
      go_wp2_with (go_at_call 37; refine (right3_any _ _).mono ?_; rintro e w' ⟨rfl, rfl⟩)
      go_quiet (fail)
      go_wp2_with (go_at_call 37; refine (right3_any _ _).mono ?_; rintro e w' ⟨rfl, rfl⟩)
      go_ret
      exact ⟨ret_int (by symm; exact chk1_c CA.out (by have := C4.out; omega) (.inr (.inr ⟨c7, c8⟩))), below_drewN ((Below.refl _ _).alloc (Nat.le_refl _) _) _⟩
    have CC : Hid (¬ (rightB k.fr = false ∨ rightB k.st = false ∨ (k.st ≠ 0 ∧ k.st < k.fr))) := Lib.hid (by rw [c5, c6]; simp; intro _; omega)
    by_cases c9 : k.fr < last.fr
    · go_enter Tryd.func31, Tryd.ntmps31
      go_wp2_with (go_at_call 37; refine (right3_any _ _).mono ?_; rintro e w' ⟨rfl, rfl⟩)
      go_quiet (fail)
      go_wp2_with (go_at_call 37; refine (right3_any _ _).mono ?_; rintro e w' ⟨rfl, rfl⟩)
      go_quiet (fail)
      go_wp2_with (go_at_call 37; refine (right3_any _ _).mono ?_; rintro e w' ⟨rfl, rfl⟩)
      go_ret
      exact ⟨ret_int (by symm; exact chk1_d CA.out (by have := C4.out; omega) CC.out c9), below_drewN (below_drewN ((Below.refl _ _).alloc (Nat.le_refl _) _) _) _⟩
    go_enter Tryd.func31, Tryd.ntmps31
    go_wp2_with (go_at_call 37; refine (right3_any _ _).mono ?_; rintro e w' ⟨rfl, rfl⟩)
    go_quiet (fail)
    go_wp2_with (go_at_call 37; refine (right3_any _ _).mono ?_; rintro e w' ⟨rfl, rfl⟩)
    go_quiet (fail)
    go_wp2_with (go_at_call 37; refine (right3_any _ _).mono ?_; rintro e w' ⟨rfl, rfl⟩)
    go_ret
    exact ⟨ret_int (by symm; exact chk1_e CA.out (by have := C4.out; omega) CC.out (by omega)), below_drewN (below_drewN ((Below.refl _ _).alloc (Nat.le_refl _) _) _) _⟩

end Go.Proofs.YtikinldimecgaaaDoor
