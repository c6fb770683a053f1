/- The walk of the check of a ring. -/
import Derived.Test.YtikinldimecgaaaDoorKeyA
namespace Go.Proofs.YtikinldimecgaaaDoor
open Go.RowKit

section
variable {last k : Ky} {r : List Ky}
theorem chk_a (h : k.id < 1 ∨ k.sec.size = 0 ∨ 40 < k.sec.size) : chkL last (k :: r) = 3 := by
  have e : chk1 last k = 3 := by unfold chk1; rw [if_pos h]
  simp [chkL, e]
theorem chk_b (h : ¬ (k.id < 1 ∨ k.sec.size = 0 ∨ 40 < k.sec.size)) (h2 : k.id ≤ last.id) : chkL last (k :: r) = 7 := by
  have e : chk1 last k = 7 := by unfold chk1; rw [if_neg h, if_pos h2]
  simp [chkL, e]
theorem chk_c (h : ¬ (k.id < 1 ∨ k.sec.size = 0 ∨ 40 < k.sec.size)) (h2 : ¬ k.id ≤ last.id) (h3 : rightB k.fr = false ∨ rightB k.st = false ∨ (k.st ≠ 0 ∧ k.st < k.fr)) : chkL last (k :: r) = 23 := by
  have e : chk1 last k = 23 := by unfold chk1; rw [if_neg h, if_neg h2, if_pos h3]
  simp [chkL, e]
theorem chk_d (h : ¬ (k.id < 1 ∨ k.sec.size = 0 ∨ 40 < k.sec.size)) (h2 : ¬ k.id ≤ last.id) (h3 : ¬ (rightB k.fr = false ∨ rightB k.st = false ∨ (k.st ≠ 0 ∧ k.st < k.fr))) (h4 : k.fr < last.fr) : chkL last (k :: r) = 7 := by
  have e : chk1 last k = 7 := by unfold chk1; rw [if_neg h, if_neg h2, if_neg h3, if_pos h4]
  simp [chkL, e]
theorem chk_e (h : ¬ (k.id < 1 ∨ k.sec.size = 0 ∨ 40 < k.sec.size)) (h2 : ¬ k.id ≤ last.id) (h3 : ¬ (rightB k.fr = false ∨ rightB k.st = false ∨ (k.st ≠ 0 ∧ k.st < k.fr))) (h4 : ¬ k.fr < last.fr) : chkL last (k :: r) = chkL k r := by
  have e : chk1 last k = 0 := by unfold chk1; rw [if_neg h, if_neg h2, if_neg h3, if_neg h4]
  simp [chkL, e]
end

set_option maxHeartbeats 4000000 in
theorem check_any (pb po c : Nat) (A : Option Addr) (school : Int) (ks : List Ky) (w : World) (h0 : w.cell? ⟨pb, po, none⟩ = some (.int .i64 school))
    (h1 : w.cell? ⟨pb, po + 1, none⟩ = some (.slice A ks.length c)) (hk : KSl w A c ks) (hpb : pb < w.heap.size) (hn : ks.length ≤ 100000) :
    Calls Tryd.prog 30 #[.pointer (some ⟨pb, po, none⟩)] w fun e w' => e = .returned (.int .i64 (chkR school ks)) ∧ Below w.heap.size w w' := by
  have HK := Lib.hid hk
  clear hk
  by_cases s1 : school < 1
  · go_enter Tryd.func30, Tryd.ntmps30
    go_wp2
    go_ret
    exact ⟨ret_int (by simp [chkR, s1]), Below.refl _ _⟩
  by_cases s2 : 8 < school
  · go_enter Tryd.func30, Tryd.ntmps30
    go_wp2
    go_ret
    exact ⟨ret_int (by simp [chkR, s2]), Below.refl _ _⟩
  by_cases s3 : 20 < ks.length
  · go_enter Tryd.func30, Tryd.ntmps30
    go_wp2
    go_ret
    exact ⟨ret_int (by simp [chkR, s1, s2, s3]), Below.refl _ _⟩
  have HC : Hid (chkR school ks = chkL Ky.zero ks) := Lib.hid (by simp [chkR, s1, s2, s3])
  go_enter Tryd.func30, Tryd.ntmps30
  go_wp2
  go_loopw [36] (fun i wr => ∃ (j : Nat) (last : Ky), j ≤ ks.length ∧ i = .int .i64 j ∧ Blk wr w.heap.size 28 #[.int .i64 last.id, .string last.sec, .int .i64 last.fr, .int .i64 last.st] ∧ Below w.heap.size w wr ∧ chkL Ky.zero ks = chkL last (ks.drop j)) (fun i _ => ks.length - (intOf i).toNat)
  case atStart => exact ⟨0, Ky.zero, by omega, rfl, Blk.new w _ _, (Below.refl _ _).alloc (Nat.le_refl _) _, by simp⟩
  case round =>
    obtain ⟨j, last, hj, rfl, hlast, hB, hrel'⟩ := hrel
    have HR := Lib.hid hrel'
    clear hrel'
    by_cases hlt : j < ks.length
    · obtain ⟨hc, hf⟩ := bcell hB
      have q0 := hlast.cell 0
      have q1 := hlast.cell 1
      have q2 := hlast.cell 2
      have q3 := hlast.cell 3
      have q4 := hlast.frozen
      have hsz := hlast.lt
      simp at q0 q1 q2 q3
      have HLast := Lib.hid hlast
      clear hlast
      obtain ⟨b, off, rfl, hb, k0, k1, k2, k3⟩ := HK.out.at_ hlt
      have HL := Lib.hid (List.drop_eq_getElem_cons hlt)
      generalize hkj : ks[j] = k at *
      clear hkj
      by_cases c1 : k.id < 1
      · go_wp2_with (go_at_call 35; refine (right_any _ _).mono ?_; rintro e w' ⟨rfl, rfl⟩)
        go_ret
        exact ⟨ret_int (by rw [HC.out, HR.out, HL.out]; symm; exact chk_a (.inl c1)), by go_grown⟩
      rcases c2 : k.sec.toList.isEmpty with _ | _
      rotate_left
      · have c2' := (isEmpty_size k.sec).symm.trans c2
        have C2 := Lib.hid c2'
        clear c2'
        go_wp2_with (go_at_call 35; refine (right_any _ _).mono ?_; rintro e w' ⟨rfl, rfl⟩)
        go_ret
        exact ⟨ret_int (by rw [HC.out, HR.out, HL.out]; symm; exact chk_a (.inr (.inl (of_decide_eq_true C2.out)))), by go_grown⟩
      have c2' := (isEmpty_size k.sec).symm.trans c2
      have C2 := Lib.hid (of_decide_eq_false c2')
      clear c2'
      by_cases c3 : 40 < k.sec.size
      · go_wp2_with (go_at_call 35; refine (right_any _ _).mono ?_; rintro e w' ⟨rfl, rfl⟩)
        go_ret
        exact ⟨ret_int (by rw [HC.out, HR.out, HL.out]; symm; exact chk_a (.inr (.inr c3))), by go_grown⟩
      have CA : Hid (¬ (k.id < 1 ∨ k.sec.size = 0 ∨ 40 < k.sec.size)) := Lib.hid (fun h => h.elim c1 (fun h => h.elim C2.out c3))
      by_cases c4 : k.id ≤ last.id
      · go_wp2_with (go_at_call 35; refine (right_any _ _).mono ?_; rintro e w' ⟨rfl, rfl⟩)
        go_ret
        exact ⟨ret_int (by rw [HC.out, HR.out, HL.out]; symm; exact chk_b CA.out c4), by go_grown⟩
      rcases c5 : rightB k.fr with _ | _
      · have C5 := Lib.hid c5
        go_wp2_with (go_at_call 35; refine (right_any _ _).mono ?_; rintro e w' ⟨rfl, rfl⟩)
        go_ret
        exact ⟨ret_int (by rw [HC.out, HR.out, HL.out]; symm; exact chk_c CA.out (by omega) (.inl C5.out)), by go_grown⟩
      rcases c6 : rightB k.st with _ | _
      · have C6 := Lib.hid c6
        go_wp2_with (go_at_call 35; refine (right_any _ _).mono ?_; rintro e w' ⟨rfl, rfl⟩)
        go_ret
        exact ⟨ret_int (by rw [HC.out, HR.out, HL.out]; symm; exact chk_c CA.out (by omega) (.inr (.inl C6.out))), by go_grown⟩
      have C5 := Lib.hid c5
      have C6 := Lib.hid c6
      by_cases c7 : k.st = 0
      · have c7' : (k.st != 0) = false := by simp [c7]
        have CC : Hid (¬ (rightB k.fr = false ∨ rightB k.st = false ∨ (k.st ≠ 0 ∧ k.st < k.fr))) := Lib.hid (by rw [c5, c6]; simp; intro h; exact absurd c7 h)
        clear c7
        by_cases c9 : k.fr < last.fr
        · go_wp2_with (go_at_call 35; refine (right_any _ _).mono ?_; rintro e w' ⟨rfl, rfl⟩)
          go_ret
          exact ⟨ret_int (by rw [HC.out, HR.out, HL.out]; symm; exact chk_d CA.out (by omega) CC.out c9), by go_grown⟩
        go_wp2_with (go_at_call 35; refine (right_any _ _).mono ?_; rintro e w' ⟨rfl, rfl⟩)
        go_roundw
        case rel => exact ⟨j + 1, k, by omega, by go_num, (HLast.out.set4 _ _ _ _).alloc _, ((((hB.setCell (Nat.le_refl _) _).setCell (Nat.le_refl _) _).setCell (Nat.le_refl _) _).setCell (Nat.le_refl _) _).alloc (by simpa using hB.size) _, by rw [HR.out, HL.out]; exact chk_e CA.out (by omega) CC.out (by omega)⟩
        case measure => simp [intOf]; omega
      · have c7' : (k.st != 0) = true := by simp [c7]
        by_cases c8 : k.st < k.fr
        · go_wp2_with (go_at_call 35; refine (right_any _ _).mono ?_; rintro e w' ⟨rfl, rfl⟩)
          go_ret
          exact ⟨ret_int (by rw [HC.out, HR.out, HL.out]; symm; exact chk_c CA.out (by omega) (.inr (.inr ⟨c7, c8⟩))), by go_grown⟩
        have CC : Hid (¬ (rightB k.fr = false ∨ rightB k.st = false ∨ (k.st ≠ 0 ∧ k.st < k.fr))) := Lib.hid (by rw [c5, c6]; simp; intro _; omega)
        by_cases c9 : k.fr < last.fr
        · go_wp2_with (go_at_call 35; refine (right_any _ _).mono ?_; rintro e w' ⟨rfl, rfl⟩)
          go_ret
          exact ⟨ret_int (by rw [HC.out, HR.out, HL.out]; symm; exact chk_d CA.out (by omega) CC.out c9), by go_grown⟩
        go_wp2_with (go_at_call 35; refine (right_any _ _).mono ?_; rintro e w' ⟨rfl, rfl⟩)
        go_roundw
        case rel => exact ⟨j + 1, k, by omega, by go_num, (HLast.out.set4 _ _ _ _).alloc _, ((((hB.setCell (Nat.le_refl _) _).setCell (Nat.le_refl _) _).setCell (Nat.le_refl _) _).setCell (Nat.le_refl _) _).alloc (by simpa using hB.size) _, by rw [HR.out, HL.out]; exact chk_e CA.out (by omega) CC.out (by omega)⟩
        case measure => simp [intOf]; omega
    · go_wp2
      go_ret
      exact ⟨ret_int (by rw [HC.out, HR.out, List.drop_of_length_le (by omega)]; rfl), hB⟩


end Go.Proofs.YtikinldimecgaaaDoor
