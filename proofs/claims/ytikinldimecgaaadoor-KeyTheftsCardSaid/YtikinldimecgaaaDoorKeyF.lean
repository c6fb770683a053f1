/- The walks of the reference's check and copy of a ring. -/
import Derived.Test.YtikinldimecgaaaDoorKeyE
namespace Go.Proofs.YtikinldimecgaaaDoor
open Go.RowKit

set_option maxHeartbeats 1000000 in
theorem rcheck_any (A : Option Addr) (c : Nat) (school : Int) (ks : List Ky) (w : World) (hk : KSl w A c ks) (hn : ks.length ≤ 100000) :
    Calls Tryd.prog 12 #[.agg #[.int .i64 school, .slice A ks.length c]] w fun e w' => e = .returned (.int .i64 (chkR school ks)) ∧ Below w.heap.size w w' := by
  have HK := Lib.hid hk
  clear hk
  by_cases s1 : school < 1
  · go_enter Tryd.func12, Tryd.ntmps12
    go_wp2
    go_ret
    exact ⟨ret_int (by simp [chkR, s1]), by go_grown⟩
  by_cases s2 : 8 < school
  · go_enter Tryd.func12, Tryd.ntmps12
    go_wp2
    go_ret
    exact ⟨ret_int (by simp [chkR, s2]), by go_grown⟩
  by_cases s3 : 20 < ks.length
  · go_enter Tryd.func12, Tryd.ntmps12
    go_wp2
    go_ret
    exact ⟨ret_int (by simp [chkR, s1, s2, s3]), by go_grown⟩
  have HC : Hid (chkR school ks = chkL Ky.zero ks) := Lib.hid (by simp [chkR, s1, s2, s3])
  go_enter Tryd.func12, Tryd.ntmps12
  go_wp2
  go_loopw [3] (fun i wr => ∃ (j : Nat), j ≤ ks.length ∧ i = .int .i64 j ∧ chkL Ky.zero ks = chkL (prev ks j) (ks.drop j) ∧ Blk wr w.heap.size 34 #[.int .i64 school, .slice A ks.length c] ∧ Below w.heap.size w wr) (fun i _ => ks.length - (intOf i).toNat)
  case atStart => exact ⟨0, by omega, rfl, rfl, Blk.new w _ _, by go_grown⟩
  case round =>
    obtain ⟨j, hj, rfl, hR, hblk, hB⟩ := hrel
    have HR := Lib.hid hR
    clear hR
    have q0 := hblk.cell 0
    have q1 := hblk.cell 1
    have hsz := hblk.lt
    simp at q0 q1
    have HBk := Lib.hid hblk
    clear hblk
    by_cases hlt : j < ks.length
    · obtain ⟨b, off, rfl, hb, k0, k1, k2, k3⟩ := HK.out.at_ hlt
      have HL := Lib.hid (List.drop_eq_getElem_cons hlt)
      obtain ⟨hc, hf⟩ := bcell hB
      have hone : Calls Tryd.prog 31 #[.slice (some ⟨b, off, none⟩) ks.length c, .int .i64 (j : Int)] wr fun e w' => e = .returned (.int .i64 (chk1 (prev ks j) ks[j])) ∧ Below wr.heap.size wr w' := by
        rcases j with _ | j
        · rw [show prev ks 0 = Ky.zero from rfl]
          simp only [Nat.zero_mul, Nat.add_zero] at k0 k1 k2 k3
          exact one_first b off ks.length c ks[0] wr (by omega) (by omega) (by omega) ((hc _ _ hb).trans k0) ((hc _ _ hb).trans k1) ((hc _ _ hb).trans k2) ((hc _ _ hb).trans k3)
        · obtain ⟨b', off', hbo, _, p0, p1, p2, p3⟩ := HK.out.at_ (i := j) (by omega)
          injection hbo with hbo
          injection hbo with h1 h2
          subst h1 h2
          rw [show prev ks (j + 1) = ks[j] from by simp [prev, List.getD, List.getElem?_eq_getElem (show j < ks.length by omega)]]
          exact one_next b off ks.length c j ks[j] ks[j + 1] wr (by omega) (by omega) (by omega) ((hc _ _ hb).trans k0) ((hc _ _ hb).trans k1) ((hc _ _ hb).trans k2) ((hc _ _ hb).trans k3) ((hc _ _ hb).trans p0) ((hc _ _ hb).trans p2)
      have HO := hide hone
      clear hone k0 k1 k2 k3 hc hf
      have HP : Hid (prev ks (j + 1) = ks[j]) := Lib.hid (by simp [prev, List.getD, List.getElem?_eq_getElem hlt])
      generalize hkj : ks[j] = k at *
      clear hkj
      generalize hpr : prev ks j = last at *
      clear hpr
      by_cases hz : chk1 last k = 0
      · have HZ := Lib.hid hz
        clear hz
        go_wp2_with fail
        refine (unhide HO).mono ?_
        rintro e w1 ⟨rfl, hb1⟩
        rw [HZ.out]
        go_wp2_with fail
        go_roundw
        case rel => exact ⟨j + 1, by omega, by go_num, by rw [HP.out, HR.out, HL.out, chkL, if_pos HZ.out], HBk.out.below hb1 hsz, ext_below hB hb1⟩
        case measure => simp [intOf]; omega
      · have HZ := Lib.hid hz
        have hz' : (chk1 last k != 0) = true := by simp [hz]
        clear hz
        go_wp2_with fail
        refine (unhide HO).mono ?_
        rintro e w1 ⟨rfl, hb1⟩
        go_wp2_with fail
        go_ret
        exact ⟨ret_int (by rw [HC.out, HR.out, HL.out, chkL, if_neg HZ.out]), ext_below hB hb1⟩
    · go_wp2
      go_ret
      exact ⟨ret_int (by rw [HC.out, HR.out, List.drop_of_length_le (by omega)]; rfl), hB⟩

/- a ring as a result: a struct that lies in a cell of its own -/
set_option maxHeartbeats 1000000 in
theorem copy_any (school : Int) (A : Option Addr) (n c : Nat) (cs : List Value) (w : World) (h : Slc w w.heap.size A n c 4 cs) (h1 : ∀ u ∈ cs, u.oneCell' = true) (hn : n ≤ 100000) :
    Calls Tryd.prog 33 #[.agg #[.int .i64 school, .slice A n c]] w fun e w' => ∃ A' c', e = .returned (.agg #[.int .i64 school, .slice A' n c']) ∧
      w'.ownsRow w.heap.size 28 4 (.slice A' n c') n cs ∧ Below w.heap.size w w' := by
  obtain ⟨i0, hi, hz0, hz1, hz2⟩ := info_parts Tryd.infoKey
  have HS := Lib.hid h
  have H1 := Lib.hid h1
  clear h h1
  go_enter Tryd.func33, Tryd.ntmps33
  go_wp2_with fail
  go_region_law (go_loud (refine step_append_at _ rfl _ _ 32 rfl (w.heap.size + 1 + 1) 28 i0 _ 4 40 Tryd.underlying32 hi hz0 hz1 hz2 rfl (by decide) (w.heap.size + 1 + 1) 0 0 [] rfl (own_empty (Blk.drew (Blk.new' (by simp))) (by omega)) _ _ _ _ cs rfl (HS.out.below (by go_grown) (Nat.le_refl _)) H1.out (by unfold maxLen; omega) (by omega) (by go_size) ?_); intro A' c' w1 hown hgrow; obtain ⟨hc, hf⟩ := gcell hgrow; have c0 := hc w.heap.size 0 (by go_size) (by omega); have c1 := hc w.heap.size 1 (by go_size) (by omega); have c2 := hc (w.heap.size + 1) 0 (by go_size) (by omega); have c3 := hc (w.heap.size + 1) 1 (by go_size) (by omega); have f2 := hf (w.heap.size + 1) 0 (by go_size) (by omega); have f3 := hf (w.heap.size + 1) 1 (by go_size) (by omega); clear hc hf)
  all_goals
    go_wp2
    simp only [Nat.zero_add, List.nil_append] at hown
    have HB := below_grown (B := w.heap.size) (w0 := w) (by go_grown) hgrow (by omega) (Nat.le_refl _)
    refine bodyPost_ret (v := .agg #[.int .i64 school, .slice A' n c']) ?_ rfl ⟨A', c', rfl, own_base (ownsRow_setCell_below (ownsRow_setCell_below hown (by simp) _) (by simp) _) (by omega), ?_⟩
    · simp [results, Tryd.results33, go_sem, c2, c3]
    · go_grown

end Go.Proofs.YtikinldimecgaaaDoor
