/- The walk of Steal of the reference. -/
import Derived.Test.YtikinldimecgaaaDoorKeyI
namespace Go.Proofs.YtikinldimecgaaaDoor
open Go.RowKit

theorem ksl_of {w : World} {base n c : Nat} {A : Option Addr} {ks : List Ky} (h : w.ownsRow base 28 4 (.slice A n c) n (kcells ks)) (hl : ks.length = n) : KSl w A c ks := by
  subst hl; exact Slc.of_own h
theorem ks_set_same (ks : List Ky) (i : Nat) (k : Ky) (hk : ks[i]? = some k) : ks.set i { k with st := k.st } = ks := by
  obtain ⟨h1, h2⟩ := List.getElem?_eq_some_iff.1 hk
  subst h2
  exact List.set_getElem_self h1

set_option maxRecDepth 20000 in
set_option maxHeartbeats 1600000 in
theorem rsteal_any (A : Option Addr) (c : Nat) (school : Int) (ks : List Ky) (id day : Int) (w : World) (hk : KSl w A c ks) (hn : ks.length ≤ 1000) :
    Calls Tryd.prog 16 #[.agg #[.int .i64 school, .slice A ks.length c], .int .i64 id, .int .i64 day] w fun e w' => ∃ A' c',
      e = .returned (.tuple #[.agg #[.int .i64 (stealS school ks id day), .slice A' (stealK school ks id day).length c'], .int .i64 (stealE school ks id day)]) ∧ KSl w' A' c' (stealK school ks id day) ∧ Below w.heap.size w w' := by
  have HK := Lib.hid hk
  clear hk
  go_enter Tryd.func16, Tryd.ntmps16
  go_wp2_with fail
  refine (rcheck_any A c school ks _ (HK.out.below (by go_grown) (Nat.le_refl _) |>.more (by go_size)) (by omega)).mono ?_
  rintro e w1 ⟨rfl, hb1⟩
  have HB1 := ext_below (w0 := w) (by go_grown) hb1
  have hab : Blk w1 w.heap.size 34 #[.int .i64 school, .slice A ks.length c] := ((Blk.new w _ _).alloc _).below hb1 (by simp; omega)
  have hrb : Blk w1 (w.heap.size + 1) 34 #[.int .i64 0, .slice none 0 0] := (Blk.new' (by simp)).below hb1 (by simp)
  have HB1' : w.heap.size + 1 + 1 ≤ w1.heap.size := by have := hb1.size; simpa using this
  obtain ⟨a0, a1, a2, a3⟩ := hab.f2
  obtain ⟨r0, r1, r2, r3⟩ := hrb.f2
  have HAB := hide hab
  have HRB := hide hrb
  clear hrb hab hb1
  by_cases he : chkR school ks = 0
  · have HE := Lib.hid he
    rw [he]
    clear he
    go_wp2_with fail
    refine (rfind_any A c school ks id _ (HK.out.below HB1 (Nat.le_refl _) |>.more HB1.size) (by omega)).mono ?_
    rintro e w3 ⟨rfl, hb3⟩
    have HB3 := ext_below HB1 hb3
    obtain ⟨a0, a1, a2, a3⟩ := ((unhide HAB).below hb3 (unhide HAB).lt).f2
    obtain ⟨r0, r1, r2, r3⟩ := ((unhide HRB).below hb3 (unhide HRB).lt).f2
    have HRB3 := hide ((unhide HRB).below hb3 (unhide HRB).lt)
    have HB3' := Nat.le_trans HB1' hb3.size
    clear hb3 HAB HRB
    rcases idxFrom_lt id ks 0 with hi | ⟨i, k, hi, hki, hid⟩
    · have H1 := Lib.hid (stealE_none (day := day) HE.out hi)
      obtain ⟨h2, h3⟩ := steal_bad H1.out (by decide)
      have H2 := Lib.hid h2
      have H3 := Lib.hid h3
      rw [hi]
      clear h2 h3 hi
      go_wp2_with fail
      rw [H1.out, H2.out, H3.out]
      refine bodyPost_ret (v := .tuple #[.agg #[.int .i64 0, .slice none 0 0], .int .i64 5]) ?_ rfl ⟨none, 0, rfl, KSl.nil _, ?_⟩
      · simp [results, Tryd.results16, go_sem, r0, r1]
      · go_grown
    · have hil : i < ks.length := (List.getElem?_eq_some_iff.1 hki).1
      rw [Nat.zero_add] at hi
      have HKI := Lib.hid hki
      have hk3 := (HK.out.below HB3 (Nat.le_refl _) |>.more HB3.size)
      obtain ⟨b, off, rfl, hb, k0, k1, k2, k3⟩ := KSl.at_ hk3 hil
      have hke : ks[i] = k := by rw [List.getElem?_eq_getElem hil] at hki; injection hki
      rw [hke] at k0 k1 k2 k3
      have HI := Lib.hid hi
      rw [hi]
      clear hki hke hk3 hi
      by_cases hd : dayBad k day = true
      · have H1 := Lib.hid (stealE_day HE.out HI.out HKI.out hd)
        obtain ⟨h2, h3⟩ := steal_bad H1.out (by decide)
        have H2 := Lib.hid h2
        have H3 := Lib.hid h3
        clear h2 h3
        unfold dayBad at hd
        rcases hr : rightB day with _ | _
        all_goals
          by_cases d1 : day < 1
          all_goals
            by_cases d2 : day < k.fr
            all_goals
              first
              | (exfalso; simp [hr, d1, d2] at hd; done)
              | (clear hd
                 go_wp2_with (go_at_call 37; refine (right3_any _ _).mono ?_; rintro e w' ⟨rfl, rfl⟩)
                 rw [H1.out, H2.out, H3.out]
                 refine bodyPost_ret (v := .tuple #[.agg #[.int .i64 0, .slice none 0 0], .int .i64 23]) ?_ rfl ⟨none, 0, rfl, KSl.nil _, ?_⟩
                 · simp [results, Tryd.results16, go_sem, r0, r1]
                 · go_grown)
      · have hd' : dayBad k day = false := by simpa using hd
        obtain ⟨h1, h2, h3⟩ := stealE_ok HE.out HI.out HKI.out hd'
        have H1 := Lib.hid h1
        have H2 := Lib.hid h2
        have H3 := Lib.hid h3
        clear h1 h2 h3 hd
        have hr : rightB day = true := by
          rcases hr : rightB day with _ | _
          · simp [dayBad, hr] at hd'
          · rfl
        have d1 : ¬ day < 1 := by intro h; simp [dayBad, h] at hd'
        have d2 : ¬ day < k.fr := by intro h; simp [dayBad, h] at hd'
        clear hd'
        go_wp2_with (go_at_call 37; refine (right3_any _ _).mono ?_; rintro e w' ⟨rfl, rfl⟩)
        refine (copy_any school _ ks.length c (kcells ks) _ (HK.out.below HB3 (Nat.le_refl _) |>.more HB3.size) (kcells_one ks) (by omega)).mono ?_
        rintro e w4 ⟨A1, c1, rfl, hown, hb4⟩
        have HB4 := ext_below HB3 hb4
        have HRB4 := hide ((unhide HRB3).below hb4 (unhide HRB3).lt)
        have HB4' := Nat.le_trans HB3' hb4.size
        have hown' := own_base hown HB3'
        obtain ⟨go, rfl, hgo⟩ := own_form_pos hown' (by omega)
        have HO4 := hide hown'
        clear hb4 hown hown' k0 k1 k2 k3 a0 a1 a2 a3 r0 r1 r2 r3 HRB3
        obtain ⟨r0, r1, r2, r3⟩ := ((unhide HRB4).alloc (.cells #[.int .i64 school, .slice (some ⟨go, 0, none⟩) ks.length c1] 34)).f2
        obtain ⟨s2, s3, s4⟩ := own_key ((unhide HO4).alloc (.cells #[.int .i64 school, .slice (some ⟨go, 0, none⟩) ks.length c1] 34)) HKI.out
        have hne : w4.heap.size ≠ go := by
          have := own_blk_lt (unhide HO4)
          omega
        by_cases hs : k.st = 0 ∨ day < k.st
        · have hnew : newSt k.st day = day := by unfold newSt; rw [if_pos hs]
          have HS := Lib.hid hnew
          clear hnew
          rcases hs with hs | hs
          all_goals
            by_cases hz : k.st = 0
            all_goals
              first
              | (have hs'' : (k.st == 0) = true := by simp [hz]
                 clear hz)
              | (have hs'' : (k.st == 0) = false := by simp [hz]
                 clear hz)
            all_goals
              go_wp2_with fail
              rw [H1.out, H2.out, H3.out]
              refine bodyPost_ret (v := .tuple #[.agg #[.int .i64 school, .slice (some ⟨go, 0, none⟩) ks.length c1], .int .i64 0]) ?_ rfl ⟨some ⟨go, 0, none⟩, c1, by rw [List.length_set], ?_, ?_⟩
              · simp [results, Tryd.results16, go_sem, r0, r1]
              · refine ksl_of (n := ks.length) (base := w.heap.size + 1 + 1) ?_ (by rw [List.length_set])
                unfold stKey
                rw [HS.out, kcells_set ks i k day HKI.out]
                repeat (first | (with_reducible exact ((unhide HO4).stored (i * 4 + 3) (.int .i64 day)).1) | (with_reducible exact (((unhide HO4).alloc _).stored (i * 4 + 3) (.int .i64 day)).1) | (with_reducible refine World.ownsRow.alloc ?_ _) | (with_reducible refine ownsRow_setCell_below ?_ (Nat.lt_succ_self (w.heap.size + 1)) _))
              · go_grown
        · have hnew : newSt k.st day = k.st := by unfold newSt; rw [if_neg hs]
          have HS := Lib.hid hnew
          have hs2 : (k.st == 0) = false := by simp; exact fun h => hs (.inl h)
          have hs3 : ¬ day < k.st := fun h => hs (.inr h)
          clear hs hnew
          go_wp2_with fail
          rw [H1.out, H2.out, H3.out]
          refine bodyPost_ret (v := .tuple #[.agg #[.int .i64 school, .slice (some ⟨go, 0, none⟩) ks.length c1], .int .i64 0]) ?_ rfl ⟨some ⟨go, 0, none⟩, c1, by rw [List.length_set], ?_, ?_⟩
          · simp [results, Tryd.results16, go_sem, r0, r1]
          · refine ksl_of (n := ks.length) (base := w.heap.size + 1 + 1) ?_ (by rw [List.length_set])
            unfold stKey
            rw [HS.out, ks_set_same ks i k HKI.out]
            repeat (first | (with_reducible exact unhide HO4) | (with_reducible refine World.ownsRow.alloc ?_ _) | (with_reducible refine ownsRow_setCell_below ?_ (Nat.lt_succ_self (w.heap.size + 1)) _))
          · go_grown
  · have he' : (chkR school ks != 0) = true := by simp [he]
    have H1 := Lib.hid (stealE_chk (id := id) (day := day) he)
    obtain ⟨h2, h3⟩ := steal_bad H1.out he
    have H2 := Lib.hid h2
    have H3 := Lib.hid h3
    clear he h2 h3
    go_wp2_with fail
    rw [H1.out, H2.out, H3.out]
    refine bodyPost_ret (v := .tuple #[.agg #[.int .i64 0, .slice none 0 0], .int .i64 (chkR school ks)]) ?_ rfl ⟨none, 0, rfl, KSl.nil _, ?_⟩
    · simp [results, Tryd.results16, go_sem, r0, r1]
    · go_grown

end Go.Proofs.YtikinldimecgaaaDoor
