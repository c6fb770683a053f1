/- The walk of Steal of the package key. -/
import Derived.Test.YtikinldimecgaaaDoorKeyH
namespace Go.Proofs.YtikinldimecgaaaDoor
open Go.RowKit

def newSt (st day : Int) : Int := if st = 0 ∨ day < st then day else st
def stKey (k : Ky) (day : Int) : Ky := { k with st := newSt k.st day }
def dayBad (k : Ky) (day : Int) : Bool := decide (day < 1) || (!rightB day || decide (day < k.fr))
/- what Steal gives: the error, and the ring's keys -/
def stealE (school : Int) (ks : List Ky) (id day : Int) : Int :=
  if chkR school ks ≠ 0 then chkR school ks else if idxFrom id ks 0 = -1 then 5 else if dayBad (ks.getD (idxFrom id ks 0).toNat Ky.zero) day then 23 else 0
def stealS (school : Int) (ks : List Ky) (id day : Int) : Int := if stealE school ks id day = 0 then school else 0
def stealK (school : Int) (ks : List Ky) (id day : Int) : List Ky :=
  if stealE school ks id day = 0 then ks.set (idxFrom id ks 0).toNat (stKey (ks.getD (idxFrom id ks 0).toNat Ky.zero) day) else []

theorem steal_bad {school : Int} {ks : List Ky} {id day e : Int} (h : stealE school ks id day = e) (h2 : e ≠ 0) : stealS school ks id day = 0 ∧ stealK school ks id day = [] := by
  unfold stealS stealK; rw [h, if_neg h2, if_neg h2]; exact ⟨rfl, rfl⟩
theorem stealE_chk {school : Int} {ks : List Ky} {id day : Int} (h : chkR school ks ≠ 0) : stealE school ks id day = chkR school ks := by unfold stealE; rw [if_pos h]
theorem stealE_none {school : Int} {ks : List Ky} {id day : Int} (h : chkR school ks = 0) (h2 : idxFrom id ks 0 = -1) : stealE school ks id day = 5 := by unfold stealE; rw [if_neg (by simp [h]), if_pos h2]
theorem stealE_day {school : Int} {ks : List Ky} {id day : Int} {i : Nat} {k : Ky} (h : chkR school ks = 0) (h2 : idxFrom id ks 0 = (i : Int)) (hk : ks[i]? = some k) (hd : dayBad k day = true) : stealE school ks id day = 23 := by
  unfold stealE; rw [if_neg (by simp [h]), if_neg (by omega), h2]; simp [hk, hd]
theorem stealE_ok {school : Int} {ks : List Ky} {id day : Int} {i : Nat} {k : Ky} (h : chkR school ks = 0) (h2 : idxFrom id ks 0 = (i : Int)) (hk : ks[i]? = some k) (hd : dayBad k day = false) : stealE school ks id day = 0 ∧ stealS school ks id day = school ∧ stealK school ks id day = ks.set i (stKey k day) := by
  have e : stealE school ks id day = 0 := by unfold stealE; rw [if_neg (by simp [h]), if_neg (by omega), h2]; simp [hk, hd]
  refine ⟨e, ?_, ?_⟩
  · unfold stealS; rw [if_pos e]
  · unfold stealK; rw [if_pos e, h2]; simp [hk]

theorem own_form_pos {w : World} {base : Nat} {e : TypeId} {size : Nat} {A : Option Addr} {n c : Nat} {cs : List Value} (h : w.ownsRow base e size (.slice A n c) n cs) (hn : 0 < n) : ∃ g, A = some ⟨g, 0, none⟩ ∧ base ≤ g := by
  rcases h.2 with ⟨hv, h0⟩ | ⟨g, cap, cur, hv, hg, _⟩
  · omega
  · injection hv with h1 h2 h3; exact ⟨g, h1, hg⟩
theorem own_blk_lt {w : World} {base g n c size : Nat} {e : TypeId} {cs : List Value} (h : w.ownsRow base e size (.slice (some ⟨g, 0, none⟩) n c) n cs) : g < w.heap.size := by
  rcases h.2 with ⟨hv, _⟩ | ⟨g', cap, cur, hv, _, hh, _⟩
  · cases hv
  · injection hv with h1; injection h1 with h1; injection h1 with h1; subst h1; exact Blk.lt (t := e) hh
theorem own_key {w : World} {base g n c i : Nat} {ks : List Ky} {k : Ky} (h : w.ownsRow base 28 4 (.slice (some ⟨g, 0, none⟩) n c) n (kcells ks)) (hk : ks[i]? = some k) :
    w.cell? ⟨g, i * 4 + 2, none⟩ = some (.int .i64 k.fr) ∧ w.cell? ⟨g, i * 4 + 3, none⟩ = some (.int .i64 k.st) ∧ ∀ o, w.frozen? ⟨g, o, none⟩ = false := by
  have hi := (List.getElem?_eq_some_iff.1 hk).1
  have hl := h.1
  rw [kcells_len] at hl
  refine ⟨?_, ?_, fun o => h.frozenAt o⟩
  · rw [h.cellAt _ (by omega)]; exact kcells_at ks i k hk 2 (by omega)
  · rw [h.cellAt _ (by omega)]; exact kcells_at ks i k hk 3 (by omega)
theorem own_set_cell {w : World} {base g n c size : Nat} {e : TypeId} {cs : List Value} (h : w.ownsRow base e size (.slice (some ⟨g, 0, none⟩) n c) n cs) {j : Nat} (hj : j < n * size) (u : Value) :
    (w.setCell ⟨g, j, none⟩ u).cell? ⟨g, j, none⟩ = some u ∧ ∀ o, (w.setCell ⟨g, j, none⟩ u).frozen? ⟨g, o, none⟩ = false := by
  have hl := h.1
  refine ⟨?_, fun o => (h.stored j u).1.frozenAt o⟩
  rw [(h.stored j u).1.cellAt _ hj]
  simp [hl, hj]
theorem kcells_set (ks : List Ky) (i : Nat) (k : Ky) (s : Int) (hk : ks[i]? = some k) : kcells (ks.set i { k with st := s }) = (kcells ks).set (i * 4 + 3) (.int .i64 s) := by
  induction ks generalizing i with
  | nil => simp at hk
  | cons x ks ih =>
    rcases i with _ | i
    · simp only [List.getElem?_cons_zero, Option.some.injEq] at hk
      subst hk
      simp [kcells, Ky.cells]
    · simp only [List.getElem?_cons_succ] at hk
      have := ih i hk
      simp only [kcells, List.set_cons_succ, List.flatMap_cons] at this ⊢
      rw [this, List.set_append, if_neg (by simp [Ky.cells]; omega)]
      congr 2
      simp [Ky.cells]
      omega

set_option maxRecDepth 20000 in
set_option maxHeartbeats 4000000 in
theorem steal_any (A : Option Addr) (c : Nat) (school : Int) (ks : List Ky) (id day : Int) (w : World) (hk : KSl w A c ks) (hn : ks.length ≤ 1000) :
    Calls Tryd.prog 15 #[.agg #[.int .i64 school, .slice A ks.length c], .int .i64 id, .int .i64 day] w fun e w' => ∃ A' c',
      e = .returned (.tuple #[.agg #[.int .i64 (stealS school ks id day), .slice A' (stealK school ks id day).length c'], .int .i64 (stealE school ks id day)]) ∧ KSl w' A' c' (stealK school ks id day) ∧ Below w.heap.size w w' := by
  have HK := Lib.hid hk
  clear hk
  go_enter Tryd.func15, Tryd.ntmps15
  go_wp2_with fail
  refine (of_any school A ks.length c (kcells ks) _ (HK.out.below (by go_grown) (Nat.le_refl _) |>.more (by go_size)) (kcells_one ks) (by omega)).mono ?_
  rintro e w1 ⟨g, A1, c1, rfl, hg, hgle, hown, hb1⟩
  have HB1 := ext_below (w0 := w) (by go_grown) hb1
  have hrb : Blk w1 (w.heap.size + 1) 34 #[.int .i64 0, .slice none 0 0] := (Blk.new' (by simp)).below hb1 (by simp)
  simp only [World.size_alloc] at hown hgle
  have HB1' : w.heap.size + 1 + 1 ≤ w1.heap.size := by have := hb1.size; simpa using this
  obtain ⟨q0, q1, q2, q3⟩ := hg.f2
  have HK1 := hide (p := KSl w1 A1 c1 ks) (Slc.of_own hown)
  have HO := hide hown
  have HG := hide hg
  have HRB := hide hrb
  clear hown hg hrb hb1
  go_wp2_with fail
  refine (check_any g 0 c1 A1 school ks _ q0 q1 (unhide HK1) q3 (by omega)).mono ?_
  rintro e w2 ⟨rfl, hb2⟩
  have HB2 := ext_below HB1 hb2
  clear q0 q1 q2 q3
  obtain ⟨q0, q1, q2, q3⟩ := ((unhide HG).below hb2 (unhide HG).lt).f2
  obtain ⟨r0, r1, r2, r3⟩ := ((unhide HRB).below hb2 (unhide HRB).lt).f2
  have HO2 := hide (own_ext (unhide HO) hb2)
  have HG2 := hide ((unhide HG).below hb2 (unhide HG).lt)
  have HRB2 := hide ((unhide HRB).below hb2 (unhide HRB).lt)
  have HK2 := hide (p := KSl w2 A1 c1 ks) (Slc.of_own (unhide HO2))
  have HB2' := Nat.le_trans HB1' hb2.size
  clear hb2 HK1 HO HG HRB
  by_cases he : chkR school ks = 0
  · have HE := Lib.hid he
    rw [he]
    clear he
    rcases idxFrom_lt id ks 0 with hi | ⟨i, k, hi, hki, hid⟩
    · have H1 := Lib.hid (stealE_none (day := day) HE.out hi)
      obtain ⟨h2, h3⟩ := steal_bad H1.out (by decide)
      have H2 := Lib.hid h2
      have H3 := Lib.hid h3
      have HI := Lib.hid hi
      clear h2 h3 hi
      go_wp2_with fail
      refine (find_none g 0 c1 A1 ks id _ q1 (unhide HK2) q3 (by omega) HI.out).mono ?_
      rintro e w3 ⟨rfl, hb3⟩
      have HB3 := ext_below HB2 hb3
      obtain ⟨r0, r1, r2, r3⟩ := ((unhide HRB2).below hb3 (unhide HRB2).lt).f2
      clear hb3
      go_wp2_with fail
      rw [H1.out, H2.out, H3.out]
      refine bodyPost_ret (v := .tuple #[.agg #[.int .i64 0, .slice none 0 0], .int .i64 5]) ?_ rfl ⟨none, 0, rfl, KSl.nil _, ?_⟩
      · simp [results, Tryd.results15, go_sem, r0, r1]
      · go_grown
    · have hil : i < ks.length := (List.getElem?_eq_some_iff.1 hki).1
      obtain ⟨go, rfl, hgo⟩ := own_form_pos (unhide HO2) (by omega)
      rw [Nat.zero_add] at hi
      have HI := Lib.hid hi
      have HKI := Lib.hid hki
      clear hi hki
      go_wp2_with fail
      refine (find_some g 0 c1 go 0 i ks id _ q1 (unhide HK2) q3 (by omega) HI.out hil).mono ?_
      rintro e w3 ⟨rfl, hb3⟩
      rw [Nat.zero_add]
      have HB3 := ext_below HB2 hb3
      obtain ⟨r0, r1, r2, r3⟩ := ((unhide HRB2).below hb3 (unhide HRB2).lt).f2
      obtain ⟨q0, q1, q2, q3⟩ := ((unhide HG2).below hb3 (unhide HG2).lt).f2
      have HO3 := hide (own_ext (unhide HO2) hb3)
      have HG3 := hide ((unhide HG2).below hb3 (unhide HG2).lt)
      have HRB3 := hide ((unhide HRB2).below hb3 (unhide HRB2).lt)
      have HB3' := Nat.le_trans HB2' hb3.size
      obtain ⟨s2, s3, s4⟩ := own_key (unhide HO3) HKI.out
      clear hb3 HO2 HG2 HRB2 HK2
      by_cases hd : dayBad k day = true
      · have H1 := Lib.hid (stealE_day HE.out HI.out HKI.out hd)
        obtain ⟨h2, h3⟩ := steal_bad H1.out (by decide)
        have H2 := Lib.hid h2
        have H3 := Lib.hid h3
        clear h2 h3
        unfold dayBad at hd
        rcases hr : rightB day with _ | _
        all_goals
          by_cases d1 : day < 1
          all_goals
            by_cases d2 : day < k.fr
            all_goals
              first
              | (exfalso; simp [hr, d1, d2] at hd; done)
              | (clear hd
                 go_wp2_with (go_at_call 35; refine (right_any _ _).mono ?_; rintro e w' ⟨rfl, rfl⟩)
                 rw [H1.out, H2.out, H3.out]
                 refine bodyPost_ret (v := .tuple #[.agg #[.int .i64 0, .slice none 0 0], .int .i64 23]) ?_ rfl ⟨none, 0, rfl, KSl.nil _, ?_⟩
                 · simp [results, Tryd.results15, go_sem, r0, r1]
                 · go_grown)
      · have hd' : dayBad k day = false := by simpa using hd
        obtain ⟨h1, h2, h3⟩ := stealE_ok HE.out HI.out HKI.out hd'
        have H1 := Lib.hid h1
        have H2 := Lib.hid h2
        have H3 := Lib.hid h3
        clear h1 h2 h3 hd
        have hr : rightB day = true := by
          rcases hr : rightB day with _ | _
          · simp [dayBad, hr] at hd'
          · rfl
        have d1 : ¬ day < 1 := by intro h; simp [dayBad, h] at hd'
        have d2 : ¬ day < k.fr := by intro h; simp [dayBad, h] at hd'
        clear hd'
        by_cases hs : k.st = 0
        · have hs' : (k.st == 0) = true := by simp [hs]
          have HS := Lib.hid hs
          clear hs
          have t1 := own_set_cell (unhide HO3) (j := i * 4 + 3) (by omega) (.int .i64 day)
          obtain ⟨t1, t2⟩ := t1
          go_wp2_with (go_at_call 35; refine (right_any _ _).mono ?_; rintro e w' ⟨rfl, rfl⟩)
          rw [H1.out, H2.out, H3.out]
          refine bodyPost_ret (v := .tuple #[.agg #[.int .i64 school, .slice (some ⟨go, 0, none⟩) ks.length c1], .int .i64 0]) ?_ rfl ⟨some ⟨go, 0, none⟩, c1, by rw [List.length_set], ?_, ?_⟩
          · simp [results, Tryd.results15, go_sem, r0, r1]
          · have h := Slc.of_own (ownsRow_setCell_below (a := ⟨w.heap.size + 1, 1, none⟩) (ownsRow_setCell_below (a := ⟨w.heap.size + 1, 0, none⟩) (((unhide HO3).stored (i * 4 + 3) (.int .i64 day)).1.stored (i * 4 + 3) (.int .i64 day)).1 (by simp) (.int .i64 school)) (by simp) (.slice (some ⟨go, 0, none⟩) ks.length c1))
            unfold KSl
            unfold stKey newSt
            rw [if_pos (.inl HS.out), kcells_set ks i k day HKI.out, List.length_set]
            rw [List.set_set] at h
            exact h
          · go_grown
        · have hs' : (k.st == 0) = false := by simp [hs]
          have HS := Lib.hid hs
          clear hs
          obtain ⟨t1, t2⟩ := own_set_cell (unhide HO3) (j := i * 4 + 3) (by omega) (.int .i64 (min k.st day))
          go_wp2_with (go_at_call 35; refine (right_any _ _).mono ?_; rintro e w' ⟨rfl, rfl⟩)
          rw [H1.out, H2.out, H3.out]
          refine bodyPost_ret (v := .tuple #[.agg #[.int .i64 school, .slice (some ⟨go, 0, none⟩) ks.length c1], .int .i64 0]) ?_ rfl ⟨some ⟨go, 0, none⟩, c1, by rw [List.length_set], ?_, ?_⟩
          · simp [results, Tryd.results15, go_sem, r0, r1]
          · have h := Slc.of_own (ownsRow_setCell_below (a := ⟨w.heap.size + 1, 1, none⟩) (ownsRow_setCell_below (a := ⟨w.heap.size + 1, 0, none⟩) ((unhide HO3).stored (i * 4 + 3) (.int .i64 (min k.st day))).1 (by simp) (.int .i64 school)) (by simp) (.slice (some ⟨go, 0, none⟩) ks.length c1))
            have hm : newSt k.st day = min k.st day := by
              have := HS.out
              unfold newSt
              by_cases hd : day < k.st
              · rw [if_pos (.inr hd)]; omega
              · rw [if_neg (by omega)]; omega
            unfold KSl
            unfold stKey
            rw [hm, kcells_set ks i k _ HKI.out, List.length_set]
            exact h
          · go_grown
  · have he' : (chkR school ks != 0) = true := by simp [he]
    have H1 := Lib.hid (stealE_chk (id := id) (day := day) he)
    obtain ⟨h2, h3⟩ := steal_bad H1.out he
    have H2 := Lib.hid h2
    have H3 := Lib.hid h3
    clear he h2 h3
    go_wp2_with fail
    rw [H1.out, H2.out, H3.out]
    refine bodyPost_ret (v := .tuple #[.agg #[.int .i64 0, .slice none 0 0], .int .i64 (chkR school ks)]) ?_ rfl ⟨none, 0, rfl, KSl.nil _, ?_⟩
    · simp [results, Tryd.results15, go_sem, r0, r1]
    · go_grown

end Go.Proofs.YtikinldimecgaaaDoor
