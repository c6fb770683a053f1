/- The walk of the maker of odd rings. -/
import Derived.Test.YtikinldimecgaaaDoorKeyN2
import Derived.Deep.DeepCutAuto
import Derived.Deep.LoopGhost
namespace Go.Proofs.YtikinldimecgaaaDoor
open Go.RowKit

theorem kok_set {ks : List Ky} {i : Nat} {k' : Ky} (h : ∀ k ∈ ks, KOk k) (h' : KOk k') : ∀ k ∈ ks.set i k', KOk k := fun k hk => (List.mem_or_eq_of_mem_set hk).elim (h k) (fun e => e ▸ h')
theorem own_key4 {w : World} {base g n c i : Nat} {ks : List Ky} {k : Ky} (h : w.ownsRow base 28 4 (.slice (some ⟨g, 0, none⟩) n c) n (kcells ks)) (hk : ks[i]? = some k) :
    w.cell? ⟨g, i * 4, none⟩ = some (.int .i64 k.id) ∧ w.cell? ⟨g, i * 4 + 1, none⟩ = some (.string k.sec) ∧ w.cell? ⟨g, i * 4 + 2, none⟩ = some (.int .i64 k.fr) ∧ w.cell? ⟨g, i * 4 + 3, none⟩ = some (.int .i64 k.st) ∧ (∀ o, w.frozen? ⟨g, o, none⟩ = false) := by
  have hi := (List.getElem?_eq_some_iff.1 hk).1
  have hl := h.1
  rw [kcells_len] at hl
  refine ⟨?_, ?_, ?_, ?_, fun o => h.frozenAt o⟩
  · rw [h.cellAt _ (by omega)]; exact kcells_at ks i k hk 0 (by omega)
  · rw [h.cellAt _ (by omega)]; exact kcells_at ks i k hk 1 (by omega)
  · rw [h.cellAt _ (by omega)]; exact kcells_at ks i k hk 2 (by omega)
  · rw [h.cellAt _ (by omega)]; exact kcells_at ks i k hk 3 (by omega)
theorem own_put {w : World} {base g n c i j : Nat} {ks : List Ky} {k : Ky} (h : w.ownsRow base 28 4 (.slice (some ⟨g, 0, none⟩) n c) n (kcells ks)) (hk : ks[i]? = some k) (hj : j < 4) (k' : Ky) (v : Value) (he : k'.cells = k.cells.set j v) :
    (w.setCell ⟨g, i * 4 + j, none⟩ v).ownsRow base 28 4 (.slice (some ⟨g, 0, none⟩) n c) n (kcells (ks.set i k')) := by
  rw [kcells_put ks i k k' j v hj hk he]
  exact (h.stored (i * 4 + j) v).1

theorem own_put0 {w : World} {base g n c i : Nat} {ks : List Ky} {k : Ky} (h : w.ownsRow base 28 4 (.slice (some ⟨g, 0, none⟩) n c) n (kcells ks)) (hk : ks[i]? = some k) (k' : Ky) (v : Value) (he : k'.cells = k.cells.set 0 v) :
    (w.setCell ⟨g, i * 4, none⟩ v).ownsRow base 28 4 (.slice (some ⟨g, 0, none⟩) n c) n (kcells (ks.set i k')) := own_put h hk (j := 0) (by decide) k' v he

theorem kok_new (j : Nat) (h : j ≤ 21) : KOk ⟨100 + (j : Int), ⟨#[120]⟩, 1000, 0⟩ := ⟨show ByteArray.size ⟨#[120]⟩ ≤ 100000 from by decide, ⟨show (-9223372036854775808 : Int) ≤ 100 + (j : Int) from by omega, show 100 + (j : Int) ≤ 9223372036854775807 from by omega⟩,
  ⟨show (-9223372036854775808 : Int) ≤ 1000 from by decide, show (1000 : Int) ≤ 9223372036854775807 from by decide⟩, ⟨show (-9223372036854775808 : Int) ≤ 0 from by decide, show (0 : Int) ≤ 9223372036854775807 from by decide⟩⟩

set_option maxRecDepth 20000 in
set_option maxHeartbeats 8000000 in
theorem odd_any (school : Int) (A : Option Addr) (c : Nat) (ks : List Ky) (q0 q1 q2 : Int) (w : World) (hk : KSl w A c ks) (hn : ks.length ≤ 1000) (hks : ∀ k ∈ ks, KOk k) (hs : Rng school) (h0 : Rng q0) (h1 : Rng q1) (h2 : Rng q2) :
    Calls Tryd.prog 29 #[.agg #[.int .i64 school, .slice A ks.length c], .agg #[.int .i64 q0, .int .i64 q1, .int .i64 q2]] w fun e w' => ∃ s' ks' A' c',
      e = .returned (.agg #[.int .i64 s', .slice A' (List.length ks') c']) ∧ KSl w' A' c' ks' ∧ Rng s' ∧ (∀ k ∈ ks', KOk k) ∧ ks'.length ≤ ks.length + 21 ∧ Below w.heap.size w w' := by
  obtain ⟨i0, hi, hz0, hz1, hz2⟩ := info_parts Tryd.infoKey
  have HK := Lib.hid hk
  have HKS := hide hks
  have HS := hide hs
  clear hk hks hs
  obtain ⟨a1, a2, n0, e1, e2, e3, e4, e5, e6, e7⟩ := absM_max q0 h0
  obtain ⟨b1, b2, n1, f1, f2, f3, f4, f5, f6, f7⟩ := absM_max q1 h1
  obtain ⟨c1, c2, n2, g1, g2, g3, g4, g5, g6, g7⟩ := absM_max q2 h2
  go_enter Tryd.func29, Tryd.ntmps29
  go_wp2_with fail
  refine (copy_any school A ks.length c (kcells ks) _ (HK.out.below (by go_grown) (Nat.le_refl _) |>.more (by go_size)) (kcells_one ks) (by omega)).mono ?_
  rintro e w1 ⟨A1, d1, rfl, hown, hb1⟩
  have HB1 := ext_below (w0 := w) (by go_grown) hb1
  have hqb : Blk w1 (w.heap.size + 1) 23 #[.int .i64 q0, .int .i64 q1, .int .i64 q2] := ((Blk.new' (by simp)).alloc _).below hb1 (by simp)
  have hrb : Blk w1 (w.heap.size + 1 + 1) 34 #[.int .i64 0, .slice none 0 0] := (Blk.new' (by simp)).below hb1 (by simp)
  simp only [World.size_alloc] at hown
  have HO := hide hown
  have HQB := hide hqb
  have HRB := hide hrb
  have HB1' : w.heap.size + 1 + 1 + 1 ≤ w1.heap.size := by have := hb1.size; simpa using this
  clear hown hb1 hqb hrb
  by_cases hl : ks.length = 0
  · obtain rfl := List.eq_nil_of_length_eq_zero hl
    simp only [List.length_nil] at HK HO hn ⊢
    clear hl
    obtain ⟨s0, s1, s2, s3, s4⟩ := (unhide HQB).f3
    obtain ⟨r0, r1, r2, r3⟩ := (unhide HRB).f2
    go_wp2_with fail
    refine bodyPost_ret (v := .agg #[.int .i64 (n1 % 400), .slice A1 0 d1]) ?_ rfl ⟨n1 % 400, [], A1, d1, rfl, ?_, ?_, (fun k hk => by cases hk), by simp, ?_⟩
    · simp [results, Tryd.results29, go_sem, r0, r1, r3]
    · refine ksl_of (n := 0) (base := w.heap.size + 1 + 1 + 1) ?_ rfl
      repeat (first | (with_reducible exact unhide HO) | (with_reducible refine World.ownsRow.drewN' ?_ _) | (with_reducible refine World.ownsRow.alloc ?_ _) | (with_reducible refine ownsRow_setCell_below ?_ (Nat.lt_succ_self (w.heap.size + 1 + 1)) _))
    · constructor <;> omega
    · go_grown
  · obtain ⟨s0, s1, s2, s3, s4⟩ := (unhide HQB).f3
    obtain ⟨r0, r1, r2, r3⟩ := (unhide HRB).f2
    have hlp : 0 < ks.length := by omega
    have hne' : ((ks.length : Int) == 0) = false := by rw [beq_eq_false_iff_ne]; omega
    clear hl
    obtain ⟨i, hie, hil⟩ : ∃ i : Nat, n2 % (ks.length : Int) = (i : Int) ∧ i < ks.length := by
      have := Int.emod_nonneg n2 (b := (ks.length : Int)) (by omega)
      have := Int.emod_lt_of_pos n2 (b := (ks.length : Int)) (by omega)
      exact ⟨(n2 % (ks.length : Int)).toNat, by omega, by omega⟩
    obtain ⟨go, rfl, hgo⟩ := own_form_pos (unhide HO) hlp
    obtain ⟨k, hki⟩ : ∃ k, ks[i]? = some k := ⟨_, List.getElem?_eq_getElem hil⟩
    have HKI := Lib.hid hki
    clear hki
    have hgl := own_blk_lt (unhide HO)
    obtain ⟨k0, k1, k2, k3, k4⟩ := own_key4 (unhide HO) HKI.out
    have hnl0 : 0 ≤ n1 % 400 := by omega
    have hnu0 : n1 % 400 < 400 := by omega
    have r5 : w.heap.size + 1 + 1 < w1.heap.size + 1 := by omega
    go_wp2_with fail
    go_quiet (fail)
    have hcase : n0 % 7 = 0 ∨ n0 % 7 = 1 ∨ n0 % 7 = 2 ∨ n0 % 7 = 3 ∨ n0 % 7 = 4 ∨ n0 % 7 = 5 ∨ n0 % 7 = 6 := by omega
    rcases hcase with hm | hm | hm | hm | hm | hm | hm
    · obtain ⟨n, hnn, hnl, hnu⟩ : ∃ n, n1 % 400 = n ∧ 0 ≤ n ∧ n < 400 := ⟨_, rfl, by omega, by omega⟩
      go_wp2_with fail
      refine bodyPost_ret (v := .agg #[.int .i64 (n % 12 - 1), .slice (some ⟨go, 0, none⟩) ks.length d1]) ?_ rfl ⟨n % 12 - 1, ks, some ⟨go, 0, none⟩, d1, rfl, ?_, ?_, unhide HKS, by omega, ?_⟩
      · simp [results, Tryd.results29, go_sem, r0, r1, r3]
      · refine ksl_of (n := ks.length) (base := w.heap.size + 1 + 1 + 1) ?_ rfl
        repeat (first | (with_reducible exact unhide HO) | (with_reducible refine own_put ?_ HKI.out (by decide) k _ rfl) | (with_reducible refine own_put0 ?_ HKI.out k _ rfl) | (with_reducible refine World.ownsRow.drewN' ?_ _) | (with_reducible refine World.ownsRow.alloc ?_ _) | (with_reducible refine ownsRow_setCell_below ?_ (Nat.lt_succ_self (w.heap.size + 1 + 1)) _) | (with_reducible refine ownsRow_setCell_other ?_ (own_far (unhide HO) (Nat.le_refl _)) _))
      · first | exact unhide HS | (constructor <;> omega)
      · go_grown <;> exact below_drewN (HB1.alloc HB1.size _) _
    · obtain ⟨n, hnn, hnl, hnu⟩ : ∃ n, n1 % 400 = n ∧ 0 ≤ n ∧ n < 400 := ⟨_, rfl, by omega, by omega⟩
      go_wp2_with fail
      have hko := (unhide HKS) k (List.mem_of_getElem? HKI.out)
      refine bodyPost_ret (v := .agg #[.int .i64 (school), .slice (some ⟨go, 0, none⟩) ks.length d1]) ?_ rfl ⟨school, ks.set i ({ k with id := n % 9 - 1 }), some ⟨go, 0, none⟩, d1, by rw [List.length_set], ?_, ?_, kok_set (unhide HKS) (⟨hko.1, (by constructor <;> (simp only; omega)), hko.2.2⟩), by rw [List.length_set]; omega, ?_⟩
      · simp [results, Tryd.results29, go_sem, r0, r1, r3]
      · refine ksl_of (n := ks.length) (base := w.heap.size + 1 + 1 + 1) ?_ (by rw [List.length_set])
        repeat (first | (with_reducible exact unhide HO) | (with_reducible refine own_put ?_ HKI.out (by decide) ({ k with id := n % 9 - 1 }) _ rfl) | (with_reducible refine own_put0 ?_ HKI.out ({ k with id := n % 9 - 1 }) _ rfl) | (with_reducible refine World.ownsRow.drewN' ?_ _) | (with_reducible refine World.ownsRow.alloc ?_ _) | (with_reducible refine ownsRow_setCell_below ?_ (Nat.lt_succ_self (w.heap.size + 1 + 1)) _) | (with_reducible refine ownsRow_setCell_other ?_ (own_far (unhide HO) (Nat.le_refl _)) _))
      · first | exact unhide HS | (constructor <;> omega)
      · go_grown <;> exact below_drewN (HB1.alloc HB1.size _) _
    · obtain ⟨n, hnn, hnl, hnu⟩ : ∃ n, n1 % 400 = n ∧ 0 ≤ n ∧ n < 400 := ⟨_, rfl, by omega, by omega⟩
      have hcase : n % 4 = 0 ∨ n % 4 = 1 ∨ n % 4 = 2 ∨ n % 4 = 3 := by omega
      rcases hcase with hm2 | hm2 | hm2 | hm2
      · go_wp2_with fail
        have hko := (unhide HKS) k (List.mem_of_getElem? HKI.out)
        refine bodyPost_ret (v := .agg #[.int .i64 (school), .slice (some ⟨go, 0, none⟩) ks.length d1]) ?_ rfl ⟨school, ks.set i ({ k with sec := ⟨#[]⟩ }), some ⟨go, 0, none⟩, d1, by rw [List.length_set], ?_, ?_, kok_set (unhide HKS) (⟨(show ByteArray.size ⟨#[]⟩ ≤ 100000 from by decide), hko.2⟩), by rw [List.length_set]; omega, ?_⟩
        · simp [results, Tryd.results29, go_sem, r0, r1, r3, r5]
        · refine ksl_of (n := ks.length) (base := w.heap.size + 1 + 1 + 1) ?_ (by rw [List.length_set])
          repeat (first | (with_reducible exact unhide HO) | (with_reducible refine own_put ?_ HKI.out (by decide) ({ k with sec := ⟨#[]⟩ }) _ rfl) | (with_reducible refine own_put0 ?_ HKI.out ({ k with sec := ⟨#[]⟩ }) _ rfl) | (with_reducible refine World.ownsRow.drewN' ?_ _) | (with_reducible refine World.ownsRow.alloc ?_ _) | (with_reducible refine ownsRow_setCell_below ?_ (Nat.lt_succ_self (w.heap.size + 1 + 1)) _) | (with_reducible refine ownsRow_setCell_other ?_ (own_far (unhide HO) (Nat.le_refl _)) _))
        · first | exact unhide HS | (constructor <;> omega)
        · go_grown <;> exact below_drewN (HB1.alloc HB1.size _) _
      · go_wp2_with fail
        have hko := (unhide HKS) k (List.mem_of_getElem? HKI.out)
        refine bodyPost_ret (v := .agg #[.int .i64 (school), .slice (some ⟨go, 0, none⟩) ks.length d1]) ?_ rfl ⟨school, ks.set i ({ k with sec := ⟨#[111, 97, 107]⟩ }), some ⟨go, 0, none⟩, d1, by rw [List.length_set], ?_, ?_, kok_set (unhide HKS) (⟨(show ByteArray.size ⟨#[111, 97, 107]⟩ ≤ 100000 from by decide), hko.2⟩), by rw [List.length_set]; omega, ?_⟩
        · simp [results, Tryd.results29, go_sem, r0, r1, r3, r5]
        · refine ksl_of (n := ks.length) (base := w.heap.size + 1 + 1 + 1) ?_ (by rw [List.length_set])
          repeat (first | (with_reducible exact unhide HO) | (with_reducible refine own_put ?_ HKI.out (by decide) ({ k with sec := ⟨#[111, 97, 107]⟩ }) _ rfl) | (with_reducible refine own_put0 ?_ HKI.out ({ k with sec := ⟨#[111, 97, 107]⟩ }) _ rfl) | (with_reducible refine World.ownsRow.drewN' ?_ _) | (with_reducible refine World.ownsRow.alloc ?_ _) | (with_reducible refine ownsRow_setCell_below ?_ (Nat.lt_succ_self (w.heap.size + 1 + 1)) _) | (with_reducible refine ownsRow_setCell_other ?_ (own_far (unhide HO) (Nat.le_refl _)) _))
        · first | exact unhide HS | (constructor <;> omega)
        · go_grown <;> exact below_drewN (HB1.alloc HB1.size _) _
      · go_wp2_with fail
        have hko := (unhide HKS) k (List.mem_of_getElem? HKI.out)
        refine bodyPost_ret (v := .agg #[.int .i64 (school), .slice (some ⟨go, 0, none⟩) ks.length d1]) ?_ rfl ⟨school, ks.set i ({ k with sec := ⟨#[97, 32, 115, 101, 99, 114, 101, 116, 32, 116, 104, 97, 116, 32, 104, 97, 115, 32, 109, 111, 114, 101, 32, 116, 104, 97, 110, 32, 102, 111, 114, 116, 121, 32, 98, 121, 116, 101, 115, 32, 105, 110, 32, 97, 108, 108]⟩ }), some ⟨go, 0, none⟩, d1, by rw [List.length_set], ?_, ?_, kok_set (unhide HKS) (⟨(show ByteArray.size ⟨#[97, 32, 115, 101, 99, 114, 101, 116, 32, 116, 104, 97, 116, 32, 104, 97, 115, 32, 109, 111, 114, 101, 32, 116, 104, 97, 110, 32, 102, 111, 114, 116, 121, 32, 98, 121, 116, 101, 115, 32, 105, 110, 32, 97, 108, 108]⟩ ≤ 100000 from by decide), hko.2⟩), by rw [List.length_set]; omega, ?_⟩
        · simp [results, Tryd.results29, go_sem, r0, r1, r3, r5]
        · refine ksl_of (n := ks.length) (base := w.heap.size + 1 + 1 + 1) ?_ (by rw [List.length_set])
          repeat (first | (with_reducible exact unhide HO) | (with_reducible refine own_put ?_ HKI.out (by decide) ({ k with sec := ⟨#[97, 32, 115, 101, 99, 114, 101, 116, 32, 116, 104, 97, 116, 32, 104, 97, 115, 32, 109, 111, 114, 101, 32, 116, 104, 97, 110, 32, 102, 111, 114, 116, 121, 32, 98, 121, 116, 101, 115, 32, 105, 110, 32, 97, 108, 108]⟩ }) _ rfl) | (with_reducible refine own_put0 ?_ HKI.out ({ k with sec := ⟨#[97, 32, 115, 101, 99, 114, 101, 116, 32, 116, 104, 97, 116, 32, 104, 97, 115, 32, 109, 111, 114, 101, 32, 116, 104, 97, 110, 32, 102, 111, 114, 116, 121, 32, 98, 121, 116, 101, 115, 32, 105, 110, 32, 97, 108, 108]⟩ }) _ rfl) | (with_reducible refine World.ownsRow.drewN' ?_ _) | (with_reducible refine World.ownsRow.alloc ?_ _) | (with_reducible refine ownsRow_setCell_below ?_ (Nat.lt_succ_self (w.heap.size + 1 + 1)) _) | (with_reducible refine ownsRow_setCell_other ?_ (own_far (unhide HO) (Nat.le_refl _)) _))
        · first | exact unhide HS | (constructor <;> omega)
        · go_grown <;> exact below_drewN (HB1.alloc HB1.size _) _
      · go_wp2_with fail
        have hko := (unhide HKS) k (List.mem_of_getElem? HKI.out)
        refine bodyPost_ret (v := .agg #[.int .i64 (school), .slice (some ⟨go, 0, none⟩) ks.length d1]) ?_ rfl ⟨school, ks.set i ({ k with sec := ⟨#[120]⟩ }), some ⟨go, 0, none⟩, d1, by rw [List.length_set], ?_, ?_, kok_set (unhide HKS) (⟨(show ByteArray.size ⟨#[120]⟩ ≤ 100000 from by decide), hko.2⟩), by rw [List.length_set]; omega, ?_⟩
        · simp [results, Tryd.results29, go_sem, r0, r1, r3, r5]
        · refine ksl_of (n := ks.length) (base := w.heap.size + 1 + 1 + 1) ?_ (by rw [List.length_set])
          repeat (first | (with_reducible exact unhide HO) | (with_reducible refine own_put ?_ HKI.out (by decide) ({ k with sec := ⟨#[120]⟩ }) _ rfl) | (with_reducible refine own_put0 ?_ HKI.out ({ k with sec := ⟨#[120]⟩ }) _ rfl) | (with_reducible refine World.ownsRow.drewN' ?_ _) | (with_reducible refine World.ownsRow.alloc ?_ _) | (with_reducible refine ownsRow_setCell_below ?_ (Nat.lt_succ_self (w.heap.size + 1 + 1)) _) | (with_reducible refine ownsRow_setCell_other ?_ (own_far (unhide HO) (Nat.le_refl _)) _))
        · first | exact unhide HS | (constructor <;> omega)
        · go_grown <;> exact below_drewN (HB1.alloc HB1.size _) _
    · obtain ⟨n, hnn, hnl, hnu⟩ : ∃ n, n1 % 400 = n ∧ 0 ≤ n ∧ n < 400 := ⟨_, rfl, by omega, by omega⟩
      go_wp2_with fail
      have hko := (unhide HKS) k (List.mem_of_getElem? HKI.out)
      refine bodyPost_ret (v := .agg #[.int .i64 (school), .slice (some ⟨go, 0, none⟩) ks.length d1]) ?_ rfl ⟨school, ks.set i ({ k with fr := n - 20 }), some ⟨go, 0, none⟩, d1, by rw [List.length_set], ?_, ?_, kok_set (unhide HKS) (⟨hko.1, hko.2.1, (by constructor <;> (simp only; omega)), hko.2.2.2⟩), by rw [List.length_set]; omega, ?_⟩
      · simp [results, Tryd.results29, go_sem, r0, r1, r3]
      · refine ksl_of (n := ks.length) (base := w.heap.size + 1 + 1 + 1) ?_ (by rw [List.length_set])
        repeat (first | (with_reducible exact unhide HO) | (with_reducible refine own_put ?_ HKI.out (by decide) ({ k with fr := n - 20 }) _ rfl) | (with_reducible refine own_put0 ?_ HKI.out ({ k with fr := n - 20 }) _ rfl) | (with_reducible refine World.ownsRow.drewN' ?_ _) | (with_reducible refine World.ownsRow.alloc ?_ _) | (with_reducible refine ownsRow_setCell_below ?_ (Nat.lt_succ_self (w.heap.size + 1 + 1)) _) | (with_reducible refine ownsRow_setCell_other ?_ (own_far (unhide HO) (Nat.le_refl _)) _))
      · first | exact unhide HS | (constructor <;> omega)
      · go_grown <;> exact below_drewN (HB1.alloc HB1.size _) _
    · obtain ⟨n, hnn, hnl, hnu⟩ : ∃ n, n1 % 400 = n ∧ 0 ≤ n ∧ n < 400 := ⟨_, rfl, by omega, by omega⟩
      go_wp2_with fail
      have hko := (unhide HKS) k (List.mem_of_getElem? HKI.out)
      refine bodyPost_ret (v := .agg #[.int .i64 (school), .slice (some ⟨go, 0, none⟩) ks.length d1]) ?_ rfl ⟨school, ks.set i ({ k with st := n - 20 }), some ⟨go, 0, none⟩, d1, by rw [List.length_set], ?_, ?_, kok_set (unhide HKS) (⟨hko.1, hko.2.1, hko.2.2.1, (by constructor <;> (simp only; omega))⟩), by rw [List.length_set]; omega, ?_⟩
      · simp [results, Tryd.results29, go_sem, r0, r1, r3]
      · refine ksl_of (n := ks.length) (base := w.heap.size + 1 + 1 + 1) ?_ (by rw [List.length_set])
        repeat (first | (with_reducible exact unhide HO) | (with_reducible refine own_put ?_ HKI.out (by decide) ({ k with st := n - 20 }) _ rfl) | (with_reducible refine own_put0 ?_ HKI.out ({ k with st := n - 20 }) _ rfl) | (with_reducible refine World.ownsRow.drewN' ?_ _) | (with_reducible refine World.ownsRow.alloc ?_ _) | (with_reducible refine ownsRow_setCell_below ?_ (Nat.lt_succ_self (w.heap.size + 1 + 1)) _) | (with_reducible refine ownsRow_setCell_other ?_ (own_far (unhide HO) (Nat.le_refl _)) _))
      · first | exact unhide HS | (constructor <;> omega)
      · go_grown <;> exact below_drewN (HB1.alloc HB1.size _) _
    · obtain ⟨kz, hkz⟩ : ∃ k, ks[0]? = some k := ⟨_, List.getElem?_eq_getElem hlp⟩
      have HKZ := Lib.hid hkz
      clear hkz
      obtain ⟨z0, z1, z2, z3, z4⟩ := own_key4 (unhide HO) HKZ.out
      simp only [Nat.zero_mul, Nat.zero_add] at z0 z1 z2 z3
      go_wp2_with fail
      go_region_law (go_loud (refine step_append_slc _ rfl _ _ 32 rfl (w.heap.size + 1 + 1 + 1) 28 i0 _ 4 40 Tryd.underlying32 hi hz0 hz1 hz2 rfl (by decide) _ ks.length (kcells ks) rfl ((World.ownsRow.drewN' ((unhide HO).alloc _) _).alloc _) _ _ 1 1 kz.cells rfl (slc_new4' _ _ (w1.heap.size + 1) _ _ _ _ (by simp)) (cells_one kz) (by unfold maxLen; omega) (by omega) (by go_size) ?_); intro A' c' w3 hown hgrow; have hr3 := Blk.keepApp (((Blk.new w1 34 #[.int .i64 school, .slice (some ⟨go, 0, none⟩) ks.length d1]).drewN (nq + 1)).alloc _) (World.ownsRow.alloc (World.ownsRow.drewN' ((unhide HO).alloc _) _) _) hgrow (by decide); have hs3 := Blk.keepApp ((((unhide HRB).alloc _).drewN (nq + 1)).alloc _) (World.ownsRow.alloc (World.ownsRow.drewN' ((unhide HO).alloc _) _) _) hgrow (by decide); obtain ⟨o0, o1, o2, o3⟩ := hr3.f2; obtain ⟨p0, p1, p2, p3⟩ := hs3.f2)
      all_goals
        have HB3 := below_append (B := w.heap.size) ((below_drewN (HB1.alloc HB1.size _) (nq + 1)).alloc (by simp; omega) _) hgrow (fun q hq => Nat.le_trans (by omega) (own_block_le (unhide HO) q hq)) (Nat.le_refl _)
        have HO3 := hide hown
        have hgn := own_blk_ne hown hr3 (by decide)
        clear hown hgrow hr3 hs3
        go_wp2_with fail
        refine bodyPost_ret (v := .agg #[.int .i64 school, .slice A' (ks.length + 1) c']) ?_ rfl ⟨school, ks ++ [kz], A', c', by rw [List.length_append]; rfl, ?_, unhide HS, ?_, by rw [List.length_append]; simp, ?_⟩
        · simp [results, Tryd.results29, go_sem, p0, p1]
        · refine ksl_of (n := ks.length + 1) (base := w.heap.size + 1 + 1 + 1) ?_ (by rw [List.length_append]; rfl)
          rw [kcells_snoc]
          repeat (first | (with_reducible exact unhide HO3) | (with_reducible refine World.ownsRow.drewN' ?_ _) | (with_reducible refine World.ownsRow.alloc ?_ _) | (with_reducible refine ownsRow_setCell_below ?_ (Nat.lt_succ_self (w.heap.size + 1 + 1)) _) | (with_reducible refine ownsRow_setCell_other ?_ hgn _))
        · intro x hx
          rcases List.mem_append.1 hx with hx | hx
          · exact unhide HKS x hx
          · rw [List.mem_singleton.1 hx]; exact unhide HKS kz (List.mem_of_getElem? HKZ.out)
        · go_grown
    · have hks : ∀ (wv : World) (q : Nat) (x : Int), q = wv.heap.size → Slc (wv.alloc (.cells #[.int .i64 x, .string ⟨#[120]⟩, .int .i64 1000, .int .i64 0] 28)) (wv.alloc (.cells #[.int .i64 x, .string ⟨#[120]⟩, .int .i64 1000, .int .i64 0] 28)).heap.size (some ⟨q, 0, none⟩) 1 1 4 (Ky.cells ⟨x, ⟨#[120]⟩, 1000, 0⟩) := fun wv q x hq => slc_new4' _ _ _ _ _ _ _ hq
      have HKX := hide hks
      obtain ⟨m, hmm, hm0, hm1⟩ : ∃ m, n1 % 400 % 3 = m ∧ 0 ≤ m ∧ m < 3 := ⟨_, rfl, by omega, by omega⟩
      clear hks
      go_wp2_with fail
      clear hie hm
      go_loopw [8] (fun v wr => ∃ (j : Nat) (l : List Ky) (A' : Option Addr) (c' : Nat), v = .int .i64 j ∧ (j : Int) ≤ 19 + m ∧ l.length = ks.length + j ∧ (∀ x ∈ l, KOk x) ∧ Blk wr w1.heap.size 34 #[.int .i64 school, .slice A' (ks.length + j) c'] ∧ Blk wr (w.heap.size + 1 + 1) 34 #[.int .i64 0, .slice none 0 0] ∧
        wr.ownsRow (w.heap.size + 1 + 1 + 1) 28 4 (.slice A' (ks.length + j) c') (ks.length + j) (kcells l) ∧ Below w.heap.size w wr) (fun v _ => 22 - (intOf v).toNat)
      case atStart => exact ⟨0, ks, _, _, rfl, by omega, rfl, unhide HKS, (Blk.new w1 _ _).drewN _, ((unhide HRB).alloc _).drewN _, World.ownsRow.drewN' ((unhide HO).alloc _) _, below_drewN (HB1.alloc HB1.size _) _⟩
      case round =>
        obtain ⟨j, l, A', c', rfl, hj, hll, hlk, hr, hres, hown, hB⟩ := hrel
        have HLL := Lib.hid hll
        have HLK := hide hlk
        obtain ⟨o0, o1, o2, o3⟩ := hr.f2
        obtain ⟨p0, p1, p2, p3⟩ := hres.f2
        have HR := hide hr
        have HRES := hide hres
        have HO2 := hide hown
        clear hll hlk hr hres hown
        have hj21 : j ≤ 21 := by omega
        by_cases hlt : (j : Int) < 19 + m
        · go_wp2_with (at_builtin; go_loud (refine wpList_append_slc _ rfl _ _ 32 rfl (w.heap.size + 1 + 1 + 1) 28 i0 _ 4 40 Tryd.underlying32 hi hz0 hz1 hz2 rfl (by decide) _ (ks.length + j) (kcells l) rfl (World.ownsRow.alloc (unhide HO2) _) _ _ 1 1 (Ky.cells ⟨100 + j, ⟨#[120]⟩, 1000, 0⟩) rfl (unhide HKX _ _ _ (by simp)) (cells_one _) (by unfold maxLen; omega) (by omega) (by go_size) ?_); intro A2 c2 w3 hown3 hgrow; have hr3 := Blk.keepApp ((unhide HR).alloc _) (World.ownsRow.alloc (unhide HO2) _) hgrow (by decide); have hs3 := Blk.keepApp ((unhide HRES).alloc _) (World.ownsRow.alloc (unhide HO2) _) hgrow (by decide); obtain ⟨o0, o1, o2, o3⟩ := hr3.f2)
          have HB3 := below_append (B := w.heap.size) (hB.alloc (by go_size) _) hgrow (fun q hq => Nat.le_trans (by omega) (own_block_le (unhide HO2) q hq)) (Nat.le_refl _)
          go_roundw
          case rel =>
            refine ⟨j + 1, l ++ [⟨100 + j, ⟨#[120]⟩, 1000, 0⟩], A2, c2, ret_i (by omega), by omega, by rw [List.length_append, HLL.out]; rfl, ?_, hr3.set_ 1 _, hs3.far (p := ⟨w1.heap.size, 1, none⟩) (by simp; omega) _, ?_, HB3.setCell (by simp; omega) _⟩
            · intro x hx
              rcases List.mem_append.1 hx with hx | hx
              · exact unhide HLK x hx
              · rw [List.mem_singleton.1 hx]; exact kok_new j hj21
            · rw [kcells_snoc]; exact ownsRow_setCell_other hown3 (own_blk_ne hown3 hr3 (by decide)) _
          case measure => simp only [intOf]; omega
        · have hjl : ks.length + j ≤ ks.length + 21 := by omega
          go_wp2_with fail
          refine bodyPost_ret (v := .agg #[.int .i64 school, .slice A' (ks.length + j) c']) ?_ rfl ⟨school, l, A', c', by rw [HLL.out], ?_, unhide HS, unhide HLK, by rw [HLL.out]; exact hjl, ?_⟩
          · simp [results, Tryd.results29, go_sem, p0, p1]
          · refine ksl_of (n := ks.length + j) (base := w.heap.size + 1 + 1 + 1) ?_ HLL.out
            repeat (first | (with_reducible exact unhide HO2) | (with_reducible refine World.ownsRow.drewN' ?_ _) | (with_reducible refine World.ownsRow.alloc ?_ _) | (with_reducible refine ownsRow_setCell_below ?_ (Nat.lt_succ_self (w.heap.size + 1 + 1)) _))
          · go_grown

end Go.Proofs.YtikinldimecgaaaDoor
