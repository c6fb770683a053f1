/- The walks of the package key and of its reference: find, check, copy. -/
import Derived.Test.YtikinldimecgaaaDoorKeyC
namespace Go.Proofs.YtikinldimecgaaaDoor
open Go.RowKit

theorem idxFrom_lt (id : Int) (ks : List Ky) : ∀ (j : Nat), idxFrom id ks j = -1 ∨ ∃ i k, idxFrom id ks j = ((j + i : Nat) : Int) ∧ ks[i]? = some k ∧ k.id = id := by
  induction ks with
  | nil => intro j; exact .inl rfl
  | cons k ks ih =>
    intro j
    unfold idxFrom
    by_cases h : k.id = id
    · rw [if_pos h]; exact .inr ⟨0, k, by simp, by simp, h⟩
    · rw [if_neg h]
      rcases ih (j + 1) with h1 | ⟨i, k', h1, h2, h3⟩
      · exact .inl h1
      · exact .inr ⟨i + 1, k', by rw [h1]; congr 1; omega, by simpa using h2, h3⟩

set_option maxHeartbeats 1000000 in
theorem find_none (pb po c : Nat) (A : Option Addr) (ks : List Ky) (id : Int) (w : World) (h0 : w.cell? ⟨pb, po + 1, none⟩ = some (.slice A ks.length c)) (hk : KSl w A c ks) (hpb : pb < w.heap.size) (hn : ks.length ≤ 100000)
    (hi : idxFrom id ks 0 = -1) :
    Calls Tryd.prog 34 #[.pointer (some ⟨pb, po, none⟩), .int .i64 id] w fun e w' => e = .returned (.pointer none) ∧ Below w.heap.size w w' := by
  have HK := Lib.hid hk
  have HI := Lib.hid hi
  clear hk hi
  go_enter Tryd.func34, Tryd.ntmps34
  go_wp2_with fail
  refine (index_any A c ks id w.heap.size _ (HK.out.below ((Below.refl _ _).alloc (Nat.le_refl _) _) (Nat.le_refl _) |>.more (by simp)) hn ((Blk.new w _ _).cell 0) (by simp)).mono ?_
  rintro e w1 ⟨rfl, hb1⟩
  rw [HI.out]
  go_wp2_with fail
  go_ret
  exact ⟨rfl, ext_below (by go_grown) hb1⟩

set_option maxHeartbeats 1000000 in
theorem find_some (pb po c b off i : Nat) (ks : List Ky) (id : Int) (w : World) (h0 : w.cell? ⟨pb, po + 1, none⟩ = some (.slice (some ⟨b, off, none⟩) ks.length c)) (hk : KSl w (some ⟨b, off, none⟩) c ks) (hpb : pb < w.heap.size) (hn : ks.length ≤ 100000)
    (hi : idxFrom id ks 0 = (i : Int)) (hil : i < ks.length) :
    Calls Tryd.prog 34 #[.pointer (some ⟨pb, po, none⟩), .int .i64 id] w fun e w' => e = .returned (.pointer (some ⟨b, off + i * 4, none⟩)) ∧ Below w.heap.size w w' := by
  have HK := Lib.hid hk
  have HI := Lib.hid hi
  clear hk hi
  go_enter Tryd.func34, Tryd.ntmps34
  go_wp2_with fail
  refine (index_any _ c ks id w.heap.size _ (HK.out.below ((Below.refl _ _).alloc (Nat.le_refl _) _) (Nat.le_refl _) |>.more (by simp)) hn ((Blk.new w _ _).cell 0) (by simp)).mono ?_
  rintro e w1 ⟨rfl, hb1⟩
  rw [HI.out]
  obtain ⟨hc, hf⟩ := bcell hb1
  simp only [World.size_alloc] at hc hf
  go_wp2_with fail
  go_ret
  exact ⟨rfl, ext_below (by go_grown) hb1⟩

set_option maxHeartbeats 1000000 in
theorem rfind_any (A : Option Addr) (c : Nat) (school : Int) (ks : List Ky) (id : Int) (w : World) (hk : KSl w A c ks) (hn : ks.length ≤ 100000) :
    Calls Tryd.prog 36 #[.agg #[.int .i64 school, .slice A ks.length c], .int .i64 id] w fun e w' => e = .returned (.int .i64 (idxFrom id ks 0)) ∧ Below w.heap.size w w' := by
  have HK := Lib.hid hk
  clear hk
  go_enter Tryd.func36, Tryd.ntmps36
  go_wp2
  go_loop [5] (fun i => ∃ (j : Nat), j ≤ ks.length ∧ i = .int .i64 j ∧ idxFrom id ks 0 = idxFrom id (ks.drop j) j) (fun i => ks.length - (intOf i).toNat)
  case atStart => exact ⟨0, by omega, rfl, rfl⟩
  case round =>
    obtain ⟨j, hj, rfl, hR⟩ := hrel
    have HR := Lib.hid hR
    clear hR
    by_cases hlt : j < ks.length
    · obtain ⟨b, off, rfl, hb, k0, k1, k2, k3⟩ := HK.out.at_ hlt
      have HL := Lib.hid (List.drop_eq_getElem_cons hlt)
      generalize hkj : ks[j] = k at *
      clear hkj k1 k2 k3
      by_cases hid : k.id = id
      · have hid' : (k.id == id) = true := by simp [hid]
        have HI := Lib.hid hid
        clear hid
        go_wp2
        go_ret
        exact ⟨ret_int (by rw [HR.out, HL.out, idxFrom, if_pos HI.out]), by go_grown⟩
      · have hid' : (k.id == id) = false := by simp [hid]
        have HI := Lib.hid hid
        clear hid
        go_wp2
        go_round
        case rel => exact ⟨j + 1, by omega, by go_num, by rw [HR.out, HL.out, idxFrom, if_neg HI.out]⟩
        case measure => simp [intOf]; omega
    · go_wp2
      go_ret
      exact ⟨ret_int (by rw [HR.out, List.drop_of_length_le (by omega)]; rfl), by go_grown⟩

set_option maxHeartbeats 1000000 in
theorem kcheck_any (A : Option Addr) (c : Nat) (school : Int) (ks : List Ky) (w : World) (hk : KSl w A c ks) (hn : ks.length ≤ 100000) :
    Calls Tryd.prog 11 #[.agg #[.int .i64 school, .slice A ks.length c]] w fun e w' => e = .returned (.int .i64 (chkR school ks)) ∧ Below w.heap.size w w' := by
  have HK := Lib.hid hk
  clear hk
  go_enter Tryd.func11, Tryd.ntmps11
  go_wp2_with fail
  refine (check_any _ 0 c A school ks _ (by go_cell) (by go_cell) (HK.out.below (by go_grown) (Nat.le_refl _) |>.more (by go_size)) (by go_size) hn).mono ?_
  rintro e w1 ⟨rfl, hb1⟩
  go_wp2_with fail
  go_ret
  exact ⟨rfl, ext_below (by go_grown) hb1⟩

/- the key before -/
def prev (ks : List Ky) (i : Nat) : Ky := if i = 0 then Ky.zero else ks.getD (i - 1) Ky.zero

end Go.Proofs.YtikinldimecgaaaDoor
