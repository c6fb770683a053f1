/- The walk of the reference's Add. -/
import Derived.Test.YtikinldimecgaaaDoorKeyG
namespace Go.Proofs.YtikinldimecgaaaDoor
open Go.RowKit

set_option maxRecDepth 20000 in
set_option maxHeartbeats 4000000 in
theorem radd_any (A : Option Addr) (c : Nat) (school : Int) (ks : List Ky) (k : Ky) (w : World) (hk : KSl w A c ks) (hn : ks.length ≤ 1000) :
    Calls Tryd.prog 14 #[.agg #[.int .i64 school, .slice A ks.length c], .agg #[.int .i64 k.id, .string k.sec, .int .i64 k.fr, .int .i64 k.st]] w fun e w' => ∃ A' c',
      e = .returned (.tuple #[.agg #[.int .i64 (addS school ks k), .slice A' (addK school ks k).length c'], .int .i64 (addE school ks k)]) ∧ KSl w' A' c' (addK school ks k) ∧ Below w.heap.size w w' := by
  obtain ⟨i0, hi, hz0, hz1, hz2⟩ := info_parts Tryd.infoKey
  have HK := Lib.hid hk
  clear hk
  go_enter Tryd.func14, Tryd.ntmps14
  go_wp2_with fail
  refine (rcheck_any A c school ks _ (HK.out.below (by go_grown) (Nat.le_refl _) |>.more (by go_size)) (by omega)).mono ?_
  rintro e w1 ⟨rfl, hb1⟩
  have HB1 := ext_below (w0 := w) (by go_grown) hb1
  have hab : Blk w1 w.heap.size 34 #[.int .i64 school, .slice A ks.length c] := (((Blk.new w _ _).alloc _).alloc _).below hb1 (by simp; omega)
  have hkb : Blk w1 (w.heap.size + 1) 28 #[.int .i64 k.id, .string k.sec, .int .i64 k.fr, .int .i64 k.st] := ((Blk.new' (by simp)).alloc _).below hb1 (by simp)
  have hrb : Blk w1 (w.heap.size + 1 + 1) 34 #[.int .i64 0, .slice none 0 0] := (Blk.new' (by simp)).below hb1 (by simp)
  have HB1' : w.heap.size + 1 + 1 + 1 ≤ w1.heap.size := by have := hb1.size; simpa using this
  obtain ⟨a0, a1, a2, a3⟩ := hab.f2
  obtain ⟨k0, k1, k2, k3, k4, k5⟩ := hkb.f4
  obtain ⟨r0, r1, r2, r3⟩ := hrb.f2
  have HKB := hide hkb
  have HRB := hide hrb
  clear hkb hrb hab hb1
  by_cases he : chkR school ks = 0
  · have HE := Lib.hid he
    clear he
    rw [HE.out]
    go_wp2_with fail
    refine (copy_any school A ks.length c (kcells ks) _ (HK.out.below HB1 (Nat.le_refl _) |>.more HB1.size) (kcells_one ks) (by omega)).mono ?_
    rintro e w2 ⟨A1, c1, rfl, hown, hb2⟩
    have HB2 := ext_below HB1 hb2
    have HKB2 := hide ((unhide HKB).below hb2 (unhide HKB).lt)
    have HRB2 := hide ((unhide HRB).below hb2 (unhide HRB).lt)
    have HO2 := hide hown
    have HB2' := Nat.le_trans HB1' hb2.size
    obtain ⟨k0, k1, k2, k3, k4, k5⟩ := (unhide HKB2).f4
    obtain ⟨r0, r1, r2, r3⟩ := (unhide HRB2).f2
    clear hb2 hown HKB HRB
    go_wp2_with (at_builtin; go_loud (refine wpList_append_slc _ rfl _ _ 32 rfl (w.heap.size + 1 + 1 + 1) 28 i0 _ 4 40 Tryd.underlying32 hi hz0 hz1 hz2 rfl (by decide) _ ks.length (kcells ks) rfl ((own_base (unhide HO2) HB1').alloc _ |>.alloc _) _ _ 1 1 k.cells rfl (slc_new4' _ _ _ _ _ _ _ (by simp)) (cells_one k) (by unfold maxLen; omega) (by omega) (by go_size) ?_); intro A' c' w3 hown hgrow; have hob := Blk.keepApp (((Blk.new w2 _ _).alloc _)) ((own_base (unhide HO2) HB1').alloc _ |>.alloc _) hgrow (by decide); obtain ⟨o0, o1, o2, o3⟩ := hob.f2; obtain ⟨o0', o1', o2', o3'⟩ := (hob.set_ 1 (.slice A' (ks.length + 1) c')).f2)
    have HB3 := below_append (B := w.heap.size + 1 + 1 + 1) (Below.refl _ _) hgrow (own_block_le (own_base (unhide HO2) HB1')) (by go_size)
    have HB4 : Below w.heap.size w w3 := (((HB2.alloc HB2.size _).alloc (by have := HB2.size; simp; omega) _).trans (HB3.mono (by omega)))
    have HR4 := hide ((((unhide HRB2).alloc _).alloc _).below HB3 (by omega))
    have HO4 := hide hown
    have hks : KSl w3 A' c' (ks ++ [k]) := by
      have h := Slc.of_own hown
      unfold KSl
      rw [kcells_snoc, List.length_append]
      exact h
    have HKS := hide hks
    have HOB0 := hide hob
    have HOB1 := hide hob
    have HOB := hide (hob.set_ 1 (.slice A' (ks.length + 1) c'))
    clear hks hob HB3 hown hgrow HO2 HRB2
    have hks2 : KSl (w3.setCell ⟨w2.heap.size, 1, none⟩ (.slice A' (ks.length + 1) c')) A' c' (ks ++ [k]) := by
      have h := Slc.of_own (ownsRow_setCell_other (a := ⟨w2.heap.size, 1, none⟩) (unhide HO4) (own_blk_ne (unhide HO4) (unhide HOB0) (by decide)) (.slice A' (ks.length + 1) c'))
      unfold KSl
      rw [kcells_snoc, List.length_append]
      exact h
    have HKS2 := hide hks2
    have HR5 := hide ((unhide HR4).far (p := ⟨w2.heap.size, 1, none⟩) (by simp; omega) (.slice A' (ks.length + 1) c'))
    have HB5 := HB4.setCell (p := ⟨w2.heap.size, 1, none⟩) (by simp; omega) (.slice A' (ks.length + 1) c')
    have hsz := HB5.size
    clear hks2 HOB0
    have hcall := rcheck_any A' c' school (ks ++ [k]) _ (unhide HKS2) (by simp; omega)
    rw [show (ks ++ [k]).length = ks.length + 1 from by simp] at hcall
    refine hcall.mono ?_
    clear hcall
    rintro e w5 ⟨rfl, hb5⟩
    have HB6 := ext_below HB5 hb5
    obtain ⟨r0, r1, r2, r3⟩ := ((unhide HR5).below hb5 (unhide HR5).lt).f2
    obtain ⟨o0, o1, o2, o3⟩ := ((unhide HOB).below hb5 (unhide HOB).lt).f2
    have HO5 := hide (own_ext (ownsRow_setCell_other (a := ⟨w2.heap.size, 1, none⟩) (unhide HO4) (own_blk_ne (unhide HO4) (unhide HOB1) (by decide)) (.slice A' (ks.length + 1) c')) hb5)
    by_cases he2 : chkR school (ks ++ [k]) = 0
    · have hAE : addE school ks k = 0 := by unfold addE; rw [if_pos HE.out, he2]
      have hAS : addS school ks k = school := by unfold addS; rw [hAE, if_pos rfl]
      have hAK : addK school ks k = ks ++ [k] := by unfold addK; rw [hAE, if_pos rfl]
      have H1 := Lib.hid hAE
      have H2 := Lib.hid hAS
      have H3 := Lib.hid hAK
      have HE2 := Lib.hid he2
      clear he2 hAE hAS hAK
      rw [HE2.out]
      clear hb5
      go_wp2_with fail
      rw [H1.out, H2.out, H3.out]
      refine bodyPost_ret (v := .tuple #[.agg #[.int .i64 school, .slice A' (ks.length + 1) c'], .int .i64 0]) ?_ rfl ⟨A', c', by rw [List.length_append]; rfl, ?_, ?_⟩
      · simp [results, Tryd.results14, go_sem, r0, r1]
      · have h := Slc.of_own (ownsRow_setCell_below (a := ⟨w.heap.size + 1 + 1, 1, none⟩) (ownsRow_setCell_below (a := ⟨w.heap.size + 1 + 1, 0, none⟩) (unhide HO5) (by simp) (.int .i64 school)) (by simp) (.slice A' (ks.length + 1) c'))
        unfold KSl
        rw [kcells_snoc, List.length_append]
        exact h
      · go_grown
    · have he' : (chkR school (ks ++ [k]) != 0) = true := by simp [he2]
      have hAE : addE school ks k = chkR school (ks ++ [k]) := by unfold addE; rw [if_pos HE.out]
      have hAS : addS school ks k = 0 := by unfold addS; rw [hAE, if_neg he2]
      have hAK : addK school ks k = [] := by unfold addK; rw [hAE, if_neg he2]
      have H1 := Lib.hid hAE
      have H2 := Lib.hid hAS
      have H3 := Lib.hid hAK
      clear he2 hAE hAS hAK hb5
      go_wp2_with fail
      rw [H1.out, H2.out, H3.out]
      refine bodyPost_ret (v := .tuple #[.agg #[.int .i64 0, .slice none 0 0], .int .i64 (chkR school (ks ++ [k]))]) ?_ rfl ⟨none, 0, rfl, KSl.nil _, ?_⟩
      · simp [results, Tryd.results14, go_sem, r0, r1]
      · go_grown
  · have he' : (chkR school ks != 0) = true := by simp [he]
    have hAE : addE school ks k = chkR school ks := by unfold addE; rw [if_neg he]
    have hAS : addS school ks k = 0 := by unfold addS; rw [hAE, if_neg he]
    have hAK : addK school ks k = [] := by unfold addK; rw [hAE, if_neg he]
    have H1 := Lib.hid hAE
    have H2 := Lib.hid hAS
    have H3 := Lib.hid hAK
    clear he hAE hAS hAK
    go_wp2
    rw [H1.out, H2.out, H3.out]
    refine bodyPost_ret (v := .tuple #[.agg #[.int .i64 0, .slice none 0 0], .int .i64 (chkR school ks)]) ?_ rfl ⟨none, 0, rfl, KSl.nil _, ?_⟩
    · simp [results, Tryd.results14, go_sem, r0, r1]
    · go_grown

end Go.Proofs.YtikinldimecgaaaDoor
