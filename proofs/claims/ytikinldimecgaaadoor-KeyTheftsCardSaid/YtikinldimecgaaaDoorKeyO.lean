/- The walk of the maker of rings. -/
import Derived.Test.YtikinldimecgaaaDoorKeyN2
import Derived.Deep.DeepCutAuto
import Derived.Deep.LoopGhost
namespace Go.Proofs.YtikinldimecgaaaDoor
open Go.RowKit

set_option maxRecDepth 100000 in
set_option maxHeartbeats 40000000 in
theorem made_any (school : Int) (A : Option Addr) (c : Nat) (l : List Int) (w : World) (hl : ISl w A c l) (hs : Rng school) :
    Calls Tryd.prog 28 #[.int .i64 school, .slice A l.length c] w fun e w' => ∃ A' c', e = .returned (.agg #[.int .i64 school, .slice A' (madeD school l).length c']) ∧ KSl w' A' c' (madeD school l) ∧ Below w.heap.size w w' := by
  obtain ⟨i0, hi, hz0, hz1, hz2⟩ := info_parts Tryd.infoKey
  have HL := Lib.hid hl
  have hmx : l.length ≤ 9223372036854775807 := by have := Nat.le_trans hl.1.cap hl.1.max; unfold maxLen at this; omega
  have hsl := itoa_len school hs.1 hs.2
  rw [← bs_size] at hsl
  clear hl
  go_enter Tryd.func28, Tryd.ntmps28
  go_wp2
  go_loopw [6, 7] (fun d i wr => ∃ (k : Nat) (day : Int) (pre : List Ky) (A' : Option Addr) (c' : Nat), k ≤ 3 ∧ pre.length = k ∧ d = .int .i64 day ∧ i = .int .i64 k ∧ 0 ≤ day ∧ day ≤ 120 * k ∧ Blk wr (w.heap.size + 1) 34 #[.int .i64 school, .slice A' k c'] ∧ Blk wr w.heap.size 34 #[.int .i64 0, .slice none 0 0] ∧
    wr.ownsRow (w.heap.size + 1 + 1) 28 4 (.slice A' k c') k (kcells pre) ∧ madeD school l = pre ++ madeL school l (3 - k) k day ∧ Below w.heap.size w wr) (fun _ i _ => 3 - (intOf i).toNat)
  case atStart => exact ⟨0, 0, [], none, 0, by omega, rfl, rfl, rfl, by omega, by omega, Blk.new' (by simp), (Blk.new w _ _).alloc _, World.ownsRow_nil, rfl, by go_grown⟩
  case round =>
    obtain ⟨k, day, pre, A', c', hk, hpl, rfl, rfl, hd0, hd1, hr, hres, hown, hM, hB⟩ := hrel
    have HM := Lib.hid hM
    have HPL := Lib.hid hpl
    obtain ⟨r0, r1, r2, r3⟩ := hr.f2
    obtain ⟨s0, s1, s2, s3⟩ := hres.f2
    have HR := hide hr
    have HRES := hide hres
    have HO := hide hown
    clear hM hpl hr hres hown
    by_cases hk3 : k < 3
    · go_upto_if 19 with (fail)
      go_cut [8] (fun s8 wx => s8 = .int .i64 (nAt l k) ∧ Blk wx (w.heap.size + 1) 34 #[.int .i64 school, .slice A' k c'] ∧ Blk wx w.heap.size 34 #[.int .i64 0, .slice none 0 0] ∧ wx.ownsRow (w.heap.size + 1 + 1) 28 4 (.slice A' k c') k (kcells pre) ∧ Below w.heap.size w wx)
      case first =>
        by_cases hkl : k < l.length
        · obtain ⟨b, off, rfl, hb, hx⟩ := HL.out.at_ hkl
          have hrx := HL.out.2 l[k] (List.getElem_mem hkl)
          have hna : nAt l k = absM l[k] := by unfold nAt; rw [List.getElem?_eq_getElem hkl]
          generalize hxl : l[k] = x at *
          have HN := Lib.hid hna
          clear hna hxl
          have hcx := (hB.cell (p := ⟨b, off + k, none⟩) hb).trans hx
          obtain ⟨hx0, hx1⟩ := hrx
          have hbx : b < wr.heap.size := Nat.lt_of_lt_of_le hb hB.size
          obtain ⟨y1, y2, g1, g2, g1', g2', hy⟩ := absM_steps x hx0 hx1
          rcases hy with ⟨hlt, hyn⟩ | ⟨hge, hyn⟩
          all_goals
            have HYN := Lib.hid hyn
            clear hyn
            go_wp2_with fail
            go_quiet (fail)
            go_wp2_with fail
            go_meet
            exact ⟨ret_i (by have h1 := HYN.out; have h2 := HN.out; omega), (unhide HR).drewN _, (unhide HRES).drewN _, World.ownsRow.drewN' (unhide HO) _, below_drewN hB _⟩
        · have hna : nAt l k = 0 := by unfold nAt; rw [List.getElem?_eq_none (by omega)]
          have HN := Lib.hid hna
          clear hna
          go_wp2_with fail
          go_meet
          exact ⟨ret_i HN.out.symm, unhide HR, unhide HRES, unhide HO, hB⟩
      case rest =>
        obtain ⟨rfl, hr, hres, hown, hB'⟩ := hcut
        clear HR HRES HO r0 r1 r2 r3 s0 s1 s2 s3 hB
        obtain ⟨r0, r1, r2, r3⟩ := hr.f2
        obtain ⟨s0, s1, s2, s3⟩ := hres.f2
        have HR := hide hr
        have HRES := hide hres
        have HO := hide hown
        have hB := hB'
        clear hr hres hown hB'
        obtain ⟨n, hn⟩ : ∃ n, nAt l k = n := ⟨_, rfl⟩
        obtain ⟨hn0, hn1⟩ := nAt_bd l k HL.out.2
        rw [hn] at hn0 hn1 ⊢
        have HNA := Lib.hid hn
        clear hn
        by_cases hb3 : 0 < k ∧ n % 3 = 0
        · obtain ⟨hbk, hbn⟩ := hb3
          have hb4 : (n % 3 == 0) = true := by rw [hbn]; rfl
          have HF := Lib.hid (made_stop (school := school) (day := day) hk3 HNA.out hbk hbn)
          clear hbn
          go_wp2_with fail
          rw [HM.out, HF.out, List.append_nil]
          have hlen := HPL.out
          refine bodyPost_ret (v := .agg #[.int .i64 school, .slice A' k c']) ?_ rfl ⟨A', c', by rw [hlen], ?_, ?_⟩
          · simp [results, Tryd.results28, go_sem, s0, s1]
          · refine ksl_of (n := k) (base := w.heap.size + 1 + 1) ?_ hlen
            repeat (first | (with_reducible exact unhide HO) | (with_reducible refine World.ownsRow.drewN' ?_ _) | (with_reducible refine ownsRow_setCell_below ?_ (Nat.lt_add_of_pos_right (n := w.heap.size) (k := 2) (by decide)) _))
          · exact ((hB.setCell (Nat.le_refl _) _).setCell (Nat.le_refl _) _)
        · have HF := Lib.hid (made_go (school := school) (day := day) hk3 HNA.out hb3)
          have hkz : k = 0 ∨ (0 < k ∧ (n % 3 == 0) = false) := by
            by_cases h0 : k = 0
            · exact .inl h0
            · exact .inr ⟨by omega, by rw [beq_eq_false_iff_ne]; intro h; exact hb3 ⟨by omega, h⟩⟩
          clear hb3
          have hkz2 : decide (0 < k) = false ∨ (0 < k ∧ (n % 3 == 0) = false) := by
            rcases hkz with h | h
            · exact .inl (by simp [h])
            · exact .inr h
          clear hkz
          rcases hkz2 with hkz | ⟨hkz, hb5⟩
          all_goals
            go_upto_region 10 with (fail)
            obtain ⟨wx, hwx⟩ : ∃ x, x = wc := ⟨wc, rfl⟩
            subst hwx
            go_cut [9] (fun s9 wz => ∃ g, wx.heap.size ≤ g ∧ s9 = .pointer (some ⟨g,0,none⟩) ∧ Blk wz g 28 #[.int .i64 (1 + 2 * k), .string (bs (secB k ++ Lib.itoa school)), .int .i64 day, .int .i64 0] ∧ Below wx.heap.size wx wz)
            case first =>
              have sz1 : wx.heap.size < wx.heap.size + 1 + 1 := by omega
              have sz2 : wx.heap.size + 1 < wx.heap.size + 1 + 1 := by omega
              have hns : ¬ 9223372036854775807 < 3 + (bs (Lib.itoa school)).size := by omega
              obtain rfl | rfl | rfl : k = 0 ∨ k = 1 ∨ k = 2 := by omega
              all_goals
                try (exact absurd hkz (by decide))
              all_goals
                go_region_with (go_at_call 44; refine (dec_any _ _ hs.1 hs.2).mono ?_; rintro e w2 ⟨rfl, hb2⟩; have hbw := ext_below (w0 := wx) (by first | exact below_drewN (Below.refl _ _) _ | exact below_drewN ((Below.refl _ _).alloc (Nat.le_refl _) _) _ | go_grown) hb2; obtain ⟨hc, hf⟩ := bcell hb2; have hz := hb2.size; (try simp only [World.size_drew, World.size_alloc] at hz); (first | (have hz1 : wx.heap.size < w2.heap.size := Nat.lt_of_succ_lt hz) | (have hz1 : wx.heap.size < w2.heap.size := hz) | skip))
              all_goals (go_wp2_with fail)
              all_goals go_meet
              all_goals
                refine ⟨_, ?_, rfl, ?_, ?_⟩
                · have h1 := hbw.size
                  first | exact Nat.le_refl _ | exact h1 | omega
                · apply blk_eq
                  case h =>
                    repeat (first | (with_reducible refine Blk.drew ?_) | (with_reducible refine Blk.drewN ?_ _))
                    first
                    | (with_reducible refine Blk.new' ?_; simp; done)
                    | (with_reducible refine Blk.alloc (Blk.new' ?_) _; simp; done)
                    | (first
                       | with_reducible refine Blk.set4 (a := .int .i64 0) (b := .string ⟨#[]⟩) (c := .int .i64 0) (d := .int .i64 0) ?_ _ _ _ _
                       | with_reducible refine Blk.alloc (Blk.set4 (a := .int .i64 0) (b := .string ⟨#[]⟩) (c := .int .i64 0) (d := .int .i64 0) ?_ _ _ _ _) _
                       refine Blk.below ?_ hb2 (by first | (simp; done) | (simp; omega))
                       repeat (first | (with_reducible refine Blk.drew ?_) | (with_reducible refine Blk.drewN ?_ _))
                       first
                       | (refine Blk.new' ?_; simp; done)
                       | (refine Blk.alloc (Blk.new' ?_) _; simp; done)
                       | fail)
                    | fail
                  case e => first | exact key_eq (by decide) (bs_append _ _) | fail
                · first | go_grown | fail
            case rest =>
              obtain ⟨g, hgl, rfl, hkb, hbz⟩ := hcut
              have HB2 := ext_below hB hbz
              have hr2 := (unhide HR).below hbz (unhide HR).lt
              have hres2 := (unhide HRES).below hbz (unhide HRES).lt
              have hown2 := own_ext (unhide HO) hbz
              have hgw : w.heap.size + 1 + 1 ≤ g := Nat.le_trans (unhide HR).lt hgl
              have hgz := hkb.lt
              have hgo := own_far (unhide HO) hgl
              clear HR HRES HO hB hbz r0 r1 r2 r3 s0 s1 s2 s3
              obtain ⟨r0, r1, r2, r3⟩ := hr2.f2
              obtain ⟨s0, s1, s2, s3⟩ := hres2.f2
              obtain ⟨k0, k1, k2, k3, k4, k5⟩ := hkb.f4
              have HR := hide hr2
              have HRES := hide hres2
              have HO := hide hown2
              have HKB := hide hkb
              clear hr2 hres2 hown2 hkb hgl
              by_cases h5 : n % 5 = 4
              · have h5' : (n % 5 == 4) = true := by rw [h5]; rfl
                have H5 := Lib.hid h5
                clear h5
                have HKY := Lib.hid (show madeKy school k n day = ⟨1 + 2 * (k : Int), bs (secB k ++ Lib.itoa school), day, (day + 1 + n / 5 % 300)⟩ by unfold madeKy; rw [if_pos H5.out])
                have hks : ∀ (wv : World) (q : Nat), q = wv.heap.size → Slc (wv.alloc (.cells #[.int .i64 (1 + 2 * (k : Int)), .string (bs (secB k ++ Lib.itoa school)), .int .i64 day, .int .i64 (day + 1 + n / 5 % 300)] 28)) (wv.alloc (.cells #[.int .i64 (1 + 2 * (k : Int)), .string (bs (secB k ++ Lib.itoa school)), .int .i64 day, .int .i64 (day + 1 + n / 5 % 300)] 28)).heap.size (some ⟨q, 0, none⟩) 1 1 4 (madeKy school k n day).cells := by
                  intro wv q hq
                  rw [HKY.out]
                  exact slc_new4' _ _ _ _ _ _ _ hq
                have HKS := hide hks
                clear hks
                go_wp2_with (at_builtin; go_loud (refine wpList_append_slc _ rfl _ _ 32 rfl (w.heap.size + 1 + 1) 28 i0 _ 4 40 Tryd.underlying32 hi hz0 hz1 hz2 rfl (by decide) _ k (kcells pre) rfl (World.ownsRow.alloc (ownsRow_setCell_other (a := ⟨g, 3, none⟩) (unhide HO) hgo (.int .i64 (day + 1 + n / 5 % 300))) _) _ _ 1 1 (madeKy school k n day).cells rfl (unhide HKS _ _ (by simp)) (cells_one _) (by unfold maxLen; omega) (by omega) (by go_size) ?_); intro A2 c2 w3 hown3 hgrow; have hr3 := Blk.keepApp ((Blk.far (unhide HR) (p := ⟨g, 3, none⟩) (by simp; omega) (.int .i64 (day + 1 + n / 5 % 300))).alloc _) (World.ownsRow.alloc (ownsRow_setCell_other (a := ⟨g, 3, none⟩) (unhide HO) hgo (.int .i64 (day + 1 + n / 5 % 300))) _) hgrow (by decide); have hs3 := Blk.keepApp ((Blk.far (unhide HRES) (p := ⟨g, 3, none⟩) (by simp; omega) (.int .i64 (day + 1 + n / 5 % 300))).alloc _) (World.ownsRow.alloc (ownsRow_setCell_other (a := ⟨g, 3, none⟩) (unhide HO) hgo (.int .i64 (day + 1 + n / 5 % 300))) _) hgrow (by decide); obtain ⟨o0, o1, o2, o3⟩ := hr3.f2)
                have HB3 := below_append (B := w.heap.size) ((HB2.setCell (p := ⟨g, 3, none⟩) (by simp; omega) (.int .i64 (day + 1 + n / 5 % 300))).alloc (by go_size) _) hgrow (fun q hq => Nat.le_trans (by omega) (own_block_le (unhide HO) q hq)) (Nat.le_refl _)
                go_roundw
                case rel =>
                  refine ⟨k + 1, _, pre ++ [madeKy school k n day], A2, c2, by omega, by rw [List.length_append, HPL.out]; rfl, rfl, ret_i (by omega), by omega, by omega, hr3.set_ 1 _, hs3.far (p := ⟨w.heap.size + 1, 1, none⟩) (by simp) _, ?_, ?_, HB3.setCell (by simp) _⟩
                  · rw [kcells_snoc]; exact ownsRow_setCell_below hown3 (by simp) _
                  · rw [HM.out, HF.out, List.append_assoc]; rfl
                case measure => simp only [intOf]; omega
              · have h5' : (n % 5 == 4) = false := by rw [beq_eq_false_iff_ne]; exact h5
                have H5 := Lib.hid h5
                clear h5
                have HKY := Lib.hid (show madeKy school k n day = ⟨1 + 2 * (k : Int), bs (secB k ++ Lib.itoa school), day, 0⟩ by unfold madeKy; rw [if_neg H5.out])
                have hks : ∀ (wv : World) (q : Nat), q = wv.heap.size → Slc (wv.alloc (.cells #[.int .i64 (1 + 2 * (k : Int)), .string (bs (secB k ++ Lib.itoa school)), .int .i64 day, .int .i64 0] 28)) (wv.alloc (.cells #[.int .i64 (1 + 2 * (k : Int)), .string (bs (secB k ++ Lib.itoa school)), .int .i64 day, .int .i64 0] 28)).heap.size (some ⟨q, 0, none⟩) 1 1 4 (madeKy school k n day).cells := by
                  intro wv q hq
                  rw [HKY.out]
                  exact slc_new4' _ _ _ _ _ _ _ hq
                have HKS := hide hks
                clear hks
                go_wp2_with (at_builtin; go_loud (refine wpList_append_slc _ rfl _ _ 32 rfl (w.heap.size + 1 + 1) 28 i0 _ 4 40 Tryd.underlying32 hi hz0 hz1 hz2 rfl (by decide) _ k (kcells pre) rfl (World.ownsRow.alloc (unhide HO) _) _ _ 1 1 (madeKy school k n day).cells rfl (unhide HKS _ _ (by simp)) (cells_one _) (by unfold maxLen; omega) (by omega) (by go_size) ?_); intro A2 c2 w3 hown3 hgrow; have hr3 := Blk.keepApp ((unhide HR).alloc _) (World.ownsRow.alloc (unhide HO) _) hgrow (by decide); have hs3 := Blk.keepApp ((unhide HRES).alloc _) (World.ownsRow.alloc (unhide HO) _) hgrow (by decide); obtain ⟨o0, o1, o2, o3⟩ := hr3.f2)
                have HB3 := below_append (B := w.heap.size) ((HB2).alloc (by go_size) _) hgrow (fun q hq => Nat.le_trans (by omega) (own_block_le (unhide HO) q hq)) (Nat.le_refl _)
                go_roundw
                case rel =>
                  refine ⟨k + 1, _, pre ++ [madeKy school k n day], A2, c2, by omega, by rw [List.length_append, HPL.out]; rfl, rfl, ret_i (by omega), by omega, by omega, hr3.set_ 1 _, hs3.far (p := ⟨w.heap.size + 1, 1, none⟩) (by simp) _, ?_, ?_, HB3.setCell (by simp) _⟩
                  · rw [kcells_snoc]; exact ownsRow_setCell_below hown3 (by simp) _
                  · rw [HM.out, HF.out, List.append_assoc]; rfl
                case measure => simp only [intOf]; omega
    · obtain rfl : k = 3 := by omega
      go_wp2
      rw [HM.out]
      have hlen := HPL.out
      refine bodyPost_ret (v := .agg #[.int .i64 school, .slice A' 3 c']) ?_ rfl ⟨A', c', ?_, ?_, ?_⟩
      · simp [results, Tryd.results28, go_sem, s0, s1]
      · rw [List.length_append, hlen]; rfl
      · have h := ksl_of (ownsRow_setCell_below (a := ⟨w.heap.size, 1, none⟩) (ownsRow_setCell_below (a := ⟨w.heap.size, 0, none⟩) (unhide HO) (by simp; omega) (.int .i64 school)) (by simp; omega) (.slice A' 3 c')) hlen
        rw [show pre ++ madeL school l (3 - 3) 3 day = pre from by simp [madeL]]
        exact h
      · go_grown

end Go.Proofs.YtikinldimecgaaaDoor
