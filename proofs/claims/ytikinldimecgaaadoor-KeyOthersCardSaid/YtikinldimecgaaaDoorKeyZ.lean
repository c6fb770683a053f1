/- The walk of the law KeyOthers. -/
import Derived.Test.YtikinldimecgaaaDoorKeyU
namespace Go.Proofs.YtikinldimecgaaaDoor
open Go.RowKit

structure OSt (w : World) (g g2 gk : Nat) (sc sc2 : Int) (A : Option Addr) (c : Nat) (ks : List Ky) (k : Ky) : Prop where
  r1 : Blk w g 34 #[.int .i64 sc, .slice A ks.length c]
  r2 : Blk w g2 34 #[.int .i64 sc2, .slice A ks.length c]
  kb : Blk w gk 28 #[.int .i64 k.id, .string k.sec, .int .i64 k.fr, .int .i64 k.st]
  sl : KSl w A c ks
  tb : Tab w
theorem OSt.below {w w' : World} {g g2 gk c : Nat} {sc sc2 : Int} {A : Option Addr} {ks : List Ky} {k : Ky} (h : OSt w g g2 gk sc sc2 A c ks k) (hb : Below w.heap.size w w') : OSt w' g g2 gk sc sc2 A c ks k :=
  ⟨h.r1.below hb h.r1.lt, h.r2.below hb h.r2.lt, h.kb.below hb h.kb.lt, Slc.more (h.sl.below hb (Nat.le_refl _)) hb.size, h.tb.below hb⟩
theorem str_ne {a b : List UInt8} (h : a ≠ b) : ((bs a).toList == (bs b).toList) = false := by
  rw [beq_eq_false_iff_ne]
  exact fun he => h (by simpa [toList_data, bs] using he)
theorem mark_len (a b : List UInt8) : (markD a b).length = 8 := rfl
theorem valid_mark (sc : Int) (ks : List Ky) (i : Nat) (k : Ky) (text : ByteArray) (m : List UInt8) (hi : idxFrom k.id ks 0 = (i : Int)) (hk : ks[i]? = some k) (hs : k.sec.size ≠ 0) (ht : 0 ≤ k.st) :
    validE sc ks k.id text (bs m) k.fr 0 = if m = signM sc ks k.id text then 0 else 11 := by
  have hS : signM sc ks k.id text = markD k.sec.data.toList (msgD sc k.id text) := by unfold signM; rw [if_neg (by omega), kyAt_eq hi hk]
  have hV : validE sc ks k.id text (bs m) k.fr 0 = validK k (msgD sc k.id text) (bs m) k.fr 0 := by unfold validE; rw [if_neg (by omega), kyAt_eq hi hk]
  rw [hS, hV]
  unfold validK
  rw [if_neg (by omega)]
  by_cases he : m = markD k.sec.data.toList (msgD sc k.id text)
  · rw [if_pos he, he, show chkD k.sec (bs (msgD sc k.id text)) (bs (markD k.sec.data.toList (msgD sc k.id text))) = true from chkD_mark k.sec (bs (msgD sc k.id text)) hs, if_neg (by decide), if_neg (by omega)]
  · have hc : chkD k.sec (bs (msgD sc k.id text)) (bs m) = false := by
      unfold chkD
      rw [Bool.and_eq_false_iff]
      right
      rw [beq_eq_false_iff_ne]
      intro h
      exact he (by simpa [toList_data, bs] using h)
    rw [if_neg he, if_pos hc]

set_option maxRecDepth 20000 in
set_option maxHeartbeats 8000000 in
theorem others_any (S : Int) (A : Option Addr) (c : Nat) (l : List Int) (p0 p1 p2 q0 q1 q2 : Int) (ta tb : ByteArray) (w : World) (hl : ISl w A c l) (hS0 : 0 ≤ S) (hS1 : S < 256)
    (hp0 : Rng p0) (hp1 : Rng p1) (hp2 : Rng p2) (hq0 : Rng q0) (hq1 : Rng q1) (hq2 : Rng q2) (hT : Tab w) (hta : ta.size ≤ 9223372036854775807) (htb : tb.size ≤ 9223372036854775807) :
    Calls Tryd.prog 6 #[.agg #[.int .u8 S, .slice A l.length c, .int .i64 p0, .int .i64 p1, .int .i64 p2, .int .i64 q0, .int .i64 q1, .int .i64 q2], .string ta, .string tb] w fun e w' =>
      e = .returned (.bool true) ∧ Below w.heap.size w w' := by
  have HL := Lib.hid hl
  have HR := Lib.hid hl.2
  clear hl
  go_enter Tryd.func6, Tryd.ntmps6
  go_wp2_with fail
  refine (sanity_any _ (hT.below (by go_grown))).mono ?_
  rintro e w1 ⟨rfl, hb1⟩
  have HB1 := ext_below (w0 := w) (by go_grown) hb1
  have hcb : Blk w1 w.heap.size 26 #[.int .u8 S, .slice A l.length c, .int .i64 p0, .int .i64 p1, .int .i64 p2, .int .i64 q0, .int .i64 q1, .int .i64 q2] := (Blk.new' rfl).below hb1 (by simp)
  obtain ⟨s0, s1, s2, s3, s4, s5, s6, s7, s8, s9⟩ := hcb.f8
  clear hb1 hcb
  go_wp2_with fail
  refine (rings_any S A c l p0 p1 p2 q0 q1 q2 _ ⟨HL.out.1.below (HB1.trans (by go_grown)) (Nat.le_refl _) |>.more (by have := HB1.size; omega), HL.out.2⟩ hS0 hS1 hp0 hp1 hp2 hq0 hq1 hq2).mono ?_
  rintro e w2 ⟨⟨x0, k0, A0, c0⟩, ⟨x1, k1, A1, c1⟩, ⟨x2, k2, A2, c2⟩, rfl, hx0, hk0, hok, -, -, hb2⟩
  have HB2 := ext_below (w0 := w) (by go_grown) hb2
  have hT2 := hT.below HB2
  subst hx0 hk0
  have HMD := Lib.hid (madeD_md (1 + S % 8) l (by omega) HR.out)
  have HMI := Lib.hid (made_idx (1 + S % 8) l (by omega) HR.out)
  have hml := (madeD_ok (1 + S % 8) l (by omega) HR.out).2
  generalize hks : madeD (1 + S % 8) l = ks at *
  clear hks
  have hks0 : KSl w2 A0 c0 ks := hok.sl
  have HKS := hide hks0
  have HSEC : Hid (∀ k ∈ ks, k.sec.size ≤ 100000) := Lib.hid (fun k hk => (hok.ok k hk).1)
  clear hb2 hok hks0 s0 s1 s2 s3 s4 s5 s6 s7 s8 s9
  obtain ⟨sc, hsc, hsc0, hsc1⟩ : ∃ sc, 1 + S % 8 = sc ∧ 1 ≤ sc ∧ sc ≤ 8 := ⟨_, rfl, by omega, by omega⟩
  rw [hsc]
  clear hsc
  have hix := idx3_0
  go_wp2_with fail
  go_quiet (fail)
  have hm8 : 0 ≤ sc % 8 := by omega
  have hm9 : sc % 8 < 8 := by omega
  go_wp2_with fail
  generalize hxa : ta.extract 0 (min (ta.size : Int) 40).toNat = xa
  have hza : xa.size ≤ 40 := by rw [← hxa, ByteArray.size_extract]; omega
  generalize hxb : tb.extract 0 (min (tb.size : Int) 40).toNat = xb
  have hzb : xb.size ≤ 40 := by rw [← hxb, ByteArray.size_extract]; omega
  clear hxa hxb
  obtain ⟨sd, hsd, hsd0, hsd1⟩ : ∃ sd, 1 + sc % 8 = sd ∧ 1 ≤ sd ∧ sd ≤ 8 := ⟨_, rfl, by omega, by omega⟩
  rw [hsd]
  clear hsd hm8 hm9
  obtain ⟨wp, hwp⟩ : ∃ wp, wp = ((w2.alloc (.cells #[.int .i64 sc, .slice A0 ks.length c0] 34)).drewN nq).alloc (.cells #[.int .i64 sd, .slice A0 ks.length c0] 34) := ⟨_, rfl⟩
  have hr1 : Blk wp w2.heap.size 34 #[.int .i64 sc, .slice A0 ks.length c0] := by rw [hwp]; exact ((Blk.new' rfl).drewN nq).alloc _
  have hr2 : Blk wp (w2.heap.size + 1) 34 #[.int .i64 sd, .slice A0 ks.length c0] := by rw [hwp]; exact Blk.new' (by simp)
  have hbp : Below w2.heap.size w2 wp := by rw [hwp]; exact (below_drewN ((Below.refl _ _).alloc (Nat.le_refl _) _) nq).alloc (by simp) _
  rw [← hwp]
  clear hwp
  have HBP := ext_below (w0 := w) HB2 hbp
  have hTP := hT2.below hbp
  have hksp : KSl wp A0 c0 ks := Slc.more ((unhide HKS).below hbp (Nat.le_refl _)) hbp.size
  have HKP := hide hksp
  have HR1 := hide hr1
  have HR2 := hide hr2
  clear hbp hT2 HKS hr1 hr2 hksp HB2 HB1
  generalize w2.heap.size = g at *
  have hrsc : Rng sc := by constructor <;> omega
  have hrsd : Rng sd := by constructor <;> omega
  go_loopw [44] (fun v wr => ∃ i : Nat, i ≤ ks.length ∧ v = .int .i64 i ∧ Below wp.heap.size wp wr) (fun v _ => ks.length - (intOf v).toNat)
  case atStart => exact ⟨0, by omega, rfl, Below.refl _ _⟩
  case round =>
    obtain ⟨i, hi, rfl, hB⟩ := hrel
    have hkr : KSl wr A0 c0 ks := Slc.more ((unhide HKP).below hB (Nat.le_refl _)) hB.size
    have hr1 := (unhide HR1).below hB (unhide HR1).lt
    have hr2 := (unhide HR2).below hB (unhide HR2).lt
    have hTr := hTP.below hB
    have HBr := ext_below HBP hB
    have HRA := hide hr1
    have HRB := hide hr2
    have HKR := hide hkr
    obtain ⟨r0, r1, r2, r3⟩ := hr1.f2
    obtain ⟨u0, u1, u2, u3⟩ := hr2.f2
    clear hr1 hr2
    by_cases hlt : i < ks.length
    · obtain ⟨k, hki⟩ : ∃ k, ks[i]? = some k := ⟨_, List.getElem?_eq_getElem hlt⟩
      obtain ⟨b, off, hA, hb, k0, k1', k2', k3⟩ := hkr.sec hki
      subst hA
      have hidx := HMI.out i k hki
      obtain ⟨hmd, -⟩ := HMD.out i k hki
      obtain ⟨d0, d1, d2, d3, d4, d5, d6, d7⟩ := hmd
      have hsec0 : k.sec.size ≠ 0 := by omega
      have hrid : Rng k.id := by constructor <;> omega
      have HSO := Lib.hid (sign_own ks i k.id hidx)
      obtain ⟨x, hx⟩ : ∃ x, signM sc ks k.id xa = x := ⟨_, rfl⟩
      obtain ⟨y, hy⟩ : ∃ y, signM sc ks k.id xb = y := ⟨_, rfl⟩
      obtain ⟨z, hz⟩ : ∃ z, signM sd ks k.id xa = z := ⟨_, rfl⟩
      have HSM : Hid (signM sc ks k.id xa = markD k.sec.data.toList (msgD sc k.id xa)) := Lib.hid (by unfold signM; rw [if_neg (by omega), kyAt_eq hidx hki])
      have hl8 : (bs x).size = 8 := by rw [← hx, HSM.out]; rfl
      have HDC : Hid (chkD k.sec (bs (msgD sc k.id xa)) (bs x) = true) := Lib.hid (by rw [← hx, HSM.out]; exact chkD_mark k.sec (bs (msgD sc k.id xa)) hsec0)
      obtain ⟨v1, hv1, hc1⟩ : ∃ v1, validE sc ks k.id xb (bs x) k.fr 0 = v1 ∧ ((v1 = 0 ∧ x = y) ∨ (v1 = 11 ∧ x ≠ y)) := by
        refine ⟨_, valid_mark sc ks i k xb x hidx hki hsec0 d6, ?_⟩
        rw [hy]
        by_cases h : x = y
        · exact .inl ⟨if_pos h, h⟩
        · exact .inr ⟨if_neg h, h⟩
      obtain ⟨v2, hv2, hc2⟩ : ∃ v2, validE sd ks k.id xa (bs x) k.fr 0 = v2 ∧ ((v2 = 0 ∧ x = z) ∨ (v2 = 11 ∧ x ≠ z)) := by
        refine ⟨_, valid_mark sd ks i k xa x hidx hki hsec0 d6, ?_⟩
        rw [hz]
        by_cases h : x = z
        · exact .inl ⟨if_pos h, h⟩
        · exact .inr ⟨if_neg h, h⟩
      have HX := Lib.hid hx
      have HY := Lib.hid hy
      have HZ := Lib.hid hz
      have HV1 := Lib.hid hv1
      have HV2 := Lib.hid hv2
      have HC1 := hide hc1
      have HC2 := hide hc2
      clear hx hy hz hv1 hv2 hc1 hc2
      clear hki hidx hkr
      go_wp2_with fail
      refine (sign_any (some ⟨b, off, none⟩) c0 sc ks k.id xa _ ((unhide HKR).below (by go_grown) (Nat.le_refl _) |>.more (by go_size)) (by omega) HSEC.out hrsc hrid (by omega) (hTr.below (by go_grown))).mono ?_
      rintro e w3 ⟨rfl, hb3⟩
      rw [HSO.out, HX.out]
      have hb3' := ext_below (w0 := wr) (by go_grown) hb3
      have HO3 := hide (p := OSt w3 g (g + 1) wr.heap.size sc sd (some ⟨b, off, none⟩) c0 ks k) ⟨(unhide HRA).below hb3' (unhide HRA).lt, (unhide HRB).below hb3' (unhide HRB).lt, (Blk.new' rfl).below hb3 (by simp), Slc.more ((unhide HKR).below hb3' (Nat.le_refl _)) hb3'.size, hTr.below hb3'⟩
      have HB3 := hB.trans (hb3'.mono hB.size)
      clear hb3 hb3' hTr r0 r1 r2 r3 u0 u1 u2 u3 k0 k1' k2' k3 hb HRA HRB HKR hB
      generalize wr.heap.size = gk at *
      obtain ⟨r0, r1, r2, r3⟩ := (unhide HO3).r1.f2
      obtain ⟨u0, u1, u2, u3⟩ := (unhide HO3).r2.f2
      obtain ⟨m0, m1, m2, m3, m4, m5⟩ := (unhide HO3).kb.f4
      go_wp2_with fail
      refine (sign_any (some ⟨b, off, none⟩) c0 sc ks k.id xb _ ((unhide HO3).sl.below (by go_grown) (Nat.le_refl _) |>.more (by go_size)) (by omega) HSEC.out hrsc hrid (by omega) ((unhide HO3).tb.below (by go_grown))).mono ?_
      rintro e w4 ⟨rfl, hb4⟩
      rw [HSO.out, HY.out]
      have hb' := ext_below (w0 := w3) (by go_grown) hb4
      have HO4 := hide ((unhide HO3).below hb')
      have HB4 := HB3.trans (hb'.mono HB3.size)
      clear hb4 hb' r0 r1 r2 r3 u0 u1 u2 u3 m0 m1 m2 m3 m4 m5 HO3
      obtain ⟨r0, r1, r2, r3⟩ := (unhide HO4).r1.f2
      obtain ⟨u0, u1, u2, u3⟩ := (unhide HO4).r2.f2
      obtain ⟨m0, m1, m2, m3, m4, m5⟩ := (unhide HO4).kb.f4
      go_wp2_with fail
      refine (sign_any (some ⟨b, off, none⟩) c0 sd ks k.id xa _ ((unhide HO4).sl.below (by go_grown) (Nat.le_refl _) |>.more (by go_size)) (by omega) HSEC.out hrsd hrid (by omega) ((unhide HO4).tb.below (by go_grown))).mono ?_
      rintro e w5 ⟨rfl, hb5⟩
      rw [HSO.out, HZ.out]
      have hb' := ext_below (w0 := w4) (by go_grown) hb5
      have HO5 := hide ((unhide HO4).below hb')
      have HB5 := HB4.trans (hb'.mono HB4.size)
      clear hb5 hb' r0 r1 r2 r3 u0 u1 u2 u3 m0 m1 m2 m3 m4 m5 HO4
      obtain ⟨r0, r1, r2, r3⟩ := (unhide HO5).r1.f2
      obtain ⟨u0, u1, u2, u3⟩ := (unhide HO5).r2.f2
      obtain ⟨m0, m1, m2, m3, m4, m5⟩ := (unhide HO5).kb.f4
      go_wp2_with fail
      refine (valid_any (some ⟨b, off, none⟩) c0 sc ks k.id xb (bs x) k.fr 0 _ ((unhide HO5).sl.below (by go_grown) (Nat.le_refl _) |>.more (by go_size)) (by omega) HSEC.out hrsc hrid (by omega) ((unhide HO5).tb.below (by go_grown))).mono ?_
      rintro e w6 ⟨rfl, hb6⟩
      rw [HV1.out]
      have hb' := ext_below (w0 := w5) (by go_grown) hb6
      have HO6 := hide ((unhide HO5).below hb')
      have HB6 := HB5.trans (hb'.mono HB5.size)
      clear hb6 hb' r0 r1 r2 r3 u0 u1 u2 u3 m0 m1 m2 m3 m4 m5 HO5
      obtain ⟨r0, r1, r2, r3⟩ := (unhide HO6).r1.f2
      obtain ⟨u0, u1, u2, u3⟩ := (unhide HO6).r2.f2
      obtain ⟨m0, m1, m2, m3, m4, m5⟩ := (unhide HO6).kb.f4
      go_wp2_with fail
      refine (valid_any (some ⟨b, off, none⟩) c0 sd ks k.id xa (bs x) k.fr 0 _ ((unhide HO6).sl.below (by go_grown) (Nat.le_refl _) |>.more (by go_size)) (by omega) HSEC.out hrsd hrid (by omega) ((unhide HO6).tb.below (by go_grown))).mono ?_
      rintro e w7 ⟨rfl, hb7⟩
      rw [HV2.out]
      have hb' := ext_below (w0 := w6) (by go_grown) hb7
      have HO7 := hide ((unhide HO6).below hb')
      have HB7 := HB6.trans (hb'.mono HB6.size)
      clear hb7 hb' r0 r1 r2 r3 u0 u1 u2 u3 m0 m1 m2 m3 m4 m5 HO6
      obtain ⟨r0, r1, r2, r3⟩ := (unhide HO7).r1.f2
      obtain ⟨u0, u1, u2, u3⟩ := (unhide HO7).r2.f2
      obtain ⟨m0, m1, m2, m3, m4, m5⟩ := (unhide HO7).kb.f4
      have l1 := itoa_len sc hrsc.1 hrsc.2
      have l2 := itoa_len k.id hrid.1 hrid.2
      rw [← bs_size] at l1 l2
      have hml := msg_len sc k.id xa hrsc.1 hrsc.2 hrid.1 hrid.2
      have hdc : ∀ w : World, Calls Tryd.prog 24 #[.string k.sec, .string (bs (Lib.itoa sc) ++ ⟨#[32]⟩ ++ bs (Lib.itoa k.id) ++ ⟨#[32]⟩ ++ xa), .string (bs x)] w fun e w' => e = .returned (.bool true) ∧ Below w.heap.size w w' := by
        intro w
        rw [msg_eq]
        refine (dcheck_any k.sec (bs (msgD sc k.id xa)) (bs x) w (by omega) (by omega)).mono ?_
        rintro e w' ⟨he, hb⟩
        rw [HDC.out] at he
        exact ⟨he, hb⟩
      have HDK := hide hdc
      clear hdc hml
      rcases (unhide HC1) with ⟨rfl, hxy⟩ | ⟨rfl, hxy⟩
      all_goals
        rcases (unhide HC2) with ⟨rfl, hxz⟩ | ⟨rfl, hxz⟩
        all_goals
          first
          | subst hxy
          | have hxy' : ((bs x).toList == (bs y).toList) = false := str_ne hxy
          first
          | subst hxz
          | have hxz' : ((bs x).toList == (bs z).toList) = false := str_ne hxz
          clear HC1 HC2
          go_wp2_with fail
          have hx : ∀ (x : Ext w7.heap.size w7) (bb oo : Nat), bb < w7.heap.size → x.val.cell? ⟨bb, oo, none⟩ = w7.cell? ⟨bb, oo, none⟩ := fun x bb oo h => x.ok.cell (p := ⟨bb, oo, none⟩) h
          refine wp_region_ext w7.heap.size (by kernel_rfl) (by kernel_rfl) ?_
          repeat (go_big_quiet_step ((first
            | (go_at_call 25; exact ext_of (Nat.le_refl _) (digits_any _ _ (by omega) (by omega)))
            | (go_at_call 24; exact ext_of (Nat.le_refl _) ((unhide HDK) _)))))
          refine wpQuiet_nil ?_
          rintro _ ⟨x', rfl⟩
          clear hx
          go_wp2_with fail
          go_roundw
          case rel => exact ⟨i + 1, by omega, by go_num, (HB7.trans (x'.ok.mono HB7.size))⟩
          case measure => simp [intOf]; omega
    · go_wp2_with fail
      go_ret
      exact ⟨rfl, HBr⟩

end Go.Proofs.YtikinldimecgaaaDoor
