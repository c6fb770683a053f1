/- The walk of the law KeyCurrent. -/
import Derived.Test.YtikinldimecgaaaDoorKeyU
import Derived.Test.YtikinldimecgaaaDoorKeyX
namespace Go.Proofs.YtikinldimecgaaaDoor
open Go.RowKit

set_option maxRecDepth 20000 in
set_option maxHeartbeats 8000000 in
theorem current_any (S : Int) (A : Option Addr) (c : Nat) (l : List Int) (p0 p1 p2 q0 q1 q2 : Int) (t : ByteArray) (day : Int) (w : World) (hl : ISl w A c l) (hS0 : 0 ≤ S) (hS1 : S < 256)
    (hp0 : Rng p0) (hp1 : Rng p1) (hp2 : Rng p2) (hq0 : Rng q0) (hq1 : Rng q1) (hq2 : Rng q2) (hd0 : 0 ≤ day) (hd1 : day < 65536) (hT : Tab w) (ht : t.size ≤ 9223372036854775807) :
    Calls Tryd.prog 8 #[.agg #[.int .u8 S, .slice A l.length c, .int .i64 p0, .int .i64 p1, .int .i64 p2, .int .i64 q0, .int .i64 q1, .int .i64 q2], .string t, .int .u16 day] w fun e w' =>
      e = .returned (.bool true) ∧ Below w.heap.size w w' := by
  have HL := Lib.hid hl
  have HR := Lib.hid hl.2
  clear hl
  go_enter Tryd.func8, Tryd.ntmps8
  go_wp2_with fail
  refine (sanity_any _ (hT.below (by go_grown))).mono ?_
  rintro e w1 ⟨rfl, hb1⟩
  have HB1 := ext_below (w0 := w) (by go_grown) hb1
  have hcb : Blk w1 w.heap.size 26 #[.int .u8 S, .slice A l.length c, .int .i64 p0, .int .i64 p1, .int .i64 p2, .int .i64 q0, .int .i64 q1, .int .i64 q2] := (Blk.new' rfl).below hb1 (by simp)
  obtain ⟨s0, s1, s2, s3, s4, s5, s6, s7, s8, s9⟩ := hcb.f8
  clear hb1 hcb
  go_wp2_with fail
  refine (rings_any S A c l p0 p1 p2 q0 q1 q2 _ ⟨HL.out.1.below (HB1.trans (by go_grown)) (Nat.le_refl _) |>.more (by have := HB1.size; omega), HL.out.2⟩ hS0 hS1 hp0 hp1 hp2 hq0 hq1 hq2).mono ?_
  rintro e w2 ⟨⟨x0, k0, A0, c0⟩, ⟨x1, k1, A1, c1⟩, ⟨x2, k2, A2, c2⟩, rfl, hx0, hk0, hok, -, -, hb2⟩
  have HB2 := ext_below (w0 := w) (by go_grown) hb2
  have hT2 := hT.below HB2
  subst hx0 hk0
  have HMD := Lib.hid (madeD_md (1 + S % 8) l (by omega) HR.out)
  have HMI := Lib.hid (made_idx (1 + S % 8) l (by omega) HR.out)
  have hml := (madeD_ok (1 + S % 8) l (by omega) HR.out).2
  generalize hks : madeD (1 + S % 8) l = ks at *
  clear hks
  have hks0 : KSl w2 A0 c0 ks := hok.sl
  have HKS := hide hks0
  have HSEC : Hid (∀ k ∈ ks, k.sec.size ≤ 100000) := Lib.hid (fun k hk => (hok.ok k hk).1)
  clear hb2 hok hks0 s0 s1 s2 s3 s4 s5 s6 s7 s8 s9
  obtain ⟨sc, hsc, hsc0, hsc1⟩ : ∃ sc, 1 + S % 8 = sc ∧ 1 ≤ sc ∧ sc ≤ 8 := ⟨_, rfl, by omega, by omega⟩
  rw [hsc]
  clear hsc
  have hix := idx3_0
  have HCS := Lib.hid (curD_spec (day % 400) ks (fun i x hx => (HMD.out i x hx).2))
  go_wp2_with fail
  refine (cur_any A0 c0 sc ks (day % 400) _ ((unhide HKS).below (by go_grown) (Nat.le_refl _) |>.more (by go_size)) (by omega)).mono ?_
  rintro e wp ⟨rfl, hbc⟩
  have hbp := ext_below (w0 := w2) (by go_grown) hbc
  have hrp : Blk wp w2.heap.size 34 #[.int .i64 sc, .slice A0 ks.length c0] := (Blk.new' rfl).below hbc (by simp)
  have HBP := ext_below (w0 := w) HB2 hbp
  have hTP := hT2.below hbp
  have hksp : KSl wp A0 c0 ks := Slc.more ((unhide HKS).below hbp (Nat.le_refl _)) hbp.size
  have HKP := hide hksp
  have HRP := hide hrp
  obtain ⟨r0, r1, r2, r3⟩ := hrp.f2
  clear hbp hbc hT2 HKS hrp hksp HB2 HB1
  obtain ⟨idv, th, hcd, hct⟩ : ∃ idv th, curD (day % 400) ks = (idv, th) ∧ th = ks.any (fun k => curB k (day % 400)) := ⟨_, _, rfl, HCS.out.1⟩
  have HCD := Lib.hid hcd
  have HCT := Lib.hid hct
  have hc1 := HCS.out.2
  rw [hcd] at hc1 ⊢
  have HC1 := hide hc1
  clear hcd hct hc1 HCS
  have ha0 : 0 ≤ day % 400 := by omega
  have ha1 : day % 400 < 400 := by omega
  go_wp2_with fail
  generalize htx : t.extract 0 (min (t.size : Int) 40).toNat = tx
  have htz : tx.size ≤ 40 := by rw [← htx, ByteArray.size_extract]; omega
  clear htx r0 r1 r2 r3
  generalize w2.heap.size = g at *
  go_loopw [12, 39] (fun f v wr => ∃ i : Nat, i ≤ ks.length ∧ v = .int .i64 i ∧ f = .bool ((ks.take i).any (fun k => curB k (day % 400))) ∧ Below wp.heap.size wp wr) (fun _ v _ => ks.length - (intOf v).toNat)
  case atStart => exact ⟨0, by omega, rfl, rfl, Below.refl _ _⟩
  case round =>
    obtain ⟨i, hi, rfl, rfl, hB⟩ := hrel
    have hkr : KSl wr A0 c0 ks := Slc.more ((unhide HKP).below hB (Nat.le_refl _)) hB.size
    have hrr := (unhide HRP).below hB (unhide HRP).lt
    have hTr := hTP.below hB
    have HBr := ext_below HBP hB
    have HRR := hide hrr
    have HKR := hide hkr
    obtain ⟨r0, r1, r2, r3⟩ := hrr.f2
    clear hrr
    by_cases hlt : i < ks.length
    · obtain ⟨k, hki⟩ : ∃ k, ks[i]? = some k := ⟨_, List.getElem?_eq_getElem hlt⟩
      obtain ⟨b, off, hA, hb, k0, k1', k2', k3⟩ := hkr.sec hki
      subst hA
      have hidx := HMI.out i k hki
      obtain ⟨hmd, -⟩ := HMD.out i k hki
      obtain ⟨d0, d1, d2, d3, d4, d5, d6, d7⟩ := hmd
      have hsec0 : k.sec.size ≠ 0 := by omega
      have hrid : Rng k.id := by constructor <;> omega
      have hrsc : Rng sc := by constructor <;> omega
      have HSO := Lib.hid (sign_own ks i k.id hidx)
      have HVO : Hid (validE sc ks k.id tx (bs (signM sc ks k.id tx)) (day % 400) (day % 400) = wantE k (day % 400) (day % 400)) := Lib.hid (valid_own sc ks i k tx (day % 400) (day % 400) hidx hki hsec0)
      have HW := Lib.hid (want_cur k (day % 400))
      have HAT := Lib.hid (any_take ks (fun k => curB k (day % 400)) i k hki)
      obtain ⟨hce, hcl⟩ := (unhide HC1) i k hki
      have HCE := hide hce
      have HCL := hide hcl
      generalize hfb : (ks.take i).any (fun k => curB k (day % 400)) = fb at *
      clear hki hidx hkr hce hcl hfb
      go_wp2_with fail
      refine (sign_any (some ⟨b, off, none⟩) c0 sc ks k.id tx _ ((unhide HKR).below (by go_grown) (Nat.le_refl _) |>.more (by go_size)) (by omega) HSEC.out hrsc hrid (by omega) (hTr.below (by go_grown))).mono ?_
      rintro e w3 ⟨rfl, hb3⟩
      rw [HSO.out]
      have hb3' := ext_below (w0 := wr) (by go_grown) hb3
      have HB3 := ext_below HBr hb3'
      have hkb : Blk w3 wr.heap.size 28 #[.int .i64 k.id, .string k.sec, .int .i64 k.fr, .int .i64 k.st] := (Blk.new' rfl).below hb3 (by simp)
      have hrb := (unhide HRR).below hb3' (unhide HRR).lt
      have hks3 : KSl w3 (some ⟨b, off, none⟩) c0 ks := Slc.more ((unhide HKR).below hb3' (Nat.le_refl _)) hb3'.size
      have hT3 := hTr.below hb3'
      have hbp3 := hB.trans (hb3'.mono hB.size)
      have HKB := hide hkb
      have HK3 := hide hks3
      obtain ⟨m0, m1, m2, m3, m4, m5⟩ := hkb.f4
      clear r0 r1 r2 r3
      obtain ⟨r0, r1, r2, r3⟩ := hrb.f2
      clear hb3 hb3' hkb hrb hks3 hTr k0 k1' k2' k3 hb HRR HKR hB
      go_wp2_with fail
      refine (valid_any (some ⟨b, off, none⟩) c0 sc ks k.id tx (bs (signM sc ks k.id tx)) (day % 400) (day % 400) _ ((unhide HK3).below (by go_grown) (Nat.le_refl _) |>.more (by go_size)) (by omega) HSEC.out hrsc hrid (by omega) (hT3.below (by go_grown))).mono ?_
      rintro e w5 ⟨rfl, hb5⟩
      rw [HVO.out]
      have hb5' := ext_below (w0 := w3) (by go_grown) hb5
      have hbp5 := hbp3.trans (hb5'.mono hbp3.size)
      obtain ⟨m0, m1, m2, m3, m4, m5⟩ := ((unhide HKB).below hb5' (unhide HKB).lt).f4
      clear hb5 hb5' HK3 HKB r0 r1 r2 r3
      generalize wr.heap.size = gk at *
      rcases HW.out with ⟨hw, hcb⟩ | ⟨hw, hcb⟩ | ⟨hw, hcb⟩
      all_goals
        rw [hw]
        have hle := (unhide HCL)
        have heq := (unhide HCE)
        rw [hcb] at hle heq
        have HFN : Hid (((ks.take (i + 1)).any fun k => curB k (day % 400)) = (fb || curB k (day % 400))) := HAT
        rw [hcb] at HFN
        clear hw HAT HW
        by_cases z1 : k.id = idv
        all_goals
          by_cases z2 : idv < k.id
          all_goals
            first
            | (exfalso; first | (have := hle z2; cases this; done) | (have := heq z1; cases this; done) | omega)
            | (clear hle heq hcb
               have z1' : (k.id == idv) = decide (k.id = idv) := rfl
               cases fb
               all_goals
                 go_wp2_with fail
                 go_roundw
                 case rel => exact ⟨i + 1, by omega, by go_num, by rw [HFN.out]; rfl, hbp5⟩
                 case measure => simp [intOf]; omega)
    · obtain rfl : i = ks.length := by omega
      have hfin : ((ks.take ks.length).any fun k => curB k (day % 400)) = th := by rw [List.take_length]; exact HCT.out.symm
      rw [hfin]
      cases th
      all_goals
        go_wp2_with fail
        go_ret
        exact ⟨rfl, HBr⟩

end Go.Proofs.YtikinldimecgaaaDoor
