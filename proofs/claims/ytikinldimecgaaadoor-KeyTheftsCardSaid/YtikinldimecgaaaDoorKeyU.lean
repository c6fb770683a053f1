/- The walk of the law KeyTrusts. -/
import Derived.Test.YtikinldimecgaaaDoorKeyT
namespace Go.Proofs.YtikinldimecgaaaDoor
open Go.RowKit

/- an element of an array of three rings -/
theorem idx3_0 (a b c d e f : Value) (w : World) : (Instr.index 35 (.agg #[a, b, c, d, e, f]) (.int .i64 0)).run Tryd.prog w = .ok (.agg #[a, b]) w := by kernel_rfl
theorem idx3_1 (a b c d e f : Value) (w : World) : (Instr.index 35 (.agg #[a, b, c, d, e, f]) (.int .i64 1)).run Tryd.prog w = .ok (.agg #[c, d]) w := by kernel_rfl
theorem idx3_2 (a b c d e f : Value) (w : World) : (Instr.index 35 (.agg #[a, b, c, d, e, f]) (.int .i64 2)).run Tryd.prog w = .ok (.agg #[e, f]) w := by kernel_rfl
def seenL (at_ : Int) (k : Ky) : List Int := [0, at_, at_ + 1, k.st, max (k.st - 1) 0]

set_option maxRecDepth 20000 in
set_option maxHeartbeats 8000000 in
theorem trusts_any (S : Int) (A : Option Addr) (c : Nat) (l : List Int) (p0 p1 p2 q0 q1 q2 : Int) (t : ByteArray) (day : Int) (w : World) (hl : ISl w A c l) (hS0 : 0 ≤ S) (hS1 : S < 256)
    (hp0 : Rng p0) (hp1 : Rng p1) (hp2 : Rng p2) (hq0 : Rng q0) (hq1 : Rng q1) (hq2 : Rng q2) (hd0 : 0 ≤ day) (hd1 : day < 65536) (hT : Tab w) (ht : t.size ≤ 9223372036854775807) :
    Calls Tryd.prog 5 #[.agg #[.int .u8 S, .slice A l.length c, .int .i64 p0, .int .i64 p1, .int .i64 p2, .int .i64 q0, .int .i64 q1, .int .i64 q2], .string t, .int .u16 day] w fun e w' =>
      e = .returned (.bool true) ∧ Below w.heap.size w w' := by
  have HL := Lib.hid hl
  have HR := Lib.hid hl.2
  clear hl
  go_enter Tryd.func5, Tryd.ntmps5
  go_wp2_with fail
  refine (sanity_any _ (hT.below (by go_grown))).mono ?_
  rintro e w1 ⟨rfl, hb1⟩
  have HB1 := ext_below (w0 := w) (by go_grown) hb1
  have hcb : Blk w1 w.heap.size 26 #[.int .u8 S, .slice A l.length c, .int .i64 p0, .int .i64 p1, .int .i64 p2, .int .i64 q0, .int .i64 q1, .int .i64 q2] := (Blk.new' rfl).below hb1 (by simp)
  obtain ⟨s0, s1, s2, s3, s4, s5, s6, s7, s8, s9⟩ := hcb.f8
  clear hb1 hcb
  go_wp2_with fail
  refine (rings_any S A c l p0 p1 p2 q0 q1 q2 _ ⟨HL.out.1.below (HB1.trans (by go_grown)) (Nat.le_refl _) |>.more (by have := HB1.size; omega), HL.out.2⟩ hS0 hS1 hp0 hp1 hp2 hq0 hq1 hq2).mono ?_
  rintro e w2 ⟨⟨x0, k0, A0, c0⟩, ⟨x1, k1, A1, c1⟩, ⟨x2, k2, A2, c2⟩, rfl, hx0, hk0, hok, -, -, hb2⟩
  have HB2 := ext_below (w0 := w) (by go_grown) hb2
  have hT2 := hT.below HB2
  subst hx0 hk0
  have HMD := Lib.hid (madeD_md (1 + S % 8) l (by omega) HR.out)
  have HMI := Lib.hid (made_idx (1 + S % 8) l (by omega) HR.out)
  have hml := (madeD_ok (1 + S % 8) l (by omega) HR.out).2
  generalize hks : madeD (1 + S % 8) l = ks at *
  clear hks
  have hks0 : KSl w2 A0 c0 ks := hok.sl
  have HKS := hide hks0
  have HSEC : Hid (∀ k ∈ ks, k.sec.size ≤ 100000) := Lib.hid (fun k hk => (hok.ok k hk).1)
  clear hb2 hok hks0 s0 s1 s2 s3 s4 s5 s6 s7 s8 s9
  obtain ⟨sc, hsc, hsc0, hsc1⟩ : ∃ sc, 1 + S % 8 = sc ∧ 1 ≤ sc ∧ sc ≤ 8 := ⟨_, rfl, by omega, by omega⟩
  rw [hsc]
  clear hsc
  have hix := idx3_0
  go_wp2_with fail
  have ha0 : 0 ≤ day % 400 := by omega
  have ha1 : day % 400 < 400 := by omega
  generalize htx : t.extract 0 (min (t.size : Int) 60).toNat = tx
  have htz : tx.size ≤ 60 := by rw [← htx, ByteArray.size_extract]; omega
  clear htx
  obtain ⟨wp, hwp⟩ : ∃ wp, wp = w2.alloc (.cells #[.int .i64 sc, .slice A0 ks.length c0] 34) := ⟨_, rfl⟩
  have hrp : Blk wp w2.heap.size 34 #[.int .i64 sc, .slice A0 ks.length c0] := by rw [hwp]; exact Blk.new' rfl
  have hbp : Below w2.heap.size w2 wp := by rw [hwp]; exact (Below.refl _ _).alloc (Nat.le_refl _) _
  rw [← hwp]
  clear hwp
  have HBP := ext_below (w0 := w) HB2 hbp
  have hTP := hT2.below hbp
  have hksp : KSl wp A0 c0 ks := Slc.more ((unhide HKS).below hbp (Nat.le_refl _)) hbp.size
  have HKP := hide hksp
  have HRP := hide hrp
  clear hbp hT2 HKS hrp hksp HB2 HB1
  generalize w2.heap.size = g at *
  go_loopw [32] (fun v wr => ∃ i : Nat, i ≤ ks.length ∧ v = .int .i64 i ∧ Below wp.heap.size wp wr) (fun v _ => ks.length - (intOf v).toNat)
  case atStart => exact ⟨0, by omega, rfl, Below.refl _ _⟩
  case round =>
    obtain ⟨i, hi, rfl, hB⟩ := hrel
    have hkr : KSl wr A0 c0 ks := Slc.more ((unhide HKP).below hB (Nat.le_refl _)) hB.size
    have hrr := (unhide HRP).below hB (unhide HRP).lt
    have hTr := hTP.below hB
    have HBr := ext_below HBP hB
    have HRR := hide hrr
    have HKR := hide hkr
    obtain ⟨r0, r1, r2, r3⟩ := hrr.f2
    clear hrr
    by_cases hlt : i < ks.length
    · obtain ⟨k, hki⟩ : ∃ k, ks[i]? = some k := ⟨_, List.getElem?_eq_getElem hlt⟩
      obtain ⟨b, off, hA, hb, k0, k1', k2', k3⟩ := hkr.sec hki
      subst hA
      have hidx := HMI.out i k hki
      obtain ⟨hmd, -⟩ := HMD.out i k hki
      obtain ⟨d0, d1, d2, d3, d4, d5, d6, d7⟩ := hmd
      have hsec0 : k.sec.size ≠ 0 := by omega
      have hrid : Rng k.id := by constructor <;> omega
      have hrsc : Rng sc := by constructor <;> omega
      have HSO := Lib.hid (sign_own ks i k.id hidx)
      have HVO : Hid (∀ s, validE sc ks k.id tx (bs (signM sc ks k.id tx)) (day % 400) s = wantE k (day % 400) s) := Lib.hid (fun s => valid_own sc ks i k tx (day % 400) s hidx hki hsec0)
      clear hki hidx hkr
      go_wp2_with fail
      refine (sign_any (some ⟨b, off, none⟩) c0 sc ks k.id tx _ ((unhide HKR).below (by go_grown) (Nat.le_refl _) |>.more (by go_size)) (by omega) HSEC.out hrsc hrid (by omega) (hTr.below (by go_grown))).mono ?_
      rintro e w3 ⟨rfl, hb3⟩
      rw [HSO.out]
      have hb3' := ext_below (w0 := wr) (by go_grown) hb3
      have HB3 := ext_below HBr hb3'
      have hkb : Blk w3 wr.heap.size 28 #[.int .i64 k.id, .string k.sec, .int .i64 k.fr, .int .i64 k.st] := (Blk.new' rfl).below hb3 (by simp)
      have hrb := (unhide HRR).below hb3' (unhide HRR).lt
      have hks3 : KSl w3 (some ⟨b, off, none⟩) c0 ks := Slc.more ((unhide HKR).below hb3' (Nat.le_refl _)) hb3'.size
      have hT3 := hTr.below hb3'
      have hbp3 := hB.trans (hb3'.mono hB.size)
      have HKB := hide hkb
      have HRB := hide hrb
      have HK3 := hide hks3
      obtain ⟨m0, m1, m2, m3, m4, m5⟩ := hkb.f4
      clear hb3 hb3' hkb hrb hks3 hTr r0 r1 r2 r3 k0 k1' k2' k3 hb HRR HKR hB
      go_wp2_with fail
      obtain ⟨wq, hwq⟩ : ∃ wq, wq = w3.alloc (.cells #[.int .i64 0, .int .i64 (day % 400), .int .i64 (day % 400 + 1), .int .i64 k.st, .int .i64 (max (k.st - 1) 0)] 3) := ⟨_, rfl⟩
      have hsq : Blk wq w3.heap.size 3 #[.int .i64 0, .int .i64 (day % 400), .int .i64 (day % 400 + 1), .int .i64 k.st, .int .i64 (max (k.st - 1) 0)] := by rw [hwq]; exact Blk.new' rfl
      have hbq : Below w3.heap.size w3 wq := by rw [hwq]; exact (Below.refl _ _).alloc (Nat.le_refl _) _
      rw [← hwq]
      clear hwq
      have HBQ := ext_below HB3 hbq
      have hTQ := hT3.below hbq
      have hksq : KSl wq (some ⟨b, off, none⟩) c0 ks := Slc.more ((unhide HK3).below hbq (Nat.le_refl _)) hbq.size
      have hrq := (unhide HRB).below hbq (unhide HRB).lt
      have hkq := (unhide HKB).below hbq (unhide HKB).lt
      have hbpq := hbp3.trans (hbq.mono hbp3.size)
      have HSQ := hide hsq
      have HKQ := hide hksq
      have HRQ := hide hrq
      have HBK := hide hkq
      clear hbq hsq hksq hrq hkq HK3 HRB HKB m0 m1 m2 m3 m4 m5 hT3 hbp3 HB3
      generalize w3.heap.size = g3 at *
      generalize wr.heap.size = gk at *
      go_loopw [57] (fun v ws => ∃ j : Nat, j ≤ 5 ∧ v = .int .i64 j ∧ Below wq.heap.size wq ws) (fun v _ => 5 - (intOf v).toNat)
      case atStart => exact ⟨0, by omega, rfl, Below.refl _ _⟩
      case round =>
        obtain ⟨j, hj, rfl, hBs⟩ := hrel
        have hks5 : KSl wr (some ⟨b, off, none⟩) c0 ks := Slc.more ((unhide HKQ).below hBs (Nat.le_refl _)) hBs.size
        obtain ⟨r0, r1, r2, r3⟩ := ((unhide HRQ).below hBs (unhide HRQ).lt).f2
        obtain ⟨m0, m1, m2, m3, m4, m5⟩ := ((unhide HBK).below hBs (unhide HBK).lt).f4
        have hsl := (unhide HSQ).below hBs (unhide HSQ).lt
        have hTs := hTQ.below hBs
        have HBs := ext_below HBQ hBs
        have HKs := hide hks5
        clear hks5
        by_cases hjl : j < 5
        · obtain ⟨s, hsj, hsr⟩ : ∃ s, (#[.int .i64 0, .int .i64 (day % 400), .int .i64 (day % 400 + 1), .int .i64 k.st, .int .i64 (max (k.st - 1) 0)] : Array Value)[j]? = some (.int .i64 s) ∧ Rng s := by
            obtain rfl | rfl | rfl | rfl | rfl : j = 0 ∨ j = 1 ∨ j = 2 ∨ j = 3 ∨ j = 4 := by omega
            · exact ⟨0, rfl, by constructor <;> decide⟩
            · exact ⟨_, rfl, by constructor <;> omega⟩
            · exact ⟨_, rfl, by constructor <;> omega⟩
            · exact ⟨_, rfl, by constructor <;> omega⟩
            · exact ⟨_, rfl, by constructor <;> omega⟩
          have hsc1 := (hsl.cell j).trans hsj
          have hsfr := hsl.lt
          clear hsj hsl
          have HV := Lib.hid (HVO.out s)
          by_cases z1 : day % 400 < k.fr
          all_goals
            by_cases z2 : 0 < k.st
            all_goals
              by_cases z3 : k.st ≤ s
              all_goals
                go_wp2_with fail
                refine (valid_any (some ⟨b, off, none⟩) c0 sc ks k.id tx (bs (signM sc ks k.id tx)) (day % 400) s _ ((unhide HKs).below (by go_grown) (Nat.le_refl _) |>.more (by go_size)) (by omega) HSEC.out hrsc hrid (by omega) (hTs.below (by go_grown))).mono ?_
                rintro e w5 ⟨rfl, hb5⟩
                rw [HV.out]
                have hw : wantE k (day % 400) s = (if day % 400 < k.fr then 23 else if k.st ≠ 0 ∧ k.st ≤ s then 11 else 0) := rfl
                have hb5' := ext_below (w0 := wr) (by go_grown) hb5
                first
                | rw [if_pos (by omega)] at hw
                | (rw [if_neg (by omega)] at hw
                   first
                   | rw [if_pos (by omega)] at hw
                   | rw [if_neg (by omega)] at hw)
                rw [hw]
                clear hw hb5
                go_wp2_with fail
                go_roundw
                case rel => exact ⟨j + 1, by omega, by go_num, hBs.trans (hb5'.mono hBs.size)⟩
                case measure => simp [intOf]; omega
        · go_wp2_with fail
          go_roundw
          case rel => exact ⟨i + 1, by omega, by go_num, hbpq.trans (hBs.mono hbpq.size)⟩
          case measure => simp [intOf]; omega
    · go_wp2_with fail
      go_ret
      exact ⟨rfl, HBr⟩

end Go.Proofs.YtikinldimecgaaaDoor
