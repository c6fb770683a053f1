/- The walk of the law KeyValids. -/
import Derived.Test.YtikinldimecgaaaDoorKeyU
namespace Go.Proofs.YtikinldimecgaaaDoor
open Go.RowKit

theorem Blk.f5 {w : World} {b : Nat} {t : TypeId} {a0 a1 a2 a3 a4 : Value} (h : Blk w b t #[a0, a1, a2, a3, a4]) : w.cell? ⟨b, 0, none⟩ = some a0 ∧ w.cell? ⟨b, 1, none⟩ = some a1 ∧ w.cell? ⟨b, 2, none⟩ = some a2 ∧ w.cell? ⟨b, 3, none⟩ = some a3 ∧ w.cell? ⟨b, 4, none⟩ = some a4 ∧ (∀ i, w.frozen? ⟨b, i, none⟩ = false) ∧ b < w.heap.size :=
  ⟨h.cell 0, h.cell 1, h.cell 2, h.cell 3, h.cell 4, h.frozen, h.lt⟩

theorem rings_index (a b d : Rg) (k : Nat) (hk : k < 3) : ∃ r : Rg, (r = a ∨ r = b ∨ r = d) ∧ ∀ w : World, (Instr.index 35 (.agg #[.int .i64 a.s, .slice a.A a.ks.length a.c, .int .i64 b.s, .slice b.A b.ks.length b.c, .int .i64 d.s, .slice d.A d.ks.length d.c]) (.int .i64 (k : Int))).run Tryd.prog w = .ok (.agg #[.int .i64 r.s, .slice r.A r.ks.length r.c]) w := by
  obtain rfl | rfl | rfl : k = 0 ∨ k = 1 ∨ k = 2 := by omega
  · exact ⟨a, .inl rfl, fun w => idx3_0 _ _ _ _ _ _ w⟩
  · exact ⟨b, .inr (.inl rfl), fun w => idx3_1 _ _ _ _ _ _ w⟩
  · exact ⟨d, .inr (.inr rfl), fun w => idx3_2 _ _ _ _ _ _ w⟩
structure VSt (w : World) (g8 g10 : Nat) (r : Rg) (tx mx : ByteArray) (ix dx sx : Int) : Prop where
  r1 : Blk w g8 34 #[.int .i64 r.s, .slice r.A r.ks.length r.c]
  sb : Blk w g10 47 #[.string tx, .string mx, .int .i64 ix, .int .i64 dx, .int .i64 sx]
  ok : r.ok w
  tb : Tab w
theorem VSt.below {w w' : World} {g8 g10 : Nat} {r : Rg} {tx mx : ByteArray} {ix dx sx : Int} (h : VSt w g8 g10 r tx mx ix dx sx) (hb : Below w.heap.size w w') : VSt w' g8 g10 r tx mx ix dx sx :=
  ⟨h.r1.below hb h.r1.lt, h.sb.below hb h.sb.lt, h.ok.below hb, h.tb.below hb⟩
theorem Rg.ok.sec {r : Rg} {w : World} (h : r.ok w) : ∀ k ∈ r.ks, k.sec.size ≤ 100000 := fun k hk => (h.ok k hk).1

set_option maxRecDepth 20000 in
set_option maxHeartbeats 8000000 in
theorem valids_any (S : Int) (A : Option Addr) (c : Nat) (l : List Int) (p0 p1 p2 q0 q1 q2 : Int) (ta tb : ByteArray) (sid sday sseen : Int) (w : World) (hl : ISl w A c l) (hS0 : 0 ≤ S) (hS1 : S < 256)
    (hp0 : Rng p0) (hp1 : Rng p1) (hp2 : Rng p2) (hq0 : Rng q0) (hq1 : Rng q1) (hq2 : Rng q2) (hi0 : Rng sid) (_hi1 : Rng sday) (_hi2 : Rng sseen) (hT : Tab w) (hta : ta.size ≤ 9223372036854775807) (htb : tb.size ≤ 9223372036854775807) :
    Calls Tryd.prog 4 #[.agg #[.int .u8 S, .slice A l.length c, .int .i64 p0, .int .i64 p1, .int .i64 p2, .int .i64 q0, .int .i64 q1, .int .i64 q2], .agg #[.string ta, .string tb, .int .i64 sid, .int .i64 sday, .int .i64 sseen]] w fun e w' =>
      e = .returned (.bool true) ∧ Below w.heap.size w w' := by
  have HL := Lib.hid hl
  have HR := Lib.hid hl.2
  clear hl
  go_enter Tryd.func4, Tryd.ntmps4
  go_wp2_with fail
  refine (sanity_any _ (hT.below (by go_grown))).mono ?_
  rintro e w1 ⟨rfl, hb1⟩
  have HB1 := ext_below (w0 := w) (by go_grown) hb1
  have hcb : Blk w1 w.heap.size 26 #[.int .u8 S, .slice A l.length c, .int .i64 p0, .int .i64 p1, .int .i64 p2, .int .i64 q0, .int .i64 q1, .int .i64 q2] := ((Blk.new' rfl).alloc _).below hb1 (by simp; omega)
  have hsb : Blk w1 (w.heap.size + 1) 47 #[.string ta, .string tb, .int .i64 sid, .int .i64 sday, .int .i64 sseen] := (Blk.new' (by simp)).below hb1 (by simp)
  obtain ⟨s0, s1, s2, s3, s4, s5, s6, s7, s8, s9⟩ := hcb.f8
  obtain ⟨e0, e1, e2, e3, e4, e5, e6⟩ := hsb.f5
  have HCB := hide hcb
  have HSB := hide hsb
  clear hb1 hcb hsb
  go_wp2_with fail
  have mi0 : 0 ≤ min (ta.size : Int) 60 := by omega
  have mi1 : min (ta.size : Int) 60 ≤ ta.size := by omega
  have mi2 : 0 ≤ min (tb.size : Int) 20 := by omega
  have mi3 : min (tb.size : Int) 20 ≤ tb.size := by omega
  go_region
  generalize hxa : ta.extract 0 (min (ta.size : Int) 60).toNat = xa
  have hza : xa.size ≤ 60 := by rw [← hxa, ByteArray.size_extract]; omega
  generalize hxb : tb.extract 0 (min (tb.size : Int) 20).toNat = xb
  have hzb : xb.size ≤ 20 := by rw [← hxb, ByteArray.size_extract]; omega
  clear hxa hxb
  obtain ⟨w2, hw2⟩ : ∃ w2, w2 = ((w1.setCell ⟨w.heap.size + 1, 0, none⟩ (.string xa)).setCell ⟨w.heap.size + 1, 1, none⟩ (.string xb)).drew := ⟨_, rfl⟩
  have hcb : Blk w2 w.heap.size 26 #[.int .u8 S, .slice A l.length c, .int .i64 p0, .int .i64 p1, .int .i64 p2, .int .i64 q0, .int .i64 q1, .int .i64 q2] := by
    rw [hw2]; exact (((unhide HCB).far (p := ⟨w.heap.size + 1, 0, none⟩) (by simp) _).far (p := ⟨w.heap.size + 1, 1, none⟩) (by simp) _).drew
  have hsb : Blk w2 (w.heap.size + 1) 47 #[.string xa, .string xb, .int .i64 sid, .int .i64 sday, .int .i64 sseen] := by
    rw [hw2]; exact (((unhide HSB).set_ 0 (.string xa)).set_ 1 (.string xb)).drew
  have HB2 : Below w.heap.size w w2 := by
    rw [hw2]; exact ((HB1.setCell (by simp) _).setCell (by simp) _).drew
  rw [← hw2]
  have hT2 := hT.below HB2
  have HSB2 := hide hsb
  clear hw2 s0 s1 s2 s3 s4 s5 s6 s7 s8 s9 e0 e1 e2 e3 e4 e5 e6 HCB HSB HB1 mi0 mi1 mi2 mi3
  obtain ⟨s0, s1, s2, s3, s4, s5, s6, s7, s8, s9⟩ := hcb.f8
  obtain ⟨e0, e1, e2, e3, e4, e5, e6⟩ := hsb.f5
  clear hcb hsb
  obtain ⟨u, hu, hu0⟩ : ∃ u, IntKind.u64.wrap sid = u ∧ 0 ≤ u := ⟨_, rfl, by rw [show IntKind.u64.wrap sid = sid % 18446744073709551616 from rfl]; omega⟩
  have hu1 : 0 ≤ u % 5 := by omega
  have hu2 : u % 5 < 5 := by omega
  go_wp2_with fail
  refine (rings_any S A c l p0 p1 p2 q0 q1 q2 _ ⟨HL.out.1.below (HB2.trans (by go_grown)) (Nat.le_refl _) |>.more (by have := HB2.size; simp; omega), HL.out.2⟩ hS0 hS1 hp0 hp1 hp2 hq0 hq1 hq2).mono ?_
  rintro e w3 ⟨ra, rb, rd, rfl, -, -, hoa, hob, hod, hb3⟩
  have hb23 := ext_below (w0 := w2) (by go_grown) hb3
  have HB3 := ext_below HB2 hb23
  have hT3 := hT2.below hb23
  have hsa : Blk w3 (w.heap.size + 1) 47 #[.string xa, .string xb, .int .i64 sid, .int .i64 sday, .int .i64 sseen] := (unhide HSB2).below hb23 (unhide HSB2).lt
  have hsn : Blk w3 w2.heap.size 47 #[.string xa, .string xb, .int .i64 (1 + u % 5), .int .i64 (sday.tmod 300), .int .i64 (sseen.tmod 400)] := (Blk.new' rfl).below hb3 (by simp)
  have HSA := hide hsa
  have HSN := hide hsn
  have HOA := hide hoa
  have HOB := hide hob
  have HOD := hide hod
  clear hb3 hb23 hT2 HSB2 HB2 hsa hsn hoa hob hod s0 s1 s2 s3 s4 s5 s6 s7 s8 s9 e0 e1 e2 e3 e4 e5 e6 hu
  go_wp2_with fail
  generalize w2.heap.size = gn at *
  have hru : Rng (1 + u % 5) := by constructor <;> omega
  generalize 1 + u % 5 = nid at *
  go_loopw [53] (fun v wr => ∃ k : Nat, k ≤ 3 ∧ v = .int .i64 k ∧ Below w3.heap.size w3 wr) (fun v _ => 3 - (intOf v).toNat)
  case atStart => exact ⟨0, by omega, rfl, Below.refl _ _⟩
  case round =>
    obtain ⟨k, hk3, rfl, hB⟩ := hrel
    by_cases hk : k < 3
    · have hkd : decide ((k : Int) < 3) = true := decide_eq_true (by omega)
      obtain ⟨r, hr, hix⟩ := rings_index ra rb rd k hk
      have hok : r.ok wr := by
        rcases hr with rfl | rfl | rfl
        · exact (unhide HOA).below hB
        · exact (unhide HOB).below hB
        · exact (unhide HOD).below hB
      have HOK := hide hok
      have hTr := hT3.below hB
      have HBr := ext_below HB3 hB
      have hsa := (unhide HSA).below hB (unhide HSA).lt
      have hsn := (unhide HSN).below hB (unhide HSN).lt
      obtain ⟨e0, e1, e2, e3, e4, e5, e6⟩ := hsa.f5
      obtain ⟨f0, f1, f2, f3, f4, f5, f6⟩ := hsn.f5
      clear hok hsa hsn hr
      go_wp2_with fail
      obtain ⟨wq, hwq⟩ : ∃ wq, wq = (wr.alloc (.cells #[.int .i64 r.s, .slice r.A r.ks.length r.c] 34)).alloc (.cells #[.string xa, .string xb, .int .i64 sid, .int .i64 sday, .int .i64 sseen, .string xa, .string xb, .int .i64 nid, .int .i64 (sday.tmod 300), .int .i64 (sseen.tmod 400)] 47) := ⟨_, rfl⟩
      have hr8 : Blk wq wr.heap.size 34 #[.int .i64 r.s, .slice r.A r.ks.length r.c] := by rw [hwq]; exact (Blk.new' rfl).alloc _
      have hsl : Blk wq (wr.heap.size + 1) 47 #[.string xa, .string xb, .int .i64 sid, .int .i64 sday, .int .i64 sseen, .string xa, .string xb, .int .i64 nid, .int .i64 (sday.tmod 300), .int .i64 (sseen.tmod 400)] := by rw [hwq]; exact Blk.new' (by simp)
      have hbq : Below wr.heap.size wr wq := by rw [hwq]; exact ((Below.refl _ _).alloc (Nat.le_refl _) _).alloc (by simp) _
      rw [← hwq]
      clear hwq
      have HBQ := ext_below HBr hbq
      have hTQ := hTr.below hbq
      have HOQ := hide ((unhide HOK).below hbq)
      have hb3q := hB.trans (hbq.mono hB.size)
      have HR8 := hide hr8
      have HSL := hide hsl
      clear hr8 hsl hbq HOK hTr HBr hB e0 e1 e2 e3 e4 e5 e6 f0 f1 f2 f3 f4 f5 f6 hix
      generalize wr.heap.size = g8 at *
      go_loopw [60] (fun v wr => ∃ j : Nat, j ≤ 2 ∧ v = .int .i64 j ∧ Below wq.heap.size wq wr) (fun v _ => 2 - (intOf v).toNat)
      case atStart => exact ⟨0, by omega, rfl, Below.refl _ _⟩
      case round =>
        obtain ⟨j, hj, rfl, hB2⟩ := hrel
        by_cases hj2 : j < 2
        · have hjd : decide ((j : Int) < 2) = true := decide_eq_true (by omega)
          obtain ⟨tx, mx, ix, dx, sx, c0, c1, c2, c3, c4, htx, hri⟩ : ∃ tx mx ix dx sx, (#[.string xa, .string xb, .int .i64 sid, .int .i64 sday, .int .i64 sseen, .string xa, .string xb, .int .i64 nid, .int .i64 (sday.tmod 300), .int .i64 (sseen.tmod 400)] : Array Value)[j * 5]? = some (.string tx) ∧ (#[.string xa, .string xb, .int .i64 sid, .int .i64 sday, .int .i64 sseen, .string xa, .string xb, .int .i64 nid, .int .i64 (sday.tmod 300), .int .i64 (sseen.tmod 400)] : Array Value)[j * 5 + 1]? = some (.string mx) ∧ (#[.string xa, .string xb, .int .i64 sid, .int .i64 sday, .int .i64 sseen, .string xa, .string xb, .int .i64 nid, .int .i64 (sday.tmod 300), .int .i64 (sseen.tmod 400)] : Array Value)[j * 5 + 2]? = some (.int .i64 ix) ∧
              (#[.string xa, .string xb, .int .i64 sid, .int .i64 sday, .int .i64 sseen, .string xa, .string xb, .int .i64 nid, .int .i64 (sday.tmod 300), .int .i64 (sseen.tmod 400)] : Array Value)[j * 5 + 3]? = some (.int .i64 dx) ∧ (#[.string xa, .string xb, .int .i64 sid, .int .i64 sday, .int .i64 sseen, .string xa, .string xb, .int .i64 nid, .int .i64 (sday.tmod 300), .int .i64 (sseen.tmod 400)] : Array Value)[j * 5 + 4]? = some (.int .i64 sx) ∧ tx.size ≤ 60 ∧ Rng ix := by
            obtain rfl | rfl : j = 0 ∨ j = 1 := by omega
            · exact ⟨xa, xb, sid, sday, sseen, rfl, rfl, rfl, rfl, rfl, hza, hi0⟩
            · exact ⟨xa, xb, nid, sday.tmod 300, sseen.tmod 400, rfl, rfl, rfl, rfl, rfl, hza, hru⟩
          have hs2 := (unhide HSL).below hB2 (unhide HSL).lt
          have y0 := (hs2.cell (j * 5)).trans c0
          have y1 := (hs2.cell (j * 5 + 1)).trans c1
          have y2 := (hs2.cell (j * 5 + 2)).trans c2
          have y3 := (hs2.cell (j * 5 + 3)).trans c3
          have y4 := (hs2.cell (j * 5 + 4)).trans c4
          have y5 := hs2.lt
          have hr8 := (unhide HR8).below hB2 (unhide HR8).lt
          obtain ⟨r0, r1, r2, r3⟩ := hr8.f2
          have hok := (unhide HOQ).below hB2
          have hTr := hTQ.below hB2
          have HOK := hide hok
          have hlen := hok.len
          have HRS := hide hok.rs
          have HSEC := hide hok.sec
          obtain ⟨m, hm⟩ : ∃ m, signM r.s r.ks ix tx = m := ⟨_, rfl⟩
          obtain ⟨se, hse⟩ : ∃ se, signE r.ks ix = se := ⟨_, rfl⟩
          have HM := Lib.hid hm
          have HSE := Lib.hid hse
          have HR8' := hide hr8
          clear c0 c1 c2 c3 c4 hs2 hr8 hok hm hse
          go_wp2_with fail
          refine (sign_any r.A r.c r.s r.ks ix tx _ ((unhide HOK).sl.below (by go_grown) (Nat.le_refl _) |>.more (by go_size)) (by omega) (unhide HSEC) (unhide HRS) hri (by omega) (hTr.below (by go_grown))).mono ?_
          rintro e w5 ⟨rfl, hb5⟩
          rw [HM.out, HSE.out]
          have hb5' := ext_below (w0 := wr) (by go_grown) hb5
          have HV5 := hide (p := VSt w5 g8 wr.heap.size r tx mx ix dx sx) ⟨(unhide HR8').below hb5' (unhide HR8').lt, (Blk.new' rfl).below hb5 (by simp), (unhide HOK).below hb5', hTr.below hb5'⟩
          have hbq5 := hB2.trans (hb5'.mono hB2.size)
          clear hb5 hb5' y0 y1 y2 y3 y4 y5 r0 r1 r2 r3 hB2 HOK HR8' hTr
          generalize wr.heap.size = g10 at *
          obtain ⟨r0, r1, r2, r3⟩ := (unhide HV5).r1.f2
          obtain ⟨f0, f1, f2, f3, f4, f5, f6⟩ := (unhide HV5).sb.f5
          go_wp2_with fail
          refine (rsign_any r.A r.c r.s r.ks ix tx _ ((unhide HV5).ok.sl.below (by go_grown) (Nat.le_refl _) |>.more (by go_size)) (by omega) (unhide HSEC) (unhide HRS) hri (by omega)).mono ?_
          rintro e w6 ⟨rfl, hb6⟩
          rw [HM.out, HSE.out]
          have hb6' := ext_below (w0 := w5) (by go_grown) hb6
          have HV6 := hide ((unhide HV5).below hb6')
          have hbq6 := hbq5.trans (hb6'.mono hbq5.size)
          clear hb6 hb6' HV5 hbq5 r0 r1 r2 r3 f0 f1 f2 f3 f4 f5 f6
          obtain ⟨r0, r1, r2, r3⟩ := (unhide HV6).r1.f2
          obtain ⟨f0, f1, f2, f3, f4, f5, f6⟩ := (unhide HV6).sb.f5
          go_wp2_with fail
          obtain ⟨wt, hwt⟩ : ∃ wt, wt = w6.alloc (.cells #[.string (bs m), .string mx] 9) := ⟨_, rfl⟩
          have hmk : Blk wt w6.heap.size 9 #[.string (bs m), .string mx] := by rw [hwt]; exact Blk.new' rfl
          have hbt : Below w6.heap.size w6 wt := by rw [hwt]; exact (Below.refl _ _).alloc (Nat.le_refl _) _
          rw [← hwt]
          have HVT := hide ((unhide HV6).below hbt)
          have hbqt := hbq6.trans (hbt.mono hbq6.size)
          have HMK := hide hmk
          clear hwt hmk hbt HV6 hbq6 r0 r1 r2 r3 f0 f1 f2 f3 f4 f5 f6
          generalize w6.heap.size = gm at *
          go_loopw [95] (fun v wr => ∃ q : Nat, q ≤ 2 ∧ v = .int .i64 q ∧ Below wt.heap.size wt wr) (fun v _ => 2 - (intOf v).toNat)
          case atStart => exact ⟨0, by omega, rfl, Below.refl _ _⟩
          case round =>
            obtain ⟨q, hq, rfl, hB3⟩ := hrel
            by_cases hq2 : q < 2
            · obtain ⟨mk, hmk⟩ : ∃ mk, (#[.string (bs m), .string mx] : Array Value)[q]? = some (.string mk) := by
                obtain rfl | rfl : q = 0 ∨ q = 1 := by omega
                · exact ⟨_, rfl⟩
                · exact ⟨_, rfl⟩
              have hmb := (unhide HMK).below hB3 (unhide HMK).lt
              have y0 := (hmb.cell q).trans hmk
              have y1 := hmb.lt
              have HVR := hide ((unhide HVT).below hB3)
              obtain ⟨r0, r1, r2, r3⟩ := (unhide HVR).r1.f2
              obtain ⟨f0, f1, f2, f3, f4, f5, f6⟩ := (unhide HVR).sb.f5
              obtain ⟨v, hv⟩ : ∃ v, validE r.s r.ks ix tx mk dx sx = v := ⟨_, rfl⟩
              have hva : ∀ w : World, r.ok w → Tab w → Calls Tryd.prog 22 #[.agg #[.int .i64 r.s, .slice r.A r.ks.length r.c], .int .i64 ix, .string tx, .string mk, .int .i64 dx, .int .i64 sx] w fun e w' => e = .returned (.int .i64 v) ∧ Below w.heap.size w w' := fun w ho ht =>
                hv ▸ valid_any r.A r.c r.s r.ks ix tx mk dx sx w ho.sl (by omega) ho.sec ho.rs hri (by omega) ht
              have hvb : ∀ w : World, r.ok w → Calls Tryd.prog 23 #[.agg #[.int .i64 r.s, .slice r.A r.ks.length r.c], .int .i64 ix, .string tx, .string mk, .int .i64 dx, .int .i64 sx] w fun e w' => e = .returned (.int .i64 v) ∧ Below w.heap.size w w' := fun w ho =>
                hv ▸ rvalid_any r.A r.c r.s r.ks ix tx mk dx sx w ho.sl (by omega) ho.sec ho.rs hri (by omega)
              have HVA := hide hva
              have HVB := hide hvb
              clear hva hvb hv hmk hmb
              go_wp2_with fail
              have hx : ∀ (x : Ext wr.heap.size wr) (bb oo : Nat), bb < wr.heap.size → x.val.cell? ⟨bb, oo, none⟩ = wr.cell? ⟨bb, oo, none⟩ := fun x bb oo h => x.ok.cell (p := ⟨bb, oo, none⟩) h
              refine wp_region_ext wr.heap.size (by kernel_rfl) (by kernel_rfl) ?_
              repeat (go_big_quiet_step ((first
                | (go_at_call 22; exact ext_of (Nat.le_refl _) ((unhide HVA) _ ((unhide HVR).ok.below (Ext.ok _)) ((unhide HVR).tb.below (Ext.ok _))))
                | (go_at_call 23; exact ext_of (Nat.le_refl _) ((unhide HVB) _ ((unhide HVR).ok.below (Ext.ok _)))))))
              refine wpQuiet_nil ?_
              rintro _ ⟨x', rfl⟩
              clear hx
              go_wp2_with fail
              go_roundw
              case rel => exact ⟨q + 1, by omega, by go_num, hB3.trans (x'.ok.mono hB3.size)⟩
              case measure => simp [intOf]; omega
            · go_wp2_with fail
              go_roundw
              case rel => exact ⟨j + 1, by omega, by go_num, hbqt.trans (hB3.mono hbqt.size)⟩
              case measure => simp [intOf]; omega
        · go_wp2_with fail
          go_roundw
          case rel => exact ⟨k + 1, by omega, by go_num, hb3q.trans (hB2.mono hb3q.size)⟩
          case measure => simp [intOf]; omega
    · go_wp2_with fail
      go_ret
      exact ⟨rfl, ext_below HB3 hB⟩

end Go.Proofs.YtikinldimecgaaaDoor
