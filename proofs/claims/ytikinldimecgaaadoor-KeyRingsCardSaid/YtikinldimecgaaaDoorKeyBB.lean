/- The walk of the law KeyRings. -/
import Derived.Test.YtikinldimecgaaaDoorKeyU
namespace Go.Proofs.YtikinldimecgaaaDoor
open Go.RowKit

theorem rings_index (a b d : Rg) (k : Nat) (hk : k < 3) : ∃ r : Rg, (r = a ∨ r = b ∨ r = d) ∧ ∀ w : World, (Instr.index 35 (.agg #[.int .i64 a.s, .slice a.A a.ks.length a.c, .int .i64 b.s, .slice b.A b.ks.length b.c, .int .i64 d.s, .slice d.A d.ks.length d.c]) (.int .i64 (k : Int))).run Tryd.prog w = .ok (.agg #[.int .i64 r.s, .slice r.A r.ks.length r.c]) w := by
  obtain rfl | rfl | rfl : k = 0 ∨ k = 1 ∨ k = 2 := by omega
  · exact ⟨a, .inl rfl, fun w => idx3_0 _ _ _ _ _ _ w⟩
  · exact ⟨b, .inr (.inl rfl), fun w => idx3_1 _ _ _ _ _ _ w⟩
  · exact ⟨d, .inr (.inr rfl), fun w => idx3_2 _ _ _ _ _ _ w⟩
theorem addK_len (school : Int) (ks : List Ky) (k : Ky) : (addK school ks k).length ≤ ks.length + 1 := by
  unfold addK; split
  · simp
  · simp
theorem stealK_len (school : Int) (ks : List Ky) (id day : Int) : (stealK school ks id day).length ≤ ks.length := by
  unfold stealK; split
  · simp
  · simp
structure ResR (w : World) (g : Nat) (A : Option Addr) (c : Nat) (s : Int) (ks : List Ky) : Prop where
  blk : Blk w g 34 #[.int .i64 s, .slice A ks.length c]
  sl : KSl w A c ks
theorem ResR.below {w w' : World} {g c : Nat} {A : Option Addr} {s : Int} {ks : List Ky} (h : ResR w g A c s ks) (hb : Below w.heap.size w w') : ResR w' g A c s ks :=
  ⟨h.blk.below hb h.blk.lt, Slc.more (h.sl.below hb (Nat.le_refl _)) hb.size⟩
theorem ResR.alloc {w : World} {g c : Nat} {A : Option Addr} {s : Int} {ks : List Ky} (hk : KSl w A c ks) (hg : g = w.heap.size) : ResR (w.alloc (.cells #[.int .i64 s, .slice A ks.length c] 34)) g A c s ks :=
  ⟨Blk.new' hg, Slc.more (hk.below ((Below.refl _ _).alloc (Nat.le_refl _) _) (Nat.le_refl _)) (by simp)⟩
structure KSt (w : World) (g10 g12 : Nat) (r : Rg) (x : Ky) : Prop where
  r1 : Blk w g10 34 #[.int .i64 r.s, .slice r.A r.ks.length r.c]
  kb : Blk w g12 28 #[.int .i64 x.id, .string x.sec, .int .i64 x.fr, .int .i64 x.st]
  ok : r.ok w
theorem KSt.below {w w' : World} {g10 g12 : Nat} {r : Rg} {x : Ky} (h : KSt w g10 g12 r x) (hb : Below w.heap.size w w') : KSt w' g10 g12 r x :=
  ⟨h.r1.below hb h.r1.lt, h.kb.below hb h.kb.lt, h.ok.below hb⟩
theorem wrap_u64 (x : Int) : ∃ u, IntKind.u64.wrap x = u ∧ 0 ≤ u := ⟨_, rfl, by rw [show IntKind.u64.wrap x = x % 18446744073709551616 from rfl]; omega⟩

set_option maxRecDepth 20000 in
set_option maxHeartbeats 8000000 in
theorem rings_law (S : Int) (A : Option Addr) (c : Nat) (l : List Int) (p0 p1 p2 q0 q1 q2 : Int) (kk : Ky) (n0 n1 : Int) (w : World) (hl : ISl w A c l) (hS0 : 0 ≤ S) (hS1 : S < 256)
    (hp0 : Rng p0) (hp1 : Rng p1) (hp2 : Rng p2) (hq0 : Rng q0) (hq1 : Rng q1) (hq2 : Rng q2) (hT : Tab w) (hks : kk.sec.size ≤ 9223372036854775807) (_hk0 : Rng kk.id) (_hk1 : Rng kk.fr) (_hk2 : Rng kk.st) (_hn0 : Rng n0) (_hn1 : Rng n1) :
    Calls Tryd.prog 3 #[.agg #[.int .u8 S, .slice A l.length c, .int .i64 p0, .int .i64 p1, .int .i64 p2, .int .i64 q0, .int .i64 q1, .int .i64 q2], .agg #[.int .i64 kk.id, .string kk.sec, .int .i64 kk.fr, .int .i64 kk.st], .agg #[.int .i64 n0, .int .i64 n1]] w fun e w' =>
      e = .returned (.bool true) ∧ Below w.heap.size w w' := by
  have HL := Lib.hid hl
  have HR := Lib.hid hl.2
  clear hl
  go_enter Tryd.func3, Tryd.ntmps3
  go_wp2_with fail
  refine (sanity_any _ (hT.below (by go_grown))).mono ?_
  rintro e w1 ⟨rfl, hb1⟩
  have HB1 := ext_below (w0 := w) (by go_grown) hb1
  have hcb : Blk w1 w.heap.size 26 #[.int .u8 S, .slice A l.length c, .int .i64 p0, .int .i64 p1, .int .i64 p2, .int .i64 q0, .int .i64 q1, .int .i64 q2] := (((Blk.new' rfl).alloc _).alloc _).below hb1 (by simp; omega)
  have hkb : Blk w1 (w.heap.size + 1) 28 #[.int .i64 kk.id, .string kk.sec, .int .i64 kk.fr, .int .i64 kk.st] := ((Blk.new' (by simp)).alloc _).below hb1 (by simp)
  have hnb : Blk w1 (w.heap.size + 1 + 1) 29 #[.int .i64 n0, .int .i64 n1] := (Blk.new' (by simp)).below hb1 (by simp)
  obtain ⟨s0, s1, s2, s3, s4, s5, s6, s7, s8, s9⟩ := hcb.f8
  obtain ⟨e0, e1, e2, e3, e4, e5⟩ := hkb.f4
  have HCB := hide hcb
  have HKB := hide hkb
  have HNB := hide hnb
  clear hb1 hcb hkb hnb
  have mi0 : 0 ≤ min (kk.sec.size : Int) 50 := by omega
  have mi1 : min (kk.sec.size : Int) 50 ≤ kk.sec.size := by omega
  obtain ⟨u1, hu1, hu10⟩ := wrap_u64 kk.id
  obtain ⟨u2, hu2, hu20⟩ := wrap_u64 kk.fr
  obtain ⟨u3, hu3, hu30⟩ := wrap_u64 kk.st
  have b1 : 0 ≤ u1 % 12 := by omega
  have b2 : u1 % 12 < 12 := by omega
  have b3 : 0 ≤ u2 % 300 := by omega
  have b4 : u2 % 300 < 300 := by omega
  have b5 : 0 ≤ u3 % 300 := by omega
  have b6 : u3 % 300 < 300 := by omega
  go_wp2_with fail
  generalize hxs : kk.sec.extract 0 (min (kk.sec.size : Int) 50).toNat = xs
  clear hxs
  obtain ⟨w2, hw2⟩ : ∃ w2, w2 = w1.setCell ⟨w.heap.size + 1, 1, none⟩ (.string xs) := ⟨_, rfl⟩
  have hkb : Blk w2 (w.heap.size + 1) 28 #[.int .i64 kk.id, .string xs, .int .i64 kk.fr, .int .i64 kk.st] := by rw [hw2]; exact (unhide HKB).set_ 1 (.string xs)
  have hnb : Blk w2 (w.heap.size + 1 + 1) 29 #[.int .i64 n0, .int .i64 n1] := by rw [hw2]; exact (unhide HNB).far (p := ⟨w.heap.size + 1, 1, none⟩) (by simp) _
  have HB2 : Below w.heap.size w w2 := by rw [hw2]; exact HB1.setCell (by simp) _
  have hz12 : w1.heap.size = w2.heap.size := by rw [hw2]; simp
  rw [← hw2]
  have hT2 := hT.below HB2
  have HKB2 := hide hkb
  have hsz2 := HB2.size
  have HNB2 := hide hnb
  clear hw2 hkb hnb s0 s1 s2 s3 s4 s5 s6 s7 s8 s9 e0 e1 e2 e3 e4 e5 HCB HKB HNB HB1 mi0 mi1 hu1 hu2 hu3
  refine (rings_any S A c l p0 p1 p2 q0 q1 q2 _ ⟨HL.out.1.below (HB2.trans (by go_grown)) (Nat.le_refl _) |>.more (by have := HB2.size; simp; omega), HL.out.2⟩ hS0 hS1 hp0 hp1 hp2 hq0 hq1 hq2).mono ?_
  rintro e w3 ⟨ra, rb, rd, rfl, -, -, hoa, hob, hod, hb3⟩
  have hb23 := ext_below (w0 := w2) (by go_grown) hb3
  have HB3 := ext_below HB2 hb23
  have hT3 := hT2.below hb23
  have hka := (unhide HKB2).below hb23 (unhide HKB2).lt
  have hna := (unhide HNB2).below hb23 (unhide HNB2).lt
  have hkn : Blk w3 w2.heap.size 28 #[.int .i64 (1 + u1 % 12), .string xs, .int .i64 (u2 % 300), .int .i64 (u3 % 300)] := (Blk.new' rfl).below hb3 (by simp)
  have HKA := hide hka
  have HKN := hide hkn
  have HNA := hide hna
  have HOA := hide hoa
  have HOB := hide hob
  have HOD := hide hod
  clear hb3 hb23 hT2 HKB2 HNB2 HB2 hka hkn hna hoa hob hod
  go_wp2_with fail
  clear hz12
  generalize w2.heap.size = gn at *
  generalize 1 + u1 % 12 = nid at *
  generalize u2 % 300 = nfr at *
  generalize u3 % 300 = nst at *
  go_loopw [57] (fun v wr => ∃ k : Nat, k ≤ 3 ∧ v = .int .i64 k ∧ Below w3.heap.size w3 wr) (fun v _ => 3 - (intOf v).toNat)
  case atStart => exact ⟨0, by omega, rfl, Below.refl _ _⟩
  case round =>
    obtain ⟨k, hk3, rfl, hB⟩ := hrel
    by_cases hk : k < 3
    · have hkd : decide ((k : Int) < 3) = true := decide_eq_true (by omega)
      obtain ⟨r, hr, hix⟩ := rings_index ra rb rd k hk
      have hok : r.ok wr := by
        rcases hr with rfl | rfl | rfl
        · exact (unhide HOA).below hB
        · exact (unhide HOB).below hB
        · exact (unhide HOD).below hB
      have hlen := hok.len
      have HOK := hide hok
      have HBr := ext_below HB3 hB
      have HTR := hide (hT3.below hB)
      clear hok hr
      go_wp2_with fail
      obtain ⟨wa, hwa⟩ : ∃ wa, wa = wr.alloc (.cells #[.int .i64 r.s, .slice r.A r.ks.length r.c] 34) := ⟨_, rfl⟩
      have hra : Blk wa wr.heap.size 34 #[.int .i64 r.s, .slice r.A r.ks.length r.c] := by rw [hwa]; exact Blk.new' rfl
      have hba : Below wr.heap.size wr wa := by rw [hwa]; exact (Below.refl _ _).alloc (Nat.le_refl _) _
      rw [← hwa]
      have hb3a := hB.trans (hba.mono hB.size)
      have HOKa := hide ((unhide HOK).below hba)
      have HRA := hide hra
      obtain ⟨r0, r1, r2, r3⟩ := hra.f2
      clear hwa hra hba HOK hB HBr HTR hix
      generalize wr.heap.size = g10 at *
      have hx : ∀ (x : Ext wa.heap.size wa) (bb oo : Nat), bb < wa.heap.size → x.val.cell? ⟨bb, oo, none⟩ = wa.cell? ⟨bb, oo, none⟩ := fun x bb oo h => x.ok.cell (p := ⟨bb, oo, none⟩) h
      refine wp_region_ext wa.heap.size (by kernel_rfl) (by kernel_rfl) ?_
      repeat (go_big_quiet_step ((first
        | (go_at_call 11; exact ext_of (Nat.le_refl _) (kcheck_any r.A r.c r.s r.ks _ ((unhide HOKa).below (Ext.ok _)).sl (by omega)))
        | (go_at_call 12; exact ext_of (Nat.le_refl _) (rcheck_any r.A r.c r.s r.ks _ ((unhide HOKa).below (Ext.ok _)).sl (by omega))))))
      refine wpQuiet_nil ?_
      rintro wb ⟨x', hx'⟩
      have hbb : Below wa.heap.size wa wb := hx' ▸ x'.ok
      clear hx'
      clear x'
      have HOKb := hide ((unhide HOKa).below hbb)
      have hb3b := hb3a.trans (hbb.mono hb3a.size)
      have hrb := (unhide HRA).below hbb (unhide HRA).lt
      obtain ⟨e0, e1, e2, e3, e4, e5⟩ := ((unhide HKA).below hb3b (unhide HKA).lt).f4
      obtain ⟨f0, f1, f2, f3, f4, f5⟩ := ((unhide HKN).below hb3b (unhide HKN).lt).f4
      have HRB := hide hrb
      clear hx r0 r1 r2 r3 HRA HOKa hrb hb3a hbb
      go_wp2_with fail
      obtain ⟨wq, hwq⟩ : ∃ wq, wq = wb.alloc (.cells #[.int .i64 kk.id, .string xs, .int .i64 kk.fr, .int .i64 kk.st, .int .i64 nid, .string xs, .int .i64 nfr, .int .i64 nst] 28) := ⟨_, rfl⟩
      have hsl : Blk wq wb.heap.size 28 #[.int .i64 kk.id, .string xs, .int .i64 kk.fr, .int .i64 kk.st, .int .i64 nid, .string xs, .int .i64 nfr, .int .i64 nst] := by rw [hwq]; exact Blk.new' rfl
      have hbq : Below wb.heap.size wb wq := by rw [hwq]; exact (Below.refl _ _).alloc (Nat.le_refl _) _
      rw [← hwq]
      have hb3q := hb3b.trans (hbq.mono hb3b.size)
      have HOQ := hide ((unhide HOKb).below hbq)
      have HRQ := hide ((unhide HRB).below hbq (unhide HRB).lt)
      have HSL := hide hsl
      clear hwq hsl hbq HOKb HRB hb3b e0 e1 e2 e3 e4 e5 f0 f1 f2 f3 f4 f5
      generalize wb.heap.size = gs at *
      go_loopw [69] (fun v wr => ∃ j : Nat, j ≤ 2 ∧ v = .int .i64 j ∧ Below wq.heap.size wq wr) (fun v _ => 2 - (intOf v).toNat)
      case atStart => exact ⟨0, by omega, rfl, Below.refl _ _⟩
      case round =>
        obtain ⟨j, hj, rfl, hB2⟩ := hrel
        by_cases hj2 : j < 2
        · have hjd : decide ((j : Int) < 2) = true := decide_eq_true (by omega)
          obtain ⟨x, c0, c1, c2, c3⟩ : ∃ x : Ky, (#[.int .i64 kk.id, .string xs, .int .i64 kk.fr, .int .i64 kk.st, .int .i64 nid, .string xs, .int .i64 nfr, .int .i64 nst] : Array Value)[j * 4]? = some (.int .i64 x.id) ∧ (#[.int .i64 kk.id, .string xs, .int .i64 kk.fr, .int .i64 kk.st, .int .i64 nid, .string xs, .int .i64 nfr, .int .i64 nst] : Array Value)[j * 4 + 1]? = some (.string x.sec) ∧ (#[.int .i64 kk.id, .string xs, .int .i64 kk.fr, .int .i64 kk.st, .int .i64 nid, .string xs, .int .i64 nfr, .int .i64 nst] : Array Value)[j * 4 + 2]? = some (.int .i64 x.fr) ∧ (#[.int .i64 kk.id, .string xs, .int .i64 kk.fr, .int .i64 kk.st, .int .i64 nid, .string xs, .int .i64 nfr, .int .i64 nst] : Array Value)[j * 4 + 3]? = some (.int .i64 x.st) := by
            obtain rfl | rfl : j = 0 ∨ j = 1 := by omega
            · exact ⟨⟨kk.id, xs, kk.fr, kk.st⟩, rfl, rfl, rfl, rfl⟩
            · exact ⟨⟨nid, xs, nfr, nst⟩, rfl, rfl, rfl, rfl⟩
          have hs2 := (unhide HSL).below hB2 (unhide HSL).lt
          have y0 := (hs2.cell (j * 4)).trans c0
          have y1 := (hs2.cell (j * 4 + 1)).trans c1
          have y2 := (hs2.cell (j * 4 + 2)).trans c2
          have y3 := (hs2.cell (j * 4 + 3)).trans c3
          have y4 := hs2.lt
          have hr2 := (unhide HRQ).below hB2 (unhide HRQ).lt
          obtain ⟨r0, r1, r2, r3⟩ := hr2.f2
          have HR2 := hide hr2
          have HO2 := hide ((unhide HOQ).below hB2)
          obtain ⟨aS, has⟩ : ∃ v, addS r.s r.ks x = v := ⟨_, rfl⟩
          obtain ⟨ae, hae⟩ : ∃ v, addE r.s r.ks x = v := ⟨_, rfl⟩
          obtain ⟨ak, hak, hakl⟩ : ∃ v, addK r.s r.ks x = v ∧ v.length ≤ 2000 := ⟨_, rfl, by have := addK_len r.s r.ks x; omega⟩
          obtain ⟨ss, hss⟩ : ∃ v, stealS r.s r.ks x.id x.fr = v := ⟨_, rfl⟩
          obtain ⟨se, hse⟩ : ∃ v, stealE r.s r.ks x.id x.fr = v := ⟨_, rfl⟩
          obtain ⟨sk, hsk, hskl⟩ : ∃ v, stealK r.s r.ks x.id x.fr = v ∧ v.length ≤ 2000 := ⟨_, rfl, by have := stealK_len r.s r.ks x.id x.fr; omega⟩
          have H1 : Hid (addS r.s r.ks x = aS ∧ addE r.s r.ks x = ae ∧ addK r.s r.ks x = ak) := Lib.hid ⟨has, hae, hak⟩
          have H2 : Hid (stealS r.s r.ks x.id x.fr = ss ∧ stealE r.s r.ks x.id x.fr = se ∧ stealK r.s r.ks x.id x.fr = sk) := Lib.hid ⟨hss, hse, hsk⟩
          clear c0 c1 c2 c3 hs2 hr2 has hae hak hss hse hsk
          go_wp2_with fail
          refine (add_any r.A r.c r.s r.ks x _ ((unhide HO2).sl.below (by go_grown) (Nat.le_refl _) |>.more (by go_size)) (by omega)).mono ?_
          rintro e w5 ⟨A5, c5, he, hk5, hb5⟩
          rw [H1.out.1, H1.out.2.1, H1.out.2.2] at he
          rw [H1.out.2.2] at hk5
          subst he
          have hb5' := ext_below (w0 := wr) (by go_grown) hb5
          have HV5 := hide (p := KSt w5 g10 wr.heap.size r x) ⟨(unhide HR2).below hb5' (unhide HR2).lt, (Blk.new' rfl).below hb5 (by simp), (unhide HO2).below hb5'⟩
          have hbq5 := hB2.trans (hb5'.mono hB2.size)
          have HK5 := hide hk5
          clear hb5 hb5' y0 y1 y2 y3 y4 r0 r1 r2 r3 hB2 HO2 HR2 hk5
          generalize wr.heap.size = g12 at *
          obtain ⟨r0, r1, r2, r3⟩ := (unhide HV5).r1.f2
          obtain ⟨f0, f1, f2, f3, f4, f5⟩ := (unhide HV5).kb.f4
          go_wp2_with fail
          refine (radd_any r.A r.c r.s r.ks x _ ((unhide HV5).ok.sl.below (by go_grown) (Nat.le_refl _) |>.more (by go_size)) (by omega)).mono ?_
          rintro e w6 ⟨A6, c6, he, hk6, hb6⟩
          rw [H1.out.1, H1.out.2.1, H1.out.2.2] at he
          rw [H1.out.2.2] at hk6
          subst he
          have hb6' := ext_below (w0 := w5) (by go_grown) hb6
          have HV6 := hide ((unhide HV5).below hb6')
          have HA6 := hide ((ResR.alloc (s := aS) (unhide HK5) rfl).below hb6)
          have HK6 := hide hk6
          have hbq6 := hbq5.trans (hb6'.mono hbq5.size)
          clear hb6 hb6' HV5 HK5 hbq5 r0 r1 r2 r3 f0 f1 f2 f3 f4 f5 hk6
          generalize w5.heap.size = g13 at *
          obtain ⟨r0, r1, r2, r3⟩ := (unhide HV6).r1.f2
          obtain ⟨f0, f1, f2, f3, f4, f5⟩ := (unhide HV6).kb.f4
          go_wp2_with fail
          refine (steal_any r.A r.c r.s r.ks x.id x.fr _ ((unhide HV6).ok.sl.below (by go_grown) (Nat.le_refl _) |>.more (by go_size)) (by omega)).mono ?_
          rintro e w7 ⟨A7, c7, he, hk7, hb7⟩
          rw [H2.out.1, H2.out.2.1, H2.out.2.2] at he
          rw [H2.out.2.2] at hk7
          subst he
          have hb7' := ext_below (w0 := w6) (by go_grown) hb7
          have HV7 := hide ((unhide HV6).below hb7')
          have HA7 := hide ((unhide HA6).below hb7')
          have HB7 := hide ((ResR.alloc (s := aS) (unhide HK6) rfl).below hb7)
          have HK7 := hide hk7
          have hbq7 := hbq6.trans (hb7'.mono hbq6.size)
          clear hb7 hb7' HV6 HA6 HK6 hbq6 r0 r1 r2 r3 f0 f1 f2 f3 f4 f5 hk7
          generalize w6.heap.size = g15 at *
          obtain ⟨r0, r1, r2, r3⟩ := (unhide HV7).r1.f2
          obtain ⟨f0, f1, f2, f3, f4, f5⟩ := (unhide HV7).kb.f4
          go_wp2_with fail
          refine (rsteal_any r.A r.c r.s r.ks x.id x.fr _ ((unhide HV7).ok.sl.below (by go_grown) (Nat.le_refl _) |>.more (by go_size)) (by omega)).mono ?_
          rintro e w8 ⟨A8, c8, he, hk8, hb8⟩
          rw [H2.out.1, H2.out.2.1, H2.out.2.2] at he
          rw [H2.out.2.2] at hk8
          subst he
          have hb8' := ext_below (w0 := w7) (by go_grown) hb8
          have HA8 := hide ((unhide HA7).below hb8')
          have HB8 := hide ((unhide HB7).below hb8')
          have HC8 := hide ((ResR.alloc (s := ss) (unhide HK7) rfl).below hb8)
          have hbq8 := hbq7.trans (hb8'.mono hbq7.size)
          clear hb8 hb8' HV7 HA7 HB7 HK7 hbq7 r0 r1 r2 r3 f0 f1 f2 f3 f4 f5
          generalize w7.heap.size = g17 at *
          obtain ⟨wt, hwt⟩ : ∃ wt, wt = w8.alloc (.cells #[.int .i64 ss, .slice A8 sk.length c8] 34) := ⟨_, rfl⟩
          have hbt : Below w8.heap.size w8 wt := by rw [hwt]; exact (Below.refl _ _).alloc (Nat.le_refl _) _
          have hdt : ResR wt w8.heap.size A8 c8 ss sk := by rw [hwt]; exact ResR.alloc hk8 rfl
          have HAT := hide ((unhide HA8).below hbt)
          have HBT := hide ((unhide HB8).below hbt)
          have HCT := hide ((unhide HC8).below hbt)
          have hbqt := hbq8.trans (hbt.mono hbq8.size)
          obtain ⟨a0, a1, a2, a3⟩ := (unhide HA8).blk.f2
          obtain ⟨b0', b1', b2', b3'⟩ := (unhide HB8).blk.f2
          obtain ⟨d0, d1, d2, d3⟩ := (unhide HC8).blk.f2
          have HDT := hide hdt
          have HWT := Lib.hid hwt
          clear hdt hk8 hwt
          go_wp2_with fail
          rw [← HWT.out]
          refine (same_true A5 A6 c5 c6 aS ak _ (unhide HAT).sl (unhide HBT).sl hakl).mono ?_
          rintro e w9 ⟨rfl, hb9⟩
          have HC9 := hide ((unhide HCT).below hb9)
          have HD9 := hide ((unhide HDT).below hb9)
          have hbq9 := hbqt.trans (hb9.mono hbqt.size)
          clear hb9 hbt HA8 HB8 HC8 HAT HBT HCT HDT HWT hbqt hbq8 a0 a1 a2 a3 b0' b1' b2' b3' d0 d1 d2 d3
          generalize w8.heap.size = g19 at *
          obtain ⟨a0, a1, a2, a3⟩ := (unhide HC9).blk.f2
          obtain ⟨d0, d1, d2, d3⟩ := (unhide HD9).blk.f2
          go_wp2_with fail
          refine (same_true A7 A8 c7 c8 ss sk _ (unhide HC9).sl (unhide HD9).sl hskl).mono ?_
          rintro e w10 ⟨rfl, hb10⟩
          have hbq10 := hbq9.trans (hb10.mono hbq9.size)
          clear hb10 HC9 HD9 hbq9 a0 a1 a2 a3 d0 d1 d2 d3
          go_wp2_with fail
          go_roundw
          case rel => exact ⟨j + 1, by omega, by go_num, hbq10⟩
          case measure => simp [intOf]; omega
        · have hb3r := hb3q.trans (hB2.mono hb3q.size)
          obtain ⟨e0, e1, e2, e3⟩ := ((unhide HNA).below hb3r (unhide HNA).lt).f2
          have HO2 := hide ((unhide HOQ).below hB2)
          have HR2 := hide ((unhide HRQ).below hB2 (unhide HRQ).lt)
          go_wp2_with fail
          obtain ⟨wt, hwt⟩ : ∃ wt, wt = wr.alloc (.cells #[.int .i64 n0, .int .i64 (n1.tmod 400)] 3) := ⟨_, rfl⟩
          have hdb : Blk wt wr.heap.size 3 #[.int .i64 n0, .int .i64 (n1.tmod 400)] := by rw [hwt]; exact Blk.new' rfl
          have hbt : Below wr.heap.size wr wt := by rw [hwt]; exact (Below.refl _ _).alloc (Nat.le_refl _) _
          rw [← hwt]
          have HOT := hide ((unhide HO2).below hbt)
          have HRT := hide ((unhide HR2).below hbt (unhide HR2).lt)
          have HDB := hide hdb
          have hb3t := hb3r.trans (hbt.mono hb3r.size)
          clear hwt hdb hbt HO2 HR2 hb3r hB2 e0 e1 e2 e3
          generalize wr.heap.size = gd at *
          go_loopw [131] (fun v wr => ∃ q : Nat, q ≤ 2 ∧ v = .int .i64 q ∧ Below wt.heap.size wt wr) (fun v _ => 2 - (intOf v).toNat)
          case atStart => exact ⟨0, by omega, rfl, Below.refl _ _⟩
          case round =>
            obtain ⟨q, hq, rfl, hB3⟩ := hrel
            by_cases hq2 : q < 2
            · obtain ⟨dd, hdd⟩ : ∃ dd, (#[.int .i64 n0, .int .i64 (n1.tmod 400)] : Array Value)[q]? = some (.int .i64 dd) := by
                obtain rfl | rfl : q = 0 ∨ q = 1 := by omega
                · exact ⟨_, rfl⟩
                · exact ⟨_, rfl⟩
              have hmb := (unhide HDB).below hB3 (unhide HDB).lt
              have y0 := (hmb.cell q).trans hdd
              have y1 := hmb.lt
              have HO3 := hide ((unhide HOT).below hB3)
              have HR3 := hide ((unhide HRT).below hB3 (unhide HRT).lt)
              obtain ⟨r0, r1, r2, r3⟩ := (unhide HR3).f2
              obtain ⟨cv, hcv⟩ : ∃ cv, curD dd r.ks = cv := ⟨_, rfl⟩
              have HCV := Lib.hid hcv
              clear hdd hmb hcv
              go_wp2_with fail
              refine (cur_any r.A r.c r.s r.ks dd _ ((unhide HO3).sl.below (by go_grown) (Nat.le_refl _) |>.more (by go_size)) (by omega)).mono ?_
              rintro e w5 ⟨rfl, hb5⟩
              rw [HCV.out]
              have hb5' := ext_below (w0 := wr) (by go_grown) hb5
              have HO5 := hide ((unhide HO3).below hb5')
              have hr5 := (unhide HR3).below hb5' (unhide HR3).lt
              have hbt5 := hB3.trans (hb5'.mono hB3.size)
              clear hb5 hb5' y0 y1 r0 r1 r2 r3 HO3 HR3 hB3
              obtain ⟨r0, r1, r2, r3⟩ := hr5.f2
              clear hr5
              go_wp2_with fail
              refine (rcur_any r.A r.c r.s r.ks dd _ ((unhide HO5).sl.below (by go_grown) (Nat.le_refl _) |>.more (by go_size)) (by omega)).mono ?_
              rintro e w6 ⟨rfl, hb6⟩
              rw [HCV.out]
              have hb6' := ext_below (w0 := w5) (by go_grown) hb6
              have hbt6 := hbt5.trans (hb6'.mono hbt5.size)
              clear hb6 hb6' r0 r1 r2 r3 HO5 hbt5
              go_wp2_with fail
              go_roundw
              case rel => exact ⟨q + 1, by omega, by go_num, hbt6⟩
              case measure => simp [intOf]; omega
            · go_wp2_with fail
              go_roundw
              case rel => exact ⟨k + 1, by omega, by go_num, hb3t.trans (hB3.mono hb3t.size)⟩
              case measure => simp [intOf]; omega
    · go_wp2_with fail
      go_ret
      exact ⟨rfl, ext_below HB3 hB⟩

end Go.Proofs.YtikinldimecgaaaDoor
