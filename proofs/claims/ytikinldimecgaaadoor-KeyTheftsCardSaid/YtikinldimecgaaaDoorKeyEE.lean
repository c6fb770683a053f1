/- The walk of the law KeyThefts. -/
import Derived.Test.YtikinldimecgaaaDoorKeyDD
import Derived.Test.YtikinldimecgaaaDoorKeyU
namespace Go.Proofs.YtikinldimecgaaaDoor
open Go.RowKit

/- a ring in memory, by its block and its keys -/
structure RB (w : World) (g : Nat) (A : Option Addr) (c : Nat) (s : Int) (ks : List Ky) : Prop where
  blk : Blk w g 34 #[.int .i64 s, .slice A ks.length c]
  sl : KSl w A c ks
theorem RB.below {w w' : World} {g c : Nat} {A : Option Addr} {s : Int} {ks : List Ky} (h : RB w g A c s ks) (hb : Below w.heap.size w w') : RB w' g A c s ks :=
  ⟨h.blk.below hb h.blk.lt, Slc.more (h.sl.below hb (Nat.le_refl _)) hb.size⟩
theorem RB.alloc {w : World} {g c : Nat} {A : Option Addr} {s : Int} {ks : List Ky} (hk : KSl w A c ks) (hg : g = w.heap.size) : RB (w.alloc (.cells #[.int .i64 s, .slice A ks.length c] 34)) g A c s ks :=
  ⟨Blk.new' hg, Slc.more (hk.below ((Below.refl _ _).alloc (Nat.le_refl _) _) (Nat.le_refl _)) (by simp)⟩
/- what the law holds throughout: the ring, the key that is stolen, the table -/
structure TSt (w : World) (g8 g9 : Nat) (A : Option Addr) (c : Nat) (sc : Int) (ks : List Ky) (k : Ky) : Prop where
  r8 : RB w g8 A c sc ks
  k9 : Blk w g9 28 #[.int .i64 k.id, .string k.sec, .int .i64 k.fr, .int .i64 k.st]
  tab : Tab w
theorem TSt.below {w w' : World} {g8 g9 c : Nat} {A : Option Addr} {sc : Int} {ks : List Ky} {k : Ky} (h : TSt w g8 g9 A c sc ks k) (hb : Below w.heap.size w w') : TSt w' g8 g9 A c sc ks k :=
  ⟨h.r8.below hb, h.k9.below hb h.k9.lt, h.tab.below hb⟩
theorem mem_set {ks : List Ky} {m : Nat} {k x : Ky} (h : x ∈ ks.set m k) : x ∈ ks ∨ x = k := List.mem_or_eq_of_mem_set h

set_option maxRecDepth 20000 in
set_option maxHeartbeats 8000000 in
theorem thefts_any (S : Int) (A : Option Addr) (c : Nat) (l : List Int) (p0 p1 p2 q0 q1 q2 : Int) (t : ByteArray) (z0 z1 z2 : Int) (w : World) (hl : ISl w A c l) (hS0 : 0 ≤ S) (hS1 : S < 256)
    (hp0 : Rng p0) (hp1 : Rng p1) (hp2 : Rng p2) (hq0 : Rng q0) (hq1 : Rng q1) (hq2 : Rng q2) (hz00 : 0 ≤ z0) (hz01 : z0 < 65536) (hz10 : 0 ≤ z1) (hz11 : z1 < 65536) (hz20 : 0 ≤ z2) (hz21 : z2 < 65536) (hT : Tab w) (ht : t.size ≤ 9223372036854775807) :
    Calls Tryd.prog 7 #[.agg #[.int .u8 S, .slice A l.length c, .int .i64 p0, .int .i64 p1, .int .i64 p2, .int .i64 q0, .int .i64 q1, .int .i64 q2], .string t, .agg #[.int .u16 z0, .int .u16 z1, .int .u16 z2]] w fun e w' =>
      e = .returned (.bool true) ∧ Below w.heap.size w w' := by
  have HL := Lib.hid hl
  have HR := Lib.hid hl.2
  clear hl
  go_enter Tryd.func7, Tryd.ntmps7
  go_wp2_with fail
  refine (sanity_any _ (hT.below (by go_grown))).mono ?_
  rintro e w1 ⟨rfl, hb1⟩
  have HB1 := ext_below (w0 := w) (by go_grown) hb1
  have hcb : Blk w1 w.heap.size 26 #[.int .u8 S, .slice A l.length c, .int .i64 p0, .int .i64 p1, .int .i64 p2, .int .i64 q0, .int .i64 q1, .int .i64 q2] := ((Blk.new' rfl).alloc _).below hb1 (by simp; omega)
  have hqb : Blk w1 (w.heap.size + 1) 59 #[.int .u16 z0, .int .u16 z1, .int .u16 z2] := (Blk.new' (by simp)).below hb1 (by simp)
  obtain ⟨s0, s1, s2, s3, s4, s5, s6, s7, s8, s9⟩ := hcb.f8
  have HQB := hide hqb
  clear hb1 hcb hqb
  go_wp2_with fail
  refine (rings_any S A c l p0 p1 p2 q0 q1 q2 _ ⟨HL.out.1.below (HB1.trans (by go_grown)) (Nat.le_refl _) |>.more (by have := HB1.size; omega), HL.out.2⟩ hS0 hS1 hp0 hp1 hp2 hq0 hq1 hq2).mono ?_
  rintro e w2 ⟨⟨x0, k0, A0, c0⟩, ⟨x1, k1, A1, c1⟩, ⟨x2, k2, A2, c2⟩, rfl, hx0, hk0, hok, -, -, hb2⟩
  have HB2 := ext_below (w0 := w) (by go_grown) hb2
  have hT2 := hT.below HB2
  have hqb := (unhide HQB).below hb2 (unhide HQB).lt
  subst hx0 hk0
  have HMD := Lib.hid (madeD_md (1 + S % 8) l (by omega) HR.out)
  have HMI := Lib.hid (made_idx (1 + S % 8) l (by omega) HR.out)
  have HMC := Lib.hid (madeD_chk (1 + S % 8) l (by omega) HR.out)
  have hml := (madeD_ok (1 + S % 8) l (by omega) HR.out).2
  have hmp := madeD_pos (1 + S % 8) l
  generalize hks : madeD (1 + S % 8) l = ks at *
  clear hks
  have hks0 : KSl w2 A0 c0 ks := hok.sl
  have HKS := hide hks0
  have HSEC : Hid (∀ k ∈ ks, k.sec.size ≤ 100000) := Lib.hid (fun k hk => (hok.ok k hk).1)
  have HQ2 := hide hqb
  clear hb2 hok hks0 hqb HQB s0 s1 s2 s3 s4 s5 s6 s7 s8 s9
  obtain ⟨sc, hsc, hsc0, hsc1⟩ : ∃ sc, 1 + S % 8 = sc ∧ 1 ≤ sc ∧ sc ≤ 8 := ⟨_, rfl, by omega, by omega⟩
  rw [hsc] at HMC ⊢
  clear hsc
  have hix := idx3_0
  go_wp2_with fail
  generalize htx : t.extract 0 (min (t.size : Int) 40).toNat = tx
  have htz : tx.size ≤ 40 := by rw [← htx, ByteArray.size_extract]; omega
  clear htx
  obtain ⟨wp, hwp⟩ : ∃ wp, wp = w2.alloc (.cells #[.int .i64 sc, .slice A0 ks.length c0] 34) := ⟨_, rfl⟩
  have hrp : RB wp w2.heap.size A0 c0 sc ks := by rw [hwp]; exact RB.alloc (unhide HKS) rfl
  have hbp : Below w2.heap.size w2 wp := by rw [hwp]; exact (Below.refl _ _).alloc (Nat.le_refl _) _
  rw [← hwp]
  clear hwp hix
  have HBP := ext_below (w0 := w) HB2 hbp
  have hTP := hT2.below hbp
  have hqp := (unhide HQ2).below hbp (unhide HQ2).lt
  have hgw : w.heap.size + 1 < w2.heap.size := (unhide HQ2).lt
  clear hbp hT2 HKS HB2 HB1 HQ2
  generalize w2.heap.size = g8 at *
  -- the key that is stolen
  obtain ⟨m, hm, hm'⟩ : ∃ m : Nat, Int.tmod z0 (ks.length : Int) = (m : Int) ∧ z0 % (ks.length : Int) = (m : Int) := by
    have h1 : 0 ≤ z0 % (ks.length : Int) := Int.emod_nonneg _ (by omega)
    obtain ⟨m, h2⟩ := Int.eq_ofNat_of_zero_le h1
    exact ⟨m, by rw [Int.tmod_eq_emod_of_nonneg hz00]; exact h2, h2⟩
  have hmlt : m < ks.length := by have := Int.emod_lt_of_pos z0 (show (0 : Int) < (ks.length : Int) by omega); omega
  obtain ⟨k, hkm⟩ : ∃ k, ks[m]? = some k := ⟨_, List.getElem?_eq_getElem hmlt⟩
  obtain ⟨b, off, hA, hb, y0, y1, y2, y3⟩ := hrp.sl.sec hkm
  subst hA
  have HSTL : Hid (Stl sc ks m k) := Lib.hid ⟨HMC.out, HMI.out m k hkm, hkm⟩
  obtain ⟨⟨d0, d1, d2, d3, d4, d5, d6, d7⟩, -⟩ := HMD.out m k hkm
  obtain ⟨r0, r1, r2, r3⟩ := hrp.blk.f2
  obtain ⟨v0, v1, v2, v3, v4⟩ := hqp.f3
  have HRP := hide hrp
  have HQP := hide hqp
  have i0 : (0 : Int) < (ks.length : Int) := by omega
  have i1 : (m : Int) < (ks.length : Int) := by omega
  have i2 : (0 : Int) ≤ (m : Int) := by omega
  have hw0 : IntKind.i64.wrap z0 = z0 := IntWalk.i64_in _ (by omega)
  have i3 : ks ≠ [] := by intro h; subst h; simp at i0
  clear hrp hqp hkm HMC
  go_wp2_with fail
  go_region_held3 (fun w' => w'.cell? ⟨g8, 1, none⟩ = some (.slice (some ⟨b, off, none⟩) ks.length c0) ∧ w'.cell? ⟨w.heap.size + 1, 0, none⟩ = some (.int .u16 z0) ∧ w'.cell? ⟨b, off + m * 4, none⟩ = some (.int .i64 k.id) ∧ w'.cell? ⟨b, off + m * 4 + 1, none⟩ = some (.string k.sec) ∧ w'.cell? ⟨b, off + m * 4 + 2, none⟩ = some (.int .i64 k.fr) ∧ w'.cell? ⟨b, off + m * 4 + 3, none⟩ = some (.int .i64 k.st)) (go_keep) (fail)
  obtain ⟨wk, hwk⟩ : ∃ wk, wk = (wp.alloc (.cells #[.int .i64 k.id, .string k.sec, .int .i64 k.fr, .int .i64 k.st] 28)).drew := ⟨_, rfl⟩
  have hbk : Below wp.heap.size wp wk := by rw [hwk]; exact ((Below.refl _ _).alloc (Nat.le_refl _) _).drew
  have hst : TSt wk g8 wp.heap.size (some ⟨b, off, none⟩) c0 sc ks k := ⟨(unhide HRP).below hbk, by rw [hwk]; exact (Blk.new' rfl).drew, hTP.below hbk⟩
  have hqk := (unhide HQP).below hbk (unhide HQP).lt
  rw [← hwk]
  have HBK := ext_below (w0 := w) HBP hbk
  have HST := hide hst
  have HQK := hide hqk
  clear hwk hbk hst hqk HRP HQP hTP HBP r0 r1 r2 r3 v0 v1 v2 v3 v4 y0 y1 y2 y3 hb hm hm' hw0 i1 i2 hz00 hz01
  generalize wp.heap.size = g9 at *
  obtain ⟨v0, v1, v2, v3, v4⟩ := (unhide HQK).f3
  have hw1 : IntKind.i64.wrap z1 = z1 := IntWalk.i64_in _ (by omega)
  have hw2 : IntKind.i64.wrap z2 = z2 := IntWalk.i64_in _ (by omega)
  obtain ⟨a0, ha0, ha00, ha01⟩ : ∃ a0, Int.tmod z1 400 = a0 ∧ 0 ≤ a0 ∧ a0 < 400 := ⟨_, rfl, by rw [Int.tmod_eq_emod_of_nonneg hz10]; omega, by rw [Int.tmod_eq_emod_of_nonneg hz10]; omega⟩
  obtain ⟨b0, hb0, hb00, hb01⟩ : ∃ b0, Int.tmod z2 400 = b0 ∧ 0 ≤ b0 ∧ b0 < 400 := ⟨_, rfl, by rw [Int.tmod_eq_emod_of_nonneg hz20]; omega, by rw [Int.tmod_eq_emod_of_nonneg hz20]; omega⟩
  obtain ⟨a, ha, ha1, ha2⟩ : ∃ a, IntKind.i64.wrap (1 + a0) = a ∧ 1 ≤ a ∧ a ≤ 400 := ⟨_, IntWalk.i64_in _ (by omega), by omega, by omega⟩
  obtain ⟨d, hd, hd1, hd2⟩ : ∃ d, IntKind.i64.wrap (1 + b0) = d ∧ 1 ≤ d ∧ d ≤ 400 := ⟨_, IntWalk.i64_in _ (by omega), by omega, by omega⟩
  go_wp2_with fail
  go_quiet (fail)
  clear ha hd ha0 hb0 hw1 hw2 v0 v1 v2 v3 v4 HQK ha00 ha01 hb00 hb01 hz10 hz11 hz20 hz21 hgw
  obtain ⟨wn, hwn⟩ : ∃ wn, wn = wk.drewN nq := ⟨_, rfl⟩
  have hbn : Below wk.heap.size wk wn := by rw [hwn]; exact below_drewN (Below.refl _ _) nq
  rw [← hwn]
  have HBN := ext_below (w0 := w) HBK hbn
  have HSN := hide ((unhide HST).below hbn)
  clear hwn hbn HBK HST
  obtain ⟨r0, r1, r2, r3⟩ := (unhide HSN).r8.blk.f2
  obtain ⟨m0, m1, m2, m3, m4, m5⟩ := (unhide HSN).k9.f4
  go_wp2_with fail
  by_cases hf : k.fr ≤ a
  · refine (steal_any (some ⟨b, off, none⟩) c0 sc ks k.id a _ ((unhide HSN).r8.sl.below (by go_grown) (Nat.le_refl _) |>.more (by go_size)) (by omega)).mono ?_
    rintro e w3 ⟨A3, c3, he, hk3, hb3⟩
    obtain ⟨f1, f2, f3⟩ := HSTL.out.ok ha1 (by omega) hf
    rw [f1, f2, f3] at he
    rw [f3] at hk3
    subst he
    have HST1 := Lib.hid (HSTL.out.next ha1 (by omega) hf)
    have HRND : Hid (∀ (i : Nat) (x : Ky), ks[i]? = some x → x.sec.size ≠ 0 → signE (ks.set m (stKey k a)) x.id = 0 ∧ ∃ mk, signM sc (ks.set m (stKey k a)) x.id tx = mk ∧ ∀ s, ∃ u v, validE sc ks x.id tx (bs mk) x.fr s = u ∧ validE sc (ks.set m (stKey k a)) x.id tx (bs mk) x.fr s = v ∧
      ((x.id ≠ k.id ∧ (u = 0 ∧ v = 0 ∨ u = 11 ∧ v = 11)) ∨ (x.id = k.id ∧ s < a ∧ (u = 0 ∧ v = 0 ∨ u = 11 ∧ v = 11)) ∨ (x.id = k.id ∧ a ≤ s ∧ (u = 0 ∧ v = 11 ∨ u = 11 ∧ v = 11)))) := Lib.hid (fun i x hx hz => theft_round HSTL.out ha1 (fun i x h => (HMD.out i x h).2) HMI.out hx hz tx)
    have HSE1 : Hid (∀ y ∈ ks.set m (stKey k a), y.sec.size ≤ 100000) := Lib.hid (fun y hy => by
      rcases mem_set hy with h | rfl
      · exact HSEC.out y h
      · exact HSEC.out k (List.mem_of_getElem? HSTL.out.at_))
    have hlen1 : (ks.set m (stKey k a)).length = ks.length := List.length_set
    have HK1 : Hid (ks.set m (stKey k a) = ks.set m (stKey k a)) := rfl
    have hb3' := ext_below (w0 := wn) (by go_grown) hb3
    have HS3 := hide ((unhide HSN).below hb3')
    have HB3 := ext_below (w0 := w) HBN hb3'
    have HK3 := hide hk3
    have hle1 : (ks.set m (stKey k a)).length ≤ 1000 := by omega
    have HLEN := Lib.hid hlen1
    generalize hg1 : ks.set m (stKey k a) = ks1 at *
    have HG1 := Lib.hid hg1
    clear f1 f2 f3 hb3 hb3' hk3 r0 r1 r2 r3 m0 m1 m2 m3 m4 m5 HSN HBN hlen1 hg1 HK1
    obtain ⟨r0, r1, r2, r3⟩ := (unhide HS3).r8.blk.f2
    go_wp2_with fail
    obtain ⟨wo, hwo⟩ : ∃ wo, wo = w3.alloc (.cells #[.int .i64 sc, .slice A3 ks1.length c3] 34) := ⟨_, rfl⟩
    have hbo : Below w3.heap.size w3 wo := by rw [hwo]; exact (Below.refl _ _).alloc (Nat.le_refl _) _
    have hro : RB wo w3.heap.size A3 c3 sc ks1 := by rw [hwo]; exact RB.alloc (unhide HK3) rfl
    rw [← hwo]
    have HBO := ext_below (w0 := w) HB3 hbo
    have HSO := hide ((unhide HS3).below hbo)
    have HRO := hide hro
    clear hwo hbo hro HS3 HB3 HK3 r0 r1 r2 r3
    generalize w3.heap.size = g12 at *
    have hrsc : Rng sc := by constructor <;> omega
    have haw : IntKind.i64.wrap (a - 1) = a - 1 := IntWalk.i64_in _ (by omega)
    have haw2 : IntKind.i64.wrap (a + 1) = a + 1 := IntWalk.i64_in _ (by omega)
    have HAW := Lib.hid (And.intro haw haw2)
    clear haw haw2
    go_loopw [90] (fun v wr => ∃ i : Nat, i ≤ ks.length ∧ v = .int .i64 i ∧ Below wo.heap.size wo wr) (fun v _ => ks.length - (intOf v).toNat)
    case atStart => exact ⟨0, by omega, rfl, Below.refl _ _⟩
    case round =>
      obtain ⟨i, hi, rfl, hB⟩ := hrel
      have hsr := (unhide HSO).below hB
      have hrr := (unhide HRO).below hB
      have HBr := ext_below (w0 := w) HBO hB
      by_cases hlt : i < ks.length
      · obtain ⟨x, hxi⟩ : ∃ x, ks[i]? = some x := ⟨_, List.getElem?_eq_getElem hlt⟩
        obtain ⟨b', off', hA', hb', y0, y1, y2, y3⟩ := hsr.r8.sl.sec hxi
        injection hA' with hA'
        injection hA' with hA1 hA2
        subst hA1 hA2
        obtain ⟨⟨e0, e1, e2, e3, e4, e5, e6, e7⟩, -⟩ := HMD.out i x hxi
        obtain ⟨hs0, mk, hmk, hv⟩ := HRND.out i x hxi (by omega)
        have HV := Lib.hid hv
        have HSM := Lib.hid (And.intro hs0 hmk)
        have hrid : Rng x.id := by constructor <;> omega
        have HSR := hide hsr
        have HRR := hide hrr
        obtain ⟨r0, r1, r2, r3⟩ := hrr.blk.f2
        clear hv hs0 hmk hxi hsr hrr
        go_wp2_with fail
        refine (sign_any A3 c3 sc ks1 x.id tx _ ((unhide HRR).sl.below (by go_grown) (Nat.le_refl _) |>.more (by go_size)) hle1 HSE1.out hrsc hrid (by omega) ((unhide HSR).tab.below (by go_grown))).mono ?_
        rintro e w4 ⟨rfl, hb4⟩
        rw [HSM.out.1, HSM.out.2]
        have hb4' := ext_below (w0 := wr) (by go_grown) hb4
        have hxb : Blk w4 wr.heap.size 28 #[.int .i64 x.id, .string x.sec, .int .i64 x.fr, .int .i64 x.st] := (Blk.new' rfl).below hb4 (by simp)
        have HS4 := hide ((unhide HSR).below hb4')
        have HR4 := hide ((unhide HRR).below hb4')
        have HX4 := hide hxb
        have hbo4 := hB.trans (hb4'.mono hB.size)
        clear hb4 hb4' hxb r0 r1 r2 r3 y0 y1 y2 y3 hb' HSR HRR hB
        generalize wr.heap.size = g15 at *
        have haw := HAW.out.1
        have haw2 := HAW.out.2
        go_wp2_with fail
        clear haw haw2
        obtain ⟨wq, hwq⟩ : ∃ wq, wq = w4.alloc (.cells #[.int .i64 0, .int .i64 (a - 1), .int .i64 a, .int .i64 (a + 1), .int .i64 d] 3) := ⟨_, rfl⟩
        have hsq : Blk wq w4.heap.size 3 #[.int .i64 0, .int .i64 (a - 1), .int .i64 a, .int .i64 (a + 1), .int .i64 d] := by rw [hwq]; exact Blk.new' rfl
        have hbq : Below w4.heap.size w4 wq := by rw [hwq]; exact (Below.refl _ _).alloc (Nat.le_refl _) _
        rw [← hwq]
        have HSQ := hide ((unhide HS4).below hbq)
        have HRQ := hide ((unhide HR4).below hbq)
        have HXQ := hide ((unhide HX4).below hbq (unhide HX4).lt)
        have HDQ := hide hsq
        have hboq := hbo4.trans (hbq.mono hbo4.size)
        clear hwq hsq hbq HS4 HR4 HX4 hbo4
        generalize w4.heap.size = g18 at *
        go_loopw [112] (fun v ws => ∃ j : Nat, j ≤ 5 ∧ v = .int .i64 j ∧ Below wq.heap.size wq ws) (fun v _ => 5 - (intOf v).toNat)
        case atStart => exact ⟨0, by omega, rfl, Below.refl _ _⟩
        case round =>
          obtain ⟨j, hj, rfl, hBs⟩ := hrel
          by_cases hjl : j < 5
          · obtain ⟨s, hsj, hsr⟩ : ∃ s, (#[.int .i64 0, .int .i64 (a - 1), .int .i64 a, .int .i64 (a + 1), .int .i64 d] : Array Value)[j]? = some (.int .i64 s) ∧ Rng s := by
              obtain rfl | rfl | rfl | rfl | rfl : j = 0 ∨ j = 1 ∨ j = 2 ∨ j = 3 ∨ j = 4 := by omega
              · exact ⟨0, rfl, by constructor <;> decide⟩
              · exact ⟨_, rfl, by constructor <;> omega⟩
              · exact ⟨_, rfl, by constructor <;> omega⟩
              · exact ⟨_, rfl, by constructor <;> omega⟩
              · exact ⟨_, rfl, by constructor <;> omega⟩
            have hsl := (unhide HDQ).below hBs (unhide HDQ).lt
            have hjd : decide ((j : Int) < 5) = true := decide_eq_true (by omega)
            have hsc1 := (hsl.cell j).trans hsj
            have hsfr := hsl.lt
            have HSS := hide ((unhide HSQ).below hBs)
            have HRS := hide ((unhide HRQ).below hBs)
            have HXS := hide ((unhide HXQ).below hBs (unhide HXQ).lt)
            obtain ⟨u, v, hu, hv, hcase⟩ := HV.out s
            have HU := Lib.hid hu
            have HVV := Lib.hid hv
            have HCASE := Lib.hid hcase
            clear hsl hsj hu hv hcase
            go_wp2_with fail
            have hbs := hboq.trans (hBs.mono hboq.size)
            obtain ⟨wt, hwt⟩ : ∃ wt, wt = wr := ⟨_, rfl⟩
            obtain ⟨r0, r1, r2, r3⟩ := (unhide HRS).blk.f2
            obtain ⟨q0, q1, q2, q3⟩ := (unhide HSS).r8.blk.f2
            obtain ⟨f0, f1, f2, f3, f4, f5⟩ := (unhide HXS).f4
            clear hwt
            have hx : ∀ (x : Ext wr.heap.size wr) (bb oo : Nat), bb < wr.heap.size → x.val.cell? ⟨bb, oo, none⟩ = wr.cell? ⟨bb, oo, none⟩ := fun x bb oo h => x.ok.cell (p := ⟨bb, oo, none⟩) h
            refine wp_region_ext wr.heap.size (by kernel_rfl) (by kernel_rfl) ?_
            repeat (go_big_quiet_step ((go_at_call 22; exact ext_of (Nat.le_refl _) (valid_any _ _ _ _ _ _ _ _ _ _ (by first | exact ((unhide HSS).below (Ext.ok _)).r8.sl | exact ((unhide HRS).below (Ext.ok _)).sl) (by omega) (by first | exact HSEC.out | exact HSE1.out) hrsc hrid (by omega) ((unhide HSS).below (Ext.ok _)).tab))))
            refine wpQuiet_nil ?_
            rintro wb ⟨x', hx'⟩
            have hbb : Below wr.heap.size wr wb := hx' ▸ x'.ok
            clear hx'
            clear x'
            rw [HU.out, HVV.out]
            have hrel5 := hBs.trans (hbb.mono hBs.size)
            have HK5 := hide (((unhide HSS).below hbb).k9)
            have HX5 := hide ((unhide HXS).below hbb (unhide HXS).lt)
            clear hx r0 r1 r2 r3 q0 q1 q2 q3 f0 f1 f2 f3 f4 f5 hbs HSS HRS HXS hsc1 hsfr hbb HU HVV
            obtain ⟨m0, m1, m2, m3, m4, m5⟩ := (unhide HK5).f4
            obtain ⟨f0, f1, f2, f3, f4, f5⟩ := (unhide HX5).f4
            rcases HCASE.out with ⟨hne, hc⟩ | ⟨heq, hsa, hc⟩ | ⟨heq, hsa, hc⟩
            · have hn1 : (x.id != k.id) = true := by rw [bne_iff_ne]; exact hne
              have hn2 : (x.id == k.id) = false := beq_eq_false_iff_ne.2 hne
              clear hne HCASE
              by_cases hsa : s < a
              all_goals
                rcases hc with ⟨rfl, rfl⟩ | ⟨rfl, rfl⟩
                all_goals
                  go_wp2_with fail
                  go_roundw
                  case rel => exact ⟨j + 1, by omega, by go_num, hrel5⟩
                  case measure => simp [intOf]; omega
            · have hn1 : (x.id != k.id) = false := by rw [heq]; simp
              have hn2 : (x.id == k.id) = true := by rw [heq]; simp
              clear heq HCASE
              rcases hc with ⟨rfl, rfl⟩ | ⟨rfl, rfl⟩
              all_goals
                go_wp2_with fail
                go_roundw
                case rel => exact ⟨j + 1, by omega, by go_num, hrel5⟩
                case measure => simp [intOf]; omega
            · have hn1 : (x.id != k.id) = false := by rw [heq]; simp
              have hn2 : (x.id == k.id) = true := by rw [heq]; simp
              clear heq HCASE
              rcases hc with ⟨rfl, rfl⟩ | ⟨rfl, rfl⟩
              all_goals
                go_wp2_with fail
                go_roundw
                case rel => exact ⟨j + 1, by omega, by go_num, hrel5⟩
                case measure => simp [intOf]; omega
          · go_wp2_with fail
            go_roundw
            case rel => exact ⟨i + 1, by omega, by go_num, hboq.trans (hBs.mono hboq.size)⟩
            case measure => simp [intOf]; omega
      · have HSR := hide hsr
        have HRR := hide hrr
        clear hsr hrr HRND HMD HMI
        obtain ⟨r0, r1, r2, r3⟩ := (unhide HRR).blk.f2
        obtain ⟨m0, m1, m2, m3, m4, m5⟩ := (unhide HSR).k9.f4
        by_cases hg : k.fr ≤ d
        · have F1 : Hid (stealE sc ks1 k.id d = 0 ∧ stealS sc ks1 k.id d = sc ∧ stealK sc ks1 k.id d = ks1.set m (stKey (stKey k a) d)) := Lib.hid (HST1.out.ok hd1 (by omega) hg)
          have F2 := Lib.hid (HSTL.out.ok hd1 (by omega) hg)
          have F3 : Hid (stealE sc (ks.set m (stKey k d)) k.id a = 0 ∧ stealS sc (ks.set m (stKey k d)) k.id a = sc ∧ stealK sc (ks.set m (stKey k d)) k.id a = (ks.set m (stKey k d)).set m (stKey (stKey k d) a)) := Lib.hid ((HSTL.out.next hd1 (by omega) hg).ok ha1 (by omega) hf)
          have F4 := Lib.hid (HSTL.out.ok (a := min a d) (by omega) (by omega) (by omega))
          obtain ⟨K, hK1, hK2, hK3, hKl⟩ : ∃ K : List Ky, ks1.set m (stKey (stKey k a) d) = K ∧ (ks.set m (stKey k d)).set m (stKey (stKey k d) a) = K ∧ ks.set m (stKey k (min a d)) = K ∧ K.length ≤ 2000 := by
            obtain ⟨t1, t2⟩ := stKey_two (k := k) (a := a) (b := d) (by omega) (by omega)
            refine ⟨_, rfl, ?_, ?_, ?_⟩
            · rw [← HG1.out, List.set_set, List.set_set, t1]
            · rw [← HG1.out, List.set_set, t2]
            · rw [List.length_set]; omega
          rw [hK1] at F1
          rw [hK2] at F3
          rw [hK3] at F4
          have hll : (ks.set m (stKey k d)).length ≤ 1000 := by rw [List.length_set]; omega
          clear hK1 hK2 hK3
          generalize ks.set m (stKey k d) = ks2 at *
          go_wp2_with fail
          refine (steal_any A3 c3 sc ks1 k.id d _ ((unhide HRR).sl.below (by go_grown) (Nat.le_refl _) |>.more (by go_size)) hle1).mono ?_
          rintro e w4 ⟨A4, c4, he, hk4, hb4⟩
          rw [F1.out.1, F1.out.2.1, F1.out.2.2] at he
          rw [F1.out.2.2] at hk4
          subst he
          have hb4' := ext_below (w0 := wr) (by go_grown) hb4
          have HB4 := ext_below HBr hb4'
          have HS4 := hide ((unhide HSR).below hb4')
          have HK4 := hide hk4
          clear hb4 hb4' hk4 HSR HRR HBr r0 r1 r2 r3 m0 m1 m2 m3 m4 m5 hB
          obtain ⟨r0, r1, r2, r3⟩ := (unhide HS4).r8.blk.f2
          obtain ⟨m0, m1, m2, m3, m4, m5⟩ := (unhide HS4).k9.f4
          go_wp2_with fail
          refine (steal_any (some ⟨b, off, none⟩) c0 sc ks k.id d _ ((unhide HS4).r8.sl.below (by go_grown) (Nat.le_refl _) |>.more (by go_size)) (by omega)).mono ?_
          rintro e w5 ⟨A5, c5, he, hk5, hb5⟩
          rw [F2.out.1, F2.out.2.1, F2.out.2.2] at he
          rw [F2.out.2.2] at hk5
          subst he
          have hb5' := ext_below (w0 := w4) (by go_grown) hb5
          have HB5 := ext_below HB4 hb5'
          have HS5 := hide ((unhide HS4).below hb5')
          have HA5 := hide ((RB.alloc (s := sc) (unhide HK4) rfl).below hb5)
          have HK5 := hide hk5
          clear hb5 hb5' hk5 HS4 HK4 HB4 r0 r1 r2 r3 m0 m1 m2 m3 m4 m5
          generalize w4.heap.size = g22 at *
          obtain ⟨r0, r1, r2, r3⟩ := (unhide HS5).r8.blk.f2
          obtain ⟨m0, m1, m2, m3, m4, m5⟩ := (unhide HS5).k9.f4
          go_wp2_with fail
          refine (steal_any A5 c5 sc ks2 k.id a _ ((unhide HK5).below (by go_grown) (Nat.le_refl _) |>.more (by go_size)) hll).mono ?_
          rintro e w6 ⟨A6, c6, he, hk6, hb6⟩
          rw [F3.out.1, F3.out.2.1, F3.out.2.2] at he
          rw [F3.out.2.2] at hk6
          subst he
          have hb6' := ext_below (w0 := w5) (by go_grown) hb6
          have HB6 := ext_below HB5 hb6'
          have HS6 := hide ((unhide HS5).below hb6')
          have HA6 := hide ((unhide HA5).below hb6')
          have HK6 := hide hk6
          clear hb6 hb6' hk6 HS5 HA5 HK5 HB5 r0 r1 r2 r3 m0 m1 m2 m3 m4 m5
          generalize w5.heap.size = g24 at *
          obtain ⟨r0, r1, r2, r3⟩ := (unhide HS6).r8.blk.f2
          obtain ⟨m0, m1, m2, m3, m4, m5⟩ := (unhide HS6).k9.f4
          go_wp2_with fail
          refine (steal_any (some ⟨b, off, none⟩) c0 sc ks k.id (min a d) _ ((unhide HS6).r8.sl.below (by go_grown) (Nat.le_refl _) |>.more (by go_size)) (by omega)).mono ?_
          rintro e w7 ⟨A7, c7, he, hk7, hb7⟩
          rw [F4.out.1, F4.out.2.1, F4.out.2.2] at he
          rw [F4.out.2.2] at hk7
          subst he
          have hb7' := ext_below (w0 := w6) (by go_grown) hb7
          have HB7 := ext_below HB6 hb7'
          have HA7 := hide ((unhide HA6).below hb7')
          have HR7 := hide ((RB.alloc (s := sc) (unhide HK6) rfl).below hb7)
          clear hb7 hb7' HS6 HA6 HK6 HB6 r0 r1 r2 r3 m0 m1 m2 m3 m4 m5
          generalize w6.heap.size = g26 at *
          obtain ⟨wt, hwt⟩ : ∃ wt, wt = w7.alloc (.cells #[.int .i64 sc, .slice A7 K.length c7] 34) := ⟨_, rfl⟩
          have hbt : Below w7.heap.size w7 wt := by rw [hwt]; exact (Below.refl _ _).alloc (Nat.le_refl _) _
          have hdt : RB wt w7.heap.size A7 c7 sc K := by rw [hwt]; exact RB.alloc hk7 rfl
          have HBT := ext_below HB7 hbt
          have HAT := hide ((unhide HA7).below hbt)
          have HRT := hide ((unhide HR7).below hbt)
          obtain ⟨a0, a1, a2, a3⟩ := (unhide HA7).blk.f2
          obtain ⟨b0, b1, b2, b3⟩ := (unhide HR7).blk.f2
          have HDT := hide hdt
          have HWT := Lib.hid hwt
          clear hdt hk7 hwt hbt
          go_wp2_with fail
          rw [← HWT.out]
          refine (same_true A4 A6 c4 c6 sc K _ (unhide HAT).sl (unhide HRT).sl hKl).mono ?_
          rintro e w8 ⟨rfl, hb8⟩
          have HB8 := ext_below HBT hb8
          have HA8 := hide ((unhide HAT).below hb8)
          have HD8 := hide ((unhide HDT).below hb8)
          clear hb8 HA7 HR7 HAT HRT HDT HWT HBT HB7 a0 a1 a2 a3 b0 b1 b2 b3
          generalize w7.heap.size = g28 at *
          obtain ⟨a0, a1, a2, a3⟩ := (unhide HA8).blk.f2
          obtain ⟨b0, b1, b2, b3⟩ := (unhide HD8).blk.f2
          go_wp2_with fail
          refine (same_true A4 A7 c4 c7 sc K _ (unhide HA8).sl (unhide HD8).sl hKl).mono ?_
          rintro e w9 ⟨rfl, hb9⟩
          have HB9 := ext_below HB8 hb9
          clear hb9 HA8 HD8 HB8 a0 a1 a2 a3 b0 b1 b2 b3
          go_wp2_with fail
          go_ret
          exact ⟨rfl, HB9⟩
        · have F1 : Hid (stealE sc ks1 k.id d = 23 ∧ stealS sc ks1 k.id d = 0 ∧ stealK sc ks1 k.id d = []) := Lib.hid (HST1.out.bad (a := d) (show d < k.fr by omega))
          have F2 := Lib.hid (HSTL.out.bad (a := d) (by omega))
          have hdf : d < k.fr := by omega
          go_wp2_with fail
          refine (steal_any A3 c3 sc ks1 k.id d _ ((unhide HRR).sl.below (by go_grown) (Nat.le_refl _) |>.more (by go_size)) hle1).mono ?_
          rintro e w4 ⟨A4, c4, he, hk4, hb4⟩
          rw [F1.out.1, F1.out.2.1, F1.out.2.2] at he
          rw [F1.out.2.2] at hk4
          subst he
          have hb4' := ext_below (w0 := wr) (by go_grown) hb4
          have HB4 := ext_below HBr hb4'
          have HS4 := hide ((unhide HSR).below hb4')
          clear hb4 hb4' hk4 HSR HRR HBr r0 r1 r2 r3 m0 m1 m2 m3 m4 m5 hB
          obtain ⟨r0, r1, r2, r3⟩ := (unhide HS4).r8.blk.f2
          obtain ⟨m0, m1, m2, m3, m4, m5⟩ := (unhide HS4).k9.f4
          go_wp2_with fail
          refine (steal_any (some ⟨b, off, none⟩) c0 sc ks k.id d _ ((unhide HS4).r8.sl.below (by go_grown) (Nat.le_refl _) |>.more (by go_size)) (by omega)).mono ?_
          rintro e w5 ⟨A5, c5, he, hk5, hb5⟩
          rw [F2.out.1, F2.out.2.1, F2.out.2.2] at he
          rw [F2.out.2.2] at hk5
          subst he
          have hb5' := ext_below (w0 := w4) (by go_grown) hb5
          have HB5 := ext_below HB4 hb5'
          have HS5 := hide ((unhide HS4).below hb5')
          clear hb5 hb5' hk5 HS4 HB4 r0 r1 r2 r3 m0 m1 m2 m3 m4 m5
          obtain ⟨m0, m1, m2, m3, m4, m5⟩ := (unhide HS5).k9.f4
          go_wp2_with fail
          go_ret
          exact ⟨rfl, HB5.alloc (by have := HB5.size; omega) _⟩
  · refine (steal_any (some ⟨b, off, none⟩) c0 sc ks k.id a _ ((unhide HSN).r8.sl.below (by go_grown) (Nat.le_refl _) |>.more (by go_size)) (by omega)).mono ?_
    rintro e w3 ⟨A3, c3, he, hk3, hb3⟩
    obtain ⟨f1, f2, f3⟩ := HSTL.out.bad (a := a) (by omega)
    rw [f1, f2, f3] at he
    rw [f3] at hk3
    subst he
    have hb3' := ext_below (w0 := wn) (by go_grown) hb3
    have HS3 := hide ((unhide HSN).below hb3')
    have HB3 := ext_below (w0 := w) HBN hb3'
    clear f1 f2 f3 hb3 hb3' hk3 r0 r1 r2 r3 m0 m1 m2 m3 m4 m5 HSN HBN
    obtain ⟨m0, m1, m2, m3, m4, m5⟩ := (unhide HS3).k9.f4
    have hlt : a < k.fr := by omega
    go_wp2_with fail
    go_ret
    exact ⟨rfl, HB3.alloc (by have := HB3.size; omega) _⟩

end Go.Proofs.YtikinldimecgaaaDoor
