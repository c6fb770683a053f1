/- The walk of the chapter's examples. -/
import Derived.Test.YtikinldimecgaaaDoorKeyR
namespace Go.Proofs.YtikinldimecgaaaDoor
open Go.RowKit

def exSt : List Ky := [⟨1, ⟨#[97]⟩, 0, 0⟩, ⟨4, ⟨#[98]⟩, 50, 70⟩]
structure SanR (w : World) (g : Nat) (A : Option Addr) (c : Nat) (ks : List Ky) : Prop where
  blk : Blk w g 34 #[.int .i64 3, .slice A 2 c]
  sl : KSl w A c ks
theorem SanR.below {w w' : World} {g c : Nat} {A : Option Addr} {ks : List Ky} (h : SanR w g A c ks) (hb : Below w.heap.size w w') : SanR w' g A c ks :=
  ⟨h.blk.below hb h.blk.lt, Slc.more (h.sl.below hb (Nat.le_refl _)) hb.size⟩
def txt : ByteArray := ⟨#[116, 101, 120, 116]⟩
def oth : ByteArray := ⟨#[111, 116, 104, 101, 114]⟩
theorem exOk : ∀ k ∈ exKs, k.sec.size ≤ 100000 := by
  intro k hk
  simp only [exKs, List.mem_cons, List.not_mem_nil, or_false] at hk
  rcases hk with rfl | rfl <;> decide
theorem exStOk : ∀ k ∈ exSt, k.sec.size ≤ 100000 := by
  intro k hk
  simp only [exSt, List.mem_cons, List.not_mem_nil, or_false] at hk
  rcases hk with rfl | rfl <;> decide
theorem san_s1 : stealS 3 exKs 4 70 = 3 ∧ stealE 3 exKs 4 70 = 0 := by decide
theorem san_s1k : stealK 3 exKs 4 70 = exSt := by rfl
theorem san_c : chkR 3 exKs = 0 := by decide
theorem san_1 : curD 49 exKs = (1, true) := by decide
theorem san_2 : curD 50 exKs = (4, true) := by decide
theorem san_3 : curD 69 exSt = (4, true) := by decide
theorem san_4 : curD 70 exSt = (1, true) := by decide
theorem san_s2 : stealS 3 exKs 4 40 = 0 ∧ stealE 3 exKs 4 40 = 23 := by decide
theorem san_s2k : stealK 3 exKs 4 40 = [] := by rfl
theorem san_s3 : stealS 3 exKs 5 70 = 0 ∧ stealE 3 exKs 5 70 = 5 := by decide
theorem san_s3k : stealK 3 exKs 5 70 = [] := by rfl
theorem san_a1 : addS 3 exKs ⟨4, ⟨#[99]⟩, 60, 0⟩ = 0 ∧ addE 3 exKs ⟨4, ⟨#[99]⟩, 60, 0⟩ = 7 := by decide
theorem san_a1k : addK 3 exKs ⟨4, ⟨#[99]⟩, 60, 0⟩ = [] := by rfl
theorem san_a2 : addS 3 exKs ⟨5, ⟨#[99]⟩, 49, 0⟩ = 0 ∧ addE 3 exKs ⟨5, ⟨#[99]⟩, 49, 0⟩ = 7 := by decide
theorem san_a2k : addK 3 exKs ⟨5, ⟨#[99]⟩, 49, 0⟩ = [] := by rfl
theorem san_g : signE exKs 4 = 0 := by decide
theorem san_v1 : validE 3 exSt 4 txt (bs (signM 3 exKs 4 txt)) 60 69 = 0 := by kernel_rfl
theorem san_v2 : validE 3 exSt 4 txt (bs (signM 3 exKs 4 txt)) 60 70 = 11 := by kernel_rfl
theorem san_v3 : validE 3 exSt 4 txt (bs (signM 3 exKs 4 txt)) 49 49 = 23 := by kernel_rfl
theorem san_v4 : validE 3 exKs 4 oth (bs (signM 3 exKs 4 txt)) 60 69 = 11 := by kernel_rfl

set_option maxRecDepth 20000 in
set_option maxHeartbeats 8000000 in
theorem sanity_any (w : World) (hT : Tab w) :
    Calls Tryd.prog 9 #[] w fun e w' => e = .returned (.bool true) ∧ Below w.heap.size w w' := by
  go_enter Tryd.func9, Tryd.ntmps9
  go_wp2_with fail
  refine (example_any _).mono ?_
  rintro e w1 ⟨A1, c1, rfl, hk1, hb⟩
  have HB1 := ext_below (w0 := w) (by go_grown) hb
  have hT1 := hT.below HB1
  have HK1 := hide hk1
  clear hb hk1
  go_wp2_with fail
  refine (steal_any A1 c1 3 exKs 4 70 _ ((unhide HK1).below (by go_grown) (Nat.le_refl _) |>.more (by go_size)) (by decide)).mono ?_
  rintro e w2 ⟨A2, c2, he, hk2, hb⟩
  rw [san_s1.1, san_s1.2, san_s1k] at he
  rw [san_s1k] at hk2
  subst he
  have hbi := ext_below (w0 := w1) (by go_grown) hb
  have HB2 := ext_below HB1 hbi
  have hT2 := hT1.below hbi
  have HS1 := hide (p := SanR w2 w1.heap.size A1 c1 exKs) ⟨(Blk.new' rfl).below hb (by simp), Slc.more ((unhide HK1).below hbi (Nat.le_refl _)) hbi.size⟩
  have HK2 := hide hk2
  obtain ⟨r0, r1, r2, r3⟩ := (unhide HS1).blk.f2
  clear hb hbi HK1 hk2 hT1
  have hlen2 : exSt.length = 2 := rfl
  go_wp2_with fail
  refine (kcheck_any A1 c1 3 exKs _ ((unhide HS1).sl.below (by go_grown) (Nat.le_refl _) |>.more (by go_size)) (by decide)).mono ?_
  rintro e w3 ⟨rfl, hb⟩
  rw [san_c]
  have hbi := ext_below (w0 := w2) (by go_grown) hb
  have HB3 := ext_below HB2 hbi
  have hT3 := hT2.below hbi
  have HS2 := hide (p := SanR w3 w2.heap.size A2 c2 exSt) ⟨(Blk.new' rfl).below hb (by simp), Slc.more ((unhide HK2).below hbi (Nat.le_refl _)) hbi.size⟩
  clear HK2
  have HS1' := hide ((unhide HS1).below hbi)
  clear HS1
  have HS1 := HS1'
  clear HS1' r0 r1 r2 r3 hT2
  obtain ⟨r0, r1, r2, r3⟩ := (unhide HS1).blk.f2
  obtain ⟨p0, p1, p2, p3⟩ := (unhide HS2).blk.f2
  clear hb hbi
  go_wp2_with fail
  refine (current_true A1 c1 3 exKs 49 1 _ ((unhide HS1).sl.below (by go_grown) (Nat.le_refl _) |>.more (by go_size)) (by decide) san_1 (by decide)).mono ?_
  rintro e w4 ⟨rfl, hb⟩
  have hbi := ext_below (w0 := w3) (by go_grown) hb
  have HB4 := ext_below HB3 hbi
  have hT4 := hT3.below hbi
  have HS2' := hide ((unhide HS2).below hbi)
  clear HS2
  have HS2 := HS2'
  clear HS2' 
  have HS1' := hide ((unhide HS1).below hbi)
  clear HS1
  have HS1 := HS1'
  clear HS1' r0 r1 r2 r3 hT3
  obtain ⟨r0, r1, r2, r3⟩ := (unhide HS1).blk.f2
  clear p0 p1 p2 p3
  obtain ⟨p0, p1, p2, p3⟩ := (unhide HS2).blk.f2
  clear hb hbi
  go_wp2_with fail
  refine (current_true A1 c1 3 exKs 50 4 _ ((unhide HS1).sl.below (by go_grown) (Nat.le_refl _) |>.more (by go_size)) (by decide) san_2 (by decide)).mono ?_
  rintro e w5 ⟨rfl, hb⟩
  have hbi := ext_below (w0 := w4) (by go_grown) hb
  have HB5 := ext_below HB4 hbi
  have hT5 := hT4.below hbi
  have HS2' := hide ((unhide HS2).below hbi)
  clear HS2
  have HS2 := HS2'
  clear HS2' 
  have HS1' := hide ((unhide HS1).below hbi)
  clear HS1
  have HS1 := HS1'
  clear HS1' r0 r1 r2 r3 hT4
  obtain ⟨r0, r1, r2, r3⟩ := (unhide HS1).blk.f2
  clear p0 p1 p2 p3
  obtain ⟨p0, p1, p2, p3⟩ := (unhide HS2).blk.f2
  clear hb hbi
  go_wp2_with fail
  refine (current_true A2 c2 3 exSt 69 4 _ ((unhide HS2).sl.below (by go_grown) (Nat.le_refl _) |>.more (by go_size)) (by decide) san_3 (by decide)).mono ?_
  rintro e w6 ⟨rfl, hb⟩
  have hbi := ext_below (w0 := w5) (by go_grown) hb
  have HB6 := ext_below HB5 hbi
  have hT6 := hT5.below hbi
  have HS2' := hide ((unhide HS2).below hbi)
  clear HS2
  have HS2 := HS2'
  clear HS2' 
  have HS1' := hide ((unhide HS1).below hbi)
  clear HS1
  have HS1 := HS1'
  clear HS1' r0 r1 r2 r3 hT5
  obtain ⟨r0, r1, r2, r3⟩ := (unhide HS1).blk.f2
  clear p0 p1 p2 p3
  obtain ⟨p0, p1, p2, p3⟩ := (unhide HS2).blk.f2
  clear hb hbi
  go_wp2_with fail
  refine (current_true A2 c2 3 exSt 70 1 _ ((unhide HS2).sl.below (by go_grown) (Nat.le_refl _) |>.more (by go_size)) (by decide) san_4 (by decide)).mono ?_
  rintro e w7 ⟨rfl, hb⟩
  have hbi := ext_below (w0 := w6) (by go_grown) hb
  have HB7 := ext_below HB6 hbi
  have hT7 := hT6.below hbi
  have HS2' := hide ((unhide HS2).below hbi)
  clear HS2
  have HS2 := HS2'
  clear HS2' 
  have HS1' := hide ((unhide HS1).below hbi)
  clear HS1
  have HS1 := HS1'
  clear HS1' r0 r1 r2 r3 hT6
  obtain ⟨r0, r1, r2, r3⟩ := (unhide HS1).blk.f2
  clear p0 p1 p2 p3
  obtain ⟨p0, p1, p2, p3⟩ := (unhide HS2).blk.f2
  clear hb hbi
  go_wp2_with fail
  refine (steal_any A1 c1 3 exKs 4 40 _ ((unhide HS1).sl.below (by go_grown) (Nat.le_refl _) |>.more (by go_size)) (by decide)).mono ?_
  rintro e w8 ⟨A3, c3, he, -, hb⟩
  rw [san_s2.1, san_s2.2, san_s2k] at he
  subst he
  have hbi := ext_below (w0 := w7) (by go_grown) hb
  have HB8 := ext_below HB7 hbi
  have hT8 := hT7.below hbi
  have HS2' := hide ((unhide HS2).below hbi)
  clear HS2
  have HS2 := HS2'
  clear HS2' 
  have HS1' := hide ((unhide HS1).below hbi)
  clear HS1
  have HS1 := HS1'
  clear HS1' r0 r1 r2 r3 hT7
  obtain ⟨r0, r1, r2, r3⟩ := (unhide HS1).blk.f2
  clear p0 p1 p2 p3
  obtain ⟨p0, p1, p2, p3⟩ := (unhide HS2).blk.f2
  clear hb hbi
  go_wp2_with fail
  refine (steal_any A1 c1 3 exKs 5 70 _ ((unhide HS1).sl.below (by go_grown) (Nat.le_refl _) |>.more (by go_size)) (by decide)).mono ?_
  rintro e w9 ⟨A3, c3, he, -, hb⟩
  rw [san_s3.1, san_s3.2, san_s3k] at he
  subst he
  have hbi := ext_below (w0 := w8) (by go_grown) hb
  have HB9 := ext_below HB8 hbi
  have hT9 := hT8.below hbi
  have HS2' := hide ((unhide HS2).below hbi)
  clear HS2
  have HS2 := HS2'
  clear HS2' 
  have HS1' := hide ((unhide HS1).below hbi)
  clear HS1
  have HS1 := HS1'
  clear HS1' r0 r1 r2 r3 hT8
  obtain ⟨r0, r1, r2, r3⟩ := (unhide HS1).blk.f2
  clear p0 p1 p2 p3
  obtain ⟨p0, p1, p2, p3⟩ := (unhide HS2).blk.f2
  clear hb hbi
  go_wp2_with fail
  refine (add_any A1 c1 3 exKs ⟨4, ⟨#[99]⟩, 60, 0⟩ _ ((unhide HS1).sl.below (by go_grown) (Nat.le_refl _) |>.more (by go_size)) (by decide)).mono ?_
  rintro e w10 ⟨A3, c3, he, -, hb⟩
  rw [san_a1.1, san_a1.2, san_a1k] at he
  subst he
  have hbi := ext_below (w0 := w9) (by go_grown) hb
  have HB10 := ext_below HB9 hbi
  have hT10 := hT9.below hbi
  have HS2' := hide ((unhide HS2).below hbi)
  clear HS2
  have HS2 := HS2'
  clear HS2' 
  have HS1' := hide ((unhide HS1).below hbi)
  clear HS1
  have HS1 := HS1'
  clear HS1' r0 r1 r2 r3 hT9
  obtain ⟨r0, r1, r2, r3⟩ := (unhide HS1).blk.f2
  clear p0 p1 p2 p3
  obtain ⟨p0, p1, p2, p3⟩ := (unhide HS2).blk.f2
  clear hb hbi
  go_wp2_with fail
  refine (add_any A1 c1 3 exKs ⟨5, ⟨#[99]⟩, 49, 0⟩ _ ((unhide HS1).sl.below (by go_grown) (Nat.le_refl _) |>.more (by go_size)) (by decide)).mono ?_
  rintro e w11 ⟨A3, c3, he, -, hb⟩
  rw [san_a2.1, san_a2.2, san_a2k] at he
  subst he
  have hbi := ext_below (w0 := w10) (by go_grown) hb
  have HB11 := ext_below HB10 hbi
  have hT11 := hT10.below hbi
  have HS2' := hide ((unhide HS2).below hbi)
  clear HS2
  have HS2 := HS2'
  clear HS2' 
  have HS1' := hide ((unhide HS1).below hbi)
  clear HS1
  have HS1 := HS1'
  clear HS1' r0 r1 r2 r3 hT10
  obtain ⟨r0, r1, r2, r3⟩ := (unhide HS1).blk.f2
  clear p0 p1 p2 p3
  obtain ⟨p0, p1, p2, p3⟩ := (unhide HS2).blk.f2
  clear hb hbi
  go_wp2_with fail
  refine (sign_any A1 c1 3 exKs 4 txt _ ((unhide HS1).sl.below (by go_grown) (Nat.le_refl _) |>.more (by go_size)) (by decide) exOk (by constructor <;> decide) (by constructor <;> decide) (by decide) (hT11.below (by go_grown))).mono ?_
  rintro e w12 ⟨rfl, hb⟩
  rw [san_g]
  have hbi := ext_below (w0 := w11) (by go_grown) hb
  have HB12 := ext_below HB11 hbi
  have hT12 := hT11.below hbi
  have HS2' := hide ((unhide HS2).below hbi)
  clear HS2
  have HS2 := HS2'
  clear HS2' 
  have HS1' := hide ((unhide HS1).below hbi)
  clear HS1
  have HS1 := HS1'
  clear HS1' r0 r1 r2 r3 hT11
  obtain ⟨r0, r1, r2, r3⟩ := (unhide HS1).blk.f2
  clear p0 p1 p2 p3
  obtain ⟨p0, p1, p2, p3⟩ := (unhide HS2).blk.f2
  clear hb hbi
  go_wp2_with fail
  refine (valid_any A2 c2 3 exSt 4 txt (bs (signM 3 exKs 4 txt)) 60 69 _ ((unhide HS2).sl.below (by go_grown) (Nat.le_refl _) |>.more (by go_size)) (by decide) exStOk (by constructor <;> decide) (by constructor <;> decide) (by decide) (hT12.below (by go_grown))).mono ?_
  rintro e w13 ⟨rfl, hb⟩
  rw [san_v1]
  have hbi := ext_below (w0 := w12) (by go_grown) hb
  have HB13 := ext_below HB12 hbi
  have hT13 := hT12.below hbi
  have HS2' := hide ((unhide HS2).below hbi)
  clear HS2
  have HS2 := HS2'
  clear HS2' 
  have HS1' := hide ((unhide HS1).below hbi)
  clear HS1
  have HS1 := HS1'
  clear HS1' r0 r1 r2 r3 hT12
  obtain ⟨r0, r1, r2, r3⟩ := (unhide HS1).blk.f2
  clear p0 p1 p2 p3
  obtain ⟨p0, p1, p2, p3⟩ := (unhide HS2).blk.f2
  clear hb hbi
  go_wp2_with fail
  refine (valid_any A2 c2 3 exSt 4 txt (bs (signM 3 exKs 4 txt)) 60 70 _ ((unhide HS2).sl.below (by go_grown) (Nat.le_refl _) |>.more (by go_size)) (by decide) exStOk (by constructor <;> decide) (by constructor <;> decide) (by decide) (hT13.below (by go_grown))).mono ?_
  rintro e w14 ⟨rfl, hb⟩
  rw [san_v2]
  have hbi := ext_below (w0 := w13) (by go_grown) hb
  have HB14 := ext_below HB13 hbi
  have hT14 := hT13.below hbi
  have HS2' := hide ((unhide HS2).below hbi)
  clear HS2
  have HS2 := HS2'
  clear HS2' 
  have HS1' := hide ((unhide HS1).below hbi)
  clear HS1
  have HS1 := HS1'
  clear HS1' r0 r1 r2 r3 hT13
  obtain ⟨r0, r1, r2, r3⟩ := (unhide HS1).blk.f2
  clear p0 p1 p2 p3
  obtain ⟨p0, p1, p2, p3⟩ := (unhide HS2).blk.f2
  clear hb hbi
  go_wp2_with fail
  refine (valid_any A2 c2 3 exSt 4 txt (bs (signM 3 exKs 4 txt)) 49 49 _ ((unhide HS2).sl.below (by go_grown) (Nat.le_refl _) |>.more (by go_size)) (by decide) exStOk (by constructor <;> decide) (by constructor <;> decide) (by decide) (hT14.below (by go_grown))).mono ?_
  rintro e w15 ⟨rfl, hb⟩
  rw [san_v3]
  have hbi := ext_below (w0 := w14) (by go_grown) hb
  have HB15 := ext_below HB14 hbi
  have hT15 := hT14.below hbi
  have HS2' := hide ((unhide HS2).below hbi)
  clear HS2
  have HS2 := HS2'
  clear HS2' 
  have HS1' := hide ((unhide HS1).below hbi)
  clear HS1
  have HS1 := HS1'
  clear HS1' r0 r1 r2 r3 hT14
  obtain ⟨r0, r1, r2, r3⟩ := (unhide HS1).blk.f2
  clear p0 p1 p2 p3
  obtain ⟨p0, p1, p2, p3⟩ := (unhide HS2).blk.f2
  clear hb hbi
  go_wp2_with fail
  refine (valid_any A1 c1 3 exKs 4 oth (bs (signM 3 exKs 4 txt)) 60 69 _ ((unhide HS1).sl.below (by go_grown) (Nat.le_refl _) |>.more (by go_size)) (by decide) exOk (by constructor <;> decide) (by constructor <;> decide) (by decide) (hT15.below (by go_grown))).mono ?_
  rintro e w16 ⟨rfl, hb⟩
  rw [san_v4]
  have hbi := ext_below (w0 := w15) (by go_grown) hb
  have HB16 := ext_below HB15 hbi
  have hT16 := hT15.below hbi
  have HS2' := hide ((unhide HS2).below hbi)
  clear HS2
  have HS2 := HS2'
  clear HS2' 
  have HS1' := hide ((unhide HS1).below hbi)
  clear HS1
  have HS1 := HS1'
  clear HS1' r0 r1 r2 r3 hT15
  obtain ⟨r0, r1, r2, r3⟩ := (unhide HS1).blk.f2
  clear p0 p1 p2 p3
  obtain ⟨p0, p1, p2, p3⟩ := (unhide HS2).blk.f2
  clear hb hbi
  go_wp2_with fail
  go_ret
  exact ⟨rfl, by go_grown⟩

end Go.Proofs.YtikinldimecgaaaDoor
