/- The walk of the maker of the three rings of a case. -/
import Derived.Test.YtikinldimecgaaaDoorKeyO
import Derived.Test.YtikinldimecgaaaDoorKeyP
namespace Go.Proofs.YtikinldimecgaaaDoor
open Go.RowKit

theorem Blk.f6 {w : World} {b : Nat} {t : TypeId} {a0 a1 a2 a3 a4 a5 : Value} (h : Blk w b t #[a0, a1, a2, a3, a4, a5]) : w.cell? ⟨b, 0, none⟩ = some a0 ∧ w.cell? ⟨b, 1, none⟩ = some a1 ∧ w.cell? ⟨b, 2, none⟩ = some a2 ∧ w.cell? ⟨b, 3, none⟩ = some a3 ∧ w.cell? ⟨b, 4, none⟩ = some a4 ∧ w.cell? ⟨b, 5, none⟩ = some a5 ∧ (∀ i, w.frozen? ⟨b, i, none⟩ = false) ∧ b < w.heap.size :=
  ⟨h.cell 0, h.cell 1, h.cell 2, h.cell 3, h.cell 4, h.cell 5, h.frozen, h.lt⟩
theorem Blk.f8 {w : World} {b : Nat} {t : TypeId} {a0 a1 a2 a3 a4 a5 a6 a7 : Value} (h : Blk w b t #[a0, a1, a2, a3, a4, a5, a6, a7]) : w.cell? ⟨b, 0, none⟩ = some a0 ∧ w.cell? ⟨b, 1, none⟩ = some a1 ∧ w.cell? ⟨b, 2, none⟩ = some a2 ∧ w.cell? ⟨b, 3, none⟩ = some a3 ∧ w.cell? ⟨b, 4, none⟩ = some a4 ∧ w.cell? ⟨b, 5, none⟩ = some a5 ∧ w.cell? ⟨b, 6, none⟩ = some a6 ∧ w.cell? ⟨b, 7, none⟩ = some a7 ∧ (∀ i, w.frozen? ⟨b, i, none⟩ = false) ∧ b < w.heap.size :=
  ⟨h.cell 0, h.cell 1, h.cell 2, h.cell 3, h.cell 4, h.cell 5, h.cell 6, h.cell 7, h.frozen, h.lt⟩

theorem madeL_ok (school : Int) (l : List Int) (hs : 1 ≤ school ∧ school ≤ 8) (hl : ∀ x ∈ l, Rng x) : ∀ (f k : Nat) (day : Int), k + f ≤ 3 → 0 ≤ day → day ≤ 120 * k → (∀ x ∈ madeL school l f k day, KOk x) ∧ (madeL school l f k day).length ≤ f := by
  intro f
  induction f with
  | zero => intro k day _ _ _; exact ⟨fun x hx => by simp [madeL] at hx, by simp [madeL]⟩
  | succ f ih =>
    intro k day hk h0 h1
    rw [madeL]
    split
    · exact ⟨(fun x hx => by cases hx), by simp⟩
    · have hn := nAt_bd l k hl
      obtain ⟨i1, i2⟩ := ih (k + 1) (day + 20 * (nAt l k % 7)) (by omega) (by omega) (by omega)
      refine ⟨?_, by simp; omega⟩
      intro x hx
      rcases List.mem_cons.1 hx with rfl | hx
      · have hsz := itoa_len school (by omega) (by omega)
        have h3 : (secB k).length = 3 := by unfold secB; split <;> rfl
        refine ⟨?_, ⟨?_, ?_⟩, ⟨?_, ?_⟩, ?_, ?_⟩
        · show (bs (secB k ++ Lib.itoa school)).size ≤ 100000
          rw [bs_size, List.length_append, h3]
          omega
        · show -9223372036854775808 ≤ 1 + 2 * (k : Int)
          omega
        · show 1 + 2 * (k : Int) ≤ 9223372036854775807
          omega
        · show -9223372036854775808 ≤ day
          omega
        · show day ≤ 9223372036854775807
          omega
        · show -9223372036854775808 ≤ (if nAt l k % 5 = 4 then day + 1 + nAt l k / 5 % 300 else 0)
          split <;> omega
        · show (if nAt l k % 5 = 4 then day + 1 + nAt l k / 5 % 300 else 0) ≤ 9223372036854775807
          split <;> omega
      · exact i1 x hx
theorem madeD_ok (school : Int) (l : List Int) (hs : 1 ≤ school ∧ school ≤ 8) (hl : ∀ x ∈ l, Rng x) : (∀ x ∈ madeD school l, KOk x) ∧ (madeD school l).length ≤ 3 :=
  madeL_ok school l hs hl 3 0 0 (by omega) (by omega) (by omega)

/- what the maker of a case's rings gives: the ring of the numbers, and two others of which only what all need is said -/
structure Rg where
  s : Int
  ks : List Ky
  A : Option Addr
  c : Nat
structure Rg.ok (r : Rg) (w : World) : Prop where
  sl : KSl w r.A r.c r.ks
  rs : Rng r.s
  ok : ∀ k ∈ r.ks, KOk k
  len : r.ks.length ≤ 50
theorem Rg.ok.below {r : Rg} {w w' : World} (h : r.ok w) (hb : Below w.heap.size w w') : r.ok w' := ⟨Slc.more (h.sl.below hb (Nat.le_refl _)) hb.size, h.rs, h.ok, h.len⟩

theorem KSl.keep {w w' : World} {g c : Nat} {t : TypeId} {cs : Array Value} {A : Option Addr} {ks : List Ky} (h : KSl w A c ks) (hb : Blk w g t cs) (hn : ∀ (i : Nat) (s : ByteArray), cs[i]? ≠ some (.string s)) (hk : ∀ b, b ≠ g → w'.heap[b]? = w.heap[b]?) (hz : w.heap.size ≤ w'.heap.size) : KSl w' A c ks := by
  refine ⟨Slc.len h, Slc.nil h, Slc.cap h, Slc.max h, fun hne => ?_⟩
  obtain ⟨b, off, e, hlt, hc⟩ := Slc.rd h hne
  have hbg : b ≠ g := by
    intro hbg
    subst hbg
    rcases ks with _ | ⟨k, ks⟩
    · exact hne rfl
    · have h1 := kcells_at (k :: ks) 0 k rfl 1 (by omega)
      have h2 := hc 1 (.string k.sec) h1
      rw [hb.cell] at h2
      exact hn _ _ h2
  exact ⟨b, off, e, by omega, fun j u hu => (World.cell?_of_block (hk b hbg)).trans (hc j u hu)⟩
theorem heap_set_ne (w : World) (g i : Nat) (u : Value) (b : Nat) (hb : b ≠ g) : (w.setCell ⟨g, i, none⟩ u).heap[b]? = w.heap[b]? := Below.heap_setCell w ⟨g, i, none⟩ u b hb

theorem rings_fin {w w2 w3 : World} {g : Nat} {t : TypeId} {x0 x1 x2 : Int} {k0 k1 k2 : List Ky} {A0 A1 A2 : Option Addr} {c0 c1 c2 : Nat} (hr : Blk w2 g t #[.int .i64 0, .slice none 0 0, .int .i64 0, .slice none 0 0, .int .i64 0, .slice none 0 0])
    (hg : w.heap.size ≤ g) (h0 : KSl w2 A0 c0 k0) (h1 : KSl w2 A1 c1 k1) (h2 : KSl w3 A2 c2 k2) (hb : Below w.heap.size w w2) (hb3 : Below w2.heap.size w2 w3) :
    ∃ W : World, W = ((((((w3.setCell ⟨g, 0, none⟩ (.int .i64 x0)).setCell ⟨g, 1, none⟩ (.slice A0 k0.length c0)).setCell ⟨g, 2, none⟩ (.int .i64 x1)).setCell ⟨g, 3, none⟩ (.slice A1 k1.length c1)).setCell ⟨g, 4, none⟩ (.int .i64 x2)).setCell ⟨g, 5, none⟩ (.slice A2 k2.length c2)) ∧
      KSl W A0 c0 k0 ∧ KSl W A1 c1 k1 ∧ KSl W A2 c2 k2 ∧ Below w.heap.size w W ∧ Blk W g t #[.int .i64 x0, .slice A0 k0.length c0, .int .i64 x1, .slice A1 k1.length c1, .int .i64 x2, .slice A2 k2.length c2] := by
  have hr3 := hr.below hb3 hr.lt
  have hns : ∀ (i : Nat) (s : ByteArray), (#[.int .i64 0, .slice none 0 0, .int .i64 0, .slice none 0 0, .int .i64 0, .slice none 0 0] : Array Value)[i]? ≠ some (.string s) := by
    intro i s
    rcases i with _ | _ | _ | _ | _ | _ | i <;> simp
  have hkp : ∀ b, b ≠ g → ((((((w3.setCell ⟨g, 0, none⟩ (.int .i64 x0)).setCell ⟨g, 1, none⟩ (.slice A0 k0.length c0)).setCell ⟨g, 2, none⟩ (.int .i64 x1)).setCell ⟨g, 3, none⟩ (.slice A1 k1.length c1)).setCell ⟨g, 4, none⟩ (.int .i64 x2)).setCell ⟨g, 5, none⟩ (.slice A2 k2.length c2)).heap[b]? = w3.heap[b]? := fun b hb => by
    rw [heap_set_ne _ _ _ _ _ hb, heap_set_ne _ _ _ _ _ hb, heap_set_ne _ _ _ _ _ hb, heap_set_ne _ _ _ _ _ hb, heap_set_ne _ _ _ _ _ hb, heap_set_ne _ _ _ _ _ hb]
  have h0' : KSl w3 A0 c0 k0 := h0.below hb3 (Nat.le_refl _) |>.more hb3.size
  have h1' : KSl w3 A1 c1 k1 := h1.below hb3 (Nat.le_refl _) |>.more hb3.size
  refine ⟨_, rfl, h0'.keep hr3 hns hkp (by simp), h1'.keep hr3 hns hkp (by simp), h2.keep hr3 hns hkp (by simp), ?_, ?_⟩
  · exact ((((((hb.trans (hb3.mono hb.size)).setCell (by simpa using hg) _).setCell (by simpa using hg) _).setCell (by simpa using hg) _).setCell (by simpa using hg) _).setCell (by simpa using hg) _).setCell (by simpa using hg) _
  · exact (((((hr3.set_ 0 (.int .i64 x0)).set_ 1 (.slice A0 k0.length c0)).set_ 2 (.int .i64 x1)).set_ 3 (.slice A1 k1.length c1)).set_ 4 (.int .i64 x2)).set_ 5 (.slice A2 k2.length c2)

set_option maxRecDepth 20000 in
set_option maxHeartbeats 4000000 in
theorem rings_any (S : Int) (A : Option Addr) (c : Nat) (l : List Int) (p0 p1 p2 q0 q1 q2 : Int) (w : World) (hl : ISl w A c l) (hS0 : 0 ≤ S) (hS1 : S < 256) (hp0 : Rng p0) (hp1 : Rng p1) (hp2 : Rng p2) (hq0 : Rng q0) (hq1 : Rng q1) (hq2 : Rng q2) :
    Calls Tryd.prog 10 #[.agg #[.int .u8 S, .slice A l.length c, .int .i64 p0, .int .i64 p1, .int .i64 p2, .int .i64 q0, .int .i64 q1, .int .i64 q2]] w fun e w' => ∃ a b d : Rg,
      e = .returned (.agg #[.int .i64 a.s, .slice a.A a.ks.length a.c, .int .i64 b.s, .slice b.A b.ks.length b.c, .int .i64 d.s, .slice d.A d.ks.length d.c]) ∧ a.s = 1 + S % 8 ∧ a.ks = madeD (1 + S % 8) l ∧ a.ok w' ∧ b.ok w' ∧ d.ok w' ∧ Below w.heap.size w w' := by
  have HL := Lib.hid hl
  obtain ⟨hmo, hml⟩ := madeD_ok (1 + S % 8) l (by omega) hl.2
  have HMO := hide hmo
  have H8 : Hid (S % 8 = S % 8) := Lib.hid rfl
  clear hl hmo
  go_enter Tryd.func10, Tryd.ntmps10
  go_wp2_with fail
  refine (made_any (1 + S % 8) A c l _ ⟨HL.out.1.below (by go_grown) (Nat.le_refl _) |>.more (by go_size), HL.out.2⟩ (by constructor <;> omega)).mono ?_
  rintro e w1 ⟨A0, c0, rfl, hk0, hb1⟩
  have HB1 := ext_below (w0 := w) (by go_grown) hb1
  have hcb : Blk w1 w.heap.size 26 #[.int .u8 S, .slice A l.length c, .int .i64 p0, .int .i64 p1, .int .i64 p2, .int .i64 q0, .int .i64 q1, .int .i64 q2] := ((Blk.new' rfl).alloc _).below hb1 (by simp; omega)
  have hrb : Blk w1 (w.heap.size + 1) 35 #[.int .i64 0, .slice none 0 0, .int .i64 0, .slice none 0 0, .int .i64 0, .slice none 0 0] := (Blk.new' (by simp)).below hb1 (by simp)
  have HB1' : w.heap.size + 1 + 1 ≤ w1.heap.size := by have := hb1.size; simpa using this
  have HK0 := hide hk0
  have HCB := hide hcb
  have HRB := hide hrb
  clear hk0 hcb hrb hb1
  obtain ⟨s0, s1, s2, s3, s4, s5, s6, s7, s8, s9⟩ := (unhide HCB).f8
  obtain ⟨r0, r1, r2, r3, r4, r5, r6, r7⟩ := (unhide HRB).f6
  go_wp2_with fail
  refine (odd_any (1 + S % 8) A0 c0 (madeD (1 + S % 8) l) p0 p1 p2 _ ((unhide HK0).below (by go_grown) (Nat.le_refl _) |>.more (by go_size)) (by omega) (unhide HMO) (by constructor <;> omega) hp0 hp1 hp2).mono ?_
  rintro e w2 ⟨x1, k1, A1, c1, rfl, hk1, hx1, hko1, hl1, hb2⟩
  have HB2 := ext_below (w0 := w) (by go_grown) hb2
  have hcb : Blk w2 w.heap.size 26 #[.int .u8 S, .slice A l.length c, .int .i64 p0, .int .i64 p1, .int .i64 p2, .int .i64 q0, .int .i64 q1, .int .i64 q2] := ((unhide HCB).alloc _).below hb2 (by simp; omega)
  have hrb : Blk w2 (w.heap.size + 1) 35 #[.int .i64 0, .slice none 0 0, .int .i64 0, .slice none 0 0, .int .i64 0, .slice none 0 0] := ((unhide HRB).alloc _).below hb2 (by simp; omega)
  have hob : Blk w2 w1.heap.size 34 #[.int .i64 (1 + S % 8), .slice A0 (madeD (1 + S % 8) l).length c0] := (Blk.new' rfl).below hb2 (by simp)
  have hk0 : KSl w2 A0 c0 (madeD (1 + S % 8) l) := (unhide HK0).below (Below.trans (by go_grown) (hb2.mono (by go_size))) (Nat.le_refl _) |>.more (by have := hb2.size; simp at this; omega)
  have hk1' := hide hk1
  have HA := hide hk0
  have HO1 := hide hko1
  have HOB := hide hob
  have HCB2 := hide hcb
  have HRB2 := hide hrb
  have HB2' : w.heap.size + 1 + 1 < w2.heap.size := by have := hb2.size; simp at this; omega
  have HX1 := hide hx1
  clear hk1 hk0 hko1 HCB HRB HK0 hb2 s0 s1 s2 s3 s4 s5 s6 s7 s8 s9 r0 r1 r2 r3 r4 r5 r6 r7 hcb hrb hob hx1
  obtain ⟨s0, s1, s2, s3, s4, s5, s6, s7, s8, s9⟩ := (unhide HCB2).f8
  obtain ⟨r0, r1, r2, r3, r4, r5, r6, r7⟩ := (unhide HRB2).f6
  obtain ⟨o0, o1, o2, o3⟩ := (unhide HOB).f2
  have m1 : w.heap.size < w2.heap.size + 1 := by omega
  have m2 : w.heap.size + 1 < w2.heap.size + 1 := by omega
  have m3 : w1.heap.size < w2.heap.size + 1 := by omega
  go_wp2_with fail
  have n1 : w.heap.size + 1 ≠ w1.heap.size := by omega
  have n2 : w.heap.size + 1 ≠ w2.heap.size := by omega
  have n3 : w.heap.size ≠ w2.heap.size := by omega
  have n4 : w1.heap.size ≠ w2.heap.size := by omega
  go_region_held3 (fun w' => w'.cell? ⟨w1.heap.size, 0, none⟩ = some (.int .i64 (1 + S % 8)) ∧ w'.cell? ⟨w1.heap.size, 1, none⟩ = some (.slice A0 (madeD (1 + S % 8) l).length c0) ∧ w'.cell? ⟨w2.heap.size, 0, none⟩ = some (.int .i64 x1) ∧ w'.cell? ⟨w2.heap.size, 1, none⟩ = some (.slice A1 k1.length c1) ∧
    w'.cell? ⟨w.heap.size, 5, none⟩ = some (.int .i64 q0) ∧ w'.cell? ⟨w.heap.size, 6, none⟩ = some (.int .i64 q1) ∧ w'.cell? ⟨w.heap.size, 7, none⟩ = some (.int .i64 q2)) (go_keep) ((go_at_call 29; refine (odd_any x1 A1 c1 k1 q0 q1 q2 _ ((unhide hk1').below (by first | go_grown | (refine below_drewN ?_ _; go_grown)) (Nat.le_refl _) |>.more (by first | (simp; done) | (simp; omega) | go_size)) (by omega) (unhide HO1) (unhide HX1) hq0 hq1 hq2).mono ?_; rintro e w3 ⟨x2, k2, A2, c2, rfl, hk2, hx2, hko2, hl2, hb3⟩; have hB23 : Below w2.heap.size w2 w3 := Below.trans (by first | go_grown | (refine below_drewN ?_ _; go_grown)) (hb3.mono (by first | (simp; done) | (simp; omega))); obtain ⟨hc, hf⟩ := bcell hb3; have hz := hb3.size; simp only [World.size_drew, World.size_alloc] at hz; clear hb3))
  all_goals
    obtain ⟨W, hW, ha, hb, hd, hbw, hrw⟩ := rings_fin (x0 := 1 + S % 8) (x1 := x1) (x2 := x2) (unhide HRB2) (Nat.le_succ _) (unhide HA) (unhide hk1') hk2 HB2 hB23
    obtain ⟨u0, u1, u2, u3, u4, u5, u6, u7⟩ := hrw.f6
    have HW := Lib.hid hW
    have hko2 := hide hko2
    have HHA := hide ha
    have HHB := hide hb
    have HHD := hide hd
    have HX2 := hide hx2
    clear hc hf hB23 hk2 hrw hW ha hb hd hx2
    have hlen2 : k2.length ≤ 50 := by omega
    have hlen1 : k1.length ≤ 50 := by omega
    have hlen0 : (madeD (1 + S % 8) l).length ≤ 50 := by omega
    have hrs : Rng (1 + S % 8) := by constructor <;> omega
    go_wp2_with fail
    refine bodyPost_ret (v := .agg #[.int .i64 (1 + S % 8), .slice A0 (madeD (1 + S % 8) l).length c0, .int .i64 x1, .slice A1 k1.length c1, .int .i64 x2, .slice A2 k2.length c2]) ?_ rfl
      ⟨⟨1 + S % 8, madeD (1 + S % 8) l, A0, c0⟩, ⟨x1, k1, A1, c1⟩, ⟨x2, k2, A2, c2⟩, rfl, rfl, rfl, ?_, ?_, ?_, ?_⟩
    · rw [← HW.out]
      simp [results, Tryd.results10, go_sem, u0, u1, u2, u3, u4, u5]
    · rw [← HW.out]; exact ⟨unhide HHA, hrs, unhide HMO, hlen0⟩
    · rw [← HW.out]; exact ⟨unhide HHB, unhide HX1, unhide HO1, hlen1⟩
    · rw [← HW.out]; exact ⟨unhide HHD, unhide HX2, unhide hko2, hlen2⟩
    · rw [← HW.out]; exact hbw

end Go.Proofs.YtikinldimecgaaaDoor
