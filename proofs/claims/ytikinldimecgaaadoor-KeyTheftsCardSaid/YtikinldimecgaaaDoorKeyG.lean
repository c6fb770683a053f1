/- The walks of Add and Steal, of the package key and of its reference. -/
import Derived.Test.YtikinldimecgaaaDoorKeyF
namespace Go.Proofs.YtikinldimecgaaaDoor
open Go.RowKit

def addE (school : Int) (ks : List Ky) (k : Ky) : Int := if chkR school ks = 0 then chkR school (ks ++ [k]) else chkR school ks
def addS (school : Int) (ks : List Ky) (k : Ky) : Int := if addE school ks k = 0 then school else 0
def addK (school : Int) (ks : List Ky) (k : Ky) : List Ky := if addE school ks k = 0 then ks ++ [k] else []

def KSlo (w : World) (B : Nat) (v : Value) (ks : List Ky) : Prop := w.ownsRow B 28 4 v ks.length (kcells ks)

theorem KSl.nil (w : World) : KSl w none 0 [] := ⟨rfl, fun _ => ⟨rfl, rfl⟩, Nat.le_refl _, Nat.zero_le _, Rd.nil _ _ _⟩
theorem kcells_snoc (ks : List Ky) (k : Ky) : kcells (ks ++ [k]) = kcells ks ++ k.cells := by simp [kcells]

theorem Blk.keepApp {w w' : World} {b : Nat} {t e : TypeId} {cs : Array Value} {base size n : Nat} {v : Value} {xs : List Value} (h : Blk w b t cs) (hown : w.ownsRow base e size v n xs) (hg : w.grownBy w' v.ownBlock) (hne : e ≠ t) : Blk w' b t cs := by
  refine (hg.block b h.lt ?_).trans h
  rcases hown.2 with ⟨rfl, _⟩ | ⟨g, cap, cur, rfl, _, hh, _⟩
  · simp [Value.ownBlock]
  · intro hb
    have hb' : b = g := by simpa [Value.ownBlock] using hb
    subst hb'
    unfold Blk at h
    rw [hh] at h
    injection h with h
    injection h with _ h
    exact hne h

theorem own_ext {w w' : World} {base : Nat} {e : TypeId} {size : Nat} {v : Value} {n : Nat} {cs : List Value} (h : w.ownsRow base e size v n cs) (hb : Below w.heap.size w w') : w'.ownsRow base e size v n cs := by
  obtain ⟨h1, h2⟩ := h
  refine ⟨h1, ?_⟩
  rcases h2 with h2 | ⟨g, cap, cur, hv, hg, hh, r⟩
  · exact .inl h2
  · exact .inr ⟨g, cap, cur, hv, hg, (hb.block g (Blk.lt (t := e) hh)).trans hh, r⟩

theorem own_blk_ne {w : World} {base g : Nat} {e t : TypeId} {size n : Nat} {v : Value} {xs : List Value} {cs : Array Value} (h : w.ownsRow base e size v n xs) (hg : Blk w g t cs) (hne : e ≠ t) : v.ownBlock ≠ some g := by
  rcases h.2 with ⟨rfl, _⟩ | ⟨g', cap, cur, rfl, _, hh, _⟩
  · simp [Value.ownBlock]
  · intro he
    have : g' = g := by simpa [Value.ownBlock] using he
    subst this
    unfold Blk at hg
    rw [hh] at hg
    injection hg with hg
    injection hg with _ hg
    exact hne hg

theorem Blk.f2 {w : World} {b : Nat} {t : TypeId} {x y : Value} (h : Blk w b t #[x, y]) : w.cell? ⟨b, 0, none⟩ = some x ∧ w.cell? ⟨b, 1, none⟩ = some y ∧ (∀ i, w.frozen? ⟨b, i, none⟩ = false) ∧ b < w.heap.size :=
  ⟨h.cell 0, h.cell 1, h.frozen, h.lt⟩
theorem Blk.f4 {w : World} {b : Nat} {t : TypeId} {x y z u : Value} (h : Blk w b t #[x, y, z, u]) : w.cell? ⟨b, 0, none⟩ = some x ∧ w.cell? ⟨b, 1, none⟩ = some y ∧ w.cell? ⟨b, 2, none⟩ = some z ∧ w.cell? ⟨b, 3, none⟩ = some u ∧ (∀ i, w.frozen? ⟨b, i, none⟩ = false) ∧ b < w.heap.size :=
  ⟨h.cell 0, h.cell 1, h.cell 2, h.cell 3, h.frozen, h.lt⟩

theorem cells_one (k : Ky) : ∀ u ∈ k.cells, u.oneCell' = true := fun u hu => kcells_one [k] u (by simpa [kcells] using hu)
theorem slc_new4 (w : World) (t : TypeId) (a b c d : Value) : Slc (w.alloc (.cells #[a, b, c, d] t)).drew (w.alloc (.cells #[a, b, c, d] t)).drew.heap.size (some ⟨w.heap.size, 0, none⟩) 1 1 4 [a, b, c, d] :=
  ⟨rfl, (fun h => by cases h), Nat.le_refl _, by decide, Rd.new w t [a, b, c, d]⟩

theorem slc_new4' (w : World) (t : TypeId) (g : Nat) (a b c d : Value) (h : g = w.heap.size) : Slc (w.alloc (.cells #[a, b, c, d] t)) (w.alloc (.cells #[a, b, c, d] t)).heap.size (some ⟨g, 0, none⟩) 1 1 4 [a, b, c, d] := by
  subst h
  exact ⟨rfl, (fun h => by cases h), Nat.le_refl _, by decide, Rd.new w t [a, b, c, d]⟩

set_option maxHeartbeats 4000000 in
theorem add_any (A : Option Addr) (c : Nat) (school : Int) (ks : List Ky) (k : Ky) (w : World) (hk : KSl w A c ks) (hn : ks.length ≤ 1000) :
    Calls Tryd.prog 13 #[.agg #[.int .i64 school, .slice A ks.length c], .agg #[.int .i64 k.id, .string k.sec, .int .i64 k.fr, .int .i64 k.st]] w fun e w' => ∃ A' c',
      e = .returned (.tuple #[.agg #[.int .i64 (addS school ks k), .slice A' (addK school ks k).length c'], .int .i64 (addE school ks k)]) ∧ KSl w' A' c' (addK school ks k) ∧ Below w.heap.size w w' := by
  obtain ⟨i0, hi, hz0, hz1, hz2⟩ := info_parts Tryd.infoKey
  have HK := Lib.hid hk
  clear hk
  go_enter Tryd.func13, Tryd.ntmps13
  go_wp2_with fail
  refine (of_any school A ks.length c (kcells ks) _ (HK.out.below (by go_grown) (Nat.le_refl _) |>.more (by go_size)) (kcells_one ks) (by omega)).mono ?_
  rintro e w1 ⟨g, A1, c1, rfl, hg, hgle, hown, hb1⟩
  have HB1 := ext_below (w0 := w) (by go_grown) hb1
  have hkb : Blk w1 (w.heap.size + 1) 28 #[.int .i64 k.id, .string k.sec, .int .i64 k.fr, .int .i64 k.st] := ((Blk.new' (by simp)).alloc _).below hb1 (by simp)
  have hrb : Blk w1 (w.heap.size + 1 + 1) 34 #[.int .i64 0, .slice none 0 0] := (Blk.new' (by simp)).below hb1 (by simp)
  simp only [World.size_alloc] at hown hgle
  have HB1' : w.heap.size + 1 + 1 + 1 ≤ w1.heap.size := by have := hb1.size; simpa using this
  obtain ⟨q0, q1, q2, q3⟩ := hg.f2
  have HK1 := hide (p := KSl w1 A1 c1 ks) (Slc.of_own hown)
  have HO := hide hown
  have HG := hide hg
  have HKB := hide hkb
  have HRB := hide hrb
  clear hown hg hkb hrb hb1
  go_wp2_with fail
  refine (check_any g 0 c1 A1 school ks _ q0 q1 (unhide HK1) q3 (by omega)).mono ?_
  rintro e w2 ⟨rfl, hb2⟩
  have HB2 := ext_below HB1 hb2
  clear q0 q1 q2 q3
  obtain ⟨q0, q1, q2, q3⟩ := ((unhide HG).below hb2 (unhide HG).lt).f2
  obtain ⟨k0, k1, k2, k3, k4, k5⟩ := ((unhide HKB).below hb2 (unhide HKB).lt).f4
  obtain ⟨r0, r1, r2, r3⟩ := ((unhide HRB).below hb2 (unhide HRB).lt).f2
  by_cases he : chkR school ks = 0
  · have HE := Lib.hid he
    clear he
    rw [HE.out]
    have HO2 := hide (own_ext (unhide HO) hb2)
    have HG2 := hide ((unhide HG).below hb2 (unhide HG).lt)
    have HRB2 := hide ((unhide HRB).below hb2 (unhide HRB).lt)
    have HB2' := Nat.le_trans HB1' hb2.size
    clear hb2 HK1 HO HG HKB HRB
    go_wp2_with fail
    go_region_law (go_loud (refine step_append_slc _ rfl _ _ 32 rfl (w.heap.size + 1 + 1 + 1) 28 i0 _ 4 40 Tryd.underlying32 hi hz0 hz1 hz2 rfl (by decide) _ ks.length (kcells ks) rfl ((unhide HO2).alloc _).drew _ _ 1 1 k.cells rfl (slc_new4 _ _ _ _ _ _) (cells_one k) (by unfold maxLen; omega) (by omega) (by go_size) ?_); intro A' c' w3 hown hgrow; have HG3 := Blk.keepApp (((unhide HG2).alloc _).drew) ((unhide HO2).alloc _).drew hgrow (by decide); obtain ⟨g0, g1, g2, g3⟩ := HG3.f2)
    all_goals
      have HB3 := below_append (B := w.heap.size + 1 + 1 + 1) (Below.refl _ _) hgrow (own_block_le (unhide HO2)) (by go_size)
      have HB4 : Below w.heap.size w w3 := (((HB2.alloc HB2.size _).drew).trans (HB3.mono (by omega)))
      have HR3 := hide ((((unhide HRB2).alloc _).drew).below HB3 (by omega))
      have HG4 := hide (HG3.set_ 1 (.slice A' (ks.length + 1) c'))
      have HO4 := hide (ownsRow_setCell_other (a := ⟨g, 1, none⟩) hown (own_blk_ne hown HG3 (by decide)) (.slice A' (ks.length + 1) c'))
      have HR4 := hide ((unhide HR3).far (p := ⟨g, 1, none⟩) (by simp; omega) (.slice A' (ks.length + 1) c'))
      have HB5 := HB4.setCell (p := ⟨g, 1, none⟩) (by simp; omega) (.slice A' (ks.length + 1) c')
      clear HB3 HB4 HR3 HG3 hown hgrow HO2 HG2 HRB2 g0 g1 g2 g3
      have hks : KSl (w3.setCell ⟨g, 1, none⟩ (.slice A' (ks.length + 1) c')) A' c' (ks ++ [k]) := by
        have h := Slc.of_own (unhide HO4)
        unfold KSl
        rw [kcells_snoc, List.length_append]
        exact h
      have HKS := hide hks
      clear hks
      obtain ⟨g0, g1, g2, g3⟩ := (unhide HG4).f2
      go_wp2_with fail
      refine (check_any g 0 c' A' school (ks ++ [k]) _ g0 (by rw [List.length_append]; exact g1) (unhide HKS) g3 (by simp; omega)).mono ?_
      rintro e w5 ⟨rfl, hb5⟩
      have HB6 := ext_below HB5 hb5
      obtain ⟨r0, r1, r2, r3⟩ := ((unhide HR4).below hb5 (unhide HR4).lt).f2
      obtain ⟨g0', g1', g2', g3'⟩ := ((unhide HG4).below hb5 (unhide HG4).lt).f2
      by_cases he2 : chkR school (ks ++ [k]) = 0
      · have hAE : addE school ks k = 0 := by unfold addE; rw [if_pos HE.out, he2]
        have hAS : addS school ks k = school := by unfold addS; rw [hAE, if_pos rfl]
        have hAK : addK school ks k = ks ++ [k] := by unfold addK; rw [hAE, if_pos rfl]
        have H1 := Lib.hid hAE
        have H2 := Lib.hid hAS
        have H3 := Lib.hid hAK
        have HE2 := Lib.hid he2
        clear he2 hAE hAS hAK
        rw [HE2.out]
        have HO5 := hide (own_ext (unhide HO4) hb5)
        clear hb5
        go_wp2_with fail
        rw [H1.out, H2.out, H3.out]
        refine bodyPost_ret (v := .tuple #[.agg #[.int .i64 school, .slice A' (ks.length + 1) c'], .int .i64 0]) ?_ rfl ⟨A', c', by rw [List.length_append]; rfl, ?_, ?_⟩
        · simp [results, Tryd.results13, go_sem, r0, r1]
        · have h := Slc.of_own (ownsRow_setCell_below (a := ⟨w.heap.size + 1 + 1, 1, none⟩) (ownsRow_setCell_below (a := ⟨w.heap.size + 1 + 1, 0, none⟩) (unhide HO5) (by simp) (.int .i64 school)) (by simp) (.slice A' (ks.length + 1) c'))
          unfold KSl
          rw [kcells_snoc, List.length_append]
          exact h
        · go_grown
      · have he' : (chkR school (ks ++ [k]) != 0) = true := by simp [he2]
        have hAE : addE school ks k = chkR school (ks ++ [k]) := by unfold addE; rw [if_pos HE.out]
        have hAS : addS school ks k = 0 := by unfold addS; rw [hAE, if_neg he2]
        have hAK : addK school ks k = [] := by unfold addK; rw [hAE, if_neg he2]
        have H1 := Lib.hid hAE
        have H2 := Lib.hid hAS
        have H3 := Lib.hid hAK
        clear he2 hAE hAS hAK hb5
        go_wp2_with fail
        rw [H1.out, H2.out, H3.out]
        refine bodyPost_ret (v := .tuple #[.agg #[.int .i64 0, .slice none 0 0], .int .i64 (chkR school (ks ++ [k]))]) ?_ rfl ⟨none, 0, rfl, KSl.nil _, ?_⟩
        · simp [results, Tryd.results13, go_sem, r0, r1]
        · go_grown
  · have he' : (chkR school ks != 0) = true := by simp [he]
    have hAE : addE school ks k = chkR school ks := by unfold addE; rw [if_neg he]
    have hAS : addS school ks k = 0 := by unfold addS; rw [hAE, if_neg he]
    have hAK : addK school ks k = [] := by unfold addK; rw [hAE, if_neg he]
    have H1 := Lib.hid hAE
    have H2 := Lib.hid hAS
    have H3 := Lib.hid hAK
    clear he hAE hAS hAK
    go_wp2
    rw [H1.out, H2.out, H3.out]
    refine bodyPost_ret (v := .tuple #[.agg #[.int .i64 0, .slice none 0 0], .int .i64 (chkR school ks)]) ?_ rfl ⟨none, 0, rfl, KSl.nil _, ?_⟩
    · simp [results, Tryd.results13, go_sem, r0, r1]
    · go_grown

end Go.Proofs.YtikinldimecgaaaDoor
