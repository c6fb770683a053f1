/- The walks of the package key: copying, checking and finding. -/
import Derived.Test.YtikinldimecgaaaDoorDig
namespace Go.Proofs.YtikinldimecgaaaDoor
open Go.RowKit

structure Ky where
  id : Int
  sec : ByteArray
  fr : Int
  st : Int
def Ky.cells (k : Ky) : List Value := [.int .i64 k.id, .string k.sec, .int .i64 k.fr, .int .i64 k.st]
def kcells (l : List Ky) : List Value := l.flatMap Ky.cells
theorem kcells_len (l : List Ky) : (kcells l).length = l.length * 4 := by
  induction l with
  | nil => rfl
  | cons k l ih => simp only [kcells, List.flatMap_cons, List.length_append] at ih ⊢; rw [ih]; simp [Ky.cells]; omega
theorem kcells_one (l : List Ky) : ∀ u ∈ kcells l, u.oneCell' = true := by
  intro u hu
  simp only [kcells, List.mem_flatMap, Ky.cells] at hu
  obtain ⟨k, _, hk⟩ := hu
  simp only [List.mem_cons, List.not_mem_nil, or_false] at hk
  rcases hk with rfl | rfl | rfl | rfl <;> rfl
theorem kcells_at (l : List Ky) : ∀ (i : Nat) (k : Ky), l[i]? = some k → ∀ j, j < 4 → (kcells l)[i * 4 + j]? = k.cells[j]? := by
  induction l with
  | nil => intro i k h; simp at h
  | cons x l ih =>
    intro i k h j hj
    rcases i with _ | i
    · simp only [List.getElem?_cons_zero, Option.some.injEq] at h
      subst h
      simp only [kcells, List.flatMap_cons]
      rw [List.getElem?_append_left (by simp [Ky.cells]; omega)]
      simp
    · simp only [List.getElem?_cons_succ] at h
      have := ih i k h j hj
      simp only [kcells, List.flatMap_cons] at this ⊢
      rw [List.getElem?_append_right (by simp [Ky.cells]; omega)]
      rw [← this]
      congr 1
      simp [Ky.cells]
      omega

/- a slice of keys -/
def KSl (w : World) (A : Option Addr) (c : Nat) (ks : List Ky) : Prop := Slc w w.heap.size A ks.length c 4 (kcells ks)

theorem KSl.at_ {w : World} {A : Option Addr} {c : Nat} {ks : List Ky} (h : KSl w A c ks) {i : Nat} (hi : i < ks.length) :
    ∃ b off, A = some ⟨b, off, none⟩ ∧ b < w.heap.size ∧ w.cell? ⟨b, off + i * 4, none⟩ = some (.int .i64 ks[i].id) ∧ w.cell? ⟨b, off + i * 4 + 1, none⟩ = some (.string ks[i].sec) ∧
      w.cell? ⟨b, off + i * 4 + 2, none⟩ = some (.int .i64 ks[i].fr) ∧ w.cell? ⟨b, off + i * 4 + 3, none⟩ = some (.int .i64 ks[i].st) := by
  obtain ⟨b, off, e, hb, hc⟩ := h.rd (by intro h0; have := kcells_len ks; rw [h0] at this; simp at this; omega)
  have hk := kcells_at ks i ks[i] (List.getElem?_eq_getElem hi)
  refine ⟨b, off, e, hb, ?_, ?_, ?_, ?_⟩
  · exact hc (i * 4 + 0) _ (hk 0 (by omega))
  · rw [Nat.add_assoc]; exact hc (i * 4 + 1) _ (hk 1 (by omega))
  · rw [Nat.add_assoc]; exact hc (i * 4 + 2) _ (hk 2 (by omega))
  · rw [Nat.add_assoc]; exact hc (i * 4 + 3) _ (hk 3 (by omega))

theorem World.ownsRow_nil {w : World} {base : Nat} {e : TypeId} {size : Nat} : w.ownsRow base e size (.slice none 0 0) 0 [] := ⟨by simp, .inl ⟨rfl, rfl⟩⟩
theorem Tryd.infoKey : (Tryd.prog.info? 28).map (fun i => (i.zero, i.size, i.bytes)) = some (some (.agg #[.int .i64 0, .string ⟨#[]⟩, .int .i64 0, .int .i64 0]), 4, 40) := by kernel_rfl

set_option maxHeartbeats 1000000 in
theorem clone_any (A : Option Addr) (n c : Nat) (cs : List Value) (w : World) (h : Slc w w.heap.size A n c 4 cs) (h1 : ∀ u ∈ cs, u.oneCell' = true) (hn : n ≤ 100000) :
    Calls Tryd.prog 45 #[.slice A n c] w fun e w' => ∃ A' c', e = .returned (.slice A' n c') ∧ w'.ownsRow w.heap.size 28 4 (.slice A' n c') n cs ∧ Below w.heap.size w w' := by
  obtain ⟨i0, hi, hz0, hz1, hz2⟩ := info_parts Tryd.infoKey
  rcases A with _ | ad
  · obtain ⟨rfl, rfl⟩ := h.nil rfl
    have hn : cs = [] := List.eq_nil_of_length_eq_zero (by simpa using h.len)
    subst hn
    clear h h1
    have hq := fun w A n c => Lib.run_eql_slice_nil (P := Tryd.prog) w 32 28 A n c 0 0 Tryd.underlying32
    go_enter Tryd.func45, Tryd.ntmps45
    go_wp2
    go_ret
    exact ⟨_, _, rfl, World.ownsRow_nil, Below.refl _ _⟩
  · have hq := fun w A n c => Lib.run_eql_slice_nil (P := Tryd.prog) w 32 28 A n c 0 0 Tryd.underlying32
    have HS := Lib.hid h
    have H1 := Lib.hid h1
    clear h h1
    go_enter Tryd.func45, Tryd.ntmps45
    go_wp2_with (at_builtin; refine wpList_append_slc _ rfl _ _ 32 rfl w.heap.size 28 i0 _ 4 40 Tryd.underlying32 hi hz0 hz1 hz2 rfl (by decide) _ 0 [] rfl (World.ownsRow_lit w #[] 0 (Nat.le_refl _) (by decide) rfl) _ _ _ _ cs rfl (HS.out.below ((Below.refl _ _).alloc (Nat.le_refl _) _) (Nat.le_refl _)) H1.out (by unfold maxLen; omega) (by omega) (by simp) ?_; intro A' c' w1 hown hgrow)
    go_ret
    exact ⟨_, _, rfl, by simpa using hown, below_append ((Below.refl _ _).alloc (Nat.le_refl _) _) hgrow (fun k hk => by have hk' : some w.heap.size = some k := hk; injection hk' with hk'; omega) (Nat.le_refl _)⟩

/- of: a ring that can be changed -/
set_option maxHeartbeats 1000000 in
theorem of_any (school : Int) (A : Option Addr) (n c : Nat) (cs : List Value) (w : World) (h : Slc w w.heap.size A n c 4 cs) (h1 : ∀ u ∈ cs, u.oneCell' = true) (hn : n ≤ 100000) :
    Calls Tryd.prog 32 #[.agg #[.int .i64 school, .slice A n c]] w fun e w' => ∃ g A' c', e = .returned (.pointer (some ⟨g, 0, none⟩)) ∧ Blk w' g 67 #[.int .i64 school, .slice A' n c'] ∧ w.heap.size ≤ g ∧
      w'.ownsRow w.heap.size 28 4 (.slice A' n c') n cs ∧ Below w.heap.size w w' := by
  have HS := Lib.hid h
  have H1 := Lib.hid h1
  clear h h1
  go_enter Tryd.func32, Tryd.ntmps32
  go_wp2
  go_region_with (go_at_call 45; refine (clone_any _ _ _ cs _ (HS.out.below ((Below.refl _ _).alloc (Nat.le_refl _) _).drew (Nat.le_refl _) |>.more (by simp)) H1.out hn).mono ?_; rintro e w1 ⟨A', c', rfl, hown, hb⟩; obtain ⟨hc, hf⟩ := bcell hb)
  all_goals
    go_wp2
    go_ret
    have hz := hb.size
    simp only [World.size_alloc, World.size_drew] at hz
    exact ⟨_, A', c', rfl, Blk.new _ _ _, by omega, own_base (hown.alloc _) (by simp), by have HB := ext_below (w0 := w) (by go_grown) hb; go_grown⟩

def rightB (d : Int) : Bool := decide (0 ≤ d ∧ d ≤ 100000)

set_option maxHeartbeats 400000 in
theorem right_any (d : Int) (w : World) :
    Calls Tryd.prog 35 #[.int .i64 d] w fun e w' => e = .returned (.bool (rightB d)) ∧ w = w' := by
  by_cases h0 : 0 ≤ d
  · go_enter Tryd.func35, Tryd.ntmps35
    go_wp2
    go_ret
    exact ⟨by simp [rightB, h0], rfl⟩
  · go_enter Tryd.func35, Tryd.ntmps35
    go_wp2
    go_ret
    exact ⟨by simp [rightB]; omega, rfl⟩

set_option maxHeartbeats 400000 in
theorem right3_any (d : Int) (w : World) :
    Calls Tryd.prog 37 #[.int .i64 d] w fun e w' => e = .returned (.bool (rightB d)) ∧ w = w' := by
  by_cases h0 : 0 ≤ d
  · go_enter Tryd.func37, Tryd.ntmps37
    go_wp2
    go_ret
    exact ⟨by simp [rightB, h0], rfl⟩
  · go_enter Tryd.func37, Tryd.ntmps37
    go_wp2
    go_ret
    exact ⟨by simp [rightB]; omega, rfl⟩

def chk1 (last k : Ky) : Int :=
  if k.id < 1 ∨ k.sec.size = 0 ∨ 40 < k.sec.size then 3
  else if k.id ≤ last.id then 7
  else if rightB k.fr = false ∨ rightB k.st = false ∨ (k.st ≠ 0 ∧ k.st < k.fr) then 23
  else if k.fr < last.fr then 7 else 0
def chkL : Ky → List Ky → Int
  | _, [] => 0
  | last, k :: ks => if chk1 last k = 0 then chkL k ks else chk1 last k
def Ky.zero : Ky := ⟨0, ⟨#[]⟩, 0, 0⟩
def chkR (school : Int) (ks : List Ky) : Int := if school < 1 ∨ 8 < school then 1 else if 20 < ks.length then 2 else chkL Ky.zero ks

end Go.Proofs.YtikinldimecgaaaDoor
