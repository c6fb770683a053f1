/- Small facts for the makers of rings. -/
import Derived.Test.YtikinldimecgaaaDoorKeyN
import Derived.Lib.MinMax
namespace Go.Proofs.YtikinldimecgaaaDoor
open Go.RowKit

theorem World.size_drewN' (w : World) (n : Nat) : (w.drewN n).heap.size = w.heap.size := rfl
def absM (x : Int) : Int := max x (-(x + 1))
theorem absM_bd (x : Int) (h0 : -9223372036854775808 ≤ x) (h1 : x ≤ 9223372036854775807) : 0 ≤ absM x ∧ absM x ≤ 9223372036854775807 := by unfold absM; omega
theorem absM_wrap (x : Int) (h0 : -9223372036854775808 ≤ x) (h1 : x ≤ 9223372036854775807) : max x (wrap64 (-(wrap64 (x + 1)))) = absM x := by
  unfold absM wrap64
  omega
theorem absM_steps (x : Int) (h0 : -9223372036854775808 ≤ x) (h1 : x ≤ 9223372036854775807) : ∃ y1 y2 : Int, wrap64 (x + 1) = y1 ∧ wrap64 (-y1) = y2 ∧ IntKind.i64.wrap (x + 1) = y1 ∧ IntKind.i64.wrap (-y1) = y2 ∧ ((x < y2 ∧ y2 = absM x) ∨ (¬ x < y2 ∧ x = absM x)) := by
  refine ⟨_, _, rfl, rfl, by rw [IntKind.wrap_i64]; unfold wrap64; rfl, by rw [IntKind.wrap_i64]; unfold wrap64; rfl, ?_⟩
  unfold absM wrap64
  omega
def nAt (l : List Int) (k : Nat) : Int := match l[k]? with | some x => absM x | none => 0
def secB : Nat → List UInt8
  | 0 => [111, 97, 107]
  | 1 => [101, 108, 109]
  | _ => [97, 115, 104]
def madeKy (school : Int) (k : Nat) (n day : Int) : Ky := ⟨1 + 2 * (k : Int), bs (secB k ++ Lib.itoa school), day, if n % 5 = 4 then day + 1 + n / 5 % 300 else 0⟩
def madeL (school : Int) (l : List Int) : Nat → Nat → Int → List Ky
  | 0, _, _ => []
  | f + 1, k, day => if 0 < k ∧ nAt l k % 3 = 0 then [] else madeKy school k (nAt l k) day :: madeL school l f (k + 1) (day + 20 * (nAt l k % 7))
def madeD (school : Int) (l : List Int) : List Ky := madeL school l 3 0 0

/- a slice of ints -/
def ISl (w : World) (A : Option Addr) (c : Nat) (l : List Int) : Prop := Slc w w.heap.size A l.length c 1 (l.map (Value.int .i64)) ∧ ∀ x ∈ l, Rng x
theorem ISl.at_ {w : World} {A : Option Addr} {c : Nat} {l : List Int} (h : ISl w A c l) {i : Nat} (hi : i < l.length) : ∃ b off, A = some ⟨b, off, none⟩ ∧ b < w.heap.size ∧ w.cell? ⟨b, off + i, none⟩ = some (.int .i64 l[i]) := by
  obtain ⟨b, off, e, hb, hc⟩ := h.1.rd (by intro h0; simp at h0; subst h0; simp at hi)
  exact ⟨b, off, e, hb, hc i _ (by simp [hi])⟩

theorem own_far {w : World} {base : Nat} {e : TypeId} {size : Nat} {v : Value} {n g : Nat} {xs : List Value} (h : w.ownsRow base e size v n xs) (hg : w.heap.size ≤ g) : v.ownBlock ≠ some g := by
  rcases h.2 with ⟨rfl, _⟩ | ⟨q, cap, cur, rfl, _, hh, _⟩
  · simp [Value.ownBlock]
  · have := Blk.lt (t := e) hh
    simp [Value.ownBlock]
    omega
theorem made_stop {school : Int} {l : List Int} {k : Nat} {day n : Int} (hk : k < 3) (hn : nAt l k = n) (h1 : 0 < k) (h2 : n % 3 = 0) : madeL school l (3 - k) k day = [] := by
  rw [show 3 - k = (2 - k) + 1 from by omega, madeL, if_pos ⟨h1, by rw [hn]; exact h2⟩]
theorem made_go {school : Int} {l : List Int} {k : Nat} {day n : Int} (hk : k < 3) (hn : nAt l k = n) (h : ¬ (0 < k ∧ n % 3 = 0)) : madeL school l (3 - k) k day = madeKy school k n day :: madeL school l (3 - (k + 1)) (k + 1) (day + 20 * (n % 7)) := by
  rw [show 3 - k = (3 - (k + 1)) + 1 from by omega, madeL, hn, if_neg h]
theorem World.ownsRow.drewN' {w : World} {base : Nat} {e : TypeId} {size : Nat} {v : Value} {n : Nat} {xs : List Value} (h : w.ownsRow base e size v n xs) (k : Nat) : (w.drewN k).ownsRow base e size v n xs := h
theorem ret_i {a b : Int} (h : a = b) : Value.int .i64 a = .int .i64 b := by rw [h]
theorem nAt_bd (l : List Int) (k : Nat) (h : ∀ x ∈ l, Rng x) : 0 ≤ nAt l k ∧ nAt l k ≤ 9223372036854775807 := by
  unfold nAt
  rcases hk : l[k]? with _ | x
  · simp
  · have := h x (List.mem_of_getElem? hk); exact absM_bd x this.1 this.2

theorem blk_eq {w : World} {g : Nat} {t : TypeId} {cs cs' : Array Value} (h : Blk w g t cs) (e : cs = cs') : Blk w g t cs' := e ▸ h
theorem key_eq {a a' : Int} {s s' : ByteArray} {d z : Value} (h1 : a = a') (h2 : s = s') : (#[.int .i64 a, .string s, d, z] : Array Value) = #[.int .i64 a', .string s', d, z] := by rw [h1, h2]


def KOk (k : Ky) : Prop := k.sec.size ≤ 100000 ∧ Rng k.id ∧ Rng k.fr ∧ Rng k.st
theorem absM_max (x : Int) (h0 : Rng x) : ∃ y1 y2 n : Int, wrap64 (x + 1) = y1 ∧ wrap64 (-y1) = y2 ∧ IntKind.i64.wrap (x + 1) = y1 ∧ IntKind.i64.wrap (-y1) = y2 ∧ max x y2 = n ∧ 0 ≤ n ∧ n ≤ 9223372036854775807 := by
  obtain ⟨y1, y2, g1, g2, g3, g4, h⟩ := absM_steps x h0.1 h0.2
  have := absM_bd x h0.1 h0.2
  exact ⟨y1, y2, absM x, g1, g2, g3, g4, by omega, this.1, this.2⟩
theorem kcells_put (ks : List Ky) (i : Nat) (k k' : Ky) (j : Nat) (v : Value) (hj : j < 4) (hk : ks[i]? = some k) (h : k'.cells = k.cells.set j v) : kcells (ks.set i k') = (kcells ks).set (i * 4 + j) v := by
  induction ks generalizing i with
  | nil => simp at hk
  | cons x ks ih =>
    rcases i with _ | i
    · simp only [List.getElem?_cons_zero, Option.some.injEq] at hk
      subst hk
      simp only [kcells, List.set_cons_zero, List.flatMap_cons, h]
      rw [List.set_append, if_pos (by simp [Ky.cells]; omega)]
      simp
    · simp only [List.getElem?_cons_succ] at hk
      have := ih i hk
      simp only [kcells, List.set_cons_succ, List.flatMap_cons] at this ⊢
      rw [this, List.set_append, if_neg (by simp [Ky.cells]; omega)]
      congr 2
      simp [Ky.cells]
      omega
theorem Blk.f3 {w : World} {b : Nat} {t : TypeId} {x y z : Value} (h : Blk w b t #[x, y, z]) : w.cell? ⟨b, 0, none⟩ = some x ∧ w.cell? ⟨b, 1, none⟩ = some y ∧ w.cell? ⟨b, 2, none⟩ = some z ∧ (∀ i, w.frozen? ⟨b, i, none⟩ = false) ∧ b < w.heap.size :=
  ⟨h.cell 0, h.cell 1, h.cell 2, h.frozen, h.lt⟩

end Go.Proofs.YtikinldimecgaaaDoor
