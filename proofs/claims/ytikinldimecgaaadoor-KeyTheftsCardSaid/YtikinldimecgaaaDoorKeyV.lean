/- Opening the other arguments of the Key laws: a seal, a key, two integers, three small integers. -/
import Derived.Test.YtikinldimecgaaaDoorKeyW
namespace Go.Proofs.YtikinldimecgaaaDoor
open Go.ChangeShapes Go.WideShapes Go.ChangeAt Go.ChangeMaps Go.RowKit

theorem cellsString : Tryd.prog.cellsOf 9 = 1 := by kernel_rfl
theorem cellsU16 : Tryd.prog.cellsOf 54 = 1 := by kernel_rfl
theorem cellsSeal : Tryd.prog.cellsOf 47 = 5 := by kernel_rfl
theorem cellsKey : Tryd.prog.cellsOf 28 = 4 := by kernel_rfl
theorem cellsI2 : Tryd.prog.cellsOf 29 = 2 := by kernel_rfl
theorem cellsU3 : Tryd.prog.cellsOf 59 = 3 := by kernel_rfl
theorem list5 {α : Type} : ∀ (l : List α), l.length = 5 → ∃ a b c d e, l = [a, b, c, d, e]
  | [a, b, c, d, e], _ => ⟨a, b, c, d, e, rfl⟩
theorem list4 {α : Type} : ∀ (l : List α), l.length = 4 → ∃ a b c d, l = [a, b, c, d]
  | [a, b, c, d], _ => ⟨a, b, c, d, rfl⟩
theorem list3 {α : Type} : ∀ (l : List α), l.length = 3 → ∃ a b c, l = [a, b, c]
  | [a, b, c], _ => ⟨a, b, c, rfl⟩
theorem list2 {α : Type} : ∀ (l : List α), l.length = 2 → ∃ a b, l = [a, b]
  | [a, b], _ => ⟨a, b, rfl⟩
theorem okWide_array' {P : Program} {w : World} {r : Reach} {base : Nat} {t e : TypeId} {n : Nat} {v : Value} (ht : P.underlying t = some (.array n e)) (h : Value.okWide P w r base t v) : ∃ cs, v = .agg cs ∧ cs.size = P.cellsOf t := by
  simp only [Value.okWide, ht] at h
  obtain ⟨cs, h1, h2, _⟩ := h
  exact ⟨cs, h1, h2⟩

section
variable {H : Type} {enc : TypeId × Value → H} {W : World} {base : Nat} {v : Value} {d : DataW H} {p : List MemPlace}
set_option maxRecDepth 100000 in
theorem open_seal (hv : Value.okWide Tryd.prog W .any base 47 v) (h : DataW.Trod enc Tryd.prog W 0 (fun _ => true) true 47 v d p) :
    ∃ ta tb i a b, v = .agg #[.string ta, .string tb, .int .i64 i, .int .i64 a, .int .i64 b] ∧ ta.size ≤ 9223372036854775807 ∧ tb.size ≤ 9223372036854775807 ∧ Rng i ∧ Rng a ∧ Rng b := by
  obtain ⟨cs, rfl, hsz⟩ := okWide_struct Tryd.underlying47 hv
  rw [cellsSeal] at hsz
  obtain ⟨n, hn⟩ := h
  obtain ⟨-, m, hf⟩ := open_st (l := [(9, 0), (9, 1), (3, 2), (3, 3), (3, 4)]) (by kernel_rfl) (by simp) hn
  obtain ⟨c0, c1, c2, c3, c4, hcs⟩ := list5 cs.toList (by simpa using hsz)
  have hcs' : cs = #[c0, c1, c2, c3, c4] := by rw [← Array.toArray_toList (xs := cs), hcs]
  subst hcs'
  obtain ⟨_, h0⟩ := hf 0 _ _ rfl
  obtain ⟨_, h1⟩ := hf 1 _ _ rfl
  obtain ⟨_, h2⟩ := hf 2 _ _ rfl
  obtain ⟨_, h3⟩ := hf 3 _ _ rfl
  obtain ⟨_, h4⟩ := hf 4 _ _ rfl
  rw [cellsString] at h0 h1
  rw [cellsInt] at h2 h3 h4
  obtain ⟨ta, e0, -, b0⟩ := DataW.trod_string Tryd.underlying9 h0
  obtain ⟨tb, e1, -, b1⟩ := DataW.trod_string Tryd.underlying9 h1
  obtain ⟨i, e2, b2⟩ := open_i64 Tryd.underlying3 h2
  obtain ⟨a, e3, b3⟩ := open_i64 Tryd.underlying3 h3
  obtain ⟨b, e4, b4⟩ := open_i64 Tryd.underlying3 h4
  replace e0 : [c0] = _ := e0
  replace e1 : [c1] = _ := e1
  replace e2 : [c2] = _ := e2
  replace e3 : [c3] = _ := e3
  replace e4 : [c4] = _ := e4
  injection e0 with e0; injection e1 with e1; injection e2 with e2; injection e3 with e3; injection e4 with e4
  subst e0 e1 e2 e3 e4
  exact ⟨ta, tb, i, a, b, rfl, Nat.le_trans b0 (by decide), Nat.le_trans b1 (by decide), b2, b3, b4⟩
set_option maxRecDepth 100000 in
theorem open_key (hv : Value.okWide Tryd.prog W .any base 28 v) (h : DataW.Trod enc Tryd.prog W 0 (fun _ => true) true 28 v d p) :
    ∃ k : Ky, v = .agg #[.int .i64 k.id, .string k.sec, .int .i64 k.fr, .int .i64 k.st] ∧ k.sec.size ≤ 9223372036854775807 ∧ Rng k.id ∧ Rng k.fr ∧ Rng k.st := by
  obtain ⟨cs, rfl, hsz⟩ := okWide_struct Tryd.underlying28 hv
  rw [cellsKey] at hsz
  obtain ⟨n, hn⟩ := h
  obtain ⟨-, m, hf⟩ := open_st (l := [(3, 0), (9, 1), (3, 2), (3, 3)]) (by kernel_rfl) (by simp) hn
  obtain ⟨c0, c1, c2, c3, hcs⟩ := list4 cs.toList (by simpa using hsz)
  have hcs' : cs = #[c0, c1, c2, c3] := by rw [← Array.toArray_toList (xs := cs), hcs]
  subst hcs'
  obtain ⟨_, h0⟩ := hf 0 _ _ rfl
  obtain ⟨_, h1⟩ := hf 1 _ _ rfl
  obtain ⟨_, h2⟩ := hf 2 _ _ rfl
  obtain ⟨_, h3⟩ := hf 3 _ _ rfl
  rw [cellsString] at h1
  rw [cellsInt] at h0 h2 h3
  obtain ⟨i, e0, b0⟩ := open_i64 Tryd.underlying3 h0
  obtain ⟨s, e1, -, b1⟩ := DataW.trod_string Tryd.underlying9 h1
  obtain ⟨f, e2, b2⟩ := open_i64 Tryd.underlying3 h2
  obtain ⟨g, e3, b3⟩ := open_i64 Tryd.underlying3 h3
  replace e0 : [c0] = _ := e0
  replace e1 : [c1] = _ := e1
  replace e2 : [c2] = _ := e2
  replace e3 : [c3] = _ := e3
  injection e0 with e0; injection e1 with e1; injection e2 with e2; injection e3 with e3
  subst e0 e1 e2 e3
  exact ⟨⟨i, s, f, g⟩, rfl, Nat.le_trans b1 (by decide), b0, b2, b3⟩
set_option maxRecDepth 100000 in
theorem open_i2 (hv : Value.okWide Tryd.prog W .any base 29 v) (h : DataW.Trod enc Tryd.prog W 0 (fun _ => true) true 29 v d p) : ∃ a b, v = .agg #[.int .i64 a, .int .i64 b] ∧ Rng a ∧ Rng b := by
  obtain ⟨cs, rfl, hsz⟩ := okWide_array' Tryd.underlying29 hv
  rw [cellsI2] at hsz
  obtain ⟨n, hn⟩ := h
  obtain ⟨-, m, hf⟩ := open_arr Tryd.underlying29 hn
  rw [cellsInt] at hf
  obtain ⟨c0, c1, hcs⟩ := list2 cs.toList (by simpa using hsz)
  have hcs' : cs = #[c0, c1] := by rw [← Array.toArray_toList (xs := cs), hcs]
  subst hcs'
  obtain ⟨_, h0⟩ := hf 0 (by omega)
  obtain ⟨_, h1⟩ := hf 1 (by omega)
  obtain ⟨a, e0, b0⟩ := open_i64 Tryd.underlying3 h0
  obtain ⟨b, e1, b1⟩ := open_i64 Tryd.underlying3 h1
  replace e0 : [c0] = _ := e0
  replace e1 : [c1] = _ := e1
  injection e0 with e0; injection e1 with e1
  subst e0 e1
  exact ⟨a, b, rfl, b0, b1⟩
set_option maxRecDepth 100000 in
theorem open_u16s (hv : Value.okWide Tryd.prog W .any base 59 v) (h : DataW.Trod enc Tryd.prog W 0 (fun _ => true) true 59 v d p) :
    ∃ a b c, v = .agg #[.int .u16 a, .int .u16 b, .int .u16 c] ∧ 0 ≤ a ∧ a < 65536 ∧ 0 ≤ b ∧ b < 65536 ∧ 0 ≤ c ∧ c < 65536 := by
  obtain ⟨cs, rfl, hsz⟩ := okWide_array' Tryd.underlying59 hv
  rw [cellsU3] at hsz
  obtain ⟨n, hn⟩ := h
  obtain ⟨-, m, hf⟩ := open_arr Tryd.underlying59 hn
  rw [cellsU16] at hf
  obtain ⟨c0, c1, c2, hcs⟩ := list3 cs.toList (by simpa using hsz)
  have hcs' : cs = #[c0, c1, c2] := by rw [← Array.toArray_toList (xs := cs), hcs]
  subst hcs'
  obtain ⟨_, h0⟩ := hf 0 (by omega)
  obtain ⟨_, h1⟩ := hf 1 (by omega)
  obtain ⟨_, h2⟩ := hf 2 (by omega)
  obtain ⟨a, e0, b0⟩ := open_u16 Tryd.underlying54 h0
  obtain ⟨b, e1, b1⟩ := open_u16 Tryd.underlying54 h1
  obtain ⟨c, e2, b2⟩ := open_u16 Tryd.underlying54 h2
  replace e0 : [c0] = _ := e0
  replace e1 : [c1] = _ := e1
  replace e2 : [c2] = _ := e2
  injection e0 with e0; injection e1 with e1; injection e2 with e2
  subst e0 e1 e2
  exact ⟨a, b, c, rfl, b0.1, b0.2, b1.1, b1.2, b2.1, b2.2⟩
end

end Go.Proofs.YtikinldimecgaaaDoor
