/- What the rows of the Key laws have in common: the table among their listed variables, and opening a case. -/
import Derived.Test.YtikinldimecgaaaDoorCards
import Derived.Test.YtikinldimecgaaaDoorTie
import Derived.Test.YtikinldimecgaaaDoorKeyU
import Derived.Test.YtikinldimecgaaaDoorOpen
import Derived.ProofKit
import Derived.Deep.DeepHandedRow
import Derived.Lib.LaidTab
import Derived.Stop.LaidErr
namespace Go.Proofs.YtikinldimecgaaaDoor
open Go.ChangeShapes Go.WideShapes Go.ChangeAt Go.RowKit

theorem own : ownKnob Tryd.prog.godebug = none := by kernel_rfl
theorem laidOut : laidOutB Tryd.prog = true := by kernel_rfl
theorem gPow : Tryd.prog.globalNamed "internal/strconv.uint64pow10" = some 0 := by kernel_rfl
theorem gPowType : (Tryd.prog.globals[0]?).map (·.type) = some 99 := by kernel_rfl
theorem cellsPow : Tryd.prog.cellsOf 99 = 20 := by kernel_rfl
theorem cellsU64 : Tryd.prog.cellsOf 92 = 1 := by kernel_rfl
theorem cellsU8 : Tryd.prog.cellsOf 5 = 1 := by kernel_rfl
theorem cellsInt : Tryd.prog.cellsOf 3 = 1 := by kernel_rfl
theorem cellsInts : Tryd.prog.cellsOf 22 = 1 := by kernel_rfl
theorem cellsA3 : Tryd.prog.cellsOf 23 = 3 := by kernel_rfl
theorem cellsA23 : Tryd.prog.cellsOf 24 = 6 := by kernel_rfl
theorem cellsCase : Tryd.prog.cellsOf 26 = 8 := by kernel_rfl

set_option maxRecDepth 100000 in
theorem laid_eq : Rows.keyRingsRow.laid = [("math/bits.deBruijn32tab", Rows.laid_math_bits_deBruijn32tab), ("math/bits.deBruijn64tab", Rows.laid_math_bits_deBruijn64tab), ("internal/strconv.uint64pow10", Lib.tabData .u64 Lib.pow10Tab)] := by kernel_rfl
set_option maxRecDepth 100000 in
theorem laid_plain : (Rows.keyRingsRow.laid.filter fun x => x.2.handleName?.isSome) = [] := by kernel_rfl
set_option maxRecDepth 100000 in
theorem tab_of_laid {W : World} (h : laidMetH Tryd.prog Rows.keyRingsRow.laid W) : Tab W := by
  unfold laidMetH at h
  rw [laid_plain] at h
  replace h : laidMet Tryd.prog Rows.keyRingsRow.laid W := h
  rw [laid_eq] at h
  exact Lib.tabBelow_of_tabIs (Lib.tabIs_of_head (rest := []) gPow gPowType Tryd.underlying99 Tryd.underlying92 cellsU64 cellsPow (laidMet.tail (laidMet.tail h)))

theorem list8 {α : Type} : ∀ (l : List α), l.length = 8 → ∃ a b c d e f g h, l = [a, b, c, d, e, f, g, h]
  | [a, b, c, d, e, f, g, h], _ => ⟨a, b, c, d, e, f, g, h, rfl⟩
set_option maxRecDepth 100000 in
theorem open_case {H : Type} {enc : TypeId × Value → H} {W : World} {base : Nat} {v : Value} {d : DataW H} {p : List MemPlace} (hv : Value.okWide Tryd.prog W .any base 26 v)
    (h : DataW.Trod enc Tryd.prog W 0 (fun _ => true) true 26 v d p) :
    ∃ S A c l p0 p1 p2 q0 q1 q2, v = .agg #[.int .u8 S, .slice A (List.length l) c, .int .i64 p0, .int .i64 p1, .int .i64 p2, .int .i64 q0, .int .i64 q1, .int .i64 q2] ∧ ISl W A c l ∧ 0 ≤ S ∧ S < 256 ∧ Rng p0 ∧ Rng p1 ∧ Rng p2 ∧ Rng q0 ∧ Rng q1 ∧ Rng q2 := by
  obtain ⟨cs, rfl, hsz⟩ := okWide_struct Tryd.underlying26 hv
  rw [cellsCase] at hsz
  obtain ⟨n, hn⟩ := h
  obtain ⟨-, m, hf⟩ := open_st (l := [(5, 0), (22, 1), (24, 2)]) (by kernel_rfl) (by simp) hn
  obtain ⟨c0, c1, c2, c3, c4, c5, c6, c7, hcs⟩ := list8 cs.toList (by simpa using hsz)
  have hcs' : cs = #[c0, c1, c2, c3, c4, c5, c6, c7] := by rw [← Array.toArray_toList (xs := cs), hcs]
  subst hcs'
  obtain ⟨y0, h0⟩ := hf 0 _ _ rfl
  obtain ⟨y1, h1⟩ := hf 1 _ _ rfl
  obtain ⟨y2, h2⟩ := hf 2 _ _ rfl
  rw [cellsU8] at h0
  rw [cellsInts] at h1
  rw [cellsA23] at h2
  obtain ⟨S, e0, hS0, hS1⟩ := open_u8 Tryd.underlying5 h0
  obtain ⟨A, c, l, e1, hl, hlw⟩ := open_slc Tryd.underlying22 Tryd.underlying3 cellsInt h1
  obtain ⟨-, m2, ha⟩ := open_arr Tryd.underlying24 h2
  obtain ⟨z0, g0⟩ := ha 0 (by omega)
  obtain ⟨z1, g1⟩ := ha 1 (by omega)
  rw [cellsA3] at g0 g1
  obtain ⟨-, m3, ha0⟩ := open_arr Tryd.underlying23 g0
  obtain ⟨-, m4, ha1⟩ := open_arr Tryd.underlying23 g1
  rw [cellsInt] at ha0 ha1
  obtain ⟨_, k0⟩ := ha0 0 (by omega)
  obtain ⟨_, k1⟩ := ha0 1 (by omega)
  obtain ⟨_, k2⟩ := ha0 2 (by omega)
  obtain ⟨_, k3⟩ := ha1 0 (by omega)
  obtain ⟨_, k4⟩ := ha1 1 (by omega)
  obtain ⟨_, k5⟩ := ha1 2 (by omega)
  obtain ⟨p0, x0, b0⟩ := open_i64 Tryd.underlying3 k0
  obtain ⟨p1, x1, b1⟩ := open_i64 Tryd.underlying3 k1
  obtain ⟨p2, x2, b2⟩ := open_i64 Tryd.underlying3 k2
  obtain ⟨q0, x3, b3⟩ := open_i64 Tryd.underlying3 k3
  obtain ⟨q1, x4, b4⟩ := open_i64 Tryd.underlying3 k4
  obtain ⟨q2, x5, b5⟩ := open_i64 Tryd.underlying3 k5
  replace e0 : [c0] = _ := e0
  replace e1 : [c1] = _ := e1
  replace x0 : [c2] = _ := x0
  replace x1 : [c3] = _ := x1
  replace x2 : [c4] = _ := x2
  replace x3 : [c5] = _ := x3
  replace x4 : [c6] = _ := x4
  replace x5 : [c7] = _ := x5
  injection e0 with e0; injection e1 with e1; injection x0 with x0; injection x1 with x1; injection x2 with x2; injection x3 with x3; injection x4 with x4; injection x5 with x5
  subst e0 e1 x0 x1 x2 x3 x4 x5
  exact ⟨S, A, c, l, p0, p1, p2, q0, q1, q2, rfl, ⟨hl, fun x hx => wf_i64 (hlw x hx)⟩, hS0, hS1, b0, b1, b2, b3, b4, b5⟩

/- a world for the witness: the settled one, the tables holding what their initialisers lay -/
def putCells (cs : Array Value) : Obj → Obj
  | .cells _ t frozen => .cells cs t frozen
  | o => o
def tabOf (d : DataW Unit) : Array Value :=
  match d with
  | .agg l => (l.map fun x => match x with | .lit (.int k z) => Value.int k z | _ => undef).toArray
  | _ => #[]
noncomputable def laidWorld (os : Os) : World :=
  { World.holding Tryd.prog os ⟨#[], #[], []⟩ with heap := (((World.holding Tryd.prog os ⟨#[], #[], []⟩).heap.modify 0 (putCells (tabOf Rows.laid_internal_strconv_uint64pow10))).modify 1 (putCells (tabOf Rows.laid_math_bits_deBruijn32tab))).modify 2 (putCells (tabOf Rows.laid_math_bits_deBruijn64tab)) }

end Go.Proofs.YtikinldimecgaaaDoor
