/- Small general facts for opening a law's arguments: structs, arrays and slices of integers that are read as data. -/
import Derived.Test.YtikinldimecgaaaDoorBase
import Derived.ChangeSlices
import Derived.OpenShut
import Derived.Carry
import Derived.ChangeSame
import Derived.ChangeMaps5
import Derived.WideShapes
namespace Go.Proofs.YtikinldimecgaaaDoor
open Go.RowKit Go.WideShapes Go.ChangeShapes

/- the types and places of a struct's fields -/
def shapeOf (P : Program) (t : TypeId) : List (TypeId × Nat) :=
  match P.underlying t with
  | some (.struct fs) => fs.toList.map fun f => (f.type, f.offset)
  | _ => []

section
variable {H : Type} {enc : TypeId × Value → H} {P : Program} {w : World} {base : Nat} {spare : Nat → Bool} {held : Bool} {fuel : Nat} {t : TypeId} {cs : List Value} {x : DataW H × List MemPlace}

theorem open_st {l : List (TypeId × Nat)} (hs : shapeOf P t = l) (hl : l ≠ []) (h : DataW.trod enc P w base spare held fuel t cs = some x) :
    cs.length = P.cellsOf t ∧ ∃ n, ∀ (i : Nat) (ti : TypeId) (off : Nat), l[i]? = some (ti, off) → ∃ y, DataW.trod enc P w base spare held n ti ((cs.drop off).take (P.cellsOf ti)) = some y := by
  unfold shapeOf at hs
  split at hs
  · rename_i fs hf
    obtain ⟨xs, n, -, -, h1, h2, h3⟩ := DataW.trod_struct hf h
    refine ⟨h1, n, fun i ti off hi => ?_⟩
    rw [← hs, List.getElem?_map] at hi
    obtain ⟨f, hf1, hf2⟩ := Option.map_eq_some_iff.1 hi
    have hf3 : fs[i]? = some f := by simpa using hf1
    have h4 := h3 i f hf3
    injection hf2 with h5 h6
    rw [h5, h6] at h4
    have hi2 : i < xs.length := by rw [h2]; exact (Array.getElem?_eq_some_iff.1 hf3).1
    exact ⟨xs[i], by rw [h4, List.getElem?_eq_getElem hi2]⟩
  · exact absurd hs.symm hl
theorem open_arr {e : TypeId} {n : Nat} (ht : P.underlying t = some (.array n e)) (h : DataW.trod enc P w base spare held fuel t cs = some x) :
    cs.length = P.cellsOf t ∧ ∃ m, ∀ i, i < n → ∃ y, DataW.trod enc P w base spare held m e ((cs.drop (i * P.cellsOf e)).take (P.cellsOf e)) = some y := by
  obtain ⟨xs, m, -, -, h1, h2, h3⟩ := DataW.trod_array ht h
  exact ⟨h1, m, fun i hi => ⟨xs[i], by rw [h3 i hi, List.getElem?_eq_getElem (by omega)]⟩⟩
theorem wf_i64 {n : Int} (h : (Lit.int .i64 n).wf = true) : -9223372036854775808 ≤ n ∧ n ≤ 9223372036854775807 := by
  simpa [Lit.wf, IntKind.min, IntKind.max, IntKind.signed, IntKind.bits] using h
theorem wf_u8 {n : Int} (h : (Lit.int .u8 n).wf = true) : 0 ≤ n ∧ n < 256 := by
  have : 0 ≤ n ∧ n ≤ 255 := by simpa [Lit.wf, IntKind.min, IntKind.max, IntKind.signed, IntKind.bits] using h
  omega
theorem wf_u16 {n : Int} (h : (Lit.int .u16 n).wf = true) : 0 ≤ n ∧ n < 65536 := by
  have : 0 ≤ n ∧ n ≤ 65535 := by simpa [Lit.wf, IntKind.min, IntKind.max, IntKind.signed, IntKind.bits] using h
  omega
theorem open_i64 (ht : P.underlying t = some (.int .i64)) (h : DataW.trod enc P w base spare held fuel t cs = some x) : ∃ n, cs = [.int .i64 n] ∧ -9223372036854775808 ≤ n ∧ n ≤ 9223372036854775807 := by
  obtain ⟨n, h1, -, h2⟩ := DataW.trod_int ht h
  exact ⟨n, h1, wf_i64 h2⟩
theorem open_u8 (ht : P.underlying t = some (.int .u8)) (h : DataW.trod enc P w base spare held fuel t cs = some x) : ∃ n, cs = [.int .u8 n] ∧ 0 ≤ n ∧ n < 256 := by
  obtain ⟨n, h1, -, h2⟩ := DataW.trod_int ht h
  exact ⟨n, h1, wf_u8 h2⟩
theorem open_u16 (ht : P.underlying t = some (.int .u16)) (h : DataW.trod enc P w base spare held fuel t cs = some x) : ∃ n, cs = [.int .u16 n] ∧ 0 ≤ n ∧ n < 65536 := by
  obtain ⟨n, h1, -, h2⟩ := DataW.trod_int ht h
  exact ⟨n, h1, wf_u16 h2⟩
theorem open_u16v {r : Reach} {b0 : Nat} {v : Value} {d : DataW H} {p : List MemPlace} {sp : Nat → Bool} {hd : Bool} {b1 : Nat} (ht : P.underlying t = some (.int .u16)) (hv : Value.okWide P w r b0 t v) (h : DataW.Trod enc P w b1 sp hd t v d p) : ∃ n, v = .int .u16 n ∧ 0 ≤ n ∧ n < 65536 := by
  obtain ⟨n, rfl, -, -, h2⟩ := open_int ht hv h
  exact ⟨n, rfl, wf_u16 h2⟩
theorem cell_lt {w : World} {b o : Nat} {u : Value} (h : w.cell? ⟨b, o, none⟩ = some u) : b < w.heap.size := by
  rcases Nat.lt_or_ge b w.heap.size with hb | hb
  · exact hb
  · simp [World.cell?, Array.getElem?_eq_none hb] at h
theorem open_slc {e : TypeId} {k : IntKind} (ht : P.underlying t = some (.slice e)) (he : P.underlying e = some (.int k)) (hc : P.cellsOf e = 1) (h : DataW.trod enc P w base spare held fuel t cs = some x) :
    ∃ A c l, cs = [.slice A (List.length l) c] ∧ Slc w w.heap.size A l.length c 1 (l.map (Value.int k)) ∧ ∀ n ∈ l, (Lit.int k n).wf = true := by
  rcases Go.ChangeShapes.open_ints ht he hc h with ⟨rfl, -⟩ | ⟨a, len, cap, zs, rfl, hb, hl, hm, hz, -, hcell, hwf⟩
  · exact ⟨none, 0, [], rfl, ⟨rfl, fun _ => ⟨rfl, rfl⟩, Nat.le_refl _, Nat.zero_le _, Rd.nil _ _ _⟩, fun n hn => by cases hn⟩
  · have hlz : len ≤ zs.length := by rw [hz]; split <;> omega
    have hll : (zs.take len).length = len := by rw [List.length_take]; omega
    refine ⟨some a, cap, zs.take len, by rw [hll], ?_, fun n hn => hwf n (List.mem_of_mem_take hn)⟩
    rw [hll]
    refine ⟨by rw [List.length_map, hll]; omega, (fun h => by cases h), hl, hm, fun hne => ?_⟩
    have hz0 : 0 < zs.length := by
      rcases zs with _ | ⟨z, zs⟩
      · simp at hne
      · simp
    obtain ⟨b, off, rfl, hc2⟩ := ints_at hcell hz0
    refine ⟨b, off, rfl, cell_lt (hc2 0 hz0), fun j u hu => ?_⟩
    rw [List.getElem?_map] at hu
    obtain ⟨z, hz1, rfl⟩ := Option.map_eq_some_iff.1 hu
    have hj : j < len := by have := (List.getElem?_eq_some_iff.1 hz1).1; omega
    rw [List.getElem?_take_of_lt hj] at hz1
    rw [hc2 j (by omega), List.getD, hz1]
    rfl
end

section
variable {H : Type} {enc : TypeId × Value → H} {P : Program} {W W' : World}
/- arguments read behind a call as they did before it, if below the old heap nothing has turned -/
theorem args_stay (hl : laidOutB P = true) (hb : Below W.heap.size W W') : ∀ {ts : List TypeId} {vs : List Value} {ds : List (DataW H)} {ps : List MemPlace}, (∀ t ∈ ts, P.readableRec t = true ∧ t < P.types.size) →
    DataW.TrodAll enc P W 0 (fun _ => true) true ts vs ds ps → (∀ p ∈ ps, p.block < W.heap.size) → DataW.TrodAll enc P W' 0 (fun b => decide (b < W.heap.size)) true ts vs ds ps
  | [], _, _, _, _, h, _ => by
    obtain ⟨rfl, rfl, rfl⟩ := trodAll_nil h
    exact trodAll_mk0
  | t :: ts, _, _, _, ht, h, hlt => by
    obtain ⟨v, vs, d, ds, p, q, rfl, rfl, rfl, h1, h2⟩ := trodAll_cons h
    exact trodAll_cons_mk (Below.trod hl (ht t List.mem_cons_self).1 (ht t List.mem_cons_self).2 h1 hb (fun x hx => hlt x (List.mem_append_left _ hx)))
      (args_stay hl hb (fun u hu => ht u (List.mem_cons_of_mem _ hu)) h2 (fun x hx => hlt x (List.mem_append_right _ hx)))

/- what a law's statement asks of its end: it answers true, and its arguments read as before -/
theorem law_post {f : Func} {s : ChangeSpec} {apart fresh handsOn : Bool} {args : Array Value} {ds gs : List (DataW H)} {before : List MemPlace} {tb : TypeId} (hl : laidOutB P = true)
    (hts : ∀ t ∈ f.params.toList, P.readableRec t = true ∧ t < P.types.size) (hr : f.resultTypes = #[tb]) (htb : P.underlying tb = some .bool) (hv : s.vars = [])
    (h1 : (s.fn H (ds ++ gs)).results = [.lit (.bool true)]) (h2 : (s.fn H (ds ++ gs)).args = ds) (h3 : (s.fn H (ds ++ gs)).vars = [])
    (hW : DataW.Whole enc P f.params.toList s.vars apart W args.toList ds gs before) (hb : Below W.heap.size W W') :
    s.post enc P f apart fresh handsOn false W args (.bool true) W' := by
  have hlt : ∀ p ∈ before, p.block < W.heap.size := fun p hp => hW.lt p hp
  have hW2 := hW
  obtain ⟨pa, pv, hA, hV, hp, -, -⟩ := hW2
  rw [hv] at hV
  obtain ⟨rfl, rfl⟩ := trodVars_none hV
  rw [List.append_nil] at hp
  subst hp
  refine ⟨ds, [], before, [], before, [], hW, ?_, ?_, ?_, ?_, fun h => by cases h⟩
  · rw [h1, hr]
    exact trodAll_mk1 (shut_bool htb true)
  · rw [h2]
    exact args_stay hl hb hts hA hlt
  · rw [h3, hv]
    exact hV
  · exact World.keptBut_mono (fun p hp => ⟨hp, .inr (.inl hp)⟩) (hb.frame (· ∈ before))
end

end Go.Proofs.YtikinldimecgaaaDoor
