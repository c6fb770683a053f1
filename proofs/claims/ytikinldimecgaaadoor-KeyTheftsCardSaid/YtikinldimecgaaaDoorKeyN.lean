/- The walk of Current of the package key: a range over the function that slices.Backward hands back. -/
import Derived.RangeFuncNested
import Derived.RangeFuncBound
import Derived.RangeFuncCalls
import Derived.RangeFuncLeaves
import Derived.Shelf.Abstract
import Derived.Shelf.RegionOpen
import Derived.OwnWalkIn
import Derived.TacticsInMore
import Derived.LoopNIn
import Derived.LoopIn
import Derived.Test.YtikinldimecgaaaDoorKeyM
namespace Go.Proofs.YtikinldimecgaaaDoor
open Go.RowKit Go.Shelf
attribute [local go_sem] Oper.semAt_some

def upto {α : Type} (f : Nat → α) (k : Nat) : List α := (List.range k).map f
theorem upto_succ {α : Type} (f : Nat → α) (k : Nat) : upto f (k + 1) = upto f k ++ [f k] := by simp [upto, List.range_succ]
theorem upto_length {α : Type} (f : Nat → α) (k : Nat) : (upto f k).length = k := by simp [upto]

/- what slices.Backward yields in round k -/
def backAt (ks : List Ky) (k : Nat) : Int × Ky := (((ks.length - 1 - k : Nat) : Int), ks.getD (ks.length - 1 - k) Ky.zero)
def kyEnc (x : Int × Ky) : Array Value := #[.int .i64 x.1, .agg #[.int .i64 x.2.id, .string x.2.sec, .int .i64 x.2.fr, .int .i64 x.2.st]]

theorem Blk.grownRow {w w' : World} {g : Nat} {t : TypeId} {cs : Array Value} {row : Option Nat} (h : Blk w g t cs) (hg : w.grownBy w' row) (hn : some g ≠ row) : Blk w' g t cs := (hg.block g h.lt hn).trans h
theorem blk_own {β : Type} (B : Nat) (t : TypeId) (f : β → Array Value) : Own (fun s W => Blk W B t (f s)) := fun s X Y row hs hg hrow =>
  hs.grownRow hg (fun e' => by obtain ⟨o, ho, hc⟩ := hrow B e'.symm; rw [show X.heap[B]? = _ from hs] at ho; cases ho; cases hc)

set_option maxRecDepth 100000 in
set_option maxHeartbeats 2000000 in
theorem back1_in (F : Fence) (n : Nat) (h7 : F.fn 48) (hro : F.round = none) (hn : 1 ≤ n) (l Bs n₀ cap : Nat) (A : Option Addr) (ks : List Ky) (hl : ks.length ≤ 100000) (J Jx : List (Int × Ky) → World → Prop)
    (hY : ∀ pre x W, J pre W → pre.length < ks.length → YieldAt F (n - 1) Tryd.prog l (kyEnc x) W fun e W' =>
      (e = .returned (.bool true) ∧ J (pre ++ [x]) W' ∧ Below n₀ W W') ∨ (e = .returned (.bool false) ∧ Jx (pre ++ [x]) W'))
    (W : World) (hBs : W.cell? ⟨Bs, 0, none⟩ = some (.slice A ks.length cap)) (hBn : Bs < n₀) (hc : Slc W n₀ A ks.length cap 4 (kcells ks)) (h0 : J [] W) :
    CallsIn F n Tryd.prog 48 #[.func (.yield l) #[] #[], .pointer (some ⟨Bs, 0, none⟩)] W fun e W' => (∃ v, e = .returned v) ∧
      ((∃ ys, ys = upto (backAt ks) ks.length ∧ J ys W') ∨ (∃ pre, (∃ k, k ≤ ks.length ∧ pre = upto (backAt ks) k) ∧ Jx pre W')) := by
  refine callsIn_of_wp Tryd.func48 rfl h7 ?_ hro
  simp only [Tryd.ntmps48, List.size_toArray, List.length_cons, List.length_nil, Nat.reduceAdd, Nat.reduceSub, Array.replicate_succ, Array.replicate_zero, List.push_toArray, List.append_toArray, List.nil_append, List.cons_append]
  gi_wp2
  gi_loopw [3] (fun i wr => ∃ k : Nat, k ≤ ks.length ∧ i = .int .i64 (((ks.length - k : Nat) : Int) - 1) ∧ J (upto (backAt ks) k) wr ∧ Below n₀ W wr)
    (fun i _ => (intOf i + 1).toNat)
  case atStart => exact ⟨0, Nat.zero_le _, rfl, h0, Below.refl _ _⟩
  case round =>
    obtain ⟨k, hk, rfl, hJs, hnx⟩ := hrel
    have hbs := (hnx.cell (p := ⟨Bs, 0, none⟩) hBn).trans hBs
    rcases hm : ks.length - k with _ | m
    · obtain rfl : k = ks.length := by omega
      clear hm
      gi_wp2
      go_end0
      exact ⟨⟨_, rfl⟩, .inl ⟨_, rfl, hJs⟩⟩
    · have hmi : m < ks.length := by omega
      obtain ⟨b, off, rfl, hb, hcell⟩ := hc.rd (by intro h0; have := kcells_len ks; rw [h0] at this; simp at this; omega)
      have hka := kcells_at ks m ks[m] (List.getElem?_eq_getElem hmi)
      have k0 := (hnx.cell (p := ⟨b, off + m * 4, none⟩) hb).trans (hcell (m * 4 + 0) _ (hka 0 (by omega)))
      have k1 := (hnx.cell (p := ⟨b, off + m * 4 + 1, none⟩) hb).trans (hcell (m * 4 + 1) _ (hka 1 (by omega)))
      have k2 := (hnx.cell (p := ⟨b, off + m * 4 + 2, none⟩) hb).trans (hcell (m * 4 + 2) _ (hka 2 (by omega)))
      have k3 := (hnx.cell (p := ⟨b, off + m * 4 + 3, none⟩) hb).trans (hcell (m * 4 + 3) _ (hka 3 (by omega)))
      have hback : backAt ks k = ((m : Int), ks[m]) := by
        unfold backAt
        rw [show ks.length - 1 - k = m from by omega]
        simp [List.getD, List.getElem?_eq_getElem hmi]
      obtain ⟨fn, tmps, assign, body, hy, hR⟩ := hY _ (backAt ks k) wr hJs (by rw [upto_length]; omega)
      rw [hback] at hy
      dsimp only [kyEnc] at hy
      have HBk := Lib.hid hback
      have HKM := Lib.hid hm
      generalize hkj : ks[m] = y at *
      clear hkj hka hcell hback hm
      have e1 : ((m + 1 : Nat) : Int) - 1 = (m : Int) := by omega
      rw [e1]
      clear e1
      gi_wp2
      refine hR.mono ?_
      rintro e W3 (⟨rfl, hJ3, hk3⟩ | ⟨rfl, hJx3⟩)
      · gi_wp2
        go_roundw
        case rel => exact ⟨k + 1, by have := HKM.out; omega, by rw [show ks.length - (k + 1) = m from by have := HKM.out; omega], by rw [upto_succ]; exact hJ3, hnx.trans hk3⟩
        case measure => simp [intOf]
      · gi_wp2
        refine bodyPost_ret (results_none rfl _ _ _) rfl ?_
        exact ⟨⟨_, rfl⟩, .inr ⟨_, ⟨k + 1, by have := HKM.out; omega, (upto_succ _ _).symm⟩, hJx3⟩⟩

set_option maxHeartbeats 1000000 in
theorem back_in (F : Fence) (n : Nat) (h5 : F.fn 38) (hro : F.round = none) (a : Option Addr) (len cap : Nat) (w : World) :
    CallsIn F n Tryd.prog 38 #[.slice a len cap] w fun e w' => e = .returned (.func (.func 48) #[] #[.pointer (some ⟨w.heap.size, 0, none⟩)]) ∧ w' = w.alloc (.cells #[.slice a len cap] 32) := by
  refine callsIn_of_wp Tryd.func38 rfl h5 ?_ hro
  simp only [Tryd.ntmps38, List.size_toArray, List.length_cons, List.length_nil, Nat.reduceAdd, Nat.reduceSub, Array.replicate_succ, Array.replicate_zero, List.push_toArray, List.append_toArray, List.nil_append, List.cons_append]
  gi_wp2
  go_ret
  exact ⟨rfl, rfl⟩

theorem back_stops (F : Fence) (n : Nat) (h7 : F.fn 48) (hro : F.round = none) (hn : 1 ≤ n) (Bs n₀ cap : Nat) (A : Option Addr) (ks : List Ky) (hl : ks.length ≤ 100000) (w : World) (hBs : Bs < n₀) (hn₀ : n₀ ≤ w.heap.size)
    (hc : w.cell? ⟨Bs, 0, none⟩ = some (.slice A ks.length cap)) (hI : Slc w n₀ A ks.length cap 4 (kcells ks)) :
    SeqStopsK F n Tryd.prog 48 #[.pointer (some ⟨Bs, 0, none⟩)] kyEnc (Below n₀) (fun ys => ys = upto (backAt ks) ks.length)
      (fun pre => ∃ k, k ≤ ks.length ∧ pre = upto (backAt ks) k) ks.length w := fun l J Jx W hW _ _ hY h0 => by
  have hc' := (hW.cell (p := ⟨Bs, 0, none⟩) (Nat.lt_of_lt_of_le hBs hn₀)).trans hc
  exact back1_in F n h7 hro hn l Bs n₀ cap A ks hl J Jx hY W hc' hBs (hI.below hW hn₀) h0

theorem curR_take (ks : List Ky) (day : Int) : ∀ (k : Nat), k ≤ ks.length → (∀ j, j < k → curB (backAt ks j).2 day = false) → curD day ks = curR day (ks.take (ks.length - k)).reverse := by
  intro k
  induction k with
  | zero => intro _ _; rw [Nat.sub_zero, List.take_length]; rfl
  | succ k ih =>
    intro hk h
    rw [ih (by omega) (fun j hj => h j (by omega))]
    have hb := h k (by omega)
    have hlt : ks.length - 1 - k < ks.length := by omega
    have e : (backAt ks k).2 = ks[ks.length - 1 - k] := by simp [backAt, List.getD, List.getElem?_eq_getElem hlt]
    rw [e] at hb
    rw [show ks.length - k = (ks.length - 1 - k) + 1 from by omega, cur_step day ks _ hlt, hb, show ks.length - (k + 1) = ks.length - 1 - k from by omega]
    simp
theorem cur_none (ks : List Ky) (day : Int) (h : ∀ j, j < ks.length → curB (backAt ks j).2 day = false) : curD day ks = (0, false) := by
  rw [curR_take ks day ks.length (Nat.le_refl _) h, Nat.sub_self]
  rfl
theorem cur_some (ks : List Ky) (day : Int) (k : Nat) (hk : k < ks.length) (h : ∀ j, j < k → curB (backAt ks j).2 day = false) (h2 : curB (backAt ks k).2 day = true) : curD day ks = ((backAt ks k).2.id, true) := by
  have hlt : ks.length - 1 - k < ks.length := by omega
  have e : (backAt ks k).2 = ks[ks.length - 1 - k] := by simp [backAt, List.getD, List.getElem?_eq_getElem hlt]
  rw [curR_take ks day k (by omega) h, show ks.length - k = (ks.length - 1 - k) + 1 from by omega, cur_step day ks _ hlt, ← e, h2]
  simp

def CurI (B : Nat) (W0 : World) (day : Int) (pre : List (Int × Ky)) (W : World) : Prop :=
  ((∀ p ∈ pre, curB p.2 day = false) ∧ Blk W (B + 1) 3 #[.int .i64 day] ∧ Blk W (B + 1 + 1) 3 #[.int .i64 0] ∧ Blk W (B + 1 + 1 + 1) 4 #[.bool false]) ∧ Below B W0 W
def CurX (B : Nat) (W0 : World) (day : Int) (cc : Code) (pre : List (Int × Ky)) (W : World) : Prop :=
  (cc = .ret ∧ ∃ ini last, pre = ini ++ [last] ∧ (∀ p ∈ ini, curB p.2 day = false) ∧ curB last.2 day = true ∧ Blk W (B + 1 + 1) 3 #[.int .i64 last.2.id] ∧ Blk W (B + 1 + 1 + 1) 4 #[.bool true]) ∧ Below B W0 W

set_option maxRecDepth 100000 in
set_option maxHeartbeats 2000000 in
theorem cur_in (F : Fence) (n : Nat) (h3 : F.fn 18) (h5 : F.fn 38) (h7 : F.fn 48) (hro : F.round = none) (hn : 3 ≤ n) (A : Option Addr) (c : Nat) (school : Int) (ks : List Ky) (day : Int) (w : World) (hk : KSl w A c ks) (hl : ks.length ≤ 2000) :
    CallsIn F n Tryd.prog 18 #[.agg #[.int .i64 school, .slice A ks.length c], .int .i64 day] w fun e w' =>
      e = .returned (.tuple #[.int .i64 (curD day ks).1, .bool (curD day ks).2]) ∧ Below w.heap.size w w' := by
  have h1 : 1 ≤ n := by omega
  refine callsIn_of_wp_marks Tryd.func18 rfl h3 ?_ hro
  simp only [Tryd.ntmps18, List.size_toArray, List.length_cons, List.length_nil, Nat.reduceAdd, Nat.reduceSub, Array.replicate_succ, Array.replicate_zero, List.push_toArray, List.append_toArray, List.nil_append, List.cons_append]
  gi_wp2_with (gi_at_call 38; refine (back_in F (n - 1) h5 hro _ _ _ _).mono ?_; rintro e w' ⟨rfl, rfl⟩)
  have hrow : KSl w A c ks := hk
  have e0 : Blk (((((w.alloc (.cells #[.int .i64 school, .slice A ks.length c] 34)).alloc (.cells #[.int .i64 day] 3)).alloc (.cells #[.int .i64 0] 3)).alloc (.cells #[.bool false] 4)).alloc (.cells #[.slice A ks.length c] 32)) (w.heap.size + 1) 3 #[.int .i64 day] := (((Blk.new' (by simp)).alloc _).alloc _).alloc _
  have e2 : Blk (((((w.alloc (.cells #[.int .i64 school, .slice A ks.length c] 34)).alloc (.cells #[.int .i64 day] 3)).alloc (.cells #[.int .i64 0] 3)).alloc (.cells #[.bool false] 4)).alloc (.cells #[.slice A ks.length c] 32)) (w.heap.size + 1 + 1) 3 #[.int .i64 0] := ((Blk.new' (by simp)).alloc _).alloc _
  have e3 : Blk (((((w.alloc (.cells #[.int .i64 school, .slice A ks.length c] 34)).alloc (.cells #[.int .i64 day] 3)).alloc (.cells #[.int .i64 0] 3)).alloc (.cells #[.bool false] 4)).alloc (.cells #[.slice A ks.length c] 32)) (w.heap.size + 1 + 1 + 1) 4 #[.bool false] := (Blk.new' (by simp)).alloc _
  have e4 : Blk (((((w.alloc (.cells #[.int .i64 school, .slice A ks.length c] 34)).alloc (.cells #[.int .i64 day] 3)).alloc (.cells #[.int .i64 0] 3)).alloc (.cells #[.bool false] 4)).alloc (.cells #[.slice A ks.length c] 32)) (w.heap.size + 1 + 1 + 1 + 1) 32 #[.slice A ks.length c] := Blk.new' (by simp)
  have hB0 : Below w.heap.size w (((((w.alloc (.cells #[.int .i64 school, .slice A ks.length c] 34)).alloc (.cells #[.int .i64 day] 3)).alloc (.cells #[.int .i64 0] 3)).alloc (.cells #[.bool false] 4)).alloc (.cells #[.slice A ks.length c] 32)) := by go_grown
  obtain ⟨W0, hW0⟩ : ∃ W0, (((((w.alloc (.cells #[.int .i64 school, .slice A ks.length c] 34)).alloc (.cells #[.int .i64 day] 3)).alloc (.cells #[.int .i64 0] 3)).alloc (.cells #[.bool false] 4)).alloc (.cells #[.slice A ks.length c] 32)) = W0 := ⟨_, rfl⟩
  have hsz : W0.heap.size = w.heap.size + 1 + 1 + 1 + 1 + 1 := by rw [← hW0]; simp
  rw [hW0] at e0 e2 e3 e4 hB0 ⊢
  clear hW0
  refine wpIn_rangeFunc_ownH hro h1 (gf := 48) (lb := #[.pointer (some ⟨w.heap.size + 1 + 1 + 1 + 1, 0, none⟩)]) rfl h7 (enters_of Tryd.func48 (by kernel_rfl) rfl)
    (back_stops F (n - 1) h7 hro (by omega) (w.heap.size + 1 + 1 + 1 + 1) (w.heap.size + 1 + 1 + 1 + 1 + 1) c A ks (by omega) W0 (by omega) (by omega) (e4.cell 0) (hrow.below hB0 (Nat.le_refl _) |>.more (by omega))) belowK_t (belowK_b (by omega)) (Below.refl _ _) (fun _ => rfl)
    (CurI w.heap.size W0 day)
    (CurX w.heap.size W0 day)
    (OwnFrom.and (Own.from (fun s X Y row hs hg hr => ⟨hs.1, blk_own _ _ (fun (_ : Unit) => #[.int .i64 day]) () X Y row hs.2.1 hg hr, blk_own _ _ (fun (_ : Unit) => #[.int .i64 0]) () X Y row hs.2.2.1 hg hr, blk_own _ _ (fun (_ : Unit) => #[.bool false]) () X Y row hs.2.2.2 hg hr⟩) _) (ownFrom_below hB0.size (by omega)))
    (fun cc => OwnFrom.and (Own.from (fun s X Y row hs hg hr => by obtain ⟨hc, ini, last, e1, e2, e3, e4, e5⟩ := hs; exact ⟨hc, ini, last, e1, e2, e3, blk_own _ _ (fun (_ : Unit) => #[.int .i64 last.2.id]) () X Y row e4 hg hr, blk_own _ _ (fun (_ : Unit) => #[.bool true]) () X Y row e5 hg hr⟩) _) (ownFrom_below hB0.size (by omega)))
    ⟨⟨by simp, e0, e2, e3⟩, Below.refl _ _⟩
    (fun x a' W => ∃ Bx, w.heap.size + 1 + 1 + 1 + 1 < Bx ∧ Blk W Bx 28 #[.int .i64 x.2.id, .string x.2.sec, .int .i64 x.2.fr, .int .i64 x.2.st] ∧ a' = { tmps := #[.agg #[.int .i64 school, .slice A ks.length c], .int .i64 day, .pointer (some ⟨w.heap.size, 0, none⟩), .pointer (some ⟨w.heap.size + 1, 0, none⟩), .pointer (some ⟨w.heap.size + 1 + 1, 0, none⟩), .pointer (some ⟨w.heap.size + 1 + 1 + 1, 0, none⟩), undef, .pointer (some ⟨Bx, 0, none⟩), .pointer (some ⟨w.heap.size, 1, none⟩), .slice A ks.length c, .func (.func 48) #[] #[.pointer (some ⟨w.heap.size + 1 + 1 + 1 + 1, 0, none⟩)], .int .i64 x.1, .agg #[.int .i64 x.2.id, .string x.2.sec, .int .i64 x.2.fr, .int .i64 x.2.st], undef, undef, undef, undef, undef, undef, undef, undef, undef, undef, undef, undef, undef, undef, undef, undef, undef], defers := [] })
    (fun x a' _ X Y row hs hg hr => by obtain ⟨Bx, h1, h2, h3⟩ := hs; exact ⟨Bx, h1, blk_own Bx 28 (fun (_ : Unit) => #[.int .i64 x.2.id, .string x.2.sec, .int .i64 x.2.fr, .int .i64 x.2.st]) () X Y row h2 hg (fun r e => (hr r e).2), h3⟩)
    ?assign ?body ?done ?stop
  case assign =>
    rintro l pre x W K ⟨⟨hp, f0, f2, f3⟩, hB1⟩ hK
    have hs1 := f3.lt
    have hs2 : w.heap.size + 1 + 1 + 1 + 1 < W.heap.size := by have := hB1.size; omega
    dsimp only [kyEnc]
    gi_wp2
    exact hK _ _ ((KeepsOthers.alloc _ _).from _) ((Below.refl _ W).alloc (by omega) _) ⟨⟨hp, f0.alloc _, f2.alloc _, f3.alloc _⟩, hB1.alloc (by omega) _⟩ ⟨W.heap.size, hs2, Blk.new W _ _, rfl⟩
  case body =>
    rintro l pre x a' W hl ⟨r, hr⟩ ⟨⟨hp, f0, f2, f3⟩, hB1⟩ ⟨Bx, hBx, bX, rfl⟩ hlt
    obtain ⟨x1, y⟩ := x
    dsimp only at bX ⊢
    have HSZ := Lib.hid hsz
    have hszl : w.heap.size + 1 + 1 + 1 + 1 + 1 ≤ W0.heap.size := by omega
    clear hsz
    obtain ⟨y0, y1, y2, y3, y4, y5⟩ := bX.f4
    have z0 := f0.cell 0
    have z2 := f2.cell 0
    have z3 := f3.cell 0
    have z4 := f2.frozen
    have z5 := f3.frozen
    simp at z0 z2 z3
    by_cases d1 : y.fr ≤ day
    all_goals
      by_cases d2 : y.st = 0
      all_goals
        have D2 := Lib.hid d2
        first
        | (have d2' : (y.st == 0) = true := by simp [d2]
           clear d2)
        | (have d2' : (y.st == 0) = false := by simp [d2]
           clear d2)
        by_cases d3 : day < y.st
        all_goals
          gi_wp2
          first
          | (refine ⟨KeepsFrom.refl _ _, Below.refl _ _, ⟨?_, f0, f2, f3⟩, hB1⟩
             intro p hp'
             rcases List.mem_append.1 hp' with h | h
             · exact hp p h
             · rw [List.mem_singleton] at h
               subst h
               exact curB_false (by have := D2.out; show ¬ (y.fr ≤ day ∧ (y.st = 0 ∨ day < y.st)); omega))
          | (refine ⟨((KeepsOthers.setCell _ _ _).trans (KeepsOthers.setCell _ _ _)).from _, ⟨rfl, pre, (x1, y), rfl, hp, curB_true (by show y.fr ≤ day; omega) (by have := D2.out; show y.st = 0 ∨ day < y.st; omega), ?_, ?_⟩, ?_⟩
             · exact (f2.set_ 0 _).far (by show w.heap.size + 1 + 1 ≠ w.heap.size + 1 + 1 + 1; omega) _
             · exact (f3.far (by show w.heap.size + 1 + 1 + 1 ≠ w.heap.size + 1 + 1; omega) _).set_ 0 _
             · exact (hB1.setCell (by show w.heap.size ≤ w.heap.size + 1 + 1; omega) _).setCell (by show w.heap.size ≤ w.heap.size + 1 + 1 + 1; omega) _)
  case done =>
    rintro D ys W hD rfl ⟨⟨hp, f0, f2, f3⟩, hB⟩ hK
    obtain ⟨z2, z4⟩ : W.cell? ⟨w.heap.size + 1 + 1, 0, none⟩ = some (.int .i64 0) ∧ ∀ i, W.frozen? ⟨w.heap.size + 1 + 1, i, none⟩ = false := ⟨f2.cell 0, f2.frozen⟩
    obtain ⟨z3, z5⟩ : W.cell? ⟨w.heap.size + 1 + 1 + 1, 0, none⟩ = some (.bool false) ∧ ∀ i, W.frozen? ⟨w.heap.size + 1 + 1 + 1, i, none⟩ = false := ⟨f3.cell 0, f3.frozen⟩
    gi_wp2
    have hK1 := (KeepsOthers.setCell W ⟨w.heap.size + 1 + 1, 0, none⟩ (.int .i64 0)).same D _ hK rfl
    have hK' := (KeepsOthers.setCell _ ⟨w.heap.size + 1 + 1 + 1, 0, none⟩ (.bool false)).same D _ hK1 rfl
    refine ⟨by simp, .inl ⟨_, _, rfl, run_takeDeferred hK', ?_⟩⟩
    have hb2 : Blk ((W.setCell ⟨w.heap.size + 1 + 1, 0, none⟩ (.int .i64 0)).setCell ⟨w.heap.size + 1 + 1 + 1, 0, none⟩ (.bool false)) (w.heap.size + 1 + 1) 3 #[.int .i64 0] := (f2.set_ 0 _).far (by show w.heap.size + 1 + 1 ≠ w.heap.size + 1 + 1 + 1; omega) _
    have hb3 : Blk ((W.setCell ⟨w.heap.size + 1 + 1, 0, none⟩ (.int .i64 0)).setCell ⟨w.heap.size + 1 + 1 + 1, 0, none⟩ (.bool false)) (w.heap.size + 1 + 1 + 1) 4 #[.bool false] := (f3.far (by show w.heap.size + 1 + 1 + 1 ≠ w.heap.size + 1 + 1; omega) _).set_ 0 _
    have hc2 := cell_kept (hb2.cell 0) (grownBy_putObj' _ D (.deferred none)) (fun r e => by cases e; exact ⟨_, hK', rfl⟩)
    have hc3 := cell_kept (hb3.cell 0) (grownBy_putObj' _ D (.deferred none)) (fun r e => by cases e; exact ⟨_, hK', rfl⟩)
    refine ⟨.tuple #[.int .i64 0, .bool false], ?_, ?_, ?_⟩
    · simp [results, Tryd.f18, go_sem, hc2, hc3]
    · rw [cur_none ks day (by intro k hk; exact hp _ (List.mem_map.2 ⟨k, by simpa using hk, rfl⟩))]
    · have hB' := (hB0.trans hB)
      exact ((hB'.setCell (p := ⟨w.heap.size + 1 + 1, 0, none⟩) (by show w.heap.size ≤ w.heap.size + 1 + 1; omega) _).setCell (p := ⟨w.heap.size + 1 + 1 + 1, 0, none⟩) (by show w.heap.size ≤ w.heap.size + 1 + 1 + 1; omega) _).trans (belowK_b (w := w) (Nat.le_refl _) _ D _ _ (by omega) hK' rfl rfl)
  case stop =>
    rintro D cc pre W hD ⟨k, hk, rfl⟩ ⟨⟨rfl, ini, last, e1, e2, e3, g0, g1⟩, hB⟩ hK
    gi_wp2
    refine ⟨by simp, .inl ⟨_, _, rfl, run_takeDeferred hK, ?_⟩⟩
    have hc2 := cell_kept (g0.cell 0) (grownBy_putObj' _ D (.deferred none)) (fun r e => by cases e; exact ⟨_, hK, rfl⟩)
    have hc3 := cell_kept (g1.cell 0) (grownBy_putObj' _ D (.deferred none)) (fun r e => by cases e; exact ⟨_, hK, rfl⟩)
    obtain ⟨k', rfl⟩ : ∃ k', k = k' + 1 := by
      cases k with
      | zero => simp [upto] at e1
      | succ k' => exact ⟨k', rfl⟩
    rw [upto_succ] at e1
    obtain ⟨rfl, e5⟩ := List.append_inj' e1 rfl
    obtain rfl : backAt ks k' = last := by simpa using e5
    refine ⟨.tuple #[.int .i64 (backAt ks k').2.id, .bool true], ?_, ?_, ?_⟩
    · simp [results, Tryd.f18, go_sem, hc2, hc3]
    · rw [cur_some ks day k' (by omega) (by intro j hj; exact e2 _ (List.mem_map.2 ⟨j, by simpa using hj, rfl⟩)) e3]
    · exact (hB0.trans hB).trans (belowK_b (w := w) (Nat.le_refl _) _ D _ _ (by omega) hK rfl rfl)

theorem cur_any (A : Option Addr) (c : Nat) (school : Int) (ks : List Ky) (day : Int) (w : World) (hk : KSl w A c ks) (hl : ks.length ≤ 2000) :
    Calls Tryd.prog 18 #[.agg #[.int .i64 school, .slice A ks.length c], .int .i64 day] w fun e w' =>
      e = .returned (.tuple #[.int .i64 (curD day ks).1, .bool (curD day ks).2]) ∧ Below w.heap.size w w' :=
  (callsIn_wide (n := 3)).1 (cur_in Fence.wide 3 trivial trivial trivial rfl (Nat.le_refl _) A c school ks day w hk hl)

end Go.Proofs.YtikinldimecgaaaDoor
