/- The walks of the digests: a number as eight bytes, and the digest of what stands behind one another. -/
import Derived.Test.YtikinldimecgaaaDoorBase
namespace Go.Proofs.YtikinldimecgaaaDoor
open Go.RowKit

def u8 (n : Int) : UInt8 := UInt8.ofNat n.toNat
def num8 (n : Int) : List UInt8 := [u8 (n / 72057594037927936 % 256), u8 (n / 281474976710656 % 256), u8 (n / 1099511627776 % 256), u8 (n / 4294967296 % 256), u8 (n / 16777216 % 256), u8 (n / 65536 % 256), u8 (n / 256 % 256), u8 (n % 256)]

theorem str8 (w : World) (t : TypeId) (c0 c1 c2 c3 c4 c5 c6 c7 : Int) :
    (convert 82 9 (.slice (some ⟨w.heap.size, 0, none⟩) 8 8)).run Tryd.prog (w.alloc (.cells #[.int .u8 c0, .int .u8 c1, .int .u8 c2, .int .u8 c3, .int .u8 c4, .int .u8 c5, .int .u8 c6, .int .u8 c7] t)) =
      .ok (.string (bs [u8 c0, u8 c1, u8 c2, u8 c3, u8 c4, u8 c5, u8 c6, u8 c7])) (w.alloc (.cells #[.int .u8 c0, .int .u8 c1, .int .u8 c2, .int .u8 c3, .int .u8 c4, .int .u8 c5, .int .u8 c6, .int .u8 c7] t)) :=
  run_str_new (P := Tryd.prog) w 82 9 5 t 8 [c0, c1, c2, c3, c4, c5, c6, c7] Tryd.underlying82 Tryd.underlying5 Tryd.underlying9

theorem num8_eight (n : Int) : num8 n = [u8 (n / 256 / 256 / 256 / 256 / 256 / 256 / 256 % 256), u8 (n / 256 / 256 / 256 / 256 / 256 / 256 % 256), u8 (n / 256 / 256 / 256 / 256 / 256 % 256),
    u8 (n / 256 / 256 / 256 / 256 % 256), u8 (n / 256 / 256 / 256 % 256), u8 (n / 256 / 256 % 256), u8 (n / 256 % 256), u8 (n % 256)] := by
  have e2 : n / 256 / 256 = n / 65536 := by rw [Int.ediv_ediv_of_nonneg (by omega)]; rfl
  have e3 : n / 65536 / 256 = n / 16777216 := by rw [Int.ediv_ediv_of_nonneg (by omega)]; rfl
  have e4 : n / 16777216 / 256 = n / 4294967296 := by rw [Int.ediv_ediv_of_nonneg (by omega)]; rfl
  have e5 : n / 4294967296 / 256 = n / 1099511627776 := by rw [Int.ediv_ediv_of_nonneg (by omega)]; rfl
  have e6 : n / 1099511627776 / 256 = n / 281474976710656 := by rw [Int.ediv_ediv_of_nonneg (by omega)]; rfl
  have e7 : n / 281474976710656 / 256 = n / 72057594037927936 := by rw [Int.ediv_ediv_of_nonneg (by omega)]; rfl
  rw [e2, e3, e4, e5, e6, e7]
  rfl

set_option maxRecDepth 100000 in
set_option maxHeartbeats 1000000 in
theorem number_any (n : Int) (w : World) :
    Calls Tryd.prog 50 #[.int .i64 n] w fun e w' => e = .returned (.string (bs (num8 n))) ∧ Below w.heap.size w w' := by
  have hmk : ∀ w, (Instr.makeSlice 82 (.int .i64 8) (.int .i64 8)).run Tryd.prog w = .ok (.slice (some ⟨w.heap.size, 0, none⟩) 8 8) (w.alloc (.cells #[.int .u8 0, .int .u8 0, .int .u8 0, .int .u8 0, .int .u8 0, .int .u8 0, .int .u8 0, .int .u8 0] 5)) := fun _ => by kernel_rfl
  have hcv := str8
  go_enter Tryd.func50, Tryd.ntmps50
  go_wp2
  go_rounds 9
  go_ret
  exact ⟨rfl, by go_grown⟩

set_option maxRecDepth 100000 in
set_option maxHeartbeats 1000000 in
theorem eight_any (n : Int) (w : World) :
    Calls Tryd.prog 53 #[.int .i64 n] w fun e w' => e = .returned (.string (bs (num8 n))) ∧ Below w.heap.size w w' := by
  have hcv := str8
  go_enter Tryd.func53, Tryd.ntmps53
  go_wp2
  go_rounds 9
  go_ret
  rw [num8_eight n]
  exact ⟨rfl, by go_grown⟩

def dx (x : Int) (c : UInt8) : Int := (69621 * x + c.toNat + 1) % 2147483647
def dy (y : Int) (c : UInt8) : Int := (45991 * y + c.toNat + 1) % 2147483629
def dfold (x y : Int) : List UInt8 → Int × Int
  | [] => (x, y)
  | c :: l => dfold (dx x c) (dy y c) l
theorem dfold_append (a b : List UInt8) : ∀ x y, dfold x y (a ++ b) = dfold (dfold x y a).1 (dfold x y a).2 b := by
  induction a with
  | nil => intro x y; rfl
  | cons c a ih => intro x y; exact ih _ _
theorem dx_bd (x : Int) (c : UInt8) : 0 ≤ dx x c ∧ dx x c ≤ 2147483646 := by unfold dx; omega
theorem dy_bd (x : Int) (c : UInt8) : 0 ≤ dy x c ∧ dy x c ≤ 2147483628 := by unfold dy; omega
theorem dfold_bd (l : List UInt8) : ∀ x y, 0 ≤ x → x ≤ 2147483646 → 0 ≤ y → y ≤ 2147483628 → 0 ≤ (dfold x y l).1 ∧ (dfold x y l).1 ≤ 2147483646 ∧ 0 ≤ (dfold x y l).2 ∧ (dfold x y l).2 ≤ 2147483628 := by
  induction l with
  | nil => intro x y h1 h2 h3 h4; exact ⟨h1, h2, h3, h4⟩
  | cons c l ih => intro x y _ _ _ _; have h := dx_bd x c; have h' := dy_bd y c; exact ih _ _ h.1 h.2 h'.1 h'.2
def dig (l : List UInt8) : List UInt8 := num8 ((dfold 11 17 l).1 * 4294967296 + (dfold 11 17 l).2)
theorem or_shift (x y : Int) (h0 : 0 ≤ x) (h1 : x ≤ 2147483646) (h2 : 0 ≤ y) (h3 : y < 4294967296) : bits .or .i64 (x * 4294967296) y = x * 4294967296 + y := by
  obtain ⟨a, rfl⟩ := Int.eq_ofNat_of_zero_le h0
  obtain ⟨b, rfl⟩ := Int.eq_ofNat_of_zero_le h2
  have ha : a < 2147483647 := by omega
  have hb : b < 4294967296 := by omega
  have e := i64_or_nat (a * 4294967296) b (by omega) (by omega)
  have e2 : a * 4294967296 ||| b = a * 4294967296 + b := by
    have := Nat.shiftLeft_add_eq_or_of_lt (i := 32) (b := b) (by omega) a
    rw [Nat.shiftLeft_eq, show (2 : Nat) ^ 32 = 4294967296 from rfl] at this
    exact this.symm
  rw [e2] at e
  rw [Int.natCast_add, Int.natCast_mul] at e
  exact e
def flat (l : List ByteArray) : List UInt8 := l.flatMap (fun s => s.data.toList)

set_option maxRecDepth 100000 in
set_option maxHeartbeats 1000000 in
theorem digof_any (A : Option Addr) (c : Nat) (parts : List ByteArray) (w : World) (hr : Rd w w.heap.size A (parts.map Value.string)) (hn : parts.length ≤ 9223372036854775807) (hs : ∀ p ∈ parts, p.size ≤ 9223372036854775807) :
    Calls Tryd.prog 49 #[.slice A parts.length c] w fun e w' => e = .returned (.string (bs (dig (flat parts)))) ∧ Below w.heap.size w w' := by
  have hcv := fun (w : World) (s : ByteArray) => run_bytes_of_string (P := Tryd.prog) w 9 82 5 s Tryd.underlying9 Tryd.underlying82 Tryd.underlying5
  have HR := Lib.hid hr
  clear hr
  go_enter Tryd.func49, Tryd.ntmps49
  go_wp2
  go_loopw [3, 4, 11] (fun x y i wr => ∃ (j : Nat) (x' y' : Int), j ≤ parts.length ∧ x = .int .i64 x' ∧ y = .int .i64 y' ∧ i = .int .i64 j ∧ 0 ≤ x' ∧ x' ≤ 2147483646 ∧ 0 ≤ y' ∧ y' ≤ 2147483628 ∧
    dfold 11 17 (flat parts) = dfold x' y' (flat (parts.drop j)) ∧ Below w.heap.size w wr) (fun _ _ i _ => parts.length - (intOf i).toNat)
  case atStart => exact ⟨0, 11, 17, by omega, rfl, rfl, rfl, by omega, by omega, by omega, by omega, rfl, Below.refl _ _⟩
  case round =>
    obtain ⟨j, x, y, hj, rfl, rfl, rfl, hx0, hx1, hy0, hy1, hD, hB⟩ := hrel
    have HD := Lib.hid hD
    clear hD
    by_cases hlt : j < parts.length
    · obtain ⟨b, off, rfl, hb, hc⟩ := (HR.out) (by intro h; simp at h; rw [h] at hlt; simp at hlt)
      have hc := (hB.cell (p := ⟨b, off + j, none⟩) hb).trans (hc j (.string parts[j]) (by simp [hlt]))
      have hp := hs parts[j] (List.getElem_mem hlt)
      have HL := Lib.hid (List.drop_eq_getElem_cons hlt)
      generalize parts[j] = p at *
      clear hs
      go_wp2
      have hbytes : ∀ j (hj : j < p.size), (wr.alloc (.cells (bytesRow p (grownCap wr p.size 0 5)) 5 ((bytesRow p (grownCap wr p.size 0 5)).size, (bytesRow p (grownCap wr p.size 0 5)).size + 1))).cell? ⟨wr.heap.size, j, none⟩ = some (.int .u8 (p.data[j].toNat : Int)) := fun j hj =>
        (World.cell?_alloc_mark wr _ _ _ j).trans (bytesRow_at p _ j hj)
      have HW : Below w.heap.size w (wr.alloc (.cells (bytesRow p (grownCap wr p.size 0 5)) 5 ((bytesRow p (grownCap wr p.size 0 5)).size, (bytesRow p (grownCap wr p.size 0 5)).size + 1))) := hB.alloc hB.size _
      go_loop [3, 4, 18] (fun x2 y2 i2 => ∃ (k : Nat) (x' y' : Int), k ≤ p.size ∧ x2 = .int .i64 x' ∧ y2 = .int .i64 y' ∧ i2 = .int .i64 k ∧ 0 ≤ x' ∧ x' ≤ 2147483646 ∧ 0 ≤ y' ∧ y' ≤ 2147483628 ∧
        dfold x y p.data.toList = dfold x' y' (p.data.toList.drop k)) (fun _ _ i2 => p.size - (intOf i2).toNat)
      case atStart => exact ⟨0, x, y, by omega, rfl, rfl, rfl, hx0, hx1, hy0, hy1, rfl⟩
      case round =>
        obtain ⟨k, x', y', hk, rfl, rfl, rfl, hx0', hx1', hy0', hy1', hD'⟩ := hrel
        have HD' := Lib.hid hD'
        clear hD'
        by_cases hkt : k < p.size
        · have hc' := hbytes k hkt
          have HL' := Lib.hid (List.drop_eq_getElem_cons (l := p.data.toList) (i := k) (by simpa using hkt))
          simp only [Array.getElem_toList] at HL'
          generalize p.data[k] = u at *
          have hu : u.toNat < 256 := u.toNat_lt
          clear hbytes
          have b1 := dx_bd x' u
          have b2 := dy_bd y' u
          go_wp2
          go_round
          case rel => exact ⟨k + 1, dx x' u, dy y' u, by omega, rfl, rfl, by go_num, b1.1, b1.2, b2.1, b2.2, by rw [HD'.out, HL'.out]; rfl⟩
          case measure => simp [intOf]; omega
        · go_wp2
          go_roundw
          case rel => exact ⟨j + 1, x', y', by omega, rfl, rfl, by go_num, hx0', hx1', hy0', hy1', by
            rw [HD.out, HL.out]
            show dfold x y (p.data.toList ++ flat (List.drop (j + 1) parts)) = _
            rw [dfold_append, HD'.out, List.drop_of_length_le (by simp; omega)]
            rfl, HW.drew⟩
          case measure => simp [intOf]; omega
    · have hor := or_shift x y hx0 hx1 hy0 (by omega)
      have HO := Lib.hid hor
      clear hor
      go_wp2_with (go_at_call 50; refine (number_any _ _).mono ?_; rintro e w' ⟨rfl, hb⟩)
      go_ret
      refine ⟨?_, hB.trans (hb.mono hB.size)⟩
      show Ending.returned (.string (bs (num8 _))) = _
      unfold dig
      rw [HD.out, List.drop_of_length_le (by omega), HO.out]
      rfl

theorem num8_len (n : Int) : (num8 n).length = 8 := rfl
theorem dig_len (l : List UInt8) : (dig l).length = 8 := rfl
theorem num8_hi (x y : Int) (h2 : 0 ≤ y) (h3 : y ≤ 2147483628) : (num8 x).drop 4 ++ (num8 y).drop 4 = num8 (x * 4294967296 + y) := by
  simp only [num8, List.drop_succ_cons, List.drop_zero, List.cons_append, List.nil_append, List.cons.injEq, and_true]
  refine ⟨?_, ?_, ?_, ?_, ?_, ?_, ?_, ?_⟩ <;> (congr 1; omega)

set_option maxRecDepth 100000 in
set_option maxHeartbeats 1000000 in
theorem rof_any (s : ByteArray) (w : World) (hs : s.size ≤ 9223372036854775807) :
    Calls Tryd.prog 52 #[.string s] w fun e w' => e = .returned (.string (bs (dig s.data.toList))) ∧ Below w.heap.size w w' := by
  go_enter Tryd.func52, Tryd.ntmps52
  go_wp2
  go_loop [3, 4, 5] (fun x2 y2 i2 => ∃ (k : Nat) (x' y' : Int), k ≤ s.size ∧ x2 = .int .i64 x' ∧ y2 = .int .i64 y' ∧ i2 = .int .i64 k ∧ 0 ≤ x' ∧ x' ≤ 2147483646 ∧ 0 ≤ y' ∧ y' ≤ 2147483628 ∧
    dfold 11 17 s.data.toList = dfold x' y' (s.data.toList.drop k)) (fun _ _ i2 => s.size - (intOf i2).toNat)
  case atStart => exact ⟨0, 11, 17, by omega, rfl, rfl, rfl, by omega, by omega, by omega, by omega, rfl⟩
  case round =>
    obtain ⟨k, x', y', hk, rfl, rfl, rfl, hx0', hx1', hy0', hy1', hD'⟩ := hrel
    have HD' := Lib.hid hD'
    clear hD'
    by_cases hkt : k < s.size
    · have HL' := Lib.hid (List.drop_eq_getElem_cons (l := s.data.toList) (i := k) (by simpa using hkt))
      simp only [Array.getElem_toList] at HL'
      have b1 := fun u => dx_bd x' u
      have b2 := fun u => dy_bd y' u
      have hu : s[k].toNat < 256 := s[k].toNat_lt
      go_wp2
      go_round
      case rel => exact ⟨k + 1, dx x' s[k], dy y' s[k], by omega, rfl, rfl, by go_num, (b1 _).1, (b1 _).2, (b2 _).1, (b2 _).2, by rw [HD'.out, HL'.out]; rfl⟩
      case measure => simp [intOf]; omega
    · have HE := Lib.hid (num8_hi x' y' hy0' hy1')
      go_wp2
      have e1 : (bs (num8 x')).size = 8 := rfl
      have e2 : (bs (num8 y')).size = 8 := rfl
      refine wp_region_ext w.heap.size (by kernel_rfl) (by kernel_rfl) ?_
      repeat (go_big_quiet_step ((go_at_call 53; exact ext_of (Nat.le_refl _) (eight_any _ _))))
      refine wpQuiet_nil ?_
      rintro _ ⟨x, rfl⟩
      go_wp2
      go_ret
      refine ⟨?_, x.ok⟩
      show Ending.returned (.string ((bs (num8 x')).extract 4 8 ++ (bs (num8 y')).extract 4 8)) = _
      unfold dig
      rw [HD'.out, List.drop_of_length_le (by simp; omega), bs_extract, bs_extract, bs_append]
      exact ret_val (congrArg (fun l => Value.string (bs l)) HE.out)

def markD (key msg : List UInt8) : List UInt8 := dig (2 :: (num8 key.length ++ key ++ msg ++ key))
theorem markD_len (a b : List UInt8) : (markD a b).length = 8 := rfl

theorem flat5 (key msg : ByteArray) : flat [⟨#[2]⟩, bs (num8 key.size), key, msg, key] = 2 :: (num8 key.data.toList.length ++ key.data.toList ++ msg.data.toList ++ key.data.toList) := by
  unfold flat
  simp only [List.flatMap_cons, List.flatMap_nil, List.append_nil, List.append_assoc]
  rfl

set_option maxHeartbeats 1000000 in
theorem mark_any (key msg : ByteArray) (w : World) (hk : key.size ≤ 1000000) (hm : msg.size ≤ 1000000) :
    Calls Tryd.prog 39 #[.string key, .string msg] w fun e w' => e = .returned (.string (bs (markD key.data.toList msg.data.toList))) ∧ Below w.heap.size w w' := by
  go_enter Tryd.func39, Tryd.ntmps39
  go_wp2_with (go_at_call 50; refine (number_any _ _).mono ?_; rintro e w1 ⟨rfl, hb⟩)
  have hr := Rd.new w1 9 ([⟨#[2]⟩, bs (num8 key.size), key, msg, key].map Value.string)
  refine (digof_any _ _ [⟨#[2]⟩, bs (num8 key.size), key, msg, key] _ hr (by simp) ?_).mono ?_
  · intro p hp
    simp only [List.mem_cons, List.not_mem_nil, or_false] at hp
    rcases hp with rfl | rfl | rfl | rfl | rfl
    · decide
    · show 8 ≤ _; omega
    all_goals omega
  rintro e w2 ⟨rfl, hb2⟩
  go_wp2
  go_ret
  refine ⟨?_, hb.trans (((Below.refl _ _).alloc (Nat.le_refl _) _).trans (hb2.mono (by simp)) |>.mono hb.size)⟩
  exact ret_val (congrArg (fun l => Value.string (bs (dig l))) (flat5 key msg))

theorem data_append (a b : ByteArray) : (a ++ b).data.toList = a.data.toList ++ b.data.toList := by simp

set_option maxHeartbeats 1000000 in
theorem rmark_any (key msg : ByteArray) (w : World) (hk : key.size ≤ 1000000) (hm : msg.size ≤ 1000000) :
    Calls Tryd.prog 41 #[.string key, .string msg] w fun e w' => e = .returned (.string (bs (markD key.data.toList msg.data.toList))) ∧ Below w.heap.size w w' := by
  have e8 : ∀ n, (bs (num8 n)).size = 8 := fun _ => rfl
  go_enter Tryd.func41, Tryd.ntmps41
  go_wp2_with (go_at_call 53; refine (eight_any _ _).mono ?_; rintro e w1 ⟨rfl, hb⟩)
  refine (rof_any _ _ ?_).mono ?_
  · simp only [ByteArray.size_append, e8]
    have : ByteArray.size ⟨#[2]⟩ = 1 := rfl
    omega
  rintro e w2 ⟨rfl, hb2⟩
  go_wp2
  go_ret
  refine ⟨?_, hb.trans (hb2.mono hb.size)⟩
  refine ret_val (congrArg (fun l => Value.string (bs (dig l))) ?_)
  simp only [List.append_assoc]
  rfl

def chkD (key msg mark : ByteArray) : Bool := !decide (key.size = 0) && (mark.toList == markD key.data.toList msg.data.toList)

set_option maxHeartbeats 1000000 in
theorem dcheck_any (key msg mark : ByteArray) (w : World) (hk : key.size ≤ 1000000) (hm : msg.size ≤ 1000000) :
    Calls Tryd.prog 24 #[.string key, .string msg, .string mark] w fun e w' => e = .returned (.bool (chkD key msg mark)) ∧ Below w.heap.size w w' := by
  have h0 := isEmpty_size key
  have H0 := Lib.hid h0
  clear h0
  rcases he : key.toList.isEmpty with _ | _
  all_goals
    go_enter Tryd.func24, Tryd.ntmps24
    go_wp2_with (go_at_call 39; refine (mark_any _ _ _ hk hm).mono ?_; rintro e w1 ⟨rfl, hb⟩)
    go_ret
    have H := H0.out
    rw [he] at H
    refine ⟨?_, by first | exact hb | exact Below.refl _ _⟩
    unfold chkD
    rw [← H]
    simp [bs]

set_option maxHeartbeats 1000000 in
theorem rcheck2_any (key msg mark : ByteArray) (w : World) (hk : key.size ≤ 1000000) (hm : msg.size ≤ 1000000) :
    Calls Tryd.prog 43 #[.string key, .string msg, .string mark] w fun e w' => e = .returned (.bool (chkD key msg mark)) ∧ Below w.heap.size w w' := by
  have h0 := isEmpty_size key
  have H0 := Lib.hid h0
  clear h0
  rcases he : key.toList.isEmpty with _ | _
  all_goals
    go_enter Tryd.func43, Tryd.ntmps43
    go_wp2_with (go_at_call 41; refine (rmark_any _ _ _ hk hm).mono ?_; rintro e w1 ⟨rfl, hb⟩)
    go_ret
    have H := H0.out
    rw [he] at H
    refine ⟨?_, by first | exact hb | exact Below.refl _ _⟩
    unfold chkD
    rw [← H]
    simp [bs]

end Go.Proofs.YtikinldimecgaaaDoor
