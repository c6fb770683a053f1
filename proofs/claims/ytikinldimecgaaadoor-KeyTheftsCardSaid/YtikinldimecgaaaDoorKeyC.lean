/- The walks of the package key and of its reference: numerals, messages, finding a key. -/
import Derived.Test.YtikinldimecgaaaDoorKeyB
import Derived.Test.YtikinldimecgaaaDoorShelf
import Derived.Lib.AppendIntMem
namespace Go.Proofs.YtikinldimecgaaaDoor
open Go.RowKit

def tabName : String := Rows.keyRingsRow.named.headD ""
def Tab (w : World) : Prop := Lib.TabBelow Tryd.prog w.heap.size w tabName .u64 Lib.pow10Tab
theorem Tab.below {w w' : World} (h : Tab w) (hb : Below w.heap.size w w') : Tab w' := fun w2 h2 => h w2 (hb.trans (h2.mono hb.size))

theorem below_grow (w : World) (k : Nat) (os : Array Obj) : Below w.heap.size w (Go.Sort.grow (w.drewN k) os) :=
  ⟨rfl, rfl, rfl, by simp [Go.Sort.grow, World.drewN], fun i hi => by
    show (w.heap ++ os)[i]? = _
    rw [Array.getElem?_append_left hi]⟩

theorem itoa_any (n : Int) (w : World) (h0 : -9223372036854775808 ≤ n) (h1 : n ≤ 9223372036854775807) (hT : Tab w) :
    Calls Tryd.prog 51 #[.int .i64 n] w fun e w' => e = .returned (.string (bs (Lib.itoa n))) ∧ Below w.heap.size w w' :=
  (Tryd.strconv_Itoa n h0 h1 w hT.here).mono fun _ _ ⟨he, k, os, hw⟩ => ⟨he, by rw [hw]; exact below_grow w k os⟩

theorem str1 (w : World) (t : TypeId) (c0 : Int) :
    (convert 82 9 (.slice (some ⟨w.heap.size, 0, none⟩) 1 1)).run Tryd.prog (w.alloc (.cells #[.int .u8 c0] t)) = .ok (.string (bs [u8 c0])) (w.alloc (.cells #[.int .u8 c0] t)) :=
  run_str_new (P := Tryd.prog) w 82 9 5 t 1 [c0] Tryd.underlying82 Tryd.underlying5 Tryd.underlying9

theorem dec_two (u : Nat) (h : ¬ u < 10) : Lib.decDigits u = Lib.decDigits (u / 10) ++ Lib.decDigits (u % 10) := by
  rw [Lib.decDigits, dif_neg h, Lib.decDigits_one (show u % 10 < 10 by omega)]

theorem itoa_digit (n : Int) (h0 : 0 ≤ n) (h1 : n < 10) : Lib.itoa n = [u8 (48 + n)] := by
  obtain ⟨u, rfl⟩ := Int.eq_ofNat_of_zero_le h0
  rw [Lib.itoa_nonneg, Lib.decDigits_one (by omega)]
  unfold u8
  congr 2
theorem itoa_pos (n : Int) (h0 : 10 ≤ n) : Lib.itoa n = Lib.itoa (n / 10) ++ Lib.itoa (n % 10) := by
  obtain ⟨u, rfl⟩ := Int.eq_ofNat_of_zero_le (show 0 ≤ n by omega)
  rw [show ((u : Int) / 10) = ((u / 10 : Nat) : Int) from by omega, show ((u : Int) % 10) = ((u % 10 : Nat) : Int) from by omega, Lib.itoa_nonneg, Lib.itoa_nonneg, Lib.itoa_nonneg, dec_two u (by omega)]
theorem itoa_neg1 (n : Int) (h0 : n < 0) (h1 : -10 < n) : Lib.itoa n = 45 :: Lib.itoa (-n) := by
  obtain ⟨u, hu⟩ := Int.eq_ofNat_of_zero_le (show 0 ≤ -n by omega)
  rw [show n = -(u : Int) from by omega, Lib.itoa_neg u (by omega), show (- -(u : Int)) = (u : Int) from by omega, Lib.itoa_nonneg]
theorem itoa_neg2 (n : Int) (h0 : n ≤ -10) : Lib.itoa n = Lib.itoa (-((-n) / 10)) ++ Lib.itoa ((-n) % 10) := by
  obtain ⟨u, hu⟩ := Int.eq_ofNat_of_zero_le (show 0 ≤ -n by omega)
  rw [show n = -(u : Int) from by omega, show (- -(u : Int)) = (u : Int) from by omega, Lib.itoa_neg u (by omega), show (-((u : Int) / 10)) = -((u / 10 : Nat) : Int) from by omega, Lib.itoa_neg (u / 10) (by omega),
    show ((u : Int) % 10) = ((u % 10 : Nat) : Int) from by omega, Lib.itoa_nonneg, dec_two u (by omega)]
  rfl

theorem itoa_len_dec (k : Nat) : ∀ u, u < 10 ^ k → (Lib.decDigits u).length ≤ k + 1 := by
  induction k with
  | zero => intro u hu; rw [Lib.decDigits_one (by omega)]; simp
  | succ k ih =>
    intro u hu
    by_cases h : u < 10
    · rw [Lib.decDigits_one h]; simp
    · rw [dec_two u h, List.length_append, Lib.decDigits_one (show u % 10 < 10 by omega)]
      have := ih (u / 10) (by rw [Nat.pow_succ] at hu; omega)
      simp
      omega
theorem itoa_len (n : Int) (h0 : -9223372036854775808 ≤ n) (h1 : n ≤ 9223372036854775807) : (Lib.itoa n).length ≤ 30 := by
  unfold Lib.itoa
  split
  · have := itoa_len_dec 20 n.natAbs (by omega)
    simp
    omega
  · have := itoa_len_dec 20 n.toNat (by omega)
    omega

theorem tdiv_neg (n : Int) (h : n < 0) : n.tdiv 10 = -((-n) / 10) := by
  rw [show n = -(-n) from by omega, Int.neg_tdiv, Int.tdiv_eq_ediv_of_nonneg (by omega)]
  simp
theorem tmod_neg (n : Int) (h : n < 0) : n.tmod 10 = -((-n) % 10) := by
  rw [show n = -(-n) from by omega, Int.neg_tmod, Int.tmod_eq_emod_of_nonneg (by omega)]
  simp

set_option maxHeartbeats 1000000 in
theorem dec_digit (n : Int) (w : World) (h0 : 0 ≤ n) (h1 : n < 10) :
    Calls Tryd.prog 44 #[.int .i64 n] w fun e w' => e = .returned (.string (bs (Lib.itoa n))) ∧ Below w.heap.size w w' := by
  have hcv := str1
  have HI := Lib.hid (itoa_digit n h0 h1)
  go_enter Tryd.func44, Tryd.ntmps44
  go_wp2_with fail
  go_ret
  rw [HI.out]
  exact ⟨rfl, by go_grown⟩

set_option maxHeartbeats 1000000 in
theorem decimal_any (k : Nat) : ∀ (n : Int) (w : World), n.natAbs ≤ k → -9223372036854775808 ≤ n → n ≤ 9223372036854775807 →
    Calls Tryd.prog 44 #[.int .i64 n] w fun e w' => e = .returned (.string (bs (Lib.itoa n))) ∧ Below w.heap.size w w' := by
  induction k with
  | zero =>
    intro n w hk _ _
    exact dec_digit n w (by omega) (by omega)
  | succ k ih =>
    intro n w hk hlo hhi
    have IH := Lib.hid ih
    clear ih
    by_cases h0 : 0 ≤ n
    · by_cases h1 : n < 10
      · exact dec_digit n w h0 h1
      · have HI := Lib.hid (itoa_pos n (by omega))
        have l1 := itoa_len (n / 10) (by omega) (by omega)
        have l2 := itoa_len (n % 10) (by omega) (by omega)
        rw [← bs_size] at l1 l2
        go_enter Tryd.func44, Tryd.ntmps44
        go_wp2_with fail
        refine (IH.out _ _ (by omega) (by omega) (by omega)).mono ?_
        rintro e w1 ⟨rfl, hb1⟩
        go_wp2_with fail
        refine (IH.out _ _ (by omega) (by omega) (by omega)).mono ?_
        rintro e w2 ⟨rfl, hb2⟩
        go_wp2_with fail
        go_ret
        rw [HI.out, ← bs_append]
        exact ⟨rfl, ext_below hb1 hb2⟩
    · have e1 := tdiv_neg n (by omega)
      have e2 := tmod_neg n (by omega)
      by_cases h1 : -10 < n
      · have HI := Lib.hid (itoa_neg1 n (by omega) h1)
        have e3 : -((-n) / 10) = 0 := by omega
        rw [e3] at e1
        have e4 : (-n) % 10 = -n := by omega
        rw [e4] at e2
        have l1 := itoa_len (-n) (by omega) (by omega)
        rw [← bs_size] at l1
        go_enter Tryd.func44, Tryd.ntmps44
        go_wp2_with fail
        refine (dec_digit _ _ (by omega) (by omega)).mono ?_
        rintro e w1 ⟨rfl, hb1⟩
        go_wp2_with fail
        go_ret
        rw [HI.out]
        exact ⟨rfl, hb1⟩
      · have HI := Lib.hid (itoa_neg2 n (by omega))
        have hd1 : (-n) / 10 ≠ 0 := by omega
        have hd2 : (-((-n) / 10) == 0) = false := by simp; omega
        clear hd1
        have l1 := itoa_len (-((-n) / 10)) (by omega) (by omega)
        have l2 := itoa_len ((-n) % 10) (by omega) (by omega)
        rw [← bs_size] at l1 l2
        go_enter Tryd.func44, Tryd.ntmps44
        go_wp2_with fail
        refine (IH.out _ _ (by omega) (by omega) (by omega)).mono ?_
        rintro e w1 ⟨rfl, hb1⟩
        go_wp2_with fail
        refine (IH.out _ _ (by omega) (by omega) (by omega)).mono ?_
        rintro e w2 ⟨rfl, hb2⟩
        go_wp2_with fail
        go_ret
        rw [HI.out, ← bs_append]
        exact ⟨rfl, ext_below hb1 hb2⟩

theorem dec_any (n : Int) (w : World) (h0 : -9223372036854775808 ≤ n) (h1 : n ≤ 9223372036854775807) :
    Calls Tryd.prog 44 #[.int .i64 n] w fun e w' => e = .returned (.string (bs (Lib.itoa n))) ∧ Below w.heap.size w w' := decimal_any n.natAbs n w (Nat.le_refl _) h0 h1

def msgD (school id : Int) (text : ByteArray) : List UInt8 := Lib.itoa school ++ ([32] ++ (Lib.itoa id ++ ([32] ++ text.data.toList)))

theorem msg_eq (school id : Int) (text : ByteArray) : bs (Lib.itoa school) ++ ⟨#[32]⟩ ++ bs (Lib.itoa id) ++ ⟨#[32]⟩ ++ text = bs (msgD school id text) := by
  have e : (⟨#[32]⟩ : ByteArray) = bs [32] := rfl
  rw [e, ← bs_data text, bs_append, bs_append, bs_append, bs_append]
  unfold msgD
  simp only [List.append_assoc]
  rfl
theorem msg_len (school id : Int) (text : ByteArray) (h0 : -9223372036854775808 ≤ school) (h1 : school ≤ 9223372036854775807) (h2 : -9223372036854775808 ≤ id) (h3 : id ≤ 9223372036854775807) : (bs (msgD school id text)).size ≤ 62 + text.size := by
  have l1 := itoa_len school h0 h1
  have l2 := itoa_len id h2 h3
  rw [bs_size]
  unfold msgD
  simp only [List.length_append, List.length_cons, List.length_nil]
  have : text.data.toList.length = text.size := rfl
  omega

set_option maxHeartbeats 1000000 in
theorem message_any (pb po : Nat) (school id : Int) (text : ByteArray) (w : World) (hc : w.cell? ⟨pb, po, none⟩ = some (.int .i64 school)) (_hpb : pb < w.heap.size)
    (h0 : -9223372036854775808 ≤ school) (h1 : school ≤ 9223372036854775807) (h2 : -9223372036854775808 ≤ id) (h3 : id ≤ 9223372036854775807) (ht : text.size ≤ 900000) (hT : Tab w) :
    Calls Tryd.prog 40 #[.pointer (some ⟨pb, po, none⟩), .int .i64 id, .string text] w fun e w' => e = .returned (.string (bs (msgD school id text))) ∧ Below w.heap.size w w' := by
  have l1 := itoa_len school h0 h1
  have l2 := itoa_len id h2 h3
  rw [← bs_size] at l1 l2
  have HM := Lib.hid (msg_eq school id text)
  go_enter Tryd.func40, Tryd.ntmps40
  go_wp2_with fail
  refine (itoa_any _ _ h0 h1 hT).mono ?_
  rintro e w1 ⟨rfl, hb1⟩
  go_wp2_with fail
  refine (itoa_any _ _ h2 h3 (hT.below hb1)).mono ?_
  rintro e w2 ⟨rfl, hb2⟩
  go_wp2_with fail
  go_ret
  rw [← HM.out]
  exact ⟨rfl, ext_below hb1 hb2⟩

set_option maxHeartbeats 1000000 in
theorem whole_any (school id : Int) (v : Value) (text : ByteArray) (w : World)
    (h0 : -9223372036854775808 ≤ school) (h1 : school ≤ 9223372036854775807) (h2 : -9223372036854775808 ≤ id) (h3 : id ≤ 9223372036854775807) (ht : text.size ≤ 900000) :
    Calls Tryd.prog 42 #[.agg #[.int .i64 school, v], .int .i64 id, .string text] w fun e w' => e = .returned (.string (bs (msgD school id text))) ∧ Below w.heap.size w w' := by
  have l1 := itoa_len school h0 h1
  have l2 := itoa_len id h2 h3
  rw [← bs_size] at l1 l2
  have HM := Lib.hid (msg_eq school id text)
  go_enter Tryd.func42, Tryd.ntmps42
  go_wp2_with fail
  refine (dec_any _ _ h0 h1).mono ?_
  rintro e w1 ⟨rfl, hb1⟩
  go_wp2_with fail
  refine (dec_any _ _ h2 h3).mono ?_
  rintro e w2 ⟨rfl, hb2⟩
  go_wp2_with fail
  go_ret
  rw [← HM.out]
  exact ⟨rfl, ext_below (ext_below ((Below.refl _ _).alloc (Nat.le_refl _) _) hb1) hb2⟩

/- finding a key -/
def idxFrom (id : Int) : List Ky → Nat → Int
  | [], _ => -1
  | k :: ks, j => if k.id = id then (j : Int) else idxFrom id ks (j + 1)

set_option maxHeartbeats 1000000 in
theorem find1_any (k : Ky) (id : Int) (ib : Nat) (w : World) (hc : w.cell? ⟨ib, 0, none⟩ = some (.int .i64 id)) (hib : ib < w.heap.size) :
    Calls Tryd.prog 47 #[.agg #[.int .i64 k.id, .string k.sec, .int .i64 k.fr, .int .i64 k.st], .pointer (some ⟨ib, 0, none⟩)] w fun e w' => e = .returned (.bool (k.id == id)) ∧ Below w.heap.size w w' := by
  go_enter Tryd.func47, Tryd.ntmps47
  go_wp2
  go_ret
  exact ⟨rfl, by go_grown⟩

set_option maxHeartbeats 1000000 in
theorem index_any (A : Option Addr) (c : Nat) (ks : List Ky) (id : Int) (ib : Nat) (w : World) (hk : KSl w A c ks) (hn : ks.length ≤ 100000) (hc : w.cell? ⟨ib, 0, none⟩ = some (.int .i64 id)) (hib : ib < w.heap.size) :
    Calls Tryd.prog 46 #[.slice A ks.length c, .func (.func 47) #[] #[.pointer (some ⟨ib, 0, none⟩)]] w fun e w' => e = .returned (.int .i64 (idxFrom id ks 0)) ∧ Below w.heap.size w w' := by
  have HK := Lib.hid hk
  clear hk
  go_enter Tryd.func46, Tryd.ntmps46
  go_wp2
  go_loopw [8] (fun i wr => ∃ (j : Nat), j ≤ ks.length ∧ i = .int .i64 j ∧ idxFrom id ks 0 = idxFrom id (ks.drop j) j ∧ Below w.heap.size w wr) (fun i _ => ks.length - (intOf i).toNat)
  case atStart => exact ⟨0, by omega, rfl, rfl, Below.refl _ _⟩
  case round =>
    obtain ⟨j, hj, rfl, hR, hB⟩ := hrel
    have HR := Lib.hid hR
    clear hR
    by_cases hlt : j < ks.length
    · obtain ⟨b, off, rfl, hb, k0, k1, k2, k3⟩ := HK.out.at_ hlt
      have HL := Lib.hid (List.drop_eq_getElem_cons hlt)
      generalize hkj : ks[j] = k at *
      clear hkj
      obtain ⟨hc', hf⟩ := bcell hB
      have hsz := hB.size
      have hq := (hc' ib 0 hib).trans hc
      by_cases hid : k.id = id
      · have hid' : (k.id == id) = true := by simp [hid]
        have HI := Lib.hid hid
        clear hid
        go_wp2_with (go_at_call 47; refine (find1_any k id ib _ hq (by omega)).mono ?_; rintro e w1 ⟨rfl, hb1⟩)
        go_ret
        exact ⟨ret_int (by rw [HR.out, HL.out, idxFrom, if_pos HI.out]), ext_below hB hb1⟩
      · have hid' : (k.id == id) = false := by simp [hid]
        have HI := Lib.hid hid
        clear hid
        go_wp2_with (go_at_call 47; refine (find1_any k id ib _ hq (by omega)).mono ?_; rintro e w1 ⟨rfl, hb1⟩)
        go_roundw
        case rel => exact ⟨j + 1, by omega, by go_num, by rw [HR.out, HL.out, idxFrom, if_neg HI.out], ext_below hB hb1⟩
        case measure => simp [intOf]; omega
    · go_wp2
      go_ret
      exact ⟨ret_int (by rw [HR.out, List.drop_of_length_le (by omega)]; rfl), hB⟩

end Go.Proofs.YtikinldimecgaaaDoor
