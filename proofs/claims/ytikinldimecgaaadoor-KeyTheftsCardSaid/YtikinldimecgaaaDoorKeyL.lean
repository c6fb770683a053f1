/- The walks of Valid of the package key and of its reference, and of the reference's Sign. -/
import Derived.Test.YtikinldimecgaaaDoorKeyK
namespace Go.Proofs.YtikinldimecgaaaDoor
open Go.RowKit

theorem dcheck_is (key msg mark : ByteArray) (w : World) (hk : key.size ≤ 1000000) (hm : msg.size ≤ 1000000) {b : Bool} (hb : chkD key msg mark = b) :
    Calls Tryd.prog 24 #[.string key, .string msg, .string mark] w fun e w' => e = .returned (.bool b) ∧ Below w.heap.size w w' := by
  subst hb; exact dcheck_any key msg mark w hk hm
theorem rcheck2_is (key msg mark : ByteArray) (w : World) (hk : key.size ≤ 1000000) (hm : msg.size ≤ 1000000) {b : Bool} (hb : chkD key msg mark = b) :
    Calls Tryd.prog 43 #[.string key, .string msg, .string mark] w fun e w' => e = .returned (.bool b) ∧ Below w.heap.size w w' := by
  subst hb; exact rcheck2_any key msg mark w hk hm
theorem validK_day {k : Ky} {m : List UInt8} {mark : ByteArray} {day seen : Int} (h : day < k.fr) : validK k m mark day seen = 23 := by unfold validK; rw [if_pos h]
theorem validK_mark {k : Ky} {m : List UInt8} {mark : ByteArray} {day seen : Int} (h : ¬ day < k.fr) (h2 : chkD k.sec (bs m) mark = false) : validK k m mark day seen = 11 := by unfold validK; rw [if_neg h, if_pos h2]
theorem validK_seen {k : Ky} {m : List UInt8} {mark : ByteArray} {day seen : Int} (h : ¬ day < k.fr) (h2 : chkD k.sec (bs m) mark = true) (h3 : k.st ≠ 0 ∧ k.st ≤ seen) : validK k m mark day seen = 11 := by unfold validK; rw [if_neg h, if_neg (by simp [h2]), if_pos h3]
theorem validK_ok {k : Ky} {m : List UInt8} {mark : ByteArray} {day seen : Int} (h : ¬ day < k.fr) (h2 : chkD k.sec (bs m) mark = true) (h3 : ¬ (k.st ≠ 0 ∧ k.st ≤ seen)) : validK k m mark day seen = 0 := by unfold validK; rw [if_neg h, if_neg (by simp [h2]), if_neg h3]

set_option maxRecDepth 20000 in
set_option maxHeartbeats 2000000 in
theorem rsign_any (A : Option Addr) (c : Nat) (school : Int) (ks : List Ky) (id : Int) (text : ByteArray) (w : World) (hk : KSl w A c ks) (hn : ks.length ≤ 1000) (hs : ∀ k ∈ ks, k.sec.size ≤ 100000)
    (hsc : Rng school) (hid : Rng id) (ht : text.size ≤ 100000) :
    Calls Tryd.prog 21 #[.agg #[.int .i64 school, .slice A ks.length c], .int .i64 id, .string text] w fun e w' =>
      e = .returned (.tuple #[.string (bs (signM school ks id text)), .int .i64 (signE ks id)]) ∧ Below w.heap.size w w' := by
  have HK := Lib.hid hk
  clear hk
  rcases idxFrom_lt id ks 0 with hi | ⟨i, k, hi, hki, -⟩
  · have HI := Lib.hid hi
    have H1 : Hid (signE ks id = 5 ∧ signM school ks id text = []) := Lib.hid (by unfold signE signM; rw [if_pos hi, if_pos hi]; exact ⟨rfl, rfl⟩)
    clear hi
    go_enter Tryd.func21, Tryd.ntmps21
    go_wp2_with fail
    refine (rfind_any A c school ks id _ (HK.out.below (by go_grown) (Nat.le_refl _) |>.more (by go_size)) (by omega)).mono ?_
    rintro e w1 ⟨rfl, hb1⟩
    have HB1 := ext_below (w0 := w) (by go_grown) hb1
    rw [HI.out]
    go_wp2_with fail
    rw [H1.out.1, H1.out.2]
    go_ret2
    exact ⟨rfl, HB1⟩
  · rw [Nat.zero_add] at hi
    obtain ⟨b, off, rfl, hb, k0, k1, k2, k3⟩ := HK.out.sec hki
    have hil : i < ks.length := (List.getElem?_eq_some_iff.1 hki).1
    have hsec := hs k (List.mem_of_getElem? hki)
    have H1 : Hid (signE ks id = 0 ∧ signM school ks id text = markD k.sec.data.toList (msgD school id text)) := Lib.hid (by
      unfold signE signM; rw [if_neg (by omega), if_neg (by omega), kyAt_eq hi hki]; exact ⟨rfl, rfl⟩)
    have HI := Lib.hid hi
    have HKI := Lib.hid hki
    have hml := msg_len school id text hsc.1 hsc.2 hid.1 hid.2
    clear hi hki hs
    go_enter Tryd.func21, Tryd.ntmps21
    go_wp2_with fail
    refine (rfind_any _ c school ks id _ (HK.out.below (by go_grown) (Nat.le_refl _) |>.more (by go_size)) (by omega)).mono ?_
    rintro e w1 ⟨rfl, hb1⟩
    have HB1 := ext_below (w0 := w) (by go_grown) hb1
    rw [HI.out]
    have c0 := (HB1.cell (p := ⟨b, off + i * 4 + 1, none⟩) hb).trans k1
    have hob : Blk w1 w.heap.size 34 #[.int .i64 school, .slice (some ⟨b, off, none⟩) ks.length c] := (Blk.new w _ _).below hb1 (by simp)
    obtain ⟨o0, o1, o2, o3⟩ := hob.f2
    have hbs : b < w1.heap.size := Nat.lt_of_lt_of_le hb HB1.size
    clear hob hb1 k0 k1 k2 k3
    go_wp2_with fail
    have hx : ∀ (x : Ext w1.heap.size w1) (bb oo : Nat), bb < w1.heap.size → x.val.cell? ⟨bb, oo, none⟩ = w1.cell? ⟨bb, oo, none⟩ := fun x bb oo h => x.ok.cell (p := ⟨bb, oo, none⟩) h
    refine wp_region_ext w1.heap.size (by kernel_rfl) (by kernel_rfl) ?_
    repeat (go_big_quiet_step ((first
      | (go_at_call 42; exact ext_of (Nat.le_refl _) (whole_any _ _ _ text _ hsc.1 hsc.2 hid.1 hid.2 (by omega)))
      | (go_at_call 41; exact ext_of (Nat.le_refl _) (rmark_any _ _ _ (by omega) (by omega))))))
    refine wpQuiet_nil ?_
    rintro _ ⟨x, rfl⟩
    go_wp2_with fail
    rw [H1.out.1, H1.out.2]
    go_ret2
    exact ⟨rfl, ext_below HB1 x.ok⟩

set_option maxRecDepth 20000 in
set_option maxHeartbeats 4000000 in
theorem valid_any (A : Option Addr) (c : Nat) (school : Int) (ks : List Ky) (id : Int) (text mark : ByteArray) (day seen : Int) (w : World) (hk : KSl w A c ks) (hn : ks.length ≤ 1000) (hs : ∀ k ∈ ks, k.sec.size ≤ 100000)
    (hsc : Rng school) (hid : Rng id) (ht : text.size ≤ 100000) (hT : Tab w) :
    Calls Tryd.prog 22 #[.agg #[.int .i64 school, .slice A ks.length c], .int .i64 id, .string text, .string mark, .int .i64 day, .int .i64 seen] w fun e w' =>
      e = .returned (.int .i64 (validE school ks id text mark day seen)) ∧ Below w.heap.size w w' := by
  have HK := Lib.hid hk
  clear hk
  rcases idxFrom_lt id ks 0 with hi | ⟨i, k, hi, hki, -⟩
  · have HI := Lib.hid hi
    have H1 : Hid (validE school ks id text mark day seen = 5) := Lib.hid (by unfold validE; rw [if_pos hi])
    clear hi
    go_enter Tryd.func22, Tryd.ntmps22
    go_wp2_with fail
    refine (find_none _ 0 c A ks id _ (by go_cell) (HK.out.below (by go_grown) (Nat.le_refl _) |>.more (by go_size)) (by go_size) (by omega) HI.out).mono ?_
    rintro e w1 ⟨rfl, hb1⟩
    have HB1 := ext_below (w0 := w) (by go_grown) hb1
    go_wp2_with fail
    rw [H1.out]
    go_ret
    exact ⟨rfl, HB1⟩
  · rw [Nat.zero_add] at hi
    obtain ⟨b, off, rfl, hb, k0, k1, k2, k3⟩ := HK.out.sec hki
    have hil : i < ks.length := (List.getElem?_eq_some_iff.1 hki).1
    have hsec := hs k (List.mem_of_getElem? hki)
    have H1 : Hid (validE school ks id text mark day seen = validK k (msgD school id text) mark day seen) := Lib.hid (by
      unfold validE; rw [if_neg (by omega), kyAt_eq hi hki])
    have HI := Lib.hid hi
    have HKI := Lib.hid hki
    have hml := msg_len school id text hsc.1 hsc.2 hid.1 hid.2
    clear hi hki hs
    go_enter Tryd.func22, Tryd.ntmps22
    go_wp2_with fail
    refine (find_some _ 0 c b off i ks id _ (by go_cell) (HK.out.below (by go_grown) (Nat.le_refl _) |>.more (by go_size)) (by go_size) (by omega) HI.out hil).mono ?_
    rintro e w1 ⟨rfl, hb1⟩
    have HB1 := ext_below (w0 := w) (by go_grown) hb1
    have c1 := (HB1.cell (p := ⟨b, off + i * 4 + 1, none⟩) hb).trans k1
    have c2 := (HB1.cell (p := ⟨b, off + i * 4 + 2, none⟩) hb).trans k2
    have c3 := (HB1.cell (p := ⟨b, off + i * 4 + 3, none⟩) hb).trans k3
    have hob : Blk w1 (w.heap.size + 1) 67 #[.int .i64 school, .slice (some ⟨b, off, none⟩) ks.length c] := (Blk.new' (by simp)).below hb1 (by simp)
    obtain ⟨o0, o1, o2, o3⟩ := hob.f2
    have hbs : b < w1.heap.size := Nat.lt_of_lt_of_le hb HB1.size
    have hT1 := hT.below HB1
    clear hob hb1 k0 k1 k2 k3
    have hx : ∀ (x : Ext w1.heap.size w1) (bb oo : Nat), bb < w1.heap.size → x.val.cell? ⟨bb, oo, none⟩ = w1.cell? ⟨bb, oo, none⟩ := fun x bb oo h => x.ok.cell (p := ⟨bb, oo, none⟩) h
    have HXX := Lib.hid hx
    clear hx
    by_cases d1 : day < k.fr
    · go_wp2_with fail
      rw [H1.out, validK_day d1]
      go_ret
      exact ⟨rfl, HB1⟩
    rcases hcd : chkD k.sec (bs (msgD school id text)) mark with _ | _
    all_goals
      have HCD := Lib.hid hcd
      clear hcd
    · go_wp2_with fail
      have hx := HXX.out
      refine wp_region_ext w1.heap.size (by kernel_rfl) (by kernel_rfl) ?_
      repeat (go_big_quiet_step ((first
        | (go_at_call 40; exact ext_of (Nat.le_refl _) (message_any _ 0 school id text _ ((hx _ _ _ o3).trans o0) (Nat.lt_of_lt_of_le o3 (Ext.size _)) hsc.1 hsc.2 hid.1 hid.2 (by omega) (hT1.below (Ext.ok _))))
        | (go_at_call 24; exact ext_of (Nat.le_refl _) (dcheck_is _ _ _ _ (by omega) (by omega) HCD.out)))))
      refine wpQuiet_nil ?_
      rintro _ ⟨x, rfl⟩
      go_wp2_with fail
      rw [H1.out, validK_mark (by omega) HCD.out]
      go_ret
      exact ⟨rfl, ext_below HB1 x.ok⟩
    · by_cases d3 : k.st = 0
      all_goals
        have D3 := Lib.hid d3
        first
        | (have d3' : (k.st != 0) = false := by simp [d3]
           clear d3)
        | (have d3' : (k.st != 0) = true := by simp [d3]
           clear d3)
        by_cases d4 : k.st ≤ seen
        all_goals
          go_wp2_with fail
          have hx := HXX.out
          refine wp_region_ext w1.heap.size (by kernel_rfl) (by kernel_rfl) ?_
          repeat (go_big_quiet_step ((first
            | (go_at_call 40; exact ext_of (Nat.le_refl _) (message_any _ 0 school id text _ ((hx _ _ _ o3).trans o0) (Nat.lt_of_lt_of_le o3 (Ext.size _)) hsc.1 hsc.2 hid.1 hid.2 (by omega) (hT1.below (Ext.ok _))))
            | (go_at_call 24; exact ext_of (Nat.le_refl _) (dcheck_is _ _ _ _ (by omega) (by omega) HCD.out)))))
          refine wpQuiet_nil ?_
          rintro _ ⟨x, rfl⟩
          have x2 := (hx x _ (off + i * 4 + 3) hbs).trans c3
          clear hx
          go_wp2_with fail
          rw [H1.out]
          go_ret
          refine ⟨ret_int ?_, ext_below HB1 x.ok⟩
          first
          | (symm; exact validK_seen (by omega) HCD.out ⟨D3.out, by omega⟩)
          | (symm; exact validK_ok (by omega) HCD.out (by have := D3.out; omega))

set_option maxRecDepth 20000 in
set_option maxHeartbeats 4000000 in
theorem rvalid_any (A : Option Addr) (c : Nat) (school : Int) (ks : List Ky) (id : Int) (text mark : ByteArray) (day seen : Int) (w : World) (hk : KSl w A c ks) (hn : ks.length ≤ 1000) (hs : ∀ k ∈ ks, k.sec.size ≤ 100000)
    (hsc : Rng school) (hid : Rng id) (ht : text.size ≤ 100000) :
    Calls Tryd.prog 23 #[.agg #[.int .i64 school, .slice A ks.length c], .int .i64 id, .string text, .string mark, .int .i64 day, .int .i64 seen] w fun e w' =>
      e = .returned (.int .i64 (validE school ks id text mark day seen)) ∧ Below w.heap.size w w' := by
  have HK := Lib.hid hk
  clear hk
  rcases idxFrom_lt id ks 0 with hi | ⟨i, k, hi, hki, -⟩
  · have HI := Lib.hid hi
    have H1 : Hid (validE school ks id text mark day seen = 5) := Lib.hid (by unfold validE; rw [if_pos hi])
    clear hi
    go_enter Tryd.func23, Tryd.ntmps23
    go_wp2_with fail
    refine (rfind_any A c school ks id _ (HK.out.below (by go_grown) (Nat.le_refl _) |>.more (by go_size)) (by omega)).mono ?_
    rintro e w1 ⟨rfl, hb1⟩
    have HB1 := ext_below (w0 := w) (by go_grown) hb1
    rw [HI.out]
    go_wp2_with fail
    rw [H1.out]
    go_ret
    exact ⟨rfl, HB1⟩
  · rw [Nat.zero_add] at hi
    obtain ⟨b, off, rfl, hb, k0, k1, k2, k3⟩ := HK.out.sec hki
    have hil : i < ks.length := (List.getElem?_eq_some_iff.1 hki).1
    have hsec := hs k (List.mem_of_getElem? hki)
    have H1 : Hid (validE school ks id text mark day seen = validK k (msgD school id text) mark day seen) := Lib.hid (by
      unfold validE; rw [if_neg (by omega), kyAt_eq hi hki])
    have HI := Lib.hid hi
    have HKI := Lib.hid hki
    have hml := msg_len school id text hsc.1 hsc.2 hid.1 hid.2
    clear hi hki hs
    go_enter Tryd.func23, Tryd.ntmps23
    go_wp2_with fail
    refine (rfind_any _ c school ks id _ (HK.out.below (by go_grown) (Nat.le_refl _) |>.more (by go_size)) (by omega)).mono ?_
    rintro e w1 ⟨rfl, hb1⟩
    have HB1 := ext_below (w0 := w) (by go_grown) hb1
    rw [HI.out]
    have c0 := (HB1.cell (p := ⟨b, off + i * 4, none⟩) hb).trans k0
    have c1 := (HB1.cell (p := ⟨b, off + i * 4 + 1, none⟩) hb).trans k1
    have c2 := (HB1.cell (p := ⟨b, off + i * 4 + 2, none⟩) hb).trans k2
    have c3 := (HB1.cell (p := ⟨b, off + i * 4 + 3, none⟩) hb).trans k3
    have hob : Blk w1 w.heap.size 34 #[.int .i64 school, .slice (some ⟨b, off, none⟩) ks.length c] := (Blk.new w _ _).below hb1 (by simp)
    obtain ⟨o0, o1, o2, o3⟩ := hob.f2
    have hbs : b < w1.heap.size := Nat.lt_of_lt_of_le hb HB1.size
    have HB2 := HB1.alloc HB1.size (.cells #[.int .i64 k.id, .string k.sec, .int .i64 k.fr, .int .i64 k.st] 28)
    obtain ⟨y0, y1, y2, y3, y4, y5⟩ := (Blk.new w1 28 #[.int .i64 k.id, .string k.sec, .int .i64 k.fr, .int .i64 k.st]).f4
    obtain ⟨p0, p1, p2, p3⟩ := (hob.alloc (.cells #[.int .i64 k.id, .string k.sec, .int .i64 k.fr, .int .i64 k.st] 28)).f2
    clear hob hb1 k0 k1 k2 k3
    by_cases d1 : day < k.fr
    · go_wp2_with fail
      rw [H1.out, validK_day d1]
      go_ret
      exact ⟨rfl, by go_grown⟩
    rcases hcd : chkD k.sec (bs (msgD school id text)) mark with _ | _
    all_goals
      have HCD := Lib.hid hcd
      clear hcd
      by_cases d3 : k.st = 0
      all_goals
        have D3 := Lib.hid d3
        first
        | (have d3' : (k.st != 0) = false := by simp [d3]
           clear d3)
        | (have d3' : (k.st != 0) = true := by simp [d3]
           clear d3)
        by_cases d4 : k.st ≤ seen
        all_goals
          go_wp2_with fail
          have hx : ∀ (x : Ext (w1.heap.size + 1) (w1.alloc (.cells #[.int .i64 k.id, .string k.sec, .int .i64 k.fr, .int .i64 k.st] 28))) (bb oo : Nat), bb < w1.heap.size + 1 → x.val.cell? ⟨bb, oo, none⟩ = (w1.alloc (.cells #[.int .i64 k.id, .string k.sec, .int .i64 k.fr, .int .i64 k.st] 28)).cell? ⟨bb, oo, none⟩ := fun x bb oo h => x.ok.cell (p := ⟨bb, oo, none⟩) h
          refine wp_region_ext (w1.heap.size + 1) (by kernel_rfl) (by kernel_rfl) ?_
          repeat (go_big_quiet_step ((first
            | (go_at_call 42; exact ext_of (by simp) (whole_any _ _ _ text _ hsc.1 hsc.2 hid.1 hid.2 (by omega)))
            | (go_at_call 43; exact ext_of (by simp) (rcheck2_is _ _ _ _ (by omega) (by omega) HCD.out)))))
          refine wpQuiet_nil ?_
          rintro _ ⟨x, rfl⟩
          have x3 := (hx x _ 3 (by omega)).trans y3
          clear hx
          go_wp2_with fail
          rw [H1.out]
          go_ret
          refine ⟨ret_int ?_, HB2.trans (x.ok.mono (by have := HB1.size; omega))⟩
          first
          | (symm; exact validK_mark (by omega) HCD.out)
          | (symm; exact validK_seen (by omega) HCD.out ⟨D3.out, by omega⟩)
          | (symm; exact validK_ok (by omega) HCD.out (by have := D3.out; omega))

end Go.Proofs.YtikinldimecgaaaDoor
