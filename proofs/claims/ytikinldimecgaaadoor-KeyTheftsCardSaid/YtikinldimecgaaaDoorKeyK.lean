/- The walks of Sign and Valid of the package key and of its reference, of Same, and of the reference's Current. -/
import Derived.Test.YtikinldimecgaaaDoorKeyJ
namespace Go.Proofs.YtikinldimecgaaaDoor
open Go.RowKit

def kyAt (ks : List Ky) (id : Int) : Ky := ks.getD (idxFrom id ks 0).toNat Ky.zero
def signE (ks : List Ky) (id : Int) : Int := if idxFrom id ks 0 = -1 then 5 else 0
def signM (school : Int) (ks : List Ky) (id : Int) (text : ByteArray) : List UInt8 := if idxFrom id ks 0 = -1 then [] else markD (kyAt ks id).sec.data.toList (msgD school id text)
def validK (k : Ky) (m : List UInt8) (mark : ByteArray) (day seen : Int) : Int :=
  if day < k.fr then 23 else if chkD k.sec (bs m) mark = false then 11 else if k.st ≠ 0 ∧ k.st ≤ seen then 11 else 0
def validE (school : Int) (ks : List Ky) (id : Int) (text mark : ByteArray) (day seen : Int) : Int :=
  if idxFrom id ks 0 = -1 then 5 else validK (kyAt ks id) (msgD school id text) mark day seen
theorem kyAt_eq {ks : List Ky} {id : Int} {i : Nat} {k : Ky} (h : idxFrom id ks 0 = (i : Int)) (hk : ks[i]? = some k) : kyAt ks id = k := by unfold kyAt; rw [h]; simp [hk]
def Rng (n : Int) : Prop := -9223372036854775808 ≤ n ∧ n ≤ 9223372036854775807

theorem KSl.sec {w : World} {A : Option Addr} {c i : Nat} {ks : List Ky} {k : Ky} (h : KSl w A c ks) (hk : ks[i]? = some k) :
    ∃ b off, A = some ⟨b, off, none⟩ ∧ b < w.heap.size ∧ w.cell? ⟨b, off + i * 4, none⟩ = some (.int .i64 k.id) ∧ w.cell? ⟨b, off + i * 4 + 1, none⟩ = some (.string k.sec) ∧
      w.cell? ⟨b, off + i * 4 + 2, none⟩ = some (.int .i64 k.fr) ∧ w.cell? ⟨b, off + i * 4 + 3, none⟩ = some (.int .i64 k.st) := by
  obtain ⟨h1, h2⟩ := List.getElem?_eq_some_iff.1 hk
  subst h2
  exact h.at_ h1

set_option maxRecDepth 20000 in
set_option maxHeartbeats 2000000 in
theorem sign_any (A : Option Addr) (c : Nat) (school : Int) (ks : List Ky) (id : Int) (text : ByteArray) (w : World) (hk : KSl w A c ks) (hn : ks.length ≤ 1000) (hs : ∀ k ∈ ks, k.sec.size ≤ 100000)
    (hsc : Rng school) (hid : Rng id) (ht : text.size ≤ 100000) (hT : Tab w) :
    Calls Tryd.prog 20 #[.agg #[.int .i64 school, .slice A ks.length c], .int .i64 id, .string text] w fun e w' =>
      e = .returned (.tuple #[.string (bs (signM school ks id text)), .int .i64 (signE ks id)]) ∧ Below w.heap.size w w' := by
  have HK := Lib.hid hk
  clear hk
  rcases idxFrom_lt id ks 0 with hi | ⟨i, k, hi, hki, -⟩
  · have HI := Lib.hid hi
    have H1 : Hid (signE ks id = 5 ∧ signM school ks id text = []) := Lib.hid (by unfold signE signM; rw [if_pos hi, if_pos hi]; exact ⟨rfl, rfl⟩)
    clear hi
    go_enter Tryd.func20, Tryd.ntmps20
    go_wp2_with fail
    refine (find_none _ 0 c A ks id _ (by go_cell) (HK.out.below (by go_grown) (Nat.le_refl _) |>.more (by go_size)) (by go_size) (by omega) HI.out).mono ?_
    rintro e w1 ⟨rfl, hb1⟩
    have HB1 := ext_below (w0 := w) (by go_grown) hb1
    go_wp2_with fail
    rw [H1.out.1, H1.out.2]
    go_ret2
    exact ⟨rfl, HB1⟩
  · rw [Nat.zero_add] at hi
    obtain ⟨b, off, rfl, hb, k0, k1, k2, k3⟩ := HK.out.sec hki
    have hil : i < ks.length := (List.getElem?_eq_some_iff.1 hki).1
    have hsec := hs k (List.mem_of_getElem? hki)
    have H1 : Hid (signE ks id = 0 ∧ signM school ks id text = markD k.sec.data.toList (msgD school id text)) := Lib.hid (by
      unfold signE signM; rw [if_neg (by omega), if_neg (by omega), kyAt_eq hi hki]; exact ⟨rfl, rfl⟩)
    have HI := Lib.hid hi
    have HKI := Lib.hid hki
    have hml := msg_len school id text hsc.1 hsc.2 hid.1 hid.2
    clear hi hki hs
    go_enter Tryd.func20, Tryd.ntmps20
    go_wp2_with fail
    refine (find_some _ 0 c b off i ks id _ (by go_cell) (HK.out.below (by go_grown) (Nat.le_refl _) |>.more (by go_size)) (by go_size) (by omega) HI.out hil).mono ?_
    rintro e w1 ⟨rfl, hb1⟩
    have HB1 := ext_below (w0 := w) (by go_grown) hb1
    have c0 := (HB1.cell (p := ⟨b, off + i * 4 + 1, none⟩) hb).trans k1
    have hob : Blk w1 (w.heap.size + 1) 67 #[.int .i64 school, .slice (some ⟨b, off, none⟩) ks.length c] := (Blk.new' (by simp)).below hb1 (by simp)
    obtain ⟨o0, o1, o2, o3⟩ := hob.f2
    have hbs : b < w1.heap.size := Nat.lt_of_lt_of_le hb HB1.size
    have hT1 := hT.below HB1
    clear hob hb1 k0 k1 k2 k3
    go_wp2_with fail
    have hx : ∀ (x : Ext w1.heap.size w1) (bb oo : Nat), bb < w1.heap.size → x.val.cell? ⟨bb, oo, none⟩ = w1.cell? ⟨bb, oo, none⟩ := fun x bb oo h => x.ok.cell (p := ⟨bb, oo, none⟩) h
    refine wp_region_ext w1.heap.size (by kernel_rfl) (by kernel_rfl) ?_
    repeat (go_big_quiet_step ((first
      | (go_at_call 40; exact ext_of (Nat.le_refl _) (message_any _ 0 school id text _ ((hx _ _ _ o3).trans o0) (Nat.lt_of_lt_of_le o3 (Ext.size _)) hsc.1 hsc.2 hid.1 hid.2 (by omega) (hT1.below (Ext.ok _))))
      | (go_at_call 39; exact ext_of (Nat.le_refl _) (mark_any _ _ _ (by omega) (by omega))))))
    refine wpQuiet_nil ?_
    rintro _ ⟨x, rfl⟩
    go_wp2_with fail
    rw [H1.out.1, H1.out.2]
    go_ret2
    exact ⟨rfl, ext_below HB1 x.ok⟩

end Go.Proofs.YtikinldimecgaaaDoor
