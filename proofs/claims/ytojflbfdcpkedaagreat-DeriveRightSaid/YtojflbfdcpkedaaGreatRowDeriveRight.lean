/- The law DeriveRight answers true for every input, whatever the schedule. -/
import Derived.Test.YtojflbfdcpkedaaGreatQ6
namespace Go.Proofs.YtojflbfdcpkedaaGreat.deriveRight
open Go.ChangeShapes Go.WideShapes Go.ChangeAt Go.ChangeMaps Go.RowKit Vc
theorem params : Tryz.f5.params = #[25, 63] := by kernel_rfl
theorem results : Tryz.f5.resultTypes = #[4] := by kernel_rfl
theorem readable : ∀ t ∈ Tryz.f5.params.toList, Tryz.prog.readableRec t = true ∧ t < Tryz.prog.types.size := by
  rw [params]
  intro t ht
  simp only [List.mem_cons, List.not_mem_nil, or_false] at ht
  rcases ht with rfl | rfl
  all_goals exact ⟨by kernel_rfl, of_decide_eq_true (by kernel_rfl)⟩
set_option maxRecDepth 100000 in
theorem contract (H : Type) (enc : TypeId × Value → H) (W : World) (base : Nat) (args : Array Value) (ds gs : List (DataW H)) (before : List MemPlace)
    (hval : ∀ (j : Nat) t v, Tryz.f5.params[j]? = some t → args[j]? = some v → Value.okWide Tryz.prog W .any base t v)
    (hW : DataW.Whole enc Tryz.prog Tryz.f5.params.toList Rows.deriveRightSpec.vars false W args.toList ds gs before) :
    Calls Tryz.prog 5 args W fun e W' => ∃ v, e = .returned v ∧ Rows.deriveRightSpec.post enc Tryz.prog Tryz.f5 false true false false W args v W' := by
  have hW' := hW
  obtain ⟨p, q, hA0, hV, rfl, hfz, hnd⟩ := hW
  have hA := hA0
  rw [params] at hA hval
  obtain ⟨v0, vs0, d0, ds0, pp0, qq0, hargs, rfl, rfl, g0, r0⟩ := trodAll_cons hA
  obtain ⟨v1, vs1, d1, ds1, pp1, qq1, rfl, rfl, rfl, g1, r1⟩ := trodAll_cons r0
  obtain ⟨rfl, rfl, rfl⟩ := trodAll_nil r1
  obtain rfl : args = #[v0, v1] := by cases args; simp_all
  obtain ⟨rfl, rfl⟩ := trodVars_none hV
  obtain ⟨cs0, rfl, hsz0⟩ := okWide_struct Tryz.underlying25 (hval 0 _ v0 rfl rfl)
  obtain ⟨fu0, hn0⟩ := g0
  obtain ⟨es0, pv0, ty0⟩ := qhp qtL fu0 25 _ _ (by decide) hn0
  obtain ⟨x0, rfl, wx0⟩ := Vc.ty25 _ _ ty0
  have rr0 := qu0 pv0
  obtain ⟨cs1, rfl, hsz1⟩ := qfs Tryz.underlying63 (hval 1 _ v1 rfl rfl)
  obtain ⟨fu1, hn1⟩ := g1
  obtain ⟨es1, pv1, ty1⟩ := qhp qtL fu1 63 _ _ (by decide) hn1
  obtain ⟨x1, rfl, wx1⟩ := Vc.ty63 _ _ ty1
  have rr1 := qu0 pv1
  have hr : RRs W L0 ρ0 #[.agg cs0, .agg cs1] [.agg [.d (D.sl 1 x0.Programme.length (x0.Programme.flatMap eI)), .d (D.sl 1 x0.Had.length (x0.Had.flatMap eI)), .d (D.int .u16 x0.Day)], .agg [.d (D.int .u16 x1.a0.Mask), .d (D.int .i8 x1.a0.Leaf.a0), .d (D.int .i8 x1.a0.Leaf.a1), .d (D.int .i8 x1.a0.Leaf.a2), .d (D.int .i8 x1.a0.Leaf.a3), .d (D.int .i8 x1.a0.Leaf.a4), .d (D.int .i8 x1.a0.Leaf.a5), .d (D.int .i8 x1.a0.Leaf.a6), .d (D.int .i8 x1.a0.Leaf.a7), .d (D.int .i8 x1.a0.Leaf.a8), .d (D.int .i8 x1.a0.Leaf.a9), .d (D.int .u16 x1.a1.Mask), .d (D.int .i8 x1.a1.Leaf.a0), .d (D.int .i8 x1.a1.Leaf.a1), .d (D.int .i8 x1.a1.Leaf.a2), .d (D.int .i8 x1.a1.Leaf.a3), .d (D.int .i8 x1.a1.Leaf.a4), .d (D.int .i8 x1.a1.Leaf.a5), .d (D.int .i8 x1.a1.Leaf.a6), .d (D.int .i8 x1.a1.Leaf.a7), .d (D.int .i8 x1.a1.Leaf.a8), .d (D.int .i8 x1.a1.Leaf.a9)]] := ⟨rfl, fun j r hj => by
    cases j with
    | zero => injection hj with hj; subst hj; exact rr0
    | succ j =>
      cases j with
      | zero => injection hj with hj; subst hj; exact rr1
      | succ j =>
        simp at hj⟩
  have hev := q6M x0.Programme x0.Had x0.Day x1.a0.Mask x1.a0.Leaf.a0 x1.a0.Leaf.a1 x1.a0.Leaf.a2 x1.a0.Leaf.a3 x1.a0.Leaf.a4 x1.a0.Leaf.a5 x1.a0.Leaf.a6 x1.a0.Leaf.a7 x1.a0.Leaf.a8 x1.a0.Leaf.a9 x1.a1.Mask x1.a1.Leaf.a0 x1.a1.Leaf.a1 x1.a1.Leaf.a2 x1.a1.Leaf.a3 x1.a1.Leaf.a4 x1.a1.Leaf.a5 x1.a1.Leaf.a6 x1.a1.Leaf.a7 x1.a1.Leaf.a8 x1.a1.Leaf.a9
  have hx : ev 5 0 [.agg [.d (D.sl 1 x0.Programme.length (x0.Programme.flatMap eI)), .d (D.sl 1 x0.Had.length (x0.Had.flatMap eI)), .d (D.int .u16 x0.Day)], .agg [.d (D.int .u16 x1.a0.Mask), .d (D.int .i8 x1.a0.Leaf.a0), .d (D.int .i8 x1.a0.Leaf.a1), .d (D.int .i8 x1.a0.Leaf.a2), .d (D.int .i8 x1.a0.Leaf.a3), .d (D.int .i8 x1.a0.Leaf.a4), .d (D.int .i8 x1.a0.Leaf.a5), .d (D.int .i8 x1.a0.Leaf.a6), .d (D.int .i8 x1.a0.Leaf.a7), .d (D.int .i8 x1.a0.Leaf.a8), .d (D.int .i8 x1.a0.Leaf.a9), .d (D.int .u16 x1.a1.Mask), .d (D.int .i8 x1.a1.Leaf.a0), .d (D.int .i8 x1.a1.Leaf.a1), .d (D.int .i8 x1.a1.Leaf.a2), .d (D.int .i8 x1.a1.Leaf.a3), .d (D.int .i8 x1.a1.Leaf.a4), .d (D.int .i8 x1.a1.Leaf.a5), .d (D.int .i8 x1.a1.Leaf.a6), .d (D.int .i8 x1.a1.Leaf.a7), .d (D.int .i8 x1.a1.Leaf.a8), .d (D.int .i8 x1.a1.Leaf.a9)]] [] = some (.c (.d (.bool true)), []) := by
    refine hev.trans ?_
    change ((_ : Option Bool)).bind _ = _
    exact congrArg (fun o : Option Bool => o.bind fun e => some (R.c (C.d (D.bool e)), ([] : List (Nat × B)))) (qcc x0 wx0 x1 wx1)
  refine (qtp hx hr).mono fun e W' h => ?_
  obtain ⟨rfl, hb⟩ := h
  exact ⟨_, rfl, qs6 qz5 readable results Tryz.underlying4 rfl rfl rfl rfl hW' hb⟩
noncomputable def laidWorld (os : Os) : World := World.holding Tryz.prog os ⟨#[], #[], []⟩
theorem laid_met (os : Os) : laidMet Tryz.prog Rows.deriveRightRow.laid ((laidWorld os).forCall (fun _ _ => 0) ⟨#[], #[.agg #[.slice none 0 0, .slice none 0 0, .int .u16 0], .agg #[.int .u16 0, .int .i8 0, .int .i8 0, .int .i8 0, .int .i8 0, .int .i8 0, .int .i8 0, .int .i8 0, .int .i8 0, .int .i8 0, .int .i8 0, .int .u16 0, .int .i8 0, .int .i8 0, .int .i8 0, .int .i8 0, .int .i8 0, .int .i8 0, .int .i8 0, .int .i8 0, .int .i8 0, .int .i8 0]], []⟩).memory :=
  laidMet_of_run' 8 (by kernel_rfl) (by kernel_rfl)
theorem reads (os : Os) {H : Type} (enc : TypeId × Value → H) : ∃ places, DataW.whole enc Tryz.prog ((laidWorld os).forCall (fun _ _ => 0) ⟨#[], #[.agg #[.slice none 0 0, .slice none 0 0, .int .u16 0], .agg #[.int .u16 0, .int .i8 0, .int .i8 0, .int .i8 0, .int .i8 0, .int .i8 0, .int .i8 0, .int .i8 0, .int .i8 0, .int .i8 0, .int .i8 0, .int .u16 0, .int .i8 0, .int .i8 0, .int .i8 0, .int .i8 0, .int .i8 0, .int .i8 0, .int .i8 0, .int .i8 0, .int .i8 0, .int .i8 0]], []⟩).memory Tryz.f5.params.toList Rows.deriveRightSpec.vars false (#[.agg #[.slice none 0 0, .slice none 0 0, .int .u16 0], .agg #[.int .u16 0, .int .i8 0, .int .i8 0, .int .i8 0, .int .i8 0, .int .i8 0, .int .i8 0, .int .i8 0, .int .i8 0, .int .i8 0, .int .i8 0, .int .u16 0, .int .i8 0, .int .i8 0, .int .i8 0, .int .i8 0, .int .i8 0, .int .i8 0, .int .i8 0, .int .i8 0, .int .i8 0, .int .i8 0]] : Array Value).toList 8 = some ([.agg [.nil, .nil, .lit (.int .u16 0)], .agg [.agg [.lit (.int .u16 0), .agg [.lit (.int .i8 0), .lit (.int .i8 0), .lit (.int .i8 0), .lit (.int .i8 0), .lit (.int .i8 0), .lit (.int .i8 0), .lit (.int .i8 0), .lit (.int .i8 0), .lit (.int .i8 0), .lit (.int .i8 0)]], .agg [.lit (.int .u16 0), .agg [.lit (.int .i8 0), .lit (.int .i8 0), .lit (.int .i8 0), .lit (.int .i8 0), .lit (.int .i8 0), .lit (.int .i8 0), .lit (.int .i8 0), .lit (.int .i8 0), .lit (.int .i8 0), .lit (.int .i8 0)]]]], [], places) :=
  ⟨[], by kernel_rfl⟩
set_option maxRecDepth 100000 in
theorem lifted (os : Os) (started : os.Started) (H : Type) (enc : TypeId × Value → H) (F : Stop.Interp) :
    ReturnsInHanded {} Tryz.checked os 5 .any ((OpenSpec.ofChange Rows.deriveRightSpec).preRow enc Tryz.prog Tryz.f5 Rows.deriveRightRow.domain false Rows.deriveRightRow.laid) (((OpenSpec.ofChange Rows.deriveRightSpec).at F).post enc Tryz.prog Tryz.f5 false true false false) := by
  obtain ⟨places, hx⟩ := reads os enc
  refine returnsInHanded_of_row (C := Tryz.checked) (s := OpenSpec.ofChange Rows.deriveRightSpec) own started (by kernel_rfl) Tryz.func5
    (witness_row_at (enc := enc) (C := Tryz.checked) false (laidWorld os) #[.agg #[.slice none 0 0, .slice none 0 0, .int .u16 0], .agg #[.int .u16 0, .int .i8 0, .int .i8 0, .int .i8 0, .int .i8 0, .int .i8 0, .int .i8 0, .int .i8 0, .int .i8 0, .int .i8 0, .int .i8 0, .int .u16 0, .int .i8 0, .int .i8 0, .int .i8 0, .int .i8 0, .int .i8 0, .int .i8 0, .int .i8 0, .int .i8 0, .int .i8 0, .int .i8 0]] rfl (by kernel_rfl) (by kernel_rfl) (by kernel_rfl)
      (OpenSpec.preRow_of_cond 8 hx (by kernel_rfl) (fun k hk => by cases hk) (by kernel_rfl) (laid_met os))) ?_
  intro W base args ds gs before hval hW _ _ _ hL _ _
  exact contract H enc W base args ds gs before hval hW
theorem said : Rows.DeriveRightSaid :=
  OpenClaim.holds_of_cond 5 Tryz.f5 rfl rfl rfl rfl rfl rfl rfl ⟨rfl, rfl, rfl, rfl, rfl⟩ rfl rfl rfl rfl rfl (by kernel_rfl) Tryz.func5 (by kernel_rfl)
    (of_decide_eq_true (by kernel_rfl)) (by unfold Func.isWrapper; first | (rw [if_pos (by decide +kernel)]; kernel_rfl) | (rw [if_neg (by decide +kernel)]; exact ⟨rfl, rfl⟩))
    (fun os started H enc _ F => by rw [OpenClaim.pre_eq_preRow]; exact lifted os started H enc F)
#print axioms said
end Go.Proofs.YtojflbfdcpkedaaGreat.deriveRight
