/- The law CountDerives answers true for every input, whatever the schedule. -/
import Derived.Test.YtofbcijbpfjliaaGreatD8
namespace Go.Proofs.YtofbcijbpfjliaaGreat.countDerives
open Go.ChangeShapes Go.WideShapes Go.ChangeAt Go.ChangeMaps Go.RowKit Vc
theorem params : Tryz.f3.params = #[28] := by kernel_rfl
theorem results : Tryz.f3.resultTypes = #[4] := by kernel_rfl
theorem readable : ∀ t ∈ Tryz.f3.params.toList, Tryz.prog.readableRec t = true ∧ t < Tryz.prog.types.size := by
  rw [params]
  intro t ht
  simp only [List.mem_cons, List.not_mem_nil, or_false] at ht
  rcases ht with rfl
  all_goals exact ⟨by kernel_rfl, of_decide_eq_true (by kernel_rfl)⟩
set_option maxRecDepth 100000 in
theorem contract (H : Type) (enc : TypeId × Value → H) (W : World) (base : Nat) (args : Array Value) (ds gs : List (DataW H)) (before : List MemPlace)
    (hval : ∀ (j : Nat) t v, Tryz.f3.params[j]? = some t → args[j]? = some v → Value.okWide Tryz.prog W .any base t v)
    (hW : DataW.Whole enc Tryz.prog Tryz.f3.params.toList Rows.countDerivesSpec.vars false W args.toList ds gs before) :
    Calls Tryz.prog 3 args W fun e W' => ∃ v, e = .returned v ∧ Rows.countDerivesSpec.post enc Tryz.prog Tryz.f3 false true false false W args v W' := by
  have hW' := hW
  obtain ⟨p, q, hA0, hV, rfl, hfz, hnd⟩ := hW
  have hA := hA0
  rw [params] at hA hval
  obtain ⟨v0, vs0, d0, ds0, pp0, qq0, hargs, rfl, rfl, g0, r0⟩ := trodAll_cons hA
  obtain ⟨rfl, rfl, rfl⟩ := trodAll_nil r0
  obtain rfl : args = #[v0] := by cases args; simp_all
  obtain ⟨rfl, rfl⟩ := trodVars_none hV
  obtain ⟨cs0, rfl, hsz0⟩ := okWide_struct Tryz.underlying28 (hval 0 _ v0 rfl rfl)
  obtain ⟨fu0, hn0⟩ := g0
  obtain ⟨es0, pv0, ty0⟩ := qja qzt fu0 28 _ _ (by decide) hn0
  obtain ⟨x0, rfl, wx0⟩ := Vc.ty28 _ _ ty0
  have rr0 := qCD pv0
  have hr : RRs W L0 ρ0 #[.agg cs0] [.agg [.d (D.sl 1 x0.Has.length (x0.Has.flatMap (eL 1 eI))), .d (D.int .i64 x0.Odd.a0.a0), .d (D.int .i64 x0.Odd.a0.a1), .d (D.int .i64 x0.Odd.a0.a2), .d (D.int .i64 x0.Odd.a1.a0), .d (D.int .i64 x0.Odd.a1.a1), .d (D.int .i64 x0.Odd.a1.a2), .d (D.sl 1 x0.Programme.length (x0.Programme.flatMap eI)), .d (D.int .u16 x0.Day)]] := ⟨rfl, fun j r hj => by
    cases j with
    | zero => injection hj with hj; subst hj; exact rr0
    | succ j =>
      simp at hj⟩
  have hev := q4R x0.Has x0.Odd.a0.a0 x0.Odd.a0.a1 x0.Odd.a0.a2 x0.Odd.a1.a0 x0.Odd.a1.a1 x0.Odd.a1.a2 x0.Programme x0.Day
  have hx : ev 3 0 [.agg [.d (D.sl 1 x0.Has.length (x0.Has.flatMap (eL 1 eI))), .d (D.int .i64 x0.Odd.a0.a0), .d (D.int .i64 x0.Odd.a0.a1), .d (D.int .i64 x0.Odd.a0.a2), .d (D.int .i64 x0.Odd.a1.a0), .d (D.int .i64 x0.Odd.a1.a1), .d (D.int .i64 x0.Odd.a1.a2), .d (D.sl 1 x0.Programme.length (x0.Programme.flatMap eI)), .d (D.int .u16 x0.Day)]] [] = some (.c (.d (.bool true)), []) := by
    refine hev.trans ?_
    change ((_ : Option Bool)).bind _ = _
    exact congrArg (fun o : Option Bool => o.bind fun e => some (R.c (C.d (D.bool e)), ([] : List (Nat × B)))) (qaY x0 wx0)
  refine (qr9 hx hr).mono fun e W' h => ?_
  obtain ⟨rfl, hb⟩ := h
  exact ⟨_, rfl, qrI qvV readable results Tryz.underlying4 rfl rfl rfl rfl hW' hb⟩
noncomputable def laidWorld (os : Os) : World := World.holding Tryz.prog os ⟨#[], #[], []⟩
theorem laid_met (os : Os) : laidMet Tryz.prog Rows.countDerivesRow.laid ((laidWorld os).forCall (fun _ _ => 0) ⟨#[], #[.agg #[.slice none 0 0, .int .i64 0, .int .i64 0, .int .i64 0, .int .i64 0, .int .i64 0, .int .i64 0, .slice none 0 0, .int .u16 0]], []⟩).memory :=
  laidMet_of_run' 8 (by kernel_rfl) (by kernel_rfl)
theorem reads (os : Os) {H : Type} (enc : TypeId × Value → H) : ∃ places, DataW.whole enc Tryz.prog ((laidWorld os).forCall (fun _ _ => 0) ⟨#[], #[.agg #[.slice none 0 0, .int .i64 0, .int .i64 0, .int .i64 0, .int .i64 0, .int .i64 0, .int .i64 0, .slice none 0 0, .int .u16 0]], []⟩).memory Tryz.f3.params.toList Rows.countDerivesSpec.vars false (#[.agg #[.slice none 0 0, .int .i64 0, .int .i64 0, .int .i64 0, .int .i64 0, .int .i64 0, .int .i64 0, .slice none 0 0, .int .u16 0]] : Array Value).toList 8 = some ([.agg [.nil, .agg [.agg [.lit (.int .i64 0), .lit (.int .i64 0), .lit (.int .i64 0)], .agg [.lit (.int .i64 0), .lit (.int .i64 0), .lit (.int .i64 0)]], .nil, .lit (.int .u16 0)]], [], places) :=
  ⟨[], by kernel_rfl⟩
set_option maxRecDepth 100000 in
theorem lifted (os : Os) (started : os.Started) (H : Type) (enc : TypeId × Value → H) (F : Stop.Interp) :
    ReturnsInHanded {} Tryz.checked os 3 .any ((OpenSpec.ofChange Rows.countDerivesSpec).preRow enc Tryz.prog Tryz.f3 Rows.countDerivesRow.domain false Rows.countDerivesRow.laid) (((OpenSpec.ofChange Rows.countDerivesSpec).at F).post enc Tryz.prog Tryz.f3 false true false false) := by
  obtain ⟨places, hx⟩ := reads os enc
  refine returnsInHanded_of_row (C := Tryz.checked) (s := OpenSpec.ofChange Rows.countDerivesSpec) own started (by kernel_rfl) Tryz.func3
    (witness_row_at (enc := enc) (C := Tryz.checked) false (laidWorld os) #[.agg #[.slice none 0 0, .int .i64 0, .int .i64 0, .int .i64 0, .int .i64 0, .int .i64 0, .int .i64 0, .slice none 0 0, .int .u16 0]] rfl (by kernel_rfl) (by kernel_rfl) (by kernel_rfl)
      (OpenSpec.preRow_of_cond 8 hx (by kernel_rfl) (fun k hk => by cases hk) (by kernel_rfl) (laid_met os))) ?_
  intro W base args ds gs before hval hW _ _ _ hL _ _
  exact contract H enc W base args ds gs before hval hW
theorem said : Rows.CountDerivesSaid :=
  OpenClaim.holds_of_cond 3 Tryz.f3 rfl rfl rfl rfl rfl rfl rfl ⟨rfl, rfl, rfl, rfl, rfl⟩ rfl rfl rfl rfl rfl (by kernel_rfl) Tryz.func3 (by kernel_rfl)
    (of_decide_eq_true (by kernel_rfl)) (by unfold Func.isWrapper; first | (rw [if_pos (by decide +kernel)]; kernel_rfl) | (rw [if_neg (by decide +kernel)]; exact ⟨rfl, rfl⟩))
    (fun os started H enc _ F => by rw [OpenClaim.pre_eq_preRow]; exact lifted os started H enc F)
#print axioms said
end Go.Proofs.YtofbcijbpfjliaaGreat.countDerives
