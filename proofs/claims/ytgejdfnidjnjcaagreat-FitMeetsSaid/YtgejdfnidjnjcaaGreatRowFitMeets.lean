/- The law FitMeets answers true for every input, whatever the schedule. -/
import Derived.Test.YtgejdfnidjnjcaaGreatN6
namespace Go.Proofs.YtgejdfnidjnjcaaGreat.fitMeets
open Go.ChangeShapes Go.WideShapes Go.ChangeAt Go.ChangeMaps Go.RowKit Vc
theorem params : Tryz.f5.params = #[26, 35, 22] := by kernel_rfl
theorem results : Tryz.f5.resultTypes = #[4] := by kernel_rfl
theorem readable : ∀ t ∈ Tryz.f5.params.toList, Tryz.prog.readableRec t = true ∧ t < Tryz.prog.types.size := by
  rw [params]
  intro t ht
  simp only [List.mem_cons, List.not_mem_nil, or_false] at ht
  rcases ht with rfl | rfl | rfl
  all_goals exact ⟨by kernel_rfl, of_decide_eq_true (by kernel_rfl)⟩
set_option maxRecDepth 100000 in
theorem contract (H : Type) (enc : TypeId × Value → H) (W : World) (base : Nat) (args : Array Value) (ds gs : List (DataW H)) (before : List MemPlace)
    (hval : ∀ (j : Nat) t v, Tryz.f5.params[j]? = some t → args[j]? = some v → Value.okWide Tryz.prog W .any base t v)
    (hW : DataW.Whole enc Tryz.prog Tryz.f5.params.toList Rows.fitMeetsSpec.vars false W args.toList ds gs before) :
    Calls Tryz.prog 5 args W fun e W' => ∃ v, e = .returned v ∧ Rows.fitMeetsSpec.post enc Tryz.prog Tryz.f5 false true false false W args v W' := by
  have hW' := hW
  obtain ⟨p, q, hA0, hV, rfl, hfz, hnd⟩ := hW
  have hA := hA0
  rw [params] at hA hval
  obtain ⟨v0, vs0, d0, ds0, pp0, qq0, hargs, rfl, rfl, g0, r0⟩ := trodAll_cons hA
  obtain ⟨v1, vs1, d1, ds1, pp1, qq1, rfl, rfl, rfl, g1, r1⟩ := trodAll_cons r0
  obtain ⟨v2, vs2, d2, ds2, pp2, qq2, rfl, rfl, rfl, g2, r2⟩ := trodAll_cons r1
  obtain ⟨rfl, rfl, rfl⟩ := trodAll_nil r2
  obtain rfl : args = #[v0, v1, v2] := by cases args; simp_all
  obtain ⟨rfl, rfl⟩ := trodVars_none hV
  obtain ⟨cs0, rfl, hsz0⟩ := okWide_struct Tryz.underlying26 (hval 0 _ v0 rfl rfl)
  obtain ⟨fu0, hn0⟩ := g0
  obtain ⟨es0, pv0, ty0⟩ := qew qnd fu0 26 _ _ (by decide) hn0
  obtain ⟨x0, rfl, wx0⟩ := Vc.ty26 _ _ ty0
  have rr0 := qrC pv0
  obtain ⟨cs1, rfl, hsz1⟩ := okWide_struct Tryz.underlying35 (hval 1 _ v1 rfl rfl)
  obtain ⟨fu1, hn1⟩ := g1
  obtain ⟨es1, pv1, ty1⟩ := qew qnd fu1 35 _ _ (by decide) hn1
  obtain ⟨x1, rfl, wx1⟩ := Vc.ty35 _ _ ty1
  have rr1 := qrC pv1
  obtain ⟨fu2, hn2⟩ := g2
  obtain ⟨es2, pv2, ty2⟩ := qew qnd fu2 22 _ _ (by decide) hn2
  have hc2 : v2.cells = #[v2] := by obtain ⟨_, _, _, q⟩ := okWide_slice Tryz.underlying22 (hval 2 _ v2 rfl rfl); rw [q]; rfl
  rw [hc2] at pv2
  obtain ⟨x2, rfl, wx2⟩ := Vc.ty22 _ _ ty2
  have rr2 := qzO pv2
  have hr : RRs W L0 ρ0 #[.agg cs0, .agg cs1, v2] [.agg [.d (D.sl 1 x0.Need.length (x0.Need.flatMap eI)), .d (D.sl 1 x0.L.length (x0.L.flatMap eI)), .d (D.int .i64 x0.Odd.a0.a0), .d (D.int .i64 x0.Odd.a0.a1), .d (D.int .i64 x0.Odd.a0.a2), .d (D.int .i64 x0.Odd.a1.a0), .d (D.int .i64 x0.Odd.a1.a1), .d (D.int .i64 x0.Odd.a1.a2)], .agg [.d (D.int .i64 x1.Need.Kind), .d (D.int .i64 x1.Need.N), .d (D.int .i64 x1.Need.Min), .d (D.sl 2 x1.Need.Set.length (x1.Need.Set.flatMap qe)), .d (D.sl 5 x1.Need.L.length (x1.Need.L.flatMap qg)), .d (D.int .i64 x1.Scale.Worst), .d (D.int .i64 x1.Scale.Best), .d (D.int .i64 x1.Scale.Pass), .d (D.sl 8 x1.L.length (x1.L.flatMap qd))], .c (.d (D.sl 1 x2.length (x2.flatMap eI)))] := ⟨rfl, fun j r hj => by
    cases j with
    | zero => injection hj with hj; subst hj; exact rr0
    | succ j =>
      cases j with
      | zero => injection hj with hj; subst hj; exact rr1
      | succ j =>
        cases j with
        | zero => injection hj with hj; subst hj; exact rr2
        | succ j =>
          simp at hj⟩
  have hev := q8M x0.Need x0.L x0.Odd.a0.a0 x0.Odd.a0.a1 x0.Odd.a0.a2 x0.Odd.a1.a0 x0.Odd.a1.a1 x0.Odd.a1.a2 x1.Need.Kind x1.Need.N x1.Need.Min x1.Need.Set x1.Need.L x1.Scale.Worst x1.Scale.Best x1.Scale.Pass x1.L x2
  have hx : ev 5 0 [.agg [.d (D.sl 1 x0.Need.length (x0.Need.flatMap eI)), .d (D.sl 1 x0.L.length (x0.L.flatMap eI)), .d (D.int .i64 x0.Odd.a0.a0), .d (D.int .i64 x0.Odd.a0.a1), .d (D.int .i64 x0.Odd.a0.a2), .d (D.int .i64 x0.Odd.a1.a0), .d (D.int .i64 x0.Odd.a1.a1), .d (D.int .i64 x0.Odd.a1.a2)], .agg [.d (D.int .i64 x1.Need.Kind), .d (D.int .i64 x1.Need.N), .d (D.int .i64 x1.Need.Min), .d (D.sl 2 x1.Need.Set.length (x1.Need.Set.flatMap qe)), .d (D.sl 5 x1.Need.L.length (x1.Need.L.flatMap qg)), .d (D.int .i64 x1.Scale.Worst), .d (D.int .i64 x1.Scale.Best), .d (D.int .i64 x1.Scale.Pass), .d (D.sl 8 x1.L.length (x1.L.flatMap qd))], .c (.d (D.sl 1 x2.length (x2.flatMap eI)))] [] = some (.c (.d (.bool true)), []) := by
    refine hev.trans ?_
    change ((_ : Option Bool)).bind _ = _
    exact congrArg (fun o : Option Bool => o.bind fun e => some (R.c (C.d (D.bool e)), ([] : List (Nat × B)))) (qfH x0 wx0 x1 wx1 x2 wx2)
  refine (qpX hx hr).mono fun e W' h => ?_
  obtain ⟨rfl, hb⟩ := h
  exact ⟨_, rfl, qpT quf readable results Tryz.underlying4 rfl rfl rfl rfl hW' hb⟩
noncomputable def laidWorld (os : Os) : World := World.holding Tryz.prog os ⟨#[], #[], []⟩
theorem laid_met (os : Os) : laidMet Tryz.prog Rows.fitMeetsRow.laid ((laidWorld os).forCall (fun _ _ => 0) ⟨#[], #[.agg #[.slice none 0 0, .slice none 0 0, .int .i64 0, .int .i64 0, .int .i64 0, .int .i64 0, .int .i64 0, .int .i64 0], .agg #[.int .i64 0, .int .i64 0, .int .i64 0, .slice none 0 0, .slice none 0 0, .int .i64 0, .int .i64 0, .int .i64 0, .slice none 0 0], .slice none 0 0], []⟩).memory :=
  laidMet_of_run' 8 (by kernel_rfl) (by kernel_rfl)
theorem reads (os : Os) {H : Type} (enc : TypeId × Value → H) : ∃ places, DataW.whole enc Tryz.prog ((laidWorld os).forCall (fun _ _ => 0) ⟨#[], #[.agg #[.slice none 0 0, .slice none 0 0, .int .i64 0, .int .i64 0, .int .i64 0, .int .i64 0, .int .i64 0, .int .i64 0], .agg #[.int .i64 0, .int .i64 0, .int .i64 0, .slice none 0 0, .slice none 0 0, .int .i64 0, .int .i64 0, .int .i64 0, .slice none 0 0], .slice none 0 0], []⟩).memory Tryz.f5.params.toList Rows.fitMeetsSpec.vars false (#[.agg #[.slice none 0 0, .slice none 0 0, .int .i64 0, .int .i64 0, .int .i64 0, .int .i64 0, .int .i64 0, .int .i64 0], .agg #[.int .i64 0, .int .i64 0, .int .i64 0, .slice none 0 0, .slice none 0 0, .int .i64 0, .int .i64 0, .int .i64 0, .slice none 0 0], .slice none 0 0] : Array Value).toList 8 = some ([.agg [.nil, .nil, .agg [.agg [.lit (.int .i64 0), .lit (.int .i64 0), .lit (.int .i64 0)], .agg [.lit (.int .i64 0), .lit (.int .i64 0), .lit (.int .i64 0)]]], .agg [.agg [.lit (.int .i64 0), .lit (.int .i64 0), .lit (.int .i64 0), .nil, .nil], .agg [.lit (.int .i64 0), .lit (.int .i64 0), .lit (.int .i64 0)], .nil], .nil], [], places) :=
  ⟨[], by kernel_rfl⟩
set_option maxRecDepth 100000 in
theorem lifted (os : Os) (started : os.Started) (H : Type) (enc : TypeId × Value → H) (F : Stop.Interp) :
    ReturnsInHanded {} Tryz.checked os 5 .any ((OpenSpec.ofChange Rows.fitMeetsSpec).preRow enc Tryz.prog Tryz.f5 Rows.fitMeetsRow.domain false Rows.fitMeetsRow.laid) (((OpenSpec.ofChange Rows.fitMeetsSpec).at F).post enc Tryz.prog Tryz.f5 false true false false) := by
  obtain ⟨places, hx⟩ := reads os enc
  refine returnsInHanded_of_row (C := Tryz.checked) (s := OpenSpec.ofChange Rows.fitMeetsSpec) own started (by kernel_rfl) Tryz.func5
    (witness_row_at (enc := enc) (C := Tryz.checked) false (laidWorld os) #[.agg #[.slice none 0 0, .slice none 0 0, .int .i64 0, .int .i64 0, .int .i64 0, .int .i64 0, .int .i64 0, .int .i64 0], .agg #[.int .i64 0, .int .i64 0, .int .i64 0, .slice none 0 0, .slice none 0 0, .int .i64 0, .int .i64 0, .int .i64 0, .slice none 0 0], .slice none 0 0] rfl (by kernel_rfl) (by kernel_rfl) (by kernel_rfl)
      (OpenSpec.preRow_of_cond 8 hx (by kernel_rfl) (fun k hk => by cases hk) (by kernel_rfl) (laid_met os))) ?_
  intro W base args ds gs before hval hW _ _ _ hL _ _
  exact contract H enc W base args ds gs before hval hW
theorem said : Rows.FitMeetsSaid :=
  OpenClaim.holds_of_cond 5 Tryz.f5 rfl rfl rfl rfl rfl rfl rfl ⟨rfl, rfl, rfl, rfl, rfl⟩ rfl rfl rfl rfl rfl (by kernel_rfl) Tryz.func5 (by kernel_rfl)
    (of_decide_eq_true (by kernel_rfl)) (by unfold Func.isWrapper; first | (rw [if_pos (by decide +kernel)]; kernel_rfl) | (rw [if_neg (by decide +kernel)]; exact ⟨rfl, rfl⟩))
    (fun os started H enc _ F => by rw [OpenClaim.pre_eq_preRow]; exact lifted os started H enc F)
#print axioms said
end Go.Proofs.YtgejdfnidjnjcaaGreat.fitMeets
