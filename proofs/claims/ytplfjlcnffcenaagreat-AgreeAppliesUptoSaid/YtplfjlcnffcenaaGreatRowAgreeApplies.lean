/- The law AgreeApplies answers true for every input whose bulk is at most the given bound, whatever the schedule. -/
import Derived.Test.YtplfjlcnffcenaaGreatM8
namespace Go.Proofs.YtplfjlcnffcenaaGreat.agreeApplies
open Go.ChangeShapes Go.WideShapes Go.ChangeAt Go.ChangeMaps Go.RowKit Vc
theorem params : Tryz.f4.params = #[22, 45, 47] := by kernel_rfl
theorem results : Tryz.f4.resultTypes = #[4] := by kernel_rfl
theorem readable : ∀ t ∈ Tryz.f4.params.toList, Tryz.prog.readableRec t = true ∧ t < Tryz.prog.types.size := by
  rw [params]
  intro t ht
  simp only [List.mem_cons, List.not_mem_nil, or_false] at ht
  rcases ht with rfl | rfl | rfl
  all_goals exact ⟨by kernel_rfl, of_decide_eq_true (by kernel_rfl)⟩
set_option maxRecDepth 100000 in
theorem contract (H : Type) (enc : TypeId × Value → H) (W : World) (base : Nat) (args : Array Value) (ds gs : List (DataW H)) (before : List MemPlace)
    (hval : ∀ (j : Nat) t v, Tryz.f4.params[j]? = some t → args[j]? = some v → Value.okWide Tryz.prog W .any base t v)
    (hW : DataW.Whole enc Tryz.prog Tryz.f4.params.toList Rows.agreeAppliesSpec.vars false W args.toList ds gs before) (hk : Rows.uptoSmall H (ds ++ gs) = true) :
    Calls Tryz.prog 4 args W fun e W' => ∃ v, e = .returned v ∧ Rows.agreeAppliesSpec.post enc Tryz.prog Tryz.f4 false true false false W args v W' := by
  have hW' := hW
  obtain ⟨p, q, hA0, hV, rfl, hfz, hnd⟩ := hW
  have hA := hA0
  rw [params] at hA hval
  obtain ⟨v0, vs0, d0, ds0, pp0, qq0, hargs, rfl, rfl, g0, r0⟩ := trodAll_cons hA
  obtain ⟨v1, vs1, d1, ds1, pp1, qq1, rfl, rfl, rfl, g1, r1⟩ := trodAll_cons r0
  obtain ⟨v2, vs2, d2, ds2, pp2, qq2, rfl, rfl, rfl, g2, r2⟩ := trodAll_cons r1
  obtain ⟨rfl, rfl, rfl⟩ := trodAll_nil r2
  obtain rfl : args = #[v0, v1, v2] := by cases args; simp_all
  obtain ⟨rfl, rfl⟩ := trodVars_none hV
  obtain ⟨fu0, hn0⟩ := g0
  obtain ⟨es0, pq0, ty0⟩ := q3K (N := 1048576) q5A qd8 fu0 22 _ _ (by decide) hn0 (q3O hk (by simp))
  have pv0 := pq0.pv
  have lm0 := pq0.lim
  have hc0 : v0.cells = #[v0] := by obtain ⟨_, _, _, q⟩ := okWide_slice Tryz.underlying22 (hval 0 _ v0 rfl rfl); rw [q]; rfl
  rw [hc0] at pv0
  obtain ⟨x0, rfl, wx0⟩ := Vc.ty22 _ _ ty0
  have rr0 := qil pv0
  obtain ⟨fu1, hn1⟩ := g1
  obtain ⟨es1, pq1, ty1⟩ := q3K (N := 1048576) q5A qd8 fu1 45 _ _ (by decide) hn1 (q3O hk (by simp))
  have pv1 := pq1.pv
  have lm1 := pq1.lim
  have hc1 : v1.cells = #[v1] := by obtain ⟨_, _, _, q⟩ := okWide_slice Tryz.underlying45 (hval 1 _ v1 rfl rfl); rw [q]; rfl
  rw [hc1] at pv1
  obtain ⟨x1, rfl, wx1⟩ := Vc.ty45 _ _ ty1
  have rr1 := qil pv1
  obtain ⟨cs2, rfl, hsz2⟩ := okWide_struct Tryz.underlying47 (hval 2 _ v2 rfl rfl)
  obtain ⟨fu2, hn2⟩ := g2
  obtain ⟨es2, pq2, ty2⟩ := q3K (N := 1048576) q5A qd8 fu2 47 _ _ (by decide) hn2 (q3O hk (by simp))
  have pv2 := pq2.pv
  have lm2 := pq2.lim
  obtain ⟨x2, rfl, wx2⟩ := Vc.ty47 _ _ ty2
  have rr2 := qn6 pv2
  have hr : RRs W L0 ρ0 #[v0, v1, .agg cs2] [.c (.d (D.sl 1 x0.length (x0.flatMap (eL 1 eI)))), .c (.d (D.sl 1 x1.length (x1.flatMap eI))), .agg [.d (D.int .i64 x2.At), .d (D.int .i64 x2.Odd.a0), .d (D.int .i64 x2.Odd.a1), .d (D.int .i64 x2.Raw.Agreement.Id), .d (D.int .i64 x2.Raw.Agreement.From), .d (D.int .i64 x2.Raw.Agreement.To), .d (D.int .i64 x2.Raw.Agreement.Begin), .d (D.int .i64 x2.Raw.Agreement.End), .d (D.sl 1 x2.Raw.Agreement.In.length (x2.Raw.Agreement.In.flatMap eS)), .d (D.sl 2 x2.Raw.Agreement.Out.length (x2.Raw.Agreement.Out.flatMap qe)), .d (D.int .i64 x2.Raw.Agreement.Conv.Num), .d (D.int .i64 x2.Raw.Agreement.Conv.Add), .d (D.int .i64 x2.Raw.Agreement.Conv.Den), .d (D.int .i64 x2.Raw.Agreement.Conv.Round), .d (D.int .i64 x2.Raw.Day), .d (D.int .i64 x2.Raw.Scale.Worst), .d (D.int .i64 x2.Raw.Scale.Best), .d (D.int .i64 x2.Raw.Scale.Pass), .d (D.sl 8 x2.Raw.L.length (x2.Raw.L.flatMap qc))]] := ⟨rfl, fun j r hj => by
    cases j with
    | zero => injection hj with hj; subst hj; exact rr0
    | succ j =>
      cases j with
      | zero => injection hj with hj; subst hj; exact rr1
      | succ j =>
        cases j with
        | zero => injection hj with hj; subst hj; exact rr2
        | succ j =>
          simp at hj⟩
  have hev := q0P x0 x1 x2.At x2.Odd.a0 x2.Odd.a1 x2.Raw.Agreement.Id x2.Raw.Agreement.From x2.Raw.Agreement.To x2.Raw.Agreement.Begin x2.Raw.Agreement.End x2.Raw.Agreement.In x2.Raw.Agreement.Out x2.Raw.Agreement.Conv.Num x2.Raw.Agreement.Conv.Add x2.Raw.Agreement.Conv.Den x2.Raw.Agreement.Conv.Round x2.Raw.Day x2.Raw.Scale.Worst x2.Raw.Scale.Best x2.Raw.Scale.Pass x2.Raw.L
  have hx : ev 4 0 [.c (.d (D.sl 1 x0.length (x0.flatMap (eL 1 eI)))), .c (.d (D.sl 1 x1.length (x1.flatMap eI))), .agg [.d (D.int .i64 x2.At), .d (D.int .i64 x2.Odd.a0), .d (D.int .i64 x2.Odd.a1), .d (D.int .i64 x2.Raw.Agreement.Id), .d (D.int .i64 x2.Raw.Agreement.From), .d (D.int .i64 x2.Raw.Agreement.To), .d (D.int .i64 x2.Raw.Agreement.Begin), .d (D.int .i64 x2.Raw.Agreement.End), .d (D.sl 1 x2.Raw.Agreement.In.length (x2.Raw.Agreement.In.flatMap eS)), .d (D.sl 2 x2.Raw.Agreement.Out.length (x2.Raw.Agreement.Out.flatMap qe)), .d (D.int .i64 x2.Raw.Agreement.Conv.Num), .d (D.int .i64 x2.Raw.Agreement.Conv.Add), .d (D.int .i64 x2.Raw.Agreement.Conv.Den), .d (D.int .i64 x2.Raw.Agreement.Conv.Round), .d (D.int .i64 x2.Raw.Day), .d (D.int .i64 x2.Raw.Scale.Worst), .d (D.int .i64 x2.Raw.Scale.Best), .d (D.int .i64 x2.Raw.Scale.Pass), .d (D.sl 8 x2.Raw.L.length (x2.Raw.L.flatMap qc))]] [] = some (.c (.d (.bool true)), []) := by
    refine hev.trans ?_
    change ((_ : Option Bool)).bind _ = _
    exact congrArg (fun o : Option Bool => o.bind fun e => some (R.c (C.d (D.bool e)), ([] : List (Nat × B)))) (q4H x0 wx0 lm0 x1 wx1 lm1 x2 wx2 lm2)
  refine (qg2 hx hr).mono fun e W' h => ?_
  obtain ⟨rfl, hb⟩ := h
  exact ⟨_, rfl, qfK qiR readable results Tryz.underlying4 rfl rfl rfl rfl hW' hb⟩
noncomputable def laidWorld (os : Os) : World := World.holding Tryz.prog os ⟨#[], #[], []⟩
theorem laid_met (os : Os) : laidMet Tryz.prog Rows.agreeAppliesUptoRow.laid ((laidWorld os).forCall (fun _ _ => 0) ⟨#[], #[.slice none 0 0, .slice none 0 0, .agg #[.int .i64 0, .int .i64 0, .int .i64 0, .int .i64 0, .int .i64 0, .int .i64 0, .int .i64 0, .int .i64 0, .slice none 0 0, .slice none 0 0, .int .i64 0, .int .i64 0, .int .i64 0, .int .i64 0, .int .i64 0, .int .i64 0, .int .i64 0, .int .i64 0, .slice none 0 0]], []⟩).memory :=
  laidMet_of_run' 8 (by kernel_rfl) (by kernel_rfl)
theorem reads (os : Os) {H : Type} (enc : TypeId × Value → H) : ∃ places, DataW.whole enc Tryz.prog ((laidWorld os).forCall (fun _ _ => 0) ⟨#[], #[.slice none 0 0, .slice none 0 0, .agg #[.int .i64 0, .int .i64 0, .int .i64 0, .int .i64 0, .int .i64 0, .int .i64 0, .int .i64 0, .int .i64 0, .slice none 0 0, .slice none 0 0, .int .i64 0, .int .i64 0, .int .i64 0, .int .i64 0, .int .i64 0, .int .i64 0, .int .i64 0, .int .i64 0, .slice none 0 0]], []⟩).memory Tryz.f4.params.toList Rows.agreeAppliesSpec.vars false (#[.slice none 0 0, .slice none 0 0, .agg #[.int .i64 0, .int .i64 0, .int .i64 0, .int .i64 0, .int .i64 0, .int .i64 0, .int .i64 0, .int .i64 0, .slice none 0 0, .slice none 0 0, .int .i64 0, .int .i64 0, .int .i64 0, .int .i64 0, .int .i64 0, .int .i64 0, .int .i64 0, .int .i64 0, .slice none 0 0]] : Array Value).toList 8 = some ([.nil, .nil, .agg [.lit (.int .i64 0), .agg [.lit (.int .i64 0), .lit (.int .i64 0)], .agg [.agg [.lit (.int .i64 0), .lit (.int .i64 0), .lit (.int .i64 0), .lit (.int .i64 0), .lit (.int .i64 0), .nil, .nil, .agg [.lit (.int .i64 0), .lit (.int .i64 0), .lit (.int .i64 0), .lit (.int .i64 0)]], .lit (.int .i64 0), .agg [.lit (.int .i64 0), .lit (.int .i64 0), .lit (.int .i64 0)], .nil]]], [], places) :=
  ⟨[], by kernel_rfl⟩
set_option maxRecDepth 100000 in
theorem lifted (os : Os) (started : os.Started) (H : Type) (enc : TypeId × Value → H) (F : Stop.Interp) :
    ReturnsInHanded {} Tryz.checked os 4 .any ((Rows.OpenSpec.upto Rows.agreeAppliesSpec).preRow enc Tryz.prog Tryz.f4 Rows.agreeAppliesUptoRow.domain false Rows.agreeAppliesUptoRow.laid) (((Rows.OpenSpec.upto Rows.agreeAppliesSpec).at F).post enc Tryz.prog Tryz.f4 false true false false) := by
  obtain ⟨places, hx⟩ := reads os enc
  refine returnsInHanded_of_row (C := Tryz.checked) (s := Rows.OpenSpec.upto Rows.agreeAppliesSpec) own started (by kernel_rfl) Tryz.func4
    (witness_row_at (enc := enc) (C := Tryz.checked) false (laidWorld os) #[.slice none 0 0, .slice none 0 0, .agg #[.int .i64 0, .int .i64 0, .int .i64 0, .int .i64 0, .int .i64 0, .int .i64 0, .int .i64 0, .int .i64 0, .slice none 0 0, .slice none 0 0, .int .i64 0, .int .i64 0, .int .i64 0, .int .i64 0, .int .i64 0, .int .i64 0, .int .i64 0, .int .i64 0, .slice none 0 0]] rfl (by kernel_rfl) (by kernel_rfl) (by kernel_rfl)
      (OpenSpec.preRow_of_cond 8 hx (by kernel_rfl) (fun k hk => by cases hk; kernel_rfl) (by kernel_rfl) (laid_met os))) ?_
  intro W base args ds gs before hval hW _ hcond _ hL _ _
  exact contract H enc W base args ds gs before hval hW (hcond _ rfl)
theorem said : Rows.AgreeAppliesUptoSaid :=
  OpenClaim.holds_of_cond 4 Tryz.f4 rfl rfl rfl rfl rfl rfl rfl ⟨rfl, rfl, rfl, rfl, rfl⟩ rfl rfl rfl rfl rfl (by kernel_rfl) Tryz.func4 (by kernel_rfl)
    (of_decide_eq_true (by kernel_rfl)) (by unfold Func.isWrapper; first | (rw [if_pos (by decide +kernel)]; kernel_rfl) | (rw [if_neg (by decide +kernel)]; exact ⟨rfl, rfl⟩))
    (fun os started H enc _ F => by rw [OpenClaim.pre_eq_preRow]; exact lifted os started H enc F)
#print axioms said
end Go.Proofs.YtplfjlcnffcenaaGreat.agreeApplies
