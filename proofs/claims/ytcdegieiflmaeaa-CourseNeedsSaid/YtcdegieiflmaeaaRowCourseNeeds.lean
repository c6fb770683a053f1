/- The law CourseNeeds answers true for every input, whatever the schedule. -/
import Derived.Test.YtcdegieiflmaeaaC5
namespace Go.Proofs.Ytcdegieiflmaeaa.courseNeeds
open Go.ChangeShapes Go.WideShapes Go.ChangeAt Go.ChangeMaps Go.RowKit Vc
theorem params : Try.f4.params = #[22, 24, 25] := by kernel_rfl
theorem results : Try.f4.resultTypes = #[4] := by kernel_rfl
theorem readable : ∀ t ∈ Try.f4.params.toList, Try.prog.readableRec t = true ∧ t < Try.prog.types.size := by
  rw [params]
  intro t ht
  simp only [List.mem_cons, List.not_mem_nil, or_false] at ht
  rcases ht with rfl | rfl | rfl
  all_goals exact ⟨by kernel_rfl, of_decide_eq_true (by kernel_rfl)⟩
set_option maxRecDepth 100000 in
theorem contract (H : Type) (enc : TypeId × Value → H) (W : World) (base : Nat) (args : Array Value) (ds gs : List (DataW H)) (before : List MemPlace)
    (hval : ∀ (j : Nat) t v, Try.f4.params[j]? = some t → args[j]? = some v → Value.okWide Try.prog W .any base t v)
    (hW : DataW.Whole enc Try.prog Try.f4.params.toList Rows.courseNeedsSpec.vars false W args.toList ds gs before) :
    Calls Try.prog 4 args W fun e W' => ∃ v, e = .returned v ∧ Rows.courseNeedsSpec.post enc Try.prog Try.f4 false true false false W args v W' := by
  have hW' := hW
  obtain ⟨p, q, hA0, hV, rfl, hfz, hnd⟩ := hW
  have hA := hA0
  rw [params] at hA hval
  obtain ⟨v0, vs0, d0, ds0, pp0, qq0, hargs, rfl, rfl, g0, r0⟩ := trodAll_cons hA
  obtain ⟨v1, vs1, d1, ds1, pp1, qq1, rfl, rfl, rfl, g1, r1⟩ := trodAll_cons r0
  obtain ⟨v2, vs2, d2, ds2, pp2, qq2, rfl, rfl, rfl, g2, r2⟩ := trodAll_cons r1
  obtain ⟨rfl, rfl, rfl⟩ := trodAll_nil r2
  obtain rfl : args = #[v0, v1, v2] := by cases args; simp_all
  obtain ⟨rfl, rfl⟩ := trodVars_none hV
  obtain ⟨fu0, hn0⟩ := g0
  obtain ⟨es0, pv0, ty0⟩ := q64 qcd fu0 22 _ _ (by decide) hn0
  have hc0 : v0.cells = #[v0] := by obtain ⟨_, _, _, q⟩ := okWide_slice Try.underlying22 (hval 0 _ v0 rfl rfl); rw [q]; rfl
  rw [hc0] at pv0
  obtain ⟨x0, rfl, wx0⟩ := Vc.ty22 _ _ ty0
  have rr0 := qic pv0
  obtain ⟨cs1, rfl, hsz1⟩ := q6P Try.underlying24 (hval 1 _ v1 rfl rfl)
  obtain ⟨fu1, hn1⟩ := g1
  obtain ⟨es1, pv1, ty1⟩ := q64 qcd fu1 24 _ _ (by decide) hn1
  obtain ⟨x1, rfl, wx1⟩ := Vc.ty24 _ _ ty1
  have rr1 := qlK pv1
  obtain ⟨fu2, hn2⟩ := g2
  obtain ⟨es2, pv2, ty2⟩ := q64 qcd fu2 25 _ _ (by decide) hn2
  have hc2 : v2.cells = #[v2] := by obtain ⟨_, _, _, q⟩ := okWide_slice Try.underlying25 (hval 2 _ v2 rfl rfl); rw [q]; rfl
  rw [hc2] at pv2
  obtain ⟨x2, rfl, wx2⟩ := Vc.ty25 _ _ ty2
  have rr2 := qic pv2
  have hr : RRs W L0 ρ0 #[v0, .agg cs1, v2] [.c (.d (D.sl 1 x0.length (x0.flatMap eI))), .agg [.d (D.int .i64 x1.a0.a0), .d (D.int .i64 x1.a0.a1), .d (D.int .i64 x1.a0.a2), .d (D.int .i64 x1.a1.a0), .d (D.int .i64 x1.a1.a1), .d (D.int .i64 x1.a1.a2)], .c (.d (D.sl 5 x2.length (x2.flatMap qb)))] := ⟨rfl, fun j r hj => by
    cases j with
    | zero => injection hj with hj; subst hj; exact rr0
    | succ j =>
      cases j with
      | zero => injection hj with hj; subst hj; exact rr1
      | succ j =>
        cases j with
        | zero => injection hj with hj; subst hj; exact rr2
        | succ j =>
          simp at hj⟩
  have hev := q1j x0 x1.a0.a0 x1.a0.a1 x1.a0.a2 x1.a1.a0 x1.a1.a1 x1.a1.a2 x2
  have hx : ev 4 0 [.c (.d (D.sl 1 x0.length (x0.flatMap eI))), .agg [.d (D.int .i64 x1.a0.a0), .d (D.int .i64 x1.a0.a1), .d (D.int .i64 x1.a0.a2), .d (D.int .i64 x1.a1.a0), .d (D.int .i64 x1.a1.a1), .d (D.int .i64 x1.a1.a2)], .c (.d (D.sl 5 x2.length (x2.flatMap qb)))] [] = some (.c (.d (.bool true)), []) := by
    refine hev.trans ?_
    change ((_ : Option Bool)).bind _ = _
    exact congrArg (fun o : Option Bool => o.bind fun e => some (R.c (C.d (D.bool e)), ([] : List (Nat × B)))) (q5r x0 wx0 x1 wx1 x2 wx2)
  refine (qgY hx hr).mono fun e W' h => ?_
  obtain ⟨rfl, hb⟩ := h
  exact ⟨_, rfl, qgt qkt readable results Try.underlying4 rfl rfl rfl rfl hW' hb⟩
noncomputable def laidWorld (os : Os) : World := World.holding Try.prog os ⟨#[], #[], []⟩
theorem laid_met (os : Os) : laidMet Try.prog Rows.courseNeedsRow.laid ((laidWorld os).forCall (fun _ _ => 0) ⟨#[], #[.slice none 0 0, .agg #[.int .i64 0, .int .i64 0, .int .i64 0, .int .i64 0, .int .i64 0, .int .i64 0], .slice none 0 0], []⟩).memory :=
  laidMet_of_run' 8 (by kernel_rfl) (by kernel_rfl)
theorem reads (os : Os) {H : Type} (enc : TypeId × Value → H) : ∃ places, DataW.whole enc Try.prog ((laidWorld os).forCall (fun _ _ => 0) ⟨#[], #[.slice none 0 0, .agg #[.int .i64 0, .int .i64 0, .int .i64 0, .int .i64 0, .int .i64 0, .int .i64 0], .slice none 0 0], []⟩).memory Try.f4.params.toList Rows.courseNeedsSpec.vars false (#[.slice none 0 0, .agg #[.int .i64 0, .int .i64 0, .int .i64 0, .int .i64 0, .int .i64 0, .int .i64 0], .slice none 0 0] : Array Value).toList 8 = some ([.nil, .agg [.agg [.lit (.int .i64 0), .lit (.int .i64 0), .lit (.int .i64 0)], .agg [.lit (.int .i64 0), .lit (.int .i64 0), .lit (.int .i64 0)]], .nil], [], places) :=
  ⟨[], by kernel_rfl⟩
set_option maxRecDepth 100000 in
theorem lifted (os : Os) (started : os.Started) (H : Type) (enc : TypeId × Value → H) (F : Stop.Interp) :
    ReturnsInHanded {} Try.checked os 4 .any ((OpenSpec.ofChange Rows.courseNeedsSpec).preRow enc Try.prog Try.f4 Rows.courseNeedsRow.domain false Rows.courseNeedsRow.laid) (((OpenSpec.ofChange Rows.courseNeedsSpec).at F).post enc Try.prog Try.f4 false true false false) := by
  obtain ⟨places, hx⟩ := reads os enc
  refine returnsInHanded_of_row (C := Try.checked) (s := OpenSpec.ofChange Rows.courseNeedsSpec) own started (by kernel_rfl) Try.func4
    (witness_row_at (enc := enc) (C := Try.checked) false (laidWorld os) #[.slice none 0 0, .agg #[.int .i64 0, .int .i64 0, .int .i64 0, .int .i64 0, .int .i64 0, .int .i64 0], .slice none 0 0] rfl (by kernel_rfl) (by kernel_rfl) (by kernel_rfl)
      (OpenSpec.preRow_of_cond 8 hx (by kernel_rfl) (fun k hk => by cases hk) (by kernel_rfl) (laid_met os))) ?_
  intro W base args ds gs before hval hW _ _ _ hL _ _
  exact contract H enc W base args ds gs before hval hW
theorem said : Rows.CourseNeedsSaid :=
  OpenClaim.holds_of_cond 4 Try.f4 rfl rfl rfl rfl rfl rfl rfl ⟨rfl, rfl, rfl, rfl, rfl⟩ rfl rfl rfl rfl rfl (by kernel_rfl) Try.func4 (by kernel_rfl)
    (of_decide_eq_true (by kernel_rfl)) (by unfold Func.isWrapper; first | (rw [if_pos (by decide +kernel)]; kernel_rfl) | (rw [if_neg (by decide +kernel)]; exact ⟨rfl, rfl⟩))
    (fun os started H enc _ F => by rw [OpenClaim.pre_eq_preRow]; exact lifted os started H enc F)
#print axioms said
end Go.Proofs.Ytcdegieiflmaeaa.courseNeeds
