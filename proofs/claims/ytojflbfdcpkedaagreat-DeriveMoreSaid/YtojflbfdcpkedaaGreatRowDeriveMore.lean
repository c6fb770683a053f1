/- The law DeriveMore answers true for every input, whatever the schedule. -/
import Derived.Test.YtojflbfdcpkedaaGreatP6
namespace Go.Proofs.YtojflbfdcpkedaaGreat.deriveMore
open Go.ChangeShapes Go.WideShapes Go.ChangeAt Go.ChangeMaps Go.RowKit Vc
theorem params : Tryz.f7.params = #[25, 5] := by kernel_rfl
theorem results : Tryz.f7.resultTypes = #[4] := by kernel_rfl
theorem readable : ∀ t ∈ Tryz.f7.params.toList, Tryz.prog.readableRec t = true ∧ t < Tryz.prog.types.size := by
  rw [params]
  intro t ht
  simp only [List.mem_cons, List.not_mem_nil, or_false] at ht
  rcases ht with rfl | rfl
  all_goals exact ⟨by kernel_rfl, of_decide_eq_true (by kernel_rfl)⟩
set_option maxRecDepth 100000 in
theorem contract (H : Type) (enc : TypeId × Value → H) (W : World) (base : Nat) (args : Array Value) (ds gs : List (DataW H)) (before : List MemPlace)
    (hval : ∀ (j : Nat) t v, Tryz.f7.params[j]? = some t → args[j]? = some v → Value.okWide Tryz.prog W .any base t v)
    (hW : DataW.Whole enc Tryz.prog Tryz.f7.params.toList Rows.deriveMoreSpec.vars false W args.toList ds gs before) :
    Calls Tryz.prog 7 args W fun e W' => ∃ v, e = .returned v ∧ Rows.deriveMoreSpec.post enc Tryz.prog Tryz.f7 false true false false W args v W' := by
  have hW' := hW
  obtain ⟨p, q, hA0, hV, rfl, hfz, hnd⟩ := hW
  have hA := hA0
  rw [params] at hA hval
  obtain ⟨v0, vs0, d0, ds0, pp0, qq0, hargs, rfl, rfl, g0, r0⟩ := trodAll_cons hA
  obtain ⟨v1, vs1, d1, ds1, pp1, qq1, rfl, rfl, rfl, g1, r1⟩ := trodAll_cons r0
  obtain ⟨rfl, rfl, rfl⟩ := trodAll_nil r1
  obtain rfl : args = #[v0, v1] := by cases args; simp_all
  obtain ⟨rfl, rfl⟩ := trodVars_none hV
  obtain ⟨cs0, rfl, hsz0⟩ := okWide_struct Tryz.underlying25 (hval 0 _ v0 rfl rfl)
  obtain ⟨fu0, hn0⟩ := g0
  obtain ⟨es0, pv0, ty0⟩ := qgE qtt fu0 25 _ _ (by decide) hn0
  obtain ⟨x0, rfl, wx0⟩ := Vc.ty25 _ _ ty0
  have rr0 := qAv pv0
  obtain ⟨fu1, hn1⟩ := g1
  obtain ⟨es1, pv1, ty1⟩ := qgE qtt fu1 5 _ _ (by decide) hn1
  have hc1 : v1.cells = #[v1] := by obtain ⟨_, q⟩ := okWide_int Tryz.underlying5 (hval 1 _ v1 rfl rfl); rw [q]; rfl
  rw [hc1] at pv1
  obtain ⟨x1, rfl, wx1⟩ := Vc.ty5 _ _ ty1
  have rr1 := qCj pv1
  have hr : RRs W L0 ρ0 #[.agg cs0, v1] [.agg [.d (D.sl 1 x0.Programme.length (x0.Programme.flatMap eI)), .d (D.sl 1 x0.Had.length (x0.Had.flatMap eI)), .d (D.int .u16 x0.Day)], .c (.d (D.int .u8 x1))] := ⟨rfl, fun j r hj => by
    cases j with
    | zero => injection hj with hj; subst hj; exact rr0
    | succ j =>
      cases j with
      | zero => injection hj with hj; subst hj; exact rr1
      | succ j =>
        simp at hj⟩
  have hev := q7m x0.Programme x0.Had x0.Day x1
  have hx : ev 7 0 [.agg [.d (D.sl 1 x0.Programme.length (x0.Programme.flatMap eI)), .d (D.sl 1 x0.Had.length (x0.Had.flatMap eI)), .d (D.int .u16 x0.Day)], .c (.d (D.int .u8 x1))] [] = some (.c (.d (.bool true)), []) := by
    refine hev.trans ?_
    change ((_ : Option Bool)).bind _ = _
    exact congrArg (fun o : Option Bool => o.bind fun e => some (R.c (C.d (D.bool e)), ([] : List (Nat × B)))) (qcW x0 wx0 x1 wx1)
  refine (qqy hx hr).mono fun e W' h => ?_
  obtain ⟨rfl, hb⟩ := h
  exact ⟨_, rfl, qrs quT readable results Tryz.underlying4 rfl rfl rfl rfl hW' hb⟩
noncomputable def laidWorld (os : Os) : World := World.holding Tryz.prog os ⟨#[], #[], []⟩
theorem laid_met (os : Os) : laidMet Tryz.prog Rows.deriveMoreRow.laid ((laidWorld os).forCall (fun _ _ => 0) ⟨#[], #[.agg #[.slice none 0 0, .slice none 0 0, .int .u16 0], .int .u8 0], []⟩).memory :=
  laidMet_of_run' 8 (by kernel_rfl) (by kernel_rfl)
theorem reads (os : Os) {H : Type} (enc : TypeId × Value → H) : ∃ places, DataW.whole enc Tryz.prog ((laidWorld os).forCall (fun _ _ => 0) ⟨#[], #[.agg #[.slice none 0 0, .slice none 0 0, .int .u16 0], .int .u8 0], []⟩).memory Tryz.f7.params.toList Rows.deriveMoreSpec.vars false (#[.agg #[.slice none 0 0, .slice none 0 0, .int .u16 0], .int .u8 0] : Array Value).toList 8 = some ([.agg [.nil, .nil, .lit (.int .u16 0)], .lit (.int .u8 0)], [], places) :=
  ⟨[], by kernel_rfl⟩
set_option maxRecDepth 100000 in
theorem lifted (os : Os) (started : os.Started) (H : Type) (enc : TypeId × Value → H) (F : Stop.Interp) :
    ReturnsInHanded {} Tryz.checked os 7 .any ((OpenSpec.ofChange Rows.deriveMoreSpec).preRow enc Tryz.prog Tryz.f7 Rows.deriveMoreRow.domain false Rows.deriveMoreRow.laid) (((OpenSpec.ofChange Rows.deriveMoreSpec).at F).post enc Tryz.prog Tryz.f7 false true false false) := by
  obtain ⟨places, hx⟩ := reads os enc
  refine returnsInHanded_of_row (C := Tryz.checked) (s := OpenSpec.ofChange Rows.deriveMoreSpec) own started (by kernel_rfl) Tryz.func7
    (witness_row_at (enc := enc) (C := Tryz.checked) false (laidWorld os) #[.agg #[.slice none 0 0, .slice none 0 0, .int .u16 0], .int .u8 0] rfl (by kernel_rfl) (by kernel_rfl) (by kernel_rfl)
      (OpenSpec.preRow_of_cond 8 hx (by kernel_rfl) (fun k hk => by cases hk) (by kernel_rfl) (laid_met os))) ?_
  intro W base args ds gs before hval hW _ _ _ hL _ _
  exact contract H enc W base args ds gs before hval hW
theorem said : Rows.DeriveMoreSaid :=
  OpenClaim.holds_of_cond 7 Tryz.f7 rfl rfl rfl rfl rfl rfl rfl ⟨rfl, rfl, rfl, rfl, rfl⟩ rfl rfl rfl rfl rfl (by kernel_rfl) Tryz.func7 (by kernel_rfl)
    (of_decide_eq_true (by kernel_rfl)) (by unfold Func.isWrapper; first | (rw [if_pos (by decide +kernel)]; kernel_rfl) | (rw [if_neg (by decide +kernel)]; exact ⟨rfl, rfl⟩))
    (fun os started H enc _ F => by rw [OpenClaim.pre_eq_preRow]; exact lifted os started H enc F)
#print axioms said
end Go.Proofs.YtojflbfdcpkedaaGreat.deriveMore
