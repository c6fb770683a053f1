/- Part 3 of a proof. -/
import Derived.Test.YtgejdfnidjnjcaaM2
import Derived.Test.YtgejdfnidjnjcaaProg
import Derived.TacticsInMore
import Derived.Below
set_option linter.unusedVariables false
set_option linter.unusedSimpArgs false
set_option linter.defProp false
set_option linter.unusedSectionVars false
set_option linter.unnecessarySimpa false
namespace Go.Proofs.Ytgejdfnidjnjcaa.Vc
open Go.RowKit
def Nb (s : S) : Prop := ∀ i, s.live i → i < s.nx
structure Stp (P : Program) (ops : List Oper) (o : Oper) (s s' : S) (x : Tx) : Prop where
  run : ∃ b, gd ops s o.guard = some b ∧ (b = false → x = ((.tup [], []), ⟨[], [], [], [], []⟩)) ∧ (b = true → Nb s → Loc P o s x.1.1 x.1.2 x.2)
  eff : qiw x.2 s → (∀ d, s'.get d = if o.dst = some d then x.1.1 else if d ∈ x.2.ks then .any else s.get d) ∧ ∀ i, s'.blk i = lk x.1.2 i (s.blk i)
  n : s'.n = s.n
  dst : ∀ d, o.dst = some d → d < s.n
  us : ∀ u ∈ x.1.2, u.1 ∈ x.2.wb
  nb : Nb s → Nb s'
  nwp : x.2.nw = [] ∨ x.2.nw = [s.nx]
section
variable {P : Program} {T : Ty} {po : Pol} {E : Orc} {ops : List Oper} {o : Oper} {s s' : S} {x : Tx}
theorem Nb.put (h : Nb s) (d : Option Nat) (r : R) : Nb (s.put d r) := fun i hi => by
  rw [S.put_nx]; refine h i ?_; unfold S.live at hi ⊢; rwa [S.put_blk] at hi
theorem qlT {us : List (Nat × B)} {i : Nat} {z : B} (h : (lk us i z).live = true) : (∃ u ∈ us, u.1 = i) ∨ z.live = true := by
  induction us with
  | nil => exact .inr h
  | cons y us ih =>
    obtain ⟨j, b⟩ := y
    simp only [lk] at h
    split at h
    · rename_i hj; exact .inl ⟨_, List.mem_cons_self, hj⟩
    · rcases ih h with ⟨u, hu, he⟩ | h
      · exact .inl ⟨u, List.mem_cons_of_mem _ hu, he⟩
      · exact .inr h
theorem Nb.up (h : Nb s) (us : List (Nat × B)) : Nb (s.up us) := fun i hi => by
  unfold S.live at hi
  rw [q7O] at hi
  have hx := q5P us s.nx
  rcases qlT hi with ⟨u, hu, rfl⟩ | h1
  · exact hx.2 u hu
  · exact Nat.lt_of_lt_of_le (h i h1) hx.1
theorem Nb.fgL (h : Nb s) (X : List Nat) : Nb (s.fgL X) := fun i hi => by rw [qbt]; exact h i ((S.fgL_live s X i).1 hi)
theorem Nb.dead (h : Nb s) : s.blk s.nx = .dead := B.dead_of fun hl => by have := h s.nx hl; omega
theorem qkd {s1 : S} (wb : List Nat) (i : Nat) (h : i ∉ wb → s1.blk i = s.blk i) : s1.blk i = lk (wb.map fun x => (x, s1.blk x)) i (s.blk i) := by
  rw [q6u (fun x => s1.blk x)]
  split
  · rfl
  · rename_i hn; exact h hn
theorem qm0 {sel : List Nat} {k : Nat} {hp : List (Nat × B)} (hnx : (s.aft sel k hp).nx = s.nx) {i : Nat} (hi : i ∉ sel) : (s.aft sel k hp).blk i = (s.fgL (sel.drop k)).blk i := by
  have hus : ∀ u ∈ hp.map (fun x => (ren sel s.nx x.1, x.2.rn (ren sel s.nx))) ++ sel.map (fun i => (i, B.dead)), u.1 < s.nx := by
    refine q9F ?_
    have : (s.aft sel k hp).nx = (hp.map (fun x => (ren sel s.nx x.1, x.2.rn (ren sel s.nx))) ++ sel.map (fun i => (i, B.dead))).foldl (fun m u => max m (u.1 + 1)) (s.fgL (sel.drop k)).nx := rfl
    rw [qbt] at this
    rw [← this]; exact hnx
  have e1 : (s.aft sel k hp).blk i = lk (hp.map (fun x => (ren sel s.nx x.1, x.2.rn (ren sel s.nx))) ++ sel.map (fun i => (i, B.dead))) i ((s.fgL (sel.drop k)).blk i) := q7O _ _ i
  rw [e1]
  refine q1f _ i _ (fun b hb => ?_)
  rcases List.mem_append.1 hb with hb | hb
  · obtain ⟨y, hy, he⟩ := List.mem_map.1 hb
    injection he with he1 he2
    obtain ⟨j, h1, h2⟩ := qb1 (hus _ (List.mem_append_left _ (List.mem_map.2 ⟨y, hy, rfl⟩)))
    rw [h2] at he1
    exact hi (he1 ▸ List.mem_of_getElem? h1)
  · obtain ⟨y, hy, he⟩ := List.mem_map.1 hb
    injection he with he1 he2
    exact hi (he1 ▸ hy)
theorem qky {sel : List Nat} {k : Nat} {hp : List (Nat × B)} {i : Nat} (hi : i ∉ sel) (hn : i ∉ q6M s.nx (s.aft sel k hp).nx) : (s.aft sel k hp).blk i = (s.fgL (sel.drop k)).blk i := by
  obtain ⟨_, hkeys⟩ := qdq s sel k hp
  have e1 : (s.aft sel k hp).blk i = lk (hp.map (fun x => (ren sel s.nx x.1, x.2.rn (ren sel s.nx))) ++ sel.map (fun i => (i, B.dead))) i ((s.fgL (sel.drop k)).blk i) := q7O _ _ i
  rw [e1]
  refine q1f _ i _ (fun b hb => ?_)
  have hlt : i < s.nx := by
    rcases Nat.lt_or_ge i s.nx with h | h
    · exact h
    · exact absurd (qbw h (hkeys _ hb)) hn
  rcases List.mem_append.1 hb with hb | hb
  · obtain ⟨y, hy, he⟩ := List.mem_map.1 hb
    injection he with he1 he2
    obtain ⟨j, h1, h2⟩ := qb1 (by rw [he1]; exact hlt)
    rw [h2] at he1
    exact hi (he1 ▸ List.mem_of_getElem? h1)
  · obtain ⟨y, hy, he⟩ := List.mem_map.1 hb
    injection he with he1 he2
    exact hi (he1 ▸ hy)
theorem qn0 {s s1 : S} {r : R} {op : Op} {fp : Fp} (h : qit po s s1 r op = some fp) : fp.nw = [] ∨ fp.nw = [s.nx] := by
  unfold qit at h
  split at h
  · injection h with h; subst h; exact .inl rfl
  · split at h
    · split at h
      · injection h with h; subst h; exact .inl rfl
      · cases h
    · injection h with h; subst h; exact .inl rfl
    · unfold qeA at h
      split at h
      · split at h
        · injection h with h; subst h; exact .inl rfl
        · injection h with h; subst h; exact .inl rfl
        · cases h
      · cases h
    · unfold fpC at h
      split at h
      · unfold qoN qr2 at h
        rcases q8T h with ⟨_, rfl⟩ | rfl
        · exact .inl rfl
        · exact .inr rfl
      · cases h
    · cases h
theorem S.kill_get (s : S) (ks : List Nat) (d : Nat) : (s.kill ks).get d = if d ∈ ks then .any else s.get d := by
  show lk (ks.map (fun d => (d, R.any)) ++ s.tm) d .any = _
  rw [q1Y, q6u (fun _ => R.any)]
  rfl
theorem S.kill_blk (s : S) (ks : List Nat) (i : Nat) : (s.kill ks).blk i = s.blk i := rfl
theorem Sim.kill {cx : Cx} {ρ : Pl} {a : Act} {w : World} (h : Sim cx ρ s a w) (ks : List Nat) : Sim cx ρ (s.kill ks) a w := by
  refine ⟨h.hd, h.size, fun i => ?_, h.hp, h.hp0, h.out, h.inj, h.nx, h.kept, h.oldF, h.pin, h.sameF, h.sep⟩
  show RR w _ ρ _ ((s.kill ks).get i)
  rw [S.kill_get]
  split
  · exact .any _
  · exact h.tm i
theorem qfC {fp : Fp} (h : qiw fp s) (d : Nat) (hd : d ∉ fp.ks) : (s.fgL fp.X).get d = s.get d := by
  rw [S.fgL_get]
  rcases h with h | h
  · rw [if_pos h]
  · split
    · rfl
    · exact h.1 d hd
theorem qfn {fp : Fp} (h : qiw fp s) {i : Nat} (hi : i ∉ fp.wb) : (s.fgL fp.X).blk i = s.blk i := by
  rw [S.fgL_blk]
  rcases h with h | h
  · rw [if_pos h]
  · split
    · rfl
    · exact h.2 i hi
theorem qrk {op : Op} {g : FuncId} {rs : List R} (h : alC po s op = some (g, rs)) : ∃ f args ts, op = .call { callee := .value f, args := args, argTypes := ts } ∧ s.ev f = .c (.fn g [] []) ∧ rs = args.toList.map s.ev ∧ rs.all R.dat = true := by
  unfold alC at h
  split at h
  · rename_i f args ts
    split at h
    · rename_i g' hf
      split at h
      · rename_i hc
        injection h with h
        injection h with h1 h2
        subst h1 h2
        exact ⟨f, args, ts, rfl, hf, rfl, hc.2⟩
      · cases h
    · cases h
  · cases h
theorem quM (hA : Ag P T) (hE : Snd P E) {g : FuncId} {rs : List R} (hc : alC po s o.op = some (g, rs)) {z n e : Nat} {cs : List C} {q : R × List (Nat × B)} (hq : E (.fn g) 0 rs [] = some q) (h2 : qqV q = some (z, n, e, cs)) (hnx : s.blk s.nx = .dead) :
    Loc P o s (.c (.own s.nx z 0 n)) [(s.nx, .row e z cs)] ⟨[], [s.nx], [], [], []⟩ := by
  obtain ⟨f, args, ts, ho, hf, hrs, hd⟩ := qrk hc
  intro cx ρ t a w next Q hev hblk _ _ hs hn
  have e1 : t.ev f = s.ev f := hev f (by rw [ho]; simp [Op.operands, Call.operands])
  have e2 : args.toList.map t.ev = args.toList.map s.ev := List.map_congr_left fun y hy => hev y (by rw [ho]; simp only [Op.operands, Call.operands, Array.toList_append]; exact List.mem_append_right _ hy)
  have hb := hblk s.nx (.inr List.mem_cons_self)
  have hl : ¬ t.live s.nx := fun h => by unfold S.live at h; rw [hb, hnx] at h; cases h
  unfold qqV at h2
  split at h2
  · rename_i z0 n0 e0 z1 cs0
    split at h2
    · rename_i hcc
      obtain ⟨rfl, hcs⟩ := hcc
      injection h2 with h2
      injection h2 with i1 i2; injection i2 with i2 i3; injection i3 with i3 i4
      subst i1 i2 i3 i4
      have hac := hE.fn g 0 rs [] _ _ hq
      have hcall : q1g P t g rs (fun r' s'' => r' = .c (.own s.nx z1 0 n0) ∧ s'' = t.up [(s.nx, .row e0 z1 cs0)]) := q1g.fresh hac hd hcs hl ⟨rfl, rfl⟩
      have hox : ox P T t s.nx o.op (fun r' s'' => r' = .c (.own s.nx z1 0 n0) ∧ s'' = t.up [(s.nx, .row e0 z1 cs0)]) := by
        rw [ho]
        unfold ox qix
        exact ⟨g, [], [], e1.trans hf, by rw [List.map_nil, List.nil_append, List.append_nil, e2, ← hrs]; exact hcall⟩
      refine q9l hA hl hs hox ?_
      rintro r'' s'' ρ' v w' ⟨rfl, rfl⟩ g1 g2
      exact hn ρ' (t.up [(s.nx, .row e0 z1 cs0)]) v w' (fun d _ => rfl) (fun x => S.blk_up t s.nx x _) rfl g1 g2
    · cases h2
  · cases h2
theorem qgP (hA : Ag P T) (hE : Snd P E) {act : Bool} (h : xsF P T po E o act s = some (s', x)) :
    (act = false → x = ((.tup [], []), ⟨[], [], [], [], []⟩)) ∧ (act = true → Nb s → Loc P o s x.1.1 x.1.2 x.2) ∧ (Nb s → Nb s') ∧ (qiw x.2 s → (∀ d, s'.get d = if o.dst = some d then x.1.1 else if d ∈ x.2.ks then .any else s.get d) ∧ ∀ i, s'.blk i = lk x.1.2 i (s.blk i)) ∧ s'.n = s.n ∧ (∀ d, o.dst = some d → d < s.n) ∧ (∀ u ∈ x.1.2, u.1 ∈ x.2.wb) ∧ (x.2.nw = [] ∨ x.2.nw = [s.nx]) := by
  unfold xsF at h
  split at h
  · rename_i ha
    subst ha
    cases hal : alC po s o.op with
    | some gr =>
      obtain ⟨g, rs⟩ := gr
      rw [hal] at h
      have h : qst s o ((E (.fn g) 0 rs []).bind qqV) = some (s', x) := h
      unfold qst at h
      obtain ⟨⟨z, n, e, cs⟩, h1, h2⟩ := Option.bind_eq_some_iff.1 h
      obtain ⟨q, h3, h4⟩ := Option.bind_eq_some_iff.1 h1
      split at h2
      · rename_i hd
        injection h2 with h2
        injection h2 with h5 h6
        subst h5 h6
        refine ⟨(fun h => by cases h), fun _ hb => quM hA hE hal h3 h4 hb.dead, fun hb => (hb.up _).put _ _, fun hf => ⟨fun d => ?_, fun i => ?_⟩, S.put_n _ _ _, q51 hd, fun u hu => ?_, .inl rfl⟩
        · rw [S.put_get]; simp only [List.not_mem_nil, if_false]; rfl
        · rw [S.put_blk, S.blk_up]; rfl
        · simp only [List.mem_singleton] at hu; subst hu; exact List.mem_cons_self
      · cases h2
    | none =>
    rw [hal] at h
    replace h : ((xo P T po E s o.op).bind fun q => if qa8 q.2 o.dst = true then (qit po s q.2 q.1 o.op).bind fun fp => some ((q.2.kill fp.ks).put o.dst q.1, (q.1, fp.wb.map fun x => (x, q.2.blk x)), fp) else none) = some (s', x) := h
    obtain ⟨⟨r, s1⟩, h1, h2⟩ := Option.bind_eq_some_iff.1 h
    simp only at h2
    split at h2
    · rename_i hd
      obtain ⟨fp, h3, h4⟩ := Option.bind_eq_some_iff.1 h2
      injection h4 with h4
      injection h4 with h4 h5
      subst h4 h5
      have hcore : (Nb s → Loc P o s r (fp.wb.map fun x => (x, s1.blk x)) fp) ∧ (Nb s → Nb s1) ∧ (qiw fp s → (∀ d, d ∉ fp.ks → s1.get d = s.get d) ∧ ∀ i, i ∉ fp.wb → s1.blk i = s.blk i) ∧ s1.n = s.n := by
        unfold qit at h3
        split at h3
        · rename_i hop
          injection h3 with h3
          subst h3
          have hox := qmK hE (K := fun r' s'' => r' = r ∧ s'' = s1) (qfH hop) h1 ⟨rfl, rfl⟩
          obtain ⟨r', us', ⟨rfl, h6⟩, h7, -⟩ := qeW (t := s) hop (fun _ _ => rfl) (fun _ _ => rfl) hox
          refine ⟨fun hb => qmZ hA hE hop h1 hb.dead, fun hb => h6 ▸ hb.up us', fun _ => ⟨fun d _ => by rw [← h6]; rfl, fun i hi => ?_⟩, by rw [← h6]; rfl⟩
          rcases h7 with rfl | ⟨hal, b, rfl⟩
          · rw [← h6]; rfl
          · rw [← h6, S.blk_up, if_neg]
            rintro rfl
            exact hi (by simp [hal])
        · split at h3
          · rename_i ty y z ho
            split at h3
            · rename_i id off hx
              injection h3 with h3
              subst h3
              rw [ho] at h1
              have h1 : q4o T s ty y z = some (r, s1) := h1
              have hloc := qkk (P := P) hA ho hx h1 (X := [])
              unfold q4o at h1
              rw [hx] at h1
              simp only at h1
              split at h1
              · split at h1
                · obtain ⟨rfl, rfl⟩ := Q9 h1
                  refine ⟨fun _ => hloc, fun hb => hb.up _, fun _ => ⟨fun d _ => rfl, fun i hi => ?_⟩, rfl⟩
                  rw [S.blk_up, if_neg]
                  rintro rfl
                  exact hi List.mem_cons_self
                · cases h1
              · cases h1
            · cases h3
          · rename_i ty y z ho
            injection h3 with h3
            subst h3
            rw [ho] at h1
            have h1 : qce T s ty y z = some (r, s1) := h1
            have hloc := fun hb : Nb s => qmk (P := P) hA ho h1 hb.dead (X := [])
            unfold qce at h1
            split at h1
            · split at h1
              · split at h1
                · obtain ⟨rfl, rfl⟩ := Q9 h1
                  refine ⟨hloc, fun hb => hb.up _, fun _ => ⟨fun d _ => rfl, fun i hi => ?_⟩, rfl⟩
                  rw [S.blk_up, if_neg]
                  rintro rfl
                  exact hi List.mem_cons_self
                · cases h1
              · cases h1
            · cases h1
          · rename_i args ts ho
            obtain ⟨args⟩ := args
            obtain ⟨ts⟩ := ts
            rw [ho] at h1
            have h1 : xCl T po E s { callee := .builtin .append, args := ⟨args⟩, argTypes := ⟨ts⟩ } = some (r, s1) := h1
            match args, ts, h1, h3, ho with
            | [y, z], [t1, t2], h1, h3, ho =>
              simp only [xCl] at h1
              split at h1
              · rename_i ht
                have hloc := fun hb : Nb s => qqk (P := P) hA ho ht h1 h3 hb.dead
                obtain ⟨id, row, hfp, hs1⟩ : ∃ id row, fp = fpA s id z ∧ s1 = (s.fg id).up [(id, row)] := by
                  have hk := q6r (K := fun r' s'' => r' = r ∧ s'' = s1) h1 ⟨rfl, rfl⟩
                  obtain ⟨e, m, ys, q1, q2, q3, q4, q5, q6, q7, q8⟩ := hk
                  simp only [qeA] at h3
                  split at h3
                  · rename_i id sz off n hx
                    injection h3 with h3
                    rw [hx] at q8
                    simp only at q8
                    obtain ⟨p1, p2, cs, p3, p4, p5, p6, p7, p8, p9, p10⟩ := q8
                    exact ⟨_, _, h3.symm, p10.symm⟩
                  · rename_i hx
                    injection h3 with h3
                    rw [hx] at q8
                    simp only at q8
                    obtain ⟨p1, p2, p3, p4, p5⟩ := q8
                    exact ⟨_, _, h3.symm, p5.symm⟩
                  · cases h3
                subst hs1
                have hX : fp.X = [id] := by rw [hfp]; rfl
                refine ⟨hloc, fun hb => Nb.up (s := s.fg id) (fun i hi => hb i ((S.live_fg s id i).1 hi)) _, fun hf => ?_, rfl⟩
                have hf' := hf.resolve_left (by rw [hX]; simp)
                rw [hX] at hf'
                refine ⟨fun d hd => ?_, fun i hi => ?_⟩
                · show (s.fg id).get d = s.get d
                  rw [S.get_fg, ← qsV]; exact hf'.1 d hd
                · rw [S.blk_up, if_neg (fun h => hi (by rw [hfp, ← h]; exact List.mem_cons_self)), S.blk_fg, ← qwf]
                  exact hf'.2 i hi
              · cases h1
          · rename_i f args ts ho
            rw [ho] at h1
            have h1 : q1k po E s f args.toList ts.toList = some (r, s1) := h1
            have hloc := qmv (P := P) hA hE ho h1 h3
            unfold q1k at h1
            unfold fpC at h3
            split at h1
            · rename_i g fs caps hfe
              rw [hfe] at h3
              simp only at h3
              by_cases hno : False
              · exact hno.elim
              · unfold q8d qdn JZ at h1
                unfold qoN qr2 at h3
                generalize q2f s 60 _ _ = l at h1 h3
                generalize List.filter _ _ = ln at h1 h3
                generalize qbJ s l = bl at h1 h3
                generalize q3U s l = rw' at h1 h3
                have hfc := q8T h3
                obtain ⟨rs', g1, h1⟩ := Option.bind_eq_some_iff.1 h1
                obtain ⟨G, g2, h1⟩ := Option.bind_eq_some_iff.1 h1
                split at h1
                · obtain ⟨q, g3, h1⟩ := Option.bind_eq_some_iff.1 h1
                  split at h1
                  · obtain ⟨rfl, rfl⟩ := Q9 h1
                    have hX : (bl ++ rw').drop bl.length = rw' := List.drop_left
                    rcases hfc with ⟨⟨c1, c2, c3⟩, rfl⟩ | rfl
                    · refine ⟨fun _ => hloc, fun hb => (hb.fgL _).up _, fun hf => ⟨fun d hd => ?_, fun i hi => ?_⟩, qiG _ _⟩
                      · show (s.fgL ((bl ++ rw').drop bl.length)).get d = s.get d
                        rw [hX]; exact qfC hf d hd
                      · by_cases his : i ∈ bl ++ rw'
                        · exact (qaq hi his).2
                        · rw [qm0 c1 his, hX]; exact qfn hf hi
                    · refine ⟨fun _ => hloc, fun hb => (hb.fgL _).up _, fun hf => ⟨fun d hd => ?_, fun i hi => ?_⟩, qiG _ _⟩
                      · show (s.fgL ((bl ++ rw').drop bl.length)).get d = s.get d
                        rw [hX]; exact qfC hf d hd
                      · have hi1 : i ∉ wbC s (s.aft (bl ++ rw') bl.length q.2) bl rw' := fun h => hi (List.mem_append_left _ h)
                        by_cases his : i ∈ bl ++ rw'
                        · exact (qaq hi1 his).2
                        · rw [qky his (fun h => hi (List.mem_append_right _ h)), hX]; exact qfn hf hi
                  · cases h1
                · cases h1
            · rename_i rid hfe
              rw [hfe] at h3
              cases h3
            · cases h1
          · cases h3
      obtain ⟨k1, k2, k3, k4⟩ := hcore
      have k5 := qn0 h3
      refine ⟨(fun h => by cases h), fun _ => k1, fun hb => Nb.put (s := s1.kill fp.ks) (fun i hi => k2 hb i hi) _ _, fun hf => ⟨fun d => ?_, fun i => ?_⟩, by rw [S.put_n]; exact k4, fun d hdd => ?_, fun u hu => ?_, k5⟩
      · rw [S.put_get, S.kill_get]
        by_cases hk : d ∈ fp.ks
        · simp only [if_pos hk]
        · simp only [if_neg hk, (k3 hf).1 d hk]
      · rw [S.put_blk, S.kill_blk]; exact qkd fp.wb i ((k3 hf).2 i)
      · have := q51 hd d hdd; rw [k4] at this; exact this
      · obtain ⟨y, hy, he⟩ := List.mem_map.1 hu; rw [← he]; exact hy
    · cases h2
  · rename_i ha
    have ha : act = false := by cases act <;> simp at ha ⊢
    subst ha
    split at h
    · rename_i hd
      injection h with h
      injection h with h1 h2
      subst h1 h2
      refine ⟨fun _ => rfl, (fun h => by cases h), fun hb => hb.put _ _, fun _ => ⟨fun d => by rw [S.put_get]; simp, fun i => by rw [S.put_blk]; rfl⟩, S.put_n _ _ _, q51 hd, fun u hu => by simp at hu, .inl rfl⟩
    · cases h
theorem qq6 (hA : Ag P T) (hE : Snd P E) (h : xgF P T po E ops o s = some (s', x)) : Stp P ops o s s' x := by
  unfold xgF at h
  split at h
  · rename_i hg
    obtain ⟨h1, h2, h3, h4, h5, h6, h7, h8⟩ := qgP hA hE h
    exact ⟨⟨true, by unfold gd; rw [hg], (fun h => by cases h), fun _ hb => h2 rfl hb⟩, h4, h5, h6, h7, h3, h8⟩
  · rename_i j want hg
    split at h
    · rename_i d hd
      split at h
      · rename_i b hb
        -- a slot laid down anew with what it holds
        have key : ∀ (v : Bool) (act : Bool), s.get d = .c (.d (.bool v)) → (v == want) = act → xsF P T po E o act (s.put (some d) (.c (.d (.bool v)))) = some (s', x) → Stp P ops o s s' x := by
          intro v act hv hact hx
          obtain ⟨h1, h2, h3, h4, h5, h6, h7, h8⟩ := qgP hA hE hx
          have hget : ∀ i, (s.put (some d) (.c (.d (.bool v)))).get i = s.get i := fun i => by
            rw [S.put_get]
            split
            · rename_i hi; injection hi with hi; subst hi; exact hv.symm
            · rfl
          have hev : ∀ y, (s.put (some d) (.c (.d (.bool v)))).ev y = s.ev y := fun y => by
            cases y with
            | tmp i => exact hget i
            | _ => rfl
          have hnb : Nb s → Nb (s.put (some d) (.c (.d (.bool v)))) := fun hb => hb.put _ _
          refine ⟨⟨act, by unfold gd; rw [hg]; simp only [hd, hv, hact], h1, fun ha hb => ?_⟩, fun hf => ?_, h5, h6, h7, fun hb => h3 (hnb hb), by rw [S.put_nx] at h8; exact h8⟩
          · have hl := h2 ha (hnb hb)
            intro cx ρ t a w next Q q1 q2 q3 q6 q4 q5
            exact hl cx ρ t a w next Q (fun y hy => (q1 y hy).trans (hev y).symm) (fun i hi => q2 i hi) q3 (fun h x hx => by rw [S.put_nx]; exact q6 h x hx) q4 q5
          · have hf' : qiw x.2 (s.put (some d) (.c (.d (.bool v)))) := by
              rcases hf with hf | hf
              · exact .inl hf
              · exact .inr ⟨fun i hi => by rw [hget]; exact hf.1 i hi, fun i hi => hf.2 i hi⟩
            obtain ⟨e1, e2⟩ := h4 hf'
            exact ⟨fun i => by rw [e1, hget], fun i => e2 i⟩
        split at h
        · rename_i hbt
          subst hbt
          exact key true want hb (by cases want <;> rfl) h
        · rename_i hbt
          have hbf : b = false := by cases b <;> simp at hbt ⊢
          subst hbf
          exact key false (!want) hb (by cases want <;> rfl) h
      · rename_i hb
        obtain ⟨h1, h2, h3, h4, h5, h6, h7, h8⟩ := qgP hA hE h
        exact ⟨⟨false, by unfold gd; rw [hg]; simp only [hd, hb], h1, fun h => by cases h⟩, h4, h5, h6, h7, h3, h8⟩
      · cases h
    · cases h
theorem qfO (hA : Ag P T) (hE : Snd P E) {A : List (List Nat)} {s0 : S} : ∀ (m k : Nat) (l : List Oper) (s s' : S) (acc : List Tx), ops.drop k = l → xdp P T po E ops A s0 m l s acc = some s' →
    ∃ (Sq : Nat → S) (tx : Nat → Tx), Sq 0 = s ∧ (∀ j, j < m → ∃ o, ops[k + j]? = some o ∧ Stp P ops o (Sq j) (Sq (j + 1)) (tx j)) ∧ (okP A 0 [] (acc ++ (List.range m).map tx) = true ∧ okX ops A s0 (acc ++ (List.range m).map tx) 0 (acc ++ (List.range m).map tx) = true ∧ okK ops A (acc ++ (List.range m).map tx) = true ∧ okN (acc ++ (List.range m).map tx) 0 (acc ++ (List.range m).map tx) = true) ∧ xr P T po E ops (ops.drop (k + m)) (Sq m) = some s'
  | 0, k, l, s, s', acc, hl, h => by
    unfold xdp at h
    split at h
    · rename_i hc
      exact ⟨fun _ => s, fun _ => ((.any, []), ⟨[], [], [], [], []⟩), rfl, fun j hj => by omega, by simpa using hc, by rw [Nat.add_zero, hl]; exact h⟩
    · cases h
  | m + 1, k, [], s, s', acc, hl, h => by cases h
  | m + 1, k, o :: l, s, s', acc, hl, h => by
    unfold xdp at h
    obtain ⟨⟨s1, x⟩, h1, h2⟩ := Option.bind_eq_some_iff.1 h
    have hk : ops[k]? = some o := by
      have := List.getElem?_drop (xs := ops) (i := k) (j := 0)
      rw [hl] at this
      simpa using this.symm
    have hl' : ops.drop (k + 1) = l := by
      have := List.drop_drop (l := ops) (i := 1) (j := k)
      rw [hl] at this
      simpa using this.symm
    obtain ⟨Sq, tx, g1, g2, g3, g4⟩ := qfO hA hE m (k + 1) l s1 s' _ hl' h2
    refine ⟨fun j => if j = 0 then s else Sq (j - 1), fun j => if j = 0 then x else tx (j - 1), rfl, fun j hj => ?_, ?_, ?_⟩
    · cases j with
      | zero =>
        refine ⟨o, hk, ?_⟩
        have := qq6 hA hE h1
        simp only [if_true]
        rw [if_neg (by omega), show 0 + 1 - 1 = 0 from rfl, g1]
        exact this
      | succ j =>
        obtain ⟨o', q1, q2⟩ := g2 j (by omega)
        refine ⟨o', by rw [← q1]; congr 1; omega, ?_⟩
        simpa using q2
    · have : acc ++ (List.range (m + 1)).map (fun j => if j = 0 then x else tx (j - 1)) = acc ++ [x] ++ (List.range m).map tx := by
        rw [List.range_succ_eq_map, List.map_cons, List.map_map, List.append_assoc]
        rfl
      rw [this]; exact g3
    · rw [show k + (m + 1) = k + 1 + m by omega]
      simpa using g4
end
end Go.Proofs.Ytgejdfnidjnjcaa.Vc
namespace Go.Proofs.Ytgejdfnidjnjcaa.Vc
open Go.RowKit
def stT (ops : List Oper) (tx : Nat → Tx) (s0 : S) (p : Nat → Bool) : Nat → S
  | 0 => s0
  | i + 1 => if p i = true then (((stT ops tx s0 p i).up (tx i).1.2).kill (tx i).2.ks).put (q5r ops i) (tx i).1.1 else stT ops tx s0 p i
section comb
variable {ops : List Oper} {tx : Nat → Tx} {s0 : S}
theorem q6U {p q : Nat → Bool} {d : Nat} : ∀ k, (∀ i, i < k → q5r ops i = some d ∨ d ∈ (tx i).2.ks → p i = q i) → (stT ops tx s0 p k).get d = (stT ops tx s0 q k).get d
  | 0, _ => rfl
  | k + 1, h => by
    have ih := q6U k (fun i hi => h i (by omega))
    have key : ∀ (p : Nat → Bool), (stT ops tx s0 p (k + 1)).get d = if p k = true then (if q5r ops k = some d then (tx k).1.1 else if d ∈ (tx k).2.ks then .any else (stT ops tx s0 p k).get d) else (stT ops tx s0 p k).get d := fun p => by
      show (if p k = true then _ else _ : S).get d = _
      by_cases hp : p k = true
      · rw [if_pos hp, if_pos hp, S.put_get, S.kill_get, S.up_get]
      · rw [if_neg hp, if_neg hp]
    rw [key, key, ih]
    by_cases hd : q5r ops k = some d ∨ d ∈ (tx k).2.ks
    · rw [h k (by omega) hd]
    · rw [if_neg (fun h => hd (.inl h)), if_neg (fun h => hd (.inr h))]
      split <;> split <;> rfl
theorem q4y {p q : Nat → Bool} {x : Nat} : ∀ k, (∀ i, i < k → (∃ b, (x, b) ∈ (tx i).1.2) → p i = q i) → (stT ops tx s0 p k).blk x = (stT ops tx s0 q k).blk x
  | 0, _ => rfl
  | k + 1, h => by
    have ih := q4y k (fun i hi => h i (by omega))
    have key : ∀ (p : Nat → Bool), (stT ops tx s0 p (k + 1)).blk x = if p k = true then lk (tx k).1.2 x ((stT ops tx s0 p k).blk x) else (stT ops tx s0 p k).blk x := fun p => by
      show (if p k = true then _ else _ : S).blk x = _
      split
      · rw [S.put_blk, S.kill_blk, q7O]
      · rfl
    rw [key, key, ih]
    by_cases hd : ∃ b, (x, b) ∈ (tx k).1.2
    · rw [h k (by omega) hd]
    · rw [q1f _ x _ (fun b hb => hd ⟨b, hb⟩)]
      split <;> split <;> rfl
theorem qgW {p : Nat → Bool} {j : Nat} : ∀ k, j ≤ k → stT ops tx s0 (fun i => p i && decide (i < j)) k = stT ops tx s0 p j
  | 0, h => by
    have : j = 0 := by omega
    subst this; rfl
  | k + 1, h => by
    have heq : ∀ l, l ≤ j → stT ops tx s0 (fun i => p i && decide (i < j)) l = stT ops tx s0 p l := by
      intro l
      induction l with
      | zero => intro _; rfl
      | succ l ih =>
        intro hl
        unfold stT
        rw [ih (by omega)]
        have : decide (l < j) = true := decide_eq_true (by omega)
        simp only [this, Bool.and_true]
    by_cases hj : j = k + 1
    · subst hj; exact heq _ (Nat.le_refl _)
    · have ih := qgW (p := p) (j := j) k (by omega)
      have e1 : ∀ q : Nat → Bool, stT ops tx s0 q (k + 1) = if q k = true then (((stT ops tx s0 q k).up (tx k).1.2).kill (tx k).2.ks).put (q5r ops k) (tx k).1.1 else stT ops tx s0 q k := fun _ => rfl
      rw [e1, if_neg (by simp; omega)]
      exact ih
theorem qdz {α : Type} {Pr : α → Prop} {i : Nat} {z : α} (hz : Pr z) : ∀ {t : List (Nat × α)}, (∀ u ∈ t, u.1 = i → Pr u.2) → Pr (lk t i z)
  | [], _ => hz
  | (j, x) :: t, h => by
    unfold lk
    split
    · rename_i hj; exact h (j, x) List.mem_cons_self hj
    · exact qdz hz (fun u hu => h u (List.mem_cons_of_mem _ hu))
theorem qhU {fp : Fp} (h0 : qrN fp s0 = true) (p : Nat → Bool) : ∀ k, (∀ i, i < k → p i = true → qg4 ops fp i (tx i) = true) → (∀ d, d ∉ fp.ks → ((stT ops tx s0 p k).get d).fgL fp.X = (stT ops tx s0 p k).get d) ∧ ∀ x, x ∉ fp.wb → ((stT ops tx s0 p k).blk x).fgL fp.X = (stT ops tx s0 p k).blk x
  | 0, _ => by
    simp only [qrN, Bool.and_eq_true, List.all_eq_true, Bool.or_eq_true] at h0
    refine ⟨fun d hd => ?_, fun x hx => ?_⟩
    · refine qdz (Pr := fun r : R => r.fgL fp.X = r) rfl (fun u hu he => ?_)
      rcases h0.1 u hu with h | h
      · exact absurd (by simpa using h) (he ▸ hd)
      · exact qtN h
    · refine qdz (Pr := fun r : B => r.fgL fp.X = r) rfl (fun u hu he => ?_)
      rcases h0.2 u hu with h | h
      · exact absurd (by simpa using h) (he ▸ hx)
      · exact qvp h
  | k + 1, h1 => by
    obtain ⟨g1, g2⟩ := qhU h0 p k (fun i hi => h1 i (by omega))
    unfold stT
    split
    · rename_i hp
      have hx := h1 k (by omega) hp
      simp only [qg4, Bool.and_eq_true, List.all_eq_true, Bool.or_eq_true] at hx
      refine ⟨fun d hdk => ?_, fun x hxw => ?_⟩
      · rw [S.put_get, S.kill_get, S.up_get]
        split
        · rename_i hd
          rcases hx.1 with h | h
          · exact qtN h
          · rw [hd] at h
            exact absurd (by simpa using h) hdk
        · split
          · rfl
          · exact g1 d hdk
      · rw [S.put_blk, S.kill_blk, q7O]
        refine qdz (Pr := fun r : B => r.fgL fp.X = r) (g2 x hxw) (fun u hu he => ?_)
        rcases hx.2 u hu with h | h
        · exact absurd (by simpa using h) (he ▸ hxw)
        · exact qvp h
    · exact ⟨g1, g2⟩
theorem qgx {A : List (List Nat)} {fp : Fp} {j : Nat} : ∀ {l : List Tx} {i : Nat}, qn2 ops A fp j i l = true → ∀ (k : Nat) (y : Tx), l[k]? = some y → i + k = j ∨ j ∈ A.getD (i + k) [] ∨ qg4 ops fp (i + k) y = true
  | [], i, _, k, y, hk => by simp at hk
  | x :: l, i, h, k, y, hk => by
    simp only [qn2, Bool.and_eq_true, Bool.or_eq_true, beq_iff_eq, List.contains_iff_mem] at h
    cases k with
    | zero =>
      simp only [List.getElem?_cons_zero, Option.some.injEq] at hk
      subst hk
      rcases h.1 with (h | h) | h
      · exact .inl h
      · exact .inr (.inl h)
      · exact .inr (.inr h)
    | succ k =>
      have := qgx h.2 k y (by simpa using hk)
      rw [show i + 1 + k = i + (k + 1) by omega] at this
      exact this
theorem qle {A : List (List Nat)} {l0 : List Tx} : ∀ {l : List Tx} {j : Nat}, okX ops A s0 l0 j l = true → ∀ (k : Nat) (x : Tx), l[k]? = some x → x.2.X = [] ∨ (qrN x.2 s0 = true ∧ qn2 ops A x.2 (j + k) 0 l0 = true)
  | [], j, _, k, x, hk => by simp at hk
  | y :: l, j, h, k, x, hk => by
    simp only [okX, Bool.and_eq_true] at h
    cases k with
    | zero =>
      simp only [List.getElem?_cons_zero, Option.some.injEq] at hk
      subst hk
      have h1 := h.1
      split at h1
      · rename_i he; exact .inl (by simpa using he)
      · simp only [Bool.and_eq_true] at h1; exact .inr h1
    | succ k =>
      have := qle h.2 k x (by simpa using hk)
      rw [show j + 1 + k = j + (k + 1) by omega] at this
      exact this
theorem qh0 {A : List (List Nat)} {j : Nat} {y : Tx} : ∀ {l : List Tx} {i : Nat}, qmJ ops A j y i l = true → ∀ (k : Nat) (x : Tx), l[k]? = some x → i + k < j → q61 ops (i + k) j x y = true → i + k ∈ A.getD j []
  | [], i, _, k, x, hk => by simp at hk
  | z :: l, i, h, k, x, hk => by
    simp only [qmJ, Bool.and_eq_true, Bool.or_eq_true, Bool.not_eq_true', List.contains_iff_mem, decide_eq_false_iff_not] at h
    cases k with
    | zero =>
      simp only [List.getElem?_cons_zero, Option.some.injEq] at hk
      subst hk
      intro h1 h2
      rcases h.1 with (h | h) | h
      · exact absurd h1 h
      · rw [Nat.add_zero] at h2; rw [h] at h2; cases h2
      · exact h
    | succ k =>
      have := qh0 h.2 k x (by simpa using hk)
      rw [show i + 1 + k = i + (k + 1) by omega] at this
      exact this
theorem qga {A : List (List Nat)} {l0 : List Tx} : ∀ {l : List Tx} {j : Nat}, qnL ops A l0 j l = true → ∀ (k : Nat) (y : Tx), l[k]? = some y → qmJ ops A (j + k) y 0 l0 = true
  | [], j, _, k, y, hk => by simp at hk
  | z :: l, j, h, k, y, hk => by
    simp only [qnL, Bool.and_eq_true] at h
    cases k with
    | zero => simp only [List.getElem?_cons_zero, Option.some.injEq] at hk; subst hk; exact h.1
    | succ k =>
      have := qga h.2 k y (by simpa using hk)
      rw [show j + 1 + k = j + (k + 1) by omega] at this
      exact this
theorem qnW {A : List (List Nat)} {l : List Tx} (h : okK ops A l = true) {i j : Nat} {x y : Tx} (hij : i < j) (hx : l[i]? = some x) (hy : l[j]? = some y) (hc : q61 ops i j x y = true) : i ∈ A.getD j [] := by
  unfold okK at h
  rw [Bool.or_eq_true] at h
  rcases h with h | h
  · rw [List.all_eq_true] at h
    have h1 := h x (List.mem_of_getElem? hx)
    have h2 := h y (List.mem_of_getElem? hy)
    rw [List.isEmpty_iff] at h1 h2
    unfold q61 at hc
    rw [h1, h2] at hc
    cases hc
  · have h1 := qga h j y hy
    rw [Nat.zero_add] at h1
    have h2 := qh0 h1 i x hx
    rw [Nat.zero_add] at h2
    exact h2 hij hc
theorem qb7 {i d : Nat} {o : Oper} (ho : ops[i]? = some o) (h : d ∈ q2J ops o ∨ o.dst = some d) : (qi6 ops i).contains d = true := by
  unfold qi6
  rw [ho]
  simp only [List.contains_iff_mem, List.mem_append]
  rcases h with h | h
  · exact .inl h
  · exact .inr (by rw [h]; simp)
theorem qea {a b : Fp} (h : a.none? = true) : q3y a b = false := by
  simp only [Fp.none?, Bool.and_eq_true, List.isEmpty_iff] at h
  simp [q3y, h.1, h.2]
theorem qkQ {A : List (List Nat)} : ∀ {l : List Tx} {j : Nat} {prev : List (Nat × Fp)}, okP A j prev l = true →
    (∀ (k : Nat) (x : Tx), l[k]? = some x → (∀ q ∈ prev, q3y q.2 x.2 = true → q.1 ∈ A.getD (j + k) []) ∧ ∀ (i : Nat) (y : Tx), i < k → l[i]? = some y → q3y y.2 x.2 = true → j + i ∈ A.getD (j + k) [])
  | [], j, prev, _, k, x, hk => by simp at hk
  | x0 :: l, j, prev, h, k, x, hk => by
    simp only [okP, Bool.and_eq_true, List.all_eq_true] at h
    cases k with
    | zero =>
      simp only [List.getElem?_cons_zero, Option.some.injEq] at hk
      subst hk
      refine ⟨fun q hq hc => ?_, fun i y hi => by omega⟩
      have h1 := h.1 q hq
      rw [if_pos hc] at h1
      simpa using h1
    | succ k =>
      obtain ⟨g1, g2⟩ := qkQ h.2 k x (by simpa using hk)
      have e1 : j + 1 + k = j + (k + 1) := by omega
      rw [e1] at g1 g2
      refine ⟨fun q hq hc => ?_, fun i y hi hy hc => ?_⟩
      · refine g1 q ?_ hc
        split
        · exact hq
        · exact List.mem_cons_of_mem _ hq
      · cases i with
        | zero =>
          simp only [List.getElem?_cons_zero, Option.some.injEq] at hy
          subst hy
          by_cases hn : x0.2.none? = true
          · rw [qea hn] at hc; cases hc
          · refine g1 (j, x0.2) ?_ hc
            rw [if_neg hn]; exact List.mem_cons_self
        | succ i =>
          have := g2 i y (by omega) (by simpa using hy) hc
          rw [show j + (i + 1) = j + 1 + i by omega]; exact this
end comb
section
variable {P : Program} {T : Ty} {po : Pol} {E : Orc} {cx : Cx}
theorem qoM (hA : Ag P T) (hE : Snd P E) {ops : Array Oper} {Q : Exit → Act → World → Prop} {q : Nat} {o : Oper} {s s' : S} {ρ : Pl} {a : Act} {w : World} (hq : ops[q]? = some o) (hs : Sim cx ρ s a w) (h : xr P T po E ops.toList (ops.toList.drop q) s = some s') :
    wpOpIn (FW cx.ro) 0 P ops Q q (fun a' w' => ∃ ρ' s1, Sim cx ρ' s1 a' w' ∧ xr P T po E ops.toList (ops.toList.drop (q + 1)) s1 = some s') a w := by
  have hd : ops.toList.drop q = o :: ops.toList.drop (q + 1) := by
    have hlt : q < ops.toList.length := by have := (Array.getElem?_eq_some_iff.1 hq).1; simpa using this
    rw [List.drop_eq_getElem_cons hlt]
    congr 1
    have := (Array.getElem?_eq_some_iff.1 hq).2
    simpa using this
  rw [hd] at h
  unfold xr at h
  obtain ⟨s1, h1, h2⟩ := Option.bind_eq_some_iff.1 h
  unfold wpOpIn
  rw [hq]
  simp only
  have key : ∀ (s0 : S) (act : Bool), Sim cx ρ s0 a w → Region.wanted o (yielded ops a.tmps) = act → xst P T po E o act s0 = some s1 →
      if Region.wanted o (yielded ops a.tmps) = true then o.wpIn (FW cx.ro) 0 P a w (fun a' w' => ∃ ρ' s1, Sim cx ρ' s1 a' w' ∧ xr P T po E ops.toList (ops.toList.drop (q + 1)) s1 = some s') Q else (∀ f, o.about P w a.eval = some f → (FW cx.ro).fn f) ∧ (fun a' w' => ∃ ρ' s1, Sim cx ρ' s1 a' w' ∧ xr P T po E ops.toList (ops.toList.drop (q + 1)) s1 = some s') (a.put o.dst undef) w := by
    intro s0 act h3 h4 h5
    have := qkT (next := fun a' w' => ∃ ρ' s1, Sim cx ρ' s1 a' w' ∧ xr P T po E ops.toList (ops.toList.drop (q + 1)) s1 = some s') (Q := Q) hA hE h3 h5 (fun ρ' a' w' h6 => ⟨ρ', s1, h6, h2⟩)
    rw [h4]
    split
    · rename_i ha; rw [if_pos ha] at this; exact this
    · rename_i ha; rw [if_neg ha] at this; exact ⟨qaj, this⟩
  unfold xgd at h1
  cases hi : ipX T s o with
  | some y =>
    rw [hi] at h1
    replace h1 : y = some s1 := h1
    subst h1
    obtain ⟨i1, i2⟩ := qkI (next := fun a' w' => ∃ ρ' s1, Sim cx ρ' s1 a' w' ∧ xr P T po E ops.toList (List.drop (q + 1) ops.toList) s1 = some s') (Q := Q) hA hs hi (fun ρ' a' w' h6 => ⟨ρ', _, h6, h2⟩)
    rw [if_pos (by unfold Region.wanted; rw [i1])]
    exact i2
  | none =>
  rw [hi] at h1
  replace h1 : qcQ P T po E ops.toList o s = some s1 := h1
  unfold qcQ at h1
  split at h1
  · rename_i hg
    exact key s true hs (by unfold Region.wanted; rw [hg]) h1
  · rename_i j want hg
    split at h1
    · rename_i d hd
      split at h1
      · rename_i b hb
        have hgd : gd ops.toList s o.guard = some (b == want) := by unfold gd; rw [hg]; simp only [hd, hb]
        have hw := q1X hs hgd
        split at h1
        · rename_i hbt
          subst hbt
          exact key _ want (hs.lit hb) (by rw [hw]; cases want <;> rfl) h1
        · rename_i hbf
          have hbf : b = false := by cases b <;> simp at hbf ⊢
          subst hbf
          exact key _ (!want) (hs.lit hb) (by rw [hw]; cases want <;> rfl) h1
      · rename_i hb
        have hgd : gd ops.toList s o.guard = some false := by unfold gd; rw [hg]; simp only [hd, hb]
        exact key s false hs (q1X hs hgd) h1
      · cases h1
    · cases h1
theorem qh7 {lim i : Nat} : ∀ {l : List Tx} {j : Nat}, qrM lim i j l = true → ∀ (k : Nat) (x : Tx), l[k]? = some x → i ≠ j + k → ∀ u ∈ x.1.2, u.1 < lim
  | [], _, _, k, x, hk => by simp at hk
  | y :: l, j, h, k, x, hk => by
    unfold qrM at h
    rw [Bool.and_eq_true] at h
    intro hne u hu
    cases k with
    | zero =>
      simp only [List.getElem?_cons_zero, Option.some.injEq] at hk
      subst hk
      have h1 := h.1
      rw [Bool.or_eq_true] at h1
      rcases h1 with h1 | h1
      · exact absurd (by simpa using h1) hne
      · have := List.all_eq_true.1 h1 u hu
        rwa [Nat.blt_eq] at this
    | succ k => exact qh7 h.2 k x (by simpa using hk) (by omega) u hu
theorem qkD {L : List Tx} : ∀ {l : List Tx} {j : Nat}, okN L j l = true → ∀ (k : Nat) (x : Tx), l[k]? = some x → ∀ lim, x.2.nw = [lim] → qrM lim (j + k) 0 L = true
  | [], _, _, k, x, hk => by simp at hk
  | y :: l, j, h, k, x, hk => by
    unfold okN at h
    rw [Bool.and_eq_true] at h
    intro lim hl
    cases k with
    | zero =>
      simp only [List.getElem?_cons_zero, Option.some.injEq] at hk
      subst hk
      have h1 := h.1
      rw [hl] at h1
      exact h1
    | succ k =>
      have := qkD h.2 k x (by simpa using hk) lim hl
      rwa [show j + 1 + k = j + (k + 1) by omega] at this
theorem qtb (hA : Ag P T) (hE : Snd P E) {id : Nat} {ops : Array Oper} {Q' : Exit → S → Prop} {s s' : S} {m : Nat} {A : List (List Nat)} (hm : P.follows .mixedOrders = true) (hchk : qnl ops.toList m A = true)
    (h : xdp P T po E ops.toList A s m ops.toList s [] = some s') (hQ : Q' .normal s') : J P cx (.region id ops true) Q' s := by
  intro ρ a w hs
  obtain ⟨Sq, tx, r0, r1, ⟨r2, r3, rk, rn⟩, r4⟩ := qfO hA hE m 0 ops.toList s s' [] rfl h
  rw [List.nil_append] at r2 r3 rk rn
  rw [Nat.zero_add] at r4
  -- the checks
  simp only [qnl, Bool.and_eq_true, List.all_eq_true, List.mem_range, decide_eq_true_eq] at hchk
  obtain ⟨⟨⟨⟨c1, c2⟩, c3⟩, c5⟩, c6⟩ := hchk
  have hlen : ops.toList.length = ops.size := by simp
  have hget : ∀ (i : Nat) (o : Oper), ops[i]? = some o → ops.toList[i]? = some o := fun i o h => by rw [Array.getElem?_toList]; exact h
  have hget' : ∀ (i : Nat) (o : Oper), ops.toList[i]? = some o → ops[i]? = some o := fun i o h => by rw [Array.getElem?_toList] at h; exact h
  have hlt : ∀ (i : Nat) (o : Oper), ops[i]? = some o → i < ops.toList.length := fun i o h => by rw [hlen]; exact (Array.getElem?_eq_some_iff.1 h).1
  obtain ⟨An, hAn⟩ : ∃ An, An = qwd ops.toList := ⟨_, rfl⟩
  rw [← hAn] at c1 c3 c5 c6
  have d1 : ∀ (i : Nat) (o : Oper), ops[i]? = some o → (∀ k ∈ J4 o, k < i) ∧ ∀ k ∈ An.getD i [], k ∈ J4 o ∨ ∃ d ∈ J4 o, k ∈ An.getD d [] := fun i o ho => by
    have := c1 i (hlt i o ho)
    rw [hget i o ho] at this
    simp only [Bool.and_eq_true, List.all_eq_true, decide_eq_true_eq, Bool.or_eq_true, List.contains_iff_mem, List.any_eq_true] at this
    exact this
  have hanc : ∀ E, Run ops E → ∀ (i : Nat) (o : Oper), ops[i]? = some o → (∀ k ∈ J4 o, k ∈ E) → ∀ k ∈ An.getD i [], k ∈ E := by
    intro E hr i
    induction i using Nat.strongRecOn with
    | _ i ih =>
      intro o ho hE k hk
      rcases (d1 i o ho).2 k hk with h1 | ⟨d, h1, h2⟩
      · exact hE k h1
      · have hdE := hE d h1
        have hdl := hr.lt d hdE
        exact ih d ((d1 i o ho).1 d h1) ops[d] (Array.getElem?_eq_getElem hdl) (fun k' hk' => hr.closed d hdE _ (Array.getElem?_eq_getElem hdl) k' hk') k h2
  have hancE : ∀ E, Run ops E → ∀ j ∈ E, ∀ k ∈ An.getD j [], k ∈ E := fun E hr j hj k hk => by
    have hjl := hr.lt j hj
    exact hanc E hr j ops[j] (Array.getElem?_eq_getElem hjl) (fun k' hk' => hr.closed j hj _ (Array.getElem?_eq_getElem hjl) k' hk') k hk
  have hmn : m ≤ ops.size := by rw [← hlen]; exact c2
  have hop : ∀ i, i < m → ∃ o, ops[i]? = some o := fun i hi => ⟨_, Array.getElem?_eq_getElem (by omega)⟩
  have hst : ∀ j (o : Oper), j < m → ops[j]? = some o → Stp P ops.toList o (Sq j) (Sq (j + 1)) (tx j) := fun j o hj ho => by
    obtain ⟨o', q1, q2⟩ := r1 j hj
    rw [Nat.zero_add, hget j o ho] at q1
    injection q1 with q1
    subst q1; exact q2
  have htx : ∀ i, i < m → ((List.range m).map tx)[i]? = some (tx i) := fun i hi => by simp [hi]
  -- what meets is in order
  have cB : ∀ i j, i < j → j < m → q3y (tx i).2 (tx j).2 = true → i ∈ An.getD j [] := fun i j hij hj hc => by
    have := (qkQ r2 j (tx j) (htx j hj)).2 i (tx i) hij (htx i (by omega)) hc
    rw [Nat.zero_add, Nat.zero_add] at this
    have h6 := c6 j hj i this
    simpa using h6
  have cS : ∀ i j, i < j → j < m → qdc ops.toList i j = true → i ∈ An.getD j [] := fun i j hij hj hc => by
    have := c3 j hj i hij
    simp only [Bool.or_eq_true, Bool.not_eq_true', List.contains_iff_mem] at this
    rcases this with h1 | h1
    · rw [hc] at h1; cases h1
    · exact h1
  have hdst : ∀ (j : Nat) (o : Oper), ops[j]? = some o → q5r ops.toList j = o.dst := fun j o ho => by unfold q5r; rw [hget j o ho]; rfl
  -- a writer and a reader of one slot; two writers of one slot
  have cS1 : ∀ (i j : Nat) (o o' : Oper) (d : Nat), i < j → j < m → ops[i]? = some o → ops[j]? = some o' → o.dst = some d → (d ∈ q2J ops.toList o' ∨ o'.dst = some d) → i ∈ An.getD j [] := fun i j o o' d hij hj ho ho' hd hx => by
    refine cS i j hij hj ?_
    unfold qdc
    rw [hget i o ho, hget j o' ho']
    simp only [hd, Bool.or_eq_true, List.contains_iff_mem, decide_eq_true_eq]
    exact .inl hx
  have cS2 : ∀ (i j : Nat) (o o' : Oper) (d : Nat), i < j → j < m → ops[i]? = some o → ops[j]? = some o' → o'.dst = some d → d ∈ q2J ops.toList o → i ∈ An.getD j [] := fun i j o o' d hij hj ho ho' hd hx => by
    refine cS i j hij hj ?_
    unfold qdc
    rw [hget i o ho, hget j o' ho']
    simp only [hd, Bool.or_eq_true, List.contains_iff_mem]
    exact .inr hx
  -- far
  have hAnlt : ∀ (i : Nat) (o : Oper), ops[i]? = some o → ∀ k ∈ An.getD i [], k < i := by
    intro i
    induction i using Nat.strongRecOn with
    | _ i ih =>
      intro o ho k hk
      rcases (d1 i o ho).2 k hk with h1 | ⟨d, h1, h2⟩
      · exact (d1 i o ho).1 k h1
      · have hd := (d1 i o ho).1 d h1
        have hdl : d < ops.size := by have := hlt i o ho; rw [hlen] at this; omega
        have := ih d hd ops[d] (Array.getElem?_eq_getElem hdl) k h2
        omega
  have cK : ∀ i j, i < j → j < m → q61 ops.toList i j (tx i) (tx j) = true → i ∈ An.getD j [] := fun i j hij hj hc => by
    have := qnW rk hij (htx i (by omega)) (htx j hj) hc
    have h6 := c6 j hj i this
    simpa using h6
  have cK1 : ∀ (i j : Nat) (o' : Oper) (d : Nat), i < j → j < m → ops[j]? = some o' → d ∈ (tx i).2.ks → (d ∈ q2J ops.toList o' ∨ o'.dst = some d) → i ∈ An.getD j [] := fun i j o' d hij hj ho' hd hx => by
    refine cK i j hij hj ?_
    simp only [q61, Bool.or_eq_true, List.any_eq_true]
    exact .inl ⟨d, hd, .inl (qb7 (hget j o' ho') hx)⟩
  have cK2 : ∀ (i j : Nat) (o : Oper) (d : Nat), i < j → j < m → ops[i]? = some o → d ∈ (tx j).2.ks → (d ∈ q2J ops.toList o ∨ o.dst = some d) → i ∈ An.getD j [] := fun i j o d hij hj ho hd hx => by
    refine cK i j hij hj ?_
    simp only [q61, Bool.or_eq_true, List.any_eq_true]
    exact .inr ⟨d, hd, qb7 (hget i o ho) hx⟩
  have cK3 : ∀ (i j : Nat) (d : Nat), i < j → j < m → d ∈ (tx i).2.ks → d ∈ (tx j).2.ks → i ∈ An.getD j [] := fun i j d hij hj hd hd' => by
    refine cK i j hij hj ?_
    simp only [q61, Bool.or_eq_true, List.any_eq_true, List.contains_iff_mem]
    exact .inl ⟨d, hd, .inr hd'⟩
  have hfar : ∀ c, c < m → ∀ (p : Nat → Bool) (k : Nat), k ≤ m → (∀ i, i < k → p i = true → i ≠ c ∧ c ∉ An.getD i []) → qiw (tx c).2 (stT ops.toList tx s p k) := fun c hc p k hk hp => by
    rcases qle r3 c (tx c) (htx c hc) with h1 | ⟨h1, h2⟩
    · exact .inl h1
    · refine .inr (qhU h1 p k (fun i hi hpi => ?_))
      obtain ⟨p1, p2⟩ := hp i hi hpi
      have h3 := qgx h2 i (tx i) (htx i (by omega))
      rw [Nat.zero_add, Nat.zero_add] at h3
      rcases h3 with h3 | h3 | h3
      · exact absurd h3 p1
      · exact absurd (by simpa using c6 i (by omega) c h3) p2
      · exact h3
  have farext : ∀ {fp : Fp} {t t' : S}, (∀ d, t'.get d = t.get d) → (∀ x, t'.blk x = t.blk x) → qiw fp t → qiw fp t' := fun h1 h2 h => by
    rcases h with h | h
    · exact .inl h
    · exact .inr ⟨fun d hd => by rw [h1]; exact h.1 d hd, fun x hx => by rw [h2]; exact h.2 x hx⟩
  -- the text's states
  obtain ⟨tp, htp⟩ : ∃ tp : Nat → Bool, tp = fun _ => true := ⟨_, rfl⟩
  have htext : ∀ j, j ≤ m → (∀ d, (Sq j).get d = (stT ops.toList tx s tp j).get d) ∧ (∀ x, (Sq j).blk x = (stT ops.toList tx s tp j).blk x) ∧ (Sq j).n = s.n ∧ Nb (Sq j) := by
    intro j
    induction j with
    | zero => intro _; rw [r0]; exact ⟨fun _ => rfl, fun _ => rfl, rfl, hs.nx⟩
    | succ j ih =>
      intro hj
      obtain ⟨i1, i2, i3, i4⟩ := ih (by omega)
      obtain ⟨o, ho⟩ := hop j (by omega)
      have hstp := hst j o (by omega) ho
      obtain ⟨e1, e2⟩ := hstp.eff (farext i1 i2 (hfar j (by omega) tp j (by omega) (fun i hi _ => ⟨by omega, fun hj' => by
        obtain ⟨oi, hoi⟩ := hop i (by omega)
        have := hAnlt i oi hoi j hj'
        omega⟩)))
      have hs1 : stT ops.toList tx s tp (j + 1) = (((stT ops.toList tx s tp j).up (tx j).1.2).kill (tx j).2.ks).put (q5r ops.toList j) (tx j).1.1 := by
        show (if tp j = true then _ else _) = _
        rw [htp, if_pos rfl]
      refine ⟨fun d => ?_, fun x => ?_, hstp.n.trans i3, hstp.nb i4⟩
      · rw [e1, hs1, S.put_get, S.kill_get, S.up_get, hdst j o ho, i1]
      · rw [e2, hs1, S.put_blk, S.kill_blk, q7O, i2]
  -- the state behind some operations
  let pE : List Nat → Nat → Bool := fun E i => decide (i ∈ E)
  have hcut : ∀ j, j ≤ m → stT ops.toList tx s (fun i => tp i && decide (i < j)) m = stT ops.toList tx s tp j := fun j hj => qgW m hj
  have htpd : ∀ i j, (tp i && decide (i < j)) = decide (i < j) := fun i j => by rw [htp]; simp
  have hkeywb : ∀ i, i < m → ∀ x, (∃ b, (x, b) ∈ (tx i).1.2) → x ∈ (tx i).2.wb := fun i hi x ⟨b, hb⟩ => by
    obtain ⟨o, ho⟩ := hop i hi
    exact (hst i o hi ho).us _ hb
  have htp1 : ∀ j, stT ops.toList tx s tp (j + 1) = (((stT ops.toList tx s tp j).up (tx j).1.2).kill (tx j).2.ks).put (q5r ops.toList j) (tx j).1.1 := fun j => by
    show (if tp j = true then _ else _) = _
    rw [htp, if_pos rfl]
  -- all of the prefix done: the text's state
  have hfull : ∀ L ρ t a w, (∀ i, i ∈ L ↔ i < m) → (∀ d, t.get d = (stT ops.toList tx s (pE L) m).get d) → (∀ x, t.blk x = (stT ops.toList tx s (pE L) m).blk x) → t.n = s.n → Sim cx ρ t a w → Sim cx ρ (Sq m) a w := by
    intro L ρ t a w hL h1 h2 h3 hsim
    obtain ⟨i1, i2, i3, i4⟩ := htext m (Nat.le_refl _)
    have e : ∀ i, i < m → pE L i = (tp i && decide (i < m)) := fun i hi => by rw [htpd]; simp [pE, hL]
    refine hsim.ext (fun d => ?_) (fun x => ?_) (i3.trans h3.symm) i4
    · rw [i1, h1, q6U m (fun i hi _ => e i hi), hcut m (Nat.le_refl _)]
    · rw [i2, h2, q4y m (fun i hi _ => e i hi), hcut m (Nat.le_refl _)]
  refine qeo hm (fun i o ho k hk => (d1 i o ho).1 k hk)
    (fun L a w => ∃ ρ t, Sim cx ρ t a w ∧ (((∀ i ∈ L, i < m) ∧ (∀ d, t.get d = (stT ops.toList tx s (pE L) m).get d) ∧ (∀ x, t.blk x = (stT ops.toList tx s (pE L) m).blk x) ∧ t.n = s.n) ∨ ∃ q, m ≤ q ∧ (∀ i, i ∈ L ↔ i < q) ∧ xr P T po E ops.toList (ops.toList.drop q) t = some s')) ?_ ?_ ⟨ρ, s, hs.drew, .inl ⟨fun i h => by simp at h, fun d => ?_, fun x => ?_, rfl⟩⟩
  rotate_left 2
  · have : (stT ops.toList tx s (pE []) m).get d = (stT ops.toList tx s (fun i => tp i && decide (i < 0)) m).get d := q6U m (fun i _ _ => by simp [pE])
    rw [this, hcut 0 (Nat.zero_le _)]; rfl
  · have : (stT ops.toList tx s (pE []) m).blk x = (stT ops.toList tx s (fun i => tp i && decide (i < 0)) m).blk x := q4y m (fun i _ _ => by simp [pE])
    rw [this, hcut 0 (Nat.zero_le _)]; rfl
  · rintro L a w i o hr ⟨ρ, t, hsim, hcase⟩ hiL ho hdeps
    have hsuf : ∀ q t, m ≤ q → (∀ j, j ∈ L ↔ j < q) → Sim cx ρ t a w → xr P T po E ops.toList (ops.toList.drop q) t = some s' → i = q →
        wpOpIn (FW cx.ro) 0 P ops (fun e a' w' => ∃ s' ρ', Q' e s' ∧ Sim cx ρ' s' a' w') i (fun a' w' => ∃ ρ t, Sim cx ρ t a' w' ∧ (((∀ k ∈ i :: L, k < m) ∧ (∀ d, t.get d = (stT ops.toList tx s (pE (i :: L)) m).get d) ∧ (∀ x, t.blk x = (stT ops.toList tx s (pE (i :: L)) m).blk x) ∧ t.n = s.n) ∨ ∃ q, m ≤ q ∧ (∀ k, k ∈ i :: L ↔ k < q) ∧ xr P T po E ops.toList (ops.toList.drop q) t = some s')) a w := by
      intro q t hq hL hs' hv hiq
      subst hiq
      refine wpOpIn_mono (fun a' w' ⟨ρ', s'', g1, g2⟩ => ?_) (qoM hA hE ho hs' hv)
      exact ⟨ρ', s'', g1, .inr ⟨i + 1, by omega, fun k => by rw [List.mem_cons, hL]; omega, g2⟩⟩
    have hin : i < ops.size := (Array.getElem?_eq_some_iff.1 ho).1
    have h5 : m ≤ i → ∀ j, j < i → j ∈ L := fun hmi j hj => by
      have := c5 i (by rw [hlen]; exact hin)
      simp only [Bool.or_eq_true, decide_eq_true_eq, List.all_eq_true, List.mem_range, List.contains_iff_mem] at this
      rcases this with h | h
      · omega
      · exact hanc L hr i o ho hdeps j (h j hj)
    rcases hcase with ⟨hLm, t1, t2, t3⟩ | ⟨q, hq, hL, hv⟩
    · by_cases him : i < m
      · have hstp := hst i o him ho
        obtain ⟨q1, q2, q3, q4⟩ := htext i (by omega)
        -- before and behind
        have hbefore : ∀ k, i ∈ An.getD k [] → k ∈ L → False := fun k hk hkL => hiL (hancE L hr k hkL i hk)
        have hafter : ∀ k, k ∈ An.getD i [] → k ∈ L := fun k hk => hanc L hr i o ho hdeps k hk
        have hslot : ∀ d ∈ q2J ops.toList o, t.get d = (Sq i).get d := fun d hd => by
          rw [t1, q1, ← hcut i (by omega)]
          refine q6U m (fun k hk hkd => ?_)
          rw [htpd]
          obtain ⟨ok, hok⟩ := hop k hk
          rw [hdst k ok hok] at hkd
          rcases Nat.lt_trichotomy k i with h | h | h
          · rw [decide_eq_true h]
            refine decide_eq_true (hafter k ?_)
            rcases hkd with hkd | hkd
            · exact cS1 k i ok o d h him hok ho hkd (.inl hd)
            · exact cK1 k i o d h him ho hkd (.inl hd)
          · subst h; simp [pE, hiL]
          · rw [decide_eq_false (by omega)]
            refine decide_eq_false fun hkL => hbefore k ?_ hkL
            rcases hkd with hkd | hkd
            · exact cS2 i k o ok d h hk ho hok hkd hd
            · exact cK2 i k o d h hk ho hkd (.inl hd)
        have hblk : ∀ x, x ∈ (tx i).2.rb ∨ x ∈ (tx i).2.wb → t.blk x = (Sq i).blk x := fun x hx => by
          rw [t2, q2, ← hcut i (by omega)]
          refine q4y m (fun k hk hkx => ?_)
          rw [htpd]
          have hkw := hkeywb k hk x hkx
          rcases Nat.lt_trichotomy k i with h | h | h
          · rw [decide_eq_true h]
            refine decide_eq_true (hafter k (cB k i h him ?_))
            simp only [q3y, Bool.or_eq_true, List.any_eq_true, List.contains_iff_mem]
            exact .inl ⟨x, hkw, hx⟩
          · subst h; simp [pE, hiL]
          · rw [decide_eq_false (by omega)]
            refine decide_eq_false fun hkL => hbefore k (cB i k h hk ?_) hkL
            simp only [q3y, Bool.or_eq_true, List.any_eq_true, List.contains_iff_mem]
            rcases hx with hx | hx
            · exact .inr ⟨x, hx, hkw⟩
            · exact .inl ⟨x, hx, .inr hkw⟩
        have hev : ∀ y ∈ o.op.operands.toList, t.ev y = (Sq i).ev y := fun y hy => qoD (fun x hx => hslot x (by
          unfold q2J qhQ
          exact List.mem_append_left _ (List.mem_flatMap.2 ⟨y, hy, hx⟩)))
        have hgd : gd ops.toList t o.guard = gd ops.toList (Sq i) o.guard := by
          unfold gd
          cases hgu : o.guard with
          | none => rfl
          | some jw =>
            obtain ⟨j, want⟩ := jw
            simp only
            cases hd : (ops.toList[j]?).bind (·.dst) with
            | none => rfl
            | some d =>
              simp only
              rw [hslot d (by unfold q2J; rw [hgu]; exact List.mem_append_right _ (by show d ∈ (q5r ops.toList j).toList; unfold q5r; rw [hd]; simp))]
        have hnew : ∀ k ∈ i :: L, k < m := fun k hk => by
          rcases List.mem_cons.1 hk with rfl | hk
          · exact him
          · exact hLm k hk
        have hdok : ∀ d, o.dst = some d → d < t.n := fun d hd => by rw [t3, ← q3]; exact hstp.dst d hd
        -- the state behind it
        have fin : ∀ (ρ' : Pl) (t' : S) (a' : Act) (w' : World), (∀ d, t'.get d = if o.dst = some d then (tx i).1.1 else if d ∈ (tx i).2.ks then .any else t.get d) → (∀ x, t'.blk x = lk (tx i).1.2 x (t.blk x)) → t'.n = t.n → Sim cx ρ' t' a' w' →
            ∃ ρ t, Sim cx ρ t a' w' ∧ (((∀ k ∈ i :: L, k < m) ∧ (∀ d, t.get d = (stT ops.toList tx s (pE (i :: L)) m).get d) ∧ (∀ x, t.blk x = (stT ops.toList tx s (pE (i :: L)) m).blk x) ∧ t.n = s.n) ∨ ∃ q, m ≤ q ∧ (∀ k, k ∈ i :: L ↔ k < q) ∧ xr P T po E ops.toList (ops.toList.drop q) t = some s') := by
          intro ρ' t' a' w' g1 g2 g3 g4
          refine ⟨ρ', t', g4, .inl ⟨hnew, fun d => ?_, fun x => ?_, g3.trans t3⟩⟩
          · rw [g1]
            have eq1 : o.dst = some d ∨ d ∈ (tx i).2.ks → (stT ops.toList tx s (pE (i :: L)) m).get d = (stT ops.toList tx s (fun k => tp k && decide (k < i + 1)) m).get d := fun hdi => q6U m (fun k hk hkd => by
              rw [htpd]
              obtain ⟨ok, hok⟩ := hop k hk
              rw [hdst k ok hok] at hkd
              rcases Nat.lt_trichotomy k i with h | h | h
              · rw [decide_eq_true (show k < i + 1 by omega)]
                refine decide_eq_true (List.mem_cons_of_mem _ (hafter k ?_))
                rcases hdi with hd | hd
                · rcases hkd with hkd | hkd
                  · exact cS1 k i ok o d h him hok ho hkd (.inr hd)
                  · exact cK1 k i o d h him ho hkd (.inr hd)
                · rcases hkd with hkd | hkd
                  · exact cK2 k i ok d h him hok hd (.inr hkd)
                  · exact cK3 k i d h him hkd hd
              · subst h; simp [pE]
              · rw [decide_eq_false (by omega)]
                refine decide_eq_false fun hkL => ?_
                rcases List.mem_cons.1 hkL with h' | h'
                · omega
                · refine hbefore k ?_ h'
                  rcases hdi with hd | hd
                  · rcases hkd with hkd | hkd
                    · exact cS1 i k o ok d h hk ho hok hd (.inr hkd)
                    · exact cK2 i k o d h hk ho hkd (.inr hd)
                  · rcases hkd with hkd | hkd
                    · exact cK1 i k ok d h hk hok hd (.inr hkd)
                    · exact cK3 i k d h hk hd hkd)
            by_cases hd : o.dst = some d
            · rw [if_pos hd, eq1 (.inl hd), hcut (i + 1) (by omega), htp1, S.put_get, hdst i o ho, if_pos hd]
            · rw [if_neg hd]
              by_cases hdk : d ∈ (tx i).2.ks
              · rw [if_pos hdk, eq1 (.inr hdk), hcut (i + 1) (by omega), htp1, S.put_get, hdst i o ho, if_neg hd, S.kill_get, if_pos hdk]
              · rw [if_neg hdk, t1]
                refine q6U m (fun k hk hkd => ?_)
                have hki : k ≠ i := fun e => by
                  subst e
                  rcases hkd with hkd | hkd
                  · exact hd (by rw [← hdst k o ho]; exact hkd)
                  · exact hdk hkd
                simp [pE, hki]
          · rw [g2]
            by_cases hx : ∃ b, (x, b) ∈ (tx i).1.2
            · have hiw := hkeywb i him x hx
              have e1 : (stT ops.toList tx s (pE (i :: L)) m).blk x = (stT ops.toList tx s (fun k => tp k && decide (k < i + 1)) m).blk x := q4y m (fun k hk hkx => by
                rw [htpd]
                have hkw := hkeywb k hk x hkx
                rcases Nat.lt_trichotomy k i with h | h | h
                · rw [decide_eq_true (show k < i + 1 by omega)]
                  refine decide_eq_true (List.mem_cons_of_mem _ (hafter k (cB k i h him ?_)))
                  simp only [q3y, Bool.or_eq_true, List.any_eq_true, List.contains_iff_mem]
                  exact .inl ⟨x, hkw, .inr hiw⟩
                · subst h; simp [pE]
                · rw [decide_eq_false (by omega)]
                  refine decide_eq_false fun hkL => ?_
                  rcases List.mem_cons.1 hkL with h' | h'
                  · omega
                  · refine hbefore k (cB i k h hk ?_) h'
                    simp only [q3y, Bool.or_eq_true, List.any_eq_true, List.contains_iff_mem]
                    exact .inl ⟨x, hiw, .inr hkw⟩)
              rw [e1, hcut (i + 1) (by omega), htp1, S.put_blk, S.kill_blk, q7O]
              exact qbn _ x _ _ hx
            · rw [q1f _ x _ (fun b hb => hx ⟨b, hb⟩), t2]
              refine q4y m (fun k hk hkx => ?_)
              have hki : k ≠ i := fun e => hx (e ▸ hkx)
              simp [pE, hki]
        obtain ⟨b, hb, hf, ht⟩ := hstp.run
        unfold wpOpIn
        rw [ho]
        simp only
        cases b with
        | false =>
          rw [if_neg (by rw [q1X hsim (hgd.trans hb)]; simp)]
          have hx := hf rfl
          refine ⟨qaj, fin ρ (t.put o.dst (.tup [])) _ _ (fun d => ?_) (fun x => ?_) (S.put_n _ _ _) (hsim.put hdok RR.un)⟩
          · rw [S.put_get, hx]; simp
          · rw [S.put_blk, hx]; rfl
        | true =>
          rw [if_pos (q1X hsim (hgd.trans hb))]
          have hloc := ht rfl q4
          have hnew : (tx i).2.nw ≠ [] → ∀ x, t.live x → x < (Sq i).nx := fun hne x hx => by
            have hnw := hstp.nwp.resolve_left hne
            have hN := qkD rn i (tx i) (htx i him) _ hnw
            rw [Nat.zero_add] at hN
            by_cases hkx : ∃ k, k < m ∧ k ≠ i ∧ ∃ b, (x, b) ∈ (tx k).1.2
            · obtain ⟨k, hk, hki, b, hb⟩ := hkx
              exact qh7 hN k (tx k) (htx k hk) (by omega) _ hb
            · have e : t.blk x = (Sq i).blk x := by
                rw [t2, q2, ← hcut i (by omega)]
                refine q4y m (fun k hk hb => ?_)
                rw [htpd]
                have hki : k = i := by
                  by_cases h : k = i
                  · exact h
                  · exact absurd ⟨k, hk, h, hb⟩ hkx
                subst hki; simp [pE, hiL]
              refine q4 x ?_
              unfold S.live at hx ⊢
              rw [← e]; exact hx
          refine (hloc cx ρ t a w _ _ hev hblk (farext t1 t2 (hfar i him (pE L) m (Nat.le_refl _) (fun k hk hkL => ?_))) hnew hsim ?_)
          · have hkL : k ∈ L := of_decide_eq_true hkL
            exact ⟨fun e => hiL (e ▸ hkL), fun h => hbefore k h hkL⟩
          intro ρ' t' v w' g1 g2 g3 g4 g5
          refine fin ρ' ((t'.kill (tx i).2.ks).put o.dst (tx i).1.1) _ _ (fun d => ?_) (fun x => ?_) (by rw [S.put_n]; exact g3) ((g4.kill _).put (fun d hd => by show d < t'.n; rw [g3]; exact hdok d hd) g5)
          · rw [S.put_get, S.kill_get]
            by_cases hdk : d ∈ (tx i).2.ks
            · simp only [if_pos hdk]
            · simp only [if_neg hdk, g1 d hdk]
          · rw [S.put_blk, S.kill_blk, g2]
      · have hi : i = m := by
          rcases Nat.lt_or_ge m i with h | h
          · have := hLm m (h5 (by omega) m h); omega
          · omega
        have hL : ∀ j, j ∈ L ↔ j < m := fun j => ⟨fun hj => hLm j hj, fun hj => h5 (by omega) j (by omega)⟩
        exact hsuf m _ (Nat.le_refl _) hL (hfull L ρ t a w hL t1 t2 t3 hsim) r4 hi
    · have hiq : i = q := by
        have h1 : ¬ i < q := fun h => hiL ((hL i).2 h)
        have h2 : ∀ j, j < i → j < q := fun j hj => (hL j).1 (h5 (by omega) j hj)
        rcases Nat.lt_or_ge q i with h | h
        · have := h2 q h; omega
        · omega
      exact hsuf q t hq hL hsim hv hiq
  · rintro L a w hr ⟨ρ, t, hsim, hcase⟩ hall
    rcases hcase with ⟨hLm, t1, t2, t3⟩ | ⟨q, hq, hL, hv⟩
    · have hmn' : ops.size ≤ m := by
        rcases Nat.lt_or_ge m ops.size with h | h
        · have := hLm m (hall m h); omega
        · exact h
      have hL : ∀ j, j ∈ L ↔ j < m := fun j => ⟨fun hj => hLm j hj, fun hj => hall j (by omega)⟩
      have hd : ops.toList.drop m = [] := List.drop_eq_nil_of_le (by rw [hlen]; exact hmn')
      rw [hd] at r4
      injection r4 with r4
      exact ⟨_, ρ, hQ, r4 ▸ hfull L ρ t a w hL t1 t2 t3 hsim⟩
    · have hqn : ops.size ≤ q := by
        rcases Nat.lt_or_ge q ops.size with h | h
        · have := (hL q).1 (hall q h); omega
        · exact h
      have hd : ops.toList.drop q = [] := List.drop_eq_nil_of_le (by rw [hlen]; exact hqn)
      rw [hd] at hv
      injection hv with hv
      exact ⟨_, ρ, hQ, hv ▸ hsim⟩
theorem qfj : ∀ {r : R}, r.isA = true → r = .any
  | .any, _ => rfl
theorem qhm : ∀ {l : List (Nat × R)}, qnS l = true → ∀ i, lk l i .any = .any
  | [], _, i => rfl
  | x :: l, h, i => by
    unfold qnS at h
    split at h
    · rename_i hx
      show (if x.1 = i then x.2 else lk l i .any) = _
      rw [qhm h i, qfj hx]
      split <;> rfl
    · cases h
theorem qdM : ∀ (l : List (Nat × R)) (i : Nat), lk (q4m l) i .any = lk l i .any
  | [], i => rfl
  | x :: l, i => by
    unfold q4m
    have ih := qdM l i
    have e : lk (x :: q4m l) i .any = lk (x :: l) i .any := by
      show (if x.1 = i then x.2 else lk (q4m l) i .any) = (if x.1 = i then x.2 else lk l i .any)
      rw [ih]
    split
    · rename_i hx
      split
      · rename_i hl
        show R.any = (if x.1 = i then x.2 else lk l i .any)
        rw [qhm hl i, qfj hx]
        split <;> rfl
      · exact e
    · exact e
theorem Sim.strip {cx : Cx} {ρ : Pl} {s : S} {a : Act} {w : World} (h : Sim cx ρ s a w) : Sim cx ρ s.strip a w :=
  ⟨h.hd, h.size, fun i => by
    show RR w s.live ρ _ (lk (q4m s.tm) i .any)
    rw [qdM]
    exact h.tm i, h.hp, h.hp0, h.out, h.inj, h.nx, h.kept, h.oldF, h.pin, h.sameF, h.sep⟩
theorem qtH (hA : Ag P T) (hm : P.follows .mixedOrders = true) : DOk P po (D1 P T po) := fun _ _ _ hE _ _ _ _ _ _ _ hq h hQ ρ a w hs => qtb hA hE hm hq h hQ ρ a w hs.strip
end
section
variable {P : Program} {T : Ty} {po : Pol}
theorem q7Q {E E' : Orc} (hE : OLe E E') {o : Oper} {act : Bool} {s : S} {x : S × Tx} (h : xsF P T po E o act s = some x) : xsF P T po E' o act s = some x := by
  unfold xsF at h ⊢
  by_cases hc : act = true
  · rw [if_pos hc] at h ⊢
    cases hal : alC po s o.op with
    | some gr => rw [hal] at h; exact zr (fun _ h => zr (fun _ h => hE _ _ _ _ _ h) (fun _ _ h => h) h) (fun _ _ h => h) h
    | none => rw [hal] at h; exact zr (fun _ h => qfV hE h) (fun _ _ h => h) h
  · rw [if_neg hc] at h ⊢; exact h
theorem qkr {E E' : Orc} (hE : OLe E E') {ops : List Oper} {o : Oper} {s : S} {x : S × Tx} (h : xgF P T po E ops o s = some x) : xgF P T po E' ops o s = some x := by
  unfold xgF at h ⊢
  split at h
  · exact q7Q hE h
  · split at h
    · split at h
      · split at h
        · rename_i hb; rw [if_pos hb]; exact q7Q hE h
        · rename_i hb; rw [if_neg hb]; exact q7Q hE h
      · exact q7Q hE h
      · cases h
    · cases h
theorem qd2 {E E' : Orc} (hE : OLe E E') {ops : List Oper} {A : List (List Nat)} {s0 : S} : ∀ (m : Nat) (l : List Oper) (s s' : S) (acc : List Tx), xdp P T po E ops A s0 m l s acc = some s' → xdp P T po E' ops A s0 m l s acc = some s'
  | 0, l, s, s', acc, h => by
    unfold xdp at h ⊢
    split at h
    · rename_i hc; rw [if_pos hc]; exact qcv hE l h
    · cases h
  | _ + 1, [], _, _, _, h => by cases h
  | m + 1, o :: l, s, s', acc, h => zr (fun _ h => qkr hE h) (fun _ _ h => qd2 hE m l _ _ _ h) h
theorem q8A : q9T (D1 P T po) := fun _ _ hE _ _ _ _ _ _ h => qd2 hE _ _ _ _ _ h
section
variable {D : DRs} (hM : q9T D)
include hM
theorem q7U {o : Oper} {act : Bool} {s : S} : ∀ x, xsF P T po (EE P T po D) o act s = some x → ∃ n, ∀ m, n ≤ m → xsF P T po (xf P T po D m) o act s = some x := fun x h => by
  unfold xsF at h ⊢
  by_cases hc : act = true
  · simp only [if_pos hc] at h ⊢
    cases hal : alC po s o.op with
    | some gr => rw [hal] at h; exact zx (fun a h => zx (qbP hM) (fun _ => zL) h) (fun _ => zL) h
    | none => rw [hal] at h; exact zx (qgo hM) (fun _ => zL) h
  · simp only [if_neg hc] at h ⊢; exact ⟨0, fun _ _ => h⟩
theorem qkA {ops : List Oper} {o : Oper} {s : S} : ∀ x, xgF P T po (EE P T po D) ops o s = some x → ∃ n, ∀ m, n ≤ m → xgF P T po (xf P T po D m) ops o s = some x := fun x h => by
  unfold xgF at h ⊢
  split at h
  · exact q7U hM _ h
  · split at h
    · split at h
      · split at h
        · rename_i hb; simp only [if_pos hb]; exact q7U hM _ h
        · rename_i hb; simp only [if_neg hb]; exact q7U hM _ h
      · exact q7U hM _ h
      · cases h
    · cases h
theorem qcA {ops : List Oper} {A : List (List Nat)} {s0 : S} : ∀ (k : Nat) (l : List Oper) (s : S) (acc : List Tx) (x : S), xdp P T po (EE P T po D) ops A s0 k l s acc = some x → ∃ n, ∀ m, n ≤ m → xdp P T po (xf P T po D m) ops A s0 k l s acc = some x
  | 0, l, s, acc, x, h => by
    unfold xdp at h ⊢
    split at h
    · rename_i hc; simp only [if_pos hc]; exact qbT hM l s x h
    · cases h
  | _ + 1, [], _, _, _, h => by cases h
  | k + 1, o :: l, s, acc, x, h => zx (qkA hM) (fun q b h => qcA k l q.1 _ b h) h
end
theorem qhk : qps P T po (D1 P T po) := fun f k id ops s s' h => by
  obtain ⟨n, hn⟩ := qcA q8A _ _ _ _ _ h
  exact ⟨n, hn n (Nat.le_refl n)⟩
end
def zc (k : Nat) : Code → Option Code
  | .loop c => if qQ c = k then some c else zc k c
  | .seq a b => (zc k a).or (zc k b)
  | .cond _ a b => (zc k a).or (zc k b)
  | .block _ c => zc k c
  | .rangeFunc _ _ a b => (zc k a).or (zc k b)
  | _ => none
def Jx (k : Nat) : Code → Option (Code × Code)
  | .rangeFunc _ _ a b => if qQ b = k then some (a, b) else none
  | .loop c => Jx k c
  | .seq a b => (Jx k a).or (Jx k b)
  | .cond _ a b => (Jx k a).or (Jx k b)
  | .block _ c => Jx k c
  | _ => none
end Go.Proofs.Ytgejdfnidjnjcaa.Vc
namespace Go.Proofs.Ytgejdfnidjnjcaa.Vc
open Go.RowKit
set_option linter.unusedSimpArgs false
def qiy : Operand := .const (.slice none 0 0)
def qaR (t bt : TypeId) : Code :=
  (Code.region 0 #[{ dst := some 2, op := .assign qiy, type := t, pos := "slices.go:355", after := #[], guard := none }] false).seq
    (((Code.region 1 #[{ dst := some 3, op := .move (.tmp 0), type := t, pos := "slices.go:357", after := #[], guard := none },
        { dst := some 4, op := .binOp .eql t (.tmp 3) qiy t, type := bt, pos := "slices.go:357", after := #[{ on := 0, ground := .data }], guard := none }] false).seq
      (Code.cond (.tmp 4) ((Code.region 2 #[{ dst := some 2, op := .assign qiy, type := t, pos := "slices.go:358", after := #[], guard := none }] false).seq Code.ret) Code.skip)).seq
      ((Code.region 3 #[{ dst := some 5, op := .buildSlice t 0 #[], type := t, pos := "slices.go:362", after := #[], guard := none },
          { dst := some 6, op := .move (.tmp 0), type := t, pos := "slices.go:362", after := #[], guard := none },
          { dst := some 7, op := .call { callee := .builtin .append, args := #[.tmp 5, .tmp 6], argTypes := #[t, t] }, type := t, pos := "slices.go:362", after := #[{ on := 0, ground := .data }, { on := 1, ground := .data }], guard := none },
          { dst := some 2, op := .assign (.tmp 7), type := t, pos := "slices.go:362", after := #[{ on := 2, ground := .data }, { on := 2, ground := .chain }, { on := 0, ground := .phase }, { on := 1, ground := .phase }, { on := 2, ground := .phase }], guard := none }] false).seq
        Code.ret))
section
variable {P : Program} {T : Ty} {cx : Cx} {ρ : Pl} {s : S} {a : Act} {w : World}
def po1 (z : Nat) (ro : Bool := false) : Pol := { q := fun _ => [z], ow := fun _ => [], fz := fun _ => false, kp := fun _ _ => [], kx := fun _ _ => [], rw := fun _ _ => [], ro := fun _ => ro, dm := fun _ _ => 0, an := fun _ _ => [], rk := fun _ _ => [], pr := fun _ => none }
def E0 : Orc := fun _ _ _ _ => none
theorem qoQ : Snd P E0 := ⟨fun _ _ _ _ _ _ h => (by cases h), fun _ _ _ _ _ _ _ _ h => (by cases h)⟩
theorem qsU {q : Nat → List Oper → Bool} {k : Nat} : qty P q k (fun _ _ _ => none) := fun _ _ _ _ _ _ _ _ h => by cases h
def XD0 (P : Program) (T : Ty) (z : Nat) (c : Code) (s : S) : XS := XD P T (po1 z) E0 (fun _ _ _ => none) (iter 0) 0 0 c s
theorem q9B (hA : Ag P T) {z : Nat} {c : Code} {s s' : S} {e : Exit} {Q : Exit → S → Prop} (hq : q7s (fun _ _ => false) false c = true) (hk : cx.k = 0) (h : XD0 P T z c s = some (e, s')) (hQ : Q e s') : J P cx c Q s :=
  qje (n := 0) hA qoQ qsU c s s' e cx Q hq hk (fun h => by cases h) h hQ
theorem J.nilTest (hA : Ag P T) {id : Nat} {m o : Oper} {x d : Nat} {t t' e : TypeId} {sz n : Nat} {ds : List D} {Q : Exit → S → Prop} (hm : m.op = .move (.tmp x)) (hmg : m.guard = none) (hmd : m.dst = some d) (ho : o.op = .binOp .eql t (.tmp d) qiy t') (hog : o.guard = none)
    (hk : T.k t = .sl e) (hx : s.get x = .c (.d (.sl sz n ds))) (hd : d < s.n) (hod : ∀ d', o.dst = some d' → d' < s.n)
    (hQ : ∀ b : Bool, (b = true → n = 0 ∧ ds = []) → Q .normal ((s.put (some d) (.c (.d (.sl sz n ds)))).put o.dst (.c (.d (.bool b))))) : J P cx (.region id #[m, o] false) Q s := by
  intro ρ a w hs
  refine wpIn_region_list ?_
  show wpListIn (FW cx.ro) 0 P #[m, o] _ [m, o] a w
  unfold wpListIn
  rw [if_pos (by unfold Region.wanted; rw [hmg])]
  have h1 : ox P T s s.nx m.op (fun r s' => r = s.get x ∧ s' = s) := by rw [hm]; exact ⟨rfl, rfl⟩
  refine q9l hA (fun h => by have := hs.nx _ h; omega) hs h1 ?_
  rintro r s2 ρ1 v w1 ⟨rfl, rfl⟩ hs1 hv
  have hs2 := hs1.put (dst := m.dst) (fun d' hd' => by rw [hmd] at hd'; injection hd' with hd'; rw [← hd']; exact hd) hv
  rw [hmd, hx] at hs2
  unfold wpListIn
  rw [if_pos (by unfold Region.wanted; rw [hog])]
  obtain ⟨d0, i, z, ht⟩ := hA.at_ (t := t) (by rw [hk]; simp)
  have hkd := q33 (ht.kd.trans hk)
  subst hkd
  rw [hx] at hv
  obtain ⟨A, cap, q1, q2, q3, q4, q5, q6⟩ := hv.inv_sl
  refine qv0 cx.ro ?_ (fun c hc => by rw [ho] at hc; cases hc)
  have hev : (a.put m.dst v).eval (.tmp d) = v := by
    rw [hmd]
    show (a.tmps.setIfInBounds d v).getD d undef = v
    have hlt : d < a.tmps.size := by rw [hs1.size]; exact hd
    simp [Array.getD_eq_getD_getElem?, hlt]
  have he : execOp (a.put m.dst v).eval o = (do pure (.value (← (do eqGuard .eql t (.tmp d) qiy ((a.put m.dst v).eval (.tmp d)) ((a.put m.dst v).eval qiy); binOp .eql t ((a.put m.dst v).eval (.tmp d)) ((a.put m.dst v).eval qiy))))) := by unfold execOp; simp only [ho]
  have hr : (do eqGuard .eql t (.tmp d) qiy ((a.put m.dst v).eval (.tmp d)) ((a.put m.dst v).eval qiy); binOp .eql t ((a.put m.dst v).eval (.tmp d)) ((a.put m.dst v).eval qiy) : Sem Value).run P w1 = .ok (.bool A.isNone) w1 := by
    rw [hev, q1, eqGuard_at_slice]
    show (do binOp .eql t (.slice A n cap) (.slice none 0 0) : Sem Value).run P w1 = _
    simp only [binOp, Sem.run_bind]
    unfold Op.equal Op.maxDepth Op.equalIn
    simp only [Sem.run_bind, run_underlying ht.ud, Result.andThen_ok]
    cases A <;> rfl
  refine zb he hr ?_
  unfold wpListIn
  rw [hmd]
  refine ⟨_, ρ1, hQ A.isNone (fun hb => ?_), hs2.put hod (.c _ _ (.d _ _ (.bool _)))⟩
  rcases q6 with q6 | ⟨b, off, f, q6, -⟩
  · subst q6
    rw [Nat.zero_mul] at q5
    exact ⟨rfl, List.eq_nil_of_length_eq_zero q5⟩
  · rw [q6] at hb; cases hb
theorem qjm (hA : Ag P T) {f : FuncId} {fn : Func} {t e bt : TypeId} (hf : P.funcs[f]? = some fn) (hb : fn.body = some (qaR t bt)) (hname : (fn.name == "runtime.NumGoroutine") = false) (hn : fn.ntmps = 8) (hr : fn.results.toList = [.tmp 2])
    (hk : T.k t = .sl e) (he : T.k e ≠ .other) (hz : 0 < T.sz e) (hzl : (T.zero e).length = T.sz e) {n : Nat} {ds : List D} (hl : ds.length = n * T.sz e) (hm1 : n ≤ maxLen) (hm2 : n * T.by_ e ≤ 140737488355328) :
    AC P f [.c (.d (.sl (T.sz e) n ds))] [] 0 fun r hp => r = .c (.d (.sl (T.sz e) n ds)) ∧ hp = [] := by
  refine AC.enter2 hA hf hb hname (by rw [hn]; show (1 : Nat) ≤ 8; omega) (fun cx hk0 hro => ?_)
  rw [hn, hr]
  have fin : ∀ (s : S) (r : R), s.get 2 = r → q9n (po1 (T.sz e)) 0 0 [t] s [r] = some (.c (.d (.sl (T.sz e) n ds)), []) → ∃ rs, rvs T s [.tmp 2] = some rs ∧
      ∀ ρ a w, Sim cx ρ s a w → ∃ rs' hp' nx' ρ', (one rs' = .c (.d (.sl (T.sz e) n ds)) ∧ hp' = []) ∧ Sim cx ρ' (q0x hp' nx') q9I w ∧ rs'.length = rs.length ∧ ∀ (j : Nat) (r r' : R) (v : Value), rs[j]? = some r → rs'[j]? = some r' → RR w s.live ρ v r → RR w (q0x hp' nx').live ρ' v r' := by
    intro s r hr h
    refine ⟨[r], by simp [rvs, qm1, hr], fun ρ a w hs => ?_⟩
    obtain ⟨rs', nx', ρ', g1, g2, g3, g4⟩ := q82 hk0 h hs
    exact ⟨rs', [], nx', ρ', ⟨g1.symm, rfl⟩, g2, g3, g4⟩
  unfold qaR
  refine J.seq (q9B (z := T.sz e) hA (by rfl) hk0 (s' := ⟨[(2, .c .nils), (0, .c (.d (.sl (T.sz e) n ds)))], [], 0, 8⟩) (e := .normal) (by rfl) ?_)
  refine J.seq (J.seq (J.nilTest hA rfl rfl rfl rfl rfl hk (by rfl) (by show (3 : Nat) < 8; omega) (fun d' h => by injection h with h; subst h; show (4 : Nat) < 8; omega) (fun b hb0 => ?_)))
  cases b with
  | true =>
    obtain ⟨rfl, rfl⟩ := hb0 rfl
    refine J.cond (by rfl) (fun _ => ?_) (fun h => by cases h)
    refine q9B (z := T.sz e) hA (by rfl) hk0 (s' := ⟨[(2, .c .nils), (4, .c (.d (.bool true))), (3, .c (.d (.sl (T.sz e) 0 []))), (2, .c .nils), (0, .c (.d (.sl (T.sz e) 0 [])))], [], 0, 8⟩) (e := .ret) (by rfl) ?_
    refine ⟨.inr rfl, fin _ _ rfl ?_⟩
    have hz0 : T.sz e ≠ 0 := by omega
    simp [q9n, qec, q9j, qcr, po1, q3U, R.rows, C.rows, C.rows0, S.frz, q9h, qdR, dzR, dz, one, q2f, rng, R.refs, C.refs, C.ref0, cnR, qij, cn, cn0, cnH, S.get, lk, hz0, S.blk, B.isBlk, R.ptrs, S.frz1, fzR, qiB, fz, fz0, fzB, vis, q3e, hl, List.eraseDups_cons, pos, B.cells]
  | false =>
    refine J.cond (by rfl) (fun h => by cases h) (fun _ => ?_)
    refine J.skip ?_
    have hall : (ds.map C.d).all C.known = true := by rw [List.all_map]; exact List.all_eq_true.2 fun x _ => rfl
    have hfar : (ds.map C.d).all (C.far 0) = true := by rw [List.all_map]; exact List.all_eq_true.2 fun x _ => rfl
    have hdat : (ds.map C.d).all C.dat = true := by rw [List.all_map]; exact List.all_eq_true.2 fun x _ => rfl
    have hfg : (ds.map C.d).map (C.fg 0) = ds.map C.d := by rw [List.map_map]; rfl
    refine q9B (z := T.sz e) hA (by rfl) hk0 (s' := ⟨[(2, .c (.own 0 (T.sz e) 0 n)), (7, .c (.own 0 (T.sz e) 0 n)), (6, .c (.d (.sl (T.sz e) n ds))), (5, .c .any), (4, .c (.d (.bool false))), (3, .c (.d (.sl (T.sz e) n ds))), (2, .c .nils), (0, .c (.d (.sl (T.sz e) n ds)))], [(0, .row e (T.sz e) (ds.map C.d)), (0, .row e (T.sz e) [])], 1, 8⟩) (e := .ret) ?_ ?_
    · simp [XD0, XD, xr, xgd, qcQ, ql8, ipX, xst, pre, qs3, q8b, q3U, R.rows, S.frz, xo, xCl, q07, bld, q4I, S.seq, S.ev, S.get, lk, S.put, S.up, S.fg, R.fg, C.fg, B.fg, S.blk, hk, he, hz, hzl, hl, hm1, hm2, hall, hfar, qa8, sqD, q2x, tt, C.known, C.far]
    · refine ⟨.inr rfl, fin _ _ rfl ?_⟩
      have hz0 : T.sz e ≠ 0 := by omega
      simp [q9n, qec, q9j, qcr, po1, q3U, R.rows, C.rows, C.rows0, S.frz, q9h, qdR, dzR, dz, one, q2f, rng, R.refs, C.refs, C.ref0, cnR, qij, cn, cn0, cnH, S.get, lk, hz0, S.blk, B.isBlk, R.ptrs, S.frz1, fzR, qiB, fz, fz0, fzB, vis, q3e, hl, List.eraseDups_cons, pos, B.cells]
theorem qg3 (hA : Ag P T) {f : FuncId} {fn : Func} {t e bt : TypeId} (hf : P.funcs[f]? = some fn) (hb : fn.body = some (qaR t bt)) (hname : (fn.name == "runtime.NumGoroutine") = false) (hn : fn.ntmps = 8) (hr : fn.results.toList = [.tmp 2])
    (hk : T.k t = .sl e) (he : T.k e ≠ .other) (hz : 0 < T.sz e) (hzl : (T.zero e).length = T.sz e) {n : Nat} {ds : List D} (hl : ds.length = n * T.sz e) (hm1 : n ≤ maxLen) (hm2 : n * T.by_ e ≤ 140737488355328) :
    AC P f [.c (.d (.sl (T.sz e) n ds))] [] 0 fun r hp => r = .c (.own 0 (T.sz e) 0 n) ∧ hp = [(0, .row e (T.sz e) (ds.map C.d))] := by
  refine AC.enter2 hA hf hb hname (by rw [hn]; show (1 : Nat) ≤ 8; omega) (fun cx hk0 hro => ?_)
  rw [hn, hr]
  have fin : ∀ (s : S) (r : R), s.get 2 = r → q9n (po1 (T.sz e) true) 0 0 [t] s [r] = some (.c (.own 0 (T.sz e) 0 n), [(0, .row e (T.sz e) (ds.map C.d))]) → ∃ rs, rvs T s [.tmp 2] = some rs ∧
      ∀ ρ a w, Sim cx ρ s a w → ∃ rs' hp' nx' ρ', (one rs' = .c (.own 0 (T.sz e) 0 n) ∧ hp' = [(0, .row e (T.sz e) (ds.map C.d))]) ∧ Sim cx ρ' (q0x hp' nx') q9I w ∧ rs'.length = rs.length ∧ ∀ (j : Nat) (r r' : R) (v : Value), rs[j]? = some r → rs'[j]? = some r' → RR w s.live ρ v r → RR w (q0x hp' nx').live ρ' v r' := by
    intro s r hr h
    refine ⟨[r], by simp [rvs, qm1, hr], fun ρ a w hs => ?_⟩
    obtain ⟨rs', nx', ρ', g1, g2, g3, g4⟩ := q82 hk0 h hs
    exact ⟨rs', _, nx', ρ', ⟨g1.symm, rfl⟩, g2, g3, g4⟩
  unfold qaR
  refine J.seq (q9B (z := T.sz e) hA (by rfl) hk0 (s' := ⟨[(2, .c .nils), (0, .c (.d (.sl (T.sz e) n ds)))], [], 0, 8⟩) (e := .normal) (by rfl) ?_)
  refine J.seq (J.seq (J.nilTest hA rfl rfl rfl rfl rfl hk (by rfl) (by show (3 : Nat) < 8; omega) (fun d' h => by injection h with h; subst h; show (4 : Nat) < 8; omega) (fun b hb0 => ?_)))
  cases b with
  | true =>
    obtain ⟨rfl, rfl⟩ := hb0 rfl
    refine J.cond (by rfl) (fun _ => ?_) (fun h => by cases h)
    refine q9B (z := T.sz e) hA (by rfl) hk0 (s' := ⟨[(2, .c .nils), (4, .c (.d (.bool true))), (3, .c (.d (.sl (T.sz e) 0 []))), (2, .c .nils), (0, .c (.d (.sl (T.sz e) 0 [])))], [], 0, 8⟩) (e := .ret) (by rfl) ?_
    refine ⟨.inr rfl, [.c .nils], rfl, fun ρ a w hs => ?_⟩
    obtain ⟨ids, nx', ρ', g1, g2, g3⟩ := qdj (rs := []) (r' := .tup []) (hp' := []) hk0 rfl hs
    obtain ⟨ρ2, g4, g5⟩ := Sim.rerow (id := 0) (w' := w) (v := .slice none 0 0) (v' := .slice none 0 0) (e := e) (sz := T.sz e) (n := 0) (cs := []) (us := []) g2 (.inr ⟨rfl, fun h => by unfold S.live S.blk q0x at h; simp [lk, B.live] at h⟩) (World.grownBy.refl w _) (.inl rfl) ⟨by simp, .inl ⟨rfl, rfl⟩⟩ hz (by simp) (by rw [hk0]; omega) (fun j c hj => by simp at hj)
    have hblk : ∀ i, (q0x [(0, B.row e (T.sz e) [])] 1).blk i = (((q0x [] nx').fg 0).up [(0, B.row e (T.sz e) [])]).blk i := fun i => rfl
    have hlive : (q0x [(0, B.row e (T.sz e) [])] 1).live = (((q0x [] nx').fg 0).up [(0, B.row e (T.sz e) [])]).live := by funext i; unfold S.live; rw [hblk]
    refine ⟨[.c (.own 0 (T.sz e) 0 0)], [(0, B.row e (T.sz e) [])], 1, ρ2, ⟨rfl, rfl⟩, g4.ext (fun i => rfl) hblk rfl (fun i hi => ?_), rfl, fun j r r' v hj hj' hv => ?_⟩
    · unfold S.live S.blk q0x at hi
      show i < 1
      rcases Nat.lt_or_ge i 1 with h | h
      · exact h
      · simp [lk, show ¬ 0 = i by omega, B.live] at hi
    · cases j with
      | zero =>
        simp only [List.getElem?_cons_zero, Option.some.injEq] at hj hj'
        subst hj hj'
        rw [hv.inv_nils, hlive]
        exact g5
      | succ j => simp at hj
  | false =>
    refine J.cond (by rfl) (fun h => by cases h) (fun _ => ?_)
    refine J.skip ?_
    have hall : (ds.map C.d).all C.known = true := by rw [List.all_map]; exact List.all_eq_true.2 fun x _ => rfl
    have hfar : (ds.map C.d).all (C.far 0) = true := by rw [List.all_map]; exact List.all_eq_true.2 fun x _ => rfl
    have hdat : (ds.map C.d).all C.dat = true := by rw [List.all_map]; exact List.all_eq_true.2 fun x _ => rfl
    have hfg : (ds.map C.d).map (C.fg 0) = ds.map C.d := by rw [List.map_map]; rfl
    refine q9B (z := T.sz e) hA (by rfl) hk0 (s' := ⟨[(2, .c (.own 0 (T.sz e) 0 n)), (7, .c (.own 0 (T.sz e) 0 n)), (6, .c (.d (.sl (T.sz e) n ds))), (5, .c .any), (4, .c (.d (.bool false))), (3, .c (.d (.sl (T.sz e) n ds))), (2, .c .nils), (0, .c (.d (.sl (T.sz e) n ds)))], [(0, .row e (T.sz e) (ds.map C.d)), (0, .row e (T.sz e) [])], 1, 8⟩) (e := .ret) ?_ ?_
    · simp [XD0, XD, xr, xgd, qcQ, ql8, ipX, xst, pre, qs3, q8b, q3U, R.rows, S.frz, xo, xCl, q07, bld, q4I, S.seq, S.ev, S.get, lk, S.put, S.up, S.fg, R.fg, C.fg, B.fg, S.blk, hk, he, hz, hzl, hl, hm1, hm2, hall, hfar, qa8, sqD, q2x, tt, C.known, C.far]
    · refine ⟨.inr rfl, fin _ _ rfl ?_⟩
      have hz0 : T.sz e ≠ 0 := by omega
      have hcn : ∀ ids, (ds.map C.d).map (cn ids) = ds.map C.d := fun ids => by rw [List.map_map]; rfl
      simp [cnB, B.live, B.refs, hcn, hdat, q9n, qec, q9j, qcr, po1, q3U, R.rows, C.rows, C.rows0, S.frz, q9h, qdR, dzR, dz, one, q2f, rng, R.refs, C.refs, C.ref0, cnR, qij, cn, cn0, cnH, S.get, lk, hz0, S.blk, B.isBlk, R.ptrs, S.frz1, fzR, qiB, fz, fz0, fzB, vis, q3e, hl, List.eraseDups_cons, pos, B.cells]
def q4M (T : Ty) (e : TypeId) (own : Bool) : List R → Option (R × List (Nat × B))
  | [.c (.d (.sl z n ds))] => if z = T.sz e ∧ ds.length = n * z ∧ n ≤ maxLen ∧ n * T.by_ e ≤ 140737488355328 then (if own = true then some (.c (.own 0 z 0 n), [(0, .row e z (ds.map C.d))]) else some (.c (.d (.sl z n ds)), [])) else none
  | _ => none
theorem q9y (hA : Ag P T) {f : FuncId} {fn : Func} {t e bt : TypeId} (hf : P.funcs[f]? = some fn) (hb : fn.body = some (qaR t bt)) (hname : (fn.name == "runtime.NumGoroutine") = false) (hn : fn.ntmps = 8) (hr : fn.results.toList = [.tmp 2])
    (hk : T.k t = .sl e) (he : T.k e ≠ .other) (hz : 0 < T.sz e) (hzl : (T.zero e).length = T.sz e) {own : Bool} {args : List R} {r : R} {G' : List (Nat × B)} (h : q4M T e own args = some (r, G')) : AC P f args [] 0 fun r' hp' => r' = r ∧ hp' = G' := by
  unfold q4M at h
  split at h
  · split at h
    · rename_i hc
      obtain ⟨rfl, h1, h2, h3⟩ := hc
      split at h
      · injection h with h
        injection h with h4 h5
        subst h4 h5
        exact qg3 hA hf hb hname hn hr hk he hz hzl h1 h2 h3
      · injection h with h
        injection h with h4 h5
        subst h4 h5
        exact qjm hA hf hb hname hn hr hk he hz hzl h1 h2 h3
    · cases h
  · cases h
end
end Go.Proofs.Ytgejdfnidjnjcaa.Vc
namespace Go.Proofs.Ytgejdfnidjnjcaa.Vc
def tk (t : TypeId) : Kd := bif Nat.blt t 148 then (bif Nat.blt t 74 then (bif Nat.blt t 37 then (bif Nat.blt t 18 then (bif Nat.blt t 9 then (bif Nat.blt t 4 then (bif Nat.blt t 2 then (bif Nat.blt t 1 then .other else .fn) else (bif Nat.blt t 3 then .int .i64 else .int .i64)) else (bif Nat.blt t 6 then (bif Nat.blt t 5 then .bool else .int .u8) else (bif Nat.blt t 7 then .int .u8 else (bif Nat.blt t 8 then .st [(0, 2), (1, 3), (2, 4), (3, 6)] else .st [(0, 2), (1, 3), (2, 4), (3, 6)])))) else (bif Nat.blt t 13 then (bif Nat.blt t 11 then (bif Nat.blt t 10 then .str else .str) else (bif Nat.blt t 12 then .str else .int .u64)) else (bif Nat.blt t 15 then (bif Nat.blt t 14 then .st [(0, 9), (1, 12)] else .st [(0, 9), (1, 12)]) else (bif Nat.blt t 16 then .ptr 133 else (bif Nat.blt t 17 then .ptr 136 else .ptr 146))))) else (bif Nat.blt t 27 then (bif Nat.blt t 22 then (bif Nat.blt t 20 then (bif Nat.blt t 19 then .st [(0, 17)] else .st [(0, 17)]) else (bif Nat.blt t 21 then .other else .int .i32)) else (bif Nat.blt t 24 then (bif Nat.blt t 23 then .sl 3 else .arr 3 3) else (bif Nat.blt t 25 then .arr 2 23 else (bif Nat.blt t 26 then .st [(0, 22), (1, 22), (2, 24)] else .st [(0, 22), (1, 22), (2, 24)])))) else (bif Nat.blt t 32 then (bif Nat.blt t 29 then (bif Nat.blt t 28 then .fn else .sl 52) else (bif Nat.blt t 30 then .sl 31 else (bif Nat.blt t 31 then .st [(0, 3), (1, 3), (2, 3), (3, 28), (4, 29)] else .st [(0, 3), (1, 3), (2, 3), (3, 28), (4, 29)]))) else (bif Nat.blt t 34 then (bif Nat.blt t 33 then .sl 54 else .other) else (bif Nat.blt t 35 then .fn else (bif Nat.blt t 36 then .fn else .st [(0, 3), (1, 3), (2, 3)])))))) else (bif Nat.blt t 55 then (bif Nat.blt t 46 then (bif Nat.blt t 41 then (bif Nat.blt t 39 then (bif Nat.blt t 38 then .st [(0, 3), (1, 3), (2, 3)] else .fn) else (bif Nat.blt t 40 then .sl 4 else .int .i64)) else (bif Nat.blt t 43 then (bif Nat.blt t 42 then .other else .fn) else (bif Nat.blt t 44 then .other else (bif Nat.blt t 45 then .fn else .fn)))) else (bif Nat.blt t 50 then (bif Nat.blt t 48 then (bif Nat.blt t 47 then .fn else .fn) else (bif Nat.blt t 49 then .fn else .mp 3 4)) else (bif Nat.blt t 52 then (bif Nat.blt t 51 then .fn else .st [(0, 3), (1, 9)]) else (bif Nat.blt t 53 then .st [(0, 3), (1, 9)] else (bif Nat.blt t 54 then .st [(0, 52), (2, 3), (3, 3), (4, 3), (5, 22), (6, 3), (7, 22)] else .st [(0, 52), (2, 3), (3, 3), (4, 3), (5, 22), (6, 3), (7, 22)]))))) else (bif Nat.blt t 64 then (bif Nat.blt t 59 then (bif Nat.blt t 57 then (bif Nat.blt t 56 then .other else .fn) else (bif Nat.blt t 58 then .fn else .fn)) else (bif Nat.blt t 61 then (bif Nat.blt t 60 then .fn else .fn) else (bif Nat.blt t 62 then .fn else (bif Nat.blt t 63 then .fn else .sl 4)))) else (bif Nat.blt t 69 then (bif Nat.blt t 66 then (bif Nat.blt t 65 then .fn else .fn) else (bif Nat.blt t 67 then .fn else (bif Nat.blt t 68 then .fn else .fn))) else (bif Nat.blt t 71 then (bif Nat.blt t 70 then .st [(0, 3), (1, 3), (2, 4)] else .st [(0, 3), (1, 3), (2, 4)]) else (bif Nat.blt t 72 then .fn else (bif Nat.blt t 73 then .fn else .fn))))))) else (bif Nat.blt t 111 then (bif Nat.blt t 92 then (bif Nat.blt t 83 then (bif Nat.blt t 78 then (bif Nat.blt t 76 then .other else (bif Nat.blt t 77 then .fn else .fn)) else (bif Nat.blt t 80 then (bif Nat.blt t 79 then .fn else .fn) else (bif Nat.blt t 81 then .fn else (bif Nat.blt t 82 then .ptr 83 else .st [(0, 22), (1, 3)])))) else (bif Nat.blt t 87 then (bif Nat.blt t 85 then (bif Nat.blt t 84 then .st [(0, 22), (1, 3)] else .ptr 85) else (bif Nat.blt t 86 then .st [(0, 22), (1, 3)] else .fn)) else (bif Nat.blt t 89 then (bif Nat.blt t 88 then .fn else .fn) else (bif Nat.blt t 90 then .mp 3 92 else (bif Nat.blt t 91 then .fn else .st [(0, 61)]))))) else (bif Nat.blt t 101 then (bif Nat.blt t 96 then (bif Nat.blt t 94 then (bif Nat.blt t 93 then .st [(0, 61)] else .other) else (bif Nat.blt t 95 then .fn else .sl 3)) else (bif Nat.blt t 98 then (bif Nat.blt t 97 then .fn else .fn) else (bif Nat.blt t 99 then .fn else (bif Nat.blt t 100 then .fn else .fn)))) else (bif Nat.blt t 106 then (bif Nat.blt t 103 then (bif Nat.blt t 102 then .fn else .fn) else (bif Nat.blt t 104 then .fn else (bif Nat.blt t 105 then .fn else .fn))) else (bif Nat.blt t 108 then (bif Nat.blt t 107 then .fn else .sl 111) else (bif Nat.blt t 109 then .other else (bif Nat.blt t 110 then .fn else .st [(0, 31), (5, 3)])))))) else (bif Nat.blt t 129 then (bif Nat.blt t 120 then (bif Nat.blt t 115 then (bif Nat.blt t 113 then (bif Nat.blt t 112 then .st [(0, 31), (5, 3)] else .fn) else (bif Nat.blt t 114 then .fn else .fn)) else (bif Nat.blt t 117 then (bif Nat.blt t 116 then .fn else .fn) else (bif Nat.blt t 118 then .fn else (bif Nat.blt t 119 then .fn else .fn)))) else (bif Nat.blt t 124 then (bif Nat.blt t 122 then (bif Nat.blt t 121 then .fn else .fn) else (bif Nat.blt t 123 then .sl 9 else .fn)) else (bif Nat.blt t 126 then (bif Nat.blt t 125 then .fn else .fn) else (bif Nat.blt t 127 then .fn else (bif Nat.blt t 128 then .fn else .fn))))) else (bif Nat.blt t 138 then (bif Nat.blt t 133 then (bif Nat.blt t 131 then (bif Nat.blt t 130 then .fn else .fn) else (bif Nat.blt t 132 then .fn else .st [(0, 17), (1, 17), (2, 17), (3, 9)])) else (bif Nat.blt t 135 then (bif Nat.blt t 134 then .st [(0, 17), (1, 17), (2, 17), (3, 9)] else .arr 0 16) else (bif Nat.blt t 136 then .st [(0, 134)] else (bif Nat.blt t 137 then .st [(0, 134)] else .fn)))) else (bif Nat.blt t 143 then (bif Nat.blt t 140 then (bif Nat.blt t 139 then .int .u32 else .int .u8) else (bif Nat.blt t 141 then .int .u8 else (bif Nat.blt t 142 then .fn else .ptr 5))) else (bif Nat.blt t 145 then (bif Nat.blt t 144 then .int .i32 else .int .i32) else (bif Nat.blt t 146 then .st [(0, 12), (1, 12), (2, 138), (3, 139), (4, 5), (5, 5), (6, 140), (7, 141), (8, 142), (9, 143), (10, 144)] else (bif Nat.blt t 147 then .st [(0, 12), (1, 12), (2, 138), (3, 139), (4, 5), (5, 5), (6, 140), (7, 141), (8, 142), (9, 143), (10, 144)] else .other)))))))) else .other
def tz (t : TypeId) : Nat := bif Nat.blt t 148 then (bif Nat.blt t 74 then (bif Nat.blt t 37 then (bif Nat.blt t 18 then (bif Nat.blt t 9 then (bif Nat.blt t 4 then (bif Nat.blt t 2 then (bif Nat.blt t 1 then 0 else 1) else (bif Nat.blt t 3 then 1 else 1)) else (bif Nat.blt t 6 then (bif Nat.blt t 5 then 1 else 1) else (bif Nat.blt t 7 then 1 else (bif Nat.blt t 8 then 4 else 4)))) else (bif Nat.blt t 13 then (bif Nat.blt t 11 then (bif Nat.blt t 10 then 1 else 1) else (bif Nat.blt t 12 then 1 else 1)) else (bif Nat.blt t 15 then (bif Nat.blt t 14 then 2 else 2) else (bif Nat.blt t 16 then 1 else (bif Nat.blt t 17 then 1 else 1))))) else (bif Nat.blt t 27 then (bif Nat.blt t 22 then (bif Nat.blt t 20 then (bif Nat.blt t 19 then 1 else 1) else (bif Nat.blt t 21 then 0 else 1)) else (bif Nat.blt t 24 then (bif Nat.blt t 23 then 1 else 3) else (bif Nat.blt t 25 then 6 else (bif Nat.blt t 26 then 8 else 8)))) else (bif Nat.blt t 32 then (bif Nat.blt t 29 then (bif Nat.blt t 28 then 1 else 1) else (bif Nat.blt t 30 then 1 else (bif Nat.blt t 31 then 5 else 5))) else (bif Nat.blt t 34 then (bif Nat.blt t 33 then 1 else 0) else (bif Nat.blt t 35 then 1 else (bif Nat.blt t 36 then 1 else 3)))))) else (bif Nat.blt t 55 then (bif Nat.blt t 46 then (bif Nat.blt t 41 then (bif Nat.blt t 39 then (bif Nat.blt t 38 then 3 else 1) else (bif Nat.blt t 40 then 1 else 1)) else (bif Nat.blt t 43 then (bif Nat.blt t 42 then 0 else 1) else (bif Nat.blt t 44 then 0 else (bif Nat.blt t 45 then 1 else 1)))) else (bif Nat.blt t 50 then (bif Nat.blt t 48 then (bif Nat.blt t 47 then 1 else 1) else (bif Nat.blt t 49 then 1 else 1)) else (bif Nat.blt t 52 then (bif Nat.blt t 51 then 1 else 2) else (bif Nat.blt t 53 then 2 else (bif Nat.blt t 54 then 8 else 8))))) else (bif Nat.blt t 64 then (bif Nat.blt t 59 then (bif Nat.blt t 57 then (bif Nat.blt t 56 then 0 else 1) else (bif Nat.blt t 58 then 1 else 1)) else (bif Nat.blt t 61 then (bif Nat.blt t 60 then 1 else 1) else (bif Nat.blt t 62 then 1 else (bif Nat.blt t 63 then 1 else 1)))) else (bif Nat.blt t 69 then (bif Nat.blt t 66 then (bif Nat.blt t 65 then 1 else 1) else (bif Nat.blt t 67 then 1 else (bif Nat.blt t 68 then 1 else 1))) else (bif Nat.blt t 71 then (bif Nat.blt t 70 then 3 else 3) else (bif Nat.blt t 72 then 1 else (bif Nat.blt t 73 then 1 else 1))))))) else (bif Nat.blt t 111 then (bif Nat.blt t 92 then (bif Nat.blt t 83 then (bif Nat.blt t 78 then (bif Nat.blt t 76 then 0 else (bif Nat.blt t 77 then 1 else 1)) else (bif Nat.blt t 80 then (bif Nat.blt t 79 then 1 else 1) else (bif Nat.blt t 81 then 1 else (bif Nat.blt t 82 then 1 else 2)))) else (bif Nat.blt t 87 then (bif Nat.blt t 85 then (bif Nat.blt t 84 then 2 else 1) else (bif Nat.blt t 86 then 2 else 1)) else (bif Nat.blt t 89 then (bif Nat.blt t 88 then 1 else 1) else (bif Nat.blt t 90 then 1 else (bif Nat.blt t 91 then 1 else 1))))) else (bif Nat.blt t 101 then (bif Nat.blt t 96 then (bif Nat.blt t 94 then (bif Nat.blt t 93 then 1 else 0) else (bif Nat.blt t 95 then 1 else 1)) else (bif Nat.blt t 98 then (bif Nat.blt t 97 then 1 else 1) else (bif Nat.blt t 99 then 1 else (bif Nat.blt t 100 then 1 else 1)))) else (bif Nat.blt t 106 then (bif Nat.blt t 103 then (bif Nat.blt t 102 then 1 else 1) else (bif Nat.blt t 104 then 1 else (bif Nat.blt t 105 then 1 else 1))) else (bif Nat.blt t 108 then (bif Nat.blt t 107 then 1 else 1) else (bif Nat.blt t 109 then 0 else (bif Nat.blt t 110 then 1 else 6)))))) else (bif Nat.blt t 129 then (bif Nat.blt t 120 then (bif Nat.blt t 115 then (bif Nat.blt t 113 then (bif Nat.blt t 112 then 6 else 1) else (bif Nat.blt t 114 then 1 else 1)) else (bif Nat.blt t 117 then (bif Nat.blt t 116 then 1 else 1) else (bif Nat.blt t 118 then 1 else (bif Nat.blt t 119 then 1 else 1)))) else (bif Nat.blt t 124 then (bif Nat.blt t 122 then (bif Nat.blt t 121 then 1 else 1) else (bif Nat.blt t 123 then 1 else 1)) else (bif Nat.blt t 126 then (bif Nat.blt t 125 then 1 else 1) else (bif Nat.blt t 127 then 1 else (bif Nat.blt t 128 then 1 else 1))))) else (bif Nat.blt t 138 then (bif Nat.blt t 133 then (bif Nat.blt t 131 then (bif Nat.blt t 130 then 1 else 1) else (bif Nat.blt t 132 then 1 else 4)) else (bif Nat.blt t 135 then (bif Nat.blt t 134 then 4 else 0) else (bif Nat.blt t 136 then 0 else (bif Nat.blt t 137 then 0 else 1)))) else (bif Nat.blt t 143 then (bif Nat.blt t 140 then (bif Nat.blt t 139 then 1 else 1) else (bif Nat.blt t 141 then 1 else (bif Nat.blt t 142 then 1 else 1))) else (bif Nat.blt t 145 then (bif Nat.blt t 144 then 1 else 1) else (bif Nat.blt t 146 then 11 else (bif Nat.blt t 147 then 11 else 0)))))))) else 0
def tb (t : TypeId) : Nat := bif Nat.blt t 148 then (bif Nat.blt t 74 then (bif Nat.blt t 37 then (bif Nat.blt t 18 then (bif Nat.blt t 9 then (bif Nat.blt t 4 then (bif Nat.blt t 2 then (bif Nat.blt t 1 then 0 else 8) else (bif Nat.blt t 3 then 8 else 8)) else (bif Nat.blt t 6 then (bif Nat.blt t 5 then 1 else 1) else (bif Nat.blt t 7 then 1 else (bif Nat.blt t 8 then 24 else 24)))) else (bif Nat.blt t 13 then (bif Nat.blt t 11 then (bif Nat.blt t 10 then 16 else 16) else (bif Nat.blt t 12 then 16 else 8)) else (bif Nat.blt t 15 then (bif Nat.blt t 14 then 24 else 24) else (bif Nat.blt t 16 then 8 else (bif Nat.blt t 17 then 8 else 8))))) else (bif Nat.blt t 27 then (bif Nat.blt t 22 then (bif Nat.blt t 20 then (bif Nat.blt t 19 then 8 else 8) else (bif Nat.blt t 21 then 0 else 4)) else (bif Nat.blt t 24 then (bif Nat.blt t 23 then 24 else 24) else (bif Nat.blt t 25 then 48 else (bif Nat.blt t 26 then 96 else 96)))) else (bif Nat.blt t 32 then (bif Nat.blt t 29 then (bif Nat.blt t 28 then 8 else 24) else (bif Nat.blt t 30 then 24 else (bif Nat.blt t 31 then 72 else 72))) else (bif Nat.blt t 34 then (bif Nat.blt t 33 then 24 else 0) else (bif Nat.blt t 35 then 8 else (bif Nat.blt t 36 then 8 else 24)))))) else (bif Nat.blt t 55 then (bif Nat.blt t 46 then (bif Nat.blt t 41 then (bif Nat.blt t 39 then (bif Nat.blt t 38 then 24 else 8) else (bif Nat.blt t 40 then 24 else 8)) else (bif Nat.blt t 43 then (bif Nat.blt t 42 then 0 else 8) else (bif Nat.blt t 44 then 0 else (bif Nat.blt t 45 then 8 else 8)))) else (bif Nat.blt t 50 then (bif Nat.blt t 48 then (bif Nat.blt t 47 then 8 else 8) else (bif Nat.blt t 49 then 8 else 8)) else (bif Nat.blt t 52 then (bif Nat.blt t 51 then 8 else 24) else (bif Nat.blt t 53 then 24 else (bif Nat.blt t 54 then 104 else 104))))) else (bif Nat.blt t 64 then (bif Nat.blt t 59 then (bif Nat.blt t 57 then (bif Nat.blt t 56 then 0 else 8) else (bif Nat.blt t 58 then 8 else 8)) else (bif Nat.blt t 61 then (bif Nat.blt t 60 then 8 else 8) else (bif Nat.blt t 62 then 8 else (bif Nat.blt t 63 then 8 else 24)))) else (bif Nat.blt t 69 then (bif Nat.blt t 66 then (bif Nat.blt t 65 then 8 else 8) else (bif Nat.blt t 67 then 8 else (bif Nat.blt t 68 then 8 else 8))) else (bif Nat.blt t 71 then (bif Nat.blt t 70 then 24 else 24) else (bif Nat.blt t 72 then 8 else (bif Nat.blt t 73 then 8 else 8))))))) else (bif Nat.blt t 111 then (bif Nat.blt t 92 then (bif Nat.blt t 83 then (bif Nat.blt t 78 then (bif Nat.blt t 76 then 0 else (bif Nat.blt t 77 then 8 else 8)) else (bif Nat.blt t 80 then (bif Nat.blt t 79 then 8 else 8) else (bif Nat.blt t 81 then 8 else (bif Nat.blt t 82 then 8 else 32)))) else (bif Nat.blt t 87 then (bif Nat.blt t 85 then (bif Nat.blt t 84 then 32 else 8) else (bif Nat.blt t 86 then 32 else 8)) else (bif Nat.blt t 89 then (bif Nat.blt t 88 then 8 else 8) else (bif Nat.blt t 90 then 8 else (bif Nat.blt t 91 then 8 else 8))))) else (bif Nat.blt t 101 then (bif Nat.blt t 96 then (bif Nat.blt t 94 then (bif Nat.blt t 93 then 8 else 0) else (bif Nat.blt t 95 then 8 else 24)) else (bif Nat.blt t 98 then (bif Nat.blt t 97 then 8 else 8) else (bif Nat.blt t 99 then 8 else (bif Nat.blt t 100 then 8 else 8)))) else (bif Nat.blt t 106 then (bif Nat.blt t 103 then (bif Nat.blt t 102 then 8 else 8) else (bif Nat.blt t 104 then 8 else (bif Nat.blt t 105 then 8 else 8))) else (bif Nat.blt t 108 then (bif Nat.blt t 107 then 8 else 24) else (bif Nat.blt t 109 then 0 else (bif Nat.blt t 110 then 8 else 80)))))) else (bif Nat.blt t 129 then (bif Nat.blt t 120 then (bif Nat.blt t 115 then (bif Nat.blt t 113 then (bif Nat.blt t 112 then 80 else 8) else (bif Nat.blt t 114 then 8 else 8)) else (bif Nat.blt t 117 then (bif Nat.blt t 116 then 8 else 8) else (bif Nat.blt t 118 then 8 else (bif Nat.blt t 119 then 8 else 8)))) else (bif Nat.blt t 124 then (bif Nat.blt t 122 then (bif Nat.blt t 121 then 8 else 8) else (bif Nat.blt t 123 then 24 else 8)) else (bif Nat.blt t 126 then (bif Nat.blt t 125 then 8 else 8) else (bif Nat.blt t 127 then 8 else (bif Nat.blt t 128 then 8 else 8))))) else (bif Nat.blt t 138 then (bif Nat.blt t 133 then (bif Nat.blt t 131 then (bif Nat.blt t 130 then 8 else 8) else (bif Nat.blt t 132 then 8 else 40)) else (bif Nat.blt t 135 then (bif Nat.blt t 134 then 40 else 0) else (bif Nat.blt t 136 then 0 else (bif Nat.blt t 137 then 0 else 8)))) else (bif Nat.blt t 143 then (bif Nat.blt t 140 then (bif Nat.blt t 139 then 4 else 1) else (bif Nat.blt t 141 then 1 else (bif Nat.blt t 142 then 8 else 8))) else (bif Nat.blt t 145 then (bif Nat.blt t 144 then 4 else 4) else (bif Nat.blt t 146 then 48 else (bif Nat.blt t 147 then 48 else 0)))))))) else 0
def t0 (t : TypeId) : List C := bif Nat.blt t 148 then (bif Nat.blt t 74 then (bif Nat.blt t 37 then (bif Nat.blt t 18 then (bif Nat.blt t 9 then (bif Nat.blt t 4 then (bif Nat.blt t 2 then (bif Nat.blt t 1 then [] else [.nilf]) else (bif Nat.blt t 3 then [.d (.int .i64 0)] else [.d (.int .i64 0)])) else (bif Nat.blt t 6 then (bif Nat.blt t 5 then [.d (.bool false)] else [.d (.int .u8 0)]) else (bif Nat.blt t 7 then [.d (.int .u8 0)] else (bif Nat.blt t 8 then [.d (.int .i64 0), .d (.int .i64 0), .d (.bool false), .d (.int .u8 0)] else [.d (.int .i64 0), .d (.int .i64 0), .d (.bool false), .d (.int .u8 0)])))) else (bif Nat.blt t 13 then (bif Nat.blt t 11 then (bif Nat.blt t 10 then [.d (.str ⟨#[]⟩)] else [.d (.str ⟨#[]⟩)]) else (bif Nat.blt t 12 then [.d (.str ⟨#[]⟩)] else [.d (.int .u64 0)])) else (bif Nat.blt t 15 then (bif Nat.blt t 14 then [.d (.str ⟨#[]⟩), .d (.int .u64 0)] else [.d (.str ⟨#[]⟩), .d (.int .u64 0)]) else (bif Nat.blt t 16 then [.nilp] else (bif Nat.blt t 17 then [.nilp] else [.nilp]))))) else (bif Nat.blt t 27 then (bif Nat.blt t 22 then (bif Nat.blt t 20 then (bif Nat.blt t 19 then [.nilp] else [.nilp]) else (bif Nat.blt t 21 then [] else [.d (.int .i32 0)])) else (bif Nat.blt t 24 then (bif Nat.blt t 23 then [.nils] else [.d (.int .i64 0), .d (.int .i64 0), .d (.int .i64 0)]) else (bif Nat.blt t 25 then [.d (.int .i64 0), .d (.int .i64 0), .d (.int .i64 0), .d (.int .i64 0), .d (.int .i64 0), .d (.int .i64 0)] else (bif Nat.blt t 26 then [.nils, .nils, .d (.int .i64 0), .d (.int .i64 0), .d (.int .i64 0), .d (.int .i64 0), .d (.int .i64 0), .d (.int .i64 0)] else [.nils, .nils, .d (.int .i64 0), .d (.int .i64 0), .d (.int .i64 0), .d (.int .i64 0), .d (.int .i64 0), .d (.int .i64 0)])))) else (bif Nat.blt t 32 then (bif Nat.blt t 29 then (bif Nat.blt t 28 then [.nilf] else [.nils]) else (bif Nat.blt t 30 then [.nils] else (bif Nat.blt t 31 then [.d (.int .i64 0), .d (.int .i64 0), .d (.int .i64 0), .nils, .nils] else [.d (.int .i64 0), .d (.int .i64 0), .d (.int .i64 0), .nils, .nils]))) else (bif Nat.blt t 34 then (bif Nat.blt t 33 then [.nils] else []) else (bif Nat.blt t 35 then [.nilf] else (bif Nat.blt t 36 then [.nilf] else [.d (.int .i64 0), .d (.int .i64 0), .d (.int .i64 0)])))))) else (bif Nat.blt t 55 then (bif Nat.blt t 46 then (bif Nat.blt t 41 then (bif Nat.blt t 39 then (bif Nat.blt t 38 then [.d (.int .i64 0), .d (.int .i64 0), .d (.int .i64 0)] else [.nilf]) else (bif Nat.blt t 40 then [.nils] else [.d (.int .i64 0)])) else (bif Nat.blt t 43 then (bif Nat.blt t 42 then [] else [.nilf]) else (bif Nat.blt t 44 then [] else (bif Nat.blt t 45 then [.nilf] else [.nilf])))) else (bif Nat.blt t 50 then (bif Nat.blt t 48 then (bif Nat.blt t 47 then [.nilf] else [.nilf]) else (bif Nat.blt t 49 then [.nilf] else [.nilm])) else (bif Nat.blt t 52 then (bif Nat.blt t 51 then [.nilf] else [.d (.int .i64 0), .d (.str ⟨#[]⟩)]) else (bif Nat.blt t 53 then [.d (.int .i64 0), .d (.str ⟨#[]⟩)] else (bif Nat.blt t 54 then [.d (.int .i64 0), .d (.str ⟨#[]⟩), .d (.int .i64 0), .d (.int .i64 0), .d (.int .i64 0), .nils, .d (.int .i64 0), .nils] else [.d (.int .i64 0), .d (.str ⟨#[]⟩), .d (.int .i64 0), .d (.int .i64 0), .d (.int .i64 0), .nils, .d (.int .i64 0), .nils]))))) else (bif Nat.blt t 64 then (bif Nat.blt t 59 then (bif Nat.blt t 57 then (bif Nat.blt t 56 then [] else [.nilf]) else (bif Nat.blt t 58 then [.nilf] else [.nilf])) else (bif Nat.blt t 61 then (bif Nat.blt t 60 then [.nilf] else [.nilf]) else (bif Nat.blt t 62 then [.nilf] else (bif Nat.blt t 63 then [.nilf] else [.nils])))) else (bif Nat.blt t 69 then (bif Nat.blt t 66 then (bif Nat.blt t 65 then [.nilf] else [.nilf]) else (bif Nat.blt t 67 then [.nilf] else (bif Nat.blt t 68 then [.nilf] else [.nilf]))) else (bif Nat.blt t 71 then (bif Nat.blt t 70 then [.d (.int .i64 0), .d (.int .i64 0), .d (.bool false)] else [.d (.int .i64 0), .d (.int .i64 0), .d (.bool false)]) else (bif Nat.blt t 72 then [.nilf] else (bif Nat.blt t 73 then [.nilf] else [.nilf]))))))) else (bif Nat.blt t 111 then (bif Nat.blt t 92 then (bif Nat.blt t 83 then (bif Nat.blt t 78 then (bif Nat.blt t 76 then [] else (bif Nat.blt t 77 then [.nilf] else [.nilf])) else (bif Nat.blt t 80 then (bif Nat.blt t 79 then [.nilf] else [.nilf]) else (bif Nat.blt t 81 then [.nilf] else (bif Nat.blt t 82 then [.nilp] else [.nils, .d (.int .i64 0)])))) else (bif Nat.blt t 87 then (bif Nat.blt t 85 then (bif Nat.blt t 84 then [.nils, .d (.int .i64 0)] else [.nilp]) else (bif Nat.blt t 86 then [.nils, .d (.int .i64 0)] else [.nilf])) else (bif Nat.blt t 89 then (bif Nat.blt t 88 then [.nilf] else [.nilf]) else (bif Nat.blt t 90 then [.nilm] else (bif Nat.blt t 91 then [.nilf] else [.nilf]))))) else (bif Nat.blt t 101 then (bif Nat.blt t 96 then (bif Nat.blt t 94 then (bif Nat.blt t 93 then [.nilf] else []) else (bif Nat.blt t 95 then [.nilf] else [.nils])) else (bif Nat.blt t 98 then (bif Nat.blt t 97 then [.nilf] else [.nilf]) else (bif Nat.blt t 99 then [.nilf] else (bif Nat.blt t 100 then [.nilf] else [.nilf])))) else (bif Nat.blt t 106 then (bif Nat.blt t 103 then (bif Nat.blt t 102 then [.nilf] else [.nilf]) else (bif Nat.blt t 104 then [.nilf] else (bif Nat.blt t 105 then [.nilf] else [.nilf]))) else (bif Nat.blt t 108 then (bif Nat.blt t 107 then [.nilf] else [.nils]) else (bif Nat.blt t 109 then [] else (bif Nat.blt t 110 then [.nilf] else [.d (.int .i64 0), .d (.int .i64 0), .d (.int .i64 0), .nils, .nils, .d (.int .i64 0)])))))) else (bif Nat.blt t 129 then (bif Nat.blt t 120 then (bif Nat.blt t 115 then (bif Nat.blt t 113 then (bif Nat.blt t 112 then [.d (.int .i64 0), .d (.int .i64 0), .d (.int .i64 0), .nils, .nils, .d (.int .i64 0)] else [.nilf]) else (bif Nat.blt t 114 then [.nilf] else [.nilf])) else (bif Nat.blt t 117 then (bif Nat.blt t 116 then [.nilf] else [.nilf]) else (bif Nat.blt t 118 then [.nilf] else (bif Nat.blt t 119 then [.nilf] else [.nilf])))) else (bif Nat.blt t 124 then (bif Nat.blt t 122 then (bif Nat.blt t 121 then [.nilf] else [.nilf]) else (bif Nat.blt t 123 then [.nils] else [.nilf])) else (bif Nat.blt t 126 then (bif Nat.blt t 125 then [.nilf] else [.nilf]) else (bif Nat.blt t 127 then [.nilf] else (bif Nat.blt t 128 then [.nilf] else [.nilf]))))) else (bif Nat.blt t 138 then (bif Nat.blt t 133 then (bif Nat.blt t 131 then (bif Nat.blt t 130 then [.nilf] else [.nilf]) else (bif Nat.blt t 132 then [.nilf] else [.nilp, .nilp, .nilp, .d (.str ⟨#[]⟩)])) else (bif Nat.blt t 135 then (bif Nat.blt t 134 then [.nilp, .nilp, .nilp, .d (.str ⟨#[]⟩)] else []) else (bif Nat.blt t 136 then [] else (bif Nat.blt t 137 then [] else [.nilf])))) else (bif Nat.blt t 143 then (bif Nat.blt t 140 then (bif Nat.blt t 139 then [.d (.int .u32 0)] else [.d (.int .u8 0)]) else (bif Nat.blt t 141 then [.d (.int .u8 0)] else (bif Nat.blt t 142 then [.nilf] else [.nilp]))) else (bif Nat.blt t 145 then (bif Nat.blt t 144 then [.d (.int .i32 0)] else [.d (.int .i32 0)]) else (bif Nat.blt t 146 then [.d (.int .u64 0), .d (.int .u64 0), .d (.int .u32 0), .d (.int .u8 0), .d (.int .u8 0), .d (.int .u8 0), .d (.int .u8 0), .nilf, .nilp, .d (.int .i32 0), .d (.int .i32 0)] else (bif Nat.blt t 147 then [.d (.int .u64 0), .d (.int .u64 0), .d (.int .u32 0), .d (.int .u8 0), .d (.int .u8 0), .d (.int .u8 0), .d (.int .u8 0), .nilf, .nilp, .d (.int .i32 0), .d (.int .i32 0)] else [])))))))) else []
def tip : FuncId → Option (List Int → List Int)
  | _ => none
def T : Ty := ⟨tk, tz, tb, t0, tip⟩
theorem qsD : (List.range 148).all (fun t => decide (T.k t = .other) || Ty.okAt Try.prog T t) = true := by kernel_rfl
theorem qoX (t : Nat) (h : 148 ≤ t) : T.k t = .other := by
  have hb : Nat.blt t 148 = false := by
    cases h' : Nat.blt t 148 with
    | false => rfl
    | true => exact absurd (Nat.le_of_ble_eq_true h') (by omega)
  show tk t = .other
  unfold tk
  rw [hb]
  rfl
theorem qyR : ∀ t, T.k t = .other ∨ Ty.okAt Try.prog T t = true := fun t => by
  rcases Nat.lt_or_ge t 148 with h | h
  · have := List.all_eq_true.1 qsD t (List.mem_range.2 h)
    simp only [Bool.or_eq_true, decide_eq_true_eq] at this
    exact this
  · exact .inl (qoX t h)
theorem qxd : ∀ g h, T.ip g = some h → qw8 Try.prog g h := by
  intro g h hg
  replace hg : tip g = some h := hg
  unfold tip at hg
  cases hg
theorem qs8 : Ag Try.prog T := ⟨qyR, qxd⟩
theorem k3 : T.k 3 = .int .i64 := rfl
theorem k4 : T.k 4 = .bool := rfl
theorem k9 : T.k 9 = .str := rfl
theorem k22 : T.k 22 = .sl 3 := rfl
theorem k26 : T.k 26 = .st [(0, 22), (1, 22), (2, 24)] := rfl
theorem k28 : T.k 28 = .sl 52 := rfl
theorem k29 : T.k 29 = .sl 31 := rfl
theorem k31 : T.k 31 = .st [(0, 3), (1, 3), (2, 3), (3, 28), (4, 29)] := rfl
theorem k32 : T.k 32 = .sl 54 := rfl
theorem k37 : T.k 37 = .st [(0, 3), (1, 3), (2, 3)] := rfl
theorem k39 : T.k 39 = .sl 4 := rfl
theorem k49 : T.k 49 = .mp 3 4 := rfl
theorem k52 : T.k 52 = .st [(0, 3), (1, 9)] := rfl
theorem k54 : T.k 54 = .st [(0, 52), (2, 3), (3, 3), (4, 3), (5, 22), (6, 3), (7, 22)] := rfl
theorem k61 : T.k 61 = .fn := rfl
theorem k62 : T.k 62 = .fn := rfl
theorem k63 : T.k 63 = .sl 4 := rfl
theorem k67 : T.k 67 = .fn := rfl
theorem k68 : T.k 68 = .fn := rfl
theorem k70 : T.k 70 = .st [(0, 3), (1, 3), (2, 4)] := rfl
theorem k83 : T.k 83 = .st [(0, 22), (1, 3)] := rfl
theorem k85 : T.k 85 = .st [(0, 22), (1, 3)] := rfl
theorem k89 : T.k 89 = .mp 3 92 := rfl
theorem k92 : T.k 92 = .st [(0, 61)] := rfl
theorem k94 : T.k 94 = .fn := rfl
theorem k95 : T.k 95 = .sl 3 := rfl
theorem qym : T.k 107 = .sl 111 := rfl
theorem qwO : T.k 111 = .st [(0, 31), (5, 3)] := rfl
theorem qxk : T.k 122 = .sl 9 := rfl
theorem z3 : T.sz 3 = 1 := rfl
theorem z4 : T.sz 4 = 1 := rfl
theorem z9 : T.sz 9 = 1 := rfl
theorem z22 : T.sz 22 = 1 := rfl
theorem z26 : T.sz 26 = 8 := rfl
theorem z28 : T.sz 28 = 1 := rfl
theorem z29 : T.sz 29 = 1 := rfl
theorem z31 : T.sz 31 = 5 := rfl
theorem z37 : T.sz 37 = 3 := rfl
theorem z52 : T.sz 52 = 2 := rfl
theorem z54 : T.sz 54 = 8 := rfl
theorem z61 : T.sz 61 = 1 := rfl
theorem z63 : T.sz 63 = 1 := rfl
theorem z67 : T.sz 67 = 1 := rfl
theorem z68 : T.sz 68 = 1 := rfl
theorem z70 : T.sz 70 = 3 := rfl
theorem z92 : T.sz 92 = 1 := rfl
theorem z94 : T.sz 94 = 1 := rfl
theorem z95 : T.sz 95 = 1 := rfl
theorem qxw : T.sz 111 = 6 := rfl
theorem b3 : T.by_ 3 = 8 := rfl
theorem b4 : T.by_ 4 = 1 := rfl
theorem b10 : T.by_ 10 = 16 := rfl
theorem b12 : T.by_ 12 = 8 := rfl
theorem b31 : T.by_ 31 = 72 := rfl
theorem b52 : T.by_ 52 = 24 := rfl
theorem b54 : T.by_ 54 = 104 := rfl
theorem qy7 : T.by_ 111 = 80 := rfl
theorem o3 : T.zero 3 = [.d (.int .i64 0)] := rfl
theorem o4 : T.zero 4 = [.d (.bool false)] := rfl
theorem o22 : T.zero 22 = [.nils] := rfl
theorem o29 : T.zero 29 = [.nils] := rfl
theorem o31 : T.zero 31 = [.d (.int .i64 0), .d (.int .i64 0), .d (.int .i64 0), .nils, .nils] := rfl
theorem o37 : T.zero 37 = [.d (.int .i64 0), .d (.int .i64 0), .d (.int .i64 0)] := rfl
theorem o52 : T.zero 52 = [.d (.int .i64 0), .d (.str ⟨#[]⟩)] := rfl
theorem o54 : T.zero 54 = [.d (.int .i64 0), .d (.str ⟨#[]⟩), .d (.int .i64 0), .d (.int .i64 0), .d (.int .i64 0), .nils, .d (.int .i64 0), .nils] := rfl
theorem o63 : T.zero 63 = [.nils] := rfl
theorem o67 : T.zero 67 = [.nilf] := rfl
theorem o68 : T.zero 68 = [.nilf] := rfl
theorem o70 : T.zero 70 = [.d (.int .i64 0), .d (.int .i64 0), .d (.bool false)] := rfl
theorem o83 : T.zero 83 = [.nils, .d (.int .i64 0)] := rfl
theorem o85 : T.zero 85 = [.nils, .d (.int .i64 0)] := rfl
theorem o92 : T.zero 92 = [.nilf] := rfl
theorem o94 : T.zero 94 = [.nilf] := rfl
theorem o95 : T.zero 95 = [.nils] := rfl
theorem qxJ : T.zero 111 = [.d (.int .i64 0), .d (.int .i64 0), .d (.int .i64 0), .nils, .nils, .d (.int .i64 0)] := rfl
end Go.Proofs.Ytgejdfnidjnjcaa.Vc
namespace Go.Proofs.Ytgejdfnidjnjcaa.Vc
open Go.RowKit
set_option linter.unusedVariables false
def pq (t : TypeId) : List Nat := bif Nat.blt t 123 then (bif Nat.blt t 61 then (bif Nat.blt t 30 then (bif Nat.blt t 15 then [] else (bif Nat.blt t 22 then [] else (bif Nat.blt t 26 then (bif Nat.blt t 24 then (bif Nat.blt t 23 then [1] else []) else (bif Nat.blt t 25 then [] else [1, 1, 0, 0, 0, 0, 0, 0])) else (bif Nat.blt t 28 then (bif Nat.blt t 27 then [1, 1, 0, 0, 0, 0, 0, 0] else []) else (bif Nat.blt t 29 then [2] else [5]))))) else (bif Nat.blt t 45 then (bif Nat.blt t 37 then (bif Nat.blt t 33 then (bif Nat.blt t 31 then [0, 0, 0, 2, 5] else (bif Nat.blt t 32 then [0, 0, 0, 2, 5] else [8])) else []) else (bif Nat.blt t 41 then (bif Nat.blt t 39 then [] else (bif Nat.blt t 40 then [1] else [])) else [])) else (bif Nat.blt t 53 then [] else (bif Nat.blt t 57 then (bif Nat.blt t 55 then (bif Nat.blt t 54 then [0, 0, 0, 0, 0, 1, 0, 1] else [0, 0, 0, 0, 0, 1, 0, 1]) else []) else [])))) else (bif Nat.blt t 92 then (bif Nat.blt t 76 then (bif Nat.blt t 68 then (bif Nat.blt t 64 then (bif Nat.blt t 62 then [] else (bif Nat.blt t 63 then [] else [1])) else []) else []) else (bif Nat.blt t 84 then (bif Nat.blt t 80 then [] else (bif Nat.blt t 82 then [] else (bif Nat.blt t 83 then [1, 0] else [1, 0]))) else (bif Nat.blt t 88 then (bif Nat.blt t 86 then (bif Nat.blt t 85 then [] else [1, 0]) else []) else []))) else (bif Nat.blt t 107 then (bif Nat.blt t 99 then (bif Nat.blt t 95 then [] else (bif Nat.blt t 97 then (bif Nat.blt t 96 then [1] else []) else [])) else []) else (bif Nat.blt t 115 then (bif Nat.blt t 111 then (bif Nat.blt t 109 then (bif Nat.blt t 108 then [6] else []) else (bif Nat.blt t 110 then [] else [0, 0, 0, 2, 5, 0])) else (bif Nat.blt t 113 then (bif Nat.blt t 112 then [0, 0, 0, 2, 5, 0] else []) else [])) else (bif Nat.blt t 119 then [] else (bif Nat.blt t 121 then [] else (bif Nat.blt t 122 then [] else [1]))))))) else []
def pow (t : FuncId) : List Nat := bif Nat.blt t 60 then (bif Nat.blt t 30 then [] else (bif Nat.blt t 45 then [] else (bif Nat.blt t 52 then [] else (bif Nat.blt t 56 then [] else (bif Nat.blt t 58 then [] else (bif Nat.blt t 59 then [] else [0])))))) else []
def pfz (f : FuncId) : Bool := ([7, 8, 10, 11, 13, 14, 16, 19, 20, 24, 34, 35, 37, 40, 41, 44, 45, 52, 58, 77] : List Nat).contains f
def pro (f : FuncId) : Bool := ([41, 54, 59] : List Nat).contains f
def pkp (t : FuncId) (k : Nat) : List Nat := bif Nat.blt t 88 then (bif Nat.blt t 44 then (bif Nat.blt t 22 then (bif Nat.blt t 11 then (bif Nat.blt t 5 then (bif Nat.blt t 2 then [] else (bif Nat.blt t 3 then [] else (bif Nat.blt t 4 then (bif Nat.blt k 10 then (bif Nat.blt k 5 then [] else (bif Nat.blt k 7 then [] else (bif Nat.blt k 8 then [] else (bif Nat.blt k 9 then [] else [3, 4, 5, 6, 7, 48, 49, 50])))) else []) else (bif Nat.blt k 42 then (bif Nat.blt k 21 then (bif Nat.blt k 10 then [] else (bif Nat.blt k 15 then (bif Nat.blt k 12 then (bif Nat.blt k 11 then [] else [3, 4, 5, 6, 7, 9, 10, 58, 59]) else []) else (bif Nat.blt k 18 then (bif Nat.blt k 16 then [] else (bif Nat.blt k 17 then [3, 4, 5, 6, 7, 9, 10, 11, 12] else [])) else []))) else (bif Nat.blt k 31 then (bif Nat.blt k 26 then (bif Nat.blt k 23 then (bif Nat.blt k 22 then [3, 4, 5, 6, 7, 9, 10, 11, 12, 13, 14, 15, 16, 73, 74] else []) else (bif Nat.blt k 24 then [] else (bif Nat.blt k 25 then [] else [3, 4, 5, 6, 7, 9, 10, 11, 12, 13, 14, 15, 16, 17, 18, 73, 74, 80, 81]))) else []) else (bif Nat.blt k 36 then [] else (bif Nat.blt k 39 then [] else (bif Nat.blt k 40 then [] else (bif Nat.blt k 41 then [] else [3, 11, 147, 148, 149])))))) else [])))) else (bif Nat.blt t 8 then (bif Nat.blt t 6 then (bif Nat.blt k 24 then (bif Nat.blt k 12 then (bif Nat.blt k 6 then [] else (bif Nat.blt k 9 then (bif Nat.blt k 7 then [] else (bif Nat.blt k 8 then [3, 4, 5, 6, 7, 8] else [])) else [])) else (bif Nat.blt k 18 then [] else (bif Nat.blt k 21 then (bif Nat.blt k 19 then [] else (bif Nat.blt k 20 then [3, 5, 12, 14, 114, 115, 116] else [])) else (bif Nat.blt k 22 then [] else (bif Nat.blt k 23 then [] else [3, 5, 12, 14, 16, 17, 18, 114, 115, 116, 122, 123]))))) else []) else []) else [])) else (bif Nat.blt t 16 then (bif Nat.blt t 13 then (bif Nat.blt t 12 then (bif Nat.blt k 15 then (bif Nat.blt k 7 then [] else (bif Nat.blt k 11 then (bif Nat.blt k 9 then [] else (bif Nat.blt k 10 then [2, 3, 4, 5, 12, 13, 14, 15, 49, 50] else [])) else (bif Nat.blt k 13 then [] else (bif Nat.blt k 14 then [] else [2, 3, 4, 5, 12, 13, 14, 15, 16, 49, 50])))) else []) else []) else (bif Nat.blt t 14 then (bif Nat.blt k 5 then (bif Nat.blt k 2 then [] else (bif Nat.blt k 3 then [] else (bif Nat.blt k 4 then [] else [1, 2, 7, 8, 11, 12]))) else []) else (bif Nat.blt t 15 then (bif Nat.blt k 4 then (bif Nat.blt k 2 then [] else (bif Nat.blt k 3 then [] else [2, 14, 15, 16])) else []) else (bif Nat.blt k 5 then (bif Nat.blt k 2 then [] else (bif Nat.blt k 3 then [] else (bif Nat.blt k 4 then [] else [0, 1, 5]))) else [])))) else (bif Nat.blt t 19 then (bif Nat.blt t 17 then [] else (bif Nat.blt t 18 then [] else (bif Nat.blt k 11 then (bif Nat.blt k 5 then [] else (bif Nat.blt k 8 then (bif Nat.blt k 6 then [] else (bif Nat.blt k 7 then [1, 34, 35, 36] else [])) else (bif Nat.blt k 9 then [] else (bif Nat.blt k 10 then [] else [1, 10, 11, 12, 34, 35, 36, 41, 42, 43])))) else []))) else (bif Nat.blt t 20 then [] else (bif Nat.blt t 21 then (bif Nat.blt k 7 then (bif Nat.blt k 3 then [] else (bif Nat.blt k 5 then [] else (bif Nat.blt k 6 then [] else [5, 6, 7, 8, 9]))) else []) else (bif Nat.blt k 7 then (bif Nat.blt k 3 then [] else (bif Nat.blt k 5 then [] else (bif Nat.blt k 6 then [] else [6, 37, 38, 39]))) else [])))))) else (bif Nat.blt t 33 then (bif Nat.blt t 27 then (bif Nat.blt t 24 then [] else (bif Nat.blt t 25 then [] else (bif Nat.blt t 26 then (bif Nat.blt k 3 then (bif Nat.blt k 1 then [] else (bif Nat.blt k 2 then [] else [0, 1, 8, 9, 10])) else []) else []))) else (bif Nat.blt t 30 then [] else (bif Nat.blt t 31 then (bif Nat.blt k 9 then (bif Nat.blt k 4 then [] else (bif Nat.blt k 6 then [] else (bif Nat.blt k 7 then [] else (bif Nat.blt k 8 then [] else [5, 6, 7, 10, 11, 35, 36, 37])))) else []) else (bif Nat.blt t 32 then [] else (bif Nat.blt k 4 then (bif Nat.blt k 2 then [] else (bif Nat.blt k 3 then [] else [3, 4, 5, 8, 9, 13, 14, 15])) else []))))) else (bif Nat.blt t 38 then (bif Nat.blt t 35 then [] else (bif Nat.blt t 36 then [] else (bif Nat.blt t 37 then [] else (bif Nat.blt k 4 then (bif Nat.blt k 2 then [] else (bif Nat.blt k 3 then [] else [1, 2, 14, 15, 16])) else [])))) else (bif Nat.blt t 41 then (bif Nat.blt t 39 then [] else (bif Nat.blt t 40 then [] else (bif Nat.blt k 10 then (bif Nat.blt k 5 then [] else (bif Nat.blt k 7 then [] else (bif Nat.blt k 8 then [] else (bif Nat.blt k 9 then [] else [0, 1, 2, 6, 7, 8, 9, 10])))) else []))) else (bif Nat.blt t 42 then (bif Nat.blt k 12 then (bif Nat.blt k 6 then (bif Nat.blt k 3 then [] else (bif Nat.blt k 4 then [] else (bif Nat.blt k 5 then [3, 5, 6] else []))) else (bif Nat.blt k 9 then (bif Nat.blt k 7 then [] else (bif Nat.blt k 8 then [] else [3, 5, 6, 7, 8])) else (bif Nat.blt k 10 then [] else (bif Nat.blt k 11 then [] else [3, 5, 6, 7, 8, 9])))) else []) else []))))) else (bif Nat.blt t 66 then (bif Nat.blt t 55 then (bif Nat.blt t 49 then (bif Nat.blt t 46 then (bif Nat.blt t 45 then [] else (bif Nat.blt k 39 then (bif Nat.blt k 19 then (bif Nat.blt k 9 then (bif Nat.blt k 4 then [] else (bif Nat.blt k 6 then (bif Nat.blt k 5 then [] else [1, 2, 3, 4, 7, 9, 10, 11]) else [])) else (bif Nat.blt k 14 then [] else (bif Nat.blt k 16 then (bif Nat.blt k 15 then [3, 5, 6, 7, 9, 12, 13] else []) else (bif Nat.blt k 17 then [] else (bif Nat.blt k 18 then [] else [3, 5, 6, 7, 9, 12, 72, 73, 74]))))) else (bif Nat.blt k 29 then (bif Nat.blt k 24 then [] else (bif Nat.blt k 26 then (bif Nat.blt k 25 then [] else [3, 5, 6, 7, 9, 12, 17, 18, 19, 72, 73, 74, 96, 97]) else [])) else (bif Nat.blt k 34 then [] else (bif Nat.blt k 36 then [] else (bif Nat.blt k 37 then [] else (bif Nat.blt k 38 then [] else [9, 12, 21, 22])))))) else [])) else (bif Nat.blt t 47 then [] else (bif Nat.blt t 48 then (bif Nat.blt k 2 then (bif Nat.blt k 1 then [] else [1, 2, 6]) else []) else []))) else (bif Nat.blt t 52 then (bif Nat.blt t 50 then (bif Nat.blt k 3 then (bif Nat.blt k 1 then [] else (bif Nat.blt k 2 then [] else [0, 1, 7, 8])) else []) else []) else [])) else (bif Nat.blt t 60 then (bif Nat.blt t 57 then (bif Nat.blt t 56 then (bif Nat.blt k 3 then (bif Nat.blt k 1 then [] else (bif Nat.blt k 2 then [] else [0, 3, 7, 8])) else []) else []) else (bif Nat.blt t 58 then [] else (bif Nat.blt t 59 then (bif Nat.blt k 9 then (bif Nat.blt k 4 then [] else (bif Nat.blt k 6 then (bif Nat.blt k 5 then [0, 3, 4, 5] else []) else (bif Nat.blt k 7 then [] else (bif Nat.blt k 8 then [] else [0, 3, 4, 5, 6, 7])))) else []) else (bif Nat.blt k 6 then (bif Nat.blt k 3 then [] else (bif Nat.blt k 4 then [] else (bif Nat.blt k 5 then [] else [0, 2, 4, 8]))) else [])))) else (bif Nat.blt t 63 then [] else (bif Nat.blt t 64 then [] else (bif Nat.blt t 65 then (bif Nat.blt k 8 then (bif Nat.blt k 4 then [] else (bif Nat.blt k 6 then [] else (bif Nat.blt k 7 then [] else [1, 22, 23, 24]))) else []) else []))))) else (bif Nat.blt t 77 then (bif Nat.blt t 71 then (bif Nat.blt t 68 then [] else (bif Nat.blt t 69 then [] else (bif Nat.blt t 70 then (bif Nat.blt k 5 then (bif Nat.blt k 2 then [] else (bif Nat.blt k 3 then [] else (bif Nat.blt k 4 then [] else [1, 2, 15, 16, 17]))) else []) else (bif Nat.blt k 3 then (bif Nat.blt k 1 then [] else (bif Nat.blt k 2 then [] else [1, 9, 10, 11])) else [])))) else []) else (bif Nat.blt t 82 then (bif Nat.blt t 79 then (bif Nat.blt t 78 then [] else (bif Nat.blt k 3 then (bif Nat.blt k 1 then [] else (bif Nat.blt k 2 then [] else [0, 1, 7, 8])) else [])) else (bif Nat.blt t 80 then [] else (bif Nat.blt t 81 then (bif Nat.blt k 4 then (bif Nat.blt k 2 then [] else (bif Nat.blt k 3 then [] else [3, 6, 7, 8])) else []) else []))) else (bif Nat.blt t 85 then [] else (bif Nat.blt t 86 then [] else (bif Nat.blt t 87 then [] else (bif Nat.blt k 3 then (bif Nat.blt k 1 then [] else (bif Nat.blt k 2 then [] else [1, 2, 10])) else [])))))))) else []
def pkx (t : FuncId) (k : Nat) : List Nat := bif Nat.blt t 88 then (bif Nat.blt t 44 then (bif Nat.blt t 22 then (bif Nat.blt t 11 then (bif Nat.blt t 5 then (bif Nat.blt t 2 then [] else (bif Nat.blt t 3 then [] else (bif Nat.blt t 4 then (bif Nat.blt k 10 then (bif Nat.blt k 5 then [] else (bif Nat.blt k 7 then [] else (bif Nat.blt k 8 then [] else (bif Nat.blt k 9 then [] else [2, 3, 4, 5, 6, 7])))) else []) else (bif Nat.blt k 42 then (bif Nat.blt k 21 then (bif Nat.blt k 10 then [] else (bif Nat.blt k 15 then (bif Nat.blt k 12 then (bif Nat.blt k 11 then [] else [3, 4, 5, 6, 7, 9, 10]) else []) else (bif Nat.blt k 18 then (bif Nat.blt k 16 then [] else (bif Nat.blt k 17 then [2, 3, 7, 11] else [])) else []))) else (bif Nat.blt k 31 then (bif Nat.blt k 26 then (bif Nat.blt k 23 then (bif Nat.blt k 22 then [3, 4, 5, 6, 7, 9, 10, 11, 12, 13, 14, 15] else []) else (bif Nat.blt k 24 then [] else (bif Nat.blt k 25 then [] else [3, 4, 5, 6, 7, 9, 10, 11, 12, 13, 14, 15, 16, 17, 18, 73, 74]))) else []) else (bif Nat.blt k 36 then [] else (bif Nat.blt k 39 then [] else (bif Nat.blt k 40 then [] else (bif Nat.blt k 41 then [] else [2, 3])))))) else [])))) else (bif Nat.blt t 8 then (bif Nat.blt t 6 then (bif Nat.blt k 24 then (bif Nat.blt k 12 then (bif Nat.blt k 6 then [] else (bif Nat.blt k 9 then (bif Nat.blt k 7 then [] else (bif Nat.blt k 8 then [3, 4, 5, 6, 7] else [])) else [])) else (bif Nat.blt k 18 then [] else (bif Nat.blt k 21 then (bif Nat.blt k 19 then [] else (bif Nat.blt k 20 then [2, 3] else [])) else (bif Nat.blt k 22 then [] else (bif Nat.blt k 23 then [] else [3, 5, 12, 14, 16, 17, 18, 114, 115, 116]))))) else []) else []) else [])) else (bif Nat.blt t 16 then (bif Nat.blt t 13 then (bif Nat.blt t 12 then (bif Nat.blt k 15 then (bif Nat.blt k 7 then [] else (bif Nat.blt k 11 then (bif Nat.blt k 9 then [] else (bif Nat.blt k 10 then [15] else [])) else (bif Nat.blt k 13 then [] else (bif Nat.blt k 14 then [] else [2, 3, 4, 5, 12, 13, 14, 15, 16, 49, 50])))) else []) else []) else (bif Nat.blt t 14 then (bif Nat.blt k 5 then (bif Nat.blt k 2 then [] else (bif Nat.blt k 3 then [] else (bif Nat.blt k 4 then [] else [7]))) else []) else (bif Nat.blt t 15 then (bif Nat.blt k 4 then (bif Nat.blt k 2 then [] else (bif Nat.blt k 3 then [] else [2])) else []) else (bif Nat.blt k 5 then (bif Nat.blt k 2 then [] else (bif Nat.blt k 3 then [] else (bif Nat.blt k 4 then [] else [4]))) else [])))) else (bif Nat.blt t 19 then (bif Nat.blt t 17 then [] else (bif Nat.blt t 18 then [] else (bif Nat.blt k 11 then (bif Nat.blt k 5 then [] else (bif Nat.blt k 8 then (bif Nat.blt k 6 then [] else (bif Nat.blt k 7 then [4] else [])) else (bif Nat.blt k 9 then [] else (bif Nat.blt k 10 then [] else [1, 11, 12, 34, 35, 36])))) else []))) else (bif Nat.blt t 20 then [] else (bif Nat.blt t 21 then (bif Nat.blt k 7 then (bif Nat.blt k 3 then [] else (bif Nat.blt k 5 then [] else (bif Nat.blt k 6 then [] else [7]))) else []) else (bif Nat.blt k 7 then (bif Nat.blt k 3 then [] else (bif Nat.blt k 5 then [] else (bif Nat.blt k 6 then [] else [2]))) else [])))))) else (bif Nat.blt t 33 then (bif Nat.blt t 27 then (bif Nat.blt t 24 then [] else (bif Nat.blt t 25 then [] else (bif Nat.blt t 26 then (bif Nat.blt k 3 then (bif Nat.blt k 1 then [] else (bif Nat.blt k 2 then [] else [5])) else []) else []))) else (bif Nat.blt t 30 then [] else (bif Nat.blt t 31 then (bif Nat.blt k 9 then (bif Nat.blt k 4 then [] else (bif Nat.blt k 6 then [] else (bif Nat.blt k 7 then [] else (bif Nat.blt k 8 then [] else [6, 7, 10, 11])))) else []) else (bif Nat.blt t 32 then [] else (bif Nat.blt k 4 then (bif Nat.blt k 2 then [] else (bif Nat.blt k 3 then [] else [8, 9])) else []))))) else (bif Nat.blt t 38 then (bif Nat.blt t 35 then [] else (bif Nat.blt t 36 then [] else (bif Nat.blt t 37 then [] else (bif Nat.blt k 4 then (bif Nat.blt k 2 then [] else (bif Nat.blt k 3 then [] else [1, 2])) else [])))) else (bif Nat.blt t 41 then (bif Nat.blt t 39 then [] else (bif Nat.blt t 40 then [] else (bif Nat.blt k 10 then (bif Nat.blt k 5 then [] else (bif Nat.blt k 7 then [] else (bif Nat.blt k 8 then [] else (bif Nat.blt k 9 then [] else [0, 6, 7, 8, 9])))) else []))) else (bif Nat.blt t 42 then (bif Nat.blt k 12 then (bif Nat.blt k 6 then (bif Nat.blt k 3 then [] else (bif Nat.blt k 4 then [] else (bif Nat.blt k 5 then [5] else []))) else (bif Nat.blt k 9 then (bif Nat.blt k 7 then [] else (bif Nat.blt k 8 then [] else [3, 5, 6])) else (bif Nat.blt k 10 then [] else (bif Nat.blt k 11 then [] else [3, 5, 6, 7, 8, 9])))) else []) else []))))) else (bif Nat.blt t 66 then (bif Nat.blt t 55 then (bif Nat.blt t 49 then (bif Nat.blt t 46 then (bif Nat.blt t 45 then [] else (bif Nat.blt k 39 then (bif Nat.blt k 19 then (bif Nat.blt k 9 then (bif Nat.blt k 4 then [] else (bif Nat.blt k 6 then (bif Nat.blt k 5 then [] else [3, 9]) else [])) else (bif Nat.blt k 14 then [] else (bif Nat.blt k 16 then (bif Nat.blt k 15 then [3, 5, 6, 7, 9, 12] else []) else (bif Nat.blt k 17 then [] else (bif Nat.blt k 18 then [] else [7, 9, 12]))))) else (bif Nat.blt k 29 then (bif Nat.blt k 24 then [] else (bif Nat.blt k 26 then (bif Nat.blt k 25 then [] else [3, 5, 6, 7, 9, 12, 19, 72, 73, 74]) else [])) else (bif Nat.blt k 34 then [] else (bif Nat.blt k 36 then [] else (bif Nat.blt k 37 then [] else (bif Nat.blt k 38 then [] else [9])))))) else [])) else (bif Nat.blt t 47 then [] else (bif Nat.blt t 48 then (bif Nat.blt k 2 then (bif Nat.blt k 1 then [] else []) else []) else []))) else (bif Nat.blt t 52 then (bif Nat.blt t 50 then (bif Nat.blt k 3 then (bif Nat.blt k 1 then [] else (bif Nat.blt k 2 then [] else [4])) else []) else []) else [])) else (bif Nat.blt t 60 then (bif Nat.blt t 57 then (bif Nat.blt t 56 then (bif Nat.blt k 3 then (bif Nat.blt k 1 then [] else (bif Nat.blt k 2 then [] else [4])) else []) else []) else (bif Nat.blt t 58 then [] else (bif Nat.blt t 59 then (bif Nat.blt k 9 then (bif Nat.blt k 4 then [] else (bif Nat.blt k 6 then (bif Nat.blt k 5 then [4] else []) else (bif Nat.blt k 7 then [] else (bif Nat.blt k 8 then [] else [0, 3, 4, 5, 6, 7])))) else []) else (bif Nat.blt k 6 then (bif Nat.blt k 3 then [] else (bif Nat.blt k 4 then [] else (bif Nat.blt k 5 then [] else [0, 6, 7]))) else [])))) else (bif Nat.blt t 63 then [] else (bif Nat.blt t 64 then [] else (bif Nat.blt t 65 then (bif Nat.blt k 8 then (bif Nat.blt k 4 then [] else (bif Nat.blt k 6 then [] else (bif Nat.blt k 7 then [] else [2]))) else []) else []))))) else (bif Nat.blt t 77 then (bif Nat.blt t 71 then (bif Nat.blt t 68 then [] else (bif Nat.blt t 69 then [] else (bif Nat.blt t 70 then (bif Nat.blt k 5 then (bif Nat.blt k 2 then [] else (bif Nat.blt k 3 then [] else (bif Nat.blt k 4 then [] else [6]))) else []) else (bif Nat.blt k 3 then (bif Nat.blt k 1 then [] else (bif Nat.blt k 2 then [] else [1, 2])) else [])))) else []) else (bif Nat.blt t 82 then (bif Nat.blt t 79 then (bif Nat.blt t 78 then [] else (bif Nat.blt k 3 then (bif Nat.blt k 1 then [] else (bif Nat.blt k 2 then [] else [4])) else [])) else (bif Nat.blt t 80 then [] else (bif Nat.blt t 81 then (bif Nat.blt k 4 then (bif Nat.blt k 2 then [] else (bif Nat.blt k 3 then [] else [2, 3])) else []) else []))) else (bif Nat.blt t 85 then [] else (bif Nat.blt t 86 then [] else (bif Nat.blt t 87 then [] else (bif Nat.blt k 3 then (bif Nat.blt k 1 then [] else (bif Nat.blt k 2 then [] else [6])) else [])))))))) else []
def prw (t : FuncId) (k : Nat) : List Rw := bif Nat.blt t 59 then (bif Nat.blt t 29 then (bif Nat.blt t 14 then (bif Nat.blt t 7 then (bif Nat.blt t 3 then [] else (bif Nat.blt t 5 then (bif Nat.blt t 4 then [] else (bif Nat.blt k 22 then (bif Nat.blt k 11 then [] else (bif Nat.blt k 16 then [] else (bif Nat.blt k 19 then [] else (bif Nat.blt k 20 then [] else (bif Nat.blt k 21 then [] else [.slot 13 3 1, .slot 14 3 1]))))) else [])) else (bif Nat.blt t 6 then (bif Nat.blt k 8 then (bif Nat.blt k 4 then [] else (bif Nat.blt k 6 then [] else (bif Nat.blt k 7 then [] else [.slot 7 54 8]))) else []) else []))) else (bif Nat.blt t 10 then [] else (bif Nat.blt t 12 then (bif Nat.blt t 11 then [] else (bif Nat.blt k 10 then (bif Nat.blt k 5 then [] else (bif Nat.blt k 7 then [] else (bif Nat.blt k 8 then [] else (bif Nat.blt k 9 then [] else [.cell 12 0 3 1, .slot 15 3 1])))) else [])) else (bif Nat.blt t 13 then [] else (bif Nat.blt k 5 then (bif Nat.blt k 2 then [] else (bif Nat.blt k 3 then [] else (bif Nat.blt k 4 then [] else [.slot 7 3 1]))) else []))))) else (bif Nat.blt t 21 then (bif Nat.blt t 17 then (bif Nat.blt t 15 then (bif Nat.blt k 4 then (bif Nat.blt k 2 then [] else (bif Nat.blt k 3 then [] else [.slot 2 31 5])) else []) else []) else (bif Nat.blt t 19 then [] else (bif Nat.blt t 20 then [] else (bif Nat.blt k 7 then (bif Nat.blt k 3 then [] else (bif Nat.blt k 5 then [] else (bif Nat.blt k 6 then [] else [.slot 7 54 8]))) else [])))) else [])) else (bif Nat.blt t 44 then (bif Nat.blt t 36 then [] else (bif Nat.blt t 40 then [] else (bif Nat.blt t 42 then (bif Nat.blt t 41 then (bif Nat.blt k 10 then (bif Nat.blt k 5 then [] else (bif Nat.blt k 7 then [] else (bif Nat.blt k 8 then [] else (bif Nat.blt k 9 then [] else [.cell 9 4 31 5])))) else []) else (bif Nat.blt k 9 then (bif Nat.blt k 4 then [] else (bif Nat.blt k 6 then (bif Nat.blt k 5 then [.slot 5 52 2] else []) else (bif Nat.blt k 7 then [] else (bif Nat.blt k 8 then [] else [.slot 5 52 2])))) else [])) else []))) else (bif Nat.blt t 51 then [] else (bif Nat.blt t 55 then [] else (bif Nat.blt t 57 then [] else (bif Nat.blt t 58 then [] else (bif Nat.blt k 5 then (bif Nat.blt k 2 then [] else (bif Nat.blt k 3 then [] else (bif Nat.blt k 4 then [] else [.slot 4 52 2]))) else []))))))) else []
def pdm (t : FuncId) (k : Nat) : Nat := bif Nat.blt t 77 then (bif Nat.blt t 38 then (bif Nat.blt t 19 then (bif Nat.blt t 9 then (bif Nat.blt t 4 then (bif Nat.blt t 2 then 0 else (bif Nat.blt t 3 then 0 else (bif Nat.blt k 13 then (bif Nat.blt k 6 then 0 else (bif Nat.blt k 9 then 0 else (bif Nat.blt k 11 then 0 else (bif Nat.blt k 12 then 0 else 13)))) else 0))) else (bif Nat.blt t 6 then 0 else (bif Nat.blt t 7 then (bif Nat.blt k 8 then (bif Nat.blt k 4 then (bif Nat.blt k 2 then 0 else (bif Nat.blt k 3 then 0 else 11)) else (bif Nat.blt k 6 then 0 else (bif Nat.blt k 7 then 0 else 36))) else 0) else (bif Nat.blt t 8 then (bif Nat.blt k 3 then (bif Nat.blt k 1 then 0 else (bif Nat.blt k 2 then 0 else 5)) else 0) else 0)))) else (bif Nat.blt t 14 then 0 else (bif Nat.blt t 16 then (bif Nat.blt t 15 then 0 else (bif Nat.blt k 7 then (bif Nat.blt k 3 then 0 else (bif Nat.blt k 5 then 0 else (bif Nat.blt k 6 then 0 else 8))) else 0)) else (bif Nat.blt t 17 then (bif Nat.blt k 4 then (bif Nat.blt k 2 then 0 else (bif Nat.blt k 3 then 0 else 10)) else 0) else (bif Nat.blt t 18 then 0 else (bif Nat.blt k 3 then (bif Nat.blt k 1 then 0 else (bif Nat.blt k 2 then 0 else 8)) else 0)))))) else (bif Nat.blt t 28 then (bif Nat.blt t 23 then (bif Nat.blt t 21 then (bif Nat.blt t 20 then 0 else (bif Nat.blt k 9 then (bif Nat.blt k 4 then 0 else (bif Nat.blt k 6 then 0 else (bif Nat.blt k 7 then 0 else (bif Nat.blt k 8 then 0 else 21)))) else 0)) else 0) else 0) else (bif Nat.blt t 33 then (bif Nat.blt t 30 then 0 else (bif Nat.blt t 31 then (bif Nat.blt k 17 then (bif Nat.blt k 8 then (bif Nat.blt k 4 then 0 else (bif Nat.blt k 6 then (bif Nat.blt k 5 then 9 else 0) else 0)) else (bif Nat.blt k 12 then 0 else (bif Nat.blt k 14 then 0 else (bif Nat.blt k 15 then 0 else (bif Nat.blt k 16 then 0 else 10))))) else 0) else 0)) else (bif Nat.blt t 35 then (bif Nat.blt t 34 then (bif Nat.blt k 2 then (bif Nat.blt k 1 then 0 else 5) else 0) else 0) else (bif Nat.blt t 36 then (bif Nat.blt k 8 then (bif Nat.blt k 4 then 0 else (bif Nat.blt k 6 then 0 else (bif Nat.blt k 7 then 8 else 3))) else 0) else (bif Nat.blt t 37 then 0 else (bif Nat.blt k 6 then (bif Nat.blt k 3 then (bif Nat.blt k 1 then 0 else (bif Nat.blt k 2 then 7 else 0)) else (bif Nat.blt k 4 then 0 else (bif Nat.blt k 5 then 0 else 5))) else 0))))))) else (bif Nat.blt t 57 then (bif Nat.blt t 47 then (bif Nat.blt t 42 then (bif Nat.blt t 40 then 0 else (bif Nat.blt t 41 then (bif Nat.blt k 12 then (bif Nat.blt k 6 then (bif Nat.blt k 3 then 0 else (bif Nat.blt k 4 then 0 else (bif Nat.blt k 5 then 10 else 7))) else (bif Nat.blt k 9 then 0 else (bif Nat.blt k 10 then 0 else (bif Nat.blt k 11 then 0 else 10)))) else 0) else (bif Nat.blt k 16 then (bif Nat.blt k 8 then 0 else (bif Nat.blt k 12 then (bif Nat.blt k 10 then 0 else (bif Nat.blt k 11 then 0 else 13)) else (bif Nat.blt k 14 then (bif Nat.blt k 13 then 0 else 13) else (bif Nat.blt k 15 then 0 else 7)))) else 0))) else (bif Nat.blt t 44 then (bif Nat.blt t 43 then (bif Nat.blt k 5 then (bif Nat.blt k 2 then (bif Nat.blt k 1 then 0 else 9) else (bif Nat.blt k 3 then 0 else (bif Nat.blt k 4 then 0 else 12))) else 0) else 0) else (bif Nat.blt t 45 then 0 else (bif Nat.blt t 46 then (bif Nat.blt k 30 then (bif Nat.blt k 15 then (bif Nat.blt k 7 then 0 else (bif Nat.blt k 11 then (bif Nat.blt k 9 then (bif Nat.blt k 8 then 16 else 0) else 0) else 0)) else (bif Nat.blt k 22 then 0 else (bif Nat.blt k 26 then 0 else (bif Nat.blt k 28 then 0 else (bif Nat.blt k 29 then 0 else 6))))) else 0) else 0)))) else (bif Nat.blt t 52 then (bif Nat.blt t 49 then (bif Nat.blt t 48 then 0 else (bif Nat.blt k 2 then (bif Nat.blt k 1 then 0 else 12) else 0)) else 0) else (bif Nat.blt t 54 then 0 else (bif Nat.blt t 55 then 0 else (bif Nat.blt t 56 then (bif Nat.blt k 5 then (bif Nat.blt k 2 then 0 else (bif Nat.blt k 3 then 0 else (bif Nat.blt k 4 then 0 else 5))) else 0) else 0))))) else (bif Nat.blt t 67 then (bif Nat.blt t 62 then (bif Nat.blt t 59 then (bif Nat.blt t 58 then (bif Nat.blt k 4 then (bif Nat.blt k 2 then (bif Nat.blt k 1 then 0 else 9) else (bif Nat.blt k 3 then 0 else 15)) else 0) else (bif Nat.blt k 13 then (bif Nat.blt k 6 then 0 else (bif Nat.blt k 9 then (bif Nat.blt k 7 then 0 else (bif Nat.blt k 8 then 0 else 10)) else (bif Nat.blt k 11 then (bif Nat.blt k 10 then 0 else 10) else (bif Nat.blt k 12 then 0 else 7)))) else 0)) else 0) else (bif Nat.blt t 64 then 0 else (bif Nat.blt t 65 then (bif Nat.blt k 10 then (bif Nat.blt k 5 then 0 else (bif Nat.blt k 7 then 0 else (bif Nat.blt k 8 then 0 else (bif Nat.blt k 9 then 0 else 10)))) else 0) else 0))) else (bif Nat.blt t 72 then (bif Nat.blt t 69 then 0 else (bif Nat.blt t 70 then 0 else (bif Nat.blt t 71 then (bif Nat.blt k 8 then (bif Nat.blt k 4 then 0 else (bif Nat.blt k 6 then 0 else (bif Nat.blt k 7 then 0 else 15))) else 0) else 0))) else (bif Nat.blt t 74 then 0 else (bif Nat.blt t 75 then 0 else (bif Nat.blt t 76 then 0 else (bif Nat.blt k 2 then (bif Nat.blt k 1 then 0 else 9) else 0)))))))) else 0
def pan (t : FuncId) (k : Nat) : List (List Nat) := bif Nat.blt t 77 then (bif Nat.blt t 38 then (bif Nat.blt t 19 then (bif Nat.blt t 9 then (bif Nat.blt t 4 then (bif Nat.blt t 2 then [] else (bif Nat.blt t 3 then [] else (bif Nat.blt k 13 then (bif Nat.blt k 6 then [] else (bif Nat.blt k 9 then [] else (bif Nat.blt k 11 then [] else (bif Nat.blt k 12 then [] else [[], [], [], [], [], [], [], [], [], [], [], [], []])))) else []))) else (bif Nat.blt t 6 then [] else (bif Nat.blt t 7 then (bif Nat.blt k 8 then (bif Nat.blt k 4 then (bif Nat.blt k 2 then [] else (bif Nat.blt k 3 then [] else [[], [], [0, 1], [], [], [], [4, 5], [], [], [], [0, 1, 2, 8, 9]])) else (bif Nat.blt k 6 then [] else (bif Nat.blt k 7 then [] else [[], [], [], [], [], [0, 1, 4], [], [0, 1, 4, 5], [0, 1, 4, 5], [], [], [0, 1, 4, 5], [0, 1, 4, 5, 7, 8, 11], [], [], [], [0, 1, 4, 5, 7, 8, 11, 12], [0, 1, 4, 5, 7, 8, 11, 12], [], [], [0, 1, 4, 5, 7, 8, 11, 12], [0, 1, 4, 5, 7, 8, 11, 12, 16, 17, 20], [], [], [], [0, 1, 4, 5, 7, 8, 11, 12, 16, 17, 20, 21], [0, 1, 4, 5, 7, 8, 11, 12, 16, 17, 20, 21], [], [0, 1, 4, 5, 7, 8, 11, 12, 16, 17, 20, 21], [0, 1, 4, 5, 7, 8, 11, 12, 16, 17, 20, 21, 25, 26, 28], [], [], [0, 1, 4, 5, 7, 8, 11, 12, 16, 17, 20, 21, 25, 26, 28, 29], [0, 1, 4, 5, 7, 8, 11, 12, 16, 17, 20, 21, 25, 26, 28, 29], [], [0, 1, 4, 5, 7, 8, 11, 12, 16, 17, 20, 21, 25, 26, 28, 29]]))) else []) else (bif Nat.blt t 8 then (bif Nat.blt k 3 then (bif Nat.blt k 1 then [] else (bif Nat.blt k 2 then [] else [[], [], [], [], [1, 3]])) else []) else [])))) else (bif Nat.blt t 14 then [] else (bif Nat.blt t 16 then (bif Nat.blt t 15 then [] else (bif Nat.blt k 7 then (bif Nat.blt k 3 then [] else (bif Nat.blt k 5 then [] else (bif Nat.blt k 6 then [] else [[], [], [], [], [], [], [], []]))) else [])) else (bif Nat.blt t 17 then (bif Nat.blt k 4 then (bif Nat.blt k 2 then [] else (bif Nat.blt k 3 then [] else [[], [], [1], [], [], [], [4, 5], [], [], [1, 2]])) else []) else (bif Nat.blt t 18 then [] else (bif Nat.blt k 3 then (bif Nat.blt k 1 then [] else (bif Nat.blt k 2 then [] else [[], [], [], [0, 1], [], [], [], []])) else [])))))) else (bif Nat.blt t 28 then (bif Nat.blt t 23 then (bif Nat.blt t 21 then (bif Nat.blt t 20 then [] else (bif Nat.blt k 9 then (bif Nat.blt k 4 then [] else (bif Nat.blt k 6 then [] else (bif Nat.blt k 7 then [] else (bif Nat.blt k 8 then [] else [[], [], [], [], [], [], [4], [], [], [4], [], [4, 7, 9], [], [], [4, 9], [], [4, 9, 12, 14], [], [4, 9, 14], [], []])))) else [])) else []) else []) else (bif Nat.blt t 33 then (bif Nat.blt t 30 then [] else (bif Nat.blt t 31 then (bif Nat.blt k 17 then (bif Nat.blt k 8 then (bif Nat.blt k 4 then [] else (bif Nat.blt k 6 then (bif Nat.blt k 5 then [[], [], [], [], [], [4], [], [], [4, 5, 6, 7]] else []) else [])) else (bif Nat.blt k 12 then [] else (bif Nat.blt k 14 then [] else (bif Nat.blt k 15 then [] else (bif Nat.blt k 16 then [] else [[], [], [], [], [], [], [], [], [], []]))))) else []) else [])) else (bif Nat.blt t 35 then (bif Nat.blt t 34 then (bif Nat.blt k 2 then (bif Nat.blt k 1 then [] else [[], [], [], [0], []]) else []) else []) else (bif Nat.blt t 36 then (bif Nat.blt k 8 then (bif Nat.blt k 4 then [] else (bif Nat.blt k 6 then [] else (bif Nat.blt k 7 then [[], [], [1], [0, 1, 2], [], [], [], [0, 1, 2, 3]] else [[], [], [0]]))) else []) else (bif Nat.blt t 37 then [] else (bif Nat.blt k 6 then (bif Nat.blt k 3 then (bif Nat.blt k 1 then [] else (bif Nat.blt k 2 then [[], [], [1], [], [], [1, 2, 4], []] else [])) else (bif Nat.blt k 4 then [] else (bif Nat.blt k 5 then [] else [[], [], [], [], [3]]))) else []))))))) else (bif Nat.blt t 57 then (bif Nat.blt t 47 then (bif Nat.blt t 42 then (bif Nat.blt t 40 then [] else (bif Nat.blt t 41 then (bif Nat.blt k 12 then (bif Nat.blt k 6 then (bif Nat.blt k 3 then [] else (bif Nat.blt k 4 then [] else (bif Nat.blt k 5 then [[], [], [], [], [], [1], [], [1, 3, 5], [], [1, 5]] else [[], [], [], [], [0, 2], [], [2]]))) else (bif Nat.blt k 9 then [] else (bif Nat.blt k 10 then [] else (bif Nat.blt k 11 then [] else [[], [], [], [], [], [], [], [], [], [8]])))) else []) else (bif Nat.blt k 16 then (bif Nat.blt k 8 then [] else (bif Nat.blt k 12 then (bif Nat.blt k 10 then [] else (bif Nat.blt k 11 then [] else [[], [], [], [], [], [], [], [], [], [], [], [], []])) else (bif Nat.blt k 14 then (bif Nat.blt k 13 then [] else [[], [], [], [], [], [], [], [], [], [], [], [], []]) else (bif Nat.blt k 15 then [] else [[], [], [], [], [], [], []])))) else []))) else (bif Nat.blt t 44 then (bif Nat.blt t 43 then (bif Nat.blt k 5 then (bif Nat.blt k 2 then (bif Nat.blt k 1 then [] else [[], [], [], [], [], [], [], [], []]) else (bif Nat.blt k 3 then [] else (bif Nat.blt k 4 then [] else [[], [], [], [], [], [], [], [], [], [], [3, 7], []]))) else []) else []) else (bif Nat.blt t 45 then [] else (bif Nat.blt t 46 then (bif Nat.blt k 30 then (bif Nat.blt k 15 then (bif Nat.blt k 7 then [] else (bif Nat.blt k 11 then (bif Nat.blt k 9 then (bif Nat.blt k 8 then [[], [], [], [], [], [2, 3, 4], [], [], [2, 3, 4, 5], [2, 3, 4, 5], [2, 3, 4, 5], [], [2, 3, 4, 5, 8, 9, 10], [2, 3, 4, 5], [2, 3, 4, 5, 8, 9, 10, 12, 13], []] else []) else []) else [])) else (bif Nat.blt k 22 then [] else (bif Nat.blt k 26 then [] else (bif Nat.blt k 28 then [] else (bif Nat.blt k 29 then [] else [[], [], [], [], [], [2, 3]]))))) else []) else [])))) else (bif Nat.blt t 52 then (bif Nat.blt t 49 then (bif Nat.blt t 48 then [] else (bif Nat.blt k 2 then (bif Nat.blt k 1 then [] else [[], [], [], [], [], [2, 3], [], [], [], [6], [], []]) else [])) else []) else (bif Nat.blt t 54 then [] else (bif Nat.blt t 55 then [] else (bif Nat.blt t 56 then (bif Nat.blt k 5 then (bif Nat.blt k 2 then [] else (bif Nat.blt k 3 then [] else (bif Nat.blt k 4 then [] else [[], [], [], [], []]))) else []) else []))))) else (bif Nat.blt t 67 then (bif Nat.blt t 62 then (bif Nat.blt t 59 then (bif Nat.blt t 58 then (bif Nat.blt k 4 then (bif Nat.blt k 2 then (bif Nat.blt k 1 then [] else [[], [], [], [], [], [], [], [], []]) else (bif Nat.blt k 3 then [] else [[], [], [], [], [], [], [], [], [], [3, 7], [], [], [], [], []])) else []) else (bif Nat.blt k 13 then (bif Nat.blt k 6 then [] else (bif Nat.blt k 9 then (bif Nat.blt k 7 then [] else (bif Nat.blt k 8 then [] else [[], [], [], [], [], [], [], [], [], []])) else (bif Nat.blt k 11 then (bif Nat.blt k 10 then [] else [[], [], [], [], [], [], [], [], [], []]) else (bif Nat.blt k 12 then [] else [[], [], [], [], [], [], []])))) else [])) else []) else (bif Nat.blt t 64 then [] else (bif Nat.blt t 65 then (bif Nat.blt k 10 then (bif Nat.blt k 5 then [] else (bif Nat.blt k 7 then [] else (bif Nat.blt k 8 then [] else (bif Nat.blt k 9 then [] else [[], [], [], [], [], [], [], [], [4], []])))) else []) else []))) else (bif Nat.blt t 72 then (bif Nat.blt t 69 then [] else (bif Nat.blt t 70 then [] else (bif Nat.blt t 71 then (bif Nat.blt k 8 then (bif Nat.blt k 4 then [] else (bif Nat.blt k 6 then [] else (bif Nat.blt k 7 then [] else [[], [], [], [], [], [], [], [1, 3], [], [1, 3], [], [1, 3], [1, 3, 7, 9, 11], [], [1, 3]]))) else []) else []))) else (bif Nat.blt t 74 then [] else (bif Nat.blt t 75 then [] else (bif Nat.blt t 76 then [] else (bif Nat.blt k 2 then (bif Nat.blt k 1 then [] else [[], [], [], [], [1, 3], [], [], [], []]) else [])))))))) else []
def prk (t : FuncId) (k : Nat) : List Nat := bif Nat.blt t 36 then (bif Nat.blt t 18 then [] else (bif Nat.blt t 27 then [] else (bif Nat.blt t 31 then [] else (bif Nat.blt t 33 then [] else (bif Nat.blt t 34 then [] else (bif Nat.blt t 35 then [] else (bif Nat.blt k 5 then (bif Nat.blt k 2 then [] else (bif Nat.blt k 3 then [] else (bif Nat.blt k 4 then [] else [2, 3, 4]))) else []))))))) else []
def ppr : FuncId → Option (Nat → List R → List (Nat × B) → Option (R × List (Nat × B)))
  | 53 => some (pr0 (q4M T 52 false))
  | 54 => some (pr0 (q4M T 31 true))
  | _ => none
def pol : Pol := ⟨pq, pow, pfz, pkp, pkx, prw, pro, pdm, pan, prk, ppr⟩
theorem qyB : T.ip 7 = none := rfl
theorem qxC : T.ip 9 = none := rfl
theorem qug : T.ip 14 = none := rfl
theorem qt1 : T.ip 19 = none := rfl
theorem que : T.ip 21 = none := rfl
theorem qu2 : T.ip 31 = none := rfl
theorem qtU : T.ip 34 = none := rfl
theorem qsG : T.ip 35 = none := rfl
theorem qun : T.ip 36 = none := rfl
theorem qt2 : T.ip 37 = none := rfl
theorem qsL : T.ip 41 = none := rfl
theorem qtv : T.ip 52 = none := rfl
theorem qtR : T.ip 62 = none := rfl
theorem qtr : T.ip 63 = none := rfl
theorem qtC : T.ip 64 = none := rfl
theorem qtj : T.ip 65 = none := rfl
theorem qu9 : T.ip 70 = none := rfl
theorem qu3 : T.ip 72 = none := rfl
theorem qtd : T.ip 74 = none := rfl
theorem qsC : T.ip 75 = none := rfl
theorem qsH : T.ip 80 = none := rfl
theorem qtu : T.ip 83 = none := rfl
theorem qtY : T.ip 85 = none := rfl
theorem qsK : T.ip 86 = none := rfl
theorem qtm : pol.rk 6 3 = [] := rfl
theorem qu4 : pol.rk 6 7 = [] := rfl
theorem quB : pol.rk 7 2 = [] := rfl
theorem qpe : pol.rk 15 6 = [] := rfl
theorem qoW : pol.rk 16 3 = [] := rfl
theorem qri : pol.rk 18 2 = [] := rfl
theorem qoo : pol.rk 20 8 = [] := rfl
theorem qp9 : pol.rk 30 4 = [] := rfl
theorem qlx : pol.rk 30 16 = [] := rfl
theorem qqv : pol.rk 33 1 = [] := rfl
theorem qpH : pol.rk 35 6 = [] := rfl
theorem qoR : pol.rk 35 7 = [] := rfl
theorem qr6 : pol.rk 37 1 = [] := rfl
theorem qpy : pol.rk 37 5 = [] := rfl
theorem qpF : pol.rk 40 4 = [] := rfl
theorem qoz : pol.rk 40 5 = [] := rfl
theorem qlO : pol.rk 40 11 = [] := rfl
theorem qn7 : pol.rk 41 11 = [] := rfl
theorem qms : pol.rk 41 13 = [] := rfl
theorem qm3 : pol.rk 41 15 = [] := rfl
theorem qqg : pol.rk 42 1 = [] := rfl
theorem qph : pol.rk 42 4 = [] := rfl
theorem qrL : pol.rk 45 7 = [] := rfl
theorem qmt : pol.rk 45 29 = [] := rfl
theorem qrh : pol.rk 48 1 = [] := rfl
theorem qqZ : pol.rk 55 4 = [] := rfl
theorem qoO : pol.rk 57 1 = [] := rfl
theorem qqz : pol.rk 57 3 = [] := rfl
theorem qqr : pol.rk 58 8 = [] := rfl
theorem qmY : pol.rk 58 10 = [] := rfl
theorem qnJ : pol.rk 58 12 = [] := rfl
theorem qoh : pol.rk 64 9 = [] := rfl
theorem qoq : pol.rk 70 7 = [] := rfl
theorem qou : pol.rk 76 1 = [] := rfl
theorem qrg : pol.rk 35 4 = [2, 3, 4] := rfl
theorem qup : pol.dm 6 3 = 11 ∧ pol.an 6 3 = [[], [], [0, 1], [], [], [], [4, 5], [], [], [], [0, 1, 2, 8, 9]] := ⟨rfl, rfl⟩
theorem qsy : pol.dm 6 7 = 36 ∧ pol.an 6 7 = [[], [], [], [], [], [0, 1, 4], [], [0, 1, 4, 5], [0, 1, 4, 5], [], [], [0, 1, 4, 5], [0, 1, 4, 5, 7, 8, 11], [], [], [], [0, 1, 4, 5, 7, 8, 11, 12], [0, 1, 4, 5, 7, 8, 11, 12], [], [], [0, 1, 4, 5, 7, 8, 11, 12], [0, 1, 4, 5, 7, 8, 11, 12, 16, 17, 20], [], [], [], [0, 1, 4, 5, 7, 8, 11, 12, 16, 17, 20, 21], [0, 1, 4, 5, 7, 8, 11, 12, 16, 17, 20, 21], [], [0, 1, 4, 5, 7, 8, 11, 12, 16, 17, 20, 21], [0, 1, 4, 5, 7, 8, 11, 12, 16, 17, 20, 21, 25, 26, 28], [], [], [0, 1, 4, 5, 7, 8, 11, 12, 16, 17, 20, 21, 25, 26, 28, 29], [0, 1, 4, 5, 7, 8, 11, 12, 16, 17, 20, 21, 25, 26, 28, 29], [], [0, 1, 4, 5, 7, 8, 11, 12, 16, 17, 20, 21, 25, 26, 28, 29]] := ⟨rfl, rfl⟩
theorem qsA : pol.dm 7 2 = 5 ∧ pol.an 7 2 = [[], [], [], [], [1, 3]] := ⟨rfl, rfl⟩
theorem qqR : pol.dm 15 6 = 8 ∧ pol.an 15 6 = [[], [], [], [], [], [], [], []] := ⟨rfl, rfl⟩
theorem qr1 : pol.dm 16 3 = 10 ∧ pol.an 16 3 = [[], [], [1], [], [], [], [4, 5], [], [], [1, 2]] := ⟨rfl, rfl⟩
theorem qrx : pol.dm 18 2 = 8 ∧ pol.an 18 2 = [[], [], [], [0, 1], [], [], [], []] := ⟨rfl, rfl⟩
theorem qpQ : pol.dm 20 8 = 21 ∧ pol.an 20 8 = [[], [], [], [], [], [], [4], [], [], [4], [], [4, 7, 9], [], [], [4, 9], [], [4, 9, 12, 14], [], [4, 9, 14], [], []] := ⟨rfl, rfl⟩
theorem qpK : pol.dm 30 4 = 9 ∧ pol.an 30 4 = [[], [], [], [], [], [4], [], [], [4, 5, 6, 7]] := ⟨rfl, rfl⟩
theorem qmP : pol.dm 30 16 = 10 ∧ pol.an 30 16 = [[], [], [], [], [], [], [], [], [], []] := ⟨rfl, rfl⟩
theorem qpY : pol.dm 33 1 = 5 ∧ pol.an 33 1 = [[], [], [], [0], []] := ⟨rfl, rfl⟩
theorem qon : pol.dm 35 6 = 8 ∧ pol.an 35 6 = [[], [], [1], [0, 1, 2], [], [], [], [0, 1, 2, 3]] := ⟨rfl, rfl⟩
theorem qrO : pol.dm 35 7 = 3 ∧ pol.an 35 7 = [[], [], [0]] := ⟨rfl, rfl⟩
theorem qqi : pol.dm 37 1 = 7 ∧ pol.an 37 1 = [[], [], [1], [], [], [1, 2, 4], []] := ⟨rfl, rfl⟩
theorem qqw : pol.dm 37 5 = 5 ∧ pol.an 37 5 = [[], [], [], [], [3]] := ⟨rfl, rfl⟩
theorem qqj : pol.dm 40 4 = 10 ∧ pol.an 40 4 = [[], [], [], [], [], [1], [], [1, 3, 5], [], [1, 5]] := ⟨rfl, rfl⟩
theorem qpi : pol.dm 40 5 = 7 ∧ pol.an 40 5 = [[], [], [], [], [0, 2], [], [2]] := ⟨rfl, rfl⟩
theorem qmn : pol.dm 40 11 = 10 ∧ pol.an 40 11 = [[], [], [], [], [], [], [], [], [], [8]] := ⟨rfl, rfl⟩
theorem qlC : pol.dm 41 11 = 13 ∧ pol.an 41 11 = [[], [], [], [], [], [], [], [], [], [], [], [], []] := ⟨rfl, rfl⟩
theorem qlR : pol.dm 41 13 = 13 ∧ pol.an 41 13 = [[], [], [], [], [], [], [], [], [], [], [], [], []] := ⟨rfl, rfl⟩
theorem qlV : pol.dm 41 15 = 7 ∧ pol.an 41 15 = [[], [], [], [], [], [], []] := ⟨rfl, rfl⟩
theorem qoI : pol.dm 42 1 = 9 ∧ pol.an 42 1 = [[], [], [], [], [], [], [], [], []] := ⟨rfl, rfl⟩
theorem qp4 : pol.dm 42 4 = 12 ∧ pol.an 42 4 = [[], [], [], [], [], [], [], [], [], [], [3, 7], []] := ⟨rfl, rfl⟩
theorem qpU : pol.dm 45 7 = 16 ∧ pol.an 45 7 = [[], [], [], [], [], [2, 3, 4], [], [], [2, 3, 4, 5], [2, 3, 4, 5], [2, 3, 4, 5], [], [2, 3, 4, 5, 8, 9, 10], [2, 3, 4, 5], [2, 3, 4, 5, 8, 9, 10, 12, 13], []] := ⟨rfl, rfl⟩
theorem qnz : pol.dm 45 29 = 6 ∧ pol.an 45 29 = [[], [], [], [], [], [2, 3]] := ⟨rfl, rfl⟩
theorem qra : pol.dm 48 1 = 12 ∧ pol.an 48 1 = [[], [], [], [], [], [2, 3], [], [], [], [6], [], []] := ⟨rfl, rfl⟩
theorem qnZ : pol.dm 55 4 = 5 ∧ pol.an 55 4 = [[], [], [], [], []] := ⟨rfl, rfl⟩
theorem qqH : pol.dm 57 1 = 9 ∧ pol.an 57 1 = [[], [], [], [], [], [], [], [], []] := ⟨rfl, rfl⟩
theorem qpC : pol.dm 57 3 = 15 ∧ pol.an 57 3 = [[], [], [], [], [], [], [], [], [], [3, 7], [], [], [], [], []] := ⟨rfl, rfl⟩
theorem qrj : pol.dm 58 8 = 10 ∧ pol.an 58 8 = [[], [], [], [], [], [], [], [], [], []] := ⟨rfl, rfl⟩
theorem qnr : pol.dm 58 10 = 10 ∧ pol.an 58 10 = [[], [], [], [], [], [], [], [], [], []] := ⟨rfl, rfl⟩
theorem qnB : pol.dm 58 12 = 7 ∧ pol.an 58 12 = [[], [], [], [], [], [], []] := ⟨rfl, rfl⟩
theorem qrq : pol.dm 64 9 = 10 ∧ pol.an 64 9 = [[], [], [], [], [], [], [], [], [4], []] := ⟨rfl, rfl⟩
theorem qrP : pol.dm 70 7 = 15 ∧ pol.an 70 7 = [[], [], [], [], [], [], [], [1, 3], [], [1, 3], [], [1, 3], [1, 3, 7, 9, 11], [], [1, 3]] := ⟨rfl, rfl⟩
theorem qom : pol.dm 76 1 = 9 ∧ pol.an 76 1 = [[], [], [], [], [1, 3], [], [], [], []] := ⟨rfl, rfl⟩
theorem q22 : pol.q 22 = [1] := rfl
theorem q26 : pol.q 26 = [1, 1, 0, 0, 0, 0, 0, 0] := rfl
theorem q28 : pol.q 28 = [2] := rfl
theorem q29 : pol.q 29 = [5] := rfl
theorem q31 : pol.q 31 = [0, 0, 0, 2, 5] := rfl
theorem q32 : pol.q 32 = [8] := rfl
theorem q39 : pol.q 39 = [1] := rfl
theorem q54 : pol.q 54 = [0, 0, 0, 0, 0, 1, 0, 1] := rfl
theorem q63 : pol.q 63 = [1] := rfl
theorem q95 : pol.q 95 = [1] := rfl
theorem qxA : pol.q 107 = [6] := rfl
theorem qwL : pol.q 111 = [0, 0, 0, 2, 5, 0] := rfl
theorem qyr : pol.q 122 = [1] := rfl
theorem q3 : pol.q 3 = [] := rfl
theorem q4 : pol.q 4 = [] := rfl
theorem q9 : pol.q 9 = [] := rfl
theorem q10 : pol.q 10 = [] := rfl
theorem q21 : pol.q 21 = [] := rfl
theorem q37 : pol.q 37 = [] := rfl
theorem q40 : pol.q 40 = [] := rfl
theorem q52 : pol.q 52 = [] := rfl
theorem q62 : pol.q 62 = [] := rfl
theorem q66 : pol.q 66 = [] := rfl
theorem q70 : pol.q 70 = [] := rfl
theorem q72 : pol.q 72 = [] := rfl
theorem q81 : pol.q 81 = [] := rfl
theorem q84 : pol.q 84 = [] := rfl
theorem q89 : pol.q 89 = [] := rfl
theorem q97 : pol.q 97 = [] := rfl
theorem qx7 : pol.q 100 = [] := rfl
theorem qz6 : pol.q 114 = [] := rfl
theorem qyN : pol.q 120 = [] := rfl
theorem qy8 : pol.q 128 = [] := rfl
noncomputable def qaQ : Code := (Try.f4.body).getD .skip
theorem bd4 : qu Try.prog pol 4 = some ⟨qaQ, 161, [.tmp 2], [4]⟩ := by kernel_rfl
theorem pw4 : pol.ow 4 = [] ∧ pol.fz 4 = false ∧ pol.ro 4 = false ∧ pol.pr 4 = none := ⟨rfl, rfl, rfl, rfl⟩
noncomputable def qnx : Code := (Try.f6.body).getD .skip
theorem bd6 : qu Try.prog pol 6 = some ⟨qnx, 129, [.tmp 0], [4]⟩ := by kernel_rfl
theorem pw6 : pol.ow 6 = [] ∧ pol.fz 6 = false ∧ pol.ro 6 = false ∧ pol.pr 6 = none := ⟨rfl, rfl, rfl, rfl⟩
noncomputable def qlG : Code := (Try.f7.body).getD .skip
theorem bd7 : qu Try.prog pol 7 = some ⟨qlG, 13, [.cell 2 31, .tmp 3], [31, 32]⟩ := by kernel_rfl
theorem pw7 : pol.ow 7 = [] ∧ pol.fz 7 = true ∧ pol.ro 7 = false ∧ pol.pr 7 = none := ⟨rfl, rfl, rfl, rfl⟩
noncomputable def qll : Code := (Try.f9.body).getD .skip
theorem bd9 : qu Try.prog pol 9 = some ⟨qll, 11, [.cell 2 37], [37]⟩ := by kernel_rfl
theorem pw9 : pol.ow 9 = [] ∧ pol.fz 9 = false ∧ pol.ro 9 = false ∧ pol.pr 9 = none := ⟨rfl, rfl, rfl, rfl⟩
noncomputable def qg1 : Code := (Try.f10.body).getD .skip
theorem quI : qu Try.prog pol 10 = some ⟨qg1, 25, [.tmp 6, .tmp 7], [39, 40]⟩ := by kernel_rfl
theorem quU : pol.ow 10 = [] ∧ pol.fz 10 = true ∧ pol.ro 10 = false ∧ pol.pr 10 = none := ⟨rfl, rfl, rfl, rfl⟩
noncomputable def qbm : Code := (Try.f11.body).getD .skip
theorem qqI : qu Try.prog pol 11 = some ⟨qbm, 89, [.tmp 8, .tmp 9], [22, 4]⟩ := by kernel_rfl
theorem qv2 : pol.ow 11 = [] ∧ pol.fz 11 = true ∧ pol.ro 11 = false ∧ pol.pr 11 = none := ⟨rfl, rfl, rfl, rfl⟩
noncomputable def qfN : Code := (Try.f12.body).getD .skip
theorem quC : qu Try.prog pol 12 = some ⟨qfN, 40, [.tmp 8], [4]⟩ := by kernel_rfl
theorem qwa : pol.ow 12 = [] ∧ pol.fz 12 = false ∧ pol.ro 12 = false ∧ pol.pr 12 = none := ⟨rfl, rfl, rfl, rfl⟩
noncomputable def qdm : Code := (Try.f14.body).getD .skip
theorem qsm : qu Try.prog pol 14 = some ⟨qdm, 29, [.tmp 2], [29]⟩ := by kernel_rfl
theorem qv5 : pol.ow 14 = [] ∧ pol.fz 14 = true ∧ pol.ro 14 = false ∧ pol.pr 14 = none := ⟨rfl, rfl, rfl, rfl⟩
noncomputable def qd9 : Code := (Try.f15.body).getD .skip
theorem qsg : qu Try.prog pol 15 = some ⟨qd9, 26, [.tmp 4], [4]⟩ := by kernel_rfl
theorem qw3 : pol.ow 15 = [] ∧ pol.fz 15 = false ∧ pol.ro 15 = false ∧ pol.pr 15 = none := ⟨rfl, rfl, rfl, rfl⟩
noncomputable def qfA : Code := (Try.f16.body).getD .skip
theorem qtA : qu Try.prog pol 16 = some ⟨qfA, 23, [.tmp 0, .cell 1 31, .cell 2 31], [32, 31, 31]⟩ := by kernel_rfl
theorem qwG : pol.ow 16 = [] ∧ pol.fz 16 = true ∧ pol.ro 16 = false ∧ pol.pr 16 = none := ⟨rfl, rfl, rfl, rfl⟩
noncomputable def qfB : Code := (Try.f17.body).getD .skip
theorem qt3 : qu Try.prog pol 17 = some ⟨qfB, 24, [.tmp 6], [4]⟩ := by kernel_rfl
theorem qvO : pol.ow 17 = [] ∧ pol.fz 17 = false ∧ pol.ro 17 = false ∧ pol.pr 17 = none := ⟨rfl, rfl, rfl, rfl⟩
noncomputable def qaZ : Code := (Try.f18.body).getD .skip
theorem qoa : qu Try.prog pol 18 = some ⟨qaZ, 58, [.tmp 4], [4]⟩ := by kernel_rfl
theorem qwy : pol.ow 18 = [] ∧ pol.fz 18 = false ∧ pol.ro 18 = false ∧ pol.pr 18 = none := ⟨rfl, rfl, rfl, rfl⟩
noncomputable def qgn : Code := (Try.f19.body).getD .skip
theorem qtZ : qu Try.prog pol 19 = some ⟨qgn, 7, [.cell 2 31], [31]⟩ := by kernel_rfl
theorem quV : pol.ow 19 = [] ∧ pol.fz 19 = true ∧ pol.ro 19 = false ∧ pol.pr 19 = none := ⟨rfl, rfl, rfl, rfl⟩
noncomputable def qdH : Code := (Try.f20.body).getD .skip
theorem qsr : qu Try.prog pol 20 = some ⟨qdH, 77, [.tmp 4], [32]⟩ := by kernel_rfl
theorem qvF : pol.ow 20 = [] ∧ pol.fz 20 = true ∧ pol.ro 20 = false ∧ pol.pr 20 = none := ⟨rfl, rfl, rfl, rfl⟩
noncomputable def qdg : Code := (Try.f21.body).getD .skip
theorem qso : qu Try.prog pol 21 = some ⟨qdg, 60, [.tmp 2], [40]⟩ := by kernel_rfl
theorem qwx : pol.ow 21 = [] ∧ pol.fz 21 = false ∧ pol.ro 21 = false ∧ pol.pr 21 = none := ⟨rfl, rfl, rfl, rfl⟩
noncomputable def qfv : Code := (Try.f22.body).getD .skip
theorem quv : qu Try.prog pol 22 = some ⟨qfv, 5, [.tmp 4], [4]⟩ := by kernel_rfl
theorem qvm : pol.ow 22 = [] ∧ pol.fz 22 = false ∧ pol.ro 22 = false ∧ pol.pr 22 = none := ⟨rfl, rfl, rfl, rfl⟩
noncomputable def qia : Code := (Try.f23.body).getD .skip
theorem qtg : qu Try.prog pol 23 = some ⟨qia, 5, [.tmp 4], [4]⟩ := by kernel_rfl
theorem qvC : pol.ow 23 = [] ∧ pol.fz 23 = false ∧ pol.ro 23 = false ∧ pol.pr 23 = none := ⟨rfl, rfl, rfl, rfl⟩
noncomputable def qhn : Code := (Try.f24.body).getD .skip
theorem qsq : qu Try.prog pol 24 = some ⟨qhn, 17, [.tmp 10], [63]⟩ := by kernel_rfl
theorem qta : pol.ow 24 = [] ∧ pol.fz 24 = true ∧ pol.ro 24 = false ∧ pol.pr 24 = none := ⟨rfl, rfl, rfl, rfl⟩
noncomputable def qdJ : Code := (Try.f25.body).getD .skip
theorem qsx : qu Try.prog pol 25 = some ⟨qdJ, 25, [.tmp 5], [4]⟩ := by kernel_rfl
theorem qvy : pol.ow 25 = [] ∧ pol.fz 25 = false ∧ pol.ro 25 = false ∧ pol.pr 25 = none := ⟨rfl, rfl, rfl, rfl⟩
noncomputable def qfW : Code := (Try.f26.body).getD .skip
theorem qtz : qu Try.prog pol 26 = some ⟨qfW, 9, [.tmp 5], [4]⟩ := by kernel_rfl
theorem qvn : pol.ow 26 = [] ∧ pol.fz 26 = false ∧ pol.ro 26 = false ∧ pol.pr 26 = none := ⟨rfl, rfl, rfl, rfl⟩
noncomputable def qeQ : Code := (Try.f27.body).getD .skip
theorem qsc : qu Try.prog pol 27 = some ⟨qeQ, 9, [.tmp 4], [4]⟩ := by kernel_rfl
theorem qt9 : pol.ow 27 = [] ∧ pol.fz 27 = false ∧ pol.ro 27 = false ∧ pol.pr 27 = none := ⟨rfl, rfl, rfl, rfl⟩
noncomputable def qhT : Code := (Try.f28.body).getD .skip
theorem qth : qu Try.prog pol 28 = some ⟨qhT, 13, [.tmp 4], [4]⟩ := by kernel_rfl
theorem qwB : pol.ow 28 = [] ∧ pol.fz 28 = false ∧ pol.ro 28 = false ∧ pol.pr 28 = none := ⟨rfl, rfl, rfl, rfl⟩
noncomputable def qfY : Code := (Try.f29.body).getD .skip
theorem qur : qu Try.prog pol 29 = some ⟨qfY, 11, [.tmp 3], [4]⟩ := by kernel_rfl
theorem qw2 : pol.ow 29 = [] ∧ pol.fz 29 = false ∧ pol.ro 29 = false ∧ pol.pr 29 = none := ⟨rfl, rfl, rfl, rfl⟩
noncomputable def qda : Code := (Try.f30.body).getD .skip
theorem qs2 : qu Try.prog pol 30 = some ⟨qda, 78, [.tmp 7, .tmp 8], [4, 4]⟩ := by kernel_rfl
theorem qtV : pol.ow 30 = [] ∧ pol.fz 30 = false ∧ pol.ro 30 = false ∧ pol.pr 30 = none := ⟨rfl, rfl, rfl, rfl⟩
noncomputable def qfT : Code := (Try.f31.body).getD .skip
theorem quL : qu Try.prog pol 31 = some ⟨qfT, 11, [.tmp 2], [4]⟩ := by kernel_rfl
theorem quQ : pol.ow 31 = [] ∧ pol.fz 31 = false ∧ pol.ro 31 = false ∧ pol.pr 31 = none := ⟨rfl, rfl, rfl, rfl⟩
noncomputable def qdL : Code := (Try.f32.body).getD .skip
theorem qp2 : qu Try.prog pol 32 = some ⟨qdL, 44, [.cell 8 70], [70]⟩ := by kernel_rfl
theorem qut : pol.ow 32 = [] ∧ pol.fz 32 = false ∧ pol.ro 32 = false ∧ pol.pr 32 = none := ⟨rfl, rfl, rfl, rfl⟩
noncomputable def qii : Code := (Try.f33.body).getD .skip
theorem quq : qu Try.prog pol 33 = some ⟨qii, 11, [.tmp 4], [4]⟩ := by kernel_rfl
theorem qv1 : pol.ow 33 = [] ∧ pol.fz 33 = false ∧ pol.ro 33 = false ∧ pol.pr 33 = none := ⟨rfl, rfl, rfl, rfl⟩
noncomputable def qf8 : Code := (Try.f34.body).getD .skip
theorem qul : qu Try.prog pol 34 = some ⟨qf8, 5, [.tmp 2], [72]⟩ := by kernel_rfl
theorem qvM : pol.ow 34 = [] ∧ pol.fz 34 = true ∧ pol.ro 34 = false ∧ pol.pr 34 = none := ⟨rfl, rfl, rfl, rfl⟩
noncomputable def qbf : Code := (Try.f35.body).getD .skip
theorem qqY : qu Try.prog pol 35 = some ⟨qbf, 27, [.cell 2 29, .cell 3 3, .cell 4 4], [29, 3, 4]⟩ := by kernel_rfl
theorem qwC : pol.ow 35 = [] ∧ pol.fz 35 = true ∧ pol.ro 35 = false ∧ pol.pr 35 = none := ⟨rfl, rfl, rfl, rfl⟩
noncomputable def qi8 : Code := (Try.f36.body).getD .skip
theorem qsZ : qu Try.prog pol 36 = some ⟨qi8, 11, [.tmp 2], [4]⟩ := by kernel_rfl
theorem qws : pol.ow 36 = [] ∧ pol.fz 36 = false ∧ pol.ro 36 = false ∧ pol.pr 36 = none := ⟨rfl, rfl, rfl, rfl⟩
noncomputable def qcL : Code := (Try.f37.body).getD .skip
theorem qsl : qu Try.prog pol 37 = some ⟨qcL, 29, [.cell 2 31], [31]⟩ := by kernel_rfl
theorem qsS : pol.ow 37 = [] ∧ pol.fz 37 = true ∧ pol.ro 37 = false ∧ pol.pr 37 = none := ⟨rfl, rfl, rfl, rfl⟩
noncomputable def qh6 : Code := (Try.f38.body).getD .skip
theorem quK : qu Try.prog pol 38 = some ⟨qh6, 9, [.tmp 4], [4]⟩ := by kernel_rfl
theorem qwH : pol.ow 38 = [] ∧ pol.fz 38 = false ∧ pol.ro 38 = false ∧ pol.pr 38 = none := ⟨rfl, rfl, rfl, rfl⟩
noncomputable def qfy : Code := (Try.f39.body).getD .skip
theorem quw : qu Try.prog pol 39 = some ⟨qfy, 26, [.tmp 6], [4]⟩ := by kernel_rfl
theorem qv7 : pol.ow 39 = [] ∧ pol.fz 39 = false ∧ pol.ro 39 = false ∧ pol.pr 39 = none := ⟨rfl, rfl, rfl, rfl⟩
noncomputable def qdt : Code := (Try.f40.body).getD .skip
theorem qse : qu Try.prog pol 40 = some ⟨qdt, 77, [.cell 6 31], [31]⟩ := by kernel_rfl
theorem qtE : pol.ow 40 = [] ∧ pol.fz 40 = true ∧ pol.ro 40 = false ∧ pol.pr 40 = none := ⟨rfl, rfl, rfl, rfl⟩
noncomputable def q9L : Code := (Try.f41.body).getD .skip
theorem qnT : qu Try.prog pol 41 = some ⟨q9L, 85, [.tmp 2], [28]⟩ := by kernel_rfl
theorem qw9 : pol.ow 41 = [] ∧ pol.fz 41 = true ∧ pol.ro 41 = true ∧ pol.pr 41 = none := ⟨rfl, rfl, rfl, rfl⟩
noncomputable def qhL : Code := (Try.f42.body).getD .skip
theorem qt0 : qu Try.prog pol 42 = some ⟨qhL, 35, [.tmp 4], [3]⟩ := by kernel_rfl
theorem qvb : pol.ow 42 = [] ∧ pol.fz 42 = false ∧ pol.ro 42 = false ∧ pol.pr 42 = none := ⟨rfl, rfl, rfl, rfl⟩
noncomputable def qhO : Code := (Try.f43.body).getD .skip
theorem qtD : qu Try.prog pol 43 = some ⟨qhO, 15, [.tmp 6], [4]⟩ := by kernel_rfl
theorem quT : pol.ow 43 = [] ∧ pol.fz 43 = false ∧ pol.ro 43 = false ∧ pol.pr 43 = none := ⟨rfl, rfl, rfl, rfl⟩
noncomputable def qhd : Code := (Try.f44.body).getD .skip
theorem qux : qu Try.prog pol 44 = some ⟨qhd, 10, [.tmp 0], [89]⟩ := by kernel_rfl
theorem qvi : pol.ow 44 = [] ∧ pol.fz 44 = true ∧ pol.ro 44 = false ∧ pol.pr 44 = none := ⟨rfl, rfl, rfl, rfl⟩
noncomputable def q77 : Code := (Try.f45.body).getD .skip
theorem qjk : qu Try.prog pol 45 = some ⟨q77, 142, [.tmp 8], [63]⟩ := by kernel_rfl
theorem qpm : pol.ow 45 = [] ∧ pol.fz 45 = true ∧ pol.ro 45 = false ∧ pol.pr 45 = none := ⟨rfl, rfl, rfl, rfl⟩
noncomputable def qgm : Code := (Try.f46.body).getD .skip
theorem qsE : qu Try.prog pol 46 = some ⟨qgm, 9, [.tmp 3], [4]⟩ := by kernel_rfl
theorem qvv : pol.ow 46 = [] ∧ pol.fz 46 = false ∧ pol.ro 46 = false ∧ pol.pr 46 = none := ⟨rfl, rfl, rfl, rfl⟩
noncomputable def qd3 : Code := (Try.f47.body).getD .skip
theorem qs7 : qu Try.prog pol 47 = some ⟨qd3, 20, [], []⟩ := by kernel_rfl
theorem quX : pol.ow 47 = [] ∧ pol.fz 47 = false ∧ pol.ro 47 = false ∧ pol.pr 47 = none := ⟨rfl, rfl, rfl, rfl⟩
noncomputable def qi2 : Code := (Try.f48.body).getD .skip
theorem quG : qu Try.prog pol 48 = some ⟨qi2, 32, [], []⟩ := by kernel_rfl
theorem qv8 : pol.ow 48 = [] ∧ pol.fz 48 = false ∧ pol.ro 48 = false ∧ pol.pr 48 = none := ⟨rfl, rfl, rfl, rfl⟩
noncomputable def qdo : Code := (Try.f49.body).getD .skip
theorem qq3 : qu Try.prog pol 49 = some ⟨qdo, 19, [.tmp 4], [3]⟩ := by kernel_rfl
theorem quk : pol.ow 49 = [] ∧ pol.fz 49 = false ∧ pol.ro 49 = false ∧ pol.pr 49 = none := ⟨rfl, rfl, rfl, rfl⟩
noncomputable def qhP : Code := (Try.f50.body).getD .skip
theorem quN : qu Try.prog pol 50 = some ⟨qhP, 12, [.tmp 4], [4]⟩ := by kernel_rfl
theorem qwz : pol.ow 50 = [] ∧ pol.fz 50 = false ∧ pol.ro 50 = false ∧ pol.pr 50 = none := ⟨rfl, rfl, rfl, rfl⟩
noncomputable def qhS : Code := (Try.f51.body).getD .skip
theorem qtc : qu Try.prog pol 51 = some ⟨qhS, 19, [.tmp 4], [4]⟩ := by kernel_rfl
theorem qwD : pol.ow 51 = [] ∧ pol.fz 51 = false ∧ pol.ro 51 = false ∧ pol.pr 51 = none := ⟨rfl, rfl, rfl, rfl⟩
noncomputable def qhq : Code := (Try.f52.body).getD .skip
theorem qtB : qu Try.prog pol 52 = some ⟨qhq, 4, [.tmp 2], [100]⟩ := by kernel_rfl
theorem qwt : pol.ow 52 = [] ∧ pol.fz 52 = true ∧ pol.ro 52 = false ∧ pol.pr 52 = none := ⟨rfl, rfl, rfl, rfl⟩
theorem qwA : pol.ow 53 = [] ∧ pol.fz 53 = false ∧ pol.ro 53 = false ∧ pol.pr 53 = some (pr0 (q4M T 52 false)) := ⟨rfl, rfl, rfl, rfl⟩
theorem qvr : pol.ow 54 = [] ∧ pol.fz 54 = false ∧ pol.ro 54 = true ∧ pol.pr 54 = some (pr0 (q4M T 31 true)) := ⟨rfl, rfl, rfl, rfl⟩
noncomputable def qcV : Code := (Try.f55.body).getD .skip
theorem qsj : qu Try.prog pol 55 = some ⟨qcV, 19, [.tmp 4], [3]⟩ := by kernel_rfl
theorem qvj : pol.ow 55 = [] ∧ pol.fz 55 = false ∧ pol.ro 55 = false ∧ pol.pr 55 = none := ⟨rfl, rfl, rfl, rfl⟩
noncomputable def qhR : Code := (Try.f56.body).getD .skip
theorem quc : qu Try.prog pol 56 = some ⟨qhR, 18, [.tmp 4], [4]⟩ := by kernel_rfl
theorem qw1 : pol.ow 56 = [] ∧ pol.fz 56 = false ∧ pol.ro 56 = false ∧ pol.pr 56 = none := ⟨rfl, rfl, rfl, rfl⟩
noncomputable def qid : Code := (Try.f57.body).getD .skip
theorem qtk : qu Try.prog pol 57 = some ⟨qid, 40, [.tmp 4], [3]⟩ := by kernel_rfl
theorem qvt : pol.ow 57 = [] ∧ pol.fz 57 = false ∧ pol.ro 57 = false ∧ pol.pr 57 = none := ⟨rfl, rfl, rfl, rfl⟩
noncomputable def qb3 : Code := (Try.f58.body).getD .skip
theorem qqW : qu Try.prog pol 58 = some ⟨qb3, 61, [.tmp 2], [28]⟩ := by kernel_rfl
theorem qvV : pol.ow 58 = [] ∧ pol.fz 58 = true ∧ pol.ro 58 = false ∧ pol.pr 58 = none := ⟨rfl, rfl, rfl, rfl⟩
noncomputable def qdF : Code := (Try.f59.body).getD .skip
theorem qoi : qu Try.prog pol 59 = some ⟨qdF, 47, [.tmp 6, .tmp 7], [107, 4]⟩ := by kernel_rfl
theorem qrV : pol.ow 59 = [0] ∧ pol.fz 59 = false ∧ pol.ro 59 = true ∧ pol.pr 59 = none := ⟨rfl, rfl, rfl, rfl⟩
noncomputable def qhp : Code := (Try.f60.body).getD .skip
theorem qtQ : qu Try.prog pol 60 = some ⟨qhp, 24, [.tmp 4], [4]⟩ := by kernel_rfl
theorem qvf : pol.ow 60 = [] ∧ pol.fz 60 = false ∧ pol.ro 60 = false ∧ pol.pr 60 = none := ⟨rfl, rfl, rfl, rfl⟩
noncomputable def qgH : Code := (Try.f61.body).getD .skip
theorem qud : qu Try.prog pol 61 = some ⟨qgH, 12, [.tmp 4], [3]⟩ := by kernel_rfl
theorem qw6 : pol.ow 61 = [] ∧ pol.fz 61 = false ∧ pol.ro 61 = false ∧ pol.pr 61 = none := ⟨rfl, rfl, rfl, rfl⟩
noncomputable def qfs : Code := (Try.f62.body).getD .skip
theorem qu0 : qu Try.prog pol 62 = some ⟨qfs, 18, [.tmp 2], [4]⟩ := by kernel_rfl
theorem quP : pol.ow 62 = [] ∧ pol.fz 62 = false ∧ pol.ro 62 = false ∧ pol.pr 62 = none := ⟨rfl, rfl, rfl, rfl⟩
noncomputable def qgy : Code := (Try.f63.body).getD .skip
theorem qsF : qu Try.prog pol 63 = some ⟨qgy, 14, [.tmp 2], [40]⟩ := by kernel_rfl
theorem qwe : pol.ow 63 = [] ∧ pol.fz 63 = false ∧ pol.ro 63 = false ∧ pol.pr 63 = none := ⟨rfl, rfl, rfl, rfl⟩
noncomputable def qcz : Code := (Try.f64.body).getD .skip
theorem qrY : qu Try.prog pol 64 = some ⟨qcz, 43, [.tmp 2], [40]⟩ := by kernel_rfl
theorem qvz : pol.ow 64 = [] ∧ pol.fz 64 = false ∧ pol.ro 64 = false ∧ pol.pr 64 = none := ⟨rfl, rfl, rfl, rfl⟩
noncomputable def qgf : Code := (Try.f65.body).getD .skip
theorem qub : qu Try.prog pol 65 = some ⟨qgf, 13, [.tmp 2], [40]⟩ := by kernel_rfl
theorem qwv : pol.ow 65 = [] ∧ pol.fz 65 = false ∧ pol.ro 65 = false ∧ pol.pr 65 = none := ⟨rfl, rfl, rfl, rfl⟩
noncomputable def qhs : Code := (Try.f66.body).getD .skip
theorem qus : qu Try.prog pol 66 = some ⟨qhs, 13, [.tmp 3], [40]⟩ := by kernel_rfl
theorem qww : pol.ow 66 = [] ∧ pol.fz 66 = false ∧ pol.ro 66 = false ∧ pol.pr 66 = none := ⟨rfl, rfl, rfl, rfl⟩
noncomputable def qfb : Code := (Try.f67.body).getD .skip
theorem qtI : qu Try.prog pol 67 = some ⟨qfb, 15, [.tmp 3], [40]⟩ := by kernel_rfl
theorem qwE : pol.ow 67 = [] ∧ pol.fz 67 = false ∧ pol.ro 67 = false ∧ pol.pr 67 = none := ⟨rfl, rfl, rfl, rfl⟩
noncomputable def qip : Code := (Try.f68.body).getD .skip
theorem qtL : qu Try.prog pol 68 = some ⟨qip, 6, [], []⟩ := by kernel_rfl
theorem qwh : pol.ow 68 = [] ∧ pol.fz 68 = false ∧ pol.ro 68 = false ∧ pol.pr 68 = none := ⟨rfl, rfl, rfl, rfl⟩
noncomputable def qdA : Code := (Try.f69.body).getD .skip
theorem qrE : qu Try.prog pol 69 = some ⟨qdA, 28, [.tmp 6], [4]⟩ := by kernel_rfl
theorem qrZ : pol.ow 69 = [] ∧ pol.fz 69 = false ∧ pol.ro 69 = false ∧ pol.pr 69 = none := ⟨rfl, rfl, rfl, rfl⟩
noncomputable def qdi : Code := (Try.f70.body).getD .skip
theorem qrW : qu Try.prog pol 70 = some ⟨qdi, 37, [.tmp 2], [40]⟩ := by kernel_rfl
theorem quO : pol.ow 70 = [] ∧ pol.fz 70 = false ∧ pol.ro 70 = false ∧ pol.pr 70 = none := ⟨rfl, rfl, rfl, rfl⟩
noncomputable def qff : Code := (Try.f71.body).getD .skip
theorem qtK : qu Try.prog pol 71 = some ⟨qff, 16, [.tmp 6], [3]⟩ := by kernel_rfl
theorem qwu : pol.ow 71 = [] ∧ pol.fz 71 = false ∧ pol.ro 71 = false ∧ pol.pr 71 = none := ⟨rfl, rfl, rfl, rfl⟩
noncomputable def qhw : Code := (Try.f72.body).getD .skip
theorem qtJ : qu Try.prog pol 72 = some ⟨qhw, 20, [.cell 2 52], [52]⟩ := by kernel_rfl
theorem qvc : pol.ow 72 = [] ∧ pol.fz 72 = false ∧ pol.ro 72 = false ∧ pol.pr 72 = none := ⟨rfl, rfl, rfl, rfl⟩
noncomputable def qeJ : Code := (Try.f73.body).getD .skip
theorem qtw : qu Try.prog pol 73 = some ⟨qeJ, 9, [.tmp 4], [4]⟩ := by kernel_rfl
theorem qw0 : pol.ow 73 = [] ∧ pol.fz 73 = false ∧ pol.ro 73 = false ∧ pol.pr 73 = none := ⟨rfl, rfl, rfl, rfl⟩
noncomputable def qf2 : Code := (Try.f74.body).getD .skip
theorem qsN : qu Try.prog pol 74 = some ⟨qf2, 6, [.tmp 2], [4]⟩ := by kernel_rfl
theorem qvh : pol.ow 74 = [] ∧ pol.fz 74 = false ∧ pol.ro 74 = false ∧ pol.pr 74 = none := ⟨rfl, rfl, rfl, rfl⟩
noncomputable def qfw : Code := (Try.f75.body).getD .skip
theorem qtF : qu Try.prog pol 75 = some ⟨qfw, 11, [.tmp 2], [4]⟩ := by kernel_rfl
theorem qwk : pol.ow 75 = [] ∧ pol.fz 75 = false ∧ pol.ro 75 = false ∧ pol.pr 75 = none := ⟨rfl, rfl, rfl, rfl⟩
noncomputable def qgb : Code := (Try.f76.body).getD .skip
theorem qu5 : qu Try.prog pol 76 = some ⟨qgb, 17, [.tmp 4], [3]⟩ := by kernel_rfl
theorem quY : pol.ow 76 = [] ∧ pol.fz 76 = false ∧ pol.ro 76 = false ∧ pol.pr 76 = none := ⟨rfl, rfl, rfl, rfl⟩
noncomputable def qgh : Code := (Try.f77.body).getD .skip
theorem qum : qu Try.prog pol 77 = some ⟨qgh, 2, [.tmp 0], [122]⟩ := by kernel_rfl
theorem qvx : pol.ow 77 = [] ∧ pol.fz 77 = true ∧ pol.ro 77 = false ∧ pol.pr 77 = none := ⟨rfl, rfl, rfl, rfl⟩
noncomputable def qcR : Code := (Try.f78.body).getD .skip
theorem qsh : qu Try.prog pol 78 = some ⟨qcR, 19, [.tmp 4], [3]⟩ := by kernel_rfl
theorem quR : pol.ow 78 = [] ∧ pol.fz 78 = false ∧ pol.ro 78 = false ∧ pol.pr 78 = none := ⟨rfl, rfl, rfl, rfl⟩
noncomputable def qhj : Code := (Try.f79.body).getD .skip
theorem qsX : qu Try.prog pol 79 = some ⟨qhj, 17, [.tmp 2], [4]⟩ := by kernel_rfl
theorem qvs : pol.ow 79 = [] ∧ pol.fz 79 = false ∧ pol.ro 79 = false ∧ pol.pr 79 = none := ⟨rfl, rfl, rfl, rfl⟩
noncomputable def qdB : Code := (Try.f80.body).getD .skip
theorem qs4 : qu Try.prog pol 80 = some ⟨qdB, 18, [.tmp 2], [3]⟩ := by kernel_rfl
theorem qva : pol.ow 80 = [] ∧ pol.fz 80 = false ∧ pol.ro 80 = false ∧ pol.pr 80 = none := ⟨rfl, rfl, rfl, rfl⟩
noncomputable def qh1 : Code := (Try.f81.body).getD .skip
theorem qsz : qu Try.prog pol 81 = some ⟨qh1, 20, [.tmp 4], [3]⟩ := by kernel_rfl
theorem qw5 : pol.ow 81 = [] ∧ pol.fz 81 = false ∧ pol.ro 81 = false ∧ pol.pr 81 = none := ⟨rfl, rfl, rfl, rfl⟩
noncomputable def qhr : Code := (Try.f82.body).getD .skip
theorem qtG : qu Try.prog pol 82 = some ⟨qhr, 20, [.tmp 4], [3]⟩ := by kernel_rfl
theorem qvX : pol.ow 82 = [] ∧ pol.fz 82 = false ∧ pol.ro 82 = false ∧ pol.pr 82 = none := ⟨rfl, rfl, rfl, rfl⟩
noncomputable def qfP : Code := (Try.f83.body).getD .skip
theorem qte : qu Try.prog pol 83 = some ⟨qfP, 17, [.tmp 2], [4]⟩ := by kernel_rfl
theorem qvu : pol.ow 83 = [] ∧ pol.fz 83 = false ∧ pol.ro 83 = false ∧ pol.pr 83 = none := ⟨rfl, rfl, rfl, rfl⟩
noncomputable def qgw : Code := (Try.f84.body).getD .skip
theorem quj : qu Try.prog pol 84 = some ⟨qgw, 8, [.tmp 4], [3]⟩ := by kernel_rfl
theorem qvZ : pol.ow 84 = [] ∧ pol.fz 84 = false ∧ pol.ro 84 = false ∧ pol.pr 84 = none := ⟨rfl, rfl, rfl, rfl⟩
noncomputable def qfU : Code := (Try.f85.body).getD .skip
theorem qtn : qu Try.prog pol 85 = some ⟨qfU, 6, [.tmp 2], [4]⟩ := by kernel_rfl
theorem qwq : pol.ow 85 = [] ∧ pol.fz 85 = false ∧ pol.ro 85 = false ∧ pol.pr 85 = none := ⟨rfl, rfl, rfl, rfl⟩
noncomputable def qgX : Code := (Try.f86.body).getD .skip
theorem qsY : qu Try.prog pol 86 = some ⟨qgX, 6, [.tmp 2], [4]⟩ := by kernel_rfl
theorem qvD : pol.ow 86 = [] ∧ pol.fz 86 = false ∧ pol.ro 86 = false ∧ pol.pr 86 = none := ⟨rfl, rfl, rfl, rfl⟩
noncomputable def qcD : Code := (Try.f87.body).getD .skip
theorem qs6 : qu Try.prog pol 87 = some ⟨qcD, 21, [.tmp 6], [3]⟩ := by kernel_rfl
theorem qvA : pol.ow 87 = [] ∧ pol.fz 87 = false ∧ pol.ro 87 = false ∧ pol.pr 87 = none := ⟨rfl, rfl, rfl, rfl⟩
theorem qqX : pol.kp 4 41 = [3, 11, 147, 148, 149] ∧ pol.rw 4 41 = [] ∧ pol.kx 4 41 = [2, 3] := ⟨rfl, rfl, rfl⟩
theorem qpa : pol.kp 4 25 = [3, 4, 5, 6, 7, 9, 10, 11, 12, 13, 14, 15, 16, 17, 18, 73, 74, 80, 81] ∧ pol.rw 4 25 = [] ∧ pol.kx 4 25 = [3, 4, 5, 6, 7, 9, 10, 11, 12, 13, 14, 15, 16, 17, 18, 73, 74] := ⟨rfl, rfl, rfl⟩
theorem qrI : pol.kp 4 21 = [3, 4, 5, 6, 7, 9, 10, 11, 12, 13, 14, 15, 16, 73, 74] ∧ pol.rw 4 21 = [.slot 13 3 1, .slot 14 3 1] ∧ pol.kx 4 21 = [3, 4, 5, 6, 7, 9, 10, 11, 12, 13, 14, 15] := ⟨rfl, rfl, rfl⟩
theorem qoT : pol.kp 4 16 = [3, 4, 5, 6, 7, 9, 10, 11, 12] ∧ pol.rw 4 16 = [] ∧ pol.kx 4 16 = [2, 3, 7, 11] := ⟨rfl, rfl, rfl⟩
theorem qpn : pol.kp 4 11 = [3, 4, 5, 6, 7, 9, 10, 58, 59] ∧ pol.rw 4 11 = [] ∧ pol.kx 4 11 = [3, 4, 5, 6, 7, 9, 10] := ⟨rfl, rfl, rfl⟩
theorem qmR : pol.kp 11 14 = [2, 3, 4, 5, 12, 13, 14, 15, 16, 49, 50] ∧ pol.rw 11 14 = [] ∧ pol.kx 11 14 = [2, 3, 4, 5, 12, 13, 14, 15, 16, 49, 50] := ⟨rfl, rfl, rfl⟩
theorem qqb : pol.kp 11 9 = [2, 3, 4, 5, 12, 13, 14, 15, 49, 50] ∧ pol.rw 11 9 = [.cell 12 0 3 1, .slot 15 3 1] ∧ pol.kx 11 9 = [15] := ⟨rfl, rfl, rfl⟩
theorem qoC : pol.kp 14 3 = [2, 14, 15, 16] ∧ pol.rw 14 3 = [.slot 2 31 5] ∧ pol.kx 14 3 = [2] := ⟨rfl, rfl, rfl⟩
theorem qqK : pol.kp 15 4 = [0, 1, 5] ∧ pol.rw 15 4 = [] ∧ pol.kx 15 4 = [4] := ⟨rfl, rfl, rfl⟩
theorem qmL : pol.kp 18 10 = [1, 10, 11, 12, 34, 35, 36, 41, 42, 43] ∧ pol.rw 18 10 = [] ∧ pol.kx 18 10 = [1, 11, 12, 34, 35, 36] := ⟨rfl, rfl, rfl⟩
theorem qqo : pol.kp 18 6 = [1, 34, 35, 36] ∧ pol.rw 18 6 = [] ∧ pol.kx 18 6 = [4] := ⟨rfl, rfl, rfl⟩
theorem qpc : pol.kp 20 6 = [5, 6, 7, 8, 9] ∧ pol.rw 20 6 = [.slot 7 54 8] ∧ pol.kx 20 6 = [7] := ⟨rfl, rfl, rfl⟩
theorem qq2 : pol.kp 21 6 = [6, 37, 38, 39] ∧ pol.rw 21 6 = [] ∧ pol.kx 21 6 = [2] := ⟨rfl, rfl, rfl⟩
theorem qrQ : pol.kp 25 2 = [0, 1, 8, 9, 10] ∧ pol.rw 25 2 = [] ∧ pol.kx 25 2 = [5] := ⟨rfl, rfl, rfl⟩
theorem qpW : pol.kp 30 8 = [5, 6, 7, 10, 11, 35, 36, 37] ∧ pol.rw 30 8 = [] ∧ pol.kx 30 8 = [6, 7, 10, 11] := ⟨rfl, rfl, rfl⟩
theorem qqf : pol.kp 32 3 = [3, 4, 5, 8, 9, 13, 14, 15] ∧ pol.rw 32 3 = [] ∧ pol.kx 32 3 = [8, 9] := ⟨rfl, rfl, rfl⟩
theorem qrC : pol.kp 37 3 = [1, 2, 14, 15, 16] ∧ pol.rw 37 3 = [] ∧ pol.kx 37 3 = [1, 2] := ⟨rfl, rfl, rfl⟩
theorem qod : pol.kp 40 9 = [0, 1, 2, 6, 7, 8, 9, 10] ∧ pol.rw 40 9 = [.cell 9 4 31 5] ∧ pol.kx 40 9 = [0, 6, 7, 8, 9] := ⟨rfl, rfl, rfl⟩
theorem qlW : pol.kp 41 11 = [3, 5, 6, 7, 8, 9] ∧ pol.rw 41 11 = [] ∧ pol.kx 41 11 = [3, 5, 6, 7, 8, 9] := ⟨rfl, rfl, rfl⟩
theorem qqU : pol.kp 41 8 = [3, 5, 6, 7, 8] ∧ pol.rw 41 8 = [.slot 5 52 2] ∧ pol.kx 41 8 = [3, 5, 6] := ⟨rfl, rfl, rfl⟩
theorem qpN : pol.kp 41 4 = [3, 5, 6] ∧ pol.rw 41 4 = [.slot 5 52 2] ∧ pol.kx 41 4 = [5] := ⟨rfl, rfl, rfl⟩
theorem qmW : pol.kp 45 38 = [9, 12, 21, 22] ∧ pol.rw 45 38 = [] ∧ pol.kx 45 38 = [9] := ⟨rfl, rfl, rfl⟩
theorem qma : pol.kp 45 25 = [3, 5, 6, 7, 9, 12, 17, 18, 19, 72, 73, 74, 96, 97] ∧ pol.rw 45 25 = [] ∧ pol.kx 45 25 = [3, 5, 6, 7, 9, 12, 19, 72, 73, 74] := ⟨rfl, rfl, rfl⟩
theorem qnk : pol.kp 45 18 = [3, 5, 6, 7, 9, 12, 72, 73, 74] ∧ pol.rw 45 18 = [] ∧ pol.kx 45 18 = [7, 9, 12] := ⟨rfl, rfl, rfl⟩
theorem qmM : pol.kp 45 14 = [3, 5, 6, 7, 9, 12, 13] ∧ pol.rw 45 14 = [] ∧ pol.kx 45 14 = [3, 5, 6, 7, 9, 12] := ⟨rfl, rfl, rfl⟩
theorem qof : pol.kp 45 5 = [1, 2, 3, 4, 7, 9, 10, 11] ∧ pol.rw 45 5 = [] ∧ pol.kx 45 5 = [3, 9] := ⟨rfl, rfl, rfl⟩
theorem qoy : pol.kp 47 1 = [1, 2, 6] ∧ pol.rw 47 1 = [] ∧ pol.kx 47 1 = [] := ⟨rfl, rfl, rfl⟩
theorem qqF : pol.kp 49 2 = [0, 1, 7, 8] ∧ pol.rw 49 2 = [] ∧ pol.kx 49 2 = [4] := ⟨rfl, rfl, rfl⟩
theorem qpq : pol.kp 55 2 = [0, 3, 7, 8] ∧ pol.rw 55 2 = [] ∧ pol.kx 55 2 = [4] := ⟨rfl, rfl, rfl⟩
theorem qpx : pol.kp 58 8 = [0, 3, 4, 5, 6, 7] ∧ pol.rw 58 8 = [] ∧ pol.kx 58 8 = [0, 3, 4, 5, 6, 7] := ⟨rfl, rfl, rfl⟩
theorem qo9 : pol.kp 58 4 = [0, 3, 4, 5] ∧ pol.rw 58 4 = [.slot 4 52 2] ∧ pol.kx 58 4 = [4] := ⟨rfl, rfl, rfl⟩
theorem qr3 : pol.kp 59 5 = [0, 2, 4, 8] ∧ pol.rw 59 5 = [] ∧ pol.kx 59 5 = [0, 6, 7] := ⟨rfl, rfl, rfl⟩
theorem qoj : pol.kp 64 7 = [1, 22, 23, 24] ∧ pol.rw 64 7 = [] ∧ pol.kx 64 7 = [2] := ⟨rfl, rfl, rfl⟩
theorem qrR : pol.kp 69 4 = [1, 2, 15, 16, 17] ∧ pol.rw 69 4 = [] ∧ pol.kx 69 4 = [6] := ⟨rfl, rfl, rfl⟩
theorem qq5 : pol.kp 70 2 = [1, 9, 10, 11] ∧ pol.rw 70 2 = [] ∧ pol.kx 70 2 = [1, 2] := ⟨rfl, rfl, rfl⟩
theorem qpD : pol.kp 78 2 = [0, 1, 7, 8] ∧ pol.rw 78 2 = [] ∧ pol.kx 78 2 = [4] := ⟨rfl, rfl, rfl⟩
theorem qpO : pol.kp 80 3 = [3, 6, 7, 8] ∧ pol.rw 80 3 = [] ∧ pol.kx 80 3 = [2, 3] := ⟨rfl, rfl, rfl⟩
theorem qp6 : pol.kp 87 2 = [1, 2, 10] ∧ pol.rw 87 2 = [] ∧ pol.kx 87 2 = [6] := ⟨rfl, rfl, rfl⟩
noncomputable def qgg : Code := (zc 41 qaQ).getD .skip
noncomputable def qhh : Code := (zc 25 qaQ).getD .skip
noncomputable def qif : Code := (zc 21 qaQ).getD .skip
noncomputable def qg5 : Code := (zc 16 qaQ).getD .skip
noncomputable def qgD : Code := (zc 11 qaQ).getD .skip
noncomputable def qcc : Code := (zc 14 qbm).getD .skip
noncomputable def qfk : Code := (zc 9 qbm).getD .skip
noncomputable def qgO : Code := (zc 3 qdm).getD .skip
noncomputable def qfL : Code := (zc 4 qd9).getD .skip
noncomputable def qc0 : Code := (zc 10 qaZ).getD .skip
noncomputable def qgM : Code := (zc 6 qaZ).getD .skip
noncomputable def qhX : Code := (zc 6 qdH).getD .skip
noncomputable def qfl : Code := (zc 6 qdg).getD .skip
noncomputable def qgJ : Code := (zc 2 qdJ).getD .skip
noncomputable def qhz : Code := (zc 8 qda).getD .skip
noncomputable def qdx : Code := (zc 3 qdL).getD .skip
noncomputable def qil : Code := (zc 3 qcL).getD .skip
noncomputable def qhZ : Code := (zc 9 qdt).getD .skip
noncomputable def qay : Code := (zc 11 q9L).getD .skip
noncomputable def qdG : Code := (zc 8 q9L).getD .skip
noncomputable def qdb : Code := (zc 4 q9L).getD .skip
noncomputable def qa1 : Code := (zc 38 q77).getD .skip
noncomputable def qax : Code := (zc 25 q77).getD .skip
noncomputable def qat : Code := (zc 18 q77).getD .skip
noncomputable def qaf : Code := (zc 14 q77).getD .skip
noncomputable def q9A : Code := (zc 5 q77).getD .skip
noncomputable def qfM : Code := (zc 1 qd3).getD .skip
noncomputable def qcS : Code := (zc 2 qdo).getD .skip
noncomputable def qfd : Code := (zc 2 qcV).getD .skip
noncomputable def qgZ : Code := (zc 8 qb3).getD .skip
noncomputable def qh3 : Code := (zc 4 qb3).getD .skip
noncomputable def qdN : Code := (zc 5 qdF).getD .skip
noncomputable def qfS : Code := (zc 7 qcz).getD .skip
noncomputable def qcy : Code := (zc 4 qdA).getD .skip
noncomputable def qgQ : Code := (zc 2 qdi).getD .skip
noncomputable def qhB : Code := (zc 2 qcR).getD .skip
noncomputable def qik : Code := (zc 3 qdB).getD .skip
noncomputable def qeU : Code := (zc 2 qcD).getD .skip
noncomputable def q8u : Code := ((Jx 4 qbf).getD (.skip, .skip)).1
noncomputable def q78 : Code := ((Jx 4 qbf).getD (.skip, .skip)).2
theorem qq1 : qQ q78 = 4 := by kernel_rfl
theorem qlc : q7s (drq pol 35) false q8u = true ∧ q7s (drq pol 35) false q78 = true := ⟨by kernel_rfl, by kernel_rfl⟩
theorem quz : quD Try.prog pol := by
  intro f g k args G r G' hf hg
  unfold pol ppr at hf
  simp only at hf
  split at hf
  · injection hf with hf; subst hf; refine qkR (fun _ _ _ hg => ?_) hg; exact q9y qs8 (fn := Try.f53) (t := 28) (e := 52) (bt := 4) (by kernel_rfl) (by kernel_rfl) (by kernel_rfl) (by kernel_rfl) (by kernel_rfl) k28 (by rw [k52]; simp) (by rw [z52]; decide) (by kernel_rfl) hg
  · injection hf with hf; subst hf; refine qkR (fun _ _ _ hg => ?_) hg; exact q9y qs8 (fn := Try.f54) (t := 29) (e := 31) (bt := 4) (by kernel_rfl) (by kernel_rfl) (by kernel_rfl) (by kernel_rfl) (by kernel_rfl) k29 (by rw [k31]; simp) (by rw [z31]; decide) (by kernel_rfl) hg
  · cases hf
end Go.Proofs.Ytgejdfnidjnjcaa.Vc
namespace Go.Proofs.Ytgejdfnidjnjcaa.Vc
open Go.RowKit
theorem JP {α β : Type} {c : Prop} [Decidable c] (a b : Option α) (f : α → Option β) : (if c then a else b).bind f = if c then a.bind f else b.bind f := by split <;> rfl
theorem qsR : (Try.prog).follows .mixedOrders = true := by kernel_rfl
noncomputable def evo : Orc := EE Try.prog T pol (D1 Try.prog T pol)
noncomputable def ev (f : FuncId) : Nat → List R → List (Nat × B) → Option (R × List (Nat × B)) := evo (.fn f)
noncomputable def evr (f : FuncId) (asg bd : Code) : Nat → List R → List (Nat × B) → Option (R × List (Nat × B)) := evo (.rd f asg bd)
theorem qsM {f k : Nat} {args : List R} {G G' : List (Nat × B)} {r : R} (h : ev f k args G = some (r, G')) : AC Try.prog f args G k fun r' hp' => r' = r ∧ hp' = G' := (qp0 qs8 (qtH qs8 qsR) quz).fn f k args G r G' h
noncomputable def XE (f k : Nat) : Code → S → XS := XD Try.prog T pol evo (D1 Try.prog T pol evo f k) Lim f k
noncomputable def bkk (id : Nat) (r : XS) : XS := r.bind (bkD id)
def rgn (o : Option S) : XS := o.bind fun s' => some (.normal, s')
noncomputable def fnn (f k : Nat) (res : List ResultVar) (rt : List TypeId) (r : XS) : Option (R × List (Nat × B)) := r.bind (qpL T pol f k ⟨.skip, 0, res, rt⟩)
section
variable {f k : Nat} {s : S} {b : Code} {c : Prop} [Decidable c] {x y : XS} {α : Type} {o : Option α} {g : α → XS}
theorem qex (i : Nat) : bkk i (some (.normal, s)) = some (.normal, s) := rfl
theorem qmV (i : Nat) : bkk i (some (.ret, s)) = some (.ret, s) := rfl
theorem qiU (i j : Nat) : bkk i (some (.exit j, s)) = if j = i then some (.normal, s) else some (.exit j, s) := rfl
theorem qjx (i : Nat) : bkk i none = none := rfl
theorem qn3 (i : Nat) : bkk i (if c then x else y) = if c then bkk i x else bkk i y := JP _ _ _
theorem qk6 (i : Nat) : bkk i (o.bind g) = o.bind fun a => bkk i (g a) := by cases o <;> rfl
theorem qjn : rgn (some s) = some (.normal, s) := rfl
theorem qkt : rgn none = none := rfl
theorem qlA (x y : Option S) : rgn (if c then x else y) = if c then rgn x else rgn y := JP _ _ _
theorem qiS (g : α → Option S) : rgn (o.bind g) = o.bind fun a => rgn (g a) := by cases o <;> rfl
theorem qkz (res : List ResultVar) (rt : List TypeId) (p : Exit × S) : fnn f k res rt (some p) = qpL T pol f k ⟨.skip, 0, res, rt⟩ p := rfl
theorem qiE (res : List ResultVar) (rt : List TypeId) : fnn f k res rt none = none := rfl
theorem qnh (res : List ResultVar) (rt : List TypeId) : fnn f k res rt (if c then x else y) = if c then fnn f k res rt x else fnn f k res rt y := JP _ _ _
theorem qjF (res : List ResultVar) (rt : List TypeId) : fnn f k res rt (o.bind g) = o.bind fun a => fnn f k res rt (g a) := by cases o <;> rfl
end
theorem qlk (f k : Nat) (args : List R) (G : List (Nat × B)) : ev f k args G = match pol.pr f with
  | some g => prx g k args G
  | none => (qu Try.prog pol f).bind fun bd => q6H Try.prog T pol (D1 Try.prog T pol) evo Lim f k args G bd := qts q8A qhk f k args G
def rfk (n : Nat) (q : RS) : XS := q.bind fun q => qqC n q.2
noncomputable def rd3 (k : Nat) (r : XS) : Option (R × List (Nat × B)) := r.bind (q8M k)
noncomputable def rd2 (f k : Nat) (bd : Code) (s : S) (o : Option B) : Option (R × List (Nat × B)) := o.bind fun b => rd3 k (XE f k bd (s.up [(k - 1, b)]))
noncomputable def rd1 (f k : Nat) (bd : Code) (r : XS) : Option (R × List (Nat × B)) := r.bind (q8C Try.prog T pol (D1 Try.prog T pol) evo Lim f k bd)
section
variable {f k n : Nat} {s : S} {asg bd : Code} {c : Prop} [Decidable c] {x y : XS} {α : Type} {o : Option α} {g : α → XS}
theorem qiO (r : R) : rfk n (some (r, s)) = qqC n s := rfl
theorem qiH (g : α → RS) : rfk n (o.bind g) = o.bind fun a => rfk n (g a) := by cases o <;> rfl
theorem qiX (p : Exit × S) : rd3 k (some p) = q8M k p := rfl
theorem qjM : rd3 k none = none := rfl
theorem qmC : rd3 k (if c then x else y) = if c then rd3 k x else rd3 k y := JP _ _ _
theorem qqa {asg' bd' : Code} (ha : asg' = asg) (hb : bd' = bd) (hk : 0 < k) (hc : q7s (drq pol f) false asg = true ∧ q7s (drq pol f) false bd = true) (tm : List R) (G : List (Nat × B)) :
    evr f asg' bd' k tm G = rd1 f k bd (XE f k asg ⟨q2x tm 0, G, G.length, tm.length⟩) := by
  subst ha hb
  refine (qsO q8A qhk f asg' bd' k tm G).trans ?_
  unfold q3T
  rw [if_pos ⟨hk, hc⟩]
  rfl
end
def wst (q : RS) (d : Option Nat) : Option S := q.bind fun q => if qa8 q.2 d = true then some (q.2.put d q.1) else none
def wsF (q : RS) (s : S) (o : Oper) : Option (S × Tx) := q.bind fun q => if qa8 q.2 o.dst = true then (qit pol s q.2 q.1 o.op).bind fun fp => some ((q.2.kill fp.ks).put o.dst q.1, (q.1, fp.wb.map fun x => (x, q.2.blk x)), fp) else none
def cll (q : Option (R × List (Nat × B))) (s : S) (bl rw ln : List Nat) : RS := q.bind fun q => if qnn ln q.1 q.2 = true then some (q.1.rn (ren (bl ++ rw) s.nx), s.aft (bl ++ rw) bl.length q.2) else none
section
variable {s : S} {o : Oper} {c : Prop} [Decidable c] {α : Type} {v : Option α} {ops l : List Oper} {A : List (List Nat)} {s0 : S} {m : Nat} {acc : List Tx}
theorem qj8 (r : R) (d : Option Nat) : wst (some (r, s)) d = if qa8 s d = true then some (s.put d r) else none := rfl
theorem qiJ (d : Option Nat) : wst none d = none := rfl
theorem qnq (x y : RS) (d : Option Nat) : wst (if c then x else y) d = if c then wst x d else wst y d := JP _ _ _
theorem qiK (g : α → RS) (d : Option Nat) : wst (v.bind g) d = v.bind fun a => wst (g a) d := by cases v <;> rfl
theorem qjj (r : R) (s' : S) : wsF (some (r, s')) s o = if qa8 s' o.dst = true then (qit pol s s' r o.op).bind fun fp => some ((s'.kill fp.ks).put o.dst r, (r, fp.wb.map fun x => (x, s'.blk x)), fp) else none := rfl
theorem qj0 : wsF none s o = none := rfl
theorem qmS (x y : RS) : wsF (if c then x else y) s o = if c then wsF x s o else wsF y s o := JP _ _ _
theorem qjV (g : α → RS) : wsF (v.bind g) s o = v.bind fun a => wsF (g a) s o := by cases v <;> rfl
theorem qjt (r : R) (hp : List (Nat × B)) (bl rw ln : List Nat) : cll (some (r, hp)) s bl rw ln = if qnn ln r hp = true then some (r.rn (ren (bl ++ rw) s.nx), s.aft (bl ++ rw) bl.length hp) else none := rfl
theorem qjI (g : α → Option (R × List (Nat × B))) (bl rw ln : List Nat) : cll (v.bind g) s bl rw ln = v.bind fun a => cll (g a) s bl rw ln := by cases v <;> rfl
end
def ldx (T : Ty) (cs : List C) (off : Nat) (t : TypeId) : Option R :=
  match T.k t with
  | .st _ | .arr _ _ => if off + T.sz t ≤ cs.length then some (.agg ((cs.drop off).take (T.sz t))) else none
  | .other => none
  | _ => (cs[off]?).map .c
theorem qmU (c : C) (cs : List C) (off : Nat) (t : TypeId) : ld T (c :: cs) off t = ldx T (c :: cs) off t := rfl
section
variable {α : Type} {enc : α → List D} {sz : Nat}
theorem q1h (hsz : ∀ x, (enc x).length = sz) : ∀ l : List α, (l.flatMap enc).length = l.length * sz
  | [] => by simp
  | x :: l => by rw [List.flatMap_cons, List.length_append, hsz, q1h hsz l, List.length_cons, Nat.add_mul]; omega
theorem qb5 (hsz : ∀ x, (enc x).length = sz) : ∀ (l : List α) (k : Nat) (x : α), l[k]? = some x → ∃ post, (l.flatMap enc).drop (k * sz) = enc x ++ post
  | [], k, x, h => by simp at h
  | y :: l, 0, x, h => by
    simp only [List.getElem?_cons_zero, Option.some.injEq] at h
    subst h
    exact ⟨l.flatMap enc, by simp⟩
  | y :: l, k + 1, x, h => by
    obtain ⟨post, hp⟩ := qb5 hsz l k x (by simpa using h)
    refine ⟨post, ?_⟩
    rw [List.flatMap_cons, show (k + 1) * sz = (enc y).length + k * sz by rw [hsz, Nat.add_mul]; omega, List.drop_length_add_append]
    exact hp
theorem qan (hsz : ∀ x, (enc x).length = sz) (l : List α) (k fo : Nat) (t : TypeId) (h0 : 0 < T.sz t) (hf : fo + T.sz t ≤ sz) : ld T ((l.flatMap enc).map C.d) (k * sz + fo) t = (l[k]?).bind fun x => ld T ((enc x).map C.d) fo t := by
  have hl := q1h hsz l
  cases hk : l[k]? with
  | none =>
    have hle : l.length ≤ k := by simpa using hk
    have hle2 : l.length * sz ≤ k * sz := Nat.mul_le_mul_right _ hle
    show ld T _ _ t = none
    unfold ld
    split
    · rw [if_neg (by rw [List.length_map, hl]; omega)]
    · rw [if_neg (by rw [List.length_map, hl]; omega)]
    · rfl
    · rw [List.getElem?_eq_none (by rw [List.length_map, hl]; omega)]; rfl
  | some x =>
    obtain ⟨post, hp⟩ := qb5 hsz l k x hk
    have hx := hsz x
    have hlen : k * sz + sz ≤ l.length * sz := by
      have : k < l.length := (List.getElem?_eq_some_iff.1 hk).1
      have := Nat.mul_le_mul_right sz (show k + 1 ≤ l.length from this)
      rw [Nat.add_mul] at this; omega
    have hd : ∀ n, n + fo ≤ sz → (((l.flatMap enc).map C.d).drop (k * sz + fo)).take n = (((enc x).map C.d).drop fo).take n := fun n hn => by
      rw [← List.drop_drop, ← List.map_drop, hp, List.map_append, List.drop_append_of_le_length (by simp [hx]; omega), List.take_append_of_le_length (by simp [hx]; omega)]
    show _ = ld T _ fo t
    unfold ld
    split
    · rw [if_pos (by rw [List.length_map, hl]; omega), if_pos (by rw [List.length_map, hx]; omega), hd _ (by omega)]
    · rw [if_pos (by rw [List.length_map, hl]; omega), if_pos (by rw [List.length_map, hx]; omega), hd _ (by omega)]
    · rfl
    · have h1 : (((l.flatMap enc).map C.d).drop (k * sz))[fo]? = ((enc x).map C.d)[fo]? := by
        rw [← List.map_drop, hp, List.map_append, List.getElem?_append_left (by simp [hx]; omega)]
      rw [List.getElem?_drop] at h1
      rw [h1]
theorem qaB (hsz : ∀ x, (enc x).length = 1) (l : List α) (k : Nat) (t : TypeId) (h : T.sz t = 1) : ld T ((l.flatMap enc).map C.d) k t = (l[k]?).bind fun x => ld T ((enc x).map C.d) 0 t := by
  have := qan hsz l k 0 t (by omega) (by omega)
  rwa [Nat.add_zero, Nat.mul_one] at this
theorem q9U (hsz : ∀ x, (enc x).length = sz) (l : List α) (k : Nat) (t : TypeId) (h0 : 0 < T.sz t) (hf : T.sz t ≤ sz) : ld T ((l.flatMap enc).map C.d) (k * sz) t = (l[k]?).bind fun x => ld T ((enc x).map C.d) 0 t := by
  have := qan hsz l k 0 t h0 (by omega)
  rwa [Nat.add_zero] at this
end
theorem qlP (i : Nat) (ds : List D) : (ds.map C.d).all (C.far i) = true := by rw [List.all_map]; exact List.all_eq_true.2 fun _ _ => rfl
theorem qg9 (ds : List D) : (ds.map C.d).all C.known = true := by rw [List.all_map]; exact List.all_eq_true.2 fun _ _ => rfl
theorem qjW (X : List Nat) (ds : List D) : (ds.map C.d).all (C.farF X) = true := by rw [List.all_map]; exact List.all_eq_true.2 fun _ _ => rfl
theorem qn4 (n : Nat) (ds : List D) : (ds.map C.d).all (C.ltn n) = true := by rw [List.all_map]; exact List.all_eq_true.2 fun _ _ => rfl
theorem qjs (ds : List D) : (ds.map C.d).flatMap C.rows = [] := by rw [List.flatMap_map]; exact List.flatMap_eq_nil_iff.2 fun _ _ => rfl
theorem qq8 (b : Builtin) (args : Array Operand) (ts : Array TypeId) : (Call.operands { callee := .builtin b, args := args, argTypes := ts }).toList = args.toList := by simp [Call.operands]
theorem qo5 (f : Operand) (args : Array Operand) (ts : Array TypeId) : (Call.operands { callee := .value f, args := args, argTypes := ts }).toList = f :: args.toList := by simp [Call.operands]
theorem qrt (i : Nat) (ds : List D) : (ds.map C.d).map (C.fg i) = ds.map C.d := by rw [List.map_map]; rfl
theorem qnv (X : List Nat) (ds : List D) : (ds.map C.d).map (C.fgL X) = ds.map C.d := by rw [List.map_map]; rfl
end Go.Proofs.Ytgejdfnidjnjcaa.Vc
namespace Go.Proofs.Ytgejdfnidjnjcaa.Vc
open Go.RowKit
def ρ0 : Pl := ⟨fun _ => none, fun _ => False⟩
def L0 : Nat → Prop := (q0x [] 0).live
theorem qx8 (b : Nat) : ¬ Occ L0 ρ0 b := fun h => by
  rcases h with h | ⟨i, c, h1, h2⟩
  · exact h
  · cases h2
theorem rd0 {W : World} {v : Value} {d : D} (h : RD W (fun _ => False) v d) : RD W (Occ L0 ρ0) v d := h.occ fun b hb => qx8 b hb
theorem qrD {W : World} {cs : Array Value} {ds : List D} (h : PV W cs.toList ds) : RR W L0 ρ0 (.agg cs) (.agg (ds.map C.d)) := by
  refine .agg _ _ (by simpa using h.1) (fun j c hj => ?_)
  rw [List.getElem?_map] at hj
  obtain ⟨d, h1, h2⟩ := Option.map_eq_some_iff.1 hj
  subst h2
  have hj' : j < cs.size := by have := (List.getElem?_eq_some_iff.1 h1).1; rw [← h.1] at this; simpa using this
  have h3 : cs.toList[j]? = some (cs.getD j undef) := by simp [Array.getD_eq_getD_getElem?, hj']
  exact .d _ _ (rd0 (h.2 j _ d h3 h1))
theorem qjT {f : FuncId} {rs : List R} {b : Bool} (h : ev f 0 rs [] = some (.c (.d (.bool b)), [])) {W : World} {vs : Array Value} (hr : RRs W L0 ρ0 vs rs) :
    Calls Try.prog f vs W fun e W' => e = .returned (.bool b) ∧ Below W.heap.size W W' := by
  have hac := qsM h
  have hnl : ∀ i, ¬ (q0x [] 0).live i := fun i h => by cases h
  have hs : Sim ⟨fun _ => False, W, ρ0, 0, none⟩ ρ0 (q0x [] 0) q9I W :=
    ⟨Hd.none, rfl, fun i => .any _, fun i b c h => absurd h (hnl i), fun i h => absurd h (hnl i), fun i b c h => absurd h (hnl i), fun i j b c c' h => absurd h (hnl i), fun i h => absurd h (hnl i), qkH.refl _ _, fun b hb => hb.elim, fun i hi => absurd hi (Nat.not_lt_zero _), rfl, fun b hb => hb.elim⟩
  refine (hac.call ⟨fun _ => False, W, ρ0, 0, none⟩ ρ0 W vs rfl rfl rfl rfl hs hr).mono ?_
  rintro e W' ⟨v, r, hp', nx', ρ', rfl, ⟨rfl, rfl⟩, h3, h4⟩
  rw [h4.inv_bool]
  exact ⟨rfl, h3.kept.os, h3.kept.tape, h3.kept.output, h3.kept.size, fun k hk => h3.kept.block k hk (fun h => h)⟩
end Go.Proofs.Ytgejdfnidjnjcaa.Vc
namespace Go.Proofs.Ytgejdfnidjnjcaa.Vc
open Go.RowKit
set_option linter.unusedVariables false
set_option maxRecDepth 100000
abbrev w64 (n : Int) : Int := IntKind.i64.wrap n
def Zf : Code → List Code
  | .loop c => c :: Zf c
  | .seq a b => Zf a ++ Zf b
  | .cond _ a b => Zf a ++ Zf b
  | .block _ c => Zf c
  | .rangeFunc _ _ a b => Zf a ++ Zf b
  | _ => []
def Qy : Code → List (Code × Code)
  | .rangeFunc _ _ a b => (a, b) :: (Qy a ++ Qy b)
  | .loop c => Qy c
  | .seq a b => Qy a ++ Qy b
  | .cond _ a b => Qy a ++ Qy b
  | .block _ c => Qy c
  | _ => []
theorem q8B : ∀ (c b : Code), b ∈ Zf c → (∀ b' ∈ Zf b, b' ∈ Zf c) ∧ ∀ q ∈ Qy b, q ∈ Qy c := by
  intro c
  induction c with
  | loop c ih =>
    intro b hb
    rcases List.mem_cons.1 hb with rfl | hb
    · exact ⟨fun b' h => List.mem_cons_of_mem _ h, fun q h => h⟩
    · exact ⟨fun b' h => List.mem_cons_of_mem _ ((ih b hb).1 b' h), fun q h => (ih b hb).2 q h⟩
  | seq a c iha ihc =>
    intro b hb
    rcases List.mem_append.1 hb with hb | hb
    · exact ⟨fun b' h => List.mem_append_left _ ((iha b hb).1 b' h), fun q h => List.mem_append_left _ ((iha b hb).2 q h)⟩
    · exact ⟨fun b' h => List.mem_append_right _ ((ihc b hb).1 b' h), fun q h => List.mem_append_right _ ((ihc b hb).2 q h)⟩
  | cond x a c iha ihc =>
    intro b hb
    rcases List.mem_append.1 hb with hb | hb
    · exact ⟨fun b' h => List.mem_append_left _ ((iha b hb).1 b' h), fun q h => List.mem_append_left _ ((iha b hb).2 q h)⟩
    · exact ⟨fun b' h => List.mem_append_right _ ((ihc b hb).1 b' h), fun q h => List.mem_append_right _ ((ihc b hb).2 q h)⟩
  | rangeFunc g ps a c iha ihc =>
    intro b hb
    rcases List.mem_append.1 hb with hb | hb
    · exact ⟨fun b' h => List.mem_append_left _ ((iha b hb).1 b' h), fun q h => List.mem_cons_of_mem _ (List.mem_append_left _ ((iha b hb).2 q h))⟩
    · exact ⟨fun b' h => List.mem_append_right _ ((ihc b hb).1 b' h), fun q h => List.mem_cons_of_mem _ (List.mem_append_right _ ((ihc b hb).2 q h))⟩
  | block id c ih => intro b hb; exact ih b hb
  | _ => intro b hb; cases hb
theorem q1d : ∀ (c : Code) (q : Code × Code), q ∈ Qy c → (∀ b' ∈ Zf q.1 ++ Zf q.2, b' ∈ Zf c) ∧ ∀ q' ∈ Qy q.1 ++ Qy q.2, q' ∈ Qy c := by
  intro c
  induction c with
  | loop c ih => intro q hq; exact ⟨fun b' h => List.mem_cons_of_mem _ ((ih q hq).1 b' h), (ih q hq).2⟩
  | seq a c iha ihc =>
    intro q hq
    rcases List.mem_append.1 hq with hq | hq
    · exact ⟨fun b' h => List.mem_append_left _ ((iha q hq).1 b' h), fun q' h => List.mem_append_left _ ((iha q hq).2 q' h)⟩
    · exact ⟨fun b' h => List.mem_append_right _ ((ihc q hq).1 b' h), fun q' h => List.mem_append_right _ ((ihc q hq).2 q' h)⟩
  | cond x a c iha ihc =>
    intro q hq
    rcases List.mem_append.1 hq with hq | hq
    · exact ⟨fun b' h => List.mem_append_left _ ((iha q hq).1 b' h), fun q' h => List.mem_append_left _ ((iha q hq).2 q' h)⟩
    · exact ⟨fun b' h => List.mem_append_right _ ((ihc q hq).1 b' h), fun q' h => List.mem_append_right _ ((ihc q hq).2 q' h)⟩
  | rangeFunc g ps a c iha ihc =>
    intro q hq
    rcases List.mem_cons.1 hq with rfl | hq
    · exact ⟨fun b' h => h, fun q' h => List.mem_cons_of_mem _ h⟩
    · rcases List.mem_append.1 hq with hq | hq
      · exact ⟨fun b' h => List.mem_append_left _ ((iha q hq).1 b' h), fun q' h => List.mem_cons_of_mem _ (List.mem_append_left _ ((iha q hq).2 q' h))⟩
      · exact ⟨fun b' h => List.mem_append_right _ ((ihc q hq).1 b' h), fun q' h => List.mem_cons_of_mem _ (List.mem_append_right _ ((ihc q hq).2 q' h))⟩
  | block id c ih => intro q hq; exact ih q hq
  | _ => intro q hq; cases hq
noncomputable def q5j (f : Nat) : Code := ((qu Try.prog pol f).map Bd.code).getD .skip
noncomputable def lbO (f key : Nat) : Code := (zc key (q5j f)).getD .skip
noncomputable def raO (f key : Nat) : Code := ((Jx key (q5j f)).getD (.skip, .skip)).1
noncomputable def rbO (f key : Nat) : Code := ((Jx key (q5j f)).getD (.skip, .skip)).2
structure okL (f : Nat) (c : Code) : Prop where
  lo : ∀ b ∈ Zf c, lbO f (qQ b) = b
  ro : ∀ q ∈ Qy c, raO f (qQ q.2) = q.1 ∧ rbO f (qQ q.2) = q.2
theorem qA {f : Nat} {c : Code} (hc : q5j f = c) (h : (Zf c).map (fun b => (zc (qQ b) c).getD .skip) = Zf c) (h' : (Qy c).map (fun q => (Jx (qQ q.2) c).getD (.skip, .skip)) = Qy c) : okL f c := by
  refine ⟨fun b hb => ?_, fun q hq => ?_⟩
  · unfold lbO
    rw [hc]
    obtain ⟨i, hi, rfl⟩ := List.mem_iff_getElem.1 hb
    have h1 : ((Zf c).map (fun b => (zc (qQ b) c).getD .skip))[i]? = (Zf c)[i]? := by rw [h]
    rw [List.getElem?_map, List.getElem?_eq_getElem hi] at h1
    simpa using h1
  · unfold raO rbO
    rw [hc]
    obtain ⟨i, hi, rfl⟩ := List.mem_iff_getElem.1 hq
    have h1 : ((Qy c).map (fun q => (Jx (qQ q.2) c).getD (.skip, .skip)))[i]? = (Qy c)[i]? := by rw [h']
    rw [List.getElem?_map, List.getElem?_eq_getElem hi] at h1
    simp only [Option.map_some, Option.some.injEq] at h1
    rw [h1]
    exact ⟨rfl, rfl⟩
noncomputable def XEo (E : Orc) (f k : Nat) : Code → S → XS := XD Try.prog T pol E (D1 Try.prog T pol E f k) Lim f k
noncomputable def XL2 (E : Orc) (f k key : Nat) (s : S) : XS := Lim (fun s => (XEo E f k (lbO f key) s).bind (lpx pol f key k)) s
def cnd (r : R) (x y : XS) : XS :=
  match r with
  | .c (.d (.bool b)) => if b = true then x else y
  | _ => none
noncomputable def XE2 (E : Orc) (f k : Nat) : Code → S → XS
  | .skip, s => some (.normal, s)
  | .label _, s => some (.normal, s)
  | .ret, s => some (.ret, s)
  | .exit id, s => some (.exit id, s)
  | .seq a b, s => (XE2 E f k a s).bind (sqD fun s' => XE2 E f k b s')
  | .block id c, s => (XE2 E f k c s).bind (bkD id)
  | .cond c x y, s => cnd (s.ev c) (XE2 E f k x (s.ly c tt)) (XE2 E f k y (s.ly c ff))
  | .loop c, s => (nrm pol f (qQ c) k s).bind fun s0 => XL2 E f k (qQ c) s0
  | .rangeFunc g ps _ b, s => xRF pol E f g ps.toList (raO f (qQ b)) (rbO f (qQ b)) ((s.dzr pol.q).frz (q7b (s.dzr pol.q) (pol.rk f (qQ b))))
  | c, s => XEo E f k c s
section
variable {E : Orc} {f k : Nat} {s : S}
theorem quF (a b : Code) : XEo E f k (.seq a b) s = (XEo E f k a s).bind (sqD fun s' => XEo E f k b s') := rfl
theorem qmg (i : Nat) (b : Code) : XEo E f k (.block i b) s = (XEo E f k b s).bind (bkD i) := rfl
theorem qrd (p : Operand) (a b : Code) : XEo E f k (.cond p a b) s = cnd (s.ev p) (XEo E f k a (s.ly p tt)) (XEo E f k b (s.ly p ff)) := rfl
theorem qpt (b : Code) : XEo E f k (.loop b) s = (nrm pol f (qQ b) k s).bind fun s0 => Lim (fun s => (XEo E f k b s).bind (lpx pol f (qQ b) k)) s0 := rfl
theorem qoL : XEo E f k .skip s = some (.normal, s) := rfl
theorem qlH (l : Nat) : XEo E f k (.label l) s = some (.normal, s) := rfl
theorem qua : XEo E f k .ret s = some (.ret, s) := rfl
theorem qrS (i : Nat) : XEo E f k (.exit i) s = some (.exit i, s) := rfl
theorem qmf (g : Operand) (ps : Array Tmp) (asg bd : Code) : XEo E f k (.rangeFunc g ps asg bd) s = xRF pol E f g ps.toList asg bd ((s.dzr pol.q).frz (q7b (s.dzr pol.q) (pol.rk f (qQ bd)))) := rfl
theorem qu8 (a b : Code) : XE2 E f k (.seq a b) s = (XE2 E f k a s).bind (sqD fun s' => XE2 E f k b s') := rfl
theorem qlN (i : Nat) (b : Code) : XE2 E f k (.block i b) s = (XE2 E f k b s).bind (bkD i) := rfl
theorem qoY (p : Operand) (a b : Code) : XE2 E f k (.cond p a b) s = cnd (s.ev p) (XE2 E f k a (s.ly p tt)) (XE2 E f k b (s.ly p ff)) := rfl
theorem qnm (g : Operand) (ps : Array Tmp) (asg bd : Code) : XE2 E f k (.rangeFunc g ps asg bd) s = xRF pol E f g ps.toList (raO f (qQ bd)) (rbO f (qQ bd)) ((s.dzr pol.q).frz (q7b (s.dzr pol.q) (pol.rk f (qQ bd)))) := rfl
theorem qrH (b : Code) : XE2 E f k (.loop b) s = (nrm pol f (qQ b) k s).bind fun s0 => XL2 E f k (qQ b) s0 := rfl
end
theorem qcZ {E : Orc} {f k : Nat} : ∀ (c : Code), okL f c → ∀ s, XEo E f k c s = XE2 E f k c s := by
  intro c
  induction c with
  | seq a b iha ihb =>
    intro h s
    have h1 := iha ⟨fun x hx => h.lo x (List.mem_append_left _ hx), fun x hx => h.ro x (List.mem_append_left _ hx)⟩
    have h2 := ihb ⟨fun x hx => h.lo x (List.mem_append_right _ hx), fun x hx => h.ro x (List.mem_append_right _ hx)⟩
    rw [quF, qu8, h1, funext h2]
  | block id c ih => intro h s; rw [qmg, qlN, ih ⟨h.lo, h.ro⟩ s]
  | cond x a b iha ihb =>
    intro h s
    have h1 := iha ⟨fun x hx => h.lo x (List.mem_append_left _ hx), fun x hx => h.ro x (List.mem_append_left _ hx)⟩
    have h2 := ihb ⟨fun x hx => h.lo x (List.mem_append_right _ hx), fun x hx => h.ro x (List.mem_append_right _ hx)⟩
    rw [qrd, qoY, h1, h2]
  | loop c ih =>
    intro h s
    rw [qpt, qrH]
    unfold XL2
    rw [h.lo c List.mem_cons_self]
  | rangeFunc g ps a b _ _ =>
    intro h s
    obtain ⟨h1, h2⟩ := h.ro (a, b) List.mem_cons_self
    rw [qmf, qnm]
    rw [h1, h2]
  | skip => intro _ s; rw [qoL]; rfl
  | label => intro _ s; rw [qlH]; rfl
  | ret => intro _ s; rw [qua]; rfl
  | exit => intro _ s; rw [qrS]; rfl
  | _ => intro _ s; unfold XE2; rfl
noncomputable def th2 (E : Orc) (f k : Nat) (r : XS) (b : Code) : XS := r.bind (sqD fun s' => XE2 E f k b s')
noncomputable def lp2 (E : Orc) (f k key : Nat) (o : Option S) : XS := o.bind fun s => XL2 E f k key s
def lz2 (f k key : Nat) (r : XS) : XS := r.bind (lpx pol f key k)
def ly2 (e : Exit) (o : Option S) : XS := o.bind fun s => some (e, s)
noncomputable def rs2 (E : Orc) (ops : List Oper) (o : Option S) (l : List Oper) : Option S := o.bind fun s => xr Try.prog T pol E ops l s
noncomputable def qfa (E : Orc) (ops : List Oper) (A : List (List Nat)) (s0 : S) (m : Nat) (o : Option (S × Tx)) (l : List Oper) (acc : List Tx) : Option S := o.bind fun q => xdp Try.prog T pol E ops A s0 m l q.1 (acc ++ [q.2])
section
variable {E : Orc} {f k key : Nat} {s : S} {b : Code} {c : Prop} [Decidable c] {x y : XS} {α β : Type} {o : Option α} {g : α → XS} {h : β → XS} {e : α ⊕ β}
theorem qlr : XE2 E f k .skip s = some (.normal, s) := rfl
theorem qqA : XE2 E f k .ret s = some (.ret, s) := rfl
theorem qmT (i : Nat) : XE2 E f k (.exit i) s = some (.exit i, s) := rfl
theorem qqe (a : Code) : XE2 E f k (.seq a b) s = th2 E f k (XE2 E f k a s) b := rfl
theorem qjC (i : Nat) : XE2 E f k (.block i b) s = bkk i (XE2 E f k b s) := rfl
theorem qlu (p : Operand) (a b : Code) : XE2 E f k (.cond p a b) s = match s.ev p with | .c (.d (.bool t)) => if t = true then XE2 E f k a (s.ly p tt) else XE2 E f k b (s.ly p ff) | _ => none := rfl
theorem qhA (i : Nat) (ops : Array Oper) : XE2 E f k (.region i ops false) s = rgn (xr Try.prog T pol E ops.toList ops.toList s) := rfl
theorem qlX (i : Nat) (ops : Array Oper) : XE2 E f k (.region i ops true) s = rgn (D1 Try.prog T pol E f k i ops.toList ((s.dzr pol.q).frz (q7b (s.dzr pol.q) (pol.rk f i)))) := rfl
theorem qkp (g : Operand) (ps : Array Tmp) (asg bd : Code) : XE2 E f k (.rangeFunc g ps asg bd) s = xRF pol E f g ps.toList (raO f (qQ bd)) (rbO f (qQ bd)) ((s.dzr pol.q).frz (q7b (s.dzr pol.q) (pol.rk f (qQ bd)))) := rfl
theorem qmN : XE2 E f k (.loop b) s = lp2 E f k (qQ b) (nrm pol f (qQ b) k s) := rfl
theorem qej : th2 E f k (some (.normal, s)) b = XE2 E f k b s := rfl
theorem qmp : th2 E f k (some (.ret, s)) b = some (.ret, s) := rfl
theorem qkh (i : Nat) : th2 E f k (some (.exit i, s)) b = some (.exit i, s) := rfl
theorem qjU : th2 E f k none b = none := rfl
theorem qlz : th2 E f k (if c then x else y) b = if c then th2 E f k x b else th2 E f k y b := JP _ _ _
theorem qiC : th2 E f k (o.bind g) b = o.bind fun a => th2 E f k (g a) b := by cases o <;> rfl
theorem qlq : th2 E f k (Sum.elim g h e) b = Sum.elim (fun a => th2 E f k (g a) b) (fun a => th2 E f k (h a) b) e := by cases e <;> rfl
theorem qk7 : lp2 E f k key (some s) = XL2 E f k key s := rfl
theorem qeu : lz2 f k key (some (.normal, s)) = ly2 .normal (nrm pol f key k s) := rfl
theorem qnf : lz2 f k key (some (.ret, s)) = ly2 .ret (qn9 k (pol.kx f key) (s.fin pol.q)) := rfl
theorem qj5 (i : Nat) : lz2 f k key (some (.exit i, s)) = ly2 (.exit i) (qn9 k (pol.kx f key) (s.fin pol.q)) := rfl
theorem qku : lz2 f k key none = none := rfl
theorem qmj : lz2 f k key (if c then x else y) = if c then lz2 f k key x else lz2 f k key y := JP _ _ _
theorem qjN : lz2 f k key (o.bind g) = o.bind fun a => lz2 f k key (g a) := by cases o <;> rfl
theorem qmb : lz2 f k key (Sum.elim g h e) = Sum.elim (fun a => lz2 f k key (g a)) (fun a => lz2 f k key (h a)) e := by cases e <;> rfl
theorem qjL (x : Exit) : ly2 x (some s) = some (x, s) := rfl
theorem qnF (i : Nat) : bkk i (Sum.elim g h e) = Sum.elim (fun a => bkk i (g a)) (fun a => bkk i (h a)) e := by cases e <;> rfl
theorem qmB (res : List ResultVar) (rt : List TypeId) : fnn f k res rt (Sum.elim g h e) = Sum.elim (fun a => fnn f k res rt (g a)) (fun a => fnn f k res rt (h a)) e := by cases e <;> rfl
end
section
variable {E : Orc} {α β γ : Type} {e : α ⊕ β}
theorem qkc {δ : Type} (g : α → Option γ) (h : β → Option γ) (F : γ → Option δ) : (Sum.elim g h e).bind F = Sum.elim (fun a => (g a).bind F) (fun a => (h a).bind F) e := by cases e <;> rfl
theorem qm2 (g : α → RS) (h : β → RS) (d : Option Nat) : wst (Sum.elim g h e) d = Sum.elim (fun a => wst (g a) d) (fun a => wst (h a) d) e := by cases e <;> rfl
theorem qmw (g : α → RS) (h : β → RS) (s : S) (o : Oper) : wsF (Sum.elim g h e) s o = Sum.elim (fun a => wsF (g a) s o) (fun a => wsF (h a) s o) e := by cases e <;> rfl
theorem qlU (g : α → Option S) (h : β → Option S) : rgn (Sum.elim g h e) = Sum.elim (fun a => rgn (g a)) (fun a => rgn (h a)) e := by cases e <;> rfl
theorem qlZ {s : S} (g : α → Option (R × List (Nat × B))) (h : β → Option (R × List (Nat × B))) (bl rw ln : List Nat) : cll (Sum.elim g h e) s bl rw ln = Sum.elim (fun a => cll (g a) s bl rw ln) (fun a => cll (h a) s bl rw ln) e := by cases e <;> rfl
end
section
variable {E : Orc} {s : S} {o : Oper} {c : Prop} [Decidable c] {α β : Type} {v : Option α} {e : α ⊕ β} {ops l : List Oper} {A : List (List Nat)} {s0 : S} {m : Nat} {acc : List Tx}
theorem qx1 : xst Try.prog T pol E o true s = wst (xo Try.prog T pol E (pre pol s o.op) o.op) o.dst := rfl
theorem qyP : xst Try.prog T pol E o false s = if qa8 s o.dst = true then some (s.put o.dst (.tup [])) else none := rfl
theorem qt5 : xsF Try.prog T pol E o true s = alX E s o (alC pol s o.op) (wsF (xo Try.prog T pol E s o.op) s o) := rfl
theorem qtS : xsF Try.prog T pol E o false s = if qa8 s o.dst = true then some (s.put o.dst (.tup []), (.tup [], []), ⟨[], [], [], [], []⟩) else none := rfl
theorem qtf : xr Try.prog T pol E ops [] s = some s := rfl
theorem qpv : xr Try.prog T pol E ops (o :: l) s = rs2 E ops (xgd Try.prog T pol E ops o s) l := rfl
theorem qo4 : rs2 E ops (some s) l = xr Try.prog T pol E ops l s := rfl
theorem qrK : rs2 E ops none l = none := rfl
theorem qui (x y : Option S) : rs2 E ops (if c then x else y) l = if c then rs2 E ops x l else rs2 E ops y l := JP _ _ _
theorem qq7 (g : α → Option S) : rs2 E ops (v.bind g) l = v.bind fun a => rs2 E ops (g a) l := by cases v <;> rfl
theorem qtM (g : α → Option S) (h : β → Option S) : rs2 E ops (Sum.elim g h e) l = Sum.elim (fun a => rs2 E ops (g a) l) (fun a => rs2 E ops (h a) l) e := by cases e <;> rfl
theorem qry : xdp Try.prog T pol E ops A s0 0 l s acc = if okP A 0 [] acc = true ∧ okX ops A s0 acc 0 acc = true ∧ okK ops A acc = true ∧ okN acc 0 acc = true then xr Try.prog T pol E ops l s else none := by cases l <;> rfl
theorem qqy : xdp Try.prog T pol E ops A s0 (m + 1) (o :: l) s acc = qfa E ops A s0 m (xgF Try.prog T pol E ops o s) l acc := rfl
theorem qmd (x : Tx) : qfa E ops A s0 m (some (s, x)) l acc = xdp Try.prog T pol E ops A s0 m l s (acc ++ [x]) := rfl
theorem qlt : qfa E ops A s0 m none l acc = none := rfl
theorem qrJ (x y : Option (S × Tx)) : qfa E ops A s0 m (if c then x else y) l acc = if c then qfa E ops A s0 m x l acc else qfa E ops A s0 m y l acc := JP _ _ _
theorem qmr (g : α → Option (S × Tx)) : qfa E ops A s0 m (v.bind g) l acc = v.bind fun a => qfa E ops A s0 m (g a) l acc := by cases v <;> rfl
theorem qrA (g : α → Option (S × Tx)) (h : β → Option (S × Tx)) : qfa E ops A s0 m (Sum.elim g h e) l acc = Sum.elim (fun a => qfa E ops A s0 m (g a) l acc) (fun a => qfa E ops A s0 m (h a) l acc) e := by cases e <;> rfl
theorem qp1 (g : FuncId) (zs : List (List Nat)) (rs : List R) (bl rw ln : List Nat) : JZ E s g zs rs bl rw ln = (qeG s (bl ++ rw) ln zs rs).bind fun rs' => (cvG s (bl ++ rw) (bl ++ rw) 0).bind fun G =>
    if (bl ++ rw).all (fun i => (s.blk i).live) = true ∧ (bl ++ rw).Nodup ∧ ln.all (fun i => (s.blk i).live && !(bl ++ rw).contains i) = true ∧ bl.length ≤ G.length ∧ (List.range G.length).all (fun j => (lk G j .dead).isBlk == decide (j < bl.length)) = true then cll (E (.fn g) bl.length rs' G) s bl rw ln else none := rfl
theorem qlp (rid : Nat) (f : FuncId) (asg bd : Code) (rs : List R) (bl rw ln : List Nat) : q4x E s rid f asg bd rs bl rw ln = (cvG s (bl ++ rw) (bl ++ rw) 0).bind fun G =>
    if (bl ++ rw).all (fun i => (s.blk i).live) = true ∧ (bl ++ rw).Nodup ∧ ln.all (fun i => (s.blk i).live && !(bl ++ rw).contains i) = true ∧ bl.length ≤ G.length ∧ (List.range G.length).all (fun j => (lk G j .dead).isBlk == decide (j < bl.length)) = true ∧ 0 < bl.length ∧ (bl ++ rw)[bl.length - 1]? = some rid then
      cll (E (.rd f asg bd) bl.length (rs.map (cvT s (bl ++ rw) ln)) G) s bl rw ln else none := rfl
theorem qx2 (f : Nat) (asg bd : Code) (g : Operand) (ps : List Nat) : xRF pol E f g ps asg bd s = match s.ev g with
  | .c (.fn g' fs caps) => rfk s.n (q8d E (s.rf f (qc2 s (pol.rk f (qQ bd))) ps asg bd) g' (pol.ow g') [] (fs.map R.c ++ [.c (.hd .yield s.nx)] ++ caps.map R.c))
  | _ => none := rfl
end
theorem qoK (g k : Nat) (a : List R) (G : List (Nat × B)) : evo (.fn g) k a G = ev g k a G := rfl
theorem qpX (g : Nat) (asg bd : Code) (k : Nat) (a : List R) (G : List (Nat × B)) : evo (.rd g asg bd) k a G = evr g asg bd k a G := rfl
noncomputable def q6K (E : Orc) (f k : Nat) (args : List R) (G : List (Nat × B)) : Option (R × List (Nat × B)) := (qu Try.prog pol f).bind fun bd => q6H Try.prog T pol (D1 Try.prog T pol) E Lim f k args G bd
theorem qi {f n : Nat} {c : Code} {res : List ResultVar} {rt : List TypeId} (hb : qu Try.prog pol f = some ⟨c, n, res, rt⟩) : q5j f = c := by unfold q5j; rw [hb]; rfl
theorem q1p {E : Orc} {f n : Nat} {c : Code} {res : List ResultVar} {rt : List TypeId} (hb : qu Try.prog pol f = some ⟨c, n, res, rt⟩) (hl : okL f c) (k : Nat) (args : List R) (G : List (Nat × B)) :
    q6K E f k args G = if args.length ≤ n then fnn f k res rt (XE2 E f k c ⟨q2x args 0, G, G.length, n⟩) else none := by
  unfold q6K
  rw [hb, Option.bind_some]
  unfold q6H
  split
  · show Option.bind (XEo E f k c _) _ = _
    rw [qcZ c hl]
    rfl
  · rfl
theorem qf4 {f k : Nat} (hp : pol.pr f = none) (args : List R) (G : List (Nat × B)) : ev f k args G = q6K evo f k args G := by rw [qlk, hp]; rfl
theorem qB {f n : Nat} {c : Code} {res : List ResultVar} {rt : List TypeId} (hb : qu Try.prog pol f = some ⟨c, n, res, rt⟩) (hp : pol.pr f = none) (hl : okL f c) (k : Nat) (args : List R) (G : List (Nat × B)) :
    ev f k args G = if args.length ≤ n then fnn f k res rt (XE2 evo f k c ⟨q2x args 0, G, G.length, n⟩) else none := by
  rw [qf4 hp, q1p hb hl]
section
variable {σ ε : Type}
def itT (step : σ → Option (σ ⊕ ε)) : Nat → σ → Option ε
  | 0, _ => none
  | n + 1, x => (step x).bind (Sum.elim (itT step n) some)
theorem qaF {step : σ → Option (σ ⊕ ε)} : ∀ {n m : Nat}, n ≤ m → ∀ x r, itT step n x = some r → itT step m x = some r
  | 0, _, _, x, r, h => by cases h
  | n + 1, 0, h, _, _, _ => by omega
  | n + 1, m + 1, h, x, r, hx => by
    unfold itT at hx ⊢
    obtain ⟨a, h1, h2⟩ := Option.bind_eq_some_iff.1 hx
    rw [h1, Option.bind_some]
    cases a with
    | inl y => exact qaF (by omega) y r h2
    | inr e => exact h2
noncomputable def qN (step : σ → Option (σ ⊕ ε)) (x : σ) : Option ε := open Classical in if h : ∃ r n, itT step n x = some r then some (Classical.choose h) else none
theorem q8P {step : σ → Option (σ ⊕ ε)} {n : Nat} {x : σ} {r : ε} (h : itT step n x = some r) : qN step x = some r := by
  have hex : ∃ r n, itT step n x = some r := ⟨r, n, h⟩
  unfold qN
  rw [dif_pos hex]
  obtain ⟨m, hm⟩ := Classical.choose_spec hex
  have h1 := qaF (Nat.le_max_left n m) _ _ h
  have h2 := qaF (Nat.le_max_right n m) _ _ hm
  rw [h1] at h2
  injection h2 with h2
  rw [← h2]
theorem q8z {step : σ → Option (σ ⊕ ε)} {x : σ} {r : ε} (h : qN step x = some r) : ∃ n, itT step n x = some r := by
  unfold qN at h
  split at h
  · rename_i hex
    injection h with h
    obtain ⟨m, hm⟩ := Classical.choose_spec hex
    exact ⟨m, h ▸ hm⟩
  · cases h
theorem qeK (step : σ → Option (σ ⊕ ε)) (x : σ) : qN step x = (step x).bind (Sum.elim (qN step) some) := by
  refine qao (fun r h => ?_) (fun r h => ?_)
  · obtain ⟨n, hn⟩ := q8z h
    cases n with
    | zero => cases hn
    | succ n =>
      unfold itT at hn
      obtain ⟨a, h1, h2⟩ := Option.bind_eq_some_iff.1 hn
      rw [h1, Option.bind_some]
      cases a with
      | inl y => exact q8P h2
      | inr e => exact h2
  · obtain ⟨a, h1, h2⟩ := Option.bind_eq_some_iff.1 h
    cases a with
    | inl y =>
      obtain ⟨n, hn⟩ := q8z h2
      refine q8P (n := n + 1) ?_
      unfold itT
      rw [h1]; exact hn
    | inr e =>
      refine q8P (n := 1) ?_
      unfold itT
      rw [h1]; exact h2
end
theorem qna {F : S → XS} {σ ε : Type} {st : σ → S} {ex : ε → Exit × S} {step : σ → Option (σ ⊕ ε)} (hne : ∀ e, (ex e).1 ≠ .normal)
    (h : ∀ x, F (st x) = (step x).bind (Sum.elim (fun y => some (.normal, st y)) (fun e => some (ex e)))) (x : σ) : Lim F (st x) = (qN step x).bind fun e => some (ex e) := by
  have hit : ∀ (n : Nat) (x : σ), iter n F (st x) = (itT step n x).bind fun e => some (ex e) := by
    intro n
    induction n with
    | zero => intro x; rfl
    | succ n ih =>
      intro x
      unfold iter itT
      rw [h x]
      cases step x with
      | none => rfl
      | some a =>
        cases a with
        | inl y => exact ih y
        | inr e =>
          show sqD (iter n F) (ex e) = some (ex e)
          have := hne e
          generalize ex e = q at this
          obtain ⟨z, t⟩ := q
          cases z <;> first | exact absurd rfl this | rfl
  refine qao (fun r hr => ?_) (fun r hr => ?_)
  · obtain ⟨n, hn⟩ := qdE hr
    rw [hit n x] at hn
    obtain ⟨e, h1, h2⟩ := Option.bind_eq_some_iff.1 hn
    rw [q8P h1]; exact h2
  · obtain ⟨e, h1, h2⟩ := Option.bind_eq_some_iff.1 hr
    obtain ⟨n, hn⟩ := q8z h1
    refine qla (n := n) ?_
    rw [hit n x, hn]; exact h2
theorem q2l {E : Orc} {f k key : Nat} {c : Code} {σ ε : Type} {st : σ → S} {ex : ε → Exit × S} {step : σ → Option (σ ⊕ ε)} (hc : lbO f key = c) (hl : okL f c) (hne : ∀ e, (ex e).1 ≠ .normal)
    (h : ∀ x, lz2 f k key (XE2 E f k c (st x)) = (step x).bind (Sum.elim (fun y => some (.normal, st y)) (fun e => some (ex e)))) (x : σ) : XL2 E f k key (st x) = (qN step x).bind fun e => some (ex e) := by
  refine qna hne (fun x => ?_) x
  rw [hc, qcZ c hl]
  exact h x
noncomputable def xk (E : Orc) (f k key : Nat) (r : XS) : XS := r.bind fun p => match p.1 with | .normal => XL2 E f k key p.2 | e => some (e, p.2)
section
variable {E : Orc} {f k key : Nat} {s : S} {c : Prop} [Decidable c] {α β : Type} {o : Option α} {g : α → XS} {h : β → XS} {e : α ⊕ β}
end
theorem Qg {α : Type} {c : Prop} [Decidable c] (x y : α) : (if c then some x else some y) = some (if c then x else y) := by split <;> rfl
theorem Qd {f key : Nat} {c b : Code} (hc : q5j f = c) (h : (zc key c).getD .skip = b) : lbO f key = b := by unfold lbO; rw [hc]; exact h
theorem zd {f : Nat} {c b : Code} (hl : okL f c) (hb : b ∈ Zf c) : okL f b := ⟨fun x hx => hl.lo x ((q8B c b hb).1 x hx), fun q hq => hl.ro q ((q8B c b hb).2 q hq)⟩
theorem qox {f key : Nat} {c : Code} {q : Code × Code} (hl : okL f c) (hq : q ∈ Qy c) : okL f q.1 ∧ okL f q.2 :=
  ⟨⟨fun x hx => hl.lo x ((q1d c q hq).1 x (List.mem_append_left _ hx)), fun x hx => hl.ro x ((q1d c q hq).2 x (List.mem_append_left _ hx))⟩,
   ⟨fun x hx => hl.lo x ((q1d c q hq).1 x (List.mem_append_right _ hx)), fun x hx => hl.ro x ((q1d c q hq).2 x (List.mem_append_right _ hx))⟩⟩
noncomputable def rn2 (f k key : Nat) (o : Option B) (s : S) : Option (R × List (Nat × B)) := o.bind fun b => rd3 k (XE2 evo f k (rbO f key) (s.up [(k - 1, b)]))
noncomputable def rn1 (f k key : Nat) (r : XS) : Option (R × List (Nat × B)) := r.bind fun p => match p.1 with | .normal => rn2 f k key (rdB (p.2.blk (k - 1))) p.2 | _ => none
section
variable {f k key : Nat} {s : S} {c : Prop} [Decidable c] {α β : Type} {o : Option α} {g : α → XS} {h : β → XS} {e : α ⊕ β}
theorem qez : rn1 f k key (some (.normal, s)) = rn2 f k key (rdB (s.blk (k - 1))) s := rfl
theorem qj2 (b : B) : rn2 f k key (some b) s = rd3 k (XE2 evo f k (rbO f key) (s.up [(k - 1, b)])) := rfl
theorem qne {n : Nat} (g : α → RS) (h : β → RS) : rfk n (Sum.elim g h e) = Sum.elim (fun a => rfk n (g a)) (fun a => rfk n (h a)) e := by cases e <;> rfl
end
theorem qgp {f key k : Nat} {asg bd : Code} (ha : raO f key = asg) (hb : rbO f key = bd) (hk : 0 < k) (hc : q7s (drq pol f) false asg = true ∧ q7s (drq pol f) false bd = true) (la : okL f asg) (lb : okL f bd) (tm : List R) (G : List (Nat × B)) :
    evr f (raO f key) (rbO f key) k tm G = rn1 f k key (XE2 evo f k (raO f key) ⟨q2x tm 0, G, G.length, tm.length⟩) := by
  rw [qqa ha hb hk hc tm G, ha]
  have e1 : ∀ s, XE f k asg s = XE2 evo f k asg s := fun s => qcZ asg la s
  have e2 : ∀ s, XE f k bd s = XE2 evo f k bd s := fun s => qcZ bd lb s
  rw [e1]
  unfold rd1 rn1
  congr 1
  funext p
  obtain ⟨x, t⟩ := p
  cases x <;> first
    | rfl
    | (show rd2 f k bd t (rdB (t.blk (k - 1))) = rn2 f k key (rdB (t.blk (k - 1))) t
       unfold rd2 rn2
       rw [hb]
       congr 1
       funext b
       rw [e2])
theorem qoF {f key : Nat} {c b : Code} (hc : q5j f = c) (h : ((Jx key c).getD (.skip, .skip)).1 = b) : raO f key = b := by unfold raO; rw [hc]; exact h
theorem qqs {f key : Nat} {c b : Code} (hc : q5j f = c) (h : ((Jx key c).getD (.skip, .skip)).2 = b) : rbO f key = b := by unfold rbO; rw [hc]; exact h
section
variable {σ ε : Type} (f k : Nat) (enc : σ → List R × List (Nat × B)) (ex : ε → R × List (Nat × B))
noncomputable def ovr (F : σ → Option ε) : Orc := fun g k' args G => open Classical in if h : (g = .fn f ∧ k' = k) ∧ ∃ y, enc y = (args, G) then (F (Classical.choose h.2)).bind fun e => some (ex e) else evo g k' args G
noncomputable def q4R (y : σ) : Option ε := open Classical in if h : ∃ e, ev f k (enc y).1 (enc y).2 = some (ex e) then some (Classical.choose h) else none
variable {f k enc ex}
theorem qmc (hi : ∀ y z, enc y = enc z → y = z) (F : σ → Option ε) (y : σ) : ovr f k enc ex F (.fn f) k (enc y).1 (enc y).2 = (F y).bind fun e => some (ex e) := by
  have h : ((Fx.fn f = Fx.fn f) ∧ k = k) ∧ ∃ z, enc z = ((enc y).1, (enc y).2) := ⟨⟨rfl, rfl⟩, y, rfl⟩
  unfold ovr
  rw [dif_pos h]
  rw [hi _ _ ((Classical.choose_spec h.2).trans rfl)]
theorem qk0 (F : σ → Option ε) (g k' : Nat) (a : List R) (G : List (Nat × B)) (h : g ≠ f) : ovr f k enc ex F (.fn g) k' a G = ev g k' a G := by
  unfold ovr
  rw [dif_neg (fun h' => h (by injection h'.1.1))]
  rfl
theorem qpI (F : σ → Option ε) (g : Nat) (asg bd : Code) (k' : Nat) (a : List R) (G : List (Nat × B)) : ovr f k enc ex F (.rd g asg bd) k' a G = evr g asg bd k' a G := by
  unfold ovr
  rw [dif_neg (fun h' => by cases h'.1.1)]
  rfl
def q4n (f k : Nat) (enc : σ → List R × List (Nat × B)) (ex : ε → R × List (Nat × B)) (step : (σ → Option ε) → σ → Option ε) : Prop :=
  ∀ (E : Orc) (F : σ → Option ε), (∀ y, E (.fn f) k (enc y).1 (enc y).2 = (F y).bind fun e => some (ex e)) → (∀ g k' a G, g ≠ f → E (.fn g) k' a G = ev g k' a G) → (∀ g asg bd k' a G, E (.rd g asg bd) k' a G = evr g asg bd k' a G) →
    ∀ y, q6K E f k (enc y).1 (enc y).2 = (step F y).bind fun e => some (ex e)
theorem qeg {E E' : Orc} (h : OLe E E') (L : (S → XS) → S → XS) (hL : LLe L Lim) {f k : Nat} {args : List R} {G : List (Nat × B)} {bd : Bd} {x : R × List (Nat × B)} (hb : qu Try.prog pol f = some bd) (hx : q6H Try.prog T pol (D1 Try.prog T pol) E L f k args G bd = some x) : q6K E' f k args G = some x := by
  unfold q6K
  rw [hb, Option.bind_some]
  exact q9C q8A h hL hx
theorem qnj (hp : pol.pr f = none) (hi : ∀ y z, enc y = enc z → y = z) {step : (σ → Option ε) → σ → Option ε} (hs : q4n f k enc ex step) :
    ∀ (n : Nat) (y : σ) (z : R × List (Nat × B)), xf Try.prog T pol (D1 Try.prog T pol) n (.fn f) k (enc y).1 (enc y).2 = some z → ∃ e, z = ex e := by
  intro n
  induction n with
  | zero => intro y z h; cases h
  | succ n ih =>
    intro y z h
    obtain ⟨F, hF⟩ : ∃ F : σ → Option ε, ∀ y z, xf Try.prog T pol (D1 Try.prog T pol) n (.fn f) k (enc y).1 (enc y).2 = some z → (F y).bind (fun e => some (ex e)) = some z := by
      refine ⟨fun y => open Classical in if h : ∃ e, xf Try.prog T pol (D1 Try.prog T pol) n (.fn f) k (enc y).1 (enc y).2 = some (ex e) then some (Classical.choose h) else none, fun y z hz => ?_⟩
      obtain ⟨e, rfl⟩ := ih y z hz
      have hex : ∃ e, xf Try.prog T pol (D1 Try.prog T pol) n (.fn f) k (enc y).1 (enc y).2 = some (ex e) := ⟨e, hz⟩
      simp only [dif_pos hex, Option.bind_some]
      rw [← Classical.choose_spec hex, hz]
    have hle : OLe (xf Try.prog T pol (D1 Try.prog T pol) n) (ovr f k enc ex F) := by
      intro g k' args G x hx
      unfold ovr
      split
      · rename_i hh
        obtain ⟨⟨rfl, rfl⟩, hy⟩ := hh
        have e1 := Classical.choose_spec hy
        refine hF _ _ ?_
        rw [e1]; exact hx
      · exact qe6 q8A _ _ _ _ _ hx
    have h2 : ∃ bd, qu Try.prog pol f = some bd ∧ q6H Try.prog T pol (D1 Try.prog T pol) (xf Try.prog T pol (D1 Try.prog T pol) n) (iter n) f k (enc y).1 (enc y).2 bd = some z := by
      have h3 : fnx Try.prog T pol (D1 Try.prog T pol) (xf Try.prog T pol (D1 Try.prog T pol) n) (iter n) f k (enc y).1 (enc y).2 = some z := h
      unfold fnx at h3
      rw [hp] at h3
      exact Option.bind_eq_some_iff.1 h3
    obtain ⟨bd, hb, hx⟩ := h2
    have h4 := qeg hle (iter n) (qbC n) hb hx
    rw [hs _ F (qmc hi F) (qk0 F) (qpI F) y] at h4
    obtain ⟨e, -, h5⟩ := Option.bind_eq_some_iff.1 h4
    injection h5 with h5
    exact ⟨e, h5.symm⟩
theorem q5b (hp : pol.pr f = none) (hi : ∀ y z, enc y = enc z → y = z) {step : (σ → Option ε) → σ → Option ε} (hs : q4n f k enc ex step) (y : σ) : ev f k (enc y).1 (enc y).2 = (q4R f k enc ex y).bind fun e => some (ex e) := by
  unfold q4R
  split
  · rename_i h
    rw [Option.bind_some]
    exact Classical.choose_spec h
  · rename_i h
    cases hv : ev f k (enc y).1 (enc y).2 with
    | none => rfl
    | some z =>
      obtain ⟨n, hn⟩ := q6s (show EE Try.prog T pol (D1 Try.prog T pol) (.fn f) k (enc y).1 (enc y).2 = some z from hv)
      obtain ⟨e, rfl⟩ := qnj hp hi hs n y z hn
      exact absurd ⟨e, hv⟩ h
theorem q8I (hp : pol.pr f = none) (hi : ∀ y z, enc y = enc z → y = z) (hj : ∀ d e, ex d = ex e → d = e) {step : (σ → Option ε) → σ → Option ε} (hs : q4n f k enc ex step) (y : σ) : q4R f k enc ex y = step (q4R f k enc ex) y := by
  have h1 := hs evo (q4R f k enc ex) (q5b hp hi hs) (fun _ _ _ _ _ => rfl) (fun _ _ _ _ _ _ => rfl) y
  rw [← qf4 hp, q5b hp hi hs y] at h1
  cases h2 : q4R f k enc ex y with
  | none =>
    rw [h2] at h1
    cases h3 : step (q4R f k enc ex) y with
    | none => rfl
    | some e => rw [h3] at h1; cases h1
  | some d =>
    rw [h2] at h1
    cases h3 : step (q4R f k enc ex) y with
    | none => rw [h3] at h1; cases h1
    | some e =>
      rw [h3] at h1
      injection h1 with h1
      rw [hj _ _ h1]
end
end Go.Proofs.Ytgejdfnidjnjcaa.Vc
namespace Go.Proofs.Ytgejdfnidjnjcaa.Vc
open Go.RowKit
set_option linter.unusedVariables false
set_option linter.unusedSectionVars false
section
variable {α : Type} {E : α → List D} {n : Nat}
theorem qcb (h : ∀ x, (E x).length = n) : ∀ (v : List α) (a : Nat), (v.flatMap E).drop (a * n) = (v.drop a).flatMap E
  | [], a => by simp
  | x :: v, 0 => by simp
  | x :: v, a + 1 => by
    rw [List.flatMap_cons, show (a + 1) * n = (E x).length + a * n by rw [h, Nat.add_mul]; omega, List.drop_length_add_append]
    exact qcb h v a
theorem qcw (h : ∀ x, (E x).length = n) : ∀ (v : List α) (a : Nat), (v.flatMap E).take (a * n) = (v.take a).flatMap E
  | [], a => by simp
  | x :: v, 0 => by simp
  | x :: v, a + 1 => by
    rw [List.flatMap_cons, show (a + 1) * n = (E x).length + a * n by rw [h, Nat.add_mul]; omega, List.take_length_add_append, List.take_succ_cons, List.flatMap_cons, qcw h v a]
theorem qa4 (v : List α) (x : α) : (v.flatMap E).map C.d ++ (E x).map C.d = ((v ++ [x]).flatMap E).map C.d := by simp
theorem qf7 {β : Type} : ∀ (ys p q : List β) (o : Nat), o + ys.length ≤ p.length → spl (p ++ q) o ys = spl p o ys ++ q
  | [], p, q, o, _ => rfl
  | y :: ys, p, q, o, h => by
    rw [List.length_cons] at h
    rw [spl, spl, List.set_append_left _ _ (by omega), qf7 ys _ q (o + 1) (by rw [List.length_set]; omega)]
theorem qcW {β : Type} : ∀ (ys p q : List β) (o : Nat), spl (p ++ q) (p.length + o) ys = p ++ spl q o ys
  | [], p, q, o => rfl
  | y :: ys, p, q, o => by
    rw [spl, spl, List.set_append_right _ _ (by omega), show p.length + o - p.length = o by omega, show p.length + o + 1 = p.length + (o + 1) by omega, qcW ys]
theorem qdd {β : Type} : ∀ (ys p pre : List β), p.length = ys.length → spl (pre ++ p) pre.length ys = pre ++ ys
  | [], p, pre, h => by rw [List.eq_nil_of_length_eq_zero h]; rfl
  | y :: ys, [], pre, h => by cases h
  | y :: ys, x :: p, pre, h => by
    have e : (pre ++ x :: p).set pre.length y = (pre ++ [y]) ++ p := by rw [List.set_append_right _ _ (Nat.le_refl _), Nat.sub_self]; simp
    rw [spl, e, show pre.length + 1 = (pre ++ [y]).length by simp, qdd ys p _ (by simpa using h)]
    simp
theorem qeR {β : Type} : ∀ (ys : List β) (o : Nat), spl [] o ys = []
  | [], o => rfl
  | y :: ys, o => by rw [spl, List.set_nil, qeR ys]
theorem qi1 (h : ∀ x, (E x).length = n) : ∀ (v : List α) (i : Nat) (x : α), spl (v.flatMap E) (i * n) (E x) = (v.set i x).flatMap E
  | [], i, x => by rw [List.flatMap_nil, qeR]; rfl
  | y :: v, 0, x => by
    rw [List.flatMap_cons, Nat.zero_mul, qf7 _ _ _ _ (by rw [h, h]; omega)]
    have := qdd (E x) (E y) [] (by rw [h, h])
    simp only [List.nil_append, List.length_nil] at this
    rw [this]; rfl
  | y :: v, i + 1, x => by
    rw [List.flatMap_cons, show (i + 1) * n = (E y).length + i * n by rw [h, Nat.add_mul]; omega, qcW, qi1 h v i x]
    rfl
theorem qbU {β γ : Type} (f : β → γ) : ∀ (ys cs : List β) (o : Nat), spl (cs.map f) o (ys.map f) = (spl cs o ys).map f
  | [], cs, o => rfl
  | y :: ys, cs, o => by rw [List.map_cons, spl, spl, ← List.map_set, qbU f ys]
theorem qab (h : ∀ x, (E x).length = n) (v : List α) (i : Nat) (x : α) : spl ((v.flatMap E).map C.d) (i * n) ((E x).map C.d) = ((v.set i x).flatMap E).map C.d := by rw [qbU, qi1 h]
theorem qg6 {β : Type} : ∀ (ys zs cs : List β) (o : Nat), spl cs o (ys ++ zs) = spl (spl cs o ys) (o + ys.length) zs
  | [], zs, cs, o => rfl
  | y :: ys, zs, cs, o => by rw [List.cons_append, spl, spl, qg6 ys, List.length_cons, show o + 1 + ys.length = o + (ys.length + 1) by omega]
theorem qfG (h : ∀ x, (E x).length = n) : ∀ (w v : List α) (i : Nat), spl (v.flatMap E) (i * n) (w.flatMap E) = (spl v i w).flatMap E
  | [], v, i => rfl
  | x :: w, v, i => by rw [List.flatMap_cons, qg6, qi1 h, h, spl, show i * n + n = (i + 1) * n by rw [Nat.add_mul]; omega, qfG h w]
theorem qru (m : Nat) (x : α) : (List.replicate m (E x)).flatten = (List.replicate m x).flatMap E := by
  rw [List.flatMap_def, List.map_replicate]
theorem qeS {cs : List C} (x : α) (hx : cs = (E x).map C.d) (m : Nat) : (List.replicate m cs).flatten = ((List.replicate m x).flatMap E).map C.d := by
  subst hx
  rw [← qru, List.map_flatten, List.map_replicate]
end
theorem q1i {α : Type} {E : α → List D} {n : Nat} (h : ∀ x, (E x).length = n) (hn : 0 < n) (hi : ∀ x y, E x = E y → x = y) : ∀ (v w : List α), v.flatMap E = w.flatMap E → v = w
  | [], [], _ => rfl
  | [], y :: w, e => by
    have := congrArg List.length e
    rw [List.flatMap_cons, List.length_append, h] at this
    simp at this; omega
  | x :: v, [], e => by
    have := congrArg List.length e
    rw [List.flatMap_cons, List.length_append, h] at this
    simp at this; omega
  | x :: v, y :: w, e => by
    rw [List.flatMap_cons, List.flatMap_cons] at e
    obtain ⟨h1, h2⟩ := List.append_inj e (by rw [h, h])
    rw [hi x y h1, q1i h hn hi v w h2]
theorem ZK (a b : List D) : (a.map C.d = b.map C.d) = (a = b) := by
  refine propext ⟨fun h => ?_, fun h => by rw [h]⟩
  induction a generalizing b with
  | nil => cases b with | nil => rfl | cons => cases h
  | cons x a ih =>
    cases b with
    | nil => cases h
    | cons y b =>
      rw [List.map_cons, List.map_cons] at h
      injection h with h1 h2
      injection h1 with h1
      rw [h1, ih b h2]
def eI (x : Int) : List D := [.int .i64 x]
def eB (x : Bool) : List D := [.bool x]
def eS (x : ByteArray) : List D := [.str x]
theorem qgI {α β γ : Type} (f : β → γ) (o : Option α) (g : α → Option β) : (o.bind g).map f = o.bind fun x => (g x).map f := by cases o <;> rfl
theorem qkb {α β : Type} {c : Prop} [Decidable c] (f : α → β) (x y : Option α) : (if c then x else y).map f = if c then x.map f else y.map f := by split <;> rfl
theorem qmH (P : Program) (T : Ty) (d : Nat) (t : TypeId) (x y : R) : eqR P T (d + 1) t x y =
    match T.k t, x, y with
    | .int _, .c (.d (.int k a)), .c (.d (.int k' b)) => if k = k' then some (a == b) else none
    | .bool, .c (.d (.bool a)), .c (.d (.bool b)) => some (a == b)
    | .str, .c (.d (.str a)), .c (.d (.str b)) => some (a.toList == b.toList)
    | .st fs, .agg xs, .agg ys => if qbe P t = true then qmi T (eqR P T d) xs ys fs else none
    | _, _, _ => none := by
  generalize hk : T.k t = kd
  unfold eqR
  rw [hk]
  cases kd <;> first
    | rfl
    | (rcases x with (c | _ | _ | _) <;> first
        | rfl
        | (rcases y with (c' | _ | _ | _) <;> first
            | rfl
            | (cases c <;> first
                | rfl
                | (cases c' <;> first
                    | rfl
                    | (rename_i d1 d2; cases d1 <;> first
                        | rfl
                        | (cases d2 <;> rfl))))))
section
variable {α β : Type} {c : Prop} [Decidable c] (a b : List α)
theorem qni (f : α → Bool) : (if c then a else b).any f = if c then a.any f else b.any f := by split <;> rfl
theorem qlJ (f : α → β) : (if c then a else b).map f = if c then a.map f else b.map f := by split <;> rfl
theorem qbK : (if c then a else b).isEmpty = if c then a.isEmpty else b.isEmpty := by split <;> rfl
theorem qbv [BEq α] (x : α) : (if c then a else b).contains x = if c then a.contains x else b.contains x := by split <;> rfl
end
def qsP (op : UnOp) (r : R) (s : S) : RS :=
  match op, r with
  | .not, .c (.d (.bool b)) => some (.c (.d (.bool (!b))), s)
  | .neg, .c (.d (.int k n)) => some (.c (.d (.int k (k.wrap (0 - n)))), s)
  | _, _ => none
theorem qqn (s : S) (op : UnOp) (x : Operand) : xUn s op x = qsP op (s.ev x) s := by
  unfold xUn qsP
  generalize s.ev x = r
  cases op <;> first
    | rfl
    | (cases r with
       | c c => cases c with
         | d d => cases d <;> rfl
         | _ => rfl
       | _ => rfl)
def lkq (ok : Bool) (z : R) : Option (Nat × R × Nat) → Option R
  | some q => some (tt2 q.2.1 ok true)
  | none => some (tt2 z ok false)
theorem qmO {c : Prop} [Decidable c] (ok : Bool) (z : R) (x y : Option (Nat × R × Nat)) : lkq ok z (if c then x else y) = if c then lkq ok z x else lkq ok z y := by split <;> rfl
theorem qdU (T : Ty) (s : S) (t : TypeId) (x y : Operand) (ok : Bool) : q3I T s t x y ok =
    match T.k t, q5K s x, (s.ev y).key with
    | .mp k e, some es, some kv => if plK (T.k k) kv = true ∧ es.all (fun q => plK (T.k k) q.1) = true then (zR T e).bind fun z => lkq ok z (fnd kv es 0) else none
    | _, _, _ => none := by
  unfold q3I
  generalize T.k t = kd
  generalize q5K s x = m
  generalize (s.ev y).key = v
  cases kd <;> first
    | rfl
    | (cases m <;> first
        | rfl
        | (cases v <;> first
            | rfl
            | (simp only
               split
               · congr 1
                 funext z
                 cases fnd _ _ _ <;> rfl
               · rfl)))
theorem qfe (xs ys : List C) : (xs ++ ys).flatMap C.rows = xs.flatMap C.rows ++ ys.flatMap C.rows := List.flatMap_append
theorem qkw (f : C → C) (ds : List D) (ys : List C) : (ds.map C.d ++ ys).map f = (ds.map C.d).map f ++ ys.map f := List.map_append
theorem qi9 (zs0 : List Nat) : ∀ (zs : List Nat) (ds : List D) (ys : List C), zs.length = ds.length → dzc zs0 zs (ds.map C.d ++ ys) = ds.map C.d ++ dzc zs0 [] ys
  | [], [], ys, _ => rfl
  | [], d :: ds, ys, h => by cases h
  | z :: zs, [], ys, h => by cases h
  | z :: zs, d :: ds, ys, h => by
    rw [List.map_cons, List.cons_append, dzc, qi9 zs0 zs ds ys (by simpa using h)]
    rfl
theorem qkY {α : Type} {E : α → List D} {n : Nat} (h : ∀ x, (E x).length = n + 1) (zs0 : List Nat) (h0 : zs0.length = n + 1) : ∀ (v : List α) (ys : List C), dzc zs0 [] ((v.flatMap E).map C.d ++ ys) = (v.flatMap E).map C.d ++ dzc zs0 [] ys
  | [], ys => rfl
  | x :: v, ys => by
    have hx := h x
    rw [List.flatMap_cons, List.map_append, List.append_assoc, List.append_assoc, ← qkY h zs0 h0 v ys]
    cases hE : E x with
    | nil => rw [hE] at hx; cases hx
    | cons d ds =>
      rw [hE] at hx
      rw [List.map_cons, List.cons_append, dzc, qi9 zs0 zs0.tail ds _ (by rw [List.length_tail]; simp at hx; omega)]
      rfl
def qk {α : Type} (a b : Option α) : Prop := ∀ r, a = some r → b = some r
theorem qk.refl {α : Type} (a : Option α) : qk a a := fun _ h => h
theorem qk.none {α : Type} (a : Option α) : qk Option.none a := fun _ h => by cases h
theorem qk.bind {α β : Type} {a b : Option α} {f g : α → Option β} (h : qk a b) (hf : ∀ x, qk (f x) (g x)) : qk (a.bind f) (b.bind g) := fun r hr => by
  obtain ⟨x, h1, h2⟩ := Option.bind_eq_some_iff.1 hr
  rw [h x h1]
  exact hf x r h2
theorem qk.ite {α : Type} {c : Prop} [Decidable c] {a b a' b' : Option α} (h : qk a a') (h' : qk b b') : qk (if c then a else b) (if c then a' else b') := by
  split
  · exact h
  · exact h'
theorem qk.sum {α β γ : Type} {f f' : α → Option γ} {g g' : β → Option γ} {e : α ⊕ β} (h : ∀ x, qk (f x) (f' x)) (h' : ∀ x, qk (g x) (g' x)) : qk (Sum.elim f g e) (Sum.elim f' g' e) := by
  cases e with
  | inl x => exact h x
  | inr x => exact h' x
theorem qk.lim {σ ε : Type} {f g : σ → Option (σ ⊕ ε)} {n : Nat} {x : σ} (h : ∀ x, qk (f x) (g x)) : qk (itT f n x) (qN g x) := by
  have key : ∀ (n : Nat) (x : σ), qk (itT f n x) (itT g n x) := by
    intro n
    induction n with
    | zero => intro x r hr; cases hr
    | succ n ih =>
      intro x
      unfold itT
      refine qk.bind (h x) (fun y => ?_)
      cases y with
      | inl y => exact ih y
      | inr e => exact qk.refl _
  exact fun r hr => q8P (key n x r hr)
def itR {σ ε : Type} (step : (σ → Option ε) → σ → Option ε) : Nat → σ → Option ε
  | 0, _ => none
  | n + 1, x => step (itR step n) x
theorem qk.rec {σ ε : Type} {c s : (σ → Option ε) → σ → Option ε} {f : σ → Option ε} (hs : ∀ x, f x = s f x) (h : ∀ F F', (∀ y, qk (F y) (F' y)) → ∀ x, qk (c F x) (s F' x)) : ∀ (n : Nat) (x : σ), qk (itR c n x) (f x) := by
  intro n
  induction n with
  | zero => intro x r hr; cases hr
  | succ n ih =>
    intro x
    rw [hs x]
    exact h _ _ ih x
def spr (cs : List C) (o : Nat) (ys : List C) : List C := spl cs o ys
theorem qgA (t : TypeId) (cs ys : List C) (o : Nat) : (B.blk t cs).set o ys = .blk t (spl cs o ys) := rfl
theorem qfQ (e : TypeId) (sz : Nat) (cs ys : List C) (o : Nat) : (B.row e sz cs).set o ys = .row e sz (spr cs o ys) := rfl
def xsl (T : Ty) (s : S) (t : TypeId) (x : R) (lo hi : Option Operand) : RS :=
  match x, T.k t with
  | .c (.d (.str b)), .str =>
    match s.bd lo 0, s.bd hi b.size with
    | some l, some h => if 0 ≤ l ∧ l ≤ h ∧ h ≤ b.size then some (.c (.d (.str (b.extract l.toNat h.toNat))), s) else none
    | _, _ => none
  | .c (.d (.sl sz n cs)), .sl e =>
    if T.k e ≠ .other ∧ T.sz e = sz then
      match s.bd lo 0, s.bd hi n with
      | some l, some h => if 0 ≤ l ∧ l ≤ h ∧ h ≤ n then some (.c (.d (.sl sz (h.toNat - l.toNat) ((cs.drop (l.toNat * sz)).take ((h.toNat - l.toNat) * sz)))), s) else none
      | _, _ => none
    else none
  | .c (.own id sz off n), .sl e =>
    if T.k e ≠ .other ∧ T.sz e = sz then
      match s.bd lo 0, s.bd hi n with
      | some l, some h => if 0 ≤ l ∧ l ≤ h ∧ h ≤ n then (if l = 0 ∨ l < n then some (.c (.own id sz (off + l.toNat) (h.toNat - l.toNat)), s) else some (.c (.d (.sl sz 0 [])), s)) else none
      | _, _ => none
    else none
  | .c .nils, .sl e =>
    if T.k e ≠ .other then
      match s.bd lo 0, s.bd hi 0 with
      | some l, some h => if l = 0 ∧ h = 0 then some (.c .nils, s) else none
      | _, _ => none
    else none
  | _, _ => none
theorem qfE (T : Ty) (s : S) (t : TypeId) (x : Operand) (lo hi : Option Operand) : qbl T s t x lo hi none = xsl T s t (s.ev x) lo hi := by
  unfold qbl xsl
  generalize s.ev x = r
  generalize T.k t = kd
  cases r with
  | c c =>
    cases c with
    | d d => cases d <;> cases kd <;> rfl
    | _ => cases kd <;> rfl
  | _ => rfl
section
variable {T : Ty} {s : S} {t : TypeId} {lo hi : Option Operand}
theorem qu1 {id sz off n : Nat} : xsl T s t (.c (.own id sz off n)) none hi =
    match T.k t with
    | .sl e => if T.k e ≠ .other ∧ T.sz e = sz then
      match s.bd hi n with
      | some h => if 0 ≤ h ∧ h ≤ n then some (.c (.own id sz off (min h.toNat n)), s) else none
      | _ => none
      else none
    | _ => none := by
  unfold xsl
  cases T.k t <;> try rfl
  dsimp only [S.bd]
  split
  · split
    · rename_i l h h1 h2
      injection h1 with h1
      subst h1
      rw [h2]
      dsimp only
      by_cases hc : 0 ≤ h ∧ h ≤ n
      · rw [if_pos ⟨Int.le_refl _, hc⟩, if_pos (.inl rfl), if_pos hc, show min h.toNat n = h.toNat by omega]
        rfl
      · rw [if_neg (fun q => hc q.2), if_neg hc]
    · rename_i h1
      split
      · rename_i h h2
        exact absurd h2 (h1 0 h rfl)
      · rfl
  · rfl
theorem qnD {id sz off n : Nat} {lo : Operand} : xsl T s t (.c (.own id sz off n)) (some lo) hi =
    match T.k t with
    | .sl e => if T.k e ≠ .other ∧ T.sz e = sz then
      match s.bd (some lo) 0, s.bd hi n with
      | some l, some h => if 0 ≤ l ∧ l ≤ h ∧ h ≤ n then (if l = 0 ∨ l < n then some (.c (.own id sz (off + l.toNat) (h.toNat - l.toNat)), s) else some (.c (.d (.sl sz 0 [])), s)) else none
      | _, _ => none
      else none
    | _ => none := by unfold xsl; cases T.k t <;> rfl
end
def qrX {α : Type} (s : S) (E : α → List D) (n : Nat) (v : List α) (l h : Option Int) : RS :=
  match l, h with
  | some l, some h => if 0 ≤ l ∧ l ≤ h ∧ h ≤ v.length then some (.c (.d (.sl n ((v.drop l.toNat).take (h.toNat - l.toNat)).length (((v.drop l.toNat).take (h.toNat - l.toNat)).flatMap E))), s) else none
  | _, _ => none
theorem qqd {α : Type} {E : α → List D} {n : Nat} (h : ∀ x, (E x).length = n) {T : Ty} {s : S} {t e : TypeId} (v : List α) (lo hi : Option Operand) (hk : T.k t = .sl e) (hz : T.sz e = n) (ho : T.k e ≠ .other) :
    xsl T s t (.c (.d (.sl n v.length (v.flatMap E)))) lo hi = qrX s E n v (s.bd lo 0) (s.bd hi v.length) := by
  unfold xsl
  simp only [hk]
  rw [if_pos ⟨ho, hz⟩]
  unfold qrX
  cases s.bd lo 0 with
  | none => rfl
  | some l =>
    cases s.bd hi v.length with
    | none => rfl
    | some h' =>
      simp only
      split
      · rename_i hc
        rw [qcb h, qcw h, List.length_take, List.length_drop, Nat.min_eq_left (by omega)]
      · rfl
abbrev dI (n : Int) : C := C.d (D.int .i64 n)
abbrev dS (s : ByteArray) : C := C.d (D.str s)
abbrev dB (b : Bool) : C := C.d (D.bool b)
abbrev dL {α : Type} (n : Nat) (E : α → List D) (v : List α) : C := C.d (D.sl n v.length (v.flatMap E))
abbrev dO (i sz n : Nat) : C := C.own i sz 0 n
abbrev dP (i : Nat) : C := C.ptr i 0
abbrev rI (n : Int) : R := R.c (C.d (D.int .i64 n))
abbrev rS (s : ByteArray) : R := R.c (C.d (D.str s))
abbrev rB (b : Bool) : R := R.c (C.d (D.bool b))
abbrev rL {α : Type} (n : Nat) (E : α → List D) (v : List α) : R := R.c (C.d (D.sl n v.length (v.flatMap E)))
abbrev rO (i sz n : Nat) : R := R.c (C.own i sz 0 n)
abbrev rP (i : Nat) : R := R.c (C.ptr i 0)
abbrev bR {α : Type} (e sz : Nat) (E : α → List D) (v : List α) : B := B.row e sz ((v.flatMap E).map C.d)
theorem XLs {E : Orc} {f k key : Nat} {c : Code} {σ ε : Type} {st : σ → S} {ex : ε → XS} {step : σ → Option (σ ⊕ ε)} (hc : lbO f key = c) (hl : okL f c) (hne : ∀ e, ∃ p, ex e = some p ∧ p.1 ≠ .normal)
    (h : ∀ x, lz2 f k key (XE2 E f k c (st x)) = (step x).bind (Sum.elim (fun y => some (.normal, st y)) ex)) (x : σ) : XL2 E f k key (st x) = (qN step x).bind ex := by
  obtain ⟨g, hg⟩ : ∃ g : ε → Exit × S, ∀ e, ex e = some (g e) ∧ (g e).1 ≠ .normal := ⟨fun e => Classical.choose (hne e), fun e => Classical.choose_spec (hne e)⟩
  obtain rfl : ex = fun e => some (g e) := funext fun e => (hg e).1
  exact q2l (ex := g) hc hl (fun e => (hg e).2) h x
theorem qbx {E : Orc} {f k key : Nat} {c : Code} {A1 ε : Type} {st : A1 → S} {ex : ε → XS} {step : A1 → Option ((A1) ⊕ ε)} (hc : lbO f key = c) (hl : okL f c) (hne : ∀ e, ∃ p, ex e = some p ∧ p.1 ≠ .normal)
    (h : ∀ a1, lz2 f k key (XE2 E f k c (st a1)) = (step a1).bind (Sum.elim (fun y => some (.normal, st y)) ex)) (a1 : A1) : XL2 E f k key (st a1) = (qN step a1).bind ex :=
  XLs (st := fun y => st y) hc hl hne (fun a1 => h a1) a1
theorem q8L {E : Orc} {f k key : Nat} {c : Code} {A1 A2 ε : Type} {st : A1 → A2 → S} {ex : ε → XS} {step : (A1 × A2) → Option ((A1 × A2) ⊕ ε)} (hc : lbO f key = c) (hl : okL f c) (hne : ∀ e, ∃ p, ex e = some p ∧ p.1 ≠ .normal)
    (h : ∀ a1 a2, lz2 f k key (XE2 E f k c (st a1 a2)) = (step (a1, a2)).bind (Sum.elim (fun y => some (.normal, st y.1 y.2)) ex)) (a1 : A1) (a2 : A2) : XL2 E f k key (st a1 a2) = (qN step (a1, a2)).bind ex :=
  XLs (st := fun y => st y.1 y.2) hc hl hne (fun ⟨a1, a2⟩ => h a1 a2) (a1, a2)
theorem qyn {E : Orc} {f k key : Nat} {c : Code} {A1 A2 A3 ε : Type} {st : A1 → A2 → A3 → S} {ex : ε → XS} {step : (A1 × A2 × A3) → Option ((A1 × A2 × A3) ⊕ ε)} (hc : lbO f key = c) (hl : okL f c) (hne : ∀ e, ∃ p, ex e = some p ∧ p.1 ≠ .normal)
    (h : ∀ a1 a2 a3, lz2 f k key (XE2 E f k c (st a1 a2 a3)) = (step (a1, a2, a3)).bind (Sum.elim (fun y => some (.normal, st y.1 y.2.1 y.2.2)) ex)) (a1 : A1) (a2 : A2) (a3 : A3) : XL2 E f k key (st a1 a2 a3) = (qN step (a1, a2, a3)).bind ex :=
  XLs (st := fun y => st y.1 y.2.1 y.2.2) hc hl hne (fun ⟨a1, a2, a3⟩ => h a1 a2 a3) (a1, a2, a3)
theorem quZ {E : Orc} {f k key : Nat} {c : Code} {A1 A2 A3 A4 ε : Type} {st : A1 → A2 → A3 → A4 → S} {ex : ε → XS} {step : (A1 × A2 × A3 × A4) → Option ((A1 × A2 × A3 × A4) ⊕ ε)} (hc : lbO f key = c) (hl : okL f c) (hne : ∀ e, ∃ p, ex e = some p ∧ p.1 ≠ .normal)
    (h : ∀ a1 a2 a3 a4, lz2 f k key (XE2 E f k c (st a1 a2 a3 a4)) = (step (a1, a2, a3, a4)).bind (Sum.elim (fun y => some (.normal, st y.1 y.2.1 y.2.2.1 y.2.2.2)) ex)) (a1 : A1) (a2 : A2) (a3 : A3) (a4 : A4) : XL2 E f k key (st a1 a2 a3 a4) = (qN step (a1, a2, a3, a4)).bind ex :=
  XLs (st := fun y => st y.1 y.2.1 y.2.2.1 y.2.2.2) hc hl hne (fun ⟨a1, a2, a3, a4⟩ => h a1 a2 a3 a4) (a1, a2, a3, a4)
theorem qyK {E : Orc} {f k key : Nat} {c : Code} {A1 A2 A3 A4 A5 ε : Type} {st : A1 → A2 → A3 → A4 → A5 → S} {ex : ε → XS} {step : (A1 × A2 × A3 × A4 × A5) → Option ((A1 × A2 × A3 × A4 × A5) ⊕ ε)} (hc : lbO f key = c) (hl : okL f c) (hne : ∀ e, ∃ p, ex e = some p ∧ p.1 ≠ .normal)
    (h : ∀ a1 a2 a3 a4 a5, lz2 f k key (XE2 E f k c (st a1 a2 a3 a4 a5)) = (step (a1, a2, a3, a4, a5)).bind (Sum.elim (fun y => some (.normal, st y.1 y.2.1 y.2.2.1 y.2.2.2.1 y.2.2.2.2)) ex)) (a1 : A1) (a2 : A2) (a3 : A3) (a4 : A4) (a5 : A5) : XL2 E f k key (st a1 a2 a3 a4 a5) = (qN step (a1, a2, a3, a4, a5)).bind ex :=
  XLs (st := fun y => st y.1 y.2.1 y.2.2.1 y.2.2.2.1 y.2.2.2.2) hc hl hne (fun ⟨a1, a2, a3, a4, a5⟩ => h a1 a2 a3 a4 a5) (a1, a2, a3, a4, a5)
abbrev aY6 : List R := [R.any, R.any, R.any, R.any, R.any, R.any]
abbrev qza : List R := R.any :: R.any :: R.any :: R.any :: aY6
abbrev qzb : List R := R.any :: R.any :: R.any :: R.any :: qza
abbrev qz0 : List R := R.any :: R.any :: R.any :: R.any :: qzb
abbrev q4w : List R := R.any :: R.any :: R.any :: R.any :: qz0
def dzU (Q : TypeId → List Nat) : B → B
  | .row e sz cs => .row e sz (dzc (Q e) [] cs)
  | b => b
theorem qrz (z : Nat) {c : C} (h : c.isNils = false) : dz z c = c := by
  cases c <;> first | rfl | cases h
theorem qbr (zs0 : List Nat) : ∀ {cs : List C} (zs : List Nat), cs.any C.isNils = false → dzc zs0 zs cs = cs
  | [], zs, _ => by cases zs <;> rfl
  | c :: cs, zs, h => by
    rw [List.any_cons, Bool.or_eq_false_iff] at h
    cases zs with
    | nil => rw [dzc, qrz _ h.1, qbr zs0 _ h.2]
    | cons z zs => rw [dzc, qrz _ h.1, qbr zs0 _ h.2]
theorem qt4 (Q : TypeId → List Nat) (b : B) : dzB Q b = dzU Q b := by
  cases b with
  | row e sz cs =>
    unfold dzB dzU
    simp only
    split
    · rfl
    · rename_i h
      rw [qbr _ _ (by simpa using h)]
  | _ => rfl
theorem qqm (Q : TypeId → List Nat) (b : B) (h : b.nilr = false) : dzU Q b = b := by
  cases b with
  | row e sz cs => unfold dzU; simp only; rw [qbr _ _ h]
  | _ => rfl
theorem qr7 (tm : List (Nat × R)) (hp : List (Nat × B)) (nx n : Nat) (Q : TypeId → List Nat) : S.dzr (S.mk tm hp nx n) Q = S.mk tm (hp.map fun x => (x.1, dzU Q x.2)) nx n := by
  unfold S.dzr
  split
  · simp only [qt4]
  · rename_i h
    congr 1
    have h2 : ∀ x ∈ hp, x.2.nilr = false := fun x hx => by
      cases hb : x.2.nilr with
      | false => rfl
      | true => exact absurd (List.any_eq_true.2 ⟨x, hx, hb⟩) h
    refine (List.map_id' hp).symm.trans (List.map_congr_left fun x hx => ?_)
    rw [qqm Q x.2 (h2 x hx)]
theorem qmy (Q : TypeId → List Nat) (e sz : Nat) (cs : List C) : dzU Q (.row e sz cs) = .row e sz (dzc (Q e) [] cs) := rfl
theorem qmz (Q : TypeId → List Nat) (t : Nat) (cs : List C) : dzU Q (.blk t cs) = .blk t cs := rfl
theorem qov (Q : TypeId → List Nat) (o : AO) : dzU Q (.ob o) = .ob o := rfl
theorem qjX (Q : TypeId → List Nat) : dzU Q .dead = .dead := rfl
theorem qlB {α : Type} (x : α) : Option.toArray (some x) = [x].toArray := rfl
theorem qnC {α : Type} : Option.toArray (none : Option α) = ([] : List α).toArray := rfl
theorem qpj {α : Type} (l m : List α) : l.toArray ++ m.toArray = (l ++ m).toArray := by simp
theorem qlK {α : Type} (l : List α) : Array.toList l.toArray = l := rfl
end Go.Proofs.Ytgejdfnidjnjcaa.Vc
namespace Go.Proofs.Ytgejdfnidjnjcaa.Vc
open Go.RowKit
set_option linter.unusedVariables false
set_option linter.unusedSimpArgs false
def mpE {κ ν : Type} (kE : κ → Value) (vE : ν → R) : List (κ × ν) → Nat → List (Value × R × Nat)
  | [], _ => []
  | p :: M, i => (kE p.1, vE p.2, i) :: mpE kE vE M (i + 1)
def mpB {κ ν : Type} (kE : κ → Value) (vE : ν → R) (M : List (κ × ν)) : AO := .mp (mpE kE vE M 0) M.length
def q83 (k : IntKind) (n : Int) : Value := .int k n
section
variable {κ ν : Type} [DecidableEq κ]
def qeI (M : List (κ × ν)) (k : κ) : Nat := match M with
  | [] => 0
  | p :: M => if k = p.1 then 0 else qeI M k + 1
def qaK (z : ν) (M : List (κ × ν)) (k : κ) : ν := match M with
  | [] => z
  | p :: M => if k = p.1 then p.2 else qaK z M k
def qeF (M : List (κ × ν)) (k : κ) : Bool := match M with
  | [] => false
  | p :: M => if k = p.1 then true else qeF M k
def qbB (M : List (κ × ν)) (k : κ) (v : ν) : List (κ × ν) := match M with
  | [] => [(k, v)]
  | p :: M => if k = p.1 then (k, v) :: M else p :: qbB M k v
end
section
variable {κ ν : Type} {kE : κ → Value} {vE : ν → R}
theorem qnw : ∀ (M : List (κ × ν)) (i : Nat), (mpE kE vE M i).length = M.length
  | [], _ => rfl
  | p :: M, i => by rw [mpE, List.length_cons, qnw M, List.length_cons]
theorem qch {f : Value × R × Nat → Bool} (hf : ∀ k r i, f (kE k, r, i) = true) : ∀ (M : List (κ × ν)) (i : Nat), (mpE kE vE M i).all f = true
  | [], _ => rfl
  | p :: M, i => by rw [mpE, List.all_cons, hf, qch hf M]; rfl
theorem qdD {f : R → R} (hf : ∀ v, f (vE v) = vE v) (M : List (κ × ν)) : AO.mapR f (mpB kE vE M) = mpB kE vE M := by
  have : ∀ (M : List (κ × ν)) (i : Nat), (mpE kE vE M i).map (fun e => (e.1, f e.2.1, e.2.2)) = mpE kE vE M i := by
    intro M
    induction M with
    | nil => intro i; rfl
    | cons p M ih => intro i; rw [mpE, List.map_cons, ih, hf]
  unfold mpB
  show AO.mp _ _ = _
  rw [this]
theorem qjr {f : R → List Nat} (hf : ∀ v, f (vE v) = []) (M : List (κ × ν)) : (mpB kE vE M).Rs.flatMap f = [] := by
  have : ∀ (M : List (κ × ν)) (i : Nat), ((mpE kE vE M i).map (·.2.1)).flatMap f = [] := by
    intro M
    induction M with
    | nil => intro i; rfl
    | cons p M ih => intro i; rw [mpE, List.map_cons, List.flatMap_cons, ih, hf]; rfl
  exact this M 0
variable [DecidableEq κ] (hk : ∀ a b, kq (kE a) (kE b) = decide (a = b))
include hk
theorem qgk (k : κ) : ∀ (M : List (κ × ν)) (i : Nat) (z : ν), fnd (kE k) (mpE kE vE M i) i = if qeF M k = true then some (i + qeI M k, vE (qaK z M k), i + qeI M k) else none
  | [], i, z => rfl
  | p :: M, i, z => by
    rw [mpE, fnd]
    simp only [hk, qeF, qeI, qaK, decide_eq_true_eq]
    by_cases h : k = p.1
    · simp [h]
    · simp only [if_neg h]
      rw [qgk k M (i + 1) z]
      split
      · rw [show i + 1 + qeI M k = i + (qeI M k + 1) by omega]
      · rfl
theorem qt7 (z : ν) (ok : Bool) (k : κ) (M : List (κ × ν)) : lkq ok (vE z) (fnd (kE k) (mpE kE vE M 0) 0) = some (tt2 (vE (qaK z M k)) ok (qeF M k)) := by
  rw [qgk hk k M 0 z]
  cases hm : qeF M k
  · have : qaK z M k = z := by
      clear hk
      induction M with
      | nil => rfl
      | cons p M ih =>
        rw [qeF] at hm
        rw [qaK]
        split
        · rename_i h; rw [if_pos h] at hm; cases hm
        · rename_i h; rw [if_neg h] at hm; exact ih hm
    rw [this]; rfl
  · rfl
end
section
variable {κ ν : Type} {kE : κ → Value} {vE : ν → R} [DecidableEq κ]
theorem qcG (k : κ) (v : ν) : ∀ (M : List (κ × ν)) (i : Nat), qeF M k = true → (mpE kE vE M i).set (qeI M k) (kE k, vE v, i + qeI M k) = mpE kE vE (qbB M k v) i ∧ (qbB M k v).length = M.length
  | [], _, h => by cases h
  | p :: M, i, h => by
    rw [qeF] at h
    by_cases hp : k = p.1
    · simp only [mpE, qeI, qbB, if_pos hp]
      exact ⟨rfl, rfl⟩
    · rw [if_neg hp] at h
      obtain ⟨a, b⟩ := qcG k v M (i + 1) h
      simp only [mpE, qeI, qbB, if_neg hp, List.length_cons, List.set_cons_succ]
      rw [show i + (qeI M k + 1) = i + 1 + qeI M k by omega, a, b]
      exact ⟨rfl, rfl⟩
theorem qcE (k : κ) (v : ν) : ∀ (M : List (κ × ν)) (i : Nat), qeF M k = false → mpE kE vE M i ++ [(kE k, vE v, i + M.length)] = mpE kE vE (qbB M k v) i ∧ (qbB M k v).length = M.length + 1
  | [], i, _ => ⟨rfl, rfl⟩
  | p :: M, i, h => by
    rw [qeF] at h
    by_cases hp : k = p.1
    · rw [if_pos hp] at h; cases h
    · rw [if_neg hp] at h
      obtain ⟨a, b⟩ := qcE k v M (i + 1) h
      simp only [mpE, qbB, if_neg hp, List.length_cons, List.cons_append]
      rw [show i + (M.length + 1) = i + 1 + M.length by omega, a, b]
      exact ⟨rfl, rfl⟩
end
def mpq : B → Option (List (Value × R × Nat))
  | .ob (.mp es _) => some es
  | _ => none
def mpo (s : S) : R → Option (List (Value × R × Nat))
  | .c .nilm => some []
  | .c (.hd .map id) => mpq (s.blk id)
  | _ => none
theorem qka (s : S) (x : Operand) : q5K s x = mpo s (s.ev x) := by
  unfold q5K mpo mpq
  generalize s.ev x = r
  cases r with
  | c c =>
    cases c with
    | hd k id => cases k <;> rfl
    | _ => rfl
  | _ => rfl
theorem qqJ (es : List (Value × R × Nat)) (ck : Nat) : mpq (.ob (.mp es ck)) = some es := rfl
theorem qto {κ ν : Type} (kE : κ → Value) (vE : ν → R) (M : List (κ × ν)) : mpq (.ob (mpB kE vE M)) = some (mpE kE vE M 0) := rfl
def mup (kt : Kd) (kv : Value) (r : R) : B → Option B
  | .ob (.mp es ck) => if plK kt kv = true ∧ es.all (fun q => plK kt q.1) = true then
      (match fnd kv es 0 with
        | some q => some (.ob (.mp (es.set q.1 (kv, r, q.2.2)) ck))
        | none => some (.ob (.mp (es ++ [(kv, r, ck)]) (ck + 1)))) else none
  | _ => none
def xmu (T : Ty) (s : S) (t : TypeId) (m : R) (kv : Option Value) (r : R) : Option (R × S) :=
  match T.k t, m, kv with
  | .mp kt _, .c (.hd .map id), some kv => (mup (T.k kt) kv r (s.blk id)).bind fun b => some (.any, s.up [(id, b)])
  | _, _, _ => none
theorem qo6 (T : Ty) (s : S) (t : TypeId) (m : R) (kv : Option Value) (r : R) : xmu T s t m kv r =
  match T.k t, m, kv with
  | .mp kt _, .c (.hd .map id), some kv => (mup (T.k kt) kv r (s.blk id)).bind fun b => some (.any, s.up [(id, b)])
  | _, _, _ => none := rfl
theorem qeq (T : Ty) (s : S) (t : TypeId) (m k x : Operand) : q3q T s t m k x = xmu T s t (s.ev m) (s.ev k).key (s.ev x) := by
  unfold q3q xmu mup
  generalize T.k t = kd
  generalize s.ev m = r
  generalize (s.ev k).key = kv
  cases kd with
  | mp kt e =>
    cases r with
    | c c =>
      cases c with
      | hd h id =>
        cases h with
        | map =>
          cases kv with
          | none => rfl
          | some kv =>
            simp only
            generalize s.blk id = b
            cases b with
            | ob o =>
              cases o with
              | mp es ck =>
                simp only
                split
                · cases fnd kv es 0 <;> rfl
                · rfl
              | _ => rfl
            | _ => rfl
        | _ => rfl
      | _ => rfl
    | _ => rfl
  | _ => rfl
section
variable {κ ν : Type} {kE : κ → Value} {vE : ν → R} [DecidableEq κ] (hk : ∀ a b, kq (kE a) (kE b) = decide (a = b)) {kt : Kd} (hp : ∀ a, plK kt (kE a) = true)
include hk hp
theorem qtq (k : κ) (v : ν) (M : List (κ × ν)) : mup kt (kE k) (vE v) (.ob (mpB kE vE M)) = some (.ob (mpB kE vE (qbB M k v))) := by
  unfold mpB mup
  simp only
  rw [if_pos ⟨hp k, qch (fun k r i => hp k) M 0⟩, qgk hk k M 0 v]
  cases hm : qeF M k
  · obtain ⟨a, b⟩ := qcE (kE := kE) (vE := vE) k v M 0 hm
    simp only [Bool.false_eq_true, if_false]
    rw [Nat.zero_add] at a
    rw [a, b]
  · obtain ⟨a, b⟩ := qcG (kE := kE) (vE := vE) k v M 0 hm
    simp only [if_true]
    rw [Nat.zero_add] at a ⊢
    rw [a, b]
end
theorem ql7 (k : IntKind) (a b : Int) : kq (q83 k a) (q83 k b) = decide (a = b) := rfl
end Go.Proofs.Ytgejdfnidjnjcaa.Vc
namespace Go.Proofs.Ytgejdfnidjnjcaa.Vc
open Go.RowKit
set_option linter.defProp false
set_option linter.unusedVariables false
def bx0 := JA_ @S.strip.eq_1 (JA_ @q4m.eq_1 (JA_ @q4m.eq_2 (JA_ @qnS.eq_1 (JA_ @qnS.eq_2 (JA_ @R.isA.eq_1 (JA_ @R.isA.eq_2 (JA_ @qv4.eq_1 (JA_ @qs3.eq_1 (JA_ @qfI.eq_1 (JA_ @qgT.eq_1 (JA_ @S.ly.eq_1 (JA_ @alC.eq_1 (JA_ @alC.eq_2 (JA_ @alX.eq_1 (JA_ @alX.eq_2 (JA_ @qwb.eq_1 (JA_ @qqV.eq_1 (JA_ @qst.eq_1 (JA_ @ipX.eq_1 (JA_ @qs5.eq_1 (JA_ @qs5.eq_2 (JA_ @qcQ.eq_1 (JA_ @ql8.eq_2 (JA_ @zmk.eq_1 (JA_ @zmk.eq_2 (JA_ @S.fin.eq_1 (JA_ @S.fn1.eq_1 (JA_ @S.inr.eq_1 (JA_ @prx.eq_1 (JA_ @pr0.eq_1 (JA_ @List.isEmpty_nil.{0} (JA_ @List.isEmpty_cons.{0} (@wbC.eq_1)))))))))))))))))))))))))))))))))
def bx1 := JA_ @wbC.eq_2 (JA_ @B.beq.eq_1 (JA_ @C.beqL.eq_1 (JA_ @C.beqL.eq_2 (JA_ @C.beq0.eq_1 (JA_ @D.beq.eq_1 (JA_ @D.beq.eq_4 (JA_ @D.beq_self (JA_ @qtl.eq_1 (JA_ @dzc.eq_2 (JA_ @dzc.eq_3 (JA_ @C.isNils.eq_2 (JA_ @qk9 (JA_ @q4M.eq_1 (@q7a.eq_1))))))))))))))
def bx2 := JA_ @q7a.eq_2 (JA_ @qk4.eq_1 (JA_ @fpA.eq_1 (JA_ @qeA.eq_1 (JA_ @S.kill.eq_1 (JA_ @qn2.eq_1 (JA_ @qn2.eq_2 (JA_ @qg4.eq_1 (JA_ @qrN.eq_1 (JA_ @okX.eq_1 (JA_ @okX.eq_2 (JA_ @okK.eq_1 (JA_ @okN.eq_1 (JA_ @okN.eq_2 (JA_ @q6M.eq_1 (JA_ @qmJ.eq_1 (JA_ @qmJ.eq_2 (JA_ @qnL.eq_1 (JA_ @qnL.eq_2 (JA_ @q61.eq_1 (JA_ @qi6.eq_1 (JA_ @q2J.eq_1 (JA_ @qhQ.eq_1 (JA_ @q5r.eq_1 (JA_ @q3t.eq_1 (JA_ @qaE.eq_1 (JA_ @q7J.eq_1 (JA_ @q7J.eq_2 (JA_ @cvT.eq_1 (JA_ @qc2.eq_1 (JA_ @q7b.eq_1 (JA_ @qqC.eq_1 (JA_ @qjB.eq_1 (JA_ @qjB.eq_2 (@S.rf.eq_1))))))))))))))))))))))))))))))))))
def bx3 := JA_ @S.rfx.eq_1 (JA_ @qp5.eq_1 (JA_ @rdB.eq_1 (JA_ @qeV.eq_1 (JA_ @qeV.eq_2 (JA_ @q8M.eq_1 (JA_ @qiO (JA_ @qiH (JA_ @qiX (JA_ @qjM (JA_ @qmC (JA_ @q8Z.eq_1 (JA_ @qgS.eq_1 (JA_ @qgl.eq_1 (JA_ @D.key.eq_1 (JA_ @R.key.eq_1 (JA_ @plK.eq_1 (JA_ @zR.eq_1 (@tt2.eq_1))))))))))))))))))
def bx4 := JA_ @fnd.eq_1 (JA_ @fnd.eq_2 (JA_ @kq.eq_1 (JA_ @B.isOb.eq_2 (JA_ @AO.mapR.eq_1 (JA_ @AO.mapR.eq_2 (JA_ @AO.mapR.eq_3 (JA_ @AO.Rs.eq_1 (JA_ @AO.Rs.eq_2 (JA_ @AO.Rs.eq_3 (JA_ @R.refs0.eq_1 (JA_ @R.refs0.eq_2 (JA_ @R.refs0.eq_3 (JA_ @cvA.eq_2 (JA_ @ql4.eq_1 (JA_ @xgd.eq_1 (JA_ @xgF.eq_1 (JA_ @xo.eq_1 (JA_ @xo.eq_2 (JA_ @xo.eq_3 (JA_ @xo.eq_4 (JA_ @xo.eq_5 (JA_ @xo.eq_6 (JA_ @xo.eq_7 (JA_ @xo.eq_8 (JA_ @xo.eq_9 (JA_ @xo.eq_10 (JA_ @xo.eq_11 (JA_ @xo.eq_12 (@xo.eq_14)))))))))))))))))))))))))))))
def bx5 := JA_ @xo.eq_15 (JA_ @xo.eq_16 (JA_ @xo.eq_17 (JA_ @xo.eq_19 (JA_ @xo.eq_21 (JA_ @xo.eq_22 (JA_ @xo.eq_23 (JA_ @xo.eq_24 (JA_ @xo.eq_25 (JA_ @xo.eq_26 (JA_ @xo.eq_29 (JA_ @xo.eq_30 (JA_ @xCl.eq_1 (JA_ @pre.eq_1 (JA_ @pre.eq_2 (JA_ @pre.eq_3 (JA_ @q8b.eq_1 (JA_ @q1k.eq_1 (JA_ @q8d.eq_1 (JA_ @qdn.eq_1 (JA_ @qbJ.eq_1 (JA_ @q3U.eq_1 (JA_ @q2f.eq_2 (JA_ @q2f.eq_3 (JA_ @qu7.eq_1 (JA_ @qeG.eq_1 (JA_ @qeG.eq_2 (JA_ @cvR.eq_1 (JA_ @cvR.eq_2 (JA_ @cvR.eq_3 (JA_ @cvL.eq_1 (JA_ @cvL.eq_2 (@qiz.eq_1))))))))))))))))))))))))))))))))
def bx6 := JA_ @qiz.eq_2 (JA_ @cv.eq_1 (JA_ @cv.eq_2 (JA_ @cv0.eq_1 (JA_ @cv0.eq_5 (JA_ @cv0.eq_8 (JA_ @cv0.eq_9 (JA_ @cv0.eq_10 (JA_ @cvG.eq_1 (JA_ @cvG.eq_2 (JA_ @cvB.eq_1 (JA_ @cvB.eq_2 (JA_ @cvB.eq_3 (JA_ @vis.eq_1 (JA_ @q9Z.eq_1 (JA_ @q9Z.eq_2 (JA_ @q3e (JA_ @qnn.eq_1 (JA_ @pos.eq_1 (JA_ @pos.eq_2 (JA_ @qiR.eq_1 (JA_ @qiZ.eq_1 (JA_ @qcB.eq_1 (JA_ @qsu.eq_1 (JA_ @q4o.eq_1 (JA_ @q46.eq_1 (JA_ @q42.eq_1 (JA_ @q7W.eq_1 (JA_ @q5C.eq_1 (JA_ @qaJ.eq_1 (@qaJ.eq_2))))))))))))))))))))))))))))))
def bx7 := JA_ @qaJ.eq_3 (JA_ @qaJ.eq_4 (JA_ @qaJ.eq_5 (JA_ @qaJ.eq_6 (JA_ @qaJ.eq_9 (JA_ @qaJ.eq_10 (JA_ @qaJ.eq_11 (JA_ @qaJ.eq_12 (JA_ @qaJ.eq_13 (JA_ @qaJ.eq_14 (JA_ @qaJ.eq_15 (JA_ @qaJ.eq_16 (JA_ @qaJ.eq_17 (JA_ @qnO.eq_3 (JA_ @qnO.eq_4 (JA_ @qnO.eq_6 (JA_ @qqx.eq_1 (JA_ @qqx.eq_2 (JA_ @qs0.eq_1 (JA_ @qsk.eq_1 (JA_ @qs1.eq_1 (JA_ @qsi.eq_1 (@qsn.eq_1))))))))))))))))))))))
def bx8 := JA_ @qcF.eq_1 (JA_ @q07.eq_1 (JA_ @q5n.eq_1 (JA_ @qce.eq_1 (JA_ @q4I.eq_1 (JA_ @Kd.isSl.eq_1 (JA_ @nrm.eq_1 (JA_ @qn9.eq_1 (JA_ @qsI.eq_1 (JA_ @rng.eq_1 (JA_ @rng.eq_2 (JA_ @rwAll.eq_1 (JA_ @rwAll.eq_2 (JA_ @rw1.eq_1 (JA_ @rw1.eq_2 (JA_ @cn.eq_1 (JA_ @cn.eq_2 (JA_ @cn0.eq_1 (JA_ @cn0.eq_2 (JA_ @cn0.eq_3 (JA_ @cn0.eq_5 (JA_ @cnR.eq_2 (JA_ @qij.eq_1 (JA_ @qij.eq_2 (JA_ @qij.eq_3 (JA_ @cnB.eq_1 (JA_ @cnB.eq_2 (JA_ @cnB.eq_3 (JA_ @cnH.eq_1 (JA_ @cnH.eq_2 (@qo0))))))))))))))))))))))))))))))
def bx9 := JA_ @qQ.eq_1 (JA_ @qQ.eq_2 (JA_ @qQ.eq_3 (JA_ @qpL.eq_1 (JA_ @qeD.eq_1 (JA_ @q9n.eq_1 (JA_ @qec.eq_1 (JA_ @q9j.eq_1 (JA_ @qcr.eq_1 (JA_ @q9h.eq_1 (JA_ @q9h.eq_2 (JA_ @S.frz.eq_1 (JA_ @S.frz.eq_2 (JA_ @S.frz1.eq_1 (JA_ @fz.eq_1 (JA_ @fz.eq_2 (JA_ @fz0.eq_1 (JA_ @fz0.eq_2 (JA_ @fz0.eq_3 (JA_ @fz0.eq_5 (JA_ @fzR.eq_1 (JA_ @fzR.eq_2 (JA_ @qiB.eq_1 (JA_ @qiB.eq_2 (JA_ @qiB.eq_3 (JA_ @fzB.eq_1 (JA_ @fzB.eq_2 (JA_ @fzB.eq_3 (JA_ @fzB.eq_4 (JA_ @qr9 (JA_ @dz.eq_1 (JA_ @dz.eq_2 (JA_ @dzL.eq_1 (JA_ @dzL.eq_2 (JA_ @dzR.eq_1 (@dzR.eq_2)))))))))))))))))))))))))))))))))))
def qxn := JA_ @qdR.eq_1 (JA_ @qdR.eq_2 (JA_ @one.eq_1 (JA_ @one.eq_2 (JA_ @rvs.eq_1 (JA_ @rvs.eq_2 (JA_ @qm1.eq_1 (JA_ @qm1.eq_2 (JA_ @tt.eq_1 (JA_ @ff.eq_1 (JA_ @qa8.eq_1 (JA_ @qa8.eq_2 (JA_ @C.ref0.eq_1 (JA_ @C.ref0.eq_2 (JA_ @C.ref0.eq_3 (JA_ @C.ref0.eq_4 (JA_ @C.refs.eq_1 (JA_ @C.refs.eq_2 (JA_ @B.refs.eq_1 (JA_ @B.refs.eq_2 (JA_ @B.refs.eq_3 (JA_ @B.refs.eq_4 (JA_ @R.refs.eq_1 (JA_ @R.refs.eq_2 (JA_ @R.refs.eq_4 (JA_ @C.rows0.eq_1 (JA_ @C.rows0.eq_2 (JA_ @C.rows.eq_1 (JA_ @C.rows.eq_2 (JA_ @R.rows.eq_1 (JA_ @R.rows.eq_2 (JA_ @R.rows.eq_3 (JA_ @C.ptrs0.eq_1 (JA_ @C.ptrs0.eq_2 (JA_ @C.ptrs0.eq_3 (JA_ @C.ptrs.eq_1 (JA_ @C.ptrs.eq_2 (JA_ @R.ptrs.eq_1 (@R.ptrs.eq_2))))))))))))))))))))))))))))))))))))))
def qyA := JA_ @R.ptrs.eq_3 (JA_ @B.isBlk.eq_1 (JA_ @B.isBlk.eq_2 (JA_ @B.isBlk.eq_3 (JA_ @R.scl.eq_1 (JA_ @R.scl.eq_2 (JA_ @R.scl0.eq_1 (JA_ @R.scl0.eq_2 (JA_ @R.scl0.eq_3 (JA_ @C.scl.eq_1 (JA_ @C.scl.eq_2 (JA_ @C.scl0.eq_1 (JA_ @C.scl0.eq_4 (JA_ @B.scl.eq_1 (JA_ @B.scl.eq_2 (JA_ @B.scl.eq_3 (JA_ @C.dat.eq_1 (JA_ @C.dat.eq_2 (JA_ @C.dat0.eq_1 (JA_ @C.dat0.eq_5 (JA_ @C.dat0.eq_8 (JA_ @ren.eq_1 (JA_ @R.rn.eq_1 (JA_ @R.rn.eq_2 (JA_ @R.rn0.eq_1 (JA_ @R.rn0.eq_2 (JA_ @R.rn0.eq_3 (JA_ @C.rn.eq_1 (JA_ @C.rn.eq_2 (JA_ @C.rn0.eq_1 (JA_ @C.rn0.eq_2 (@C.rn0.eq_3)))))))))))))))))))))))))))))))
def qyx := JA_ @C.rn0.eq_5 (JA_ @B.rn.eq_1 (JA_ @B.rn.eq_2 (JA_ @B.rn.eq_3 (JA_ @qqQ (JA_ @S.aft.eq_1 (JA_ @S.fgL.eq_1 (JA_ @S.fgL.eq_2 (JA_ @C.fgL.eq_1 (JA_ @C.fgL.eq_2 (JA_ @C.fgL.eq_3 (JA_ @C.fgL.eq_4 (JA_ @C.fgL.eq_5 (JA_ @R.fgL.eq_1 (JA_ @R.fgL.eq_2 (JA_ @R.fgL.eq_4 (JA_ @B.fgL.eq_1 (JA_ @B.fgL.eq_2 (JA_ @B.fgL.eq_3 (JA_ @B.fgL.eq_4 (JA_ @C.farL.eq_1 (JA_ @C.farL.eq_3 (JA_ @C.farL.eq_5 (JA_ @R.farL.eq_1 (JA_ @R.farL.eq_2 (JA_ @R.farL.eq_3 (JA_ @R.farL.eq_4 (JA_ @B.farL.eq_1 (JA_ @B.farL.eq_2 (JA_ @B.farL.eq_3 (JA_ @qnN.eq_1 (JA_ @qnN.eq_2 (JA_ @qnN.eq_3 (@qmi.eq_1)))))))))))))))))))))))))))))))))
def qx9 := JA_ @qmi.eq_2 (JA_ @S.ev.eq_1 (JA_ @S.ev.eq_2 (JA_ @S.ev.eq_3 (JA_ @S.get.eq_1 (JA_ @S.blk.eq_1 (JA_ @S.put.eq_1 (JA_ @S.put.eq_2 (JA_ @S.up.eq_1 (JA_ @S.bd.eq_1 (JA_ @S.bd.eq_2 (JA_ @S.seq.eq_1 (JA_ @S.cell1.eq_1 (JA_ @lk.eq_1 (JA_ @lk.eq_2 (JA_ @q25.eq_1 (JA_ @q25.eq_2 (JA_ @q25.eq_3 (JA_ @q25.eq_5 (JA_ @q25.eq_6 (JA_ @q25.eq_7 (JA_ @q2x.eq_1 (JA_ @q2x.eq_2 (JA_ @qmU (JA_ @ldx.eq_1 (JA_ @bld.eq_1 (JA_ @bld.eq_2 (JA_ @spl.eq_1 (JA_ @spl.eq_2 (JA_ @q0a.eq_1 (JA_ @Ty.foff.eq_1 (JA_ @R.cells.eq_1 (JA_ @R.cells.eq_2 (JA_ @R.parts.eq_1 (@R.parts.eq_2))))))))))))))))))))))))))))))))))
def qxQ := JA_ @B.cells.eq_1 (JA_ @B.cells.eq_2 (JA_ @B.live.eq_1 (JA_ @B.live.eq_2 (JA_ @C.known.eq_2 (JA_ @C.far.eq_1 (JA_ @C.far.eq_5 (JA_ @S.fg.eq_1 (JA_ @R.fg.eq_1 (JA_ @R.fg.eq_2 (JA_ @R.fg.eq_3 (JA_ @R.fg.eq_4 (JA_ @B.fg.eq_1 (JA_ @B.fg.eq_2 (JA_ @B.fg.eq_3 (JA_ @B.fg.eq_4 (JA_ @C.fg.eq_1 (JA_ @C.fg.eq_2 (JA_ @C.fg.eq_3 (JA_ @C.fg.eq_4 (JA_ @C.fg.eq_5 (JA_ @D1.eq_1 (JA_ @q1C.eq_1 (JA_ @q1C.eq_2 (JA_ @q1C.eq_3 (JA_ @q1C.eq_4 (JA_ @q1C.eq_6 (JA_ @q1C.eq_7 (JA_ @q1C.eq_8 (JA_ @q1C.eq_9 (JA_ @q1C.eq_10 (@q1C.eq_11)))))))))))))))))))))))))))))))
def qx5 := JA_ @q1C.eq_13 (JA_ @q1C.eq_14 (JA_ @q1C.eq_15 (JA_ @q1C.eq_17 (JA_ @q1C.eq_19 (JA_ @q1C.eq_23 (JA_ @q1C.eq_24 (JA_ @qiA.eq_1 (JA_ @qiA.eq_4 (JA_ @qiA.eq_5 (JA_ @q99.eq_3 (JA_ @q99.eq_5 (JA_ @q99.eq_6 (JA_ @qit.eq_1 (JA_ @qit.eq_3 (JA_ @qit.eq_4 (JA_ @qit.eq_5 (JA_ @fpC.eq_1 (JA_ @qoN.eq_1 (JA_ @qr2.eq_1 (JA_ @qrT.eq_1 (JA_ @C.lt0.eq_3 (JA_ @C.lt0.eq_4 (JA_ @C.ltn.eq_1 (JA_ @C.ltn.eq_2 (JA_ @R.lt0.eq_1 (@R.lt0.eq_2))))))))))))))))))))))))))
def qxI := JA_ @R.ltn.eq_1 (JA_ @R.ltn.eq_2 (JA_ @B.ltn.eq_1 (JA_ @B.ltn.eq_2 (JA_ @q3y.eq_1 (JA_ @Fp.none?.eq_1 (JA_ @okP.eq_1 (JA_ @okP.eq_2 (JA_ @qj8 (JA_ @qiJ (JA_ @qnq (JA_ @qiK (JA_ @qjj (JA_ @qj0 (JA_ @qmS (JA_ @qjV (JA_ @qjt (JA_ @qjI (JA_ @qex (JA_ @qmV (JA_ @qiU (JA_ @qjx (JA_ @qn3 (JA_ @qk6 (JA_ @qjn (JA_ @qkt (JA_ @qlA (JA_ @qiS (JA_ @qkz (JA_ @qiE (JA_ @qnh (JA_ @qjF (JA_ @qlP (@qg9)))))))))))))))))))))))))))))))))
def qxF := JA_ @qmX (JA_ @qjW (JA_ @qn4 (JA_ @qjs (JA_ @qrt (JA_ @qnv (JA_ @C.farF.eq_1 (JA_ @C.farF.eq_2 (JA_ @Go.Op.operands.eq_1 (JA_ @Go.Op.operands.eq_4 (JA_ @Go.Op.operands.eq_5 (JA_ @Go.Op.operands.eq_7 (JA_ @Go.Op.operands.eq_8 (JA_ @Go.Op.operands.eq_9 (JA_ @Go.Op.operands.eq_14 (JA_ @Go.Op.operands.eq_20 (JA_ @Go.Op.operands.eq_23 (JA_ @Go.Op.operands.eq_24 (JA_ @Go.Op.operands.eq_25 (JA_ @Go.Op.operands.eq_26 (JA_ @Go.Op.operands.eq_27 (@Go.Op.operands.eq_29)))))))))))))))))))))
def qy1 := JA_ @Go.Op.operands.eq_34 (JA_ @Go.Op.operands.eq_36 (JA_ @Go.Op.operands.eq_40 (JA_ @qq8 (JA_ @qo5 (JA_ @Option.isNone_none.{0} (JA_ @Option.isNone_some.{0} (JA_ @qnU.eq_1 (JA_ @qnU.eq_2 (JA_ @Option.toList_some.{0} (JA_ @Option.toList_none.{0} (JA_ @List.all_append.{0} (JA_ @List.getElem?_nil.{0} (JA_ @List.drop_zero.{0} (JA_ @Int.cast_ofNat_Int (JA_ @Int.le_refl (JA_ @Nat.le_refl (JA_ @Option.bind_assoc.{0,0,0} (JA_ @List.any_nil.{0} (JA_ @List.any_cons.{0} (JA_ @List.getD_cons_zero.{0} (JA_ @List.getD_cons_succ.{0} (JA_ @true_and (JA_ @and_true (JA_ @and_false (JA_ @Option.some.injEq.{0} (@Prod.mk.injEq.{0,0}))))))))))))))))))))))))))
def qyW := JA_ @Option.bind_some.{0,0} (JA_ @Option.bind_none.{0,0} (JA_ @Option.map_some.{0,0} (JA_ @Option.map_none.{0,0} (JA_ @Option.getD_some.{0} (JA_ @Option.getD_none.{0} (JA_ @ne_eq.{1} (JA_ @not_false_eq_true (JA_ @or_false (JA_ @Bool.false_eq_true (JA_ @List.map_cons.{0,0} (JA_ @List.map_nil.{0,0} (JA_ @List.all_cons.{0} (JA_ @List.all_nil.{0} (JA_ @Bool.and_true (JA_ @Bool.true_and (JA_ @Bool.and_false (JA_ @Bool.false_and (JA_ @Bool.and_eq_true (JA_ @Bool.or_true (JA_ @Bool.true_or (JA_ @Bool.or_false (JA_ @Bool.false_or (JA_ @List.length_cons.{0} (JA_ @List.length_nil.{0} (JA_ @List.length_map.{0,0} (JA_ @List.getElem?_cons_zero.{0} (JA_ @List.getElem?_cons_succ.{0} (JA_ @List.foldl_cons.{0,0} (JA_ @List.foldl_nil.{0,0} (JA_ @List.cons_append.{0} (JA_ @List.nil_append.{0} (JA_ @List.append_nil.{0} (JA_ @Nat.max_def (JA_ @decide_true (@decide_false)))))))))))))))))))))))))))))))))))
def qyf := JA_ @decide_not (JA_ @decide_eq_true_eq (JA_ @Nat.zero_le (JA_ @Nat.zero_mul (JA_ @Nat.mul_one (JA_ @Nat.one_mul (JA_ @Nat.add_zero (JA_ @Nat.zero_add (JA_ @Int.toNat_natCast (JA_ @List.mapM_cons.{0,0,0} (JA_ @List.mapM_nil.{0,0,0} (JA_ @List.drop_succ_cons.{0} (JA_ @List.drop_nil.{0} (JA_ @List.take_succ_cons.{0} (JA_ @List.take_zero.{0} (JA_ @List.replicate_succ.{0} (JA_ @List.replicate_zero.{0} (JA_ @List.set_cons_zero.{0} (JA_ @List.set_cons_succ.{0} (JA_ @and_self (JA_ @Bool.not_true (JA_ @Bool.not_false (JA_ @List.contains_cons.{0} (JA_ @List.contains_nil.{0} (JA_ @List.flatMap_cons.{0,0} (JA_ @List.flatMap_nil.{0,0} (JA_ @List.filter_cons.{0} (JA_ @List.filter_nil.{0} (JA_ @List.eraseDups_cons.{0} (JA_ @List.eraseDups_nil.{0} (JA_ @List.nodup_cons.{0} (JA_ @List.nodup_nil.{0} (JA_ @List.mem_cons.{0} (JA_ @List.not_mem_nil.{0} (JA_ @List.headD_cons.{0} (JA_ @List.headD_nil.{0} (JA_ @List.tail_cons.{0} (JA_ @List.tail_nil.{0} (JA_ @beq_self_eq_true.{0} (@JP)))))))))))))))))))))))))))))))))))))))
def qwS := JA_ @List.range_succ (JA_ @List.range_zero (JA_ @ite_self.{1} (JA_ @R.dat.eq_1 (JA_ @R.dat.eq_2 (JA_ @qlB (JA_ @qnC (JA_ @qpj (JA_ @qlK (JA_ @qr7 (JA_ @qmy (JA_ @qmz (JA_ @qov (JA_ @qjX (JA_ @qbr (JA_ @qka (JA_ @mpo.eq_2 (JA_ @qqJ (JA_ @qto (JA_ @qeq (@qo6))))))))))))))))))))
def qyG := JA_ @mup.eq_1 (JA_ @qlr (JA_ @qqA (JA_ @qmT (JA_ @qqe (JA_ @qjC (JA_ @qlu (JA_ @qhA (JA_ @qlX (JA_ @qkp (JA_ @qmN (JA_ @qej (JA_ @qmp (JA_ @qkh (JA_ @qjU (JA_ @qlz (JA_ @qiC (JA_ @qlq (JA_ @qk7 (JA_ @qeu (JA_ @qnf (JA_ @qj5 (JA_ @qku (JA_ @qmj (JA_ @qjN (JA_ @qmb (@qjL))))))))))))))))))))))))))
def qxx := JA_ @qnF (JA_ @qmB (JA_ @qkc (JA_ @qm2 (JA_ @qmw (JA_ @qx1 (JA_ @qyP (JA_ @qt5 (JA_ @qtS (JA_ @qtf (JA_ @qpv (JA_ @qo4 (JA_ @qrK (JA_ @qui (JA_ @qq7 (JA_ @qtM (JA_ @qry (JA_ @qqy (JA_ @qmd (JA_ @qlt (JA_ @qrJ (JA_ @qmr (JA_ @qrA (JA_ @qp1 (JA_ @qlp (JA_ @qx2 (JA_ @qez (JA_ @qj2 (JA_ @qne (JA_ @qoK (JA_ @qpX (JA_ @qlU (JA_ @qlZ (JA_ @Sum.elim_inl.{0,1,0} (@Sum.elim_inr.{0,1,0}))))))))))))))))))))))))))))))))))
def qyv := JA_ @qbU (JA_ @qgA (JA_ @qfQ (JA_ @qrX.eq_1 (JA_ @qfE (JA_ @qnD (JA_ @qmH (JA_ @qni (JA_ @qlJ (JA_ @qbK (JA_ @qbv (JA_ @qqn (JA_ @qsP.eq_1 (JA_ @List.length_append.{0} (JA_ @List.length_set.{0} (JA_ @List.length_replicate.{0} (JA_ @qdU (JA_ @lkq.eq_1 (JA_ @lkq.eq_2 (JA_ @qmO (JA_ @qgI (JA_ @qkb (JA_ @List.take_nil.{0} (@List.flatten_nil.{0})))))))))))))))))))))))
def qxK := JA_ @qfe (JA_ @qkw (@q3M))
theorem qxT (a0 a1 a2 : Int) (i : Nat) : ([C.d (D.int .i64 a0), C.d (D.int .i64 a1), C.d (D.int .i64 a2)] : List C)[i]? = ([a0, a1, a2][i]?).bind fun x => some (C.d (D.int .i64 x)) := by rw [show ([C.d (D.int .i64 a0), C.d (D.int .i64 a1), C.d (D.int .i64 a2)] : List C) = [a0, a1, a2].map (fun x => C.d (D.int .i64 x)) from rfl, List.getElem?_map]; cases ([a0, a1, a2] : List Int)[i]? <;> rfl
theorem qz9 (a0 a1 a2 a3 : Int) (i : Nat) : ([C.d (D.int .i64 a0), C.d (D.int .i64 a1), C.d (D.int .i64 a2), C.d (D.int .i64 a3)] : List C)[i]? = ([a0, a1, a2, a3][i]?).bind fun x => some (C.d (D.int .i64 x)) := by rw [show ([C.d (D.int .i64 a0), C.d (D.int .i64 a1), C.d (D.int .i64 a2), C.d (D.int .i64 a3)] : List C) = [a0, a1, a2, a3].map (fun x => C.d (D.int .i64 x)) from rfl, List.getElem?_map]; cases ([a0, a1, a2, a3] : List Int)[i]? <;> rfl
theorem qyQ (a0 a1 a2 a3 a4 a5 : Int) (i : Nat) : ([C.d (D.int .i64 a0), C.d (D.int .i64 a1), C.d (D.int .i64 a2), C.d (D.int .i64 a3), C.d (D.int .i64 a4), C.d (D.int .i64 a5)] : List C)[i]? = ([a0, a1, a2, a3, a4, a5][i]?).bind fun x => some (C.d (D.int .i64 x)) := by rw [show ([C.d (D.int .i64 a0), C.d (D.int .i64 a1), C.d (D.int .i64 a2), C.d (D.int .i64 a3), C.d (D.int .i64 a4), C.d (D.int .i64 a5)] : List C) = [a0, a1, a2, a3, a4, a5].map (fun x => C.d (D.int .i64 x)) from rfl, List.getElem?_map]; cases ([a0, a1, a2, a3, a4, a5] : List Int)[i]? <;> rfl
theorem qyZ (a0 a1 a2 a3 a4 a5 a6 : Int) (i : Nat) : ([C.d (D.int .i64 a0), C.d (D.int .i64 a1), C.d (D.int .i64 a2), C.d (D.int .i64 a3), C.d (D.int .i64 a4), C.d (D.int .i64 a5), C.d (D.int .i64 a6)] : List C)[i]? = ([a0, a1, a2, a3, a4, a5, a6][i]?).bind fun x => some (C.d (D.int .i64 x)) := by rw [show ([C.d (D.int .i64 a0), C.d (D.int .i64 a1), C.d (D.int .i64 a2), C.d (D.int .i64 a3), C.d (D.int .i64 a4), C.d (D.int .i64 a5), C.d (D.int .i64 a6)] : List C) = [a0, a1, a2, a3, a4, a5, a6].map (fun x => C.d (D.int .i64 x)) from rfl, List.getElem?_map]; cases ([a0, a1, a2, a3, a4, a5, a6] : List Int)[i]? <;> rfl
def bz0 := JA_ @qxT (JA_ @qz9 (JA_ @qyQ (@qyZ)))
end Go.Proofs.Ytgejdfnidjnjcaa.Vc
