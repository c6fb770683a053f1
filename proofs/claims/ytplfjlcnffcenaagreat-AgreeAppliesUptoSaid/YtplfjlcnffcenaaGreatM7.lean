/- Part 7 of a proof. -/
import Derived.Test.YtplfjlcnffcenaaGreatM6
import Derived.Laws.RangeAny
import Derived.Laws.Strings
set_option linter.unusedVariables false
set_option linter.unusedSimpArgs false
set_option linter.defProp false
set_option linter.unusedSectionVars false
set_option linter.unnecessarySimpa false
namespace Go.Proofs.YtplfjlcnffcenaaGreat.Vc
open Go.RowKit
set_option linter.unusedVariables false
set_option linter.unusedSimpArgs false
set_option maxRecDepth 20000
set_option maxHeartbeats 8000000
set_option linter.defProp false
noncomputable def qN (w3 : List qa) (w4 : List qf) (w5 : List (List qb)) (w6 : List qa) (b0 : qi) (b1 : qa) (b2 : qf) (t1 : List Int) (t7 : Bool) (t10 : List qb) (t11 : List qb) (t16 : List qb) (t46 : Int) (t47 : Int) (t82 : Int) (t83 : Int) (t98 : Int) (t99 : Int) (t109 : Int) : Int → Option (Int ⊕ (Unit ⊕ Unit)) | t110 => if t110 < t109 then if 0 ≤ t110 ∧ t110 < ((w6.length : Nat) : Int) then Option.bind w6[Int.toNat t110]? fun (a : qa) => Option.bind (ZN a b2 t16) fun (a2 : Prod (List qb) Int) => Option.bind (ZS a b2 t16) fun (a3 : Prod (List qb) Int) => if (a2.2 != a3.2) = Bool.true then some (Sum.inr (Sum.inl ())) else Option.bind (Z8 a2.1 a3.1) fun (a4 : Bool) => if (!a4) = Bool.true then some (Sum.inr (Sum.inl ())) else Option.bind (Q3 a t16) fun (a5 : Bool) => Option.bind (Qr a t16) fun (a6 : Bool) => if (!(a5 == a6)) = Bool.true then some (Sum.inr (Sum.inl ())) else some (Sum.inl (w64 (t110 + 1))) else none else some (Sum.inr (Sum.inr ()))
theorem JJ : ∀ (w3 : List qa) (w4 : List qf) (w5 : List (List qb)) (w6 : List qa) (b0_At b0_Odd_0 b0_Odd_1 b0_Raw_Agreement_Id b0_Raw_Agreement_From b0_Raw_Agreement_To b0_Raw_Agreement_Begin b0_Raw_Agreement_End : Int) (b0_Raw_Agreement_In : List ByteArray) (b0_Raw_Agreement_Out : List qh) (b0_Raw_Agreement_Conv_Num b0_Raw_Agreement_Conv_Add b0_Raw_Agreement_Conv_Den b0_Raw_Agreement_Conv_Round b0_Raw_Day b0_Raw_Scale_Worst b0_Raw_Scale_Best b0_Raw_Scale_Pass : Int) (b0_Raw_L : List qb) (b1_Id b1_From b1_To b1_Begin b1_End : Int) (b1_In : List ByteArray) (b1_Out : List qh) (b1_Conv_Num b1_Conv_Add b1_Conv_Den b1_Conv_Round b2_Worst b2_Best b2_Pass : Int) (t1 : List Int) (t7 : Bool) (t10 t11 t16 : List qb) (t46 t47 t82 t83 t98 t99 t109 t110 : Int) (w3_len w4_len w5_len w6_len : Nat), w3_len = w3.length → w4_len = w4.length → w5_len = w5.length → w6_len = w6.length → XL2 evo 4 0 18 ⟨[(1, rL 1 eI t1), (5, rP 0), (7, rB t7), (9, rP 1), (10, rL 8 qc t10), (11, rL 8 qc t11), (14, rP 2), (16, rL 8 qc t16), (45, rO 3 11 w3_len), (46, rI t46), (47, rI t47), (81, rO 4 3 w4_len), (82, rI t82), (83, rI t83), (97, rO 5 1 w5_len), (98, rI t98), (99, rI t99), (108, rO 6 11 w6_len), (109, rI t109), (110, rI t110)], [(0, B.blk 47 [dI b0_At, dI b0_Odd_0, dI b0_Odd_1, dI b0_Raw_Agreement_Id, dI b0_Raw_Agreement_From, dI b0_Raw_Agreement_To, dI b0_Raw_Agreement_Begin, dI b0_Raw_Agreement_End, dL 1 eS b0_Raw_Agreement_In, dL 2 qe b0_Raw_Agreement_Out, dI b0_Raw_Agreement_Conv_Num, dI b0_Raw_Agreement_Conv_Add, dI b0_Raw_Agreement_Conv_Den, dI b0_Raw_Agreement_Conv_Round, dI b0_Raw_Day, dI b0_Raw_Scale_Worst, dI b0_Raw_Scale_Best, dI b0_Raw_Scale_Pass, dL 8 qc b0_Raw_L]), (1, B.blk 30 [dI b1_Id, dI b1_From, dI b1_To, dI b1_Begin, dI b1_End, dL 1 eS b1_In, dL 2 qe b1_Out, dI b1_Conv_Num, dI b1_Conv_Add, dI b1_Conv_Den, dI b1_Conv_Round]), (2, B.blk 32 [dI b2_Worst, dI b2_Best, dI b2_Pass]), (3, bR 30 11 qn w3), (4, bR 32 3 zp w4), (5, bR 33 1 (eL 8 qc) w5), (6, bR 30 11 qn w6)], 7, 151⟩ = (qA (qN w3 w4 w5 w6 (qi.mk b0_At (Z6.mk b0_Odd_0 b0_Odd_1) (qm.mk (qa.mk b0_Raw_Agreement_Id b0_Raw_Agreement_From b0_Raw_Agreement_To b0_Raw_Agreement_Begin b0_Raw_Agreement_End b0_Raw_Agreement_In b0_Raw_Agreement_Out (qd.mk b0_Raw_Agreement_Conv_Num b0_Raw_Agreement_Conv_Add b0_Raw_Agreement_Conv_Den b0_Raw_Agreement_Conv_Round)) b0_Raw_Day (qf.mk b0_Raw_Scale_Worst b0_Raw_Scale_Best b0_Raw_Scale_Pass) b0_Raw_L)) (qa.mk b1_Id b1_From b1_To b1_Begin b1_End b1_In b1_Out (qd.mk b1_Conv_Num b1_Conv_Add b1_Conv_Den b1_Conv_Round)) (qf.mk b2_Worst b2_Best b2_Pass) t1 t7 t10 t11 t16 t46 t47 t82 t83 t98 t99 t109) t110).bind (Sum.elim (fun (e : Unit) => some (Go.Exit.ret, ⟨[(1, rL 1 eI t1), (5, rP 0), (6, rB Bool.false), (7, rB t7), (9, rP 1), (10, rL 8 qc t10), (11, rL 8 qc t11), (14, rP 2), (45, rO 3 11 w3.length), (46, rI t46), (47, rI t47), (81, rO 4 3 w4.length), (82, rI t82), (83, rI t83), (97, rO 5 1 w5.length), (98, rI t98), (99, rI t99)], [(0, B.blk 47 [dI b0_At, dI b0_Odd_0, dI b0_Odd_1, dI b0_Raw_Agreement_Id, dI b0_Raw_Agreement_From, dI b0_Raw_Agreement_To, dI b0_Raw_Agreement_Begin, dI b0_Raw_Agreement_End, dL 1 eS b0_Raw_Agreement_In, dL 2 qe b0_Raw_Agreement_Out, dI b0_Raw_Agreement_Conv_Num, dI b0_Raw_Agreement_Conv_Add, dI b0_Raw_Agreement_Conv_Den, dI b0_Raw_Agreement_Conv_Round, dI b0_Raw_Day, dI b0_Raw_Scale_Worst, dI b0_Raw_Scale_Best, dI b0_Raw_Scale_Pass, dL 8 qc b0_Raw_L]), (1, B.blk 30 [dI b1_Id, dI b1_From, dI b1_To, dI b1_Begin, dI b1_End, dL 1 eS b1_In, dL 2 qe b1_Out, dI b1_Conv_Num, dI b1_Conv_Add, dI b1_Conv_Den, dI b1_Conv_Round]), (2, B.blk 32 [dI b2_Worst, dI b2_Best, dI b2_Pass]), (3, bR 30 11 qn w3), (4, bR 32 3 zp w4), (5, bR 33 1 (eL 8 qc) w5)], 6, 151⟩)) (fun (e : Unit) => some (Go.Exit.exit 6, ⟨[(1, rL 1 eI t1), (5, rP 0), (6, R.any), (7, rB t7), (9, rP 1), (10, rL 8 qc t10), (11, rL 8 qc t11), (14, rP 2), (45, rO 3 11 w3.length), (46, rI t46), (47, rI t47), (81, rO 4 3 w4.length), (82, rI t82), (83, rI t83), (97, rO 5 1 w5.length), (98, rI t98), (99, rI t99)], [(0, B.blk 47 [dI b0_At, dI b0_Odd_0, dI b0_Odd_1, dI b0_Raw_Agreement_Id, dI b0_Raw_Agreement_From, dI b0_Raw_Agreement_To, dI b0_Raw_Agreement_Begin, dI b0_Raw_Agreement_End, dL 1 eS b0_Raw_Agreement_In, dL 2 qe b0_Raw_Agreement_Out, dI b0_Raw_Agreement_Conv_Num, dI b0_Raw_Agreement_Conv_Add, dI b0_Raw_Agreement_Conv_Den, dI b0_Raw_Agreement_Conv_Round, dI b0_Raw_Day, dI b0_Raw_Scale_Worst, dI b0_Raw_Scale_Best, dI b0_Raw_Scale_Pass, dL 8 qc b0_Raw_L]), (1, B.blk 30 [dI b1_Id, dI b1_From, dI b1_To, dI b1_Begin, dI b1_End, dL 1 eS b1_In, dL 2 qe b1_Out, dI b1_Conv_Num, dI b1_Conv_Add, dI b1_Conv_Den, dI b1_Conv_Round]), (2, B.blk 32 [dI b2_Worst, dI b2_Best, dI b2_Pass]), (3, bR 30 11 qn w3), (4, bR 32 3 zp w4), (5, bR 33 1 (eL 8 qc) w5)], 6, 151⟩))) :=
  by
  intro w3 w4 w5 w6 b0_At b0_Odd_0 b0_Odd_1 b0_Raw_Agreement_Id b0_Raw_Agreement_From b0_Raw_Agreement_To b0_Raw_Agreement_Begin b0_Raw_Agreement_End b0_Raw_Agreement_In b0_Raw_Agreement_Out b0_Raw_Agreement_Conv_Num b0_Raw_Agreement_Conv_Add b0_Raw_Agreement_Conv_Den b0_Raw_Agreement_Conv_Round b0_Raw_Day b0_Raw_Scale_Worst b0_Raw_Scale_Best b0_Raw_Scale_Pass b0_Raw_L b1_Id b1_From b1_To b1_Begin b1_End b1_In b1_Out b1_Conv_Num b1_Conv_Add b1_Conv_Den b1_Conv_Round b2_Worst b2_Best b2_Pass t1 t7 t10 t11 t16 t46 t47 t82 t83 t98 t99 t109 t110 w3_len w4_len w5_len w6_len h0 h1 h2 h3
  subst h0 h1 h2 h3
  revert t110; exact q4j qra qoq (fun e => by rcases e with _ | _ <;> exact ⟨_, rfl, fun h => by cases h⟩) fun x => by
    have := cx4; have := @qfb.eq_1; have := @q4I; have := @q4F; have := @q2N; have := @q0g; have := @q0d; have := @qN.eq_1; exact gA
theorem Jm : ∀ (w60_Id w60_From w60_To w60_Begin w60_End : Int) (w60_In : List ByteArray) (w60_Out : List qh) (w60_Conv_Num w60_Conv_Add w60_Conv_Den w60_Conv_Round w61_Id w61_From w61_To w61_Begin w61_End : Int) (w61_In : List ByteArray) (w61_Out : List qh) (w61_Conv_Num w61_Conv_Add w61_Conv_Den w61_Conv_Round : Int) (w3 : List qa) (w4 : List qf) (w5 : List (List qb)) (b0_At b0_Odd_0 b0_Odd_1 b0_Raw_Agreement_Id b0_Raw_Agreement_From b0_Raw_Agreement_To b0_Raw_Agreement_Begin b0_Raw_Agreement_End : Int) (b0_Raw_Agreement_In : List ByteArray) (b0_Raw_Agreement_Out : List qh) (b0_Raw_Agreement_Conv_Num b0_Raw_Agreement_Conv_Add b0_Raw_Agreement_Conv_Den b0_Raw_Agreement_Conv_Round b0_Raw_Day b0_Raw_Scale_Worst b0_Raw_Scale_Best b0_Raw_Scale_Pass : Int) (b0_Raw_L : List qb) (b1_Id b1_From b1_To b1_Begin b1_End : Int) (b1_In : List ByteArray) (b1_Out : List qh) (b1_Conv_Num b1_Conv_Add b1_Conv_Den b1_Conv_Round b2_Worst b2_Best b2_Pass : Int) (t1 : List Int) (t7 : Bool) (t10 t11 t16 : List qb) (t46 t47 t82 t83 t98 t99 t109 t110 : Int) (w3_len w4_len w5_len : Nat), w3_len = w3.length → w4_len = w4.length → w5_len = w5.length → XL2 evo 4 0 18 ⟨[(1, rL 1 eI t1), (5, rP 0), (7, rB t7), (9, rP 1), (10, rL 8 qc t10), (11, rL 8 qc t11), (14, rP 2), (16, rL 8 qc t16), (45, rO 3 11 w3_len), (46, rI t46), (47, rI t47), (81, rO 4 3 w4_len), (82, rI t82), (83, rI t83), (97, rO 5 1 w5_len), (98, rI t98), (99, rI t99), (108, rO 6 11 2), (109, rI t109), (110, rI t110)], [(0, B.blk 47 [dI b0_At, dI b0_Odd_0, dI b0_Odd_1, dI b0_Raw_Agreement_Id, dI b0_Raw_Agreement_From, dI b0_Raw_Agreement_To, dI b0_Raw_Agreement_Begin, dI b0_Raw_Agreement_End, dL 1 eS b0_Raw_Agreement_In, dL 2 qe b0_Raw_Agreement_Out, dI b0_Raw_Agreement_Conv_Num, dI b0_Raw_Agreement_Conv_Add, dI b0_Raw_Agreement_Conv_Den, dI b0_Raw_Agreement_Conv_Round, dI b0_Raw_Day, dI b0_Raw_Scale_Worst, dI b0_Raw_Scale_Best, dI b0_Raw_Scale_Pass, dL 8 qc b0_Raw_L]), (1, B.blk 30 [dI b1_Id, dI b1_From, dI b1_To, dI b1_Begin, dI b1_End, dL 1 eS b1_In, dL 2 qe b1_Out, dI b1_Conv_Num, dI b1_Conv_Add, dI b1_Conv_Den, dI b1_Conv_Round]), (2, B.blk 32 [dI b2_Worst, dI b2_Best, dI b2_Pass]), (3, bR 30 11 qn w3), (4, bR 32 3 zp w4), (5, bR 33 1 (eL 8 qc) w5), (6, B.row 30 11 [dI w60_Id, dI w60_From, dI w60_To, dI w60_Begin, dI w60_End, dL 1 eS w60_In, dL 2 qe w60_Out, dI w60_Conv_Num, dI w60_Conv_Add, dI w60_Conv_Den, dI w60_Conv_Round, dI w61_Id, dI w61_From, dI w61_To, dI w61_Begin, dI w61_End, dL 1 eS w61_In, dL 2 qe w61_Out, dI w61_Conv_Num, dI w61_Conv_Add, dI w61_Conv_Den, dI w61_Conv_Round])], 7, 151⟩ = (qA (qN w3 w4 w5 [(qa.mk w60_Id w60_From w60_To w60_Begin w60_End w60_In w60_Out (qd.mk w60_Conv_Num w60_Conv_Add w60_Conv_Den w60_Conv_Round)), (qa.mk w61_Id w61_From w61_To w61_Begin w61_End w61_In w61_Out (qd.mk w61_Conv_Num w61_Conv_Add w61_Conv_Den w61_Conv_Round))] (qi.mk b0_At (Z6.mk b0_Odd_0 b0_Odd_1) (qm.mk (qa.mk b0_Raw_Agreement_Id b0_Raw_Agreement_From b0_Raw_Agreement_To b0_Raw_Agreement_Begin b0_Raw_Agreement_End b0_Raw_Agreement_In b0_Raw_Agreement_Out (qd.mk b0_Raw_Agreement_Conv_Num b0_Raw_Agreement_Conv_Add b0_Raw_Agreement_Conv_Den b0_Raw_Agreement_Conv_Round)) b0_Raw_Day (qf.mk b0_Raw_Scale_Worst b0_Raw_Scale_Best b0_Raw_Scale_Pass) b0_Raw_L)) (qa.mk b1_Id b1_From b1_To b1_Begin b1_End b1_In b1_Out (qd.mk b1_Conv_Num b1_Conv_Add b1_Conv_Den b1_Conv_Round)) (qf.mk b2_Worst b2_Best b2_Pass) t1 t7 t10 t11 t16 t46 t47 t82 t83 t98 t99 t109) t110).bind (Sum.elim (fun (e : Unit) => some (Go.Exit.ret, ⟨[(1, rL 1 eI t1), (5, rP 0), (6, rB Bool.false), (7, rB t7), (9, rP 1), (10, rL 8 qc t10), (11, rL 8 qc t11), (14, rP 2), (45, rO 3 11 w3.length), (46, rI t46), (47, rI t47), (81, rO 4 3 w4.length), (82, rI t82), (83, rI t83), (97, rO 5 1 w5.length), (98, rI t98), (99, rI t99)], [(0, B.blk 47 [dI b0_At, dI b0_Odd_0, dI b0_Odd_1, dI b0_Raw_Agreement_Id, dI b0_Raw_Agreement_From, dI b0_Raw_Agreement_To, dI b0_Raw_Agreement_Begin, dI b0_Raw_Agreement_End, dL 1 eS b0_Raw_Agreement_In, dL 2 qe b0_Raw_Agreement_Out, dI b0_Raw_Agreement_Conv_Num, dI b0_Raw_Agreement_Conv_Add, dI b0_Raw_Agreement_Conv_Den, dI b0_Raw_Agreement_Conv_Round, dI b0_Raw_Day, dI b0_Raw_Scale_Worst, dI b0_Raw_Scale_Best, dI b0_Raw_Scale_Pass, dL 8 qc b0_Raw_L]), (1, B.blk 30 [dI b1_Id, dI b1_From, dI b1_To, dI b1_Begin, dI b1_End, dL 1 eS b1_In, dL 2 qe b1_Out, dI b1_Conv_Num, dI b1_Conv_Add, dI b1_Conv_Den, dI b1_Conv_Round]), (2, B.blk 32 [dI b2_Worst, dI b2_Best, dI b2_Pass]), (3, bR 30 11 qn w3), (4, bR 32 3 zp w4), (5, bR 33 1 (eL 8 qc) w5)], 6, 151⟩)) (fun (e : Unit) => some (Go.Exit.exit 6, ⟨[(1, rL 1 eI t1), (5, rP 0), (6, R.any), (7, rB t7), (9, rP 1), (10, rL 8 qc t10), (11, rL 8 qc t11), (14, rP 2), (45, rO 3 11 w3.length), (46, rI t46), (47, rI t47), (81, rO 4 3 w4.length), (82, rI t82), (83, rI t83), (97, rO 5 1 w5.length), (98, rI t98), (99, rI t99)], [(0, B.blk 47 [dI b0_At, dI b0_Odd_0, dI b0_Odd_1, dI b0_Raw_Agreement_Id, dI b0_Raw_Agreement_From, dI b0_Raw_Agreement_To, dI b0_Raw_Agreement_Begin, dI b0_Raw_Agreement_End, dL 1 eS b0_Raw_Agreement_In, dL 2 qe b0_Raw_Agreement_Out, dI b0_Raw_Agreement_Conv_Num, dI b0_Raw_Agreement_Conv_Add, dI b0_Raw_Agreement_Conv_Den, dI b0_Raw_Agreement_Conv_Round, dI b0_Raw_Day, dI b0_Raw_Scale_Worst, dI b0_Raw_Scale_Best, dI b0_Raw_Scale_Pass, dL 8 qc b0_Raw_L]), (1, B.blk 30 [dI b1_Id, dI b1_From, dI b1_To, dI b1_Begin, dI b1_End, dL 1 eS b1_In, dL 2 qe b1_Out, dI b1_Conv_Num, dI b1_Conv_Add, dI b1_Conv_Den, dI b1_Conv_Round]), (2, B.blk 32 [dI b2_Worst, dI b2_Best, dI b2_Pass]), (3, bR 30 11 qn w3), (4, bR 32 3 zp w4), (5, bR 33 1 (eL 8 qc) w5)], 6, 151⟩))) := by
  intro w60_Id w60_From w60_To w60_Begin w60_End w60_In w60_Out w60_Conv_Num w60_Conv_Add w60_Conv_Den w60_Conv_Round w61_Id w61_From w61_To w61_Begin w61_End w61_In w61_Out w61_Conv_Num w61_Conv_Add w61_Conv_Den w61_Conv_Round w3 w4 w5 b0_At b0_Odd_0 b0_Odd_1 b0_Raw_Agreement_Id b0_Raw_Agreement_From b0_Raw_Agreement_To b0_Raw_Agreement_Begin b0_Raw_Agreement_End b0_Raw_Agreement_In b0_Raw_Agreement_Out b0_Raw_Agreement_Conv_Num b0_Raw_Agreement_Conv_Add b0_Raw_Agreement_Conv_Den b0_Raw_Agreement_Conv_Round b0_Raw_Day b0_Raw_Scale_Worst b0_Raw_Scale_Best b0_Raw_Scale_Pass b0_Raw_L b1_Id b1_From b1_To b1_Begin b1_End b1_In b1_Out b1_Conv_Num b1_Conv_Add b1_Conv_Den b1_Conv_Round b2_Worst b2_Best b2_Pass t1 t7 t10 t11 t16 t46 t47 t82 t83 t98 t99 t109 t110 w3_len w4_len w5_len h0 h1 h2; subst h0 h1 h2; have h := JJ w3 w4 w5 [(qa.mk w60_Id w60_From w60_To w60_Begin w60_End w60_In w60_Out (qd.mk w60_Conv_Num w60_Conv_Add w60_Conv_Den w60_Conv_Round)), (qa.mk w61_Id w61_From w61_To w61_Begin w61_End w61_In w61_Out (qd.mk w61_Conv_Num w61_Conv_Add w61_Conv_Den w61_Conv_Round))] ((qi.mk b0_At (Z6.mk b0_Odd_0 b0_Odd_1) (qm.mk (qa.mk b0_Raw_Agreement_Id b0_Raw_Agreement_From b0_Raw_Agreement_To b0_Raw_Agreement_Begin b0_Raw_Agreement_End b0_Raw_Agreement_In b0_Raw_Agreement_Out (qd.mk b0_Raw_Agreement_Conv_Num b0_Raw_Agreement_Conv_Add b0_Raw_Agreement_Conv_Den b0_Raw_Agreement_Conv_Round)) b0_Raw_Day (qf.mk b0_Raw_Scale_Worst b0_Raw_Scale_Best b0_Raw_Scale_Pass) b0_Raw_L))).At ((qi.mk b0_At (Z6.mk b0_Odd_0 b0_Odd_1) (qm.mk (qa.mk b0_Raw_Agreement_Id b0_Raw_Agreement_From b0_Raw_Agreement_To b0_Raw_Agreement_Begin b0_Raw_Agreement_End b0_Raw_Agreement_In b0_Raw_Agreement_Out (qd.mk b0_Raw_Agreement_Conv_Num b0_Raw_Agreement_Conv_Add b0_Raw_Agreement_Conv_Den b0_Raw_Agreement_Conv_Round)) b0_Raw_Day (qf.mk b0_Raw_Scale_Worst b0_Raw_Scale_Best b0_Raw_Scale_Pass) b0_Raw_L))).Odd.a0 ((qi.mk b0_At (Z6.mk b0_Odd_0 b0_Odd_1) (qm.mk (qa.mk b0_Raw_Agreement_Id b0_Raw_Agreement_From b0_Raw_Agreement_To b0_Raw_Agreement_Begin b0_Raw_Agreement_End b0_Raw_Agreement_In b0_Raw_Agreement_Out (qd.mk b0_Raw_Agreement_Conv_Num b0_Raw_Agreement_Conv_Add b0_Raw_Agreement_Conv_Den b0_Raw_Agreement_Conv_Round)) b0_Raw_Day (qf.mk b0_Raw_Scale_Worst b0_Raw_Scale_Best b0_Raw_Scale_Pass) b0_Raw_L))).Odd.a1 ((qi.mk b0_At (Z6.mk b0_Odd_0 b0_Odd_1) (qm.mk (qa.mk b0_Raw_Agreement_Id b0_Raw_Agreement_From b0_Raw_Agreement_To b0_Raw_Agreement_Begin b0_Raw_Agreement_End b0_Raw_Agreement_In b0_Raw_Agreement_Out (qd.mk b0_Raw_Agreement_Conv_Num b0_Raw_Agreement_Conv_Add b0_Raw_Agreement_Conv_Den b0_Raw_Agreement_Conv_Round)) b0_Raw_Day (qf.mk b0_Raw_Scale_Worst b0_Raw_Scale_Best b0_Raw_Scale_Pass) b0_Raw_L))).Raw.Agreement.Id ((qi.mk b0_At (Z6.mk b0_Odd_0 b0_Odd_1) (qm.mk (qa.mk b0_Raw_Agreement_Id b0_Raw_Agreement_From b0_Raw_Agreement_To b0_Raw_Agreement_Begin b0_Raw_Agreement_End b0_Raw_Agreement_In b0_Raw_Agreement_Out (qd.mk b0_Raw_Agreement_Conv_Num b0_Raw_Agreement_Conv_Add b0_Raw_Agreement_Conv_Den b0_Raw_Agreement_Conv_Round)) b0_Raw_Day (qf.mk b0_Raw_Scale_Worst b0_Raw_Scale_Best b0_Raw_Scale_Pass) b0_Raw_L))).Raw.Agreement.From ((qi.mk b0_At (Z6.mk b0_Odd_0 b0_Odd_1) (qm.mk (qa.mk b0_Raw_Agreement_Id b0_Raw_Agreement_From b0_Raw_Agreement_To b0_Raw_Agreement_Begin b0_Raw_Agreement_End b0_Raw_Agreement_In b0_Raw_Agreement_Out (qd.mk b0_Raw_Agreement_Conv_Num b0_Raw_Agreement_Conv_Add b0_Raw_Agreement_Conv_Den b0_Raw_Agreement_Conv_Round)) b0_Raw_Day (qf.mk b0_Raw_Scale_Worst b0_Raw_Scale_Best b0_Raw_Scale_Pass) b0_Raw_L))).Raw.Agreement.To ((qi.mk b0_At (Z6.mk b0_Odd_0 b0_Odd_1) (qm.mk (qa.mk b0_Raw_Agreement_Id b0_Raw_Agreement_From b0_Raw_Agreement_To b0_Raw_Agreement_Begin b0_Raw_Agreement_End b0_Raw_Agreement_In b0_Raw_Agreement_Out (qd.mk b0_Raw_Agreement_Conv_Num b0_Raw_Agreement_Conv_Add b0_Raw_Agreement_Conv_Den b0_Raw_Agreement_Conv_Round)) b0_Raw_Day (qf.mk b0_Raw_Scale_Worst b0_Raw_Scale_Best b0_Raw_Scale_Pass) b0_Raw_L))).Raw.Agreement.Begin ((qi.mk b0_At (Z6.mk b0_Odd_0 b0_Odd_1) (qm.mk (qa.mk b0_Raw_Agreement_Id b0_Raw_Agreement_From b0_Raw_Agreement_To b0_Raw_Agreement_Begin b0_Raw_Agreement_End b0_Raw_Agreement_In b0_Raw_Agreement_Out (qd.mk b0_Raw_Agreement_Conv_Num b0_Raw_Agreement_Conv_Add b0_Raw_Agreement_Conv_Den b0_Raw_Agreement_Conv_Round)) b0_Raw_Day (qf.mk b0_Raw_Scale_Worst b0_Raw_Scale_Best b0_Raw_Scale_Pass) b0_Raw_L))).Raw.Agreement.End ((qi.mk b0_At (Z6.mk b0_Odd_0 b0_Odd_1) (qm.mk (qa.mk b0_Raw_Agreement_Id b0_Raw_Agreement_From b0_Raw_Agreement_To b0_Raw_Agreement_Begin b0_Raw_Agreement_End b0_Raw_Agreement_In b0_Raw_Agreement_Out (qd.mk b0_Raw_Agreement_Conv_Num b0_Raw_Agreement_Conv_Add b0_Raw_Agreement_Conv_Den b0_Raw_Agreement_Conv_Round)) b0_Raw_Day (qf.mk b0_Raw_Scale_Worst b0_Raw_Scale_Best b0_Raw_Scale_Pass) b0_Raw_L))).Raw.Agreement.In ((qi.mk b0_At (Z6.mk b0_Odd_0 b0_Odd_1) (qm.mk (qa.mk b0_Raw_Agreement_Id b0_Raw_Agreement_From b0_Raw_Agreement_To b0_Raw_Agreement_Begin b0_Raw_Agreement_End b0_Raw_Agreement_In b0_Raw_Agreement_Out (qd.mk b0_Raw_Agreement_Conv_Num b0_Raw_Agreement_Conv_Add b0_Raw_Agreement_Conv_Den b0_Raw_Agreement_Conv_Round)) b0_Raw_Day (qf.mk b0_Raw_Scale_Worst b0_Raw_Scale_Best b0_Raw_Scale_Pass) b0_Raw_L))).Raw.Agreement.Out ((qi.mk b0_At (Z6.mk b0_Odd_0 b0_Odd_1) (qm.mk (qa.mk b0_Raw_Agreement_Id b0_Raw_Agreement_From b0_Raw_Agreement_To b0_Raw_Agreement_Begin b0_Raw_Agreement_End b0_Raw_Agreement_In b0_Raw_Agreement_Out (qd.mk b0_Raw_Agreement_Conv_Num b0_Raw_Agreement_Conv_Add b0_Raw_Agreement_Conv_Den b0_Raw_Agreement_Conv_Round)) b0_Raw_Day (qf.mk b0_Raw_Scale_Worst b0_Raw_Scale_Best b0_Raw_Scale_Pass) b0_Raw_L))).Raw.Agreement.Conv.Num ((qi.mk b0_At (Z6.mk b0_Odd_0 b0_Odd_1) (qm.mk (qa.mk b0_Raw_Agreement_Id b0_Raw_Agreement_From b0_Raw_Agreement_To b0_Raw_Agreement_Begin b0_Raw_Agreement_End b0_Raw_Agreement_In b0_Raw_Agreement_Out (qd.mk b0_Raw_Agreement_Conv_Num b0_Raw_Agreement_Conv_Add b0_Raw_Agreement_Conv_Den b0_Raw_Agreement_Conv_Round)) b0_Raw_Day (qf.mk b0_Raw_Scale_Worst b0_Raw_Scale_Best b0_Raw_Scale_Pass) b0_Raw_L))).Raw.Agreement.Conv.Add ((qi.mk b0_At (Z6.mk b0_Odd_0 b0_Odd_1) (qm.mk (qa.mk b0_Raw_Agreement_Id b0_Raw_Agreement_From b0_Raw_Agreement_To b0_Raw_Agreement_Begin b0_Raw_Agreement_End b0_Raw_Agreement_In b0_Raw_Agreement_Out (qd.mk b0_Raw_Agreement_Conv_Num b0_Raw_Agreement_Conv_Add b0_Raw_Agreement_Conv_Den b0_Raw_Agreement_Conv_Round)) b0_Raw_Day (qf.mk b0_Raw_Scale_Worst b0_Raw_Scale_Best b0_Raw_Scale_Pass) b0_Raw_L))).Raw.Agreement.Conv.Den ((qi.mk b0_At (Z6.mk b0_Odd_0 b0_Odd_1) (qm.mk (qa.mk b0_Raw_Agreement_Id b0_Raw_Agreement_From b0_Raw_Agreement_To b0_Raw_Agreement_Begin b0_Raw_Agreement_End b0_Raw_Agreement_In b0_Raw_Agreement_Out (qd.mk b0_Raw_Agreement_Conv_Num b0_Raw_Agreement_Conv_Add b0_Raw_Agreement_Conv_Den b0_Raw_Agreement_Conv_Round)) b0_Raw_Day (qf.mk b0_Raw_Scale_Worst b0_Raw_Scale_Best b0_Raw_Scale_Pass) b0_Raw_L))).Raw.Agreement.Conv.Round ((qi.mk b0_At (Z6.mk b0_Odd_0 b0_Odd_1) (qm.mk (qa.mk b0_Raw_Agreement_Id b0_Raw_Agreement_From b0_Raw_Agreement_To b0_Raw_Agreement_Begin b0_Raw_Agreement_End b0_Raw_Agreement_In b0_Raw_Agreement_Out (qd.mk b0_Raw_Agreement_Conv_Num b0_Raw_Agreement_Conv_Add b0_Raw_Agreement_Conv_Den b0_Raw_Agreement_Conv_Round)) b0_Raw_Day (qf.mk b0_Raw_Scale_Worst b0_Raw_Scale_Best b0_Raw_Scale_Pass) b0_Raw_L))).Raw.Day ((qi.mk b0_At (Z6.mk b0_Odd_0 b0_Odd_1) (qm.mk (qa.mk b0_Raw_Agreement_Id b0_Raw_Agreement_From b0_Raw_Agreement_To b0_Raw_Agreement_Begin b0_Raw_Agreement_End b0_Raw_Agreement_In b0_Raw_Agreement_Out (qd.mk b0_Raw_Agreement_Conv_Num b0_Raw_Agreement_Conv_Add b0_Raw_Agreement_Conv_Den b0_Raw_Agreement_Conv_Round)) b0_Raw_Day (qf.mk b0_Raw_Scale_Worst b0_Raw_Scale_Best b0_Raw_Scale_Pass) b0_Raw_L))).Raw.Scale.Worst ((qi.mk b0_At (Z6.mk b0_Odd_0 b0_Odd_1) (qm.mk (qa.mk b0_Raw_Agreement_Id b0_Raw_Agreement_From b0_Raw_Agreement_To b0_Raw_Agreement_Begin b0_Raw_Agreement_End b0_Raw_Agreement_In b0_Raw_Agreement_Out (qd.mk b0_Raw_Agreement_Conv_Num b0_Raw_Agreement_Conv_Add b0_Raw_Agreement_Conv_Den b0_Raw_Agreement_Conv_Round)) b0_Raw_Day (qf.mk b0_Raw_Scale_Worst b0_Raw_Scale_Best b0_Raw_Scale_Pass) b0_Raw_L))).Raw.Scale.Best ((qi.mk b0_At (Z6.mk b0_Odd_0 b0_Odd_1) (qm.mk (qa.mk b0_Raw_Agreement_Id b0_Raw_Agreement_From b0_Raw_Agreement_To b0_Raw_Agreement_Begin b0_Raw_Agreement_End b0_Raw_Agreement_In b0_Raw_Agreement_Out (qd.mk b0_Raw_Agreement_Conv_Num b0_Raw_Agreement_Conv_Add b0_Raw_Agreement_Conv_Den b0_Raw_Agreement_Conv_Round)) b0_Raw_Day (qf.mk b0_Raw_Scale_Worst b0_Raw_Scale_Best b0_Raw_Scale_Pass) b0_Raw_L))).Raw.Scale.Pass ((qi.mk b0_At (Z6.mk b0_Odd_0 b0_Odd_1) (qm.mk (qa.mk b0_Raw_Agreement_Id b0_Raw_Agreement_From b0_Raw_Agreement_To b0_Raw_Agreement_Begin b0_Raw_Agreement_End b0_Raw_Agreement_In b0_Raw_Agreement_Out (qd.mk b0_Raw_Agreement_Conv_Num b0_Raw_Agreement_Conv_Add b0_Raw_Agreement_Conv_Den b0_Raw_Agreement_Conv_Round)) b0_Raw_Day (qf.mk b0_Raw_Scale_Worst b0_Raw_Scale_Best b0_Raw_Scale_Pass) b0_Raw_L))).Raw.L ((qa.mk b1_Id b1_From b1_To b1_Begin b1_End b1_In b1_Out (qd.mk b1_Conv_Num b1_Conv_Add b1_Conv_Den b1_Conv_Round))).Id ((qa.mk b1_Id b1_From b1_To b1_Begin b1_End b1_In b1_Out (qd.mk b1_Conv_Num b1_Conv_Add b1_Conv_Den b1_Conv_Round))).From ((qa.mk b1_Id b1_From b1_To b1_Begin b1_End b1_In b1_Out (qd.mk b1_Conv_Num b1_Conv_Add b1_Conv_Den b1_Conv_Round))).To ((qa.mk b1_Id b1_From b1_To b1_Begin b1_End b1_In b1_Out (qd.mk b1_Conv_Num b1_Conv_Add b1_Conv_Den b1_Conv_Round))).Begin ((qa.mk b1_Id b1_From b1_To b1_Begin b1_End b1_In b1_Out (qd.mk b1_Conv_Num b1_Conv_Add b1_Conv_Den b1_Conv_Round))).End ((qa.mk b1_Id b1_From b1_To b1_Begin b1_End b1_In b1_Out (qd.mk b1_Conv_Num b1_Conv_Add b1_Conv_Den b1_Conv_Round))).In ((qa.mk b1_Id b1_From b1_To b1_Begin b1_End b1_In b1_Out (qd.mk b1_Conv_Num b1_Conv_Add b1_Conv_Den b1_Conv_Round))).Out ((qa.mk b1_Id b1_From b1_To b1_Begin b1_End b1_In b1_Out (qd.mk b1_Conv_Num b1_Conv_Add b1_Conv_Den b1_Conv_Round))).Conv.Num ((qa.mk b1_Id b1_From b1_To b1_Begin b1_End b1_In b1_Out (qd.mk b1_Conv_Num b1_Conv_Add b1_Conv_Den b1_Conv_Round))).Conv.Add ((qa.mk b1_Id b1_From b1_To b1_Begin b1_End b1_In b1_Out (qd.mk b1_Conv_Num b1_Conv_Add b1_Conv_Den b1_Conv_Round))).Conv.Den ((qa.mk b1_Id b1_From b1_To b1_Begin b1_End b1_In b1_Out (qd.mk b1_Conv_Num b1_Conv_Add b1_Conv_Den b1_Conv_Round))).Conv.Round ((qf.mk b2_Worst b2_Best b2_Pass)).Worst ((qf.mk b2_Worst b2_Best b2_Pass)).Best ((qf.mk b2_Worst b2_Best b2_Pass)).Pass t1 t7 t10 t11 t16 t46 t47 t82 t83 t98 t99 t109 t110 _ _ _ _ rfl rfl rfl rfl
  first
    | exact h
    | (simp only [rL, dL, bR, bZ, Nat.reduceAdd] at h; exact h)
noncomputable def qG (w3 : List qa) (w4 : List qf) (w5 : List (List qb)) (b0 : qi) (b1 : qa) (b2 : qf) (t1 : List Int) (t7 : Bool) (t10 : List qb) (t11 : List qb) (t46 : Int) (t47 : Int) (t82 : Int) (t83 : Int) (t98 : Int) : Int → Option (Int ⊕ (Unit ⊕ Unit)) | t99 => if t99 < t98 then if 0 ≤ t99 ∧ t99 < ((w5.length : Nat) : Int) then Option.bind w5[Int.toNat t99]? fun (a : List qb) => Option.bind (J0 b1 b0.Odd) fun (a2 : qa) => Option.bind (qA (qN w3 w4 w5 [b1, a2] b0 b1 b2 t1 t7 t10 t11 a t46 t47 t82 t83 t98 t99 2) 0) fun (a3 : Sum Unit Unit) => Sum.elim (fun (a4 : Unit) => some (Sum.inr (Sum.inl ()))) (fun (a5 : Unit) => some (Sum.inl (w64 (t99 + 1)))) a3 else none else some (Sum.inr (Sum.inr ()))
theorem JN : ∀ (w3 : List qa) (w4 : List qf) (w5 : List (List qb)) (b0_At b0_Odd_0 b0_Odd_1 b0_Raw_Agreement_Id b0_Raw_Agreement_From b0_Raw_Agreement_To b0_Raw_Agreement_Begin b0_Raw_Agreement_End : Int) (b0_Raw_Agreement_In : List ByteArray) (b0_Raw_Agreement_Out : List qh) (b0_Raw_Agreement_Conv_Num b0_Raw_Agreement_Conv_Add b0_Raw_Agreement_Conv_Den b0_Raw_Agreement_Conv_Round b0_Raw_Day b0_Raw_Scale_Worst b0_Raw_Scale_Best b0_Raw_Scale_Pass : Int) (b0_Raw_L : List qb) (b1_Id b1_From b1_To b1_Begin b1_End : Int) (b1_In : List ByteArray) (b1_Out : List qh) (b1_Conv_Num b1_Conv_Add b1_Conv_Den b1_Conv_Round b2_Worst b2_Best b2_Pass : Int) (t1 : List Int) (t7 : Bool) (t10 t11 : List qb) (t46 t47 t82 t83 t98 t99 : Int) (w3_len w4_len w5_len : Nat), w3_len = w3.length → w4_len = w4.length → w5_len = w5.length → XL2 evo 4 0 15 ⟨[(1, rL 1 eI t1), (5, rP 0), (7, rB t7), (9, rP 1), (10, rL 8 qc t10), (11, rL 8 qc t11), (14, rP 2), (45, rO 3 11 w3_len), (46, rI t46), (47, rI t47), (81, rO 4 3 w4_len), (82, rI t82), (83, rI t83), (97, rO 5 1 w5_len), (98, rI t98), (99, rI t99)], [(0, B.blk 47 [dI b0_At, dI b0_Odd_0, dI b0_Odd_1, dI b0_Raw_Agreement_Id, dI b0_Raw_Agreement_From, dI b0_Raw_Agreement_To, dI b0_Raw_Agreement_Begin, dI b0_Raw_Agreement_End, dL 1 eS b0_Raw_Agreement_In, dL 2 qe b0_Raw_Agreement_Out, dI b0_Raw_Agreement_Conv_Num, dI b0_Raw_Agreement_Conv_Add, dI b0_Raw_Agreement_Conv_Den, dI b0_Raw_Agreement_Conv_Round, dI b0_Raw_Day, dI b0_Raw_Scale_Worst, dI b0_Raw_Scale_Best, dI b0_Raw_Scale_Pass, dL 8 qc b0_Raw_L]), (1, B.blk 30 [dI b1_Id, dI b1_From, dI b1_To, dI b1_Begin, dI b1_End, dL 1 eS b1_In, dL 2 qe b1_Out, dI b1_Conv_Num, dI b1_Conv_Add, dI b1_Conv_Den, dI b1_Conv_Round]), (2, B.blk 32 [dI b2_Worst, dI b2_Best, dI b2_Pass]), (3, bR 30 11 qn w3), (4, bR 32 3 zp w4), (5, bR 33 1 (eL 8 qc) w5)], 6, 151⟩ = (qA (qG w3 w4 w5 (qi.mk b0_At (Z6.mk b0_Odd_0 b0_Odd_1) (qm.mk (qa.mk b0_Raw_Agreement_Id b0_Raw_Agreement_From b0_Raw_Agreement_To b0_Raw_Agreement_Begin b0_Raw_Agreement_End b0_Raw_Agreement_In b0_Raw_Agreement_Out (qd.mk b0_Raw_Agreement_Conv_Num b0_Raw_Agreement_Conv_Add b0_Raw_Agreement_Conv_Den b0_Raw_Agreement_Conv_Round)) b0_Raw_Day (qf.mk b0_Raw_Scale_Worst b0_Raw_Scale_Best b0_Raw_Scale_Pass) b0_Raw_L)) (qa.mk b1_Id b1_From b1_To b1_Begin b1_End b1_In b1_Out (qd.mk b1_Conv_Num b1_Conv_Add b1_Conv_Den b1_Conv_Round)) (qf.mk b2_Worst b2_Best b2_Pass) t1 t7 t10 t11 t46 t47 t82 t83 t98) t99).bind (Sum.elim (fun (e : Unit) => some (Go.Exit.ret, ⟨[(1, rL 1 eI t1), (5, rP 0), (6, rB Bool.false), (7, rB t7), (9, rP 1), (10, rL 8 qc t10), (11, rL 8 qc t11), (45, rO 2 11 w3.length), (46, rI t46), (47, rI t47), (81, rO 3 3 w4.length), (82, rI t82), (83, rI t83)], [(0, B.blk 47 [dI b0_At, dI b0_Odd_0, dI b0_Odd_1, dI b0_Raw_Agreement_Id, dI b0_Raw_Agreement_From, dI b0_Raw_Agreement_To, dI b0_Raw_Agreement_Begin, dI b0_Raw_Agreement_End, dL 1 eS b0_Raw_Agreement_In, dL 2 qe b0_Raw_Agreement_Out, dI b0_Raw_Agreement_Conv_Num, dI b0_Raw_Agreement_Conv_Add, dI b0_Raw_Agreement_Conv_Den, dI b0_Raw_Agreement_Conv_Round, dI b0_Raw_Day, dI b0_Raw_Scale_Worst, dI b0_Raw_Scale_Best, dI b0_Raw_Scale_Pass, dL 8 qc b0_Raw_L]), (1, B.blk 30 [dI b1_Id, dI b1_From, dI b1_To, dI b1_Begin, dI b1_End, dL 1 eS b1_In, dL 2 qe b1_Out, dI b1_Conv_Num, dI b1_Conv_Add, dI b1_Conv_Den, dI b1_Conv_Round]), (2, bR 30 11 qn w3), (3, bR 32 3 zp w4)], 4, 151⟩)) (fun (e : Unit) => some (Go.Exit.exit 4, ⟨[(1, rL 1 eI t1), (5, rP 0), (6, R.any), (7, rB t7), (9, rP 1), (10, rL 8 qc t10), (11, rL 8 qc t11), (45, rO 2 11 w3.length), (46, rI t46), (47, rI t47), (81, rO 3 3 w4.length), (82, rI t82), (83, rI t83)], [(0, B.blk 47 [dI b0_At, dI b0_Odd_0, dI b0_Odd_1, dI b0_Raw_Agreement_Id, dI b0_Raw_Agreement_From, dI b0_Raw_Agreement_To, dI b0_Raw_Agreement_Begin, dI b0_Raw_Agreement_End, dL 1 eS b0_Raw_Agreement_In, dL 2 qe b0_Raw_Agreement_Out, dI b0_Raw_Agreement_Conv_Num, dI b0_Raw_Agreement_Conv_Add, dI b0_Raw_Agreement_Conv_Den, dI b0_Raw_Agreement_Conv_Round, dI b0_Raw_Day, dI b0_Raw_Scale_Worst, dI b0_Raw_Scale_Best, dI b0_Raw_Scale_Pass, dL 8 qc b0_Raw_L]), (1, B.blk 30 [dI b1_Id, dI b1_From, dI b1_To, dI b1_Begin, dI b1_End, dL 1 eS b1_In, dL 2 qe b1_Out, dI b1_Conv_Num, dI b1_Conv_Add, dI b1_Conv_Den, dI b1_Conv_Round]), (2, bR 30 11 qn w3), (3, bR 32 3 zp w4)], 4, 151⟩))) :=
  by
  intro w3 w4 w5 b0_At b0_Odd_0 b0_Odd_1 b0_Raw_Agreement_Id b0_Raw_Agreement_From b0_Raw_Agreement_To b0_Raw_Agreement_Begin b0_Raw_Agreement_End b0_Raw_Agreement_In b0_Raw_Agreement_Out b0_Raw_Agreement_Conv_Num b0_Raw_Agreement_Conv_Add b0_Raw_Agreement_Conv_Den b0_Raw_Agreement_Conv_Round b0_Raw_Day b0_Raw_Scale_Worst b0_Raw_Scale_Best b0_Raw_Scale_Pass b0_Raw_L b1_Id b1_From b1_To b1_Begin b1_End b1_In b1_Out b1_Conv_Num b1_Conv_Add b1_Conv_Den b1_Conv_Round b2_Worst b2_Best b2_Pass t1 t7 t10 t11 t46 t47 t82 t83 t98 t99 w3_len w4_len w5_len h0 h1 h2
  subst h0 h1 h2
  revert t99; exact q4j qo0 qmU (fun e => by rcases e with _ | _ <;> exact ⟨_, rfl, fun h => by cases h⟩) fun x => by
    have := cx4; have := @qdl.eq_1; have := @q2i; have := @Jm; have := @qG.eq_1; exact gA
theorem QM : ∀ (w50 w51 w52 w53 : List qb) (w3 : List qa) (w4 : List qf) (b0_At b0_Odd_0 b0_Odd_1 b0_Raw_Agreement_Id b0_Raw_Agreement_From b0_Raw_Agreement_To b0_Raw_Agreement_Begin b0_Raw_Agreement_End : Int) (b0_Raw_Agreement_In : List ByteArray) (b0_Raw_Agreement_Out : List qh) (b0_Raw_Agreement_Conv_Num b0_Raw_Agreement_Conv_Add b0_Raw_Agreement_Conv_Den b0_Raw_Agreement_Conv_Round b0_Raw_Day b0_Raw_Scale_Worst b0_Raw_Scale_Best b0_Raw_Scale_Pass : Int) (b0_Raw_L : List qb) (b1_Id b1_From b1_To b1_Begin b1_End : Int) (b1_In : List ByteArray) (b1_Out : List qh) (b1_Conv_Num b1_Conv_Add b1_Conv_Den b1_Conv_Round b2_Worst b2_Best b2_Pass : Int) (t1 : List Int) (t7 : Bool) (t10 t11 : List qb) (t46 t47 t82 t83 t98 t99 : Int) (w3_len w4_len w50_len w51_len w52_len w53_len : Nat), w3_len = w3.length → w4_len = w4.length → w50_len = w50.length → w51_len = w51.length → w52_len = w52.length → w53_len = w53.length → XL2 evo 4 0 15 ⟨[(1, rL 1 eI t1), (5, rP 0), (7, rB t7), (9, rP 1), (10, rL 8 qc t10), (11, rL 8 qc t11), (14, rP 2), (45, rO 3 11 w3_len), (46, rI t46), (47, rI t47), (81, rO 4 3 w4_len), (82, rI t82), (83, rI t83), (97, rO 5 1 4), (98, rI t98), (99, rI t99)], [(0, B.blk 47 [dI b0_At, dI b0_Odd_0, dI b0_Odd_1, dI b0_Raw_Agreement_Id, dI b0_Raw_Agreement_From, dI b0_Raw_Agreement_To, dI b0_Raw_Agreement_Begin, dI b0_Raw_Agreement_End, dL 1 eS b0_Raw_Agreement_In, dL 2 qe b0_Raw_Agreement_Out, dI b0_Raw_Agreement_Conv_Num, dI b0_Raw_Agreement_Conv_Add, dI b0_Raw_Agreement_Conv_Den, dI b0_Raw_Agreement_Conv_Round, dI b0_Raw_Day, dI b0_Raw_Scale_Worst, dI b0_Raw_Scale_Best, dI b0_Raw_Scale_Pass, dL 8 qc b0_Raw_L]), (1, B.blk 30 [dI b1_Id, dI b1_From, dI b1_To, dI b1_Begin, dI b1_End, dL 1 eS b1_In, dL 2 qe b1_Out, dI b1_Conv_Num, dI b1_Conv_Add, dI b1_Conv_Den, dI b1_Conv_Round]), (2, B.blk 32 [dI b2_Worst, dI b2_Best, dI b2_Pass]), (3, bR 30 11 qn w3), (4, bR 32 3 zp w4), (5, B.row 33 1 [C.d (D.sl 8 w50_len (w50.flatMap qc)), C.d (D.sl 8 w51_len (w51.flatMap qc)), C.d (D.sl 8 w52_len (w52.flatMap qc)), C.d (D.sl 8 w53_len (w53.flatMap qc))])], 6, 151⟩ = (qA (qG w3 w4 [w50, w51, w52, w53] (qi.mk b0_At (Z6.mk b0_Odd_0 b0_Odd_1) (qm.mk (qa.mk b0_Raw_Agreement_Id b0_Raw_Agreement_From b0_Raw_Agreement_To b0_Raw_Agreement_Begin b0_Raw_Agreement_End b0_Raw_Agreement_In b0_Raw_Agreement_Out (qd.mk b0_Raw_Agreement_Conv_Num b0_Raw_Agreement_Conv_Add b0_Raw_Agreement_Conv_Den b0_Raw_Agreement_Conv_Round)) b0_Raw_Day (qf.mk b0_Raw_Scale_Worst b0_Raw_Scale_Best b0_Raw_Scale_Pass) b0_Raw_L)) (qa.mk b1_Id b1_From b1_To b1_Begin b1_End b1_In b1_Out (qd.mk b1_Conv_Num b1_Conv_Add b1_Conv_Den b1_Conv_Round)) (qf.mk b2_Worst b2_Best b2_Pass) t1 t7 t10 t11 t46 t47 t82 t83 t98) t99).bind (Sum.elim (fun (e : Unit) => some (Go.Exit.ret, ⟨[(1, rL 1 eI t1), (5, rP 0), (6, rB Bool.false), (7, rB t7), (9, rP 1), (10, rL 8 qc t10), (11, rL 8 qc t11), (45, rO 2 11 w3.length), (46, rI t46), (47, rI t47), (81, rO 3 3 w4.length), (82, rI t82), (83, rI t83)], [(0, B.blk 47 [dI b0_At, dI b0_Odd_0, dI b0_Odd_1, dI b0_Raw_Agreement_Id, dI b0_Raw_Agreement_From, dI b0_Raw_Agreement_To, dI b0_Raw_Agreement_Begin, dI b0_Raw_Agreement_End, dL 1 eS b0_Raw_Agreement_In, dL 2 qe b0_Raw_Agreement_Out, dI b0_Raw_Agreement_Conv_Num, dI b0_Raw_Agreement_Conv_Add, dI b0_Raw_Agreement_Conv_Den, dI b0_Raw_Agreement_Conv_Round, dI b0_Raw_Day, dI b0_Raw_Scale_Worst, dI b0_Raw_Scale_Best, dI b0_Raw_Scale_Pass, dL 8 qc b0_Raw_L]), (1, B.blk 30 [dI b1_Id, dI b1_From, dI b1_To, dI b1_Begin, dI b1_End, dL 1 eS b1_In, dL 2 qe b1_Out, dI b1_Conv_Num, dI b1_Conv_Add, dI b1_Conv_Den, dI b1_Conv_Round]), (2, bR 30 11 qn w3), (3, bR 32 3 zp w4)], 4, 151⟩)) (fun (e : Unit) => some (Go.Exit.exit 4, ⟨[(1, rL 1 eI t1), (5, rP 0), (6, R.any), (7, rB t7), (9, rP 1), (10, rL 8 qc t10), (11, rL 8 qc t11), (45, rO 2 11 w3.length), (46, rI t46), (47, rI t47), (81, rO 3 3 w4.length), (82, rI t82), (83, rI t83)], [(0, B.blk 47 [dI b0_At, dI b0_Odd_0, dI b0_Odd_1, dI b0_Raw_Agreement_Id, dI b0_Raw_Agreement_From, dI b0_Raw_Agreement_To, dI b0_Raw_Agreement_Begin, dI b0_Raw_Agreement_End, dL 1 eS b0_Raw_Agreement_In, dL 2 qe b0_Raw_Agreement_Out, dI b0_Raw_Agreement_Conv_Num, dI b0_Raw_Agreement_Conv_Add, dI b0_Raw_Agreement_Conv_Den, dI b0_Raw_Agreement_Conv_Round, dI b0_Raw_Day, dI b0_Raw_Scale_Worst, dI b0_Raw_Scale_Best, dI b0_Raw_Scale_Pass, dL 8 qc b0_Raw_L]), (1, B.blk 30 [dI b1_Id, dI b1_From, dI b1_To, dI b1_Begin, dI b1_End, dL 1 eS b1_In, dL 2 qe b1_Out, dI b1_Conv_Num, dI b1_Conv_Add, dI b1_Conv_Den, dI b1_Conv_Round]), (2, bR 30 11 qn w3), (3, bR 32 3 zp w4)], 4, 151⟩))) := by
  intro w50 w51 w52 w53 w3 w4 b0_At b0_Odd_0 b0_Odd_1 b0_Raw_Agreement_Id b0_Raw_Agreement_From b0_Raw_Agreement_To b0_Raw_Agreement_Begin b0_Raw_Agreement_End b0_Raw_Agreement_In b0_Raw_Agreement_Out b0_Raw_Agreement_Conv_Num b0_Raw_Agreement_Conv_Add b0_Raw_Agreement_Conv_Den b0_Raw_Agreement_Conv_Round b0_Raw_Day b0_Raw_Scale_Worst b0_Raw_Scale_Best b0_Raw_Scale_Pass b0_Raw_L b1_Id b1_From b1_To b1_Begin b1_End b1_In b1_Out b1_Conv_Num b1_Conv_Add b1_Conv_Den b1_Conv_Round b2_Worst b2_Best b2_Pass t1 t7 t10 t11 t46 t47 t82 t83 t98 t99 w3_len w4_len w50_len w51_len w52_len w53_len h0 h1 h2 h3 h4 h5; subst h0 h1 h2 h3 h4 h5; have h := JN w3 w4 [w50, w51, w52, w53] ((qi.mk b0_At (Z6.mk b0_Odd_0 b0_Odd_1) (qm.mk (qa.mk b0_Raw_Agreement_Id b0_Raw_Agreement_From b0_Raw_Agreement_To b0_Raw_Agreement_Begin b0_Raw_Agreement_End b0_Raw_Agreement_In b0_Raw_Agreement_Out (qd.mk b0_Raw_Agreement_Conv_Num b0_Raw_Agreement_Conv_Add b0_Raw_Agreement_Conv_Den b0_Raw_Agreement_Conv_Round)) b0_Raw_Day (qf.mk b0_Raw_Scale_Worst b0_Raw_Scale_Best b0_Raw_Scale_Pass) b0_Raw_L))).At ((qi.mk b0_At (Z6.mk b0_Odd_0 b0_Odd_1) (qm.mk (qa.mk b0_Raw_Agreement_Id b0_Raw_Agreement_From b0_Raw_Agreement_To b0_Raw_Agreement_Begin b0_Raw_Agreement_End b0_Raw_Agreement_In b0_Raw_Agreement_Out (qd.mk b0_Raw_Agreement_Conv_Num b0_Raw_Agreement_Conv_Add b0_Raw_Agreement_Conv_Den b0_Raw_Agreement_Conv_Round)) b0_Raw_Day (qf.mk b0_Raw_Scale_Worst b0_Raw_Scale_Best b0_Raw_Scale_Pass) b0_Raw_L))).Odd.a0 ((qi.mk b0_At (Z6.mk b0_Odd_0 b0_Odd_1) (qm.mk (qa.mk b0_Raw_Agreement_Id b0_Raw_Agreement_From b0_Raw_Agreement_To b0_Raw_Agreement_Begin b0_Raw_Agreement_End b0_Raw_Agreement_In b0_Raw_Agreement_Out (qd.mk b0_Raw_Agreement_Conv_Num b0_Raw_Agreement_Conv_Add b0_Raw_Agreement_Conv_Den b0_Raw_Agreement_Conv_Round)) b0_Raw_Day (qf.mk b0_Raw_Scale_Worst b0_Raw_Scale_Best b0_Raw_Scale_Pass) b0_Raw_L))).Odd.a1 ((qi.mk b0_At (Z6.mk b0_Odd_0 b0_Odd_1) (qm.mk (qa.mk b0_Raw_Agreement_Id b0_Raw_Agreement_From b0_Raw_Agreement_To b0_Raw_Agreement_Begin b0_Raw_Agreement_End b0_Raw_Agreement_In b0_Raw_Agreement_Out (qd.mk b0_Raw_Agreement_Conv_Num b0_Raw_Agreement_Conv_Add b0_Raw_Agreement_Conv_Den b0_Raw_Agreement_Conv_Round)) b0_Raw_Day (qf.mk b0_Raw_Scale_Worst b0_Raw_Scale_Best b0_Raw_Scale_Pass) b0_Raw_L))).Raw.Agreement.Id ((qi.mk b0_At (Z6.mk b0_Odd_0 b0_Odd_1) (qm.mk (qa.mk b0_Raw_Agreement_Id b0_Raw_Agreement_From b0_Raw_Agreement_To b0_Raw_Agreement_Begin b0_Raw_Agreement_End b0_Raw_Agreement_In b0_Raw_Agreement_Out (qd.mk b0_Raw_Agreement_Conv_Num b0_Raw_Agreement_Conv_Add b0_Raw_Agreement_Conv_Den b0_Raw_Agreement_Conv_Round)) b0_Raw_Day (qf.mk b0_Raw_Scale_Worst b0_Raw_Scale_Best b0_Raw_Scale_Pass) b0_Raw_L))).Raw.Agreement.From ((qi.mk b0_At (Z6.mk b0_Odd_0 b0_Odd_1) (qm.mk (qa.mk b0_Raw_Agreement_Id b0_Raw_Agreement_From b0_Raw_Agreement_To b0_Raw_Agreement_Begin b0_Raw_Agreement_End b0_Raw_Agreement_In b0_Raw_Agreement_Out (qd.mk b0_Raw_Agreement_Conv_Num b0_Raw_Agreement_Conv_Add b0_Raw_Agreement_Conv_Den b0_Raw_Agreement_Conv_Round)) b0_Raw_Day (qf.mk b0_Raw_Scale_Worst b0_Raw_Scale_Best b0_Raw_Scale_Pass) b0_Raw_L))).Raw.Agreement.To ((qi.mk b0_At (Z6.mk b0_Odd_0 b0_Odd_1) (qm.mk (qa.mk b0_Raw_Agreement_Id b0_Raw_Agreement_From b0_Raw_Agreement_To b0_Raw_Agreement_Begin b0_Raw_Agreement_End b0_Raw_Agreement_In b0_Raw_Agreement_Out (qd.mk b0_Raw_Agreement_Conv_Num b0_Raw_Agreement_Conv_Add b0_Raw_Agreement_Conv_Den b0_Raw_Agreement_Conv_Round)) b0_Raw_Day (qf.mk b0_Raw_Scale_Worst b0_Raw_Scale_Best b0_Raw_Scale_Pass) b0_Raw_L))).Raw.Agreement.Begin ((qi.mk b0_At (Z6.mk b0_Odd_0 b0_Odd_1) (qm.mk (qa.mk b0_Raw_Agreement_Id b0_Raw_Agreement_From b0_Raw_Agreement_To b0_Raw_Agreement_Begin b0_Raw_Agreement_End b0_Raw_Agreement_In b0_Raw_Agreement_Out (qd.mk b0_Raw_Agreement_Conv_Num b0_Raw_Agreement_Conv_Add b0_Raw_Agreement_Conv_Den b0_Raw_Agreement_Conv_Round)) b0_Raw_Day (qf.mk b0_Raw_Scale_Worst b0_Raw_Scale_Best b0_Raw_Scale_Pass) b0_Raw_L))).Raw.Agreement.End ((qi.mk b0_At (Z6.mk b0_Odd_0 b0_Odd_1) (qm.mk (qa.mk b0_Raw_Agreement_Id b0_Raw_Agreement_From b0_Raw_Agreement_To b0_Raw_Agreement_Begin b0_Raw_Agreement_End b0_Raw_Agreement_In b0_Raw_Agreement_Out (qd.mk b0_Raw_Agreement_Conv_Num b0_Raw_Agreement_Conv_Add b0_Raw_Agreement_Conv_Den b0_Raw_Agreement_Conv_Round)) b0_Raw_Day (qf.mk b0_Raw_Scale_Worst b0_Raw_Scale_Best b0_Raw_Scale_Pass) b0_Raw_L))).Raw.Agreement.In ((qi.mk b0_At (Z6.mk b0_Odd_0 b0_Odd_1) (qm.mk (qa.mk b0_Raw_Agreement_Id b0_Raw_Agreement_From b0_Raw_Agreement_To b0_Raw_Agreement_Begin b0_Raw_Agreement_End b0_Raw_Agreement_In b0_Raw_Agreement_Out (qd.mk b0_Raw_Agreement_Conv_Num b0_Raw_Agreement_Conv_Add b0_Raw_Agreement_Conv_Den b0_Raw_Agreement_Conv_Round)) b0_Raw_Day (qf.mk b0_Raw_Scale_Worst b0_Raw_Scale_Best b0_Raw_Scale_Pass) b0_Raw_L))).Raw.Agreement.Out ((qi.mk b0_At (Z6.mk b0_Odd_0 b0_Odd_1) (qm.mk (qa.mk b0_Raw_Agreement_Id b0_Raw_Agreement_From b0_Raw_Agreement_To b0_Raw_Agreement_Begin b0_Raw_Agreement_End b0_Raw_Agreement_In b0_Raw_Agreement_Out (qd.mk b0_Raw_Agreement_Conv_Num b0_Raw_Agreement_Conv_Add b0_Raw_Agreement_Conv_Den b0_Raw_Agreement_Conv_Round)) b0_Raw_Day (qf.mk b0_Raw_Scale_Worst b0_Raw_Scale_Best b0_Raw_Scale_Pass) b0_Raw_L))).Raw.Agreement.Conv.Num ((qi.mk b0_At (Z6.mk b0_Odd_0 b0_Odd_1) (qm.mk (qa.mk b0_Raw_Agreement_Id b0_Raw_Agreement_From b0_Raw_Agreement_To b0_Raw_Agreement_Begin b0_Raw_Agreement_End b0_Raw_Agreement_In b0_Raw_Agreement_Out (qd.mk b0_Raw_Agreement_Conv_Num b0_Raw_Agreement_Conv_Add b0_Raw_Agreement_Conv_Den b0_Raw_Agreement_Conv_Round)) b0_Raw_Day (qf.mk b0_Raw_Scale_Worst b0_Raw_Scale_Best b0_Raw_Scale_Pass) b0_Raw_L))).Raw.Agreement.Conv.Add ((qi.mk b0_At (Z6.mk b0_Odd_0 b0_Odd_1) (qm.mk (qa.mk b0_Raw_Agreement_Id b0_Raw_Agreement_From b0_Raw_Agreement_To b0_Raw_Agreement_Begin b0_Raw_Agreement_End b0_Raw_Agreement_In b0_Raw_Agreement_Out (qd.mk b0_Raw_Agreement_Conv_Num b0_Raw_Agreement_Conv_Add b0_Raw_Agreement_Conv_Den b0_Raw_Agreement_Conv_Round)) b0_Raw_Day (qf.mk b0_Raw_Scale_Worst b0_Raw_Scale_Best b0_Raw_Scale_Pass) b0_Raw_L))).Raw.Agreement.Conv.Den ((qi.mk b0_At (Z6.mk b0_Odd_0 b0_Odd_1) (qm.mk (qa.mk b0_Raw_Agreement_Id b0_Raw_Agreement_From b0_Raw_Agreement_To b0_Raw_Agreement_Begin b0_Raw_Agreement_End b0_Raw_Agreement_In b0_Raw_Agreement_Out (qd.mk b0_Raw_Agreement_Conv_Num b0_Raw_Agreement_Conv_Add b0_Raw_Agreement_Conv_Den b0_Raw_Agreement_Conv_Round)) b0_Raw_Day (qf.mk b0_Raw_Scale_Worst b0_Raw_Scale_Best b0_Raw_Scale_Pass) b0_Raw_L))).Raw.Agreement.Conv.Round ((qi.mk b0_At (Z6.mk b0_Odd_0 b0_Odd_1) (qm.mk (qa.mk b0_Raw_Agreement_Id b0_Raw_Agreement_From b0_Raw_Agreement_To b0_Raw_Agreement_Begin b0_Raw_Agreement_End b0_Raw_Agreement_In b0_Raw_Agreement_Out (qd.mk b0_Raw_Agreement_Conv_Num b0_Raw_Agreement_Conv_Add b0_Raw_Agreement_Conv_Den b0_Raw_Agreement_Conv_Round)) b0_Raw_Day (qf.mk b0_Raw_Scale_Worst b0_Raw_Scale_Best b0_Raw_Scale_Pass) b0_Raw_L))).Raw.Day ((qi.mk b0_At (Z6.mk b0_Odd_0 b0_Odd_1) (qm.mk (qa.mk b0_Raw_Agreement_Id b0_Raw_Agreement_From b0_Raw_Agreement_To b0_Raw_Agreement_Begin b0_Raw_Agreement_End b0_Raw_Agreement_In b0_Raw_Agreement_Out (qd.mk b0_Raw_Agreement_Conv_Num b0_Raw_Agreement_Conv_Add b0_Raw_Agreement_Conv_Den b0_Raw_Agreement_Conv_Round)) b0_Raw_Day (qf.mk b0_Raw_Scale_Worst b0_Raw_Scale_Best b0_Raw_Scale_Pass) b0_Raw_L))).Raw.Scale.Worst ((qi.mk b0_At (Z6.mk b0_Odd_0 b0_Odd_1) (qm.mk (qa.mk b0_Raw_Agreement_Id b0_Raw_Agreement_From b0_Raw_Agreement_To b0_Raw_Agreement_Begin b0_Raw_Agreement_End b0_Raw_Agreement_In b0_Raw_Agreement_Out (qd.mk b0_Raw_Agreement_Conv_Num b0_Raw_Agreement_Conv_Add b0_Raw_Agreement_Conv_Den b0_Raw_Agreement_Conv_Round)) b0_Raw_Day (qf.mk b0_Raw_Scale_Worst b0_Raw_Scale_Best b0_Raw_Scale_Pass) b0_Raw_L))).Raw.Scale.Best ((qi.mk b0_At (Z6.mk b0_Odd_0 b0_Odd_1) (qm.mk (qa.mk b0_Raw_Agreement_Id b0_Raw_Agreement_From b0_Raw_Agreement_To b0_Raw_Agreement_Begin b0_Raw_Agreement_End b0_Raw_Agreement_In b0_Raw_Agreement_Out (qd.mk b0_Raw_Agreement_Conv_Num b0_Raw_Agreement_Conv_Add b0_Raw_Agreement_Conv_Den b0_Raw_Agreement_Conv_Round)) b0_Raw_Day (qf.mk b0_Raw_Scale_Worst b0_Raw_Scale_Best b0_Raw_Scale_Pass) b0_Raw_L))).Raw.Scale.Pass ((qi.mk b0_At (Z6.mk b0_Odd_0 b0_Odd_1) (qm.mk (qa.mk b0_Raw_Agreement_Id b0_Raw_Agreement_From b0_Raw_Agreement_To b0_Raw_Agreement_Begin b0_Raw_Agreement_End b0_Raw_Agreement_In b0_Raw_Agreement_Out (qd.mk b0_Raw_Agreement_Conv_Num b0_Raw_Agreement_Conv_Add b0_Raw_Agreement_Conv_Den b0_Raw_Agreement_Conv_Round)) b0_Raw_Day (qf.mk b0_Raw_Scale_Worst b0_Raw_Scale_Best b0_Raw_Scale_Pass) b0_Raw_L))).Raw.L ((qa.mk b1_Id b1_From b1_To b1_Begin b1_End b1_In b1_Out (qd.mk b1_Conv_Num b1_Conv_Add b1_Conv_Den b1_Conv_Round))).Id ((qa.mk b1_Id b1_From b1_To b1_Begin b1_End b1_In b1_Out (qd.mk b1_Conv_Num b1_Conv_Add b1_Conv_Den b1_Conv_Round))).From ((qa.mk b1_Id b1_From b1_To b1_Begin b1_End b1_In b1_Out (qd.mk b1_Conv_Num b1_Conv_Add b1_Conv_Den b1_Conv_Round))).To ((qa.mk b1_Id b1_From b1_To b1_Begin b1_End b1_In b1_Out (qd.mk b1_Conv_Num b1_Conv_Add b1_Conv_Den b1_Conv_Round))).Begin ((qa.mk b1_Id b1_From b1_To b1_Begin b1_End b1_In b1_Out (qd.mk b1_Conv_Num b1_Conv_Add b1_Conv_Den b1_Conv_Round))).End ((qa.mk b1_Id b1_From b1_To b1_Begin b1_End b1_In b1_Out (qd.mk b1_Conv_Num b1_Conv_Add b1_Conv_Den b1_Conv_Round))).In ((qa.mk b1_Id b1_From b1_To b1_Begin b1_End b1_In b1_Out (qd.mk b1_Conv_Num b1_Conv_Add b1_Conv_Den b1_Conv_Round))).Out ((qa.mk b1_Id b1_From b1_To b1_Begin b1_End b1_In b1_Out (qd.mk b1_Conv_Num b1_Conv_Add b1_Conv_Den b1_Conv_Round))).Conv.Num ((qa.mk b1_Id b1_From b1_To b1_Begin b1_End b1_In b1_Out (qd.mk b1_Conv_Num b1_Conv_Add b1_Conv_Den b1_Conv_Round))).Conv.Add ((qa.mk b1_Id b1_From b1_To b1_Begin b1_End b1_In b1_Out (qd.mk b1_Conv_Num b1_Conv_Add b1_Conv_Den b1_Conv_Round))).Conv.Den ((qa.mk b1_Id b1_From b1_To b1_Begin b1_End b1_In b1_Out (qd.mk b1_Conv_Num b1_Conv_Add b1_Conv_Den b1_Conv_Round))).Conv.Round ((qf.mk b2_Worst b2_Best b2_Pass)).Worst ((qf.mk b2_Worst b2_Best b2_Pass)).Best ((qf.mk b2_Worst b2_Best b2_Pass)).Pass t1 t7 t10 t11 t46 t47 t82 t83 t98 t99 _ _ _ rfl rfl rfl
  first
    | exact h
    | (simp only [rL, dL, bR, bZ, Nat.reduceAdd] at h; exact h)
noncomputable def qQ (w2 : List qa) (w3 : List qf) (b0 : qi) (b1 : qa) (t1 : List Int) (t7 : Bool) (t10 : List qb) (t11 : List qb) (t46 : Int) (t47 : Int) (t82 : Int) : Int → Option (Int ⊕ (Unit ⊕ Unit)) | t83 => if t83 < t82 then if 0 ≤ t83 ∧ t83 < ((w3.length : Nat) : Int) then Option.bind w3[Int.toNat t83]? fun (a : qf) => if t10.length ≤ Go.maxLen ∧ t10.length * 104 ≤ 140737488355328 then if t10.length + t10.length ≤ Go.maxLen ∧ (t10.length + t10.length) * 104 ≤ 140737488355328 then Option.bind (qA (qG w2 w3 [t10, t11, b0.Raw.L, t10 ++ t10] b0 b1 a t1 t7 t10 t11 t46 t47 t82 t83 4) 0) fun (a2 : Sum Unit Unit) => Sum.elim (fun (a3 : Unit) => some (Sum.inr (Sum.inl ()))) (fun (a4 : Unit) => some (Sum.inl (w64 (t83 + 1)))) a2 else none else none else none else some (Sum.inr (Sum.inr ()))
theorem Ju : ∀ (w2 : List qa) (w3 : List qf) (b0_At b0_Odd_0 b0_Odd_1 b0_Raw_Agreement_Id b0_Raw_Agreement_From b0_Raw_Agreement_To b0_Raw_Agreement_Begin b0_Raw_Agreement_End : Int) (b0_Raw_Agreement_In : List ByteArray) (b0_Raw_Agreement_Out : List qh) (b0_Raw_Agreement_Conv_Num b0_Raw_Agreement_Conv_Add b0_Raw_Agreement_Conv_Den b0_Raw_Agreement_Conv_Round b0_Raw_Day b0_Raw_Scale_Worst b0_Raw_Scale_Best b0_Raw_Scale_Pass : Int) (b0_Raw_L : List qb) (b1_Id b1_From b1_To b1_Begin b1_End : Int) (b1_In : List ByteArray) (b1_Out : List qh) (b1_Conv_Num b1_Conv_Add b1_Conv_Den b1_Conv_Round : Int) (t1 : List Int) (t7 : Bool) (t10 t11 : List qb) (t46 t47 t82 t83 : Int) (w2_len w3_len : Nat), w2_len = w2.length → w3_len = w3.length → XL2 evo 4 0 12 ⟨[(1, rL 1 eI t1), (5, rP 0), (7, rB t7), (9, rP 1), (10, rL 8 qc t10), (11, rL 8 qc t11), (45, rO 2 11 w2_len), (46, rI t46), (47, rI t47), (81, rO 3 3 w3_len), (82, rI t82), (83, rI t83)], [(0, B.blk 47 [dI b0_At, dI b0_Odd_0, dI b0_Odd_1, dI b0_Raw_Agreement_Id, dI b0_Raw_Agreement_From, dI b0_Raw_Agreement_To, dI b0_Raw_Agreement_Begin, dI b0_Raw_Agreement_End, dL 1 eS b0_Raw_Agreement_In, dL 2 qe b0_Raw_Agreement_Out, dI b0_Raw_Agreement_Conv_Num, dI b0_Raw_Agreement_Conv_Add, dI b0_Raw_Agreement_Conv_Den, dI b0_Raw_Agreement_Conv_Round, dI b0_Raw_Day, dI b0_Raw_Scale_Worst, dI b0_Raw_Scale_Best, dI b0_Raw_Scale_Pass, dL 8 qc b0_Raw_L]), (1, B.blk 30 [dI b1_Id, dI b1_From, dI b1_To, dI b1_Begin, dI b1_End, dL 1 eS b1_In, dL 2 qe b1_Out, dI b1_Conv_Num, dI b1_Conv_Add, dI b1_Conv_Den, dI b1_Conv_Round]), (2, bR 30 11 qn w2), (3, bR 32 3 zp w3)], 4, 151⟩ = (qA (qQ w2 w3 (qi.mk b0_At (Z6.mk b0_Odd_0 b0_Odd_1) (qm.mk (qa.mk b0_Raw_Agreement_Id b0_Raw_Agreement_From b0_Raw_Agreement_To b0_Raw_Agreement_Begin b0_Raw_Agreement_End b0_Raw_Agreement_In b0_Raw_Agreement_Out (qd.mk b0_Raw_Agreement_Conv_Num b0_Raw_Agreement_Conv_Add b0_Raw_Agreement_Conv_Den b0_Raw_Agreement_Conv_Round)) b0_Raw_Day (qf.mk b0_Raw_Scale_Worst b0_Raw_Scale_Best b0_Raw_Scale_Pass) b0_Raw_L)) (qa.mk b1_Id b1_From b1_To b1_Begin b1_End b1_In b1_Out (qd.mk b1_Conv_Num b1_Conv_Add b1_Conv_Den b1_Conv_Round)) t1 t7 t10 t11 t46 t47 t82) t83).bind (Sum.elim (fun (e : Unit) => some (Go.Exit.ret, ⟨[(1, rL 1 eI t1), (5, rP 0), (6, rB Bool.false), (7, rB t7), (45, rO 1 11 w2.length), (46, rI t46), (47, rI t47)], [(0, B.blk 47 [dI b0_At, dI b0_Odd_0, dI b0_Odd_1, dI b0_Raw_Agreement_Id, dI b0_Raw_Agreement_From, dI b0_Raw_Agreement_To, dI b0_Raw_Agreement_Begin, dI b0_Raw_Agreement_End, dL 1 eS b0_Raw_Agreement_In, dL 2 qe b0_Raw_Agreement_Out, dI b0_Raw_Agreement_Conv_Num, dI b0_Raw_Agreement_Conv_Add, dI b0_Raw_Agreement_Conv_Den, dI b0_Raw_Agreement_Conv_Round, dI b0_Raw_Day, dI b0_Raw_Scale_Worst, dI b0_Raw_Scale_Best, dI b0_Raw_Scale_Pass, dL 8 qc b0_Raw_L]), (1, bR 30 11 qn w2)], 2, 151⟩)) (fun (e : Unit) => some (Go.Exit.exit 2, ⟨[(1, rL 1 eI t1), (5, rP 0), (6, R.any), (7, rB t7), (45, rO 1 11 w2.length), (46, rI t46), (47, rI t47)], [(0, B.blk 47 [dI b0_At, dI b0_Odd_0, dI b0_Odd_1, dI b0_Raw_Agreement_Id, dI b0_Raw_Agreement_From, dI b0_Raw_Agreement_To, dI b0_Raw_Agreement_Begin, dI b0_Raw_Agreement_End, dL 1 eS b0_Raw_Agreement_In, dL 2 qe b0_Raw_Agreement_Out, dI b0_Raw_Agreement_Conv_Num, dI b0_Raw_Agreement_Conv_Add, dI b0_Raw_Agreement_Conv_Den, dI b0_Raw_Agreement_Conv_Round, dI b0_Raw_Day, dI b0_Raw_Scale_Worst, dI b0_Raw_Scale_Best, dI b0_Raw_Scale_Pass, dL 8 qc b0_Raw_L]), (1, bR 30 11 qn w2)], 2, 151⟩))) :=
  by
  intro w2 w3 b0_At b0_Odd_0 b0_Odd_1 b0_Raw_Agreement_Id b0_Raw_Agreement_From b0_Raw_Agreement_To b0_Raw_Agreement_Begin b0_Raw_Agreement_End b0_Raw_Agreement_In b0_Raw_Agreement_Out b0_Raw_Agreement_Conv_Num b0_Raw_Agreement_Conv_Add b0_Raw_Agreement_Conv_Den b0_Raw_Agreement_Conv_Round b0_Raw_Day b0_Raw_Scale_Worst b0_Raw_Scale_Best b0_Raw_Scale_Pass b0_Raw_L b1_Id b1_From b1_To b1_Begin b1_End b1_In b1_Out b1_Conv_Num b1_Conv_Add b1_Conv_Den b1_Conv_Round t1 t7 t10 t11 t46 t47 t82 t83 w2_len w3_len h0 h1
  subst h0 h1
  revert t83; exact q4j qi4 qiB (fun e => by rcases e with _ | _ <;> exact ⟨_, rfl, fun h => by cases h⟩) fun x => by
    have := cx4; have := @qaD.eq_1; have := @QM; have := @qQ.eq_1; exact gA
noncomputable def qP (w2 : List qb) (w3 : List qa) (w4 : List qf) (b0 : qi) (b1 : qa) (t1 : List Int) (t7 : Bool) (t10 : List qb) (t46 : Int) (t47 : Int) (t82 : Int) (t83 : Int) : Option (Unit ⊕ Unit) := if t83 < t82 then if 0 ≤ t83 ∧ t83 < ((w4.length : Nat) : Int) then Option.bind w4[Int.toNat t83]? fun (a : qf) => if t10.length ≤ Go.maxLen ∧ t10.length * 104 ≤ 140737488355328 then if t10.length + t10.length ≤ Go.maxLen ∧ (t10.length + t10.length) * 104 ≤ 140737488355328 then Option.bind (qA (qG w3 w4 [t10, w2, b0.Raw.L, t10 ++ t10] b0 b1 a t1 t7 t10 w2 t46 t47 t82 t83 4) 0) fun (a2 : Sum Unit Unit) => Sum.elim (fun (a3 : Unit) => some (Sum.inl ())) (fun (a4 : Unit) => Option.bind (qA (qQ w3 w4 b0 b1 t1 t7 t10 w2 t46 t47 t82) (w64 (t83 + 1))) fun (a5 : Sum Unit Unit) => Sum.elim (fun (a6 : Unit) => some (Sum.inl ())) (fun (e0 : Unit) => some (Sum.inr ())) a5) a2 else none else none else none else some (Sum.inr ())
theorem Jt : ∀ (w2 : List qb) (w3 : List qa) (w4 : List qf) (b0_At b0_Odd_0 b0_Odd_1 b0_Raw_Agreement_Id b0_Raw_Agreement_From b0_Raw_Agreement_To b0_Raw_Agreement_Begin b0_Raw_Agreement_End : Int) (b0_Raw_Agreement_In : List ByteArray) (b0_Raw_Agreement_Out : List qh) (b0_Raw_Agreement_Conv_Num b0_Raw_Agreement_Conv_Add b0_Raw_Agreement_Conv_Den b0_Raw_Agreement_Conv_Round b0_Raw_Day b0_Raw_Scale_Worst b0_Raw_Scale_Best b0_Raw_Scale_Pass : Int) (b0_Raw_L : List qb) (b1_Id b1_From b1_To b1_Begin b1_End : Int) (b1_In : List ByteArray) (b1_Out : List qh) (b1_Conv_Num b1_Conv_Add b1_Conv_Den b1_Conv_Round : Int) (t1 : List Int) (t7 : Bool) (t10 : List qb) (t46 t47 t82 t83 : Int) (w2_len w3_len w4_len : Nat), w2_len = w2.length → w3_len = w3.length → w4_len = w4.length → XL2 evo 4 0 12 ⟨[(1, rL 1 eI t1), (5, rP 0), (7, rB t7), (9, rP 1), (10, rL 8 qc t10), (11, rO 2 8 w2_len), (45, rO 3 11 w3_len), (46, rI t46), (47, rI t47), (81, rO 4 3 w4_len), (82, rI t82), (83, rI t83)], [(0, B.blk 47 [dI b0_At, dI b0_Odd_0, dI b0_Odd_1, dI b0_Raw_Agreement_Id, dI b0_Raw_Agreement_From, dI b0_Raw_Agreement_To, dI b0_Raw_Agreement_Begin, dI b0_Raw_Agreement_End, dL 1 eS b0_Raw_Agreement_In, dL 2 qe b0_Raw_Agreement_Out, dI b0_Raw_Agreement_Conv_Num, dI b0_Raw_Agreement_Conv_Add, dI b0_Raw_Agreement_Conv_Den, dI b0_Raw_Agreement_Conv_Round, dI b0_Raw_Day, dI b0_Raw_Scale_Worst, dI b0_Raw_Scale_Best, dI b0_Raw_Scale_Pass, dL 8 qc b0_Raw_L]), (1, B.blk 30 [dI b1_Id, dI b1_From, dI b1_To, dI b1_Begin, dI b1_End, dL 1 eS b1_In, dL 2 qe b1_Out, dI b1_Conv_Num, dI b1_Conv_Add, dI b1_Conv_Den, dI b1_Conv_Round]), (2, bR 53 8 qc w2), (3, bR 30 11 qn w3), (4, bR 32 3 zp w4)], 5, 151⟩ = (qP w2 w3 w4 (qi.mk b0_At (Z6.mk b0_Odd_0 b0_Odd_1) (qm.mk (qa.mk b0_Raw_Agreement_Id b0_Raw_Agreement_From b0_Raw_Agreement_To b0_Raw_Agreement_Begin b0_Raw_Agreement_End b0_Raw_Agreement_In b0_Raw_Agreement_Out (qd.mk b0_Raw_Agreement_Conv_Num b0_Raw_Agreement_Conv_Add b0_Raw_Agreement_Conv_Den b0_Raw_Agreement_Conv_Round)) b0_Raw_Day (qf.mk b0_Raw_Scale_Worst b0_Raw_Scale_Best b0_Raw_Scale_Pass) b0_Raw_L)) (qa.mk b1_Id b1_From b1_To b1_Begin b1_End b1_In b1_Out (qd.mk b1_Conv_Num b1_Conv_Add b1_Conv_Den b1_Conv_Round)) t1 t7 t10 t46 t47 t82 t83).bind (Sum.elim (fun (e : Unit) => some (Go.Exit.ret, ⟨[(1, rL 1 eI t1), (5, rP 0), (6, rB Bool.false), (7, rB t7), (45, rO 1 11 w3.length), (46, rI t46), (47, rI t47)], [(0, B.blk 47 [dI b0_At, dI b0_Odd_0, dI b0_Odd_1, dI b0_Raw_Agreement_Id, dI b0_Raw_Agreement_From, dI b0_Raw_Agreement_To, dI b0_Raw_Agreement_Begin, dI b0_Raw_Agreement_End, dL 1 eS b0_Raw_Agreement_In, dL 2 qe b0_Raw_Agreement_Out, dI b0_Raw_Agreement_Conv_Num, dI b0_Raw_Agreement_Conv_Add, dI b0_Raw_Agreement_Conv_Den, dI b0_Raw_Agreement_Conv_Round, dI b0_Raw_Day, dI b0_Raw_Scale_Worst, dI b0_Raw_Scale_Best, dI b0_Raw_Scale_Pass, dL 8 qc b0_Raw_L]), (1, bR 30 11 qn w3)], 2, 151⟩)) (fun (e : Unit) => some (Go.Exit.exit 2, ⟨[(1, rL 1 eI t1), (5, rP 0), (6, R.any), (7, rB t7), (45, rO 1 11 w3.length), (46, rI t46), (47, rI t47)], [(0, B.blk 47 [dI b0_At, dI b0_Odd_0, dI b0_Odd_1, dI b0_Raw_Agreement_Id, dI b0_Raw_Agreement_From, dI b0_Raw_Agreement_To, dI b0_Raw_Agreement_Begin, dI b0_Raw_Agreement_End, dL 1 eS b0_Raw_Agreement_In, dL 2 qe b0_Raw_Agreement_Out, dI b0_Raw_Agreement_Conv_Num, dI b0_Raw_Agreement_Conv_Add, dI b0_Raw_Agreement_Conv_Den, dI b0_Raw_Agreement_Conv_Round, dI b0_Raw_Day, dI b0_Raw_Scale_Worst, dI b0_Raw_Scale_Best, dI b0_Raw_Scale_Pass, dL 8 qc b0_Raw_L]), (1, bR 30 11 qn w3)], 2, 151⟩))) :=
  by
  intro w2 w3 w4 b0_At b0_Odd_0 b0_Odd_1 b0_Raw_Agreement_Id b0_Raw_Agreement_From b0_Raw_Agreement_To b0_Raw_Agreement_Begin b0_Raw_Agreement_End b0_Raw_Agreement_In b0_Raw_Agreement_Out b0_Raw_Agreement_Conv_Num b0_Raw_Agreement_Conv_Add b0_Raw_Agreement_Conv_Den b0_Raw_Agreement_Conv_Round b0_Raw_Day b0_Raw_Scale_Worst b0_Raw_Scale_Best b0_Raw_Scale_Pass b0_Raw_L b1_Id b1_From b1_To b1_Begin b1_End b1_In b1_Out b1_Conv_Num b1_Conv_Add b1_Conv_Den b1_Conv_Round t1 t7 t10 t46 t47 t82 t83 w2_len w3_len w4_len h0 h1 h2
  subst h0 h1 h2
  rw [qeD qi4 qiB]
  have := cx4; have := @qaD.eq_1; have := @q80; have := @qe4; have := @qiw; have := @qfi; have := @qi5; have := @qdF; have := @qhQ; have := @Ju; have := @QM; have := @qP.eq_1; exact gA
theorem ZW : ∀ (w40_Worst w40_Best w40_Pass w41_Worst w41_Best w41_Pass : Int) (w2 : List qb) (w3 : List qa) (b0_At b0_Odd_0 b0_Odd_1 b0_Raw_Agreement_Id b0_Raw_Agreement_From b0_Raw_Agreement_To b0_Raw_Agreement_Begin b0_Raw_Agreement_End : Int) (b0_Raw_Agreement_In : List ByteArray) (b0_Raw_Agreement_Out : List qh) (b0_Raw_Agreement_Conv_Num b0_Raw_Agreement_Conv_Add b0_Raw_Agreement_Conv_Den b0_Raw_Agreement_Conv_Round b0_Raw_Day b0_Raw_Scale_Worst b0_Raw_Scale_Best b0_Raw_Scale_Pass : Int) (b0_Raw_L : List qb) (b1_Id b1_From b1_To b1_Begin b1_End : Int) (b1_In : List ByteArray) (b1_Out : List qh) (b1_Conv_Num b1_Conv_Add b1_Conv_Den b1_Conv_Round : Int) (t1 : List Int) (t7 : Bool) (t10 : List qb) (t46 t47 t82 t83 : Int) (w2_len w3_len : Nat), w2_len = w2.length → w3_len = w3.length → XL2 evo 4 0 12 ⟨[(1, rL 1 eI t1), (5, rP 0), (7, rB t7), (9, rP 1), (10, rL 8 qc t10), (11, rO 2 8 w2_len), (45, rO 3 11 w3_len), (46, rI t46), (47, rI t47), (81, rO 4 3 2), (82, rI t82), (83, rI t83)], [(0, B.blk 47 [dI b0_At, dI b0_Odd_0, dI b0_Odd_1, dI b0_Raw_Agreement_Id, dI b0_Raw_Agreement_From, dI b0_Raw_Agreement_To, dI b0_Raw_Agreement_Begin, dI b0_Raw_Agreement_End, dL 1 eS b0_Raw_Agreement_In, dL 2 qe b0_Raw_Agreement_Out, dI b0_Raw_Agreement_Conv_Num, dI b0_Raw_Agreement_Conv_Add, dI b0_Raw_Agreement_Conv_Den, dI b0_Raw_Agreement_Conv_Round, dI b0_Raw_Day, dI b0_Raw_Scale_Worst, dI b0_Raw_Scale_Best, dI b0_Raw_Scale_Pass, dL 8 qc b0_Raw_L]), (1, B.blk 30 [dI b1_Id, dI b1_From, dI b1_To, dI b1_Begin, dI b1_End, dL 1 eS b1_In, dL 2 qe b1_Out, dI b1_Conv_Num, dI b1_Conv_Add, dI b1_Conv_Den, dI b1_Conv_Round]), (2, bR 53 8 qc w2), (3, bR 30 11 qn w3), (4, B.row 32 3 [dI w40_Worst, dI w40_Best, dI w40_Pass, dI w41_Worst, dI w41_Best, dI w41_Pass])], 5, 151⟩ = (qP w2 w3 [(qf.mk w40_Worst w40_Best w40_Pass), (qf.mk w41_Worst w41_Best w41_Pass)] (qi.mk b0_At (Z6.mk b0_Odd_0 b0_Odd_1) (qm.mk (qa.mk b0_Raw_Agreement_Id b0_Raw_Agreement_From b0_Raw_Agreement_To b0_Raw_Agreement_Begin b0_Raw_Agreement_End b0_Raw_Agreement_In b0_Raw_Agreement_Out (qd.mk b0_Raw_Agreement_Conv_Num b0_Raw_Agreement_Conv_Add b0_Raw_Agreement_Conv_Den b0_Raw_Agreement_Conv_Round)) b0_Raw_Day (qf.mk b0_Raw_Scale_Worst b0_Raw_Scale_Best b0_Raw_Scale_Pass) b0_Raw_L)) (qa.mk b1_Id b1_From b1_To b1_Begin b1_End b1_In b1_Out (qd.mk b1_Conv_Num b1_Conv_Add b1_Conv_Den b1_Conv_Round)) t1 t7 t10 t46 t47 t82 t83).bind (Sum.elim (fun (e : Unit) => some (Go.Exit.ret, ⟨[(1, rL 1 eI t1), (5, rP 0), (6, rB Bool.false), (7, rB t7), (45, rO 1 11 w3.length), (46, rI t46), (47, rI t47)], [(0, B.blk 47 [dI b0_At, dI b0_Odd_0, dI b0_Odd_1, dI b0_Raw_Agreement_Id, dI b0_Raw_Agreement_From, dI b0_Raw_Agreement_To, dI b0_Raw_Agreement_Begin, dI b0_Raw_Agreement_End, dL 1 eS b0_Raw_Agreement_In, dL 2 qe b0_Raw_Agreement_Out, dI b0_Raw_Agreement_Conv_Num, dI b0_Raw_Agreement_Conv_Add, dI b0_Raw_Agreement_Conv_Den, dI b0_Raw_Agreement_Conv_Round, dI b0_Raw_Day, dI b0_Raw_Scale_Worst, dI b0_Raw_Scale_Best, dI b0_Raw_Scale_Pass, dL 8 qc b0_Raw_L]), (1, bR 30 11 qn w3)], 2, 151⟩)) (fun (e : Unit) => some (Go.Exit.exit 2, ⟨[(1, rL 1 eI t1), (5, rP 0), (6, R.any), (7, rB t7), (45, rO 1 11 w3.length), (46, rI t46), (47, rI t47)], [(0, B.blk 47 [dI b0_At, dI b0_Odd_0, dI b0_Odd_1, dI b0_Raw_Agreement_Id, dI b0_Raw_Agreement_From, dI b0_Raw_Agreement_To, dI b0_Raw_Agreement_Begin, dI b0_Raw_Agreement_End, dL 1 eS b0_Raw_Agreement_In, dL 2 qe b0_Raw_Agreement_Out, dI b0_Raw_Agreement_Conv_Num, dI b0_Raw_Agreement_Conv_Add, dI b0_Raw_Agreement_Conv_Den, dI b0_Raw_Agreement_Conv_Round, dI b0_Raw_Day, dI b0_Raw_Scale_Worst, dI b0_Raw_Scale_Best, dI b0_Raw_Scale_Pass, dL 8 qc b0_Raw_L]), (1, bR 30 11 qn w3)], 2, 151⟩))) := by
  intro w40_Worst w40_Best w40_Pass w41_Worst w41_Best w41_Pass w2 w3 b0_At b0_Odd_0 b0_Odd_1 b0_Raw_Agreement_Id b0_Raw_Agreement_From b0_Raw_Agreement_To b0_Raw_Agreement_Begin b0_Raw_Agreement_End b0_Raw_Agreement_In b0_Raw_Agreement_Out b0_Raw_Agreement_Conv_Num b0_Raw_Agreement_Conv_Add b0_Raw_Agreement_Conv_Den b0_Raw_Agreement_Conv_Round b0_Raw_Day b0_Raw_Scale_Worst b0_Raw_Scale_Best b0_Raw_Scale_Pass b0_Raw_L b1_Id b1_From b1_To b1_Begin b1_End b1_In b1_Out b1_Conv_Num b1_Conv_Add b1_Conv_Den b1_Conv_Round t1 t7 t10 t46 t47 t82 t83 w2_len w3_len h0 h1; subst h0 h1; have h := Jt w2 w3 [(qf.mk w40_Worst w40_Best w40_Pass), (qf.mk w41_Worst w41_Best w41_Pass)] ((qi.mk b0_At (Z6.mk b0_Odd_0 b0_Odd_1) (qm.mk (qa.mk b0_Raw_Agreement_Id b0_Raw_Agreement_From b0_Raw_Agreement_To b0_Raw_Agreement_Begin b0_Raw_Agreement_End b0_Raw_Agreement_In b0_Raw_Agreement_Out (qd.mk b0_Raw_Agreement_Conv_Num b0_Raw_Agreement_Conv_Add b0_Raw_Agreement_Conv_Den b0_Raw_Agreement_Conv_Round)) b0_Raw_Day (qf.mk b0_Raw_Scale_Worst b0_Raw_Scale_Best b0_Raw_Scale_Pass) b0_Raw_L))).At ((qi.mk b0_At (Z6.mk b0_Odd_0 b0_Odd_1) (qm.mk (qa.mk b0_Raw_Agreement_Id b0_Raw_Agreement_From b0_Raw_Agreement_To b0_Raw_Agreement_Begin b0_Raw_Agreement_End b0_Raw_Agreement_In b0_Raw_Agreement_Out (qd.mk b0_Raw_Agreement_Conv_Num b0_Raw_Agreement_Conv_Add b0_Raw_Agreement_Conv_Den b0_Raw_Agreement_Conv_Round)) b0_Raw_Day (qf.mk b0_Raw_Scale_Worst b0_Raw_Scale_Best b0_Raw_Scale_Pass) b0_Raw_L))).Odd.a0 ((qi.mk b0_At (Z6.mk b0_Odd_0 b0_Odd_1) (qm.mk (qa.mk b0_Raw_Agreement_Id b0_Raw_Agreement_From b0_Raw_Agreement_To b0_Raw_Agreement_Begin b0_Raw_Agreement_End b0_Raw_Agreement_In b0_Raw_Agreement_Out (qd.mk b0_Raw_Agreement_Conv_Num b0_Raw_Agreement_Conv_Add b0_Raw_Agreement_Conv_Den b0_Raw_Agreement_Conv_Round)) b0_Raw_Day (qf.mk b0_Raw_Scale_Worst b0_Raw_Scale_Best b0_Raw_Scale_Pass) b0_Raw_L))).Odd.a1 ((qi.mk b0_At (Z6.mk b0_Odd_0 b0_Odd_1) (qm.mk (qa.mk b0_Raw_Agreement_Id b0_Raw_Agreement_From b0_Raw_Agreement_To b0_Raw_Agreement_Begin b0_Raw_Agreement_End b0_Raw_Agreement_In b0_Raw_Agreement_Out (qd.mk b0_Raw_Agreement_Conv_Num b0_Raw_Agreement_Conv_Add b0_Raw_Agreement_Conv_Den b0_Raw_Agreement_Conv_Round)) b0_Raw_Day (qf.mk b0_Raw_Scale_Worst b0_Raw_Scale_Best b0_Raw_Scale_Pass) b0_Raw_L))).Raw.Agreement.Id ((qi.mk b0_At (Z6.mk b0_Odd_0 b0_Odd_1) (qm.mk (qa.mk b0_Raw_Agreement_Id b0_Raw_Agreement_From b0_Raw_Agreement_To b0_Raw_Agreement_Begin b0_Raw_Agreement_End b0_Raw_Agreement_In b0_Raw_Agreement_Out (qd.mk b0_Raw_Agreement_Conv_Num b0_Raw_Agreement_Conv_Add b0_Raw_Agreement_Conv_Den b0_Raw_Agreement_Conv_Round)) b0_Raw_Day (qf.mk b0_Raw_Scale_Worst b0_Raw_Scale_Best b0_Raw_Scale_Pass) b0_Raw_L))).Raw.Agreement.From ((qi.mk b0_At (Z6.mk b0_Odd_0 b0_Odd_1) (qm.mk (qa.mk b0_Raw_Agreement_Id b0_Raw_Agreement_From b0_Raw_Agreement_To b0_Raw_Agreement_Begin b0_Raw_Agreement_End b0_Raw_Agreement_In b0_Raw_Agreement_Out (qd.mk b0_Raw_Agreement_Conv_Num b0_Raw_Agreement_Conv_Add b0_Raw_Agreement_Conv_Den b0_Raw_Agreement_Conv_Round)) b0_Raw_Day (qf.mk b0_Raw_Scale_Worst b0_Raw_Scale_Best b0_Raw_Scale_Pass) b0_Raw_L))).Raw.Agreement.To ((qi.mk b0_At (Z6.mk b0_Odd_0 b0_Odd_1) (qm.mk (qa.mk b0_Raw_Agreement_Id b0_Raw_Agreement_From b0_Raw_Agreement_To b0_Raw_Agreement_Begin b0_Raw_Agreement_End b0_Raw_Agreement_In b0_Raw_Agreement_Out (qd.mk b0_Raw_Agreement_Conv_Num b0_Raw_Agreement_Conv_Add b0_Raw_Agreement_Conv_Den b0_Raw_Agreement_Conv_Round)) b0_Raw_Day (qf.mk b0_Raw_Scale_Worst b0_Raw_Scale_Best b0_Raw_Scale_Pass) b0_Raw_L))).Raw.Agreement.Begin ((qi.mk b0_At (Z6.mk b0_Odd_0 b0_Odd_1) (qm.mk (qa.mk b0_Raw_Agreement_Id b0_Raw_Agreement_From b0_Raw_Agreement_To b0_Raw_Agreement_Begin b0_Raw_Agreement_End b0_Raw_Agreement_In b0_Raw_Agreement_Out (qd.mk b0_Raw_Agreement_Conv_Num b0_Raw_Agreement_Conv_Add b0_Raw_Agreement_Conv_Den b0_Raw_Agreement_Conv_Round)) b0_Raw_Day (qf.mk b0_Raw_Scale_Worst b0_Raw_Scale_Best b0_Raw_Scale_Pass) b0_Raw_L))).Raw.Agreement.End ((qi.mk b0_At (Z6.mk b0_Odd_0 b0_Odd_1) (qm.mk (qa.mk b0_Raw_Agreement_Id b0_Raw_Agreement_From b0_Raw_Agreement_To b0_Raw_Agreement_Begin b0_Raw_Agreement_End b0_Raw_Agreement_In b0_Raw_Agreement_Out (qd.mk b0_Raw_Agreement_Conv_Num b0_Raw_Agreement_Conv_Add b0_Raw_Agreement_Conv_Den b0_Raw_Agreement_Conv_Round)) b0_Raw_Day (qf.mk b0_Raw_Scale_Worst b0_Raw_Scale_Best b0_Raw_Scale_Pass) b0_Raw_L))).Raw.Agreement.In ((qi.mk b0_At (Z6.mk b0_Odd_0 b0_Odd_1) (qm.mk (qa.mk b0_Raw_Agreement_Id b0_Raw_Agreement_From b0_Raw_Agreement_To b0_Raw_Agreement_Begin b0_Raw_Agreement_End b0_Raw_Agreement_In b0_Raw_Agreement_Out (qd.mk b0_Raw_Agreement_Conv_Num b0_Raw_Agreement_Conv_Add b0_Raw_Agreement_Conv_Den b0_Raw_Agreement_Conv_Round)) b0_Raw_Day (qf.mk b0_Raw_Scale_Worst b0_Raw_Scale_Best b0_Raw_Scale_Pass) b0_Raw_L))).Raw.Agreement.Out ((qi.mk b0_At (Z6.mk b0_Odd_0 b0_Odd_1) (qm.mk (qa.mk b0_Raw_Agreement_Id b0_Raw_Agreement_From b0_Raw_Agreement_To b0_Raw_Agreement_Begin b0_Raw_Agreement_End b0_Raw_Agreement_In b0_Raw_Agreement_Out (qd.mk b0_Raw_Agreement_Conv_Num b0_Raw_Agreement_Conv_Add b0_Raw_Agreement_Conv_Den b0_Raw_Agreement_Conv_Round)) b0_Raw_Day (qf.mk b0_Raw_Scale_Worst b0_Raw_Scale_Best b0_Raw_Scale_Pass) b0_Raw_L))).Raw.Agreement.Conv.Num ((qi.mk b0_At (Z6.mk b0_Odd_0 b0_Odd_1) (qm.mk (qa.mk b0_Raw_Agreement_Id b0_Raw_Agreement_From b0_Raw_Agreement_To b0_Raw_Agreement_Begin b0_Raw_Agreement_End b0_Raw_Agreement_In b0_Raw_Agreement_Out (qd.mk b0_Raw_Agreement_Conv_Num b0_Raw_Agreement_Conv_Add b0_Raw_Agreement_Conv_Den b0_Raw_Agreement_Conv_Round)) b0_Raw_Day (qf.mk b0_Raw_Scale_Worst b0_Raw_Scale_Best b0_Raw_Scale_Pass) b0_Raw_L))).Raw.Agreement.Conv.Add ((qi.mk b0_At (Z6.mk b0_Odd_0 b0_Odd_1) (qm.mk (qa.mk b0_Raw_Agreement_Id b0_Raw_Agreement_From b0_Raw_Agreement_To b0_Raw_Agreement_Begin b0_Raw_Agreement_End b0_Raw_Agreement_In b0_Raw_Agreement_Out (qd.mk b0_Raw_Agreement_Conv_Num b0_Raw_Agreement_Conv_Add b0_Raw_Agreement_Conv_Den b0_Raw_Agreement_Conv_Round)) b0_Raw_Day (qf.mk b0_Raw_Scale_Worst b0_Raw_Scale_Best b0_Raw_Scale_Pass) b0_Raw_L))).Raw.Agreement.Conv.Den ((qi.mk b0_At (Z6.mk b0_Odd_0 b0_Odd_1) (qm.mk (qa.mk b0_Raw_Agreement_Id b0_Raw_Agreement_From b0_Raw_Agreement_To b0_Raw_Agreement_Begin b0_Raw_Agreement_End b0_Raw_Agreement_In b0_Raw_Agreement_Out (qd.mk b0_Raw_Agreement_Conv_Num b0_Raw_Agreement_Conv_Add b0_Raw_Agreement_Conv_Den b0_Raw_Agreement_Conv_Round)) b0_Raw_Day (qf.mk b0_Raw_Scale_Worst b0_Raw_Scale_Best b0_Raw_Scale_Pass) b0_Raw_L))).Raw.Agreement.Conv.Round ((qi.mk b0_At (Z6.mk b0_Odd_0 b0_Odd_1) (qm.mk (qa.mk b0_Raw_Agreement_Id b0_Raw_Agreement_From b0_Raw_Agreement_To b0_Raw_Agreement_Begin b0_Raw_Agreement_End b0_Raw_Agreement_In b0_Raw_Agreement_Out (qd.mk b0_Raw_Agreement_Conv_Num b0_Raw_Agreement_Conv_Add b0_Raw_Agreement_Conv_Den b0_Raw_Agreement_Conv_Round)) b0_Raw_Day (qf.mk b0_Raw_Scale_Worst b0_Raw_Scale_Best b0_Raw_Scale_Pass) b0_Raw_L))).Raw.Day ((qi.mk b0_At (Z6.mk b0_Odd_0 b0_Odd_1) (qm.mk (qa.mk b0_Raw_Agreement_Id b0_Raw_Agreement_From b0_Raw_Agreement_To b0_Raw_Agreement_Begin b0_Raw_Agreement_End b0_Raw_Agreement_In b0_Raw_Agreement_Out (qd.mk b0_Raw_Agreement_Conv_Num b0_Raw_Agreement_Conv_Add b0_Raw_Agreement_Conv_Den b0_Raw_Agreement_Conv_Round)) b0_Raw_Day (qf.mk b0_Raw_Scale_Worst b0_Raw_Scale_Best b0_Raw_Scale_Pass) b0_Raw_L))).Raw.Scale.Worst ((qi.mk b0_At (Z6.mk b0_Odd_0 b0_Odd_1) (qm.mk (qa.mk b0_Raw_Agreement_Id b0_Raw_Agreement_From b0_Raw_Agreement_To b0_Raw_Agreement_Begin b0_Raw_Agreement_End b0_Raw_Agreement_In b0_Raw_Agreement_Out (qd.mk b0_Raw_Agreement_Conv_Num b0_Raw_Agreement_Conv_Add b0_Raw_Agreement_Conv_Den b0_Raw_Agreement_Conv_Round)) b0_Raw_Day (qf.mk b0_Raw_Scale_Worst b0_Raw_Scale_Best b0_Raw_Scale_Pass) b0_Raw_L))).Raw.Scale.Best ((qi.mk b0_At (Z6.mk b0_Odd_0 b0_Odd_1) (qm.mk (qa.mk b0_Raw_Agreement_Id b0_Raw_Agreement_From b0_Raw_Agreement_To b0_Raw_Agreement_Begin b0_Raw_Agreement_End b0_Raw_Agreement_In b0_Raw_Agreement_Out (qd.mk b0_Raw_Agreement_Conv_Num b0_Raw_Agreement_Conv_Add b0_Raw_Agreement_Conv_Den b0_Raw_Agreement_Conv_Round)) b0_Raw_Day (qf.mk b0_Raw_Scale_Worst b0_Raw_Scale_Best b0_Raw_Scale_Pass) b0_Raw_L))).Raw.Scale.Pass ((qi.mk b0_At (Z6.mk b0_Odd_0 b0_Odd_1) (qm.mk (qa.mk b0_Raw_Agreement_Id b0_Raw_Agreement_From b0_Raw_Agreement_To b0_Raw_Agreement_Begin b0_Raw_Agreement_End b0_Raw_Agreement_In b0_Raw_Agreement_Out (qd.mk b0_Raw_Agreement_Conv_Num b0_Raw_Agreement_Conv_Add b0_Raw_Agreement_Conv_Den b0_Raw_Agreement_Conv_Round)) b0_Raw_Day (qf.mk b0_Raw_Scale_Worst b0_Raw_Scale_Best b0_Raw_Scale_Pass) b0_Raw_L))).Raw.L ((qa.mk b1_Id b1_From b1_To b1_Begin b1_End b1_In b1_Out (qd.mk b1_Conv_Num b1_Conv_Add b1_Conv_Den b1_Conv_Round))).Id ((qa.mk b1_Id b1_From b1_To b1_Begin b1_End b1_In b1_Out (qd.mk b1_Conv_Num b1_Conv_Add b1_Conv_Den b1_Conv_Round))).From ((qa.mk b1_Id b1_From b1_To b1_Begin b1_End b1_In b1_Out (qd.mk b1_Conv_Num b1_Conv_Add b1_Conv_Den b1_Conv_Round))).To ((qa.mk b1_Id b1_From b1_To b1_Begin b1_End b1_In b1_Out (qd.mk b1_Conv_Num b1_Conv_Add b1_Conv_Den b1_Conv_Round))).Begin ((qa.mk b1_Id b1_From b1_To b1_Begin b1_End b1_In b1_Out (qd.mk b1_Conv_Num b1_Conv_Add b1_Conv_Den b1_Conv_Round))).End ((qa.mk b1_Id b1_From b1_To b1_Begin b1_End b1_In b1_Out (qd.mk b1_Conv_Num b1_Conv_Add b1_Conv_Den b1_Conv_Round))).In ((qa.mk b1_Id b1_From b1_To b1_Begin b1_End b1_In b1_Out (qd.mk b1_Conv_Num b1_Conv_Add b1_Conv_Den b1_Conv_Round))).Out ((qa.mk b1_Id b1_From b1_To b1_Begin b1_End b1_In b1_Out (qd.mk b1_Conv_Num b1_Conv_Add b1_Conv_Den b1_Conv_Round))).Conv.Num ((qa.mk b1_Id b1_From b1_To b1_Begin b1_End b1_In b1_Out (qd.mk b1_Conv_Num b1_Conv_Add b1_Conv_Den b1_Conv_Round))).Conv.Add ((qa.mk b1_Id b1_From b1_To b1_Begin b1_End b1_In b1_Out (qd.mk b1_Conv_Num b1_Conv_Add b1_Conv_Den b1_Conv_Round))).Conv.Den ((qa.mk b1_Id b1_From b1_To b1_Begin b1_End b1_In b1_Out (qd.mk b1_Conv_Num b1_Conv_Add b1_Conv_Den b1_Conv_Round))).Conv.Round t1 t7 t10 t46 t47 t82 t83 _ _ _ rfl rfl rfl
  first
    | exact h
    | (simp only [rL, dL, bR, bZ, Nat.reduceAdd] at h; exact h)
noncomputable def zd (w1 : List qa) (b0 : qi) (t1 : List Int) (t7 : Bool) (t46 : Int) : Int → Option (Int ⊕ (Unit ⊕ Unit)) | t47 => if t47 < t46 then if 0 ≤ t47 ∧ t47 < ((w1.length : Nat) : Int) then Option.bind w1[Int.toNat t47]? fun (a : qa) => Option.bind (ZJ a t1) fun (a2 : List qb) => if a2.length ≤ Go.maxLen ∧ a2.length * 104 ≤ 140737488355328 then if 0 < ((a2.length : Nat) : Int) then Option.bind (QA b0.At ((a2.length : Nat) : Int)) fun (a3 : Int) => if 0 ≤ a3 ∧ a3 < ((a2.length : Nat) : Int) then Option.bind a2[Int.toNat a3]? fun (a4 : qb) => Option.bind (JM a4 b0.Odd) fun (a5 : qb) => if 0 ≤ a3 ∧ a3 < ((a2.length : Nat) : Int) then if Int.toNat a3 * 8 + 8 ≤ a2.length * 8 then Option.bind (qP (List.set a2 (Int.toNat a3) a5) w1 [Zc a.To, b0.Raw.Scale] b0 a t1 t7 a2 t46 t47 2 0) fun (a6 : Sum Unit Unit) => Sum.elim (fun (a7 : Unit) => some (Sum.inr (Sum.inl ()))) (fun (a8 : Unit) => some (Sum.inl (w64 (t47 + 1)))) a6 else none else none else none else Option.bind (qP a2 w1 [Zc a.To, b0.Raw.Scale] b0 a t1 t7 a2 t46 t47 2 0) fun (a9 : Sum Unit Unit) => Sum.elim (fun (a10 : Unit) => some (Sum.inr (Sum.inl ()))) (fun (a11 : Unit) => some (Sum.inl (w64 (t47 + 1)))) a9 else none else none else some (Sum.inr (Sum.inr ()))
theorem JZ : ∀ (w1 : List qa) (b0_At b0_Odd_0 b0_Odd_1 b0_Raw_Agreement_Id b0_Raw_Agreement_From b0_Raw_Agreement_To b0_Raw_Agreement_Begin b0_Raw_Agreement_End : Int) (b0_Raw_Agreement_In : List ByteArray) (b0_Raw_Agreement_Out : List qh) (b0_Raw_Agreement_Conv_Num b0_Raw_Agreement_Conv_Add b0_Raw_Agreement_Conv_Den b0_Raw_Agreement_Conv_Round b0_Raw_Day b0_Raw_Scale_Worst b0_Raw_Scale_Best b0_Raw_Scale_Pass : Int) (b0_Raw_L : List qb) (t1 : List Int) (t7 : Bool) (t46 t47 : Int) (w1_len : Nat), w1_len = w1.length → XL2 evo 4 0 4 ⟨[(1, rL 1 eI t1), (5, rP 0), (7, rB t7), (45, rO 1 11 w1_len), (46, rI t46), (47, rI t47)], [(0, B.blk 47 [dI b0_At, dI b0_Odd_0, dI b0_Odd_1, dI b0_Raw_Agreement_Id, dI b0_Raw_Agreement_From, dI b0_Raw_Agreement_To, dI b0_Raw_Agreement_Begin, dI b0_Raw_Agreement_End, dL 1 eS b0_Raw_Agreement_In, dL 2 qe b0_Raw_Agreement_Out, dI b0_Raw_Agreement_Conv_Num, dI b0_Raw_Agreement_Conv_Add, dI b0_Raw_Agreement_Conv_Den, dI b0_Raw_Agreement_Conv_Round, dI b0_Raw_Day, dI b0_Raw_Scale_Worst, dI b0_Raw_Scale_Best, dI b0_Raw_Scale_Pass, dL 8 qc b0_Raw_L]), (1, bR 30 11 qn w1)], 2, 151⟩ = (qA (zd w1 (qi.mk b0_At (Z6.mk b0_Odd_0 b0_Odd_1) (qm.mk (qa.mk b0_Raw_Agreement_Id b0_Raw_Agreement_From b0_Raw_Agreement_To b0_Raw_Agreement_Begin b0_Raw_Agreement_End b0_Raw_Agreement_In b0_Raw_Agreement_Out (qd.mk b0_Raw_Agreement_Conv_Num b0_Raw_Agreement_Conv_Add b0_Raw_Agreement_Conv_Den b0_Raw_Agreement_Conv_Round)) b0_Raw_Day (qf.mk b0_Raw_Scale_Worst b0_Raw_Scale_Best b0_Raw_Scale_Pass) b0_Raw_L)) t1 t7 t46) t47).bind (Sum.elim (fun (e : Unit) => some (Go.Exit.ret, ⟨[(6, rB Bool.false), (7, rB t7)], [], 0, 151⟩)) (fun (e : Unit) => some (Go.Exit.exit 0, ⟨[(6, R.any), (7, rB t7)], [], 0, 151⟩))) :=
  by
  intro w1 b0_At b0_Odd_0 b0_Odd_1 b0_Raw_Agreement_Id b0_Raw_Agreement_From b0_Raw_Agreement_To b0_Raw_Agreement_Begin b0_Raw_Agreement_End b0_Raw_Agreement_In b0_Raw_Agreement_Out b0_Raw_Agreement_Conv_Num b0_Raw_Agreement_Conv_Add b0_Raw_Agreement_Conv_Den b0_Raw_Agreement_Conv_Round b0_Raw_Day b0_Raw_Scale_Worst b0_Raw_Scale_Best b0_Raw_Scale_Pass b0_Raw_L t1 t7 t46 t47 w1_len h0
  subst h0
  revert t47; exact q4j qup qtT (fun e => by rcases e with _ | _ <;> exact ⟨_, rfl, fun h => by cases h⟩) fun x => by
    have := cx4; have := @qjV.eq_1; have := @q4N; have := @Jf; have := @q72; have := @q6b; have := @ZW; have := @zd.eq_1; exact gA
noncomputable def Qd (x0 : List (List Int)) (x1 : List Int) (x2 : qi) : Option Bool := if 0 ≤ min ((x2.Raw.L.length : Nat) : Int) 4 ∧ min ((x2.Raw.L.length : Nat) : Int) 4 ≤ ((x2.Raw.L.length : Nat) : Int) then Option.bind (Jp x0) fun (a : List qa) => Option.bind (JU x2.Raw.Agreement) fun (a2 : qa) => Option.bind (J0 a2 x2.Odd) fun (a3 : qa) => if a.length + 1 ≤ Go.maxLen ∧ (a.length + 1) * 120 ≤ 140737488355328 then Option.bind (qA (zd (a ++ [a3]) (qi.mk x2.At x2.Odd (qm.mk x2.Raw.Agreement x2.Raw.Day x2.Raw.Scale (List.take (Int.toNat (min ((x2.Raw.L.length : Nat) : Int) 4) - 0) x2.Raw.L))) x1 Bool.true ((a.length + 1 : Nat) : Int)) 0) fun (a4 : Sum Unit Unit) => Sum.elim (fun (a5 : Unit) => some Bool.false) (fun (a6 : Unit) => some Bool.true) a4 else none else none
theorem q0P : ∀ (x0 : List (List Int)) (x1 : List Int) (x2_At x2_Odd_0 x2_Odd_1 x2_Raw_Agreement_Id x2_Raw_Agreement_From x2_Raw_Agreement_To x2_Raw_Agreement_Begin x2_Raw_Agreement_End : Int) (x2_Raw_Agreement_In : List ByteArray) (x2_Raw_Agreement_Out : List qh) (x2_Raw_Agreement_Conv_Num x2_Raw_Agreement_Conv_Add x2_Raw_Agreement_Conv_Den x2_Raw_Agreement_Conv_Round x2_Raw_Day x2_Raw_Scale_Worst x2_Raw_Scale_Best x2_Raw_Scale_Pass : Int) (x2_Raw_L : List qb), ev 4 0 [rL 1 (eL 1 eI) x0, rL 1 eI x1, R.agg [dI x2_At, dI x2_Odd_0, dI x2_Odd_1, dI x2_Raw_Agreement_Id, dI x2_Raw_Agreement_From, dI x2_Raw_Agreement_To, dI x2_Raw_Agreement_Begin, dI x2_Raw_Agreement_End, dL 1 eS x2_Raw_Agreement_In, dL 2 qe x2_Raw_Agreement_Out, dI x2_Raw_Agreement_Conv_Num, dI x2_Raw_Agreement_Conv_Add, dI x2_Raw_Agreement_Conv_Den, dI x2_Raw_Agreement_Conv_Round, dI x2_Raw_Day, dI x2_Raw_Scale_Worst, dI x2_Raw_Scale_Best, dI x2_Raw_Scale_Pass, dL 8 qc x2_Raw_L]] [] = (Qd x0 x1 (qi.mk x2_At (Z6.mk x2_Odd_0 x2_Odd_1) (qm.mk (qa.mk x2_Raw_Agreement_Id x2_Raw_Agreement_From x2_Raw_Agreement_To x2_Raw_Agreement_Begin x2_Raw_Agreement_End x2_Raw_Agreement_In x2_Raw_Agreement_Out (qd.mk x2_Raw_Agreement_Conv_Num x2_Raw_Agreement_Conv_Add x2_Raw_Agreement_Conv_Den x2_Raw_Agreement_Conv_Round)) x2_Raw_Day (qf.mk x2_Raw_Scale_Worst x2_Raw_Scale_Best x2_Raw_Scale_Pass) x2_Raw_L))).bind (fun (e : Bool) => some (rB e, [])) :=
  fun x0 x1 x2_At x2_Odd_0 x2_Odd_1 x2_Raw_Agreement_Id x2_Raw_Agreement_From x2_Raw_Agreement_To x2_Raw_Agreement_Begin x2_Raw_Agreement_End x2_Raw_Agreement_In x2_Raw_Agreement_Out x2_Raw_Agreement_Conv_Num x2_Raw_Agreement_Conv_Add x2_Raw_Agreement_Conv_Den x2_Raw_Agreement_Conv_Round x2_Raw_Day x2_Raw_Scale_Worst x2_Raw_Scale_Best x2_Raw_Scale_Pass x2_Raw_L => by
    rw [qu bd4 pw4.2.2.2 lo4]
    have := cx4; have := @q4k; have := @q69; have := @q6o; have := @q2i; have := @JZ; have := @Qd.eq_1; exact gA
end Go.Proofs.YtplfjlcnffcenaaGreat.Vc

namespace Go.Proofs.YtplfjlcnffcenaaGreat.Vc
open Go.RowKit
set_option linter.unusedVariables false
set_option linter.unusedSimpArgs false
section
variable {τ ε : Type} {step : τ → Option (τ ⊕ ε)}
theorem qM {x y : τ} (h : step x = some (.inl y)) : qA step x = qA step y := by
  rw [qdO, h]; rfl
theorem qD {x : τ} {e : ε} (h : step x = some (.inr e)) : qA step x = some e := by
  rw [qdO, h]; rfl
theorem q1M {e : ε} (st : Nat → τ) (i0 n : Nat) (h0 : i0 ≤ n) (h : ∀ i, i0 ≤ i → i < n → step (st i) = some (.inl (st (i + 1)))) (hn : step (st n) = some (.inr e)) : qA step (st i0) = some e := by
  have key : ∀ j i, j + i = n → i0 ≤ i → qA step (st i) = some e := by
    intro j
    induction j with
    | zero => intro i hi _; rw [Nat.zero_add] at hi; subst hi; exact qD hn
    | succ j ih => intro i hi h1; rw [qM (h i h1 (by omega))]; exact ih (i + 1) (by omega) (by omega)
  exact key (n - i0) i0 (by omega) (Nat.le_refl _)
def q7p {α β ε : Type} (g : β → α → β ⊕ ε) (fin : β → ε) : List α → β → ε
  | [], b => fin b
  | a :: l, b => match g b a with
    | .inl b' => q7p g fin l b'
    | .inr e => e
theorem q6F {α β : Type} (l : List α) (st : β → Nat → τ) (g : β → α → β ⊕ ε) (fin : β → ε)
    (h : ∀ b i a, l[i]? = some a → step (st b i) = some (match g b a with | .inl b' => .inl (st b' (i + 1)) | .inr e => .inr e)) (hn : ∀ b, step (st b l.length) = some (.inr (fin b))) (b : β) : qA step (st b 0) = some (q7p g fin l b) := by
  have key : ∀ (r : List α) (i : Nat) (b : β), r.length + i = l.length → (∀ j, r[j]? = l[i + j]?) → qA step (st b i) = some (q7p g fin r b) := by
    intro r
    induction r with
    | nil =>
      intro i b hi _
      have hi : i = l.length := by simpa using hi
      subst hi; exact qD (hn b)
    | cons a r ih =>
      intro i b hi hr
      have ha : l[i]? = some a := by have := hr 0; simpa using this.symm
      have h1 := h b i a ha
      unfold q7p
      cases hg : g b a with
      | inl b' =>
        rw [hg] at h1
        rw [qM h1]
        refine ih (i + 1) b' (by simp at hi; omega) fun j => ?_
        have := hr (j + 1)
        rw [show i + 1 + j = i + (j + 1) by omega, ← this]; rfl
      | inr e =>
        rw [hg] at h1
        exact qD h1
  exact key l 0 b (by simp) (by simp)
theorem q6Q {α β : Type} (l : List α) (st : β → Nat → τ) (g : β → α → β) (fin : β → ε)
    (h : ∀ b i a, l[i]? = some a → step (st b i) = some (.inl (st (g b a) (i + 1)))) (hn : ∀ b, step (st b l.length) = some (.inr (fin b))) (b : β) : qA step (st b 0) = some (fin (l.foldl g b)) := by
  rw [q6F l st (fun b a => .inl (g b a)) fin h hn b]
  congr 1
  induction l generalizing b with
  | nil => rfl
  | cons a l ih =>
    unfold q7p
    simp only [List.foldl_cons]
    clear h hn
    have : ∀ (l : List α) (b : β), q7p (ε := ε) (fun b a => .inl (g b a)) fin l b = fin (l.foldl g b) := by
      intro l
      induction l with
      | nil => intro b; rfl
      | cons a l ih => intro b; unfold q7p; simp only [List.foldl_cons]; exact ih _
    exact this l _
theorem qd9 {α : Type} (l : List α) (st : Nat → τ) (p : α → Option ε) (d : ε)
    (h : ∀ i a, l[i]? = some a → step (st i) = some (match p a with | some e => .inr e | none => .inl (st (i + 1)))) (hn : step (st l.length) = some (.inr d)) : qA step (st 0) = some ((l.findSome? p).getD d) := by
  have h1 := q6F (ε := ε) (β := Unit) l (fun _ i => st i) (fun _ a => match p a with | some e => .inr e | none => .inl ()) (fun _ => d) (fun b i a ha => by
    rw [h i a ha]; cases p a <;> rfl) (fun _ => hn) ()
  rw [h1]
  congr 1
  have : ∀ l : List α, q7p (ε := ε) (fun (_ : Unit) a => match p a with | some e => .inr e | none => .inl ()) (fun _ => d) l () = (l.findSome? p).getD d := by
    intro l
    induction l with
    | nil => rfl
    | cons a l ih =>
      unfold q7p
      rw [List.findSome?_cons]
      cases p a with
      | none => simpa using ih
      | some e => rfl
  exact this l
def q8q {α β ε : Type} (g : Nat → β → α → β ⊕ ε) (fin : β → ε) : List α → Nat → β → ε
  | [], _, b => fin b
  | a :: l, i, b => match g i b a with
    | .inl b' => q8q g fin l (i + 1) b'
    | .inr e => e
theorem q6X {α β : Type} (l : List α) (st : β → Nat → τ) (g : Nat → β → α → β ⊕ ε) (fin : β → ε)
    (h : ∀ b i a, l[i]? = some a → step (st b i) = some (match g i b a with | .inl b' => .inl (st b' (i + 1)) | .inr e => .inr e)) (hn : ∀ b, step (st b l.length) = some (.inr (fin b))) (b : β) : qA step (st b 0) = some (q8q g fin l 0 b) := by
  have key : ∀ (r : List α) (i : Nat) (b : β), r.length + i = l.length → (∀ j, r[j]? = l[i + j]?) → qA step (st b i) = some (q8q g fin r i b) := by
    intro r
    induction r with
    | nil =>
      intro i b hi _
      have hi : i = l.length := by simpa using hi
      subst hi; exact qD (hn b)
    | cons a r ih =>
      intro i b hi hr
      have ha : l[i]? = some a := by have := hr 0; simpa using this.symm
      have h1 := h b i a ha
      unfold q8q
      cases hg : g i b a with
      | inl b' =>
        rw [hg] at h1
        rw [qM h1]
        refine ih (i + 1) b' (by simp at hi; omega) fun j => ?_
        have := hr (j + 1)
        rw [show i + 1 + j = i + (j + 1) by omega, ← this]; rfl
      | inr e =>
        rw [hg] at h1
        exact qD h1
  exact key l 0 b (by simp) (by simp)
end
theorem Z5 {α : Type} {l : List α} {i : Nat} {a : α} (h : l[i]? = some a) : i < l.length := (List.getElem?_eq_some_iff.1 h).1
theorem zl {n : Int} (h0 : -9223372036854775808 ≤ n) (h1 : n ≤ 9223372036854775807) : w64 n = n := wi n h0 h1
theorem qF {i n : Nat} (h : i < n) (hn : n ≤ 9223372036854775807) : w64 ((i : Int) + 1) = ((i + 1 : Nat) : Int) := by
  rw [zl (by omega) (by omega)]; omega
end Go.Proofs.YtplfjlcnffcenaaGreat.Vc
namespace Go.Proofs.YtplfjlcnffcenaaGreat.Vc
open Go.RowKit
set_option linter.unusedVariables false
set_option linter.unusedSimpArgs false
structure q0z (d : qj) : Prop where
  lo : 0 ≤ d.At
  hi : d.At ≤ (d.L.length : Int)
  len : d.L.length ≤ 9223372036854775807
theorem q6D (x m : Int) (h0 : 0 < m) (h1 : m ≤ 1000000) : ∃ v, QA x m = some v ∧ 0 ≤ v ∧ v < m := by
  have e1 := Int.tmod_lt_of_pos x h0
  have e2 : -m < Int.tmod x m := by
    have := Int.tmod_lt_of_pos (-x) h0
    rw [Int.neg_tmod] at this; omega
  have e3 : w64 (Int.tmod x m + m) = Int.tmod x m + m := zl (by omega) (by omega)
  refine ⟨Int.tmod (Int.tmod x m + m) m, ?_, Int.tmod_nonneg _ (by omega), Int.tmod_lt_of_pos _ h0⟩
  unfold QA
  repeat rw [if_neg (by omega)]
  rw [e3]
theorem Zz {d : qj} (h : q0z d) {most : Int} (h0 : 0 < most) (h1 : most ≤ 1000000) : ∃ v d', qo most d = some (v, d') ∧ 0 ≤ v ∧ v < most ∧ q0z d' := by
  obtain ⟨a, b, c⟩ := h
  unfold qo
  by_cases he : (d.L.length : Int) ≤ d.At
  · exact ⟨0, d, if_pos he, Int.le_refl _, h0, ⟨a, b, c⟩⟩
  · obtain ⟨x, hx⟩ : ∃ x, d.L[Int.toNat d.At]? = some x := ⟨_, List.getElem?_eq_getElem (by omega)⟩
    obtain ⟨v, e1, e2, e3⟩ := q6D x most h0 h1
    have e6 : w64 (d.At + 1) = d.At + 1 := zl (by omega) (by omega)
    have e7 : w64 (d.At + 1 - 1) = d.At := by rw [zl (by omega) (by omega)]; omega
    refine ⟨v, ⟨d.L, d.At + 1⟩, ?_, e2, e3, ⟨by show 0 ≤ d.At + 1; omega, by show d.At + 1 ≤ d.L.length; omega, c⟩⟩
    rw [if_neg he, e6, e7, if_pos ⟨a, by omega⟩, hx, Option.bind_some, e1, Option.bind_some]
noncomputable def cod (i : Nat) : ByteArray := qs.getD i (ByteArray.mk (List.toArray [90, 57]))
noncomputable def sd (l : List Nat) : List ByteArray := l.map cod
structure Ix (l : List Nat) : Prop where
  lt : ∀ i ∈ l, i < 7
  up : l.Pairwise (· < ·)
  len : l.length ≤ 3
theorem Ix.filter {l : List Nat} (h : Ix l) (p : Nat → Bool) : Ix (l.filter p) := ⟨fun i hi => h.lt i ((List.mem_filter.1 hi).1), h.up.filter p, Nat.le_trans (List.length_filter_le p l) h.len⟩
def fk (l : List Nat) (k : Nat) : Nat := if l.contains k then (if l.contains ((k + 1) % 6) then (k + 2) % 6 else (k + 1) % 6) else k
def qjA (k : Nat) : List Nat → List Nat
  | [] => [k]
  | x :: l => if x < k then x :: qjA k l else k :: x :: l
def six : List (List Nat) := [0, 1, 2, 3, 4, 5].flatMap fun i => [i] :: ([0, 1, 2, 3, 4, 5].filter fun j => decide (i < j)).map fun j => [i, j]
def q9q (n : Nat) (l : List Nat) : Bool := l.all (fun i => decide (i < 6)) && (match l with | [] => true | [_] => true | [a, b] => decide (a < b) | [a, b, c] => decide (a < b) && decide (b < c) | _ => false) && l.length == n
theorem qcb : ([] :: six).all (fun l => [0, 1, 2, 3, 4, 5].all fun k => q9q (l.length + 1) (qjA (fk l k) l) && decide (fk l k < 6)) = true := by decide
theorem lt6 {a : Nat} (h : a < 6) : a ∈ [0, 1, 2, 3, 4, 5] := by
  have : a = 0 ∨ a = 1 ∨ a = 2 ∨ a = 3 ∨ a = 4 ∨ a = 5 := by omega
  rcases this with rfl | rfl | rfl | rfl | rfl | rfl <;> decide
theorem qe9 {l : List Nat} {n : Nat} (h : q9q n l = true) (hn : n ≤ 2) : l ∈ [] :: six := by
  unfold q9q at h
  simp only [Bool.and_eq_true, beq_iff_eq, List.all_eq_true, decide_eq_true_eq] at h
  obtain ⟨⟨h1, h2⟩, h3⟩ := h
  match l with
  | [] => exact List.mem_cons_self
  | [a] =>
    refine List.mem_cons_of_mem _ (List.mem_flatMap.2 ⟨a, lt6 (h1 a (by simp)), List.mem_cons_self⟩)
  | [a, b] =>
    have hab : a < b := by simpa using h2
    refine List.mem_cons_of_mem _ (List.mem_flatMap.2 ⟨a, lt6 (h1 a (by simp)), List.mem_cons_of_mem _ (List.mem_map.2 ⟨b, List.mem_filter.2 ⟨lt6 (h1 b (by simp)), by simpa using hab⟩, rfl⟩)⟩)
  | a :: b :: c :: l => simp only [List.length_cons] at h3; omega
theorem q52 {n : Nat} {l : List Nat} (h : q9q n l = true) : l.length = n := by
  unfold q9q at h
  simp only [Bool.and_eq_true, beq_iff_eq] at h
  exact h.2
theorem ql6 {n : Nat} {l : List Nat} (h : q9q n l = true) (hn : n ≤ 3) : Ix l := by
  have hl := q52 h
  unfold q9q at h
  simp only [Bool.and_eq_true, beq_iff_eq, List.all_eq_true, decide_eq_true_eq] at h
  obtain ⟨⟨h1, h2⟩, h3⟩ := h
  refine ⟨fun i hi => by have := h1 i hi; omega, ?_, by omega⟩
  match l with
  | [] => exact .nil
  | [a] => simp
  | [a, b] => have : a < b := by simpa using h2
              simp [this]
  | [a, b, c] =>
    have h4 : a < b ∧ b < c := by simpa using h2
    obtain ⟨h4, h5⟩ := h4
    simp [h4, h5, Nat.lt_trans h4 h5]
  | a :: b :: c :: d :: l => simp only [List.length_cons] at h3; omega
theorem qlO {n : Nat} {l : List Nat} (h : q9q n l = true) : ∀ i ∈ l, i < 6 := by
  unfold q9q at h
  simp only [Bool.and_eq_true, beq_iff_eq, List.all_eq_true, decide_eq_true_eq] at h
  exact h.1.1
theorem qfA (d : qj) (many : Int) : ([] :: six).all (fun l => [0, 1, 2, 3, 4, 5].all fun k => decide (itT (J1 20 d (sd l) many) 20 ((k : Nat) : Int) = some ((fk l k : Nat) : Int)) && decide (q0G 20 (sd l) (cod (fk l k)) = some (sd (qjA (fk l k) l)))) = true := by kernel_rfl
theorem qcr (d : qj) (many : Int) : ([0, 1, 2, 3, 4, 5].all fun k => decide (itT (JK 20 d many) 20 ((k : Nat) : Int) = some ((k : Nat) : Int)) && decide (q0G 20 [] (cod k) = some (sd [k]))) = true := by kernel_rfl
theorem q9n {k : Nat} (h : k < 6) : (0 : Int) ≤ ((k : Nat) : Int) ∧ ((k : Nat) : Int) < ((qs.length : Nat) : Int) ∧ qs[Int.toNat ((k : Nat) : Int)]? = some (cod k) := by
  have e : qs.length = 6 := rfl
  refine ⟨by omega, by omega, ?_⟩
  rw [Int.toNat_natCast, cod, List.getD_eq_getElem?_getD, List.getElem?_eq_getElem (by omega)]
  rfl
theorem qdC {l : List Nat} {n : Nat} (h : q9q n l = true) (hn : n ≤ 2) {k : Nat} (hk : k < 6) (d : qj) (many : Int) : qA (Qp d (sd l) many) ((k : Nat) : Int) = some ((fk l k : Nat) : Int) ∧ fk l k < 6 ∧ QO (sd l) (cod (fk l k)) = some (sd (qjA (fk l k) l)) ∧ q9q (n + 1) (qjA (fk l k) l) = true := by
  have h1 := List.all_eq_true.1 (List.all_eq_true.1 (qfA d many) l (qe9 h hn)) k (lt6 hk)
  have h2 := List.all_eq_true.1 (List.all_eq_true.1 qcb l (qe9 h hn)) k (lt6 hk)
  rw [Bool.and_eq_true, decide_eq_true_eq, decide_eq_true_eq] at h1
  rw [Bool.and_eq_true, decide_eq_true_eq, q52 h] at h2
  exact ⟨ZZ.lim (q1T 20 d (sd l) many) _ h1.1, h2.2, q2l 20 _ _ _ h1.2, h2.1⟩
theorem qoS {many : Int} (hm : many ≤ 3) : ∀ (j : Nat) (l : List Nat) (d : qj), q9q l.length l = true → ((l.length + j : Nat) : Int) = many → q0z d → ∃ l' d', qA (zX many) (d, sd l) = some (d', sd l') ∧ q9q many.toNat l' = true ∧ q0z d'
  | 0, l, d, h, hj, hd => by
    refine ⟨l, d, qD ?_, by rw [← hj]; exact h, hd⟩
    unfold zX
    dsimp only
    rw [if_neg (by unfold sd; rw [List.length_map]; omega)]
  | j + 1, l, d, h, hj, hd => by
    obtain ⟨v, d1, e1, v0, v1, hd1⟩ := Zz hd (most := 6) (by decide) (by decide)
    obtain ⟨k, rfl⟩ : ∃ k : Nat, v = k := ⟨v.toNat, by omega⟩
    obtain ⟨s1, s2, s3, s4⟩ := qdC h (by omega) (show k < 6 by omega) d1 many
    obtain ⟨c1, c2, c3⟩ := q9n s2
    have hl := q52 s4
    obtain ⟨l', d', r1, r2, r3⟩ := qoS hm j (qjA (fk l k) l) d1 (by rw [hl]; exact s4) (by rw [hl]; omega) hd1
    refine ⟨l', d', ?_, r2, r3⟩
    rw [qM (y := (d1, sd (qjA (fk l k) l))) ?_, r1]
    unfold zX
    dsimp only
    rw [if_pos (by unfold sd; rw [List.length_map]; omega), e1, Option.bind_some]
    simp only
    rw [s1, Option.bind_some, if_pos ⟨c1, c2⟩, c3, Option.bind_some, s3, Option.bind_some]
theorem qeo {d : qj} (hd : q0z d) : ∃ l d', QN d = some (sd l, d') ∧ Ix l ∧ 1 ≤ l.length ∧ (∀ i ∈ l, i < 6) ∧ q0z d' := by
  obtain ⟨v, d1, e1, v0, v1, hd1⟩ := Zz hd (most := 6) (by decide) (by decide)
  obtain ⟨m, hm, hm1, hm3⟩ : ∃ m : Int, [(1 : Int), (1 : Int), (1 : Int), (2 : Int), (2 : Int), (3 : Int)][Int.toNat v]? = some m ∧ 1 ≤ m ∧ m ≤ 3 := by
    have : v = 0 ∨ v = 1 ∨ v = 2 ∨ v = 3 ∨ v = 4 ∨ v = 5 := by omega
    rcases this with rfl | rfl | rfl | rfl | rfl | rfl <;> exact ⟨_, rfl, by decide, by decide⟩
  obtain ⟨w, d2, e2, w0, w1, hd2⟩ := Zz hd1 (most := 6) (by decide) (by decide)
  obtain ⟨k, rfl⟩ : ∃ k : Nat, w = k := ⟨w.toNat, by omega⟩
  have hk : k < 6 := by omega
  have h1 := List.all_eq_true.1 (qcr d2 m) k (lt6 hk)
  rw [Bool.and_eq_true, decide_eq_true_eq, decide_eq_true_eq] at h1
  have s1 : qA (QF d2 m) ((k : Nat) : Int) = some ((k : Nat) : Int) := ZZ.lim (q3t 20 d2 m) _ h1.1
  have s3 : QO [] (cod k) = some (sd [k]) := q2l 20 _ _ _ h1.2
  obtain ⟨c1, c2, c3⟩ := q9n hk
  have ok1 : q9q 1 [k] = true := by unfold q9q; simp [hk]
  obtain ⟨l', d', r1, r2, r3⟩ := qoS hm3 (m.toNat - 1) [k] d2 ok1 (by simp only [List.length_singleton]; omega) hd2
  have hl := q52 r2
  refine ⟨l', d', ?_, ql6 r2 (by omega), by omega, qlO r2, r3⟩
  unfold QN
  rw [e1, Option.bind_some]
  simp only
  rw [if_pos ⟨v0, v1⟩, hm, Option.bind_some]
  unfold Zo
  rw [if_pos (by omega), e2, Option.bind_some]
  simp only
  rw [s1, Option.bind_some, if_pos ⟨c1, c2⟩, c3, Option.bind_some, s3, Option.bind_some, r1, Option.bind_some, Option.bind_some, Sum.elim_inl]
end Go.Proofs.YtplfjlcnffcenaaGreat.Vc
namespace Go.Proofs.YtplfjlcnffcenaaGreat.Vc
open Go.RowKit
set_option linter.unusedVariables false
set_option linter.unusedSimpArgs false
structure q9l (a : qa) : Prop where
  id : 1 ≤ a.Id
  fr : 1 ≤ a.From ∧ a.From ≤ 3
  to : 1 ≤ a.To ∧ a.To ≤ 3
  be : 0 ≤ a.Begin ∧ a.Begin ≤ 100000
  en : a.End = 0 ∨ (a.Begin ≤ a.End ∧ a.End ≤ 100000)
  inn : ∃ l, Ix l ∧ 1 ≤ l.length ∧ a.In = sd l
  out : ∃ l, Ix l ∧ 1 ≤ l.length ∧ a.Out.map (·.Code) = sd l
  cr : ∀ g ∈ a.Out, 1 ≤ g.Credits ∧ g.Credits ≤ 60
  ci : a.From = a.To → ∀ g ∈ a.Out, ∀ c ∈ a.In, (g.Code.toList == c.toList) = false
  cv : qp a.Conv = 0
theorem lt7 {a : Nat} (h : a < 7) : a ∈ [0, 1, 2, 3, 4, 5, 6] := by
  have : a = 0 ∨ a = 1 ∨ a = 2 ∨ a = 3 ∨ a = 4 ∨ a = 5 ∨ a = 6 := by omega
  rcases this with rfl | rfl | rfl | rfl | rfl | rfl | rfl <;> decide
theorem q9J (l : List qh) (h : l.length ≤ 1000) : QQ l = some (l.map (·.Code)) := by
  have key : ∀ (r : List qh) (i : Nat) (out : List ByteArray), r.length + i = l.length → (∀ j, r[j]? = l[i + j]?) → out.length ≤ i → qA (Q8 l ((l.length : Nat) : Int)) (out, (i : Int)) = some (out ++ r.map (·.Code)) := by
    intro r
    induction r with
    | nil =>
      intro i out hi _ _
      refine qD ?_
      unfold Q8
      dsimp only
      rw [if_neg (by simp at hi; omega), List.map_nil, List.append_nil]
    | cons a r ih =>
      intro i out hi hr ho
      simp only [List.length_cons] at hi
      have ha : l[i]? = some a := by have := hr 0; simpa using this.symm
      have hw : w64 ((i : Int) + 1) = ((i + 1 : Nat) : Int) := qF (n := 10000) (by omega) (by omega)
      have hm : (1000000 : Nat) ≤ Go.maxLen := by decide
      rw [qM (y := (out ++ [a.Code], ((i + 1 : Nat) : Int))) ?_, ih (i + 1) _ (by omega) (fun j => ?_) (by rw [List.length_append, List.length_singleton]; omega), List.map_cons, List.append_assoc, List.singleton_append]
      · have := hr (j + 1)
        rw [show i + 1 + j = i + (j + 1) by omega, ← this]; rfl
      · unfold Q8
        dsimp only
        rw [if_pos (by omega), if_pos ⟨by omega, by omega⟩, Int.toNat_natCast, ha, Option.bind_some, if_pos ⟨by omega, by omega⟩, hw]
  have := key l 0 [] (by simp) (by simp) (Nat.le_refl _)
  unfold QQ
  change Option.bind (qA _ ([], ((0 : Nat) : Int))) _ = _
  rw [this, Option.bind_some, List.nil_append]
end Go.Proofs.YtplfjlcnffcenaaGreat.Vc
namespace Go.Proofs.YtplfjlcnffcenaaGreat.Vc
open Go.RowKit
set_option linter.unusedVariables false
set_option linter.unusedSimpArgs false
theorem qdT {l : List ByteArray} (hl : l.length ≤ 1000) (v : ByteArray) : Qb l v = some (l.any fun c => c.toList == v.toList) := by
  have h1 := qd9 (step := Qx l v) l (fun i => (i : Int)) (fun c => if (c.toList == v.toList) = true then some (Sum.inl ()) else none) (Sum.inr ()) (fun i a ha => by
      have hi := Z5 ha
      have hw : w64 ((i : Int) + 1) = ((i + 1 : Nat) : Int) := qF (n := 10000) (by omega) (by omega)
      unfold Qx
      rw [if_pos (by omega), if_pos ⟨by omega, by omega⟩, Int.toNat_natCast, ha, Option.bind_some, hw]
      by_cases h : (a.toList == v.toList) = true
      · rw [if_pos h, if_pos h]
      · rw [if_neg h, if_neg h]) (by
      unfold Qx
      rw [if_neg (by omega)])
  unfold Qb
  change Option.bind (qA _ ((0 : Nat) : Int)) _ = _
  rw [h1, Option.bind_some]
  have : ∀ l : List ByteArray, Sum.elim (fun (_ : Unit) => some true) (fun (_ : Unit) => some false) ((l.findSome? fun c => if (c.toList == v.toList) = true then some (Sum.inl ()) else none).getD (Sum.inr ())) = some (l.any fun c => c.toList == v.toList) := by
    intro l
    induction l with
    | nil => rfl
    | cons c l ih =>
      rw [List.findSome?_cons, List.any_cons]
      by_cases h : (c.toList == v.toList) = true
      · rw [if_pos h, h]; rfl
      · rw [if_neg h]
        have h' : (c.toList == v.toList) = false := by simpa using h
        rw [h', Bool.false_or]
        exact ih
  exact this l
def q6q (F T0 : Int) (I : List ByteArray) (c : ByteArray) : Bool := (F != T0) || !(I.any fun x => x.toList == c.toList)
theorem qkC {v : Int} (h0 : 0 ≤ v) (h1 : v < 4) : ∃ m, [(5 : Int), (6 : Int), (10 : Int), (3 : Int)][Int.toNat v]? = some m ∧ 1 ≤ m ∧ m ≤ 60 := by
  have : v = 0 ∨ v = 1 ∨ v = 2 ∨ v = 3 := by omega
  rcases this with rfl | rfl | rfl | rfl <;> exact ⟨_, rfl, by decide, by decide⟩
theorem qa4 (z1 z2 z3 z4 z5 z6 z7 z8 z9 x1 F T0 B0 E0 : Int) (I : List ByteArray) (hI : I.length ≤ 1000) (y1 y2 y3 y4 : Int) (L : List ByteArray) (hL : L.length ≤ 1000) :
    ∀ (r : List ByteArray) (i : Nat) (w : List qh) (d : qj), r.length + i = L.length → (∀ j, r[j]? = L[i + j]?) → w.length ≤ i → q0z d →
    ∃ w' d', qA (qR z1 z2 z3 z4 z5 z6 z7 z8 z9 x1 F T0 B0 E0 I y1 y2 y3 y4 L) (w, d, (i : Int)) = some (w ++ w', d') ∧ q0z d' ∧ w'.map (·.Code) = r.filter (q6q F T0 I) ∧ ∀ g ∈ w', 1 ≤ g.Credits ∧ g.Credits ≤ 60
  | [], i, w, d, hi, _, _, hd => by
    refine ⟨[], d, qD ?_, hd, rfl, fun g h => by simp at h⟩
    unfold qR
    dsimp only
    rw [if_neg (by simp at hi; omega), List.append_nil]
  | c :: r, i, w, d, hi, hr, hw, hd => by
    simp only [List.length_cons] at hi
    have ha : L[i]? = some c := by have := hr 0; simpa using this.symm
    have hws : w64 ((i : Int) + 1) = ((i + 1 : Nat) : Int) := qF (n := 10000) (by omega) (by omega)
    have hm : (1000000 : Nat) ≤ Go.maxLen := by decide
    have hr' : ∀ j, r[j]? = L[i + 1 + j]? := fun j => by
      have := hr (j + 1)
      rw [show i + 1 + j = i + (j + 1) by omega, ← this]; rfl
    obtain ⟨v, d1, e1, v0, v1, hd1⟩ := Zz hd (most := 4) (by decide) (by decide)
    obtain ⟨m, hm1, hm2, hm3⟩ := qkC v0 v1
    by_cases hk : q6q F T0 I c = true
    · obtain ⟨w', d', q1, q2, q3, q4⟩ := qa4 z1 z2 z3 z4 z5 z6 z7 z8 z9 x1 F T0 B0 E0 I hI y1 y2 y3 y4 L hL r (i + 1) (w ++ [⟨c, m⟩]) d1 (by omega) hr' (by rw [List.length_append, List.length_singleton]; omega) hd1
      refine ⟨⟨c, m⟩ :: w', d', ?_, q2, by rw [List.map_cons, List.filter_cons, if_pos hk, q3], fun g hg => ?_⟩
      · rw [qM (y := (w ++ [⟨c, m⟩], d1, ((i + 1 : Nat) : Int))) ?_, q1, List.append_assoc, List.singleton_append]
        unfold qR
        dsimp only
        rw [if_pos (by omega)]
        by_cases hF : (F != T0) = true
        · rw [if_pos hF, if_pos ⟨by omega, by omega⟩, Int.toNat_natCast, ha, Option.bind_some, e1, Option.bind_some]
          dsimp only
          rw [if_pos ⟨v0, v1⟩, hm1, Option.bind_some, if_pos ⟨by omega, by omega⟩, hws]
        · have hany : (I.any fun x => x.toList == c.toList) = false := by
            unfold q6q at hk
            rw [Bool.eq_false_iff.2 hF, Bool.false_or] at hk
            simpa using hk
          rw [if_neg hF, if_pos ⟨by omega, by omega⟩, Int.toNat_natCast, ha, Option.bind_some, qdT hI, Option.bind_some, hany, if_pos (by decide), if_pos ⟨by omega, by omega⟩, Option.bind_some, e1, Option.bind_some]
          dsimp only
          rw [if_pos ⟨v0, v1⟩, hm1, Option.bind_some, if_pos ⟨by omega, by omega⟩, hws]
      · rcases List.mem_cons.1 hg with rfl | hg
        · exact ⟨hm2, hm3⟩
        · exact q4 g hg
    · obtain ⟨w', d', q1, q2, q3, q4⟩ := qa4 z1 z2 z3 z4 z5 z6 z7 z8 z9 x1 F T0 B0 E0 I hI y1 y2 y3 y4 L hL r (i + 1) w d (by omega) hr' (by omega) hd
      refine ⟨w', d', ?_, q2, by rw [List.filter_cons, if_neg hk, q3], q4⟩
      rw [qM (y := (w, d, ((i + 1 : Nat) : Int))) ?_, q1]
      unfold q6q at hk
      rw [Bool.not_eq_true, Bool.or_eq_false_iff] at hk
      have hany : (I.any fun x => x.toList == c.toList) = true := by simpa using hk.2
      unfold qR
      dsimp only
      rw [if_pos (by omega), if_neg (by rw [hk.1]; decide), if_pos ⟨by omega, by omega⟩, Int.toNat_natCast, ha, Option.bind_some, qdT hI, Option.bind_some, hany, if_neg (by decide), hws]
theorem qg3 : ([(0 : Int), 1, 2].all fun f => [(0 : Int), 1, 2].all fun t => [(0 : Int), 1, 2, 3].all fun r => decide (qp (zc (w64 (1 + f)) (w64 (1 + t)) (w64 (1 + r))) = 0)) = true := by kernel_rfl
theorem qk3 {f t r : Int} (f0 : 0 ≤ f) (f1 : f < 3) (t0 : 0 ≤ t) (t1 : t < 3) (r0 : 0 ≤ r) (r1 : r < 4) : qp (zc (w64 (1 + f)) (w64 (1 + t)) (w64 (1 + r))) = 0 := by
  have m3 : ∀ {x : Int}, 0 ≤ x → x < 3 → x ∈ [(0 : Int), 1, 2] := fun {x} a b => by
    have : x = 0 ∨ x = 1 ∨ x = 2 := by omega
    rcases this with rfl | rfl | rfl <;> decide
  have m4 : r ∈ [(0 : Int), 1, 2, 3] := by
    have : r = 0 ∨ r = 1 ∨ r = 2 ∨ r = 3 := by omega
    rcases this with rfl | rfl | rfl | rfl <;> decide
  exact of_decide_eq_true (List.all_eq_true.1 (List.all_eq_true.1 (List.all_eq_true.1 qg3 f (m3 f0 f1)) t (m3 t0 t1)) r m4)
theorem qmB : ([0, 1, 2, 3, 4, 5].all fun i => !((cod 6).toList == (cod i).toList)) = true := by kernel_rfl
theorem qpo {id F T0 B0 E0 : Int} {li lo : List Nat} {w : List qh} {cv : qd} (hid : 1 ≤ id) (hF : 1 ≤ F ∧ F ≤ 3) (hT : 1 ≤ T0 ∧ T0 ≤ 3) (hB : 0 ≤ B0 ∧ B0 ≤ 100000) (hE : E0 = 0 ∨ (B0 ≤ E0 ∧ E0 ≤ 100000)) (hli : Ix li) (hl1 : 1 ≤ li.length) (hl6 : ∀ i ∈ li, i < 6)
    (hlo : Ix lo) (hw : w.map (·.Code) = (sd lo).filter (q6q F T0 (sd li))) (hcr : ∀ g ∈ w, 1 ≤ g.Credits ∧ g.Credits ≤ 60) (hcv : qp cv = 0) :
    q9l ⟨id, F, T0, B0, E0, sd li, if ((w.length : Int) == 0) = true then [⟨ByteArray.mk (List.toArray [90, 57]), 5⟩] else w, cv⟩ := by
  have hfl : (sd lo).filter (q6q F T0 (sd li)) = sd (lo.filter fun i => q6q F T0 (sd li) (cod i)) := by
    unfold sd; rw [List.filter_map]; rfl
  refine ⟨hid, hF, hT, hB, hE, ⟨li, hli, hl1, rfl⟩, ?_, ?_, ?_, hcv⟩
  · show ∃ l, Ix l ∧ 1 ≤ l.length ∧ (if ((w.length : Int) == 0) = true then [qh.mk (ByteArray.mk (List.toArray [90, 57])) 5] else w).map (·.Code) = sd l
    by_cases h0 : ((w.length : Int) == 0) = true
    · rw [if_pos h0]
      exact ⟨[6], ⟨fun i hi => by simp at hi; omega, by simp, by simp⟩, Nat.le_refl _, rfl⟩
    · rw [if_neg h0]
      refine ⟨_, hlo.filter _, ?_, hw.trans hfl⟩
      have : w.length = (lo.filter fun i => q6q F T0 (sd li) (cod i)).length := by
        have := congrArg List.length (hw.trans hfl)
        rw [List.length_map] at this
        rw [this]
        unfold sd
        rw [List.length_map]
      rw [← this]
      have : (w.length : Int) ≠ 0 := by simpa using h0
      omega
  · show ∀ g ∈ (if ((w.length : Int) == 0) = true then [qh.mk (ByteArray.mk (List.toArray [90, 57])) 5] else w), 1 ≤ g.Credits ∧ g.Credits ≤ 60
    split
    · intro g hg
      simp only [List.mem_singleton] at hg
      subst hg
      exact ⟨by decide, by decide⟩
    · exact hcr
  · show F = T0 → ∀ g ∈ (if ((w.length : Int) == 0) = true then [qh.mk (ByteArray.mk (List.toArray [90, 57])) 5] else w), ∀ c ∈ sd li, (g.Code.toList == c.toList) = false
    intro hFT
    split
    · intro g hg c hc
      simp only [List.mem_singleton] at hg
      subst hg
      obtain ⟨i, hi, rfl⟩ := List.mem_map.1 hc
      have := List.all_eq_true.1 qmB i (lt6 (hl6 i hi))
      rw [Bool.not_eq_true'] at this
      exact this
    · intro g hg c hc
      have hm : g.Code ∈ (sd lo).filter (q6q F T0 (sd li)) := by rw [← hw]; exact List.mem_map.2 ⟨g, hg, rfl⟩
      have hk := (List.mem_filter.1 hm).2
      unfold q6q at hk
      rw [hFT, show (T0 != T0) = false by simp, Bool.false_or, Bool.not_eq_true'] at hk
      have := List.any_eq_false.1 hk c hc
      have h2 : (c.toList == g.Code.toList) = false := by simpa using this
      rw [beq_eq_false_iff_ne] at h2 ⊢
      exact fun e => h2 e.symm
theorem qdk {id : Int} (hid : 1 ≤ id) {d : qj} (hd : q0z d) : ∃ a d', Zu id d = some (a, d') ∧ q9l a ∧ a.Id = id := by
  obtain ⟨f, d1, e1, f0, f1, hd1⟩ := Zz hd (most := 3) (by decide) (by decide)
  obtain ⟨t, d2, e2, t0, t1, hd2⟩ := Zz hd1 (most := 3) (by decide) (by decide)
  obtain ⟨b, d3, e3, b0, b1, hd3⟩ := Zz hd2 (most := 5) (by decide) (by decide)
  obtain ⟨B0, hB, hB0, hB1⟩ : ∃ m : Int, [(0 : Int), (0 : Int), (0 : Int), (50 : Int), (200 : Int)][Int.toNat b]? = some m ∧ 0 ≤ m ∧ m ≤ 200 := by
    have : b = 0 ∨ b = 1 ∨ b = 2 ∨ b = 3 ∨ b = 4 := by omega
    rcases this with rfl | rfl | rfl | rfl | rfl <;> exact ⟨_, rfl, by decide, by decide⟩
  obtain ⟨li, d4, e4, hli, hl1, hl6, hd4⟩ := qeo hd3
  obtain ⟨q, d5, e5, q0, q1, hd5⟩ := Zz hd4 (most := 4) (by decide) (by decide)
  have hwf : w64 (1 + f) = 1 + f := zl (by omega) (by omega)
  have hwt : w64 (1 + t) = 1 + t := zl (by omega) (by omega)
  have hlen : (sd li).length ≤ 1000 := by unfold sd; rw [List.length_map]; have := hli.len; omega
  have fin : ∀ (E0 : Int) (d6 : qj), q0z d6 → (E0 = 0 ∨ (B0 ≤ E0 ∧ E0 ≤ 100000)) → ∃ a d', (Option.bind (QN d6) fun (a12 : Prod (List ByteArray) qj) =>
      Option.bind (qA (qR (0 : Int) (0 : Int) (0 : Int) (0 : Int) (0 : Int) (0 : Int) (0 : Int) (0 : Int) (0 : Int) id (w64 ((1 : Int) + f)) (w64 ((1 : Int) + t)) B0 E0 (sd li) (0 : Int) (0 : Int) (0 : Int) (0 : Int) a12.1) ([], (a12.2, (0 : Int)))) fun (a13 : Prod (List qh) qj) =>
      if (((a13.1.length : Nat) : Int) == (0 : Int)) = Bool.true then Option.bind (qo (4 : Int) a13.2) fun (a14 : Prod Int qj) =>
        some (qa.mk id (w64 ((1 : Int) + f)) (w64 ((1 : Int) + t)) B0 E0 (sd li) [qh.mk (ByteArray.mk (List.toArray [90, 57])) (5 : Int)] (zc (w64 ((1 : Int) + f)) (w64 ((1 : Int) + t)) (w64 ((1 : Int) + a14.1))), a14.2)
      else Option.bind (qo (4 : Int) a13.2) fun (a15 : Prod Int qj) =>
      some (qa.mk id (w64 ((1 : Int) + f)) (w64 ((1 : Int) + t)) B0 E0 (sd li) a13.1 (zc (w64 ((1 : Int) + f)) (w64 ((1 : Int) + t)) (w64 ((1 : Int) + a15.1))), a15.2)) = some (a, d') ∧ q9l a ∧ a.Id = id := by
    intro E0 d6 hd6 hE
    obtain ⟨lo, d7, e7, hlo, -, -, hd7⟩ := qeo hd6
    have hlo3 : (sd lo).length ≤ 1000 := by unfold sd; rw [List.length_map]; have := hlo.len; omega
    obtain ⟨w, d8, e8, hd8, hw, hcr⟩ := qa4 0 0 0 0 0 0 0 0 0 id (w64 (1 + f)) (w64 (1 + t)) B0 E0 (sd li) hlen 0 0 0 0 (sd lo) hlo3 (sd lo) 0 [] d7 (by simp) (by simp) (Nat.le_refl _) hd7
    obtain ⟨r, d9, e9, r0, r1, hd9⟩ := Zz hd8 (most := 4) (by decide) (by decide)
    have hok := qpo (E0 := E0) (w := w) hid (F := w64 (1 + f)) (T0 := w64 (1 + t)) (by rw [hwf]; omega) (by rw [hwt]; omega) (B0 := B0) (by omega) hE hli hl1 hl6 hlo hw hcr (qk3 f0 f1 t0 t1 r0 r1)
    rw [e7, Option.bind_some]
    dsimp only
    rw [List.nil_append] at e8
    have e8' : qA (qR (0 : Int) (0 : Int) (0 : Int) (0 : Int) (0 : Int) (0 : Int) (0 : Int) (0 : Int) (0 : Int) id (w64 ((1 : Int) + f)) (w64 ((1 : Int) + t)) B0 E0 (sd li) (0 : Int) (0 : Int) (0 : Int) (0 : Int) (sd lo)) ([], (d7, (0 : Int))) = some (w, d8) := e8
    rw [e8', Option.bind_some]
    dsimp only
    rw [e9]
    simp only [Option.bind_some]
    by_cases h0 : ((w.length : Int) == 0) = true
    · rw [if_pos h0] at hok ⊢
      exact ⟨_, _, rfl, hok, rfl⟩
    · rw [if_neg h0] at hok ⊢
      exact ⟨_, _, rfl, hok, rfl⟩
  unfold Zu
  rw [e1, Option.bind_some]
  dsimp only
  rw [e2, Option.bind_some]
  dsimp only
  rw [e3, Option.bind_some]
  dsimp only
  rw [if_pos ⟨b0, b1⟩, hB, Option.bind_some, e4, Option.bind_some]
  dsimp only
  rw [e5, Option.bind_some]
  dsimp only
  by_cases hq : (q == 0) = true
  · obtain ⟨e, d6, e6, g0, g1, hd6⟩ := Zz hd5 (most := 400) (by decide) (by decide)
    rw [if_pos hq, e6, Option.bind_some]
    have hwe : w64 (B0 + e) = B0 + e := zl (by omega) (by omega)
    exact fin (w64 (B0 + e)) d6 hd6 (by rw [hwe]; omega)
  · rw [if_neg hq]
    exact fin 0 d5 hd5 (.inl rfl)
structure qif (M : List qa) : Prop where
  len : M.length ≤ 4
  ok : ∀ (i : Nat) (a : qa), M[i]? = some a → q9l a ∧ a.Id = 3 + 2 * (i : Int)
theorem qlk (l : List (List Int)) (hl : l.length ≤ 9223372036854775807) (hx : ∀ x ∈ l, x.length ≤ 9223372036854775807) : ∃ M, Jp l = some M ∧ qif M := by
  have key : ∀ (j i : Nat) (out : List qa), j + i = min l.length 4 → out.length = i → (∀ (k : Nat) (a : qa), out[k]? = some a → q9l a ∧ a.Id = 3 + 2 * (k : Int)) → ∃ M, qA (Qv l) (out, (i : Int)) = some M ∧ qif M := by
    intro j
    induction j with
    | zero =>
      intro i out hi ho hk
      refine ⟨out, qD ?_, by omega, hk⟩
      unfold Qv
      dsimp only
      by_cases h : (i : Int) < ((l.length : Nat) : Int)
      · rw [if_pos h, if_neg (by omega)]
      · rw [if_neg h]
    | succ j ih =>
      intro i out hi ho hk
      have hil : i < l.length := by omega
      have hws : w64 ((i : Int) + 1) = ((i + 1 : Nat) : Int) := qF (n := 10000) (by omega) (by omega)
      have hw2 : w64 (2 * (i : Int)) = 2 * (i : Int) := zl (by omega) (by omega)
      have hw3 : w64 (3 + 2 * (i : Int)) = 3 + 2 * (i : Int) := zl (by omega) (by omega)
      have hm : (1000000 : Nat) ≤ Go.maxLen := by decide
      obtain ⟨a, d', e1, e2, e3⟩ := qdk (id := 3 + 2 * (i : Int)) (by omega) (d := ⟨l[i], 0⟩) ⟨Int.le_refl _, by show (0 : Int) ≤ _; omega, hx _ (List.getElem_mem hil)⟩
      obtain ⟨M, q1, q2⟩ := ih (i + 1) (out ++ [a]) (by omega) (by rw [List.length_append, List.length_singleton, ho]) (fun k b hb => by
        rcases Nat.lt_or_ge k out.length with h | h
        · rw [List.getElem?_append_left h] at hb; exact hk k b hb
        · rw [List.getElem?_append_right h] at hb
          have hk0 : k - out.length = 0 := by
            have := (List.getElem?_eq_some_iff.1 hb).1
            simp at this; omega
          rw [hk0] at hb
          simp only [List.getElem?_cons_zero, Option.some.injEq] at hb
          subst hb
          have : k = i := by omega
          subst this
          exact ⟨e2, e3⟩)
      refine ⟨M, ?_, q2⟩
      rw [qM (y := (out ++ [a], ((i + 1 : Nat) : Int))) ?_, q1]
      unfold Qv
      dsimp only
      rw [if_pos (by omega), if_pos (by omega), if_pos ⟨by omega, by omega⟩, Int.toNat_natCast, List.getElem?_eq_getElem hil, Option.bind_some, hw2, hw3, e1, Option.bind_some, if_pos ⟨by omega, by omega⟩, hws]
  obtain ⟨M, h1, h2⟩ := key (min l.length 4) 0 [] (by omega) rfl (fun k a h => by simp at h)
  refine ⟨M, ?_, h2⟩
  unfold Jp
  change Option.bind (qA _ ([], ((0 : Nat) : Int))) _ = _
  rw [h1, Option.bind_some]
end Go.Proofs.YtplfjlcnffcenaaGreat.Vc
namespace Go.Proofs.YtplfjlcnffcenaaGreat.Vc
open Go.RowKit
set_option linter.unusedVariables false
set_option linter.unusedSimpArgs false
theorem zr {a : qa} (h : q9l a) : 1 ≤ a.Out.length ∧ a.Out.length ≤ 3 := by
  obtain ⟨m, hm, hm1, hO⟩ := h.out
  have : a.Out.length = m.length := by have := congrArg List.length hO; unfold sd at this; simpa using this
  have := hm.len
  omega
theorem qfH {v : Int} (h0 : 0 ≤ v) (h1 : v < 3) : ∃ m, [(5 : Int), (6 : Int), (10 : Int)][Int.toNat v]? = some m ∧ 1 ≤ m ∧ m ≤ 60 := by
  have : v = 0 ∨ v = 1 ∨ v = 2 := by omega
  rcases this with rfl | rfl | rfl <;> exact ⟨_, rfl, by decide, by decide⟩
end Go.Proofs.YtplfjlcnffcenaaGreat.Vc
namespace Go.Proofs.YtplfjlcnffcenaaGreat.Vc
open Go.RowKit
set_option linter.unusedVariables false
set_option linter.unusedSimpArgs false
theorem q1N {α β : Type} {step : List β × Int → Option ((List β × Int) ⊕ List β)} (l : List α) (f : α → β)
    (h : ∀ (i : Nat) (a : α) (out : List β), l[i]? = some a → out.length = i → step (out, (i : Int)) = some (.inl (out ++ [f a], ((i + 1 : Nat) : Int))))
    (hn : ∀ out : List β, step (out, (l.length : Int)) = some (.inr out)) : qA step ([], ((0 : Nat) : Int)) = some (l.map f) := by
  have key : ∀ (r : List α) (i : Nat) (out : List β), r.length + i = l.length → (∀ j, r[j]? = l[i + j]?) → out.length = i → qA step (out, (i : Int)) = some (out ++ r.map f) := by
    intro r
    induction r with
    | nil =>
      intro i out hi _ _
      have hi : i = l.length := by simpa using hi
      subst hi
      rw [qD (hn out), List.map_nil, List.append_nil]
    | cons a r ih =>
      intro i out hi hr ho
      have ha : l[i]? = some a := by have := hr 0; simpa using this.symm
      simp only [List.length_cons] at hi
      rw [qM (h i a out ha ho), ih (i + 1) _ (by omega) (fun j => ?_) (by rw [List.length_append, List.length_singleton, ho]), List.map_cons, List.append_assoc, List.singleton_append]
      have := hr (j + 1)
      rw [show i + 1 + j = i + (j + 1) by omega, ← this]; rfl
  have := key l 0 [] (by simp) (by simp) rfl
  rw [this, List.nil_append]
theorem q6B {l : List qb} (hl : l.length ≤ 1000) : Q6 l = some (l.map (·.Sources)) := by
  have h := q1N (step := zu l ((l.length : Nat) : Int)) l (·.Sources) (fun i a out ha ho => by
    have hi := Z5 ha
    have hw : w64 ((i : Int) + 1) = ((i + 1 : Nat) : Int) := qF (n := 10000) (by omega) (by omega)
    have hm : (1000000 : Nat) ≤ Go.maxLen := by decide
    unfold zu
    dsimp only
    rw [if_pos (by omega), if_pos ⟨by omega, by omega⟩, Int.toNat_natCast, ha, Option.bind_some, if_pos ⟨by omega, by omega⟩, hw]
    rfl) (fun out => by
    unfold zu
    dsimp only
    rw [if_neg (by omega)])
  unfold Q6
  change Option.bind (qA _ ([], ((0 : Nat) : Int))) _ = _
  rw [h, Option.bind_some]
theorem qbH {l : List qb} (hl : l.length ≤ 1000) : Qf l = some (l.map (·.Day)) := by
  have h := q1N (step := zf l ((l.length : Nat) : Int)) l (·.Day) (fun i a out ha ho => by
    have hi := Z5 ha
    have hw : w64 ((i : Int) + 1) = ((i + 1 : Nat) : Int) := qF (n := 10000) (by omega) (by omega)
    have hm : (1000000 : Nat) ≤ Go.maxLen := by decide
    unfold zf
    dsimp only
    rw [if_pos (by omega), if_pos ⟨by omega, by omega⟩, Int.toNat_natCast, ha, Option.bind_some, if_pos ⟨by omega, by omega⟩, hw]
    rfl) (fun out => by
    unfold zf
    dsimp only
    rw [if_neg (by omega)])
  unfold Qf
  change Option.bind (qA _ ([], ((0 : Nat) : Int))) _ = _
  rw [h, Option.bind_some]
theorem q7U {l : List qb} (hl : l.length ≤ 1000) : Qh l = some (l.map (·.Grade)) := by
  have h := q1N (step := zh l ((l.length : Nat) : Int)) l (·.Grade) (fun i a out ha ho => by
    have hi := Z5 ha
    have hw : w64 ((i : Int) + 1) = ((i + 1 : Nat) : Int) := qF (n := 10000) (by omega) (by omega)
    have hm : (1000000 : Nat) ≤ Go.maxLen := by decide
    unfold zh
    dsimp only
    rw [if_pos (by omega), if_pos ⟨by omega, by omega⟩, Int.toNat_natCast, ha, Option.bind_some, if_pos ⟨by omega, by omega⟩, hw]
    rfl) (fun out => by
    unfold zh
    dsimp only
    rw [if_neg (by omega)])
  unfold Qh
  change Option.bind (qA _ ([], ((0 : Nat) : Int))) _ = _
  rw [h, Option.bind_some]
theorem q9V {l : List qb} (hl : l.length ≤ 1000) : Qe l = some (l.map (·.Credits)) := by
  have h := q1N (step := zg l ((l.length : Nat) : Int)) l (·.Credits) (fun i a out ha ho => by
    have hi := Z5 ha
    have hw : w64 ((i : Int) + 1) = ((i + 1 : Nat) : Int) := qF (n := 10000) (by omega) (by omega)
    have hm : (1000000 : Nat) ≤ Go.maxLen := by decide
    unfold zg
    dsimp only
    rw [if_pos (by omega), if_pos ⟨by omega, by omega⟩, Int.toNat_natCast, ha, Option.bind_some, if_pos ⟨by omega, by omega⟩, hw]
    rfl) (fun out => by
    unfold zg
    dsimp only
    rw [if_neg (by omega)])
  unfold Qe
  change Option.bind (qA _ ([], ((0 : Nat) : Int))) _ = _
  rw [h, Option.bind_some]
theorem q8v {κ ν : Type} [DecidableEq κ] (z : ν) (k : κ) (v : ν) (b : κ) : ∀ M : List (κ × ν), q6C z (q7R M k v) b = if b = k then v else q6C z M b
  | [] => by simp only [q7R, q6C]
  | p :: M => by
    unfold q7R
    by_cases hp : k = p.1
    · rw [if_pos hp]
      simp only [q6C]
      by_cases hb : b = k
      · rw [if_pos hb, if_pos hb]
      · rw [if_neg hb, if_neg hb, if_neg (fun q => hb (q.trans hp.symm))]
    · rw [if_neg hp]
      simp only [q6C, q8v z k v b M]
      by_cases hb : b = p.1
      · rw [if_pos hb, if_neg (fun q => hp (q.symm.trans hb)), if_pos hb]
      · rw [if_neg hb, if_neg hb]
end Go.Proofs.YtplfjlcnffcenaaGreat.Vc
namespace Go.Proofs.YtplfjlcnffcenaaGreat.Vc
open Go.RowKit
set_option linter.unusedVariables false
set_option linter.unusedSimpArgs false
def ZX (out : List Int) : List Int → List Int
  | [] => out
  | n :: l => ZX (if n ∈ out then out else out ++ [n]) l
theorem q4o : ∀ (l out : List Int), (ZX out l).length ≤ out.length + l.length
  | [], out => by simp [ZX]
  | n :: l, out => by
    have := q4o l (if n ∈ out then out else out ++ [n])
    rw [ZX, List.length_cons]
    split at this <;> (try rw [List.length_append, List.length_singleton] at this) <;> split <;> simp_all <;> omega
theorem q0r : ∀ (l out : List Int) (a : Int), a ∈ ZX out l ↔ a ∈ out ∨ a ∈ l
  | [], out, a => by simp [ZX]
  | n :: l, out, a => by
    rw [ZX, q0r l, List.mem_cons]
    by_cases h : n ∈ out
    · rw [if_pos h]
      constructor
      · rintro (h1 | h1)
        · exact .inl h1
        · exact .inr (.inr h1)
      · rintro (h1 | h1 | h1)
        · exact .inl h1
        · subst h1; exact .inl h
        · exact .inr h1
    · rw [if_neg h, List.mem_append, List.mem_singleton, or_assoc]
theorem q4s : ∀ (l out : List Int), out.Nodup → (ZX out l).Nodup
  | [], out, h => h
  | n :: l, out, h => by
    rw [ZX]
    refine q4s l _ ?_
    split
    · exact h
    · rename_i hn
      rw [List.nodup_append]
      exact ⟨h, by simp, fun a ha b hb e => by rw [List.mem_singleton] at hb; subst e hb; exact hn ha⟩
def Zx (o l : List Int) : Bool := l.all fun n => !decide (n ∈ o)
theorem JI (o l : List Int) : Zx o l = true ↔ ∀ n ∈ l, n ∉ o := by
  unfold Zx
  rw [List.all_eq_true]
  constructor
  · intro h n hn
    simpa using h n hn
  · intro h n hn
    simpa using h n hn
theorem qaz (m2 : List (Int × Bool)) (t13 : List (List Int)) (t14 t15 : Int) (L : List Int) (hL : L.length ≤ 4194304) (o0 : List Int) (h2 : ∀ a, q6C false m2 a = decide (a ∈ o0)) :
    ∀ (r : List Int) (i : Nat) (out : List Int) (m0 : List (Int × Bool)) (ap : Bool), r.length + i = L.length → (∀ j, r[j]? = L[i + j]?) → out.length ≤ 100000000 + i → (∀ a, q6C false m0 a = decide (a ∈ out)) →
      ∃ m', qA (Qq m2 t13 t14 t15 L ((L.length : Nat) : Int)) (out, (m0, (ap, (i : Int)))) = some (ZX out r, m', ap && Zx o0 r) ∧ ∀ a, q6C false m' a = decide (a ∈ ZX out r)
  | [], i, out, m0, ap, hi, _, _, h0 => by
    refine ⟨m0, qD ?_, h0⟩
    unfold Qq
    dsimp only
    rw [if_neg (by simp at hi; omega)]
    simp [ZX, Zx]
  | a :: r, i, out, m0, ap, hi, hr, ho, h0 => by
    simp only [List.length_cons] at hi
    have ha : L[i]? = some a := by have := hr 0; simpa using this.symm
    have hw : w64 ((i : Int) + 1) = ((i + 1 : Nat) : Int) := qF (n := 10000000) (by omega) (by omega)
    have hm : (1000000000 : Nat) ≤ Go.maxLen := by decide
    obtain ⟨m', q1, q2⟩ := qaz m2 t13 t14 t15 L hL o0 h2 r (i + 1) (if a ∈ out then out else out ++ [a]) (q7R m0 a true) (ap && !decide (a ∈ o0)) (by omega) (fun j => by
      have := hr (j + 1)
      rw [show i + 1 + j = i + (j + 1) by omega, ← this]; rfl) (by split <;> (try rw [List.length_append, List.length_singleton]) <;> omega) (fun b => by
      rw [q8v, h0 b]
      by_cases hb : b = a
      · rw [if_pos hb]
        refine (decide_eq_true ?_).symm
        split
        · rename_i h; rw [hb]; exact h
        · rw [hb]; simp
      · rw [if_neg hb]
        congr 1
        split <;> simp [hb])
    refine ⟨m', ?_, q2⟩
    have e1 : (ap && !decide (a ∈ o0) && Zx o0 r) = (ap && Zx o0 (a :: r)) := by
      unfold Zx
      rw [List.all_cons, Bool.and_assoc]
    rw [e1] at q1
    rw [ZX, ← q1]
    refine qM ?_
    unfold Qq
    dsimp only
    rw [if_pos (by omega), if_pos ⟨by omega, by omega⟩, Int.toNat_natCast, ha, Option.bind_some, h2 a, h0 a, hw]
    by_cases g1 : a ∈ o0
    · rw [if_pos (decide_eq_true g1), decide_eq_true g1]
      by_cases g2 : a ∈ out
      · rw [if_neg (by rw [decide_eq_true g2]; decide), if_pos g2, Bool.not_true, Bool.and_false]
      · rw [if_pos (by rw [decide_eq_false g2]; decide), if_neg g2, if_pos ⟨by omega, by omega⟩, Bool.not_true, Bool.and_false]
    · rw [if_neg (by rw [decide_eq_false g1]; decide), decide_eq_false g1]
      by_cases g2 : a ∈ out
      · rw [if_neg (by rw [decide_eq_true g2]; decide), if_pos g2, Bool.not_false, Bool.and_true]
      · rw [if_pos (by rw [decide_eq_false g2]; decide), if_neg g2, if_pos ⟨by omega, by omega⟩, Bool.not_false, Bool.and_true]
def q0D (out : List Int) (ap : Bool) : List (List Int) → List Int × Bool
  | [] => (out, ap)
  | l :: LL => q0D (ZX out l) (ap && Zx out l) LL
theorem qbu (LL : List (List Int)) (hLL : LL.length ≤ 20) (hS : ∀ x ∈ LL, x.length ≤ 4194304) :
    ∀ (r : List (List Int)) (i : Nat) (out : List Int) (m0 : List (Int × Bool)) (ap : Bool), r.length + i = LL.length → (∀ j, r[j]? = LL[i + j]?) → out.length ≤ 4194304 * i → (∀ a, q6C false m0 a = decide (a ∈ out)) →
      qA (Qs LL ((LL.length : Nat) : Int)) (out, (m0, (ap, (i : Int)))) = some (q0D out ap r)
  | [], i, out, m0, ap, hi, _, _, h0 => by
    refine qD ?_
    unfold Qs
    dsimp only
    rw [if_neg (by simp at hi; omega)]
    rfl
  | a :: r, i, out, m0, ap, hi, hr, ho, h0 => by
    simp only [List.length_cons] at hi
    have ha : LL[i]? = some a := by have := hr 0; simpa using this.symm
    have hw : w64 ((i : Int) + 1) = ((i + 1 : Nat) : Int) := qF (n := 10000) (by omega) (by omega)
    have hal := hS a (List.mem_of_getElem? ha)
    obtain ⟨m', q1, q2⟩ := qaz m0 LL ((LL.length : Nat) : Int) (i : Int) a hal out h0 a 0 out m0 ap (by simp) (by simp) (by omega) h0
    have hlen := q4o a out
    have := qbu LL hLL hS r (i + 1) (ZX out a) m' (ap && Zx out a) (by omega) (fun j => by
      have := hr (j + 1)
      rw [show i + 1 + j = i + (j + 1) by omega, ← this]; rfl) (by omega) q2
    rw [q0D, ← this]
    refine qM ?_
    unfold Qs
    dsimp only
    rw [if_pos (by omega), if_pos ⟨by omega, by omega⟩, Int.toNat_natCast, ha, Option.bind_some]
    have q1' : qA (Qq m0 LL ((LL.length : Nat) : Int) (i : Int) a ((a.length : Nat) : Int)) (out, (m0, (ap, (0 : Int)))) = some (ZX out a, m', ap && Zx out a) := q1
    rw [q1', Option.bind_some, hw]
theorem qat {LL : List (List Int)} (hLL : LL.length ≤ 20) (hS : ∀ x ∈ LL, x.length ≤ 4194304) : ZE LL = some ((q0D [] true LL).2, (q0D [] true LL).1) := by
  have h := qbu LL hLL hS LL 0 [] [] true (by simp) (by simp) (by simp) (fun a => by simp [q6C])
  unfold ZE
  change Option.bind (qA _ ([], ([], (true, ((0 : Nat) : Int))))) _ = _
  rw [h, Option.bind_some]
theorem q8U : ∀ (LL : List (List Int)) (out : List Int) (ap : Bool) (a : Int), a ∈ (q0D out ap LL).1 ↔ a ∈ out ∨ ∃ l ∈ LL, a ∈ l
  | [], out, ap, a => by simp [q0D]
  | l :: LL, out, ap, a => by
    rw [q0D, q8U LL, q0r]
    simp only [List.mem_cons, exists_eq_or_imp, or_assoc]
theorem q5z : ∀ (LL : List (List Int)) (out : List Int) (ap : Bool), out.Nodup → (q0D out ap LL).1.Nodup
  | [], out, ap, h => h
  | l :: LL, out, ap, h => q5z LL _ _ (q4s l out h)
theorem q8K : ∀ (LL : List (List Int)) (out : List Int) (ap : Bool), (∀ x ∈ LL, x.length ≤ 4194304) → (q0D out ap LL).1.length ≤ out.length + 4194304 * LL.length
  | [], out, ap, _ => by simp [q0D]
  | l :: LL, out, ap, h => by
    have h1 := q8K LL (ZX out l) (ap && Zx out l) fun x hx => h x (List.mem_cons_of_mem _ hx)
    have h2 := q4o l out
    have h3 := h l List.mem_cons_self
    rw [q0D, List.length_cons]
    omega
theorem q5V : ∀ (LL : List (List Int)) (out : List Int) (ap : Bool), (q0D out ap LL).2 = true ↔ ap = true ∧ (∀ l ∈ LL, Zx out l = true) ∧ LL.Pairwise (fun x y => Zx x y = true)
  | [], out, ap => by simp [q0D]
  | l :: LL, out, ap => by
    have hf : ∀ y, Zx (ZX out l) y = true ↔ Zx out y = true ∧ Zx l y = true := fun y => by
      rw [JI, JI, JI]
      constructor
      · intro h
        exact ⟨fun n hn h1 => h n hn ((q0r l out n).2 (.inl h1)), fun n hn h1 => h n hn ((q0r l out n).2 (.inr h1))⟩
      · intro h n hn h1
        rcases (q0r l out n).1 h1 with h2 | h2
        · exact h.1 n hn h2
        · exact h.2 n hn h2
    rw [q0D, q5V LL, Bool.and_eq_true, List.pairwise_cons]
    constructor
    · rintro ⟨⟨a1, a2⟩, a3, a4⟩
      refine ⟨a1, fun y hy => ?_, fun y hy => ((hf y).1 (a3 y hy)).2, a4⟩
      rcases List.mem_cons.1 hy with e | hy
      · subst e; exact a2
      · exact ((hf y).1 (a3 y hy)).1
    · rintro ⟨a1, a2, a3, a4⟩
      exact ⟨⟨a1, a2 l List.mem_cons_self⟩, fun y hy => (hf y).2 ⟨a2 y (List.mem_cons_of_mem _ hy), a3 y hy⟩, a4⟩
def Inc (l : List Int) : Prop := l.Pairwise (· < ·)
theorem qhD : ∀ {a b : List Int}, Inc a → Inc b → (∀ x, x ∈ a ↔ x ∈ b) → a = b
  | [], [], _, _, _ => rfl
  | [], y :: b, _, _, h => by have := (h y).2 List.mem_cons_self; cases this
  | x :: a, [], _, _, h => by have := (h x).1 List.mem_cons_self; cases this
  | x :: a, y :: b, h1, h2, h => by
    have g1 := List.pairwise_cons.1 h1
    have g2 := List.pairwise_cons.1 h2
    have e : x = y := by
      have hx := (h x).1 List.mem_cons_self
      have hy := (h y).2 List.mem_cons_self
      rcases List.mem_cons.1 hx with e | hx
      · exact e
      · rcases List.mem_cons.1 hy with e | hy
        · exact e.symm
        · have := g2.1 x hx
          have := g1.1 y hy
          omega
    subst e
    congr 1
    refine qhD g1.2 g2.2 fun z => ?_
    constructor
    · intro hz
      rcases List.mem_cons.1 ((h z).1 (List.mem_cons_of_mem _ hz)) with e | hz2
      · subst e; have := g1.1 z hz; omega
      · exact hz2
    · intro hz
      rcases List.mem_cons.1 ((h z).2 (List.mem_cons_of_mem _ hz)) with e | hz2
      · subst e; have := g2.1 z hz; omega
      · exact hz2
theorem qdh {l m : List Int} (hl : l.length ≤ 4194304) : zW l m = some (decide (l = m)) := by
  unfold zW
  by_cases hlen : l.length = m.length
  · rw [if_neg (by rw [hlen]; simp)]
    have key : ∀ (r1 r2 : List Int) (i : Nat), r1.length = r2.length → r1.length + i = l.length → (∀ j, r1[j]? = l[i + j]?) → (∀ j, r2[j]? = m[i + j]?) → qA (qU l m ((l.length : Nat) : Int)) (i : Int) = some (if r1 = r2 then .inr () else .inl ()) := by
      intro r1
      induction r1 with
      | nil =>
        intro r2 i h0 h1 _ _
        have : r2 = [] := List.length_eq_zero_iff.1 h0.symm
        subst this
        refine qD ?_
        unfold qU
        rw [if_neg (by simp at h1; omega), if_pos rfl]
      | cons a r1 ih =>
        intro r2 i h0 h1 h2 h3
        cases r2 with
        | nil => simp at h0
        | cons b r2 =>
          have ha : l[i]? = some a := by have := h2 0; simpa using this.symm
          have hb : m[i]? = some b := by have := h3 0; simpa using this.symm
          have hi := Z5 ha
          have hw : w64 ((i : Int) + 1) = ((i + 1 : Nat) : Int) := qF (n := 10000000) (by omega) (by omega)
          have hs : qU l m ((l.length : Nat) : Int) (i : Int) = some (if a = b then .inl ((i + 1 : Nat) : Int) else .inr (.inl ())) := by
            unfold qU
            rw [if_pos (by omega), if_pos ⟨by omega, by omega⟩, Int.toNat_natCast, ha, Option.bind_some, if_pos ⟨by omega, by omega⟩, hb, Option.bind_some, hw]
            by_cases e : a = b
            · rw [if_pos e, if_neg (by rw [e]; simp)]
            · rw [if_neg e, if_pos (by simpa using e)]
          by_cases e : a = b
          · rw [if_pos e] at hs
            rw [qM hs, ih r2 (i + 1) (by simpa using h0) (by simp only [List.length_cons] at h1; omega) (fun j => by
              have := h2 (j + 1)
              rw [show i + 1 + j = i + (j + 1) by omega, ← this]; rfl) (fun j => by
              have := h3 (j + 1)
              rw [show i + 1 + j = i + (j + 1) by omega, ← this]; rfl)]
            subst e
            by_cases e2 : r1 = r2
            · rw [if_pos e2, if_pos (by rw [e2])]
            · rw [if_neg e2, if_neg (by simpa using e2)]
          · rw [if_neg e] at hs
            rw [qD hs, if_neg (by simp [e])]
    change Option.bind (qA _ ((0 : Nat) : Int)) _ = _
    rw [key l m 0 hlen (by simp) (by simp) (by simp), Option.bind_some]
    by_cases e : l = m
    · rw [if_pos e, decide_eq_true e]; rfl
    · rw [if_neg e, decide_eq_false e]; rfl
  · rw [if_pos (by simp; omega), decide_eq_false (fun e => hlen (by rw [e]))]
def q8s : List qb → Int
  | [] => 0
  | y :: r => (r.map (·.Day)).foldl max y.Day
theorem qbr {x : List qb} (h0 : 1 ≤ x.length) (h1 : x.length ≤ 1000) : ZD x = some (q8s x) := by
  obtain ⟨y, r, rfl⟩ : ∃ y r, x = y :: r := by cases x with | nil => simp at h0 | cons y r => exact ⟨y, r, rfl⟩
  have hm : (1000000 : Nat) ≤ Go.maxLen := by decide
  have hr : r.length ≤ 999 := by simp only [List.length_cons] at h1; omega
  have hl : (y.Day :: r.map (·.Day)).length = r.length + 1 := by simp
  have h2 := q6Q (step := ze (y.Day :: r.map (·.Day))) (r.map (·.Day)) (fun b i => (b, ((i + 1 : Nat) : Int))) max (fun b => b) (fun b i a ha => by
    have hi := Z5 ha
    rw [List.length_map] at hi
    have hw : w64 (((i + 1 : Nat) : Int) + 1) = ((i + 1 + 1 : Nat) : Int) := qF (n := 10000) (by omega) (by omega)
    unfold ze
    dsimp only
    rw [hl, if_pos (by omega), if_pos ⟨by omega, by omega⟩, Int.toNat_natCast, List.getElem?_cons_succ, ha, Option.bind_some, hw]) (fun b => by
    unfold ze
    dsimp only
    rw [hl, if_neg (by rw [List.length_map]; omega)]) y.Day
  have h3 : qA (ze (y.Day :: r.map (·.Day))) (y.Day, (1 : Int)) = some ((r.map (·.Day)).foldl max y.Day) := h2
  unfold ZD QB
  rw [qbH h1, Option.bind_some, List.map_cons, if_neg (by rw [hl]; omega), if_pos (by rw [hl]; omega), List.getElem?_cons_zero, Option.bind_some, h3, Option.bind_some, Option.bind_some]
  rfl
end Go.Proofs.YtplfjlcnffcenaaGreat.Vc
namespace Go.Proofs.YtplfjlcnffcenaaGreat.Vc
open Go.RowKit
set_option linter.unusedVariables false
set_option linter.unusedSimpArgs false
def okB (b : Nat) : Bool := (decide (65 ≤ b) && decide (b ≤ 90)) || (decide (48 ≤ b) && decide (b ≤ 57))
theorem q7J (c : Nat) : Qn (c : Int) = !okB c := by
  unfold Qn okB
  rw [Bool.eq_iff_iff]
  simp only [Bool.not_eq_true', Bool.or_eq_false_iff, Bool.and_eq_false_iff, decide_eq_false_iff_not]
  split
  · split
    · simp only [true_iff]; omega
    · simp only [decide_eq_true_eq]; omega
  · split
    · split
      · simp only [true_iff]; omega
      · simp only [decide_eq_true_eq]; omega
    · simp only [Bool.false_eq_true, false_iff]; omega
def qmw (s : ByteArray) : Prop := ∀ (i : Nat) (h : i < s.size), okB (s[i]'h).toNat = true
noncomputable def q5s (s : ByteArray) : Bool := decide (1 ≤ s.size) && decide (s.size ≤ 8) && @decide (qmw s) (Classical.propDecidable _)
theorem qaq (s : ByteArray) : ∀ (j p : Nat), j + p = s.size → ∃ e : Int ⊕ Unit, qA (qW s true) p = some e ∧ (match e with
      | .inl k => 0 ≤ k ∧ ¬ qmw s
      | .inr _ => ∀ (i : Nat) (h : i < s.size), p ≤ i → okB (s[i]'h).toNat = true)
  | 0, p, hj => by
    refine ⟨.inr (), qD ?_, fun i h hp => by omega⟩
    unfold qW
    dsimp only
    rw [if_neg (by omega)]
  | j + 1, p, hj => by
    have hp : p < s.size := by omega
    by_cases ha : (s[p]'hp).toNat < 128
    · have hd := decode_ascii s p hp ha
      by_cases hb : okB (s[p]'hp).toNat = true
      · obtain ⟨e, e1, e2⟩ := qaq s j (p + 1) (by omega)
        refine ⟨e, ?_, ?_⟩
        · rw [qM (y := p + 1) ?_, e1]
          unfold qW
          dsimp only
          rw [if_pos hp, hd]
          dsimp only
          rw [q7J, hb, if_neg (by decide)]
        · cases e with
          | inl k => exact e2
          | inr u =>
            intro i h hpi
            by_cases hip : i = p
            · subst hip; exact hb
            · exact e2 i h (by omega)
      · refine ⟨.inl (p : Int), qD ?_, by omega, fun q => hb (q p hp)⟩
        unfold qW
        dsimp only
        rw [if_pos hp, hd]
        dsimp only
        rw [q7J, Bool.eq_false_iff.2 hb, if_pos (by decide)]
    · obtain ⟨h1, h2⟩ := decode_high s p hp (by omega)
      have hb : ∀ c : Nat, 128 ≤ c → okB c = false := fun c hc => by
        unfold okB
        simp only [Bool.or_eq_false_iff, Bool.and_eq_false_iff, decide_eq_false_iff_not]
        omega
      refine ⟨.inl (p : Int), qD ?_, by omega, fun q => by
        have := q p hp
        rw [hb _ (by omega)] at this
        exact absurd this (by decide)⟩
      unfold qW
      dsimp only
      rw [if_pos hp, q7J, hb _ h1, if_pos (by decide)]
theorem qgi (s : ByteArray) : ZK s = some (q5s s) := by
  have hz : (ByteArray.toList s == ByteArray.toList (ByteArray.mk (List.toArray []))) = decide (s.size = 0) := by
    rw [Bool.eq_iff_iff, beq_iff_eq, decide_eq_true_eq, ByteArray.toList_eq, ByteArray.toList_eq]
    show s.data.toList = [] ↔ s.data.size = 0
    rw [← Array.length_toList, List.length_eq_zero_iff]
  unfold ZK q5s
  rw [hz]
  by_cases h0 : s.size = 0
  · rw [decide_eq_true h0, if_neg (by decide), decide_eq_false (show ¬ 1 ≤ s.size by omega)]; rfl
  rw [decide_eq_false h0, if_pos (by decide), decide_eq_true (show 1 ≤ s.size by omega)]
  by_cases h8 : s.size ≤ 8
  · obtain ⟨e, e1, e2⟩ := qaq s s.size 0 (by omega)
    rw [if_pos (by omega), decide_eq_true h8]
    unfold QR QV
    rw [e1, Option.bind_some]
    cases e with
    | inl k =>
      rw [Sum.elim_inl, Option.bind_some, Option.bind_some, decide_eq_false (show ¬ k < 0 by have := e2.1; omega)]
      rw [@decide_eq_false _ (Classical.propDecidable _) e2.2]; rfl
    | inr u =>
      rw [Sum.elim_inr, Option.bind_some, Option.bind_some, decide_eq_true (show (-(1 : Int)) < 0 by decide)]
      have hA : qmw s := fun i h => e2 i h (Nat.zero_le _)
      rw [@decide_eq_true _ (Classical.propDecidable _) hA]; rfl
  · rw [if_neg (by omega), decide_eq_false h8]; rfl
theorem q73 {α : Type} {step : Int → Option (Int ⊕ (Unit ⊕ Unit))} (l : List α) (q : α → Bool) (h : ∀ (i : Nat) (a : α), l[i]? = some a → step (i : Int) = some (if q a = true then .inr (.inl ()) else .inl ((i + 1 : Nat) : Int))) (hn : step (l.length : Int) = some (.inr (.inr ()))) :
    qA step ((0 : Nat) : Int) = some (if l.any q = true then .inl () else .inr ()) := by
  have key : ∀ (r : List α) (i : Nat), r.length + i = l.length → (∀ j, r[j]? = l[i + j]?) → qA step (i : Int) = some (if r.any q = true then .inl () else .inr ()) := by
    intro r
    induction r with
    | nil =>
      intro i hi _
      have hi : i = l.length := by simpa using hi
      subst hi
      exact qD hn
    | cons a r ih =>
      intro i hi hr
      have ha : l[i]? = some a := by have := hr 0; simpa using this.symm
      simp only [List.length_cons] at hi
      have hs := h i a ha
      by_cases hq : q a = true
      · rw [if_pos hq] at hs
        rw [qD hs, List.any_cons, hq, Bool.true_or, if_pos rfl]
      · rw [if_neg hq] at hs
        rw [qM hs, ih (i + 1) (by omega) (fun j => by
          have := hr (j + 1)
          rw [show i + 1 + j = i + (j + 1) by omega, ← this]; rfl), List.any_cons, Bool.eq_false_iff.2 hq, Bool.false_or]
  exact key l 0 (by simp) (by simp)
theorem q7N {α : Type} {step : Int → Option (Int ⊕ (Int ⊕ Unit))} (l : List α) (q : α → Bool) (h : ∀ (i : Nat) (a : α), l[i]? = some a → step (i : Int) = some (if q a = true then .inr (.inl (i : Int)) else .inl ((i + 1 : Nat) : Int))) (hn : step (l.length : Int) = some (.inr (.inr ()))) :
    ∃ e : Int ⊕ Unit, qA step ((0 : Nat) : Int) = some e ∧ ((Sum.elim (fun (a2 : Int) => some a2) (fun (_ : Unit) => some (-(1 : Int))) e).bind fun a => some (decide ((0 : Int) ≤ a))) = some (l.any q) := by
  have key : ∀ (r : List α) (i : Nat), r.length + i = l.length → (∀ j, r[j]? = l[i + j]?) → ∃ e : Int ⊕ Unit, qA step (i : Int) = some e ∧ ((Sum.elim (fun (a2 : Int) => some a2) (fun (_ : Unit) => some (-(1 : Int))) e).bind fun a => some (decide ((0 : Int) ≤ a))) = some (r.any q) := by
    intro r
    induction r with
    | nil =>
      intro i hi _
      have hi : i = l.length := by simpa using hi
      subst hi
      exact ⟨.inr (), qD hn, rfl⟩
    | cons a r ih =>
      intro i hi hr
      have ha : l[i]? = some a := by have := hr 0; simpa using this.symm
      simp only [List.length_cons] at hi
      have hs := h i a ha
      by_cases hq : q a = true
      · rw [if_pos hq] at hs
        refine ⟨.inl (i : Int), qD hs, ?_⟩
        rw [Sum.elim_inl, Option.bind_some, List.any_cons, hq, Bool.true_or, decide_eq_true (by omega)]
      · rw [if_neg hq] at hs
        obtain ⟨e, e1, e2⟩ := ih (i + 1) (by omega) (fun j => by
          have := hr (j + 1)
          rw [show i + 1 + j = i + (j + 1) by omega, ← this]; rfl)
        exact ⟨e, by rw [qM hs, e1], by rw [e2, List.any_cons, Bool.eq_false_iff.2 hq, Bool.false_or]⟩
  exact key l 0 (by simp) (by simp)
theorem qhn {s : ByteArray} (hs : s.size ≤ 1000) : Jk s = some (q5s s) := by
  have hlen : s.data.toList.length = s.size := by rw [Array.length_toList]; rfl
  have nd : ∀ (p : Prop) [Decidable p], ((!decide p) = true) ↔ ¬ p := by intro p _; simp
  have h1 := q73 (step := QG s) s.data.toList (fun b => !okB b.toNat) (fun i a ha => by
    have hi := Z5 ha
    have hw : w64 ((i : Int) + 1) = ((i + 1 : Nat) : Int) := qF (n := 10000) (by omega) (by omega)
    have h0 : (0 : Int) ≤ (i : Int) := by omega
    have hok : (!okB a.toNat) = true ↔ ¬ ((65 ≤ a.toNat ∧ a.toNat ≤ 90) ∨ (48 ≤ a.toNat ∧ a.toNat ≤ 57)) := by unfold okB; simp; omega
    unfold QG
    simp only [if_pos h0, Int.toNat_natCast, ha, Option.bind_some, hw, nd]
    rw [if_pos (show (i : Int) < ((s.size : Nat) : Int) by omega)]
    by_cases hq : (!okB a.toNat) = true
    · rw [if_pos hq]
      have hq' := hok.1 hq
      repeat' split
      all_goals first | rfl | (exfalso; omega)
    · rw [if_neg hq]
      have hq' : (65 ≤ a.toNat ∧ a.toNat ≤ 90) ∨ (48 ≤ a.toNat ∧ a.toNat ≤ 57) := Decidable.byContradiction fun q => hq (hok.2 q)
      repeat' split
      all_goals first | rfl | (exfalso; omega)) (by
    unfold QG
    rw [if_neg (by omega)])
  have hall : (s.data.toList.any fun b => !okB b.toNat) = !(@decide (qmw s) (Classical.propDecidable _)) := by
    rw [Bool.eq_iff_iff, Bool.not_eq_true', List.any_eq_true, decide_eq_false_iff_not]
    constructor
    · rintro ⟨b, hb, hb2⟩ hA
      obtain ⟨i, hi, e⟩ := List.getElem_of_mem hb
      have := hA i (by omega)
      have e2 : (s[i]'(by omega)) = b := by rw [← e]; rfl
      rw [e2] at this
      rw [this] at hb2
      exact absurd hb2 (by decide)
    · intro hA
      refine Classical.byContradiction fun hn => hA fun i hi => ?_
      refine Classical.byContradiction fun hk => hn ⟨s[i]'hi, ?_, by simpa using hk⟩
      have : (s[i]'hi) = s.data.toList[i]'(by omega) := rfl
      rw [this]
      exact List.getElem_mem _
  unfold Jk
  change Option.bind (qA _ ((0 : Nat) : Int)) _ = _
  rw [h1, hall, Option.bind_some]
  unfold q5s
  by_cases hA : qmw s
  · rw [@decide_eq_true _ (Classical.propDecidable _) hA, if_neg (show ¬ ((!true) = true) by decide), Sum.elim_inr, Bool.and_true]
    by_cases h1 : 1 ≤ s.size
    · rw [if_pos (by omega), decide_eq_true h1, Bool.true_and]
      congr 1
      rw [Bool.eq_iff_iff, decide_eq_true_eq, decide_eq_true_eq]
      omega
    · rw [if_neg (by omega), decide_eq_false h1, Bool.false_and]
  · rw [@decide_eq_false _ (Classical.propDecidable _) hA, if_pos (show (!false) = true by decide), Sum.elim_inl, Bool.and_false]
end Go.Proofs.YtplfjlcnffcenaaGreat.Vc
namespace Go.Proofs.YtplfjlcnffcenaaGreat.Vc
open Go.RowKit
set_option linter.unusedVariables false
set_option linter.unusedSimpArgs false
structure Bnd (n : Nat) (x : qa) : Prop where
  li : x.In.length ≤ n
  lo : x.Out.length ≤ n
  ci : ∀ c ∈ x.In, c.size ≤ 12
  co : ∀ g ∈ x.Out, g.Code.size ≤ 12
noncomputable def q8E (l : List ByteArray) (i : Nat) (c : ByteArray) : Unit ⊕ (Int ⊕ Unit) :=
  if q5s c = true then (if 0 < i then (match l[i - 1]? with | some p => if Go.Op.bytesLess p.toList c.toList = true then .inl () else .inr (.inl 7) | none => .inl ()) else .inl ()) else .inr (.inl 12)
noncomputable def q0b (l : List ByteArray) : Int ⊕ Unit := q8q (fun i (_ : Unit) c => q8E l i c) (fun _ => .inr ()) l 0 ()
theorem q7k (l0 : List ByteArray) : ∀ (l : List ByteArray) (i : Nat) (e : Int), q8q (fun i (_ : Unit) c => q8E l0 i c) (fun _ => (.inr () : Int ⊕ Unit)) l i () = .inl e → e ≠ 0
  | [], i, e, h => by unfold q8q at h; cases h
  | a :: l, i, e, h => by
    unfold q8q at h
    cases hg : q8E l0 i a with
    | inl u => rw [hg] at h; exact q7k l0 l (i + 1) e h
    | inr v =>
      rw [hg] at h
      have h : v = .inl e := h
      subst h
      unfold q8E at hg
      split at hg
      · split at hg
        · split at hg
          · split at hg
            · cases hg
            · injection hg with hg; injection hg with hg; omega
          · cases hg
        · cases hg
      · injection hg with hg; injection hg with hg; omega
theorem qw2 (w1 : List (List ByteArray)) (b0 : qa) (t53 t54 : Int) {l : List ByteArray} (hl : l.length ≤ 1000) : qA (zZ w1 b0 l t53 t54 l ((l.length : Nat) : Int)) (0 : Int) = some (q0b l) := by
  have := q6X (step := zZ w1 b0 l t53 t54 l ((l.length : Nat) : Int)) l (fun (_ : Unit) i => (i : Int)) (fun i (_ : Unit) c => q8E l i c) (fun _ => .inr ()) (fun b i a ha => by
    have hi := Z5 ha
    have hw : w64 ((i : Int) + 1) = ((i + 1 : Nat) : Int) := qF (n := 10000) (by omega) (by omega)
    unfold zZ q8E
    rw [if_pos (by omega), if_pos ⟨by omega, by omega⟩, Int.toNat_natCast, ha, Option.bind_some, qgi, Option.bind_some, hw]
    by_cases hc : q5s a = true
    · rw [if_pos hc, if_neg (by rw [hc]; decide)]
      by_cases h0 : 0 < i
      · have hw2 : w64 ((i : Int) - 1) = ((i - 1 : Nat) : Int) := by rw [zl (by omega) (by omega)]; omega
        have hp : l[i - 1]? = some l[i - 1] := List.getElem?_eq_getElem (by omega)
        rw [if_pos (by omega), if_pos h0, hw2, if_pos ⟨by omega, by omega⟩, Int.toNat_natCast, hp, Option.bind_some]
        dsimp only
        by_cases hb : Go.Op.bytesLess l[i - 1].toList a.toList = true
        · rw [hb, if_neg (by decide), if_pos rfl]
        · rw [Bool.eq_false_iff.2 hb, if_pos (by decide), if_neg (by decide)]
      · rw [if_neg (by omega), if_neg h0]
    · rw [if_neg hc, if_pos (by rw [Bool.eq_false_iff.2 hc]; decide)]) (fun b => by
    unfold zZ
    rw [if_neg (by omega)]) ()
  exact this
theorem qyd {l : List ByteArray} (hl : l.length ≤ 1000) (hs : ∀ c ∈ l, c.size ≤ 12) : qA (Q9 l) (0 : Int) = some (q0b l) := by
  have := q6X (step := Q9 l) l (fun (_ : Unit) i => (i : Int)) (fun i (_ : Unit) c => q8E l i c) (fun _ => .inr ()) (fun b i a ha => by
    have hi := Z5 ha
    have hw : w64 ((i : Int) + 1) = ((i + 1 : Nat) : Int) := qF (n := 10000) (by omega) (by omega)
    have hsz := hs a (List.mem_of_getElem? ha)
    unfold Q9 q8E
    rw [if_pos (by omega), if_pos ⟨by omega, by omega⟩, Int.toNat_natCast, ha, Option.bind_some, qhn (by omega), Option.bind_some, hw]
    by_cases hc : q5s a = true
    · rw [if_pos hc, if_neg (by rw [hc]; decide)]
      by_cases h0 : 0 < i
      · have hw2 : w64 ((i : Int) - 1) = ((i - 1 : Nat) : Int) := by rw [zl (by omega) (by omega)]; omega
        have hp : l[i - 1]? = some l[i - 1] := List.getElem?_eq_getElem (by omega)
        rw [if_pos (by omega), if_pos h0, hw2, if_pos ⟨by omega, by omega⟩, Int.toNat_natCast, hp, Option.bind_some, if_pos ⟨by omega, by omega⟩, Option.bind_some]
        dsimp only
        by_cases hb : Go.Op.bytesLess l[i - 1].toList a.toList = true
        · rw [hb, if_neg (by decide), if_pos rfl]
        · rw [Bool.eq_false_iff.2 hb, if_pos (by decide), if_neg (by decide)]
      · rw [if_neg (by omega), if_neg h0]
    · rw [if_neg hc, if_pos (by rw [Bool.eq_false_iff.2 hc]; decide)]) (fun b => by
    unfold Q9
    rw [if_neg (by omega)]) ()
  exact this
theorem qzA (b0 : qa) {I O : List ByteArray} (hI : I.length ≤ 1000) (hO : O.length ≤ 1000) : qA (qK [I, O] b0 (2 : Int)) (0 : Int) = some (match q0b I with | .inl e => .inl e | .inr _ => q0b O) := by
  have hw0 : w64 ((0 : Int) + 1) = 1 := zl (by omega) (by omega)
  have hw1 : w64 ((1 : Int) + 1) = 2 := zl (by omega) (by omega)
  have s0 : qK [I, O] b0 (2 : Int) (0 : Int) = some (match q0b I with | .inl e => .inr (.inl e) | .inr _ => .inl 1) := by
    unfold qK
    rw [if_pos (by decide), if_pos (by simp), show [I, O][Int.toNat 0]? = some I from rfl, Option.bind_some, qw2 _ _ _ _ hI, Option.bind_some, hw0]
    cases q0b I <;> rfl
  have s1 : qK [I, O] b0 (2 : Int) (1 : Int) = some (match q0b O with | .inl e => .inr (.inl e) | .inr _ => .inl 2) := by
    unfold qK
    rw [if_pos (by decide), if_pos (by simp), show [I, O][Int.toNat 1]? = some O from rfl, Option.bind_some, qw2 _ _ _ _ hO, Option.bind_some, hw1]
    cases q0b O <;> rfl
  have s2 : qK [I, O] b0 (2 : Int) (2 : Int) = some (.inr (.inr ())) := by
    unfold qK
    rw [if_neg (by decide)]
  cases hIe : q0b I with
  | inl e => rw [hIe] at s0; exact qD s0
  | inr u =>
    rw [hIe] at s0
    rw [qM s0]
    cases hOe : q0b O with
    | inl e => rw [hOe] at s1; exact qD s1
    | inr u => rw [hOe] at s1; rw [qM s1, qD s2]
theorem qpJ {l : List qh} (hl : l.length ≤ 1000) : qv l = some (l.any fun g => qY g) := by
  obtain ⟨e, e1, e2⟩ := q7N (step := qz l (l.length : Int)) l (fun g => qY g) (fun i a ha => by
    have hi := Z5 ha
    have hw : w64 ((i : Int) + 1) = ((i + 1 : Nat) : Int) := qF (n := 10000) (by omega) (by omega)
    unfold qz
    rw [if_pos (by omega), if_pos ⟨by omega, by omega⟩, Int.toNat_natCast, ha, Option.bind_some, hw]
    by_cases h : qY a = true
    · rw [if_pos h, if_pos h]
    · rw [if_neg h, if_neg h]) (by
    unfold qz
    rw [if_neg (by omega)])
  unfold qv zb
  change Option.bind (Option.bind (qA _ ((0 : Nat) : Int)) _) _ = _
  rw [e1, Option.bind_some]
  exact e2
theorem qkY {l : List ByteArray} (hl : l.length ≤ 1000) (v : ByteArray) : qX l v = some (l.any fun c => v.toList == c.toList) := by
  obtain ⟨e, e1, e2⟩ := q7N (step := qJ l v (l.length : Int)) l (fun c => v.toList == c.toList) (fun i a ha => by
    have hi := Z5 ha
    have hw : w64 ((i : Int) + 1) = ((i + 1 : Nat) : Int) := qF (n := 10000) (by omega) (by omega)
    unfold qJ
    rw [if_pos (by omega), if_pos ⟨by omega, by omega⟩, Int.toNat_natCast, ha, Option.bind_some, hw]
    by_cases h : (v.toList == a.toList) = true
    · rw [if_pos h, if_pos h]
    · rw [if_neg h, if_neg h]) (by
    unfold qJ
    rw [if_neg (by omega)])
  unfold qX zP
  change Option.bind (Option.bind (qA _ ((0 : Nat) : Int)) _) _ = _
  rw [e1, Option.bind_some]
  exact e2
noncomputable def q5e (x : qa) (g : qh) : Bool := x.In.any fun c => c.toList == g.Code.toList
theorem qjs {x : qa} (hi : x.In.length ≤ 1000) (ho : x.Out.length ≤ 1000) : qr x.Out x = some (x.Out.any (q5e x)) := by
  obtain ⟨e, e1, e2⟩ := q7N (step := qy x x.Out (x.Out.length : Int)) x.Out (q5e x) (fun i a ha => by
    have hi := Z5 ha
    have hw : w64 ((i : Int) + 1) = ((i + 1 : Nat) : Int) := qF (n := 10000) (by omega) (by omega)
    have hc : (x.In.any fun c => a.Code.toList == c.toList) = q5e x a := by
      unfold q5e
      congr 1
      funext c
      exact BEq.comm
    unfold qy
    rw [if_pos (by omega), if_pos ⟨by omega, by omega⟩, Int.toNat_natCast, ha, Option.bind_some, ZL, qkY (by omega), Option.bind_some, Option.bind_some, hc, hw]
    by_cases h : q5e x a = true
    · rw [if_pos h, if_pos h]
    · rw [if_neg h, if_neg h]) (by
    unfold qy
    rw [if_neg (by omega)])
  unfold qr qV
  change Option.bind (Option.bind (qA _ ((0 : Nat) : Int)) _) _ = _
  rw [e1, Option.bind_some]
  exact e2
theorem bey (n lo hi : Int) : (qC n lo hi = true) ↔ (n < lo ∨ hi < n) := by
  unfold qC
  by_cases h : n < lo
  · rw [if_pos h]; simp [h]
  · rw [if_neg h, decide_eq_true_eq]; simp [h]
theorem qj5 {x : qa} (hl : x.Out.length ≤ 1000) : qA (qS x) (0 : Int) = some (if (x.Out.any fun g => qY g) = true then .inl () else .inr ()) := by
  exact q73 (step := qS x) x.Out (fun g => qY g) (fun i a ha => by
    have hi := Z5 ha
    have hw : w64 ((i : Int) + 1) = ((i + 1 : Nat) : Int) := qF (n := 10000) (by omega) (by omega)
    have hb : qY a = true ↔ (a.Credits < 1 ∨ 60 < a.Credits) := bey _ _ _
    unfold qS
    rw [if_pos (by omega), if_pos ⟨by omega, by omega⟩, Int.toNat_natCast, ha, Option.bind_some, hw]
    by_cases h1 : a.Credits < 1
    · rw [if_pos h1, if_pos (hb.2 (.inl h1))]
    · rw [if_neg h1, if_pos ⟨by omega, by omega⟩, Option.bind_some]
      by_cases h2 : 60 < a.Credits
      · rw [if_pos h2, if_pos (hb.2 (.inr h2))]
      · rw [if_neg h2, if_neg (fun q => (hb.1 q).elim h1 h2)]) (by
    unfold qS
    rw [if_neg (by omega)])
theorem qgl {x : qa} (hi : x.In.length ≤ 1000) (ho : x.Out.length ≤ 1000) : qA (qT x) (0 : Int) = some (if (x.From == x.To && x.Out.any (q5e x)) = true then .inl () else .inr ()) := by
  have h1 := q73 (step := qT x) x.Out (fun g => x.From == x.To && q5e x g) (fun i a ha => by
    have hi := Z5 ha
    have hw : w64 ((i : Int) + 1) = ((i + 1 : Nat) : Int) := qF (n := 10000) (by omega) (by omega)
    unfold qT
    rw [if_pos (by omega), hw]
    by_cases hf : (x.From == x.To) = true
    · rw [if_pos hf, if_pos ⟨by omega, by omega⟩, Int.toNat_natCast, ha, Option.bind_some, qdT (by omega), Option.bind_some, hf, Bool.true_and]
      by_cases h : q5e x a = true
      · rw [if_pos h]; exact if_pos h
      · rw [if_neg h]; exact if_neg h
    · rw [if_neg hf, Bool.eq_false_iff.2 hf, Bool.false_and, if_neg (by decide)]) (by
    unfold qT
    rw [if_neg (by omega)])
  have h2 : (x.Out.any fun g => x.From == x.To && q5e x g) = (x.From == x.To && x.Out.any (q5e x)) := by
    cases x.From == x.To
    · simp
    · simp
  rw [h2] at h1
  exact h1
theorem qf4 (c : qd) : qp c = qB c := by
  have hlim : ∀ n lo hi : Int, lo ≤ hi → ((qk n lo hi != n) = true ↔ ¬ (lo ≤ n ∧ n ≤ hi)) := fun n lo hi h => by
    unfold qk
    rw [bne_iff_ne]
    omega
  have hnear : ∀ n : Int, ((!(qO n 1000)) = true ↔ ¬ (-1000 ≤ n ∧ n ≤ 1000)) := fun n => by
    unfold qO
    rw [show w64 ((0 : Int) - 1000) = -1000 from zl (by omega) (by omega)]
    by_cases h : -1000 ≤ n
    · rw [if_pos h]; simp [h]
    · rw [if_neg h]; simp [h]
  unfold qp qB
  simp only [hlim _ 1 1000 (by decide), hlim _ (-1000) 1000 (by decide), hlim _ 1 4 (by decide), hnear]
  repeat' split
  all_goals first | rfl | (exfalso; omega)
theorem qk2 {x : qa} (hl : x.Out.length ≤ 1000) : Zb x = some (x.Out.map (·.Code)) := by
  have key : ∀ (r : List qh) (i : Nat) (out : List ByteArray), r.length + i = x.Out.length → (∀ j, r[j]? = x.Out[i + j]?) → out.length ≤ i → qA (Qt x) (out, (i : Int)) = some (out ++ r.map (·.Code)) := by
    intro r
    induction r with
    | nil =>
      intro i out hi _ _
      refine qD ?_
      unfold Qt
      dsimp only
      rw [if_neg (by simp at hi; omega), List.map_nil, List.append_nil]
    | cons a r ih =>
      intro i out hi hr ho
      simp only [List.length_cons] at hi
      have ha : x.Out[i]? = some a := by have := hr 0; simpa using this.symm
      have hw : w64 ((i : Int) + 1) = ((i + 1 : Nat) : Int) := qF (n := 10000) (by omega) (by omega)
      have hm : (1000000 : Nat) ≤ Go.maxLen := by decide
      rw [qM (y := (out ++ [a.Code], ((i + 1 : Nat) : Int))) ?_, ih (i + 1) _ (by omega) (fun j => ?_) (by rw [List.length_append, List.length_singleton]; omega), List.map_cons, List.append_assoc, List.singleton_append]
      · have := hr (j + 1)
        rw [show i + 1 + j = i + (j + 1) by omega, ← this]; rfl
      · unfold Qt
        dsimp only
        rw [if_pos (by omega), if_pos ⟨by omega, by omega⟩, Int.toNat_natCast, ha, Option.bind_some, if_pos ⟨by omega, by omega⟩, hw]
  have := key x.Out 0 [] (by simp) (by simp) (Nat.le_refl _)
  unfold Zb
  change Option.bind (qA _ ([], ((0 : Nat) : Int))) _ = _
  rw [this, Option.bind_some, List.nil_append]
theorem q6W {x : qa} (h : Bnd 1000 x) : ∃ e, Q0 x = some e ∧ ZQ x = some e := by
  obtain ⟨h1, h2, h3, h4⟩ := h
  have hol : (x.Out.map (·.Code)).length ≤ 1000 := by rw [List.length_map]; exact h2
  have hos : ∀ c ∈ x.Out.map (·.Code), c.size ≤ 12 := fun c hc => by obtain ⟨g, hg, rfl⟩ := List.mem_map.1 hc; exact h4 g hg
  have rc : ∀ l : List ByteArray, l.length ≤ 1000 → (∀ c ∈ l, c.size ≤ 12) → Q1 l = some (match q0b l with | .inl e => e | .inr _ => 0) := fun l hl hs => by
    unfold Q1
    rw [qyd hl hs, Option.bind_some]
    cases q0b l <;> rfl
  have tailR : ∃ e, (Option.bind (Q1 x.In) fun (a : Int) =>
    if (a == (0 : Int)) = Bool.true then Option.bind (Zb x) fun (a2 : List ByteArray) =>
      Option.bind (Q1 a2) fun (a3 : Int) =>
      if (a3 != (0 : Int)) = Bool.true then some a3
      else Option.bind (qA (qS x) (0 : Int)) fun (a4 : Sum Unit Unit) =>
      Sum.elim (fun (a5 : Unit) => some (3 : Int)) (fun (a6 : Unit) => Option.bind (qA (qT x) (0 : Int)) fun (a7 : Sum Unit Unit) =>
        Sum.elim (fun (a8 : Unit) => some (14 : Int)) (fun (a9 : Unit) => some (qB x.Conv)) a7) a4
    else if (a != (0 : Int)) = Bool.true then some a
    else Option.bind (qA (qS x) (0 : Int)) fun (a10 : Sum Unit Unit) =>
    Sum.elim (fun (a11 : Unit) => some (3 : Int)) (fun (a12 : Unit) => Option.bind (qA (qT x) (0 : Int)) fun (a13 : Sum Unit Unit) =>
      Sum.elim (fun (a14 : Unit) => some (14 : Int)) (fun (a15 : Unit) => some (qB x.Conv)) a13) a10) = some e ∧
     (Option.bind (QQ x.Out) fun (a : List ByteArray) =>
    Option.bind (qA (qK [x.In, a] x (2 : Int)) (0 : Int)) fun (a2 : Sum Int Unit) =>
    Sum.elim (fun (a3 : Int) => some a3) (fun (a4 : Unit) => Option.bind (qv x.Out) fun (a5 : Bool) =>
      if a5 = Bool.true then some (3 : Int)
      else if (x.From == x.To) = Bool.true then Option.bind (qr x.Out x) fun (a6 : Bool) =>
        if a6 = Bool.true then some (14 : Int)
        else some (qp x.Conv)
      else some (qp x.Conv)) a2) = some e := by
    rw [rc _ h1 h3, q9J _ h2, qk2 h2, Option.bind_some, Option.bind_some, Option.bind_some, qzA _ h1 hol, Option.bind_some, rc _ hol hos, Option.bind_some, qj5 h2, qgl h1 h2, qpJ h2, qjs h1 h2, Option.bind_some, Option.bind_some, Option.bind_some, Option.bind_some, qf4]
    cases hIe : q0b x.In with
    | inl e =>
      have hne := q7k _ _ _ _ hIe
      dsimp only
      refine ⟨e, ?_, rfl⟩
      rw [if_neg (by simpa using hne), if_pos (by simpa using hne)]
    | inr u =>
      dsimp only
      rw [if_pos (by decide)]
      cases hOe : q0b (x.Out.map (·.Code)) with
      | inl e =>
        have hne := q7k _ _ _ _ hOe
        dsimp only
        refine ⟨e, ?_, rfl⟩
        rw [if_pos (by simpa using hne)]
      | inr u =>
        dsimp only
        rw [if_neg (by decide), Sum.elim_inr]
        by_cases hf : (x.Out.any fun g => qY g) = true
        · rw [if_pos hf, if_pos hf, Sum.elim_inl]
          exact ⟨_, rfl, rfl⟩
        · rw [if_neg hf, if_neg hf, Sum.elim_inr]
          by_cases hft : (x.From == x.To) = true
          · rw [if_pos hft, hft, Bool.true_and]
            by_cases hc : (x.Out.any (q5e x)) = true
            · rw [if_pos hc, if_pos hc, Sum.elim_inl]; exact ⟨_, rfl, rfl⟩
            · rw [if_neg hc, if_neg hc, Sum.elim_inr]; exact ⟨_, rfl, rfl⟩
          · rw [if_neg hft, Bool.eq_false_iff.2 hft, Bool.false_and, if_neg (by decide), Sum.elim_inr]; exact ⟨_, rfl, rfl⟩
  obtain ⟨e, t1, t2⟩ := tailR
  have L : ∃ e', (if qC ((x.In.length : Nat) : Int) (1 : Int) (3 : Int) = Bool.true then some (2 : Int)
    else if qC ((x.Out.length : Nat) : Int) (1 : Int) (3 : Int) = Bool.true then some (2 : Int) else some e) = some e' ∧
    (if ((x.In.length : Nat) : Int) < (1 : Int) then some (2 : Int)
    else if (3 : Int) < ((x.In.length : Nat) : Int) then some (2 : Int)
    else if ((x.Out.length : Nat) : Int) < (1 : Int) then some (2 : Int)
    else if (3 : Int) < ((x.Out.length : Nat) : Int) then some (2 : Int) else some e) = some e' := by
    by_cases d1 : ((x.In.length : Nat) : Int) < (1 : Int)
    · rw [if_pos ((bey _ _ _).2 (.inl d1)), if_pos d1]; exact ⟨_, rfl, rfl⟩
    by_cases d2 : (3 : Int) < ((x.In.length : Nat) : Int)
    · rw [if_pos ((bey _ _ _).2 (.inr d2)), if_neg d1, if_pos d2]; exact ⟨_, rfl, rfl⟩
    rw [if_neg (fun q => ((bey _ _ _).1 q).elim d1 d2), if_neg d1, if_neg d2]
    by_cases d3 : ((x.Out.length : Nat) : Int) < (1 : Int)
    · rw [if_pos ((bey _ _ _).2 (.inl d3)), if_pos d3]; exact ⟨_, rfl, rfl⟩
    by_cases d4 : (3 : Int) < ((x.Out.length : Nat) : Int)
    · rw [if_pos ((bey _ _ _).2 (.inr d4)), if_neg d3, if_pos d4]; exact ⟨_, rfl, rfl⟩
    rw [if_neg (fun q => ((bey _ _ _).1 q).elim d3 d4), if_neg d3, if_neg d4]
    exact ⟨_, rfl, rfl⟩
  obtain ⟨e', l1, l2⟩ := L
  have hr : ∀ n, QH n = Qk n := fun _ => rfl
  unfold Q0 ZQ
  rw [t1, t2, l1, l2, hr, hr]
  by_cases c1 : x.Id < 1
  · rw [if_pos c1, if_pos c1]; exact ⟨_, rfl, rfl⟩
  rw [if_neg c1, if_neg c1]
  by_cases c2 : x.From < 1
  · rw [if_pos ((bey _ _ _).2 (.inl c2)), if_pos c2]; exact ⟨_, rfl, rfl⟩
  by_cases c3 : 8 < x.From
  · rw [if_pos ((bey _ _ _).2 (.inr c3)), if_neg c2, if_pos c3]; exact ⟨_, rfl, rfl⟩
  rw [if_neg (fun q => ((bey _ _ _).1 q).elim c2 c3), if_neg c2, if_neg c3]
  by_cases c4 : x.To < 1
  · rw [if_pos ((bey _ _ _).2 (.inl c4)), if_pos c4]; exact ⟨_, rfl, rfl⟩
  by_cases c5 : 8 < x.To
  · rw [if_pos ((bey _ _ _).2 (.inr c5)), if_neg c4, if_pos c5]; exact ⟨_, rfl, rfl⟩
  rw [if_neg (fun q => ((bey _ _ _).1 q).elim c4 c5), if_neg c4, if_neg c5]
  by_cases c6 : (!(Qk x.Begin)) = true
  · rw [if_pos c6]; exact ⟨_, rfl, rfl⟩
  rw [if_neg c6]
  by_cases c7 : (x.End != 0) = true
  · rw [if_pos c7]
    by_cases c8 : (!(Qk x.End)) = true
    · rw [if_pos c8]; exact ⟨_, rfl, rfl⟩
    rw [if_neg c8]
    by_cases c9 : x.End < x.Begin
    · rw [if_pos c9]; exact ⟨_, rfl, rfl⟩
    rw [if_neg c9]
    exact ⟨_, rfl, rfl⟩
  · rw [if_neg c7]
    exact ⟨_, rfl, rfl⟩
end Go.Proofs.YtplfjlcnffcenaaGreat.Vc
namespace Go.Proofs.YtplfjlcnffcenaaGreat.Vc
open Go.RowKit
set_option linter.unusedVariables false
set_option linter.unusedSimpArgs false
theorem q1J {ε : Type} {step : Int → Option (Int ⊕ ε)} (n : Nat) (p : Nat → Bool) (e0 e1 : ε) (h : ∀ i, i < n → step (i : Int) = some (if p i = true then .inl ((i + 1 : Nat) : Int) else .inr e0)) (hn : step (n : Int) = some (.inr e1)) :
    qA step ((0 : Nat) : Int) = some (if (∀ i, i < n → p i = true) then e1 else e0) := by
  have key : ∀ (j i : Nat), j + i = n → (∀ k, k < i → p k = true) → qA step (i : Int) = some (if (∀ i, i < n → p i = true) then e1 else e0) := by
    intro j
    induction j with
    | zero =>
      intro i hi hk
      rw [Nat.zero_add] at hi
      subst hi
      rw [qD hn, if_pos hk]
    | succ j ih =>
      intro i hi hk
      have hs := h i (by omega)
      by_cases hp : p i = true
      · rw [if_pos hp] at hs
        rw [qM hs]
        refine ih (i + 1) (by omega) fun k hk2 => ?_
        rcases Nat.lt_or_ge k i with h1 | h1
        · exact hk k h1
        · have : k = i := by omega
          rw [this]; exact hp
      · rw [if_neg hp] at hs
        rw [qD hs, if_neg fun h2 => hp (h2 i (by omega))]
  exact key n 0 (by omega) fun k hk => by omega
def qfo (a : qa) (x : qb) (c : ByteArray) : Bool := x.Course.School == a.From && ByteArray.toList x.Course.Code == ByteArray.toList c
structure Sml (y : List qb) : Prop where
  src : ∀ x ∈ y, x.Sources.length ≤ 4194304
  pth : ∀ x ∈ y, x.Path.length ≤ 4194304
structure Aps (a : qa) (y : List qb) : Prop where
  len : y.length = a.In.length
  crs : ∀ (k : Nat) (x : qb) (c : ByteArray), y[k]? = some x → a.In[k]? = some c → qfo a x c = true
  pth : ∀ x ∈ y, ∀ z, y[0]? = some z → x.Path = z.Path
  dis : (y.map (·.Sources)).Pairwise (fun u v => Zx u v = true)
  val : Za a (q8s y) = true
theorem q7f {a : qa} (h : Q0 a = some 0) : 1 ≤ a.In.length ∧ a.In.length ≤ 3 := by
  by_cases hb : qC ((a.In.length : Nat) : Int) (1 : Int) (3 : Int) = true
  · exfalso
    unfold Q0 at h
    simp only [hb, if_true] at h
    repeat' split at h
    all_goals simp at h
  · unfold qC at hb
    simp at hb
    omega
theorem q9x {a : qa} (hb : Bnd 1000 a) {y : List qb} (hy : Sml y) : ∃ b, Q3 a y = some b ∧ (b = true ↔ Q0 a = some 0 ∧ Aps a y) := by
  obtain ⟨e, he, _⟩ := q6W hb
  suffices h : ∃ b, Q3 a y = some b ∧ (b = true ↔ e = 0 ∧ Aps a y) by
    obtain ⟨b, h1, h2⟩ := h
    exact ⟨b, h1, h2.trans ⟨fun q => ⟨by rw [he, q.1], q.2⟩, fun q => ⟨by have := q.1; rw [he] at this; injection this, q.2⟩⟩⟩
  unfold Q3
  rw [he, Option.bind_some]
  by_cases h0 : e = 0
  · subst h0
    have hin := q7f he
    rw [if_neg (by decide)]
    by_cases hl : y.length = a.In.length
    · rw [if_neg (by rw [hl]; simp)]
      have hz : y[0]? = some (y[0]'(by omega)) := List.getElem?_eq_getElem (by omega)
      generalize y[0]'(by omega) = z at hz
      have hgood : ∀ i (hi : i < y.length), zQ a y y ((y.length : Nat) : Int) (i : Int) = some (if (qfo a y[i] (a.In[i]'(by omega)) && decide (y[i].Path = z.Path)) = true then .inl ((i + 1 : Nat) : Int) else .inr (.inl ())) := fun i hi => by
        have hw : w64 ((i : Int) + 1) = ((i + 1 : Nat) : Int) := qF (n := 10000000) (by omega) (by omega)
        have h2 : a.In[i]? = some (a.In[i]'(by omega)) := List.getElem?_eq_getElem (by omega)
        unfold zQ
        rw [if_pos (by omega), if_pos ⟨by omega, by omega⟩, Int.toNat_natCast, List.getElem?_eq_getElem hi, Option.bind_some, if_pos ⟨by omega, by omega⟩, h2, Option.bind_some]
        by_cases g1 : qfo a y[i] (a.In[i]'(by omega)) = true
        · have g1' : (y[i].Course.School == a.From && ByteArray.toList y[i].Course.Code == ByteArray.toList (a.In[i]'(by omega))) = true := g1
          rw [if_neg (by rw [g1']; decide), if_pos (by omega), hz, Option.bind_some, qdh (hy.pth _ (List.getElem_mem hi)), Option.bind_some, g1, Bool.true_and, hw]
          by_cases g2 : y[i].Path = z.Path
          · rw [if_neg (by rw [decide_eq_true g2]; decide), if_pos (decide_eq_true g2)]
          · rw [if_pos (by rw [decide_eq_false g2]; decide), if_neg (by rw [decide_eq_false g2]; decide)]
        · have g1' : (y[i].Course.School == a.From && ByteArray.toList y[i].Course.Code == ByteArray.toList (a.In[i]'(by omega))) = false := Bool.eq_false_iff.2 g1
          rw [if_pos (by rw [g1']; decide), Bool.eq_false_iff.2 g1, Bool.false_and, if_neg (by decide)]
      have hloop := q1J (step := zQ a y y ((y.length : Nat) : Int)) y.length (fun i => if hi : i < y.length then qfo a y[i] (a.In[i]'(by omega)) && decide (y[i].Path = z.Path) else true) (.inl ()) (.inr ()) (fun i hi => by
        rw [hgood i hi]
        simp only [dif_pos hi]) (by
        unfold zQ
        rw [if_neg (by omega)])
      change ∃ b, Option.bind (qA _ ((0 : Nat) : Int)) _ = some b ∧ _
      rw [hloop, Option.bind_some, q6B (by omega), qbr (by omega) (by omega), Option.bind_some, qat (by rw [List.length_map]; omega) (fun x hx => by
        obtain ⟨u, hu, rfl⟩ := List.mem_map.1 hx
        exact hy.src u hu), Option.bind_some, Option.bind_some]
      have hap := q5V (y.map (·.Sources)) [] true
      by_cases hall : ∀ i, i < y.length → (fun i => if hi : i < y.length then qfo a y[i] (a.In[i]'(by omega)) && decide (y[i].Path = z.Path) else true) i = true
      · rw [if_pos hall, Sum.elim_inr]
        have hcp : ∀ i (hi : i < y.length), qfo a y[i] (a.In[i]'(by omega)) = true ∧ y[i].Path = z.Path := fun i hi => by
          have := hall i hi
          simp only [dif_pos hi] at this
          rw [Bool.and_eq_true, decide_eq_true_eq] at this
          exact this
        dsimp only
        by_cases ho : (q0D [] true (y.map (·.Sources))).2 = true
        · rw [if_pos ho]
          refine ⟨_, rfl, fun hv => ⟨rfl, hl, fun k x c hx hc => ?_, fun x hx w hw => ?_, (hap.1 ho).2.2, hv⟩, fun h => h.2.val⟩
          · obtain ⟨h1, h2⟩ := List.getElem?_eq_some_iff.1 hx
            obtain ⟨h3, h4⟩ := List.getElem?_eq_some_iff.1 hc
            have := (hcp k h1).1
            rw [h2, h4] at this
            exact this
          · obtain ⟨k, hk, rfl⟩ := List.getElem_of_mem hx
            rw [hz] at hw
            injection hw with hw
            rw [(hcp k hk).2, hw]
        · rw [if_neg ho]
          refine ⟨_, rfl, (fun h => by cases h), fun h => ?_⟩
          exact absurd (hap.2 ⟨rfl, fun l _ => (JI _ _).2 (fun n _ hn => by cases hn), h.2.dis⟩) ho
      · rw [if_neg hall, Sum.elim_inl]
        refine ⟨_, rfl, (fun h => by cases h), fun h => ?_⟩
        refine absurd (fun i hi => ?_) hall
        simp only [dif_pos hi]
        rw [Bool.and_eq_true, decide_eq_true_eq]
        exact ⟨h.2.crs i _ _ (List.getElem?_eq_getElem hi) (List.getElem?_eq_getElem (by omega)), h.2.pth _ (List.getElem_mem hi) z hz⟩
    · rw [if_pos (by simp; omega)]
      exact ⟨_, rfl, (fun h => by cases h), fun h => absurd h.2.len hl⟩
  · rw [if_pos (by simpa using h0)]
    exact ⟨_, rfl, (fun h => by cases h), fun h => absurd h.1 h0⟩
end Go.Proofs.YtplfjlcnffcenaaGreat.Vc
namespace Go.Proofs.YtplfjlcnffcenaaGreat.Vc
open Go.RowKit
set_option linter.unusedVariables false
set_option linter.unusedSimpArgs false
theorem q1n {l m : List Int} (hl : l.length ≤ 1000000000) : Qc l m = some (decide (l = m)) := by
  unfold Qc
  by_cases hlen : l.length = m.length
  · rw [if_neg (by rw [hlen]; simp)]
    have h := q1J (step := zY l m) l.length (fun i => decide (l[i]? = m[i]?)) (.inl ()) (.inr ()) (fun i hi => by
      have hw : w64 ((i : Int) + 1) = ((i + 1 : Nat) : Int) := qF (n := 10000000000) (by omega) (by omega)
      have ha : l[i]? = some l[i] := List.getElem?_eq_getElem hi
      have hb : m[i]? = some (m[i]'(by omega)) := List.getElem?_eq_getElem (by omega)
      generalize l[i] = a at ha
      generalize m[i]'(by omega) = b at hb
      unfold zY
      rw [if_pos (by omega), if_pos ⟨by omega, by omega⟩, Int.toNat_natCast, ha, Option.bind_some, if_pos ⟨by omega, by omega⟩, hb, Option.bind_some, hw]
      by_cases e : a = b
      · rw [if_neg (by rw [e]; simp), if_pos (by rw [e]; simp)]
      · rw [if_pos (by simpa using e), if_neg (by simpa using e)]) (by
      unfold zY
      rw [if_neg (by omega)])
    change Option.bind (qA _ ((0 : Nat) : Int)) _ = _
    rw [h, Option.bind_some]
    by_cases e : l = m
    · rw [if_pos (fun i _ => by rw [e]; simp), decide_eq_true e]; rfl
    · rw [if_neg (fun q => e (List.ext_getElem? fun i => by
        by_cases hi : i < l.length
        · exact of_decide_eq_true (q i hi)
        · rw [List.getElem?_eq_none (by omega), List.getElem?_eq_none (by omega)])), decide_eq_false e]; rfl
  · rw [if_pos (by simp; omega), decide_eq_false (fun e => hlen (by rw [e]))]
def qma (a b : List Int) (k : Nat) : Bool := match a[k]? with
  | some n => !decide (n ∈ b)
  | none => true
theorem q6x {a b : List Int} (ha : a.length ≤ 100000000) (hb : b.length ≤ 100000000) : ∃ c, Qy a b = some c ∧ (c = true ↔ ∃ n ∈ a, n ∈ b) := by
  have h5 : ∀ (k : Nat) (n : Int), a[k]? = some n → qA (zM a b (k : Int)) ((0 : Nat) : Int) = some (if (∀ i, i < b.length → (fun i => decide (b[i]? ≠ some n)) i = true) then .inr () else .inl ()) := fun k n hk => by
    have hkl := Z5 hk
    refine q1J (step := zM a b (k : Int)) b.length (fun i => decide (b[i]? ≠ some n)) (.inl ()) (.inr ()) (fun i hi => ?_) ?_
    · have hw : w64 ((i : Int) + 1) = ((i + 1 : Nat) : Int) := qF (n := 1000000000) (by omega) (by omega)
      have hbi : b[i]? = some b[i] := List.getElem?_eq_getElem hi
      generalize b[i] = z at hbi
      unfold zM
      rw [if_pos (by omega), if_pos ⟨by omega, by omega⟩, Int.toNat_natCast, hk, Option.bind_some, if_pos ⟨by omega, by omega⟩, Int.toNat_natCast, hbi, Option.bind_some, hw]
      by_cases e : n = z
      · rw [if_pos (by simpa using e), if_neg (by rw [e]; simp)]
      · rw [if_neg (by simpa using e), if_pos (by simpa using fun q => e q.symm)]
    · unfold zM
      rw [if_neg (by omega)]
  have h2 := q1J (step := Qo a b) a.length (qma a b) (.inl ()) (.inr ()) (fun k hk => by
    have hw : w64 ((k : Int) + 1) = ((k + 1 : Nat) : Int) := qF (n := 1000000000) (by omega) (by omega)
    have hak : a[k]? = some a[k] := List.getElem?_eq_getElem hk
    generalize a[k] = n at hak
    have h5k := h5 k n hak
    unfold Qo
    rw [if_pos (by omega)]
    change Option.bind (qA (zM a b (k : Int)) ((0 : Nat) : Int)) _ = _
    rw [h5k, Option.bind_some, hw]
    have hO : qma a b k = !decide (n ∈ b) := by unfold qma; rw [hak]
    rw [hO]
    by_cases e : n ∈ b
    · obtain ⟨i, hi⟩ := List.mem_iff_getElem?.1 e
      rw [if_neg (fun q => by have := q i (Z5 hi); simp [hi] at this), decide_eq_true e, if_neg (by decide)]
      rfl
    · rw [if_pos (fun i hi => by
        refine decide_eq_true fun q => e (List.mem_iff_getElem?.2 ⟨i, q⟩)), decide_eq_false e, if_pos (by decide)]
      rfl) (by
    unfold Qo
    rw [if_neg (by omega)])
  unfold Qy
  change ∃ c, Option.bind (qA _ ((0 : Nat) : Int)) _ = some c ∧ _
  rw [h2, Option.bind_some]
  by_cases hall : ∀ k, k < a.length → qma a b k = true
  · rw [if_pos hall]
    refine ⟨false, rfl, (fun h => by cases h), fun e => ?_⟩
    obtain ⟨n, h1, h2⟩ := e
    obtain ⟨k, hk⟩ := List.mem_iff_getElem?.1 h1
    have := hall k (Z5 hk)
    unfold qma at this
    rw [hk] at this
    simp [h2] at this
  · rw [if_neg hall]
    refine ⟨true, rfl, fun _ => ?_, fun _ => rfl⟩
    refine Classical.byContradiction fun e => hall fun k hk => ?_
    have hak : a[k]? = some a[k] := List.getElem?_eq_getElem hk
    unfold qma
    rw [hak]
    have : a[k] ∉ b := fun h => e ⟨a[k], List.getElem_mem hk, h⟩
    simp [this]
theorem q8A {x : List qb} (h0 : 1 ≤ x.length) (h1 : x.length ≤ 1000) : ZB x = some (q8s x) := by
  obtain ⟨y, r, rfl⟩ : ∃ y r, x = y :: r := by cases x with | nil => simp at h0 | cons y r => exact ⟨y, r, rfl⟩
  have hr : r.length ≤ 999 := by simp only [List.length_cons] at h1; omega
  have hl : (y :: r).length = r.length + 1 := by simp
  have h2 := q6Q (step := zT (y :: r)) (r.map (·.Day)) (fun b i => (b, ((i + 1 : Nat) : Int))) max (fun b => b) (fun b i d ha => by
    have hi := Z5 ha
    rw [List.length_map] at hi
    rw [List.getElem?_map] at ha
    obtain ⟨a, ha2, rfl⟩ := Option.map_eq_some_iff.1 ha
    have hw : w64 (((i + 1 : Nat) : Int) + 1) = ((i + 1 + 1 : Nat) : Int) := qF (n := 10000) (by omega) (by omega)
    unfold zT
    dsimp only
    rw [hl, if_pos (by omega), if_neg (by simp; omega), if_pos ⟨by omega, by omega⟩, Int.toNat_natCast, List.getElem?_cons_succ, ha2, Option.bind_some, hw]
    by_cases e : b < a.Day
    · rw [if_pos e, if_pos ⟨by omega, by omega⟩, Option.bind_some, show max b a.Day = a.Day by omega]
    · rw [if_neg e, show max b a.Day = b by omega]) (fun b => by
    unfold zT
    dsimp only
    rw [hl, if_neg (by rw [List.length_map]; omega)]) y.Day
  have h3 : qA (zT (y :: r)) ((0 : Int), (0 : Int)) = qA (zT (y :: r)) (y.Day, ((0 + 1 : Nat) : Int)) := qM (by
    unfold zT
    dsimp only
    rw [hl, if_pos (by omega), if_pos (by decide), if_pos ⟨by omega, by omega⟩, show Int.toNat 0 = 0 from rfl, List.getElem?_cons_zero, Option.bind_some, zl (by omega) (by omega)]
    rfl)
  unfold ZB
  rw [h3, h2, Option.bind_some]
  rfl
def q5p (y : List qb) (k i : Nat) : Bool := match y[i]?, y[k]? with
  | some u, some v => decide (u.Path = v.Path) && Zx u.Sources v.Sources
  | _, _ => true
def qhC (a : qa) (y : List qb) (k : Nat) : Bool := match y[k]?, a.In[k]? with
  | some x, some c => qfo a x c
  | _, _ => true
theorem q7X {a : qa} (hb : Bnd 1000 a) {y : List qb} (hy : Sml y) : ∃ b, Qr a y = some b ∧ (b = true ↔ Q0 a = some 0 ∧ Aps a y) := by
  obtain ⟨e, he0, he⟩ := q6W hb
  unfold Qr
  rw [he, Option.bind_some]
  by_cases h0 : e = 0
  · subst h0
    have hin := q7f he0
    rw [if_neg (by decide)]
    by_cases hl : y.length = a.In.length
    · rw [if_neg (by rw [hl]; simp)]
      have h9 : ∀ k, k < y.length → qA (zF a y (k : Int)) ((0 : Nat) : Int) = some (if (∀ i, i < k → q5p y k i = true) then .inr () else .inl ()) := fun k hk => by
        refine q1J (step := zF a y (k : Int)) k (q5p y k) (.inl ()) (.inr ()) (fun i hi => ?_) ?_
        · have hw : w64 ((i : Int) + 1) = ((i + 1 : Nat) : Int) := qF (n := 1000000000) (by omega) (by omega)
          have hyi : y[i]? = some (y[i]'(by omega)) := List.getElem?_eq_getElem (by omega)
          have hyk : y[k]? = some y[k] := List.getElem?_eq_getElem hk
          have mi := List.mem_of_getElem? hyi
          have mk := List.mem_of_getElem? hyk
          generalize y[i]'(by omega) = u at hyi mi
          generalize y[k] = v at hyk mk
          have s1 := hy.src u mi
          have s2 := hy.src v mk
          obtain ⟨c, hc1, hc2⟩ := q6x (a := u.Sources) (b := v.Sources) (by omega) (by omega)
          have hcf : Zx u.Sources v.Sources = !c := by
            cases c
            · rw [Bool.not_false, JI]
              intro n hn hn2
              exact absurd (hc2.2 ⟨n, hn2, hn⟩) (by decide)
            · rw [Bool.not_true]
              refine Bool.eq_false_iff.2 fun q => ?_
              obtain ⟨n, h1, h2⟩ := hc2.1 rfl
              exact (JI _ _).1 q n h2 h1
          have hpB : q5p y k i = (decide (u.Path = v.Path) && !c) := by
            unfold q5p
            rw [hyi, hyk]
            show (decide (u.Path = v.Path) && Zx u.Sources v.Sources) = _
            rw [hcf]
          rw [hpB]
          unfold zF
          rw [if_pos (by omega), if_pos ⟨by omega, by omega⟩, Int.toNat_natCast, Int.toNat_natCast, hyi, hyk, Option.bind_some, if_pos ⟨by omega, by omega⟩, Option.bind_some, q1n (by have := hy.pth u mi; omega), Option.bind_some]
          by_cases g1 : u.Path = v.Path
          · rw [decide_eq_true g1, if_neg (by decide), if_pos ⟨by omega, by omega⟩, Option.bind_some, if_pos ⟨by omega, by omega⟩, Option.bind_some, hc1, Option.bind_some, hw, Bool.true_and]
            cases c <;> rfl
          · rw [decide_eq_false g1, if_pos (by decide), Bool.false_and, if_neg (by decide)]
        · unfold zF
          rw [if_neg (by omega)]
      have h4 := q1J (step := Q7 a y) y.length (fun k => qhC a y k && decide (∀ i, i < k → q5p y k i = true)) (.inl ()) (.inr ()) (fun k hk => by
        have hw : w64 ((k : Int) + 1) = ((k + 1 : Nat) : Int) := qF (n := 1000000000) (by omega) (by omega)
        have hyk : y[k]? = some y[k] := List.getElem?_eq_getElem hk
        have hik : a.In[k]? = some (a.In[k]'(by omega)) := List.getElem?_eq_getElem (by omega)
        generalize y[k] = v at hyk
        generalize a.In[k]'(by omega) = c at hik
        have h9k := h9 k hk
        have hcr : qhC a y k = qfo a v c := by unfold qhC; rw [hyk, hik]
        unfold Q7
        rw [if_pos (by omega), if_pos ⟨by omega, by omega⟩, Int.toNat_natCast, hyk, Option.bind_some, if_pos ⟨by omega, by omega⟩, hik, Option.bind_some]
        change (if (!qfo a v c) = true then _ else Option.bind (qA (zF a y (k : Int)) ((0 : Nat) : Int)) _) = _
        rw [h9k, Option.bind_some, hcr, hw]
        by_cases g1 : qfo a v c = true
        · rw [if_neg (by rw [g1]; decide), g1, Bool.true_and]
          by_cases g2 : ∀ i, i < k → q5p y k i = true
          · rw [if_pos g2, if_pos (decide_eq_true g2)]; rfl
          · rw [if_neg g2, if_neg (by rw [decide_eq_false g2]; decide)]; rfl
        · rw [if_pos (by rw [Bool.eq_false_iff.2 g1]; decide), Bool.eq_false_iff.2 g1, Bool.false_and, if_neg (by decide)]) (by
        unfold Q7
        rw [if_neg (by omega)])
      change ∃ b, Option.bind (qA _ ((0 : Nat) : Int)) _ = some b ∧ _
      rw [h4, Option.bind_some, q8A (by omega) (by omega), Option.bind_some]
      by_cases hall : ∀ k, k < y.length → (fun k => qhC a y k && decide (∀ i, i < k → q5p y k i = true)) k = true
      · rw [if_pos hall, Sum.elim_inr]
        have hk2 : ∀ k, k < y.length → qhC a y k = true ∧ ∀ i, i < k → q5p y k i = true := fun k hk => by
          have := hall k hk
          simp only at this
          rw [Bool.and_eq_true, decide_eq_true_eq] at this
          exact this
        have hpair : ∀ i k (hi : i < y.length) (hk : k < y.length), i < k → y[i].Path = y[k].Path ∧ Zx y[i].Sources y[k].Sources = true := fun i k hi hk hik => by
          have := (hk2 k hk).2 i hik
          unfold q5p at this
          rw [List.getElem?_eq_getElem hi, List.getElem?_eq_getElem hk] at this
          dsimp only at this
          rw [Bool.and_eq_true, decide_eq_true_eq] at this
          exact this
        refine ⟨_, rfl, fun hv => ⟨he0, hl, fun k x c hx hc => ?_, fun x hx z hz => ?_, ?_, hv⟩, fun h => h.2.val⟩
        · have := (hk2 k (Z5 hx)).1
          unfold qhC at this
          rw [hx, hc] at this
          exact this
        · obtain ⟨k, hk, rfl⟩ := List.getElem_of_mem hx
          obtain ⟨h01, h02⟩ := List.getElem?_eq_some_iff.1 hz
          rcases Nat.eq_zero_or_pos k with e | e
          · subst e; rw [h02]
          · have := (hpair 0 k h01 hk e).1
            rw [h02] at this
            exact this.symm
        · rw [List.pairwise_map, List.pairwise_iff_getElem]
          intro i j hi hj hij
          exact (hpair i j hi hj hij).2
      · rw [if_neg hall, Sum.elim_inl]
        refine ⟨_, rfl, (fun h => by cases h), fun h => ?_⟩
        refine absurd (fun k hk => ?_) hall
        have hd := h.2.dis
        rw [List.pairwise_map, List.pairwise_iff_getElem] at hd
        show (qhC a y k && decide (∀ i, i < k → q5p y k i = true)) = true
        rw [Bool.and_eq_true, decide_eq_true_eq]
        have hyk : y[k]? = some y[k] := List.getElem?_eq_getElem hk
        have hik : a.In[k]? = some (a.In[k]'(by omega)) := List.getElem?_eq_getElem (by omega)
        refine ⟨?_, fun i hi => ?_⟩
        · unfold qhC
          rw [hyk, hik]
          exact h.2.crs k _ _ hyk hik
        · have hyi : y[i]? = some (y[i]'(by omega)) := List.getElem?_eq_getElem (by omega)
          have hy0 : y[0]? = some (y[0]'(by omega)) := List.getElem?_eq_getElem (by omega)
          unfold q5p
          rw [hyi, hyk]
          dsimp only
          rw [Bool.and_eq_true, decide_eq_true_eq]
          exact ⟨(h.2.pth _ (List.mem_of_getElem? hyi) _ hy0).trans (h.2.pth _ (List.mem_of_getElem? hyk) _ hy0).symm, hd i k (by omega) hk hi⟩
    · rw [if_pos (by simp; omega)]
      exact ⟨_, rfl, (fun h => by cases h), fun h => absurd h.2.len hl⟩
  · rw [if_pos (by simpa using h0)]
    refine ⟨_, rfl, (fun h => by cases h), fun h => ?_⟩
    have := h.1
    rw [he0] at this
    injection this with this
    exact absurd this h0
theorem q4u {a : qa} (hb : Bnd 1000 a) {y : List qb} (hy : Sml y) : ∃ b, Q3 a y = some b ∧ Qr a y = some b ∧ (b = true → Q0 a = some 0 ∧ Aps a y) := by
  obtain ⟨b, h1, h2⟩ := q9x hb hy
  obtain ⟨c, h3, h4⟩ := q7X hb hy
  have : b = c := by
    rw [Bool.eq_iff_iff]
    exact h2.trans h4.symm
  subst this
  exact ⟨b, h1, h3, h2.1⟩
end Go.Proofs.YtplfjlcnffcenaaGreat.Vc
namespace Go.Proofs.YtplfjlcnffcenaaGreat.Vc
open Go.RowKit
set_option linter.unusedVariables false
set_option linter.unusedSimpArgs false
theorem qcn {n : Int} (h0 : 0 ≤ n) (h1 : n ≤ 9223372036854775807) : IntKind.wrap .u64 n = n := by
  simp only [IntKind.wrap, IntKind.bits, IntKind.signed]
  simp
  omega
theorem qeh (t6 : List Int) (t7 t8 : Int) : ∀ (n b : Nat), b ≤ n → ∀ a : Nat, qA (Qz t6 t7 t8) ((a : Int), (b : Int)) = some ((Nat.gcd a b : Nat) : Int)
  | n, 0, _, a => by
    refine qD ?_
    unfold Qz
    dsimp only
    rw [if_neg (by simp), Nat.gcd_zero_right]
  | 0, b + 1, h, a => by omega
  | n + 1, b + 1, h, a => by
    have hlt := Nat.mod_lt a (show 0 < b + 1 by omega)
    have ih := qeh t6 t7 t8 n (a % (b + 1)) (by omega) (b + 1)
    have e : Nat.gcd (b + 1) (a % (b + 1)) = Nat.gcd a (b + 1) := by rw [Nat.gcd_comm, ← Nat.gcd_rec, Nat.gcd_comm]
    rw [e] at ih
    rw [qM (y := (((b + 1 : Nat) : Int), ((a % (b + 1) : Nat) : Int))) ?_, ih]
    unfold Qz
    dsimp only
    have hne : ¬ ((b + 1 : Nat) : Int) = 0 := by omega
    rw [if_pos (by simpa using hne), if_neg hne, Int.ofNat_tmod]
theorem qot (s t : Nat) : ZA [(s : Int), (t : Int)] = some ((Nat.gcd s t : Nat) : Int) := by
  have h1 := qeh [(s : Int), (t : Int)] (([(s : Int), (t : Int)].length : Nat) : Int) (0 : Int) s s (Nat.le_refl _) 0
  have h2 := qeh [(s : Int), (t : Int)] (([(s : Int), (t : Int)].length : Nat) : Int) (1 : Int) t t (Nat.le_refl _) s
  rw [Nat.gcd_zero_left] at h1
  have h1' : qA (Qz [(s : Int), (t : Int)] (([(s : Int), (t : Int)].length : Nat) : Int) (0 : Int)) ((0 : Int), (s : Int)) = some (s : Int) := h1
  have hw0 : w64 ((0 : Int) + 1) = 1 := zl (by omega) (by omega)
  have hw1 : w64 ((1 : Int) + 1) = 2 := zl (by omega) (by omega)
  have r0 : Q2 [(s : Int), (t : Int)] (([(s : Int), (t : Int)].length : Nat) : Int) ((0 : Int), (0 : Int)) = some (.inl ((s : Int), (1 : Int))) := by
    unfold Q2
    dsimp only
    rw [if_pos (by simp), if_pos (by simp), show [(s : Int), (t : Int)][Int.toNat 0]? = some (s : Int) from rfl, Option.bind_some, h1', Option.bind_some, hw0]
  have r1 : Q2 [(s : Int), (t : Int)] (([(s : Int), (t : Int)].length : Nat) : Int) ((s : Int), (1 : Int)) = some (.inl (((Nat.gcd s t : Nat) : Int), (2 : Int))) := by
    unfold Q2
    dsimp only
    rw [if_pos (by simp), if_pos (by simp), show [(s : Int), (t : Int)][Int.toNat 1]? = some (t : Int) from rfl, Option.bind_some, h2, Option.bind_some, hw1]
  have r2 : Q2 [(s : Int), (t : Int)] (([(s : Int), (t : Int)].length : Nat) : Int) (((Nat.gcd s t : Nat) : Int), (2 : Int)) = some (.inr ((Nat.gcd s t : Nat) : Int)) := by
    unfold Q2
    dsimp only
    rw [if_neg (by simp)]
  unfold ZA
  rw [qM r0, qM r1, qD r2, Option.bind_some]
theorem qcM {n : Int} (h0 : 0 ≤ n) (h1 : n ≤ 9223372036854775807) : qx n = n := by
  unfold qx
  rw [if_neg (by omega), qcn h0 h1]
end Go.Proofs.YtplfjlcnffcenaaGreat.Vc
namespace Go.Proofs.YtplfjlcnffcenaaGreat.Vc
open Go.RowKit
set_option linter.unusedVariables false
set_option linter.unusedSimpArgs false
theorem qfB {l : List Int} (h : l.Nodup) : Inc (q01 l) := by
  have h1 := q1C l
  have h2 := (q0t l).nodup_iff.2 h
  unfold Inc
  exact (List.pairwise_and_iff.2 ⟨h1, h2⟩).imp fun ⟨a, b⟩ => by omega
theorem qgH {l : List Int} (x : Int) : x ∈ q01 l ↔ x ∈ l := (q0t l).mem_iff
def q0m (n d : Int) : Int := n.fdiv d
def qm0 (n d how : Int) : Int := if how = 1 then q0m n d else if how = 2 then (if 0 < n - q0m n d * d then q0m n d + 1 else q0m n d)
  else if how = 3 then (if d ≤ 2 * (n - q0m n d * d) then q0m n d + 1 else q0m n d)
  else if d < 2 * (n - q0m n d * d) ∨ 2 * (n - q0m n d * d) = d ∧ Int.tmod (q0m n d) 2 ≠ 0 then q0m n d + 1 else q0m n d
theorem q7H {n d : Int} (hd : 0 < d) : 0 ≤ n - q0m n d * d ∧ n - q0m n d * d < d := by
  have h1 := Int.mul_fdiv_add_fmod n d
  have h2 := Int.fmod_nonneg_of_pos n hd
  have h3 := Int.fmod_lt_of_pos n hd
  unfold q0m
  rw [Int.mul_comm] at h1
  omega
theorem qbh {n d : Int} (hd : 0 < d) : q0m n d = (if Int.tmod n d < 0 then Int.tdiv n d - 1 else Int.tdiv n d) := by
  have h1 := Int.mul_tdiv_add_tmod n d
  have h2 := q7H (n := n) hd
  generalize q0m n d = q at h2
  have hr : -d < Int.tmod n d ∧ Int.tmod n d < d := by
    have h3 := Int.tmod_lt_of_pos n hd
    have h4 := Int.lt_tmod_of_pos n hd
    exact ⟨h4, h3⟩
  generalize Int.tdiv n d = t at h1
  generalize Int.tmod n d = r at h1 hr
  rw [Int.mul_comm] at h1
  split
  · have : (q - (t - 1)) * d = r + d - (n - q * d) := by
      rw [← h1, Int.sub_mul, Int.sub_mul]; omega
    have hq : q - (t - 1) = 0 := by
      rcases Int.lt_trichotomy (q - (t - 1)) 0 with g | g | g
      · have := Int.mul_le_mul_of_nonneg_right (show q - (t - 1) ≤ -1 by omega) (Int.le_of_lt hd)
        omega
      · exact g
      · have := Int.mul_le_mul_of_nonneg_right (show 1 ≤ q - (t - 1) by omega) (Int.le_of_lt hd)
        omega
    omega
  · have : (q - t) * d = r - (n - q * d) := by
      rw [← h1, Int.sub_mul]; omega
    have hq : q - t = 0 := by
      rcases Int.lt_trichotomy (q - t) 0 with g | g | g
      · have := Int.mul_le_mul_of_nonneg_right (show q - t ≤ -1 by omega) (Int.le_of_lt hd)
        omega
      · exact g
      · have := Int.mul_le_mul_of_nonneg_right (show 1 ≤ q - t by omega) (Int.le_of_lt hd)
        omega
    omega
theorem qcl {n d m : Int} (hd : 0 < d) (h : -m ≤ n ∧ n ≤ m) : -m ≤ Int.tdiv n d ∧ Int.tdiv n d ≤ m := by
  have h1 : (Int.tdiv n d).natAbs ≤ n.natAbs := by
    rw [Int.natAbs_tdiv]
    exact Nat.div_le_self _ _
  omega
theorem qbV {n d how : Int} (hd : 0 < d) (hd2 : d ≤ 1000000000000000) (hn : -1000000000000000 ≤ n ∧ n ≤ 1000000000000000) (h : 1 ≤ how ∧ how ≤ 4) : Z9 n d how = some (qm0 n d how) := by
  have hl := q7H (n := n) hd
  have ht := qbh (n := n) hd
  have hb := qcl hd hn
  have hh : how = 1 ∨ how = 2 ∨ how = 3 ∨ how = 4 := by omega
  have w1 : w64 (Int.tdiv n d) = Int.tdiv n d := zl (by omega) (by omega)
  have w2 : w64 (Int.tdiv n d - 1) = Int.tdiv n d - 1 := zl (by omega) (by omega)
  have hp : -1000000000000000 - d ≤ q0m n d * d ∧ q0m n d * d ≤ 1000000000000000 := by omega
  have w3 : w64 (q0m n d * d) = q0m n d * d := zl (by omega) (by omega)
  have w4 : w64 (n - q0m n d * d) = n - q0m n d * d := zl (by omega) (by omega)
  have w5 : w64 (2 * (n - q0m n d * d)) = 2 * (n - q0m n d * d) := zl (by omega) (by omega)
  have hL : -1000000000000001 ≤ q0m n d ∧ q0m n d ≤ 1000000000000000 := by rw [ht]; split <;> omega
  have w6 : w64 (q0m n d + 1) = q0m n d + 1 := zl (by omega) (by omega)
  unfold Z9
  rw [if_neg (by omega), if_neg (by omega), w1, w2]
  by_cases hc : Int.tmod n d < 0
  · rw [if_pos hc] at ht
    rw [if_pos hc, ← ht, w3, w4, w6]
    unfold zy zz zx
    rw [w5]
    unfold qm0
    generalize q0m n d = q
    generalize n - q * d = r
    rcases hh with rfl | rfl | rfl | rfl
    · simp
    · by_cases g : 0 < r <;> simp [g]
    · by_cases g : d ≤ 2 * r <;> simp [g]
    · by_cases g : d < 2 * r
      · simp [g]
      · by_cases g2 : 2 * r = d
        · by_cases g3 : Int.tmod q 2 = 0 <;> simp [g2, g3]
        · simp [g, g2]
  · rw [if_neg hc] at ht
    rw [if_neg hc, ← ht, w3, w4, w6]
    unfold zy zz zx
    rw [w5]
    unfold qm0
    generalize q0m n d = q
    generalize n - q * d = r
    rcases hh with rfl | rfl | rfl | rfl
    · simp
    · by_cases g : 0 < r <;> simp [g]
    · by_cases g : d ≤ 2 * r <;> simp [g]
    · by_cases g : d < 2 * r
      · simp [g]
      · by_cases g2 : 2 * r = d
        · by_cases g3 : Int.tmod q 2 = 0 <;> simp [g2, g3]
        · simp [g, g2]
def qhd (g c : Int) : Bool := decide (-1000 ≤ g) && decide (g ≤ 1000) && decide (1 ≤ c) && decide (c ≤ 60)
def q5m : List (Int × Int) → Int → Int → Option (Int × Int)
  | [], s, t => some (s, t)
  | p :: l, s, t => if qhd p.1 p.2 = true then q5m l (s + p.1 * p.2) (t + p.2) else none
theorem qcO (n a b : Int) (hab : a ≤ b) : (qk n a b == n) = (decide (a ≤ n) && decide (n ≤ b)) := by
  unfold qk
  by_cases h1 : a ≤ n
  · by_cases h2 : n ≤ b
    · rw [decide_eq_true h1, decide_eq_true h2]
      simp; omega
    · rw [decide_eq_true h1, decide_eq_false h2]
      simp; omega
  · rw [decide_eq_false h1]
    simp; omega
theorem qia {g c : Int} (h : qhd g c = true) : -60000 ≤ g * c ∧ g * c ≤ 60000 ∧ 1 ≤ c ∧ c ≤ 60 := by
  unfold qhd at h
  simp only [Bool.and_eq_true, decide_eq_true_eq] at h
  obtain ⟨⟨⟨h1, h2⟩, h3⟩, h4⟩ := h
  have a1 := Int.mul_le_mul_of_nonneg_right h1 (show 0 ≤ c by omega)
  have a2 := Int.mul_le_mul_of_nonneg_right h2 (show 0 ≤ c by omega)
  omega
theorem q81 (b0 : qq) {gs cs : List Int} (hlen : cs.length = gs.length) (hl : gs.length ≤ 100) :
    ∀ (r : List (Int × Int)) (i : Nat) (sum all : Int), r.length + i = gs.length → (∀ j, r[j]? = (gs.zip cs)[i + j]?) → (-60000 * (i : Int) ≤ sum ∧ sum ≤ 60000 * (i : Int)) → ((i : Int) ≤ all ∧ all ≤ 60 * (i : Int)) →
      (∃ e, qA (zK b0 cs gs ((gs.length : Nat) : Int)) (sum, (all, (i : Int))) = some (.inl (⟨0, 0⟩, e)) ∧ q5m r sum all = none) ∨
      (∃ S A, qA (zK b0 cs gs ((gs.length : Nat) : Int)) (sum, (all, (i : Int))) = some (.inr (S, A)) ∧ q5m r sum all = some (S, A) ∧ (-60000 * (gs.length : Int) ≤ S ∧ S ≤ 60000 * (gs.length : Int)) ∧ ((gs.length : Int) ≤ A ∧ A ≤ 60 * (gs.length : Int)))
  | [], i, sum, all, hi, _, hs, ha => by
    have hi : i = gs.length := by simpa using hi
    refine .inr ⟨sum, all, qD ?_, rfl, by rw [← hi]; exact hs, by rw [← hi]; exact ha⟩
    unfold zK
    dsimp only
    rw [if_neg (by omega)]
  | (g, c) :: r, i, sum, all, hi, hr, hs, ha => by
    rw [List.length_cons] at hi
    have h0 : (gs.zip cs)[i]? = some (g, c) := by have := hr 0; simpa using this.symm
    rw [List.getElem?_zip_eq_some] at h0
    obtain ⟨e1, e2⟩ := h0
    simp only at e1 e2
    have hw : w64 ((i : Int) + 1) = ((i + 1 : Nat) : Int) := qF (n := 10000) (by omega) (by omega)
    have hok : (qE g c sum all).1 = qhd g c := by
      unfold qE qhd
      have l1 := qcO g (-1000) 1000 (by omega)
      have l2 := qcO c 1 60 (by omega)
      rw [Bool.and_assoc, ← l2]
      by_cases hq : (qk g (-1000) 1000 == g) = true
      · rw [if_pos hq]
        rw [hq] at l1
        rw [← l1, Bool.true_and]
      · rw [if_neg hq]
        rw [Bool.eq_false_iff.2 hq] at l1
        rw [← l1, Bool.false_and]
    by_cases hg : qhd g c = true
    · have hb := qia hg
      have m1 : qE g c sum all = (true, sum + g * c, all + c) := by
        have e : (qE g c sum all).2 = (w64 (sum + w64 (g * c)), w64 (all + c)) := by
          unfold qE
          split <;> rfl
        rw [zl (n := g * c) (by omega) (by omega), zl (by omega) (by omega), zl (by omega) (by omega)] at e
        rw [← e, ← hg, ← hok]
      rcases q81 b0 hlen hl r (i + 1) (sum + g * c) (all + c) (by omega) (fun j => by
        have := hr (j + 1)
        rw [show i + 1 + j = i + (j + 1) by omega, ← this]; rfl) (by omega) (by omega) with ⟨e, q1, q2⟩ | ⟨S, A, q1, q2, q3⟩
      · refine .inl ⟨e, ?_, by rw [q5m, if_pos hg, q2]⟩
        rw [← q1]
        refine qM ?_
        unfold zK
        dsimp only
        rw [if_pos (by omega), if_pos ⟨by omega, by omega⟩, Int.toNat_natCast, e1, Option.bind_some, if_pos ⟨by omega, by omega⟩, e2, Option.bind_some, m1, if_neg (by simp), hw]
      · refine .inr ⟨S, A, ?_, by rw [q5m, if_pos hg, q2], q3⟩
        rw [← q1]
        refine qM ?_
        unfold zK
        dsimp only
        rw [if_pos (by omega), if_pos ⟨by omega, by omega⟩, Int.toNat_natCast, e1, Option.bind_some, if_pos ⟨by omega, by omega⟩, e2, Option.bind_some, m1, if_neg (by simp), hw]
    · refine .inl ⟨(qE g c sum all).2, qD ?_, by rw [q5m, if_neg hg]⟩
      unfold zK
      dsimp only
      rw [if_pos (by omega), if_pos ⟨by omega, by omega⟩, Int.toNat_natCast, e1, Option.bind_some, if_pos ⟨by omega, by omega⟩, e2, Option.bind_some, if_pos (by rw [hok, Bool.eq_false_iff.2 hg]; decide)]
end Go.Proofs.YtplfjlcnffcenaaGreat.Vc
namespace Go.Proofs.YtplfjlcnffcenaaGreat.Vc
open Go.RowKit
set_option linter.unusedVariables false
set_option linter.unusedSimpArgs false
theorem qg4 {c : qd} (h : qp c = 0) : (1 ≤ c.Den ∧ c.Den ≤ 1000) ∧ (1 ≤ c.Round ∧ c.Round ≤ 4) ∧ (-1000 ≤ c.Num ∧ c.Num ≤ 1000) ∧ (-1000 ≤ c.Add ∧ c.Add ≤ 1000) := by
  unfold qp at h
  by_cases h1 : (qk c.Den (1 : Int) (1000 : Int) != c.Den) = true
  · rw [if_pos h1] at h; exact absurd h (by decide)
  rw [if_neg h1] at h
  by_cases h2 : (qk c.Num (-(1000 : Int)) (1000 : Int) != c.Num) = true
  · rw [if_pos h2] at h; exact absurd h (by decide)
  rw [if_neg h2] at h
  by_cases h3 : (qk c.Add (-(1000 : Int)) (1000 : Int) != c.Add) = true
  · rw [if_pos h3] at h; exact absurd h (by decide)
  rw [if_neg h3] at h
  by_cases h4 : (qk c.Round (1 : Int) (4 : Int) != c.Round) = true
  · rw [if_pos h4] at h; exact absurd h (by decide)
  have e1 : qk c.Den 1 1000 = c.Den := by simpa using h1
  have e2 : qk c.Num (-1000) 1000 = c.Num := by simpa using h2
  have e3 : qk c.Add (-1000) 1000 = c.Add := by simpa using h3
  have e4 : qk c.Round 1 4 = c.Round := by simpa using h4
  unfold qk at e1 e2 e3 e4
  omega
theorem qaZ (n : Int) : qO n 1000 = (decide (-1000 ≤ n) && decide (n ≤ 1000)) := by
  unfold qO
  rw [show w64 ((0 : Int) - 1000) = -1000 from zl (by omega) (by omega)]
  by_cases h : -1000 ≤ n
  · rw [if_pos h, decide_eq_true h, Bool.true_and]
  · rw [if_neg h, decide_eq_false h, Bool.false_and]
def okS (s : qf) : Prop := (-1000 ≤ s.Worst ∧ s.Worst ≤ 1000) ∧ (-1000 ≤ s.Best ∧ s.Best ≤ 1000) ∧ s.Worst ≠ s.Best ∧ min s.Worst s.Best ≤ s.Pass ∧ s.Pass ≤ max s.Worst s.Best
instance okS_dec (s : qf) : Decidable (okS s) := by unfold okS; infer_instance
theorem qer (s : qf) : zm s = if okS s then 0 else 10 := by
  have hk : okS s ↔ ((-1000 ≤ s.Worst ∧ s.Worst ≤ 1000) ∧ (-1000 ≤ s.Best ∧ s.Best ≤ 1000) ∧ s.Worst ≠ s.Best ∧ min s.Worst s.Best ≤ s.Pass ∧ s.Pass ≤ max s.Worst s.Best) := Iff.rfl
  unfold zm
  simp only [qaZ]
  by_cases h1 : s.Worst = s.Best
  · rw [if_pos (by rw [h1]; simp), if_neg (fun q => (hk.1 q).2.2.1 h1)]
  · rw [if_neg (by simp; omega)]
    by_cases h2 : -1000 ≤ min s.Worst s.Best ∧ min s.Worst s.Best ≤ 1000
    · rw [if_neg (by simp [h2.1, h2.2])]
      by_cases h3 : -1000 ≤ max s.Worst s.Best ∧ max s.Worst s.Best ≤ 1000
      · rw [if_neg (by simp [h3.1, h3.2])]
        by_cases h4 : s.Pass < min s.Worst s.Best
        · rw [if_pos h4, if_neg (fun q => by have := hk.1 q; omega)]
        · rw [if_neg h4]
          by_cases h5 : max s.Worst s.Best < s.Pass
          · rw [if_pos h5, if_neg (fun q => by have := hk.1 q; omega)]
          · rw [if_neg h5, if_pos (hk.2 (by omega))]
      · rw [if_pos (by rw [Bool.not_eq_true', Bool.and_eq_false_iff, decide_eq_false_iff_not, decide_eq_false_iff_not]; omega), if_neg (fun q => by have := hk.1 q; omega)]
    · rw [if_pos (by rw [Bool.not_eq_true', Bool.and_eq_false_iff, decide_eq_false_iff_not, decide_eq_false_iff_not]; omega), if_neg (fun q => by have := hk.1 q; omega)]
theorem qbw (s : qf) : Zj s = some (zm s) := by
  rw [qer]
  have hk : okS s ↔ ((-1000 ≤ s.Worst ∧ s.Worst ≤ 1000) ∧ (-1000 ≤ s.Best ∧ s.Best ≤ 1000) ∧ s.Worst ≠ s.Best ∧ min s.Worst s.Best ≤ s.Pass ∧ s.Pass ≤ max s.Worst s.Best) := Iff.rfl
  have hlim : ∀ n : Int, (qk n (-1000) 1000 != n) = true ↔ ¬ (-1000 ≤ n ∧ n ≤ 1000) := fun n => by
    unfold qk
    rw [bne_iff_ne]
    omega
  have hw0 : w64 ((0 : Int) + 1) = 1 := zl (by omega) (by omega)
  have hw1 : w64 ((1 : Int) + 1) = 2 := zl (by omega) (by omega)
  have r0 : zB [s.Worst, s.Best] s (2 : Int) (0 : Int) = some (if -1000 ≤ s.Worst ∧ s.Worst ≤ 1000 then .inl 1 else .inr (.inl ())) := by
    unfold zB
    rw [if_pos (by decide), if_pos (by simp), show [s.Worst, s.Best][Int.toNat 0]? = some s.Worst from rfl, Option.bind_some, hw0]
    by_cases h : -1000 ≤ s.Worst ∧ s.Worst ≤ 1000
    · rw [if_neg (fun q => (hlim _).1 q h), if_pos h]
    · rw [if_pos ((hlim _).2 h), if_neg h]
  have r1 : zB [s.Worst, s.Best] s (2 : Int) (1 : Int) = some (if -1000 ≤ s.Best ∧ s.Best ≤ 1000 then .inl 2 else .inr (.inl ())) := by
    unfold zB
    rw [if_pos (by decide), if_pos (by simp), show [s.Worst, s.Best][Int.toNat 1]? = some s.Best from rfl, Option.bind_some, hw1]
    by_cases h : -1000 ≤ s.Best ∧ s.Best ≤ 1000
    · rw [if_neg (fun q => (hlim _).1 q h), if_pos h]
    · rw [if_pos ((hlim _).2 h), if_neg h]
  have r2 : zB [s.Worst, s.Best] s (2 : Int) (2 : Int) = some (.inr (.inr ())) := by
    unfold zB
    rw [if_neg (by decide)]
  unfold Zj
  by_cases h1 : -1000 ≤ s.Worst ∧ s.Worst ≤ 1000
  · rw [if_pos h1] at r0
    rw [qM r0]
    by_cases h2 : -1000 ≤ s.Best ∧ s.Best ≤ 1000
    · rw [if_pos h2] at r1
      rw [qM r1, qD r2, Option.bind_some, Sum.elim_inr]
      by_cases h3 : s.Worst = s.Best
      · rw [if_pos (by rw [beq_iff_eq]; exact h3), if_neg (fun q => (hk.1 q).2.2.1 h3)]
      · rw [if_neg (by rw [beq_iff_eq]; exact h3)]
        by_cases h4 : min s.Worst s.Best ≤ s.Pass ∧ s.Pass ≤ max s.Worst s.Best
        · rw [if_neg (by rw [bne_iff_ne]; unfold qk; omega), if_pos (hk.2 ⟨h1, h2, h3, h4⟩)]
        · rw [if_pos (by rw [bne_iff_ne]; unfold qk; omega), if_neg (fun q => h4 (hk.1 q).2.2.2)]
    · rw [if_neg h2] at r1
      rw [qD r1, Option.bind_some, Sum.elim_inl, if_neg (fun q => h2 (hk.1 q).2.1)]
  · rw [if_neg h1] at r0
    rw [qD r0, Option.bind_some, Sum.elim_inl, if_neg (fun q => h1 (hk.1 q).1)]
theorem q96 {n d how : Int} (hd : 0 < d) (hd2 : d ≤ 1000000000000000) (hn : -1000000000000000 ≤ n ∧ n ≤ 1000000000000000) (h : 1 ≤ how ∧ how ≤ 4) : QC n d how = some (qm0 n d how) := by
  have hl := q7H (n := n) hd
  have ht := qbh (n := n) hd
  have hb := qcl hd hn
  have hh : how = 1 ∨ how = 2 ∨ how = 3 ∨ how = 4 := by omega
  have hdm := Int.mul_tdiv_add_tmod n d
  rw [Int.mul_comm] at hdm
  have hr : -d < Int.tmod n d ∧ Int.tmod n d < d := ⟨Int.lt_tmod_of_pos n hd, Int.tmod_lt_of_pos n hd⟩
  have w1 : w64 (Int.tdiv n d) = Int.tdiv n d := zl (by omega) (by omega)
  have w2 : w64 (Int.tdiv n d - 1) = Int.tdiv n d - 1 := zl (by omega) (by omega)
  have w0 : w64 (Int.tdiv n d * d) = Int.tdiv n d * d := zl (by omega) (by omega)
  have w3 : w64 (q0m n d * d) = q0m n d * d := zl (by omega) (by omega)
  have w4 : w64 (n - q0m n d * d) = n - q0m n d * d := zl (by omega) (by omega)
  have w5 : w64 (2 * (n - q0m n d * d)) = 2 * (n - q0m n d * d) := zl (by omega) (by omega)
  have hL : -1000000000000001 ≤ q0m n d ∧ q0m n d ≤ 1000000000000000 := by rw [ht]; split <;> omega
  have w6 : w64 (q0m n d + 1) = q0m n d + 1 := zl (by omega) (by omega)
  unfold QC
  rw [if_neg (by omega), w1, w0, w2]
  by_cases hc : Int.tmod n d < 0
  · rw [if_pos hc] at ht
    rw [if_pos (show n < Int.tdiv n d * d by omega), ← ht, w3, w4, w6, w5]
    unfold qm0
    generalize q0m n d = q
    generalize n - q * d = r
    rcases hh with rfl | rfl | rfl | rfl
    · simp
    · by_cases g : 0 < r <;> simp [g]
    · by_cases g : d < 2 * r
      · simp [g, Int.le_of_lt g]
      · by_cases g2 : 2 * r = d
        · simp [g2]
        · have g3 : ¬ d ≤ 2 * r := by omega
          simp [g, g2, g3]
    · by_cases g : d < 2 * r
      · simp [g]
      · by_cases g2 : 2 * r = d
        · by_cases g3 : Int.tmod q 2 = 0 <;> simp [g2, g3]
        · simp [g, g2]
  · rw [if_neg hc] at ht
    rw [if_neg (show ¬ n < Int.tdiv n d * d by omega), ← ht, w4, w6, w5]
    unfold qm0
    generalize q0m n d = q
    generalize n - q * d = r
    rcases hh with rfl | rfl | rfl | rfl
    · simp
    · by_cases g : 0 < r <;> simp [g]
    · by_cases g : d < 2 * r
      · simp [g, Int.le_of_lt g]
      · by_cases g2 : 2 * r = d
        · simp [g2]
        · have g3 : ¬ d ≤ 2 * r := by omega
          simp [g, g2, g3]
    · by_cases g : d < 2 * r
      · simp [g]
      · by_cases g2 : 2 * r = d
        · by_cases g3 : Int.tmod q 2 = 0 <;> simp [g2, g3]
        · simp [g, g2]
theorem qcU : ∀ (n b : Nat), b ≤ n → ∀ a : Nat, qA Z3 ((a : Int), (b : Int)) = some ((Nat.gcd a b : Nat) : Int)
  | n, 0, _, a => by
    refine qD ?_
    unfold Z3
    dsimp only
    rw [if_neg (by simp), Nat.gcd_zero_right]
  | 0, b + 1, h, a => by omega
  | n + 1, b + 1, h, a => by
    have hlt := Nat.mod_lt a (show 0 < b + 1 by omega)
    have ih := qcU n (a % (b + 1)) (by omega) (b + 1)
    have e : Nat.gcd (b + 1) (a % (b + 1)) = Nat.gcd a (b + 1) := by rw [Nat.gcd_comm, ← Nat.gcd_rec, Nat.gcd_comm]
    rw [e] at ih
    rw [qM (y := (((b + 1 : Nat) : Int), ((a % (b + 1) : Nat) : Int))) ?_, ih]
    unfold Z3
    dsimp only
    have hne : ¬ ((b + 1 : Nat) : Int) = 0 := by omega
    rw [if_pos (by simpa using hne), if_neg hne, Int.ofNat_tmod]
theorem qg1 {n : Int} (h : -1000000000000000 ≤ n ∧ n ≤ 1000000000000000) : qx n = (n.natAbs : Int) := by
  by_cases h0 : n < 0
  · unfold qx
    rw [if_pos h0]
    simp only [IntKind.wrap, IntKind.bits, IntKind.signed]
    simp
    omega
  · rw [qcM (by omega) (by omega)]
    omega
theorem qsM {S A : Int} (hS : -6000000 ≤ S ∧ S ≤ 6000000) (hA : 1 ≤ A ∧ A ≤ 6000) : ∃ r, ZC S A = some (r, 0) ∧ J5 S A = some (r, 0) ∧ (-6000000 ≤ r.N ∧ r.N ≤ 6000000) ∧ 1 ≤ r.D ∧ r.D ≤ 6000 := by
  obtain ⟨t, rfl⟩ : ∃ t : Nat, A = t := ⟨A.toNat, by omega⟩
  obtain ⟨s, hs⟩ : ∃ s : Nat, s = S.natAbs := ⟨_, rfl⟩
  have g0 : 0 < Nat.gcd s t := Nat.gcd_pos_of_pos_right s (by omega)
  have g1 : Nat.gcd s t ≤ t := Nat.gcd_le_right s (by omega)
  have d1 : s / Nat.gcd s t ≤ s := Nat.div_le_self _ _
  have d2 : t / Nat.gcd s t ≤ t := Nat.div_le_self _ _
  have d3 : 0 < t / Nat.gcd s t := Nat.div_pos g1 g0
  have z1 : qx S = (s : Int) := by rw [qg1 (by omega), hs]
  have z2 : qx (t : Int) = (t : Int) := qcM (by omega) (by omega)
  have hg : ZA [qx S, qx (t : Int)] = some ((Nat.gcd s t : Nat) : Int) := by
    rw [z1, z2]; exact qot s t
  have hg2 : JR (qx S) (qx (t : Int)) = some ((Nat.gcd s t : Nat) : Int) := by
    rw [z1, z2]
    unfold JR
    rw [qcU t t (Nat.le_refl _) s, Option.bind_some]
  have hsz : ∀ n : Int, zA n = qx n := fun n => rfl
  have e1 : Int.tdiv (qx S) ((Nat.gcd s t : Nat) : Int) = ((s / Nat.gcd s t : Nat) : Int) := by
    rw [z1]; exact (Int.ofNat_tdiv _ _).symm
  have e2 : Int.tdiv (qx (t : Int)) ((Nat.gcd s t : Nat) : Int) = ((t / Nat.gcd s t : Nat) : Int) := by
    rw [z2]; exact (Int.ofNat_tdiv _ _).symm
  have same : J5 S (t : Int) = ZC S (t : Int) := by
    unfold J5 ZC
    simp only [hsz]
    rw [hg, hg2]
  rw [same]
  unfold ZC
  rw [if_neg (by rw [beq_iff_eq]; omega), hg, Option.bind_some]
  generalize Nat.gcd s t = g at *
  generalize s / g = u at *
  generalize t / g = v at *
  rw [if_neg (by omega), if_neg (by omega), e1, e2, qcn (n := (u : Int)) (by omega) (by omega), qcn (n := (v : Int)) (by omega) (by omega), if_neg (by omega), if_neg (by omega), zl (n := (u : Int)) (by omega) (by omega), zl (n := (v : Int)) (by omega) (by omega), zl (n := (0 : Int) - (u : Int)) (by omega) (by omega), decide_eq_false (show ¬ (t : Int) < 0 by omega)]
  by_cases hS0 : S < 0
  · rw [decide_eq_true hS0, if_pos (by decide)]
    exact ⟨_, rfl, rfl, ⟨by show (-6000000 : Int) ≤ 0 - (u : Int); omega, by show 0 - (u : Int) ≤ 6000000; omega⟩, by show (1 : Int) ≤ (v : Int); omega, by show (v : Int) ≤ 6000; omega⟩
  · rw [decide_eq_false hS0, if_neg (by decide)]
    exact ⟨_, rfl, rfl, ⟨by show (-6000000 : Int) ≤ (u : Int); omega, by show (u : Int) ≤ 6000000; omega⟩, by show (1 : Int) ≤ (v : Int); omega, by show (v : Int) ≤ 6000; omega⟩
theorem q44 (b0 : qq) {gs cs : List Int} (hlen : cs.length = gs.length) (hl : gs.length ≤ 100) :
    ∀ (r : List (Int × Int)) (i : Nat) (sum all : Int), r.length + i = gs.length → (∀ j, r[j]? = (gs.zip cs)[i + j]?) → (-60000 * (i : Int) ≤ sum ∧ sum ≤ 60000 * (i : Int)) → ((i : Int) ≤ all ∧ all ≤ 60 * (i : Int)) →
      (∃ e, qA (zS b0 gs cs) (sum, (all, (i : Int))) = some (.inl (⟨0, 0⟩, e)) ∧ q5m r sum all = none) ∨
      (∃ S A, qA (zS b0 gs cs) (sum, (all, (i : Int))) = some (.inr (S, A)) ∧ q5m r sum all = some (S, A))
  | [], i, sum, all, hi, _, hs, ha => by
    have hi : i = gs.length := by simpa using hi
    refine .inr ⟨sum, all, qD ?_, rfl⟩
    unfold zS
    dsimp only
    rw [if_neg (by omega)]
  | (g, c) :: r, i, sum, all, hi, hr, hs, ha => by
    rw [List.length_cons] at hi
    have h0 : (gs.zip cs)[i]? = some (g, c) := by have := hr 0; simpa using this.symm
    rw [List.getElem?_zip_eq_some] at h0
    obtain ⟨e1, e2⟩ := h0
    simp only at e1 e2
    have hw : w64 ((i : Int) + 1) = ((i + 1 : Nat) : Int) := qF (n := 10000) (by omega) (by omega)
    have hi0 : (0 : Int) ≤ (i : Int) ∧ (i : Int) < ((gs.length : Nat) : Int) := ⟨by omega, by omega⟩
    have hi1 : (0 : Int) ≤ (i : Int) ∧ (i : Int) < ((cs.length : Nat) : Int) := ⟨by omega, by omega⟩
    have hstep : zS b0 gs cs (sum, (all, (i : Int))) = if qhd g c = true then some (.inl (w64 (sum + w64 (g * c)), (w64 (all + c), ((i + 1 : Nat) : Int)))) else some (.inr (.inl (⟨0, 0⟩, sum, all))) := by
      unfold zS qhd
      dsimp only
      rw [if_pos hi0.2, if_pos hi0, Int.toNat_natCast, e1, Option.bind_some, qaZ, if_pos hi1, e2, Option.bind_some, if_pos hi1, Option.bind_some, if_pos hi0, Option.bind_some, if_pos hi1, Option.bind_some, if_pos hi1, Option.bind_some, hw]
      by_cases h1 : -1000 ≤ g
      · by_cases h2 : g ≤ 1000
        · by_cases h3 : 1 ≤ c
          · by_cases h4 : c ≤ 60
            · have h3' : ¬ c < 1 := by omega
              have h4' : ¬ 60 < c := by omega
              simp [h1, h2, h3, h4, h3', h4']
            · have h3' : ¬ c < 1 := by omega
              have h4' : 60 < c := by omega
              simp [h1, h2, h3, h4, h3', h4']
          · have h3' : c < 1 := by omega
            simp [h1, h2, h3, h3']
        · simp [h1, h2]
      · simp [h1]
    by_cases hg : qhd g c = true
    · have hb := qia hg
      rw [if_pos hg, zl (n := g * c) (by omega) (by omega), zl (n := sum + g * c) (by omega) (by omega), zl (n := all + c) (by omega) (by omega)] at hstep
      rcases q44 b0 hlen hl r (i + 1) (sum + g * c) (all + c) (by omega) (fun j => by
        have := hr (j + 1)
        rw [show i + 1 + j = i + (j + 1) by omega, ← this]; rfl) (by omega) (by omega) with ⟨e, q1, q2⟩ | ⟨S, A, q1, q2⟩
      · exact .inl ⟨e, by rw [qM hstep, q1], by rw [q5m, if_pos hg, q2]⟩
      · exact .inr ⟨S, A, by rw [qM hstep, q1], by rw [q5m, if_pos hg, q2]⟩
    · rw [if_neg hg] at hstep
      exact .inl ⟨_, qD hstep, by rw [q5m, if_neg hg]⟩
theorem qct {gs cs : List Int} (hlen : cs.length = gs.length) (hl : gs.length ≤ 100) : ∃ r, Zg gs cs = some r ∧ QL gs cs = some r ∧ (r.2 = 0 → (-6000000 ≤ r.1.N ∧ r.1.N ≤ 6000000) ∧ 1 ≤ r.1.D ∧ r.1.D ≤ 6000) := by
  have c1 : ¬ ((((gs.length : Nat) : Int) != ((cs.length : Nat) : Int)) = true) := by rw [hlen]; simp
  by_cases h0 : gs.length = 0
  · have c2 : (((gs.length : Nat) : Int) == 0) = true := by rw [h0]; rfl
    refine ⟨(⟨0, 0⟩, 1), ?_, ?_, fun h => absurd h (by decide)⟩
    · unfold Zg
      rw [if_neg c1, if_pos c2]
    · unfold QL
      rw [if_neg c1, if_pos c2]
  · have c2 : ¬ ((((gs.length : Nat) : Int) == 0) = true) := by rw [beq_iff_eq]; omega
    have c3 : ¬ (2000 : Int) < ((gs.length : Nat) : Int) := by omega
    have hz : (gs.zip cs).length + 0 = gs.length := by rw [List.length_zip]; omega
    have eA : Zg gs cs = Option.bind (qA (zK (qq.mk 0 0) cs gs ((gs.length : Nat) : Int)) ((0 : Int), ((0 : Int), ((0 : Nat) : Int)))) fun (a : Sum (Prod qq (Prod Int Int)) (Prod Int Int)) =>
        Sum.elim (fun (a2 : Prod qq (Prod Int Int)) => some (a2.1, 3)) (fun (a3 : Prod Int Int) => Option.bind (ZC a3.1 a3.2) fun (e0 : Prod qq Int) => some (e0.1, e0.2)) a := by
      unfold Zg
      rw [if_neg c1, if_neg c2, if_neg c3]
      rfl
    have eB : QL gs cs = Option.bind (qA (zS (qq.mk 0 0) gs cs) ((0 : Int), ((0 : Int), ((0 : Nat) : Int)))) fun (a : Sum (Prod qq (Prod Int Int)) (Prod Int Int)) =>
        Sum.elim (fun (a2 : Prod qq (Prod Int Int)) => some (a2.1, 3)) (fun (a3 : Prod Int Int) => Option.bind (J5 a3.1 a3.2) fun (e0 : Prod qq Int) => some (e0.1, e0.2)) a := by
      unfold QL
      rw [if_neg c1, if_neg c2, if_neg c3]
      rfl
    rw [eA, eB]
    rcases q81 ⟨0, 0⟩ hlen hl (gs.zip cs) 0 0 0 hz (by simp) (by omega) (by omega) with ⟨e, q1, q2⟩ | ⟨S, A, q1, q2, q3, q4⟩
    · rcases q44 ⟨0, 0⟩ hlen hl (gs.zip cs) 0 0 0 hz (by simp) (by omega) (by omega) with ⟨e', p1, p2⟩ | ⟨S', A', p1, p2⟩
      · rw [q1, p1, Option.bind_some, Option.bind_some, Sum.elim_inl, Sum.elim_inl]
        exact ⟨_, rfl, rfl, fun h => absurd h (by simp)⟩
      · rw [q2] at p2; cases p2
    · rcases q44 ⟨0, 0⟩ hlen hl (gs.zip cs) 0 0 0 hz (by simp) (by omega) (by omega) with ⟨e', p1, p2⟩ | ⟨S', A', p1, p2⟩
      · rw [q2] at p2; cases p2
      · rw [q2] at p2
        injection p2 with p2
        injection p2 with p3 p4
        subst p3 p4
        obtain ⟨r, r1, r2, r3, r4⟩ := qsM (S := S) (A := A) (by omega) (by omega)
        rw [q1, p1, Option.bind_some, Option.bind_some, Sum.elim_inr, Sum.elim_inr]
        dsimp only
        rw [r1, r2, Option.bind_some]
        exact ⟨_, rfl, rfl, fun _ => ⟨r3, r4⟩⟩
theorem q8I (c : qd) (to : qf) {gs cs : List Int} (hlen : cs.length = gs.length) (hl : gs.length ≤ 100) : ∃ r, Zf c to gs cs = some r ∧ Zd c to gs cs = some r := by
  obtain ⟨r, r1, r2, r3⟩ := qct hlen hl
  unfold Zf Zd
  rw [← qf4, qbw, Option.bind_some, r1, r2, Option.bind_some, Option.bind_some]
  by_cases h0 : qp c = 0
  · rw [h0, if_neg (show ¬ (((0 : Int) != 0) = true) by decide), if_pos (show ((0 : Int) == 0) = true by decide)]
    by_cases h1 : (zm to != 0) = true
    · rw [if_pos h1, if_pos h1]; exact ⟨_, rfl, rfl⟩
    · rw [if_neg h1, if_neg h1]
      by_cases h2 : r.2 = 0
      · have h2' : ¬ ((r.2 != 0) = true) := by simpa using h2
        obtain ⟨n1, d1, d2⟩ := r3 h2
        obtain ⟨b1, b2, b3, b4⟩ := qg4 h0
        rw [if_neg h2', if_neg h2']
        have p1 : 1 * 1 ≤ r.1.D * c.Den := Int.mul_le_mul d1 b1.1 (by omega) (by omega)
        have p2 : r.1.D * c.Den ≤ 6000 * 1000 := Int.mul_le_mul d2 b1.2 (by omega) (by omega)
        have mulb : ∀ (x y m k : Int), -m ≤ x → x ≤ m → -k ≤ y → y ≤ k → -(m * k) ≤ x * y ∧ x * y ≤ m * k := fun x y m k a1 a2 a3 a4 => by
          have h1 : (x * y).natAbs ≤ (m * k).natAbs := by
            rw [Int.natAbs_mul, Int.natAbs_mul]
            exact Nat.mul_le_mul (by omega) (by omega)
          have h2 : 0 ≤ m * k := Int.mul_nonneg (by omega) (by omega)
          omega
        have p3 := mulb r.1.N c.Num 6000000 1000 n1.1 n1.2 b3.1 b3.2
        have p4 := mulb c.Add r.1.D 1000 6000 b4.1 b4.2 (by omega) d2
        rw [zl (n := r.1.N * c.Num) (by omega) (by omega), zl (n := c.Add * r.1.D) (by omega) (by omega), zl (n := r.1.N * c.Num + c.Add * r.1.D) (by omega) (by omega), zl (n := r.1.D * c.Den) (by omega) (by omega)]
        rw [qbV (by omega) (by omega) (by omega) b2, q96 (by omega) (by omega) (by omega) b2, Option.bind_some, Option.bind_some]
        exact ⟨_, rfl, rfl⟩
      · have h2' : (r.2 != 0) = true := by simpa using h2
        rw [if_pos h2', if_pos h2']; exact ⟨_, rfl, rfl⟩
  · have hA : (qp c != 0) = true := by simpa using h0
    have hB : ¬ ((qp c == 0) = true) := by simpa using h0
    rw [if_pos hA, if_neg hB, if_pos hA]
    exact ⟨_, rfl, rfl⟩
theorem q9H (to : qf) (g : Int) : Zv to g = some (Qa to g) := by
  unfold Zv ZV Jx Qa Qm QE
  rw [qbw, Option.bind_some]
  by_cases h0 : (zm to == 0) = true
  · rw [if_pos h0, if_pos h0, Option.bind_some]
    have hl : (qk g to.Worst to.Best == g) = true ↔ (min to.Worst to.Best ≤ g ∧ g ≤ max to.Worst to.Best) := by
      unfold qk
      rw [beq_iff_eq]
      omega
    by_cases h1 : min to.Worst to.Best ≤ g ∧ g ≤ max to.Worst to.Best
    · rw [if_pos (hl.2 h1), if_pos h1.1, decide_eq_true h1.2, if_neg (show ¬ ((!true) = true) by decide)]
      by_cases h2 : g = to.Pass
      · have hB : (g == to.Pass) = true := by rw [beq_iff_eq]; exact h2
        rw [if_pos hB, Option.bind_some, h2]
        split <;> simp
      · have hB : ¬ ((g == to.Pass) = true) := by rw [beq_iff_eq]; exact h2
        rw [if_neg hB, Option.bind_some]
        congr 1
        by_cases h3 : to.Worst < to.Best
        · rw [if_pos h3, decide_eq_true h3]
          by_cases h4 : to.Pass < g
          · rw [decide_eq_true h4, decide_eq_true (show to.Pass ≤ g by omega)]; rfl
          · rw [decide_eq_false h4, decide_eq_false (show ¬ to.Pass ≤ g by omega)]; rfl
        · rw [if_neg h3, decide_eq_false h3]
          by_cases h4 : to.Pass < g
          · rw [decide_eq_true h4, decide_eq_false (show ¬ g ≤ to.Pass by omega)]; rfl
          · rw [decide_eq_false h4, decide_eq_true (show g ≤ to.Pass by omega)]; rfl
    · rw [if_neg (fun q => h1 (hl.1 q)), Option.bind_some]
      by_cases h2 : min to.Worst to.Best ≤ g
      · rw [if_pos h2, decide_eq_false (show ¬ g ≤ max to.Worst to.Best by omega), if_pos (show (!false) = true by decide)]
      · rw [if_neg h2, if_pos (show (!false) = true by decide)]
  · rw [if_neg h0, if_neg h0, Option.bind_some, if_neg (show ¬ (false = true) by decide), Option.bind_some, if_pos (show (!false) = true by decide)]
end Go.Proofs.YtplfjlcnffcenaaGreat.Vc
namespace Go.Proofs.YtplfjlcnffcenaaGreat.Vc
open Go.RowKit
set_option linter.unusedVariables false
set_option linter.unusedSimpArgs false
theorem tbl {α : Type} (l : List α) {i : Int} (h0 : 0 ≤ i) (h1 : i < (l.length : Int)) : ∃ v, v ∈ l ∧ l[Int.toNat i]? = some v :=
  ⟨l[Int.toNat i]'(by omega), List.getElem_mem _, List.getElem?_eq_getElem _⟩
theorem qfS : ([0, 1, 2, 3, 4, 5, 6].all fun i => decide ((cod i).size ≤ 12)) = true := by kernel_rfl
theorem qdL {i : Nat} (h : i < 7) : (cod i).size ≤ 12 := of_decide_eq_true (List.all_eq_true.1 qfS i (lt7 h))
theorem q9M (l : List qh) (i : Nat) (v : Int) : (List.modify l i (fun (x : qh) => qh.mk x.Code v)).map (·.Code) = l.map (·.Code) := by
  apply List.ext_getElem?
  intro j
  rw [List.getElem?_map, List.getElem?_map, List.getElem?_modify]
  by_cases h : i = j
  · simp only [h, if_true]; cases l[j]? <;> rfl
  · simp only [h, if_false]; cases l[j]? <;> rfl
theorem qjk {x : qa} (h1 : x.In.length ≤ 1000) (h2 : x.Out.length ≤ 1000) : Jo x = some (x.Id, x.From, x.To, x.Begin, x.End, x.Conv.Num, x.Conv.Add, x.Conv.Den, x.Conv.Round, x.In, x.Out) := by
  have hm : (1000000 : Nat) ≤ Go.maxLen := by decide
  unfold Jo
  rw [if_pos ⟨by omega, by omega⟩, if_pos ⟨by omega, by omega⟩]
theorem qhS {n : Nat} (hn : n ≤ 100) {x : qa} (h : Bnd n x) (q : Z6 Int) : ∃ y, J0 x q = some y ∧ Bnd (n + 1) y := by
  obtain ⟨h1, h2, h3, h4⟩ := h
  have hm : (1000000 : Nat) ≤ Go.maxLen := by decide
  obtain ⟨m, e1, m0, m1⟩ := q6D q.a1 36 (by decide) (by decide)
  obtain ⟨k, e2, k0, k1⟩ := q6D q.a0 13 (by decide) (by decide)
  have same : ∀ y : qa, y.In = x.In → y.Out = x.Out → Bnd (n + 1) y := fun y g1 g2 => ⟨by rw [g1]; omega, by rw [g2]; omega, by rw [g1]; exact h3, by rw [g2]; exact h4⟩
  have inn : ∀ y : qa, y.Out = x.Out → y.In.length ≤ n + 1 → (∀ c ∈ y.In, c.size ≤ 12) → Bnd (n + 1) y := fun y g1 g2 g3 => ⟨g2, by rw [g1]; omega, g3, by rw [g1]; exact h4⟩
  have onn : ∀ y : qa, y.In = x.In → y.Out.length ≤ n + 1 → (∀ g ∈ y.Out, g.Code.size ≤ 12) → Bnd (n + 1) y := fun y g1 g2 g3 => ⟨by rw [g1]; omega, g2, by rw [g1]; exact h3, g3⟩
  have t40 := Int.tmod_nonneg 4 m0
  have t41 := Int.tmod_lt_of_pos m (show (0 : Int) < 4 by decide)
  have t50 := Int.tmod_nonneg 5 m0
  have t51 := Int.tmod_lt_of_pos m (show (0 : Int) < 5 by decide)
  have t60 := Int.tmod_nonneg 6 m0
  have t61 := Int.tmod_lt_of_pos m (show (0 : Int) < 6 by decide)
  have wi1 : w64 (((x.In.length : Nat) : Int) + (1 : Int)) = ((x.In.length : Nat) : Int) + 1 := zl (by omega) (by omega)
  have wo1 : w64 (((x.Out.length : Nat) : Int) + (1 : Int)) = ((x.Out.length : Nat) : Int) + 1 := zl (by omega) (by omega)
  unfold J0
  rw [qjk (by omega) (by omega), Option.bind_some, e1, Option.bind_some, e2, Option.bind_some]
  dsimp only
  by_cases c0 : (k == 0) = true
  · rw [if_pos c0]; exact ⟨_, rfl, same _ rfl rfl⟩
  rw [if_neg c0]
  by_cases c1 : (k == 1) = true
  · rw [if_pos c1]; exact ⟨_, rfl, same _ rfl rfl⟩
  rw [if_neg c1]
  by_cases c2 : (k == 2) = true
  · rw [if_pos c2]; exact ⟨_, rfl, same _ rfl rfl⟩
  rw [if_neg c2]
  by_cases c3 : (k == 3) = true
  · obtain ⟨v, -, hv⟩ := tbl [(-(1 : Int)), (0 : Int), (100000 : Int), (100001 : Int)] t40 t41
    rw [if_pos c3, if_pos ⟨t40, t41⟩, hv, Option.bind_some]
    exact ⟨_, rfl, same _ rfl rfl⟩
  rw [if_neg c3]
  by_cases c4 : (k == 4) = true
  · obtain ⟨v, -, hv⟩ := tbl [(-(1 : Int)), w64 (x.Begin - (1 : Int)), x.Begin, (100000 : Int), (100001 : Int), (0 : Int)] t60 t61
    rw [if_pos c4, if_pos ⟨t60, t61⟩, hv, Option.bind_some]
    exact ⟨_, rfl, same _ rfl rfl⟩
  rw [if_neg c4]
  obtain ⟨j, hj⟩ : ∃ j : Nat, Int.tmod m 6 = j := ⟨(Int.tmod m 6).toNat, by omega⟩
  obtain ⟨g1, g2, g3⟩ := q9n (k := j) (by omega)
  have g4 := qdL (i := j) (by omega)
  rw [hj]
  by_cases c5 : (k == 5) = true
  · rw [if_pos c5, if_pos ⟨g1, g2⟩, g3, Option.bind_some, if_pos ⟨by omega, by omega⟩]
    refine ⟨_, rfl, inn _ rfl ?_ ?_⟩
    · show (x.In ++ [cod j]).length ≤ n + 1
      rw [List.length_append, List.length_singleton]; omega
    · show ∀ c ∈ x.In ++ [cod j], c.size ≤ 12
      intro c hc
      rcases List.mem_append.1 hc with hc | hc
      · exact h3 c hc
      · rw [List.mem_singleton] at hc; rw [hc]; exact g4
  rw [if_neg c5]
  by_cases c6 : (k == 6) = true
  · have u0 := Int.tmod_nonneg (((x.In.length : Nat) : Int) + 1) m0
    have u1 := Int.tmod_lt_of_pos m (show (0 : Int) < ((x.In.length : Nat) : Int) + 1 by omega)
    rw [if_pos c6, wi1, if_neg (by omega), if_pos ⟨u0, by omega⟩]
    refine ⟨_, rfl, inn _ rfl ?_ ?_⟩
    · show (List.take _ x.In).length ≤ n + 1
      rw [List.length_take]; omega
    · show ∀ c ∈ List.take _ x.In, c.size ≤ 12
      exact fun c hc => h3 c (List.mem_of_mem_take hc)
  rw [if_neg c6]
  by_cases c7 : (k == 7) = true
  · rw [if_pos c7, if_pos ⟨g1, g2⟩, g3, Option.bind_some, if_pos ⟨by omega, by omega⟩]
    refine ⟨_, rfl, onn _ rfl ?_ ?_⟩
    · show (x.Out ++ [qh.mk (cod j) m]).length ≤ n + 1
      rw [List.length_append, List.length_singleton]; omega
    · show ∀ g ∈ x.Out ++ [qh.mk (cod j) m], g.Code.size ≤ 12
      intro c hc
      rcases List.mem_append.1 hc with hc | hc
      · exact h4 c hc
      · rw [List.mem_singleton] at hc; rw [hc]; exact g4
  rw [if_neg c7]
  by_cases c8 : (k == 8) = true
  · have u0 := Int.tmod_nonneg (((x.Out.length : Nat) : Int) + 1) m0
    have u1 := Int.tmod_lt_of_pos m (show (0 : Int) < ((x.Out.length : Nat) : Int) + 1 by omega)
    rw [if_pos c8, wo1, if_neg (by omega), if_pos ⟨u0, by omega⟩]
    refine ⟨_, rfl, onn _ rfl ?_ ?_⟩
    · show (List.take _ x.Out).length ≤ n + 1
      rw [List.length_take]; omega
    · show ∀ g ∈ List.take _ x.Out, g.Code.size ≤ 12
      exact fun c hc => h4 c (List.mem_of_mem_take hc)
  rw [if_neg c8]
  by_cases c9 : (k == 9) = true
  · rw [if_pos c9]
    by_cases hl : (0 : Int) < ((x.Out.length : Nat) : Int)
    · obtain ⟨v, -, hv⟩ := tbl [(0 : Int), (1 : Int), (60 : Int), (61 : Int)] t40 t41
      have u0 := Int.tmod_nonneg ((x.Out.length : Nat) : Int) m0
      have u1 := Int.tmod_lt_of_pos m hl
      rw [if_pos hl, if_neg (by omega), if_pos ⟨t40, t41⟩, hv, Option.bind_some, if_pos ⟨u0, u1⟩, if_pos (by omega)]
      refine ⟨_, rfl, onn _ rfl ?_ ?_⟩
      · show (List.modify x.Out _ _).length ≤ n + 1
        rw [List.length_modify]; omega
      · show ∀ g ∈ List.modify x.Out _ (fun (x : qh) => qh.mk x.Code v), g.Code.size ≤ 12
        intro g hg
        have h5 := List.mem_map_of_mem (f := fun g : qh => g.Code) hg
        rw [q9M] at h5
        obtain ⟨g', h6, h7⟩ := List.mem_map.1 h5
        rw [← h7]
        exact h4 g' h6
    · rw [if_neg hl]; exact ⟨_, rfl, same _ rfl rfl⟩
  rw [if_neg c9]
  by_cases c10 : (k == 10) = true
  · obtain ⟨v, -, hv⟩ := tbl [(0 : Int), (1 : Int), (1000 : Int), (1001 : Int)] t40 t41
    rw [if_pos c10, if_pos ⟨t40, t41⟩, hv, Option.bind_some]
    exact ⟨_, rfl, same _ rfl rfl⟩
  rw [if_neg c10]
  by_cases c11 : (k == 11) = true
  · rw [if_pos c11]; exact ⟨_, rfl, same _ rfl rfl⟩
  rw [if_neg c11]
  by_cases c12 : (k == 12) = true
  · rw [if_pos c12]
    by_cases hl : (0 : Int) < ((x.In.length : Nat) : Int)
    · obtain ⟨v, hv0, hv⟩ := tbl [ByteArray.mk (List.toArray []), ByteArray.mk (List.toArray [97]), ByteArray.mk (List.toArray [65, 49]), ByteArray.mk (List.toArray [90]), ByteArray.mk (List.toArray [65, 66, 67, 68, 69, 70, 71, 72, 73])] t50 t51
      have hvs : v.size ≤ 12 := by
        simp only [List.mem_cons, List.not_mem_nil, or_false] at hv0
        rcases hv0 with rfl | rfl | rfl | rfl | rfl <;> decide
      rw [if_pos hl, if_pos ⟨t50, t51⟩, hv, Option.bind_some, if_pos hl, if_pos (by omega)]
      refine ⟨_, rfl, inn _ rfl ?_ ?_⟩
      · show (List.set x.In 0 v).length ≤ n + 1
        rw [List.length_set]; omega
      · show ∀ c ∈ List.set x.In 0 v, c.size ≤ 12
        intro c hc
        rcases List.mem_or_eq_of_mem_set hc with hc | hc
        · exact h3 c hc
        · rw [hc]; exact hvs
    · rw [if_neg hl]; exact ⟨_, rfl, same _ rfl rfl⟩
  rw [if_neg c12]
  exact ⟨_, rfl, same _ rfl rfl⟩
end Go.Proofs.YtplfjlcnffcenaaGreat.Vc
namespace Go.Proofs.YtplfjlcnffcenaaGreat.Vc
open Go.RowKit
set_option linter.unusedVariables false
set_option linter.unusedSimpArgs false
theorem qdV (y : List qb) (t4 t5 n : Int) : ∀ (k : Nat) (pre post : List Int), pre.length = k → (pre ++ post).length ≤ 100000000 → Inc (pre ++ post) → n ∉ pre → (∀ q ∈ post, n < q) →
    ∃ out, qA (zw y t4 t5) (pre ++ n :: post, (k : Int)) = some out ∧ Inc out ∧ (∀ x, x ∈ out ↔ x ∈ pre ∨ x = n ∨ x ∈ post) ∧ out.length = pre.length + 1 + post.length
  | 0, pre, post, hk, _, hi, _, hq => by
    have : pre = [] := List.length_eq_zero_iff.1 hk
    subst this
    refine ⟨n :: post, qD ?_, List.pairwise_cons.2 ⟨hq, by have h2 := hi; rw [List.nil_append] at h2; exact h2⟩, fun x => by simp, by simp; omega⟩
    unfold zw
    dsimp only
    rw [if_neg (by decide), List.nil_append]
  | k + 1, pre, post, hk, hlen, hi, hn, hq => by
    obtain ⟨pre', m, rfl⟩ : ∃ pre' m, pre = pre' ++ [m] := ⟨pre.dropLast, pre.getLast (by intro e; rw [e] at hk; simp at hk), (List.dropLast_concat_getLast _).symm⟩
    have hk' : pre'.length = k := by rw [List.length_append, List.length_singleton] at hk; omega
    have hlen' : k + 1 + post.length ≤ 100000000 := by rw [List.length_append, hk] at hlen; exact hlen
    have hnm : m ≠ n := fun e => hn (by rw [e]; simp)
    have hw : w64 (((k + 1 : Nat) : Int) - 1) = (k : Int) := by rw [zl (by omega) (by omega)]; omega
    have e0 : pre' ++ [m] ++ n :: post = pre' ++ m :: n :: post := by rw [List.append_assoc]; rfl
    have hL : (pre' ++ m :: n :: post).length = k + 2 + post.length := by rw [List.length_append, hk', List.length_cons, List.length_cons]; omega
    have g1 : (pre' ++ m :: n :: post)[k]? = some m := by rw [List.getElem?_append_right (by omega), hk', Nat.sub_self]; rfl
    have g2 : (pre' ++ m :: n :: post)[k + 1]? = some n := by rw [List.getElem?_append_right (by omega), hk', Nat.add_sub_cancel_left]; rfl
    have hset : List.set (List.set (pre' ++ m :: n :: post) k n) (k + 1) m = pre' ++ n :: m :: post := by
      rw [List.set_append_right _ _ (by omega), hk', Nat.sub_self, List.set_cons_zero, List.set_append_right _ _ (by omega), hk', Nat.add_sub_cancel_left, List.set_cons_succ, List.set_cons_zero]
    have hstep : zw y t4 t5 (pre' ++ m :: n :: post, ((k + 1 : Nat) : Int)) = if n < m then some (.inl (pre' ++ n :: m :: post, (k : Int))) else some (.inr (pre' ++ m :: n :: post)) := by
      unfold zw
      dsimp only
      have c1 : (0 : Int) ≤ (k : Int) ∧ (k : Int) < (((pre' ++ m :: n :: post).length : Nat) : Int) := by rw [hL]; exact ⟨by omega, by omega⟩
      have c2 : (0 : Int) ≤ ((k + 1 : Nat) : Int) ∧ ((k + 1 : Nat) : Int) < (((pre' ++ m :: n :: post).length : Nat) : Int) := by rw [hL]; exact ⟨by omega, by omega⟩
      rw [if_pos (by omega), hw, if_pos c1, Int.toNat_natCast, Int.toNat_natCast, g1, Option.bind_some, if_pos c2, g2, Option.bind_some]
      by_cases h : n < m
      · rw [if_pos h, if_pos h, if_pos c2, Option.bind_some, if_pos c1, Option.bind_some, if_pos c1, if_pos (by rw [hL]; omega), if_pos c2, if_pos (by rw [hL]; omega), hset]
      · rw [if_neg h, if_neg h]
    rw [e0]
    have hi2 := hi
    unfold Inc at hi2
    rw [List.append_assoc] at hi2
    by_cases h : n < m
    · rw [if_pos h] at hstep
      obtain ⟨out, q1, q2, q3, q4⟩ := qdV y t4 t5 n k pre' (m :: post) hk' (by rw [List.length_append, hk', List.length_cons]; omega) (by unfold Inc; exact hi2) (fun q => hn (List.mem_append_left _ q)) (fun q hq2 => by
        rcases List.mem_cons.1 hq2 with e | hq2
        · rw [e]; exact h
        · exact hq q hq2)
      refine ⟨out, by rw [qM hstep, q1], q2, fun x => ?_, by rw [q4, List.length_append, List.length_cons, List.length_singleton]; omega⟩
      rw [q3 x, List.mem_append, List.mem_cons, List.mem_singleton]
      constructor
      · rintro (a | a | a | a)
        · exact .inl (.inl a)
        · exact .inr (.inl a)
        · exact .inl (.inr a)
        · exact .inr (.inr a)
      · rintro ((a | a) | a | a)
        · exact .inl a
        · exact .inr (.inr (.inl a))
        · exact .inr (.inl a)
        · exact .inr (.inr (.inr a))
    · rw [if_neg h] at hstep
      have hp := List.pairwise_append.1 hi
      have hp1 := List.pairwise_append.1 hp.1
      refine ⟨_, qD hstep, ?_, fun x => ?_, ?_⟩
      · rw [← e0]
        unfold Inc
        rw [List.pairwise_append]
        refine ⟨hp.1, List.pairwise_cons.2 ⟨hq, hp.2.1⟩, fun a ha b hb => ?_⟩
        have ham : a ≤ m := by
          rcases List.mem_append.1 ha with ha | ha
          · exact Int.le_of_lt (hp1.2.2 a ha m (by simp))
          · rw [List.mem_singleton] at ha; omega
        rcases List.mem_cons.1 hb with e | hb
        · omega
        · have := hq b hb; omega
      · rw [← e0, List.mem_append, List.mem_cons]
      · rw [hL, List.length_append, hk', List.length_singleton]
theorem qkH {l : List Int} (hl : l.length ≤ 100000000) (n : Int) : JL l n = some (decide (n ∈ l)) := by
  obtain ⟨c, h1, h2⟩ := q6x (a := l) (b := [n]) hl (by simp)
  unfold JL
  rw [h1, Option.bind_some]
  congr 1
  rw [Bool.eq_iff_iff, h2, decide_eq_true_eq]
  constructor
  · rintro ⟨z, hz, hz2⟩
    rw [List.mem_singleton] at hz2
    rw [← hz2]; exact hz
  · intro h
    exact ⟨n, h, by simp⟩
theorem qcD (y : List qb) (k : Nat) (a : qb) (hk : y[k]? = some a) (hS : a.Sources.length ≤ 4194304) :
    ∀ (r : List Int) (i : Nat) (w : List Int), r.length + i = a.Sources.length → (∀ j, r[j]? = a.Sources[i + j]?) → w.length + r.length ≤ 50000000 → Inc w →
      ∃ out, qA (zG y (k : Int)) (w, (i : Int)) = some out ∧ Inc out ∧ (∀ x, x ∈ out ↔ x ∈ w ∨ x ∈ r) ∧ out.length ≤ w.length + r.length
  | [], i, w, hi, _, _, hw => by
    have hkl := Z5 hk
    refine ⟨w, qD ?_, hw, fun x => by simp, by simp⟩
    unfold zG
    dsimp only
    rw [if_pos ⟨by omega, by omega⟩, Int.toNat_natCast, hk, Option.bind_some, if_neg (by simp at hi; omega)]
  | n :: r, i, w, hi, hr, hlen, hw => by
    have hkl := Z5 hk
    rw [List.length_cons] at hi hlen
    have hn : a.Sources[i]? = some n := by have := hr 0; simpa using this.symm
    have hws : w64 ((i : Int) + 1) = ((i + 1 : Nat) : Int) := qF (n := 10000000) (by omega) (by omega)
    have hm : (1000000000 : Nat) ≤ Go.maxLen := by decide
    have c1 : (0 : Int) ≤ (k : Int) ∧ (k : Int) < ((y.length : Nat) : Int) := ⟨by omega, by omega⟩
    have hr2 : ∀ j, r[j]? = a.Sources[i + 1 + j]? := fun j => by
      have := hr (j + 1)
      rw [show i + 1 + j = i + (j + 1) by omega, ← this]; rfl
    have hstep0 : ∀ z, zG y (k : Int) (w, (i : Int)) = z ↔ (if decide (n ∈ w) = true then some (.inl (w, ((i + 1 : Nat) : Int))) else if w.length + 1 ≤ Go.maxLen ∧ (w.length + 1) * 8 ≤ 140737488355328 then Option.bind (qA (zw y (k : Int) (i : Int)) (w ++ [n], w64 (((w.length + 1 : Nat) : Int) - 1))) fun (a5 : List Int) => some (.inl (a5, ((i + 1 : Nat) : Int))) else none) = z := fun z => by
      unfold zG
      dsimp only
      rw [if_pos c1, Int.toNat_natCast, Int.toNat_natCast, hk, Option.bind_some, if_pos (by omega), if_pos c1, Option.bind_some, if_pos ⟨by omega, by omega⟩, hn, Option.bind_some, qkH (by omega), Option.bind_some, hws]
    by_cases hin : n ∈ w
    · obtain ⟨out, q1, q2, q3, q4⟩ := qcD y k a hk hS r (i + 1) w (by omega) hr2 (by omega) hw
      have hstep := (hstep0 _).2 rfl
      rw [if_pos (decide_eq_true hin)] at hstep
      refine ⟨out, by rw [qM hstep, q1], q2, fun x => ?_, by rw [List.length_cons]; omega⟩
      rw [q3 x, List.mem_cons]
      constructor
      · rintro (h | h)
        · exact .inl h
        · exact .inr (.inr h)
      · rintro (h | h | h)
        · exact .inl h
        · rw [h]; exact .inl hin
        · exact .inr h
    · obtain ⟨o2, p1, p2, p3, p4⟩ := qdV y (k : Int) (i : Int) n w.length w [] rfl (by rw [List.append_nil]; omega) (by rw [List.append_nil]; exact hw) hin (fun q h => by cases h)
      have p4' : o2.length = w.length + 1 := by simpa using p4
      obtain ⟨out, q1, q2, q3, q4⟩ := qcD y k a hk hS r (i + 1) o2 (by omega) hr2 (by omega) p2
      have hstep := (hstep0 _).2 rfl
      rw [if_neg (by rw [decide_eq_false hin]; decide), if_pos ⟨by omega, by omega⟩, show w64 (((w.length + 1 : Nat) : Int) - 1) = (w.length : Int) by rw [zl (by omega) (by omega)]; omega, p1, Option.bind_some] at hstep
      refine ⟨out, by rw [qM hstep, q1], q2, fun x => ?_, by rw [List.length_cons]; omega⟩
      rw [q3 x, p3 x, List.mem_cons]
      constructor
      · rintro ((h | h | h) | h)
        · exact .inl h
        · exact .inr (.inl h)
        · cases h
        · exact .inr (.inr h)
      · rintro (h | h | h)
        · exact .inl (.inl h)
        · exact .inl (.inr (.inl h))
        · exact .inr h
theorem qi6 (y : List qb) (hy : Sml y) (hlen : y.length ≤ 10) :
    ∀ (r : List qb) (i : Nat) (w : List Int), r.length + i = y.length → (∀ j, r[j]? = y[i + j]?) → w.length ≤ 4194304 * i → Inc w →
      ∃ out, qA (zE y) (w, (i : Int)) = some out ∧ Inc out ∧ (∀ x, x ∈ out ↔ x ∈ w ∨ ∃ a ∈ r, x ∈ a.Sources)
  | [], i, w, hi, _, _, hw => by
    refine ⟨w, qD ?_, hw, fun x => by simp⟩
    unfold zE
    dsimp only
    rw [if_neg (by simp at hi; omega)]
  | a :: r, i, w, hi, hr, hl, hw => by
    rw [List.length_cons] at hi
    have ha : y[i]? = some a := by have := hr 0; simpa using this.symm
    have hsa := hy.src a (List.mem_of_getElem? ha)
    have hws : w64 ((i : Int) + 1) = ((i + 1 : Nat) : Int) := qF (n := 10000000) (by omega) (by omega)
    obtain ⟨o2, p1, p2, p3, p4⟩ := qcD y i a ha hsa a.Sources 0 w (by omega) (fun j => by rw [Nat.zero_add]) (by omega) hw
    obtain ⟨out, q1, q2, q3⟩ := qi6 y hy hlen r (i + 1) o2 (by omega) (fun j => by
      have := hr (j + 1)
      rw [show i + 1 + j = i + (j + 1) by omega, ← this]; rfl) (by omega) p2
    have hstep : zE y (w, (i : Int)) = some (.inl (o2, ((i + 1 : Nat) : Int))) := by
      unfold zE
      dsimp only
      rw [if_pos (by omega)]
      change Option.bind (qA (zG y (i : Int)) (w, ((0 : Nat) : Int))) _ = _
      rw [p1, Option.bind_some, hws]
    refine ⟨out, by rw [qM hstep, q1], q2, fun x => ?_⟩
    rw [q3 x, p3 x]
    simp only [List.mem_cons, exists_eq_or_imp, or_assoc]
theorem q94 {y : List qb} (hy : Sml y) (hlen : y.length ≤ 10) : QD y = some (q01 (q0D [] true (y.map (·.Sources))).1) := by
  obtain ⟨out, q1, q2, q3⟩ := qi6 y hy hlen y 0 [] (by simp) (by simp) (by simp) List.Pairwise.nil
  have e : out = q01 (q0D [] true (y.map (·.Sources))).1 := qhD q2 (qfB (q5z _ _ _ List.Pairwise.nil)) fun x => by
    rw [q3 x, qgH, q8U]
    constructor
    · rintro (h | ⟨a, h1, h2⟩)
      · cases h
      · exact .inr ⟨_, List.mem_map.2 ⟨a, h1, rfl⟩, h2⟩
    · rintro (h | ⟨l, h1, h2⟩)
      · cases h
      · obtain ⟨a, h3, rfl⟩ := List.mem_map.1 h1
        exact .inr ⟨a, h3, h2⟩
  unfold QD
  change Option.bind (qA _ ([], ((0 : Nat) : Int))) _ = _
  rw [q1, Option.bind_some, e]
def qrP (z : qa) (g day : Int) (S P : List Int) : List qb := z.Out.map fun x => qb.mk (qt.mk z.To x.Code) x.Credits g day S 0 (P ++ [z.Id])
theorem qaI {l : List Int} (hl : l.length ≤ 100000000) : zI l = some () := by
  have hm : (1000000000 : Nat) ≤ Go.maxLen := by decide
  unfold zI
  rw [if_pos ⟨by omega, by omega⟩]
theorem qeB {z : qa} (hb : Bnd 1000 z) {y : List qb} (h1 : 1 ≤ y.length) (h2 : y.length ≤ 3) {v : qb} (hv : y[0]? = some v) (hpl : v.Path.length ≤ 4194304) (g : Int) (S : List Int) (hS : S.length ≤ 100000000) :
    qA (zN z y g S z.Out ((z.Out.length : Nat) : Int)) ([], (0 : Int)) = some (qrP z g (q8s y) S v.Path) := by
  have hm : (1000000000 : Nat) ≤ Go.maxLen := by decide
  have hO := hb.lo
  have hlast := qbr h1 (show y.length ≤ 1000 by omega)
  generalize q8s y = day at hlast
  have := q1N (step := zN z y g S z.Out ((z.Out.length : Nat) : Int)) z.Out (fun x => qb.mk (qt.mk z.To x.Code) x.Credits g day S 0 (v.Path ++ [z.Id])) (fun i x out hx ho => by
    have hi := Z5 hx
    have hw : w64 ((i : Int) + 1) = ((i + 1 : Nat) : Int) := qF (n := 10000000) (by omega) (by omega)
    unfold zN
    dsimp only
    rw [if_pos (show (i : Int) < ((z.Out.length : Nat) : Int) by omega), if_pos ⟨by omega, by omega⟩, Int.toNat_natCast, hx, Option.bind_some, hlast, Option.bind_some, qaI hS, Option.bind_some, if_pos (show (0 : Int) < ((y.length : Nat) : Int) by omega), hv, Option.bind_some, qaI (by omega), Option.bind_some, if_pos ⟨by omega, by omega⟩, if_pos ⟨by omega, by omega⟩, hw]) (fun out => by
    unfold zN
    dsimp only
    rw [if_neg (by omega)])
  exact this
theorem qbR {z : qa} (hb : Bnd 1000 z) {y : List qb} (h1 : 1 ≤ y.length) (h2 : y.length ≤ 3) {v : qb} (hv : y[0]? = some v) (hpl : v.Path.length ≤ 4194304) (g : Int) (S : List Int) (hS : QD y = some S) :
    qA (zO z y g) ([], (0 : Int)) = some (qrP z g (q8s y) S v.Path) := by
  have hm : (1000000000 : Nat) ≤ Go.maxLen := by decide
  have hO := hb.lo
  have hlast := q8A h1 (show y.length ≤ 1000 by omega)
  generalize q8s y = day at hlast
  have := q1N (step := zO z y g) z.Out (fun x => qb.mk (qt.mk z.To x.Code) x.Credits g day S 0 (v.Path ++ [z.Id])) (fun i x out hx ho => by
    have hi := Z5 hx
    have hw : w64 ((i : Int) + 1) = ((i + 1 : Nat) : Int) := qF (n := 10000000) (by omega) (by omega)
    have hio : (0 : Int) ≤ (i : Int) ∧ (i : Int) < ((z.Out.length : Nat) : Int) := ⟨by omega, by omega⟩
    unfold zO
    dsimp only
    rw [if_pos hio.2, if_pos hio, Int.toNat_natCast, hx, Option.bind_some, if_pos hio, Option.bind_some, hlast, Option.bind_some, hS, Option.bind_some, if_pos (show (0 : Int) < ((y.length : Nat) : Int) by omega), hv, Option.bind_some, if_pos ⟨by omega, by omega⟩, if_pos ⟨by omega, by omega⟩, if_pos ⟨by omega, by omega⟩, hw]) (fun out => by
    unfold zO
    dsimp only
    rw [if_neg (by omega)])
  exact this
theorem qeb (z : qa) (to : qf) {y : List qb} (h : y.length ≤ 1000) : qA (zV z to y) ([], ([], (0 : Int))) = some (y.map (·.Grade), y.map (·.Credits)) := by
  have hm : (1000000 : Nat) ≤ Go.maxLen := by decide
  have := q1M (step := zV z to y) (e := (y.map (·.Grade), y.map (·.Credits))) (fun i => ((y.take i).map (·.Grade), ((y.take i).map (·.Credits), (i : Int)))) 0 y.length (Nat.zero_le _) (fun i _ hi => by
    have hw : w64 ((i : Int) + 1) = ((i + 1 : Nat) : Int) := qF (n := 10000000) (by omega) (by omega)
    have hyi : y[i]? = some y[i] := List.getElem?_eq_getElem hi
    have ht : y.take (i + 1) = y.take i ++ [y[i]] := by rw [List.take_add_one, hyi]; rfl
    have hl : (y.take i).length = i := by rw [List.length_take]; omega
    unfold zV
    dsimp only
    rw [if_pos (by omega), if_pos ⟨by omega, by omega⟩, Int.toNat_natCast, hyi, Option.bind_some, if_pos (by rw [List.length_map, hl]; exact ⟨by omega, by omega⟩), if_pos ⟨by omega, by omega⟩, Option.bind_some, if_pos (by rw [List.length_map, hl]; exact ⟨by omega, by omega⟩), hw, ht, List.map_append, List.map_append]
    rfl) (by
    unfold zV
    dsimp only
    rw [if_neg (by omega), List.take_of_length_le (Nat.le_refl _)])
  exact this
structure SmR (r : List qb) : Prop where
  len : r.length ≤ 1000
  src : ∀ x ∈ r, x.Sources.length ≤ 100000000
  pth : ∀ x ∈ r, x.Path.length ≤ 100000000
theorem qbB {z : qa} (hb : Bnd 1000 z) {y : List qb} (hy : Sml y) (to : qf) : ∃ r, ZN z to y = some r ∧ ZS z to y = some r ∧ SmR r.1 := by
  obtain ⟨b, h1, h2, h3⟩ := q4u hb hy
  have nilOk : SmR [] := ⟨by simp, by simp, by simp⟩
  unfold ZN ZS
  rw [h1, h2, Option.bind_some, Option.bind_some]
  by_cases hbt : b = true
  · subst hbt
    obtain ⟨hc, ha⟩ := h3 rfl
    have hin := q7f hc
    have hl := ha.len
    obtain ⟨v, hv⟩ : ∃ v, y[0]? = some v := ⟨_, List.getElem?_eq_getElem (by omega)⟩
    rw [if_neg (by decide), if_neg (by decide), q7U (by omega), q9V (by omega), Option.bind_some, Option.bind_some, qeb z to (by omega), Option.bind_some]
    dsimp only
    obtain ⟨q, q1, q2⟩ := q8I z.Conv to (gs := y.map (·.Grade)) (cs := y.map (·.Credits)) (by rw [List.length_map, List.length_map]) (by rw [List.length_map]; omega)
    rw [q1, q2, Option.bind_some, Option.bind_some]
    by_cases e : (q.2 != 0) = true
    · rw [if_pos e, if_pos e]; exact ⟨_, rfl, rfl, nilOk⟩
    · rw [if_neg e, if_neg e, q9H, Option.bind_some]
      by_cases p : (!(Qa to q.1)) = true
      · rw [if_pos p, if_pos p]; exact ⟨_, rfl, rfl, nilOk⟩
      · have hsl := q8K (y.map (·.Sources)) [] true (fun x hx => by
          obtain ⟨u, hu, rfl⟩ := List.mem_map.1 hx
          exact hy.src u hu)
        rw [List.length_map, List.length_nil] at hsl
        rw [if_neg p, if_neg p, q6B (by omega), Option.bind_some, qat (by rw [List.length_map]; omega) (fun x hx => by
          obtain ⟨u, hu, rfl⟩ := List.mem_map.1 hx
          exact hy.src u hu), Option.bind_some]
        dsimp only
        have hvp := hy.pth v (List.mem_of_getElem? hv)
        rw [if_pos (by omega), qeB hb (by omega) (by omega) hv hvp q.1 _ (by rw [JO]; omega), qbR hb (by omega) (by omega) hv hvp q.1 _ (q94 hy (by omega)), Option.bind_some]
        refine ⟨_, rfl, rfl, ?_, fun x hx => ?_, fun x hx => ?_⟩
        · show (qrP z q.1 (q8s y) (q01 (q0D [] true (y.map (·.Sources))).1) v.Path).length ≤ 1000
          unfold qrP
          rw [List.length_map]; exact hb.lo
        · obtain ⟨g, hg, rfl⟩ := List.mem_map.1 hx
          show (q01 (q0D [] true (y.map (·.Sources))).1).length ≤ _
          rw [JO]; omega
        · obtain ⟨g, hg, rfl⟩ := List.mem_map.1 hx
          have := hy.pth v (List.mem_of_getElem? hv)
          show (v.Path ++ [z.Id]).length ≤ _
          rw [List.length_append, List.length_singleton]; omega
  · have : b = false := Bool.eq_false_iff.2 hbt
    subst this
    rw [if_pos (by decide), if_pos (by decide)]
    exact ⟨_, rfl, rfl, nilOk⟩
theorem q9T {x : qb} (h1 : x.Sources.length ≤ 100000000) (h2 : x.Path.length ≤ 100000000) : Jj x x = some true := by
  unfold Jj
  rw [q1n (by omega), q1n (by omega), Option.bind_some, Option.bind_some, if_pos (by simp), if_pos (by simp), if_pos (by simp), if_pos (by simp), if_pos (by simp), if_pos (by simp)]
  simp
theorem q86 {r : List qb} (h : SmR r) : Z8 r r = some true := by
  have hl := h.len
  have := q1M (step := Q5 r r) (e := .inr ()) (fun i => (i : Int)) 0 r.length (Nat.zero_le _) (fun i _ hi => by
    have hw : w64 ((i : Int) + 1) = ((i + 1 : Nat) : Int) := qF (n := 10000000) (by omega) (by omega)
    have hr : r[i]? = some r[i] := List.getElem?_eq_getElem hi
    unfold Q5
    rw [if_pos (by omega), if_pos ⟨by omega, by omega⟩, Int.toNat_natCast, hr, Option.bind_some, if_pos ⟨by omega, by omega⟩, Option.bind_some, q9T (h.src _ (List.getElem_mem hi)) (h.pth _ (List.getElem_mem hi)), Option.bind_some, if_neg (by decide), hw]) (by
    unfold Q5
    rw [if_neg (by omega)])
  unfold Z8
  rw [if_neg (by simp)]
  change Option.bind (qA _ ((0 : Nat) : Int)) _ = _
  rw [this]
  rfl
theorem qgv {x : qb} (h1 : x.Sources.length ≤ 1000) (h2 : x.Path.length ≤ 1000) (q : Z6 Int) : ∃ y, JM x q = some y ∧ y.Sources.length ≤ 1001 ∧ y.Path.length ≤ 1001 := by
  have hm : (1000000 : Nat) ≤ Go.maxLen := by decide
  obtain ⟨m, e1, m0, m1⟩ := q6D q.a1 40 (by decide) (by decide)
  obtain ⟨k, e2, k0, k1⟩ := q6D q.a0 8 (by decide) (by decide)
  have t40 := Int.tmod_nonneg 4 m0
  have t41 := Int.tmod_lt_of_pos m (show (0 : Int) < 4 by decide)
  have same : ∀ y : qb, y.Sources = x.Sources → y.Path = x.Path → y.Sources.length ≤ 1001 ∧ y.Path.length ≤ 1001 := fun y g1 g2 => ⟨by rw [g1]; omega, by rw [g2]; omega⟩
  have hcopy : Jg x = some (x.Course.School, x.Course.Code, x.Credits, x.Grade, x.Day, x.Bundle, x.Sources, x.Path) := by
    unfold Jg
    rw [if_pos ⟨by omega, by omega⟩, if_pos ⟨by omega, by omega⟩]
  unfold JM
  rw [hcopy, Option.bind_some, e1, Option.bind_some, e2, Option.bind_some]
  dsimp only
  by_cases c0 : (k == 0) = true
  · rw [if_pos c0]; exact ⟨_, rfl, same _ rfl rfl⟩
  rw [if_neg c0]
  by_cases c1 : (k == 1) = true
  · obtain ⟨v, -, hv⟩ := tbl [ByteArray.mk (List.toArray [65, 49]), ByteArray.mk (List.toArray [66, 49]), ByteArray.mk (List.toArray []), ByteArray.mk (List.toArray [65])] t40 t41
    rw [if_pos c1, if_pos ⟨t40, t41⟩, hv, Option.bind_some]
    exact ⟨_, rfl, same _ rfl rfl⟩
  rw [if_neg c1]
  by_cases c2 : (k == 2) = true
  · rw [if_pos c2]; exact ⟨_, rfl, same _ rfl rfl⟩
  rw [if_neg c2]
  by_cases c3 : (k == 3) = true
  · rw [if_pos c3]; exact ⟨_, rfl, same _ rfl rfl⟩
  rw [if_neg c3]
  by_cases c4 : (k == 4) = true
  · rw [if_pos c4]; exact ⟨_, rfl, same _ rfl rfl⟩
  rw [if_neg c4]
  by_cases c5 : (k == 5) = true
  · rw [if_pos c5, if_pos ⟨by omega, by omega⟩]
    refine ⟨_, rfl, ?_, by show x.Path.length ≤ _; omega⟩
    show (x.Sources ++ [_]).length ≤ _
    rw [List.length_append, List.length_singleton]; omega
  rw [if_neg c5]
  by_cases c6 : (k == 6) = true
  · rw [if_pos c6]; exact ⟨_, rfl, same _ rfl rfl⟩
  rw [if_neg c6]
  by_cases c7 : (k == 7) = true
  · rw [if_pos c7, if_pos ⟨by omega, by omega⟩]
    refine ⟨_, rfl, by show x.Sources.length ≤ _; omega, ?_⟩
    show (x.Path ++ [_]).length ≤ _
    rw [List.length_append, List.length_singleton]; omega
  rw [if_neg c7]
  exact ⟨_, rfl, same _ rfl rfl⟩
end Go.Proofs.YtplfjlcnffcenaaGreat.Vc
namespace Go.Proofs.YtplfjlcnffcenaaGreat.Vc
open Go.RowKit
set_option linter.unusedVariables false
set_option linter.unusedSimpArgs false
structure qlE (y : qb) : Prop where
  src : y.Sources.length ≤ 2
  pth : y.Path.length ≤ 2
theorem q8P {a : qa} (hl : a.In.length ≤ 1000) {P : List Int} (hP : P.length ≤ 2) {i : Nat} (hi : i < a.In.length) {w : List qb} (hw : w.length = i) {d : qj} (hd : q0z d) :
    ∃ y d', zL a P (w, d, (i : Int)) = some (.inl (w ++ [y], d', ((i + 1 : Nat) : Int))) ∧ q0z d' ∧ qlE y := by
  have hm : (1000000 : Nat) ≤ Go.maxLen := by decide
  have hws : w64 ((i : Int) + 1) = ((i + 1 : Nat) : Int) := qF (n := 10000) (by omega) (by omega)
  have ha : a.In[i]? = some a.In[i] := List.getElem?_eq_getElem hi
  obtain ⟨v, d1, e1, v0, v1, hd1⟩ := Zz hd (most := 3) (by decide) (by decide)
  obtain ⟨m, hm1, hm2, hm3⟩ := qfH v0 v1
  obtain ⟨g, d2, e2, g0, g1, hd2⟩ := Zz hd1 (most := 21) (by decide) (by decide)
  obtain ⟨q, d3, e3, q0, q1, hd3⟩ := Zz hd2 (most := 600) (by decide) (by decide)
  obtain ⟨z, d4, e4, z0, z1, hd4⟩ := Zz hd3 (most := 3) (by decide) (by decide)
  have hs : ∀ (c : qt) (m g q u v : Int) , qlE (qb.mk c m g q [u, v] 0 P) ∧ qlE (qb.mk c m g q [u] 0 P) := fun c m g q u v => ⟨⟨by simp, hP⟩, ⟨by simp, hP⟩⟩
  unfold zL
  dsimp only
  rw [if_pos (by omega), if_pos ⟨by omega, by omega⟩, Int.toNat_natCast, ha, Option.bind_some, e1, Option.bind_some]
  dsimp only
  rw [if_pos ⟨v0, v1⟩, hm1, Option.bind_some, e2, Option.bind_some]
  dsimp only
  rw [e3, Option.bind_some]
  dsimp only
  rw [e4]
  simp only [Option.bind_some]
  by_cases h2 : (a.From == (2 : Int)) = true
  · rw [if_pos h2]
    by_cases hz : (z == (0 : Int)) = true
    · rw [if_pos hz, if_pos (by omega), if_pos ⟨by omega, by omega⟩, if_pos ⟨by omega, by omega⟩, hws]
      exact ⟨_, _, rfl, hd4, (hs _ _ _ _ _ _).1⟩
    · rw [if_neg hz, if_pos ⟨by omega, by omega⟩, if_pos ⟨by omega, by omega⟩, hws]
      exact ⟨_, _, rfl, hd4, (hs _ _ _ _ _ 0).2⟩
  · rw [if_neg h2]
    by_cases h3 : (a.From == (3 : Int)) = true
    · rw [if_pos h3]
      by_cases hz : (z == (0 : Int)) = true
      · rw [if_pos hz, if_pos (by omega), if_pos ⟨by omega, by omega⟩, if_pos ⟨by omega, by omega⟩, hws]
        exact ⟨_, _, rfl, hd4, (hs _ _ _ _ _ _).1⟩
      · rw [if_neg hz, if_pos ⟨by omega, by omega⟩, if_pos ⟨by omega, by omega⟩, hws]
        exact ⟨_, _, rfl, hd4, (hs _ _ _ _ _ 0).2⟩
    · rw [if_neg h3]
      by_cases hz : (z == (0 : Int)) = true
      · rw [if_pos hz, if_pos (by omega), if_pos ⟨by omega, by omega⟩, if_pos ⟨by omega, by omega⟩, hws]
        exact ⟨_, _, rfl, hd4, (hs _ _ _ _ _ _).1⟩
      · rw [if_neg hz, if_pos ⟨by omega, by omega⟩, if_pos ⟨by omega, by omega⟩, hws]
        exact ⟨_, _, rfl, hd4, (hs _ _ _ _ _ 0).2⟩
theorem qfn {a : qa} (hlen : a.In.length ≤ 1000) (l : List Int) (hl : l.length ≤ 9223372036854775807) : ∃ x, ZJ a l = some x ∧ x.length = a.In.length ∧ ∀ y ∈ x, qlE y := by
  obtain ⟨v, d1, e1, v0, v1, hd1⟩ := Zz (d := ⟨l, 0⟩) ⟨Int.le_refl _, by show (0 : Int) ≤ _; omega, hl⟩ (most := 3) (by decide) (by decide)
  obtain ⟨P, hP, hP2⟩ : ∃ P : List Int, [[], [(20 : Int)], [(20 : Int), (31 : Int)]][Int.toNat v]? = some P ∧ P.length ≤ 2 := by
    have : v = 0 ∨ v = 1 ∨ v = 2 := by omega
    rcases this with rfl | rfl | rfl <;> exact ⟨_, rfl, by decide⟩
  have key : ∀ (j i : Nat) (w : List qb) (d : qj), j + i = a.In.length → w.length = i → q0z d → (∀ y ∈ w, qlE y) → ∃ x, qA (zL a P) (w, d, (i : Int)) = some x ∧ x.length = a.In.length ∧ ∀ y ∈ x, qlE y := by
    intro j
    induction j with
    | zero =>
      intro i w d hi hw hd hk
      refine ⟨w, qD ?_, by omega, hk⟩
      unfold zL
      dsimp only
      rw [if_neg (by omega)]
    | succ j ih =>
      intro i w d hi hw hd hk
      obtain ⟨y, d', r1, r2, r3⟩ := q8P hlen hP2 (i := i) (by omega) hw hd
      obtain ⟨x, q1, q2⟩ := ih (i + 1) (w ++ [y]) d' (by omega) (by rw [List.length_append, List.length_singleton, hw]) r2 (fun b hb => by
        rcases List.mem_append.1 hb with hb | hb
        · exact hk b hb
        · rw [List.mem_singleton] at hb; rw [hb]; exact r3)
      exact ⟨x, by rw [qM r1, q1], q2⟩
  obtain ⟨x, h1, h2⟩ := key a.In.length 0 [] d1 (by omega) rfl hd1 (fun b hb => by simp at hb)
  refine ⟨x, ?_, h2⟩
  unfold ZJ
  rw [e1, Option.bind_some]
  dsimp only
  rw [if_pos ⟨v0, v1⟩, hP, Option.bind_some]
  change Option.bind (qA _ ([], d1, ((0 : Nat) : Int))) _ = _
  rw [h1, Option.bind_some]
end Go.Proofs.YtplfjlcnffcenaaGreat.Vc
namespace Go.Proofs.YtplfjlcnffcenaaGreat.Vc
open Go.RowKit
set_option linter.unusedVariables false
set_option linter.unusedSimpArgs false
theorem Bnd.mono {n m : Nat} (hnm : n ≤ m) {x : qa} (h : Bnd n x) : Bnd m x := ⟨Nat.le_trans h.li hnm, Nat.le_trans h.lo hnm, h.ci, h.co⟩
theorem qaE (a : ByteArray) {k : Nat} (hk : k ≤ 12) : (ByteArray.extract a 0 k).size ≤ 12 := by
  rw [ByteArray.size_extract]; omega
theorem qiq (x : qa) (z1 z2 z3 z4 z5 z6 z7 z8 z9 y1 y2 y3 y4 y5 y6 y7 y8 y9 : Int) : ∀ (j i : Nat) (w : List ByteArray), j + i = min x.In.length 5 → w.length = i → (∀ c ∈ w, c.size ≤ 12) →
    ∃ w', qA (Qj x z1 z2 z3 z4 z5 z6 z7 z8 z9 y1 y2 y3 y4 y5 y6 y7 y8 y9) (w, (i : Int)) = some w' ∧ w'.length ≤ 5 ∧ ∀ c ∈ w', c.size ≤ 12
  | 0, i, w, hi, hw, hc => by
    refine ⟨w, qD ?_, by omega, hc⟩
    unfold Qj
    dsimp only
    by_cases h : (i : Int) < ((x.In.length : Nat) : Int)
    · rw [if_pos h, if_neg (by omega)]
    · rw [if_neg h]
  | j + 1, i, w, hi, hw, hc => by
    have hil : i < x.In.length := by omega
    have hws : w64 ((i : Int) + 1) = ((i + 1 : Nat) : Int) := qF (n := 10000) (by omega) (by omega)
    have hm : (1000000 : Nat) ≤ Go.maxLen := by decide
    have ha : x.In[i]? = some x.In[i] := List.getElem?_eq_getElem hil
    have he := qaE x.In[i] (k := Int.toNat (min ((ByteArray.size x.In[i] : Nat) : Int) (12 : Int))) (by omega)
    obtain ⟨w', q1, q2⟩ := qiq x z1 z2 z3 z4 z5 z6 z7 z8 z9 y1 y2 y3 y4 y5 y6 y7 y8 y9 j (i + 1) (w ++ [ByteArray.extract x.In[i] 0 (Int.toNat (min ((ByteArray.size x.In[i] : Nat) : Int) (12 : Int)))]) (by omega) (by rw [List.length_append, List.length_singleton, hw]) (fun c h => by
      rcases List.mem_append.1 h with h | h
      · exact hc c h
      · rw [List.mem_singleton] at h; rw [h]; exact he)
    refine ⟨w', ?_, q2⟩
    rw [qM (y := (w ++ [ByteArray.extract x.In[i] 0 (Int.toNat (min ((ByteArray.size x.In[i] : Nat) : Int) (12 : Int)))], ((i + 1 : Nat) : Int))) ?_, q1]
    unfold Qj
    dsimp only
    rw [if_pos (by omega), if_pos (by omega), if_pos ⟨by omega, by omega⟩, Int.toNat_natCast, ha, Option.bind_some, if_pos ⟨by omega, by omega⟩, Option.bind_some, if_pos ⟨by omega, by omega⟩, if_pos ⟨by omega, by omega⟩, hws]
theorem qdS (I : List ByteArray) (x : qa) (z1 z2 z3 z4 z5 z6 z7 z8 z9 y1 y2 y3 y4 y5 y6 y7 y8 y9 : Int) : ∀ (j i : Nat) (w : List qh), j + i = min x.Out.length 5 → w.length = i → (∀ g ∈ w, g.Code.size ≤ 12) →
    ∃ w', qA (Ql I x z1 z2 z3 z4 z5 z6 z7 z8 z9 y1 y2 y3 y4 y5 y6 y7 y8 y9) (w, (i : Int)) = some w' ∧ w'.length ≤ 5 ∧ ∀ g ∈ w', g.Code.size ≤ 12
  | 0, i, w, hi, hw, hc => by
    refine ⟨w, qD ?_, by omega, hc⟩
    unfold Ql
    dsimp only
    by_cases h : (i : Int) < ((x.Out.length : Nat) : Int)
    · rw [if_pos h, if_neg (by omega)]
    · rw [if_neg h]
  | j + 1, i, w, hi, hw, hc => by
    have hil : i < x.Out.length := by omega
    have hws : w64 ((i : Int) + 1) = ((i + 1 : Nat) : Int) := qF (n := 10000) (by omega) (by omega)
    have hm : (1000000 : Nat) ≤ Go.maxLen := by decide
    have ha : x.Out[i]? = some x.Out[i] := List.getElem?_eq_getElem hil
    have he := qaE x.Out[i].Code (k := Int.toNat (min ((ByteArray.size x.Out[i].Code : Nat) : Int) (12 : Int))) (by omega)
    obtain ⟨w', q1, q2⟩ := qdS I x z1 z2 z3 z4 z5 z6 z7 z8 z9 y1 y2 y3 y4 y5 y6 y7 y8 y9 j (i + 1) (w ++ [qh.mk (ByteArray.extract x.Out[i].Code 0 (Int.toNat (min ((ByteArray.size x.Out[i].Code : Nat) : Int) (12 : Int)))) x.Out[i].Credits]) (by omega) (by rw [List.length_append, List.length_singleton, hw]) (fun c h => by
      rcases List.mem_append.1 h with h | h
      · exact hc c h
      · rw [List.mem_singleton] at h; rw [h]; exact he)
    refine ⟨w', ?_, q2⟩
    rw [qM (y := (w ++ [qh.mk (ByteArray.extract x.Out[i].Code 0 (Int.toNat (min ((ByteArray.size x.Out[i].Code : Nat) : Int) (12 : Int)))) x.Out[i].Credits], ((i + 1 : Nat) : Int))) ?_, q1]
    unfold Ql
    dsimp only
    rw [if_pos (by omega), if_pos (by omega), if_pos ⟨by omega, by omega⟩, Int.toNat_natCast, ha, Option.bind_some, if_pos ⟨by omega, by omega⟩, Option.bind_some, if_pos ⟨by omega, by omega⟩, if_pos ⟨by omega, by omega⟩, Option.bind_some, if_pos ⟨by omega, by omega⟩, hws]
theorem qqJ (x : qa) : ∃ y, JU x = some y ∧ Bnd 5 y := by
  obtain ⟨I, i1, i2, i3⟩ := qiq x 0 0 0 0 0 0 0 0 0 x.Id x.From x.To x.Begin x.End x.Conv.Num x.Conv.Add x.Conv.Den x.Conv.Round (min x.In.length 5) 0 [] (by omega) rfl (fun c h => by simp at h)
  obtain ⟨O, o1, o2, o3⟩ := qdS I x 0 0 0 0 0 0 0 0 0 x.Id x.From x.To x.Begin x.End x.Conv.Num x.Conv.Add x.Conv.Den x.Conv.Round (min x.Out.length 5) 0 [] (by omega) rfl (fun c h => by simp at h)
  refine ⟨⟨x.Id, x.From, x.To, x.Begin, x.End, I, O, x.Conv⟩, ?_, i2, o2, i3, o3⟩
  unfold JU
  have i1' : qA (Qj x (0 : Int) (0 : Int) (0 : Int) (0 : Int) (0 : Int) (0 : Int) (0 : Int) (0 : Int) (0 : Int) x.Id x.From x.To x.Begin x.End x.Conv.Num x.Conv.Add x.Conv.Den x.Conv.Round) ([], (0 : Int)) = some I := i1
  have o1' : qA (Ql I x (0 : Int) (0 : Int) (0 : Int) (0 : Int) (0 : Int) (0 : Int) (0 : Int) (0 : Int) (0 : Int) x.Id x.From x.To x.Begin x.End x.Conv.Num x.Conv.Add x.Conv.Den x.Conv.Round) ([], (0 : Int)) = some O := o1
  rw [i1', Option.bind_some, o1', Option.bind_some]
theorem qji {a : qa} (h : q9l a) : Bnd 5 a := by
  obtain ⟨l, hl, hl1, hI⟩ := h.inn
  obtain ⟨m, hm, hm1, hO⟩ := h.out
  have hll := hl.len
  have hml := hm.len
  have hOl : a.Out.length = m.length := by have := congrArg List.length hO; unfold sd at this; simpa using this
  refine ⟨by rw [hI]; unfold sd; rw [List.length_map]; omega, by omega, ?_, ?_⟩
  · rw [hI]
    intro c hc
    obtain ⟨i, hi, rfl⟩ := List.mem_map.1 hc
    exact qdL (hl.lt i hi)
  · intro g hg
    have h1 : g.Code ∈ a.Out.map (·.Code) := List.mem_map.2 ⟨g, hg, rfl⟩
    rw [hO] at h1
    obtain ⟨i, hi, e⟩ := List.mem_map.1 h1
    rw [← e]
    exact qdL (hm.lt i hi)
end Go.Proofs.YtplfjlcnffcenaaGreat.Vc
namespace Go.Proofs.YtplfjlcnffcenaaGreat.Vc
open Go.RowKit
set_option linter.unusedVariables false
set_option linter.unusedSimpArgs false
theorem qoD (w3 : List qa) (w4 : List qf) (w5 : List (List qb)) {z1 z2 : qa} (hz1 : Bnd 1000 z1) (hz2 : Bnd 1000 z2) (b0 : qi) (b1 : qa) (b2 : qf) (t1 : List Int) (t7 : Bool) (t10 t11 : List qb) {y : List qb} (hy : Sml y) (t46 t47 t82 t83 t98 t99 : Int) :
    qA (qN w3 w4 w5 [z1, z2] b0 b1 b2 t1 t7 t10 t11 y t46 t47 t82 t83 t98 t99 (2 : Int)) (0 : Int) = some (.inr ()) := by
  have := q1M (step := qN w3 w4 w5 [z1, z2] b0 b1 b2 t1 t7 t10 t11 y t46 t47 t82 t83 t98 t99 (2 : Int)) (e := .inr ()) (fun i => (i : Int)) 0 2 (Nat.zero_le _) (fun i _ hi => by
    have hw : w64 ((i : Int) + 1) = ((i + 1 : Nat) : Int) := qF (n := 10000) (by omega) (by omega)
    obtain ⟨z, hz, hb⟩ : ∃ z, [z1, z2][i]? = some z ∧ Bnd 1000 z := by
      have : i = 0 ∨ i = 1 := by omega
      rcases this with rfl | rfl
      · exact ⟨z1, rfl, hz1⟩
      · exact ⟨z2, rfl, hz2⟩
    obtain ⟨r, r1, r2, r3⟩ := qbB hb hy b2
    obtain ⟨b, q1, q2, _⟩ := q4u hb hy
    unfold qN
    rw [if_pos (by omega), if_pos ⟨by omega, by simp; omega⟩, Int.toNat_natCast, hz, Option.bind_some, r1, r2, Option.bind_some, Option.bind_some, if_neg (by simp), q86 r3, Option.bind_some, if_neg (by decide), q1, q2, Option.bind_some, Option.bind_some, if_neg (by simp), hw]) (by
    unfold qN
    rw [if_neg (by decide)])
  exact this
theorem qir (w3 : List qa) (w4 : List qf) {w5 : List (List qb)} (h5 : w5.length = 4) (hw5 : ∀ y ∈ w5, Sml y) (b0 : qi) {b1 : qa} (hb : Bnd 100 b1) (b2 : qf) (t1 : List Int) (t7 : Bool) (t10 t11 : List qb) (t46 t47 t82 t83 : Int) :
    qA (qG w3 w4 w5 b0 b1 b2 t1 t7 t10 t11 t46 t47 t82 t83 (4 : Int)) (0 : Int) = some (.inr ()) := by
  obtain ⟨a2, o1, o2⟩ := qhS (by decide) hb b0.Odd
  have := q1M (step := qG w3 w4 w5 b0 b1 b2 t1 t7 t10 t11 t46 t47 t82 t83 (4 : Int)) (e := .inr ()) (fun i => (i : Int)) 0 4 (Nat.zero_le _) (fun i _ hi => by
    have hw : w64 ((i : Int) + 1) = ((i + 1 : Nat) : Int) := qF (n := 10000) (by omega) (by omega)
    have hyi : w5[i]? = some (w5[i]'(by omega)) := List.getElem?_eq_getElem (by omega)
    have hys := hw5 _ (List.mem_of_getElem? hyi)
    generalize w5[i]'(by omega) = y at hyi hys
    unfold qG
    rw [if_pos (by omega), if_pos ⟨by omega, by omega⟩, Int.toNat_natCast, hyi, Option.bind_some, o1, Option.bind_some, qoD w3 w4 w5 (hb.mono (by decide)) (o2.mono (by decide)) b0 b1 b2 t1 t7 t10 t11 hys, Option.bind_some, Sum.elim_inr, hw]) (by
    unfold qG
    rw [if_neg (by decide)])
  exact this
theorem qeW {x o : List qb} (hx : Sml x) (ho : Sml o) {r : List qb} (hr : Sml r) : ∀ y ∈ [x, o, r, x ++ x], Sml y := by
  intro y hy
  simp only [List.mem_cons, List.not_mem_nil, or_false] at hy
  rcases hy with rfl | rfl | rfl | rfl
  · exact hx
  · exact ho
  · exact hr
  · refine ⟨fun z hz => ?_, fun z hz => ?_⟩
    · rcases List.mem_append.1 hz with hz | hz <;> exact hx.src z hz
    · rcases List.mem_append.1 hz with hz | hz <;> exact hx.pth z hz
theorem qik (w3 : List qa) (s1 s2 : qf) (b0 : qi) {b1 : qa} (hb : Bnd 100 b1) (t1 : List Int) (t7 : Bool) {x o : List qb} (hxl : x.length ≤ 1000) (hx : Sml x) (ho : Sml o) (hr : Sml b0.Raw.L) (t46 t47 : Int) :
    qP o w3 [s1, s2] b0 b1 t1 t7 x t46 t47 (2 : Int) (0 : Int) = some (.inr ()) := by
  have hm : (1000000 : Nat) ≤ Go.maxLen := by decide
  have h2 := q1M (step := qQ w3 [s1, s2] b0 b1 t1 t7 x o t46 t47 (2 : Int)) (e := .inr ()) (fun i => (i : Int)) 1 2 (by decide) (fun i h1 hi => by
    have e : i = 1 := by omega
    subst e
    have hw : w64 (((1 : Nat) : Int) + 1) = ((1 + 1 : Nat) : Int) := qF (n := 10000) (by omega) (by omega)
    unfold qQ
    rw [if_pos (by omega), if_pos ⟨by omega, by simp⟩, Int.toNat_natCast, show [s1, s2][1]? = some s2 from rfl, Option.bind_some, if_pos ⟨by omega, by omega⟩, if_pos ⟨by omega, by omega⟩, qir w3 [s1, s2] rfl (qeW hx ho hr) b0 hb s2 t1 t7 x o, Option.bind_some, Sum.elim_inr, hw]) (by
    unfold qQ
    rw [if_neg (by decide)])
  have h2' : qA (qQ w3 [s1, s2] b0 b1 t1 t7 x o t46 t47 (2 : Int)) (w64 ((0 : Int) + 1)) = some (.inr ()) := by
    rw [show w64 ((0 : Int) + 1) = ((1 : Nat) : Int) from zl (by omega) (by omega)]
    exact h2
  unfold qP
  rw [if_pos (by decide), if_pos ⟨by decide, by simp⟩, show [s1, s2][Int.toNat 0]? = some s1 from rfl, Option.bind_some, if_pos ⟨by omega, by omega⟩, if_pos ⟨by omega, by omega⟩, qir w3 [s1, s2] rfl (qeW hx ho hr) b0 hb s1 t1 t7 x o, Option.bind_some, Sum.elim_inr, h2', Option.bind_some, Sum.elim_inr]
theorem qgy {x : List qb} (h : ∀ y ∈ x, qlE y) : Sml x := ⟨fun y hy => by have := (h y hy).src; omega, fun y hy => by have := (h y hy).pth; omega⟩
theorem qu1 {w1 : List qa} (hw1 : ∀ a ∈ w1, Bnd 100 a) (hlen : w1.length ≤ 1000) (b0 : qi) (hr : Sml b0.Raw.L) (t1 : List Int) (ht : t1.length ≤ 9223372036854775807) (t7 : Bool) :
    qA (zd w1 b0 t1 t7 ((w1.length : Nat) : Int)) (0 : Int) = some (.inr ()) := by
  have hm : (1000000 : Nat) ≤ Go.maxLen := by decide
  have := q1M (step := zd w1 b0 t1 t7 ((w1.length : Nat) : Int)) (e := .inr ()) (fun i => (i : Int)) 0 w1.length (Nat.zero_le _) (fun i _ hi => by
    have hw : w64 ((i : Int) + 1) = ((i + 1 : Nat) : Int) := qF (n := 10000) (by omega) (by omega)
    have ha : w1[i]? = some w1[i] := List.getElem?_eq_getElem hi
    have hb := hw1 _ (List.getElem_mem hi)
    generalize w1[i] = a at ha hb
    have hal := hb.li
    obtain ⟨x, x1, x2, x3⟩ := qfn (a := a) (by omega) t1 ht
    have hxs := qgy x3
    unfold zd
    rw [if_pos (by omega), if_pos ⟨by omega, by omega⟩, Int.toNat_natCast, ha, Option.bind_some, x1, Option.bind_some, if_pos ⟨by omega, by omega⟩]
    by_cases h0 : (0 : Int) < ((x.length : Nat) : Int)
    · obtain ⟨k, k1, k2, k3⟩ := q6D b0.At ((x.length : Nat) : Int) h0 (by omega)
      obtain ⟨v, hv, hvk⟩ := tbl x k2 k3
      obtain ⟨o, o1, o2, o3⟩ := qgv (x := v) (by have := (x3 v hv).src; omega) (by have := (x3 v hv).pth; omega) b0.Odd
      have hset : Sml (List.set x (Int.toNat k) o) := by
        refine ⟨fun y hy => ?_, fun y hy => ?_⟩
        · rcases List.mem_or_eq_of_mem_set hy with h | h
          · exact hxs.src y h
          · rw [h]; omega
        · rcases List.mem_or_eq_of_mem_set hy with h | h
          · exact hxs.pth y h
          · rw [h]; omega
      rw [if_pos h0, k1, Option.bind_some, if_pos ⟨k2, k3⟩, hvk, Option.bind_some, o1, Option.bind_some, if_pos ⟨k2, k3⟩, if_pos (by omega), qik w1 _ _ b0 hb t1 t7 (by omega) hxs hset hr, Option.bind_some, Sum.elim_inr, hw]
    · rw [if_neg h0, qik w1 _ _ b0 hb t1 t7 (by omega) hxs hxs hr, Option.bind_some, Sum.elim_inr, hw]) (by
    unfold zd
    rw [if_neg (by omega)])
  exact this
theorem q3E (x0 : List (List Int)) (x1 : List Int) (x2 : qi) (hl : x0.length ≤ maxLen) (hx : ∀ x ∈ x0, x.length ≤ maxLen) (h1 : x1.length ≤ maxLen) (hL : Sml x2.Raw.L) : Qd x0 x1 x2 = some true := by
  have hm : Go.maxLen = 9223372036854775807 := by decide
  obtain ⟨M, e1, hM⟩ := qlk x0 (by omega) (fun x hx' => by have := hx x hx'; omega)
  have hlen := hM.len
  obtain ⟨c, e2, hc⟩ := qqJ x2.Raw.Agreement
  obtain ⟨d, e3, hd⟩ := qhS (by decide) hc x2.Odd
  have hall : ∀ a ∈ M ++ [d], Bnd 100 a := by
    intro a ha
    rcases List.mem_append.1 ha with ha | ha
    · obtain ⟨k, hk, e⟩ := List.getElem_of_mem ha
      exact (qji (hM.ok k a (by rw [List.getElem?_eq_getElem hk, e])).1).mono (by decide)
    · rw [List.mem_singleton] at ha; rw [ha]; exact hd.mono (by decide)
  have hll : (M ++ [d]).length = M.length + 1 := by rw [List.length_append, List.length_singleton]
  have hT : Sml (List.take (Int.toNat (min ((x2.Raw.L.length : Nat) : Int) 4) - 0) x2.Raw.L) := ⟨fun y hy => hL.src y (List.mem_of_mem_take hy), fun y hy => hL.pth y (List.mem_of_mem_take hy)⟩
  have h4 := qu1 hall (by omega) (qi.mk x2.At x2.Odd (qm.mk x2.Raw.Agreement x2.Raw.Day x2.Raw.Scale (List.take (Int.toNat (min ((x2.Raw.L.length : Nat) : Int) (4 : Int)) - 0) x2.Raw.L))) hT x1 (by omega) true
  rw [hll] at h4
  unfold Qd
  rw [if_pos ⟨by omega, by omega⟩, e1, Option.bind_some, e2, Option.bind_some, e3, Option.bind_some, if_pos ⟨by omega, by omega⟩, h4, Option.bind_some, Sum.elim_inr]
end Go.Proofs.YtplfjlcnffcenaaGreat.Vc
