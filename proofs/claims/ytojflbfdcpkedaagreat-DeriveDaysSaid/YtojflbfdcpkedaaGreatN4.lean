/- Part 4 of a proof. -/
import Derived.Test.YtojflbfdcpkedaaGreatN3
set_option linter.unusedVariables false
set_option linter.unusedSimpArgs false
set_option linter.defProp false
set_option linter.unusedSectionVars false
set_option linter.unnecessarySimpa false
namespace Go.Proofs.YtojflbfdcpkedaaGreat.Vc
noncomputable section
open Go.RowKit
theorem qH7:qfZ Tryz.prog 55=true:=by kernel_rfl
theorem qFI:qrs Tryz.prog 70=true:=by kernel_rfl
def by0:=JA_ @k3 (JA_ @z3 (JA_ @b3 (JA_ @o3 (JA_ @q3 (JA_ @k4 (JA_ @z4 (JA_ @b4 (JA_ @o4 (JA_ @q4 (JA_ @k5 (@z5)))))))))))
def by1:=JA_ @k9 (JA_ @z9 (@q9))
def by2:=JA_ @q21 (JA_ @k22 (JA_ @z22 (JA_ @o22 (JA_ @q22 (JA_ @k23 (JA_ @z23 (JA_ @k25 (@z25))))))))
def by3:=JA_ @q25 (JA_ @k26 (JA_ @z26 (JA_ @o26 (JA_ @q26 (JA_ @k28 (JA_ @z28 (JA_ @o28 (JA_ @q28 (JA_ @k29 (JA_ @z29 (JA_ @o29 (JA_ @k33 (@z33)))))))))))))
def by4:=JA_ @q33 (JA_ @k34 (JA_ @z34 (JA_ @o34 (JA_ @q34 (JA_ @k36 (JA_ @z36 (JA_ @b36 (JA_ @o36 (JA_ @q36 (JA_ @k37 (JA_ @z37 (JA_ @q37 (JA_ @k39 (JA_ @z39 (JA_ @o39 (@q39))))))))))))))))
def by5:=JA_ @k48 (JA_ @z48 (JA_ @o48 (JA_ @q48 (JA_ @k49 (JA_ @z49 (JA_ @o49 (@q49)))))))
def by6:=JA_ @k55 (JA_ @z55 (JA_ @b55 (JA_ @o55 (JA_ @q55 (JA_ @k57 (JA_ @z57 (JA_ @b57 (JA_ @o57 (@q57)))))))))
def by8:=JA_ @k70 (JA_ @z70 (JA_ @o70 (@q70)))
def by9:=@k76
def qMd:=JA_ @k85 (JA_ @q85 (JA_ @k88 (JA_ @z88 (JA_ @o88 (@q88)))))
def qNp:=@q92
def qNg:=JA_ @qMY (JA_ @qM8 (JA_ @qLv (JA_ @qNB (JA_ @qNm (JA_ @qN6 (JA_ @qN0 (@qKF)))))))
def qMR:=JA_ @qLi (JA_ @qNn (JA_ @qKX (JA_ @qNA (JA_ @qKz (JA_ @qLB (JA_ @qMs (JA_ @qNH (@qL7))))))))
def qKY:=JA_ @qMy (JA_ @qKK (JA_ @qMp (@qNi)))
def qMg:=JA_ @qLd (JA_ @qLq (JA_ @qNa (JA_ @qKu (JA_ @qM9 (JA_ @qMo (JA_ @qN9 (JA_ @qMS (JA_ @qNv (JA_ @qMU (@qNk))))))))))
def qMl:=JA_ @qNP (JA_ @qKk (JA_ @qNL (JA_ @qKO (JA_ @qNr (JA_ @qNf (@qKP))))))
def qLy:=JA_ @qL9 (JA_ @qKQ (@qKe))
def qLx:=JA_ @qM5 (JA_ @qLN (JA_ @qMv (JA_ @qNd (JA_ @qLb (JA_ @qKW (JA_ @qNI (JA_ @qND (JA_ @qMe (JA_ @qKl (@qMH))))))))))
def qLL:=JA_ @qM2 (@qLF)
def qNO:=@qMc
def qN3:=JA_ @qLh (@qLW)
def qMQ:=@qH7
def qLt:=JA_ @qFI (JA_ @pw8 (JA_ @qII (JA_ @qJH (JA_ @qJY (JA_ @qJy (JA_ @qJm (JA_ @qJk (JA_ @qIk (JA_ @qIY (JA_ @qK0 (JA_ @qJX (JA_ @qJC (JA_ @qIv (JA_ @qIg (JA_ @qJ9 (JA_ @qJ3 (@qJn)))))))))))))))))
def qKr:=JA_ @qJe (JA_ @qIG (JA_ @qJr (JA_ @qJ5 (JA_ @qJR (JA_ @qIf (JA_ @qIx (JA_ @qIu (JA_ @qJQ (JA_ @qJ6 (JA_ @qJs (JA_ @qIV (JA_ @qIM (JA_ @qIC (JA_ @qJ8 (JA_ @qJc (JA_ @qJl (JA_ @qJu (JA_ @qIi (JA_ @qHE (JA_ @qIs (JA_ @qMB (JA_ @qIF (JA_ @qIl (JA_ @qK5 (JA_ @qJj (JA_ @qJW (JA_ @qIP (JA_ @qJO (JA_ @qIr (@qJM))))))))))))))))))))))))))))))
def qMM:=JA_ @qJF (JA_ @qJZ (JA_ @qE6 (JA_ @qJD (JA_ @qHb (JA_ @qJg (JA_ @qHF (JA_ @qJ2 (JA_ @qJT (JA_ @qJi (JA_ @qJE (JA_ @qJ4 (JA_ @qEH (JA_ @qE8 (JA_ @qIW (JA_ @qIL (JA_ @qIO (JA_ @qJt (JA_ @qB9 (JA_ @qyq (JA_ @qCx (JA_ @qyX (JA_ @qmJ (JA_ @qzu (JA_ @qAA (JA_ @qAH (JA_ @qAE (JA_ @qBb (JA_ @qzk (JA_ @qAz (@qyL))))))))))))))))))))))))))))))
def qM0:=JA_ @qB7 (JA_ @qA0 (JA_ @qBG (JA_ @qwp (JA_ @qs5 (JA_ @qCn (JA_ @qzf (JA_ @qzL (JA_ @qBQ (JA_ @qDc (JA_ @qzX (JA_ @qB2 (JA_ @qAx (JA_ @qCQ (JA_ @qBm (JA_ @qAj (JA_ @qDx (JA_ @qza (JA_ @qAn (@qzB)))))))))))))))))))
def qKx:=JA_ @qBf (JA_ @qBV (JA_ @qys (JA_ @qzA (JA_ @qAG (JA_ @qD3 (JA_ @qyY (JA_ @qC8 (JA_ @qst (JA_ @qzq (JA_ @qyv (JA_ @qA3 (JA_ @qyR (JA_ @qzn (JA_ @qBU (JA_ @qz0 (JA_ @qGQ (@qFS)))))))))))))))))
def qL4:=JA_ @qFu (JA_ @qFs (JA_ @qHN (JA_ @qHv (JA_ @qHs (JA_ @qF2 (JA_ @qGR (JA_ @qHt (JA_ @qGe (JA_ @qHf (JA_ @qGG (JA_ @qFK (JA_ @qFf (@qFP)))))))))))))
def qNt:=JA_ @qHo (JA_ @qIa (JA_ @qGa (JA_ @qFe (JA_ @qI7 (JA_ @qER (JA_ @qFt (JA_ @qFN (JA_ @qGt (JA_ @qFo (JA_ @qGl (JA_ @qHW (JA_ @qGd (JA_ @qHP (JA_ @qHk (JA_ @qFc (JA_ @qGu (JA_ @qHC (@qGX))))))))))))))))))
def qNG:=JA_ @qH5 (JA_ @qFZ (JA_ @qHR (JA_ @qAy (JA_ @qBk (JA_ @qAI (JA_ @qzQ (JA_ @qym (JA_ @qAW (JA_ @qzN (@qCz))))))))))
def qMW:=JA_ @qzJ (JA_ @qBM (JA_ @qCO (JA_ @qDs (JA_ @qAU (JA_ @qyQ (JA_ @qzw (JA_ @qzP (JA_ @qze (JA_ @qCR (JA_ @qBx (@qDC)))))))))))
def qKS:=JA_ @qBc (JA_ @qAQ (JA_ @qAk (JA_ @qBs (JA_ @qDH (JA_ @qzt (JA_ @qzz (JA_ @qA2 (JA_ @qBL (JA_ @qB6 (JA_ @qCU (JA_ @qBl (JA_ @qDm (JA_ @qDj (@qCV))))))))))))))
def qLG:=JA_ @qyM (JA_ @qyy (JA_ @qvB (JA_ @qAZ (JA_ @qz5 (JA_ @qwg (JA_ @qCi (JA_ @qA1 (JA_ @qDg (JA_ @qyA (JA_ @qzl (JA_ @qBD (JA_ @qCb (JA_ @qtX (JA_ @qyB (JA_ @qA8 (JA_ @qzg (JA_ @qyP (JA_ @qz9 (JA_ @qAg (@qCE))))))))))))))))))))
def qLP:=JA_ @qDi (JA_ @qsj (JA_ @qqu (JA_ @qrG (JA_ @qrX (JA_ @que (JA_ @qxg (JA_ @qxZ (JA_ @qwv (JA_ @qxM (JA_ @qvp (JA_ @qu3 (JA_ @qxj (@qwY)))))))))))))
def qNo:=JA_ @qur (JA_ @qxO (JA_ @quE (JA_ @qvU (@qvV))))
def qLS:=JA_ @qzb (JA_ @qwy (JA_ @qDF (JA_ @qwk (@qBN))))
def qNh:=JA_ @qwI (JA_ @qBY (JA_ @qAi (JA_ @qBv (JA_ @qDE (JA_ @qDq (JA_ @qwh (JA_ @qvZ (JA_ @qDw (JA_ @qyO (JA_ @qBP (JA_ @qun (JA_ @quQ (JA_ @qxW (JA_ @qCu (JA_ @qAC (JA_ @qw0 (JA_ @qCH (JA_ @qBn (JA_ @quK (JA_ @qyS (JA_ @qBW (JA_ @qCw (JA_ @qzS (JA_ @qtY (@qwB)))))))))))))))))))))))))
def qM7:=JA_ @qut (JA_ @qwL (JA_ @qxX (JA_ @qr6 (JA_ @qwW (JA_ @qtO (JA_ @qw2 (JA_ @qwD (JA_ @qxl (JA_ @qqQ (JA_ @qsn (@qxR)))))))))))
def qMa:=JA_ @qxv (JA_ @qtE (JA_ @qvI (JA_ @qyV (JA_ @qwU (JA_ @qyk (JA_ @qvk (JA_ @qAS (JA_ @qw5 (@qA6)))))))))
def qN2:=JA_ @qBB (JA_ @qyh (JA_ @qAT (JA_ @qCY (JA_ @qvf (JA_ @qvs (JA_ @qyN (JA_ @qCK (JA_ @qyw (JA_ @qvn (JA_ @qvy (JA_ @quN (JA_ @qyl (JA_ @qyG (JA_ @qtJ (JA_ @qDv (JA_ @qBr (JA_ @qvN (JA_ @qBO (JA_ @qAM (JA_ @qBp (JA_ @qCf (JA_ @qtM (JA_ @qty (JA_ @qw4 (@qvi)))))))))))))))))))))))))
def qN8:=JA_ @qwf (JA_ @qrw (JA_ @qtB (JA_ @qxy (JA_ @qwi (JA_ @qxb (JA_ @qvl (JA_ @qqv (JA_ @qs0 (@qwJ)))))))))
def qMJ:=@quX
def bt0:=JA_ @qG1 (JA_ @qpV (JA_ @qI9 (JA_ @qzi (JA_ @qAo (JA_ @qtF (JA_ @qAl (JA_ @qC5 (JA_ @qe1 (JA_ @qkT (@qkR))))))))))
def bt1:=JA_ @qBX (JA_ @qD7 (JA_ @qqy (JA_ @q6A (JA_ @qDa (JA_ @ql8 (JA_ @qzR (@qw8)))))))
def bt2:=JA_ @qxt (JA_ @qxQ (JA_ @qw6 (JA_ @qAw (JA_ @ql5 (JA_ @qyx (@qxi))))))
def bt3:=@qkJ
def bt4:=JA_ @qs2 (JA_ @qrj (@qsi))
def bt5:=JA_ @qGF (JA_ @qrL (JA_ @qA4 (JA_ @qzc (JA_ @qtV (@qi0)))))
def bt6:=JA_ @qvX (JA_ @qvQ (JA_ @qc4 (JA_ @qdA (JA_ @q8u (JA_ @qfo (JA_ @qbt (JA_ @q6x (JA_ @qbq (JA_ @qdB (@qvm))))))))))
def bA:=JA_ @bx0 (JA_ @bx1 (JA_ @bx2 (JA_ @bx3 (JA_ @bx4 (JA_ @bx5 (JA_ @bx6 (JA_ @bx7 (JA_ @bx8 (JA_ @bx9 (JA_ @qKV (JA_ @qKp (JA_ @qN7 (JA_ @qNq (JA_ @qMm (JA_ @qML (JA_ @qKH (JA_ @qME (JA_ @qN1 (JA_ @qLM (JA_ @qMf (JA_ @qKG (JA_ @qKj (JA_ @qKt (JA_ @qLf (JA_ @qLg (JA_ @qKL (JA_ @qMn (JA_ @bz0 (JA_ @bz1 (JA_ @by0 (JA_ @by1 (JA_ @by2 (JA_ @by3 (JA_ @by4 (JA_ @by5 (JA_ @by6 (JA_ @by8 (JA_ @by9 (JA_ @qMd (JA_ @qNp (JA_ @qNg (JA_ @qMR (JA_ @qKY (JA_ @qMg (JA_ @qMl (JA_ @qLy (JA_ @qLx (JA_ @qLL (JA_ @qNO (JA_ @qN3 (JA_ @qMQ (JA_ @qLt (JA_ @qKr (JA_ @qMM (JA_ @qM0 (JA_ @qKx (JA_ @qL4 (JA_ @qNt (JA_ @qNG (JA_ @qMW (JA_ @qKS (JA_ @qLG (JA_ @qLP (JA_ @qNo (JA_ @qLS (JA_ @qNh (JA_ @qM7 (JA_ @qMa (JA_ @qN2 (JA_ @qN8 (JA_ @qMJ (JA_ @bt0 (JA_ @bt1 (JA_ @bt2 (JA_ @bt3 (JA_ @bt4 (JA_ @bt5 (@bt6))))))))))))))))))))))))))))))))))))))))))))))))))))))))))))))))))))))))))))))
def bZ:=JA_ @qOw.{0} (JA_ @qPb.{0} (JA_ @q7n (JA_ @qP7.{0} (JA_ @qOA.{0} (JA_ @qP9.{0} (JA_ @qON (JA_ @qPu.{0,0} (JA_ @List.flatMap_nil.{0,0} (JA_ @qOM.{0,0} (JA_ @List.map_nil.{0,0} (JA_ @eI.eq_1 (JA_ @eS.eq_1 (JA_ @qPv.{0} (JA_ @qOJ.{0} (JA_ @qOK.{0} (JA_ @List.flatMap_append.{0,0} (JA_ @List.map_append.{0,0} (JA_ @q2l (JA_ @q16 (JA_ @Jq (@eA2.eq_1)))))))))))))))))))))
theorem gA {P:Prop} (h:P:=by simp -implicitDefEqProofs (maxSteps:=10000000) only[bA,Int.reduceToNat,Int.reduceLT,Int.reduceLE,Int.reduceAdd,Int.reduceSub,Int.reduceMul,Int.reduceNeg,Int.reduceEq,Int.reduceNe,Int.reduceBEq,Int.reduceBNe,Nat.reduceLT,Nat.reduceAdd,Nat.reduceMul,Nat.reduceSub,Nat.reduceEqDiff,Nat.reduceLeDiff,Nat.reduceBEq,Nat.reduceBNe,↓reduceIte,reduceCtorEq,pure,bind,w64,Q3,roundOf,Option.or_some,Option.or_none,Option.none_or,Option.some_or, *]<;>simp only[rL,dL,bR,bZ,Nat.reduceAdd]):P:=h
end
noncomputable section
open Go.RowKit
set_option maxRecDepth 20000
set_option maxHeartbeats 8000000
theorem qHw:okL 15 qee:=qW (qk qy8) (by kernel_rfl) (by kernel_rfl)
def qG3:=JA_ @qee.eq_1 (JA_ @Tryz.f15.eq_1 @qy8)
theorem qBT:lbO 15 6=qp1:=QG (qk qy8) rfl
theorem qzI:okL 15 qp1:=zZ qHw (qOq (i:=0) (by kernel_rfl))
theorem qnL:raO 15 19=qaE:=qtj (qk qy8) rfl
theorem qh9:rbO 15 19=q8w:=qt7 (qk qy8) rfl
theorem qpx:okL 15 qaE∧okL 15 q8w:=qsS (key:=0) (q:=(qaE,q8w)) qHw (qOq (i:=0) (by kernel_rfl))
theorem qiA:Q1 (rbO 15 19)=19:=by rw[qh9];exact qvE
theorem qtP:∀k s,XE2 evo 15 k (raO 15 19) s=XE2 evo 15 k qaE s:=fun _ _=>by rw[qnL]
theorem quc:∀k s,XE2 evo 15 k (rbO 15 19) s=XE2 evo 15 k q8w s:=fun _ _=>by rw[qh9]
theorem qLR:okL 33 qon:=qW (qk qHQ) (by kernel_rfl) (by kernel_rfl)
def qMN:=JA_ @qon.eq_1 (JA_ @Tryz.f33.eq_1 @qHQ)
theorem qJa:okL 56 qkt:=qW (qk qEf) (by kernel_rfl) (by kernel_rfl)
def qIE:=JA_ @qkt.eq_1 (JA_ @Tryz.f56.eq_1 @qEf)
theorem qw7:lbO 56 13=qhI:=QG (qk qEf) rfl
theorem qvT:okL 56 qhI:=zZ qJa (qOq (i:=0) (by kernel_rfl))
theorem qLJ:okL 97 qlQ:=qW (qk qHd) (by kernel_rfl) (by kernel_rfl)
def qKn:=JA_ @qlQ.eq_1 (JA_ @Tryz.f97.eq_1 @qHd)
def q3F (n:Int) (low:Int) (high:Int):Option Bool:=if low≤n then some (decide (n≤high)) else some Bool.false
def zx (n:Int) (low:Int) (high:Int):Bool:=if low≤n then decide (n≤high) else Bool.false
theorem qaC (n low high:Int):q3F n low high=some (zx n low high):=by
 unfold q3F zx
 simp only[Zm]
theorem Je:∀(n low high:Int),ev 97 0 [rI n,rI low,rI high] []=some (rB (zx n low high),[]):=
 fun n low high=>by
  have h:ev 97 0 [rI n,rI low,rI high] []=(q3F n low high).bind (fun(e:Bool)=>some (rB e,[])):=by
   rw[qS qHd qIL.2.2.2 qLJ]
   have:=qKn;have:=@q3F.eq_1;exact gA
  rw[qaC] at h
  exact h
theorem qJL:okL 98 qkn:=qW (qk qEs) (by kernel_rfl) (by kernel_rfl)
def qIq:=JA_ @qkn.eq_1 (JA_ @Tryz.f98.eq_1 @qEs)
theorem qyD:lbO 98 2=qo7:=QG (qk qEs) rfl
theorem qCg:okL 98 qo7:=zZ qJL (qOq (i:=0) (by kernel_rfl))
def q07 (s:ByteArray) (t6:List Int) (t7:Int):Int→Option (Int⊕(Unit⊕Unit))|t8=>if t8<t7 then if 0≤t8∧t8<((t6.length:Nat):Int) then Option.bind t6[Int.toNat t8]? fun(a:Int)=>if a<32 then some (Sum.inr (Sum.inl ())) else if 126<a then some (Sum.inr (Sum.inl ())) else if(a==34)=Bool.true then some (Sum.inr (Sum.inl ())) else some (Sum.inl (w64 (t8+1))) else none else some (Sum.inr (Sum.inr ()))
theorem q8Z:∀(s:ByteArray) (t6:List Int) (t7 t8:Int),XL2 evo 98 0 2 ⟨[(0,rS s),(6,rL 1 eU8 t6),(7,rI t7),(8,rI t8)],[],0,26⟩=(zy (q07 s t6 t7) t8).bind (Sum.elim (fun(e:Unit)=>some (Exit.ret,⟨[(0,rS s),(2,rB Bool.false)],[],0,26⟩)) (fun(e:Unit)=>some (Exit.exit 0,⟨[(0,rS s),(2,R.any)],[],0,26⟩))):=
 fun s t6 t7 t8=>by
  revert t8;exact qbe qyD qCg (fun e=>by rcases e with _|_<;>exact⟨_,rfl,fun h=>by cases h⟩) fun x=>by
   have:=qIq;have:=@qo7.eq_1;have:=@q07.eq_1;exact gA
def q1f (s:ByteArray):Option Bool:=if ByteArray.size s≤4611686018427387903 then Option.bind (zy (q07 s (qgR s) (((qgR s).length:Nat):Int)) 0) fun(a:Sum Unit Unit)=>Sum.elim (fun(a2:Unit)=>some Bool.false) (fun(a3:Unit)=>some (zx ((ByteArray.size s:Nat):Int) 1 40)) a else none
theorem qcw:∀(s:ByteArray),ev 98 0 [rS s] []=(q1f s).bind (fun(e:Bool)=>some (rB e,[])):=
 fun s=>by
  rw[qS qEs qIO.2.2.2 qJL]
  have:=qIq;have:=@q8Z;have:=@Je;have:=@q1f.eq_1;exact gA
theorem qIh:okL 58 qjp:=qW (qk qEk) (by kernel_rfl) (by kernel_rfl)
def qJG:=JA_ @qjp.eq_1 (JA_ @Tryz.f58.eq_1 @qEk)
theorem qAF:lbO 58 6=qmO:=QG (qk qEk) rfl
theorem qCl:okL 58 qmO:=zZ qIh (qOq (i:=0) (by kernel_rfl))
theorem qD9:okL 102 qcV:=qW (qk qmF) (by kernel_rfl) (by kernel_rfl)
def qwS:=JA_ @qcV.eq_1 (JA_ @Tryz.f102.eq_1 @qmF)
theorem qin:raO 102 4=q8f:=qtj (qk qmF) rfl
theorem qeC:rbO 102 4=q6S:=qt7 (qk qmF) rfl
theorem qeT:okL 102 q8f∧okL 102 q6S:=qsS (key:=0) (q:=(q8f,q6S)) qD9 (qOq (i:=0) (by kernel_rfl))
theorem qhn:Q1 (rbO 102 4)=4:=by rw[qeC];exact quY
theorem qpv:∀k s,XE2 evo 102 k (raO 102 4) s=XE2 evo 102 k q8f s:=fun _ _=>by rw[qin]
theorem qmw:∀k s,XE2 evo 102 k (rbO 102 4) s=XE2 evo 102 k q6S s:=fun _ _=>by rw[qeC]
theorem qFE:okL 139 qi4:=qW (qk quh) (by kernel_rfl) (by kernel_rfl)
def qFy:=JA_ @qi4.eq_1 (JA_ @Tryz.f139.eq_1 @quh)
def q4D (n:qb):Option Unit:=
 some ()
def q7X (n:qb):Unit:=
 ()
theorem qbn (n:qb):q4D n=some (q7X n):=by
 unfold q4D q7X
 simp only[Zm]
theorem qcy:∀(qz n_N qM:Int) (qN:List qc) (n_L:List qb),ev 139 0 [R.agg [dI qz,dI n_N,dI qM,dL 2 qd qN,dL 5 qh n_L]] []=some (R.c (C.fn 168 [] [dP 0]),[(0,B.blk 36 [dI qz,dI n_N,dI qM,dL 2 qd qN,dL 5 qh n_L])]):=
 fun qz n_N qM qN n_L=>by
  have h:ev 139 0 [R.agg [dI qz,dI n_N,dI qM,dL 2 qd qN,dL 5 qh n_L]] []=(q4D (qb.mk qz n_N qM qN n_L)).bind (fun(e:Unit)=>some (R.c (C.fn 168 [] [dP 0]),[(0,B.blk 36 [dI qz,dI n_N,dI qM,dL 2 qd qN,dL 5 qh n_L])])):=by
   rw[qS quh qB2.2.2.2 qFE]
   have:=qFy;have:=@q4D.eq_1;exact gA
  rw[qbn] at h
  exact h
theorem qHT:okL 168 qhX:=qW (qk qxD) (by kernel_rfl) (by kernel_rfl)
def qG0:=JA_ @qhX.eq_1 (JA_ @Tryz.f168.eq_1 @qxD)
theorem quV:okL 169 qff:=qW (qk qpi) (by kernel_rfl) (by kernel_rfl)
def qrP:=JA_ @qff.eq_1 (JA_ @Tryz.f169.eq_1 @qpi)
theorem qnm:lbO 169 4=qeR:=QG (qk qpi) rfl
theorem qpk:okL 169 qeR:=zZ quV (qOq (i:=0) (by kernel_rfl))
def q2T (t9:Int) (t10:Int) (t102:Int) (t103:Int) (t104:List qc) (t105:List qb) (deepest:Int) (ok:Bool):Option (Unit⊕(List qb×Int)):=if 100<t9 then some (Sum.inl ()) else if 1≤maxLen then some (Sum.inr ([qb.mk t10 t102 t103 t104 t105],max deepest t9)) else none
theorem qaw:∀(t9 t10 t102 t103:Int) (t104:List qc) (t105:List qb) (deepest:Int) (ok:Bool),evr 102 (raO 102 4) (rbO 102 4) 4 [R.any,R.any,rP 0,rP 1,rP 2,R.any,R.any,R.any,R.any,rI t9,R.agg [dI t10,dI t102,dI t103,dL 2 qd t104,dL 5 qh t105],R.any,R.any,R.any,R.any,R.any,R.any,R.any,R.any,R.any,R.any,R.any,R.any,R.any,R.any,R.any,R.any] [(0,B.blk 34 [C.nils]),(1,B.blk 3 [dI deepest]),(2,B.blk 4 [dB ok]),(3,B.ob (AO.lp 102 (R.any::R.any::rP 0::rP 1::rP 2::q8G) [9,10] (raO 102 4) (rbO 102 4) LoopState.ready none))]=(q2T t9 t10 t102 t103 t104 t105 deepest ok).bind (Sum.elim (fun(e:Unit)=>some (rB Bool.false,[(0,B.blk 34 [C.nils]),(1,B.blk 3 [dI 0]),(2,B.blk 4 [dB Bool.false]),(3,B.ob (AO.lp 102 (R.any::R.any::rP 0::rP 1::rP 2::q8G) [9,10] (raO 102 4) (rbO 102 4) LoopState.done (some Code.ret)))])) (fun(e:List qb×Int)=>some (rB Bool.true,[(0,B.blk 34 [dO 4 5 e.1.length]),(1,B.blk 3 [dI e.2]),(2,B.blk 4 [dB ok]),(3,B.ob (AO.lp 102 (R.any::R.any::rP 0::rP 1::rP 2::q8G) [9,10] (raO 102 4) (rbO 102 4) LoopState.ready none)),(4,bR 36 5 qh e.1)]))):=
 fun t9 t10 t102 t103 t104 t105 deepest ok=>by
  rw[qh0 qin qeC (by decide) qod qeT.1 qeT.2]
  have:=qwS;have:=@qpv;have:=@qmw;have:=@q8f.eq_1;have:=@q6S.eq_1;have:=@q2T.eq_1;have:=@qhn;exact gA
def q1T (t9:Int) (t10:Int) (t102:Int) (t103:Int) (t104:List qc) (t105:List qb) (w4:List qb) (deepest:Int) (ok:Bool):Option (Unit⊕(List qb×Int)):=if 100<t9 then some (Sum.inl ()) else if(((w4.length:Nat):Int)==10000)=Bool.true then some (Sum.inl ()) else if w4.length+1≤maxLen∧(w4.length+1)*72≤140737488355328 then some (Sum.inr (w4++[qb.mk t10 t102 t103 t104 t105],max deepest t9)) else none
theorem q8h:∀(t9 t10 t102 t103:Int) (t104:List qc) (t105 w4:List qb) (deepest:Int) (ok:Bool) (ZC:Nat),ZC=w4.length→evr 102 (raO 102 4) (rbO 102 4) 4 [R.any,R.any,rP 0,rP 1,rP 2,R.any,R.any,R.any,R.any,rI t9,R.agg [dI t10,dI t102,dI t103,dL 2 qd t104,dL 5 qh t105],R.any,R.any,R.any,R.any,R.any,R.any,R.any,R.any,R.any,R.any,R.any,R.any,R.any,R.any,R.any,R.any] [(0,B.blk 34 [dO 4 5 ZC]),(1,B.blk 3 [dI deepest]),(2,B.blk 4 [dB ok]),(3,B.ob (AO.lp 102 (R.any::R.any::rP 0::rP 1::rP 2::q8G) [9,10] (raO 102 4) (rbO 102 4) LoopState.ready none)),(4,bR 36 5 qh w4)]=(q1T t9 t10 t102 t103 t104 t105 w4 deepest ok).bind (Sum.elim (fun(e:Unit)=>some (rB Bool.false,[(0,B.blk 34 [C.nils]),(1,B.blk 3 [dI 0]),(2,B.blk 4 [dB Bool.false]),(3,B.ob (AO.lp 102 (R.any::R.any::rP 0::rP 1::rP 2::q8G) [9,10] (raO 102 4) (rbO 102 4) LoopState.done (some Code.ret)))])) (fun(e:List qb×Int)=>some (rB Bool.true,[(0,B.blk 34 [dO 4 5 e.1.length]),(1,B.blk 3 [dI e.2]),(2,B.blk 4 [dB ok]),(3,B.ob (AO.lp 102 (R.any::R.any::rP 0::rP 1::rP 2::q8G) [9,10] (raO 102 4) (rbO 102 4) LoopState.ready none)),(4,bR 36 5 qh e.1)]))):=
 by
 intro t9 t10 t102 t103 t104 t105 w4 deepest ok ZC h0
 subst h0
 rw[qh0 qin qeC (by decide) qod qeT.1 qeT.2]
 have:=qwS;have:=@qpv;have:=@qmw;have:=@q8f.eq_1;have:=@q6S.eq_1;have:=@q1T.eq_1;have:=@qhn;exact gA
def ZU (x:(qb×Int×List qb×Int×Bool)):List R×List (Nat×B):=([R.agg [C.d (D.int .i64 x.1.Kind),C.d (D.int .i64 x.1.N),C.d (D.int .i64 x.1.Min),C.d (D.sl 2 x.1.Set.length (x.1.Set.flatMap qd)),C.d (D.sl 5 x.1.L.length (x.1.L.flatMap qh))],R.c (C.d (D.int .i64 x.2.1)),R.c (C.hd .yield 0)],[(0,B.ob (AO.lp 102 [R.any,R.any,R.c (C.ptr 1 0),R.c (C.ptr 2 0),R.c (C.ptr 3 0),R.any,R.any,R.any,R.any,R.any,R.any,R.any,R.any,R.any,R.any,R.any,R.any,R.any,R.any,R.any,R.any,R.any,R.any,R.any,R.any,R.any,R.any] [9,10] (raO 102 4) (rbO 102 4) LoopState.ready none)),(1,B.blk 34 [C.own 4 5 0 x.2.2.1.length]),(2,B.blk 3 [C.d (D.int .i64 x.2.2.2.1)]),(3,B.blk 4 [C.d (D.bool x.2.2.2.2)]),(4,B.row 36 5 ((x.2.2.1.flatMap qh).map C.d))])
def Jl:(Int⊕(List qb×Int×Bool))→R×List (Nat×B):=Sum.elim (fun(e:Int)=>(R.c (C.d (D.bool Bool.false)),[(0,B.ob (AO.lp 102 [R.any,R.any,R.c (C.ptr 1 0),R.c (C.ptr 2 0),R.c (C.ptr 3 0),R.any,R.any,R.any,R.any,R.any,R.any,R.any,R.any,R.any,R.any,R.any,R.any,R.any,R.any,R.any,R.any,R.any,R.any,R.any,R.any,R.any,R.any] [9,10] (raO 102 4) (rbO 102 4) LoopState.done (some Code.ret))),(1,B.blk 34 [C.nils]),(2,B.blk 3 [C.d (D.int .i64 e)]),(3,B.blk 4 [C.d (D.bool Bool.false)])])) (fun(e:List qb×Int×Bool)=>(R.c (C.d (D.bool Bool.true)),[(0,B.ob (AO.lp 102 [R.any,R.any,R.c (C.ptr 1 0),R.c (C.ptr 2 0),R.c (C.ptr 3 0),R.any,R.any,R.any,R.any,R.any,R.any,R.any,R.any,R.any,R.any,R.any,R.any,R.any,R.any,R.any,R.any,R.any,R.any,R.any,R.any,R.any,R.any] [9,10] (raO 102 4) (rbO 102 4) LoopState.ready none)),(1,B.blk 34 [C.own 4 5 0 e.1.length]),(2,B.blk 3 [C.d (D.int .i64 e.2.1)]),(3,B.blk 4 [C.d (D.bool e.2.2)]),(4,B.row 36 5 ((e.1.flatMap qh).map C.d))]))
def q0Q (rF:(qb×Int×List qb×Int×Bool)→Option (Int⊕(List qb×Int×Bool))) (deep:Int) (t15:List qb) (t16:Int):(List qb×Int×Bool×Int)→Option ((List qb×Int×Bool×Int)⊕(Int⊕(List qb×Int×Bool)))|(w4,b2,b3,t17)=>if t17<t16 then if 0≤t17∧t17<((t15.length:Nat):Int) then Option.bind t15[Int.toNat t17]? fun(a2:qb)=>Option.bind (rF (a2,(w64 (deep+1),(w4,(b2,b3))))) fun(a3:Sum Int (Prod (List qb) (Prod Int Bool)))=>Sum.elim (fun(a4:Int)=>some (Sum.inr (Sum.inl a4))) (fun(a5:Prod (List qb) (Prod Int Bool))=>some (Sum.inl (a5.1,a5.2.1,a5.2.2,w64 (t17+1)))) a3 else none else some (Sum.inr (Sum.inr (w4,b2,b3)))
theorem q78 (rE:Orc) (rF:(qb×Int×List qb×Int×Bool)→Option (Int⊕(List qb×Int×Bool))) (hF:∀y,rE (.fn 169) 4 (ZU y).1 (ZU y).2=(rF y).bind fun e=>some (Jl e)) (hM:∀g k a G,g≠169→rE (.fn g) k a G=ev g k a G) (hR:∀g asg bd k a G,rE (.rd g asg bd) k a G=evr g asg bd k a G):∀(w4:List qb) (b2:Int) (b3:Bool) (deep:Int) (t15:List qb) (t16 t17:Int) (ZC:Nat),ZC=w4.length→XL2 rE 169 4 4 ⟨[(1,rI deep),(2,R.c (C.hd .yield 0)),(15,rL 5 qh t15),(16,rI t16),(17,rI t17)],[(0,B.ob (AO.lp 102 (R.any::R.any::rP 1::rP 2::rP 3::q8G) [9,10] (raO 102 4) (rbO 102 4) LoopState.ready none)),(1,B.blk 34 [dO 4 5 ZC]),(2,B.blk 3 [dI b2]),(3,B.blk 4 [dB b3]),(4,bR 36 5 qh w4)],5,28⟩=(zy (q0Q rF deep t15 t16) (w4,b2,b3,t17)).bind (Sum.elim (fun(e:Int)=>some (Exit.ret,⟨[(6,rB Bool.false)],[(0,B.ob (AO.lp 102 (R.any::R.any::rP 1::rP 2::rP 3::q8G) [9,10] (raO 102 4) (rbO 102 4) LoopState.done (some Code.ret))),(1,B.blk 34 [C.nils]),(2,B.blk 3 [dI e]),(3,B.blk 4 [dB Bool.false])],4,28⟩)) (fun(e:List qb×Int×Bool)=>some (Exit.exit 0,⟨[(6,R.any)],[(0,B.ob (AO.lp 102 (R.any::R.any::rP 1::rP 2::rP 3::q8G) [9,10] (raO 102 4) (rbO 102 4) LoopState.ready none)),(1,B.blk 34 [dO 4 5 e.1.length]),(2,B.blk 3 [dI e.2.1]),(3,B.blk 4 [dB e.2.2]),(4,bR 36 5 qh e.1)],5,28⟩))):=
 by
 intro w4 b2 b3 deep t15 t16 t17 ZC h0
 subst h0
 revert t17;revert b3;revert b2;revert w4;exact qJv qnm qpk (fun e=>by rcases e with _|_<;>exact⟨_,rfl,fun h=>by cases h⟩) fun w4 b2 b3 t17=>by
  have hF':∀(qz n_N qM:Int) (qN:List qc) (n_L:List qb) (deep:Int) (w4:List qb) (b2:Int) (b3:Bool) (ZC:Nat),ZC=w4.length→rE (.fn 169) 4 [R.agg [dI qz,dI n_N,dI qM,dL 2 qd qN,dL 5 qh n_L],rI deep,R.c (C.hd .yield 0)] [(0,B.ob (AO.lp 102 (R.any::R.any::rP 1::rP 2::rP 3::q8G) [9,10] (raO 102 4) (rbO 102 4) LoopState.ready none)),(1,B.blk 34 [dO 4 5 ZC]),(2,B.blk 3 [dI b2]),(3,B.blk 4 [dB b3]),(4,bR 36 5 qh w4)]=(rF ((qb.mk qz n_N qM qN n_L),deep,w4,b2,b3)).bind (Sum.elim (fun(e:Int)=>some (rB Bool.false,[(0,B.ob (AO.lp 102 (R.any::R.any::rP 1::rP 2::rP 3::q8G) [9,10] (raO 102 4) (rbO 102 4) LoopState.done (some Code.ret))),(1,B.blk 34 [C.nils]),(2,B.blk 3 [dI e]),(3,B.blk 4 [dB Bool.false])])) (fun(e:List qb×Int×Bool)=>some (rB Bool.true,[(0,B.ob (AO.lp 102 (R.any::R.any::rP 1::rP 2::rP 3::q8G) [9,10] (raO 102 4) (rbO 102 4) LoopState.ready none)),(1,B.blk 34 [dO 4 5 e.1.length]),(2,B.blk 3 [dI e.2.1]),(3,B.blk 4 [dB e.2.2]),(4,bR 36 5 qh e.1)]))):=by intro qz n_N qM qN n_L deep w4 b2 b3 ZC h0;subst h0;exact(hF ((qb.mk qz n_N qM qN n_L),deep,w4,b2,b3)).trans (by congr 1;funext e;rcases e with _|_<;>rfl)
  have:=qrP;have:=@qeR.eq_1;have:=@q0Q.eq_1;exact gA
def q0P (rF:(qb×Int×List qb×Int×Bool)→Option (Int⊕(List qb×Int×Bool))):(qb×Int×List qb×Int×Bool)→Option (Int⊕(List qb×Int×Bool))|(n,deep,w4,b2,b3)=>Option.bind (q1T deep n.Kind n.N n.Min n.Set n.L w4 b2 b3) fun(a2:Sum Unit (Prod (List qb) Int))=>Sum.elim (fun(a3:Unit)=>some (Sum.inl 0)) (fun(a4:Prod (List qb) Int)=>Option.bind (zy (q0Q rF deep n.L ((n.L.length:Nat):Int)) (a4.1,(a4.2,(b3,0)))) fun(a5:Sum Int (Prod (List qb) (Prod Int Bool)))=>Sum.elim (fun(a6:Int)=>some (Sum.inl a6)) (fun(a7:Prod (List qb) (Prod Int Bool))=>some (Sum.inr (a7.1,a7.2.1,a7.2.2))) a5) a2
theorem q69:q84 169 4 ZU Jl q0P:=by
 intro rE rF hF hM hR x
 obtain⟨n,deep,w4,b2,b3⟩:=x
 show qaJ rE 169 4 [R.agg [dI n.Kind,dI n.N,dI n.Min,dL 2 qd n.Set,dL 5 qh n.L],rI deep,R.c (C.hd .yield 0)] [(0,B.ob (AO.lp 102 (R.any::R.any::rP 1::rP 2::rP 3::q8G) [9,10] (raO 102 4) (rbO 102 4) LoopState.ready none)),(1,B.blk 34 [dO 4 5 w4.length]),(2,B.blk 3 [dI b2]),(3,B.blk 4 [dB b3]),(4,bR 36 5 qh w4)]=_
 have hF':∀(qz n_N qM:Int) (qN:List qc) (n_L:List qb) (deep:Int) (w4:List qb) (b2:Int) (b3:Bool) (ZC:Nat),ZC=w4.length→rE (.fn 169) 4 [R.agg [dI qz,dI n_N,dI qM,dL 2 qd qN,dL 5 qh n_L],rI deep,R.c (C.hd .yield 0)] [(0,B.ob (AO.lp 102 (R.any::R.any::rP 1::rP 2::rP 3::q8G) [9,10] (raO 102 4) (rbO 102 4) LoopState.ready none)),(1,B.blk 34 [dO 4 5 ZC]),(2,B.blk 3 [dI b2]),(3,B.blk 4 [dB b3]),(4,bR 36 5 qh w4)]=(rF ((qb.mk qz n_N qM qN n_L),deep,w4,b2,b3)).bind (Sum.elim (fun(e:Int)=>some (rB Bool.false,[(0,B.ob (AO.lp 102 (R.any::R.any::rP 1::rP 2::rP 3::q8G) [9,10] (raO 102 4) (rbO 102 4) LoopState.done (some Code.ret))),(1,B.blk 34 [C.nils]),(2,B.blk 3 [dI e]),(3,B.blk 4 [dB Bool.false])])) (fun(e:List qb×Int×Bool)=>some (rB Bool.true,[(0,B.ob (AO.lp 102 (R.any::R.any::rP 1::rP 2::rP 3::q8G) [9,10] (raO 102 4) (rbO 102 4) LoopState.ready none)),(1,B.blk 34 [dO 4 5 e.1.length]),(2,B.blk 3 [dI e.2.1]),(3,B.blk 4 [dB e.2.2]),(4,bR 36 5 qh e.1)]))):=by intro qz n_N qM qN n_L deep w4 b2 b3 ZC h0;subst h0;exact(hF ((qb.mk qz n_N qM qN n_L),deep,w4,b2,b3)).trans (by congr 1;funext e;rcases e with _|_<;>rfl)
 rw[q4u qpi quV]
 have:=qrP;have:=@q8h;have:=q78 rE rF hF hM hR;have:=@q0P.eq_1;have:=@Jl.eq_1;exact gA
theorem q3B:∀x y,ZU x=ZU y→x=y:=by
 rintro⟨⟨qDJ,qDK,qDL,qDM,qDN⟩,a1,a2,a3,a4⟩ ⟨⟨qDO,qDP,qDQ,qDR,qDS⟩,b1,b2,b3,b4⟩ h
 simp only[ZU,Prod.mk.injEq,List.cons.injEq,R.c.injEq,R.agg.injEq,R.tup.injEq,C.d.injEq,C.own.injEq,C.ptr.injEq,C.eptr.injEq,D.int.injEq,D.bool.injEq,D.str.injEq,D.sl.injEq,B.blk.injEq,B.row.injEq,q0J,q2C,q1z,q1A,q20,q1Z,q4g,q42,q3Z,q0M,true_and,and_true,qOJ] at h
 simp only[h]
theorem q8A:∀x y,Jl x=Jl y→x=y:=by
 rintro(a0|⟨qK6,qK7,qNQ⟩) (b0|⟨qK8,qK9,qNR⟩) h<;>simp only[Sum.elim_inl,Sum.elim_inr,Jl,Prod.mk.injEq,List.cons.injEq,R.c.injEq,R.agg.injEq,R.tup.injEq,C.d.injEq,C.own.injEq,C.ptr.injEq,C.eptr.injEq,D.int.injEq,D.bool.injEq,D.str.injEq,D.sl.injEq,B.blk.injEq,B.row.injEq,q0J,q2C,q1z,q1A,q20,q1Z,q4g,q42,q3Z,q0M,true_and,and_true,qOJ,reduceCtorEq,false_and,and_false] at h<;>simp only[h]
def Ju:(qb×Int×List qb×Int×Bool)→Option (Int⊕(List qb×Int×Bool)):=q8k 169 4 ZU Jl
theorem qbj (x:(qb×Int×List qb×Int×Bool)):Ju x=q0P Ju x:=qcI qst.2.2.2 q3B q8A q69 x
theorem qaI (n:qb) (deep:Int) (w4:List qb) (b2:Int) (b3:Bool):ev 169 4 [R.agg [dI n.Kind,dI n.N,dI n.Min,dL 2 qd n.Set,dL 5 qh n.L],rI deep,R.c (C.hd .yield 0)] [(0,B.ob (AO.lp 102 (R.any::R.any::rP 1::rP 2::rP 3::q8G) [9,10] (raO 102 4) (rbO 102 4) LoopState.ready none)),(1,B.blk 34 [dO 4 5 w4.length]),(2,B.blk 3 [dI b2]),(3,B.blk 4 [dB b3]),(4,bR 36 5 qh w4)]=(Ju (n,deep,w4,b2,b3)).bind (Sum.elim (fun(e:Int)=>some (rB Bool.false,[(0,B.ob (AO.lp 102 (R.any::R.any::rP 1::rP 2::rP 3::q8G) [9,10] (raO 102 4) (rbO 102 4) LoopState.done (some Code.ret))),(1,B.blk 34 [C.nils]),(2,B.blk 3 [dI e]),(3,B.blk 4 [dB Bool.false])])) (fun(e:List qb×Int×Bool)=>some (rB Bool.true,[(0,B.ob (AO.lp 102 (R.any::R.any::rP 1::rP 2::rP 3::q8G) [9,10] (raO 102 4) (rbO 102 4) LoopState.ready none)),(1,B.blk 34 [dO 4 5 e.1.length]),(2,B.blk 3 [dI e.2.1]),(3,B.blk 4 [dB e.2.2]),(4,bR 36 5 qh e.1)]))):=(q99 qst.2.2.2 q3B q69 (n,deep,w4,b2,b3)).trans (by congr 1;funext e;rcases e with _|_<;>rfl)
theorem qbm:∀(qz n_N qM:Int) (qN:List qc) (n_L:List qb) (deep:Int) (w4:List qb) (b2:Int) (b3:Bool) (ZC:Nat),ZC=w4.length→ev 169 4 [R.agg [dI qz,dI n_N,dI qM,dL 2 qd qN,dL 5 qh n_L],rI deep,R.c (C.hd .yield 0)] [(0,B.ob (AO.lp 102 (R.any::R.any::rP 1::rP 2::rP 3::q8G) [9,10] (raO 102 4) (rbO 102 4) LoopState.ready none)),(1,B.blk 34 [dO 4 5 ZC]),(2,B.blk 3 [dI b2]),(3,B.blk 4 [dB b3]),(4,bR 36 5 qh w4)]=(Ju ((qb.mk qz n_N qM qN n_L),deep,w4,b2,b3)).bind (Sum.elim (fun(e:Int)=>some (rB Bool.false,[(0,B.ob (AO.lp 102 (R.any::R.any::rP 1::rP 2::rP 3::q8G) [9,10] (raO 102 4) (rbO 102 4) LoopState.done (some Code.ret))),(1,B.blk 34 [C.nils]),(2,B.blk 3 [dI e]),(3,B.blk 4 [dB Bool.false])])) (fun(e:List qb×Int×Bool)=>some (rB Bool.true,[(0,B.ob (AO.lp 102 (R.any::R.any::rP 1::rP 2::rP 3::q8G) [9,10] (raO 102 4) (rbO 102 4) LoopState.ready none)),(1,B.blk 34 [dO 4 5 e.1.length]),(2,B.blk 3 [dI e.2.1]),(3,B.blk 4 [dB e.2.2]),(4,bR 36 5 qh e.1)]))):=
 by
 intro qz n_N qM qN n_L deep w4 b2 b3 ZC h0
 subst h0
 exact qaI (qb.mk qz n_N qM qN n_L) deep w4 b2 b3
def q32 (deep:Int) (t15:List qb) (t16:Int):(List qb×Int×Bool×Int)→Option ((List qb×Int×Bool×Int)⊕(Int⊕(List qb×Int×Bool)))|(w4,b2,b3,t17)=>if t17<t16 then if 0≤t17∧t17<((t15.length:Nat):Int) then Option.bind t15[Int.toNat t17]? fun(a:qb)=>Option.bind (Ju (a,(w64 (deep+1),(w4,(b2,b3))))) fun(a2:Sum Int (Prod (List qb) (Prod Int Bool)))=>Sum.elim (fun(a3:Int)=>some (Sum.inr (Sum.inl a3))) (fun(a4:Prod (List qb) (Prod Int Bool))=>some (Sum.inl (a4.1,a4.2.1,a4.2.2,w64 (t17+1)))) a2 else none else some (Sum.inr (Sum.inr (w4,b2,b3)))
theorem qaP:∀(w4:List qb) (b2:Int) (b3:Bool) (deep:Int) (t15:List qb) (t16 t17:Int) (ZC:Nat),ZC=w4.length→XL2 evo 169 4 4 ⟨[(1,rI deep),(2,R.c (C.hd .yield 0)),(15,rL 5 qh t15),(16,rI t16),(17,rI t17)],[(0,B.ob (AO.lp 102 (R.any::R.any::rP 1::rP 2::rP 3::q8G) [9,10] (raO 102 4) (rbO 102 4) LoopState.ready none)),(1,B.blk 34 [dO 4 5 ZC]),(2,B.blk 3 [dI b2]),(3,B.blk 4 [dB b3]),(4,bR 36 5 qh w4)],5,28⟩=(zy (q32 deep t15 t16) (w4,b2,b3,t17)).bind (Sum.elim (fun(e:Int)=>some (Exit.ret,⟨[(6,rB Bool.false)],[(0,B.ob (AO.lp 102 (R.any::R.any::rP 1::rP 2::rP 3::q8G) [9,10] (raO 102 4) (rbO 102 4) LoopState.done (some Code.ret))),(1,B.blk 34 [C.nils]),(2,B.blk 3 [dI e]),(3,B.blk 4 [dB Bool.false])],4,28⟩)) (fun(e:List qb×Int×Bool)=>some (Exit.exit 0,⟨[(6,R.any)],[(0,B.ob (AO.lp 102 (R.any::R.any::rP 1::rP 2::rP 3::q8G) [9,10] (raO 102 4) (rbO 102 4) LoopState.ready none)),(1,B.blk 34 [dO 4 5 e.1.length]),(2,B.blk 3 [dI e.2.1]),(3,B.blk 4 [dB e.2.2]),(4,bR 36 5 qh e.1)],5,28⟩))):=
 by
 intro w4 b2 b3 deep t15 t16 t17 ZC h0
 subst h0
 revert t17;revert b3;revert b2;revert w4;exact qJv qnm qpk (fun e=>by rcases e with _|_<;>exact⟨_,rfl,fun h=>by cases h⟩) fun w4 b2 b3 t17=>by
  have:=qrP;have:=@qeR.eq_1;have:=@qbm;have:=@q32.eq_1;exact gA
def q5Q (n:qb) (deep:Int) (b2:Int) (b3:Bool):Option (Int⊕(List qb×Int×Bool)):=Option.bind (q2T deep n.Kind n.N n.Min n.Set n.L b2 b3) fun(a:Sum Unit (Prod (List qb) Int))=>Sum.elim (fun(a2:Unit)=>some (Sum.inl 0)) (fun(a3:Prod (List qb) Int)=>Option.bind (zy (q32 deep n.L ((n.L.length:Nat):Int)) (a3.1,(a3.2,(b3,0)))) fun(a4:Sum Int (Prod (List qb) (Prod Int Bool)))=>Sum.elim (fun(a5:Int)=>some (Sum.inl a5)) (fun(a6:Prod (List qb) (Prod Int Bool))=>some (Sum.inr (a6.1,a6.2.1,a6.2.2))) a4) a
theorem qdp:∀(qz n_N qM:Int) (qN:List qc) (n_L:List qb) (deep b2:Int) (b3:Bool),ev 169 4 [R.agg [dI qz,dI n_N,dI qM,dL 2 qd qN,dL 5 qh n_L],rI deep,R.c (C.hd .yield 0)] [(0,B.ob (AO.lp 102 (R.any::R.any::rP 1::rP 2::rP 3::q8G) [9,10] (raO 102 4) (rbO 102 4) LoopState.ready none)),(1,B.blk 34 [C.nils]),(2,B.blk 3 [dI b2]),(3,B.blk 4 [dB b3])]=(q5Q (qb.mk qz n_N qM qN n_L) deep b2 b3).bind (Sum.elim (fun(e:Int)=>some (rB Bool.false,[(0,B.ob (AO.lp 102 (R.any::R.any::rP 1::rP 2::rP 3::q8G) [9,10] (raO 102 4) (rbO 102 4) LoopState.done (some Code.ret))),(1,B.blk 34 [C.nils]),(2,B.blk 3 [dI e]),(3,B.blk 4 [dB Bool.false])])) (fun(e:List qb×Int×Bool)=>some (rB Bool.true,[(0,B.ob (AO.lp 102 (R.any::R.any::rP 1::rP 2::rP 3::q8G) [9,10] (raO 102 4) (rbO 102 4) LoopState.ready none)),(1,B.blk 34 [dO 4 5 e.1.length]),(2,B.blk 3 [dI e.2.1]),(3,B.blk 4 [dB e.2.2]),(4,bR 36 5 qh e.1)]))):=
 fun qz n_N qM qN n_L deep b2 b3=>by
  rw[qS qpi qst.2.2.2 quV]
  have:=qrP;have:=@qaw;have:=@qaP;have:=@q5Q.eq_1;exact gA
def q2S (b2:Int) (b3:Bool) (v:qb):Option (Int⊕(List qb×Int×Bool)):=Option.bind (q5Q v 1 b2 b3) fun(a:Sum Int (Prod (List qb) (Prod Int Bool)))=>Sum.elim (fun(a2:Int)=>some (Sum.inl a2)) (fun(a3:Prod (List qb) (Prod Int Bool))=>some (Sum.inr (a3.1,a3.2.1,a3.2.2))) a
theorem qaO:∀(b2:Int) (b3:Bool) (qgJ v_N qpH:Int) (qpI:List qc) (v_L:List qb),ev 168 5 [R.c (C.hd .yield 0),rP 4] [(0,B.ob (AO.lp 102 (R.any::R.any::rP 1::rP 2::rP 3::q8G) [9,10] (raO 102 4) (rbO 102 4) LoopState.ready none)),(1,B.blk 34 [C.nils]),(2,B.blk 3 [dI b2]),(3,B.blk 4 [dB b3]),(4,B.blk 36 [dI qgJ,dI v_N,dI qpH,dL 2 qd qpI,dL 5 qh v_L])]=(q2S b2 b3 (qb.mk qgJ v_N qpH qpI v_L)).bind (Sum.elim (fun(e:Int)=>some (R.tup [],[(0,B.ob (AO.lp 102 (R.any::R.any::rP 1::rP 2::rP 3::q8G) [9,10] (raO 102 4) (rbO 102 4) LoopState.done (some Code.ret))),(1,B.blk 34 [C.nils]),(2,B.blk 3 [dI e]),(3,B.blk 4 [dB Bool.false]),(4,B.blk 36 [dI qgJ,dI v_N,dI qpH,dL 2 qd qpI,dL 5 qh v_L])])) (fun(e:List qb×Int×Bool)=>some (R.tup [],[(0,B.ob (AO.lp 102 (R.any::R.any::rP 1::rP 2::rP 3::q8G) [9,10] (raO 102 4) (rbO 102 4) LoopState.ready none)),(1,B.blk 34 [dO 5 5 e.1.length]),(2,B.blk 3 [dI e.2.1]),(3,B.blk 4 [dB e.2.2]),(4,B.blk 36 [dI qgJ,dI v_N,dI qpH,dL 2 qd qpI,dL 5 qh v_L]),(5,bR 36 5 qh e.1)]))):=
 fun b2 b3 qgJ v_N qpH qpI v_L=>by
  rw[qS qxD qC8.2.2.2 qHT]
  have:=qG0;have:=@qdp;have:=@q2S.eq_1;exact gA
def q2N (n:qb):Option (List qb×Int×Bool):=Option.bind (q2S 0 Bool.false n) fun(a:Sum Int (Prod (List qb) (Prod Int Bool)))=>Sum.elim (fun(a2:Int)=>some ([],a2,Bool.false)) (fun(a3:Prod (List qb) (Prod Int Bool))=>some (a3.1,a3.2.1,Bool.true)) a
theorem q7Z:∀(qz n_N qM:Int) (qN:List qc) (n_L:List qb),ev 102 0 [R.agg [dI qz,dI n_N,dI qM,dL 2 qd qN,dL 5 qh n_L]] []=(q2N (qb.mk qz n_N qM qN n_L)).bind (fun(e:List qb×Int×Bool)=>some (R.tup [rL 5 qh e.1,rI e.2.1,rB e.2.2],[])):=
 fun qz n_N qM qN n_L=>by
  rw[qS qmF qCx.2.2.2 qD9]
  have:=qwS;have:=@qcy;have:=@qaO;have:=@q2N.eq_1;have:=@qhn;exact gA
theorem qK4:okL 82 qjD:=qW (qk qE4) (by kernel_rfl) (by kernel_rfl)
def qJw:=JA_ @qjD.eq_1 (JA_ @Tryz.f82.eq_1 @qE4)
theorem qAB:lbO 82 3=qnh:=QG (qk qE4) rfl
theorem qA5:okL 82 qnh:=zZ qK4 (qOq (i:=0) (by kernel_rfl))
theorem qHL:okL 129 qhk:=qW (qk qvq) (by kernel_rfl) (by kernel_rfl)
def qFj:=JA_ @qhk.eq_1 (JA_ @Tryz.f129.eq_1 @qvq)
def q5J (n:qb):Option Bool:=if(n.Kind != 3)=Bool.true then some (n.Kind != 4) else some Bool.false
def q1u (n:qb):Bool:=if(n.Kind != 3)=Bool.true then n.Kind != 4 else Bool.false
theorem qcv (n:qb):q5J n=some (q1u n):=by
 unfold q5J q1u
 simp only[Zm]
theorem qdy:∀(qz n_N qM:Int) (qN:List qc) (n_L:List qb),ev 129 0 [R.agg [dI qz,dI n_N,dI qM,dL 2 qd qN,dL 5 qh n_L]] []=some (rB (q1u (qb.mk qz n_N qM qN n_L)),[]):=
 fun qz n_N qM qN n_L=>by
  have h:ev 129 0 [R.agg [dI qz,dI n_N,dI qM,dL 2 qd qN,dL 5 qh n_L]] []=(q5J (qb.mk qz n_N qM qN n_L)).bind (fun(e:Bool)=>some (rB e,[])):=by
   rw[qS qvq qBG.2.2.2 qHL]
   have:=qFj;have:=@q5J.eq_1;exact gA
  rw[qcv] at h
  exact h
theorem qzh:okL 130 qf7:=qW (qk qqh) (by kernel_rfl) (by kernel_rfl)
def qDt:=JA_ @qf7.eq_1 (JA_ @Tryz.f130.eq_1 @qqh)
theorem qxB:lbO 130 3=qi9:=QG (qk qqh) rfl
theorem qv6:okL 130 qi9:=zZ qzh (qOq (i:=0) (by kernel_rfl))
def Q5 (s:List qc):Option Unit:=if s.length≤maxLen∧s.length*24≤140737488355328 then some () else none
theorem q14:∀(s:List qc),ev 161 0 [rL 2 qd s] []=(Q5 s).bind (fun(e:Unit)=>some (rL 2 qd s,[])):=
 fun s=>by
  rw[qxU,qBf.2.2.2]
  have:=@Q5.eq_1;exact gA
def QS (s:List qb):Option Unit:=if s.length≤maxLen∧s.length*72≤140737488355328 then some () else none
theorem q24:∀(s:List qb),ev 162 0 [rL 5 qh s] []=(QS s).bind (fun(e:Unit)=>some (rO 0 5 s.length,[(0,bR 36 5 qh s)])):=
 fun s=>by
  rw[qxU,qBV.2.2.2]
  have:=@QS.eq_1;exact gA
def ZY (x:qb):List R×List (Nat×B):=([R.agg [C.d (D.int .i64 x.Kind),C.d (D.int .i64 x.N),C.d (D.int .i64 x.Min),C.d (D.sl 2 x.Set.length (x.Set.flatMap qd)),C.d (D.sl 5 x.L.length (x.L.flatMap qh))]],[])
def Jk:qb→R×List (Nat×B):=fun(e:qb)=>(R.agg [C.d (D.int .i64 e.Kind),C.d (D.int .i64 e.N),C.d (D.int .i64 e.Min),C.d (D.sl 2 e.Set.length (e.Set.flatMap qd)),C.d (D.sl 5 e.L.length (e.L.flatMap qh))],[])
def JN (rF:qb→Option qb) (qz:Int) (n_N:Int) (qM:Int) (qN:List qc) (q0e:Int) (qek:Int) (q2b:Int) (t15:Int):(List qb×Int)→Option ((List qb×Int)⊕(List qb))|(w1,t16)=>if t16<t15 then if 0≤t16∧t16<((w1.length:Nat):Int) then Option.bind w1[Int.toNat t16]? fun(a2:qb)=>Option.bind (rF a2) fun(a3:qb)=>if 0≤t16∧t16<((w1.length:Nat):Int) then if Int.toNat t16*5+5≤w1.length*5 then some (Sum.inl (List.set w1 (Int.toNat t16) a3,w64 (t16+1))) else none else none else none else some (Sum.inr w1)
theorem q8B (rE:Orc) (rF:qb→Option qb) (hF:∀y,rE (.fn 130) 0 (ZY y).1 (ZY y).2=(rF y).bind fun e=>some (Jk e)) (hM:∀g k a G,g≠130→rE (.fn g) k a G=ev g k a G) (hR:∀g asg bd k a G,rE (.rd g asg bd) k a G=evr g asg bd k a G):∀(w1:List qb) (qz n_N qM:Int) (qN:List qc) (q0e qek q2b t15 t16:Int) (QO:Nat),QO=w1.length→XL2 rE 130 0 3 ⟨[(1,rP 0),(2,rP 2),(14,rO 1 5 QO),(15,rI t15),(16,rI t16)],[(0,B.blk 36 [dI qz,dI n_N,dI qM,dL 2 qd qN,dO 1 5 QO]),(1,bR 36 5 qh w1),(2,B.blk 36 [dI q0e,dI qek,dI q2b,C.nils,C.nils])],3,29⟩=(zy (JN rF qz n_N qM qN q0e qek q2b t15) (w1,t16)).bind (fun(e:List qb)=>some (Exit.exit 0,⟨[(1,rP 0),(2,rP 2)],[(0,B.blk 36 [dI qz,dI n_N,dI qM,dL 2 qd qN,dO 1 5 e.length]),(1,bR 36 5 qh e),(2,B.blk 36 [dI q0e,dI qek,dI q2b,C.nils,C.nils])],3,29⟩)):=
 by
 intro w1 qz n_N qM qN q0e qek q2b t15 t16 QO h0
 subst h0
 revert t16;revert w1;exact qa4 qxB qv6 (fun e=>by exact⟨_,rfl,fun h=>by cases h⟩) fun w1 t16=>by
  have hF':∀(qz n_N qM:Int) (qN:List qc) (n_L:List qb),rE (.fn 130) 0 [R.agg [dI qz,dI n_N,dI qM,dL 2 qd qN,dL 5 qh n_L]] []=(rF (qb.mk qz n_N qM qN n_L)).bind (fun e=>some (R.agg [dI e.Kind,dI e.N,dI e.Min,dL 2 qd e.Set,dL 5 qh e.L],[])):=fun qz n_N qM qN n_L=>hF (qb.mk qz n_N qM qN n_L)
  have:=qDt;have:=@qi9.eq_1;have:=@JN.eq_1;exact gA
def q0L (rF:qb→Option qb):qb→Option qb|n=>Option.bind (Q5 n.Set) fun(a2:Unit)=>Option.bind (QS n.L) fun(a3:Unit)=>Option.bind (zy (JN rF n.Kind n.N n.Min n.Set 0 0 0 ((n.L.length:Nat):Int)) (n.L,0)) fun(a4:List qb)=>some (qb.mk n.Kind n.N n.Min n.Set a4)
theorem q6a:q84 130 0 ZY Jk q0L:=by
 intro rE rF hF hM hR n
 show qaJ rE 130 0 [R.agg [dI n.Kind,dI n.N,dI n.Min,dL 2 qd n.Set,dL 5 qh n.L]] []=_
 have hF':∀(qz n_N qM:Int) (qN:List qc) (n_L:List qb),rE (.fn 130) 0 [R.agg [dI qz,dI n_N,dI qM,dL 2 qd qN,dL 5 qh n_L]] []=(rF (qb.mk qz n_N qM qN n_L)).bind (fun e=>some (R.agg [dI e.Kind,dI e.N,dI e.Min,dL 2 qd e.Set,dL 5 qh e.L],[])):=fun qz n_N qM qN n_L=>hF (qb.mk qz n_N qM qN n_L)
 rw[q4u qqh qzh]
 have:=qDt;have:=@q14;have:=@q24;have:=q8B rE rF hF hM hR;have:=@q0L.eq_1;have:=@Jk.eq_1;exact gA
theorem q3w:∀x y,ZY x=ZY y→x=y:=by
 rintro⟨a_0,a_1,a_2,a_3,a_4⟩ ⟨b_0,b_1,b_2,b_3,b_4⟩ h
 simp only[ZY,Prod.mk.injEq,List.cons.injEq,R.c.injEq,R.agg.injEq,R.tup.injEq,C.d.injEq,C.own.injEq,C.ptr.injEq,C.eptr.injEq,D.int.injEq,D.bool.injEq,D.str.injEq,D.sl.injEq,B.blk.injEq,B.row.injEq,q0J,q2C,q1z,q1A,q20,q1Z,q4g,q42,q3Z,q0M,true_and,and_true,qOJ] at h
 simp only[h]
theorem q8b:∀x y,Jk x=Jk y→x=y:=by
 rintro⟨a_0,a_1,a_2,a_3,a_4⟩ ⟨b_0,b_1,b_2,b_3,b_4⟩ h
 simp only[Jk,Prod.mk.injEq,List.cons.injEq,R.c.injEq,R.agg.injEq,R.tup.injEq,C.d.injEq,C.own.injEq,C.ptr.injEq,C.eptr.injEq,D.int.injEq,D.bool.injEq,D.str.injEq,D.sl.injEq,B.blk.injEq,B.row.injEq,q0J,q2C,q1z,q1A,q20,q1Z,q4g,q42,q3Z,q0M,true_and,and_true,qOJ] at h
 simp only[h]
def Jt:qb→Option qb:=q8k 130 0 ZY Jk
theorem qbx (x:qb):Jt x=q0L Jt x:=qcI qwp.2.2.2 q3w q8b q6a x
theorem qao (n:qb):ev 130 0 [R.agg [dI n.Kind,dI n.N,dI n.Min,dL 2 qd n.Set,dL 5 qh n.L]] []=(Jt n).bind (fun(e:qb)=>some (R.agg [dI e.Kind,dI e.N,dI e.Min,dL 2 qd e.Set,dL 5 qh e.L],[])):=(q99 qwp.2.2.2 q3w q6a n)
theorem qbf:∀(qz n_N qM:Int) (qN:List qc) (n_L:List qb),ev 130 0 [R.agg [dI qz,dI n_N,dI qM,dL 2 qd qN,dL 5 qh n_L]] []=(Jt (qb.mk qz n_N qM qN n_L)).bind (fun(e:qb)=>some (R.agg [dI e.Kind,dI e.N,dI e.Min,dL 2 qd e.Set,dL 5 qh e.L],[])):=
 fun qz n_N qM qN n_L=>qao (qb.mk qz n_N qM qN n_L)
def ZM (t14:List qb) (t15:Int):(List qb×Int)→Option ((List qb×Int)⊕(List qb))|(leaves,t16)=>if t16<t15 then if 0≤t16∧t16<((t14.length:Nat):Int) then Option.bind t14[Int.toNat t16]? fun(a:qb)=>if q1u a=Bool.true then Option.bind (Jt a) fun(a2:qb)=>if leaves.length+1≤maxLen∧(leaves.length+1)*72≤140737488355328 then some (Sum.inl (leaves++[a2],w64 (t16+1))) else none else some (Sum.inl (leaves,w64 (t16+1))) else none else some (Sum.inr leaves)
theorem q8l:∀(leaves t14:List qb) (t15 t16:Int) (qaS:Nat),qaS=leaves.length→XL2 evo 82 0 3 ⟨[(2,rO 0 5 qaS),(14,rL 5 qh t14),(15,rI t15),(16,rI t16)],[(0,bR 36 5 qh leaves)],1,29⟩=(zy (ZM t14 t15) (leaves,t16)).bind (fun(e:List qb)=>some (Exit.exit 0,⟨[(2,rO 0 5 e.length)],[(0,bR 36 5 qh e)],1,29⟩)):=
 by
 intro leaves t14 t15 t16 qaS h0
 subst h0
 revert t16;revert leaves;exact qa4 qAB qA5 (fun e=>by exact⟨_,rfl,fun h=>by cases h⟩) fun leaves t16=>by
  have:=qJw;have:=@qnh.eq_1;have:=@qdy;have:=@qbf;have:=@ZM.eq_1;exact gA
theorem q6u:∀  (t14:List qb) (t15 t16:Int),XL2 evo 82 0 3 ⟨[(2,rO 0 5 0),(14,rL 5 qh t14),(15,rI t15),(16,rI t16)],[(0,B.row 36 5 [])],1,29⟩=(zy (ZM t14 t15) ([],t16)).bind (fun(e:List qb)=>some (Exit.exit 0,⟨[(2,rO 0 5 e.length)],[(0,bR 36 5 qh e)],1,29⟩)):=by
 intro t14 t15 t16;have h:=q8l [] t14 t15 t16 _ rfl
 first
  | exact h
  | (simp only[rL,dL,bR,bZ,Nat.reduceAdd] at h;exact h)
def q1n (n:qb):Option (List qb):=Option.bind (q2N n) fun(a:Prod (List qb) (Prod Int Bool))=>Option.bind (zy (ZM a.1 ((a.1.length:Nat):Int)) ([],0)) fun(a2:List qb)=>some a2
theorem q60:∀(qz n_N qM:Int) (qN:List qc) (n_L:List qb),ev 82 0 [R.agg [dI qz,dI n_N,dI qM,dL 2 qd qN,dL 5 qh n_L]] []=(q1n (qb.mk qz n_N qM qN n_L)).bind (fun(e:List qb)=>some (rL 5 qh e,[])):=
 fun qz n_N qM qN n_L=>by
  rw[qS qE4 qJZ.2.2.2 qK4]
  have:=qJw;have:=@q7Z;have:=@q6u;have:=@q1n.eq_1;exact gA
theorem qEV:okL 103 qh5:=qW (qk qvY) (by kernel_rfl) (by kernel_rfl)
def qI2:=JA_ @qh5.eq_1 (JA_ @Tryz.f103.eq_1 @qvY)
theorem qcl:ev 103 0 [] []=some (R.c (C.hd HK.map 0),[(0,B.ob (@AO.mp [(Value.int IntKind.i64 1,(R.agg [C.fn 141 [] []],0)),(Value.int IntKind.i64 2,(R.agg [C.fn 143 [] []],1)),(Value.int IntKind.i64 3,(R.agg [C.fn 144 [] [dP 1]],2)),(Value.int IntKind.i64 4,(R.agg [C.fn 145 [] [dP 1]],3))] 4)),(1,B.blk 136 [C.fn 140 [] []])]):=
 by
  rw[qS qvY qyX.2.2.2 qEV]
  have:=qI2;exact gA
theorem qF9:okL 141 qhC:=qW (qk qxn) (by kernel_rfl) (by kernel_rfl)
def qGh:=JA_ @qhC.eq_1 (JA_ @Tryz.f141.eq_1 @qxn)
theorem qC1:okL 142 qeE:=qW (qk qqZ) (by kernel_rfl) (by kernel_rfl)
def qBS:=JA_ @qeE.eq_1 (JA_ @Tryz.f142.eq_1 @qqZ)
theorem qu8:lbO 142 7=qhs:=QG (qk qqZ) rfl
theorem quz:okL 142 qhs:=zZ qC1 (qOq (i:=0) (by kernel_rfl))
theorem qFO:okL 170 qik:=qW (qk quP) (by kernel_rfl) (by kernel_rfl)
def qGK:=JA_ @qik.eq_1 (JA_ @Tryz.f170.eq_1 @quP)
theorem qDI:okL 182 qfj:=qW (qk qrh) (by kernel_rfl) (by kernel_rfl)
def qD2:=JA_ @qfj.eq_1 (JA_ @Tryz.f182.eq_1 @qrh)
theorem quJ:lbO 182 2=qiB:=QG (qk qrh) rfl
theorem quM:okL 182 qiB:=zZ qDI (qOq (i:=0) (by kernel_rfl))
theorem qGo:okL 171 qio:=qW (qk qtT) (by kernel_rfl) (by kernel_rfl)
def qFk:=JA_ @qio.eq_1 (JA_ @Tryz.f171.eq_1 @qtT)
theorem qLC:okL 99 qmS:=qW (qk qGs) (by kernel_rfl) (by kernel_rfl)
def qNy:=JA_ @qmS.eq_1 (JA_ @Tryz.f99.eq_1 @qGs)
theorem qFB:okL 137 qh6:=qW (qk qtD) (by kernel_rfl) (by kernel_rfl)
def qEY:=JA_ @qh6.eq_1 (JA_ @Tryz.f137.eq_1 @qtD)
theorem qI6:okL 166 qgY:=qW (qk qtW) (by kernel_rfl) (by kernel_rfl)
def qEU:=JA_ @qgY.eq_1 (JA_ @Tryz.f166.eq_1 @qtW)
theorem qzK:okL 181 qf6:=qW (qk qrb) (by kernel_rfl) (by kernel_rfl)
def qCI:=JA_ @qf6.eq_1 (JA_ @Tryz.f181.eq_1 @qrb)
theorem qww:lbO 181 2=qh4:=QG (qk qrb) rfl
theorem qtR:okL 181 qh4:=zZ qzK (qOq (i:=0) (by kernel_rfl))
theorem qH2:okL 165 qhG:=qW (qk qtA) (by kernel_rfl) (by kernel_rfl)
def qFn:=JA_ @qhG.eq_1 (JA_ @Tryz.f165.eq_1 @qtA)
def q2q (c:Int):Option Bool:=if c<65 then if c<48 then some Bool.true else some (decide (57<c)) else if 90<c then if c<48 then some Bool.true else some (decide (57<c)) else some Bool.false
def Zt (c:Int):Bool:=if c<65 then if c<48 then Bool.true else decide (57<c) else if 90<c then if c<48 then Bool.true else decide (57<c) else Bool.false
theorem q8o (c:Int):q2q c=some (Zt c):=by
 unfold q2q Zt
 simp only[Zm]
theorem q8Y:∀(c:Int),ev 165 0 [R.c (C.d (D.int .i32 c))] []=some (rB (Zt c),[]):=
 fun c=>by
  have h:ev 165 0 [R.c (C.d (D.int .i32 c))] []=(q2q c).bind (fun(e:Bool)=>some (rB e,[])):=by
   rw[qS qtA qAG.2.2.2 qH2]
   have:=qFn;have:=@q2q.eq_1;exact gA
  rw[q8o] at h
  exact h
def Qs (it0_s:ByteArray) (truth:Bool):Nat→Option (Nat⊕(Int⊕Unit))|it0_p=>if it0_p<ByteArray.size it0_s then if(Zt (((@Go.Utf8.decode it0_s it0_p).1:Nat):Int)==truth)=Bool.true then some (Sum.inr (Sum.inl ((it0_p:Nat):Int))) else some (Sum.inl (it0_p+(@Go.Utf8.decode it0_s it0_p).2)) else some (Sum.inr (Sum.inr ()))
theorem q4S:∀(it0_s:ByteArray) (it0_p:Nat) (truth:Bool),XL2 evo 181 0 2 ⟨[(1,R.c (C.fn 165 [] [])),(2,rB truth),(10,R.c (C.hd .iter 0))],[(0,B.ob (AO.si it0_s it0_p))],1,21⟩=(zy (Qs it0_s truth) it0_p).bind (Sum.elim (fun(e:Int)=>some (Exit.ret,⟨[(6,rI e)],[],0,21⟩)) (fun(e:Unit)=>some (Exit.exit 0,⟨[(6,R.any)],[],0,21⟩))):=
 fun it0_s it0_p truth=>by
  revert it0_p;exact qbe qww qtR (fun e=>by rcases e with _|_<;>exact⟨_,rfl,fun h=>by cases h⟩) fun x=>by
   have:=qCI;have:=@qh4.eq_1;have:=@q8Y;have:=@Qs.eq_1;exact gA
def q0s (s:ByteArray) (truth:Bool):Option Int:=Option.bind (zy (Qs s truth) 0) fun(a:Sum Int Unit)=>Sum.elim (fun(a2:Int)=>some a2) (fun(a3:Unit)=>some (-1)) a
theorem q6k:∀(s:ByteArray) (truth:Bool),ev 181 0 [rS s,R.c (C.fn 165 [] []),rB truth] []=(q0s s truth).bind (fun(e:Int)=>some (rI e,[])):=
 fun s truth=>by
  rw[qS qrb qBU.2.2.2 qzK]
  have:=qCI;have:=@q4S;have:=@q0s.eq_1;exact gA
def q0q (s:ByteArray):Option Int:=Option.bind (q0s s Bool.true) fun(e0:Int)=>some e0
theorem q6p:∀(s:ByteArray),ev 166 0 [rS s,R.c (C.fn 165 [] [])] []=(q0q s).bind (fun(e:Int)=>some (rI e,[])):=
 fun s=>by
  rw[qS qtW qD3.2.2.2 qI6]
  have:=qEU;have:=@q6k;have:=@q0q.eq_1;exact gA
def q2k (s:ByteArray):Option Bool:=if(!(ByteArray.toList s==ByteArray.toList (ByteArray.mk (List.toArray []))))=Bool.true then if((ByteArray.size s:Nat):Int)≤8 then Option.bind (q0q s) fun(a:Int)=>some (decide (a<0)) else some Bool.false else some Bool.false
theorem qbo:∀(s:ByteArray),ev 137 0 [rS s] []=(q2k s).bind (fun(e:Bool)=>some (rB e,[])):=
 fun s=>by
  rw[qS qtD qDc.2.2.2 qFB]
  have:=qEY;have:=@q6p;have:=@q2k.eq_1;exact gA
def q11 (c:qc):Option Bool:=if zx c.School 1 8=Bool.true then Option.bind (q2k c.Code) fun(e0:Bool)=>some e0 else some Bool.false
theorem q7g:∀(q1W:Int) (q6c:ByteArray),ev 99 0 [R.agg [dI q1W,dS q6c]] []=(q11 (qc.mk q1W q6c)).bind (fun(e:Bool)=>some (rB e,[])):=
 fun q1W q6c=>by
  rw[qS qGs qJt.2.2.2 qLC]
  have:=qNy;have:=@Je;have:=@qbo;have:=@q11.eq_1;exact gA
def q1V (c:qc):Option Bool:=Option.bind (q11 c) fun(a:Bool)=>some (!a)
theorem q8x:∀(q1W:Int) (q6c:ByteArray),ev 171 0 [R.agg [dI q1W,dS q6c]] []=(q1V (qc.mk q1W q6c)).bind (fun(e:Bool)=>some (rB e,[])):=
 fun q1W q6c=>by
  rw[qS qtT qyv.2.2.2 qGo]
  have:=qFk;have:=@q7g;have:=@q1V.eq_1;exact gA
def zn (s:List qc) (t7:Int):Int→Option (Int⊕(Int⊕Unit))|t8=>if t8<t7 then if 0≤t8∧t8<((s.length:Nat):Int) then Option.bind s[Int.toNat t8]? fun(a:qc)=>Option.bind (q1V a) fun(a2:Bool)=>if a2=Bool.true then some (Sum.inr (Sum.inl t8)) else some (Sum.inl (w64 (t8+1))) else none else some (Sum.inr (Sum.inr ()))
theorem q02:∀(s:List qc) (t7 t8:Int),XL2 evo 182 0 2 ⟨[(0,rL 2 qd s),(1,R.c (C.fn 171 [] [])),(7,rI t7),(8,rI t8)],[],0,19⟩=(zy (zn s t7) t8).bind (Sum.elim (fun(e:Int)=>some (Exit.ret,⟨[(4,rI e)],[],0,19⟩)) (fun(e:Unit)=>some (Exit.exit 0,⟨[(4,R.any)],[],0,19⟩))):=
 fun s t7 t8=>by
  revert t8;exact qbe quJ quM (fun e=>by rcases e with _|_<;>exact⟨_,rfl,fun h=>by cases h⟩) fun x=>by
   have:=qD2;have:=@qiB.eq_1;have:=@q8x;have:=@zn.eq_1;exact gA
def Qg (s:List qc):Option Int:=Option.bind (zy (zn s ((s.length:Nat):Int)) 0) fun(a:Sum Int Unit)=>Sum.elim (fun(a2:Int)=>some a2) (fun(a3:Unit)=>some (-1)) a
theorem q0i:∀(s:List qc),ev 182 0 [rL 2 qd s,R.c (C.fn 171 [] [])] []=(Qg s).bind (fun(e:Int)=>some (rI e,[])):=
 fun s=>by
  rw[qS qrh qz0.2.2.2 qDI]
  have:=qD2;have:=@q02;have:=@Qg.eq_1;exact gA
def zI (s:List qc):Option Bool:=Option.bind (Qg s) fun(a:Int)=>some (decide (0≤a))
theorem q03:∀(s:List qc),ev 170 0 [rL 2 qd s,R.c (C.fn 171 [] [])] []=(zI s).bind (fun(e:Bool)=>some (rB e,[])):=
 fun s=>by
  rw[qS quP qzq.2.2.2 qFO]
  have:=qGK;have:=@q0i;have:=@zI.eq_1;exact gA
theorem qH1:okL 100 qi7:=qW (qk qxf) (by kernel_rfl) (by kernel_rfl)
def qH8:=JA_ @qi7.eq_1 (JA_ @Tryz.f100.eq_1 @qxf)
theorem qL3:okL 66 qox:=qW (qk qHZ) (by kernel_rfl) (by kernel_rfl)
def qLo:=JA_ @qox.eq_1 (JA_ @Tryz.f66.eq_1 @qHZ)
theorem qEP:okL 110 qhz:=qW (qk qvo) (by kernel_rfl) (by kernel_rfl)
def qHh:=JA_ @qhz.eq_1 (JA_ @Tryz.f110.eq_1 @qvo)
def q2j (x:Int):Option Bool:=
 some (x != x)
def Qj (x:Int):Bool:=
 x != x
theorem q8C (x:Int):q2j x=some (Qj x):=by
 unfold q2j Qj
 simp only[Zm]
theorem q9D:∀(x:Int),ev 110 0 [rI x] []=some (rB (Qj x),[]):=
 fun x=>by
  have h:ev 110 0 [rI x] []=(q2j x).bind (fun(e:Bool)=>some (rB e,[])):=by
   rw[qS qvo qAE.2.2.2 qEP]
   have:=qHh;have:=@q2j.eq_1;exact gA
  rw[q8C] at h
  exact h
def q1o (x:Int) (y:Int):Option Int:=if Qj x=Bool.true then if Qj y=Bool.true then some 0 else some (-1) else if Qj y=Bool.true then some 1 else if x<y then some (-1) else if y<x then some 1 else some 0
def Q9 (x:Int) (y:Int):Int:=if Qj x=Bool.true then if Qj y=Bool.true then 0 else(-1) else if Qj y=Bool.true then 1 else if x<y then(-1) else if y<x then 1 else 0
theorem q73 (x y:Int):q1o x y=some (Q9 x y):=by
 unfold q1o Q9
 simp only[Zm]
theorem q1B:∀(x y:Int),ev 66 0 [rI x,rI y] []=some (rI (Q9 x y),[]):=
 fun x y=>by
  have h:ev 66 0 [rI x,rI y] []=(q1o x y).bind (fun(e:Int)=>some (rI e,[])):=by
   rw[qS qHZ qK5.2.2.2 qL3]
   have:=qLo;have:=@q9D;have:=@q1o.eq_1;exact gA
  rw[q73] at h
  exact h
theorem qG4:okL 138 qhF:=qW (qk qwQ) (by kernel_rfl) (by kernel_rfl)
def qH9:=JA_ @qhF.eq_1 (JA_ @Tryz.f138.eq_1 @qwQ)
theorem qHa:okL 167 qic:=qW (qk qtN) (by kernel_rfl) (by kernel_rfl)
def qFl:=JA_ @qic.eq_1 (JA_ @Tryz.f167.eq_1 @qtN)
def q0O (x:ByteArray):Option Unit:=
 some ()
def q3A (x:ByteArray):Unit:=
 ()
theorem q6e (x:ByteArray):q0O x=some (q3A x):=by
 unfold q0O q3A
 simp only[Zm]
theorem q7m:∀(x:ByteArray),ev 167 0 [rS x] []=some (rB Bool.false,[]):=
 fun x=>by
  have h:ev 167 0 [rS x] []=(q0O x).bind (fun(e:Unit)=>some (rB Bool.false,[])):=by
   rw[qS qtN qyY.2.2.2 qHa]
   have:=qFl;have:=@q0O.eq_1;exact gA
  rw[q6e] at h
  exact h
def q05 (x:ByteArray) (y:ByteArray):Option Int:=if Op.bytesLess (ByteArray.toList x) (ByteArray.toList y)=Bool.true then some (-1) else if(!(Op.bytesLess (ByteArray.toList x) (ByteArray.toList y)||ByteArray.toList x==ByteArray.toList y))=Bool.true then some 1 else some 0
def Zc (x:ByteArray) (y:ByteArray):Int:=if Op.bytesLess (ByteArray.toList x) (ByteArray.toList y)=Bool.true then(-1) else if(!(Op.bytesLess (ByteArray.toList x) (ByteArray.toList y)||ByteArray.toList x==ByteArray.toList y))=Bool.true then 1 else 0
theorem q5p (x y:ByteArray):q05 x y=some (Zc x y):=by
 unfold q05 Zc
 simp only[Zm]
theorem q5L:∀(x y:ByteArray),ev 138 0 [rS x,rS y] []=some (rI (Zc x y),[]):=
 fun x y=>by
  have h:ev 138 0 [rS x,rS y] []=(q05 x y).bind (fun(e:Int)=>some (rI e,[])):=by
   rw[qS qwQ qzX.2.2.2 qG4]
   have:=qH9;have:=@q7m;have:=@q05.eq_1;exact gA
  rw[q5p] at h
  exact h
theorem qJJ:okL 65 qjJ:=qW (qk qE5) (by kernel_rfl) (by kernel_rfl)
def qIB:=JA_ @qjJ.eq_1 (JA_ @Tryz.f65.eq_1 @qE5)
theorem qAb:lbO 65 3=qmv:=QG (qk qE5) rfl
theorem qB1:okL 65 qmv:=zZ qJJ (qOq (i:=0) (by kernel_rfl))
def ZA (zero:Int) (t6:List Int) (t7:Int):Int→Option (Int⊕(Int⊕Unit))|t8=>if t8<t7 then if 0≤t8∧t8<((t6.length:Nat):Int) then Option.bind t6[Int.toNat t8]? fun(a:Int)=>if(a != zero)=Bool.true then some (Sum.inr (Sum.inl a)) else some (Sum.inl (w64 (t8+1))) else none else some (Sum.inr (Sum.inr ()))
theorem q9R:∀(zero:Int) (t6:List Int) (t7 t8:Int),XL2 evo 65 0 3 ⟨[(3,rI zero),(6,rL 1 eI t6),(7,rI t7),(8,rI t8)],[],0,18⟩=(zy (ZA zero t6 t7) t8).bind (Sum.elim (fun(e:Int)=>some (Exit.ret,⟨[(2,rI e),(3,rI zero)],[],0,18⟩)) (fun(e:Unit)=>some (Exit.exit 0,⟨[(2,R.any),(3,rI zero)],[],0,18⟩))):=
 fun zero t6 t7 t8=>by
  revert t8;exact qbe qAb qB1 (fun e=>by rcases e with _|_<;>exact⟨_,rfl,fun h=>by cases h⟩) fun x=>by
   have:=qIB;have:=@qmv.eq_1;have:=@ZA.eq_1;exact gA
def q1i (vals:List Int):Option Int:=Option.bind (zy (ZA 0 vals ((vals.length:Nat):Int)) 0) fun(a:Sum Int Unit)=>Sum.elim (fun(a2:Int)=>some a2) (fun(a3:Unit)=>some 0) a
theorem qce:∀(vals:List Int),ev 65 0 [rL 1 eI vals] []=(q1i vals).bind (fun(e:Int)=>some (rI e,[])):=
 fun vals=>by
  rw[qS qE5 qIl.2.2.2 qJJ]
  have:=qIB;have:=@q9R;have:=@q1i.eq_1;exact gA
theorem q4w:∀(vals0 vals1:Int) , ev 65 0 [R.c (C.d (D.sl 1 2 [D.int .i64 vals0,D.int .i64 vals1]))] []=(q1i [vals0,vals1]).bind (fun(e:Int)=>some (rI e,[])):=by
 intro vals0 vals1;have h:=qce [vals0,vals1]
 first
  | exact h
  | (simp only[rL,dL,bR,bZ,Nat.reduceAdd] at h;exact h)
def q0F (a:qc) (b:qc):Option Int:=Option.bind (q1i [Q9 a.School b.School,Zc a.Code b.Code]) fun(e0:Int)=>some e0
theorem q5n:∀(JU:Int) (q3p:ByteArray) (q3O:Int) (q9U:ByteArray),ev 100 0 [R.agg [dI JU,dS q3p],R.agg [dI q3O,dS q9U]] []=(q0F (qc.mk JU q3p) (qc.mk q3O q9U)).bind (fun(e:Int)=>some (rI e,[])):=
 fun JU q3p q3O q9U=>by
  rw[qS qxf qB9.2.2.2 qH1]
  have:=qH8;have:=@q1B;have:=@q5L;have:=@q4w;have:=@q0F.eq_1;exact gA
def Zq (n:qb) (t22:List qc) (t23:Int):Int→Option (Int⊕(Unit⊕Unit))|t24=>if t24<t23 then if 0≤t24∧t24<((t22.length:Nat):Int) then Option.bind t22[Int.toNat t24]? fun(a:qc)=>if 0<t24 then if 0≤w64 (t24-1)∧w64 (t24-1)<((n.Set.length:Nat):Int) then Option.bind n.Set[Int.toNat (w64 (t24-1))]? fun(a2:qc)=>Option.bind (q0F a2 a) fun(a3:Int)=>if 0≤a3 then some (Sum.inr (Sum.inl ())) else some (Sum.inl (w64 (t24+1))) else none else some (Sum.inl (w64 (t24+1))) else none else some (Sum.inr (Sum.inr ()))
theorem q7L:∀(qz n_N qM:Int) (qN:List qc) (n_L:List qb) (t22:List qc) (t23 t24:Int),XL2 evo 142 0 7 ⟨[(1,rP 0),(22,rL 2 qd t22),(23,rI t23),(24,rI t24)],[(0,B.blk 36 [dI qz,dI n_N,dI qM,dL 2 qd qN,dL 5 qh n_L])],1,43⟩=(zy (Zq (qb.mk qz n_N qM qN n_L) t22 t23) t24).bind (Sum.elim (fun(e:Unit)=>some (Exit.ret,⟨[(2,rI 7)],[],0,43⟩)) (fun(e:Unit)=>some (Exit.exit 1,⟨[(2,R.any)],[],0,43⟩))):=
 fun qz n_N qM qN n_L t22 t23 t24=>by
  revert t24;exact qbe qu8 quz (fun e=>by rcases e with _|_<;>exact⟨_,rfl,fun h=>by cases h⟩) fun x=>by
   have:=qBS;have:=@qhs.eq_1;have:=@q5n;have:=@Zq.eq_1;exact gA
def q0G (n:qb):Option Int:=if(!(zx n.Min (-1000) 1000))=Bool.true then some 3 else if(!(zx ((n.Set.length:Nat):Int) 1 12))=Bool.true then some 2 else Option.bind (zI n.Set) fun(a:Bool)=>if(!a)=Bool.true then Option.bind (zy (Zq n n.Set ((n.Set.length:Nat):Int)) 0) fun(a2:Sum Unit Unit)=>Sum.elim (fun(a3:Unit)=>some 7) (fun(a4:Unit)=>some 0) a2 else some 1
theorem q56:∀(qz n_N qM:Int) (qN:List qc) (n_L:List qb),ev 142 0 [R.agg [dI qz,dI n_N,dI qM,dL 2 qd qN,dL 5 qh n_L]] []=(q0G (qb.mk qz n_N qM qN n_L)).bind (fun(e:Int)=>some (rI e,[])):=
 fun qz n_N qM qN n_L=>by
  rw[qS qqZ qBm.2.2.2 qC1]
  have:=qBS;have:=@Je;have:=@q03;have:=@q7L;have:=@q0G.eq_1;exact gA
def q1E (n:qb):Option Int:=if(n.N != 0)=Bool.true then some 13 else if 0<((n.L.length:Nat):Int) then some 13 else Option.bind (q0G n) fun(e0:Int)=>some e0
theorem qau:∀(qz n_N qM:Int) (qN:List qc) (n_L:List qb),ev 141 0 [R.agg [dI qz,dI n_N,dI qM,dL 2 qd qN,dL 5 qh n_L]] []=(q1E (qb.mk qz n_N qM qN n_L)).bind (fun(e:Int)=>some (rI e,[])):=
 fun qz n_N qM qN n_L=>by
  rw[qS qxn qCQ.2.2.2 qF9]
  have:=qGh;have:=@q56;have:=@q1E.eq_1;exact gA
theorem qHJ:okL 143 qhc:=qW (qk qx1) (by kernel_rfl) (by kernel_rfl)
def qGx:=JA_ @qhc.eq_1 (JA_ @Tryz.f143.eq_1 @qx1)
def q1K (n:qb):Option Int:=if 0<((n.L.length:Nat):Int) then some 13 else if(!(zx n.N 1 600))=Bool.true then some 3 else Option.bind (q0G n) fun(e0:Int)=>some e0
theorem qaH:∀(qz n_N qM:Int) (qN:List qc) (n_L:List qb),ev 143 0 [R.agg [dI qz,dI n_N,dI qM,dL 2 qd qN,dL 5 qh n_L]] []=(q1K (qb.mk qz n_N qM qN n_L)).bind (fun(e:Int)=>some (rI e,[])):=
 fun qz n_N qM qN n_L=>by
  rw[qS qx1 qAj.2.2.2 qHJ]
  have:=qGx;have:=@Je;have:=@q56;have:=@q1K.eq_1;exact gA
theorem qGB:okL 144 qia:=qW (qk qvW) (by kernel_rfl) (by kernel_rfl)
def qFz:=JA_ @qia.eq_1 (JA_ @Tryz.f144.eq_1 @qvW)
theorem qFi:okL 140 qiD:=qW (qk qvu) (by kernel_rfl) (by kernel_rfl)
def qFR:=JA_ @qiD.eq_1 (JA_ @Tryz.f140.eq_1 @qvu)
def q2X (n:qb):Option Bool:=if(n.Min==0)=Bool.true then if(((n.Set.length:Nat):Int)==0)=Bool.true then some (decide (0<((n.L.length:Nat):Int))) else some Bool.false else some Bool.false
def Zl (n:qb):Bool:=if(n.Min==0)=Bool.true then if(((n.Set.length:Nat):Int)==0)=Bool.true then decide (0<((n.L.length:Nat):Int)) else Bool.false else Bool.false
theorem q8S (n:qb):q2X n=some (Zl n):=by
 unfold q2X Zl
 simp only[Zm]
theorem q5o:∀(qz n_N qM:Int) (qN:List qc) (n_L:List qb),ev 140 0 [R.agg [dI qz,dI n_N,dI qM,dL 2 qd qN,dL 5 qh n_L]] []=some (rB (Zl (qb.mk qz n_N qM qN n_L)),[]):=
 fun qz n_N qM qN n_L=>by
  have h:ev 140 0 [R.agg [dI qz,dI n_N,dI qM,dL 2 qd qN,dL 5 qh n_L]] []=(q2X (qb.mk qz n_N qM qN n_L)).bind (fun(e:Bool)=>some (rB e,[])):=by
   rw[qS qvu qAx.2.2.2 qFi]
   have:=qFR;have:=@q2X.eq_1;exact gA
  rw[q8S] at h
  exact h
def q35 (n:qb):Option Int:=if(!(Zl n))=Bool.true then some 13 else if(n.N != 0)=Bool.true then some 13 else some 0
def Jd (n:qb):Int:=if(!(Zl n))=Bool.true then 13 else if(n.N != 0)=Bool.true then 13 else 0
theorem q9c (n:qb):q35 n=some (Jd n):=by
 unfold q35 Jd
 simp only[Zm]
theorem qaM:∀(qz n_N qM:Int) (qN:List qc) (n_L:List qb),ev 144 1 [R.agg [dI qz,dI n_N,dI qM,dL 2 qd qN,dL 5 qh n_L],rP 0] [(0,B.blk 136 [C.fn 140 [] []])]=some (rI (Jd (qb.mk qz n_N qM qN n_L)),[(0,B.blk 136 [C.fn 140 [] []])]):=
 fun qz n_N qM qN n_L=>by
  have h:ev 144 1 [R.agg [dI qz,dI n_N,dI qM,dL 2 qd qN,dL 5 qh n_L],rP 0] [(0,B.blk 136 [C.fn 140 [] []])]=(q35 (qb.mk qz n_N qM qN n_L)).bind (fun(e:Int)=>some (rI e,[(0,B.blk 136 [C.fn 140 [] []])])):=by
   rw[qS qvW qDx.2.2.2 qGB]
   have:=qFz;have:=@q5o;have:=@q35.eq_1;exact gA
  rw[q9c] at h
  exact h
theorem qI4:okL 145 qhB:=qW (qk qvA) (by kernel_rfl) (by kernel_rfl)
def qHe:=JA_ @qhB.eq_1 (JA_ @Tryz.f145.eq_1 @qvA)
def q2U (n:qb):Option Int:=if(!(Zl n))=Bool.true then some 13 else if(!(zx n.N 1 ((n.L.length:Nat):Int)))=Bool.true then some 3 else some 0
def Jn (n:qb):Int:=if(!(Zl n))=Bool.true then 13 else if(!(zx n.N 1 ((n.L.length:Nat):Int)))=Bool.true then 3 else 0
theorem q9S (n:qb):q2U n=some (Jn n):=by
 unfold q2U Jn
 simp only[Zm]
theorem qaD:∀(qz n_N qM:Int) (qN:List qc) (n_L:List qb),ev 145 1 [R.agg [dI qz,dI n_N,dI qM,dL 2 qd qN,dL 5 qh n_L],rP 0] [(0,B.blk 136 [C.fn 140 [] []])]=some (rI (Jn (qb.mk qz n_N qM qN n_L)),[(0,B.blk 136 [C.fn 140 [] []])]):=
 fun qz n_N qM qN n_L=>by
  have h:ev 145 1 [R.agg [dI qz,dI n_N,dI qM,dL 2 qd qN,dL 5 qh n_L],rP 0] [(0,B.blk 136 [C.fn 140 [] []])]=(q2U (qb.mk qz n_N qM qN n_L)).bind (fun(e:Int)=>some (rI e,[(0,B.blk 136 [C.fn 140 [] []])])):=by
   rw[qS qvA qza.2.2.2 qI4]
   have:=qHe;have:=@q5o;have:=@Je;have:=@q2U.eq_1;exact gA
  rw[q9S] at h
  exact h
def JE (t37:List qb) (t38:Int):Int→Option (Int⊕(Int⊕Unit))|t39=>if t39<t38 then if 0≤t39∧t39<((t37.length:Nat):Int) then Option.bind t37[Int.toNat t39]? fun(a:qb)=>if a.Kind=1 then Option.bind (q1E a) fun(a2:Int)=>if(a2 != 0)=Bool.true then some (Sum.inr (Sum.inl a2)) else some (Sum.inl (w64 (t39+1))) else if a.Kind=2 then Option.bind (q1K a) fun(a3:Int)=>if(a3 != 0)=Bool.true then some (Sum.inr (Sum.inl a3)) else some (Sum.inl (w64 (t39+1))) else if a.Kind=3 then if(Jd a != 0)=Bool.true then some (Sum.inr (Sum.inl (Jd a))) else some (Sum.inl (w64 (t39+1))) else if a.Kind=4 then if(Jn a != 0)=Bool.true then some (Sum.inr (Sum.inl (Jn a))) else some (Sum.inl (w64 (t39+1))) else some (Sum.inr (Sum.inl 13)) else none else some (Sum.inr (Sum.inr ()))
theorem q94:∀(t37:List qb) (t38 t39:Int),XL2 evo 58 0 6 ⟨[(6,R.c (C.hd .map 0)),(37,rL 5 qh t37),(38,rI t38),(39,rI t39)],[(0,B.ob (AO.mp [(Value.int IntKind.i64 1,R.agg [C.fn 141 [] []],0),(Value.int IntKind.i64 2,R.agg [C.fn 143 [] []],1),(Value.int IntKind.i64 3,R.agg [C.fn 144 [] [dP 1]],2),(Value.int IntKind.i64 4,R.agg [C.fn 145 [] [dP 1]],3)] 4)),(1,B.blk 136 [C.fn 140 [] []])],2,60⟩=(zy (JE t37 t38) t39).bind (Sum.elim (fun(e:Int)=>some (Exit.ret,⟨[(2,rI e)],[],0,60⟩)) (fun(e:Unit)=>some (Exit.exit 0,⟨[(2,R.any)],[],0,60⟩))):=
 fun t37 t38 t39=>by
  revert t39;exact qbe qAF qCl (fun e=>by rcases e with _|_<;>exact⟨_,rfl,fun h=>by cases h⟩) fun x=>by
   have:=qJG;have:=@qmO.eq_1;have:=@qau;have:=@qaH;have:=@qaM;have:=@qaD;have:=@JE.eq_1;exact gA
def Jz (n:qb):Option Int:=Option.bind (q2N n) fun(a:Prod (List qb) (Prod Int Bool))=>if(!a.2.2)=Bool.true then some 2 else if 24<((a.1.length:Nat):Int) then some 2 else if 5<a.2.1 then some 2 else Option.bind (q1n n) fun(a2:List qb)=>if(!(zx ((a2.length:Nat):Int) 1 8))=Bool.true then some 2 else Option.bind (zy (JE a.1 ((a.1.length:Nat):Int)) 0) fun(a3:Sum Int Unit)=>Sum.elim (fun(a4:Int)=>some a4) (fun(a5:Unit)=>some 0) a3
theorem q43:∀(qz n_N qM:Int) (qN:List qc) (n_L:List qb),ev 58 0 [R.agg [dI qz,dI n_N,dI qM,dL 2 qd qN,dL 5 qh n_L]] []=(Jz (qb.mk qz n_N qM qN n_L)).bind (fun(e:Int)=>some (rI e,[])):=
 fun qz n_N qM qN n_L=>by
  rw[qS qEk qJl.2.2.2 qIh]
  have:=qJG;have:=@q7Z;have:=@q60;have:=@Je;have:=@qcl;have:=@q94;have:=@Jz.eq_1;exact gA
theorem qLe:okL 70 qps:=qW (qk qFw) (by kernel_rfl) (by kernel_rfl)
def qKA:=JA_ @qps.eq_1 (JA_ @Tryz.f70.eq_1 @qFw)
theorem qC9:okL 114 qeS:=qW (qk qrB) (by kernel_rfl) (by kernel_rfl)
def qCm:=JA_ @qeS.eq_1 (JA_ @Tryz.f114.eq_1 @qrB)
theorem qu7:lbO 114 2=qhR:=QG (qk qrB) rfl
theorem qvh:okL 114 qhR:=zZ qC9 (qOq (i:=0) (by kernel_rfl))
theorem qJK:okL 57 qkh:=qW (qk qEe) (by kernel_rfl) (by kernel_rfl)
def qIN:=JA_ @qkh.eq_1 (JA_ @Tryz.f57.eq_1 @qEe)
theorem qyz:lbO 57 2=qlT:=QG (qk qEe) rfl
theorem qAm:okL 57 qlT:=zZ qJK (qOq (i:=0) (by kernel_rfl))
theorem qI1:okL 101 qii:=qW (qk qws) (by kernel_rfl) (by kernel_rfl)
def qGz:=JA_ @qii.eq_1 (JA_ @Tryz.f101.eq_1 @qws)
def q0k (n:Int) (a:Int) (b:Int):Option Int:=
 some (max (min a b) (min n (max a b)))
def QA (n:Int) (a:Int) (b:Int):Int:=
 max (min a b) (min n (max a b))
theorem q5T (n a b:Int):q0k n a b=some (QA n a b):=by
 unfold q0k QA
 simp only[Zm]
theorem q0H:∀(n a b:Int),ev 101 0 [rI n,rI a,rI b] []=some (rI (QA n a b),[]):=
 fun n a b=>by
  have h:ev 101 0 [rI n,rI a,rI b] []=(q0k n a b).bind (fun(e:Int)=>some (rI e,[])):=by
   rw[qS qws qyq.2.2.2 qI1]
   have:=qGz;have:=@q0k.eq_1;exact gA
  rw[q5T] at h
  exact h
def Jm (w1:List Int) (s:qg) (t10:Int):Int→Option (Int⊕(Unit⊕Unit))|t11=>if t11<t10 then if 0≤t11∧t11<((w1.length:Nat):Int) then Option.bind w1[Int.toNat t11]? fun(a:Int)=>if(QA a (-1000) 1000 != a)=Bool.true then some (Sum.inr (Sum.inl ())) else some (Sum.inl (w64 (t11+1))) else none else some (Sum.inr (Sum.inr ()))
theorem q8c:∀(w1:List Int) (zm zX zY t10 t11:Int) (QO:Nat),QO=w1.length→XL2 evo 57 0 2 ⟨[(1,rP 0),(9,rO 1 1 QO),(10,rI t10),(11,rI t11)],[(0,B.blk 28 [dI zm,dI zX,dI zY]),(1,bR 3 1 eI w1)],2,37⟩=(zy (Jm w1 (qg.mk zm zX zY) t10) t11).bind (Sum.elim (fun(e:Unit)=>some (Exit.ret,⟨[(1,rP 0),(2,rI 10)],[(0,B.blk 28 [dI zm,dI zX,dI zY])],1,37⟩)) (fun(e:Unit)=>some (Exit.exit 0,⟨[(1,rP 0),(2,R.any)],[(0,B.blk 28 [dI zm,dI zX,dI zY])],1,37⟩))):=
 by
 intro w1 zm zX zY t10 t11 QO h0
 subst h0
 revert t11;exact qbe qyz qAm (fun e=>by rcases e with _|_<;>exact⟨_,rfl,fun h=>by cases h⟩) fun x=>by
  have:=qIN;have:=@qlT.eq_1;have:=@q0H;have:=@Jm.eq_1;exact gA
theorem q6l:∀(w10 w11 zm zX zY t10 t11:Int),XL2 evo 57 0 2 ⟨[(1,rP 0),(9,rO 1 1 2),(10,rI t10),(11,rI t11)],[(0,B.blk 28 [dI zm,dI zX,dI zY]),(1,B.row 3 1 [dI w10,dI w11])],2,37⟩=(zy (Jm [w10,w11] (qg.mk zm zX zY) t10) t11).bind (Sum.elim (fun(e:Unit)=>some (Exit.ret,⟨[(1,rP 0),(2,rI 10)],[(0,B.blk 28 [dI zm,dI zX,dI zY])],1,37⟩)) (fun(e:Unit)=>some (Exit.exit 0,⟨[(1,rP 0),(2,R.any)],[(0,B.blk 28 [dI zm,dI zX,dI zY])],1,37⟩))):=by
 intro w10 w11 zm zX zY t10 t11;have h:=q8c [w10,w11] ((qg.mk zm zX zY)).Worst ((qg.mk zm zX zY)).Best ((qg.mk zm zX zY)).Pass t10 t11 _ rfl
 first
  | exact h
  | (simp only[rL,dL,bR,bZ,Nat.reduceAdd] at h;exact h)
def q1s (s:qg):Option Int:=Option.bind (zy (Jm [s.Worst,s.Best] s 2) 0) fun(a:Sum Unit Unit)=>Sum.elim (fun(a2:Unit)=>some 10) (fun(a3:Unit)=>if(s.Worst==s.Best)=Bool.true then some 10 else if(QA s.Pass s.Worst s.Best != s.Pass)=Bool.true then some 10 else some 0) a
theorem q68:∀(zm zX zY:Int),ev 57 0 [R.agg [dI zm,dI zX,dI zY]] []=(q1s (qg.mk zm zX zY)).bind (fun(e:Int)=>some (rI e,[])):=
 fun zm zX zY=>by
  rw[qS qEe qJc.2.2.2 qJK]
  have:=qIN;have:=@q6l;have:=@q0H;have:=@q1s.eq_1;exact gA
theorem qMV:okL 18 qo0:=qW (qk qGY) (by kernel_rfl) (by kernel_rfl)
def qKR:=JA_ @qo0.eq_1 (JA_ @Tryz.f18.eq_1 @qGY)
theorem qMb:okL 46 qp4:=qW (qk qI0) (by kernel_rfl) (by kernel_rfl)
def qLr:=JA_ @qp4.eq_1 (JA_ @Tryz.f46.eq_1 @qI0)
theorem qNw:okL 80 qoy:=qW (qk qG8) (by kernel_rfl) (by kernel_rfl)
def qM3:=JA_ @qoy.eq_1 (JA_ @Tryz.f80.eq_1 @qG8)
def q0m (n:Int) (by0:Int):Option Int:=if by0=0 then none else if by0=0 then none else if by0=0 then none else some (w64 (Int.tdiv (w64 (n-Int.tmod (w64 (Int.tmod n by0+by0)) by0)) by0))
theorem qbp:∀(n by0:Int),ev 80 0 [rI n,rI by0] []=(q0m n by0).bind (fun(e:Int)=>some (rI e,[])):=
 fun n by0=>by
  rw[qS qG8 qJF.2.2.2 qNw]
  have:=qM3;have:=@q0m.eq_1;exact gA
def q1a (day:Int):Option Int:=if day<(-4611686018427387904) then Option.bind (q0m (w64 (day+100)) 100) fun(a:Int)=>some (w64 (a-1)) else Option.bind (q0m day 100) fun(e0:Int)=>some e0
theorem qdr:∀(day:Int),ev 46 0 [rI day] []=(q1a day).bind (fun(e:Int)=>some (rI e,[])):=
 fun day=>by
  rw[qS qI0 qIx.2.2.2 qMb]
  have:=qLr;have:=@qbp;have:=@q1a.eq_1;exact gA
def Za (p:qf) (a:qa) (day:Int):Option Bool:=if 0<p.Age then Option.bind (q1a day) fun(a2:Int)=>Option.bind (q1a a.Day) fun(a3:Int)=>some (decide (p.Age<w64 (a2-a3))) else some Bool.false
theorem q47:∀(qC JH qy zf:Int) (zg:ByteArray) (qp qD qt:Int) (qx:List qc) (qF:List qb) (qJ Qb Qc:Int) (qH:List (q01 qc)) (Qa:Int) (QE:ByteArray) (JG q27 q8J:Int) (Js:List Int) (q0t:Int) (q3D:List Int) (day:Int),ev 18 0 [R.agg [dI qC,dI JH,dI qy,dI zf,dS zg,dI qp,dI qD,dI qt,dL 2 qd qx,dL 5 qh qF,dI qJ,dI Qb,dI Qc,dL 4 (eA2 qd) qH],R.agg [dI Qa,dS QE,dI JG,dI q27,dI q8J,dL 1 eI Js,dI q0t,dL 1 eI q3D],rI day] []=(Za (qf.mk qC JH qy zf zg (qb.mk qp qD qt qx qF) qJ Qb Qc qH) (qa.mk (qc.mk Qa QE) JG q27 q8J Js q0t q3D) day).bind (fun(e:Bool)=>some (rB e,[])):=
 fun qC JH qy zf zg qp qD qt qx qF qJ Qb Qc qH Qa QE JG q27 q8J Js q0t q3D day=>by
  rw[qS qGY qJk.2.2.2 qMV]
  have:=qKR;have:=@qdr;have:=@Za.eq_1;exact gA
def Zb (b0:qf) (b1:qg) (b2:Int) (b4:Int) (t2:List qa) (t28:List qa) (t29:Int):(List Int×Int)→Option ((List Int×Int)⊕(List Int))|(w6,t30)=>if t30<t29 then if 0≤t30∧t30<((t28.length:Nat):Int) then Option.bind t28[Int.toNat t30]? fun(a:qa)=>Option.bind (Za b0 a b2) fun(a2:Bool)=>if(!a2)=Bool.true then if w6.length+1≤maxLen∧(w6.length+1)*8≤140737488355328 then some (Sum.inl (w6++[t30],w64 (t30+1))) else none else some (Sum.inl (w6,w64 (t30+1))) else none else some (Sum.inr w6)
theorem q6w:∀(w6:List Int) (qq zG qn qA:Int) (qB:ByteArray) (qj qr ql:Int) (qm:List qc) (qu:List qb) (qw qP qQ:Int) (qo:List (q01 qc)) (qV zq zr b2 b4:Int) (t2 t28:List qa) (t29 t30:Int) (qda:Nat),qda=w6.length→XL2 evo 15 0 6 ⟨[(2,rL 8 qe t2),(4,rP 0),(5,rP 1),(7,rP 2),(8,rP 3),(9,rP 4),(11,rP 5),(28,rL 8 qe t28),(29,rI t29),(30,rI t30)],[(0,B.blk 39 [dI qq,dI zG,dI qn,dI qA,dS qB,dI qj,dI qr,dI ql,dL 2 qd qm,dL 5 qh qu,dI qw,dI qP,dI qQ,dL 4 (eA2 qd) qo]),(1,B.blk 28 [dI qV,dI zq,dI zr]),(2,B.blk 3 [dI b2]),(3,B.blk 48 [C.nils,C.nils]),(4,B.blk 49 [dI b4]),(5,B.blk 22 [dO 6 1 qda]),(6,bR 3 1 eI w6)],7,93⟩=(zy (Zb (qf.mk qq zG qn qA qB (qb.mk qj qr ql qm qu) qw qP qQ qo) (qg.mk qV zq zr) b2 b4 t2 t28 t29) (w6,t30)).bind (fun(e:List Int)=>some (Exit.exit 0,⟨[(2,rL 8 qe t2),(4,rP 0),(5,rP 1),(7,rP 2),(8,rP 3),(9,rP 4),(11,rP 5)],[(0,B.blk 39 [dI qq,dI zG,dI qn,dI qA,dS qB,dI qj,dI qr,dI ql,dL 2 qd qm,dL 5 qh qu,dI qw,dI qP,dI qQ,dL 4 (eA2 qd) qo]),(1,B.blk 28 [dI qV,dI zq,dI zr]),(2,B.blk 3 [dI b2]),(3,B.blk 48 [C.nils,C.nils]),(4,B.blk 49 [dI b4]),(5,B.blk 22 [dO 6 1 e.length]),(6,bR 3 1 eI e)],7,93⟩)):=
 by
 intro w6 qq zG qn qA qB qj qr ql qm qu qw qP qQ qo qV zq zr b2 b4 t2 t28 t29 t30 qda h0
 subst h0
 revert t30;revert w6;exact qa4 qBT qzI (fun e=>by exact⟨_,rfl,fun h=>by cases h⟩) fun w6 t30=>by
  have:=qG3;have:=@qp1.eq_1;have:=@q47;have:=@Zb.eq_1;have:=@qiA;exact gA
theorem q5j:∀  (qq zG qn qA:Int) (qB:ByteArray) (qj qr ql:Int) (qm:List qc) (qu:List qb) (qw qP qQ:Int) (qo:List (q01 qc)) (qV zq zr b2 b4:Int) (t2 t28:List qa) (t29 t30:Int),XL2 evo 15 0 6 ⟨[(2,rL 8 qe t2),(4,rP 0),(5,rP 1),(7,rP 2),(8,rP 3),(9,rP 4),(11,rP 5),(28,rL 8 qe t28),(29,rI t29),(30,rI t30)],[(0,B.blk 39 [dI qq,dI zG,dI qn,dI qA,dS qB,dI qj,dI qr,dI ql,dL 2 qd qm,dL 5 qh qu,dI qw,dI qP,dI qQ,dL 4 (eA2 qd) qo]),(1,B.blk 28 [dI qV,dI zq,dI zr]),(2,B.blk 3 [dI b2]),(3,B.blk 48 [C.nils,C.nils]),(4,B.blk 49 [dI b4]),(5,B.blk 22 [dO 6 1 0]),(6,B.row 3 1 [])],7,93⟩=(zy (Zb (qf.mk qq zG qn qA qB (qb.mk qj qr ql qm qu) qw qP qQ qo) (qg.mk qV zq zr) b2 b4 t2 t28 t29) ([],t30)).bind (fun(e:List Int)=>some (Exit.exit 0,⟨[(2,rL 8 qe t2),(4,rP 0),(5,rP 1),(7,rP 2),(8,rP 3),(9,rP 4),(11,rP 5)],[(0,B.blk 39 [dI qq,dI zG,dI qn,dI qA,dS qB,dI qj,dI qr,dI ql,dL 2 qd qm,dL 5 qh qu,dI qw,dI qP,dI qQ,dL 4 (eA2 qd) qo]),(1,B.blk 28 [dI qV,dI zq,dI zr]),(2,B.blk 3 [dI b2]),(3,B.blk 48 [C.nils,C.nils]),(4,B.blk 49 [dI b4]),(5,B.blk 22 [dO 6 1 e.length]),(6,bR 3 1 eI e)],7,93⟩)):=by
 intro qq zG qn qA qB qj qr ql qm qu qw qP qQ qo qV zq zr b2 b4 t2 t28 t29 t30;have h:=q6w [] ((qf.mk qq zG qn qA qB (qb.mk qj qr ql qm qu) qw qP qQ qo)).School ((qf.mk qq zG qn qA qB (qb.mk qj qr ql qm qu) qw qP qQ qo)).Id ((qf.mk qq zG qn qA qB (qb.mk qj qr ql qm qu) qw qP qQ qo)).Version ((qf.mk qq zG qn qA qB (qb.mk qj qr ql qm qu) qw qP qQ qo)).From ((qf.mk qq zG qn qA qB (qb.mk qj qr ql qm qu) qw qP qQ qo)).Name ((qf.mk qq zG qn qA qB (qb.mk qj qr ql qm qu) qw qP qQ qo)).Need.Kind ((qf.mk qq zG qn qA qB (qb.mk qj qr ql qm qu) qw qP qQ qo)).Need.N ((qf.mk qq zG qn qA qB (qb.mk qj qr ql qm qu) qw qP qQ qo)).Need.Min ((qf.mk qq zG qn qA qB (qb.mk qj qr ql qm qu) qw qP qQ qo)).Need.Set ((qf.mk qq zG qn qA qB (qb.mk qj qr ql qm qu) qw qP qQ qo)).Need.L ((qf.mk qq zG qn qA qB (qb.mk qj qr ql qm qu) qw qP qQ qo)).Total ((qf.mk qq zG qn qA qB (qb.mk qj qr ql qm qu) qw qP qQ qo)).Own ((qf.mk qq zG qn qA qB (qb.mk qj qr ql qm qu) qw qP qQ qo)).Age ((qf.mk qq zG qn qA qB (qb.mk qj qr ql qm qu) qw qP qQ qo)).Exclude ((qg.mk qV zq zr)).Worst ((qg.mk qV zq zr)).Best ((qg.mk qV zq zr)).Pass b2 b4 t2 t28 t29 t30 _ rfl
 first
  | exact h
  | (simp only[rL,dL,bR,bZ,Nat.reduceAdd] at h;exact h)
theorem qJU:okL 34 qkp:=qW (qk qE2) (by kernel_rfl) (by kernel_rfl)
def qIZ:=JA_ @qkp.eq_1 (JA_ @Tryz.f34.eq_1 @qE2)
theorem qAX:lbO 34 2=qpq:=QG (qk qE2) rfl
theorem qCN:okL 34 qpq:=zZ qJU (qOq (i:=0) (by kernel_rfl))
def zp (l:List qa) (t7:List Int) (t8:Int):(List qa×Int)→Option ((List qa×Int)⊕(List qa))|(out,t9)=>if t9<t8 then if 0≤t9∧t9<((t7.length:Nat):Int) then Option.bind t7[Int.toNat t9]? fun(a:Int)=>if 0≤a∧a<((l.length:Nat):Int) then Option.bind l[Int.toNat a]? fun(a2:qa)=>if out.length+1≤maxLen∧(out.length+1)*104≤140737488355328 then some (Sum.inl (out++[a2],w64 (t9+1))) else none else none else none else some (Sum.inr out)
theorem q1D:∀(out l:List qa) (t7:List Int) (t8 t9:Int) (QZ:Nat),QZ=out.length→XL2 evo 34 0 2 ⟨[(0,rL 8 qe l),(4,rO 0 8 QZ),(7,rL 1 eI t7),(8,rI t8),(9,rI t9)],[(0,bR 57 8 qe out)],1,22⟩=(zy (zp l t7 t8) (out,t9)).bind (fun(e:List qa)=>some (Exit.exit 0,⟨[(4,rO 0 8 e.length)],[(0,bR 57 8 qe e)],1,22⟩)):=
 by
 intro out l t7 t8 t9 QZ h0
 subst h0
 revert t9;revert out;exact qa4 qAX qCN (fun e=>by exact⟨_,rfl,fun h=>by cases h⟩) fun out t9=>by
  have:=qIZ;have:=@qpq.eq_1;have:=@zp.eq_1;exact gA
theorem q0W:∀  (l:List qa) (t7:List Int) (t8 t9:Int),XL2 evo 34 0 2 ⟨[(0,rL 8 qe l),(4,rO 0 8 0),(7,rL 1 eI t7),(8,rI t8),(9,rI t9)],[(0,B.row 57 8 [])],1,22⟩=(zy (zp l t7 t8) ([],t9)).bind (fun(e:List qa)=>some (Exit.exit 0,⟨[(4,rO 0 8 e.length)],[(0,bR 57 8 qe e)],1,22⟩)):=by
 intro l t7 t8 t9;have h:=q1D [] l t7 t8 t9 _ rfl
 first
  | exact h
  | (simp only[rL,dL,bR,bZ,Nat.reduceAdd] at h;exact h)
def zP (l:List qa) (at0:List Int):Option (List qa):=Option.bind (zy (zp l at0 ((at0.length:Nat):Int)) ([],0)) fun(a:List qa)=>some a
theorem JK:∀(l:List qa) (at0:List Int),ev 34 0 [rL 8 qe l,rL 1 eI at0] []=(zP l at0).bind (fun(e:List qa)=>some (rL 8 qe e,[])):=
 fun l at0=>by
  rw[qS qE2 qJn.2.2.2 qJU]
  have:=qIZ;have:=@q0W;have:=@zP.eq_1;exact gA
theorem qNb:okL 35 qoj:=qW (qk qF0) (by kernel_rfl) (by kernel_rfl)
def qKD:=JA_ @qoj.eq_1 (JA_ @Tryz.f35.eq_1 @qF0)
theorem qJx:okL 61 qoF:=qW (qk qDZ) (by kernel_rfl) (by kernel_rfl)
def qJh:=JA_ @qoF.eq_1 (JA_ @Tryz.f61.eq_1 @qDZ)
theorem qhD:okL 104 q7j:=qW (qk qfc) (by kernel_rfl) (by kernel_rfl)
def q8V:=JA_ @q7j.eq_1 (JA_ @Tryz.f104.eq_1 @qfc)
theorem qf0:lbO 104 5=qaQ:=QG (qk qfc) rfl
theorem qfx:okL 104 qaQ:=zZ qhD (qOq (i:=0) (by kernel_rfl))
theorem qj2:lbO 104 14=qbW:=QG (qk qfc) rfl
theorem qjl:okL 104 qbW:=zZ qhD (qOq (i:=1) (by kernel_rfl))
theorem qjB:lbO 104 18=qbY:=QG (qk qfc) rfl
theorem qj4:okL 104 qbY:=zZ qhD (qOq (i:=2) (by kernel_rfl))
theorem qk7:lbO 104 25=qbP:=QG (qk qfc) rfl
theorem qje:okL 104 qbP:=zZ qhD (qOq (i:=3) (by kernel_rfl))
theorem qkg:lbO 104 38=qbS:=QG (qk qfc) rfl
theorem qk6:okL 104 qbS:=zZ qhD (qOq (i:=4) (by kernel_rfl))
theorem qL2:okL 86 qmy:=qW (qk qET) (by kernel_rfl) (by kernel_rfl)
def qKd:=JA_ @qmy.eq_1 (JA_ @Tryz.f86.eq_1 @qET)
def q7A (n:qb):Option Bool:=if(n.Kind==1)=Bool.true then some Bool.true else some (n.Kind==2)
def JS (n:qb):Bool:=if(n.Kind==1)=Bool.true then Bool.true else n.Kind==2
theorem qdC (n:qb):q7A n=some (JS n):=by
 unfold q7A JS
 simp only[Zm]
theorem q3J:∀(qz n_N qM:Int) (qN:List qc) (n_L:List qb),ev 86 0 [R.agg [dI qz,dI n_N,dI qM,dL 2 qd qN,dL 5 qh n_L]] []=some (rB (JS (qb.mk qz n_N qM qN n_L)),[]):=
 fun qz n_N qM qN n_L=>by
  have h:ev 86 0 [R.agg [dI qz,dI n_N,dI qM,dL 2 qd qN,dL 5 qh n_L]] []=(q7A (qb.mk qz n_N qM qN n_L)).bind (fun(e:Bool)=>some (rB e,[])):=by
   rw[qS qET qJg.2.2.2 qL2]
   have:=qKd;have:=@q7A.eq_1;exact gA
  rw[qdC] at h
  exact h
theorem qMX:okL 89 qoT:=qW (qk qG7) (by kernel_rfl) (by kernel_rfl)
def qN5:=JA_ @qoT.eq_1 (JA_ @Tryz.f89.eq_1 @qG7)
def q0Z (kind:Int):Option (Unit⊕Unit):=if(kind==1)=Bool.true then some (Sum.inl ()) else some (Sum.inr ())
theorem q4J:∀(kind:Int),ev 89 0 [rI kind] []=(q0Z kind).bind (Sum.elim (fun(e:Unit)=>some (R.c (C.fn 133 [] []),[])) (fun(e:Unit)=>some (R.c (C.fn 134 [] []),[]))):=
 fun kind=>by
  rw[qS qG7 qJT.2.2.2 qMX]
  have:=qN5;have:=@q0Z.eq_1;exact gA
theorem qNj:okL 59 qmo:=qW (qk qGC) (by kernel_rfl) (by kernel_rfl)
def qNM:=JA_ @qmo.eq_1 (JA_ @Tryz.f59.eq_1 @qGC)
def q4E (x0:Int) (x1:Int):Option Unit:=
 some ()
def q87 (x0:Int) (x1:Int):Unit:=
 ()
theorem qbd (x0 x1:Int):q4E x0 x1=some (q87 x0 x1):=by
 unfold q4E q87
 simp only[Zm]
theorem q7k:∀(x0 x1:Int),ev 59 0 [rI x0,rI x1] []=some (rB Bool.true,[]):=
 fun x0 x1=>by
  have h:ev 59 0 [rI x0,rI x1] []=(q4E x0 x1).bind (fun(e:Unit)=>some (rB Bool.true,[])):=by
   rw[qS qGC qJu.2.2.2 qNj]
   have:=qNM;have:=@q4E.eq_1;exact gA
  rw[qbd] at h
  exact h
theorem qFv:okL 87 qkv:=qW (qk qCt) (by kernel_rfl) (by kernel_rfl)
def qEE:=JA_ @qkv.eq_1 (JA_ @Tryz.f87.eq_1 @qCt)
theorem qsJ:lbO 87 3=qkl:=QG (qk qCt) rfl
theorem qt3:okL 87 qkl:=zZ qFv (qOq (i:=0) (by kernel_rfl))
theorem qFF:okL 105 qha:=qW (qk quS) (by kernel_rfl) (by kernel_rfl)
def qGS:=JA_ @qha.eq_1 (JA_ @Tryz.f105.eq_1 @quS)
def q18 (k:Int) (v:Int):Option Bool:=if 0≤k then some (ZR Go.BinOp.and IntKind.i64 (Int.fdiv v (2 ^ min (Int.toNat k) (IntKind.bits IntKind.i64))) 1==1) else none
theorem q9k:∀(k v:Int),ev 105 1 [rI k,rP 0] [(0,B.blk 3 [dI v])]=(q18 k v).bind (fun(e:Bool)=>some (rB e,[(0,B.blk 3 [dI v])])):=
 fun k v=>by
  rw[qS quS qzu.2.2.2 qFF]
  have:=qGS;have:=@q18.eq_1;exact gA
theorem qGH:okL 132 qgS:=qW (qk qxs) (by kernel_rfl) (by kernel_rfl)
def qHY:=JA_ @qgS.eq_1 (JA_ @Tryz.f132.eq_1 @qxs)
theorem qHU:okL 163 qiz:=qW (qk quy) (by kernel_rfl) (by kernel_rfl)
def qGW:=JA_ @qiz.eq_1 (JA_ @Tryz.f163.eq_1 @quy)
theorem qCT:okL 179 qfp:=qW (qk qqt) (by kernel_rfl) (by kernel_rfl)
def qD6:=JA_ @qfp.eq_1 (JA_ @Tryz.f179.eq_1 @qqt)
theorem qx0:lbO 179 2=qht:=QG (qk qqt) rfl
theorem qtL:okL 179 qht:=zZ qCT (qOq (i:=0) (by kernel_rfl))
def zA (v:qc) (s:List qc) (t7:Int):Int→Option (Int⊕(Int⊕Unit))|t8=>if t8<t7 then if 0≤t8∧t8<((s.length:Nat):Int) then Option.bind s[Int.toNat t8]? fun(a:qc)=>if(v.School==a.School)=Bool.true∧(ByteArray.toList v.Code==ByteArray.toList a.Code)=Bool.true then some (Sum.inr (Sum.inl t8)) else some (Sum.inl (w64 (t8+1))) else none else some (Sum.inr (Sum.inr ()))
theorem q0x:∀(JV:Int) (q7o:ByteArray) (s:List qc) (t7 t8:Int),XL2 evo 179 0 2 ⟨[(0,rL 2 qd s),(3,rP 0),(7,rI t7),(8,rI t8)],[(0,B.blk 55 [dI JV,dS q7o])],1,19⟩=(zy (zA (qc.mk JV q7o) s t7) t8).bind (Sum.elim (fun(e:Int)=>some (Exit.ret,⟨[(4,rI e)],[],0,19⟩)) (fun(e:Unit)=>some (Exit.exit 0,⟨[(4,R.any)],[],0,19⟩))):=
 fun JV q7o s t7 t8=>by
  revert t8;exact qbe qx0 qtL (fun e=>by rcases e with _|_<;>exact⟨_,rfl,fun h=>by cases h⟩) fun x=>by
   have:=qD6;have:=@qht.eq_1;have:=@zA.eq_1;exact gA
def Q4 (s:List qc) (v:qc):Option Int:=Option.bind (zy (zA v s ((s.length:Nat):Int)) 0) fun(a:Sum Int Unit)=>Sum.elim (fun(a2:Int)=>some a2) (fun(a3:Unit)=>some (-1)) a
theorem q15:∀(s:List qc) (JV:Int) (q7o:ByteArray),ev 179 0 [rL 2 qd s,R.agg [dI JV,dS q7o]] []=(Q4 s (qc.mk JV q7o)).bind (fun(e:Int)=>some (rI e,[])):=
 fun s JV q7o=>by
  rw[qS qqt qyR.2.2.2 qCT]
  have:=qD6;have:=@q0x;have:=@Q4.eq_1;exact gA
def zQ (s:List qc) (v:qc):Option Bool:=Option.bind (Q4 s v) fun(a:Int)=>some (decide (0≤a))
theorem q0v:∀(s:List qc) (JV:Int) (q7o:ByteArray),ev 163 0 [rL 2 qd s,R.agg [dI JV,dS q7o]] []=(zQ s (qc.mk JV q7o)).bind (fun(e:Bool)=>some (rB e,[])):=
 fun s JV q7o=>by
  rw[qS quy qys.2.2.2 qHU]
  have:=qGW;have:=@q15;have:=@zQ.eq_1;exact gA
theorem qFJ:okL 164 qih:=qW (qk qx7) (by kernel_rfl) (by kernel_rfl)
def qF5:=JA_ @qih.eq_1 (JA_ @Tryz.f164.eq_1 @qx7)
theorem qHg:okL 180 qij:=qW (qk qvF) (by kernel_rfl) (by kernel_rfl)
def qFT:=JA_ @qij.eq_1 (JA_ @Tryz.f180.eq_1 @qvF)
def q2p (s:qg) (g:Int):Option Bool:=Option.bind (q1s s) fun(a:Int)=>if(a==0)=Bool.true then some (QA g s.Worst s.Best==g) else some Bool.false
theorem qb8:∀(zm zX zY g:Int),ev 180 0 [R.agg [dI zm,dI zX,dI zY],rI g] []=(q2p (qg.mk zm zX zY) g).bind (fun(e:Bool)=>some (rB e,[])):=
 fun zm zX zY g=>by
  rw[qS qvF qzn.2.2.2 qHg]
  have:=qFT;have:=@q68;have:=@q0H;have:=@q2p.eq_1;exact gA
def q1d (s:qg) (g:Int) (min:Int):Option Bool:=Option.bind (q2p s g) fun(a:Bool)=>if a=Bool.true then if(g==min)=Bool.true then some Bool.true else some (decide (min<g)==decide (s.Worst<s.Best)) else some Bool.false
theorem q9J:∀(zm zX zY g min:Int),ev 164 0 [R.agg [dI zm,dI zX,dI zY],rI g,rI min] []=(q1d (qg.mk zm zX zY) g min).bind (fun(e:Bool)=>some (rB e,[])):=
 fun zm zX zY g min=>by
  rw[qS qx7 qzA.2.2.2 qFJ]
  have:=qF5;have:=@qb8;have:=@q1d.eq_1;exact gA
def q3S (n:qb) (s:qg) (a:qa):Option Bool:=if JS n=Bool.true then Option.bind (zQ n.Set a.Course) fun(a2:Bool)=>if a2=Bool.true then Option.bind (q1d s a.Grade n.Min) fun(e0:Bool)=>some e0 else some Bool.false else some Bool.false
theorem q9u:∀(qz n_N qM:Int) (qN:List qc) (n_L:List qb) (zm zX zY Qa:Int) (QE:ByteArray) (JG q27 q8J:Int) (Js:List Int) (q0t:Int) (q3D:List Int),ev 132 0 [R.agg [dI qz,dI n_N,dI qM,dL 2 qd qN,dL 5 qh n_L],R.agg [dI zm,dI zX,dI zY],R.agg [dI Qa,dS QE,dI JG,dI q27,dI q8J,dL 1 eI Js,dI q0t,dL 1 eI q3D]] []=(q3S (qb.mk qz n_N qM qN n_L) (qg.mk zm zX zY) (qa.mk (qc.mk Qa QE) JG q27 q8J Js q0t q3D)).bind (fun(e:Bool)=>some (rB e,[])):=
 fun qz n_N qM qN n_L zm zX zY Qa QE JG q27 q8J Js q0t q3D=>by
  rw[qS qxs qCn.2.2.2 qGH]
  have:=qHY;have:=@q3J;have:=@q0v;have:=@q9J;have:=@q3S.eq_1;exact gA
def JX (b0:Int) (n:qb) (s:qg) (b3:qK) (t13:List qa) (t14:Int):(qK×Int)→Option ((qK×Int)⊕qK)|(out,t15)=>if t15<t14 then if 0≤t15∧t15<((t13.length:Nat):Int) then Option.bind t13[Int.toNat t15]? fun(a:qa)=>Option.bind (q18 t15 b0) fun(a2:Bool)=>if a2=Bool.true then if out.fine=Bool.true then Option.bind (q3S n s a) fun(a3:Bool)=>some (Sum.inl (qK.mk (w64 (out.many+1)) (w64 (out.credits+a.Credits)) a3,w64 (t15+1))) else some (Sum.inl (qK.mk (w64 (out.many+1)) (w64 (out.credits+a.Credits)) Bool.false,w64 (t15+1))) else some (Sum.inl (out,w64 (t15+1))) else none else some (Sum.inr out)
theorem qa5:∀(b0 qz n_N qM:Int) (qN:List qc) (n_L:List qb) (zm zX zY b3_many b3_credits:Int) (b3_fine:Bool) (out_many out_credits:Int) (out_fine:Bool) (t13:List qa) (t14 t15:Int),XL2 evo 87 1 3 ⟨[(3,R.c (C.fn 105 [] [dP 0])),(4,rP 1),(5,rP 2),(8,rP 3),(9,rP 4),(13,rL 8 qe t13),(14,rI t14),(15,rI t15)],[(0,B.blk 3 [dI b0]),(1,B.blk 36 [dI qz,dI n_N,dI qM,dL 2 qd qN,dL 5 qh n_L]),(2,B.blk 28 [dI zm,dI zX,dI zY]),(3,B.blk 138 [dI b3_many,dI b3_credits,dB b3_fine]),(4,B.blk 138 [dI out_many,dI out_credits,dB out_fine])],5,44⟩=(zy (JX b0 (qb.mk qz n_N qM qN n_L) (qg.mk zm zX zY) (qK.mk b3_many b3_credits b3_fine) t13 t14) ((qK.mk out_many out_credits out_fine),t15)).bind (fun(e:qK)=>some (Exit.exit 0,⟨[(8,rP 1),(9,rP 2)],[(0,B.blk 3 [dI b0]),(1,B.blk 138 [dI b3_many,dI b3_credits,dB b3_fine]),(2,B.blk 138 [dI e.many,dI e.credits,dB e.fine])],3,44⟩)):=
 fun b0 qz n_N qM qN n_L zm zX zY b3_many b3_credits b3_fine out_many out_credits out_fine t13 t14 t15=>by
  have h:=q4P (E:=evo) (f:=87) (k:=1) (st:=fun x:qK×Int=>(⟨[(3,R.c (C.fn 105 [] [dP 0])),(4,rP 1),(5,rP 2),(8,rP 3),(9,rP 4),(13,rL 8 qe t13),(14,rI t14),(15,rI x.2)],[(0,B.blk 3 [dI b0]),(1,B.blk 36 [dI qz,dI n_N,dI qM,dL 2 qd qN,dL 5 qh n_L]),(2,B.blk 28 [dI zm,dI zX,dI zY]),(3,B.blk 138 [dI b3_many,dI b3_credits,dB b3_fine]),(4,B.blk 138 [dI x.1.many,dI x.1.credits,dB x.1.fine])],5,44⟩:S)) (ex:=fun(e:qK)=>(Exit.exit 0,⟨[(8,rP 1),(9,rP 2)],[(0,B.blk 3 [dI b0]),(1,B.blk 138 [dI b3_many,dI b3_credits,dB b3_fine]),(2,B.blk 138 [dI e.many,dI e.credits,dB e.fine])],3,44⟩)) (step:=(JX b0 (qb.mk qz n_N qM qN n_L) (qg.mk zm zX zY) (qK.mk b3_many b3_credits b3_fine) t13 t14)) qsJ qt3 (fun e h=>by cases h) (fun x=>by
   obtain⟨out,t15⟩:=x;have:=qEE;have:=@qkl.eq_1;have:=@q9k;have:=@q9u;have:=@JX.eq_1;exact gA) ((qK.mk out_many out_credits out_fine),t15)
  exact h
def q0Y (n:qb) (s:qg) (l:List qa) (b0:Int):Option qK:=Option.bind (zy (JX b0 n s (qK.mk 0 0 Bool.false) l ((l.length:Nat):Int)) (qK.mk 0 0 Bool.true,0)) fun(a:qK)=>some a
theorem q31:∀(qz n_N qM:Int) (qN:List qc) (n_L:List qb) (zm zX zY:Int) (l:List qa) (b0:Int),ev 87 1 [R.agg [dI qz,dI n_N,dI qM,dL 2 qd qN,dL 5 qh n_L],R.agg [dI zm,dI zX,dI zY],rL 8 qe l,R.c (C.fn 105 [] [dP 0])] [(0,B.blk 3 [dI b0])]=(q0Y (qb.mk qz n_N qM qN n_L) (qg.mk zm zX zY) l b0).bind (fun(e:qK)=>some (R.agg [dI e.many,dI e.credits,dB e.fine],[(0,B.blk 3 [dI b0])])):=
 fun qz n_N qM qN n_L zm zX zY l b0=>by
  rw[qS qCt qHF.2.2.2 qFv]
  have:=qEE;have:=@qa5;have:=@q0Y.eq_1;exact gA
theorem qHl:okL 133 qiw:=qW (qk qv9) (by kernel_rfl) (by kernel_rfl)
def qGO:=JA_ @qiw.eq_1 (JA_ @Tryz.f133.eq_1 @qv9)
def q1p (x:qK) (x1:qb):Option Bool:=if x.fine=Bool.true then some (x.many==1) else some Bool.false
def Q0 (x:qK) (x1:qb):Bool:=if x.fine=Bool.true then x.many==1 else Bool.false
theorem q79 (x:qK) (x1:qb):q1p x x1=some (Q0 x x1):=by
 unfold q1p Q0
 simp only[Zm]
theorem q1y:∀(x_many x_credits:Int) (x_fine:Bool) (qdb qDT qgK:Int) (qgL:List qc) (qDU:List qb),ev 133 0 [R.agg [dI x_many,dI x_credits,dB x_fine],R.agg [dI qdb,dI qDT,dI qgK,dL 2 qd qgL,dL 5 qh qDU]] []=some (rB (Q0 (qK.mk x_many x_credits x_fine) (qb.mk qdb qDT qgK qgL qDU)),[]):=
 fun x_many x_credits x_fine qdb qDT qgK qgL qDU=>by
  have h:ev 133 0 [R.agg [dI x_many,dI x_credits,dB x_fine],R.agg [dI qdb,dI qDT,dI qgK,dL 2 qd qgL,dL 5 qh qDU]] []=(q1p (qK.mk x_many x_credits x_fine) (qb.mk qdb qDT qgK qgL qDU)).bind (fun(e:Bool)=>some (rB e,[])):=by
   rw[qS qv9 qzf.2.2.2 qHl]
   have:=qGO;have:=@q1p.eq_1;exact gA
  rw[q79] at h
  exact h
theorem qES:okL 134 qhA:=qW (qk qy0) (by kernel_rfl) (by kernel_rfl)
def qFW:=JA_ @qhA.eq_1 (JA_ @Tryz.f134.eq_1 @qy0)
def q2Y (x:qK) (n:qb):Option Bool:=if x.fine=Bool.true then if 0<x.many then some (decide (n.N≤x.credits)) else some Bool.false else some Bool.false
def Qv (x:qK) (n:qb):Bool:=if x.fine=Bool.true then if 0<x.many then decide (n.N≤x.credits) else Bool.false else Bool.false
theorem q9M (x:qK) (n:qb):q2Y x n=some (Qv x n):=by
 unfold q2Y Qv
 simp only[Zm]
theorem q2Q:∀(x_many x_credits:Int) (x_fine:Bool) (qz n_N qM:Int) (qN:List qc) (n_L:List qb),ev 134 0 [R.agg [dI x_many,dI x_credits,dB x_fine],R.agg [dI qz,dI n_N,dI qM,dL 2 qd qN,dL 5 qh n_L]] []=some (rB (Qv (qK.mk x_many x_credits x_fine) (qb.mk qz n_N qM qN n_L)),[]):=
 fun x_many x_credits x_fine qz n_N qM qN n_L=>by
  have h:ev 134 0 [R.agg [dI x_many,dI x_credits,dB x_fine],R.agg [dI qz,dI n_N,dI qM,dL 2 qd qN,dL 5 qh n_L]] []=(q2Y (qK.mk x_many x_credits x_fine) (qb.mk qz n_N qM qN n_L)).bind (fun(e:Bool)=>some (rB e,[])):=by
   rw[qS qy0 qzL.2.2.2 qES]
   have:=qFW;have:=@q2Y.eq_1;exact gA
  rw[q9M] at h
  exact h
def zz (x:(qb×List qa×Int×qg)):List R×List (Nat×B):=([R.agg [C.d (D.int .i64 x.1.Kind),C.d (D.int .i64 x.1.N),C.d (D.int .i64 x.1.Min),C.d (D.sl 2 x.1.Set.length (x.1.Set.flatMap qd)),C.d (D.sl 5 x.1.L.length (x.1.L.flatMap qh))],R.c (C.ptr 0 0),R.c (C.ptr 1 0),R.c (C.ptr 2 0),R.c (C.ptr 3 0),R.c (C.ptr 4 0),R.c (C.ptr 5 0)],[(0,B.blk 26 [C.d (D.sl 8 x.2.1.length (x.2.1.flatMap qe))]),(1,B.blk 114 [C.fn 59 [] []]),(2,B.blk 3 [C.d (D.int .i64 x.2.2.1)]),(3,B.blk 28 [C.d (D.int .i64 x.2.2.2.Worst),C.d (D.int .i64 x.2.2.2.Best),C.d (D.int .i64 x.2.2.2.Pass)]),(4,B.blk 163 [C.fn 104 [] [C.ptr 0 0,C.ptr 1 0,C.ptr 2 0,C.ptr 3 0,C.ptr 4 0,C.ptr 5 0]]),(5,B.blk 114 [C.fn 60 [] []])])
def Qu:(List Bool×List qa×Int×qg)→R×List (Nat×B):=fun(e:List Bool×List qa×Int×qg)=>(R.c (C.d (D.sl 1 e.1.length (e.1.flatMap eB))),[(0,B.blk 26 [C.d (D.sl 8 e.2.1.length (e.2.1.flatMap qe))]),(1,B.blk 114 [C.fn 59 [] []]),(2,B.blk 3 [C.d (D.int .i64 e.2.2.1)]),(3,B.blk 28 [C.d (D.int .i64 e.2.2.2.Worst),C.d (D.int .i64 e.2.2.2.Best),C.d (D.int .i64 e.2.2.2.Pass)]),(4,B.blk 163 [C.fn 104 [] [C.ptr 0 0,C.ptr 1 0,C.ptr 2 0,C.ptr 3 0,C.ptr 4 0,C.ptr 5 0]]),(5,B.blk 114 [C.fn 60 [] []])])
end
noncomputable section
open Go.RowKit
set_option maxRecDepth 20000
set_option maxHeartbeats 8000000
abbrev qM4:List R:=R.any::R.any::R.any::R.any::qNl
abbrev qMi:List R:=R.any::R.any::R.any::R.any::qM4
abbrev qNC:List R:=R.any::R.any::R.any::R.any::qMi
abbrev qKf:List R:=R.any::R.any::R.any::R.any::qNC
abbrev qKo:List R:=R.any::R.any::R.any::R.any::qKf
abbrev qMK:List R:=R.any::R.any::R.any::R.any::qKo
abbrev qLX:List R:=R.any::R.any::R.any::R.any::qMK
abbrev qM6:List R:=R.any::R.any::R.any::R.any::qLX
abbrev qNu:List R:=R.any::R.any::R.any::R.any::qM6
abbrev qkM:List R:=R.any::R.any::R.any::R.any::qNu
def Jb (rF:(qb×List qa×Int×qg)→Option (List Bool×List qa×Int×qg)) (b0:List qa) (b2:Int) (b3:qg) (b6:qb):(List Bool×Int)→Option ((List Bool×Int)⊕(List Bool))|(w7,b8)=>if b8<((w7.length:Nat):Int) then Option.bind (q0Y b6 b3 b0 b8) fun(a2:qK)=>if 0≤b8∧b8<((w7.length:Nat):Int) then if Int.toNat b8+1≤w7.length then some (Sum.inl (List.set w7 (Int.toNat b8) (Q0 a2 b6),w64 (b8+1))) else none else none else some (Sum.inr w7)
theorem q6B (rE:Orc) (rF:(qb×List qa×Int×qg)→Option (List Bool×List qa×Int×qg)) (hF:∀y,rE (.fn 104) 6 (zz y).1 (zz y).2=(rF y).bind fun e=>some (Qu e)) (hM:∀g k a G,g≠104→rE (.fn g) k a G=ev g k a G) (hR:∀g asg bd k a G,rE (.rd g asg bd) k a G=evr g asg bd k a G):∀(w7:List Bool) (b0:List qa) (b2 QP ZD ZE Jo qby q0y:Int) (q0z:List qc) (qbz:List qb) (b8:Int) (zK:Nat),zK=w7.length→XL2 rE 104 6 5 ⟨[(1,rP 0),(2,rP 1),(3,rP 2),(4,rP 3),(7,rP 6),(9,rO 7 1 zK),(10,R.c (C.fn 133 [] [])),(11,rP 8)],[(0,B.blk 26 [dL 8 qe b0]),(1,B.blk 114 [C.fn 59 [] []]),(2,B.blk 3 [dI b2]),(3,B.blk 28 [dI QP,dI ZD,dI ZE]),(4,B.blk 163 [C.fn 104 [] [dP 0,dP 1,dP 2,dP 3,dP 4,dP 5]]),(5,B.blk 114 [C.fn 60 [] []]),(6,B.blk 36 [dI Jo,dI qby,dI q0y,dL 2 qd q0z,dL 5 qh qbz]),(7,bR 4 1 eB w7),(8,B.blk 3 [dI b8])],9,142⟩=(zy (Jb rF b0 b2 (qg.mk QP ZD ZE) (qb.mk Jo qby q0y q0z qbz)) (w7,b8)).bind (fun(e:List Bool)=>some (Exit.exit 0,⟨[(3,rP 2),(9,rO 6 1 e.length)],[(0,B.blk 26 [dL 8 qe b0]),(1,B.blk 114 [C.fn 59 [] []]),(2,B.blk 3 [dI b2]),(3,B.blk 28 [dI QP,dI ZD,dI ZE]),(4,B.blk 163 [C.fn 104 [] [dP 0,dP 1,dP 2,dP 3,dP 4,dP 5]]),(5,B.blk 114 [C.fn 60 [] []]),(6,bR 4 1 eB e)],7,142⟩)):=
 by
 intro w7 b0 b2 QP ZD ZE Jo qby q0y q0z qbz b8 zK h0
 subst h0
 revert b8;revert w7;exact qa4 qf0 qfx (fun e=>by exact⟨_,rfl,fun h=>by cases h⟩) fun w7 b8=>by
  have hF':∀(qE J8 qY:Int) (qZ:List qc) (J9:List qb) (v:List qa) (v2 qG z7 z8:Int),rE (.fn 104) 6 [R.agg [dI qE,dI J8,dI qY,dL 2 qd qZ,dL 5 qh J9],rP 0,rP 1,rP 2,rP 3,rP 4,rP 5] [(0,B.blk 26 [dL 8 qe v]),(1,B.blk 114 [C.fn 59 [] []]),(2,B.blk 3 [dI v2]),(3,B.blk 28 [dI qG,dI z7,dI z8]),(4,B.blk 163 [C.fn 104 [] [dP 0,dP 1,dP 2,dP 3,dP 4,dP 5]]),(5,B.blk 114 [C.fn 60 [] []])]=(rF ((qb.mk qE J8 qY qZ J9),v,v2,(qg.mk qG z7 z8))).bind (fun e=>some (rL 1 eB e.1,[(0,B.blk 26 [dL 8 qe e.2.1]),(1,B.blk 114 [C.fn 59 [] []]),(2,B.blk 3 [dI e.2.2.1]),(3,B.blk 28 [dI e.2.2.2.Worst,dI e.2.2.2.Best,dI e.2.2.2.Pass]),(4,B.blk 163 [C.fn 104 [] [dP 0,dP 1,dP 2,dP 3,dP 4,dP 5]]),(5,B.blk 114 [C.fn 60 [] []])])):=fun qE J8 qY qZ J9 v v2 qG z7 z8=>hF ((qb.mk qE J8 qY qZ J9),v,v2,(qg.mk qG z7 z8))
  have:=q8V;have:=@qaQ.eq_1;have:=@q7k;have:=@q31;have:=@q1y;have:=@Jb.eq_1;exact gA
def Jc (rF:(qb×List qa×Int×qg)→Option (List Bool×List qa×Int×qg)) (b0:List qa) (b2:Int) (b3:qg) (b6:qb):(List Bool×Int)→Option ((List Bool×Int)⊕(List Bool))|(w7,b8)=>if b8<((w7.length:Nat):Int) then Option.bind (q0Y b6 b3 b0 b8) fun(a2:qK)=>if 0≤b8∧b8<((w7.length:Nat):Int) then if Int.toNat b8+1≤w7.length then some (Sum.inl (List.set w7 (Int.toNat b8) (Qv a2 b6),w64 (b8+1))) else none else none else some (Sum.inr w7)
theorem q6O (rE:Orc) (rF:(qb×List qa×Int×qg)→Option (List Bool×List qa×Int×qg)) (hF:∀y,rE (.fn 104) 6 (zz y).1 (zz y).2=(rF y).bind fun e=>some (Qu e)) (hM:∀g k a G,g≠104→rE (.fn g) k a G=ev g k a G) (hR:∀g asg bd k a G,rE (.rd g asg bd) k a G=evr g asg bd k a G):∀(w7:List Bool) (b0:List qa) (b2 QP ZD ZE Jo qby q0y:Int) (q0z:List qc) (qbz:List qb) (b8:Int) (zK:Nat),zK=w7.length→XL2 rE 104 6 5 ⟨[(1,rP 0),(2,rP 1),(3,rP 2),(4,rP 3),(7,rP 6),(9,rO 7 1 zK),(10,R.c (C.fn 134 [] [])),(11,rP 8)],[(0,B.blk 26 [dL 8 qe b0]),(1,B.blk 114 [C.fn 59 [] []]),(2,B.blk 3 [dI b2]),(3,B.blk 28 [dI QP,dI ZD,dI ZE]),(4,B.blk 163 [C.fn 104 [] [dP 0,dP 1,dP 2,dP 3,dP 4,dP 5]]),(5,B.blk 114 [C.fn 60 [] []]),(6,B.blk 36 [dI Jo,dI qby,dI q0y,dL 2 qd q0z,dL 5 qh qbz]),(7,bR 4 1 eB w7),(8,B.blk 3 [dI b8])],9,142⟩=(zy (Jc rF b0 b2 (qg.mk QP ZD ZE) (qb.mk Jo qby q0y q0z qbz)) (w7,b8)).bind (fun(e:List Bool)=>some (Exit.exit 0,⟨[(3,rP 2),(9,rO 6 1 e.length)],[(0,B.blk 26 [dL 8 qe b0]),(1,B.blk 114 [C.fn 59 [] []]),(2,B.blk 3 [dI b2]),(3,B.blk 28 [dI QP,dI ZD,dI ZE]),(4,B.blk 163 [C.fn 104 [] [dP 0,dP 1,dP 2,dP 3,dP 4,dP 5]]),(5,B.blk 114 [C.fn 60 [] []]),(6,bR 4 1 eB e)],7,142⟩)):=
 by
 intro w7 b0 b2 QP ZD ZE Jo qby q0y q0z qbz b8 zK h0
 subst h0
 revert b8;revert w7;exact qa4 qf0 qfx (fun e=>by exact⟨_,rfl,fun h=>by cases h⟩) fun w7 b8=>by
  have hF':∀(qE J8 qY:Int) (qZ:List qc) (J9:List qb) (v:List qa) (v2 qG z7 z8:Int),rE (.fn 104) 6 [R.agg [dI qE,dI J8,dI qY,dL 2 qd qZ,dL 5 qh J9],rP 0,rP 1,rP 2,rP 3,rP 4,rP 5] [(0,B.blk 26 [dL 8 qe v]),(1,B.blk 114 [C.fn 59 [] []]),(2,B.blk 3 [dI v2]),(3,B.blk 28 [dI qG,dI z7,dI z8]),(4,B.blk 163 [C.fn 104 [] [dP 0,dP 1,dP 2,dP 3,dP 4,dP 5]]),(5,B.blk 114 [C.fn 60 [] []])]=(rF ((qb.mk qE J8 qY qZ J9),v,v2,(qg.mk qG z7 z8))).bind (fun e=>some (rL 1 eB e.1,[(0,B.blk 26 [dL 8 qe e.2.1]),(1,B.blk 114 [C.fn 59 [] []]),(2,B.blk 3 [dI e.2.2.1]),(3,B.blk 28 [dI e.2.2.2.Worst,dI e.2.2.2.Best,dI e.2.2.2.Pass]),(4,B.blk 163 [C.fn 104 [] [dP 0,dP 1,dP 2,dP 3,dP 4,dP 5]]),(5,B.blk 114 [C.fn 60 [] []])])):=fun qE J8 qY qZ J9 v v2 qG z7 z8=>hF ((qb.mk qE J8 qY qZ J9),v,v2,(qg.mk qG z7 z8))
  have:=q8V;have:=@qaQ.eq_1;have:=@q7k;have:=@q31;have:=@q2Q;have:=@Jc.eq_1;exact gA
def Zo (rF:(qb×List qa×Int×qg)→Option (List Bool×List qa×Int×qg)) (w7:List Bool) (b0:List qa) (b2:Int) (b3:qg) (b6:qb):(List Int×Int)→Option ((List Int×Int)⊕(List Int))|(w9,t13)=>if t13<((w9.length:Nat):Int) then if 0≤t13∧t13<((w9.length:Nat):Int) then if Int.toNat t13+1≤w9.length then some (Sum.inl (List.set w9 (Int.toNat t13) (-1),w64 (t13+1))) else none else none else some (Sum.inr w9)
theorem q6h (rE:Orc) (rF:(qb×List qa×Int×qg)→Option (List Bool×List qa×Int×qg)) (hF:∀y,rE (.fn 104) 6 (zz y).1 (zz y).2=(rF y).bind fun e=>some (Qu e)) (hM:∀g k a G,g≠104→rE (.fn g) k a G=ev g k a G) (hR:∀g asg bd k a G,rE (.rd g asg bd) k a G=evr g asg bd k a G):∀(w7:List Bool) (w9:List Int) (b0:List qa) (b2 QP ZD ZE Jo qby q0y:Int) (q0z:List qc) (qbz:List qb) (t13:Int) (zK JI:Nat),zK=w7.length→JI=w9.length→XL2 rE 104 6 14 ⟨[(3,rP 2),(5,rP 4),(6,rP 5),(7,rP 6),(9,rO 7 1 zK),(12,rP 8),(13,rI t13)],[(0,B.blk 26 [dL 8 qe b0]),(1,B.blk 114 [C.fn 59 [] []]),(2,B.blk 3 [dI b2]),(3,B.blk 28 [dI QP,dI ZD,dI ZE]),(4,B.blk 163 [C.fn 104 [] [dP 0,dP 1,dP 2,dP 3,dP 4,dP 5]]),(5,B.blk 114 [C.fn 60 [] []]),(6,B.blk 36 [dI Jo,dI qby,dI q0y,dL 2 qd q0z,dL 5 qh qbz]),(7,bR 4 1 eB w7),(8,B.blk 164 [dO 9 1 JI]),(9,bR 3 1 eI w9)],10,142⟩=(zy (Zo rF w7 b0 b2 (qg.mk QP ZD ZE) (qb.mk Jo qby q0y q0z qbz)) (w9,t13)).bind (fun(e:List Int)=>some (Exit.exit 2,⟨[(3,rP 2),(5,rP 4),(6,rP 5),(7,rP 6),(9,rO 7 1 w7.length),(12,rP 8)],[(0,B.blk 26 [dL 8 qe b0]),(1,B.blk 114 [C.fn 59 [] []]),(2,B.blk 3 [dI b2]),(3,B.blk 28 [dI QP,dI ZD,dI ZE]),(4,B.blk 163 [C.fn 104 [] [dP 0,dP 1,dP 2,dP 3,dP 4,dP 5]]),(5,B.blk 114 [C.fn 60 [] []]),(6,B.blk 36 [dI Jo,dI qby,dI q0y,dL 2 qd q0z,dL 5 qh qbz]),(7,bR 4 1 eB w7),(8,B.blk 164 [dO 9 1 e.length]),(9,bR 3 1 eI e)],10,142⟩)):=
 by
 intro w7 w9 b0 b2 QP ZD ZE Jo qby q0y q0z qbz t13 zK JI h0 h1
 subst h0 h1
 revert t13;revert w9;exact qa4 qj2 qjl (fun e=>by exact⟨_,rfl,fun h=>by cases h⟩) fun w9 t13=>by
  have hF':∀(qE J8 qY:Int) (qZ:List qc) (J9:List qb) (v:List qa) (v2 qG z7 z8:Int),rE (.fn 104) 6 [R.agg [dI qE,dI J8,dI qY,dL 2 qd qZ,dL 5 qh J9],rP 0,rP 1,rP 2,rP 3,rP 4,rP 5] [(0,B.blk 26 [dL 8 qe v]),(1,B.blk 114 [C.fn 59 [] []]),(2,B.blk 3 [dI v2]),(3,B.blk 28 [dI qG,dI z7,dI z8]),(4,B.blk 163 [C.fn 104 [] [dP 0,dP 1,dP 2,dP 3,dP 4,dP 5]]),(5,B.blk 114 [C.fn 60 [] []])]=(rF ((qb.mk qE J8 qY qZ J9),v,v2,(qg.mk qG z7 z8))).bind (fun e=>some (rL 1 eB e.1,[(0,B.blk 26 [dL 8 qe e.2.1]),(1,B.blk 114 [C.fn 59 [] []]),(2,B.blk 3 [dI e.2.2.1]),(3,B.blk 28 [dI e.2.2.2.Worst,dI e.2.2.2.Best,dI e.2.2.2.Pass]),(4,B.blk 163 [C.fn 104 [] [dP 0,dP 1,dP 2,dP 3,dP 4,dP 5]]),(5,B.blk 114 [C.fn 60 [] []])])):=fun qE J8 qY qZ J9 v v2 qG z7 z8=>hF ((qb.mk qE J8 qY qZ J9),v,v2,(qg.mk qG z7 z8))
  have:=q8V;have:=@qbW.eq_1;have:=@Zo.eq_1;exact gA
theorem qLZ:okL 60 qnq:=qW (qk qHr) (by kernel_rfl) (by kernel_rfl)
def qMu:=JA_ @qnq.eq_1 (JA_ @Tryz.f60.eq_1 @qHr)
def q4C (x0:Int) (x1:Int):Option Unit:=
 some ()
def q80 (x0:Int) (x1:Int):Unit:=
 ()
theorem qbb (x0 x1:Int):q4C x0 x1=some (q80 x0 x1):=by
 unfold q4C q80
 simp only[Zm]
theorem qca:∀(x0 x1:Int),ev 60 0 [rI x0,rI x1] []=some (rB Bool.false,[]):=
 fun x0 x1=>by
  have h:ev 60 0 [rI x0,rI x1] []=(q4C x0 x1).bind (fun(e:Unit)=>some (rB Bool.false,[])):=by
   rw[qS qHr qIi.2.2.2 qLZ]
   have:=qMu;have:=@q4C.eq_1;exact gA
  rw[qbb] at h
  exact h
theorem qyF:okL 106 qfi:=qW (qk qq6) (by kernel_rfl) (by kernel_rfl)
def qCv:=JA_ @qfi.eq_1 (JA_ @Tryz.f106.eq_1 @qq6)
theorem qx3:lbO 106 1=qi6:=QG (qk qq6) rfl
theorem qwP:okL 106 qi6:=zZ qyF (qOq (i:=0) (by kernel_rfl))
theorem qFp:okL 107 qhi:=qW (qk qvj) (by kernel_rfl) (by kernel_rfl)
def qHA:=JA_ @qhi.eq_1 (JA_ @Tryz.f107.eq_1 @qvj)
def q1c (sub:Int) (rest:Int) (w4:List Int) (w5:List Int) (v:List Bool) (v2:Int):Option (List Int):=if 0≤sub∧sub<((v.length:Nat):Int) then Option.bind v[Int.toNat sub]? fun(a:Bool)=>if a=Bool.true then if 0≤rest∧rest<((w4.length:Nat):Int) then Option.bind w4[Int.toNat rest]? fun(a2:Int)=>if 0≤a2 then if 0≤v2∧v2<((w5.length:Nat):Int) then Option.bind w5[Int.toNat v2]? fun(a3:Int)=>if 0≤rest∧rest<((w4.length:Nat):Int) then Option.bind w4[Int.toNat rest]? fun(a4:Int)=>if 0≤v2∧v2<((w5.length:Nat):Int) then if Int.toNat v2+1≤w5.length then some (List.set w5 (Int.toNat v2) (max a3 (w64 (a4+1)))) else none else none else none else none else some w5 else none else some w5 else none
theorem q8U:∀(sub rest:Int) (w4 w5:List Int) (v:List Bool) (v2:Int) (ZC q7p:Nat),ZC=w4.length→q7p=w5.length→ev 107 4 [rI sub,rI rest,rP 0,rP 1,rP 2,rP 3] [(0,B.blk 115 [dL 1 eB v]),(1,B.blk 164 [dO 4 1 ZC]),(2,B.blk 164 [dO 5 1 q7p]),(3,B.blk 3 [dI v2]),(4,bR 3 1 eI w4),(5,bR 3 1 eI w5)]=(q1c sub rest w4 w5 v v2).bind (fun(e:List Int)=>some (R.tup [],[(0,B.blk 115 [dL 1 eB v]),(1,B.blk 164 [dO 4 1 w4.length]),(2,B.blk 164 [dO 5 1 e.length]),(3,B.blk 3 [dI v2]),(4,bR 3 1 eI w4),(5,bR 3 1 eI e)])):=
 by
 intro sub rest w4 w5 v v2 ZC q7p h0 h1
 subst h0 h1
 rw[qS qvj qAH.2.2.2 qFp]
 have:=qHA;have:=@q1c.eq_1;exact gA
def Ql (w4:List Int) (b0:List Bool) (b3:Int) (set0:Int):(List Int×Int)→Option ((List Int×Int)⊕(List Int))|(w5,sub)=>if 0<sub then Option.bind (q1c sub (ZR Go.BinOp.andNot IntKind.i64 set0 sub) w4 w5 b0 b3) fun(a:List Int)=>some (Sum.inl (a,ZR Go.BinOp.and IntKind.i64 (w64 (sub-1)) set0)) else some (Sum.inr w5)
theorem q4q:∀(w4 w5:List Int) (b0:List Bool) (b3 set0 sub:Int) (ZC q7p:Nat),ZC=w4.length→q7p=w5.length→XL2 evo 106 4 1 ⟨[(1,rI set0),(2,R.c (C.fn 107 [] [dP 0,dP 1,dP 2,dP 3])),(6,rI sub)],[(0,B.blk 115 [dL 1 eB b0]),(1,B.blk 164 [dO 4 1 ZC]),(2,B.blk 164 [dO 5 1 q7p]),(3,B.blk 3 [dI b3]),(4,bR 3 1 eI w4),(5,bR 3 1 eI w5)],6,20⟩=(zy (Ql w4 b0 b3 set0) (w5,sub)).bind (fun(e:List Int)=>some (Exit.exit 0,⟨[],[(0,B.blk 115 [dL 1 eB b0]),(1,B.blk 164 [dO 4 1 w4.length]),(2,B.blk 164 [dO 5 1 e.length]),(3,B.blk 3 [dI b3]),(4,bR 3 1 eI w4),(5,bR 3 1 eI e)],6,20⟩)):=
 by
 intro w4 w5 b0 b3 set0 sub ZC q7p h0 h1
 subst h0 h1
 revert sub;revert w5;exact qa4 qx3 qwP (fun e=>by exact⟨_,rfl,fun h=>by cases h⟩) fun w5 sub=>by
  have:=qCv;have:=@qi6.eq_1;have:=@q8U;have:=@Ql.eq_1;exact gA
def Qf (set0:Int) (t:List Int) (w5:List Int) (b0:List Bool) (b3:Int):Option (List Int):=Option.bind (zy (Ql t b0 b3 set0) (w5,set0)) fun(a:List Int)=>some a
theorem q2i:∀(set0:Int) (t w5:List Int) (b0:List Bool) (b3:Int) (qsE q7p:Nat),qsE=t.length→q7p=w5.length→ev 106 4 [rO 4 1 qsE,rI set0,R.c (C.fn 107 [] [dP 0,dP 1,dP 2,dP 3])] [(0,B.blk 115 [dL 1 eB b0]),(1,B.blk 164 [dO 4 1 qsE]),(2,B.blk 164 [dO 5 1 q7p]),(3,B.blk 3 [dI b3]),(4,bR 3 1 eI t),(5,bR 3 1 eI w5)]=(Qf set0 t w5 b0 b3).bind (fun(e:List Int)=>some (R.tup [],[(0,B.blk 115 [dL 1 eB b0]),(1,B.blk 164 [dO 4 1 t.length]),(2,B.blk 164 [dO 5 1 e.length]),(3,B.blk 3 [dI b3]),(4,bR 3 1 eI t),(5,bR 3 1 eI e)])):=
 by
 intro set0 t w5 b0 b3 qsE q7p h0 h1
 subst h0 h1
 rw[qS qq6 qAA.2.2.2 qyF]
 have:=qCv;have:=@q4q;have:=@Qf.eq_1;exact gA
def Zs (rF:(qb×List qa×Int×qg)→Option (List Bool×List qa×Int×qg)) (w7:List Bool) (w9:List Int) (b0:List qa) (b2:Int) (b3:qg) (b6:qb) (b10:List Bool) (t18:Bool) (t72:List qb) (t73:Int) (t74:Int) (t96:Int):(List Int×Int)→Option ((List Int×Int)⊕(List Int))|(w12,t97)=>if t97<t96 then if 0≤t97∧t97<((w12.length:Nat):Int) then if Int.toNat t97+1≤w12.length then if t18=Bool.true then if 0≤t97∧t97<((w9.length:Nat):Int) then Option.bind w9[Int.toNat t97]? fun(a2:Int)=>if 0≤t97∧t97<((w12.length:Nat):Int) then if Int.toNat t97+1≤w12.length then Option.bind (Qf t97 w9 (List.set (List.set w12 (Int.toNat t97) (-1)) (Int.toNat t97) a2) b10 t97) fun(a3:List Int)=>some (Sum.inl (a3,w64 (t97+1))) else none else none else none else Option.bind (Qf t97 w9 (List.set w12 (Int.toNat t97) (-1)) b10 t97) fun(a4:List Int)=>some (Sum.inl (a4,w64 (t97+1))) else none else none else some (Sum.inr w12)
theorem q7N (rE:Orc) (rF:(qb×List qa×Int×qg)→Option (List Bool×List qa×Int×qg)) (hF:∀y,rE (.fn 104) 6 (zz y).1 (zz y).2=(rF y).bind fun e=>some (Qu e)) (hM:∀g k a G,g≠104→rE (.fn g) k a G=ev g k a G) (hR:∀g asg bd k a G,rE (.rd g asg bd) k a G=evr g asg bd k a G):∀(w7:List Bool) (w9 w12:List Int) (b0:List qa) (b2 QP ZD ZE Jo qby q0y:Int) (q0z:List qc) (qbz:List qb) (b10:List Bool) (t18:Bool) (t72:List qb) (t73 t74 t96 t97:Int) (zK JI qiR:Nat),zK=w7.length→JI=w9.length→qiR=w12.length→XL2 rE 104 6 25 ⟨[(3,rP 2),(5,rP 4),(6,rP 5),(7,rP 6),(9,rO 7 1 zK),(12,rP 8),(17,rP 10),(18,rB t18),(19,rP 11),(72,rL 5 qh t72),(73,rI t73),(74,rI t74),(96,rI t96),(97,rI t97)],[(0,B.blk 26 [dL 8 qe b0]),(1,B.blk 114 [C.fn 59 [] []]),(2,B.blk 3 [dI b2]),(3,B.blk 28 [dI QP,dI ZD,dI ZE]),(4,B.blk 163 [C.fn 104 [] [dP 0,dP 1,dP 2,dP 3,dP 4,dP 5]]),(5,B.blk 114 [C.fn 60 [] []]),(6,B.blk 36 [dI Jo,dI qby,dI q0y,dL 2 qd q0z,dL 5 qh qbz]),(7,bR 4 1 eB w7),(8,B.blk 164 [dO 9 1 JI]),(9,bR 3 1 eI w9),(10,B.blk 115 [dL 1 eB b10]),(11,B.blk 164 [dO 12 1 qiR]),(12,bR 3 1 eI w12)],13,142⟩=(zy (Zs rF w7 w9 b0 b2 (qg.mk QP ZD ZE) (qb.mk Jo qby q0y q0z qbz) b10 t18 t72 t73 t74 t96) (w12,t97)).bind (fun(e:List Int)=>some (Exit.exit 6,⟨[(3,rP 2),(5,rP 4),(6,rP 5),(7,rP 6),(9,rO 7 1 w7.length),(12,rP 8),(19,rP 10),(72,rL 5 qh t72),(73,rI t73),(74,rI t74)],[(0,B.blk 26 [dL 8 qe b0]),(1,B.blk 114 [C.fn 59 [] []]),(2,B.blk 3 [dI b2]),(3,B.blk 28 [dI QP,dI ZD,dI ZE]),(4,B.blk 163 [C.fn 104 [] [dP 0,dP 1,dP 2,dP 3,dP 4,dP 5]]),(5,B.blk 114 [C.fn 60 [] []]),(6,B.blk 36 [dI Jo,dI qby,dI q0y,dL 2 qd q0z,dL 5 qh qbz]),(7,bR 4 1 eB w7),(8,B.blk 164 [dO 9 1 w9.length]),(9,bR 3 1 eI w9),(10,B.blk 164 [dO 11 1 e.length]),(11,bR 3 1 eI e)],12,142⟩)):=
 by
 intro w7 w9 w12 b0 b2 QP ZD ZE Jo qby q0y q0z qbz b10 t18 t72 t73 t74 t96 t97 zK JI qiR h0 h1 h2
 subst h0 h1 h2
 revert t97;revert w12;exact qa4 qk7 qje (fun e=>by exact⟨_,rfl,fun h=>by cases h⟩) fun w12 t97=>by
  have hF':∀(qE J8 qY:Int) (qZ:List qc) (J9:List qb) (v:List qa) (v2 qG z7 z8:Int),rE (.fn 104) 6 [R.agg [dI qE,dI J8,dI qY,dL 2 qd qZ,dL 5 qh J9],rP 0,rP 1,rP 2,rP 3,rP 4,rP 5] [(0,B.blk 26 [dL 8 qe v]),(1,B.blk 114 [C.fn 59 [] []]),(2,B.blk 3 [dI v2]),(3,B.blk 28 [dI qG,dI z7,dI z8]),(4,B.blk 163 [C.fn 104 [] [dP 0,dP 1,dP 2,dP 3,dP 4,dP 5]]),(5,B.blk 114 [C.fn 60 [] []])]=(rF ((qb.mk qE J8 qY qZ J9),v,v2,(qg.mk qG z7 z8))).bind (fun e=>some (rL 1 eB e.1,[(0,B.blk 26 [dL 8 qe e.2.1]),(1,B.blk 114 [C.fn 59 [] []]),(2,B.blk 3 [dI e.2.2.1]),(3,B.blk 28 [dI e.2.2.2.Worst,dI e.2.2.2.Best,dI e.2.2.2.Pass]),(4,B.blk 163 [C.fn 104 [] [dP 0,dP 1,dP 2,dP 3,dP 4,dP 5]]),(5,B.blk 114 [C.fn 60 [] []])])):=fun qE J8 qY qZ J9 v v2 qG z7 z8=>hF ((qb.mk qE J8 qY qZ J9),v,v2,(qg.mk qG z7 z8))
  have:=q8V;have:=@qbP.eq_1;have:=@q2i;have:=@Zs.eq_1;exact gA
def Zp (rF:(qb×List qa×Int×qg)→Option (List Bool×List qa×Int×qg)) (w7:List Bool) (b6:qb) (t72:List qb) (t73:Int):(List Int×List qa×Int×qg×Int)→Option ((List Int×List qa×Int×qg×Int)⊕(List Int×List qa×Int×qg))|(w9,b0,b2,b3,t74)=>if t74<t73 then if 0≤t74∧t74<((t72.length:Nat):Int) then Option.bind t72[Int.toNat t74]? fun(a2:qb)=>Option.bind (rF (a2,(b0,(b2,b3)))) fun(a3:Prod (List Bool) (Prod (List qa) (Prod Int qg)))=>if(b6.Kind==4)=Bool.true then if 0≤((w9.length:Nat):Int)∧8*((w9.length:Nat):Int)≤281474976710656∧((w9.length:Nat):Int)≤9223372036854775807 then Option.bind (zy (Zs rF w7 w9 a3.2.1 a3.2.2.1 a3.2.2.2 b6 a3.1 Bool.true t72 t73 t74 ((w9.length:Nat):Int)) (List.replicate w9.length 0,0)) fun(a4:List Int)=>some (Sum.inl (a4,a3.2.1,a3.2.2.1,a3.2.2.2,w64 (t74+1))) else none else if 0≤((w9.length:Nat):Int)∧8*((w9.length:Nat):Int)≤281474976710656∧((w9.length:Nat):Int)≤9223372036854775807 then Option.bind (zy (Zs rF w7 w9 a3.2.1 a3.2.2.1 a3.2.2.2 b6 a3.1 Bool.false t72 t73 t74 ((w9.length:Nat):Int)) (List.replicate w9.length 0,0)) fun(a5:List Int)=>some (Sum.inl (a5,a3.2.1,a3.2.2.1,a3.2.2.2,w64 (t74+1))) else none else none else some (Sum.inr (w9,b0,b2,b3))
theorem q7O (rE:Orc) (rF:(qb×List qa×Int×qg)→Option (List Bool×List qa×Int×qg)) (hF:∀y,rE (.fn 104) 6 (zz y).1 (zz y).2=(rF y).bind fun e=>some (Qu e)) (hM:∀g k a G,g≠104→rE (.fn g) k a G=ev g k a G) (hR:∀g asg bd k a G,rE (.rd g asg bd) k a G=evr g asg bd k a G):∀(w7:List Bool) (w9:List Int) (b0:List qa) (b2 QP ZD ZE Jo qby q0y:Int) (q0z:List qc) (qbz t72:List qb) (t73 t74:Int) (zK JI:Nat),zK=w7.length→JI=w9.length→XL2 rE 104 6 18 ⟨[(3,rP 2),(5,rP 4),(6,rP 5),(7,rP 6),(9,rO 7 1 zK),(12,rP 8),(72,rL 5 qh t72),(73,rI t73),(74,rI t74)],[(0,B.blk 26 [dL 8 qe b0]),(1,B.blk 114 [C.fn 59 [] []]),(2,B.blk 3 [dI b2]),(3,B.blk 28 [dI QP,dI ZD,dI ZE]),(4,B.blk 163 [C.fn 104 [] [dP 0,dP 1,dP 2,dP 3,dP 4,dP 5]]),(5,B.blk 114 [C.fn 60 [] []]),(6,B.blk 36 [dI Jo,dI qby,dI q0y,dL 2 qd q0z,dL 5 qh qbz]),(7,bR 4 1 eB w7),(8,B.blk 164 [dO 9 1 JI]),(9,bR 3 1 eI w9)],10,142⟩=(zy (Zp rF w7 (qb.mk Jo qby q0y q0z qbz) t72 t73) (w9,b0,b2,(qg.mk QP ZD ZE),t74)).bind (fun(e:List Int×List qa×Int×qg)=>some (Exit.exit 4,⟨[(7,rP 6),(9,rO 7 1 w7.length),(12,rP 8)],[(0,B.blk 26 [dL 8 qe e.2.1]),(1,B.blk 114 [C.fn 59 [] []]),(2,B.blk 3 [dI e.2.2.1]),(3,B.blk 28 [dI e.2.2.2.Worst,dI e.2.2.2.Best,dI e.2.2.2.Pass]),(4,B.blk 163 [C.fn 104 [] [dP 0,dP 1,dP 2,dP 3,dP 4,dP 5]]),(5,B.blk 114 [C.fn 60 [] []]),(6,B.blk 36 [dI Jo,dI qby,dI q0y,dL 2 qd q0z,dL 5 qh qbz]),(7,bR 4 1 eB w7),(8,B.blk 164 [dO 9 1 e.1.length]),(9,bR 3 1 eI e.1)],10,142⟩)):=
 by
 intro w7 w9 b0 b2 QP ZD ZE Jo qby q0y q0z qbz t72 t73 t74 zK JI h0 h1
 subst h0 h1
 have h:=q4P (E:=rE) (f:=104) (k:=6) (st:=fun x:List Int×List qa×Int×qg×Int=>(⟨[(3,rP 2),(5,rP 4),(6,rP 5),(7,rP 6),(9,rO 7 1 w7.length),(12,rP 8),(72,rL 5 qh t72),(73,rI t73),(74,rI x.2.2.2.2)],[(0,B.blk 26 [dL 8 qe x.2.1]),(1,B.blk 114 [C.fn 59 [] []]),(2,B.blk 3 [dI x.2.2.1]),(3,B.blk 28 [dI x.2.2.2.1.Worst,dI x.2.2.2.1.Best,dI x.2.2.2.1.Pass]),(4,B.blk 163 [C.fn 104 [] [dP 0,dP 1,dP 2,dP 3,dP 4,dP 5]]),(5,B.blk 114 [C.fn 60 [] []]),(6,B.blk 36 [dI Jo,dI qby,dI q0y,dL 2 qd q0z,dL 5 qh qbz]),(7,bR 4 1 eB w7),(8,B.blk 164 [dO 9 1 x.1.length]),(9,bR 3 1 eI x.1)],10,142⟩:S)) (ex:=fun(e:List Int×List qa×Int×qg)=>(Exit.exit 4,⟨[(7,rP 6),(9,rO 7 1 w7.length),(12,rP 8)],[(0,B.blk 26 [dL 8 qe e.2.1]),(1,B.blk 114 [C.fn 59 [] []]),(2,B.blk 3 [dI e.2.2.1]),(3,B.blk 28 [dI e.2.2.2.Worst,dI e.2.2.2.Best,dI e.2.2.2.Pass]),(4,B.blk 163 [C.fn 104 [] [dP 0,dP 1,dP 2,dP 3,dP 4,dP 5]]),(5,B.blk 114 [C.fn 60 [] []]),(6,B.blk 36 [dI Jo,dI qby,dI q0y,dL 2 qd q0z,dL 5 qh qbz]),(7,bR 4 1 eB w7),(8,B.blk 164 [dO 9 1 e.1.length]),(9,bR 3 1 eI e.1)],10,142⟩)) (step:=(Zp rF w7 (qb.mk Jo qby q0y q0z qbz) t72 t73)) qjB qj4 (fun e h=>by cases h) (fun x=>by
  obtain⟨w9,b0,b2,b3,t74⟩:=x;have hF':∀(qE J8 qY:Int) (qZ:List qc) (J9:List qb) (v:List qa) (v2 qG z7 z8:Int),rE (.fn 104) 6 [R.agg [dI qE,dI J8,dI qY,dL 2 qd qZ,dL 5 qh J9],rP 0,rP 1,rP 2,rP 3,rP 4,rP 5] [(0,B.blk 26 [dL 8 qe v]),(1,B.blk 114 [C.fn 59 [] []]),(2,B.blk 3 [dI v2]),(3,B.blk 28 [dI qG,dI z7,dI z8]),(4,B.blk 163 [C.fn 104 [] [dP 0,dP 1,dP 2,dP 3,dP 4,dP 5]]),(5,B.blk 114 [C.fn 60 [] []])]=(rF ((qb.mk qE J8 qY qZ J9),v,v2,(qg.mk qG z7 z8))).bind (fun e=>some (rL 1 eB e.1,[(0,B.blk 26 [dL 8 qe e.2.1]),(1,B.blk 114 [C.fn 59 [] []]),(2,B.blk 3 [dI e.2.2.1]),(3,B.blk 28 [dI e.2.2.2.Worst,dI e.2.2.2.Best,dI e.2.2.2.Pass]),(4,B.blk 163 [C.fn 104 [] [dP 0,dP 1,dP 2,dP 3,dP 4,dP 5]]),(5,B.blk 114 [C.fn 60 [] []])])):=fun qE J8 qY qZ J9 v v2 qG z7 z8=>hF ((qb.mk qE J8 qY qZ J9),v,v2,(qg.mk qG z7 z8))
  have:=q8V;have:=@qbY.eq_1;have:=@qca;have:=q7N rE rF hF hM hR;have:=@Zp.eq_1;exact gA) (w9,b0,b2,(qg.mk QP ZD ZE),t74)
 exact h
def Zr (rF:(qb×List qa×Int×qg)→Option (List Bool×List qa×Int×qg)) (w8:List Int) (b0:List qa) (b2:Int) (b3:qg) (t21:Int):(List Bool×Int)→Option ((List Bool×Int)⊕(List Bool))|(w6,t22)=>if t22<((w6.length:Nat):Int) then if 0≤t22∧t22<((w8.length:Nat):Int) then Option.bind w8[Int.toNat t22]? fun(a2:Int)=>if 0≤t22∧t22<((w6.length:Nat):Int) then if Int.toNat t22+1≤w6.length then some (Sum.inl (List.set w6 (Int.toNat t22) (decide (t21≤a2)),w64 (t22+1))) else none else none else none else some (Sum.inr w6)
theorem q7S (rE:Orc) (rF:(qb×List qa×Int×qg)→Option (List Bool×List qa×Int×qg)) (hF:∀y,rE (.fn 104) 6 (zz y).1 (zz y).2=(rF y).bind fun e=>some (Qu e)) (hM:∀g k a G,g≠104→rE (.fn g) k a G=ev g k a G) (hR:∀g asg bd k a G,rE (.rd g asg bd) k a G=evr g asg bd k a G):∀(w6:List Bool) (w8:List Int) (b0:List qa) (b2 QP ZD ZE t21 t22:Int) (qda qdc:Nat),qda=w6.length→qdc=w8.length→XL2 rE 104 6 38 ⟨[(9,rO 6 1 qda),(12,rP 7),(21,rI t21),(22,rI t22)],[(0,B.blk 26 [dL 8 qe b0]),(1,B.blk 114 [C.fn 59 [] []]),(2,B.blk 3 [dI b2]),(3,B.blk 28 [dI QP,dI ZD,dI ZE]),(4,B.blk 163 [C.fn 104 [] [dP 0,dP 1,dP 2,dP 3,dP 4,dP 5]]),(5,B.blk 114 [C.fn 60 [] []]),(6,bR 4 1 eB w6),(7,B.blk 164 [dO 8 1 qdc]),(8,bR 3 1 eI w8)],9,142⟩=(zy (Zr rF w8 b0 b2 (qg.mk QP ZD ZE) t21) (w6,t22)).bind (fun(e:List Bool)=>some (Exit.exit 8,⟨[(9,rO 6 1 e.length)],[(0,B.blk 26 [dL 8 qe b0]),(1,B.blk 114 [C.fn 59 [] []]),(2,B.blk 3 [dI b2]),(3,B.blk 28 [dI QP,dI ZD,dI ZE]),(4,B.blk 163 [C.fn 104 [] [dP 0,dP 1,dP 2,dP 3,dP 4,dP 5]]),(5,B.blk 114 [C.fn 60 [] []]),(6,bR 4 1 eB e)],7,142⟩)):=
 by
 intro w6 w8 b0 b2 QP ZD ZE t21 t22 qda qdc h0 h1
 subst h0 h1
 revert t22;revert w6;exact qa4 qkg qk6 (fun e=>by exact⟨_,rfl,fun h=>by cases h⟩) fun w6 t22=>by
  have hF':∀(qE J8 qY:Int) (qZ:List qc) (J9:List qb) (v:List qa) (v2 qG z7 z8:Int),rE (.fn 104) 6 [R.agg [dI qE,dI J8,dI qY,dL 2 qd qZ,dL 5 qh J9],rP 0,rP 1,rP 2,rP 3,rP 4,rP 5] [(0,B.blk 26 [dL 8 qe v]),(1,B.blk 114 [C.fn 59 [] []]),(2,B.blk 3 [dI v2]),(3,B.blk 28 [dI qG,dI z7,dI z8]),(4,B.blk 163 [C.fn 104 [] [dP 0,dP 1,dP 2,dP 3,dP 4,dP 5]]),(5,B.blk 114 [C.fn 60 [] []])]=(rF ((qb.mk qE J8 qY qZ J9),v,v2,(qg.mk qG z7 z8))).bind (fun e=>some (rL 1 eB e.1,[(0,B.blk 26 [dL 8 qe e.2.1]),(1,B.blk 114 [C.fn 59 [] []]),(2,B.blk 3 [dI e.2.2.1]),(3,B.blk 28 [dI e.2.2.2.Worst,dI e.2.2.2.Best,dI e.2.2.2.Pass]),(4,B.blk 163 [C.fn 104 [] [dP 0,dP 1,dP 2,dP 3,dP 4,dP 5]]),(5,B.blk 114 [C.fn 60 [] []])])):=fun qE J8 qY qZ J9 v v2 qG z7 z8=>hF ((qb.mk qE J8 qY qZ J9),v,v2,(qg.mk qG z7 z8))
  have:=q8V;have:=@qbS.eq_1;have:=@Zr.eq_1;exact gA
def q0T (rF:(qb×List qa×Int×qg)→Option (List Bool×List qa×Int×qg)):(qb×List qa×Int×qg)→Option (List Bool×List qa×Int×qg)|(x0,v,v2,v3)=>if 0≤((v.length:Nat):Int) then if 0≤w64 (1*2 ^ min v.length (IntKind.bits IntKind.i64))∧1*w64 (1*2 ^ min v.length (IntKind.bits IntKind.i64))≤281474976710656∧w64 (1*2 ^ min v.length (IntKind.bits IntKind.i64))≤9223372036854775807 then if JS x0=Bool.true then Option.bind (q0Z x0.Kind) fun(a2:Sum Unit Unit)=>Sum.elim (fun(a3:Unit)=>Option.bind (zy (Jb rF v v2 v3 x0) (List.replicate (Int.toNat (w64 (1*2 ^ min v.length (IntKind.bits IntKind.i64)))) Bool.false,1)) fun(a5:List Bool)=>some (a5,v,w64 (v2+1),v3)) (fun(a4:Unit)=>Option.bind (zy (Jc rF v v2 v3 x0) (List.replicate (Int.toNat (w64 (1*2 ^ min v.length (IntKind.bits IntKind.i64)))) Bool.false,1)) fun(a6:List Bool)=>some (a6,v,w64 (v2+1),v3)) a2 else if 0≤((Int.toNat (w64 (1*2 ^ min v.length (IntKind.bits IntKind.i64))):Nat):Int)∧8*((Int.toNat (w64 (1*2 ^ min v.length (IntKind.bits IntKind.i64))):Nat):Int)≤281474976710656∧((Int.toNat (w64 (1*2 ^ min v.length (IntKind.bits IntKind.i64))):Nat):Int)≤9223372036854775807 then Option.bind (zy (Zo rF (List.replicate (Int.toNat (w64 (1*2 ^ min v.length (IntKind.bits IntKind.i64)))) Bool.false) v v2 v3 x0) (List.replicate (Int.toNat (w64 (1*2 ^ min v.length (IntKind.bits IntKind.i64)))) 0,1)) fun(a7:List Int)=>Option.bind (zy (Zp rF (List.replicate (Int.toNat (w64 (1*2 ^ min v.length (IntKind.bits IntKind.i64)))) Bool.false) x0 x0.L ((x0.L.length:Nat):Int)) (a7,(v,(v2,(v3,0))))) fun(a8:Prod (List Int) (Prod (List qa) (Prod Int qg)))=>if(x0.Kind==3)=Bool.true then Option.bind (zy (Zr rF a8.1 a8.2.1 a8.2.2.1 a8.2.2.2 ((x0.L.length:Nat):Int)) (List.replicate (Int.toNat (w64 (1*2 ^ min v.length (IntKind.bits IntKind.i64)))) Bool.false,1)) fun(a9:List Bool)=>some (a9,a8.2.1,a8.2.2.1,a8.2.2.2) else Option.bind (zy (Zr rF a8.1 a8.2.1 a8.2.2.1 a8.2.2.2 x0.N) (List.replicate (Int.toNat (w64 (1*2 ^ min v.length (IntKind.bits IntKind.i64)))) Bool.false,1)) fun(a10:List Bool)=>some (a10,a8.2.1,a8.2.2.1,a8.2.2.2) else none else none else none
theorem q62:q84 104 6 zz Qu q0T:=by
 intro rE rF hF hM hR x
 obtain⟨x0,v,v2,v3⟩:=x
 show qaJ rE 104 6 [R.agg [dI x0.Kind,dI x0.N,dI x0.Min,dL 2 qd x0.Set,dL 5 qh x0.L],rP 0,rP 1,rP 2,rP 3,rP 4,rP 5] [(0,B.blk 26 [dL 8 qe v]),(1,B.blk 114 [C.fn 59 [] []]),(2,B.blk 3 [dI v2]),(3,B.blk 28 [dI v3.Worst,dI v3.Best,dI v3.Pass]),(4,B.blk 163 [C.fn 104 [] [dP 0,dP 1,dP 2,dP 3,dP 4,dP 5]]),(5,B.blk 114 [C.fn 60 [] []])]=_
 have hF':∀(qE J8 qY:Int) (qZ:List qc) (J9:List qb) (v:List qa) (v2 qG z7 z8:Int),rE (.fn 104) 6 [R.agg [dI qE,dI J8,dI qY,dL 2 qd qZ,dL 5 qh J9],rP 0,rP 1,rP 2,rP 3,rP 4,rP 5] [(0,B.blk 26 [dL 8 qe v]),(1,B.blk 114 [C.fn 59 [] []]),(2,B.blk 3 [dI v2]),(3,B.blk 28 [dI qG,dI z7,dI z8]),(4,B.blk 163 [C.fn 104 [] [dP 0,dP 1,dP 2,dP 3,dP 4,dP 5]]),(5,B.blk 114 [C.fn 60 [] []])]=(rF ((qb.mk qE J8 qY qZ J9),v,v2,(qg.mk qG z7 z8))).bind (fun e=>some (rL 1 eB e.1,[(0,B.blk 26 [dL 8 qe e.2.1]),(1,B.blk 114 [C.fn 59 [] []]),(2,B.blk 3 [dI e.2.2.1]),(3,B.blk 28 [dI e.2.2.2.Worst,dI e.2.2.2.Best,dI e.2.2.2.Pass]),(4,B.blk 163 [C.fn 104 [] [dP 0,dP 1,dP 2,dP 3,dP 4,dP 5]]),(5,B.blk 114 [C.fn 60 [] []])])):=fun qE J8 qY qZ J9 v v2 qG z7 z8=>hF ((qb.mk qE J8 qY qZ J9),v,v2,(qg.mk qG z7 z8))
 rw[q4u qfc qhD]
 have:=q8V;have:=@q3J;have:=@q4J;have:=q6B rE rF hF hM hR;have:=q6O rE rF hF hM hR;have:=q6h rE rF hF hM hR;have:=q7O rE rF hF hM hR;have:=q7S rE rF hF hM hR;have:=@q0T.eq_1;have:=@Qu.eq_1;exact gA
theorem q3x:∀x y,zz x=zz y→x=y:=by
 rintro⟨⟨qDJ,qDK,qDL,qDM,qDN⟩,a1,a2,⟨qNS,qNT,qNU⟩⟩ ⟨⟨qDO,qDP,qDQ,qDR,qDS⟩,b1,b2,⟨qNV,qNW,qNX⟩⟩ h
 simp only[zz,Prod.mk.injEq,List.cons.injEq,R.c.injEq,R.agg.injEq,R.tup.injEq,C.d.injEq,C.own.injEq,C.ptr.injEq,C.eptr.injEq,D.int.injEq,D.bool.injEq,D.str.injEq,D.sl.injEq,B.blk.injEq,B.row.injEq,q0J,q2C,q1z,q1A,q20,q1Z,q4g,q42,q3Z,q0M,true_and,and_true,qOJ] at h
 simp only[h]
theorem q8p:∀x y,Qu x=Qu y→x=y:=by
 rintro⟨a0,a1,a2,⟨qNS,qNT,qNU⟩⟩ ⟨b0,b1,b2,⟨qNV,qNW,qNX⟩⟩ h
 simp only[Qu,Prod.mk.injEq,List.cons.injEq,R.c.injEq,R.agg.injEq,R.tup.injEq,C.d.injEq,C.own.injEq,C.ptr.injEq,C.eptr.injEq,D.int.injEq,D.bool.injEq,D.str.injEq,D.sl.injEq,B.blk.injEq,B.row.injEq,q0J,q2C,q1z,q1A,q20,q1Z,q4g,q42,q3Z,q0M,true_and,and_true,qOJ] at h
 simp only[h]
def Qk:(qb×List qa×Int×qg)→Option (List Bool×List qa×Int×qg):=q8k 104 6 zz Qu
theorem qbk (x:(qb×List qa×Int×qg)):Qk x=q0T Qk x:=qcI qmJ.2.2.2 q3x q8p q62 x
theorem qaF (x0:qb) (v:List qa) (v2:Int) (v3:qg):ev 104 6 [R.agg [dI x0.Kind,dI x0.N,dI x0.Min,dL 2 qd x0.Set,dL 5 qh x0.L],rP 0,rP 1,rP 2,rP 3,rP 4,rP 5] [(0,B.blk 26 [dL 8 qe v]),(1,B.blk 114 [C.fn 59 [] []]),(2,B.blk 3 [dI v2]),(3,B.blk 28 [dI v3.Worst,dI v3.Best,dI v3.Pass]),(4,B.blk 163 [C.fn 104 [] [dP 0,dP 1,dP 2,dP 3,dP 4,dP 5]]),(5,B.blk 114 [C.fn 60 [] []])]=(Qk (x0,v,v2,v3)).bind (fun(e:List Bool×List qa×Int×qg)=>some (rL 1 eB e.1,[(0,B.blk 26 [dL 8 qe e.2.1]),(1,B.blk 114 [C.fn 59 [] []]),(2,B.blk 3 [dI e.2.2.1]),(3,B.blk 28 [dI e.2.2.2.Worst,dI e.2.2.2.Best,dI e.2.2.2.Pass]),(4,B.blk 163 [C.fn 104 [] [dP 0,dP 1,dP 2,dP 3,dP 4,dP 5]]),(5,B.blk 114 [C.fn 60 [] []])])):=(q99 qmJ.2.2.2 q3x q62 (x0,v,v2,v3))
theorem qbs:∀(qE J8 qY:Int) (qZ:List qc) (J9:List qb) (v:List qa) (v2 qG z7 z8:Int),ev 104 6 [R.agg [dI qE,dI J8,dI qY,dL 2 qd qZ,dL 5 qh J9],rP 0,rP 1,rP 2,rP 3,rP 4,rP 5] [(0,B.blk 26 [dL 8 qe v]),(1,B.blk 114 [C.fn 59 [] []]),(2,B.blk 3 [dI v2]),(3,B.blk 28 [dI qG,dI z7,dI z8]),(4,B.blk 163 [C.fn 104 [] [dP 0,dP 1,dP 2,dP 3,dP 4,dP 5]]),(5,B.blk 114 [C.fn 60 [] []])]=(Qk ((qb.mk qE J8 qY qZ J9),v,v2,(qg.mk qG z7 z8))).bind (fun(e:List Bool×List qa×Int×qg)=>some (rL 1 eB e.1,[(0,B.blk 26 [dL 8 qe e.2.1]),(1,B.blk 114 [C.fn 59 [] []]),(2,B.blk 3 [dI e.2.2.1]),(3,B.blk 28 [dI e.2.2.2.Worst,dI e.2.2.2.Best,dI e.2.2.2.Pass]),(4,B.blk 163 [C.fn 104 [] [dP 0,dP 1,dP 2,dP 3,dP 4,dP 5]]),(5,B.blk 114 [C.fn 60 [] []])])):=
 fun qE J8 qY qZ J9 v v2 qG z7 z8=>qaF (qb.mk qE J8 qY qZ J9) v v2 (qg.mk qG z7 z8)
def q5P (n:qb) (s:qg) (l:List qa):Option (List Bool):=Option.bind (Qk (n,(l,(0,s)))) fun(a:Prod (List Bool) (Prod (List qa) (Prod Int qg)))=>some a.1
theorem qdo:∀(qz n_N qM:Int) (qN:List qc) (n_L:List qb) (zm zX zY:Int) (l:List qa),ev 61 0 [R.agg [dI qz,dI n_N,dI qM,dL 2 qd qN,dL 5 qh n_L],R.agg [dI zm,dI zX,dI zY],rL 8 qe l,R.c (C.fn 59 [] []),R.c (C.fn 60 [] [])] []=(q5P (qb.mk qz n_N qM qN n_L) (qg.mk zm zX zY) l).bind (fun(e:List Bool)=>some (rL 1 eB e,[])):=
 fun qz n_N qM qN n_L zm zX zY l=>by
  rw[qS qDZ qHE.2.2.2 qJx]
  have:=qJh;have:=@qbs;have:=@q5P.eq_1;exact gA
def q2G (n:qb) (s:qg) (l:List qa):Option (List Bool×Int):=Option.bind (Jz n) fun(a:Int)=>if(a != 0)=Bool.true then some ([],a) else if 10<((l.length:Nat):Int) then some ([],2) else Option.bind (q5P n s l) fun(a2:List Bool)=>some (a2,0)
theorem q9j:∀(qz n_N qM:Int) (qN:List qc) (n_L:List qb) (zm zX zY:Int) (l:List qa),ev 35 0 [R.agg [dI qz,dI n_N,dI qM,dL 2 qd qN,dL 5 qh n_L],R.agg [dI zm,dI zX,dI zY],rL 8 qe l] []=(q2G (qb.mk qz n_N qM qN n_L) (qg.mk zm zX zY) l).bind (fun(e:List Bool×Int)=>some (R.tup [rL 1 eB e.1,rI e.2],[])):=
 fun qz n_N qM qN n_L zm zX zY l=>by
  rw[qS qF0 qJe.2.2.2 qNb]
  have:=qKD;have:=@q43;have:=@qdo;have:=@q2G.eq_1;exact gA
theorem qMj:okL 36 qlM:=qW (qk qHu) (by kernel_rfl) (by kernel_rfl)
def qLO:=JA_ @qlM.eq_1 (JA_ @Tryz.f36.eq_1 @qHu)
def q30 (n:Int):Option Unit:=
 some ()
def q5Z (n:Int):Unit:=
 ()
theorem q95 (n:Int):q30 n=some (q5Z n):=by
 unfold q30 q5Z
 simp only[Zm]
theorem qar:∀(n:Int),ev 36 0 [rI n] []=some (R.c (C.fn 62 [] [dP 0]),[(0,B.blk 3 [dI n])]):=
 fun n=>by
  have h:ev 36 0 [rI n] []=(q30 n).bind (fun(e:Unit)=>some (R.c (C.fn 62 [] [dP 0]),[(0,B.blk 3 [dI n])])):=by
   rw[qS qHu qIG.2.2.2 qMj]
   have:=qLO;have:=@q30.eq_1;exact gA
  rw[q95] at h
  exact h
theorem qHX:okL 62 qgA:=qW (qk qyo) (by kernel_rfl) (by kernel_rfl)
def qG2:=JA_ @qgA.eq_1 (JA_ @Tryz.f62.eq_1 @qyo)
theorem qyj:lbO 62 2=qlW:=QG (qk qyo) rfl
theorem qyI:okL 62 qlW:=zZ qHX (qOq (i:=0) (by kernel_rfl))
theorem qDd:lbO 62 8=qnw:=QG (qk qyo) rfl
theorem qB4:okL 62 qnw:=zZ qHX (qOq (i:=1) (by kernel_rfl))
def QU (b1:qf) (b2:qg) (b3:Int) (b5:Int) (b6:List Int) (b7:List qa) (b8:List Bool) (b9:Int) (t8:Int):(List Int×Int)→Option ((List Int×Int)⊕(List Int))|(all,t9)=>if t9<t8 then if all.length+1≤maxLen∧(all.length+1)*8≤140737488355328 then some (Sum.inl (all++[t9],w64 (t9+1))) else none else some (Sum.inr all)
theorem q6q:∀(all:List Int) (zT q1j zB Z0:Int) (Z1:ByteArray) (qX zU zh:Int) (zi:List qc) (zV:List qb) (Qn J6 J7:Int) (zC:List (q01 qc)) (Zw Jx Jy b3 b5:Int) (b6:List Int) (b7:List qa) (b8:List Bool) (b9 t8 t9:Int) (qiS:Nat),qiS=all.length→XL2 evo 62 10 2 ⟨[(0,R.c (C.hd .yield 0)),(3,rO 10 1 qiS),(8,rI t8),(9,rI t9)],[(0,B.ob (AO.lp 15 (R.any::R.any::R.any::R.any::rP 1::rP 2::R.any::rP 3::rP 4::rP 5::R.any::rP 6::R.any::R.any::rP 7::rP 8::qkM) [67] (raO 15 19) (rbO 15 19) LoopState.ready none)),(1,B.blk 39 [dI zT,dI q1j,dI zB,dI Z0,dS Z1,dI qX,dI zU,dI zh,dL 2 qd zi,dL 5 qh zV,dI Qn,dI J6,dI J7,dL 4 (eA2 qd) zC]),(2,B.blk 28 [dI Zw,dI Jx,dI Jy]),(3,B.blk 3 [dI b3]),(4,B.blk 48 [C.nils,C.nils]),(5,B.blk 49 [dI b5]),(6,B.blk 22 [dL 1 eI b6]),(7,B.blk 26 [dL 8 qe b7]),(8,B.blk 88 [dL 1 eB b8]),(9,B.blk 3 [dI b9]),(10,bR 3 1 eI all)],11,30⟩=(zy (QU (qf.mk zT q1j zB Z0 Z1 (qb.mk qX zU zh zi zV) Qn J6 J7 zC) (qg.mk Zw Jx Jy) b3 b5 b6 b7 b8 b9 t8) (all,t9)).bind (fun(e:List Int)=>some (Exit.exit 0,⟨[(0,R.c (C.hd .yield 0)),(3,rO 10 1 e.length)],[(0,B.ob (AO.lp 15 (R.any::R.any::R.any::R.any::rP 1::rP 2::R.any::rP 3::rP 4::rP 5::R.any::rP 6::R.any::R.any::rP 7::rP 8::qkM) [67] (raO 15 19) (rbO 15 19) LoopState.ready none)),(1,B.blk 39 [dI zT,dI q1j,dI zB,dI Z0,dS Z1,dI qX,dI zU,dI zh,dL 2 qd zi,dL 5 qh zV,dI Qn,dI J6,dI J7,dL 4 (eA2 qd) zC]),(2,B.blk 28 [dI Zw,dI Jx,dI Jy]),(3,B.blk 3 [dI b3]),(4,B.blk 48 [C.nils,C.nils]),(5,B.blk 49 [dI b5]),(6,B.blk 22 [dL 1 eI b6]),(7,B.blk 26 [dL 8 qe b7]),(8,B.blk 88 [dL 1 eB b8]),(9,B.blk 3 [dI b9]),(10,bR 3 1 eI e)],11,30⟩)):=
 by
 intro all zT q1j zB Z0 Z1 qX zU zh zi zV Qn J6 J7 zC Zw Jx Jy b3 b5 b6 b7 b8 b9 t8 t9 qiS h0
 subst h0
 revert t9;revert all;exact qa4 qyj qyI (fun e=>by exact⟨_,rfl,fun h=>by cases h⟩) fun all t9=>by
  have:=qG2;have:=@qlW.eq_1;have:=@QU.eq_1;exact gA
theorem q4M:∀  (zT q1j zB Z0:Int) (Z1:ByteArray) (qX zU zh:Int) (zi:List qc) (zV:List qb) (Qn J6 J7:Int) (zC:List (q01 qc)) (Zw Jx Jy b3 b5:Int) (b6:List Int) (b7:List qa) (b8:List Bool) (b9 t8 t9:Int),XL2 evo 62 10 2 ⟨[(0,R.c (C.hd .yield 0)),(3,rO 10 1 0),(8,rI t8),(9,rI t9)],[(0,B.ob (AO.lp 15 (R.any::R.any::R.any::R.any::rP 1::rP 2::R.any::rP 3::rP 4::rP 5::R.any::rP 6::R.any::R.any::rP 7::rP 8::qkM) [67] (raO 15 19) (rbO 15 19) LoopState.ready none)),(1,B.blk 39 [dI zT,dI q1j,dI zB,dI Z0,dS Z1,dI qX,dI zU,dI zh,dL 2 qd zi,dL 5 qh zV,dI Qn,dI J6,dI J7,dL 4 (eA2 qd) zC]),(2,B.blk 28 [dI Zw,dI Jx,dI Jy]),(3,B.blk 3 [dI b3]),(4,B.blk 48 [C.nils,C.nils]),(5,B.blk 49 [dI b5]),(6,B.blk 22 [dL 1 eI b6]),(7,B.blk 26 [dL 8 qe b7]),(8,B.blk 88 [dL 1 eB b8]),(9,B.blk 3 [dI b9]),(10,B.row 3 1 [])],11,30⟩=(zy (QU (qf.mk zT q1j zB Z0 Z1 (qb.mk qX zU zh zi zV) Qn J6 J7 zC) (qg.mk Zw Jx Jy) b3 b5 b6 b7 b8 b9 t8) ([],t9)).bind (fun(e:List Int)=>some (Exit.exit 0,⟨[(0,R.c (C.hd .yield 0)),(3,rO 10 1 e.length)],[(0,B.ob (AO.lp 15 (R.any::R.any::R.any::R.any::rP 1::rP 2::R.any::rP 3::rP 4::rP 5::R.any::rP 6::R.any::R.any::rP 7::rP 8::qkM) [67] (raO 15 19) (rbO 15 19) LoopState.ready none)),(1,B.blk 39 [dI zT,dI q1j,dI zB,dI Z0,dS Z1,dI qX,dI zU,dI zh,dL 2 qd zi,dL 5 qh zV,dI Qn,dI J6,dI J7,dL 4 (eA2 qd) zC]),(2,B.blk 28 [dI Zw,dI Jx,dI Jy]),(3,B.blk 3 [dI b3]),(4,B.blk 48 [C.nils,C.nils]),(5,B.blk 49 [dI b5]),(6,B.blk 22 [dL 1 eI b6]),(7,B.blk 26 [dL 8 qe b7]),(8,B.blk 88 [dL 1 eB b8]),(9,B.blk 3 [dI b9]),(10,bR 3 1 eI e)],11,30⟩)):=by
 intro zT q1j zB Z0 Z1 qX zU zh zi zV Qn J6 J7 zC Zw Jx Jy b3 b5 b6 b7 b8 b9 t8 t9;have h:=q6q [] ((qf.mk zT q1j zB Z0 Z1 (qb.mk qX zU zh zi zV) Qn J6 J7 zC)).School ((qf.mk zT q1j zB Z0 Z1 (qb.mk qX zU zh zi zV) Qn J6 J7 zC)).Id ((qf.mk zT q1j zB Z0 Z1 (qb.mk qX zU zh zi zV) Qn J6 J7 zC)).Version ((qf.mk zT q1j zB Z0 Z1 (qb.mk qX zU zh zi zV) Qn J6 J7 zC)).From ((qf.mk zT q1j zB Z0 Z1 (qb.mk qX zU zh zi zV) Qn J6 J7 zC)).Name ((qf.mk zT q1j zB Z0 Z1 (qb.mk qX zU zh zi zV) Qn J6 J7 zC)).Need.Kind ((qf.mk zT q1j zB Z0 Z1 (qb.mk qX zU zh zi zV) Qn J6 J7 zC)).Need.N ((qf.mk zT q1j zB Z0 Z1 (qb.mk qX zU zh zi zV) Qn J6 J7 zC)).Need.Min ((qf.mk zT q1j zB Z0 Z1 (qb.mk qX zU zh zi zV) Qn J6 J7 zC)).Need.Set ((qf.mk zT q1j zB Z0 Z1 (qb.mk qX zU zh zi zV) Qn J6 J7 zC)).Need.L ((qf.mk zT q1j zB Z0 Z1 (qb.mk qX zU zh zi zV) Qn J6 J7 zC)).Total ((qf.mk zT q1j zB Z0 Z1 (qb.mk qX zU zh zi zV) Qn J6 J7 zC)).Own ((qf.mk zT q1j zB Z0 Z1 (qb.mk qX zU zh zi zV) Qn J6 J7 zC)).Age ((qf.mk zT q1j zB Z0 Z1 (qb.mk qX zU zh zi zV) Qn J6 J7 zC)).Exclude ((qg.mk Zw Jx Jy)).Worst ((qg.mk Zw Jx Jy)).Best ((qg.mk Zw Jx Jy)).Pass b3 b5 b6 b7 b8 b9 t8 t9 _ rfl
 first
  | exact h
  | (simp only[rL,dL,bR,bZ,Nat.reduceAdd] at h;exact h)
theorem qKM:okL 64 qn2:=qW (qk qGb) (by kernel_rfl) (by kernel_rfl)
def qLa:=JA_ @qn2.eq_1 (JA_ @Tryz.f64.eq_1 @qGb)
theorem qKa:okL 67 qoH:=qW (qk qFM) (by kernel_rfl) (by kernel_rfl)
def qMh:=JA_ @qoH.eq_1 (JA_ @Tryz.f67.eq_1 @qFM)
theorem qHc:okL 112 qiK:=qW (qk qx2) (by kernel_rfl) (by kernel_rfl)
def qH0:=JA_ @qiK.eq_1 (JA_ @Tryz.f112.eq_1 @qx2)
def Jv (x:Int):Option Int:=
 some (let y1:=ZR Go.BinOp.and IntKind.u64 (Int.fdiv x (2 ^ min 1 (IntKind.bits IntKind.u64))) 6148914691236517205+ZR Go.BinOp.and IntKind.u64 x 6148914691236517205;let y2:=Int.fdiv (IntKind.wrap IntKind.u64 y1) (2 ^ min 2 (IntKind.bits IntKind.u64));let y3:=ZR Go.BinOp.and IntKind.u64 y2 3689348814741910323+ZR Go.BinOp.and IntKind.u64 (IntKind.wrap IntKind.u64 y1) 3689348814741910323;let y4:=Int.fdiv (IntKind.wrap IntKind.u64 y3) (2 ^ min 4 (IntKind.bits IntKind.u64))+IntKind.wrap IntKind.u64 y3;let y5:=ZR Go.BinOp.and IntKind.u64 (IntKind.wrap IntKind.u64 y4) 1085102592571150095;let y6:=ZR Go.BinOp.and IntKind.u64 (IntKind.wrap IntKind.u64 y4) 1085102592571150095+Int.fdiv y5 (2 ^ min 8 (IntKind.bits IntKind.u64));let y7:=IntKind.wrap IntKind.u64 y6+Int.fdiv (IntKind.wrap IntKind.u64 y6) (2 ^ min 16 (IntKind.bits IntKind.u64));ZR Go.BinOp.and IntKind.i64 (w64 (IntKind.wrap IntKind.u64 (IntKind.wrap IntKind.u64 y7+Int.fdiv (IntKind.wrap IntKind.u64 y7) (2 ^ min 32 (IntKind.bits IntKind.u64))))) 127)
def Zf (x:Int):Int:=
 let y1:=ZR Go.BinOp.and IntKind.u64 (Int.fdiv x (2 ^ min 1 (IntKind.bits IntKind.u64))) 6148914691236517205+ZR Go.BinOp.and IntKind.u64 x 6148914691236517205;let y2:=Int.fdiv (IntKind.wrap IntKind.u64 y1) (2 ^ min 2 (IntKind.bits IntKind.u64));let y3:=ZR Go.BinOp.and IntKind.u64 y2 3689348814741910323+ZR Go.BinOp.and IntKind.u64 (IntKind.wrap IntKind.u64 y1) 3689348814741910323;let y4:=Int.fdiv (IntKind.wrap IntKind.u64 y3) (2 ^ min 4 (IntKind.bits IntKind.u64))+IntKind.wrap IntKind.u64 y3;let y5:=ZR Go.BinOp.and IntKind.u64 (IntKind.wrap IntKind.u64 y4) 1085102592571150095;let y6:=ZR Go.BinOp.and IntKind.u64 (IntKind.wrap IntKind.u64 y4) 1085102592571150095+Int.fdiv y5 (2 ^ min 8 (IntKind.bits IntKind.u64));let y7:=IntKind.wrap IntKind.u64 y6+Int.fdiv (IntKind.wrap IntKind.u64 y6) (2 ^ min 16 (IntKind.bits IntKind.u64));ZR Go.BinOp.and IntKind.i64 (w64 (IntKind.wrap IntKind.u64 (IntKind.wrap IntKind.u64 y7+Int.fdiv (IntKind.wrap IntKind.u64 y7) (2 ^ min 32 (IntKind.bits IntKind.u64))))) 127
theorem q41 (x:Int):Jv x=some (Zf x):=by
 unfold Jv Zf
 simp only[Zm]
theorem q4m:∀(x:Int),ev 112 0 [R.c (C.d (D.int .u64 x))] []=some (rI (Zf x),[]):=
 fun x=>by
  have h:ev 112 0 [R.c (C.d (D.int .u64 x))] []=(Jv x).bind (fun(e:Int)=>some (rI e,[])):=by
   rw[qS qx2 qBb.2.2.2 qHc]
   have:=qH0;have:=@Jv.eq_1;exact gA
  rw[q41] at h
  exact h
def JT (x:Int):Option Int:=
 some (Zf x)
def QC (x:Int):Int:=
 Zf x
theorem q4K (x:Int):JT x=some (QC x):=by
 unfold JT QC
 simp only[Zm]
theorem q5c:∀(x:Int),ev 67 0 [R.c (C.d (D.int .u64 x))] []=some (rI (QC x),[]):=
 fun x=>by
  have h:ev 67 0 [R.c (C.d (D.int .u64 x))] []=(JT x).bind (fun(e:Int)=>some (rI e,[])):=by
   rw[qS qFM qJj.2.2.2 qKa]
   have:=qMh;have:=@q4m;have:=@JT.eq_1;exact gA
  rw[q4K] at h
  exact h
theorem qJb:okL 37 qjQ:=qW (qk qEi) (by kernel_rfl) (by kernel_rfl)
def qIy:=JA_ @qjQ.eq_1 (JA_ @Tryz.f37.eq_1 @qEi)
theorem qB0:lbO 37 2=qnj:=QG (qk qEi) rfl
theorem qDn:okL 37 qnj:=zZ qJb (qOq (i:=0) (by kernel_rfl))
def QD (mask:Int):(List Int×Int)→Option ((List Int×Int)⊕(List Int))|(l,k)=>if 0≤k then if 0<Int.fdiv mask (2 ^ min (Int.toNat k) (IntKind.bits IntKind.i64)) then if 0≤k then if(ZR Go.BinOp.and IntKind.i64 (Int.fdiv mask (2 ^ min (Int.toNat k) (IntKind.bits IntKind.i64))) 1==1)=Bool.true then if l.length+1≤maxLen∧(l.length+1)*8≤140737488355328 then some (Sum.inl (l++[k],w64 (k+1))) else none else some (Sum.inl (l,w64 (k+1))) else none else some (Sum.inr l) else none
theorem q6g:∀(l:List Int) (mask k:Int) (qiT:Nat),qiT=l.length→XL2 evo 37 0 2 ⟨[(0,rI mask),(2,rO 0 1 qiT),(3,rI k)],[(0,bR 3 1 eI l)],1,20⟩=(zy (QD mask) (l,k)).bind (fun(e:List Int)=>some (Exit.exit 0,⟨[(2,rO 0 1 e.length)],[(0,bR 3 1 eI e)],1,20⟩)):=
 by
 intro l mask k qiT h0
 subst h0
 revert k;revert l;exact qa4 qB0 qDn (fun e=>by exact⟨_,rfl,fun h=>by cases h⟩) fun l k=>by
  have:=qIy;have:=@qnj.eq_1;have:=@QD.eq_1;exact gA
theorem q4T:∀  (mask k:Int),XL2 evo 37 0 2 ⟨[(0,rI mask),(2,rO 0 1 0),(3,rI k)],[(0,B.row 3 1 [])],1,20⟩=(zy (QD mask) ([],k)).bind (fun(e:List Int)=>some (Exit.exit 0,⟨[(2,rO 0 1 e.length)],[(0,bR 3 1 eI e)],1,20⟩)):=by
 intro mask k;have h:=q6g [] mask k _ rfl
 first
  | exact h
  | (simp only[rL,dL,bR,bZ,Nat.reduceAdd] at h;exact h)
def ZO (mask:Int):Option (List Int):=Option.bind (zy (QD mask) ([],0)) fun(a:List Int)=>some a
theorem q1X:∀(mask:Int),ev 37 0 [rI mask] []=(ZO mask).bind (fun(e:List Int)=>some (rL 1 eI e,[])):=
 fun mask=>by
  rw[qS qEi qJr.2.2.2 qJb]
  have:=qIy;have:=@q4T;have:=@ZO.eq_1;exact gA
theorem qIm:okL 68 qkj:=qW (qk qEh) (by kernel_rfl) (by kernel_rfl)
def qIK:=JA_ @qkj.eq_1 (JA_ @Tryz.f68.eq_1 @qEh)
theorem qzp:lbO 68 2=qmb:=QG (qk qEh) rfl
theorem qDe:okL 68 qmb:=zZ qIm (qOq (i:=0) (by kernel_rfl))
def zS (s1:List Int) (s2:List Int) (t9:List Int) (t10:Int):Int→Option (Int⊕(Int⊕Unit))|t11=>if t11<t10 then if 0≤t11∧t11<((t9.length:Nat):Int) then Option.bind t9[Int.toNat t11]? fun(a:Int)=>if((s2.length:Nat):Int)≤t11 then some (Sum.inr (Sum.inl 1)) else if 0≤t11∧t11<((s2.length:Nat):Int) then Option.bind s2[Int.toNat t11]? fun(a2:Int)=>if(Q9 a a2 != 0)=Bool.true then some (Sum.inr (Sum.inl (Q9 a a2))) else some (Sum.inl (w64 (t11+1))) else none else none else some (Sum.inr (Sum.inr ()))
theorem q3o:∀(s1 s2 t9:List Int) (t10 t11:Int),XL2 evo 68 0 2 ⟨[(0,rL 1 eI s1),(1,rL 1 eI s2),(9,rL 1 eI t9),(10,rI t10),(11,rI t11)],[],0,36⟩=(zy (zS s1 s2 t9 t10) t11).bind (Sum.elim (fun(e:Int)=>some (Exit.ret,⟨[(0,rL 1 eI s1),(1,rL 1 eI s2),(4,rI e)],[],0,36⟩)) (fun(e:Unit)=>some (Exit.exit 0,⟨[(0,rL 1 eI s1),(1,rL 1 eI s2),(4,R.any)],[],0,36⟩))):=
 fun s1 s2 t9 t10 t11=>by
  revert t11;exact qbe qzp qDe (fun e=>by rcases e with _|_<;>exact⟨_,rfl,fun h=>by cases h⟩) fun x=>by
   have:=qIK;have:=@qmb.eq_1;have:=@q1B;have:=@zS.eq_1;exact gA
def QR (s1:List Int) (s2:List Int):Option Int:=Option.bind (zy (zS s1 s2 s1 ((s1.length:Nat):Int)) 0) fun(a:Sum Int Unit)=>Sum.elim (fun(a2:Int)=>some a2) (fun(a3:Unit)=>if((s1.length:Nat):Int)<((s2.length:Nat):Int) then some (-1) else some 0) a
theorem q19:∀(s1 s2:List Int),ev 68 0 [rL 1 eI s1,rL 1 eI s2] []=(QR s1 s2).bind (fun(e:Int)=>some (rI e,[])):=
 fun s1 s2=>by
  rw[qS qEh qJW.2.2.2 qIm]
  have:=qIK;have:=@q3o;have:=@QR.eq_1;exact gA
def Qy (a:Int) (b:Int):Option Int:=Option.bind (ZO a) fun(a2:List Int)=>Option.bind (ZO b) fun(a3:List Int)=>Option.bind (QR a2 a3) fun(a4:Int)=>Option.bind (q1i [Q9 (QC (IntKind.wrap IntKind.u64 a)) (QC (IntKind.wrap IntKind.u64 b)),a4]) fun(e0:Int)=>some e0
theorem q7l:∀(a b:Int),ev 64 0 [rI a,rI b] []=(Qy a b).bind (fun(e:Int)=>some (rI e,[])):=
 fun a b=>by
  rw[qS qGb qIF.2.2.2 qKM]
  have:=qLa;have:=@q5c;have:=@q1B;have:=@q1X;have:=@q19;have:=@q4w;have:=@Qy.eq_1;exact gA
theorem qEK:okL 38 qfG:=qW (qk qDk) (by kernel_rfl) (by kernel_rfl)
def qFU:=JA_ @qfG.eq_1 (JA_ @Tryz.f38.eq_1 @qDk)
theorem qyp:lbO 38 3=qmP:=QG (qk qDk) rfl
theorem qD1:okL 38 qmP:=zZ qEK (qOq (i:=0) (by kernel_rfl))
theorem qCP:lbO 38 8=qpa:=QG (qk qDk) rfl
theorem qCo:okL 38 qpa:=zZ qEK (qOq (i:=1) (by kernel_rfl))
theorem qKi:okL 69 qpg:=qW (qk qG9) (by kernel_rfl) (by kernel_rfl)
def qMI:=JA_ @qpg.eq_1 (JA_ @Tryz.f69.eq_1 @qG9)
theorem qJP:okL 91 qjH:=qW (qk qEn) (by kernel_rfl) (by kernel_rfl)
def qIS:=JA_ @qjH.eq_1 (JA_ @Tryz.f91.eq_1 @qEn)
theorem qDh:lbO 91 4=qog:=QG (qk qEn) rfl
theorem qAp:okL 91 qog:=zZ qJP (qOq (i:=0) (by kernel_rfl))
def Qq (s1:List Int) (s2:List Int) (t12:Int):Int→Option (Int⊕(Unit⊕Unit))|t13=>if t13<t12 then if 0≤t13∧t13<((s1.length:Nat):Int) then Option.bind s1[Int.toNat t13]? fun(a:Int)=>if 0≤t13∧t13<((s2.length:Nat):Int) then Option.bind s2[Int.toNat t13]? fun(a2:Int)=>if(a != a2)=Bool.true then some (Sum.inr (Sum.inl ())) else some (Sum.inl (w64 (t13+1))) else none else none else some (Sum.inr (Sum.inr ()))
theorem q3G:∀(s1 s2:List Int) (t12 t13:Int),XL2 evo 91 0 4 ⟨[(0,rL 1 eI s1),(1,rL 1 eI s2),(12,rI t12),(13,rI t13)],[],0,26⟩=(zy (Qq s1 s2 t12) t13).bind (Sum.elim (fun(e:Unit)=>some (Exit.ret,⟨[(4,rB Bool.false)],[],0,26⟩)) (fun(e:Unit)=>some (Exit.exit 0,⟨[(4,R.any)],[],0,26⟩))):=
 fun s1 s2 t12 t13=>by
  revert t13;exact qbe qDh qAp (fun e=>by rcases e with _|_<;>exact⟨_,rfl,fun h=>by cases h⟩) fun x=>by
   have:=qIS;have:=@qog.eq_1;have:=@Qq.eq_1;exact gA
def Zd (s1:List Int) (s2:List Int):Option Bool:=if(((s1.length:Nat):Int) != ((s2.length:Nat):Int))=Bool.true then some Bool.false else Option.bind (zy (Qq s1 s2 ((s1.length:Nat):Int)) 0) fun(a:Sum Unit Unit)=>Sum.elim (fun(a2:Unit)=>some Bool.false) (fun(a3:Unit)=>some Bool.true) a
theorem q1F:∀(s1 s2:List Int),ev 91 0 [rL 1 eI s1,rL 1 eI s2] []=(Zd s1 s2).bind (fun(e:Bool)=>some (rB e,[])):=
 fun s1 s2=>by
  rw[qS qEn qJi.2.2.2 qJP]
  have:=qIS;have:=@q3G;have:=@Zd.eq_1;exact gA
theorem qI3:okL 113 qiI:=qW (qk qxz) (by kernel_rfl) (by kernel_rfl)
def qEN:=JA_ @qiI.eq_1 (JA_ @Tryz.f113.eq_1 @qxz)
theorem qGP:okL 83 qoi:=qW (qk qD8) (by kernel_rfl) (by kernel_rfl)
def qEO:=JA_ @qoi.eq_1 (JA_ @Tryz.f83.eq_1 @qD8)
theorem qrp:okL 131 qeB:=qW (qk qls) (by kernel_rfl) (by kernel_rfl)
def ql3:=JA_ @qeB.eq_1 (JA_ @Tryz.f131.eq_1 @qls)
theorem qhq:lbO 131 2=qcF:=QG (qk qls) rfl
theorem qhf:okL 131 qcF:=zZ qrp (qOq (i:=0) (by kernel_rfl))
theorem qFQ:okL 156 qh1:=qW (qk qwr) (by kernel_rfl) (by kernel_rfl)
def qGk:=JA_ @qh1.eq_1 (JA_ @Tryz.f156.eq_1 @qwr)
theorem qFC:okL 157 qhQ:=qW (qk qwb) (by kernel_rfl) (by kernel_rfl)
def qHn:=JA_ @qhQ.eq_1 (JA_ @Tryz.f157.eq_1 @qwb)
theorem qBZ:okL 177 qf9:=qW (qk qsv) (by kernel_rfl) (by kernel_rfl)
def qBe:=JA_ @qf9.eq_1 (JA_ @Tryz.f177.eq_1 @qsv)
theorem quG:lbO 177 2=qir:=QG (qk qsv) rfl
theorem qtx:okL 177 qir:=zZ qBZ (qOq (i:=0) (by kernel_rfl))
def QJ (s:List Int) (v:Int) (t7:Int):Int→Option (Int⊕(Int⊕Unit))|t8=>if t8<t7 then if 0≤t8∧t8<((s.length:Nat):Int) then Option.bind s[Int.toNat t8]? fun(a:Int)=>if(v==a)=Bool.true then some (Sum.inr (Sum.inl t8)) else some (Sum.inl (w64 (t8+1))) else none else some (Sum.inr (Sum.inr ()))
theorem q3K:∀(s:List Int) (v t7 t8:Int),XL2 evo 177 0 2 ⟨[(0,rL 1 eI s),(1,rI v),(7,rI t7),(8,rI t8)],[],0,19⟩=(zy (QJ s v t7) t8).bind (Sum.elim (fun(e:Int)=>some (Exit.ret,⟨[(4,rI e)],[],0,19⟩)) (fun(e:Unit)=>some (Exit.exit 0,⟨[(4,R.any)],[],0,19⟩))):=
 fun s v t7 t8=>by
  revert t8;exact qbe quG qtx (fun e=>by rcases e with _|_<;>exact⟨_,rfl,fun h=>by cases h⟩) fun x=>by
   have:=qBe;have:=@qir.eq_1;have:=@QJ.eq_1;exact gA
def JJ (s:List Int) (v:Int):Option Int:=Option.bind (zy (QJ s v ((s.length:Nat):Int)) 0) fun(a:Sum Int Unit)=>Sum.elim (fun(a2:Int)=>some a2) (fun(a3:Unit)=>some (-1)) a
theorem q4R:∀(s:List Int) (v:Int),ev 177 0 [rL 1 eI s,rI v] []=(JJ s v).bind (fun(e:Int)=>some (rI e,[])):=
 fun s v=>by
  rw[qS qsv qA3.2.2.2 qBZ]
  have:=qBe;have:=@q3K;have:=@JJ.eq_1;exact gA
def Zi (s:List Int) (v:Int):Option Bool:=Option.bind (JJ s v) fun(a:Int)=>some (decide (0≤a))
theorem q3L:∀(s:List Int) (v:Int),ev 157 0 [rL 1 eI s,rI v] []=(Zi s v).bind (fun(e:Bool)=>some (rB e,[])):=
 fun s v=>by
  rw[qS qwb qzB.2.2.2 qFC]
  have:=qHn;have:=@q4R;have:=@Zi.eq_1;exact gA
def q0R (x:Int) (v:List Int):Option Bool:=Option.bind (Zi v x) fun(a:Bool)=>some a
theorem q6T:∀(x:Int) (v:List Int),ev 156 1 [rI x,rP 0] [(0,B.blk 22 [dL 1 eI v])]=(q0R x v).bind (fun(e:Bool)=>some (rB e,[(0,B.blk 22 [dL 1 eI v])])):=
 fun x v=>by
  rw[qS qwr qAn.2.2.2 qFQ]
  have:=qGk;have:=@q3L;have:=@q0R.eq_1;exact gA
def Qi (b0:List Int) (s:List Int) (t7:Int):Int→Option (Int⊕(Int⊕Unit))|t8=>if t8<t7 then if 0≤t8∧t8<((s.length:Nat):Int) then Option.bind s[Int.toNat t8]? fun(a:Int)=>Option.bind (q0R a b0) fun(a2:Bool)=>if a2=Bool.true then some (Sum.inr (Sum.inl t8)) else some (Sum.inl (w64 (t8+1))) else none else some (Sum.inr (Sum.inr ()))
theorem q2y:∀(b0 s:List Int) (t7 t8:Int),XL2 evo 131 1 2 ⟨[(0,rL 1 eI s),(1,R.c (C.fn 156 [] [dP 0])),(7,rI t7),(8,rI t8)],[(0,B.blk 22 [dL 1 eI b0])],1,19⟩=(zy (Qi b0 s t7) t8).bind (Sum.elim (fun(e:Int)=>some (Exit.ret,⟨[(4,rI e)],[(0,B.blk 22 [dL 1 eI b0])],1,19⟩)) (fun(e:Unit)=>some (Exit.exit 0,⟨[(4,R.any)],[(0,B.blk 22 [dL 1 eI b0])],1,19⟩))):=
 fun b0 s t7 t8=>by
  revert t8;exact qbe qhq qhf (fun e=>by rcases e with _|_<;>exact⟨_,rfl,fun h=>by cases h⟩) fun x=>by
   have:=ql3;have:=@qcF.eq_1;have:=@q6T;have:=@Qi.eq_1;exact gA
def ZP (s:List Int) (b0:List Int):Option Int:=Option.bind (zy (Qi b0 s ((s.length:Nat):Int)) 0) fun(a:Sum Int Unit)=>Sum.elim (fun(a2:Int)=>some a2) (fun(a3:Unit)=>some (-1)) a
theorem q3v:∀(s b0:List Int),ev 131 1 [rL 1 eI s,R.c (C.fn 156 [] [dP 0])] [(0,B.blk 22 [dL 1 eI b0])]=(ZP s b0).bind (fun(e:Int)=>some (rI e,[(0,B.blk 22 [dL 1 eI b0])])):=
 fun s b0=>by
  rw[qS qls qs5.2.2.2 qrp]
  have:=ql3;have:=@q2y;have:=@ZP.eq_1;exact gA
def Zj (s:List Int) (b0:List Int):Option Bool:=Option.bind (ZP s b0) fun(a:Int)=>some (decide (0≤a))
theorem q2z:∀(s b0:List Int),ev 83 1 [rL 1 eI s,R.c (C.fn 156 [] [dP 0])] [(0,B.blk 22 [dL 1 eI b0])]=(Zj s b0).bind (fun(e:Bool)=>some (rB e,[(0,B.blk 22 [dL 1 eI b0])])):=
 fun s b0=>by
  rw[qS qD8 qE6.2.2.2 qGP]
  have:=qEO;have:=@q3v;have:=@Zj.eq_1;exact gA
def JF (a:List Int) (b:List Int):Option Bool:=Option.bind (Zj a b) fun(a2:Bool)=>some a2
theorem q9K:∀(a b:List Int),ev 113 0 [rL 1 eI a,rL 1 eI b] []=(JF a b).bind (fun(e:Bool)=>some (rB e,[])):=
 fun a b=>by
  rw[qS qxz qzk.2.2.2 qI3]
  have:=qEN;have:=@q2z;have:=@JF.eq_1;exact gA
def q3e (a:qa) (b:qa):Option Bool:=if(a.Course.School==b.Course.School)=Bool.true∧(ByteArray.toList a.Course.Code==ByteArray.toList b.Course.Code)=Bool.true then some Bool.false else if 0<a.Bundle then if(a.Bundle==b.Bundle)=Bool.true then Option.bind (Zd a.Path b.Path) fun(a2:Bool)=>if a2=Bool.true then some Bool.true else Option.bind (JF a.Sources b.Sources) fun(a3:Bool)=>some (!a3) else Option.bind (JF a.Sources b.Sources) fun(a4:Bool)=>some (!a4) else Option.bind (JF a.Sources b.Sources) fun(a5:Bool)=>some (!a5)
theorem qcj:∀(Qa:Int) (QE:ByteArray) (JG q27 q8J:Int) (Js:List Int) (q0t:Int) (q3D:List Int) (q4i:Int) (q5W:ByteArray) (qdd qiU qy3:Int) (qde:List Int) (qfA:Int) (qpJ:List Int),ev 69 0 [R.agg [dI Qa,dS QE,dI JG,dI q27,dI q8J,dL 1 eI Js,dI q0t,dL 1 eI q3D],R.agg [dI q4i,dS q5W,dI qdd,dI qiU,dI qy3,dL 1 eI qde,dI qfA,dL 1 eI qpJ]] []=(q3e (qa.mk (qc.mk Qa QE) JG q27 q8J Js q0t q3D) (qa.mk (qc.mk q4i q5W) qdd qiU qy3 qde qfA qpJ)).bind (fun(e:Bool)=>some (rB e,[])):=
 fun Qa QE JG q27 q8J Js q0t q3D q4i q5W qdd qiU qy3 qde qfA qpJ=>by
  rw[qS qG9 qIP.2.2.2 qKi]
  have:=qMI;have:=@q1F;have:=@q9K;have:=@q3e.eq_1;exact gA
theorem qIj:okL 71 qjE:=qW (qk qEz) (by kernel_rfl) (by kernel_rfl)
def qIn:=JA_ @qjE.eq_1 (JA_ @Tryz.f71.eq_1 @qEz)
theorem qAK:lbO 71 3=qm1:=QG (qk qEz) rfl
theorem qBA:okL 71 qm1:=zZ qIj (qOq (i:=0) (by kernel_rfl))
def JB (t6:List qa) (t7:Int):(Int×Int)→Option ((Int×Int)⊕Int)|(n,t8)=>if t8<t7 then if 0≤t8∧t8<((t6.length:Nat):Int) then Option.bind t6[Int.toNat t8]? fun(a:qa)=>some (Sum.inl (w64 (n+a.Credits),w64 (t8+1))) else none else some (Sum.inr n)
theorem q7W:∀(n:Int) (t6:List qa) (t7 t8:Int),XL2 evo 71 0 3 ⟨[(3,rI n),(6,rL 8 qe t6),(7,rI t7),(8,rI t8)],[],0,18⟩=(zy (JB t6 t7) (n,t8)).bind (fun(e:Int)=>some (Exit.exit 0,⟨[(3,rI e)],[],0,18⟩)):=
 fun n t6 t7 t8=>by
  revert t8;revert n;exact qa4 qAK qBA (fun e=>by exact⟨_,rfl,fun h=>by cases h⟩) fun n t8=>by
   have:=qIn;have:=@qm1.eq_1;have:=@JB.eq_1;exact gA
def q1J (l:List qa):Option Int:=Option.bind (zy (JB l ((l.length:Nat):Int)) (0,0)) fun(a:Int)=>some a
theorem qaf:∀(l:List qa),ev 71 0 [rL 8 qe l] []=(q1J l).bind (fun(e:Int)=>some (rI e,[])):=
 fun l=>by
  rw[qS qEz qIr.2.2.2 qIj]
  have:=qIn;have:=@q7W;have:=@q1J.eq_1;exact gA
theorem qGD:okL 39 qfX:=qW (qk qBJ) (by kernel_rfl) (by kernel_rfl)
def qGp:=JA_ @qfX.eq_1 (JA_ @Tryz.f39.eq_1 @qBJ)
theorem qDG:lbO 39 2=qpr:=QG (qk qBJ) rfl
theorem qAJ:okL 39 qpr:=zZ qGD (qOq (i:=0) (by kernel_rfl))
theorem qAf:lbO 39 9=qou:=QG (qk qBJ) rfl
theorem qBC:okL 39 qou:=zZ qGD (qOq (i:=1) (by kernel_rfl))
theorem qFb:okL 72 qg4:=qW (qk qAN) (by kernel_rfl) (by kernel_rfl)
def qH6:=JA_ @qg4.eq_1 (JA_ @Tryz.f72.eq_1 @qAN)
theorem qDy:lbO 72 9=qoX:=QG (qk qAN) rfl
theorem qDp:okL 72 qoX:=zZ qFb (qOq (i:=0) (by kernel_rfl))
theorem qxJ:lbO 72 14=qhE:=QG (qk qAN) rfl
theorem qwA:okL 72 qhE:=zZ qFb (qOq (i:=1) (by kernel_rfl))
theorem qBu:okL 115 qet:=qW (qk qrK) (by kernel_rfl) (by kernel_rfl)
def qBq:=JA_ @qet.eq_1 (JA_ @Tryz.f115.eq_1 @qrK)
theorem qxd:lbO 115 2=qgZ:=QG (qk qrK) rfl
theorem qwK:okL 115 qgZ:=zZ qBu (qOq (i:=0) (by kernel_rfl))
def JA (w1:List Int) (leaf:Int) (set0:Int) (t9:Int):Int→Option (Int⊕(Unit⊕Unit))|t10=>if t10<t9 then if 0≤t10∧t10<((w1.length:Nat):Int) then Option.bind w1[Int.toNat t10]? fun(a:Int)=>if 0≤t10 then if(!((ZR Go.BinOp.and IntKind.i64 (Int.fdiv set0 (2 ^ min (Int.toNat t10) (IntKind.bits IntKind.i64))) 1==1)==(a==leaf)))=Bool.true then some (Sum.inr (Sum.inl ())) else some (Sum.inl (w64 (t10+1))) else none else none else some (Sum.inr (Sum.inr ()))
theorem q7R:∀(w1:List Int) (leaf set0 t9 t10:Int) (QO:Nat),QO=w1.length→XL2 evo 115 1 2 ⟨[(0,rI leaf),(1,rI set0),(8,rO 1 1 QO),(9,rI t9),(10,rI t10)],[(0,B.blk 22 [dO 1 1 QO]),(1,bR 3 1 eI w1)],2,25⟩=(zy (JA w1 leaf set0 t9) t10).bind (Sum.elim (fun(e:Unit)=>some (Exit.ret,⟨[(5,rB Bool.false)],[(0,B.blk 22 [dO 1 1 w1.length]),(1,bR 3 1 eI w1)],2,25⟩)) (fun(e:Unit)=>some (Exit.exit 0,⟨[(5,R.any)],[(0,B.blk 22 [dO 1 1 w1.length]),(1,bR 3 1 eI w1)],2,25⟩))):=
 by
 intro w1 leaf set0 t9 t10 QO h0
 subst h0
 revert t10;exact qbe qxd qwK (fun e=>by rcases e with _|_<;>exact⟨_,rfl,fun h=>by cases h⟩) fun x=>by
  have:=qBq;have:=@qgZ.eq_1;have:=@JA.eq_1;exact gA
def q0E (leaf:Int) (set0:Int) (w1:List Int):Option Bool:=Option.bind (zy (JA w1 leaf set0 ((w1.length:Nat):Int)) 0) fun(a:Sum Unit Unit)=>Sum.elim (fun(a2:Unit)=>some Bool.false) (fun(a3:Unit)=>some Bool.true) a
theorem q5q:∀(leaf set0:Int) (w1:List Int) (QO:Nat),QO=w1.length→ev 115 1 [rI leaf,rI set0,rP 0] [(0,B.blk 22 [dO 1 1 QO]),(1,bR 3 1 eI w1)]=(q0E leaf set0 w1).bind (fun(e:Bool)=>some (rB e,[(0,B.blk 22 [dO 1 1 w1.length]),(1,bR 3 1 eI w1)])):=
 by
 intro leaf set0 w1 QO h0
 subst h0
 rw[qS qrK qyL.2.2.2 qBu]
 have:=qBq;have:=@q7R;have:=@q0E.eq_1;exact gA
theorem qHO:okL 116 qif:=qW (qk qtZ) (by kernel_rfl) (by kernel_rfl)
def qH3:=JA_ @qif.eq_1 (JA_ @Tryz.f116.eq_1 @qtZ)
theorem qI5:okL 117 qiv:=qW (qk qxH) (by kernel_rfl) (by kernel_rfl)
def qGj:=JA_ @qiv.eq_1 (JA_ @Tryz.f117.eq_1 @qxH)
def q1U (x:Int) (v:Int) (v2:Int):Option Bool:=if v≤x then some (decide (x<v2)) else some Bool.false
def JQ (x:Int) (v:Int) (v2:Int):Bool:=if v≤x then decide (x<v2) else Bool.false
theorem q7T (x v v2:Int):q1U x v v2=some (JQ x v v2):=by
 unfold q1U JQ
 simp only[Zm]
theorem q8F:∀(x v v2:Int),ev 117 2 [rI x,rP 0,rP 1] [(0,B.blk 3 [dI v]),(1,B.blk 3 [dI v2])]=some (rB (JQ x v v2),[(0,B.blk 3 [dI v]),(1,B.blk 3 [dI v2])]):=
 fun x v v2=>by
  have h:ev 117 2 [rI x,rP 0,rP 1] [(0,B.blk 3 [dI v]),(1,B.blk 3 [dI v2])]=(q1U x v v2).bind (fun(e:Bool)=>some (rB e,[(0,B.blk 3 [dI v]),(1,B.blk 3 [dI v2])])):=by
   rw[qS qxH qA0.2.2.2 qI5]
   have:=qGj;have:=@q1U.eq_1;exact gA
  rw[q7T] at h
  exact h
def Q6 (b0:Int) (b1:Int) (s:List Int) (t7:Int):Int→Option (Int⊕(Int⊕Unit))|t8=>if t8<t7 then if 0≤t8∧t8<((s.length:Nat):Int) then Option.bind s[Int.toNat t8]? fun(a:Int)=>if JQ a b0 b1=Bool.true then some (Sum.inr (Sum.inl t8)) else some (Sum.inl (w64 (t8+1))) else none else some (Sum.inr (Sum.inr ()))
theorem q2c:∀(b0 b1:Int) (s:List Int) (t7 t8:Int),XL2 evo 131 2 2 ⟨[(0,rL 1 eI s),(1,R.c (C.fn 117 [] [dP 0,dP 1])),(7,rI t7),(8,rI t8)],[(0,B.blk 3 [dI b0]),(1,B.blk 3 [dI b1])],2,19⟩=(zy (Q6 b0 b1 s t7) t8).bind (Sum.elim (fun(e:Int)=>some (Exit.ret,⟨[(4,rI e)],[(0,B.blk 3 [dI b0]),(1,B.blk 3 [dI b1])],2,19⟩)) (fun(e:Unit)=>some (Exit.exit 0,⟨[(4,R.any)],[(0,B.blk 3 [dI b0]),(1,B.blk 3 [dI b1])],2,19⟩))):=
 fun b0 b1 s t7 t8=>by
  revert t8;exact qbe qhq qhf (fun e=>by rcases e with _|_<;>exact⟨_,rfl,fun h=>by cases h⟩) fun x=>by
   have:=ql3;have:=@qcF.eq_1;have:=@q8F;have:=@Q6.eq_1;exact gA
def Zv (s:List Int) (b0:Int) (b1:Int):Option Int:=Option.bind (zy (Q6 b0 b1 s ((s.length:Nat):Int)) 0) fun(a:Sum Int Unit)=>Sum.elim (fun(a2:Int)=>some a2) (fun(a3:Unit)=>some (-1)) a
theorem q2F:∀(s:List Int) (b0 b1:Int),ev 131 2 [rL 1 eI s,R.c (C.fn 117 [] [dP 0,dP 1])] [(0,B.blk 3 [dI b0]),(1,B.blk 3 [dI b1])]=(Zv s b0 b1).bind (fun(e:Int)=>some (rI e,[(0,B.blk 3 [dI b0]),(1,B.blk 3 [dI b1])])):=
 fun s b0 b1=>by
  rw[qS qls qs5.2.2.2 qrp]
  have:=ql3;have:=@q2c;have:=@Zv.eq_1;exact gA
def Z4 (s:List Int) (b0:Int) (b1:Int):Option Bool:=Option.bind (Zv s b0 b1) fun(a:Int)=>some (decide (0≤a))
theorem q2d:∀(s:List Int) (b0 b1:Int),ev 83 2 [rL 1 eI s,R.c (C.fn 117 [] [dP 0,dP 1])] [(0,B.blk 3 [dI b0]),(1,B.blk 3 [dI b1])]=(Z4 s b0 b1).bind (fun(e:Bool)=>some (rB e,[(0,B.blk 3 [dI b0]),(1,B.blk 3 [dI b1])])):=
 fun s b0 b1=>by
  rw[qS qD8 qE6.2.2.2 qGP]
  have:=qEO;have:=@q2F;have:=@Z4.eq_1;exact gA
def q1I (from0:Int) (to:Int) (w1:List Int):Option Bool:=Option.bind (Z4 w1 from0 to) fun(a:Bool)=>some a
theorem qav:∀(from0 to:Int) (w1:List Int) (QO:Nat),QO=w1.length→ev 116 1 [rI from0,rI to,rP 0] [(0,B.blk 22 [dO 1 1 QO]),(1,bR 3 1 eI w1)]=(q1I from0 to w1).bind (fun(e:Bool)=>some (rB e,[(0,B.blk 22 [dO 1 1 w1.length]),(1,bR 3 1 eI w1)])):=
 by
 intro from0 to w1 QO h0
 subst h0
 rw[qS qtZ qB7.2.2.2 qHO]
 have:=qH3;have:=@q2d;have:=@q1I.eq_1;exact gA
def zo (v:q01 qc) (s:List (q01 qc)) (t7:Int):Int→Option (Int⊕(Int⊕Unit))|t8=>if t8<t7 then if 0≤t8∧t8<((s.length:Nat):Int) then Option.bind s[Int.toNat t8]? fun(a:@q01 qc)=>if((v.a0.School==a.a0.School)=Bool.true∧(ByteArray.toList v.a0.Code==ByteArray.toList a.a0.Code)=Bool.true)∧(v.a1.School==a.a1.School)=Bool.true∧(ByteArray.toList v.a1.Code==ByteArray.toList a.a1.Code)=Bool.true then some (Sum.inr (Sum.inl t8)) else some (Sum.inl (w64 (t8+1))) else none else some (Sum.inr (Sum.inr ()))
theorem q04:∀(q0f:Int) (q2r:ByteArray) (q0g:Int) (q2s:ByteArray) (s:List (q01 qc)) (t7 t8:Int),XL2 evo 114 0 2 ⟨[(0,rL 4 (eA2 qd) s),(3,rP 0),(7,rI t7),(8,rI t8)],[(0,B.blk 70 [dI q0f,dS q2r,dI q0g,dS q2s])],1,19⟩=(zy (zo (q01.mk (qc.mk q0f q2r) (qc.mk q0g q2s)) s t7) t8).bind (Sum.elim (fun(e:Int)=>some (Exit.ret,⟨[(4,rI e)],[],0,19⟩)) (fun(e:Unit)=>some (Exit.exit 0,⟨[(4,R.any)],[],0,19⟩))):=
 fun q0f q2r q0g q2s s t7 t8=>by
  revert t8;exact qbe qu7 qvh (fun e=>by rcases e with _|_<;>exact⟨_,rfl,fun h=>by cases h⟩) fun x=>by
   have:=qCm;have:=@qhR.eq_1;have:=@zo.eq_1;exact gA
def Qh (s:List (q01 qc)) (v:q01 qc):Option Int:=Option.bind (zy (zo v s ((s.length:Nat):Int)) 0) fun(a:Sum Int Unit)=>Sum.elim (fun(a2:Int)=>some a2) (fun(a3:Unit)=>some (-1)) a
theorem q0p:∀(s:List (q01 qc)) (q0f:Int) (q2r:ByteArray) (q0g:Int) (q2s:ByteArray),ev 114 0 [rL 4 (eA2 qd) s,R.agg [dI q0f,dS q2r,dI q0g,dS q2s]] []=(Qh s (q01.mk (qc.mk q0f q2r) (qc.mk q0g q2s))).bind (fun(e:Int)=>some (rI e,[])):=
 fun s q0f q2r q0g q2s=>by
  rw[qS qrB qAz.2.2.2 qC9]
  have:=qCm;have:=@q04;have:=@Qh.eq_1;exact gA
def z6 (s:List (q01 qc)) (v:q01 qc):Option Bool:=Option.bind (Qh s v) fun(a:Int)=>some (decide (0≤a))
theorem Zn:∀(s:List (q01 qc)) (q0f:Int) (q2r:ByteArray) (q0g:Int) (q2s:ByteArray),ev 70 0 [rL 4 (eA2 qd) s,R.agg [dI q0f,dS q2r,dI q0g,dS q2s]] []=(z6 s (q01.mk (qc.mk q0f q2r) (qc.mk q0g q2s))).bind (fun(e:Bool)=>some (rB e,[])):=
 fun s q0f q2r q0g q2s=>by
  rw[qS qFw qJO.2.2.2 qLe]
  have:=qKA;have:=@q0p;have:=@z6.eq_1;exact gA
def QT (b0:qf) (t62:List (q01 qc)) (t63:Int):Int→Option (Int⊕(Int⊕Unit))|t64=>if t64<t63 then if 0≤t64∧t64<((t62.length:Nat):Int) then Option.bind t62[Int.toNat t64]? fun(a:@q01 qc)=>Option.bind (q11 a.a0) fun(a2:Bool)=>if(!a2)=Bool.true then some (Sum.inr (Sum.inl 1)) else Option.bind (q11 a.a1) fun(a3:Bool)=>if(!a3)=Bool.true then some (Sum.inr (Sum.inl 1)) else Option.bind (q0F a.a0 a.a1) fun(a4:Int)=>if 0≤a4 then some (Sum.inr (Sum.inl 7)) else if 0≤t64∧t64≤((b0.Exclude.length:Nat):Int) then Option.bind (z6 (List.take (Int.toNat t64-0) b0.Exclude) a) fun(a5:Bool)=>if a5=Bool.true then some (Sum.inr (Sum.inl 6)) else some (Sum.inl (w64 (t64+1))) else none else none else some (Sum.inr (Sum.inr ()))
theorem q6j:∀(qq zG qn qA:Int) (qB:ByteArray) (qj qr ql:Int) (qm:List qc) (qu:List qb) (qw qP qQ:Int) (qo t62:List (q01 qc)) (t63 t64:Int),XL2 evo 56 0 13 ⟨[(1,rP 0),(62,rL 4 (eA2 qd) t62),(63,rI t63),(64,rI t64)],[(0,B.blk 39 [dI qq,dI zG,dI qn,dI qA,dS qB,dI qj,dI qr,dI ql,dL 2 qd qm,dL 5 qh qu,dI qw,dI qP,dI qQ,dL 4 (eA2 qd) qo])],1,95⟩=(zy (QT (qf.mk qq zG qn qA qB (qb.mk qj qr ql qm qu) qw qP qQ qo) t62 t63) t64).bind (Sum.elim (fun(e:Int)=>some (Exit.ret,⟨[(2,rI e)],[],0,95⟩)) (fun(e:Unit)=>some (Exit.exit 1,⟨[(2,R.any)],[],0,95⟩))):=
 fun qq zG qn qA qB qj qr ql qm qu qw qP qQ qo t62 t63 t64=>by
  revert t64;exact qbe qw7 qvT (fun e=>by rcases e with _|_<;>exact⟨_,rfl,fun h=>by cases h⟩) fun x=>by
   have:=qIE;have:=@qhI.eq_1;have:=@q7g;have:=@q5n;have:=@Zn;have:=@QT.eq_1;exact gA
def q08 (x0:qf):Option Int:=if(!(zx x0.School 1 8))=Bool.true then some 1 else if(!(zx x0.Id 1 999999))=Bool.true then some 3 else if(!(zx x0.Version 1 20))=Bool.true then some 3 else if(!(zx x0.From 0 100000))=Bool.true then some 3 else if(!(zx x0.Total 0 600))=Bool.true then some 3 else if(!(zx x0.Own 0 600))=Bool.true then some 3 else if(!(zx x0.Age 0 100))=Bool.true then some 3 else Option.bind (q1f x0.Name) fun(a:Bool)=>if(!a)=Bool.true then some 1 else Option.bind (Jz x0.Need) fun(a2:Int)=>if(a2 != 0)=Bool.true then some a2 else if 8<((x0.Exclude.length:Nat):Int) then some 2 else Option.bind (zy (QT x0 x0.Exclude ((x0.Exclude.length:Nat):Int)) 0) fun(a3:Sum Int Unit)=>Sum.elim (fun(e0:Int)=>some e0) (fun(a4:Unit)=>some 0) a3
theorem q9m:∀(zL q0I zu QK:Int) (QL:ByteArray) (qU zM za:Int) (zb:List qc) (zN:List qb) (Qd ZS ZT:Int) (zw:List (q01 qc)),ev 56 0 [R.agg [dI zL,dI q0I,dI zu,dI QK,dS QL,dI qU,dI zM,dI za,dL 2 qd zb,dL 5 qh zN,dI Qd,dI ZS,dI ZT,dL 4 (eA2 qd) zw]] []=(q08 (qf.mk zL q0I zu QK QL (qb.mk qU zM za zb zN) Qd ZS ZT zw)).bind (fun(e:Int)=>some (rI e,[])):=
 fun zL q0I zu QK QL qU zM za zb zN Qd ZS ZT zw=>by
  rw[qS qEf qJ8.2.2.2 qJa]
  have:=qIE;have:=@Je;have:=@qcw;have:=@q43;have:=@q6j;have:=@q08.eq_1;exact gA
def Qe (p:qf) (s:qg):Option Int:=Option.bind (q08 p) fun(a:Int)=>if(a != 0)=Bool.true then some a else Option.bind (q1s s) fun(e0:Int)=>some e0
theorem q5s:∀(qC JH qy zf:Int) (zg:ByteArray) (qp qD qt:Int) (qx:List qc) (qF:List qb) (qJ Qb Qc:Int) (qH:List (q01 qc)) (zm zX zY:Int),ev 33 0 [R.agg [dI qC,dI JH,dI qy,dI zf,dS zg,dI qp,dI qD,dI qt,dL 2 qd qx,dL 5 qh qF,dI qJ,dI Qb,dI Qc,dL 4 (eA2 qd) qH],R.agg [dI zm,dI zX,dI zY]] []=(Qe (qf.mk qC JH qy zf zg (qb.mk qp qD qt qx qF) qJ Qb Qc qH) (qg.mk zm zX zY)).bind (fun(e:Int)=>some (rI e,[])):=
 fun qC JH qy zf zg qp qD qt qx qF qJ Qb Qc qH zm zX zY=>by
  rw[qS qHQ qJ3.2.2.2 qLR]
  have:=qMN;have:=@q9m;have:=@q68;have:=@Qe.eq_1;exact gA
end
noncomputable section
open Go.RowKit
set_option maxRecDepth 20000
set_option maxHeartbeats 8000000
def ZK (b0:qf) (b1:qa) (t1:List qa) (t2:Int) (t7:Int) (t12:List qa) (t13:Int) (t14:Int) (t25:List qa) (t26:Int):Int→Option (Int⊕(Unit⊕Unit))|t27=>if t27<t26 then if 0≤t27∧t27<((t25.length:Nat):Int) then Option.bind t25[Int.toNat t27]? fun(a:qa)=>Option.bind (q3e b1 a) fun(a2:Bool)=>if(!a2)=Bool.true then some (Sum.inr (Sum.inl ())) else Option.bind (z6 b0.Exclude (q01.mk b1.Course a.Course)) fun(a3:Bool)=>if a3=Bool.true then some (Sum.inr (Sum.inl ())) else Option.bind (z6 b0.Exclude (q01.mk a.Course b1.Course)) fun(a4:Bool)=>if a4=Bool.true then some (Sum.inr (Sum.inl ())) else some (Sum.inl (w64 (t27+1))) else none else some (Sum.inr (Sum.inr ()))
theorem q5S:∀(qq zG qn qA:Int) (qB:ByteArray) (qj qr ql:Int) (qm:List qc) (qu:List qb) (qw qP qQ:Int) (qo:List (q01 qc)) (q0A:Int) (q1M:ByteArray) (q5u q9V qgM:Int) (q5v:List Int) (q7q:Int) (qdf:List Int) (t1:List qa) (t2 t7:Int) (t12:List qa) (t13 t14:Int) (t25:List qa) (t26 t27:Int),XL2 evo 38 0 8 ⟨[(1,rL 8 qe t1),(2,rI t2),(3,rP 0),(7,rI t7),(9,rP 1),(12,rL 8 qe t12),(13,rI t13),(14,rI t14),(25,rL 8 qe t25),(26,rI t26),(27,rI t27)],[(0,B.blk 39 [dI qq,dI zG,dI qn,dI qA,dS qB,dI qj,dI qr,dI ql,dL 2 qd qm,dL 5 qh qu,dI qw,dI qP,dI qQ,dL 4 (eA2 qd) qo]),(1,B.blk 57 [dI q0A,dS q1M,dI q5u,dI q9V,dI qgM,dL 1 eI q5v,dI q7q,dL 1 eI qdf])],2,83⟩=(zy (ZK (qf.mk qq zG qn qA qB (qb.mk qj qr ql qm qu) qw qP qQ qo) (qa.mk (qc.mk q0A q1M) q5u q9V qgM q5v q7q qdf) t1 t2 t7 t12 t13 t14 t25 t26) t27).bind (Sum.elim (fun(e:Unit)=>some (Exit.ret,⟨[(1,rL 8 qe t1),(2,rI t2),(3,rP 0),(6,rB Bool.false),(7,rI t7),(9,rP 1),(12,rL 8 qe t12),(13,rI t13),(14,rI t14)],[(0,B.blk 39 [dI qq,dI zG,dI qn,dI qA,dS qB,dI qj,dI qr,dI ql,dL 2 qd qm,dL 5 qh qu,dI qw,dI qP,dI qQ,dL 4 (eA2 qd) qo]),(1,B.blk 57 [dI q0A,dS q1M,dI q5u,dI q9V,dI qgM,dL 1 eI q5v,dI q7q,dL 1 eI qdf])],2,83⟩)) (fun(e:Unit)=>some (Exit.exit 2,⟨[(1,rL 8 qe t1),(2,rI t2),(3,rP 0),(6,R.any),(7,rI t7),(9,rP 1),(12,rL 8 qe t12),(13,rI t13),(14,rI t14)],[(0,B.blk 39 [dI qq,dI zG,dI qn,dI qA,dS qB,dI qj,dI qr,dI ql,dL 2 qd qm,dL 5 qh qu,dI qw,dI qP,dI qQ,dL 4 (eA2 qd) qo]),(1,B.blk 57 [dI q0A,dS q1M,dI q5u,dI q9V,dI qgM,dL 1 eI q5v,dI q7q,dL 1 eI qdf])],2,83⟩))):=
 fun qq zG qn qA qB qj qr ql qm qu qw qP qQ qo q0A q1M q5u q9V qgM q5v q7q qdf t1 t2 t7 t12 t13 t14 t25 t26 t27=>by
  revert t27;exact qbe qCP qCo (fun e=>by rcases e with _|_<;>exact⟨_,rfl,fun h=>by cases h⟩) fun x=>by
   have:=qFU;have:=@qpa.eq_1;have:=@qcj;have:=@Zn;have:=@ZK.eq_1;exact gA
def Z8 (b0:qf) (t1:List qa) (t2:Int) (t12:List qa) (t13:Int):(Int×Int)→Option ((Int×Int)⊕(Int⊕Int))|(t7,t14)=>if t14<t13 then if 0≤t14∧t14<((t12.length:Nat):Int) then Option.bind t12[Int.toNat t14]? fun(a:qa)=>Option.bind (Za b0 a t2) fun(a2:Bool)=>if a2=Bool.true then some (Sum.inr (Sum.inl t7)) else if 0≤t14∧t14≤((t1.length:Nat):Int) then Option.bind (zy (ZK b0 a t1 t2 t7 t12 t13 t14 (List.take (Int.toNat t14-0) t1) (((List.take (Int.toNat t14-0) t1).length:Nat):Int)) 0) fun(a3:Sum Unit Unit)=>Sum.elim (fun(a4:Unit)=>some (Sum.inr (Sum.inl t7))) (fun(a5:Unit)=>if(a.Course.School==b0.School)=Bool.true then if(a.Bundle==0)=Bool.true then some (Sum.inl (w64 (t7+a.Credits),w64 (t14+1))) else some (Sum.inl (t7,w64 (t14+1))) else some (Sum.inl (t7,w64 (t14+1)))) a3 else none else none else some (Sum.inr (Sum.inr t7))
theorem q5H:∀(qq zG qn qA:Int) (qB:ByteArray) (qj qr ql:Int) (qm:List qc) (qu:List qb) (qw qP qQ:Int) (qo:List (q01 qc)) (t1:List qa) (t2 t7:Int) (t12:List qa) (t13 t14:Int),XL2 evo 38 0 3 ⟨[(1,rL 8 qe t1),(2,rI t2),(3,rP 0),(7,rI t7),(12,rL 8 qe t12),(13,rI t13),(14,rI t14)],[(0,B.blk 39 [dI qq,dI zG,dI qn,dI qA,dS qB,dI qj,dI qr,dI ql,dL 2 qd qm,dL 5 qh qu,dI qw,dI qP,dI qQ,dL 4 (eA2 qd) qo])],1,83⟩=(zy (Z8 (qf.mk qq zG qn qA qB (qb.mk qj qr ql qm qu) qw qP qQ qo) t1 t2 t12 t13) (t7,t14)).bind (Sum.elim (fun(e:Int)=>some (Exit.ret,⟨[(1,rL 8 qe t1),(3,rP 0),(6,rB Bool.false),(7,rI e)],[(0,B.blk 39 [dI qq,dI zG,dI qn,dI qA,dS qB,dI qj,dI qr,dI ql,dL 2 qd qm,dL 5 qh qu,dI qw,dI qP,dI qQ,dL 4 (eA2 qd) qo])],1,83⟩)) (fun(e:Int)=>some (Exit.exit 0,⟨[(1,rL 8 qe t1),(3,rP 0),(6,R.any),(7,rI e)],[(0,B.blk 39 [dI qq,dI zG,dI qn,dI qA,dS qB,dI qj,dI qr,dI ql,dL 2 qd qm,dL 5 qh qu,dI qw,dI qP,dI qQ,dL 4 (eA2 qd) qo])],1,83⟩))):=
 fun qq zG qn qA qB qj qr ql qm qu qw qP qQ qo t1 t2 t7 t12 t13 t14=>by
  revert t14;revert t7;exact qa4 qyp qD1 (fun e=>by rcases e with _|_<;>exact⟨_,rfl,fun h=>by cases h⟩) fun t7 t14=>by
   have:=qFU;have:=@qmP.eq_1;have:=@q47;have:=@q5S;have:=@Z8.eq_1;exact gA
def JC (x0:qf) (x1:List qa) (x2:Int):Option Bool:=Option.bind (zy (Z8 x0 x1 x2 x1 ((x1.length:Nat):Int)) (0,0)) fun(a:Sum Int Int)=>Sum.elim (fun(a2:Int)=>some Bool.false) (fun(a3:Int)=>Option.bind (q1J x1) fun(a4:Int)=>if x0.Total≤a4 then some (decide (x0.Own≤a3)) else some Bool.false) a
theorem q3C:∀(zL q0I zu QK:Int) (QL:ByteArray) (qU zM za:Int) (zb:List qc) (zN:List qb) (Qd ZS ZT:Int) (zw:List (q01 qc)) (x1:List qa) (x2:Int),ev 38 0 [R.agg [dI zL,dI q0I,dI zu,dI QK,dS QL,dI qU,dI zM,dI za,dL 2 qd zb,dL 5 qh zN,dI Qd,dI ZS,dI ZT,dL 4 (eA2 qd) zw],rL 8 qe x1,rI x2] []=(JC (qf.mk zL q0I zu QK QL (qb.mk qU zM za zb zN) Qd ZS ZT zw) x1 x2).bind (fun(e:Bool)=>some (rB e,[])):=
 fun zL q0I zu QK QL qU zM za zb zN Qd ZS ZT zw x1 x2=>by
  rw[qS qDk qJ5.2.2.2 qEK]
  have:=qFU;have:=@q5H;have:=@qaf;have:=@JC.eq_1;exact gA
def zd (x:(qb×List Int×List qa×Int×qg)):List R×List (Nat×B):=([R.agg [C.d (D.int .i64 x.1.Kind),C.d (D.int .i64 x.1.N),C.d (D.int .i64 x.1.Min),C.d (D.sl 2 x.1.Set.length (x.1.Set.flatMap qd)),C.d (D.sl 5 x.1.L.length (x.1.L.flatMap qh))],R.c (C.ptr 0 0),R.c (C.ptr 1 0),R.c (C.ptr 3 0),R.c (C.ptr 4 0),R.c (C.ptr 5 0),R.c (C.ptr 6 0)],[(0,B.blk 26 [C.d (D.sl 8 x.2.2.1.length (x.2.2.1.flatMap qe))]),(1,B.blk 114 [C.fn 115 [] [C.ptr 2 0]]),(2,B.blk 22 [C.own 7 1 0 x.2.1.length]),(3,B.blk 3 [C.d (D.int .i64 x.2.2.2.1)]),(4,B.blk 28 [C.d (D.int .i64 x.2.2.2.2.Worst),C.d (D.int .i64 x.2.2.2.2.Best),C.d (D.int .i64 x.2.2.2.2.Pass)]),(5,B.blk 163 [C.fn 104 [] [C.ptr 0 0,C.ptr 1 0,C.ptr 3 0,C.ptr 4 0,C.ptr 5 0,C.ptr 6 0]]),(6,B.blk 114 [C.fn 116 [] [C.ptr 2 0]]),(7,B.row 3 1 ((x.2.1.flatMap eI).map C.d))])
def Q8:(List Bool×List Int×List qa×Int×qg)→R×List (Nat×B):=fun(e:List Bool×List Int×List qa×Int×qg)=>(R.c (C.d (D.sl 1 e.1.length (e.1.flatMap eB))),[(0,B.blk 26 [C.d (D.sl 8 e.2.2.1.length (e.2.2.1.flatMap qe))]),(1,B.blk 114 [C.fn 115 [] [C.ptr 2 0]]),(2,B.blk 22 [C.own 7 1 0 e.2.1.length]),(3,B.blk 3 [C.d (D.int .i64 e.2.2.2.1)]),(4,B.blk 28 [C.d (D.int .i64 e.2.2.2.2.Worst),C.d (D.int .i64 e.2.2.2.2.Best),C.d (D.int .i64 e.2.2.2.2.Pass)]),(5,B.blk 163 [C.fn 104 [] [C.ptr 0 0,C.ptr 1 0,C.ptr 3 0,C.ptr 4 0,C.ptr 5 0,C.ptr 6 0]]),(6,B.blk 114 [C.fn 116 [] [C.ptr 2 0]]),(7,B.row 3 1 ((e.2.1.flatMap eI).map C.d))])
def ZJ (rF:(qb×List Int×List qa×Int×qg)→Option (List Bool×List Int×List qa×Int×qg)) (w7:List Int) (b0:List qa) (b3:Int) (b4:qg) (b8:qb):(List Bool×Int)→Option ((List Bool×Int)⊕(List Bool))|(w9,b10)=>if b10<((w9.length:Nat):Int) then Option.bind (q0E b3 b10 w7) fun(a2:Bool)=>if a2=Bool.true then Option.bind (q0Y b8 b4 b0 b10) fun(a3:qK)=>if 0≤b10∧b10<((w9.length:Nat):Int) then if Int.toNat b10+1≤w9.length then some (Sum.inl (List.set w9 (Int.toNat b10) (Q0 a3 b8),w64 (b10+1))) else none else none else if 0≤b10∧b10<((w9.length:Nat):Int) then if Int.toNat b10+1≤w9.length then some (Sum.inl (List.set w9 (Int.toNat b10) Bool.false,w64 (b10+1))) else none else none else some (Sum.inr w9)
theorem q5B (rE:Orc) (rF:(qb×List Int×List qa×Int×qg)→Option (List Bool×List Int×List qa×Int×qg)) (hF:∀y,rE (.fn 104) 7 (zd y).1 (zd y).2=(rF y).bind fun e=>some (Q8 e)) (hM:∀g k a G,g≠104→rE (.fn g) k a G=ev g k a G) (hR:∀g asg bd k a G,rE (.rd g asg bd) k a G=evr g asg bd k a G):∀(w7:List Int) (w9:List Bool) (b0:List qa) (b3 QQ ZF ZG Jp qbA q0B:Int) (q0C:List qc) (qbB:List qb) (b10:Int) (JI zK:Nat),JI=w9.length→zK=w7.length→XL2 rE 104 7 5 ⟨[(1,rP 0),(2,rP 1),(3,rP 3),(4,rP 4),(7,rP 8),(9,rO 9 1 JI),(10,R.c (C.fn 133 [] [])),(11,rP 10)],[(0,B.blk 26 [dL 8 qe b0]),(1,B.blk 114 [C.fn 115 [] [dP 2]]),(2,B.blk 22 [dO 7 1 zK]),(3,B.blk 3 [dI b3]),(4,B.blk 28 [dI QQ,dI ZF,dI ZG]),(5,B.blk 163 [C.fn 104 [] [dP 0,dP 1,dP 3,dP 4,dP 5,dP 6]]),(6,B.blk 114 [C.fn 116 [] [dP 2]]),(7,bR 3 1 eI w7),(8,B.blk 36 [dI Jp,dI qbA,dI q0B,dL 2 qd q0C,dL 5 qh qbB]),(9,bR 4 1 eB w9),(10,B.blk 3 [dI b10])],11,142⟩=(zy (ZJ rF w7 b0 b3 (qg.mk QQ ZF ZG) (qb.mk Jp qbA q0B q0C qbB)) (w9,b10)).bind (fun(e:List Bool)=>some (Exit.exit 0,⟨[(3,rP 3),(9,rO 8 1 e.length)],[(0,B.blk 26 [dL 8 qe b0]),(1,B.blk 114 [C.fn 115 [] [dP 2]]),(2,B.blk 22 [dO 7 1 w7.length]),(3,B.blk 3 [dI b3]),(4,B.blk 28 [dI QQ,dI ZF,dI ZG]),(5,B.blk 163 [C.fn 104 [] [dP 0,dP 1,dP 3,dP 4,dP 5,dP 6]]),(6,B.blk 114 [C.fn 116 [] [dP 2]]),(7,bR 3 1 eI w7),(8,bR 4 1 eB e)],9,142⟩)):=
 by
 intro w7 w9 b0 b3 QQ ZF ZG Jp qbA q0B q0C qbB b10 JI zK h0 h1
 subst h0 h1
 revert b10;revert w9;exact qa4 qf0 qfx (fun e=>by exact⟨_,rfl,fun h=>by cases h⟩) fun w9 b10=>by
  have hF':∀(qE J8 qY:Int) (qZ:List qc) (J9:List qb) (w7:List Int) (v:List qa) (v2 qG z7 z8:Int) (zK:Nat),zK=w7.length→rE (.fn 104) 7 [R.agg [dI qE,dI J8,dI qY,dL 2 qd qZ,dL 5 qh J9],rP 0,rP 1,rP 3,rP 4,rP 5,rP 6] [(0,B.blk 26 [dL 8 qe v]),(1,B.blk 114 [C.fn 115 [] [dP 2]]),(2,B.blk 22 [dO 7 1 zK]),(3,B.blk 3 [dI v2]),(4,B.blk 28 [dI qG,dI z7,dI z8]),(5,B.blk 163 [C.fn 104 [] [dP 0,dP 1,dP 3,dP 4,dP 5,dP 6]]),(6,B.blk 114 [C.fn 116 [] [dP 2]]),(7,bR 3 1 eI w7)]=(rF ((qb.mk qE J8 qY qZ J9),w7,v,v2,(qg.mk qG z7 z8))).bind (fun e=>some (rL 1 eB e.1,[(0,B.blk 26 [dL 8 qe e.2.2.1]),(1,B.blk 114 [C.fn 115 [] [dP 2]]),(2,B.blk 22 [dO 7 1 e.2.1.length]),(3,B.blk 3 [dI e.2.2.2.1]),(4,B.blk 28 [dI e.2.2.2.2.Worst,dI e.2.2.2.2.Best,dI e.2.2.2.2.Pass]),(5,B.blk 163 [C.fn 104 [] [dP 0,dP 1,dP 3,dP 4,dP 5,dP 6]]),(6,B.blk 114 [C.fn 116 [] [dP 2]]),(7,bR 3 1 eI e.2.1)])):=by intro qE J8 qY qZ J9 w7 v v2 qG z7 z8 zK h0;subst h0;exact hF ((qb.mk qE J8 qY qZ J9),w7,v,v2,(qg.mk qG z7 z8))
  have:=q8V;have:=@qaQ.eq_1;have:=@q5q;have:=@q31;have:=@q1y;have:=@ZJ.eq_1;exact gA
def ZI (rF:(qb×List Int×List qa×Int×qg)→Option (List Bool×List Int×List qa×Int×qg)) (w7:List Int) (b0:List qa) (b3:Int) (b4:qg) (b8:qb):(List Bool×Int)→Option ((List Bool×Int)⊕(List Bool))|(w9,b10)=>if b10<((w9.length:Nat):Int) then Option.bind (q0E b3 b10 w7) fun(a2:Bool)=>if a2=Bool.true then Option.bind (q0Y b8 b4 b0 b10) fun(a3:qK)=>if 0≤b10∧b10<((w9.length:Nat):Int) then if Int.toNat b10+1≤w9.length then some (Sum.inl (List.set w9 (Int.toNat b10) (Qv a3 b8),w64 (b10+1))) else none else none else if 0≤b10∧b10<((w9.length:Nat):Int) then if Int.toNat b10+1≤w9.length then some (Sum.inl (List.set w9 (Int.toNat b10) Bool.false,w64 (b10+1))) else none else none else some (Sum.inr w9)
theorem q5U (rE:Orc) (rF:(qb×List Int×List qa×Int×qg)→Option (List Bool×List Int×List qa×Int×qg)) (hF:∀y,rE (.fn 104) 7 (zd y).1 (zd y).2=(rF y).bind fun e=>some (Q8 e)) (hM:∀g k a G,g≠104→rE (.fn g) k a G=ev g k a G) (hR:∀g asg bd k a G,rE (.rd g asg bd) k a G=evr g asg bd k a G):∀(w7:List Int) (w9:List Bool) (b0:List qa) (b3 QQ ZF ZG Jp qbA q0B:Int) (q0C:List qc) (qbB:List qb) (b10:Int) (JI zK:Nat),JI=w9.length→zK=w7.length→XL2 rE 104 7 5 ⟨[(1,rP 0),(2,rP 1),(3,rP 3),(4,rP 4),(7,rP 8),(9,rO 9 1 JI),(10,R.c (C.fn 134 [] [])),(11,rP 10)],[(0,B.blk 26 [dL 8 qe b0]),(1,B.blk 114 [C.fn 115 [] [dP 2]]),(2,B.blk 22 [dO 7 1 zK]),(3,B.blk 3 [dI b3]),(4,B.blk 28 [dI QQ,dI ZF,dI ZG]),(5,B.blk 163 [C.fn 104 [] [dP 0,dP 1,dP 3,dP 4,dP 5,dP 6]]),(6,B.blk 114 [C.fn 116 [] [dP 2]]),(7,bR 3 1 eI w7),(8,B.blk 36 [dI Jp,dI qbA,dI q0B,dL 2 qd q0C,dL 5 qh qbB]),(9,bR 4 1 eB w9),(10,B.blk 3 [dI b10])],11,142⟩=(zy (ZI rF w7 b0 b3 (qg.mk QQ ZF ZG) (qb.mk Jp qbA q0B q0C qbB)) (w9,b10)).bind (fun(e:List Bool)=>some (Exit.exit 0,⟨[(3,rP 3),(9,rO 8 1 e.length)],[(0,B.blk 26 [dL 8 qe b0]),(1,B.blk 114 [C.fn 115 [] [dP 2]]),(2,B.blk 22 [dO 7 1 w7.length]),(3,B.blk 3 [dI b3]),(4,B.blk 28 [dI QQ,dI ZF,dI ZG]),(5,B.blk 163 [C.fn 104 [] [dP 0,dP 1,dP 3,dP 4,dP 5,dP 6]]),(6,B.blk 114 [C.fn 116 [] [dP 2]]),(7,bR 3 1 eI w7),(8,bR 4 1 eB e)],9,142⟩)):=
 by
 intro w7 w9 b0 b3 QQ ZF ZG Jp qbA q0B q0C qbB b10 JI zK h0 h1
 subst h0 h1
 revert b10;revert w9;exact qa4 qf0 qfx (fun e=>by exact⟨_,rfl,fun h=>by cases h⟩) fun w9 b10=>by
  have hF':∀(qE J8 qY:Int) (qZ:List qc) (J9:List qb) (w7:List Int) (v:List qa) (v2 qG z7 z8:Int) (zK:Nat),zK=w7.length→rE (.fn 104) 7 [R.agg [dI qE,dI J8,dI qY,dL 2 qd qZ,dL 5 qh J9],rP 0,rP 1,rP 3,rP 4,rP 5,rP 6] [(0,B.blk 26 [dL 8 qe v]),(1,B.blk 114 [C.fn 115 [] [dP 2]]),(2,B.blk 22 [dO 7 1 zK]),(3,B.blk 3 [dI v2]),(4,B.blk 28 [dI qG,dI z7,dI z8]),(5,B.blk 163 [C.fn 104 [] [dP 0,dP 1,dP 3,dP 4,dP 5,dP 6]]),(6,B.blk 114 [C.fn 116 [] [dP 2]]),(7,bR 3 1 eI w7)]=(rF ((qb.mk qE J8 qY qZ J9),w7,v,v2,(qg.mk qG z7 z8))).bind (fun e=>some (rL 1 eB e.1,[(0,B.blk 26 [dL 8 qe e.2.2.1]),(1,B.blk 114 [C.fn 115 [] [dP 2]]),(2,B.blk 22 [dO 7 1 e.2.1.length]),(3,B.blk 3 [dI e.2.2.2.1]),(4,B.blk 28 [dI e.2.2.2.2.Worst,dI e.2.2.2.2.Best,dI e.2.2.2.2.Pass]),(5,B.blk 163 [C.fn 104 [] [dP 0,dP 1,dP 3,dP 4,dP 5,dP 6]]),(6,B.blk 114 [C.fn 116 [] [dP 2]]),(7,bR 3 1 eI e.2.1)])):=by intro qE J8 qY qZ J9 w7 v v2 qG z7 z8 zK h0;subst h0;exact hF ((qb.mk qE J8 qY qZ J9),w7,v,v2,(qg.mk qG z7 z8))
  have:=q8V;have:=@qaQ.eq_1;have:=@q5q;have:=@q31;have:=@q2Q;have:=@ZI.eq_1;exact gA
def QX (rF:(qb×List Int×List qa×Int×qg)→Option (List Bool×List Int×List qa×Int×qg)) (w7:List Int) (w9:List Bool) (b0:List qa) (b3:Int) (b4:qg) (b8:qb):(List Int×Int)→Option ((List Int×Int)⊕(List Int))|(w11,t13)=>if t13<((w11.length:Nat):Int) then if 0≤t13∧t13<((w11.length:Nat):Int) then if Int.toNat t13+1≤w11.length then some (Sum.inl (List.set w11 (Int.toNat t13) (-1),w64 (t13+1))) else none else none else some (Sum.inr w11)
theorem q53 (rE:Orc) (rF:(qb×List Int×List qa×Int×qg)→Option (List Bool×List Int×List qa×Int×qg)) (hF:∀y,rE (.fn 104) 7 (zd y).1 (zd y).2=(rF y).bind fun e=>some (Q8 e)) (hM:∀g k a G,g≠104→rE (.fn g) k a G=ev g k a G) (hR:∀g asg bd k a G,rE (.rd g asg bd) k a G=evr g asg bd k a G):∀(w7:List Int) (w9:List Bool) (w11:List Int) (b0:List qa) (b3 QQ ZF ZG Jp qbA q0B:Int) (q0C:List qc) (qbB:List qb) (t13:Int) (JI zK q4j:Nat),JI=w9.length→zK=w7.length→q4j=w11.length→XL2 rE 104 7 14 ⟨[(3,rP 3),(5,rP 5),(6,rP 6),(7,rP 8),(9,rO 9 1 JI),(12,rP 10),(13,rI t13)],[(0,B.blk 26 [dL 8 qe b0]),(1,B.blk 114 [C.fn 115 [] [dP 2]]),(2,B.blk 22 [dO 7 1 zK]),(3,B.blk 3 [dI b3]),(4,B.blk 28 [dI QQ,dI ZF,dI ZG]),(5,B.blk 163 [C.fn 104 [] [dP 0,dP 1,dP 3,dP 4,dP 5,dP 6]]),(6,B.blk 114 [C.fn 116 [] [dP 2]]),(7,bR 3 1 eI w7),(8,B.blk 36 [dI Jp,dI qbA,dI q0B,dL 2 qd q0C,dL 5 qh qbB]),(9,bR 4 1 eB w9),(10,B.blk 164 [dO 11 1 q4j]),(11,bR 3 1 eI w11)],12,142⟩=(zy (QX rF w7 w9 b0 b3 (qg.mk QQ ZF ZG) (qb.mk Jp qbA q0B q0C qbB)) (w11,t13)).bind (fun(e:List Int)=>some (Exit.exit 2,⟨[(3,rP 3),(5,rP 5),(6,rP 6),(7,rP 8),(9,rO 9 1 w9.length),(12,rP 10)],[(0,B.blk 26 [dL 8 qe b0]),(1,B.blk 114 [C.fn 115 [] [dP 2]]),(2,B.blk 22 [dO 7 1 w7.length]),(3,B.blk 3 [dI b3]),(4,B.blk 28 [dI QQ,dI ZF,dI ZG]),(5,B.blk 163 [C.fn 104 [] [dP 0,dP 1,dP 3,dP 4,dP 5,dP 6]]),(6,B.blk 114 [C.fn 116 [] [dP 2]]),(7,bR 3 1 eI w7),(8,B.blk 36 [dI Jp,dI qbA,dI q0B,dL 2 qd q0C,dL 5 qh qbB]),(9,bR 4 1 eB w9),(10,B.blk 164 [dO 11 1 e.length]),(11,bR 3 1 eI e)],12,142⟩)):=
 by
 intro w7 w9 w11 b0 b3 QQ ZF ZG Jp qbA q0B q0C qbB t13 JI zK q4j h0 h1 h2
 subst h0 h1 h2
 revert t13;revert w11;exact qa4 qj2 qjl (fun e=>by exact⟨_,rfl,fun h=>by cases h⟩) fun w11 t13=>by
  have hF':∀(qE J8 qY:Int) (qZ:List qc) (J9:List qb) (w7:List Int) (v:List qa) (v2 qG z7 z8:Int) (zK:Nat),zK=w7.length→rE (.fn 104) 7 [R.agg [dI qE,dI J8,dI qY,dL 2 qd qZ,dL 5 qh J9],rP 0,rP 1,rP 3,rP 4,rP 5,rP 6] [(0,B.blk 26 [dL 8 qe v]),(1,B.blk 114 [C.fn 115 [] [dP 2]]),(2,B.blk 22 [dO 7 1 zK]),(3,B.blk 3 [dI v2]),(4,B.blk 28 [dI qG,dI z7,dI z8]),(5,B.blk 163 [C.fn 104 [] [dP 0,dP 1,dP 3,dP 4,dP 5,dP 6]]),(6,B.blk 114 [C.fn 116 [] [dP 2]]),(7,bR 3 1 eI w7)]=(rF ((qb.mk qE J8 qY qZ J9),w7,v,v2,(qg.mk qG z7 z8))).bind (fun e=>some (rL 1 eB e.1,[(0,B.blk 26 [dL 8 qe e.2.2.1]),(1,B.blk 114 [C.fn 115 [] [dP 2]]),(2,B.blk 22 [dO 7 1 e.2.1.length]),(3,B.blk 3 [dI e.2.2.2.1]),(4,B.blk 28 [dI e.2.2.2.2.Worst,dI e.2.2.2.2.Best,dI e.2.2.2.2.Pass]),(5,B.blk 163 [C.fn 104 [] [dP 0,dP 1,dP 3,dP 4,dP 5,dP 6]]),(6,B.blk 114 [C.fn 116 [] [dP 2]]),(7,bR 3 1 eI e.2.1)])):=by intro qE J8 qY qZ J9 w7 v v2 qG z7 z8 zK h0;subst h0;exact hF ((qb.mk qE J8 qY qZ J9),w7,v,v2,(qg.mk qG z7 z8))
  have:=q8V;have:=@qbW.eq_1;have:=@QX.eq_1;exact gA
def Qz (rF:(qb×List Int×List qa×Int×qg)→Option (List Bool×List Int×List qa×Int×qg)) (w7:List Int) (w9:List Bool) (w11:List Int) (b0:List qa) (b3:Int) (b4:qg) (b8:qb) (b12:List Bool) (t18:Bool) (t72:List qb) (t73:Int) (t74:Int) (t96:Int):(List Int×Int)→Option ((List Int×Int)⊕(List Int))|(w14,t97)=>if t97<t96 then if 0≤t97∧t97<((w14.length:Nat):Int) then if Int.toNat t97+1≤w14.length then if t18=Bool.true then if 0≤t97∧t97<((w11.length:Nat):Int) then Option.bind w11[Int.toNat t97]? fun(a2:Int)=>if 0≤t97∧t97<((w14.length:Nat):Int) then if Int.toNat t97+1≤w14.length then Option.bind (Qf t97 w11 (List.set (List.set w14 (Int.toNat t97) (-1)) (Int.toNat t97) a2) b12 t97) fun(a3:List Int)=>some (Sum.inl (a3,w64 (t97+1))) else none else none else none else Option.bind (Qf t97 w11 (List.set w14 (Int.toNat t97) (-1)) b12 t97) fun(a4:List Int)=>some (Sum.inl (a4,w64 (t97+1))) else none else none else some (Sum.inr w14)
theorem q5d (rE:Orc) (rF:(qb×List Int×List qa×Int×qg)→Option (List Bool×List Int×List qa×Int×qg)) (hF:∀y,rE (.fn 104) 7 (zd y).1 (zd y).2=(rF y).bind fun e=>some (Q8 e)) (hM:∀g k a G,g≠104→rE (.fn g) k a G=ev g k a G) (hR:∀g asg bd k a G,rE (.rd g asg bd) k a G=evr g asg bd k a G):∀(w7:List Int) (w9:List Bool) (w11 w14:List Int) (b0:List qa) (b3 QQ ZF ZG Jp qbA q0B:Int) (q0C:List qc) (qbB:List qb) (b12:List Bool) (t18:Bool) (t72:List qb) (t73 t74 t96 t97:Int) (JI zK q4j qiV:Nat),JI=w9.length→zK=w7.length→q4j=w11.length→qiV=w14.length→XL2 rE 104 7 25 ⟨[(3,rP 3),(5,rP 5),(6,rP 6),(7,rP 8),(9,rO 9 1 JI),(12,rP 10),(17,rP 12),(18,rB t18),(19,rP 13),(72,rL 5 qh t72),(73,rI t73),(74,rI t74),(96,rI t96),(97,rI t97)],[(0,B.blk 26 [dL 8 qe b0]),(1,B.blk 114 [C.fn 115 [] [dP 2]]),(2,B.blk 22 [dO 7 1 zK]),(3,B.blk 3 [dI b3]),(4,B.blk 28 [dI QQ,dI ZF,dI ZG]),(5,B.blk 163 [C.fn 104 [] [dP 0,dP 1,dP 3,dP 4,dP 5,dP 6]]),(6,B.blk 114 [C.fn 116 [] [dP 2]]),(7,bR 3 1 eI w7),(8,B.blk 36 [dI Jp,dI qbA,dI q0B,dL 2 qd q0C,dL 5 qh qbB]),(9,bR 4 1 eB w9),(10,B.blk 164 [dO 11 1 q4j]),(11,bR 3 1 eI w11),(12,B.blk 115 [dL 1 eB b12]),(13,B.blk 164 [dO 14 1 qiV]),(14,bR 3 1 eI w14)],15,142⟩=(zy (Qz rF w7 w9 w11 b0 b3 (qg.mk QQ ZF ZG) (qb.mk Jp qbA q0B q0C qbB) b12 t18 t72 t73 t74 t96) (w14,t97)).bind (fun(e:List Int)=>some (Exit.exit 6,⟨[(3,rP 3),(5,rP 5),(6,rP 6),(7,rP 8),(9,rO 9 1 w9.length),(12,rP 10),(19,rP 12),(72,rL 5 qh t72),(73,rI t73),(74,rI t74)],[(0,B.blk 26 [dL 8 qe b0]),(1,B.blk 114 [C.fn 115 [] [dP 2]]),(2,B.blk 22 [dO 7 1 w7.length]),(3,B.blk 3 [dI b3]),(4,B.blk 28 [dI QQ,dI ZF,dI ZG]),(5,B.blk 163 [C.fn 104 [] [dP 0,dP 1,dP 3,dP 4,dP 5,dP 6]]),(6,B.blk 114 [C.fn 116 [] [dP 2]]),(7,bR 3 1 eI w7),(8,B.blk 36 [dI Jp,dI qbA,dI q0B,dL 2 qd q0C,dL 5 qh qbB]),(9,bR 4 1 eB w9),(10,B.blk 164 [dO 11 1 w11.length]),(11,bR 3 1 eI w11),(12,B.blk 164 [dO 13 1 e.length]),(13,bR 3 1 eI e)],14,142⟩)):=
 by
 intro w7 w9 w11 w14 b0 b3 QQ ZF ZG Jp qbA q0B q0C qbB b12 t18 t72 t73 t74 t96 t97 JI zK q4j qiV h0 h1 h2 h3
 subst h0 h1 h2 h3
 revert t97;revert w14;exact qa4 qk7 qje (fun e=>by exact⟨_,rfl,fun h=>by cases h⟩) fun w14 t97=>by
  have hF':∀(qE J8 qY:Int) (qZ:List qc) (J9:List qb) (w7:List Int) (v:List qa) (v2 qG z7 z8:Int) (zK:Nat),zK=w7.length→rE (.fn 104) 7 [R.agg [dI qE,dI J8,dI qY,dL 2 qd qZ,dL 5 qh J9],rP 0,rP 1,rP 3,rP 4,rP 5,rP 6] [(0,B.blk 26 [dL 8 qe v]),(1,B.blk 114 [C.fn 115 [] [dP 2]]),(2,B.blk 22 [dO 7 1 zK]),(3,B.blk 3 [dI v2]),(4,B.blk 28 [dI qG,dI z7,dI z8]),(5,B.blk 163 [C.fn 104 [] [dP 0,dP 1,dP 3,dP 4,dP 5,dP 6]]),(6,B.blk 114 [C.fn 116 [] [dP 2]]),(7,bR 3 1 eI w7)]=(rF ((qb.mk qE J8 qY qZ J9),w7,v,v2,(qg.mk qG z7 z8))).bind (fun e=>some (rL 1 eB e.1,[(0,B.blk 26 [dL 8 qe e.2.2.1]),(1,B.blk 114 [C.fn 115 [] [dP 2]]),(2,B.blk 22 [dO 7 1 e.2.1.length]),(3,B.blk 3 [dI e.2.2.2.1]),(4,B.blk 28 [dI e.2.2.2.2.Worst,dI e.2.2.2.2.Best,dI e.2.2.2.2.Pass]),(5,B.blk 163 [C.fn 104 [] [dP 0,dP 1,dP 3,dP 4,dP 5,dP 6]]),(6,B.blk 114 [C.fn 116 [] [dP 2]]),(7,bR 3 1 eI e.2.1)])):=by intro qE J8 qY qZ J9 w7 v v2 qG z7 z8 zK h0;subst h0;exact hF ((qb.mk qE J8 qY qZ J9),w7,v,v2,(qg.mk qG z7 z8))
  have:=q8V;have:=@qbP.eq_1;have:=@q2i;have:=@Qz.eq_1;exact gA
def QW (rF:(qb×List Int×List qa×Int×qg)→Option (List Bool×List Int×List qa×Int×qg)) (w9:List Bool) (b8:qb) (t72:List qb) (t73:Int):(List Int×List Int×List qa×Int×qg×Int)→Option ((List Int×List Int×List qa×Int×qg×Int)⊕(List Int×List Int×List qa×Int×qg))|(w7,w11,b0,b3,b4,t74)=>if t74<t73 then if 0≤t74∧t74<((t72.length:Nat):Int) then Option.bind t72[Int.toNat t74]? fun(a2:qb)=>Option.bind (rF (a2,(w7,(b0,(b3,b4))))) fun(a3:Prod (List Bool) (Prod (List Int) (Prod (List qa) (Prod Int qg))))=>if(b8.Kind==4)=Bool.true then Option.bind (q1I b3 a3.2.2.2.1 a3.2.1) fun(a4:Bool)=>if 0≤((w11.length:Nat):Int)∧8*((w11.length:Nat):Int)≤281474976710656∧((w11.length:Nat):Int)≤9223372036854775807 then Option.bind (zy (Qz rF a3.2.1 w9 w11 a3.2.2.1 a3.2.2.2.1 a3.2.2.2.2 b8 a3.1 (!a4) t72 t73 t74 ((w11.length:Nat):Int)) (List.replicate w11.length 0,0)) fun(a5:List Int)=>some (Sum.inl (a3.2.1,a5,a3.2.2.1,a3.2.2.2.1,a3.2.2.2.2,w64 (t74+1))) else none else if 0≤((w11.length:Nat):Int)∧8*((w11.length:Nat):Int)≤281474976710656∧((w11.length:Nat):Int)≤9223372036854775807 then Option.bind (zy (Qz rF a3.2.1 w9 w11 a3.2.2.1 a3.2.2.2.1 a3.2.2.2.2 b8 a3.1 Bool.false t72 t73 t74 ((w11.length:Nat):Int)) (List.replicate w11.length 0,0)) fun(a6:List Int)=>some (Sum.inl (a3.2.1,a6,a3.2.2.1,a3.2.2.2.1,a3.2.2.2.2,w64 (t74+1))) else none else none else some (Sum.inr (w7,w11,b0,b3,b4))
theorem q6f (rE:Orc) (rF:(qb×List Int×List qa×Int×qg)→Option (List Bool×List Int×List qa×Int×qg)) (hF:∀y,rE (.fn 104) 7 (zd y).1 (zd y).2=(rF y).bind fun e=>some (Q8 e)) (hM:∀g k a G,g≠104→rE (.fn g) k a G=ev g k a G) (hR:∀g asg bd k a G,rE (.rd g asg bd) k a G=evr g asg bd k a G):∀(w7:List Int) (w9:List Bool) (w11:List Int) (b0:List qa) (b3 QQ ZF ZG Jp qbA q0B:Int) (q0C:List qc) (qbB t72:List qb) (t73 t74:Int) (JI zK q4j:Nat),JI=w9.length→zK=w7.length→q4j=w11.length→XL2 rE 104 7 18 ⟨[(3,rP 3),(5,rP 5),(6,rP 6),(7,rP 8),(9,rO 9 1 JI),(12,rP 10),(72,rL 5 qh t72),(73,rI t73),(74,rI t74)],[(0,B.blk 26 [dL 8 qe b0]),(1,B.blk 114 [C.fn 115 [] [dP 2]]),(2,B.blk 22 [dO 7 1 zK]),(3,B.blk 3 [dI b3]),(4,B.blk 28 [dI QQ,dI ZF,dI ZG]),(5,B.blk 163 [C.fn 104 [] [dP 0,dP 1,dP 3,dP 4,dP 5,dP 6]]),(6,B.blk 114 [C.fn 116 [] [dP 2]]),(7,bR 3 1 eI w7),(8,B.blk 36 [dI Jp,dI qbA,dI q0B,dL 2 qd q0C,dL 5 qh qbB]),(9,bR 4 1 eB w9),(10,B.blk 164 [dO 11 1 q4j]),(11,bR 3 1 eI w11)],12,142⟩=(zy (QW rF w9 (qb.mk Jp qbA q0B q0C qbB) t72 t73) (w7,w11,b0,b3,(qg.mk QQ ZF ZG),t74)).bind (fun(e:List Int×List Int×List qa×Int×qg)=>some (Exit.exit 4,⟨[(7,rP 8),(9,rO 9 1 w9.length),(12,rP 10)],[(0,B.blk 26 [dL 8 qe e.2.2.1]),(1,B.blk 114 [C.fn 115 [] [dP 2]]),(2,B.blk 22 [dO 7 1 e.1.length]),(3,B.blk 3 [dI e.2.2.2.1]),(4,B.blk 28 [dI e.2.2.2.2.Worst,dI e.2.2.2.2.Best,dI e.2.2.2.2.Pass]),(5,B.blk 163 [C.fn 104 [] [dP 0,dP 1,dP 3,dP 4,dP 5,dP 6]]),(6,B.blk 114 [C.fn 116 [] [dP 2]]),(7,bR 3 1 eI e.1),(8,B.blk 36 [dI Jp,dI qbA,dI q0B,dL 2 qd q0C,dL 5 qh qbB]),(9,bR 4 1 eB w9),(10,B.blk 164 [dO 11 1 e.2.1.length]),(11,bR 3 1 eI e.2.1)],12,142⟩)):=
 by
 intro w7 w9 w11 b0 b3 QQ ZF ZG Jp qbA q0B q0C qbB t72 t73 t74 JI zK q4j h0 h1 h2
 subst h0 h1 h2
 have h:=q4P (E:=rE) (f:=104) (k:=7) (st:=fun x:List Int×List Int×List qa×Int×qg×Int=>(⟨[(3,rP 3),(5,rP 5),(6,rP 6),(7,rP 8),(9,rO 9 1 w9.length),(12,rP 10),(72,rL 5 qh t72),(73,rI t73),(74,rI x.2.2.2.2.2)],[(0,B.blk 26 [dL 8 qe x.2.2.1]),(1,B.blk 114 [C.fn 115 [] [dP 2]]),(2,B.blk 22 [dO 7 1 x.1.length]),(3,B.blk 3 [dI x.2.2.2.1]),(4,B.blk 28 [dI x.2.2.2.2.1.Worst,dI x.2.2.2.2.1.Best,dI x.2.2.2.2.1.Pass]),(5,B.blk 163 [C.fn 104 [] [dP 0,dP 1,dP 3,dP 4,dP 5,dP 6]]),(6,B.blk 114 [C.fn 116 [] [dP 2]]),(7,bR 3 1 eI x.1),(8,B.blk 36 [dI Jp,dI qbA,dI q0B,dL 2 qd q0C,dL 5 qh qbB]),(9,bR 4 1 eB w9),(10,B.blk 164 [dO 11 1 x.2.1.length]),(11,bR 3 1 eI x.2.1)],12,142⟩:S)) (ex:=fun(e:List Int×List Int×List qa×Int×qg)=>(Exit.exit 4,⟨[(7,rP 8),(9,rO 9 1 w9.length),(12,rP 10)],[(0,B.blk 26 [dL 8 qe e.2.2.1]),(1,B.blk 114 [C.fn 115 [] [dP 2]]),(2,B.blk 22 [dO 7 1 e.1.length]),(3,B.blk 3 [dI e.2.2.2.1]),(4,B.blk 28 [dI e.2.2.2.2.Worst,dI e.2.2.2.2.Best,dI e.2.2.2.2.Pass]),(5,B.blk 163 [C.fn 104 [] [dP 0,dP 1,dP 3,dP 4,dP 5,dP 6]]),(6,B.blk 114 [C.fn 116 [] [dP 2]]),(7,bR 3 1 eI e.1),(8,B.blk 36 [dI Jp,dI qbA,dI q0B,dL 2 qd q0C,dL 5 qh qbB]),(9,bR 4 1 eB w9),(10,B.blk 164 [dO 11 1 e.2.1.length]),(11,bR 3 1 eI e.2.1)],12,142⟩)) (step:=(QW rF w9 (qb.mk Jp qbA q0B q0C qbB) t72 t73)) qjB qj4 (fun e h=>by cases h) (fun x=>by
  obtain⟨w7,w11,b0,b3,b4,t74⟩:=x;have hF':∀(qE J8 qY:Int) (qZ:List qc) (J9:List qb) (w7:List Int) (v:List qa) (v2 qG z7 z8:Int) (zK:Nat),zK=w7.length→rE (.fn 104) 7 [R.agg [dI qE,dI J8,dI qY,dL 2 qd qZ,dL 5 qh J9],rP 0,rP 1,rP 3,rP 4,rP 5,rP 6] [(0,B.blk 26 [dL 8 qe v]),(1,B.blk 114 [C.fn 115 [] [dP 2]]),(2,B.blk 22 [dO 7 1 zK]),(3,B.blk 3 [dI v2]),(4,B.blk 28 [dI qG,dI z7,dI z8]),(5,B.blk 163 [C.fn 104 [] [dP 0,dP 1,dP 3,dP 4,dP 5,dP 6]]),(6,B.blk 114 [C.fn 116 [] [dP 2]]),(7,bR 3 1 eI w7)]=(rF ((qb.mk qE J8 qY qZ J9),w7,v,v2,(qg.mk qG z7 z8))).bind (fun e=>some (rL 1 eB e.1,[(0,B.blk 26 [dL 8 qe e.2.2.1]),(1,B.blk 114 [C.fn 115 [] [dP 2]]),(2,B.blk 22 [dO 7 1 e.2.1.length]),(3,B.blk 3 [dI e.2.2.2.1]),(4,B.blk 28 [dI e.2.2.2.2.Worst,dI e.2.2.2.2.Best,dI e.2.2.2.2.Pass]),(5,B.blk 163 [C.fn 104 [] [dP 0,dP 1,dP 3,dP 4,dP 5,dP 6]]),(6,B.blk 114 [C.fn 116 [] [dP 2]]),(7,bR 3 1 eI e.2.1)])):=by intro qE J8 qY qZ J9 w7 v v2 qG z7 z8 zK h0;subst h0;exact hF ((qb.mk qE J8 qY qZ J9),w7,v,v2,(qg.mk qG z7 z8))
  have:=q8V;have:=@qbY.eq_1;have:=@qav;have:=q5d rE rF hF hM hR;have:=@QW.eq_1;exact gA) (w7,w11,b0,b3,(qg.mk QQ ZF ZG),t74)
 exact h
def QV (rF:(qb×List Int×List qa×Int×qg)→Option (List Bool×List Int×List qa×Int×qg)) (w7:List Int) (w10:List Int) (b0:List qa) (b3:Int) (b4:qg) (t21:Int):(List Bool×Int)→Option ((List Bool×Int)⊕(List Bool))|(w8,t22)=>if t22<((w8.length:Nat):Int) then if 0≤t22∧t22<((w10.length:Nat):Int) then Option.bind w10[Int.toNat t22]? fun(a2:Int)=>if 0≤t22∧t22<((w8.length:Nat):Int) then if Int.toNat t22+1≤w8.length then some (Sum.inl (List.set w8 (Int.toNat t22) (decide (t21≤a2)),w64 (t22+1))) else none else none else none else some (Sum.inr w8)
theorem q6s (rE:Orc) (rF:(qb×List Int×List qa×Int×qg)→Option (List Bool×List Int×List qa×Int×qg)) (hF:∀y,rE (.fn 104) 7 (zd y).1 (zd y).2=(rF y).bind fun e=>some (Q8 e)) (hM:∀g k a G,g≠104→rE (.fn g) k a G=ev g k a G) (hR:∀g asg bd k a G,rE (.rd g asg bd) k a G=evr g asg bd k a G):∀(w7:List Int) (w8:List Bool) (w10:List Int) (b0:List qa) (b3 QQ ZF ZG t21 t22:Int) (qdc zK qiW:Nat),qdc=w8.length→zK=w7.length→qiW=w10.length→XL2 rE 104 7 38 ⟨[(9,rO 8 1 qdc),(12,rP 9),(21,rI t21),(22,rI t22)],[(0,B.blk 26 [dL 8 qe b0]),(1,B.blk 114 [C.fn 115 [] [dP 2]]),(2,B.blk 22 [dO 7 1 zK]),(3,B.blk 3 [dI b3]),(4,B.blk 28 [dI QQ,dI ZF,dI ZG]),(5,B.blk 163 [C.fn 104 [] [dP 0,dP 1,dP 3,dP 4,dP 5,dP 6]]),(6,B.blk 114 [C.fn 116 [] [dP 2]]),(7,bR 3 1 eI w7),(8,bR 4 1 eB w8),(9,B.blk 164 [dO 10 1 qiW]),(10,bR 3 1 eI w10)],11,142⟩=(zy (QV rF w7 w10 b0 b3 (qg.mk QQ ZF ZG) t21) (w8,t22)).bind (fun(e:List Bool)=>some (Exit.exit 8,⟨[(9,rO 8 1 e.length)],[(0,B.blk 26 [dL 8 qe b0]),(1,B.blk 114 [C.fn 115 [] [dP 2]]),(2,B.blk 22 [dO 7 1 w7.length]),(3,B.blk 3 [dI b3]),(4,B.blk 28 [dI QQ,dI ZF,dI ZG]),(5,B.blk 163 [C.fn 104 [] [dP 0,dP 1,dP 3,dP 4,dP 5,dP 6]]),(6,B.blk 114 [C.fn 116 [] [dP 2]]),(7,bR 3 1 eI w7),(8,bR 4 1 eB e)],9,142⟩)):=
 by
 intro w7 w8 w10 b0 b3 QQ ZF ZG t21 t22 qdc zK qiW h0 h1 h2
 subst h0 h1 h2
 revert t22;revert w8;exact qa4 qkg qk6 (fun e=>by exact⟨_,rfl,fun h=>by cases h⟩) fun w8 t22=>by
  have hF':∀(qE J8 qY:Int) (qZ:List qc) (J9:List qb) (w7:List Int) (v:List qa) (v2 qG z7 z8:Int) (zK:Nat),zK=w7.length→rE (.fn 104) 7 [R.agg [dI qE,dI J8,dI qY,dL 2 qd qZ,dL 5 qh J9],rP 0,rP 1,rP 3,rP 4,rP 5,rP 6] [(0,B.blk 26 [dL 8 qe v]),(1,B.blk 114 [C.fn 115 [] [dP 2]]),(2,B.blk 22 [dO 7 1 zK]),(3,B.blk 3 [dI v2]),(4,B.blk 28 [dI qG,dI z7,dI z8]),(5,B.blk 163 [C.fn 104 [] [dP 0,dP 1,dP 3,dP 4,dP 5,dP 6]]),(6,B.blk 114 [C.fn 116 [] [dP 2]]),(7,bR 3 1 eI w7)]=(rF ((qb.mk qE J8 qY qZ J9),w7,v,v2,(qg.mk qG z7 z8))).bind (fun e=>some (rL 1 eB e.1,[(0,B.blk 26 [dL 8 qe e.2.2.1]),(1,B.blk 114 [C.fn 115 [] [dP 2]]),(2,B.blk 22 [dO 7 1 e.2.1.length]),(3,B.blk 3 [dI e.2.2.2.1]),(4,B.blk 28 [dI e.2.2.2.2.Worst,dI e.2.2.2.2.Best,dI e.2.2.2.2.Pass]),(5,B.blk 163 [C.fn 104 [] [dP 0,dP 1,dP 3,dP 4,dP 5,dP 6]]),(6,B.blk 114 [C.fn 116 [] [dP 2]]),(7,bR 3 1 eI e.2.1)])):=by intro qE J8 qY qZ J9 w7 v v2 qG z7 z8 zK h0;subst h0;exact hF ((qb.mk qE J8 qY qZ J9),w7,v,v2,(qg.mk qG z7 z8))
  have:=q8V;have:=@qbS.eq_1;have:=@QV.eq_1;exact gA
def q06 (rF:(qb×List Int×List qa×Int×qg)→Option (List Bool×List Int×List qa×Int×qg)):(qb×List Int×List qa×Int×qg)→Option (List Bool×List Int×List qa×Int×qg)|(x0,w7,v,v2,v3)=>if 0≤((v.length:Nat):Int) then if 0≤w64 (1*2 ^ min v.length (IntKind.bits IntKind.i64))∧1*w64 (1*2 ^ min v.length (IntKind.bits IntKind.i64))≤281474976710656∧w64 (1*2 ^ min v.length (IntKind.bits IntKind.i64))≤9223372036854775807 then if JS x0=Bool.true then Option.bind (q0Z x0.Kind) fun(a2:Sum Unit Unit)=>Sum.elim (fun(a3:Unit)=>Option.bind (zy (ZJ rF w7 v v2 v3 x0) (List.replicate (Int.toNat (w64 (1*2 ^ min v.length (IntKind.bits IntKind.i64)))) Bool.false,1)) fun(a5:List Bool)=>some (a5,w7,v,w64 (v2+1),v3)) (fun(a4:Unit)=>Option.bind (zy (ZI rF w7 v v2 v3 x0) (List.replicate (Int.toNat (w64 (1*2 ^ min v.length (IntKind.bits IntKind.i64)))) Bool.false,1)) fun(a6:List Bool)=>some (a6,w7,v,w64 (v2+1),v3)) a2 else if 0≤((Int.toNat (w64 (1*2 ^ min v.length (IntKind.bits IntKind.i64))):Nat):Int)∧8*((Int.toNat (w64 (1*2 ^ min v.length (IntKind.bits IntKind.i64))):Nat):Int)≤281474976710656∧((Int.toNat (w64 (1*2 ^ min v.length (IntKind.bits IntKind.i64))):Nat):Int)≤9223372036854775807 then Option.bind (zy (QX rF w7 (List.replicate (Int.toNat (w64 (1*2 ^ min v.length (IntKind.bits IntKind.i64)))) Bool.false) v v2 v3 x0) (List.replicate (Int.toNat (w64 (1*2 ^ min v.length (IntKind.bits IntKind.i64)))) 0,1)) fun(a7:List Int)=>Option.bind (zy (QW rF (List.replicate (Int.toNat (w64 (1*2 ^ min v.length (IntKind.bits IntKind.i64)))) Bool.false) x0 x0.L ((x0.L.length:Nat):Int)) (w7,(a7,(v,(v2,(v3,0)))))) fun(a8:Prod (List Int) (Prod (List Int) (Prod (List qa) (Prod Int qg))))=>if(x0.Kind==3)=Bool.true then Option.bind (zy (QV rF a8.1 a8.2.1 a8.2.2.1 a8.2.2.2.1 a8.2.2.2.2 ((x0.L.length:Nat):Int)) (List.replicate (Int.toNat (w64 (1*2 ^ min v.length (IntKind.bits IntKind.i64)))) Bool.false,1)) fun(a9:List Bool)=>some (a9,a8.1,a8.2.2.1,a8.2.2.2.1,a8.2.2.2.2) else Option.bind (zy (QV rF a8.1 a8.2.1 a8.2.2.1 a8.2.2.2.1 a8.2.2.2.2 x0.N) (List.replicate (Int.toNat (w64 (1*2 ^ min v.length (IntKind.bits IntKind.i64)))) Bool.false,1)) fun(a10:List Bool)=>some (a10,a8.1,a8.2.2.1,a8.2.2.2.1,a8.2.2.2.2) else none else none else none
theorem q4A:q84 104 7 zd Q8 q06:=by
 intro rE rF hF hM hR x
 obtain⟨x0,w7,v,v2,v3⟩:=x
 show qaJ rE 104 7 [R.agg [dI x0.Kind,dI x0.N,dI x0.Min,dL 2 qd x0.Set,dL 5 qh x0.L],rP 0,rP 1,rP 3,rP 4,rP 5,rP 6] [(0,B.blk 26 [dL 8 qe v]),(1,B.blk 114 [C.fn 115 [] [dP 2]]),(2,B.blk 22 [dO 7 1 w7.length]),(3,B.blk 3 [dI v2]),(4,B.blk 28 [dI v3.Worst,dI v3.Best,dI v3.Pass]),(5,B.blk 163 [C.fn 104 [] [dP 0,dP 1,dP 3,dP 4,dP 5,dP 6]]),(6,B.blk 114 [C.fn 116 [] [dP 2]]),(7,bR 3 1 eI w7)]=_
 have hF':∀(qE J8 qY:Int) (qZ:List qc) (J9:List qb) (w7:List Int) (v:List qa) (v2 qG z7 z8:Int) (zK:Nat),zK=w7.length→rE (.fn 104) 7 [R.agg [dI qE,dI J8,dI qY,dL 2 qd qZ,dL 5 qh J9],rP 0,rP 1,rP 3,rP 4,rP 5,rP 6] [(0,B.blk 26 [dL 8 qe v]),(1,B.blk 114 [C.fn 115 [] [dP 2]]),(2,B.blk 22 [dO 7 1 zK]),(3,B.blk 3 [dI v2]),(4,B.blk 28 [dI qG,dI z7,dI z8]),(5,B.blk 163 [C.fn 104 [] [dP 0,dP 1,dP 3,dP 4,dP 5,dP 6]]),(6,B.blk 114 [C.fn 116 [] [dP 2]]),(7,bR 3 1 eI w7)]=(rF ((qb.mk qE J8 qY qZ J9),w7,v,v2,(qg.mk qG z7 z8))).bind (fun e=>some (rL 1 eB e.1,[(0,B.blk 26 [dL 8 qe e.2.2.1]),(1,B.blk 114 [C.fn 115 [] [dP 2]]),(2,B.blk 22 [dO 7 1 e.2.1.length]),(3,B.blk 3 [dI e.2.2.2.1]),(4,B.blk 28 [dI e.2.2.2.2.Worst,dI e.2.2.2.2.Best,dI e.2.2.2.2.Pass]),(5,B.blk 163 [C.fn 104 [] [dP 0,dP 1,dP 3,dP 4,dP 5,dP 6]]),(6,B.blk 114 [C.fn 116 [] [dP 2]]),(7,bR 3 1 eI e.2.1)])):=by intro qE J8 qY qZ J9 w7 v v2 qG z7 z8 zK h0;subst h0;exact hF ((qb.mk qE J8 qY qZ J9),w7,v,v2,(qg.mk qG z7 z8))
 rw[q4u qfc qhD]
 have:=q8V;have:=@q3J;have:=@q4J;have:=q5B rE rF hF hM hR;have:=q5U rE rF hF hM hR;have:=q53 rE rF hF hM hR;have:=q6f rE rF hF hM hR;have:=q6s rE rF hF hM hR;have:=@q06.eq_1;have:=@Q8.eq_1;exact gA
theorem q2B:∀x y,zd x=zd y→x=y:=by
 rintro⟨⟨qDJ,qDK,qDL,qDM,qDN⟩,a1,a2,a3,⟨qNY,qNZ,qO0⟩⟩ ⟨⟨qDO,qDP,qDQ,qDR,qDS⟩,b1,b2,b3,⟨qO1,qO2,qO3⟩⟩ h
 simp only[zd,Prod.mk.injEq,List.cons.injEq,R.c.injEq,R.agg.injEq,R.tup.injEq,C.d.injEq,C.own.injEq,C.ptr.injEq,C.eptr.injEq,D.int.injEq,D.bool.injEq,D.str.injEq,D.sl.injEq,B.blk.injEq,B.row.injEq,q0J,q2C,q1z,q1A,q20,q1Z,q4g,q42,q3Z,q0M,true_and,and_true,qOJ] at h
 simp only[h]
theorem q6H:∀x y,Q8 x=Q8 y→x=y:=by
 rintro⟨a0,a1,a2,a3,⟨qNY,qNZ,qO0⟩⟩ ⟨b0,b1,b2,b3,⟨qO1,qO2,qO3⟩⟩ h
 simp only[Q8,Prod.mk.injEq,List.cons.injEq,R.c.injEq,R.agg.injEq,R.tup.injEq,C.d.injEq,C.own.injEq,C.ptr.injEq,C.eptr.injEq,D.int.injEq,D.bool.injEq,D.str.injEq,D.sl.injEq,B.blk.injEq,B.row.injEq,q0J,q2C,q1z,q1A,q20,q1Z,q4g,q42,q3Z,q0M,true_and,and_true,qOJ] at h
 simp only[h]
def zJ:(qb×List Int×List qa×Int×qg)→Option (List Bool×List Int×List qa×Int×qg):=q8k 104 7 zd Q8
theorem q98 (x:(qb×List Int×List qa×Int×qg)):zJ x=q06 zJ x:=qcI qmJ.2.2.2 q2B q6H q4A x
theorem q8y (x0:qb) (w7:List Int) (v:List qa) (v2:Int) (v3:qg):ev 104 7 [R.agg [dI x0.Kind,dI x0.N,dI x0.Min,dL 2 qd x0.Set,dL 5 qh x0.L],rP 0,rP 1,rP 3,rP 4,rP 5,rP 6] [(0,B.blk 26 [dL 8 qe v]),(1,B.blk 114 [C.fn 115 [] [dP 2]]),(2,B.blk 22 [dO 7 1 w7.length]),(3,B.blk 3 [dI v2]),(4,B.blk 28 [dI v3.Worst,dI v3.Best,dI v3.Pass]),(5,B.blk 163 [C.fn 104 [] [dP 0,dP 1,dP 3,dP 4,dP 5,dP 6]]),(6,B.blk 114 [C.fn 116 [] [dP 2]]),(7,bR 3 1 eI w7)]=(zJ (x0,w7,v,v2,v3)).bind (fun(e:List Bool×List Int×List qa×Int×qg)=>some (rL 1 eB e.1,[(0,B.blk 26 [dL 8 qe e.2.2.1]),(1,B.blk 114 [C.fn 115 [] [dP 2]]),(2,B.blk 22 [dO 7 1 e.2.1.length]),(3,B.blk 3 [dI e.2.2.2.1]),(4,B.blk 28 [dI e.2.2.2.2.Worst,dI e.2.2.2.2.Best,dI e.2.2.2.2.Pass]),(5,B.blk 163 [C.fn 104 [] [dP 0,dP 1,dP 3,dP 4,dP 5,dP 6]]),(6,B.blk 114 [C.fn 116 [] [dP 2]]),(7,bR 3 1 eI e.2.1)])):=(q99 qmJ.2.2.2 q2B q4A (x0,w7,v,v2,v3))
theorem q8P:∀(qE J8 qY:Int) (qZ:List qc) (J9:List qb) (w7:List Int) (v:List qa) (v2 qG z7 z8:Int) (zK:Nat),zK=w7.length→ev 104 7 [R.agg [dI qE,dI J8,dI qY,dL 2 qd qZ,dL 5 qh J9],rP 0,rP 1,rP 3,rP 4,rP 5,rP 6] [(0,B.blk 26 [dL 8 qe v]),(1,B.blk 114 [C.fn 115 [] [dP 2]]),(2,B.blk 22 [dO 7 1 zK]),(3,B.blk 3 [dI v2]),(4,B.blk 28 [dI qG,dI z7,dI z8]),(5,B.blk 163 [C.fn 104 [] [dP 0,dP 1,dP 3,dP 4,dP 5,dP 6]]),(6,B.blk 114 [C.fn 116 [] [dP 2]]),(7,bR 3 1 eI w7)]=(zJ ((qb.mk qE J8 qY qZ J9),w7,v,v2,(qg.mk qG z7 z8))).bind (fun(e:List Bool×List Int×List qa×Int×qg)=>some (rL 1 eB e.1,[(0,B.blk 26 [dL 8 qe e.2.2.1]),(1,B.blk 114 [C.fn 115 [] [dP 2]]),(2,B.blk 22 [dO 7 1 e.2.1.length]),(3,B.blk 3 [dI e.2.2.2.1]),(4,B.blk 28 [dI e.2.2.2.2.Worst,dI e.2.2.2.2.Best,dI e.2.2.2.2.Pass]),(5,B.blk 163 [C.fn 104 [] [dP 0,dP 1,dP 3,dP 4,dP 5,dP 6]]),(6,B.blk 114 [C.fn 116 [] [dP 2]]),(7,bR 3 1 eI e.2.1)])):=
 by
 intro qE J8 qY qZ J9 w7 v v2 qG z7 z8 zK h0
 subst h0
 exact q8y (qb.mk qE J8 qY qZ J9) w7 v v2 (qg.mk qG z7 z8)
def q2h (n:qb) (s:qg) (l:List qa) (w1:List Int):Option (List Bool×List Int):=Option.bind (zJ (n,(w1,(l,(0,s))))) fun(a:Prod (List Bool) (Prod (List Int) (Prod (List qa) (Prod Int qg))))=>some (a.1,a.2.1)
theorem qbl:∀(qz n_N qM:Int) (qN:List qc) (n_L:List qb) (zm zX zY:Int) (l:List qa) (w1:List Int) (QO:Nat),QO=w1.length→ev 61 1 [R.agg [dI qz,dI n_N,dI qM,dL 2 qd qN,dL 5 qh n_L],R.agg [dI zm,dI zX,dI zY],rL 8 qe l,R.c (C.fn 115 [] [dP 0]),R.c (C.fn 116 [] [dP 0])] [(0,B.blk 22 [dO 1 1 QO]),(1,bR 3 1 eI w1)]=(q2h (qb.mk qz n_N qM qN n_L) (qg.mk zm zX zY) l w1).bind (fun(e:List Bool×List Int)=>some (rL 1 eB e.1,[(0,B.blk 22 [dO 1 1 e.2.length]),(1,bR 3 1 eI e.2)])):=
 by
 intro qz n_N qM qN n_L zm zX zY l w1 QO h0
 subst h0
 rw[qS qDZ qHE.2.2.2 qJx]
 have:=qJh;have:=@q8P;have:=@q2h.eq_1;exact gA
def JO (w4:List Int) (b0:qb) (b1:qg) (t2:List qa) (t3:Int) (t16:Int) (t49:Int) (t50:Int):(List Int)→Option ((List Int)⊕(List Int))|w3=>Option.bind (q2h b0 b1 t2 w3) fun(a:Prod (List Bool) (List Int))=>if 0≤t3∧t3<((a.1.length:Nat):Int) then Option.bind a.1[Int.toNat t3]? fun(a2:Bool)=>if(!a2)=Bool.true then if 0≤t16∧t16<((a.2.length:Nat):Int) then Option.bind a.2[Int.toNat t16]? fun(a3:Int)=>if 0≤t16∧t16<((a.2.length:Nat):Int) then if Int.toNat t16+1≤a.2.length then some (Sum.inl (List.set a.2 (Int.toNat t16) (w64 (a3+1)))) else none else none else none else some (Sum.inr a.2) else none
theorem q8t:∀(w3 w4:List Int) (q1k qgN q3q:Int) (q3r:List qc) (q3E:List qb) (qV zq zr:Int) (t2:List qa) (t3 t16 t49 t50:Int) (ZC q2t:Nat),ZC=w4.length→q2t=w3.length→XL2 evo 72 0 14 ⟨[(2,rL 8 qe t2),(3,rI t3),(4,rP 0),(5,rP 1),(12,rP 2),(13,R.c (C.fn 115 [] [dP 2])),(14,R.c (C.fn 116 [] [dP 2])),(15,rO 4 1 ZC),(16,rI t16),(49,rI t49),(50,rI t50)],[(0,B.blk 36 [dI q1k,dI qgN,dI q3q,dL 2 qd q3r,dL 5 qh q3E]),(1,B.blk 28 [dI qV,dI zq,dI zr]),(2,B.blk 22 [dO 3 1 q2t]),(3,bR 3 1 eI w3),(4,bR 3 1 eI w4)],5,89⟩=(zy (JO w4 (qb.mk q1k qgN q3q q3r q3E) (qg.mk qV zq zr) t2 t3 t16 t49 t50) w3).bind (fun(e:List Int)=>some (Exit.exit 2,⟨[(2,rL 8 qe t2),(3,rI t3),(4,rP 0),(5,rP 1),(12,rP 2),(13,R.c (C.fn 115 [] [dP 2])),(14,R.c (C.fn 116 [] [dP 2])),(15,rO 4 1 w4.length),(16,rI t16),(49,rI t49),(50,rI t50)],[(0,B.blk 36 [dI q1k,dI qgN,dI q3q,dL 2 qd q3r,dL 5 qh q3E]),(1,B.blk 28 [dI qV,dI zq,dI zr]),(2,B.blk 22 [dO 3 1 e.length]),(3,bR 3 1 eI e),(4,bR 3 1 eI w4)],5,89⟩)):=
 by
 intro w3 w4 q1k qgN q3q q3r q3E qV zq zr t2 t3 t16 t49 t50 ZC q2t h0 h1
 subst h0 h1
 revert w3;exact qbe qxJ qwA (fun e=>by exact⟨_,rfl,fun h=>by cases h⟩) fun x=>by
  have:=qH6;have:=@qhE.eq_1;have:=@qbl;have:=@JO.eq_1;exact gA
def J5 (b0:qb) (b1:qg) (t2:List qa) (t3:Int) (t49:Int):(List Int×List Int×Int)→Option ((List Int×List Int×Int)⊕(List Int))|(w3,w4,t50)=>if t50<t49 then if w3.length+1≤maxLen∧(w3.length+1)*8≤140737488355328 then if 0≤t50 then if(ZR Go.BinOp.and IntKind.i64 (Int.fdiv t3 (2 ^ min (Int.toNat t50) (IntKind.bits IntKind.i64))) 1==0)=Bool.true then some (Sum.inl (w3++[(-1)],w4,w64 (t50+1))) else if 0≤t50∧t50<((w3.length+1:Nat):Int) then if Int.toNat t50≤w3.length then Option.bind (zy (JO w4 b0 b1 t2 t3 t50 t49 t50) (List.set (w3++[(-1)]) (Int.toNat t50) 0)) fun(a:List Int)=>if 0≤t50∧t50<((a.length:Nat):Int) then Option.bind a[Int.toNat t50]? fun(a2:Int)=>if w4.length+1≤maxLen∧(w4.length+1)*8≤140737488355328 then some (Sum.inl (a,w4++[a2],w64 (t50+1))) else none else none else none else none else none else none else some (Sum.inr w4)
theorem q9O:∀(w3 w4:List Int) (q1k qgN q3q:Int) (q3r:List qc) (q3E:List qb) (qV zq zr:Int) (t2:List qa) (t3 t49 t50:Int) (ZC q2t:Nat),ZC=w4.length→q2t=w3.length→XL2 evo 72 0 9 ⟨[(2,rL 8 qe t2),(3,rI t3),(4,rP 0),(5,rP 1),(12,rP 2),(13,R.c (C.fn 115 [] [dP 2])),(14,R.c (C.fn 116 [] [dP 2])),(15,rO 4 1 ZC),(49,rI t49),(50,rI t50)],[(0,B.blk 36 [dI q1k,dI qgN,dI q3q,dL 2 qd q3r,dL 5 qh q3E]),(1,B.blk 28 [dI qV,dI zq,dI zr]),(2,B.blk 22 [dO 3 1 q2t]),(3,bR 3 1 eI w3),(4,bR 3 1 eI w4)],5,89⟩=(zy (J5 (qb.mk q1k qgN q3q q3r q3E) (qg.mk qV zq zr) t2 t3 t49) (w3,w4,t50)).bind (fun(e:List Int)=>some (Exit.exit 0,⟨[(15,rO 0 1 e.length)],[(0,bR 3 1 eI e)],1,89⟩)):=
 by
 intro w3 w4 q1k qgN q3q q3r q3E qV zq zr t2 t3 t49 t50 ZC q2t h0 h1
 subst h0 h1
 revert t50;revert w4;revert w3;exact qEW qDy qDp (fun e=>by exact⟨_,rfl,fun h=>by cases h⟩) fun w3 w4 t50=>by
  have:=qH6;have:=@qoX.eq_1;have:=@q8t;have:=@J5.eq_1;exact gA
theorem q6y:∀  (q1k qgN q3q:Int) (q3r:List qc) (q3E:List qb) (qV zq zr:Int) (t2:List qa) (t3 t49 t50:Int),XL2 evo 72 0 9 ⟨[(2,rL 8 qe t2),(3,rI t3),(4,rP 0),(5,rP 1),(12,rP 2),(13,R.c (C.fn 115 [] [dP 2])),(14,R.c (C.fn 116 [] [dP 2])),(15,rO 4 1 0),(49,rI t49),(50,rI t50)],[(0,B.blk 36 [dI q1k,dI qgN,dI q3q,dL 2 qd q3r,dL 5 qh q3E]),(1,B.blk 28 [dI qV,dI zq,dI zr]),(2,B.blk 22 [dO 3 1 0]),(3,B.row 3 1 []),(4,B.row 3 1 [])],5,89⟩=(zy (J5 (qb.mk q1k qgN q3q q3r q3E) (qg.mk qV zq zr) t2 t3 t49) ([],[],t50)).bind (fun(e:List Int)=>some (Exit.exit 0,⟨[(15,rO 0 1 e.length)],[(0,bR 3 1 eI e)],1,89⟩)):=by
 intro q1k qgN q3q q3r q3E qV zq zr t2 t3 t49 t50;have h:=q9O [] [] ((qb.mk q1k qgN q3q q3r q3E)).Kind ((qb.mk q1k qgN q3q q3r q3E)).N ((qb.mk q1k qgN q3q q3r q3E)).Min ((qb.mk q1k qgN q3q q3r q3E)).Set ((qb.mk q1k qgN q3q q3r q3E)).L ((qg.mk qV zq zr)).Worst ((qg.mk qV zq zr)).Best ((qg.mk qV zq zr)).Pass t2 t3 t49 t50 _ _ rfl rfl
 first
  | exact h
  | (simp only[rL,dL,bR,bZ,Nat.reduceAdd] at h;exact h)
def q13 (x0:qb) (x1:qg) (x2:List qa) (x3:Int):Option (List Int×Bool):=Option.bind (q2G x0 x1 x2) fun(a:Prod (List Bool) Int)=>if(a.2 != 0)=Bool.true then some ([],Bool.false) else if x3<0 then some ([],Bool.false) else if((a.1.length:Nat):Int)≤x3 then some ([],Bool.false) else if 0≤x3∧x3<((a.1.length:Nat):Int) then Option.bind a.1[Int.toNat x3]? fun(a2:Bool)=>if(!a2)=Bool.true then some ([],Bool.false) else if 0≤((x2.length:Nat):Int)∧8*((x2.length:Nat):Int)≤281474976710656∧((x2.length:Nat):Int)≤9223372036854775807 then Option.bind (zy (J5 x0 x1 x2 x3 ((x2.length:Nat):Int)) ([],([],0))) fun(a3:List Int)=>some (a3,Bool.true) else none else none
theorem qcg:∀(qE J8 qY:Int) (qZ:List qc) (J9:List qb) (ZQ JL JM:Int) (x2:List qa) (x3:Int),ev 72 0 [R.agg [dI qE,dI J8,dI qY,dL 2 qd qZ,dL 5 qh J9],R.agg [dI ZQ,dI JL,dI JM],rL 8 qe x2,rI x3] []=(q13 (qb.mk qE J8 qY qZ J9) (qg.mk ZQ JL JM) x2 x3).bind (fun(e:List Int×Bool)=>some (R.tup [rL 1 eI e.1,rB e.2],[])):=
 fun qE J8 qY qZ J9 ZQ JL JM x2 x3=>by
  rw[qS qAN qJM.2.2.2 qFb]
  have:=qH6;have:=@q9j;have:=@q6y;have:=@q13.eq_1;exact gA
def Qx (w2:List Int) (b0:qf) (b1:qg) (t2:List qa) (t3:List Bool) (t4:Int) (t11:Bool) (t12:Int) (t46:List Int) (t47:Int):(List Int×List Int×Int)→Option ((List Int×List Int×Int)⊕(List Int))|(w3,t13,t48)=>if t48<t47 then if 0≤t48∧t48<((t46.length:Nat):Int) then Option.bind t46[Int.toNat t48]? fun(a:Int)=>if 0≤a then if(ZR Go.BinOp.and IntKind.i64 (Int.fdiv t12 (2 ^ min (Int.toNat a) (IntKind.bits IntKind.i64))) 1==0)=Bool.true then if w3.length+1≤maxLen∧(w3.length+1)*8≤140737488355328 then some (Sum.inl (w3++[(-1)],t13,w64 (t48+1))) else none else if 0<((t13.length:Nat):Int) then Option.bind t13[0]? fun(a2:Int)=>if w3.length+1≤maxLen∧(w3.length+1)*8≤140737488355328 then if 1≤((t13.length:Nat):Int) then some (Sum.inl (w3++[a2],List.take (t13.length-1) (List.drop 1 t13),w64 (t48+1))) else none else none else none else none else none else some (Sum.inr w3)
theorem q6z:∀(w2 w3:List Int) (qq zG qn qA:Int) (qB:ByteArray) (qj qr ql:Int) (qm:List qc) (qu:List qb) (qw qP qQ:Int) (qo:List (q01 qc)) (qV zq zr:Int) (t2:List qa) (t3:List Bool) (t4:Int) (t11:Bool) (t12:Int) (t13 t46:List Int) (t47 t48:Int) (q2u q2t:Nat),q2u=w2.length→q2t=w3.length→XL2 evo 39 0 9 ⟨[(2,rL 8 qe t2),(3,rL 1 eB t3),(4,rI t4),(5,rP 0),(6,rP 1),(10,rO 2 1 q2u),(11,rB t11),(12,rI t12),(13,rL 1 eI t13),(15,rO 3 1 q2t),(46,rL 1 eI t46),(47,rI t47),(48,rI t48)],[(0,B.blk 39 [dI qq,dI zG,dI qn,dI qA,dS qB,dI qj,dI qr,dI ql,dL 2 qd qm,dL 5 qh qu,dI qw,dI qP,dI qQ,dL 4 (eA2 qd) qo]),(1,B.blk 28 [dI qV,dI zq,dI zr]),(2,bR 3 1 eI w2),(3,bR 3 1 eI w3)],4,80⟩=(zy (Qx w2 (qf.mk qq zG qn qA qB (qb.mk qj qr ql qm qu) qw qP qQ qo) (qg.mk qV zq zr) t2 t3 t4 t11 t12 t46 t47) (w3,t13,t48)).bind (fun(e:List Int)=>some (Exit.exit 2,⟨[(2,rL 8 qe t2),(3,rL 1 eB t3),(4,rI t4),(5,rP 0),(6,rP 1),(10,rO 2 1 w2.length),(11,rB t11),(12,rI t12),(15,rO 3 1 e.length)],[(0,B.blk 39 [dI qq,dI zG,dI qn,dI qA,dS qB,dI qj,dI qr,dI ql,dL 2 qd qm,dL 5 qh qu,dI qw,dI qP,dI qQ,dL 4 (eA2 qd) qo]),(1,B.blk 28 [dI qV,dI zq,dI zr]),(2,bR 3 1 eI w2),(3,bR 3 1 eI e)],4,80⟩)):=
 by
 intro w2 w3 qq zG qn qA qB qj qr ql qm qu qw qP qQ qo qV zq zr t2 t3 t4 t11 t12 t13 t46 t47 t48 q2u q2t h0 h1
 subst h0 h1
 revert t48;revert t13;revert w3;exact qEW qAf qBC (fun e=>by exact⟨_,rfl,fun h=>by cases h⟩) fun w3 t13 t48=>by
  have:=qGp;have:=@qou.eq_1;have:=@Qx.eq_1;exact gA
theorem q5m:∀  (w2:List Int) (qq zG qn qA:Int) (qB:ByteArray) (qj qr ql:Int) (qm:List qc) (qu:List qb) (qw qP qQ:Int) (qo:List (q01 qc)) (qV zq zr:Int) (t2:List qa) (t3:List Bool) (t4:Int) (t11:Bool) (t12:Int) (t13 t46:List Int) (t47 t48:Int) (q2u:Nat),q2u=w2.length→XL2 evo 39 0 9 ⟨[(2,rL 8 qe t2),(3,rL 1 eB t3),(4,rI t4),(5,rP 0),(6,rP 1),(10,rO 2 1 q2u),(11,rB t11),(12,rI t12),(13,rL 1 eI t13),(15,rO 3 1 0),(46,rL 1 eI t46),(47,rI t47),(48,rI t48)],[(0,B.blk 39 [dI qq,dI zG,dI qn,dI qA,dS qB,dI qj,dI qr,dI ql,dL 2 qd qm,dL 5 qh qu,dI qw,dI qP,dI qQ,dL 4 (eA2 qd) qo]),(1,B.blk 28 [dI qV,dI zq,dI zr]),(2,bR 3 1 eI w2),(3,B.row 3 1 [])],4,80⟩=(zy (Qx w2 (qf.mk qq zG qn qA qB (qb.mk qj qr ql qm qu) qw qP qQ qo) (qg.mk qV zq zr) t2 t3 t4 t11 t12 t46 t47) ([],t13,t48)).bind (fun(e:List Int)=>some (Exit.exit 2,⟨[(2,rL 8 qe t2),(3,rL 1 eB t3),(4,rI t4),(5,rP 0),(6,rP 1),(10,rO 2 1 w2.length),(11,rB t11),(12,rI t12),(15,rO 3 1 e.length)],[(0,B.blk 39 [dI qq,dI zG,dI qn,dI qA,dS qB,dI qj,dI qr,dI ql,dL 2 qd qm,dL 5 qh qu,dI qw,dI qP,dI qQ,dL 4 (eA2 qd) qo]),(1,B.blk 28 [dI qV,dI zq,dI zr]),(2,bR 3 1 eI w2),(3,bR 3 1 eI e)],4,80⟩)):=by
 intro w2 qq zG qn qA qB qj qr ql qm qu qw qP qQ qo qV zq zr t2 t3 t4 t11 t12 t13 t46 t47 t48 q2u h0;subst h0;have h:=q6z w2 [] ((qf.mk qq zG qn qA qB (qb.mk qj qr ql qm qu) qw qP qQ qo)).School ((qf.mk qq zG qn qA qB (qb.mk qj qr ql qm qu) qw qP qQ qo)).Id ((qf.mk qq zG qn qA qB (qb.mk qj qr ql qm qu) qw qP qQ qo)).Version ((qf.mk qq zG qn qA qB (qb.mk qj qr ql qm qu) qw qP qQ qo)).From ((qf.mk qq zG qn qA qB (qb.mk qj qr ql qm qu) qw qP qQ qo)).Name ((qf.mk qq zG qn qA qB (qb.mk qj qr ql qm qu) qw qP qQ qo)).Need.Kind ((qf.mk qq zG qn qA qB (qb.mk qj qr ql qm qu) qw qP qQ qo)).Need.N ((qf.mk qq zG qn qA qB (qb.mk qj qr ql qm qu) qw qP qQ qo)).Need.Min ((qf.mk qq zG qn qA qB (qb.mk qj qr ql qm qu) qw qP qQ qo)).Need.Set ((qf.mk qq zG qn qA qB (qb.mk qj qr ql qm qu) qw qP qQ qo)).Need.L ((qf.mk qq zG qn qA qB (qb.mk qj qr ql qm qu) qw qP qQ qo)).Total ((qf.mk qq zG qn qA qB (qb.mk qj qr ql qm qu) qw qP qQ qo)).Own ((qf.mk qq zG qn qA qB (qb.mk qj qr ql qm qu) qw qP qQ qo)).Age ((qf.mk qq zG qn qA qB (qb.mk qj qr ql qm qu) qw qP qQ qo)).Exclude ((qg.mk qV zq zr)).Worst ((qg.mk qV zq zr)).Best ((qg.mk qV zq zr)).Pass t2 t3 t4 t11 t12 t13 t46 t47 t48 _ _ rfl rfl
 first
  | exact h
  | (simp only[rL,dL,bR,bZ,Nat.reduceAdd] at h;exact h)
def Z9 (b0:qf) (b1:qg) (t2:List qa) (t3:List Bool) (t4:Int):(List Int×Bool×Int)→Option ((List Int×Bool×Int)⊕(List Int×Bool))|(w2,t11,t12)=>if 0≤t12 then if(ZR Go.BinOp.andNot IntKind.i64 t12 t4 != 0)=Bool.true then some (Sum.inl (w2,t11,w64 (t12-1))) else if 0≤t12∧t12<((t3.length:Nat):Int) then Option.bind t3[Int.toNat t12]? fun(a:Bool)=>if(!a)=Bool.true then some (Sum.inl (w2,t11,w64 (t12-1))) else Option.bind (q13 b0.Need b1 t2 t12) fun(a2:Prod (List Int) Bool)=>if(!a2.2)=Bool.true then some (Sum.inl (w2,t11,w64 (t12-1))) else Option.bind (ZO t4) fun(a3:List Int)=>Option.bind (zy (Qx w2 b0 b1 t2 t3 t4 t11 t12 a3 ((a3.length:Nat):Int)) ([],(a2.1,0))) fun(a4:List Int)=>if(!t11)=Bool.true then some (Sum.inl (a4,Bool.true,w64 (t12-1))) else Option.bind (QR a4 w2) fun(a5:Int)=>if a5<0 then some (Sum.inl (a4,Bool.true,w64 (t12-1))) else some (Sum.inl (w2,t11,w64 (t12-1))) else none else some (Sum.inr (w2,t11))
theorem q7h:∀(w2:List Int) (qq zG qn qA:Int) (qB:ByteArray) (qj qr ql:Int) (qm:List qc) (qu:List qb) (qw qP qQ:Int) (qo:List (q01 qc)) (qV zq zr:Int) (t2:List qa) (t3:List Bool) (t4:Int) (t11:Bool) (t12:Int) (q2u:Nat),q2u=w2.length→XL2 evo 39 0 2 ⟨[(2,rL 8 qe t2),(3,rL 1 eB t3),(4,rI t4),(5,rP 0),(6,rP 1),(10,rO 2 1 q2u),(11,rB t11),(12,rI t12)],[(0,B.blk 39 [dI qq,dI zG,dI qn,dI qA,dS qB,dI qj,dI qr,dI ql,dL 2 qd qm,dL 5 qh qu,dI qw,dI qP,dI qQ,dL 4 (eA2 qd) qo]),(1,B.blk 28 [dI qV,dI zq,dI zr]),(2,bR 3 1 eI w2)],3,80⟩=(zy (Z9 (qf.mk qq zG qn qA qB (qb.mk qj qr ql qm qu) qw qP qQ qo) (qg.mk qV zq zr) t2 t3 t4) (w2,t11,t12)).bind (fun(e:List Int×Bool)=>some (Exit.exit 0,⟨[(10,rO 0 1 e.1.length),(11,rB e.2)],[(0,bR 3 1 eI e.1)],1,80⟩)):=
 by
 intro w2 qq zG qn qA qB qj qr ql qm qu qw qP qQ qo qV zq zr t2 t3 t4 t11 t12 q2u h0
 subst h0
 revert t12;revert t11;revert w2;exact qEW qDG qAJ (fun e=>by exact⟨_,rfl,fun h=>by cases h⟩) fun w2 t11 t12=>by
  have:=qGp;have:=@qpr.eq_1;have:=@qcg;have:=@q1X;have:=@q5m;have:=@q19;have:=@Z9.eq_1;exact gA
theorem q4X:∀  (qq zG qn qA:Int) (qB:ByteArray) (qj qr ql:Int) (qm:List qc) (qu:List qb) (qw qP qQ:Int) (qo:List (q01 qc)) (qV zq zr:Int) (t2:List qa) (t3:List Bool) (t4:Int) (t11:Bool) (t12:Int),XL2 evo 39 0 2 ⟨[(2,rL 8 qe t2),(3,rL 1 eB t3),(4,rI t4),(5,rP 0),(6,rP 1),(10,rO 2 1 0),(11,rB t11),(12,rI t12)],[(0,B.blk 39 [dI qq,dI zG,dI qn,dI qA,dS qB,dI qj,dI qr,dI ql,dL 2 qd qm,dL 5 qh qu,dI qw,dI qP,dI qQ,dL 4 (eA2 qd) qo]),(1,B.blk 28 [dI qV,dI zq,dI zr]),(2,B.row 3 1 [])],3,80⟩=(zy (Z9 (qf.mk qq zG qn qA qB (qb.mk qj qr ql qm qu) qw qP qQ qo) (qg.mk qV zq zr) t2 t3 t4) ([],t11,t12)).bind (fun(e:List Int×Bool)=>some (Exit.exit 0,⟨[(10,rO 0 1 e.1.length),(11,rB e.2)],[(0,bR 3 1 eI e.1)],1,80⟩)):=by
 intro qq zG qn qA qB qj qr ql qm qu qw qP qQ qo qV zq zr t2 t3 t4 t11 t12;have h:=q7h [] ((qf.mk qq zG qn qA qB (qb.mk qj qr ql qm qu) qw qP qQ qo)).School ((qf.mk qq zG qn qA qB (qb.mk qj qr ql qm qu) qw qP qQ qo)).Id ((qf.mk qq zG qn qA qB (qb.mk qj qr ql qm qu) qw qP qQ qo)).Version ((qf.mk qq zG qn qA qB (qb.mk qj qr ql qm qu) qw qP qQ qo)).From ((qf.mk qq zG qn qA qB (qb.mk qj qr ql qm qu) qw qP qQ qo)).Name ((qf.mk qq zG qn qA qB (qb.mk qj qr ql qm qu) qw qP qQ qo)).Need.Kind ((qf.mk qq zG qn qA qB (qb.mk qj qr ql qm qu) qw qP qQ qo)).Need.N ((qf.mk qq zG qn qA qB (qb.mk qj qr ql qm qu) qw qP qQ qo)).Need.Min ((qf.mk qq zG qn qA qB (qb.mk qj qr ql qm qu) qw qP qQ qo)).Need.Set ((qf.mk qq zG qn qA qB (qb.mk qj qr ql qm qu) qw qP qQ qo)).Need.L ((qf.mk qq zG qn qA qB (qb.mk qj qr ql qm qu) qw qP qQ qo)).Total ((qf.mk qq zG qn qA qB (qb.mk qj qr ql qm qu) qw qP qQ qo)).Own ((qf.mk qq zG qn qA qB (qb.mk qj qr ql qm qu) qw qP qQ qo)).Age ((qf.mk qq zG qn qA qB (qb.mk qj qr ql qm qu) qw qP qQ qo)).Exclude ((qg.mk qV zq zr)).Worst ((qg.mk qV zq zr)).Best ((qg.mk qV zq zr)).Pass t2 t3 t4 t11 t12 _ rfl
 first
  | exact h
  | (simp only[rL,dL,bR,bZ,Nat.reduceAdd] at h;exact h)
def q1h (x0:qf) (x1:qg) (x2:List qa) (x3:List Bool) (x4:Int):Option (List Int×Bool):=Option.bind (zy (Z9 x0 x1 x2 x3 x4) ([],(Bool.false,x4))) fun(a:Prod (List Int) Bool)=>some (a.1,a.2)
theorem q8W:∀(zL q0I zu QK:Int) (QL:ByteArray) (qU zM za:Int) (zb:List qc) (zN:List qb) (Qd ZS ZT:Int) (zw:List (q01 qc)) (ZQ JL JM:Int) (x2:List qa) (x3:List Bool) (x4:Int),ev 39 0 [R.agg [dI zL,dI q0I,dI zu,dI QK,dS QL,dI qU,dI zM,dI za,dL 2 qd zb,dL 5 qh zN,dI Qd,dI ZS,dI ZT,dL 4 (eA2 qd) zw],R.agg [dI ZQ,dI JL,dI JM],rL 8 qe x2,rL 1 eB x3,rI x4] []=(q1h (qf.mk zL q0I zu QK QL (qb.mk qU zM za zb zN) Qd ZS ZT zw) (qg.mk ZQ JL JM) x2 x3 x4).bind (fun(e:List Int×Bool)=>some (R.tup [rL 1 eI e.1,rB e.2],[])):=
 fun zL q0I zu QK QL qU zM za zb zN Qd ZS ZT zw ZQ JL JM x2 x3 x4=>by
  rw[qS qBJ qJR.2.2.2 qGD]
  have:=qGp;have:=@q4X;have:=@q1h.eq_1;exact gA
theorem qIX:okL 40 qkb:=qW (qk qDY) (by kernel_rfl) (by kernel_rfl)
def qIt:=JA_ @qkb.eq_1 (JA_ @Tryz.f40.eq_1 @qDY)
theorem qBt:lbO 40 2=qop:=QG (qk qDY) rfl
theorem qAc:okL 40 qop:=zZ qIX (qOq (i:=0) (by kernel_rfl))
def Qt (l:List Int) (t7:List Int) (t8:Int):(List Int×Int)→Option ((List Int×Int)⊕(List Int))|(out,t9)=>if t9<t8 then if 0≤t9∧t9<((t7.length:Nat):Int) then Option.bind t7[Int.toNat t9]? fun(a:Int)=>if 0≤a∧a<((l.length:Nat):Int) then Option.bind l[Int.toNat a]? fun(a2:Int)=>if out.length+1≤maxLen∧(out.length+1)*8≤140737488355328 then some (Sum.inl (out++[a2],w64 (t9+1))) else none else none else none else some (Sum.inr out)
theorem q4Q:∀(out l t7:List Int) (t8 t9:Int) (QZ:Nat),QZ=out.length→XL2 evo 40 0 2 ⟨[(0,rL 1 eI l),(4,rO 0 1 QZ),(7,rL 1 eI t7),(8,rI t8),(9,rI t9)],[(0,bR 3 1 eI out)],1,22⟩=(zy (Qt l t7 t8) (out,t9)).bind (fun(e:List Int)=>some (Exit.exit 0,⟨[(4,rO 0 1 e.length)],[(0,bR 3 1 eI e)],1,22⟩)):=
 by
 intro out l t7 t8 t9 QZ h0
 subst h0
 revert t9;revert out;exact qa4 qBt qAc (fun e=>by exact⟨_,rfl,fun h=>by cases h⟩) fun out t9=>by
  have:=qIt;have:=@qop.eq_1;have:=@Qt.eq_1;exact gA
theorem q3N:∀  (l t7:List Int) (t8 t9:Int),XL2 evo 40 0 2 ⟨[(0,rL 1 eI l),(4,rO 0 1 0),(7,rL 1 eI t7),(8,rI t8),(9,rI t9)],[(0,B.row 3 1 [])],1,22⟩=(zy (Qt l t7 t8) ([],t9)).bind (fun(e:List Int)=>some (Exit.exit 0,⟨[(4,rO 0 1 e.length)],[(0,bR 3 1 eI e)],1,22⟩)):=by
 intro l t7 t8 t9;have h:=q4Q [] l t7 t8 t9 _ rfl
 first
  | exact h
  | (simp only[rL,dL,bR,bZ,Nat.reduceAdd] at h;exact h)
def ZW (l:List Int) (at0:List Int):Option (List Int):=Option.bind (zy (Qt l at0 ((at0.length:Nat):Int)) ([],0)) fun(a:List Int)=>some a
theorem q6n:∀(l at0:List Int),ev 40 0 [rL 1 eI l,rL 1 eI at0] []=(ZW l at0).bind (fun(e:List Int)=>some (rL 1 eI e,[])):=
 fun l at0=>by
  rw[qS qDY qIf.2.2.2 qIX]
  have:=qIt;have:=@q3N;have:=@ZW.eq_1;exact gA
def JD (t67:Int) (v:qf) (v2:qg) (v3:Int) (v4:Int) (v5:List Int) (v6:List qa) (v7:List Bool):Option (Unit⊕qI):=Option.bind (ZO t67) fun(a:List Int)=>Option.bind (zP v6 a) fun(a2:List qa)=>Option.bind (JC v a2 v3) fun(a3:Bool)=>if(!a3)=Bool.true then some (Sum.inl ()) else Option.bind (q1h v v2 v6 v7 t67) fun(a4:Prod (List Int) Bool)=>if a4.2=Bool.true then Option.bind (ZW v5 a) fun(a5:List Int)=>some (Sum.inr (qI.mk a5 a4.1)) else some (Sum.inl ())
theorem q6d:∀(t67 JV qDV q7r qgO:Int) (qgP:ByteArray) (q4k q9W q5w:Int) (q5x:List qc) (q9X:List qb) (qdg qpK qpL:Int) (q7s:List (q01 qc)) (q9Y qdh qdi v3 v4:Int) (v5:List Int) (v6:List qa) (v7:List Bool),evr 15 (raO 15 19) (rbO 15 19) 9 (R.any::R.any::R.any::R.any::rP 0::rP 1::R.any::rP 2::rP 3::rP 4::R.any::rP 5::R.any::R.any::rP 6::rP 7::R.any::R.any::R.any::R.any::R.any::R.any::R.any::R.any::R.any::R.any::R.any::R.any::R.any::R.any::R.any::R.any::R.any::R.any::R.any::R.any::R.any::R.any::R.any::R.any::R.any::R.any::R.any::R.any::R.any::R.any::R.any::R.any::R.any::R.any::R.any::R.any::R.any::R.any::R.any::R.any::R.any::R.any::R.any::R.any::R.any::R.any::R.any::R.any::R.any::R.any::R.any::rI t67::qJ1) [(0,B.blk 39 [dI JV,dI qDV,dI q7r,dI qgO,dS qgP,dI q4k,dI q9W,dI q5w,dL 2 qd q5x,dL 5 qh q9X,dI qdg,dI qpK,dI qpL,dL 4 (eA2 qd) q7s]),(1,B.blk 28 [dI q9Y,dI qdh,dI qdi]),(2,B.blk 3 [dI v3]),(3,B.blk 48 [C.nils,C.nils]),(4,B.blk 49 [dI v4]),(5,B.blk 22 [dL 1 eI v5]),(6,B.blk 26 [dL 8 qe v6]),(7,B.blk 88 [dL 1 eB v7]),(8,B.ob (AO.lp 15 (R.any::R.any::R.any::R.any::rP 0::rP 1::R.any::rP 2::rP 3::rP 4::R.any::rP 5::R.any::R.any::rP 6::rP 7::qkM) [67] (raO 15 19) (rbO 15 19) LoopState.ready none))]=(JD t67 (qf.mk JV qDV q7r qgO qgP (qb.mk q4k q9W q5w q5x q9X) qdg qpK qpL q7s) (qg.mk q9Y qdh qdi) v3 v4 v5 v6 v7).bind (Sum.elim (fun(e:Unit)=>some (rB Bool.true,[(0,B.blk 39 [dI JV,dI qDV,dI q7r,dI qgO,dS qgP,dI q4k,dI q9W,dI q5w,dL 2 qd q5x,dL 5 qh q9X,dI qdg,dI qpK,dI qpL,dL 4 (eA2 qd) q7s]),(1,B.blk 28 [dI q9Y,dI qdh,dI qdi]),(2,B.blk 3 [dI v3]),(3,B.blk 48 [C.nils,C.nils]),(4,B.blk 49 [dI v4]),(5,B.blk 22 [dL 1 eI v5]),(6,B.blk 26 [dL 8 qe v6]),(7,B.blk 88 [dL 1 eB v7]),(8,B.ob (AO.lp 15 (R.any::R.any::R.any::R.any::rP 0::rP 1::R.any::rP 2::rP 3::rP 4::R.any::rP 5::R.any::R.any::rP 6::rP 7::qkM) [67] (raO 15 19) (rbO 15 19) LoopState.ready none))])) (fun(e:qI)=>some (rB Bool.false,[(0,B.blk 39 [dI JV,dI qDV,dI q7r,dI qgO,dS qgP,dI q4k,dI q9W,dI q5w,dL 2 qd q5x,dL 5 qh q9X,dI qdg,dI qpK,dI qpL,dL 4 (eA2 qd) q7s]),(1,B.blk 28 [dI q9Y,dI qdh,dI qdi]),(2,B.blk 3 [dI v3]),(3,B.blk 48 [dL 1 eI e.Taken,dL 1 eI e.Leaf]),(4,B.blk 49 [dI 0]),(5,B.blk 22 [dL 1 eI v5]),(6,B.blk 26 [dL 8 qe v6]),(7,B.blk 88 [dL 1 eB v7]),(8,B.ob (AO.lp 15 (R.any::R.any::R.any::R.any::rP 0::rP 1::R.any::rP 2::rP 3::rP 4::R.any::rP 5::R.any::R.any::rP 6::rP 7::qkM) [67] (raO 15 19) (rbO 15 19) LoopState.done (some Code.ret)))]))):=
 fun t67 JV qDV q7r qgO qgP q4k q9W q5w q5x q9X qdg qpK qpL q7s q9Y qdh qdi v3 v4 v5 v6 v7=>by
  rw[qh0 qnL qh9 (by decide) qui qpx.1 qpx.2]
  have:=qG3;have:=@qtP;have:=@quc;have:=@qaE.eq_1;have:=@q8w.eq_1;have:=@q1X;have:=@JK;have:=@q3C;have:=@q8W;have:=@q6n;have:=@JD.eq_1;have:=@qiA;exact gA
def QB (b1:qf) (b2:qg) (b3:Int) (b5:Int) (b6:List Int) (b7:List qa) (b8:List Bool) (b9:Int) (t19:List Int) (t20:Int):Int→Option (Int⊕(qI⊕Unit))|t21=>if t21<t20 then if 0≤t21∧t21<((t19.length:Nat):Int) then Option.bind t19[Int.toNat t21]? fun(a:Int)=>Option.bind (JD a b1 b2 b3 b5 b6 b7 b8) fun(a2:Sum Unit qI)=>Sum.elim (fun(a3:Unit)=>some (Sum.inl (w64 (t21+1)))) (fun(a4:qI)=>some (Sum.inr (Sum.inl a4))) a2 else none else some (Sum.inr (Sum.inr ()))
theorem q6v:∀(zT q1j zB Z0:Int) (Z1:ByteArray) (qX zU zh:Int) (zi:List qc) (zV:List qb) (Qn J6 J7:Int) (zC:List (q01 qc)) (Zw Jx Jy b3 b5:Int) (b6:List Int) (b7:List qa) (b8:List Bool) (b9:Int) (t19:List Int) (t20 t21:Int),XL2 evo 62 10 8 ⟨[(0,R.c (C.hd .yield 0)),(19,rL 1 eI t19),(20,rI t20),(21,rI t21)],[(0,B.ob (AO.lp 15 (R.any::R.any::R.any::R.any::rP 1::rP 2::R.any::rP 3::rP 4::rP 5::R.any::rP 6::R.any::R.any::rP 7::rP 8::qkM) [67] (raO 15 19) (rbO 15 19) LoopState.ready none)),(1,B.blk 39 [dI zT,dI q1j,dI zB,dI Z0,dS Z1,dI qX,dI zU,dI zh,dL 2 qd zi,dL 5 qh zV,dI Qn,dI J6,dI J7,dL 4 (eA2 qd) zC]),(2,B.blk 28 [dI Zw,dI Jx,dI Jy]),(3,B.blk 3 [dI b3]),(4,B.blk 48 [C.nils,C.nils]),(5,B.blk 49 [dI b5]),(6,B.blk 22 [dL 1 eI b6]),(7,B.blk 26 [dL 8 qe b7]),(8,B.blk 88 [dL 1 eB b8]),(9,B.blk 3 [dI b9])],10,30⟩=(zy (QB (qf.mk zT q1j zB Z0 Z1 (qb.mk qX zU zh zi zV) Qn J6 J7 zC) (qg.mk Zw Jx Jy) b3 b5 b6 b7 b8 b9 t19 t20) t21).bind (Sum.elim (fun(e:qI)=>some (Exit.ret,⟨[],[(0,B.ob (AO.lp 15 (R.any::R.any::R.any::R.any::rP 1::rP 2::R.any::rP 3::rP 4::rP 5::R.any::rP 6::R.any::R.any::rP 7::rP 8::qkM) [67] (raO 15 19) (rbO 15 19) LoopState.done (some Code.ret))),(1,B.blk 39 [dI zT,dI q1j,dI zB,dI Z0,dS Z1,dI qX,dI zU,dI zh,dL 2 qd zi,dL 5 qh zV,dI Qn,dI J6,dI J7,dL 4 (eA2 qd) zC]),(2,B.blk 28 [dI Zw,dI Jx,dI Jy]),(3,B.blk 3 [dI b3]),(4,B.blk 48 [dL 1 eI e.Taken,dL 1 eI e.Leaf]),(5,B.blk 49 [dI 0]),(6,B.blk 22 [dL 1 eI b6]),(7,B.blk 26 [dL 8 qe b7]),(8,B.blk 88 [dL 1 eB b8]),(9,B.blk 3 [dI b9])],10,30⟩)) (fun(e:Unit)=>some (Exit.exit 2,⟨[],[(0,B.ob (AO.lp 15 (R.any::R.any::R.any::R.any::rP 1::rP 2::R.any::rP 3::rP 4::rP 5::R.any::rP 6::R.any::R.any::rP 7::rP 8::qkM) [67] (raO 15 19) (rbO 15 19) LoopState.ready none)),(1,B.blk 39 [dI zT,dI q1j,dI zB,dI Z0,dS Z1,dI qX,dI zU,dI zh,dL 2 qd zi,dL 5 qh zV,dI Qn,dI J6,dI J7,dL 4 (eA2 qd) zC]),(2,B.blk 28 [dI Zw,dI Jx,dI Jy]),(3,B.blk 3 [dI b3]),(4,B.blk 48 [C.nils,C.nils]),(5,B.blk 49 [dI b5]),(6,B.blk 22 [dL 1 eI b6]),(7,B.blk 26 [dL 8 qe b7]),(8,B.blk 88 [dL 1 eB b8]),(9,B.blk 3 [dI b9])],10,30⟩))):=
 fun zT q1j zB Z0 Z1 qX zU zh zi zV Qn J6 J7 zC Zw Jx Jy b3 b5 b6 b7 b8 b9 t19 t20 t21=>by
  revert t21;exact qbe qDd qB4 (fun e=>by rcases e with _|_<;>exact⟨_,rfl,fun h=>by cases h⟩) fun x=>by
   have:=qG2;have:=@qnw.eq_1;have:=@q6d;have:=@QB.eq_1;exact gA
def q0w (b1:qf) (b2:qg) (b3:Int) (b5:Int) (b6:List Int) (b7:List qa) (b8:List Bool) (v:Int):Option (qI⊕Unit):=if 0≤v then Option.bind (zy (QU b1 b2 b3 b5 b6 b7 b8 v (w64 (1*2 ^ min (Int.toNat v) (IntKind.bits IntKind.i64)))) ([],0)) fun(a:List Int)=>if 0<a.length∧a.length<4611686018427387904∧okB Qy a=Bool.true then Option.bind (zy (QB b1 b2 b3 b5 b6 b7 b8 v (q0X Qy a) (((q0X Qy a).length:Nat):Int)) 0) fun(a2:Sum qI Unit)=>Sum.elim (fun(a3:qI)=>some (Sum.inl a3)) (fun(a4:Unit)=>some (Sum.inr ())) a2 else none else none
theorem q8s:∀(zT q1j zB Z0:Int) (Z1:ByteArray) (qX zU zh:Int) (zi:List qc) (zV:List qb) (Qn J6 J7:Int) (zC:List (q01 qc)) (Zw Jx Jy b3 b5:Int) (b6:List Int) (b7:List qa) (b8:List Bool) (v:Int),ev 62 10 [R.c (C.hd .yield 0),rP 9] [(0,B.ob (AO.lp 15 (R.any::R.any::R.any::R.any::rP 1::rP 2::R.any::rP 3::rP 4::rP 5::R.any::rP 6::R.any::R.any::rP 7::rP 8::qkM) [67] (raO 15 19) (rbO 15 19) LoopState.ready none)),(1,B.blk 39 [dI zT,dI q1j,dI zB,dI Z0,dS Z1,dI qX,dI zU,dI zh,dL 2 qd zi,dL 5 qh zV,dI Qn,dI J6,dI J7,dL 4 (eA2 qd) zC]),(2,B.blk 28 [dI Zw,dI Jx,dI Jy]),(3,B.blk 3 [dI b3]),(4,B.blk 48 [C.nils,C.nils]),(5,B.blk 49 [dI b5]),(6,B.blk 22 [dL 1 eI b6]),(7,B.blk 26 [dL 8 qe b7]),(8,B.blk 88 [dL 1 eB b8]),(9,B.blk 3 [dI v])]=(q0w (qf.mk zT q1j zB Z0 Z1 (qb.mk qX zU zh zi zV) Qn J6 J7 zC) (qg.mk Zw Jx Jy) b3 b5 b6 b7 b8 v).bind (Sum.elim (fun(e:qI)=>some (R.tup [],[(0,B.ob (AO.lp 15 (R.any::R.any::R.any::R.any::rP 1::rP 2::R.any::rP 3::rP 4::rP 5::R.any::rP 6::R.any::R.any::rP 7::rP 8::qkM) [67] (raO 15 19) (rbO 15 19) LoopState.done (some Code.ret))),(1,B.blk 39 [dI zT,dI q1j,dI zB,dI Z0,dS Z1,dI qX,dI zU,dI zh,dL 2 qd zi,dL 5 qh zV,dI Qn,dI J6,dI J7,dL 4 (eA2 qd) zC]),(2,B.blk 28 [dI Zw,dI Jx,dI Jy]),(3,B.blk 3 [dI b3]),(4,B.blk 48 [dL 1 eI e.Taken,dL 1 eI e.Leaf]),(5,B.blk 49 [dI 0]),(6,B.blk 22 [dL 1 eI b6]),(7,B.blk 26 [dL 8 qe b7]),(8,B.blk 88 [dL 1 eB b8]),(9,B.blk 3 [dI v])])) (fun(e:Unit)=>some (R.tup [],[(0,B.ob (AO.lp 15 (R.any::R.any::R.any::R.any::rP 1::rP 2::R.any::rP 3::rP 4::rP 5::R.any::rP 6::R.any::R.any::rP 7::rP 8::qkM) [67] (raO 15 19) (rbO 15 19) LoopState.ready none)),(1,B.blk 39 [dI zT,dI q1j,dI zB,dI Z0,dS Z1,dI qX,dI zU,dI zh,dL 2 qd zi,dL 5 qh zV,dI Qn,dI J6,dI J7,dL 4 (eA2 qd) zC]),(2,B.blk 28 [dI Zw,dI Jx,dI Jy]),(3,B.blk 3 [dI b3]),(4,B.blk 48 [C.nils,C.nils]),(5,B.blk 49 [dI b5]),(6,B.blk 22 [dL 1 eI b6]),(7,B.blk 26 [dL 8 qe b7]),(8,B.blk 88 [dL 1 eB b8]),(9,B.blk 3 [dI v])]))):=
 fun zT q1j zB Z0 Z1 qX zU zh zi zV Qn J6 J7 zC Zw Jx Jy b3 b5 b6 b7 b8 v=>by
  rw[qS qyo qIs.2.2.2 qHX]
  have:=qG2;have:=@q4M;have:=qHy q7l;have:=@q6v;have:=@q0w.eq_1;exact gA
def zH (x0:qf) (x1:qg) (x2:List qa) (x3:Int):Option (qI×Int):=Option.bind (Qe x0 x1) fun(a:Int)=>if(a != 0)=Bool.true then some (qI.mk [] [],a) else Option.bind (zy (Zb x0 x1 x3 0 x2 x2 ((x2.length:Nat):Int)) ([],0)) fun(a2:List Int)=>if 10<((a2.length:Nat):Int) then some (qI.mk [] [],2) else Option.bind (zP x2 a2) fun(a3:List qa)=>Option.bind (q2G x0.Need x1 a3) fun(a4:Prod (List Bool) Int)=>if(a4.2 != 0)=Bool.true then some (qI.mk [] [],a4.2) else Option.bind (q0w x0 x1 x3 0 a2 a3 a4.1 ((a3.length:Nat):Int)) fun(a5:Sum qI Unit)=>Sum.elim (fun(a6:qI)=>some (a6,0)) (fun(a7:Unit)=>some (qI.mk [] [],31)) a5
theorem q4y:∀(zL q0I zu QK:Int) (QL:ByteArray) (qU zM za:Int) (zb:List qc) (zN:List qb) (Qd ZS ZT:Int) (zw:List (q01 qc)) (ZQ JL JM:Int) (x2:List qa) (x3:Int),ev 15 0 [R.agg [dI zL,dI q0I,dI zu,dI QK,dS QL,dI qU,dI zM,dI za,dL 2 qd zb,dL 5 qh zN,dI Qd,dI ZS,dI ZT,dL 4 (eA2 qd) zw],R.agg [dI ZQ,dI JL,dI JM],rL 8 qe x2,rI x3] []=(zH (qf.mk zL q0I zu QK QL (qb.mk qU zM za zb zN) Qd ZS ZT zw) (qg.mk ZQ JL JM) x2 x3).bind (fun(e:qI×Int)=>some (R.tup [R.agg [dL 1 eI e.1.Taken,dL 1 eI e.1.Leaf],rI e.2],[])):=
 fun zL q0I zu QK QL qU zM za zb zN Qd ZS ZT zw ZQ JL JM x2 x3=>by
  rw[qS qy8 qJy.2.2.2 qHw]
  have:=qG3;have:=@q5s;have:=@q5j;have:=@JK;have:=@q9j;have:=@qar;have:=@q8s;have:=@zH.eq_1;have:=@qiA;exact gA
theorem qGN:okL 95 qks:=qW (qk qAe) (by kernel_rfl) (by kernel_rfl)
def qEt:=JA_ @qks.eq_1 (JA_ @Tryz.f95.eq_1 @qAe)
theorem qsR:lbO 95 5=qjs:=QG (qk qAe) rfl
theorem qt2:okL 95 qjs:=zZ qGN (qOq (i:=0) (by kernel_rfl))
def ZB (x:(qb×Int×List qv)):List R×List (Nat×B):=([R.c (C.own 0 6 0 x.2.2.length),R.agg [C.d (D.int .i64 x.1.Kind),C.d (D.int .i64 x.1.N),C.d (D.int .i64 x.1.Min),C.d (D.sl 2 x.1.Set.length (x.1.Set.flatMap qd)),C.d (D.sl 5 x.1.L.length (x.1.L.flatMap qh))],R.c (C.d (D.int .i64 x.2.1))],[(0,B.row 150 6 ((x.2.2.flatMap qR).map C.d))])
def ZV:(Unit⊕(List qv))→R×List (Nat×B):=Sum.elim (fun(e:Unit)=>(R.tup [R.c (C.d (D.sl 6 0 [])),R.c (C.d (D.bool Bool.false))],[])) (fun(e:List qv)=>(R.tup [R.c (C.own 0 6 0 e.length),R.c (C.d (D.bool Bool.true))],[(0,B.row 150 6 ((e.flatMap qR).map C.d))]))
def q0n (rF:(qb×Int×List qv)→Option (Unit⊕(List qv))) (n:qb) (deep:Int):(List qv×Int)→Option ((List qv×Int)⊕(Unit⊕(List qv)))|(out,i)=>if i<((n.L.length:Nat):Int) then if 0≤i∧i<((n.L.length:Nat):Int) then Option.bind n.L[Int.toNat i]? fun(a2:qb)=>Option.bind (rF (a2,(w64 (deep+1),out))) fun(a3:Sum Unit (List qv))=>Sum.elim (fun(a4:Unit)=>some (Sum.inr (Sum.inl ()))) (fun(a5:List qv)=>some (Sum.inl (a5,w64 (i+1)))) a3 else none else some (Sum.inr (Sum.inr out))
theorem q6r (rE:Orc) (rF:(qb×Int×List qv)→Option (Unit⊕(List qv))) (hF:∀y,rE (.fn 95) 0 (ZB y).1 (ZB y).2=(rF y).bind fun e=>some (ZV e)) (hM:∀g k a G,g≠95→rE (.fn g) k a G=ev g k a G) (hR:∀g asg bd k a G,rE (.rd g asg bd) k a G=evr g asg bd k a G):∀(out:List qv) (qz n_N qM:Int) (qN:List qc) (n_L:List qb) (deep i:Int) (QZ:Nat),QZ=out.length→XL2 rE 95 0 5 ⟨[(0,rO 0 6 QZ),(2,rI deep),(4,rP 1),(8,rI i)],[(0,bR 150 6 qR out),(1,B.blk 36 [dI qz,dI n_N,dI qM,dL 2 qd qN,dL 5 qh n_L])],2,47⟩=(zy (q0n rF (qb.mk qz n_N qM qN n_L) deep) (out,i)).bind (Sum.elim (fun(e:Unit)=>some (Exit.ret,⟨[(0,R.c (C.any)),(6,R.c (C.nils)),(7,rB Bool.false)],[],0,47⟩)) (fun(e:List qv)=>some (Exit.exit 0,⟨[(0,rO 0 6 e.length),(6,R.any),(7,R.any)],[(0,bR 150 6 qR e)],1,47⟩))):=
 by
 intro out qz n_N qM qN n_L deep i QZ h0
 subst h0
 revert i;revert out;exact qa4 qsR qt2 (fun e=>by rcases e with _|_<;>exact⟨_,rfl,fun h=>by cases h⟩) fun out i=>by
  have hF':∀(qz n_N qM:Int) (qN:List qc) (n_L:List qb) (deep:Int) (out:List qv) (QZ:Nat),QZ=out.length→rE (.fn 95) 0 [rO 0 6 QZ,R.agg [dI qz,dI n_N,dI qM,dL 2 qd qN,dL 5 qh n_L],rI deep] [(0,bR 150 6 qR out)]=(rF ((qb.mk qz n_N qM qN n_L),deep,out)).bind (Sum.elim (fun(e:Unit)=>some (R.tup [R.c (C.d (D.sl 6 0 [])),rB Bool.false],[])) (fun(e:List qv)=>some (R.tup [rO 0 6 e.length,rB Bool.true],[(0,bR 150 6 qR e)]))):=by intro qz n_N qM qN n_L deep out QZ h0;subst h0;exact(hF ((qb.mk qz n_N qM qN n_L),deep,out)).trans (by congr 1;funext e;rcases e with _|_<;>rfl)
  have:=qEt;have:=@qjs.eq_1;have:=@q0n.eq_1;exact gA
def q0l (rF:(qb×Int×List qv)→Option (Unit⊕(List qv))):(qb×Int×List qv)→Option (Unit⊕(List qv))|(n,deep,out)=>if 100<deep then some (Sum.inl ()) else if 10000≤((out.length:Nat):Int) then some (Sum.inl ()) else if out.length+1≤maxLen∧(out.length+1)*80≤140737488355328 then Option.bind (zy (q0n rF n deep) (out++[qv.mk n deep],0)) fun(a2:Sum Unit (List qv))=>Sum.elim (fun(a3:Unit)=>some (Sum.inl ())) (fun(a4:List qv)=>some (Sum.inr a4)) a2 else none
theorem q50:q84 95 0 ZB ZV q0l:=by
 intro rE rF hF hM hR x
 obtain⟨n,deep,out⟩:=x
 show qaJ rE 95 0 [rO 0 6 out.length,R.agg [dI n.Kind,dI n.N,dI n.Min,dL 2 qd n.Set,dL 5 qh n.L],rI deep] [(0,bR 150 6 qR out)]=_
 have hF':∀(qz n_N qM:Int) (qN:List qc) (n_L:List qb) (deep:Int) (out:List qv) (QZ:Nat),QZ=out.length→rE (.fn 95) 0 [rO 0 6 QZ,R.agg [dI qz,dI n_N,dI qM,dL 2 qd qN,dL 5 qh n_L],rI deep] [(0,bR 150 6 qR out)]=(rF ((qb.mk qz n_N qM qN n_L),deep,out)).bind (Sum.elim (fun(e:Unit)=>some (R.tup [R.c (C.d (D.sl 6 0 [])),rB Bool.false],[])) (fun(e:List qv)=>some (R.tup [rO 0 6 e.length,rB Bool.true],[(0,bR 150 6 qR e)]))):=by intro qz n_N qM qN n_L deep out QZ h0;subst h0;exact(hF ((qb.mk qz n_N qM qN n_L),deep,out)).trans (by congr 1;funext e;rcases e with _|_<;>rfl)
 rw[q4u qAe qGN]
 have:=qEt;have:=q6r rE rF hF hM hR;have:=@q0l.eq_1;have:=@ZV.eq_1;exact gA
theorem q3d:∀x y,ZB x=ZB y→x=y:=by
 rintro⟨⟨qDJ,qDK,qDL,qDM,qDN⟩,a1,a2⟩ ⟨⟨qDO,qDP,qDQ,qDR,qDS⟩,b1,b2⟩ h
 simp only[ZB,Prod.mk.injEq,List.cons.injEq,R.c.injEq,R.agg.injEq,R.tup.injEq,C.d.injEq,C.own.injEq,C.ptr.injEq,C.eptr.injEq,D.int.injEq,D.bool.injEq,D.str.injEq,D.sl.injEq,B.blk.injEq,B.row.injEq,q0J,q2C,q1z,q1A,q20,q1Z,q4g,q42,q3Z,q0M,true_and,and_true,qOJ] at h
 simp only[h]
theorem q7K:∀x y,ZV x=ZV y→x=y:=by
 rintro(_|a1) (_|b1) h<;>simp only[Sum.elim_inl,Sum.elim_inr,ZV,Prod.mk.injEq,List.cons.injEq,R.c.injEq,R.agg.injEq,R.tup.injEq,C.d.injEq,C.own.injEq,C.ptr.injEq,C.eptr.injEq,D.int.injEq,D.bool.injEq,D.str.injEq,D.sl.injEq,B.blk.injEq,B.row.injEq,q0J,q2C,q1z,q1A,q20,q1Z,q4g,q42,q3Z,q0M,true_and,and_true,qOJ,reduceCtorEq,false_and,and_false] at h<;>simp only[h]
def Zx:(qb×Int×List qv)→Option (Unit⊕(List qv)):=q8k 95 0 ZB ZV
theorem qay (x:(qb×Int×List qv)):Zx x=q0l Zx x:=qcI qE8.2.2.2 q3d q7K q50 x
theorem q9H (n:qb) (deep:Int) (out:List qv):ev 95 0 [rO 0 6 out.length,R.agg [dI n.Kind,dI n.N,dI n.Min,dL 2 qd n.Set,dL 5 qh n.L],rI deep] [(0,bR 150 6 qR out)]=(Zx (n,deep,out)).bind (Sum.elim (fun(e:Unit)=>some (R.tup [R.c (C.d (D.sl 6 0 [])),rB Bool.false],[])) (fun(e:List qv)=>some (R.tup [rO 0 6 e.length,rB Bool.true],[(0,bR 150 6 qR e)]))):=(q99 qE8.2.2.2 q3d q50 (n,deep,out)).trans (by congr 1;funext e;rcases e with _|_<;>rfl)
theorem qah:∀(qz n_N qM:Int) (qN:List qc) (n_L:List qb) (deep:Int) (out:List qv) (QZ:Nat),QZ=out.length→ev 95 0 [rO 0 6 QZ,R.agg [dI qz,dI n_N,dI qM,dL 2 qd qN,dL 5 qh n_L],rI deep] [(0,bR 150 6 qR out)]=(Zx ((qb.mk qz n_N qM qN n_L),deep,out)).bind (Sum.elim (fun(e:Unit)=>some (R.tup [R.c (C.d (D.sl 6 0 [])),rB Bool.false],[])) (fun(e:List qv)=>some (R.tup [rO 0 6 e.length,rB Bool.true],[(0,bR 150 6 qR e)]))):=
 by
 intro qz n_N qM qN n_L deep out QZ h0
 subst h0
 exact q9H (qb.mk qz n_N qM qN n_L) deep out
def q17 (n:qb) (deep:Int):(List qv×Int)→Option ((List qv×Int)⊕(Unit⊕(List qv)))|(out,i)=>if i<((n.L.length:Nat):Int) then if 0≤i∧i<((n.L.length:Nat):Int) then Option.bind n.L[Int.toNat i]? fun(a:qb)=>Option.bind (Zx (a,(w64 (deep+1),out))) fun(a2:Sum Unit (List qv))=>Sum.elim (fun(a3:Unit)=>some (Sum.inr (Sum.inl ()))) (fun(a4:List qv)=>some (Sum.inl (a4,w64 (i+1)))) a2 else none else some (Sum.inr (Sum.inr out))
theorem q97:∀(out:List qv) (qz n_N qM:Int) (qN:List qc) (n_L:List qb) (deep i:Int) (QZ:Nat),QZ=out.length→XL2 evo 95 0 5 ⟨[(0,rO 0 6 QZ),(2,rI deep),(4,rP 1),(8,rI i)],[(0,bR 150 6 qR out),(1,B.blk 36 [dI qz,dI n_N,dI qM,dL 2 qd qN,dL 5 qh n_L])],2,47⟩=(zy (q17 (qb.mk qz n_N qM qN n_L) deep) (out,i)).bind (Sum.elim (fun(e:Unit)=>some (Exit.ret,⟨[(0,R.c (C.any)),(6,R.c (C.nils)),(7,rB Bool.false)],[],0,47⟩)) (fun(e:List qv)=>some (Exit.exit 0,⟨[(0,rO 0 6 e.length),(6,R.any),(7,R.any)],[(0,bR 150 6 qR e)],1,47⟩))):=
 by
 intro out qz n_N qM qN n_L deep i QZ h0
 subst h0
 revert i;revert out;exact qa4 qsR qt2 (fun e=>by rcases e with _|_<;>exact⟨_,rfl,fun h=>by cases h⟩) fun out i=>by
  have:=qEt;have:=@qjs.eq_1;have:=@qah;have:=@q17.eq_1;exact gA
theorem q6W:∀(q38 q5X q3P:Int) (q3Q:List qc) (q5Y:List qb) (q9Z qz n_N qM:Int) (qN:List qc) (n_L:List qb) (deep i:Int),XL2 evo 95 0 5 ⟨[(0,rO 0 6 1),(2,rI deep),(4,rP 1),(8,rI i)],[(0,B.row 150 6 [dI q38,dI q5X,dI q3P,dL 2 qd q3Q,dL 5 qh q5Y,dI q9Z]),(1,B.blk 36 [dI qz,dI n_N,dI qM,dL 2 qd qN,dL 5 qh n_L])],2,47⟩=(zy (q17 (qb.mk qz n_N qM qN n_L) deep) ([(qv.mk (qb.mk q38 q5X q3P q3Q q5Y) q9Z)],i)).bind (Sum.elim (fun(e:Unit)=>some (Exit.ret,⟨[(0,R.c (C.any)),(6,R.c (C.nils)),(7,rB Bool.false)],[],0,47⟩)) (fun(e:List qv)=>some (Exit.exit 0,⟨[(0,rO 0 6 e.length),(6,R.any),(7,R.any)],[(0,bR 150 6 qR e)],1,47⟩))):=by
 intro q38 q5X q3P q3Q q5Y q9Z qz n_N qM qN n_L deep i;have h:=q97 [(qv.mk (qb.mk q38 q5X q3P q3Q q5Y) q9Z)] ((qb.mk qz n_N qM qN n_L)).Kind ((qb.mk qz n_N qM qN n_L)).N ((qb.mk qz n_N qM qN n_L)).Min ((qb.mk qz n_N qM qN n_L)).Set ((qb.mk qz n_N qM qN n_L)).L deep i _ rfl
 first
  | exact h
  | (simp only[rL,dL,bR,bZ,Nat.reduceAdd] at h;exact h)
def q3m (n:qb) (deep:Int):Option (Unit⊕(List qv)):=if 100<deep then some (Sum.inl ()) else if 1≤maxLen then Option.bind (zy (q17 n deep) ([qv.mk n deep],0)) fun(a:Sum Unit (List qv))=>Sum.elim (fun(a2:Unit)=>some (Sum.inl ())) (fun(a3:List qv)=>some (Sum.inr a3)) a else none
theorem qd2:∀(qz n_N qM:Int) (qN:List qc) (n_L:List qb) (deep:Int),ev 95 0 [R.c (C.nils),R.agg [dI qz,dI n_N,dI qM,dL 2 qd qN,dL 5 qh n_L],rI deep] []=(q3m (qb.mk qz n_N qM qN n_L) deep).bind (Sum.elim (fun(e:Unit)=>some (R.tup [R.c (C.d (D.sl 6 0 [])),rB Bool.false],[])) (fun(e:List qv)=>some (R.tup [rO 0 6 e.length,rB Bool.true],[(0,bR 150 6 qR e)]))):=
 fun qz n_N qM qN n_L deep=>by
  rw[qS qAe qE8.2.2.2 qGN]
  have:=qEt;have:=@q6W;have:=@q3m.eq_1;exact gA
theorem qNz:okL 93 qmr:=qW (qk qFr) (by kernel_rfl) (by kernel_rfl)
def qMr:=JA_ @qmr.eq_1 (JA_ @Tryz.f93.eq_1 @qFr)
def q1R (a:qc) (b:qc):Option Bool:=if a.School<b.School then some Bool.true else if(a.School==b.School)=Bool.true then some (Op.bytesLess (ByteArray.toList a.Code) (ByteArray.toList b.Code)) else some Bool.false
def Qm (a:qc) (b:qc):Bool:=if a.School<b.School then Bool.true else if(a.School==b.School)=Bool.true then Op.bytesLess (ByteArray.toList a.Code) (ByteArray.toList b.Code) else Bool.false
theorem q7U (a b:qc):q1R a b=some (Qm a b):=by
 unfold q1R Qm
 simp only[Zm]
theorem q0o:∀(JU:Int) (q3p:ByteArray) (q3O:Int) (q9U:ByteArray),ev 93 0 [R.agg [dI JU,dS q3p],R.agg [dI q3O,dS q9U]] []=some (rB (Qm (qc.mk JU q3p) (qc.mk q3O q9U)),[]):=
 fun JU q3p q3O q9U=>by
  have h:ev 93 0 [R.agg [dI JU,dS q3p],R.agg [dI q3O,dS q9U]] []=(q1R (qc.mk JU q3p) (qc.mk q3O q9U)).bind (fun(e:Bool)=>some (rB e,[])):=by
   rw[qS qFr qJ4.2.2.2 qNz]
   have:=qMr;have:=@q1R.eq_1;exact gA
  rw[q7U] at h
  exact h
theorem qKm:okL 11 qm9:=qW (qk qGr) (by kernel_rfl) (by kernel_rfl)
def qKI:=JA_ @qm9.eq_1 (JA_ @Tryz.f11.eq_1 @qGr)
theorem qLV:okL 26 qoY:=qW (qk qFA) (by kernel_rfl) (by kernel_rfl)
def qMz:=JA_ @qoY.eq_1 (JA_ @Tryz.f26.eq_1 @qFA)
theorem qLU:okL 51 qnU:=qW (qk qFd) (by kernel_rfl) (by kernel_rfl)
def qLA:=JA_ @qnU.eq_1 (JA_ @Tryz.f51.eq_1 @qFd)
theorem qMC:okL 52 qmL:=qW (qk qFD) (by kernel_rfl) (by kernel_rfl)
def qKJ:=JA_ @qmL.eq_1 (JA_ @Tryz.f52.eq_1 @qFD)
def qs (most:Int) (d:qi):Option (Int×qi):=if((d.L.length:Nat):Int)≤d.At then some (0,d) else if 0≤d.At∧d.At<((d.L.length:Nat):Int) then Option.bind d.L[Int.toNat d.At]? fun(a:Int)=>if most=0 then none else if most=0 then none else some (Int.tmod (w64 (Int.tmod a most+most)) most,qi.mk d.L (w64 (d.At+1))) else none
theorem ZH:∀(most:Int) (d_L:List Int) (q8L:Int),ev 52 1 [rP 0,rI most] [(0,B.blk 106 [dL 1 eI d_L,dI q8L])]=(qs most (qi.mk d_L q8L)).bind (fun(e:Int×qi)=>some (rI e.1,[(0,B.blk 106 [dL 1 eI e.2.L,dI e.2.At])])):=
 fun most d_L q8L=>by
  rw[qS qFD qJs.2.2.2 qMC]
  have:=qKJ;have:=@qs.eq_1;exact gA
theorem qMO:okL 92 qoA:=qW (qk qGg) (by kernel_rfl) (by kernel_rfl)
def qMk:=JA_ @qoA.eq_1 (JA_ @Tryz.f92.eq_1 @qGg)
theorem qMF:okL 53 qn3:=qW (qk qFh) (by kernel_rfl) (by kernel_rfl)
def qNs:=JA_ @qn3.eq_1 (JA_ @Tryz.f53.eq_1 @qFh)
def q3I:Option (List ByteArray):=
 some [ByteArray.mk (List.toArray [65,49]),ByteArray.mk (List.toArray [66,49]),ByteArray.mk (List.toArray [66,50]),ByteArray.mk (List.toArray [67,49]),ByteArray.mk (List.toArray [68,49]),ByteArray.mk (List.toArray [69,57])]
def Q2:List ByteArray:=
 [ByteArray.mk (List.toArray [65,49]),ByteArray.mk (List.toArray [66,49]),ByteArray.mk (List.toArray [66,50]),ByteArray.mk (List.toArray [67,49]),ByteArray.mk (List.toArray [68,49]),ByteArray.mk (List.toArray [69,57])]
theorem qaA:q3I=some (Q2):=by
 unfold q3I Q2
 simp only[Zm]
theorem q65:ev 53 0 [] []=some (R.c (C.d (D.sl 1 (Q2).length ((Q2).flatMap eS))),[]):=
 by
  have h:ev 53 0 [] []=(q3I).bind (fun(e:List ByteArray)=>some (rL 1 eS e,[])):=by
   rw[qS qFh qIV.2.2.2 qMF]
   have:=qNs;have:=@q3I.eq_1;exact gA
  rw[qaA] at h
  exact h
def JZ (d:qi):Option (qc×qi):=Option.bind (qs 6 d) fun(a:Prod Int qi)=>if 0≤a.1∧a.1<6 then Option.bind [(1:Int),1,1,2,2,3][Int.toNat a.1]? fun(a2:Int)=>Option.bind (qs ((Q2.length:Nat):Int) a.2) fun(a3:Prod Int qi)=>if 0≤a3.1∧a3.1<((Q2.length:Nat):Int) then Option.bind Q2[Int.toNat a3.1]? fun(a4:ByteArray)=>some (qc.mk a2 a4,a3.2) else none else none
theorem q5e:∀(d_L:List Int) (q8L:Int),ev 92 1 [rP 0] [(0,B.blk 106 [dL 1 eI d_L,dI q8L])]=(JZ (qi.mk d_L q8L)).bind (fun(e:qc×qi)=>some (R.agg [dI e.1.School,dS e.1.Code],[(0,B.blk 106 [dL 1 eI e.2.L,dI e.2.At])])):=
 fun d_L q8L=>by
  rw[qS qGg qJE.2.2.2 qMO]
  have:=qMk;have:=@ZH;have:=@q65;have:=@JZ.eq_1;exact gA
theorem qIH:okL 94 qkc:=qW (qk qED) (by kernel_rfl) (by kernel_rfl)
def qJz:=JA_ @qkc.eq_1 (JA_ @Tryz.f94.eq_1 @qED)
theorem qyZ:lbO 94 9=qpp:=QG (qk qED) rfl
theorem qzv:okL 94 qpp:=zZ qIH (qOq (i:=0) (by kernel_rfl))
theorem qv0:okL 136 qci:=qW (qk qnk) (by kernel_rfl) (by kernel_rfl)
def qug:=JA_ @qci.eq_1 (JA_ @Tryz.f136.eq_1 @qnk)
theorem qv8:lbO 136 4=qiu:=QG (qk qnk) rfl
theorem qwl:okL 136 qiu:=zZ qv0 (qOq (i:=0) (by kernel_rfl))
theorem quT:lbO 136 8=qis:=QG (qk qnk) rfl
theorem qvP:okL 136 qis:=zZ qv0 (qOq (i:=1) (by kernel_rfl))
def JW (out:List qc) (d:qi) (c:qc) (many:Int) (k:Int):Int→Option (Int⊕Int)|at0=>if at0<((out.length:Nat):Int) then if 0≤at0∧at0<((out.length:Nat):Int) then Option.bind out[Int.toNat at0]? fun(a:qc)=>if Qm a c=Bool.true then some (Sum.inl (w64 (at0+1))) else some (Sum.inr at0) else none else some (Sum.inr at0)
theorem qaB:∀(out:List qc) (d_L:List Int) (q8L q1W:Int) (q6c:ByteArray) (many k at0:Int) (QZ:Nat),QZ=out.length→XL2 evo 136 1 8 ⟨[(0,rP 0),(3,rI many),(4,rO 1 2 QZ),(5,rI k),(6,rP 2),(7,rI at0)],[(0,B.blk 106 [dL 1 eI d_L,dI q8L]),(1,bR 55 2 qd out),(2,B.blk 55 [dI q1W,dS q6c])],3,61⟩=(zy (JW out (qi.mk d_L q8L) (qc.mk q1W q6c) many k) at0).bind (fun(e:Int)=>some (Exit.exit 2,⟨[(0,rP 0),(3,rI many),(4,rO 1 2 out.length),(5,rI k),(6,rP 2),(7,rI e)],[(0,B.blk 106 [dL 1 eI d_L,dI q8L]),(1,bR 55 2 qd out),(2,B.blk 55 [dI q1W,dS q6c])],3,61⟩)):=
 by
 intro out d_L q8L q1W q6c many k at0 QZ h0
 subst h0
 revert at0;exact qbe quT qvP (fun e=>by exact⟨_,rfl,fun h=>by cases h⟩) fun x=>by
  have:=qug;have:=@qis.eq_1;have:=@q0o;have:=@JW.eq_1;exact gA
end
noncomputable section
open Go.RowKit
set_option maxRecDepth 20000
set_option maxHeartbeats 8000000
def ZZ (many:Int):(List qc×qi×Int)→Option ((List qc×qi×Int)⊕(List qc×qi))|(out,d,k)=>if k<many then Option.bind (JZ d) fun(a:Prod qc qi)=>Option.bind (zy (JW out a.2 a.1 many k) 0) fun(a2:Int)=>if a2<((out.length:Nat):Int) then if 0≤a2∧a2<((out.length:Nat):Int) then Option.bind out[Int.toNat a2]? fun(a3:qc)=>if(a3.School==a.1.School)=Bool.true∧(ByteArray.toList a3.Code==ByteArray.toList a.1.Code)=Bool.true then some (Sum.inl (out,a.2,w64 (k+1))) else if out.length+1≤maxLen∧(out.length+1)*24≤140737488355328 then if 0≤w64 (a2+1)∧w64 (a2+1)≤((out.length+1:Nat):Int) then if w64 (a2+1)=0∨w64 (a2+1)<((out.length+1:Nat):Int) then if 0≤a2∧a2≤((out.length+1:Nat):Int) then if a2=0∨a2<((out.length+1:Nat):Int) then if(List.take (out.length+1-Int.toNat a2) (List.drop (Int.toNat a2) (out++[qc.mk 0 (ByteArray.mk (List.toArray []))]))).length*2=(out.length+1-Int.toNat a2)*2∧Int.toNat (w64 (a2+1))*2+(out.length+1-Int.toNat (w64 (a2+1)))*2≤(out.length+1)*2 then if 0≤a2∧a2<((out.length+1:Nat):Int) then if Int.toNat a2*2+2≤(out.length+1)*2 then some (Sum.inl (List.set (spl (out++[qc.mk 0 (ByteArray.mk (List.toArray []))]) (Int.toNat (w64 (a2+1))) (List.take (min (out.length+1-Int.toNat a2) (out.length+1-Int.toNat (w64 (a2+1)))) (List.take (out.length+1-Int.toNat a2) (List.drop (Int.toNat a2) (out++[qc.mk 0 (ByteArray.mk (List.toArray []))]))))) (Int.toNat a2) a.1,a.2,w64 (k+1))) else none else none else none else if Int.toNat (w64 (a2+1))*2+(out.length+1-Int.toNat (w64 (a2+1)))*2≤(out.length+1)*2 then if 0≤a2∧a2<((out.length+1:Nat):Int) then if Int.toNat a2*2+2≤(out.length+1)*2 then some (Sum.inl (List.set (out++[qc.mk 0 (ByteArray.mk (List.toArray []))]) (Int.toNat a2) a.1,a.2,w64 (k+1))) else none else none else none else none else if 0≤a2∧a2≤((out.length+1:Nat):Int) then if a2=0∨a2<((out.length+1:Nat):Int) then if(List.take (out.length+1-Int.toNat a2) (List.drop (Int.toNat a2) (out++[qc.mk 0 (ByteArray.mk (List.toArray []))]))).length*2=(out.length+1-Int.toNat a2)*2 then if 0≤a2∧a2<((out.length+1:Nat):Int) then if Int.toNat a2*2+2≤(out.length+1)*2 then some (Sum.inl (List.set (out++[qc.mk 0 (ByteArray.mk (List.toArray []))]) (Int.toNat a2) a.1,a.2,w64 (k+1))) else none else none else none else if 0≤a2∧a2<((out.length+1:Nat):Int) then if Int.toNat a2*2+2≤(out.length+1)*2 then some (Sum.inl (List.set (out++[qc.mk 0 (ByteArray.mk (List.toArray []))]) (Int.toNat a2) a.1,a.2,w64 (k+1))) else none else none else none else none else none else none else if out.length+1≤maxLen∧(out.length+1)*24≤140737488355328 then if 0≤w64 (a2+1)∧w64 (a2+1)≤((out.length+1:Nat):Int) then if w64 (a2+1)=0∨w64 (a2+1)<((out.length+1:Nat):Int) then if 0≤a2∧a2≤((out.length+1:Nat):Int) then if a2=0∨a2<((out.length+1:Nat):Int) then if(List.take (out.length+1-Int.toNat a2) (List.drop (Int.toNat a2) (out++[qc.mk 0 (ByteArray.mk (List.toArray []))]))).length*2=(out.length+1-Int.toNat a2)*2∧Int.toNat (w64 (a2+1))*2+(out.length+1-Int.toNat (w64 (a2+1)))*2≤(out.length+1)*2 then if 0≤a2∧a2<((out.length+1:Nat):Int) then if Int.toNat a2*2+2≤(out.length+1)*2 then some (Sum.inl (List.set (spl (out++[qc.mk 0 (ByteArray.mk (List.toArray []))]) (Int.toNat (w64 (a2+1))) (List.take (min (out.length+1-Int.toNat a2) (out.length+1-Int.toNat (w64 (a2+1)))) (List.take (out.length+1-Int.toNat a2) (List.drop (Int.toNat a2) (out++[qc.mk 0 (ByteArray.mk (List.toArray []))]))))) (Int.toNat a2) a.1,a.2,w64 (k+1))) else none else none else none else if Int.toNat (w64 (a2+1))*2+(out.length+1-Int.toNat (w64 (a2+1)))*2≤(out.length+1)*2 then if 0≤a2∧a2<((out.length+1:Nat):Int) then if Int.toNat a2*2+2≤(out.length+1)*2 then some (Sum.inl (List.set (out++[qc.mk 0 (ByteArray.mk (List.toArray []))]) (Int.toNat a2) a.1,a.2,w64 (k+1))) else none else none else none else none else if 0≤a2∧a2≤((out.length+1:Nat):Int) then if a2=0∨a2<((out.length+1:Nat):Int) then if(List.take (out.length+1-Int.toNat a2) (List.drop (Int.toNat a2) (out++[qc.mk 0 (ByteArray.mk (List.toArray []))]))).length*2=(out.length+1-Int.toNat a2)*2 then if 0≤a2∧a2<((out.length+1:Nat):Int) then if Int.toNat a2*2+2≤(out.length+1)*2 then some (Sum.inl (List.set (out++[qc.mk 0 (ByteArray.mk (List.toArray []))]) (Int.toNat a2) a.1,a.2,w64 (k+1))) else none else none else none else if 0≤a2∧a2<((out.length+1:Nat):Int) then if Int.toNat a2*2+2≤(out.length+1)*2 then some (Sum.inl (List.set (out++[qc.mk 0 (ByteArray.mk (List.toArray []))]) (Int.toNat a2) a.1,a.2,w64 (k+1))) else none else none else none else none else none else some (Sum.inr (out,d))
theorem qam:∀(out:List qc) (d_L:List Int) (q8L many k:Int) (QZ:Nat),QZ=out.length→XL2 evo 136 1 4 ⟨[(0,rP 0),(3,rI many),(4,rO 1 2 QZ),(5,rI k)],[(0,B.blk 106 [dL 1 eI d_L,dI q8L]),(1,bR 55 2 qd out)],2,61⟩=(zy (ZZ many) (out,(qi.mk d_L q8L),k)).bind (fun(e:List qc×qi)=>some (Exit.exit 0,⟨[(4,rO 1 2 e.1.length)],[(0,B.blk 106 [dL 1 eI e.2.L,dI e.2.At]),(1,bR 55 2 qd e.1)],2,61⟩)):=
 by
 intro out d_L q8L many k QZ h0
 subst h0
 have h:=q4P (E:=evo) (f:=136) (k:=1) (st:=fun x:List qc×qi×Int=>(⟨[(0,rP 0),(3,rI many),(4,rO 1 2 x.1.length),(5,rI x.2.2)],[(0,B.blk 106 [dL 1 eI x.2.1.L,dI x.2.1.At]),(1,bR 55 2 qd x.1)],2,61⟩:S)) (ex:=fun(e:List qc×qi)=>(Exit.exit 0,⟨[(4,rO 1 2 e.1.length)],[(0,B.blk 106 [dL 1 eI e.2.L,dI e.2.At]),(1,bR 55 2 qd e.1)],2,61⟩)) (step:=(ZZ many)) qv8 qwl (fun e h=>by cases h) (fun x=>by
  obtain⟨out,d,k⟩:=x;have:=qug;have:=@qiu.eq_1;have:=@q5e;have:=@qaB;have:=@ZZ.eq_1;exact gA) (out,(qi.mk d_L q8L),k)
 exact h
theorem q7Q:∀  (d_L:List Int) (q8L many k:Int),XL2 evo 136 1 4 ⟨[(0,rP 0),(3,rI many),(4,rO 1 2 0),(5,rI k)],[(0,B.blk 106 [dL 1 eI d_L,dI q8L]),(1,B.row 55 2 [])],2,61⟩=(zy (ZZ many) ([],(qi.mk d_L q8L),k)).bind (fun(e:List qc×qi)=>some (Exit.exit 0,⟨[(4,rO 1 2 e.1.length)],[(0,B.blk 106 [dL 1 eI e.2.L,dI e.2.At]),(1,bR 55 2 qd e.1)],2,61⟩)):=by
 intro d_L q8L many k;have h:=qam [] ((qi.mk d_L q8L)).L ((qi.mk d_L q8L)).At many k _ rfl
 first
  | exact h
  | (simp only[rL,dL,bR,bZ,Nat.reduceAdd] at h;exact h)
def Jg (d:qi):Option (List qc×qi):=Option.bind (qs 3 d) fun(a:Prod Int qi)=>Option.bind (zy (ZZ (w64 (1+a.1))) ([],(a.2,0))) fun(a2:Prod (List qc) qi)=>some (a2.1,a2.2)
theorem qdF:∀(d_L:List Int) (q8L:Int),ev 136 1 [rP 0] [(0,B.blk 106 [dL 1 eI d_L,dI q8L])]=(Jg (qi.mk d_L q8L)).bind (fun(e:List qc×qi)=>some (rL 2 qd e.1,[(0,B.blk 106 [dL 1 eI e.2.L,dI e.2.At])])):=
 fun d_L q8L=>by
  rw[qS qnk qBQ.2.2.2 qv0]
  have:=qug;have:=@ZH;have:=@q7Q;have:=@Jg.eq_1;exact gA
def Zk (x:(Int×Int×qi)):List R×List (Nat×B):=([R.c (C.ptr 0 0),R.c (C.d (D.int .i64 x.1)),R.c (C.d (D.int .i64 x.2.1))],[(0,B.blk 106 [C.d (D.sl 1 x.2.2.L.length (x.2.2.L.flatMap eI)),C.d (D.int .i64 x.2.2.At)])])
def J4:(qb×qi)→R×List (Nat×B):=fun(e:qb×qi)=>(R.agg [C.d (D.int .i64 e.1.Kind),C.d (D.int .i64 e.1.N),C.d (D.int .i64 e.1.Min),C.d (D.sl 2 e.1.Set.length (e.1.Set.flatMap qd)),C.d (D.sl 5 e.1.L.length (e.1.L.flatMap qh))],[(0,B.blk 106 [C.d (D.sl 1 e.2.L.length (e.2.L.flatMap eI)),C.d (D.int .i64 e.2.At)])])
def Zg (rF:(Int×Int×qi)→Option (qb×qi)) (q2v:Int) (qkB:Int) (q4F:Int) (q0e:Int) (qek:Int) (q2b:Int) (t1:Int) (t2:Int) (t7:Int) (t8:Int):(List qb×qi×Int)→Option ((List qb×qi×Int)⊕(List qb×qi))|(w3,b0,t10)=>if t10<t8 then if t8=0 then none else Option.bind (rF (w64 (t1-1),(w64 (Int.tdiv t2 t8),b0))) fun(a2:Prod qb qi)=>if w3.length+1≤maxLen∧(w3.length+1)*72≤140737488355328 then some (Sum.inl (w3++[a2.1],a2.2,w64 (t10+1))) else none else some (Sum.inr (w3,b0))
theorem q9A (rE:Orc) (rF:(Int×Int×qi)→Option (qb×qi)) (hF:∀y,rE (.fn 94) 1 (Zk y).1 (Zk y).2=(rF y).bind fun e=>some (J4 e)) (hM:∀g k a G,g≠94→rE (.fn g) k a G=ev g k a G) (hR:∀g asg bd k a G,rE (.rd g asg bd) k a G=evr g asg bd k a G):∀(w3:List qb) (q3E:List Int) (q1N q2v qkB q4F q0e qek q2b t1 t2 t7 t8 t10:Int) (q2t:Nat),q2t=w3.length→XL2 rE 94 1 9 ⟨[(0,rP 0),(1,rI t1),(2,rI t2),(6,rP 1),(7,rI t7),(8,rI t8),(9,rP 2),(10,rI t10)],[(0,B.blk 106 [dL 1 eI q3E,dI q1N]),(1,B.blk 36 [dI q2v,dI qkB,dI q4F,C.nils,C.nils]),(2,B.blk 36 [dI q0e,dI qek,dI q2b,C.nils,dO 3 5 q2t]),(3,bR 36 5 qh w3)],4,77⟩=(zy (Zg rF q2v qkB q4F q0e qek q2b t1 t2 t7 t8) (w3,(qi.mk q3E q1N),t10)).bind (fun(e:List qb×qi)=>some (Exit.exit 0,⟨[(0,rP 0),(6,rP 1),(7,rI t7),(8,rI t8),(9,rP 2)],[(0,B.blk 106 [dL 1 eI e.2.L,dI e.2.At]),(1,B.blk 36 [dI q2v,dI qkB,dI q4F,C.nils,C.nils]),(2,B.blk 36 [dI q0e,dI qek,dI q2b,C.nils,dO 3 5 e.1.length]),(3,bR 36 5 qh e.1)],4,77⟩)):=
 by
 intro w3 q3E q1N q2v qkB q4F q0e qek q2b t1 t2 t7 t8 t10 q2t h0
 subst h0
 have h:=q4P (E:=rE) (f:=94) (k:=1) (st:=fun x:List qb×qi×Int=>(⟨[(0,rP 0),(1,rI t1),(2,rI t2),(6,rP 1),(7,rI t7),(8,rI t8),(9,rP 2),(10,rI x.2.2)],[(0,B.blk 106 [dL 1 eI x.2.1.L,dI x.2.1.At]),(1,B.blk 36 [dI q2v,dI qkB,dI q4F,C.nils,C.nils]),(2,B.blk 36 [dI q0e,dI qek,dI q2b,C.nils,dO 3 5 x.1.length]),(3,bR 36 5 qh x.1)],4,77⟩:S)) (ex:=fun(e:List qb×qi)=>(Exit.exit 0,⟨[(0,rP 0),(6,rP 1),(7,rI t7),(8,rI t8),(9,rP 2)],[(0,B.blk 106 [dL 1 eI e.2.L,dI e.2.At]),(1,B.blk 36 [dI q2v,dI qkB,dI q4F,C.nils,C.nils]),(2,B.blk 36 [dI q0e,dI qek,dI q2b,C.nils,dO 3 5 e.1.length]),(3,bR 36 5 qh e.1)],4,77⟩)) (step:=(Zg rF q2v qkB q4F q0e qek q2b t1 t2 t7 t8)) qyZ qzv (fun e h=>by cases h) (fun x=>by
  obtain⟨w3,b0,t10⟩:=x;have hF':∀(x1 x2:Int) (v_L:List Int) (qkC:Int),rE (.fn 94) 1 [rP 0,rI x1,rI x2] [(0,B.blk 106 [dL 1 eI v_L,dI qkC])]=(rF (x1,x2,(qi.mk v_L qkC))).bind (fun e=>some (R.agg [dI e.1.Kind,dI e.1.N,dI e.1.Min,dL 2 qd e.1.Set,dL 5 qh e.1.L],[(0,B.blk 106 [dL 1 eI e.2.L,dI e.2.At])])):=fun x1 x2 v_L qkC=>hF (x1,x2,(qi.mk v_L qkC))
  have:=qJz;have:=@qpp.eq_1;have:=@Zg.eq_1;exact gA) (w3,(qi.mk q3E q1N),t10)
 exact h
theorem q7i:∀(rE:Orc) (rF:(Int×Int×qi)→Option (qb×qi)) (hF:∀y,rE (.fn 94) 1 (Zk y).1 (Zk y).2=(rF y).bind fun e=>some (J4 e)) (hM:∀g k a G,g≠94→rE (.fn g) k a G=ev g k a G) (hR:∀g asg bd k a G,rE (.rd g asg bd) k a G=evr g asg bd k a G),∀  (q3E:List Int) (q1N q2v qkB q4F q0e qek q2b t1 t2 t7 t8 t10:Int),XL2 rE 94 1 9 ⟨[(0,rP 0),(1,rI t1),(2,rI t2),(6,rP 1),(7,rI t7),(8,rI t8),(9,rP 2),(10,rI t10)],[(0,B.blk 106 [dL 1 eI q3E,dI q1N]),(1,B.blk 36 [dI q2v,dI qkB,dI q4F,C.nils,C.nils]),(2,B.blk 36 [dI q0e,dI qek,dI q2b,C.nils,dO 3 5 0]),(3,B.row 36 5 [])],4,77⟩=(zy (Zg rF q2v qkB q4F q0e qek q2b t1 t2 t7 t8) ([],(qi.mk q3E q1N),t10)).bind (fun(e:List qb×qi)=>some (Exit.exit 0,⟨[(0,rP 0),(6,rP 1),(7,rI t7),(8,rI t8),(9,rP 2)],[(0,B.blk 106 [dL 1 eI e.2.L,dI e.2.At]),(1,B.blk 36 [dI q2v,dI qkB,dI q4F,C.nils,C.nils]),(2,B.blk 36 [dI q0e,dI qek,dI q2b,C.nils,dO 3 5 e.1.length]),(3,bR 36 5 qh e.1)],4,77⟩)):=by
 intro rE rF hF hM hR q3E q1N q2v qkB q4F q0e qek q2b t1 t2 t7 t8 t10;have h:=q9A rE rF hF hM hR [] ((qi.mk q3E q1N)).L ((qi.mk q3E q1N)).At q2v qkB q4F q0e qek q2b t1 t2 t7 t8 t10 _ rfl
 first
  | exact h
  | (simp only[rL,dL,bR,bZ,Nat.reduceAdd] at h;exact h)
def q1t (rF:(Int×Int×qi)→Option (qb×qi)):(Int×Int×qi)→Option (qb×qi)|(x1,x2,v)=>Option.bind (qs 6 v) fun(a2:Prod Int qi)=>if x1≤0 then Option.bind (qs 3 a2.2) fun(a3:Prod Int qi)=>if(a3.1==0)=Bool.true then Option.bind (qs 12 a3.2) fun(a4:Prod Int qi)=>Option.bind (qs 3 a4.2) fun(a5:Prod Int qi)=>if 0≤a5.1∧a5.1<3 then Option.bind [(0:Int),50,60][Int.toNat a5.1]? fun(a6:Int)=>Option.bind (Jg a5.2) fun(a7:Prod (List qc) qi)=>some (qb.mk 2 (w64 (1+a4.1)) a6 a7.1 [],a7.2) else none else Option.bind (qs 4 a3.2) fun(a8:Prod Int qi)=>if 0≤a8.1∧a8.1<4 then Option.bind [(0:Int),50,60,80][Int.toNat a8.1]? fun(a9:Int)=>Option.bind (Jg a8.2) fun(a10:Prod (List qc) qi)=>some (qb.mk 1 0 a9 a10.1 [],a10.2) else none else if x2<2 then Option.bind (qs 3 a2.2) fun(a11:Prod Int qi)=>if(a11.1==0)=Bool.true then Option.bind (qs 12 a11.2) fun(a12:Prod Int qi)=>Option.bind (qs 3 a12.2) fun(a13:Prod Int qi)=>if 0≤a13.1∧a13.1<3 then Option.bind [(0:Int),50,60][Int.toNat a13.1]? fun(a14:Int)=>Option.bind (Jg a13.2) fun(a15:Prod (List qc) qi)=>some (qb.mk 2 (w64 (1+a12.1)) a14 a15.1 [],a15.2) else none else Option.bind (qs 4 a11.2) fun(a16:Prod Int qi)=>if 0≤a16.1∧a16.1<4 then Option.bind [(0:Int),50,60,80][Int.toNat a16.1]? fun(a17:Int)=>Option.bind (Jg a16.2) fun(a18:Prod (List qc) qi)=>some (qb.mk 1 0 a17 a18.1 [],a18.2) else none else if a2.1<2 then Option.bind (qs 3 a2.2) fun(a19:Prod Int qi)=>if(a19.1==0)=Bool.true then Option.bind (qs 12 a19.2) fun(a20:Prod Int qi)=>Option.bind (qs 3 a20.2) fun(a21:Prod Int qi)=>if 0≤a21.1∧a21.1<3 then Option.bind [(0:Int),50,60][Int.toNat a21.1]? fun(a22:Int)=>Option.bind (Jg a21.2) fun(a23:Prod (List qc) qi)=>some (qb.mk 2 (w64 (1+a20.1)) a22 a23.1 [],a23.2) else none else Option.bind (qs 4 a19.2) fun(a24:Prod Int qi)=>if 0≤a24.1∧a24.1<4 then Option.bind [(0:Int),50,60,80][Int.toNat a24.1]? fun(a25:Int)=>Option.bind (Jg a24.2) fun(a26:Prod (List qc) qi)=>some (qb.mk 1 0 a25 a26.1 [],a26.2) else none else Option.bind (qs (min 3 x2) a2.2) fun(a27:Prod Int qi)=>Option.bind (zy (Zg rF 0 0 0 3 0 0 x1 x2 a2.1 (w64 (1+a27.1))) ([],(a27.2,0))) fun(a28:Prod (List qb) qi)=>if 3<a2.1 then Option.bind (qs (w64 (1+a27.1)) a28.2) fun(a29:Prod Int qi)=>some (qb.mk 4 (w64 (1+a29.1)) 0 [] a28.1,a29.2) else some (qb.mk 3 0 0 [] a28.1,a28.2)
theorem q6D:q84 94 1 Zk J4 q1t:=by
 intro rE rF hF hM hR x
 obtain⟨x1,x2,v⟩:=x
 show qaJ rE 94 1 [rP 0,rI x1,rI x2] [(0,B.blk 106 [dL 1 eI v.L,dI v.At])]=_
 have hF':∀(x1 x2:Int) (v_L:List Int) (qkC:Int),rE (.fn 94) 1 [rP 0,rI x1,rI x2] [(0,B.blk 106 [dL 1 eI v_L,dI qkC])]=(rF (x1,x2,(qi.mk v_L qkC))).bind (fun e=>some (R.agg [dI e.1.Kind,dI e.1.N,dI e.1.Min,dL 2 qd e.1.Set,dL 5 qh e.1.L],[(0,B.blk 106 [dL 1 eI e.2.L,dI e.2.At])])):=fun x1 x2 v_L qkC=>hF (x1,x2,(qi.mk v_L qkC))
 rw[q4u qED qIH]
 have:=qJz;have:=@ZH;have:=@qdF;have:=q7i rE rF hF hM hR;have:=@q1t.eq_1;have:=@J4.eq_1;exact gA
theorem q4b:∀x y,Zk x=Zk y→x=y:=by
 rintro⟨a0,a1,⟨qO4,qO5⟩⟩ ⟨b0,b1,⟨qO6,qO7⟩⟩ h
 simp only[Zk,Prod.mk.injEq,List.cons.injEq,R.c.injEq,R.agg.injEq,R.tup.injEq,C.d.injEq,C.own.injEq,C.ptr.injEq,C.eptr.injEq,D.int.injEq,D.bool.injEq,D.str.injEq,D.sl.injEq,B.blk.injEq,B.row.injEq,q0J,q2C,q1z,q1A,q20,q1Z,q4g,q42,q3Z,q0M,true_and,and_true,qOJ] at h
 simp only[h]
theorem q9h:∀x y,J4 x=J4 y→x=y:=by
 rintro⟨⟨qDJ,qDK,qDL,qDM,qDN⟩,⟨qK6,qK7⟩⟩ ⟨⟨qDO,qDP,qDQ,qDR,qDS⟩,⟨qK8,qK9⟩⟩ h
 simp only[J4,Prod.mk.injEq,List.cons.injEq,R.c.injEq,R.agg.injEq,R.tup.injEq,C.d.injEq,C.own.injEq,C.ptr.injEq,C.eptr.injEq,D.int.injEq,D.bool.injEq,D.str.injEq,D.sl.injEq,B.blk.injEq,B.row.injEq,q0J,q2C,q1z,q1A,q20,q1Z,q4g,q42,q3Z,q0M,true_and,and_true,qOJ] at h
 simp only[h]
def ZN:(Int×Int×qi)→Option (qb×qi):=q8k 94 1 Zk J4
theorem q7d (x:(Int×Int×qi)):ZN x=q1t ZN x:=qcI qEH.2.2.2 q4b q9h q6D x
theorem qbh (x1 x2:Int) (v:qi):ev 94 1 [rP 0,rI x1,rI x2] [(0,B.blk 106 [dL 1 eI v.L,dI v.At])]=(ZN (x1,x2,v)).bind (fun(e:qb×qi)=>some (R.agg [dI e.1.Kind,dI e.1.N,dI e.1.Min,dL 2 qd e.1.Set,dL 5 qh e.1.L],[(0,B.blk 106 [dL 1 eI e.2.L,dI e.2.At])])):=(q99 qEH.2.2.2 q4b q6D (x1,x2,v))
theorem qcL:∀(x1 x2:Int) (v_L:List Int) (qkC:Int),ev 94 1 [rP 0,rI x1,rI x2] [(0,B.blk 106 [dL 1 eI v_L,dI qkC])]=(ZN (x1,x2,(qi.mk v_L qkC))).bind (fun(e:qb×qi)=>some (R.agg [dI e.1.Kind,dI e.1.N,dI e.1.Min,dL 2 qd e.1.Set,dL 5 qh e.1.L],[(0,B.blk 106 [dL 1 eI e.2.L,dI e.2.At])])):=
 fun x1 x2 v_L qkC=>qbh x1 x2 (qi.mk v_L qkC)
def q1g (l:List Int):Option qf:=Option.bind (qs 3 (qi.mk l 0)) fun(a:Prod Int qi)=>Option.bind (qs 3 a.2) fun(a2:Prod Int qi)=>Option.bind (qs 5 a2.2) fun(a3:Prod Int qi)=>Option.bind (qs 3 a3.2) fun(a4:Prod Int qi)=>if 0≤a4.1∧a4.1<3 then Option.bind [ByteArray.mk (List.toArray [77,117,115,105,99]),ByteArray.mk (List.toArray [76,97,119]),ByteArray.mk (List.toArray [79,108,100,32,109,97,112,115])][Int.toNat a4.1]? fun(a5:ByteArray)=>Option.bind (qs 20 a4.2) fun(a6:Prod Int qi)=>Option.bind (qs 3 a6.2) fun(a7:Prod Int qi)=>Option.bind (qs 6 a7.2) fun(a8:Prod Int qi)=>Option.bind (qs 5 a8.2) fun(a9:Prod Int qi)=>if 0≤a9.1∧a9.1<5 then Option.bind [(0:Int),0,0,2,5][Int.toNat a9.1]? fun(a10:Int)=>Option.bind (qs 3 a9.2) fun(a11:Prod Int qi)=>if(a11.1==0)=Bool.true then Option.bind (JZ a11.2) fun(a12:Prod qc qi)=>Option.bind (JZ a12.2) fun(a13:Prod qc qi)=>if Qm a12.1 a13.1=Bool.true then Option.bind (ZN (3,(6,a13.2))) fun(a14:Prod qb qi)=>some (qf.mk 1 (w64 (1+a.1)) (w64 (1+a2.1)) (w64 (100*a3.1)) a5 a14.1 a6.1 (w64 (a7.1*a8.1)) a10 [q01.mk a12.1 a13.1]) else Option.bind (ZN (3,(6,a13.2))) fun(a15:Prod qb qi)=>some (qf.mk 1 (w64 (1+a.1)) (w64 (1+a2.1)) (w64 (100*a3.1)) a5 a15.1 a6.1 (w64 (a7.1*a8.1)) a10 []) else Option.bind (ZN (3,(6,a11.2))) fun(a16:Prod qb qi)=>some (qf.mk 1 (w64 (1+a.1)) (w64 (1+a2.1)) (w64 (100*a3.1)) a5 a16.1 a6.1 (w64 (a7.1*a8.1)) a10 []) else none else none
theorem q9C:∀(l:List Int),ev 51 0 [rL 1 eI l] []=(q1g l).bind (fun(e:qf)=>some (R.agg [dI e.School,dI e.Id,dI e.Version,dI e.From,dS e.Name,dI e.Need.Kind,dI e.Need.N,dI e.Need.Min,dL 2 qd e.Need.Set,dL 5 qh e.Need.L,dI e.Total,dI e.Own,dI e.Age,dL 4 (eA2 qd) e.Exclude],[])):=
 fun l=>by
  rw[qS qFd qJ6.2.2.2 qLU]
  have:=qLA;have:=@ZH;have:=@q5e;have:=@qcL;have:=@q0o;have:=@q1g.eq_1;exact gA
def q3g (l:List Int):Option qf:=Option.bind (q1g l) fun(a:qf)=>some (qf.mk a.School a.Id a.Version a.From a.Name a.Need (Int.tmod a.Total 12) (Int.tmod a.Own 4) a.Age a.Exclude)
theorem qcU:∀(l:List Int),ev 26 0 [rL 1 eI l] []=(q3g l).bind (fun(e:qf)=>some (R.agg [dI e.School,dI e.Id,dI e.Version,dI e.From,dS e.Name,dI e.Need.Kind,dI e.Need.N,dI e.Need.Min,dL 2 qd e.Need.Set,dL 5 qh e.Need.L,dI e.Total,dI e.Own,dI e.Age,dL 4 (eA2 qd) e.Exclude],[])):=
 fun l=>by
  rw[qS qFA qK0.2.2.2 qLV]
  have:=qMz;have:=@q9C;have:=@q3g.eq_1;exact gA
theorem qIR:okL 30 qjh:=qW (qk qEb) (by kernel_rfl) (by kernel_rfl)
def qJN:=JA_ @qjh.eq_1 (JA_ @Tryz.f30.eq_1 @qEb)
theorem qCp:lbO 30 6=qoS:=QG (qk qEb) rfl
theorem qCD:okL 30 qoS:=zZ qIR (qOq (i:=0) (by kernel_rfl))
def Zy (t4:Int) (t5:List ByteArray):(List qa×qi×Int)→Option ((List qa×qi×Int)⊕(List qa))|(w1,b0,t7)=>if t7<t4 then Option.bind (qs 5 b0) fun(a:Prod Int qi)=>if 0≤a.1∧a.1<5 then Option.bind [(1:Int),1,1,2,3][Int.toNat a.1]? fun(a2:Int)=>Option.bind (qs ((t5.length:Nat):Int) a.2) fun(a3:Prod Int qi)=>if 0≤a3.1∧a3.1<((t5.length:Nat):Int) then Option.bind t5[Int.toNat a3.1]? fun(a4:ByteArray)=>Option.bind (qs 3 a3.2) fun(a5:Prod Int qi)=>if 0≤a5.1∧a5.1<3 then Option.bind [(5:Int),6,10][Int.toNat a5.1]? fun(a6:Int)=>Option.bind (qs 11 a5.2) fun(a7:Prod Int qi)=>Option.bind (qs 12 a7.2) fun(a8:Prod Int qi)=>Option.bind (qs 4 a8.2) fun(a9:Prod Int qi)=>if(a9.1==0)=Bool.true then Option.bind (qs 2 a9.2) fun(a10:Prod Int qi)=>Option.bind (qs 3 a10.2) fun(a11:Prod Int qi)=>if w1.length+1≤maxLen∧(w1.length+1)*104≤140737488355328 then some (Sum.inl (w1++[qa.mk (qc.mk a2 a4) a6 (w64 (10*a7.1)) (w64 (50*a8.1)) [w64 (2000001+a11.1)] (w64 (1+a10.1)) [w64 (1+a10.1)]],a11.2,w64 (t7+1))) else none else if w1.length+1≤maxLen∧(w1.length+1)*104≤140737488355328 then some (Sum.inl (w1++[qa.mk (qc.mk a2 a4) a6 (w64 (10*a7.1)) (w64 (50*a8.1)) [w64 (w64 (w64 (1000000*a2)+1)+t7)] 0 []],a9.2,w64 (t7+1))) else none else none else none else none else some (Sum.inr w1)
theorem q9s:∀(w1:List qa) (q3E:List Int) (q1N t4:Int) (t5:List ByteArray) (t7:Int) (QO:Nat),QO=w1.length→XL2 evo 30 0 6 ⟨[(3,rP 0),(4,rI t4),(5,rL 1 eS t5),(6,rO 1 8 QO),(7,rI t7)],[(0,B.blk 106 [dL 1 eI q3E,dI q1N]),(1,bR 57 8 qe w1)],2,75⟩=(zy (Zy t4 t5) (w1,(qi.mk q3E q1N),t7)).bind (fun(e:List qa)=>some (Exit.exit 0,⟨[(6,rO 0 8 e.length)],[(0,bR 57 8 qe e)],1,75⟩)):=
 by
 intro w1 q3E q1N t4 t5 t7 QO h0
 subst h0
 have h:=q4P (E:=evo) (f:=30) (k:=0) (st:=fun x:List qa×qi×Int=>(⟨[(3,rP 0),(4,rI t4),(5,rL 1 eS t5),(6,rO 1 8 x.1.length),(7,rI x.2.2)],[(0,B.blk 106 [dL 1 eI x.2.1.L,dI x.2.1.At]),(1,bR 57 8 qe x.1)],2,75⟩:S)) (ex:=fun(e:List qa)=>(Exit.exit 0,⟨[(6,rO 0 8 e.length)],[(0,bR 57 8 qe e)],1,75⟩)) (step:=(Zy t4 t5)) qCp qCD (fun e h=>by cases h) (fun x=>by
  obtain⟨w1,b0,t7⟩:=x;have:=qJN;have:=@qoS.eq_1;have:=@ZH;have:=@Zy.eq_1;exact gA) (w1,(qi.mk q3E q1N),t7)
 exact h
theorem q7a:∀  (q3E:List Int) (q1N t4:Int) (t5:List ByteArray) (t7:Int),XL2 evo 30 0 6 ⟨[(3,rP 0),(4,rI t4),(5,rL 1 eS t5),(6,rO 1 8 0),(7,rI t7)],[(0,B.blk 106 [dL 1 eI q3E,dI q1N]),(1,B.row 57 8 [])],2,75⟩=(zy (Zy t4 t5) ([],(qi.mk q3E q1N),t7)).bind (fun(e:List qa)=>some (Exit.exit 0,⟨[(6,rO 0 8 e.length)],[(0,bR 57 8 qe e)],1,75⟩)):=by
 intro q3E q1N t4 t5 t7;have h:=q9s [] ((qi.mk q3E q1N)).L ((qi.mk q3E q1N)).At t4 t5 t7 _ rfl
 first
  | exact h
  | (simp only[rL,dL,bR,bZ,Nat.reduceAdd] at h;exact h)
def q3n (x0:List Int):Option (List qa):=Option.bind (qs 8 (qi.mk x0 0)) fun(a:Prod Int qi)=>Option.bind (zy (Zy a.1 Q2) ([],(a.2,0))) fun(a2:List qa)=>some a2
theorem qch:∀(x0:List Int),ev 30 0 [rL 1 eI x0] []=(q3n x0).bind (fun(e:List qa)=>some (rL 8 qe e,[])):=
 fun x0=>by
  rw[qS qEb qIg.2.2.2 qIR]
  have:=qJN;have:=@ZH;have:=@q65;have:=@q7a;have:=@q3n.eq_1;exact gA
theorem qIU:okL 31 qj0:=qW (qk qEw) (by kernel_rfl) (by kernel_rfl)
def qJA:=JA_ @qj0.eq_1 (JA_ @Tryz.f31.eq_1 @qEw)
theorem qz8:lbO 31 6=qpu:=QG (qk qEw) rfl
theorem qBd:okL 31 qpu:=zZ qIU (qOq (i:=0) (by kernel_rfl))
theorem qE1:okL 54 qea:=qW (qk qya) (by kernel_rfl) (by kernel_rfl)
def qvg:=JA_ @qea.eq_1 (JA_ @Tryz.f54.eq_1 @qya)
theorem qtb:lbO 54 4=qkd:=QG (qk qya) rfl
theorem qsN:okL 54 qkd:=zZ qE1 (qOq (i:=0) (by kernel_rfl))
theorem qtf:lbO 54 8=qjM:=QG (qk qya) rfl
theorem qtc:okL 54 qjM:=zZ qE1 (qOq (i:=1) (by kernel_rfl))
theorem qno:lbO 54 11=qeZ:=QG (qk qya) rfl
theorem qob:okL 54 qeZ:=zZ qE1 (qOq (i:=2) (by kernel_rfl))
def q23 (w0:List qc) (t3:List qv) (t6:Int) (t7:List qc) (t8:Int):Int→Option (Int⊕Int)|t9=>if t9<((w0.length:Nat):Int) then if 0≤t9∧t9<((w0.length:Nat):Int) then Option.bind w0[Int.toNat t9]? fun(a:qc)=>if 0≤t8∧t8<((t7.length:Nat):Int) then Option.bind t7[Int.toNat t8]? fun(a2:qc)=>if Qm a a2=Bool.true then some (Sum.inl (w64 (t9+1))) else some (Sum.inr t9) else none else none else some (Sum.inr t9)
theorem q6t:∀(w0:List qc) (t3:List qv) (t6:Int) (t7:List qc) (t8 t9:Int) (q0h:Nat),q0h=w0.length→XL2 evo 54 0 11 ⟨[(3,rL 6 qR t3),(5,rO 0 2 q0h),(6,rI t6),(7,rL 2 qd t7),(8,rI t8),(9,rI t9)],[(0,bR 55 2 qd w0)],1,85⟩=(zy (q23 w0 t3 t6 t7 t8) t9).bind (fun(e:Int)=>some (Exit.exit 4,⟨[(3,rL 6 qR t3),(5,rO 0 2 w0.length),(6,rI t6),(7,rL 2 qd t7),(8,rI t8),(9,rI e)],[(0,bR 55 2 qd w0)],1,85⟩)):=
 by
 intro w0 t3 t6 t7 t8 t9 q0h h0
 subst h0
 revert t9;exact qbe qno qob (fun e=>by exact⟨_,rfl,fun h=>by cases h⟩) fun x=>by
  have:=qvg;have:=@qeZ.eq_1;have:=@q0o;have:=@q23.eq_1;exact gA
def q2g (t3:List qv) (t6:Int) (t7:List qc):(List qc×Int)→Option ((List qc×Int)⊕(List qc))|(w0,t8)=>if t8<((t7.length:Nat):Int) then Option.bind (zy (q23 w0 t3 t6 t7 t8) 0) fun(a:Int)=>if a<((w0.length:Nat):Int) then if 0≤a∧a<((w0.length:Nat):Int) then Option.bind w0[Int.toNat a]? fun(a2:qc)=>if 0≤t8∧t8<((t7.length:Nat):Int) then Option.bind t7[Int.toNat t8]? fun(a3:qc)=>if(a2.School==a3.School)=Bool.true∧(ByteArray.toList a2.Code==ByteArray.toList a3.Code)=Bool.true then some (Sum.inl (w0,w64 (t8+1))) else if w0.length+1≤maxLen∧(w0.length+1)*24≤140737488355328 then if 0≤w64 (a+1)∧w64 (a+1)≤((w0.length+1:Nat):Int) then if w64 (a+1)=0∨w64 (a+1)<((w0.length+1:Nat):Int) then if 0≤a∧a≤((w0.length+1:Nat):Int) then if a=0∨a<((w0.length+1:Nat):Int) then if(List.take (w0.length+1-Int.toNat a) (List.drop (Int.toNat a) (w0++[qc.mk 0 (ByteArray.mk (List.toArray []))]))).length*2=(w0.length+1-Int.toNat a)*2∧Int.toNat (w64 (a+1))*2+(w0.length+1-Int.toNat (w64 (a+1)))*2≤(w0.length+1)*2 then if 0≤t8∧t8<((t7.length:Nat):Int) then Option.bind t7[Int.toNat t8]? fun(a4:qc)=>if 0≤a∧a<((w0.length+1:Nat):Int) then if Int.toNat a*2+2≤(w0.length+1)*2 then some (Sum.inl (List.set (spl (w0++[qc.mk 0 (ByteArray.mk (List.toArray []))]) (Int.toNat (w64 (a+1))) (List.take (min (w0.length+1-Int.toNat a) (w0.length+1-Int.toNat (w64 (a+1)))) (List.take (w0.length+1-Int.toNat a) (List.drop (Int.toNat a) (w0++[qc.mk 0 (ByteArray.mk (List.toArray []))]))))) (Int.toNat a) a4,w64 (t8+1))) else none else none else none else none else if Int.toNat (w64 (a+1))*2+(w0.length+1-Int.toNat (w64 (a+1)))*2≤(w0.length+1)*2 then if 0≤t8∧t8<((t7.length:Nat):Int) then Option.bind t7[Int.toNat t8]? fun(a5:qc)=>if 0≤a∧a<((w0.length+1:Nat):Int) then if Int.toNat a*2+2≤(w0.length+1)*2 then some (Sum.inl (List.set (w0++[qc.mk 0 (ByteArray.mk (List.toArray []))]) (Int.toNat a) a5,w64 (t8+1))) else none else none else none else none else none else if 0≤a∧a≤((w0.length+1:Nat):Int) then if a=0∨a<((w0.length+1:Nat):Int) then if(List.take (w0.length+1-Int.toNat a) (List.drop (Int.toNat a) (w0++[qc.mk 0 (ByteArray.mk (List.toArray []))]))).length*2=(w0.length+1-Int.toNat a)*2 then if 0≤t8∧t8<((t7.length:Nat):Int) then Option.bind t7[Int.toNat t8]? fun(a6:qc)=>if 0≤a∧a<((w0.length+1:Nat):Int) then if Int.toNat a*2+2≤(w0.length+1)*2 then some (Sum.inl (List.set (w0++[qc.mk 0 (ByteArray.mk (List.toArray []))]) (Int.toNat a) a6,w64 (t8+1))) else none else none else none else none else if 0≤t8∧t8<((t7.length:Nat):Int) then Option.bind t7[Int.toNat t8]? fun(a7:qc)=>if 0≤a∧a<((w0.length+1:Nat):Int) then if Int.toNat a*2+2≤(w0.length+1)*2 then some (Sum.inl (List.set (w0++[qc.mk 0 (ByteArray.mk (List.toArray []))]) (Int.toNat a) a7,w64 (t8+1))) else none else none else none else none else none else none else none else none else if w0.length+1≤maxLen∧(w0.length+1)*24≤140737488355328 then if 0≤w64 (a+1)∧w64 (a+1)≤((w0.length+1:Nat):Int) then if w64 (a+1)=0∨w64 (a+1)<((w0.length+1:Nat):Int) then if 0≤a∧a≤((w0.length+1:Nat):Int) then if a=0∨a<((w0.length+1:Nat):Int) then if(List.take (w0.length+1-Int.toNat a) (List.drop (Int.toNat a) (w0++[qc.mk 0 (ByteArray.mk (List.toArray []))]))).length*2=(w0.length+1-Int.toNat a)*2∧Int.toNat (w64 (a+1))*2+(w0.length+1-Int.toNat (w64 (a+1)))*2≤(w0.length+1)*2 then if 0≤t8∧t8<((t7.length:Nat):Int) then Option.bind t7[Int.toNat t8]? fun(a8:qc)=>if 0≤a∧a<((w0.length+1:Nat):Int) then if Int.toNat a*2+2≤(w0.length+1)*2 then some (Sum.inl (List.set (spl (w0++[qc.mk 0 (ByteArray.mk (List.toArray []))]) (Int.toNat (w64 (a+1))) (List.take (min (w0.length+1-Int.toNat a) (w0.length+1-Int.toNat (w64 (a+1)))) (List.take (w0.length+1-Int.toNat a) (List.drop (Int.toNat a) (w0++[qc.mk 0 (ByteArray.mk (List.toArray []))]))))) (Int.toNat a) a8,w64 (t8+1))) else none else none else none else none else if Int.toNat (w64 (a+1))*2+(w0.length+1-Int.toNat (w64 (a+1)))*2≤(w0.length+1)*2 then if 0≤t8∧t8<((t7.length:Nat):Int) then Option.bind t7[Int.toNat t8]? fun(a9:qc)=>if 0≤a∧a<((w0.length+1:Nat):Int) then if Int.toNat a*2+2≤(w0.length+1)*2 then some (Sum.inl (List.set (w0++[qc.mk 0 (ByteArray.mk (List.toArray []))]) (Int.toNat a) a9,w64 (t8+1))) else none else none else none else none else none else if 0≤a∧a≤((w0.length+1:Nat):Int) then if a=0∨a<((w0.length+1:Nat):Int) then if(List.take (w0.length+1-Int.toNat a) (List.drop (Int.toNat a) (w0++[qc.mk 0 (ByteArray.mk (List.toArray []))]))).length*2=(w0.length+1-Int.toNat a)*2 then if 0≤t8∧t8<((t7.length:Nat):Int) then Option.bind t7[Int.toNat t8]? fun(a10:qc)=>if 0≤a∧a<((w0.length+1:Nat):Int) then if Int.toNat a*2+2≤(w0.length+1)*2 then some (Sum.inl (List.set (w0++[qc.mk 0 (ByteArray.mk (List.toArray []))]) (Int.toNat a) a10,w64 (t8+1))) else none else none else none else none else if 0≤t8∧t8<((t7.length:Nat):Int) then Option.bind t7[Int.toNat t8]? fun(a11:qc)=>if 0≤a∧a<((w0.length+1:Nat):Int) then if Int.toNat a*2+2≤(w0.length+1)*2 then some (Sum.inl (List.set (w0++[qc.mk 0 (ByteArray.mk (List.toArray []))]) (Int.toNat a) a11,w64 (t8+1))) else none else none else none else none else none else none else some (Sum.inr w0)
theorem q6Y:∀(w0:List qc) (t3:List qv) (t6:Int) (t7:List qc) (t8:Int) (q0h:Nat),q0h=w0.length→XL2 evo 54 0 8 ⟨[(3,rL 6 qR t3),(5,rO 0 2 q0h),(6,rI t6),(7,rL 2 qd t7),(8,rI t8)],[(0,bR 55 2 qd w0)],1,85⟩=(zy (q2g t3 t6 t7) (w0,t8)).bind (fun(e:List qc)=>some (Exit.exit 2,⟨[(3,rL 6 qR t3),(5,rO 0 2 e.length),(6,rI t6)],[(0,bR 55 2 qd e)],1,85⟩)):=
 by
 intro w0 t3 t6 t7 t8 q0h h0
 subst h0
 revert t8;revert w0;exact qa4 qtf qtc (fun e=>by exact⟨_,rfl,fun h=>by cases h⟩) fun w0 t8=>by
  have:=qvg;have:=@qjM.eq_1;have:=@q6t;have:=@q2g.eq_1;exact gA
def q0S (t3:List qv):(List qc×Int)→Option ((List qc×Int)⊕(List qc))|(w0,t6)=>if t6<((t3.length:Nat):Int) then if 0≤t6∧t6<((t3.length:Nat):Int) then Option.bind t3[Int.toNat t6]? fun(a:qv)=>Option.bind (zy (q2g t3 t6 a.Need.Set) (w0,0)) fun(a2:List qc)=>some (Sum.inl (a2,w64 (t6+1))) else none else some (Sum.inr w0)
theorem q7b:∀(w0:List qc) (t3:List qv) (t6:Int) (q0h:Nat),q0h=w0.length→XL2 evo 54 0 4 ⟨[(3,rL 6 qR t3),(5,rO 0 2 q0h),(6,rI t6)],[(0,bR 55 2 qd w0)],1,85⟩=(zy (q0S t3) (w0,t6)).bind (fun(e:List qc)=>some (Exit.exit 0,⟨[(5,rO 0 2 e.length)],[(0,bR 55 2 qd e)],1,85⟩)):=
 by
 intro w0 t3 t6 q0h h0
 subst h0
 revert t6;revert w0;exact qa4 qtb qsN (fun e=>by exact⟨_,rfl,fun h=>by cases h⟩) fun w0 t6=>by
  have:=qvg;have:=@qkd.eq_1;have:=@q6Y;have:=@q0S.eq_1;exact gA
theorem q52:∀  (t6:Int),XL2 evo 54 0 4 ⟨[(3,R.c (C.d (D.sl 6 0 []))),(5,rO 0 2 0),(6,rI t6)],[(0,B.row 55 2 [])],1,85⟩=(zy (q0S []) ([],t6)).bind (fun(e:List qc)=>some (Exit.exit 0,⟨[(5,rO 0 2 e.length)],[(0,bR 55 2 qd e)],1,85⟩)):=by
 intro t6;have h:=q7b [] [] t6 _ rfl
 first
  | exact h
  | (simp only[rL,dL,bR,bZ,Nat.reduceAdd] at h;exact h)
def QY (w0:List qv) (w1:List qc) (t6:Int) (t7:List qc) (t8:Int):Int→Option (Int⊕Int)|t9=>if t9<((w1.length:Nat):Int) then if 0≤t9∧t9<((w1.length:Nat):Int) then Option.bind w1[Int.toNat t9]? fun(a:qc)=>if 0≤t8∧t8<((t7.length:Nat):Int) then Option.bind t7[Int.toNat t8]? fun(a2:qc)=>if Qm a a2=Bool.true then some (Sum.inl (w64 (t9+1))) else some (Sum.inr t9) else none else none else some (Sum.inr t9)
theorem q5i:∀(w0:List qv) (w1:List qc) (t6:Int) (t7:List qc) (t8 t9:Int) (q0h QO:Nat),q0h=w0.length→QO=w1.length→XL2 evo 54 0 11 ⟨[(3,rO 0 6 q0h),(5,rO 1 2 QO),(6,rI t6),(7,rL 2 qd t7),(8,rI t8),(9,rI t9)],[(0,bR 150 6 qR w0),(1,bR 55 2 qd w1)],2,85⟩=(zy (QY w0 w1 t6 t7 t8) t9).bind (fun(e:Int)=>some (Exit.exit 4,⟨[(3,rO 0 6 w0.length),(5,rO 1 2 w1.length),(6,rI t6),(7,rL 2 qd t7),(8,rI t8),(9,rI e)],[(0,bR 150 6 qR w0),(1,bR 55 2 qd w1)],2,85⟩)):=
 by
 intro w0 w1 t6 t7 t8 t9 q0h QO h0 h1
 subst h0 h1
 revert t9;exact qbe qno qob (fun e=>by exact⟨_,rfl,fun h=>by cases h⟩) fun x=>by
  have:=qvg;have:=@qeZ.eq_1;have:=@q0o;have:=@QY.eq_1;exact gA
def Z6 (w0:List qv) (t6:Int) (t7:List qc):(List qc×Int)→Option ((List qc×Int)⊕(List qc))|(w1,t8)=>if t8<((t7.length:Nat):Int) then Option.bind (zy (QY w0 w1 t6 t7 t8) 0) fun(a:Int)=>if a<((w1.length:Nat):Int) then if 0≤a∧a<((w1.length:Nat):Int) then Option.bind w1[Int.toNat a]? fun(a2:qc)=>if 0≤t8∧t8<((t7.length:Nat):Int) then Option.bind t7[Int.toNat t8]? fun(a3:qc)=>if(a2.School==a3.School)=Bool.true∧(ByteArray.toList a2.Code==ByteArray.toList a3.Code)=Bool.true then some (Sum.inl (w1,w64 (t8+1))) else if w1.length+1≤maxLen∧(w1.length+1)*24≤140737488355328 then if 0≤w64 (a+1)∧w64 (a+1)≤((w1.length+1:Nat):Int) then if w64 (a+1)=0∨w64 (a+1)<((w1.length+1:Nat):Int) then if 0≤a∧a≤((w1.length+1:Nat):Int) then if a=0∨a<((w1.length+1:Nat):Int) then if(List.take (w1.length+1-Int.toNat a) (List.drop (Int.toNat a) (w1++[qc.mk 0 (ByteArray.mk (List.toArray []))]))).length*2=(w1.length+1-Int.toNat a)*2∧Int.toNat (w64 (a+1))*2+(w1.length+1-Int.toNat (w64 (a+1)))*2≤(w1.length+1)*2 then if 0≤t8∧t8<((t7.length:Nat):Int) then Option.bind t7[Int.toNat t8]? fun(a4:qc)=>if 0≤a∧a<((w1.length+1:Nat):Int) then if Int.toNat a*2+2≤(w1.length+1)*2 then some (Sum.inl (List.set (spl (w1++[qc.mk 0 (ByteArray.mk (List.toArray []))]) (Int.toNat (w64 (a+1))) (List.take (min (w1.length+1-Int.toNat a) (w1.length+1-Int.toNat (w64 (a+1)))) (List.take (w1.length+1-Int.toNat a) (List.drop (Int.toNat a) (w1++[qc.mk 0 (ByteArray.mk (List.toArray []))]))))) (Int.toNat a) a4,w64 (t8+1))) else none else none else none else none else if Int.toNat (w64 (a+1))*2+(w1.length+1-Int.toNat (w64 (a+1)))*2≤(w1.length+1)*2 then if 0≤t8∧t8<((t7.length:Nat):Int) then Option.bind t7[Int.toNat t8]? fun(a5:qc)=>if 0≤a∧a<((w1.length+1:Nat):Int) then if Int.toNat a*2+2≤(w1.length+1)*2 then some (Sum.inl (List.set (w1++[qc.mk 0 (ByteArray.mk (List.toArray []))]) (Int.toNat a) a5,w64 (t8+1))) else none else none else none else none else none else if 0≤a∧a≤((w1.length+1:Nat):Int) then if a=0∨a<((w1.length+1:Nat):Int) then if(List.take (w1.length+1-Int.toNat a) (List.drop (Int.toNat a) (w1++[qc.mk 0 (ByteArray.mk (List.toArray []))]))).length*2=(w1.length+1-Int.toNat a)*2 then if 0≤t8∧t8<((t7.length:Nat):Int) then Option.bind t7[Int.toNat t8]? fun(a6:qc)=>if 0≤a∧a<((w1.length+1:Nat):Int) then if Int.toNat a*2+2≤(w1.length+1)*2 then some (Sum.inl (List.set (w1++[qc.mk 0 (ByteArray.mk (List.toArray []))]) (Int.toNat a) a6,w64 (t8+1))) else none else none else none else none else if 0≤t8∧t8<((t7.length:Nat):Int) then Option.bind t7[Int.toNat t8]? fun(a7:qc)=>if 0≤a∧a<((w1.length+1:Nat):Int) then if Int.toNat a*2+2≤(w1.length+1)*2 then some (Sum.inl (List.set (w1++[qc.mk 0 (ByteArray.mk (List.toArray []))]) (Int.toNat a) a7,w64 (t8+1))) else none else none else none else none else none else none else none else none else if w1.length+1≤maxLen∧(w1.length+1)*24≤140737488355328 then if 0≤w64 (a+1)∧w64 (a+1)≤((w1.length+1:Nat):Int) then if w64 (a+1)=0∨w64 (a+1)<((w1.length+1:Nat):Int) then if 0≤a∧a≤((w1.length+1:Nat):Int) then if a=0∨a<((w1.length+1:Nat):Int) then if(List.take (w1.length+1-Int.toNat a) (List.drop (Int.toNat a) (w1++[qc.mk 0 (ByteArray.mk (List.toArray []))]))).length*2=(w1.length+1-Int.toNat a)*2∧Int.toNat (w64 (a+1))*2+(w1.length+1-Int.toNat (w64 (a+1)))*2≤(w1.length+1)*2 then if 0≤t8∧t8<((t7.length:Nat):Int) then Option.bind t7[Int.toNat t8]? fun(a8:qc)=>if 0≤a∧a<((w1.length+1:Nat):Int) then if Int.toNat a*2+2≤(w1.length+1)*2 then some (Sum.inl (List.set (spl (w1++[qc.mk 0 (ByteArray.mk (List.toArray []))]) (Int.toNat (w64 (a+1))) (List.take (min (w1.length+1-Int.toNat a) (w1.length+1-Int.toNat (w64 (a+1)))) (List.take (w1.length+1-Int.toNat a) (List.drop (Int.toNat a) (w1++[qc.mk 0 (ByteArray.mk (List.toArray []))]))))) (Int.toNat a) a8,w64 (t8+1))) else none else none else none else none else if Int.toNat (w64 (a+1))*2+(w1.length+1-Int.toNat (w64 (a+1)))*2≤(w1.length+1)*2 then if 0≤t8∧t8<((t7.length:Nat):Int) then Option.bind t7[Int.toNat t8]? fun(a9:qc)=>if 0≤a∧a<((w1.length+1:Nat):Int) then if Int.toNat a*2+2≤(w1.length+1)*2 then some (Sum.inl (List.set (w1++[qc.mk 0 (ByteArray.mk (List.toArray []))]) (Int.toNat a) a9,w64 (t8+1))) else none else none else none else none else none else if 0≤a∧a≤((w1.length+1:Nat):Int) then if a=0∨a<((w1.length+1:Nat):Int) then if(List.take (w1.length+1-Int.toNat a) (List.drop (Int.toNat a) (w1++[qc.mk 0 (ByteArray.mk (List.toArray []))]))).length*2=(w1.length+1-Int.toNat a)*2 then if 0≤t8∧t8<((t7.length:Nat):Int) then Option.bind t7[Int.toNat t8]? fun(a10:qc)=>if 0≤a∧a<((w1.length+1:Nat):Int) then if Int.toNat a*2+2≤(w1.length+1)*2 then some (Sum.inl (List.set (w1++[qc.mk 0 (ByteArray.mk (List.toArray []))]) (Int.toNat a) a10,w64 (t8+1))) else none else none else none else none else if 0≤t8∧t8<((t7.length:Nat):Int) then Option.bind t7[Int.toNat t8]? fun(a11:qc)=>if 0≤a∧a<((w1.length+1:Nat):Int) then if Int.toNat a*2+2≤(w1.length+1)*2 then some (Sum.inl (List.set (w1++[qc.mk 0 (ByteArray.mk (List.toArray []))]) (Int.toNat a) a11,w64 (t8+1))) else none else none else none else none else none else none else some (Sum.inr w1)
theorem q5C:∀(w0:List qv) (w1:List qc) (t6:Int) (t7:List qc) (t8:Int) (q0h QO:Nat),q0h=w0.length→QO=w1.length→XL2 evo 54 0 8 ⟨[(3,rO 0 6 q0h),(5,rO 1 2 QO),(6,rI t6),(7,rL 2 qd t7),(8,rI t8)],[(0,bR 150 6 qR w0),(1,bR 55 2 qd w1)],2,85⟩=(zy (Z6 w0 t6 t7) (w1,t8)).bind (fun(e:List qc)=>some (Exit.exit 2,⟨[(3,rO 0 6 w0.length),(5,rO 1 2 e.length),(6,rI t6)],[(0,bR 150 6 qR w0),(1,bR 55 2 qd e)],2,85⟩)):=
 by
 intro w0 w1 t6 t7 t8 q0h QO h0 h1
 subst h0 h1
 revert t8;revert w1;exact qa4 qtf qtc (fun e=>by exact⟨_,rfl,fun h=>by cases h⟩) fun w1 t8=>by
  have:=qvg;have:=@qjM.eq_1;have:=@q5i;have:=@Z6.eq_1;exact gA
def Z7 (w0:List qv):(List qc×Int)→Option ((List qc×Int)⊕(List qc))|(w1,t6)=>if t6<((w0.length:Nat):Int) then if 0≤t6∧t6<((w0.length:Nat):Int) then Option.bind w0[Int.toNat t6]? fun(a:qv)=>Option.bind (zy (Z6 w0 t6 a.Need.Set) (w1,0)) fun(a2:List qc)=>some (Sum.inl (a2,w64 (t6+1))) else none else some (Sum.inr w1)
theorem q5D:∀(w0:List qv) (w1:List qc) (t6:Int) (q0h QO:Nat),q0h=w0.length→QO=w1.length→XL2 evo 54 0 4 ⟨[(3,rO 0 6 q0h),(5,rO 1 2 QO),(6,rI t6)],[(0,bR 150 6 qR w0),(1,bR 55 2 qd w1)],2,85⟩=(zy (Z7 w0) (w1,t6)).bind (fun(e:List qc)=>some (Exit.exit 0,⟨[(5,rO 0 2 e.length)],[(0,bR 55 2 qd e)],1,85⟩)):=
 by
 intro w0 w1 t6 q0h QO h0 h1
 subst h0 h1
 revert t6;revert w1;exact qa4 qtb qsN (fun e=>by exact⟨_,rfl,fun h=>by cases h⟩) fun w1 t6=>by
  have:=qvg;have:=@qkd.eq_1;have:=@q5C;have:=@Z7.eq_1;exact gA
theorem q4n:∀  (w0:List qv) (t6:Int) (q0h:Nat),q0h=w0.length→XL2 evo 54 0 4 ⟨[(3,rO 0 6 q0h),(5,rO 1 2 0),(6,rI t6)],[(0,bR 150 6 qR w0),(1,B.row 55 2 [])],2,85⟩=(zy (Z7 w0) ([],t6)).bind (fun(e:List qc)=>some (Exit.exit 0,⟨[(5,rO 0 2 e.length)],[(0,bR 55 2 qd e)],1,85⟩)):=by
 intro w0 t6 q0h h0;subst h0;have h:=q5D w0 [] t6 _ _ rfl rfl
 first
  | exact h
  | (simp only[rL,dL,bR,bZ,Nat.reduceAdd] at h;exact h)
def q12 (x0:qb):Option (List qc):=Option.bind (q3m x0 1) fun(a:Sum Unit (List qv))=>Sum.elim (fun(a2:Unit)=>Option.bind (zy (q0S []) ([],0)) fun(a4:List qc)=>some a4) (fun(a3:List qv)=>Option.bind (zy (Z7 a3) ([],0)) fun(a5:List qc)=>some a5) a
theorem q9P:∀(qE J8 qY:Int) (qZ:List qc) (J9:List qb),ev 54 0 [R.agg [dI qE,dI J8,dI qY,dL 2 qd qZ,dL 5 qh J9]] []=(q12 (qb.mk qE J8 qY qZ J9)).bind (fun(e:List qc)=>some (rO 0 2 e.length,[(0,bR 55 2 qd e)])):=
 fun qE J8 qY qZ J9=>by
  rw[qS qya qIM.2.2.2 qE1]
  have:=qvg;have:=@qd2;have:=@q52;have:=@q4n;have:=@q12.eq_1;exact gA
theorem qL1:okL 55 qp7:=qW (qk qFx) (by kernel_rfl) (by kernel_rfl)
def qL0:=JA_ @qp7.eq_1 (JA_ @Tryz.f55.eq_1 @qFx)
theorem qMw:okL 96 qpb:=qW (qk qH4) (by kernel_rfl) (by kernel_rfl)
def qLT:=JA_ @qpb.eq_1 (JA_ @Tryz.f96.eq_1 @qH4)
def q4d (n:Int) (m:Int):Option Int:=if m=0 then none else if m=0 then none else some (Int.tmod (w64 (Int.tmod n m+m)) m)
theorem qdE:∀(n m:Int),ev 96 0 [rI n,rI m] []=(q4d n m).bind (fun(e:Int)=>some (rI e,[])):=
 fun n m=>by
  rw[qS qH4 qIW.2.2.2 qMw]
  have:=qLT;have:=@q4d.eq_1;exact gA
def QI (n:Int) (d:qi):Option (Int×qi):=if((d.L.length:Nat):Int)≤d.At then some (0,d) else if 0≤w64 (w64 (d.At+1)-1)∧w64 (w64 (d.At+1)-1)<((d.L.length:Nat):Int) then Option.bind d.L[Int.toNat (w64 (w64 (d.At+1)-1))]? fun(a:Int)=>Option.bind (q4d a n) fun(a2:Int)=>some (a2,qi.mk d.L (w64 (d.At+1))) else none
theorem q3y:∀(n:Int) (d_L:List Int) (q8L:Int),ev 55 1 [rP 0,rI n] [(0,B.blk 109 [dL 1 eI d_L,dI q8L])]=(QI n (qi.mk d_L q8L)).bind (fun(e:Int×qi)=>some (rI e.1,[(0,B.blk 109 [dL 1 eI e.2.L,dI e.2.At])])):=
 fun n d_L q8L=>by
  rw[qS qFx qIC.2.2.2 qL1]
  have:=qL0;have:=@qdE;have:=@QI.eq_1;exact gA
def Ze (w1:List qc) (t8:Int):(List qa×qi×Int)→Option ((List qa×qi×Int)⊕(List qa))|(w2,b0,t9)=>if t9<t8 then Option.bind (QI ((w1.length:Nat):Int) b0) fun(a:Prod Int qi)=>if 0≤a.1∧a.1<((w1.length:Nat):Int) then Option.bind w1[Int.toNat a.1]? fun(a2:qc)=>Option.bind (QI 4 a.2) fun(a3:Prod Int qi)=>if 0≤a3.1∧a3.1<4 then Option.bind [(5:Int),6,10,3][Int.toNat a3.1]? fun(a4:Int)=>Option.bind (QI 7 a3.2) fun(a5:Prod Int qi)=>if 0≤a5.1∧a5.1<7 then Option.bind [(50:Int),60,90,40,100,79,80][Int.toNat a5.1]? fun(a6:Int)=>Option.bind (QI 600 a5.2) fun(a7:Prod Int qi)=>Option.bind (QI 8 a7.2) fun(a8:Prod Int qi)=>if(a8.1==0)=Bool.true then if 0<t9 then if 0≤w64 (t9-1)∧w64 (t9-1)<((w2.length:Nat):Int) then Option.bind w2[Int.toNat (w64 (t9-1))]? fun(a9:qa)=>if 0<((a9.Sources.length:Nat):Int) then Option.bind a9.Sources[0]? fun(a10:Int)=>if w2.length+1≤maxLen∧(w2.length+1)*104≤140737488355328 then some (Sum.inl (w2++[qa.mk a2 a4 a6 a7.1 [a10] 0 []],a8.2,w64 (t9+1))) else none else none else none else if w2.length+1≤maxLen∧(w2.length+1)*104≤140737488355328 then some (Sum.inl (w2++[qa.mk a2 a4 a6 a7.1 [w64 (w64 (w64 (1000000*a2.School)+t9)+1)] 0 []],a8.2,w64 (t9+1))) else none else if w2.length+1≤maxLen∧(w2.length+1)*104≤140737488355328 then some (Sum.inl (w2++[qa.mk a2 a4 a6 a7.1 [w64 (w64 (w64 (1000000*a2.School)+t9)+1)] 0 []],a8.2,w64 (t9+1))) else none else none else none else none else some (Sum.inr w2)
theorem q9L:∀(w1:List qc) (w2:List qa) (q3E:List Int) (q1N t8 t9:Int) (QO q2u:Nat),QO=w1.length→q2u=w2.length→XL2 evo 31 0 6 ⟨[(5,rP 0),(6,rO 1 2 QO),(7,rO 2 8 q2u),(8,rI t8),(9,rI t9)],[(0,B.blk 109 [dL 1 eI q3E,dI q1N]),(1,bR 55 2 qd w1),(2,bR 57 8 qe w2)],3,77⟩=(zy (Ze w1 t8) (w2,(qi.mk q3E q1N),t9)).bind (fun(e:List qa)=>some (Exit.exit 0,⟨[(7,rO 0 8 e.length)],[(0,bR 57 8 qe e)],1,77⟩)):=
 by
 intro w1 w2 q3E q1N t8 t9 QO q2u h0 h1
 subst h0 h1
 have h:=q4P (E:=evo) (f:=31) (k:=0) (st:=fun x:List qa×qi×Int=>(⟨[(5,rP 0),(6,rO 1 2 w1.length),(7,rO 2 8 x.1.length),(8,rI t8),(9,rI x.2.2)],[(0,B.blk 109 [dL 1 eI x.2.1.L,dI x.2.1.At]),(1,bR 55 2 qd w1),(2,bR 57 8 qe x.1)],3,77⟩:S)) (ex:=fun(e:List qa)=>(Exit.exit 0,⟨[(7,rO 0 8 e.length)],[(0,bR 57 8 qe e)],1,77⟩)) (step:=(Ze w1 t8)) qz8 qBd (fun e h=>by cases h) (fun x=>by
  obtain⟨w2,b0,t9⟩:=x;have:=qJA;have:=@qpu.eq_1;have:=@q3y;have:=@Ze.eq_1;exact gA) (w2,(qi.mk q3E q1N),t9)
 exact h
theorem q7f:∀  (w1:List qc) (q3E:List Int) (q1N t8 t9:Int) (QO:Nat),QO=w1.length→XL2 evo 31 0 6 ⟨[(5,rP 0),(6,rO 1 2 QO),(7,rO 2 8 0),(8,rI t8),(9,rI t9)],[(0,B.blk 109 [dL 1 eI q3E,dI q1N]),(1,bR 55 2 qd w1),(2,B.row 57 8 [])],3,77⟩=(zy (Ze w1 t8) ([],(qi.mk q3E q1N),t9)).bind (fun(e:List qa)=>some (Exit.exit 0,⟨[(7,rO 0 8 e.length)],[(0,bR 57 8 qe e)],1,77⟩)):=by
 intro w1 q3E q1N t8 t9 QO h0;subst h0;have h:=q9L w1 [] ((qi.mk q3E q1N)).L ((qi.mk q3E q1N)).At t8 t9 _ _ rfl rfl
 first
  | exact h
  | (simp only[rL,dL,bR,bZ,Nat.reduceAdd] at h;exact h)
def q3j (x0:qb) (x1:List Int):Option (List qa):=Option.bind (q12 x0) fun(a:List qc)=>if a.length+1≤maxLen∧(a.length+1)*24≤140737488355328 then Option.bind (QI 8 (qi.mk x1 0)) fun(a2:Prod Int qi)=>Option.bind (zy (Ze (a++[qc.mk 1 (ByteArray.mk (List.toArray [90]))]) a2.1) ([],(a2.2,0))) fun(a3:List qa)=>some a3 else none
theorem qc7:∀(qE J8 qY:Int) (qZ:List qc) (J9:List qb) (x1:List Int),ev 31 0 [R.agg [dI qE,dI J8,dI qY,dL 2 qd qZ,dL 5 qh J9],rL 1 eI x1] []=(q3j (qb.mk qE J8 qY qZ J9) x1).bind (fun(e:List qa)=>some (rL 8 qe e,[])):=
 fun qE J8 qY qZ J9 x1=>by
  rw[qS qEw qJ9.2.2.2 qIU]
  have:=qJA;have:=@q9P;have:=@q3y;have:=@q7f;have:=@q3j.eq_1;exact gA
def q09 (c:q0d):Option (qf×List qa×Int):=Option.bind (q3g c.Programme) fun(a:qf)=>Option.bind (q3n c.Had) fun(a2:List qa)=>if(Int.tmod c.Day 2==0)=Bool.true then Option.bind (q3j a.Need c.Had) fun(a3:List qa)=>some (a,a3,Int.tmod (w64 c.Day) 800) else some (a,a2,Int.tmod (w64 c.Day) 800)
theorem q7P:∀(q8M qy4:List Int) (qy5:Int),ev 11 0 [R.agg [dL 1 eI q8M,dL 1 eI qy4,C.d (D.int .u16 qy5)]] []=(q09 (q0d.mk q8M qy4 qy5)).bind (fun(e:qf×List qa×Int)=>some (R.tup [R.agg [dI e.1.School,dI e.1.Id,dI e.1.Version,dI e.1.From,dS e.1.Name,dI e.1.Need.Kind,dI e.1.Need.N,dI e.1.Need.Min,dL 2 qd e.1.Need.Set,dL 5 qh e.1.Need.L,dI e.1.Total,dI e.1.Own,dI e.1.Age,dL 4 (eA2 qd) e.1.Exclude],rL 8 qe e.2.1,rI e.2.2],[])):=
 fun q8M qy4 qy5=>by
  rw[qS qGr qJH.2.2.2 qKm]
  have:=qKI;have:=@qcU;have:=@qch;have:=@qc7;have:=@q09.eq_1;exact gA
end

end Go.Proofs.YtojflbfdcpkedaaGreat.Vc
