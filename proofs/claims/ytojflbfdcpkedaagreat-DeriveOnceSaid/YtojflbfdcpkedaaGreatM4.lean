/- Part 4 of a proof. -/
import Derived.Test.YtojflbfdcpkedaaGreatM3
set_option linter.unusedVariables false
set_option linter.unusedSimpArgs false
set_option linter.defProp false
set_option linter.unusedSectionVars false
set_option linter.unnecessarySimpa false
namespace Go.Proofs.YtojflbfdcpkedaaGreat.Vc
noncomputable section
open Go.RowKit
theorem qIJ:qh3 Tryz.prog 55=true:=by kernel_rfl
theorem qHQ:qrF Tryz.prog 70=true:=by kernel_rfl
def by0:=JA_ @k3 (JA_ @z3 (JA_ @b3 (JA_ @o3 (JA_ @q3 (JA_ @k4 (JA_ @z4 (JA_ @b4 (JA_ @o4 (JA_ @q4 (JA_ @k5 (@z5)))))))))))
def by1:=JA_ @k9 (JA_ @z9 (@q9))
def by2:=JA_ @q21 (JA_ @k22 (JA_ @z22 (JA_ @o22 (JA_ @q22 (JA_ @k23 (JA_ @z23 (JA_ @k25 (@z25))))))))
def by3:=JA_ @q25 (JA_ @k26 (JA_ @z26 (JA_ @o26 (JA_ @q26 (JA_ @k28 (JA_ @z28 (JA_ @o28 (JA_ @q28 (JA_ @k29 (JA_ @z29 (JA_ @o29 (JA_ @k33 (@z33)))))))))))))
def by4:=JA_ @q33 (JA_ @k34 (JA_ @z34 (JA_ @o34 (JA_ @q34 (JA_ @k36 (JA_ @z36 (JA_ @b36 (JA_ @o36 (JA_ @q36 (JA_ @k37 (JA_ @z37 (JA_ @q37 (JA_ @k39 (JA_ @z39 (JA_ @o39 (@q39))))))))))))))))
def by5:=JA_ @k48 (JA_ @z48 (JA_ @o48 (JA_ @q48 (JA_ @k49 (JA_ @z49 (JA_ @o49 (@q49)))))))
def by6:=JA_ @k55 (JA_ @z55 (JA_ @b55 (JA_ @o55 (JA_ @q55 (JA_ @k57 (JA_ @z57 (JA_ @b57 (JA_ @o57 (@q57)))))))))
def by8:=JA_ @k70 (JA_ @z70 (JA_ @o70 (@q70)))
def by9:=@k76
def qNf:=JA_ @k85 (JA_ @q85 (JA_ @k88 (JA_ @z88 (JA_ @o88 (@q88)))))
def qLh:=@q92
def qNS:=JA_ @qLV (JA_ @qNw (JA_ @qL0 (JA_ @qLO (JA_ @qML (JA_ @qLq (JA_ @qLB (@qLs)))))))
def qMK:=JA_ @qNx (JA_ @qNz (JA_ @qMQ (JA_ @qLQ (JA_ @qO8 (JA_ @qMD (JA_ @qMp (JA_ @qNh (@qLe))))))))
def qMS:=JA_ @qOs (JA_ @qNk (JA_ @qOh (@qNm)))
def qN0:=JA_ @qOx (JA_ @qMy (JA_ @qLK (JA_ @qMb (JA_ @qNy (JA_ @qNO (JA_ @qMd (JA_ @qO6 (JA_ @qNb (JA_ @qMC (@qMq))))))))))
def qNK:=JA_ @qLR (JA_ @qM3 (JA_ @qMH (JA_ @qL7 (JA_ @qMn (JA_ @qME (@qMl))))))
def qOi:=JA_ @qNc (JA_ @qLI (@qO5))
def qKY:=JA_ @qOb (JA_ @qMf (JA_ @qLU (JA_ @qOg (JA_ @qNL (JA_ @qM9 (JA_ @qNI (JA_ @qOm (JA_ @qNr (JA_ @qMB (@qM6))))))))))
def qMo:=JA_ @qNd (@qLv)
def qM1:=@qMN
def qO2:=JA_ @qLj (@qN5)
def qNg:=@qIJ
def qN4:=JA_ @qHQ (JA_ @pw6 (JA_ @qJ3 (JA_ @qJj (JA_ @qKD (JA_ @qJ4 (JA_ @qJJ (JA_ @qJ9 (JA_ @qKl (JA_ @qJM (JA_ @qJl (JA_ @qKg (JA_ @qJb (JA_ @qKH (JA_ @qKE (JA_ @qJI (JA_ @qKu (JA_ @qKF (@qKr))))))))))))))))))
def qMR:=JA_ @qK9 (JA_ @qKn (JA_ @qJ7 (JA_ @qJz (JA_ @qJo (JA_ @qJG (JA_ @qKx (JA_ @qJQ (JA_ @qJf (JA_ @qKh (JA_ @qKJ (JA_ @qKk (JA_ @qKc (JA_ @qKC (JA_ @qJs (JA_ @qKe (JA_ @qJw (JA_ @qKo (JA_ @qJh (JA_ @qHC (JA_ @qJT (JA_ @qLH (JA_ @qKL (JA_ @qJt (JA_ @qKB (JA_ @qKM (JA_ @qKz (JA_ @qIX (JA_ @qJa (JA_ @qKp (@qKf))))))))))))))))))))))))))))))
def qNN:=JA_ @qJn (JA_ @qJp (JA_ @qF9 (JA_ @qKb (JA_ @qFI (JA_ @qKI (JA_ @qIu (JA_ @qJd (JA_ @qJX (JA_ @qJR (JA_ @qKa (JA_ @qKi (JA_ @qIG (JA_ @qEL (JA_ @qK5 (JA_ @qKt (JA_ @qJZ (JA_ @qJW (JA_ @qAM (JA_ @qzy (JA_ @qBy (JA_ @qzh (JA_ @qnN (JA_ @qyJ (JA_ @qCB (JA_ @qCG (JA_ @qBG (JA_ @qAW (JA_ @qAu (JA_ @qBQ (@qBA))))))))))))))))))))))))))))))
def qL8:=JA_ @qA3 (JA_ @qBF (JA_ @qCD (JA_ @quC (JA_ @qr2 (JA_ @qD9 (JA_ @qzc (JA_ @qAi (JA_ @qAV (JA_ @qAw (JA_ @qBh (JA_ @qCO (JA_ @qCM (JA_ @qBB (JA_ @qB9 (JA_ @qBM (JA_ @qAC (JA_ @qA4 (JA_ @qBm (@qBX)))))))))))))))))))
def qLz:=JA_ @qDd (JA_ @qCr (JA_ @qCk (JA_ @qDu (JA_ @qEh (JA_ @qAQ (JA_ @qBb (JA_ @qDP (JA_ @qrR (JA_ @qCJ (JA_ @qEf (JA_ @qB7 (JA_ @qDx (JA_ @qzE (JA_ @qBH (JA_ @qDs (JA_ @qGe (@qHd)))))))))))))))))
def qKV:=JA_ @qHx (JA_ @qGI (JA_ @qHi (JA_ @qGX (JA_ @qGl (JA_ @qIe (JA_ @qHb (JA_ @qHR (JA_ @qHg (JA_ @qI0 (JA_ @qGx (JA_ @qIr (JA_ @qHh (@qFY)))))))))))))
def qKS:=JA_ @qHo (JA_ @qIA (JA_ @qIt (JA_ @qG1 (JA_ @qGi (JA_ @qHJ (JA_ @qFN (JA_ @qFB (JA_ @qFL (JA_ @qH4 (JA_ @qIq (JA_ @qId (JA_ @qH8 (JA_ @qIx (JA_ @qFp (JA_ @qFz (JA_ @qIn (JA_ @qFS (@qHZ))))))))))))))))))
def qLN:=JA_ @qIR (JA_ @qGg (JA_ @qGJ (JA_ @qAA (JA_ @qDT (JA_ @qDi (JA_ @qzN (JA_ @qzJ (JA_ @qCI (JA_ @qCV (@qCQ))))))))))
def qM7:=JA_ @qzU (JA_ @qDa (JA_ @qAO (JA_ @qD0 (JA_ @qE5 (JA_ @qB2 (JA_ @qDR (JA_ @qzj (JA_ @qAo (JA_ @qAR (JA_ @qBC (@qCA)))))))))))
def qOv:=JA_ @qAe (JA_ @qE2 (JA_ @qC2 (JA_ @qD6 (JA_ @qCE (JA_ @qFO (JA_ @qAk (JA_ @qAT (JA_ @qDl (JA_ @qBL (JA_ @qBI (JA_ @qAf (JA_ @qDg (JA_ @qD8 (JA_ @qCi (JA_ @qCR (JA_ @qBq (JA_ @qDm (JA_ @qz9 (@qzd)))))))))))))))))))
def qLW:=JA_ @qBx (JA_ @qzH (JA_ @quH (JA_ @qz6 (JA_ @qCN (JA_ @qwT (JA_ @qD1 (JA_ @qE6 (JA_ @qA0 (JA_ @qC8 (JA_ @qAv (JA_ @qzz (JA_ @qDt (JA_ @qx4 (JA_ @qyF (JA_ @qDb (JA_ @qyT (JA_ @qzv (JA_ @qBf (JA_ @qBY (@qCU))))))))))))))))))))
def qNi:=JA_ @qDY (JA_ @qsV (JA_ @qsW (JA_ @qsi (JA_ @qsn (JA_ @qvv (JA_ @qxY (JA_ @qwF (JA_ @qu0 (JA_ @qy2 (JA_ @qxC (JA_ @qvb (JA_ @qut (@qwL)))))))))))))
def qNJ:=JA_ @quS (JA_ @qyc (JA_ @qws (JA_ @qxx (@qwI))))
def qLf:=JA_ @qG0 (JA_ @qAp (JA_ @qAG (JA_ @quK (JA_ @qCF (JA_ @quh (@qzD))))))
def qMw:=JA_ @qxE (JA_ @qCS (JA_ @qBj (JA_ @qAn (JA_ @qzu (JA_ @qBn (JA_ @qEc (JA_ @quN (JA_ @qwp (JA_ @qDo (JA_ @qAS (JA_ @qC9 (JA_ @qxl (JA_ @qw8 (JA_ @qvB (JA_ @qEi (JA_ @qEe (JA_ @qxm (JA_ @qDc (JA_ @qBo (JA_ @qvT (JA_ @qD3 (JA_ @qA1 (JA_ @qAh (JA_ @qBz (JA_ @qx3 (@quV))))))))))))))))))))))))))
def qN3:=JA_ @qwm (JA_ @qxQ (JA_ @qv9 (JA_ @qrk (JA_ @qtZ (JA_ @qxd (JA_ @qyd (JA_ @quL (JA_ @qxf (JA_ @qrW (JA_ @qqX (@qye)))))))))))
def qNX:=JA_ @qwU (JA_ @qvr (JA_ @qxb (JA_ @qFU (JA_ @qBN (JA_ @qyB (JA_ @quO (JA_ @qzf (JA_ @qv0 (JA_ @qz5 (JA_ @qvX (@qzK)))))))))))
def qNC:=JA_ @qE4 (JA_ @qCL (JA_ @qyO (JA_ @qB6 (JA_ @qyR (JA_ @qxI (JA_ @qum (JA_ @qzw (JA_ @qzl (JA_ @qE7 (JA_ @qwa (JA_ @qv2 (JA_ @qxv (JA_ @qAr (JA_ @qzr (JA_ @qxj (JA_ @qAP (JA_ @qyS (JA_ @qxS (JA_ @qBP (JA_ @qCv (JA_ @qAD (JA_ @qyI (JA_ @qvs (JA_ @qxn (JA_ @qxt (@quZ))))))))))))))))))))))))))
def qLk:=JA_ @qvR (JA_ @qrq (JA_ @qvd (JA_ @qvf (JA_ @qxo (JA_ @qvW (JA_ @quT (JA_ @qsv (JA_ @qrL (@quc)))))))))
def qMY:=@qyg
def bt0:=JA_ @qIE (JA_ @qr5 (JA_ @qGh (JA_ @qCT (JA_ @qA7 (JA_ @quF (JA_ @qCe (JA_ @qD5 (JA_ @qe7 (JA_ @ql3 (@qlt))))))))))
def bt1:=JA_ @qyZ (JA_ @qz3 (JA_ @qrS (JA_ @q7q (JA_ @qD7 (JA_ @qld (JA_ @qEb (@qxD)))))))
def bt2:=JA_ @qwd (JA_ @qvh (JA_ @qwr (JA_ @qAE (JA_ @ql6 (JA_ @qDU (@qwB))))))
def bt3:=@qlk
def bt4:=JA_ @qqN (JA_ @qsL (@qsK))
def bt5:=JA_ @qIm (JA_ @qrT (JA_ @qBD (JA_ @qDq (JA_ @qxw (@qj3)))))
def bt6:=JA_ @qw9 (JA_ @qyk (JA_ @qdr (JA_ @qdX (JA_ @q8D (JA_ @qf5 (JA_ @qbv (JA_ @q7u (JA_ @qbC (JA_ @qdZ (@qvK))))))))))
def bA:=JA_ @bx0 (JA_ @bx1 (JA_ @bx2 (JA_ @bx3 (JA_ @bx4 (JA_ @bx5 (JA_ @bx6 (JA_ @bx7 (JA_ @bx8 (JA_ @bx9 (JA_ @qLT (JA_ @qN9 (JA_ @qNU (JA_ @qN8 (JA_ @qNZ (JA_ @qNY (JA_ @qNp (JA_ @qO0 (JA_ @qMW (JA_ @qOu (JA_ @qL3 (JA_ @qLp (JA_ @qLg (JA_ @qOk (JA_ @qN6 (JA_ @qN2 (JA_ @qMU (JA_ @qLZ (JA_ @bz0 (JA_ @bz1 (JA_ @by0 (JA_ @by1 (JA_ @by2 (JA_ @by3 (JA_ @by4 (JA_ @by5 (JA_ @by6 (JA_ @by8 (JA_ @by9 (JA_ @qNf (JA_ @qLh (JA_ @qNS (JA_ @qMK (JA_ @qMS (JA_ @qN0 (JA_ @qNK (JA_ @qOi (JA_ @qKY (JA_ @qMo (JA_ @qM1 (JA_ @qO2 (JA_ @qNg (JA_ @qN4 (JA_ @qMR (JA_ @qNN (JA_ @qL8 (JA_ @qLz (JA_ @qKV (JA_ @qKS (JA_ @qLN (JA_ @qM7 (JA_ @qOv (JA_ @qLW (JA_ @qNi (JA_ @qNJ (JA_ @qLf (JA_ @qMw (JA_ @qN3 (JA_ @qNX (JA_ @qNC (JA_ @qLk (JA_ @qMY (JA_ @bt0 (JA_ @bt1 (JA_ @bt2 (JA_ @bt3 (JA_ @bt4 (JA_ @bt5 (@bt6))))))))))))))))))))))))))))))))))))))))))))))))))))))))))))))))))))))))))))))
def bZ:=JA_ @qPf.{0} (JA_ @qPU.{0} (JA_ @q6W (JA_ @qPQ.{0} (JA_ @qPj.{0} (JA_ @qPS.{0} (JA_ @qPw (JA_ @qQd.{0,0} (JA_ @List.flatMap_nil.{0,0} (JA_ @qPv.{0,0} (JA_ @List.map_nil.{0,0} (JA_ @eI.eq_1 (JA_ @eS.eq_1 (JA_ @qQe.{0} (JA_ @qPs.{0} (JA_ @qPt.{0} (JA_ @List.flatMap_append.{0,0} (JA_ @List.map_append.{0,0} (JA_ @q2v (JA_ @q1k (JA_ @Jv (@eA2.eq_1)))))))))))))))))))))
theorem gA {P:Prop} (h:P:=by simp -implicitDefEqProofs (maxSteps:=10000000) only[bA,Int.reduceToNat,Int.reduceLT,Int.reduceLE,Int.reduceAdd,Int.reduceSub,Int.reduceMul,Int.reduceNeg,Int.reduceEq,Int.reduceNe,Int.reduceBEq,Int.reduceBNe,Nat.reduceLT,Nat.reduceAdd,Nat.reduceMul,Nat.reduceSub,Nat.reduceEqDiff,Nat.reduceLeDiff,Nat.reduceBEq,Nat.reduceBNe,↓reduceIte,reduceCtorEq,pure,bind,w64,zU,roundOf,Option.or_some,Option.or_none,Option.none_or,Option.some_or, *]<;>simp only[rL,dL,bR,bZ,Nat.reduceAdd]):P:=h
end
noncomputable section
open Go.RowKit
set_option maxRecDepth 20000
set_option maxHeartbeats 8000000
theorem qH3:okL 15 qem:=qS (ql qyy) (by kernel_rfl) (by kernel_rfl)
def qFF:=JA_ @qem.eq_1 (JA_ @Tryz.f15.eq_1 @qyy)
theorem qyU:lbO 15 6=qpf:=Qr (ql qyy) rfl
theorem qDf:okL 15 qpf:=zJ qH3 (qP9 (i:=0) (by kernel_rfl))
theorem qm8:raO 15 19=qb4:=qtr (ql qyy) rfl
theorem qhY:rbO 15 19=q8v:=qtb (ql qyy) rfl
theorem qnj:okL 15 qb4∧okL 15 q8v:=qtL (key:=0) (q:=(qb4,q8v)) qH3 (qP9 (i:=0) (by kernel_rfl))
theorem qht:Q4 (rbO 15 19)=19:=by rw[qhY];exact quG
theorem qu3:∀k s,XE2 evo 15 k (raO 15 19) s=XE2 evo 15 k qb4 s:=fun _ _=>by rw[qm8]
theorem qvH:∀k s,XE2 evo 15 k (rbO 15 19) s=XE2 evo 15 k q8v s:=fun _ _=>by rw[qhY]
theorem qMv:okL 33 qoR:=qS (ql qFQ) (by kernel_rfl) (by kernel_rfl)
def qOc:=JA_ @qoR.eq_1 (JA_ @Tryz.f33.eq_1 @qFQ)
theorem qJr:okL 56 qkP:=qS (ql qEK) (by kernel_rfl) (by kernel_rfl)
def qJU:=JA_ @qkP.eq_1 (JA_ @Tryz.f56.eq_1 @qEK)
theorem qwN:lbO 56 13=qiE:=Qr (ql qEK) rfl
theorem qxq:okL 56 qiE:=zJ qJr (qP9 (i:=0) (by kernel_rfl))
theorem qOo:okL 97 qlW:=qS (ql qGy) (by kernel_rfl) (by kernel_rfl)
def qLt:=JA_ @qlW.eq_1 (JA_ @Tryz.f97.eq_1 @qGy)
def q3Y (n:Int) (low:Int) (high:Int):Option Bool:=if low≤n then some (decide (n≤high)) else some Bool.false
def zA (n:Int) (low:Int) (high:Int):Bool:=if low≤n then decide (n≤high) else Bool.false
theorem qaQ (n low high:Int):q3Y n low high=some (zA n low high):=by
 unfold q3Y zA
 simp only[Zn]
theorem Js:∀(n low high:Int),ev 97 0 [rI n,rI low,rI high] []=some (rB (zA n low high),[]):=
 fun n low high=>by
  have h:ev 97 0 [rI n,rI low,rI high] []=(q3Y n low high).bind (fun(e:Bool)=>some (rB e,[])):=by
   rw[qR qGy qKt.2.2.2 qOo]
   have:=qLt;have:=@q3Y.eq_1;exact gA
  rw[qaQ] at h
  exact h
theorem qJH:okL 98 qkh:=qS (ql qEM) (by kernel_rfl) (by kernel_rfl)
def qK1:=JA_ @qkh.eq_1 (JA_ @Tryz.f98.eq_1 @qEM)
theorem qDL:lbO 98 2=qn5:=Qr (ql qEM) rfl
theorem qB3:okL 98 qn5:=zJ qJH (qP9 (i:=0) (by kernel_rfl))
def q0j (s:ByteArray) (t6:List Int) (t7:Int):Int→Option (Int⊕(Unit⊕Unit))|t8=>if t8<t7 then if 0≤t8∧t8<((t6.length:Nat):Int) then Option.bind t6[Int.toNat t8]? fun(a:Int)=>if a<32 then some (Sum.inr (Sum.inl ())) else if 126<a then some (Sum.inr (Sum.inl ())) else if(a==34)=Bool.true then some (Sum.inr (Sum.inl ())) else some (Sum.inl (w64 (t8+1))) else none else some (Sum.inr (Sum.inr ()))
theorem q9u:∀(s:ByteArray) (t6:List Int) (t7 t8:Int),XL2 evo 98 0 2 ⟨[(0,rS s),(6,rL 1 eU8 t6),(7,rI t7),(8,rI t8)],[],0,26⟩=(zl (q0j s t6 t7) t8).bind (Sum.elim (fun(e:Unit)=>some (Exit.ret,⟨[(0,rS s),(2,rB Bool.false)],[],0,26⟩)) (fun(e:Unit)=>some (Exit.exit 0,⟨[(0,rS s),(2,R.any)],[],0,26⟩))):=
 fun s t6 t7 t8=>by
  revert t8;exact qa6 qDL qB3 (fun e=>by rcases e with _|_<;>exact⟨_,rfl,fun h=>by cases h⟩) fun x=>by
   have:=qK1;have:=@qn5.eq_1;have:=@q0j.eq_1;exact gA
def q1j (s:ByteArray):Option Bool:=if ByteArray.size s≤4611686018427387903 then Option.bind (zl (q0j s (qhb s) (((qhb s).length:Nat):Int)) 0) fun(a:Sum Unit Unit)=>Sum.elim (fun(a2:Unit)=>some Bool.false) (fun(a3:Unit)=>some (zA ((ByteArray.size s:Nat):Int) 1 40)) a else none
theorem qd8:∀(s:ByteArray),ev 98 0 [rS s] []=(q1j s).bind (fun(e:Bool)=>some (rB e,[])):=
 fun s=>by
  rw[qR qEM qJZ.2.2.2 qJH]
  have:=qK1;have:=@q9u;have:=@Js;have:=@q1j.eq_1;exact gA
theorem qJV:okL 58 qkw:=qS (ql qER) (by kernel_rfl) (by kernel_rfl)
def qJx:=JA_ @qkw.eq_1 (JA_ @Tryz.f58.eq_1 @qER)
theorem qzG:lbO 58 6=qms:=Qr (ql qER) rfl
theorem qCH:okL 58 qms:=zJ qJV (qP9 (i:=0) (by kernel_rfl))
theorem qDM:okL 102 qd4:=qS (ql qo3) (by kernel_rfl) (by kernel_rfl)
def qxr:=JA_ @qd4.eq_1 (JA_ @Tryz.f102.eq_1 @qo3)
theorem qhP:raO 102 4=q8w:=qtr (ql qo3) rfl
theorem qfC:rbO 102 4=q6T:=qtb (ql qo3) rfl
theorem qeR:okL 102 q8w∧okL 102 q6T:=qtL (key:=0) (q:=(q8w,q6T)) qDM (qP9 (i:=0) (by kernel_rfl))
theorem qia:Q4 (rbO 102 4)=4:=by rw[qfC];exact qvI
theorem qo7:∀k s,XE2 evo 102 k (raO 102 4) s=XE2 evo 102 k q8w s:=fun _ _=>by rw[qhP]
theorem qoU:∀k s,XE2 evo 102 k (rbO 102 4) s=XE2 evo 102 k q6T s:=fun _ _=>by rw[qfC]
theorem qIh:okL 139 qi7:=qS (ql qw7) (by kernel_rfl) (by kernel_rfl)
def qIb:=JA_ @qi7.eq_1 (JA_ @Tryz.f139.eq_1 @qw7)
def q4L (n:qb):Option Unit:=
 some ()
def q8f (n:qb):Unit:=
 ()
theorem qbA (n:qb):q4L n=some (q8f n):=by
 unfold q4L q8f
 simp only[Zn]
theorem qcV:∀(qB n_N qN:Int) (qO:List qc) (n_L:List qb),ev 139 0 [R.agg [dI qB,dI n_N,dI qN,dL 2 qd qO,dL 5 qh n_L]] []=some (R.c (C.fn 168 [] [dP 0]),[(0,B.blk 36 [dI qB,dI n_N,dI qN,dL 2 qd qO,dL 5 qh n_L])]):=
 fun qB n_N qN qO n_L=>by
  have h:ev 139 0 [R.agg [dI qB,dI n_N,dI qN,dL 2 qd qO,dL 5 qh n_L]] []=(q4L (qb.mk qB n_N qN qO n_L)).bind (fun(e:Unit)=>some (R.c (C.fn 168 [] [dP 0]),[(0,B.blk 36 [dI qB,dI n_N,dI qN,dL 2 qd qO,dL 5 qh n_L])])):=by
   rw[qR qw7 qCO.2.2.2 qIh]
   have:=qIb;have:=@q4L.eq_1;exact gA
  rw[qbA] at h
  exact h
theorem qHz:okL 168 qiQ:=qS (ql qu8) (by kernel_rfl) (by kernel_rfl)
def qIL:=JA_ @qiQ.eq_1 (JA_ @Tryz.f168.eq_1 @qu8)
theorem qwl:okL 169 qfE:=qS (ql qnU) (by kernel_rfl) (by kernel_rfl)
def qqM:=JA_ @qfE.eq_1 (JA_ @Tryz.f169.eq_1 @qnU)
theorem qoW:lbO 169 4=qfx:=Qr (ql qnU) rfl
theorem qoH:okL 169 qfx:=zJ qwl (qP9 (i:=0) (by kernel_rfl))
def q3c (t9:Int) (t10:Int) (t102:Int) (t103:Int) (t104:List qc) (t105:List qb) (deepest:Int) (ok:Bool):Option (Unit⊕(List qb×Int)):=if 100<t9 then some (Sum.inl ()) else if 1≤maxLen then some (Sum.inr ([qb.mk t10 t102 t103 t104 t105],max deepest t9)) else none
theorem qaZ:∀(t9 t10 t102 t103:Int) (t104:List qc) (t105:List qb) (deepest:Int) (ok:Bool),evr 102 (raO 102 4) (rbO 102 4) 4 [R.any,R.any,rP 0,rP 1,rP 2,R.any,R.any,R.any,R.any,rI t9,R.agg [dI t10,dI t102,dI t103,dL 2 qd t104,dL 5 qh t105],R.any,R.any,R.any,R.any,R.any,R.any,R.any,R.any,R.any,R.any,R.any,R.any,R.any,R.any,R.any,R.any] [(0,B.blk 34 [C.nils]),(1,B.blk 3 [dI deepest]),(2,B.blk 4 [dB ok]),(3,B.ob (AO.lp 102 (R.any::R.any::rP 0::rP 1::rP 2::q8M) [9,10] (raO 102 4) (rbO 102 4) LoopState.ready none))]=(q3c t9 t10 t102 t103 t104 t105 deepest ok).bind (Sum.elim (fun(e:Unit)=>some (rB Bool.false,[(0,B.blk 34 [C.nils]),(1,B.blk 3 [dI 0]),(2,B.blk 4 [dB Bool.false]),(3,B.ob (AO.lp 102 (R.any::R.any::rP 0::rP 1::rP 2::q8M) [9,10] (raO 102 4) (rbO 102 4) LoopState.done (some Code.ret)))])) (fun(e:List qb×Int)=>some (rB Bool.true,[(0,B.blk 34 [dO 4 5 e.1.length]),(1,B.blk 3 [dI e.2]),(2,B.blk 4 [dB ok]),(3,B.ob (AO.lp 102 (R.any::R.any::rP 0::rP 1::rP 2::q8M) [9,10] (raO 102 4) (rbO 102 4) LoopState.ready none)),(4,bR 36 5 qh e.1)]))):=
 fun t9 t10 t102 t103 t104 t105 deepest ok=>by
  rw[qhm qhP qfC (by decide) qnm qeR.1 qeR.2]
  have:=qxr;have:=@qo7;have:=@qoU;have:=@q8w.eq_1;have:=@q6T.eq_1;have:=@q3c.eq_1;have:=@qia;exact gA
def q24 (t9:Int) (t10:Int) (t102:Int) (t103:Int) (t104:List qc) (t105:List qb) (w4:List qb) (deepest:Int) (ok:Bool):Option (Unit⊕(List qb×Int)):=if 100<t9 then some (Sum.inl ()) else if(((w4.length:Nat):Int)==10000)=Bool.true then some (Sum.inl ()) else if w4.length+1≤maxLen∧(w4.length+1)*72≤140737488355328 then some (Sum.inr (w4++[qb.mk t10 t102 t103 t104 t105],max deepest t9)) else none
theorem q8N:∀(t9 t10 t102 t103:Int) (t104:List qc) (t105 w4:List qb) (deepest:Int) (ok:Bool) (ZH:Nat),ZH=w4.length→evr 102 (raO 102 4) (rbO 102 4) 4 [R.any,R.any,rP 0,rP 1,rP 2,R.any,R.any,R.any,R.any,rI t9,R.agg [dI t10,dI t102,dI t103,dL 2 qd t104,dL 5 qh t105],R.any,R.any,R.any,R.any,R.any,R.any,R.any,R.any,R.any,R.any,R.any,R.any,R.any,R.any,R.any,R.any] [(0,B.blk 34 [dO 4 5 ZH]),(1,B.blk 3 [dI deepest]),(2,B.blk 4 [dB ok]),(3,B.ob (AO.lp 102 (R.any::R.any::rP 0::rP 1::rP 2::q8M) [9,10] (raO 102 4) (rbO 102 4) LoopState.ready none)),(4,bR 36 5 qh w4)]=(q24 t9 t10 t102 t103 t104 t105 w4 deepest ok).bind (Sum.elim (fun(e:Unit)=>some (rB Bool.false,[(0,B.blk 34 [C.nils]),(1,B.blk 3 [dI 0]),(2,B.blk 4 [dB Bool.false]),(3,B.ob (AO.lp 102 (R.any::R.any::rP 0::rP 1::rP 2::q8M) [9,10] (raO 102 4) (rbO 102 4) LoopState.done (some Code.ret)))])) (fun(e:List qb×Int)=>some (rB Bool.true,[(0,B.blk 34 [dO 4 5 e.1.length]),(1,B.blk 3 [dI e.2]),(2,B.blk 4 [dB ok]),(3,B.ob (AO.lp 102 (R.any::R.any::rP 0::rP 1::rP 2::q8M) [9,10] (raO 102 4) (rbO 102 4) LoopState.ready none)),(4,bR 36 5 qh e.1)]))):=
 by
 intro t9 t10 t102 t103 t104 t105 w4 deepest ok ZH h0
 subst h0
 rw[qhm qhP qfC (by decide) qnm qeR.1 qeR.2]
 have:=qxr;have:=@qo7;have:=@qoU;have:=@q8w.eq_1;have:=@q6T.eq_1;have:=@q24.eq_1;have:=@qia;exact gA
def J2 (x:(qb×Int×List qb×Int×Bool)):List R×List (Nat×B):=([R.agg [C.d (D.int .i64 x.1.Kind),C.d (D.int .i64 x.1.N),C.d (D.int .i64 x.1.Min),C.d (D.sl 2 x.1.Set.length (x.1.Set.flatMap qd)),C.d (D.sl 5 x.1.L.length (x.1.L.flatMap qh))],R.c (C.d (D.int .i64 x.2.1)),R.c (C.hd .yield 0)],[(0,B.ob (AO.lp 102 [R.any,R.any,R.c (C.ptr 1 0),R.c (C.ptr 2 0),R.c (C.ptr 3 0),R.any,R.any,R.any,R.any,R.any,R.any,R.any,R.any,R.any,R.any,R.any,R.any,R.any,R.any,R.any,R.any,R.any,R.any,R.any,R.any,R.any,R.any] [9,10] (raO 102 4) (rbO 102 4) LoopState.ready none)),(1,B.blk 34 [C.own 4 5 0 x.2.2.1.length]),(2,B.blk 3 [C.d (D.int .i64 x.2.2.2.1)]),(3,B.blk 4 [C.d (D.bool x.2.2.2.2)]),(4,B.row 36 5 ((x.2.2.1.flatMap qh).map C.d))])
def Ji:(Int⊕(List qb×Int×Bool))→R×List (Nat×B):=Sum.elim (fun(e:Int)=>(R.c (C.d (D.bool Bool.false)),[(0,B.ob (AO.lp 102 [R.any,R.any,R.c (C.ptr 1 0),R.c (C.ptr 2 0),R.c (C.ptr 3 0),R.any,R.any,R.any,R.any,R.any,R.any,R.any,R.any,R.any,R.any,R.any,R.any,R.any,R.any,R.any,R.any,R.any,R.any,R.any,R.any,R.any,R.any] [9,10] (raO 102 4) (rbO 102 4) LoopState.done (some Code.ret))),(1,B.blk 34 [C.nils]),(2,B.blk 3 [C.d (D.int .i64 e)]),(3,B.blk 4 [C.d (D.bool Bool.false)])])) (fun(e:List qb×Int×Bool)=>(R.c (C.d (D.bool Bool.true)),[(0,B.ob (AO.lp 102 [R.any,R.any,R.c (C.ptr 1 0),R.c (C.ptr 2 0),R.c (C.ptr 3 0),R.any,R.any,R.any,R.any,R.any,R.any,R.any,R.any,R.any,R.any,R.any,R.any,R.any,R.any,R.any,R.any,R.any,R.any,R.any,R.any,R.any,R.any] [9,10] (raO 102 4) (rbO 102 4) LoopState.ready none)),(1,B.blk 34 [C.own 4 5 0 e.1.length]),(2,B.blk 3 [C.d (D.int .i64 e.2.1)]),(3,B.blk 4 [C.d (D.bool e.2.2)]),(4,B.row 36 5 ((e.1.flatMap qh).map C.d))]))
def q12 (rF:(qb×Int×List qb×Int×Bool)→Option (Int⊕(List qb×Int×Bool))) (deep:Int) (t15:List qb) (t16:Int):(List qb×Int×Bool×Int)→Option ((List qb×Int×Bool×Int)⊕(Int⊕(List qb×Int×Bool)))|(w4,b2,b3,t17)=>if t17<t16 then if 0≤t17∧t17<((t15.length:Nat):Int) then Option.bind t15[Int.toNat t17]? fun(a2:qb)=>Option.bind (rF (a2,(w64 (deep+1),(w4,(b2,b3))))) fun(a3:Sum Int (Prod (List qb) (Prod Int Bool)))=>Sum.elim (fun(a4:Int)=>some (Sum.inr (Sum.inl a4))) (fun(a5:Prod (List qb) (Prod Int Bool))=>some (Sum.inl (a5.1,a5.2.1,a5.2.2,w64 (t17+1)))) a3 else none else some (Sum.inr (Sum.inr (w4,b2,b3)))
theorem q7n (rE:Orc) (rF:(qb×Int×List qb×Int×Bool)→Option (Int⊕(List qb×Int×Bool))) (hF:∀y,rE (.fn 169) 4 (J2 y).1 (J2 y).2=(rF y).bind fun e=>some (Ji e)) (hM:∀g k a G,g≠169→rE (.fn g) k a G=ev g k a G) (hR:∀g asg bd k a G,rE (.rd g asg bd) k a G=evr g asg bd k a G):∀(w4:List qb) (b2:Int) (b3:Bool) (deep:Int) (t15:List qb) (t16 t17:Int) (ZH:Nat),ZH=w4.length→XL2 rE 169 4 4 ⟨[(1,rI deep),(2,R.c (C.hd .yield 0)),(15,rL 5 qh t15),(16,rI t16),(17,rI t17)],[(0,B.ob (AO.lp 102 (R.any::R.any::rP 1::rP 2::rP 3::q8M) [9,10] (raO 102 4) (rbO 102 4) LoopState.ready none)),(1,B.blk 34 [dO 4 5 ZH]),(2,B.blk 3 [dI b2]),(3,B.blk 4 [dB b3]),(4,bR 36 5 qh w4)],5,28⟩=(zl (q12 rF deep t15 t16) (w4,b2,b3,t17)).bind (Sum.elim (fun(e:Int)=>some (Exit.ret,⟨[(6,rB Bool.false)],[(0,B.ob (AO.lp 102 (R.any::R.any::rP 1::rP 2::rP 3::q8M) [9,10] (raO 102 4) (rbO 102 4) LoopState.done (some Code.ret))),(1,B.blk 34 [C.nils]),(2,B.blk 3 [dI e]),(3,B.blk 4 [dB Bool.false])],4,28⟩)) (fun(e:List qb×Int×Bool)=>some (Exit.exit 0,⟨[(6,R.any)],[(0,B.ob (AO.lp 102 (R.any::R.any::rP 1::rP 2::rP 3::q8M) [9,10] (raO 102 4) (rbO 102 4) LoopState.ready none)),(1,B.blk 34 [dO 4 5 e.1.length]),(2,B.blk 3 [dI e.2.1]),(3,B.blk 4 [dB e.2.2]),(4,bR 36 5 qh e.1)],5,28⟩))):=
 by
 intro w4 b2 b3 deep t15 t16 t17 ZH h0
 subst h0
 revert t17;revert b3;revert b2;revert w4;exact qJ5 qoW qoH (fun e=>by rcases e with _|_<;>exact⟨_,rfl,fun h=>by cases h⟩) fun w4 b2 b3 t17=>by
  have hF':∀(qB n_N qN:Int) (qO:List qc) (n_L:List qb) (deep:Int) (w4:List qb) (b2:Int) (b3:Bool) (ZH:Nat),ZH=w4.length→rE (.fn 169) 4 [R.agg [dI qB,dI n_N,dI qN,dL 2 qd qO,dL 5 qh n_L],rI deep,R.c (C.hd .yield 0)] [(0,B.ob (AO.lp 102 (R.any::R.any::rP 1::rP 2::rP 3::q8M) [9,10] (raO 102 4) (rbO 102 4) LoopState.ready none)),(1,B.blk 34 [dO 4 5 ZH]),(2,B.blk 3 [dI b2]),(3,B.blk 4 [dB b3]),(4,bR 36 5 qh w4)]=(rF ((qb.mk qB n_N qN qO n_L),deep,w4,b2,b3)).bind (Sum.elim (fun(e:Int)=>some (rB Bool.false,[(0,B.ob (AO.lp 102 (R.any::R.any::rP 1::rP 2::rP 3::q8M) [9,10] (raO 102 4) (rbO 102 4) LoopState.done (some Code.ret))),(1,B.blk 34 [C.nils]),(2,B.blk 3 [dI e]),(3,B.blk 4 [dB Bool.false])])) (fun(e:List qb×Int×Bool)=>some (rB Bool.true,[(0,B.ob (AO.lp 102 (R.any::R.any::rP 1::rP 2::rP 3::q8M) [9,10] (raO 102 4) (rbO 102 4) LoopState.ready none)),(1,B.blk 34 [dO 4 5 e.1.length]),(2,B.blk 3 [dI e.2.1]),(3,B.blk 4 [dB e.2.2]),(4,bR 36 5 qh e.1)]))):=by intro qB n_N qN qO n_L deep w4 b2 b3 ZH h0;subst h0;exact(hF ((qb.mk qB n_N qN qO n_L),deep,w4,b2,b3)).trans (by congr 1;funext e;rcases e with _|_<;>rfl)
  have:=qqM;have:=@qfx.eq_1;have:=@q12.eq_1;exact gA
def q0V (rF:(qb×Int×List qb×Int×Bool)→Option (Int⊕(List qb×Int×Bool))):(qb×Int×List qb×Int×Bool)→Option (Int⊕(List qb×Int×Bool))|(n,deep,w4,b2,b3)=>Option.bind (q24 deep n.Kind n.N n.Min n.Set n.L w4 b2 b3) fun(a2:Sum Unit (Prod (List qb) Int))=>Sum.elim (fun(a3:Unit)=>some (Sum.inl 0)) (fun(a4:Prod (List qb) Int)=>Option.bind (zl (q12 rF deep n.L ((n.L.length:Nat):Int)) (a4.1,(a4.2,(b3,0)))) fun(a5:Sum Int (Prod (List qb) (Prod Int Bool)))=>Sum.elim (fun(a6:Int)=>some (Sum.inl a6)) (fun(a7:Prod (List qb) (Prod Int Bool))=>some (Sum.inr (a7.1,a7.2.1,a7.2.2))) a5) a2
theorem q6m:q8i 169 4 J2 Ji q0V:=by
 intro rE rF hF hM hR x
 obtain⟨n,deep,w4,b2,b3⟩:=x
 show qaI rE 169 4 [R.agg [dI n.Kind,dI n.N,dI n.Min,dL 2 qd n.Set,dL 5 qh n.L],rI deep,R.c (C.hd .yield 0)] [(0,B.ob (AO.lp 102 (R.any::R.any::rP 1::rP 2::rP 3::q8M) [9,10] (raO 102 4) (rbO 102 4) LoopState.ready none)),(1,B.blk 34 [dO 4 5 w4.length]),(2,B.blk 3 [dI b2]),(3,B.blk 4 [dB b3]),(4,bR 36 5 qh w4)]=_
 have hF':∀(qB n_N qN:Int) (qO:List qc) (n_L:List qb) (deep:Int) (w4:List qb) (b2:Int) (b3:Bool) (ZH:Nat),ZH=w4.length→rE (.fn 169) 4 [R.agg [dI qB,dI n_N,dI qN,dL 2 qd qO,dL 5 qh n_L],rI deep,R.c (C.hd .yield 0)] [(0,B.ob (AO.lp 102 (R.any::R.any::rP 1::rP 2::rP 3::q8M) [9,10] (raO 102 4) (rbO 102 4) LoopState.ready none)),(1,B.blk 34 [dO 4 5 ZH]),(2,B.blk 3 [dI b2]),(3,B.blk 4 [dB b3]),(4,bR 36 5 qh w4)]=(rF ((qb.mk qB n_N qN qO n_L),deep,w4,b2,b3)).bind (Sum.elim (fun(e:Int)=>some (rB Bool.false,[(0,B.ob (AO.lp 102 (R.any::R.any::rP 1::rP 2::rP 3::q8M) [9,10] (raO 102 4) (rbO 102 4) LoopState.done (some Code.ret))),(1,B.blk 34 [C.nils]),(2,B.blk 3 [dI e]),(3,B.blk 4 [dB Bool.false])])) (fun(e:List qb×Int×Bool)=>some (rB Bool.true,[(0,B.ob (AO.lp 102 (R.any::R.any::rP 1::rP 2::rP 3::q8M) [9,10] (raO 102 4) (rbO 102 4) LoopState.ready none)),(1,B.blk 34 [dO 4 5 e.1.length]),(2,B.blk 3 [dI e.2.1]),(3,B.blk 4 [dB e.2.2]),(4,bR 36 5 qh e.1)]))):=by intro qB n_N qN qO n_L deep w4 b2 b3 ZH h0;subst h0;exact(hF ((qb.mk qB n_N qN qO n_L),deep,w4,b2,b3)).trans (by congr 1;funext e;rcases e with _|_<;>rfl)
 rw[q4N qnU qwl]
 have:=qqM;have:=@q8N;have:=q7n rE rF hF hM hR;have:=@q0V.eq_1;have:=@Ji.eq_1;exact gA
theorem q3O:∀x y,J2 x=J2 y→x=y:=by
 rintro⟨⟨qEl,qEm,qEn,qEo,qEp⟩,a1,a2,a3,a4⟩ ⟨⟨qEq,qEr,qEs,qEt,qEu⟩,b1,b2,b3,b4⟩ h
 simp only[J2,Prod.mk.injEq,List.cons.injEq,R.c.injEq,R.agg.injEq,R.tup.injEq,C.d.injEq,C.own.injEq,C.ptr.injEq,C.eptr.injEq,D.int.injEq,D.bool.injEq,D.str.injEq,D.sl.injEq,B.blk.injEq,B.row.injEq,q11,q2P,q1K,q1N,q2h,q2f,q4n,q4m,q4o,q0W,true_and,and_true,qPs] at h
 simp only[h]
theorem q8O:∀x y,Ji x=Ji y→x=y:=by
 rintro(a0|⟨qKO,qKP,qOz⟩) (b0|⟨qKQ,qKR,qOA⟩) h<;>simp only[Sum.elim_inl,Sum.elim_inr,Ji,Prod.mk.injEq,List.cons.injEq,R.c.injEq,R.agg.injEq,R.tup.injEq,C.d.injEq,C.own.injEq,C.ptr.injEq,C.eptr.injEq,D.int.injEq,D.bool.injEq,D.str.injEq,D.sl.injEq,B.blk.injEq,B.row.injEq,q11,q2P,q1K,q1N,q2h,q2f,q4n,q4m,q4o,q0W,true_and,and_true,qPs,reduceCtorEq,false_and,and_false] at h<;>simp only[h]
def Jy:(qb×Int×List qb×Int×Bool)→Option (Int⊕(List qb×Int×Bool)):=q8A 169 4 J2 Ji
theorem qbz (x:(qb×Int×List qb×Int×Bool)):Jy x=q0V Jy x:=qdd qrR.2.2.2 q3O q8O q6m x
theorem qaP (n:qb) (deep:Int) (w4:List qb) (b2:Int) (b3:Bool):ev 169 4 [R.agg [dI n.Kind,dI n.N,dI n.Min,dL 2 qd n.Set,dL 5 qh n.L],rI deep,R.c (C.hd .yield 0)] [(0,B.ob (AO.lp 102 (R.any::R.any::rP 1::rP 2::rP 3::q8M) [9,10] (raO 102 4) (rbO 102 4) LoopState.ready none)),(1,B.blk 34 [dO 4 5 w4.length]),(2,B.blk 3 [dI b2]),(3,B.blk 4 [dB b3]),(4,bR 36 5 qh w4)]=(Jy (n,deep,w4,b2,b3)).bind (Sum.elim (fun(e:Int)=>some (rB Bool.false,[(0,B.ob (AO.lp 102 (R.any::R.any::rP 1::rP 2::rP 3::q8M) [9,10] (raO 102 4) (rbO 102 4) LoopState.done (some Code.ret))),(1,B.blk 34 [C.nils]),(2,B.blk 3 [dI e]),(3,B.blk 4 [dB Bool.false])])) (fun(e:List qb×Int×Bool)=>some (rB Bool.true,[(0,B.ob (AO.lp 102 (R.any::R.any::rP 1::rP 2::rP 3::q8M) [9,10] (raO 102 4) (rbO 102 4) LoopState.ready none)),(1,B.blk 34 [dO 4 5 e.1.length]),(2,B.blk 3 [dI e.2.1]),(3,B.blk 4 [dB e.2.2]),(4,bR 36 5 qh e.1)]))):=(q9X qrR.2.2.2 q3O q6m (n,deep,w4,b2,b3)).trans (by congr 1;funext e;rcases e with _|_<;>rfl)
theorem qbu:∀(qB n_N qN:Int) (qO:List qc) (n_L:List qb) (deep:Int) (w4:List qb) (b2:Int) (b3:Bool) (ZH:Nat),ZH=w4.length→ev 169 4 [R.agg [dI qB,dI n_N,dI qN,dL 2 qd qO,dL 5 qh n_L],rI deep,R.c (C.hd .yield 0)] [(0,B.ob (AO.lp 102 (R.any::R.any::rP 1::rP 2::rP 3::q8M) [9,10] (raO 102 4) (rbO 102 4) LoopState.ready none)),(1,B.blk 34 [dO 4 5 ZH]),(2,B.blk 3 [dI b2]),(3,B.blk 4 [dB b3]),(4,bR 36 5 qh w4)]=(Jy ((qb.mk qB n_N qN qO n_L),deep,w4,b2,b3)).bind (Sum.elim (fun(e:Int)=>some (rB Bool.false,[(0,B.ob (AO.lp 102 (R.any::R.any::rP 1::rP 2::rP 3::q8M) [9,10] (raO 102 4) (rbO 102 4) LoopState.done (some Code.ret))),(1,B.blk 34 [C.nils]),(2,B.blk 3 [dI e]),(3,B.blk 4 [dB Bool.false])])) (fun(e:List qb×Int×Bool)=>some (rB Bool.true,[(0,B.ob (AO.lp 102 (R.any::R.any::rP 1::rP 2::rP 3::q8M) [9,10] (raO 102 4) (rbO 102 4) LoopState.ready none)),(1,B.blk 34 [dO 4 5 e.1.length]),(2,B.blk 3 [dI e.2.1]),(3,B.blk 4 [dB e.2.2]),(4,bR 36 5 qh e.1)]))):=
 by
 intro qB n_N qN qO n_L deep w4 b2 b3 ZH h0
 subst h0
 exact qaP (qb.mk qB n_N qN qO n_L) deep w4 b2 b3
def q3a (deep:Int) (t15:List qb) (t16:Int):(List qb×Int×Bool×Int)→Option ((List qb×Int×Bool×Int)⊕(Int⊕(List qb×Int×Bool)))|(w4,b2,b3,t17)=>if t17<t16 then if 0≤t17∧t17<((t15.length:Nat):Int) then Option.bind t15[Int.toNat t17]? fun(a:qb)=>Option.bind (Jy (a,(w64 (deep+1),(w4,(b2,b3))))) fun(a2:Sum Int (Prod (List qb) (Prod Int Bool)))=>Sum.elim (fun(a3:Int)=>some (Sum.inr (Sum.inl a3))) (fun(a4:Prod (List qb) (Prod Int Bool))=>some (Sum.inl (a4.1,a4.2.1,a4.2.2,w64 (t17+1)))) a2 else none else some (Sum.inr (Sum.inr (w4,b2,b3)))
theorem qay:∀(w4:List qb) (b2:Int) (b3:Bool) (deep:Int) (t15:List qb) (t16 t17:Int) (ZH:Nat),ZH=w4.length→XL2 evo 169 4 4 ⟨[(1,rI deep),(2,R.c (C.hd .yield 0)),(15,rL 5 qh t15),(16,rI t16),(17,rI t17)],[(0,B.ob (AO.lp 102 (R.any::R.any::rP 1::rP 2::rP 3::q8M) [9,10] (raO 102 4) (rbO 102 4) LoopState.ready none)),(1,B.blk 34 [dO 4 5 ZH]),(2,B.blk 3 [dI b2]),(3,B.blk 4 [dB b3]),(4,bR 36 5 qh w4)],5,28⟩=(zl (q3a deep t15 t16) (w4,b2,b3,t17)).bind (Sum.elim (fun(e:Int)=>some (Exit.ret,⟨[(6,rB Bool.false)],[(0,B.ob (AO.lp 102 (R.any::R.any::rP 1::rP 2::rP 3::q8M) [9,10] (raO 102 4) (rbO 102 4) LoopState.done (some Code.ret))),(1,B.blk 34 [C.nils]),(2,B.blk 3 [dI e]),(3,B.blk 4 [dB Bool.false])],4,28⟩)) (fun(e:List qb×Int×Bool)=>some (Exit.exit 0,⟨[(6,R.any)],[(0,B.ob (AO.lp 102 (R.any::R.any::rP 1::rP 2::rP 3::q8M) [9,10] (raO 102 4) (rbO 102 4) LoopState.ready none)),(1,B.blk 34 [dO 4 5 e.1.length]),(2,B.blk 3 [dI e.2.1]),(3,B.blk 4 [dB e.2.2]),(4,bR 36 5 qh e.1)],5,28⟩))):=
 by
 intro w4 b2 b3 deep t15 t16 t17 ZH h0
 subst h0
 revert t17;revert b3;revert b2;revert w4;exact qJ5 qoW qoH (fun e=>by rcases e with _|_<;>exact⟨_,rfl,fun h=>by cases h⟩) fun w4 b2 b3 t17=>by
  have:=qqM;have:=@qfx.eq_1;have:=@qbu;have:=@q3a.eq_1;exact gA
def q5P (n:qb) (deep:Int) (b2:Int) (b3:Bool):Option (Int⊕(List qb×Int×Bool)):=Option.bind (q3c deep n.Kind n.N n.Min n.Set n.L b2 b3) fun(a:Sum Unit (Prod (List qb) Int))=>Sum.elim (fun(a2:Unit)=>some (Sum.inl 0)) (fun(a3:Prod (List qb) Int)=>Option.bind (zl (q3a deep n.L ((n.L.length:Nat):Int)) (a3.1,(a3.2,(b3,0)))) fun(a4:Sum Int (Prod (List qb) (Prod Int Bool)))=>Sum.elim (fun(a5:Int)=>some (Sum.inl a5)) (fun(a6:Prod (List qb) (Prod Int Bool))=>some (Sum.inr (a6.1,a6.2.1,a6.2.2))) a4) a
theorem qe1:∀(qB n_N qN:Int) (qO:List qc) (n_L:List qb) (deep b2:Int) (b3:Bool),ev 169 4 [R.agg [dI qB,dI n_N,dI qN,dL 2 qd qO,dL 5 qh n_L],rI deep,R.c (C.hd .yield 0)] [(0,B.ob (AO.lp 102 (R.any::R.any::rP 1::rP 2::rP 3::q8M) [9,10] (raO 102 4) (rbO 102 4) LoopState.ready none)),(1,B.blk 34 [C.nils]),(2,B.blk 3 [dI b2]),(3,B.blk 4 [dB b3])]=(q5P (qb.mk qB n_N qN qO n_L) deep b2 b3).bind (Sum.elim (fun(e:Int)=>some (rB Bool.false,[(0,B.ob (AO.lp 102 (R.any::R.any::rP 1::rP 2::rP 3::q8M) [9,10] (raO 102 4) (rbO 102 4) LoopState.done (some Code.ret))),(1,B.blk 34 [C.nils]),(2,B.blk 3 [dI e]),(3,B.blk 4 [dB Bool.false])])) (fun(e:List qb×Int×Bool)=>some (rB Bool.true,[(0,B.ob (AO.lp 102 (R.any::R.any::rP 1::rP 2::rP 3::q8M) [9,10] (raO 102 4) (rbO 102 4) LoopState.ready none)),(1,B.blk 34 [dO 4 5 e.1.length]),(2,B.blk 3 [dI e.2.1]),(3,B.blk 4 [dB e.2.2]),(4,bR 36 5 qh e.1)]))):=
 fun qB n_N qN qO n_L deep b2 b3=>by
  rw[qR qnU qrR.2.2.2 qwl]
  have:=qqM;have:=@qaZ;have:=@qay;have:=@q5P.eq_1;exact gA
def q3j (b2:Int) (b3:Bool) (v:qb):Option (Int⊕(List qb×Int×Bool)):=Option.bind (q5P v 1 b2 b3) fun(a:Sum Int (Prod (List qb) (Prod Int Bool)))=>Sum.elim (fun(a2:Int)=>some (Sum.inl a2)) (fun(a3:Prod (List qb) (Prod Int Bool))=>some (Sum.inr (a3.1,a3.2.1,a3.2.2))) a
theorem qan:∀(b2:Int) (b3:Bool) (qh4 v_N qq9:Int) (qqa:List qc) (v_L:List qb),ev 168 5 [R.c (C.hd .yield 0),rP 4] [(0,B.ob (AO.lp 102 (R.any::R.any::rP 1::rP 2::rP 3::q8M) [9,10] (raO 102 4) (rbO 102 4) LoopState.ready none)),(1,B.blk 34 [C.nils]),(2,B.blk 3 [dI b2]),(3,B.blk 4 [dB b3]),(4,B.blk 36 [dI qh4,dI v_N,dI qq9,dL 2 qd qqa,dL 5 qh v_L])]=(q3j b2 b3 (qb.mk qh4 v_N qq9 qqa v_L)).bind (Sum.elim (fun(e:Int)=>some (R.tup [],[(0,B.ob (AO.lp 102 (R.any::R.any::rP 1::rP 2::rP 3::q8M) [9,10] (raO 102 4) (rbO 102 4) LoopState.done (some Code.ret))),(1,B.blk 34 [C.nils]),(2,B.blk 3 [dI e]),(3,B.blk 4 [dB Bool.false]),(4,B.blk 36 [dI qh4,dI v_N,dI qq9,dL 2 qd qqa,dL 5 qh v_L])])) (fun(e:List qb×Int×Bool)=>some (R.tup [],[(0,B.ob (AO.lp 102 (R.any::R.any::rP 1::rP 2::rP 3::q8M) [9,10] (raO 102 4) (rbO 102 4) LoopState.ready none)),(1,B.blk 34 [dO 5 5 e.1.length]),(2,B.blk 3 [dI e.2.1]),(3,B.blk 4 [dB e.2.2]),(4,B.blk 36 [dI qh4,dI v_N,dI qq9,dL 2 qd qqa,dL 5 qh v_L]),(5,bR 36 5 qh e.1)]))):=
 fun b2 b3 qh4 v_N qq9 qqa v_L=>by
  rw[qR qu8 qDP.2.2.2 qHz]
  have:=qIL;have:=@qe1;have:=@q3j.eq_1;exact gA
def q2R (n:qb):Option (List qb×Int×Bool):=Option.bind (q3j 0 Bool.false n) fun(a:Sum Int (Prod (List qb) (Prod Int Bool)))=>Sum.elim (fun(a2:Int)=>some ([],a2,Bool.false)) (fun(a3:Prod (List qb) (Prod Int Bool))=>some (a3.1,a3.2.1,Bool.true)) a
theorem q8h:∀(qB n_N qN:Int) (qO:List qc) (n_L:List qb),ev 102 0 [R.agg [dI qB,dI n_N,dI qN,dL 2 qd qO,dL 5 qh n_L]] []=(q2R (qb.mk qB n_N qN qO n_L)).bind (fun(e:List qb×Int×Bool)=>some (R.tup [rL 5 qh e.1,rI e.2.1,rB e.2.2],[])):=
 fun qB n_N qN qO n_L=>by
  rw[qR qo3 qBy.2.2.2 qDM]
  have:=qxr;have:=@qcV;have:=@qan;have:=@q2R.eq_1;have:=@qia;exact gA
theorem qJF:okL 82 qkO:=qS (ql qF6) (by kernel_rfl) (by kernel_rfl)
def qJS:=JA_ @qkO.eq_1 (JA_ @Tryz.f82.eq_1 @qF6)
theorem qBd:lbO 82 3=qoV:=Qr (ql qF6) rfl
theorem qzR:okL 82 qoV:=zJ qJF (qP9 (i:=0) (by kernel_rfl))
theorem qFm:okL 129 qiy:=qS (ql qtY) (by kernel_rfl) (by kernel_rfl)
def qGw:=JA_ @qiy.eq_1 (JA_ @Tryz.f129.eq_1 @qtY)
def q5N (n:qb):Option Bool:=if(n.Kind != 3)=Bool.true then some (n.Kind != 4) else some Bool.false
def q1D (n:qb):Bool:=if(n.Kind != 3)=Bool.true then n.Kind != 4 else Bool.false
theorem qcu (n:qb):q5N n=some (q1D n):=by
 unfold q5N q1D
 simp only[Zn]
theorem qdN:∀(qB n_N qN:Int) (qO:List qc) (n_L:List qb),ev 129 0 [R.agg [dI qB,dI n_N,dI qN,dL 2 qd qO,dL 5 qh n_L]] []=some (rB (q1D (qb.mk qB n_N qN qO n_L)),[]):=
 fun qB n_N qN qO n_L=>by
  have h:ev 129 0 [R.agg [dI qB,dI n_N,dI qN,dL 2 qd qO,dL 5 qh n_L]] []=(q5N (qb.mk qB n_N qN qO n_L)).bind (fun(e:Bool)=>some (rB e,[])):=by
   rw[qR qtY qCD.2.2.2 qFm]
   have:=qGw;have:=@q5N.eq_1;exact gA
  rw[qcu] at h
  exact h
theorem qAY:okL 130 qfy:=qS (ql qrz) (by kernel_rfl) (by kernel_rfl)
def qyG:=JA_ @qfy.eq_1 (JA_ @Tryz.f130.eq_1 @qrz)
theorem qvS:lbO 130 3=qiq:=Qr (ql qrz) rfl
theorem qwx:okL 130 qiq:=zJ qAY (qP9 (i:=0) (by kernel_rfl))
def Q5 (s:List qc):Option Unit:=if s.length≤maxLen∧s.length*24≤140737488355328 then some () else none
theorem q1d:∀(s:List qc),ev 161 0 [rL 2 qd s] []=(Q5 s).bind (fun(e:Unit)=>some (rL 2 qd s,[])):=
 fun s=>by
  rw[quB,qDd.2.2.2]
  have:=@Q5.eq_1;exact gA
def QS (s:List qb):Option Unit:=if s.length≤maxLen∧s.length*72≤140737488355328 then some () else none
theorem q2g:∀(s:List qb),ev 162 0 [rL 5 qh s] []=(QS s).bind (fun(e:Unit)=>some (rO 0 5 s.length,[(0,bR 36 5 qh s)])):=
 fun s=>by
  rw[quB,qCr.2.2.2]
  have:=@QS.eq_1;exact gA
def J4 (x:qb):List R×List (Nat×B):=([R.agg [C.d (D.int .i64 x.Kind),C.d (D.int .i64 x.N),C.d (D.int .i64 x.Min),C.d (D.sl 2 x.Set.length (x.Set.flatMap qd)),C.d (D.sl 5 x.L.length (x.L.flatMap qh))]],[])
def Jk:qb→R×List (Nat×B):=fun(e:qb)=>(R.agg [C.d (D.int .i64 e.Kind),C.d (D.int .i64 e.N),C.d (D.int .i64 e.Min),C.d (D.sl 2 e.Set.length (e.Set.flatMap qd)),C.d (D.sl 5 e.L.length (e.L.flatMap qh))],[])
def JV (rF:qb→Option qb) (qB:Int) (n_N:Int) (qN:Int) (qO:List qc) (q0m:Int) (qeC:Int) (q2o:Int) (t15:Int):(List qb×Int)→Option ((List qb×Int)⊕(List qb))|(w1,t16)=>if t16<t15 then if 0≤t16∧t16<((w1.length:Nat):Int) then Option.bind w1[Int.toNat t16]? fun(a2:qb)=>Option.bind (rF a2) fun(a3:qb)=>if 0≤t16∧t16<((w1.length:Nat):Int) then if Int.toNat t16*5+5≤w1.length*5 then some (Sum.inl (List.set w1 (Int.toNat t16) a3,w64 (t16+1))) else none else none else none else some (Sum.inr w1)
theorem q8q (rE:Orc) (rF:qb→Option qb) (hF:∀y,rE (.fn 130) 0 (J4 y).1 (J4 y).2=(rF y).bind fun e=>some (Jk e)) (hM:∀g k a G,g≠130→rE (.fn g) k a G=ev g k a G) (hR:∀g asg bd k a G,rE (.rd g asg bd) k a G=evr g asg bd k a G):∀(w1:List qb) (qB n_N qN:Int) (qO:List qc) (q0m qeC q2o t15 t16:Int) (QO:Nat),QO=w1.length→XL2 rE 130 0 3 ⟨[(1,rP 0),(2,rP 2),(14,rO 1 5 QO),(15,rI t15),(16,rI t16)],[(0,B.blk 36 [dI qB,dI n_N,dI qN,dL 2 qd qO,dO 1 5 QO]),(1,bR 36 5 qh w1),(2,B.blk 36 [dI q0m,dI qeC,dI q2o,C.nils,C.nils])],3,29⟩=(zl (JV rF qB n_N qN qO q0m qeC q2o t15) (w1,t16)).bind (fun(e:List qb)=>some (Exit.exit 0,⟨[(1,rP 0),(2,rP 2)],[(0,B.blk 36 [dI qB,dI n_N,dI qN,dL 2 qd qO,dO 1 5 e.length]),(1,bR 36 5 qh e),(2,B.blk 36 [dI q0m,dI qeC,dI q2o,C.nils,C.nils])],3,29⟩)):=
 by
 intro w1 qB n_N qN qO q0m qeC q2o t15 t16 QO h0
 subst h0
 revert t16;revert w1;exact qak qvS qwx (fun e=>by exact⟨_,rfl,fun h=>by cases h⟩) fun w1 t16=>by
  have hF':∀(qB n_N qN:Int) (qO:List qc) (n_L:List qb),rE (.fn 130) 0 [R.agg [dI qB,dI n_N,dI qN,dL 2 qd qO,dL 5 qh n_L]] []=(rF (qb.mk qB n_N qN qO n_L)).bind (fun e=>some (R.agg [dI e.Kind,dI e.N,dI e.Min,dL 2 qd e.Set,dL 5 qh e.L],[])):=fun qB n_N qN qO n_L=>hF (qb.mk qB n_N qN qO n_L)
  have:=qyG;have:=@qiq.eq_1;have:=@JV.eq_1;exact gA
def q15 (rF:qb→Option qb):qb→Option qb|n=>Option.bind (Q5 n.Set) fun(a2:Unit)=>Option.bind (QS n.L) fun(a3:Unit)=>Option.bind (zl (JV rF n.Kind n.N n.Min n.Set 0 0 0 ((n.L.length:Nat):Int)) (n.L,0)) fun(a4:List qb)=>some (qb.mk n.Kind n.N n.Min n.Set a4)
theorem q6c:q8i 130 0 J4 Jk q15:=by
 intro rE rF hF hM hR n
 show qaI rE 130 0 [R.agg [dI n.Kind,dI n.N,dI n.Min,dL 2 qd n.Set,dL 5 qh n.L]] []=_
 have hF':∀(qB n_N qN:Int) (qO:List qc) (n_L:List qb),rE (.fn 130) 0 [R.agg [dI qB,dI n_N,dI qN,dL 2 qd qO,dL 5 qh n_L]] []=(rF (qb.mk qB n_N qN qO n_L)).bind (fun e=>some (R.agg [dI e.Kind,dI e.N,dI e.Min,dL 2 qd e.Set,dL 5 qh e.L],[])):=fun qB n_N qN qO n_L=>hF (qb.mk qB n_N qN qO n_L)
 rw[q4N qrz qAY]
 have:=qyG;have:=@q1d;have:=@q2g;have:=q8q rE rF hF hM hR;have:=@q15.eq_1;have:=@Jk.eq_1;exact gA
theorem q3K:∀x y,J4 x=J4 y→x=y:=by
 rintro⟨a_0,a_1,a_2,a_3,a_4⟩ ⟨b_0,b_1,b_2,b_3,b_4⟩ h
 simp only[J4,Prod.mk.injEq,List.cons.injEq,R.c.injEq,R.agg.injEq,R.tup.injEq,C.d.injEq,C.own.injEq,C.ptr.injEq,C.eptr.injEq,D.int.injEq,D.bool.injEq,D.str.injEq,D.sl.injEq,B.blk.injEq,B.row.injEq,q11,q2P,q1K,q1N,q2h,q2f,q4n,q4m,q4o,q0W,true_and,and_true,qPs] at h
 simp only[h]
theorem q8S:∀x y,Jk x=Jk y→x=y:=by
 rintro⟨a_0,a_1,a_2,a_3,a_4⟩ ⟨b_0,b_1,b_2,b_3,b_4⟩ h
 simp only[Jk,Prod.mk.injEq,List.cons.injEq,R.c.injEq,R.agg.injEq,R.tup.injEq,C.d.injEq,C.own.injEq,C.ptr.injEq,C.eptr.injEq,D.int.injEq,D.bool.injEq,D.str.injEq,D.sl.injEq,B.blk.injEq,B.row.injEq,q11,q2P,q1K,q1N,q2h,q2f,q4n,q4m,q4o,q0W,true_and,and_true,qPs] at h
 simp only[h]
def JC:qb→Option qb:=q8A 130 0 J4 Jk
theorem qbR (x:qb):JC x=q15 JC x:=qdd quC.2.2.2 q3K q8S q6c x
theorem qaF (n:qb):ev 130 0 [R.agg [dI n.Kind,dI n.N,dI n.Min,dL 2 qd n.Set,dL 5 qh n.L]] []=(JC n).bind (fun(e:qb)=>some (R.agg [dI e.Kind,dI e.N,dI e.Min,dL 2 qd e.Set,dL 5 qh e.L],[])):=(q9X quC.2.2.2 q3K q6c n)
theorem qbD:∀(qB n_N qN:Int) (qO:List qc) (n_L:List qb),ev 130 0 [R.agg [dI qB,dI n_N,dI qN,dL 2 qd qO,dL 5 qh n_L]] []=(JC (qb.mk qB n_N qN qO n_L)).bind (fun(e:qb)=>some (R.agg [dI e.Kind,dI e.N,dI e.Min,dL 2 qd e.Set,dL 5 qh e.L],[])):=
 fun qB n_N qN qO n_L=>qaF (qb.mk qB n_N qN qO n_L)
def ZR (t14:List qb) (t15:Int):(List qb×Int)→Option ((List qb×Int)⊕(List qb))|(leaves,t16)=>if t16<t15 then if 0≤t16∧t16<((t14.length:Nat):Int) then Option.bind t14[Int.toNat t16]? fun(a:qb)=>if q1D a=Bool.true then Option.bind (JC a) fun(a2:qb)=>if leaves.length+1≤maxLen∧(leaves.length+1)*72≤140737488355328 then some (Sum.inl (leaves++[a2],w64 (t16+1))) else none else some (Sum.inl (leaves,w64 (t16+1))) else none else some (Sum.inr leaves)
theorem q8r:∀(leaves t14:List qb) (t15 t16:Int) (qbc:Nat),qbc=leaves.length→XL2 evo 82 0 3 ⟨[(2,rO 0 5 qbc),(14,rL 5 qh t14),(15,rI t15),(16,rI t16)],[(0,bR 36 5 qh leaves)],1,29⟩=(zl (ZR t14 t15) (leaves,t16)).bind (fun(e:List qb)=>some (Exit.exit 0,⟨[(2,rO 0 5 e.length)],[(0,bR 36 5 qh e)],1,29⟩)):=
 by
 intro leaves t14 t15 t16 qbc h0
 subst h0
 revert t16;revert leaves;exact qak qBd qzR (fun e=>by exact⟨_,rfl,fun h=>by cases h⟩) fun leaves t16=>by
  have:=qJS;have:=@qoV.eq_1;have:=@qdN;have:=@qbD;have:=@ZR.eq_1;exact gA
theorem q6z:∀  (t14:List qb) (t15 t16:Int),XL2 evo 82 0 3 ⟨[(2,rO 0 5 0),(14,rL 5 qh t14),(15,rI t15),(16,rI t16)],[(0,B.row 36 5 [])],1,29⟩=(zl (ZR t14 t15) ([],t16)).bind (fun(e:List qb)=>some (Exit.exit 0,⟨[(2,rO 0 5 e.length)],[(0,bR 36 5 qh e)],1,29⟩)):=by
 intro t14 t15 t16;have h:=q8r [] t14 t15 t16 _ rfl
 first
  | exact h
  | (simp only[rL,dL,bR,bZ,Nat.reduceAdd] at h;exact h)
def q1B (n:qb):Option (List qb):=Option.bind (q2R n) fun(a:Prod (List qb) (Prod Int Bool))=>Option.bind (zl (ZR a.1 ((a.1.length:Nat):Int)) ([],0)) fun(a2:List qb)=>some a2
theorem q6i:∀(qB n_N qN:Int) (qO:List qc) (n_L:List qb),ev 82 0 [R.agg [dI qB,dI n_N,dI qN,dL 2 qd qO,dL 5 qh n_L]] []=(q1B (qb.mk qB n_N qN qO n_L)).bind (fun(e:List qb)=>some (rL 5 qh e,[])):=
 fun qB n_N qN qO n_L=>by
  rw[qR qF6 qJp.2.2.2 qJF]
  have:=qJS;have:=@q8h;have:=@q6z;have:=@q1B.eq_1;exact gA
theorem qGQ:okL 103 qhS:=qS (ql qxa) (by kernel_rfl) (by kernel_rfl)
def qHq:=JA_ @qhS.eq_1 (JA_ @Tryz.f103.eq_1 @qxa)
theorem qcH:ev 103 0 [] []=some (R.c (C.hd HK.map 0),[(0,B.ob (@AO.mp [(Value.int IntKind.i64 1,(R.agg [C.fn 141 [] []],0)),(Value.int IntKind.i64 2,(R.agg [C.fn 143 [] []],1)),(Value.int IntKind.i64 3,(R.agg [C.fn 144 [] [dP 1]],2)),(Value.int IntKind.i64 4,(R.agg [C.fn 145 [] [dP 1]],3))] 4)),(1,B.blk 136 [C.fn 140 [] []])]):=
 by
  rw[qR qxa qzh.2.2.2 qGQ]
  have:=qHq;exact gA
theorem qHl:okL 141 qiT:=qS (ql qwQ) (by kernel_rfl) (by kernel_rfl)
def qIv:=JA_ @qiT.eq_1 (JA_ @Tryz.f141.eq_1 @qwQ)
theorem qAj:okL 142 qfr:=qS (ql qri) (by kernel_rfl) (by kernel_rfl)
def qEk:=JA_ @qfr.eq_1 (JA_ @Tryz.f142.eq_1 @qri)
theorem qxG:lbO 142 7=qj6:=Qr (ql qri) rfl
theorem qwJ:okL 142 qj6:=zJ qAj (qP9 (i:=0) (by kernel_rfl))
theorem qHn:okL 170 qhE:=qS (ql qxV) (by kernel_rfl) (by kernel_rfl)
def qGC:=JA_ @qhE.eq_1 (JA_ @Tryz.f170.eq_1 @qxV)
theorem qBi:okL 182 qfv:=qS (ql qsB) (by kernel_rfl) (by kernel_rfl)
def qzs:=JA_ @qfv.eq_1 (JA_ @Tryz.f182.eq_1 @qsB)
theorem qwY:lbO 182 2=qhi:=Qr (ql qsB) rfl
theorem quX:okL 182 qhi:=zJ qBi (qP9 (i:=0) (by kernel_rfl))
theorem qFl:okL 171 qio:=qS (ql qtW) (by kernel_rfl) (by kernel_rfl)
def qIy:=JA_ @qio.eq_1 (JA_ @Tryz.f171.eq_1 @qtW)
theorem qNV:okL 99 qmH:=qS (ql qGV) (by kernel_rfl) (by kernel_rfl)
def qLb:=JA_ @qmH.eq_1 (JA_ @Tryz.f99.eq_1 @qGV)
theorem qHj:okL 137 qhK:=qS (ql qxz) (by kernel_rfl) (by kernel_rfl)
def qGA:=JA_ @qhK.eq_1 (JA_ @Tryz.f137.eq_1 @qxz)
theorem qFq:okL 166 qhj:=qS (ql qw2) (by kernel_rfl) (by kernel_rfl)
def qFR:=JA_ @qhj.eq_1 (JA_ @Tryz.f166.eq_1 @qw2)
theorem qCh:okL 181 qft:=qS (ql qqy) (by kernel_rfl) (by kernel_rfl)
def qDJ:=JA_ @qft.eq_1 (JA_ @Tryz.f181.eq_1 @qqy)
theorem qxX:lbO 181 2=qhI:=Qr (ql qqy) rfl
theorem qtU:okL 181 qhI:=zJ qCh (qP9 (i:=0) (by kernel_rfl))
theorem qFn:okL 165 qiZ:=qS (ql qus) (by kernel_rfl) (by kernel_rfl)
def qFx:=JA_ @qiZ.eq_1 (JA_ @Tryz.f165.eq_1 @qus)
def q2y (c:Int):Option Bool:=if c<65 then if c<48 then some Bool.true else some (decide (57<c)) else if 90<c then if c<48 then some Bool.true else some (decide (57<c)) else some Bool.false
def Zv (c:Int):Bool:=if c<65 then if c<48 then Bool.true else decide (57<c) else if 90<c then if c<48 then Bool.true else decide (57<c) else Bool.false
theorem q8Q (c:Int):q2y c=some (Zv c):=by
 unfold q2y Zv
 simp only[Zn]
theorem q9Z:∀(c:Int),ev 165 0 [R.c (C.d (D.int .i32 c))] []=some (rB (Zv c),[]):=
 fun c=>by
  have h:ev 165 0 [R.c (C.d (D.int .i32 c))] []=(q2y c).bind (fun(e:Bool)=>some (rB e,[])):=by
   rw[qR qus qEh.2.2.2 qFn]
   have:=qFx;have:=@q2y.eq_1;exact gA
  rw[q8Q] at h
  exact h
def Qt (it0_s:ByteArray) (truth:Bool):Nat→Option (Nat⊕(Int⊕Unit))|it0_p=>if it0_p<ByteArray.size it0_s then if(Zv (((@Go.Utf8.decode it0_s it0_p).1:Nat):Int)==truth)=Bool.true then some (Sum.inr (Sum.inl ((it0_p:Nat):Int))) else some (Sum.inl (it0_p+(@Go.Utf8.decode it0_s it0_p).2)) else some (Sum.inr (Sum.inr ()))
theorem q4V:∀(it0_s:ByteArray) (it0_p:Nat) (truth:Bool),XL2 evo 181 0 2 ⟨[(1,R.c (C.fn 165 [] [])),(2,rB truth),(10,R.c (C.hd .iter 0))],[(0,B.ob (AO.si it0_s it0_p))],1,21⟩=(zl (Qt it0_s truth) it0_p).bind (Sum.elim (fun(e:Int)=>some (Exit.ret,⟨[(6,rI e)],[],0,21⟩)) (fun(e:Unit)=>some (Exit.exit 0,⟨[(6,R.any)],[],0,21⟩))):=
 fun it0_s it0_p truth=>by
  revert it0_p;exact qa6 qxX qtU (fun e=>by rcases e with _|_<;>exact⟨_,rfl,fun h=>by cases h⟩) fun x=>by
   have:=qDJ;have:=@qhI.eq_1;have:=@q9Z;have:=@Qt.eq_1;exact gA
def q0r (s:ByteArray) (truth:Bool):Option Int:=Option.bind (zl (Qt s truth) 0) fun(a:Sum Int Unit)=>Sum.elim (fun(a2:Int)=>some a2) (fun(a3:Unit)=>some (-1)) a
theorem q6t:∀(s:ByteArray) (truth:Bool),ev 181 0 [rS s,R.c (C.fn 165 [] []),rB truth] []=(q0r s truth).bind (fun(e:Int)=>some (rI e,[])):=
 fun s truth=>by
  rw[qR qqy qBH.2.2.2 qCh]
  have:=qDJ;have:=@q4V;have:=@q0r.eq_1;exact gA
def q0t (s:ByteArray):Option Int:=Option.bind (q0r s Bool.true) fun(e0:Int)=>some e0
theorem q6G:∀(s:ByteArray),ev 166 0 [rS s,R.c (C.fn 165 [] [])] []=(q0t s).bind (fun(e:Int)=>some (rI e,[])):=
 fun s=>by
  rw[qR qw2 qAQ.2.2.2 qFq]
  have:=qFR;have:=@q6t;have:=@q0t.eq_1;exact gA
def q2w (s:ByteArray):Option Bool:=if(!(ByteArray.toList s==ByteArray.toList (ByteArray.mk (List.toArray []))))=Bool.true then if((ByteArray.size s:Nat):Int)≤8 then Option.bind (q0t s) fun(a:Int)=>some (decide (a<0)) else some Bool.false else some Bool.false
theorem qbH:∀(s:ByteArray),ev 137 0 [rS s] []=(q2w s).bind (fun(e:Bool)=>some (rB e,[])):=
 fun s=>by
  rw[qR qxz qAw.2.2.2 qHj]
  have:=qGA;have:=@q6G;have:=@q2w.eq_1;exact gA
def q1e (c:qc):Option Bool:=if zA c.School 1 8=Bool.true then Option.bind (q2w c.Code) fun(e0:Bool)=>some e0 else some Bool.false
theorem q6O:∀(q2d:Int) (q6r:ByteArray),ev 99 0 [R.agg [dI q2d,dS q6r]] []=(q1e (qc.mk q2d q6r)).bind (fun(e:Bool)=>some (rB e,[])):=
 fun q2d q6r=>by
  rw[qR qGV qJW.2.2.2 qNV]
  have:=qLb;have:=@Js;have:=@qbH;have:=@q1e.eq_1;exact gA
def q2a (c:qc):Option Bool:=Option.bind (q1e c) fun(a:Bool)=>some (!a)
theorem q8E:∀(q2d:Int) (q6r:ByteArray),ev 171 0 [R.agg [dI q2d,dS q6r]] []=(q2a (qc.mk q2d q6r)).bind (fun(e:Bool)=>some (rB e,[])):=
 fun q2d q6r=>by
  rw[qR qtW qEf.2.2.2 qFl]
  have:=qIy;have:=@q6O;have:=@q2a.eq_1;exact gA
def zp (s:List qc) (t7:Int):Int→Option (Int⊕(Int⊕Unit))|t8=>if t8<t7 then if 0≤t8∧t8<((s.length:Nat):Int) then Option.bind s[Int.toNat t8]? fun(a:qc)=>Option.bind (q2a a) fun(a2:Bool)=>if a2=Bool.true then some (Sum.inr (Sum.inl t8)) else some (Sum.inl (w64 (t8+1))) else none else some (Sum.inr (Sum.inr ()))
theorem q0b:∀(s:List qc) (t7 t8:Int),XL2 evo 182 0 2 ⟨[(0,rL 2 qd s),(1,R.c (C.fn 171 [] [])),(7,rI t7),(8,rI t8)],[],0,19⟩=(zl (zp s t7) t8).bind (Sum.elim (fun(e:Int)=>some (Exit.ret,⟨[(4,rI e)],[],0,19⟩)) (fun(e:Unit)=>some (Exit.exit 0,⟨[(4,R.any)],[],0,19⟩))):=
 fun s t7 t8=>by
  revert t8;exact qa6 qwY quX (fun e=>by rcases e with _|_<;>exact⟨_,rfl,fun h=>by cases h⟩) fun x=>by
   have:=qzs;have:=@qhi.eq_1;have:=@q8E;have:=@zp.eq_1;exact gA
def Qg (s:List qc):Option Int:=Option.bind (zl (zp s ((s.length:Nat):Int)) 0) fun(a:Sum Int Unit)=>Sum.elim (fun(a2:Int)=>some a2) (fun(a3:Unit)=>some (-1)) a
theorem q0x:∀(s:List qc),ev 182 0 [rL 2 qd s,R.c (C.fn 171 [] [])] []=(Qg s).bind (fun(e:Int)=>some (rI e,[])):=
 fun s=>by
  rw[qR qsB qDs.2.2.2 qBi]
  have:=qzs;have:=@q0b;have:=@Qg.eq_1;exact gA
def zI (s:List qc):Option Bool:=Option.bind (Qg s) fun(a:Int)=>some (decide (0≤a))
theorem q0d:∀(s:List qc),ev 170 0 [rL 2 qd s,R.c (C.fn 171 [] [])] []=(zI s).bind (fun(e:Bool)=>some (rB e,[])):=
 fun s=>by
  rw[qR qxV qCJ.2.2.2 qHn]
  have:=qGC;have:=@q0x;have:=@zI.eq_1;exact gA
theorem qGu:okL 100 qiL:=qS (ql qxe) (by kernel_rfl) (by kernel_rfl)
def qGM:=JA_ @qiL.eq_1 (JA_ @Tryz.f100.eq_1 @qxe)
theorem qLc:okL 66 qoQ:=qS (ql qIF) (by kernel_rfl) (by kernel_rfl)
def qLu:=JA_ @qoQ.eq_1 (JA_ @Tryz.f66.eq_1 @qIF)
theorem qGN:okL 110 qiP:=qS (ql qu9) (by kernel_rfl) (by kernel_rfl)
def qHL:=JA_ @qiP.eq_1 (JA_ @Tryz.f110.eq_1 @qu9)
def q2t (x:Int):Option Bool:=
 some (x != x)
def Qi (x:Int):Bool:=
 x != x
theorem q8t (x:Int):q2t x=some (Qi x):=by
 unfold q2t Qi
 simp only[Zn]
theorem q9E:∀(x:Int),ev 110 0 [rI x] []=some (rB (Qi x),[]):=
 fun x=>by
  have h:ev 110 0 [rI x] []=(q2t x).bind (fun(e:Bool)=>some (rB e,[])):=by
   rw[qR qu9 qBG.2.2.2 qGN]
   have:=qHL;have:=@q2t.eq_1;exact gA
  rw[q8t] at h
  exact h
def q1y (x:Int) (y:Int):Option Int:=if Qi x=Bool.true then if Qi y=Bool.true then some 0 else some (-1) else if Qi y=Bool.true then some 1 else if x<y then some (-1) else if y<x then some 1 else some 0
def Qa (x:Int) (y:Int):Int:=if Qi x=Bool.true then if Qi y=Bool.true then 0 else(-1) else if Qi y=Bool.true then 1 else if x<y then(-1) else if y<x then 1 else 0
theorem q7l (x y:Int):q1y x y=some (Qa x y):=by
 unfold q1y Qa
 simp only[Zn]
theorem q1J:∀(x y:Int),ev 66 0 [rI x,rI y] []=some (rI (Qa x y),[]):=
 fun x y=>by
  have h:ev 66 0 [rI x,rI y] []=(q1y x y).bind (fun(e:Int)=>some (rI e,[])):=by
   rw[qR qIF qKB.2.2.2 qLc]
   have:=qLu;have:=@q9E;have:=@q1y.eq_1;exact gA
  rw[q7l] at h
  exact h
theorem qIC:okL 138 qin:=qS (ql qwR) (by kernel_rfl) (by kernel_rfl)
def qFw:=JA_ @qin.eq_1 (JA_ @Tryz.f138.eq_1 @qwR)
theorem qHc:okL 167 qi1:=qS (ql qtV) (by kernel_rfl) (by kernel_rfl)
def qH1:=JA_ @qi1.eq_1 (JA_ @Tryz.f167.eq_1 @qtV)
def q0X (x:ByteArray):Option Unit:=
 some ()
def q3J (x:ByteArray):Unit:=
 ()
theorem q6J (x:ByteArray):q0X x=some (q3J x):=by
 unfold q0X q3J
 simp only[Zn]
theorem q79:∀(x:ByteArray),ev 167 0 [rS x] []=some (rB Bool.false,[]):=
 fun x=>by
  have h:ev 167 0 [rS x] []=(q0X x).bind (fun(e:Unit)=>some (rB Bool.false,[])):=by
   rw[qR qtV qBb.2.2.2 qHc]
   have:=qH1;have:=@q0X.eq_1;exact gA
  rw[q6J] at h
  exact h
def q0f (x:ByteArray) (y:ByteArray):Option Int:=if Op.bytesLess (ByteArray.toList x) (ByteArray.toList y)=Bool.true then some (-1) else if(!(Op.bytesLess (ByteArray.toList x) (ByteArray.toList y)||ByteArray.toList x==ByteArray.toList y))=Bool.true then some 1 else some 0
def Ze (x:ByteArray) (y:ByteArray):Int:=if Op.bytesLess (ByteArray.toList x) (ByteArray.toList y)=Bool.true then(-1) else if(!(Op.bytesLess (ByteArray.toList x) (ByteArray.toList y)||ByteArray.toList x==ByteArray.toList y))=Bool.true then 1 else 0
theorem q5c (x y:ByteArray):q0f x y=some (Ze x y):=by
 unfold q0f Ze
 simp only[Zn]
theorem q64:∀(x y:ByteArray),ev 138 0 [rS x,rS y] []=some (rI (Ze x y),[]):=
 fun x y=>by
  have h:ev 138 0 [rS x,rS y] []=(q0f x y).bind (fun(e:Int)=>some (rI e,[])):=by
   rw[qR qwR qBh.2.2.2 qIC]
   have:=qFw;have:=@q79;have:=@q0f.eq_1;exact gA
  rw[q5c] at h
  exact h
theorem qKd:okL 65 qjk:=qS (ql qF0) (by kernel_rfl) (by kernel_rfl)
def qJv:=JA_ @qjk.eq_1 (JA_ @Tryz.f65.eq_1 @qF0)
theorem qBJ:lbO 65 3=qmf:=Qr (ql qF0) rfl
theorem qAx:okL 65 qmf:=zJ qKd (qP9 (i:=0) (by kernel_rfl))
def ZD (zero:Int) (t6:List Int) (t7:Int):Int→Option (Int⊕(Int⊕Unit))|t8=>if t8<t7 then if 0≤t8∧t8<((t6.length:Nat):Int) then Option.bind t6[Int.toNat t8]? fun(a:Int)=>if(a != zero)=Bool.true then some (Sum.inr (Sum.inl a)) else some (Sum.inl (w64 (t8+1))) else none else some (Sum.inr (Sum.inr ()))
theorem q9Y:∀(zero:Int) (t6:List Int) (t7 t8:Int),XL2 evo 65 0 3 ⟨[(3,rI zero),(6,rL 1 eI t6),(7,rI t7),(8,rI t8)],[],0,18⟩=(zl (ZD zero t6 t7) t8).bind (Sum.elim (fun(e:Int)=>some (Exit.ret,⟨[(2,rI e),(3,rI zero)],[],0,18⟩)) (fun(e:Unit)=>some (Exit.exit 0,⟨[(2,R.any),(3,rI zero)],[],0,18⟩))):=
 fun zero t6 t7 t8=>by
  revert t8;exact qa6 qBJ qAx (fun e=>by rcases e with _|_<;>exact⟨_,rfl,fun h=>by cases h⟩) fun x=>by
   have:=qJv;have:=@qmf.eq_1;have:=@ZD.eq_1;exact gA
def q19 (vals:List Int):Option Int:=Option.bind (zl (ZD 0 vals ((vals.length:Nat):Int)) 0) fun(a:Sum Int Unit)=>Sum.elim (fun(a2:Int)=>some a2) (fun(a3:Unit)=>some 0) a
theorem qdf:∀(vals:List Int),ev 65 0 [rL 1 eI vals] []=(q19 vals).bind (fun(e:Int)=>some (rI e,[])):=
 fun vals=>by
  rw[qR qF0 qJt.2.2.2 qKd]
  have:=qJv;have:=@q9Y;have:=@q19.eq_1;exact gA
theorem q4K:∀(vals0 vals1:Int) , ev 65 0 [R.c (C.d (D.sl 1 2 [D.int .i64 vals0,D.int .i64 vals1]))] []=(q19 [vals0,vals1]).bind (fun(e:Int)=>some (rI e,[])):=by
 intro vals0 vals1;have h:=qdf [vals0,vals1]
 first
  | exact h
  | (simp only[rL,dL,bR,bZ,Nat.reduceAdd] at h;exact h)
def q0O (a:qc) (b:qc):Option Int:=Option.bind (q19 [Qa a.School b.School,Ze a.Code b.Code]) fun(e0:Int)=>some e0
theorem q5G:∀(q03:Int) (q3C:ByteArray) (q40:Int) (qa9:ByteArray),ev 100 0 [R.agg [dI q03,dS q3C],R.agg [dI q40,dS qa9]] []=(q0O (qc.mk q03 q3C) (qc.mk q40 qa9)).bind (fun(e:Int)=>some (rI e,[])):=
 fun q03 q3C q40 qa9=>by
  rw[qR qxe qAM.2.2.2 qGu]
  have:=qGM;have:=@q1J;have:=@q64;have:=@q4K;have:=@q0O.eq_1;exact gA
def Zx (n:qb) (t22:List qc) (t23:Int):Int→Option (Int⊕(Unit⊕Unit))|t24=>if t24<t23 then if 0≤t24∧t24<((t22.length:Nat):Int) then Option.bind t22[Int.toNat t24]? fun(a:qc)=>if 0<t24 then if 0≤w64 (t24-1)∧w64 (t24-1)<((n.Set.length:Nat):Int) then Option.bind n.Set[Int.toNat (w64 (t24-1))]? fun(a2:qc)=>Option.bind (q0O a2 a) fun(a3:Int)=>if 0≤a3 then some (Sum.inr (Sum.inl ())) else some (Sum.inl (w64 (t24+1))) else none else some (Sum.inl (w64 (t24+1))) else none else some (Sum.inr (Sum.inr ()))
theorem q82:∀(qB n_N qN:Int) (qO:List qc) (n_L:List qb) (t22:List qc) (t23 t24:Int),XL2 evo 142 0 7 ⟨[(1,rP 0),(22,rL 2 qd t22),(23,rI t23),(24,rI t24)],[(0,B.blk 36 [dI qB,dI n_N,dI qN,dL 2 qd qO,dL 5 qh n_L])],1,43⟩=(zl (Zx (qb.mk qB n_N qN qO n_L) t22 t23) t24).bind (Sum.elim (fun(e:Unit)=>some (Exit.ret,⟨[(2,rI 7)],[],0,43⟩)) (fun(e:Unit)=>some (Exit.exit 1,⟨[(2,R.any)],[],0,43⟩))):=
 fun qB n_N qN qO n_L t22 t23 t24=>by
  revert t24;exact qa6 qxG qwJ (fun e=>by rcases e with _|_<;>exact⟨_,rfl,fun h=>by cases h⟩) fun x=>by
   have:=qEk;have:=@qj6.eq_1;have:=@q5G;have:=@Zx.eq_1;exact gA
def q0M (n:qb):Option Int:=if(!(zA n.Min (-1000) 1000))=Bool.true then some 3 else if(!(zA ((n.Set.length:Nat):Int) 1 12))=Bool.true then some 2 else Option.bind (zI n.Set) fun(a:Bool)=>if(!a)=Bool.true then Option.bind (zl (Zx n n.Set ((n.Set.length:Nat):Int)) 0) fun(a2:Sum Unit Unit)=>Sum.elim (fun(a3:Unit)=>some 7) (fun(a4:Unit)=>some 0) a2 else some 1
theorem q5o:∀(qB n_N qN:Int) (qO:List qc) (n_L:List qb),ev 142 0 [R.agg [dI qB,dI n_N,dI qN,dL 2 qd qO,dL 5 qh n_L]] []=(q0M (qb.mk qB n_N qN qO n_L)).bind (fun(e:Int)=>some (rI e,[])):=
 fun qB n_N qN qO n_L=>by
  rw[qR qri qB9.2.2.2 qAj]
  have:=qEk;have:=@Js;have:=@q0d;have:=@q82;have:=@q0M.eq_1;exact gA
def q1R (n:qb):Option Int:=if(n.N != 0)=Bool.true then some 13 else if 0<((n.L.length:Nat):Int) then some 13 else Option.bind (q0M n) fun(e0:Int)=>some e0
theorem qaS:∀(qB n_N qN:Int) (qO:List qc) (n_L:List qb),ev 141 0 [R.agg [dI qB,dI n_N,dI qN,dL 2 qd qO,dL 5 qh n_L]] []=(q1R (qb.mk qB n_N qN qO n_L)).bind (fun(e:Int)=>some (rI e,[])):=
 fun qB n_N qN qO n_L=>by
  rw[qR qwQ qBB.2.2.2 qHl]
  have:=qIv;have:=@q5o;have:=@q1R.eq_1;exact gA
theorem qGq:okL 143 qhp:=qS (ql qyi) (by kernel_rfl) (by kernel_rfl)
def qFV:=JA_ @qhp.eq_1 (JA_ @Tryz.f143.eq_1 @qyi)
def q1P (n:qb):Option Int:=if 0<((n.L.length:Nat):Int) then some 13 else if(!(zA n.N 1 600))=Bool.true then some 3 else Option.bind (q0M n) fun(e0:Int)=>some e0
theorem qav:∀(qB n_N qN:Int) (qO:List qc) (n_L:List qb),ev 143 0 [R.agg [dI qB,dI n_N,dI qN,dL 2 qd qO,dL 5 qh n_L]] []=(q1P (qb.mk qB n_N qN qO n_L)).bind (fun(e:Int)=>some (rI e,[])):=
 fun qB n_N qN qO n_L=>by
  rw[qR qyi qBM.2.2.2 qGq]
  have:=qFV;have:=@Js;have:=@q5o;have:=@q1P.eq_1;exact gA
theorem qIi:okL 144 qii:=qS (ql qxP) (by kernel_rfl) (by kernel_rfl)
def qIo:=JA_ @qii.eq_1 (JA_ @Tryz.f144.eq_1 @qxP)
theorem qI9:okL 140 qit:=qS (ql qvy) (by kernel_rfl) (by kernel_rfl)
def qI2:=JA_ @qit.eq_1 (JA_ @Tryz.f140.eq_1 @qvy)
def q3e (n:qb):Option Bool:=if(n.Min==0)=Bool.true then if(((n.Set.length:Nat):Int)==0)=Bool.true then some (decide (0<((n.L.length:Nat):Int))) else some Bool.false else some Bool.false
def Zm (n:qb):Bool:=if(n.Min==0)=Bool.true then if(((n.Set.length:Nat):Int)==0)=Bool.true then decide (0<((n.L.length:Nat):Int)) else Bool.false else Bool.false
theorem q9O (n:qb):q3e n=some (Zm n):=by
 unfold q3e Zm
 simp only[Zn]
theorem q5p:∀(qB n_N qN:Int) (qO:List qc) (n_L:List qb),ev 140 0 [R.agg [dI qB,dI n_N,dI qN,dL 2 qd qO,dL 5 qh n_L]] []=some (rB (Zm (qb.mk qB n_N qN qO n_L)),[]):=
 fun qB n_N qN qO n_L=>by
  have h:ev 140 0 [R.agg [dI qB,dI n_N,dI qN,dL 2 qd qO,dL 5 qh n_L]] []=(q3e (qb.mk qB n_N qN qO n_L)).bind (fun(e:Bool)=>some (rB e,[])):=by
   rw[qR qvy qCM.2.2.2 qI9]
   have:=qI2;have:=@q3e.eq_1;exact gA
  rw[q9O] at h
  exact h
def q3b (n:qb):Option Int:=if(!(Zm n))=Bool.true then some 13 else if(n.N != 0)=Bool.true then some 13 else some 0
def Jq (n:qb):Int:=if(!(Zm n))=Bool.true then 13 else if(n.N != 0)=Bool.true then 13 else 0
theorem q9C (n:qb):q3b n=some (Jq n):=by
 unfold q3b Jq
 simp only[Zn]
theorem qaA:∀(qB n_N qN:Int) (qO:List qc) (n_L:List qb),ev 144 1 [R.agg [dI qB,dI n_N,dI qN,dL 2 qd qO,dL 5 qh n_L],rP 0] [(0,B.blk 136 [C.fn 140 [] []])]=some (rI (Jq (qb.mk qB n_N qN qO n_L)),[(0,B.blk 136 [C.fn 140 [] []])]):=
 fun qB n_N qN qO n_L=>by
  have h:ev 144 1 [R.agg [dI qB,dI n_N,dI qN,dL 2 qd qO,dL 5 qh n_L],rP 0] [(0,B.blk 136 [C.fn 140 [] []])]=(q3b (qb.mk qB n_N qN qO n_L)).bind (fun(e:Int)=>some (rI e,[(0,B.blk 136 [C.fn 140 [] []])])):=by
   rw[qR qxP qAC.2.2.2 qIi]
   have:=qIo;have:=@q5p;have:=@q3b.eq_1;exact gA
  rw[q9C] at h
  exact h
theorem qHs:okL 145 qiw:=qS (ql qur) (by kernel_rfl) (by kernel_rfl)
def qI6:=JA_ @qiw.eq_1 (JA_ @Tryz.f145.eq_1 @qur)
def q3f (n:qb):Option Int:=if(!(Zm n))=Bool.true then some 13 else if(!(zA n.N 1 ((n.L.length:Nat):Int)))=Bool.true then some 3 else some 0
def Jn (n:qb):Int:=if(!(Zm n))=Bool.true then 13 else if(!(zA n.N 1 ((n.L.length:Nat):Int)))=Bool.true then 3 else 0
theorem qa3 (n:qb):q3f n=some (Jn n):=by
 unfold q3f Jn
 simp only[Zn]
theorem qb5:∀(qB n_N qN:Int) (qO:List qc) (n_L:List qb),ev 145 1 [R.agg [dI qB,dI n_N,dI qN,dL 2 qd qO,dL 5 qh n_L],rP 0] [(0,B.blk 136 [C.fn 140 [] []])]=some (rI (Jn (qb.mk qB n_N qN qO n_L)),[(0,B.blk 136 [C.fn 140 [] []])]):=
 fun qB n_N qN qO n_L=>by
  have h:ev 145 1 [R.agg [dI qB,dI n_N,dI qN,dL 2 qd qO,dL 5 qh n_L],rP 0] [(0,B.blk 136 [C.fn 140 [] []])]=(q3f (qb.mk qB n_N qN qO n_L)).bind (fun(e:Int)=>some (rI e,[(0,B.blk 136 [C.fn 140 [] []])])):=by
   rw[qR qur qA4.2.2.2 qHs]
   have:=qI6;have:=@q5p;have:=@Js;have:=@q3f.eq_1;exact gA
  rw[qa3] at h
  exact h
def JL (t37:List qb) (t38:Int):Int→Option (Int⊕(Int⊕Unit))|t39=>if t39<t38 then if 0≤t39∧t39<((t37.length:Nat):Int) then Option.bind t37[Int.toNat t39]? fun(a:qb)=>if a.Kind=1 then Option.bind (q1R a) fun(a2:Int)=>if(a2 != 0)=Bool.true then some (Sum.inr (Sum.inl a2)) else some (Sum.inl (w64 (t39+1))) else if a.Kind=2 then Option.bind (q1P a) fun(a3:Int)=>if(a3 != 0)=Bool.true then some (Sum.inr (Sum.inl a3)) else some (Sum.inl (w64 (t39+1))) else if a.Kind=3 then if(Jq a != 0)=Bool.true then some (Sum.inr (Sum.inl (Jq a))) else some (Sum.inl (w64 (t39+1))) else if a.Kind=4 then if(Jn a != 0)=Bool.true then some (Sum.inr (Sum.inl (Jn a))) else some (Sum.inl (w64 (t39+1))) else some (Sum.inr (Sum.inl 13)) else none else some (Sum.inr (Sum.inr ()))
theorem q95:∀(t37:List qb) (t38 t39:Int),XL2 evo 58 0 6 ⟨[(6,R.c (C.hd .map 0)),(37,rL 5 qh t37),(38,rI t38),(39,rI t39)],[(0,B.ob (AO.mp [(Value.int IntKind.i64 1,R.agg [C.fn 141 [] []],0),(Value.int IntKind.i64 2,R.agg [C.fn 143 [] []],1),(Value.int IntKind.i64 3,R.agg [C.fn 144 [] [dP 1]],2),(Value.int IntKind.i64 4,R.agg [C.fn 145 [] [dP 1]],3)] 4)),(1,B.blk 136 [C.fn 140 [] []])],2,60⟩=(zl (JL t37 t38) t39).bind (Sum.elim (fun(e:Int)=>some (Exit.ret,⟨[(2,rI e)],[],0,60⟩)) (fun(e:Unit)=>some (Exit.exit 0,⟨[(2,R.any)],[],0,60⟩))):=
 fun t37 t38 t39=>by
  revert t39;exact qa6 qzG qCH (fun e=>by rcases e with _|_<;>exact⟨_,rfl,fun h=>by cases h⟩) fun x=>by
   have:=qJx;have:=@qms.eq_1;have:=@qaS;have:=@qav;have:=@qaA;have:=@qb5;have:=@JL.eq_1;exact gA
def JF (n:qb):Option Int:=Option.bind (q2R n) fun(a:Prod (List qb) (Prod Int Bool))=>if(!a.2.2)=Bool.true then some 2 else if 24<((a.1.length:Nat):Int) then some 2 else if 5<a.2.1 then some 2 else Option.bind (q1B n) fun(a2:List qb)=>if(!(zA ((a2.length:Nat):Int) 1 8))=Bool.true then some 2 else Option.bind (zl (JL a.1 ((a.1.length:Nat):Int)) 0) fun(a3:Sum Int Unit)=>Sum.elim (fun(a4:Int)=>some a4) (fun(a5:Unit)=>some 0) a3
theorem q4p:∀(qB n_N qN:Int) (qO:List qc) (n_L:List qb),ev 58 0 [R.agg [dI qB,dI n_N,dI qN,dL 2 qd qO,dL 5 qh n_L]] []=(JF (qb.mk qB n_N qN qO n_L)).bind (fun(e:Int)=>some (rI e,[])):=
 fun qB n_N qN qO n_L=>by
  rw[qR qER qJw.2.2.2 qJV]
  have:=qJx;have:=@q8h;have:=@q6i;have:=@Js;have:=@qcH;have:=@q95;have:=@JF.eq_1;exact gA
theorem qMI:okL 70 qmb:=qS (ql qII) (by kernel_rfl) (by kernel_rfl)
def qNq:=JA_ @qmb.eq_1 (JA_ @Tryz.f70.eq_1 @qII)
theorem qA2:okL 114 qeX:=qS (ql qqv) (by kernel_rfl) (by kernel_rfl)
def qAz:=JA_ @qeX.eq_1 (JA_ @Tryz.f114.eq_1 @qqv)
theorem quA:lbO 114 2=qiU:=Qr (ql qqv) rfl
theorem que:okL 114 qiU:=zJ qA2 (qP9 (i:=0) (by kernel_rfl))
theorem qJg:okL 57 qjD:=qS (ql qFb) (by kernel_rfl) (by kernel_rfl)
def qJk:=JA_ @qjD.eq_1 (JA_ @Tryz.f57.eq_1 @qFb)
theorem qC7:lbO 57 2=qnd:=Qr (ql qFb) rfl
theorem qAI:okL 57 qnd:=zJ qJg (qP9 (i:=0) (by kernel_rfl))
theorem qFE:okL 101 qiC:=qS (ql qy0) (by kernel_rfl) (by kernel_rfl)
def qIa:=JA_ @qiC.eq_1 (JA_ @Tryz.f101.eq_1 @qy0)
def q0z (n:Int) (a:Int) (b:Int):Option Int:=
 some (max (min a b) (min n (max a b)))
def QA (n:Int) (a:Int) (b:Int):Int:=
 max (min a b) (min n (max a b))
theorem q5O (n a b:Int):q0z n a b=some (QA n a b):=by
 unfold q0z QA
 simp only[Zn]
theorem q0Q:∀(n a b:Int),ev 101 0 [rI n,rI a,rI b] []=some (rI (QA n a b),[]):=
 fun n a b=>by
  have h:ev 101 0 [rI n,rI a,rI b] []=(q0z n a b).bind (fun(e:Int)=>some (rI e,[])):=by
   rw[qR qy0 qzy.2.2.2 qFE]
   have:=qIa;have:=@q0z.eq_1;exact gA
  rw[q5O] at h
  exact h
def Jp (w1:List Int) (s:qg) (t10:Int):Int→Option (Int⊕(Unit⊕Unit))|t11=>if t11<t10 then if 0≤t11∧t11<((w1.length:Nat):Int) then Option.bind w1[Int.toNat t11]? fun(a:Int)=>if(QA a (-1000) 1000 != a)=Bool.true then some (Sum.inr (Sum.inl ())) else some (Sum.inl (w64 (t11+1))) else none else some (Sum.inr (Sum.inr ()))
theorem q8K:∀(w1:List Int) (zm zZ Q0 t10 t11:Int) (QO:Nat),QO=w1.length→XL2 evo 57 0 2 ⟨[(1,rP 0),(9,rO 1 1 QO),(10,rI t10),(11,rI t11)],[(0,B.blk 28 [dI zm,dI zZ,dI Q0]),(1,bR 3 1 eI w1)],2,37⟩=(zl (Jp w1 (qg.mk zm zZ Q0) t10) t11).bind (Sum.elim (fun(e:Unit)=>some (Exit.ret,⟨[(1,rP 0),(2,rI 10)],[(0,B.blk 28 [dI zm,dI zZ,dI Q0])],1,37⟩)) (fun(e:Unit)=>some (Exit.exit 0,⟨[(1,rP 0),(2,R.any)],[(0,B.blk 28 [dI zm,dI zZ,dI Q0])],1,37⟩))):=
 by
 intro w1 zm zZ Q0 t10 t11 QO h0
 subst h0
 revert t11;exact qa6 qC7 qAI (fun e=>by rcases e with _|_<;>exact⟨_,rfl,fun h=>by cases h⟩) fun x=>by
  have:=qJk;have:=@qnd.eq_1;have:=@q0Q;have:=@Jp.eq_1;exact gA
theorem q6w:∀(w10 w11 zm zZ Q0 t10 t11:Int),XL2 evo 57 0 2 ⟨[(1,rP 0),(9,rO 1 1 2),(10,rI t10),(11,rI t11)],[(0,B.blk 28 [dI zm,dI zZ,dI Q0]),(1,B.row 3 1 [dI w10,dI w11])],2,37⟩=(zl (Jp [w10,w11] (qg.mk zm zZ Q0) t10) t11).bind (Sum.elim (fun(e:Unit)=>some (Exit.ret,⟨[(1,rP 0),(2,rI 10)],[(0,B.blk 28 [dI zm,dI zZ,dI Q0])],1,37⟩)) (fun(e:Unit)=>some (Exit.exit 0,⟨[(1,rP 0),(2,R.any)],[(0,B.blk 28 [dI zm,dI zZ,dI Q0])],1,37⟩))):=by
 intro w10 w11 zm zZ Q0 t10 t11;have h:=q8K [w10,w11] ((qg.mk zm zZ Q0)).Worst ((qg.mk zm zZ Q0)).Best ((qg.mk zm zZ Q0)).Pass t10 t11 _ rfl
 first
  | exact h
  | (simp only[rL,dL,bR,bZ,Nat.reduceAdd] at h;exact h)
def q1w (s:qg):Option Int:=Option.bind (zl (Jp [s.Worst,s.Best] s 2) 0) fun(a:Sum Unit Unit)=>Sum.elim (fun(a2:Unit)=>some 10) (fun(a3:Unit)=>if(s.Worst==s.Best)=Bool.true then some 10 else if(QA s.Pass s.Worst s.Best != s.Pass)=Bool.true then some 10 else some 0) a
theorem q6j:∀(zm zZ Q0:Int),ev 57 0 [R.agg [dI zm,dI zZ,dI Q0]] []=(q1w (qg.mk zm zZ Q0)).bind (fun(e:Int)=>some (rI e,[])):=
 fun zm zZ Q0=>by
  rw[qR qFb qKe.2.2.2 qJg]
  have:=qJk;have:=@q6w;have:=@q0Q;have:=@q1w.eq_1;exact gA
theorem qNn:okL 18 qnH:=qS (ql qI8) (by kernel_rfl) (by kernel_rfl)
def qLr:=JA_ @qnH.eq_1 (JA_ @Tryz.f18.eq_1 @qI8)
theorem qND:okL 46 qne:=qS (ql qFo) (by kernel_rfl) (by kernel_rfl)
def qOq:=JA_ @qne.eq_1 (JA_ @Tryz.f46.eq_1 @qFo)
theorem qL2:okL 80 qn2:=qS (ql qHI) (by kernel_rfl) (by kernel_rfl)
def qOy:=JA_ @qn2.eq_1 (JA_ @Tryz.f80.eq_1 @qHI)
def q0v (n:Int) (by0:Int):Option Int:=if by0=0 then none else if by0=0 then none else if by0=0 then none else some (w64 (Int.tdiv (w64 (n-Int.tmod (w64 (Int.tmod n by0+by0)) by0)) by0))
theorem qbN:∀(n by0:Int),ev 80 0 [rI n,rI by0] []=(q0v n by0).bind (fun(e:Int)=>some (rI e,[])):=
 fun n by0=>by
  rw[qR qHI qJn.2.2.2 qL2]
  have:=qOy;have:=@q0v.eq_1;exact gA
def q1r (day:Int):Option Int:=if day<(-4611686018427387904) then Option.bind (q0v (w64 (day+100)) 100) fun(a:Int)=>some (w64 (a-1)) else Option.bind (q0v day 100) fun(e0:Int)=>some e0
theorem qdW:∀(day:Int),ev 46 0 [rI day] []=(q1r day).bind (fun(e:Int)=>some (rI e,[])):=
 fun day=>by
  rw[qR qFo qKx.2.2.2 qND]
  have:=qOq;have:=@qbN;have:=@q1r.eq_1;exact gA
def Zw (p:qf) (a:qa) (day:Int):Option Bool:=if 0<p.Age then Option.bind (q1r day) fun(a2:Int)=>Option.bind (q1r a.Day) fun(a3:Int)=>some (decide (p.Age<w64 (a2-a3))) else some Bool.false
theorem q4q:∀(qC JO qy zd:Int) (zf:ByteArray) (qs qD qv:Int) (qx:List qc) (qH:List qb) (qK Qc Qd:Int) (qJ:List (JS qc)) (Qb:Int) (QE:ByteArray) (JN q2k q8X:Int) (Jx:List Int) (q0B:Int) (q3Q:List Int) (day:Int),ev 18 0 [R.agg [dI qC,dI JO,dI qy,dI zd,dS zf,dI qs,dI qD,dI qv,dL 2 qd qx,dL 5 qh qH,dI qK,dI Qc,dI Qd,dL 4 (eA2 qd) qJ],R.agg [dI Qb,dS QE,dI JN,dI q2k,dI q8X,dL 1 eI Jx,dI q0B,dL 1 eI q3Q],rI day] []=(Zw (qf.mk qC JO qy zd zf (qb.mk qs qD qv qx qH) qK Qc Qd qJ) (qa.mk (qc.mk Qb QE) JN q2k q8X Jx q0B q3Q) day).bind (fun(e:Bool)=>some (rB e,[])):=
 fun qC JO qy zd zf qs qD qv qx qH qK Qc Qd qJ Qb QE JN q2k q8X Jx q0B q3Q day=>by
  rw[qR qI8 qJ9.2.2.2 qNn]
  have:=qLr;have:=@qdW;have:=@Zw.eq_1;exact gA
def Zb (b0:qf) (b1:qg) (b2:Int) (b4:Int) (t2:List qa) (t28:List qa) (t29:Int):(List Int×Int)→Option ((List Int×Int)⊕(List Int))|(w6,t30)=>if t30<t29 then if 0≤t30∧t30<((t28.length:Nat):Int) then Option.bind t28[Int.toNat t30]? fun(a:qa)=>Option.bind (Zw b0 a b2) fun(a2:Bool)=>if(!a2)=Bool.true then if w6.length+1≤maxLen∧(w6.length+1)*8≤140737488355328 then some (Sum.inl (w6++[t30],w64 (t30+1))) else none else some (Sum.inl (w6,w64 (t30+1))) else none else some (Sum.inr w6)
theorem q7j:∀(w6:List Int) (qp zn qn qz:Int) (qA:ByteArray) (qi qq qk:Int) (qm:List qc) (qr:List qb) (qt qF qG:Int) (qo:List (JS qc)) (qV zu zw b2 b4:Int) (t2 t28:List qa) (t29 t30:Int) (qdu:Nat),qdu=w6.length→XL2 evo 15 0 6 ⟨[(2,rL 8 qe t2),(4,rP 0),(5,rP 1),(7,rP 2),(8,rP 3),(9,rP 4),(11,rP 5),(28,rL 8 qe t28),(29,rI t29),(30,rI t30)],[(0,B.blk 39 [dI qp,dI zn,dI qn,dI qz,dS qA,dI qi,dI qq,dI qk,dL 2 qd qm,dL 5 qh qr,dI qt,dI qF,dI qG,dL 4 (eA2 qd) qo]),(1,B.blk 28 [dI qV,dI zu,dI zw]),(2,B.blk 3 [dI b2]),(3,B.blk 48 [C.nils,C.nils]),(4,B.blk 49 [dI b4]),(5,B.blk 22 [dO 6 1 qdu]),(6,bR 3 1 eI w6)],7,93⟩=(zl (Zb (qf.mk qp zn qn qz qA (qb.mk qi qq qk qm qr) qt qF qG qo) (qg.mk qV zu zw) b2 b4 t2 t28 t29) (w6,t30)).bind (fun(e:List Int)=>some (Exit.exit 0,⟨[(2,rL 8 qe t2),(4,rP 0),(5,rP 1),(7,rP 2),(8,rP 3),(9,rP 4),(11,rP 5)],[(0,B.blk 39 [dI qp,dI zn,dI qn,dI qz,dS qA,dI qi,dI qq,dI qk,dL 2 qd qm,dL 5 qh qr,dI qt,dI qF,dI qG,dL 4 (eA2 qd) qo]),(1,B.blk 28 [dI qV,dI zu,dI zw]),(2,B.blk 3 [dI b2]),(3,B.blk 48 [C.nils,C.nils]),(4,B.blk 49 [dI b4]),(5,B.blk 22 [dO 6 1 e.length]),(6,bR 3 1 eI e)],7,93⟩)):=
 by
 intro w6 qp zn qn qz qA qi qq qk qm qr qt qF qG qo qV zu zw b2 b4 t2 t28 t29 t30 qdu h0
 subst h0
 revert t30;revert w6;exact qak qyU qDf (fun e=>by exact⟨_,rfl,fun h=>by cases h⟩) fun w6 t30=>by
  have:=qFF;have:=@qpf.eq_1;have:=@q4q;have:=@Zb.eq_1;have:=@qht;exact gA
theorem q5d:∀  (qp zn qn qz:Int) (qA:ByteArray) (qi qq qk:Int) (qm:List qc) (qr:List qb) (qt qF qG:Int) (qo:List (JS qc)) (qV zu zw b2 b4:Int) (t2 t28:List qa) (t29 t30:Int),XL2 evo 15 0 6 ⟨[(2,rL 8 qe t2),(4,rP 0),(5,rP 1),(7,rP 2),(8,rP 3),(9,rP 4),(11,rP 5),(28,rL 8 qe t28),(29,rI t29),(30,rI t30)],[(0,B.blk 39 [dI qp,dI zn,dI qn,dI qz,dS qA,dI qi,dI qq,dI qk,dL 2 qd qm,dL 5 qh qr,dI qt,dI qF,dI qG,dL 4 (eA2 qd) qo]),(1,B.blk 28 [dI qV,dI zu,dI zw]),(2,B.blk 3 [dI b2]),(3,B.blk 48 [C.nils,C.nils]),(4,B.blk 49 [dI b4]),(5,B.blk 22 [dO 6 1 0]),(6,B.row 3 1 [])],7,93⟩=(zl (Zb (qf.mk qp zn qn qz qA (qb.mk qi qq qk qm qr) qt qF qG qo) (qg.mk qV zu zw) b2 b4 t2 t28 t29) ([],t30)).bind (fun(e:List Int)=>some (Exit.exit 0,⟨[(2,rL 8 qe t2),(4,rP 0),(5,rP 1),(7,rP 2),(8,rP 3),(9,rP 4),(11,rP 5)],[(0,B.blk 39 [dI qp,dI zn,dI qn,dI qz,dS qA,dI qi,dI qq,dI qk,dL 2 qd qm,dL 5 qh qr,dI qt,dI qF,dI qG,dL 4 (eA2 qd) qo]),(1,B.blk 28 [dI qV,dI zu,dI zw]),(2,B.blk 3 [dI b2]),(3,B.blk 48 [C.nils,C.nils]),(4,B.blk 49 [dI b4]),(5,B.blk 22 [dO 6 1 e.length]),(6,bR 3 1 eI e)],7,93⟩)):=by
 intro qp zn qn qz qA qi qq qk qm qr qt qF qG qo qV zu zw b2 b4 t2 t28 t29 t30;have h:=q7j [] ((qf.mk qp zn qn qz qA (qb.mk qi qq qk qm qr) qt qF qG qo)).School ((qf.mk qp zn qn qz qA (qb.mk qi qq qk qm qr) qt qF qG qo)).Id ((qf.mk qp zn qn qz qA (qb.mk qi qq qk qm qr) qt qF qG qo)).Version ((qf.mk qp zn qn qz qA (qb.mk qi qq qk qm qr) qt qF qG qo)).From ((qf.mk qp zn qn qz qA (qb.mk qi qq qk qm qr) qt qF qG qo)).Name ((qf.mk qp zn qn qz qA (qb.mk qi qq qk qm qr) qt qF qG qo)).Need.Kind ((qf.mk qp zn qn qz qA (qb.mk qi qq qk qm qr) qt qF qG qo)).Need.N ((qf.mk qp zn qn qz qA (qb.mk qi qq qk qm qr) qt qF qG qo)).Need.Min ((qf.mk qp zn qn qz qA (qb.mk qi qq qk qm qr) qt qF qG qo)).Need.Set ((qf.mk qp zn qn qz qA (qb.mk qi qq qk qm qr) qt qF qG qo)).Need.L ((qf.mk qp zn qn qz qA (qb.mk qi qq qk qm qr) qt qF qG qo)).Total ((qf.mk qp zn qn qz qA (qb.mk qi qq qk qm qr) qt qF qG qo)).Own ((qf.mk qp zn qn qz qA (qb.mk qi qq qk qm qr) qt qF qG qo)).Age ((qf.mk qp zn qn qz qA (qb.mk qi qq qk qm qr) qt qF qG qo)).Exclude ((qg.mk qV zu zw)).Worst ((qg.mk qV zu zw)).Best ((qg.mk qV zu zw)).Pass b2 b4 t2 t28 t29 t30 _ rfl
 first
  | exact h
  | (simp only[rL,dL,bR,bZ,Nat.reduceAdd] at h;exact h)
theorem qKq:okL 34 qkA:=qS (ql qEV) (by kernel_rfl) (by kernel_rfl)
def qJ0:=JA_ @qkA.eq_1 (JA_ @Tryz.f34.eq_1 @qEV)
theorem qzF:lbO 34 2=qoP:=Qr (ql qEV) rfl
theorem qDz:okL 34 qoP:=zJ qKq (qP9 (i:=0) (by kernel_rfl))
def zr (l:List qa) (t7:List Int) (t8:Int):(List qa×Int)→Option ((List qa×Int)⊕(List qa))|(out,t9)=>if t9<t8 then if 0≤t9∧t9<((t7.length:Nat):Int) then Option.bind t7[Int.toNat t9]? fun(a:Int)=>if 0≤a∧a<((l.length:Nat):Int) then Option.bind l[Int.toNat a]? fun(a2:qa)=>if out.length+1≤maxLen∧(out.length+1)*104≤140737488355328 then some (Sum.inl (out++[a2],w64 (t9+1))) else none else none else none else some (Sum.inr out)
theorem q1O:∀(out l:List qa) (t7:List Int) (t8 t9:Int) (Z0:Nat),Z0=out.length→XL2 evo 34 0 2 ⟨[(0,rL 8 qe l),(4,rO 0 8 Z0),(7,rL 1 eI t7),(8,rI t8),(9,rI t9)],[(0,bR 57 8 qe out)],1,22⟩=(zl (zr l t7 t8) (out,t9)).bind (fun(e:List qa)=>some (Exit.exit 0,⟨[(4,rO 0 8 e.length)],[(0,bR 57 8 qe e)],1,22⟩)):=
 by
 intro out l t7 t8 t9 Z0 h0
 subst h0
 revert t9;revert out;exact qak qzF qDz (fun e=>by exact⟨_,rfl,fun h=>by cases h⟩) fun out t9=>by
  have:=qJ0;have:=@qoP.eq_1;have:=@zr.eq_1;exact gA
theorem q16:∀  (l:List qa) (t7:List Int) (t8 t9:Int),XL2 evo 34 0 2 ⟨[(0,rL 8 qe l),(4,rO 0 8 0),(7,rL 1 eI t7),(8,rI t8),(9,rI t9)],[(0,B.row 57 8 [])],1,22⟩=(zl (zr l t7 t8) ([],t9)).bind (fun(e:List qa)=>some (Exit.exit 0,⟨[(4,rO 0 8 e.length)],[(0,bR 57 8 qe e)],1,22⟩)):=by
 intro l t7 t8 t9;have h:=q1O [] l t7 t8 t9 _ rfl
 first
  | exact h
  | (simp only[rL,dL,bR,bZ,Nat.reduceAdd] at h;exact h)
def zQ (l:List qa) (at0:List Int):Option (List qa):=Option.bind (zl (zr l at0 ((at0.length:Nat):Int)) ([],0)) fun(a:List qa)=>some a
theorem JR:∀(l:List qa) (at0:List Int),ev 34 0 [rL 8 qe l,rL 1 eI at0] []=(zQ l at0).bind (fun(e:List qa)=>some (rL 8 qe e,[])):=
 fun l at0=>by
  rw[qR qEV qKr.2.2.2 qKq]
  have:=qJ0;have:=@q16;have:=@zQ.eq_1;exact gA
theorem qM0:okL 35 qpW:=qS (ql qFt) (by kernel_rfl) (by kernel_rfl)
def qNW:=JA_ @qpW.eq_1 (JA_ @Tryz.f35.eq_1 @qFt)
theorem qJB:okL 61 qnA:=qS (ql qF2) (by kernel_rfl) (by kernel_rfl)
def qK0:=JA_ @qnA.eq_1 (JA_ @Tryz.f61.eq_1 @qF2)
theorem qhh:okL 104 q7r:=qS (ql qfw) (by kernel_rfl) (by kernel_rfl)
def qa5:=JA_ @q7r.eq_1 (JA_ @Tryz.f104.eq_1 @qfw)
theorem qf4:lbO 104 5=qb8:=Qr (ql qfw) rfl
theorem qeM:okL 104 qb8:=zJ qhh (qP9 (i:=0) (by kernel_rfl))
theorem qjt:lbO 104 14=qc1:=Qr (ql qfw) rfl
theorem qks:okL 104 qc1:=zJ qhh (qP9 (i:=1) (by kernel_rfl))
theorem qjE:lbO 104 18=qcd:=Qr (ql qfw) rfl
theorem qjH:okL 104 qcd:=zJ qhh (qP9 (i:=2) (by kernel_rfl))
theorem qjm:lbO 104 25=qc3:=Qr (ql qfw) rfl
theorem qkI:okL 104 qc3:=zJ qhh (qP9 (i:=3) (by kernel_rfl))
theorem qkQ:lbO 104 38=qc4:=Qr (ql qfw) rfl
theorem qkx:okL 104 qc4:=zJ qhh (qP9 (i:=4) (by kernel_rfl))
theorem qL4:okL 86 qmu:=qS (ql qH7) (by kernel_rfl) (by kernel_rfl)
def qNj:=JA_ @qmu.eq_1 (JA_ @Tryz.f86.eq_1 @qH7)
def q7T (n:qb):Option Bool:=if(n.Kind==1)=Bool.true then some Bool.true else some (n.Kind==2)
def q02 (n:qb):Bool:=if(n.Kind==1)=Bool.true then Bool.true else n.Kind==2
theorem qe0 (n:qb):q7T n=some (q02 n):=by
 unfold q7T q02
 simp only[Zn]
theorem q3S:∀(qB n_N qN:Int) (qO:List qc) (n_L:List qb),ev 86 0 [R.agg [dI qB,dI n_N,dI qN,dL 2 qd qO,dL 5 qh n_L]] []=some (rB (q02 (qb.mk qB n_N qN qO n_L)),[]):=
 fun qB n_N qN qO n_L=>by
  have h:ev 86 0 [R.agg [dI qB,dI n_N,dI qN,dL 2 qd qO,dL 5 qh n_L]] []=(q7T (qb.mk qB n_N qN qO n_L)).bind (fun(e:Bool)=>some (rB e,[])):=by
   rw[qR qH7 qKI.2.2.2 qL4]
   have:=qNj;have:=@q7T.eq_1;exact gA
  rw[qe0] at h
  exact h
theorem qMZ:okL 89 qmW:=qS (ql qIf) (by kernel_rfl) (by kernel_rfl)
def qOd:=JA_ @qmW.eq_1 (JA_ @Tryz.f89.eq_1 @qIf)
def q1c (kind:Int):Option (Unit⊕Unit):=if(kind==1)=Bool.true then some (Sum.inl ()) else some (Sum.inr ())
theorem q56:∀(kind:Int),ev 89 0 [rI kind] []=(q1c kind).bind (Sum.elim (fun(e:Unit)=>some (R.c (C.fn 133 [] []),[])) (fun(e:Unit)=>some (R.c (C.fn 134 [] []),[]))):=
 fun kind=>by
  rw[qR qIf qJX.2.2.2 qMZ]
  have:=qOd;have:=@q1c.eq_1;exact gA
theorem qLP:okL 59 qob:=qS (ql qHm) (by kernel_rfl) (by kernel_rfl)
def qNu:=JA_ @qob.eq_1 (JA_ @Tryz.f59.eq_1 @qHm)
def q4I (x0:Int) (x1:Int):Option Unit:=
 some ()
def q8j (x0:Int) (x1:Int):Unit:=
 ()
theorem qbE (x0 x1:Int):q4I x0 x1=some (q8j x0 x1):=by
 unfold q4I q8j
 simp only[Zn]
theorem q72:∀(x0 x1:Int),ev 59 0 [rI x0,rI x1] []=some (rB Bool.true,[]):=
 fun x0 x1=>by
  have h:ev 59 0 [rI x0,rI x1] []=(q4I x0 x1).bind (fun(e:Unit)=>some (rB Bool.true,[])):=by
   rw[qR qHm qKo.2.2.2 qLP]
   have:=qNu;have:=@q4I.eq_1;exact gA
  rw[qbE] at h
  exact h
theorem qHy:okL 87 qkz:=qS (ql qAF) (by kernel_rfl) (by kernel_rfl)
def qF5:=JA_ @qkz.eq_1 (JA_ @Tryz.f87.eq_1 @qAF)
theorem qt8:lbO 87 3=qk0:=Qr (ql qAF) rfl
theorem qt9:okL 87 qk0:=zJ qHy (qP9 (i:=0) (by kernel_rfl))
theorem qIl:okL 105 qiG:=qS (ql qx9) (by kernel_rfl) (by kernel_rfl)
def qH0:=JA_ @qiG.eq_1 (JA_ @Tryz.f105.eq_1 @qx9)
def q1g (k:Int) (v:Int):Option Bool:=if 0≤k then some (ZW Go.BinOp.and IntKind.i64 (Int.fdiv v (2 ^ min (Int.toNat k) (IntKind.bits IntKind.i64))) 1==1) else none
theorem q94:∀(k v:Int),ev 105 1 [rI k,rP 0] [(0,B.blk 3 [dI v])]=(q1g k v).bind (fun(e:Bool)=>some (rB e,[(0,B.blk 3 [dI v])])):=
 fun k v=>by
  rw[qR qx9 qyJ.2.2.2 qIl]
  have:=qH0;have:=@q1g.eq_1;exact gA
theorem qGD:okL 132 qif:=qS (ql quv) (by kernel_rfl) (by kernel_rfl)
def qGU:=JA_ @qif.eq_1 (JA_ @Tryz.f132.eq_1 @quv)
theorem qGn:okL 163 qhR:=qS (ql qup) (by kernel_rfl) (by kernel_rfl)
def qHF:=JA_ @qhR.eq_1 (JA_ @Tryz.f163.eq_1 @qup)
theorem qyD:okL 179 qfo:=qS (ql qsH) (by kernel_rfl) (by kernel_rfl)
def qB4:=JA_ @qfo.eq_1 (JA_ @Tryz.f179.eq_1 @qsH)
theorem qwk:lbO 179 2=qhN:=Qr (ql qsH) rfl
theorem qv4:okL 179 qhN:=zJ qyD (qP9 (i:=0) (by kernel_rfl))
def zB (v:qc) (s:List qc) (t7:Int):Int→Option (Int⊕(Int⊕Unit))|t8=>if t8<t7 then if 0≤t8∧t8<((s.length:Nat):Int) then Option.bind s[Int.toNat t8]? fun(a:qc)=>if(v.School==a.School)=Bool.true∧(ByteArray.toList v.Code==ByteArray.toList a.Code)=Bool.true then some (Sum.inr (Sum.inl t8)) else some (Sum.inl (w64 (t8+1))) else none else some (Sum.inr (Sum.inr ()))
theorem q0E:∀(q04:Int) (q7D:ByteArray) (s:List qc) (t7 t8:Int),XL2 evo 179 0 2 ⟨[(0,rL 2 qd s),(3,rP 0),(7,rI t7),(8,rI t8)],[(0,B.blk 55 [dI q04,dS q7D])],1,19⟩=(zl (zB (qc.mk q04 q7D) s t7) t8).bind (Sum.elim (fun(e:Int)=>some (Exit.ret,⟨[(4,rI e)],[],0,19⟩)) (fun(e:Unit)=>some (Exit.exit 0,⟨[(4,R.any)],[],0,19⟩))):=
 fun q04 q7D s t7 t8=>by
  revert t8;exact qa6 qwk qv4 (fun e=>by rcases e with _|_<;>exact⟨_,rfl,fun h=>by cases h⟩) fun x=>by
   have:=qB4;have:=@qhN.eq_1;have:=@zB.eq_1;exact gA
def Q6 (s:List qc) (v:qc):Option Int:=Option.bind (zl (zB v s ((s.length:Nat):Int)) 0) fun(a:Sum Int Unit)=>Sum.elim (fun(a2:Int)=>some a2) (fun(a3:Unit)=>some (-1)) a
theorem q18:∀(s:List qc) (q04:Int) (q7D:ByteArray),ev 179 0 [rL 2 qd s,R.agg [dI q04,dS q7D]] []=(Q6 s (qc.mk q04 q7D)).bind (fun(e:Int)=>some (rI e,[])):=
 fun s q04 q7D=>by
  rw[qR qsH qDx.2.2.2 qyD]
  have:=qB4;have:=@q0E;have:=@Q6.eq_1;exact gA
def zV (s:List qc) (v:qc):Option Bool:=Option.bind (Q6 s v) fun(a:Int)=>some (decide (0≤a))
theorem q0F:∀(s:List qc) (q04:Int) (q7D:ByteArray),ev 163 0 [rL 2 qd s,R.agg [dI q04,dS q7D]] []=(zV s (qc.mk q04 q7D)).bind (fun(e:Bool)=>some (rB e,[])):=
 fun s q04 q7D=>by
  rw[qR qup qCk.2.2.2 qGn]
  have:=qHF;have:=@q18;have:=@zV.eq_1;exact gA
theorem qIs:okL 164 qiX:=qS (ql qxO) (by kernel_rfl) (by kernel_rfl)
def qGS:=JA_ @qiX.eq_1 (JA_ @Tryz.f164.eq_1 @qxO)
theorem qIO:okL 180 qhZ:=qS (ql qwE) (by kernel_rfl) (by kernel_rfl)
def qH6:=JA_ @qhZ.eq_1 (JA_ @Tryz.f180.eq_1 @qwE)
def q2B (s:qg) (g:Int):Option Bool:=Option.bind (q1w s) fun(a:Int)=>if(a==0)=Bool.true then some (QA g s.Worst s.Best==g) else some Bool.false
theorem qbK:∀(zm zZ Q0 g:Int),ev 180 0 [R.agg [dI zm,dI zZ,dI Q0],rI g] []=(q2B (qg.mk zm zZ Q0) g).bind (fun(e:Bool)=>some (rB e,[])):=
 fun zm zZ Q0 g=>by
  rw[qR qwE qzE.2.2.2 qIO]
  have:=qH6;have:=@q6j;have:=@q0Q;have:=@q2B.eq_1;exact gA
def q1a (s:qg) (g:Int) (min:Int):Option Bool:=Option.bind (q2B s g) fun(a:Bool)=>if a=Bool.true then if(g==min)=Bool.true then some Bool.true else some (decide (min<g)==decide (s.Worst<s.Best)) else some Bool.false
theorem qa8:∀(zm zZ Q0 g min:Int),ev 164 0 [R.agg [dI zm,dI zZ,dI Q0],rI g,rI min] []=(q1a (qg.mk zm zZ Q0) g min).bind (fun(e:Bool)=>some (rB e,[])):=
 fun zm zZ Q0 g min=>by
  rw[qR qxO qDu.2.2.2 qIs]
  have:=qGS;have:=@qbK;have:=@q1a.eq_1;exact gA
def q4b (n:qb) (s:qg) (a:qa):Option Bool:=if q02 n=Bool.true then Option.bind (zV n.Set a.Course) fun(a2:Bool)=>if a2=Bool.true then Option.bind (q1a s a.Grade n.Min) fun(e0:Bool)=>some e0 else some Bool.false else some Bool.false
theorem qa2:∀(qB n_N qN:Int) (qO:List qc) (n_L:List qb) (zm zZ Q0 Qb:Int) (QE:ByteArray) (JN q2k q8X:Int) (Jx:List Int) (q0B:Int) (q3Q:List Int),ev 132 0 [R.agg [dI qB,dI n_N,dI qN,dL 2 qd qO,dL 5 qh n_L],R.agg [dI zm,dI zZ,dI Q0],R.agg [dI Qb,dS QE,dI JN,dI q2k,dI q8X,dL 1 eI Jx,dI q0B,dL 1 eI q3Q]] []=(q4b (qb.mk qB n_N qN qO n_L) (qg.mk zm zZ Q0) (qa.mk (qc.mk Qb QE) JN q2k q8X Jx q0B q3Q)).bind (fun(e:Bool)=>some (rB e,[])):=
 fun qB n_N qN qO n_L zm zZ Q0 Qb QE JN q2k q8X Jx q0B q3Q=>by
  rw[qR quv qD9.2.2.2 qGD]
  have:=qGU;have:=@q3S;have:=@q0F;have:=@qa8;have:=@q4b.eq_1;exact gA
def q07 (b0:Int) (n:qb) (s:qg) (b3:qM) (t13:List qa) (t14:Int):(qM×Int)→Option ((qM×Int)⊕qM)|(out,t15)=>if t15<t14 then if 0≤t15∧t15<((t13.length:Nat):Int) then Option.bind t13[Int.toNat t15]? fun(a:qa)=>Option.bind (q1g t15 b0) fun(a2:Bool)=>if a2=Bool.true then if out.fine=Bool.true then Option.bind (q4b n s a) fun(a3:Bool)=>some (Sum.inl (qM.mk (w64 (out.many+1)) (w64 (out.credits+a.Credits)) a3,w64 (t15+1))) else some (Sum.inl (qM.mk (w64 (out.many+1)) (w64 (out.credits+a.Credits)) Bool.false,w64 (t15+1))) else some (Sum.inl (out,w64 (t15+1))) else none else some (Sum.inr out)
theorem qaB:∀(b0 qB n_N qN:Int) (qO:List qc) (n_L:List qb) (zm zZ Q0 b3_many b3_credits:Int) (b3_fine:Bool) (out_many out_credits:Int) (out_fine:Bool) (t13:List qa) (t14 t15:Int),XL2 evo 87 1 3 ⟨[(3,R.c (C.fn 105 [] [dP 0])),(4,rP 1),(5,rP 2),(8,rP 3),(9,rP 4),(13,rL 8 qe t13),(14,rI t14),(15,rI t15)],[(0,B.blk 3 [dI b0]),(1,B.blk 36 [dI qB,dI n_N,dI qN,dL 2 qd qO,dL 5 qh n_L]),(2,B.blk 28 [dI zm,dI zZ,dI Q0]),(3,B.blk 138 [dI b3_many,dI b3_credits,dB b3_fine]),(4,B.blk 138 [dI out_many,dI out_credits,dB out_fine])],5,44⟩=(zl (q07 b0 (qb.mk qB n_N qN qO n_L) (qg.mk zm zZ Q0) (qM.mk b3_many b3_credits b3_fine) t13 t14) ((qM.mk out_many out_credits out_fine),t15)).bind (fun(e:qM)=>some (Exit.exit 0,⟨[(8,rP 1),(9,rP 2)],[(0,B.blk 3 [dI b0]),(1,B.blk 138 [dI b3_many,dI b3_credits,dB b3_fine]),(2,B.blk 138 [dI e.many,dI e.credits,dB e.fine])],3,44⟩)):=
 fun b0 qB n_N qN qO n_L zm zZ Q0 b3_many b3_credits b3_fine out_many out_credits out_fine t13 t14 t15=>by
  have h:=q52 (E:=evo) (f:=87) (k:=1) (st:=fun x:qM×Int=>(⟨[(3,R.c (C.fn 105 [] [dP 0])),(4,rP 1),(5,rP 2),(8,rP 3),(9,rP 4),(13,rL 8 qe t13),(14,rI t14),(15,rI x.2)],[(0,B.blk 3 [dI b0]),(1,B.blk 36 [dI qB,dI n_N,dI qN,dL 2 qd qO,dL 5 qh n_L]),(2,B.blk 28 [dI zm,dI zZ,dI Q0]),(3,B.blk 138 [dI b3_many,dI b3_credits,dB b3_fine]),(4,B.blk 138 [dI x.1.many,dI x.1.credits,dB x.1.fine])],5,44⟩:S)) (ex:=fun(e:qM)=>(Exit.exit 0,⟨[(8,rP 1),(9,rP 2)],[(0,B.blk 3 [dI b0]),(1,B.blk 138 [dI b3_many,dI b3_credits,dB b3_fine]),(2,B.blk 138 [dI e.many,dI e.credits,dB e.fine])],3,44⟩)) (step:=(q07 b0 (qb.mk qB n_N qN qO n_L) (qg.mk zm zZ Q0) (qM.mk b3_many b3_credits b3_fine) t13 t14)) qt8 qt9 (fun e h=>by cases h) (fun x=>by
   obtain⟨out,t15⟩:=x;have:=qF5;have:=@qk0.eq_1;have:=@q94;have:=@qa2;have:=@q07.eq_1;exact gA) ((qM.mk out_many out_credits out_fine),t15)
  exact h
def q1o (n:qb) (s:qg) (l:List qa) (b0:Int):Option qM:=Option.bind (zl (q07 b0 n s (qM.mk 0 0 Bool.false) l ((l.length:Nat):Int)) (qM.mk 0 0 Bool.true,0)) fun(a:qM)=>some a
theorem q3i:∀(qB n_N qN:Int) (qO:List qc) (n_L:List qb) (zm zZ Q0:Int) (l:List qa) (b0:Int),ev 87 1 [R.agg [dI qB,dI n_N,dI qN,dL 2 qd qO,dL 5 qh n_L],R.agg [dI zm,dI zZ,dI Q0],rL 8 qe l,R.c (C.fn 105 [] [dP 0])] [(0,B.blk 3 [dI b0])]=(q1o (qb.mk qB n_N qN qO n_L) (qg.mk zm zZ Q0) l b0).bind (fun(e:qM)=>some (R.agg [dI e.many,dI e.credits,dB e.fine],[(0,B.blk 3 [dI b0])])):=
 fun qB n_N qN qO n_L zm zZ Q0 l b0=>by
  rw[qR qAF qIu.2.2.2 qHy]
  have:=qF5;have:=@qaB;have:=@q1o.eq_1;exact gA
theorem qHM:okL 133 qis:=qS (ql qtQ) (by kernel_rfl) (by kernel_rfl)
def qG2:=JA_ @qis.eq_1 (JA_ @Tryz.f133.eq_1 @qtQ)
def q1A (x:qM) (x1:qb):Option Bool:=if x.fine=Bool.true then some (x.many==1) else some Bool.false
def Q2 (x:qM) (x1:qb):Bool:=if x.fine=Bool.true then x.many==1 else Bool.false
theorem q7b (x:qM) (x1:qb):q1A x x1=some (Q2 x x1):=by
 unfold q1A Q2
 simp only[Zn]
theorem q1L:∀(x_many x_credits:Int) (x_fine:Bool) (qdv qEv qh5:Int) (qh6:List qc) (qEw:List qb),ev 133 0 [R.agg [dI x_many,dI x_credits,dB x_fine],R.agg [dI qdv,dI qEv,dI qh5,dL 2 qd qh6,dL 5 qh qEw]] []=some (rB (Q2 (qM.mk x_many x_credits x_fine) (qb.mk qdv qEv qh5 qh6 qEw)),[]):=
 fun x_many x_credits x_fine qdv qEv qh5 qh6 qEw=>by
  have h:ev 133 0 [R.agg [dI x_many,dI x_credits,dB x_fine],R.agg [dI qdv,dI qEv,dI qh5,dL 2 qd qh6,dL 5 qh qEw]] []=(q1A (qM.mk x_many x_credits x_fine) (qb.mk qdv qEv qh5 qh6 qEw)).bind (fun(e:Bool)=>some (rB e,[])):=by
   rw[qR qtQ qzc.2.2.2 qHM]
   have:=qG2;have:=@q1A.eq_1;exact gA
  rw[q7b] at h
  exact h
theorem qGE:okL 134 qhV:=qS (ql qwO) (by kernel_rfl) (by kernel_rfl)
def qFW:=JA_ @qhV.eq_1 (JA_ @Tryz.f134.eq_1 @qwO)
def q3h (x:qM) (n:qb):Option Bool:=if x.fine=Bool.true then if 0<x.many then some (decide (n.N≤x.credits)) else some Bool.false else some Bool.false
def Qu (x:qM) (n:qb):Bool:=if x.fine=Bool.true then if 0<x.many then decide (n.N≤x.credits) else Bool.false else Bool.false
theorem q9h (x:qM) (n:qb):q3h x n=some (Qu x n):=by
 unfold q3h Qu
 simp only[Zn]
theorem q31:∀(x_many x_credits:Int) (x_fine:Bool) (qB n_N qN:Int) (qO:List qc) (n_L:List qb),ev 134 0 [R.agg [dI x_many,dI x_credits,dB x_fine],R.agg [dI qB,dI n_N,dI qN,dL 2 qd qO,dL 5 qh n_L]] []=some (rB (Qu (qM.mk x_many x_credits x_fine) (qb.mk qB n_N qN qO n_L)),[]):=
 fun x_many x_credits x_fine qB n_N qN qO n_L=>by
  have h:ev 134 0 [R.agg [dI x_many,dI x_credits,dB x_fine],R.agg [dI qB,dI n_N,dI qN,dL 2 qd qO,dL 5 qh n_L]] []=(q3h (qM.mk x_many x_credits x_fine) (qb.mk qB n_N qN qO n_L)).bind (fun(e:Bool)=>some (rB e,[])):=by
   rw[qR qwO qAi.2.2.2 qGE]
   have:=qFW;have:=@q3h.eq_1;exact gA
  rw[q9h] at h
  exact h
def zC (x:(qb×List qa×Int×qg)):List R×List (Nat×B):=([R.agg [C.d (D.int .i64 x.1.Kind),C.d (D.int .i64 x.1.N),C.d (D.int .i64 x.1.Min),C.d (D.sl 2 x.1.Set.length (x.1.Set.flatMap qd)),C.d (D.sl 5 x.1.L.length (x.1.L.flatMap qh))],R.c (C.ptr 0 0),R.c (C.ptr 1 0),R.c (C.ptr 2 0),R.c (C.ptr 3 0),R.c (C.ptr 4 0),R.c (C.ptr 5 0)],[(0,B.blk 26 [C.d (D.sl 8 x.2.1.length (x.2.1.flatMap qe))]),(1,B.blk 114 [C.fn 59 [] []]),(2,B.blk 3 [C.d (D.int .i64 x.2.2.1)]),(3,B.blk 28 [C.d (D.int .i64 x.2.2.2.Worst),C.d (D.int .i64 x.2.2.2.Best),C.d (D.int .i64 x.2.2.2.Pass)]),(4,B.blk 163 [C.fn 104 [] [C.ptr 0 0,C.ptr 1 0,C.ptr 2 0,C.ptr 3 0,C.ptr 4 0,C.ptr 5 0]]),(5,B.blk 114 [C.fn 60 [] []])])
def Qv:(List Bool×List qa×Int×qg)→R×List (Nat×B):=fun(e:List Bool×List qa×Int×qg)=>(R.c (C.d (D.sl 1 e.1.length (e.1.flatMap eB))),[(0,B.blk 26 [C.d (D.sl 8 e.2.1.length (e.2.1.flatMap qe))]),(1,B.blk 114 [C.fn 59 [] []]),(2,B.blk 3 [C.d (D.int .i64 e.2.2.1)]),(3,B.blk 28 [C.d (D.int .i64 e.2.2.2.Worst),C.d (D.int .i64 e.2.2.2.Best),C.d (D.int .i64 e.2.2.2.Pass)]),(4,B.blk 163 [C.fn 104 [] [C.ptr 0 0,C.ptr 1 0,C.ptr 2 0,C.ptr 3 0,C.ptr 4 0,C.ptr 5 0]]),(5,B.blk 114 [C.fn 60 [] []])])
end
noncomputable section
open Go.RowKit
set_option maxRecDepth 20000
set_option maxHeartbeats 8000000
abbrev qMi:List R:=R.any::R.any::R.any::R.any::qL9
abbrev qNB:List R:=R.any::R.any::R.any::R.any::qMi
abbrev qOj:List R:=R.any::R.any::R.any::R.any::qNB
abbrev qMh:List R:=R.any::R.any::R.any::R.any::qOj
abbrev qLY:List R:=R.any::R.any::R.any::R.any::qMh
abbrev qOn:List R:=R.any::R.any::R.any::R.any::qLY
abbrev qMg:List R:=R.any::R.any::R.any::R.any::qOn
abbrev qMF:List R:=R.any::R.any::R.any::R.any::qMg
abbrev qMX:List R:=R.any::R.any::R.any::R.any::qMF
abbrev qlE:List R:=R.any::R.any::R.any::R.any::qMX
def Jg (rF:(qb×List qa×Int×qg)→Option (List Bool×List qa×Int×qg)) (b0:List qa) (b2:Int) (b3:qg) (b6:qb):(List Bool×Int)→Option ((List Bool×Int)⊕(List Bool))|(w7,b8)=>if b8<((w7.length:Nat):Int) then Option.bind (q1o b6 b3 b0 b8) fun(a2:qM)=>if 0≤b8∧b8<((w7.length:Nat):Int) then if Int.toNat b8+1≤w7.length then some (Sum.inl (List.set w7 (Int.toNat b8) (Q2 a2 b6),w64 (b8+1))) else none else none else some (Sum.inr w7)
theorem q78 (rE:Orc) (rF:(qb×List qa×Int×qg)→Option (List Bool×List qa×Int×qg)) (hF:∀y,rE (.fn 104) 6 (zC y).1 (zC y).2=(rF y).bind fun e=>some (Qv e)) (hM:∀g k a G,g≠104→rE (.fn g) k a G=ev g k a G) (hR:∀g asg bd k a G,rE (.rd g asg bd) k a G=evr g asg bd k a G):∀(w7:List Bool) (b0:List qa) (b2 QP ZI ZJ Jt qbU q0H:Int) (q0I:List qc) (qbV:List qb) (b8:Int) (zL:Nat),zL=w7.length→XL2 rE 104 6 5 ⟨[(1,rP 0),(2,rP 1),(3,rP 2),(4,rP 3),(7,rP 6),(9,rO 7 1 zL),(10,R.c (C.fn 133 [] [])),(11,rP 8)],[(0,B.blk 26 [dL 8 qe b0]),(1,B.blk 114 [C.fn 59 [] []]),(2,B.blk 3 [dI b2]),(3,B.blk 28 [dI QP,dI ZI,dI ZJ]),(4,B.blk 163 [C.fn 104 [] [dP 0,dP 1,dP 2,dP 3,dP 4,dP 5]]),(5,B.blk 114 [C.fn 60 [] []]),(6,B.blk 36 [dI Jt,dI qbU,dI q0H,dL 2 qd q0I,dL 5 qh qbV]),(7,bR 4 1 eB w7),(8,B.blk 3 [dI b8])],9,142⟩=(zl (Jg rF b0 b2 (qg.mk QP ZI ZJ) (qb.mk Jt qbU q0H q0I qbV)) (w7,b8)).bind (fun(e:List Bool)=>some (Exit.exit 0,⟨[(3,rP 2),(9,rO 6 1 e.length)],[(0,B.blk 26 [dL 8 qe b0]),(1,B.blk 114 [C.fn 59 [] []]),(2,B.blk 3 [dI b2]),(3,B.blk 28 [dI QP,dI ZI,dI ZJ]),(4,B.blk 163 [C.fn 104 [] [dP 0,dP 1,dP 2,dP 3,dP 4,dP 5]]),(5,B.blk 114 [C.fn 60 [] []]),(6,bR 4 1 eB e)],7,142⟩)):=
 by
 intro w7 b0 b2 QP ZI ZJ Jt qbU q0H q0I qbV b8 zL h0
 subst h0
 revert b8;revert w7;exact qak qf4 qeM (fun e=>by exact⟨_,rfl,fun h=>by cases h⟩) fun w7 b8=>by
  have hF':∀(qE Je qX:Int) (qY:List qc) (Jf:List qb) (v:List qa) (v2 qI z6 z7:Int),rE (.fn 104) 6 [R.agg [dI qE,dI Je,dI qX,dL 2 qd qY,dL 5 qh Jf],rP 0,rP 1,rP 2,rP 3,rP 4,rP 5] [(0,B.blk 26 [dL 8 qe v]),(1,B.blk 114 [C.fn 59 [] []]),(2,B.blk 3 [dI v2]),(3,B.blk 28 [dI qI,dI z6,dI z7]),(4,B.blk 163 [C.fn 104 [] [dP 0,dP 1,dP 2,dP 3,dP 4,dP 5]]),(5,B.blk 114 [C.fn 60 [] []])]=(rF ((qb.mk qE Je qX qY Jf),v,v2,(qg.mk qI z6 z7))).bind (fun e=>some (rL 1 eB e.1,[(0,B.blk 26 [dL 8 qe e.2.1]),(1,B.blk 114 [C.fn 59 [] []]),(2,B.blk 3 [dI e.2.2.1]),(3,B.blk 28 [dI e.2.2.2.Worst,dI e.2.2.2.Best,dI e.2.2.2.Pass]),(4,B.blk 163 [C.fn 104 [] [dP 0,dP 1,dP 2,dP 3,dP 4,dP 5]]),(5,B.blk 114 [C.fn 60 [] []])])):=fun qE Je qX qY Jf v v2 qI z6 z7=>hF ((qb.mk qE Je qX qY Jf),v,v2,(qg.mk qI z6 z7))
  have:=qa5;have:=@qb8.eq_1;have:=@q72;have:=@q3i;have:=@q1L;have:=@Jg.eq_1;exact gA
def Jh (rF:(qb×List qa×Int×qg)→Option (List Bool×List qa×Int×qg)) (b0:List qa) (b2:Int) (b3:qg) (b6:qb):(List Bool×Int)→Option ((List Bool×Int)⊕(List Bool))|(w7,b8)=>if b8<((w7.length:Nat):Int) then Option.bind (q1o b6 b3 b0 b8) fun(a2:qM)=>if 0≤b8∧b8<((w7.length:Nat):Int) then if Int.toNat b8+1≤w7.length then some (Sum.inl (List.set w7 (Int.toNat b8) (Qu a2 b6),w64 (b8+1))) else none else none else some (Sum.inr w7)
theorem q6U (rE:Orc) (rF:(qb×List qa×Int×qg)→Option (List Bool×List qa×Int×qg)) (hF:∀y,rE (.fn 104) 6 (zC y).1 (zC y).2=(rF y).bind fun e=>some (Qv e)) (hM:∀g k a G,g≠104→rE (.fn g) k a G=ev g k a G) (hR:∀g asg bd k a G,rE (.rd g asg bd) k a G=evr g asg bd k a G):∀(w7:List Bool) (b0:List qa) (b2 QP ZI ZJ Jt qbU q0H:Int) (q0I:List qc) (qbV:List qb) (b8:Int) (zL:Nat),zL=w7.length→XL2 rE 104 6 5 ⟨[(1,rP 0),(2,rP 1),(3,rP 2),(4,rP 3),(7,rP 6),(9,rO 7 1 zL),(10,R.c (C.fn 134 [] [])),(11,rP 8)],[(0,B.blk 26 [dL 8 qe b0]),(1,B.blk 114 [C.fn 59 [] []]),(2,B.blk 3 [dI b2]),(3,B.blk 28 [dI QP,dI ZI,dI ZJ]),(4,B.blk 163 [C.fn 104 [] [dP 0,dP 1,dP 2,dP 3,dP 4,dP 5]]),(5,B.blk 114 [C.fn 60 [] []]),(6,B.blk 36 [dI Jt,dI qbU,dI q0H,dL 2 qd q0I,dL 5 qh qbV]),(7,bR 4 1 eB w7),(8,B.blk 3 [dI b8])],9,142⟩=(zl (Jh rF b0 b2 (qg.mk QP ZI ZJ) (qb.mk Jt qbU q0H q0I qbV)) (w7,b8)).bind (fun(e:List Bool)=>some (Exit.exit 0,⟨[(3,rP 2),(9,rO 6 1 e.length)],[(0,B.blk 26 [dL 8 qe b0]),(1,B.blk 114 [C.fn 59 [] []]),(2,B.blk 3 [dI b2]),(3,B.blk 28 [dI QP,dI ZI,dI ZJ]),(4,B.blk 163 [C.fn 104 [] [dP 0,dP 1,dP 2,dP 3,dP 4,dP 5]]),(5,B.blk 114 [C.fn 60 [] []]),(6,bR 4 1 eB e)],7,142⟩)):=
 by
 intro w7 b0 b2 QP ZI ZJ Jt qbU q0H q0I qbV b8 zL h0
 subst h0
 revert b8;revert w7;exact qak qf4 qeM (fun e=>by exact⟨_,rfl,fun h=>by cases h⟩) fun w7 b8=>by
  have hF':∀(qE Je qX:Int) (qY:List qc) (Jf:List qb) (v:List qa) (v2 qI z6 z7:Int),rE (.fn 104) 6 [R.agg [dI qE,dI Je,dI qX,dL 2 qd qY,dL 5 qh Jf],rP 0,rP 1,rP 2,rP 3,rP 4,rP 5] [(0,B.blk 26 [dL 8 qe v]),(1,B.blk 114 [C.fn 59 [] []]),(2,B.blk 3 [dI v2]),(3,B.blk 28 [dI qI,dI z6,dI z7]),(4,B.blk 163 [C.fn 104 [] [dP 0,dP 1,dP 2,dP 3,dP 4,dP 5]]),(5,B.blk 114 [C.fn 60 [] []])]=(rF ((qb.mk qE Je qX qY Jf),v,v2,(qg.mk qI z6 z7))).bind (fun e=>some (rL 1 eB e.1,[(0,B.blk 26 [dL 8 qe e.2.1]),(1,B.blk 114 [C.fn 59 [] []]),(2,B.blk 3 [dI e.2.2.1]),(3,B.blk 28 [dI e.2.2.2.Worst,dI e.2.2.2.Best,dI e.2.2.2.Pass]),(4,B.blk 163 [C.fn 104 [] [dP 0,dP 1,dP 2,dP 3,dP 4,dP 5]]),(5,B.blk 114 [C.fn 60 [] []])])):=fun qE Je qX qY Jf v v2 qI z6 z7=>hF ((qb.mk qE Je qX qY Jf),v,v2,(qg.mk qI z6 z7))
  have:=qa5;have:=@qb8.eq_1;have:=@q72;have:=@q3i;have:=@q31;have:=@Jh.eq_1;exact gA
def Zr (rF:(qb×List qa×Int×qg)→Option (List Bool×List qa×Int×qg)) (w7:List Bool) (b0:List qa) (b2:Int) (b3:qg) (b6:qb):(List Int×Int)→Option ((List Int×Int)⊕(List Int))|(w9,t13)=>if t13<((w9.length:Nat):Int) then if 0≤t13∧t13<((w9.length:Nat):Int) then if Int.toNat t13+1≤w9.length then some (Sum.inl (List.set w9 (Int.toNat t13) (-1),w64 (t13+1))) else none else none else some (Sum.inr w9)
theorem q6C (rE:Orc) (rF:(qb×List qa×Int×qg)→Option (List Bool×List qa×Int×qg)) (hF:∀y,rE (.fn 104) 6 (zC y).1 (zC y).2=(rF y).bind fun e=>some (Qv e)) (hM:∀g k a G,g≠104→rE (.fn g) k a G=ev g k a G) (hR:∀g asg bd k a G,rE (.rd g asg bd) k a G=evr g asg bd k a G):∀(w7:List Bool) (w9:List Int) (b0:List qa) (b2 QP ZI ZJ Jt qbU q0H:Int) (q0I:List qc) (qbV:List qb) (t13:Int) (zL JP:Nat),zL=w7.length→JP=w9.length→XL2 rE 104 6 14 ⟨[(3,rP 2),(5,rP 4),(6,rP 5),(7,rP 6),(9,rO 7 1 zL),(12,rP 8),(13,rI t13)],[(0,B.blk 26 [dL 8 qe b0]),(1,B.blk 114 [C.fn 59 [] []]),(2,B.blk 3 [dI b2]),(3,B.blk 28 [dI QP,dI ZI,dI ZJ]),(4,B.blk 163 [C.fn 104 [] [dP 0,dP 1,dP 2,dP 3,dP 4,dP 5]]),(5,B.blk 114 [C.fn 60 [] []]),(6,B.blk 36 [dI Jt,dI qbU,dI q0H,dL 2 qd q0I,dL 5 qh qbV]),(7,bR 4 1 eB w7),(8,B.blk 164 [dO 9 1 JP]),(9,bR 3 1 eI w9)],10,142⟩=(zl (Zr rF w7 b0 b2 (qg.mk QP ZI ZJ) (qb.mk Jt qbU q0H q0I qbV)) (w9,t13)).bind (fun(e:List Int)=>some (Exit.exit 2,⟨[(3,rP 2),(5,rP 4),(6,rP 5),(7,rP 6),(9,rO 7 1 w7.length),(12,rP 8)],[(0,B.blk 26 [dL 8 qe b0]),(1,B.blk 114 [C.fn 59 [] []]),(2,B.blk 3 [dI b2]),(3,B.blk 28 [dI QP,dI ZI,dI ZJ]),(4,B.blk 163 [C.fn 104 [] [dP 0,dP 1,dP 2,dP 3,dP 4,dP 5]]),(5,B.blk 114 [C.fn 60 [] []]),(6,B.blk 36 [dI Jt,dI qbU,dI q0H,dL 2 qd q0I,dL 5 qh qbV]),(7,bR 4 1 eB w7),(8,B.blk 164 [dO 9 1 e.length]),(9,bR 3 1 eI e)],10,142⟩)):=
 by
 intro w7 w9 b0 b2 QP ZI ZJ Jt qbU q0H q0I qbV t13 zL JP h0 h1
 subst h0 h1
 revert t13;revert w9;exact qak qjt qks (fun e=>by exact⟨_,rfl,fun h=>by cases h⟩) fun w9 t13=>by
  have hF':∀(qE Je qX:Int) (qY:List qc) (Jf:List qb) (v:List qa) (v2 qI z6 z7:Int),rE (.fn 104) 6 [R.agg [dI qE,dI Je,dI qX,dL 2 qd qY,dL 5 qh Jf],rP 0,rP 1,rP 2,rP 3,rP 4,rP 5] [(0,B.blk 26 [dL 8 qe v]),(1,B.blk 114 [C.fn 59 [] []]),(2,B.blk 3 [dI v2]),(3,B.blk 28 [dI qI,dI z6,dI z7]),(4,B.blk 163 [C.fn 104 [] [dP 0,dP 1,dP 2,dP 3,dP 4,dP 5]]),(5,B.blk 114 [C.fn 60 [] []])]=(rF ((qb.mk qE Je qX qY Jf),v,v2,(qg.mk qI z6 z7))).bind (fun e=>some (rL 1 eB e.1,[(0,B.blk 26 [dL 8 qe e.2.1]),(1,B.blk 114 [C.fn 59 [] []]),(2,B.blk 3 [dI e.2.2.1]),(3,B.blk 28 [dI e.2.2.2.Worst,dI e.2.2.2.Best,dI e.2.2.2.Pass]),(4,B.blk 163 [C.fn 104 [] [dP 0,dP 1,dP 2,dP 3,dP 4,dP 5]]),(5,B.blk 114 [C.fn 60 [] []])])):=fun qE Je qX qY Jf v v2 qI z6 z7=>hF ((qb.mk qE Je qX qY Jf),v,v2,(qg.mk qI z6 z7))
  have:=qa5;have:=@qc1.eq_1;have:=@Zr.eq_1;exact gA
theorem qMe:okL 60 qpd:=qS (ql qGY) (by kernel_rfl) (by kernel_rfl)
def qNQ:=JA_ @qpd.eq_1 (JA_ @Tryz.f60.eq_1 @qGY)
def q4J (x0:Int) (x1:Int):Option Unit:=
 some ()
def q8l (x0:Int) (x1:Int):Unit:=
 ()
theorem qbI (x0 x1:Int):q4J x0 x1=some (q8l x0 x1):=by
 unfold q4J q8l
 simp only[Zn]
theorem qdj:∀(x0 x1:Int),ev 60 0 [rI x0,rI x1] []=some (rB Bool.false,[]):=
 fun x0 x1=>by
  have h:ev 60 0 [rI x0,rI x1] []=(q4J x0 x1).bind (fun(e:Unit)=>some (rB Bool.false,[])):=by
   rw[qR qGY qJh.2.2.2 qMe]
   have:=qNQ;have:=@q4J.eq_1;exact gA
  rw[qbI] at h
  exact h
theorem qBW:okL 106 qeN:=qS (ql qrj) (by kernel_rfl) (by kernel_rfl)
def qyQ:=JA_ @qeN.eq_1 (JA_ @Tryz.f106.eq_1 @qrj)
theorem qxL:lbO 106 1=qik:=Qr (ql qrj) rfl
theorem qw6:okL 106 qik:=zJ qBW (qP9 (i:=0) (by kernel_rfl))
theorem qGF:okL 107 qj1:=qS (ql qxA) (by kernel_rfl) (by kernel_rfl)
def qHv:=JA_ @qj1.eq_1 (JA_ @Tryz.f107.eq_1 @qxA)
def q1l (sub:Int) (rest:Int) (w4:List Int) (w5:List Int) (v:List Bool) (v2:Int):Option (List Int):=if 0≤sub∧sub<((v.length:Nat):Int) then Option.bind v[Int.toNat sub]? fun(a:Bool)=>if a=Bool.true then if 0≤rest∧rest<((w4.length:Nat):Int) then Option.bind w4[Int.toNat rest]? fun(a2:Int)=>if 0≤a2 then if 0≤v2∧v2<((w5.length:Nat):Int) then Option.bind w5[Int.toNat v2]? fun(a3:Int)=>if 0≤rest∧rest<((w4.length:Nat):Int) then Option.bind w4[Int.toNat rest]? fun(a4:Int)=>if 0≤v2∧v2<((w5.length:Nat):Int) then if Int.toNat v2+1≤w5.length then some (List.set w5 (Int.toNat v2) (max a3 (w64 (a4+1)))) else none else none else none else none else some w5 else none else some w5 else none
theorem q9o:∀(sub rest:Int) (w4 w5:List Int) (v:List Bool) (v2:Int) (ZH q7E:Nat),ZH=w4.length→q7E=w5.length→ev 107 4 [rI sub,rI rest,rP 0,rP 1,rP 2,rP 3] [(0,B.blk 115 [dL 1 eB v]),(1,B.blk 164 [dO 4 1 ZH]),(2,B.blk 164 [dO 5 1 q7E]),(3,B.blk 3 [dI v2]),(4,bR 3 1 eI w4),(5,bR 3 1 eI w5)]=(q1l sub rest w4 w5 v v2).bind (fun(e:List Int)=>some (R.tup [],[(0,B.blk 115 [dL 1 eB v]),(1,B.blk 164 [dO 4 1 w4.length]),(2,B.blk 164 [dO 5 1 e.length]),(3,B.blk 3 [dI v2]),(4,bR 3 1 eI w4),(5,bR 3 1 eI e)])):=
 by
 intro sub rest w4 w5 v v2 ZH q7E h0 h1
 subst h0 h1
 rw[qR qxA qCG.2.2.2 qGF]
 have:=qHv;have:=@q1l.eq_1;exact gA
def Qm (w4:List Int) (b0:List Bool) (b3:Int) (set0:Int):(List Int×Int)→Option ((List Int×Int)⊕(List Int))|(w5,sub)=>if 0<sub then Option.bind (q1l sub (ZW Go.BinOp.andNot IntKind.i64 set0 sub) w4 w5 b0 b3) fun(a:List Int)=>some (Sum.inl (a,ZW Go.BinOp.and IntKind.i64 (w64 (sub-1)) set0)) else some (Sum.inr w5)
theorem q4A:∀(w4 w5:List Int) (b0:List Bool) (b3 set0 sub:Int) (ZH q7E:Nat),ZH=w4.length→q7E=w5.length→XL2 evo 106 4 1 ⟨[(1,rI set0),(2,R.c (C.fn 107 [] [dP 0,dP 1,dP 2,dP 3])),(6,rI sub)],[(0,B.blk 115 [dL 1 eB b0]),(1,B.blk 164 [dO 4 1 ZH]),(2,B.blk 164 [dO 5 1 q7E]),(3,B.blk 3 [dI b3]),(4,bR 3 1 eI w4),(5,bR 3 1 eI w5)],6,20⟩=(zl (Qm w4 b0 b3 set0) (w5,sub)).bind (fun(e:List Int)=>some (Exit.exit 0,⟨[],[(0,B.blk 115 [dL 1 eB b0]),(1,B.blk 164 [dO 4 1 w4.length]),(2,B.blk 164 [dO 5 1 e.length]),(3,B.blk 3 [dI b3]),(4,bR 3 1 eI w4),(5,bR 3 1 eI e)],6,20⟩)):=
 by
 intro w4 w5 b0 b3 set0 sub ZH q7E h0 h1
 subst h0 h1
 revert sub;revert w5;exact qak qxL qw6 (fun e=>by exact⟨_,rfl,fun h=>by cases h⟩) fun w5 sub=>by
  have:=qyQ;have:=@qik.eq_1;have:=@q9o;have:=@Qm.eq_1;exact gA
def Qf (set0:Int) (t:List Int) (w5:List Int) (b0:List Bool) (b3:Int):Option (List Int):=Option.bind (zl (Qm t b0 b3 set0) (w5,set0)) fun(a:List Int)=>some a
theorem q2u:∀(set0:Int) (t w5:List Int) (b0:List Bool) (b3:Int) (qt4 q7E:Nat),qt4=t.length→q7E=w5.length→ev 106 4 [rO 4 1 qt4,rI set0,R.c (C.fn 107 [] [dP 0,dP 1,dP 2,dP 3])] [(0,B.blk 115 [dL 1 eB b0]),(1,B.blk 164 [dO 4 1 qt4]),(2,B.blk 164 [dO 5 1 q7E]),(3,B.blk 3 [dI b3]),(4,bR 3 1 eI t),(5,bR 3 1 eI w5)]=(Qf set0 t w5 b0 b3).bind (fun(e:List Int)=>some (R.tup [],[(0,B.blk 115 [dL 1 eB b0]),(1,B.blk 164 [dO 4 1 t.length]),(2,B.blk 164 [dO 5 1 e.length]),(3,B.blk 3 [dI b3]),(4,bR 3 1 eI t),(5,bR 3 1 eI e)])):=
 by
 intro set0 t w5 b0 b3 qt4 q7E h0 h1
 subst h0 h1
 rw[qR qrj qCB.2.2.2 qBW]
 have:=qyQ;have:=@q4A;have:=@Qf.eq_1;exact gA
def Zt (rF:(qb×List qa×Int×qg)→Option (List Bool×List qa×Int×qg)) (w7:List Bool) (w9:List Int) (b0:List qa) (b2:Int) (b3:qg) (b6:qb) (b10:List Bool) (t18:Bool) (t72:List qb) (t73:Int) (t74:Int) (t96:Int):(List Int×Int)→Option ((List Int×Int)⊕(List Int))|(w12,t97)=>if t97<t96 then if 0≤t97∧t97<((w12.length:Nat):Int) then if Int.toNat t97+1≤w12.length then if t18=Bool.true then if 0≤t97∧t97<((w9.length:Nat):Int) then Option.bind w9[Int.toNat t97]? fun(a2:Int)=>if 0≤t97∧t97<((w12.length:Nat):Int) then if Int.toNat t97+1≤w12.length then Option.bind (Qf t97 w9 (List.set (List.set w12 (Int.toNat t97) (-1)) (Int.toNat t97) a2) b10 t97) fun(a3:List Int)=>some (Sum.inl (a3,w64 (t97+1))) else none else none else none else Option.bind (Qf t97 w9 (List.set w12 (Int.toNat t97) (-1)) b10 t97) fun(a4:List Int)=>some (Sum.inl (a4,w64 (t97+1))) else none else none else some (Sum.inr w12)
theorem q8d (rE:Orc) (rF:(qb×List qa×Int×qg)→Option (List Bool×List qa×Int×qg)) (hF:∀y,rE (.fn 104) 6 (zC y).1 (zC y).2=(rF y).bind fun e=>some (Qv e)) (hM:∀g k a G,g≠104→rE (.fn g) k a G=ev g k a G) (hR:∀g asg bd k a G,rE (.rd g asg bd) k a G=evr g asg bd k a G):∀(w7:List Bool) (w9 w12:List Int) (b0:List qa) (b2 QP ZI ZJ Jt qbU q0H:Int) (q0I:List qc) (qbV:List qb) (b10:List Bool) (t18:Bool) (t72:List qb) (t73 t74 t96 t97:Int) (zL JP qja:Nat),zL=w7.length→JP=w9.length→qja=w12.length→XL2 rE 104 6 25 ⟨[(3,rP 2),(5,rP 4),(6,rP 5),(7,rP 6),(9,rO 7 1 zL),(12,rP 8),(17,rP 10),(18,rB t18),(19,rP 11),(72,rL 5 qh t72),(73,rI t73),(74,rI t74),(96,rI t96),(97,rI t97)],[(0,B.blk 26 [dL 8 qe b0]),(1,B.blk 114 [C.fn 59 [] []]),(2,B.blk 3 [dI b2]),(3,B.blk 28 [dI QP,dI ZI,dI ZJ]),(4,B.blk 163 [C.fn 104 [] [dP 0,dP 1,dP 2,dP 3,dP 4,dP 5]]),(5,B.blk 114 [C.fn 60 [] []]),(6,B.blk 36 [dI Jt,dI qbU,dI q0H,dL 2 qd q0I,dL 5 qh qbV]),(7,bR 4 1 eB w7),(8,B.blk 164 [dO 9 1 JP]),(9,bR 3 1 eI w9),(10,B.blk 115 [dL 1 eB b10]),(11,B.blk 164 [dO 12 1 qja]),(12,bR 3 1 eI w12)],13,142⟩=(zl (Zt rF w7 w9 b0 b2 (qg.mk QP ZI ZJ) (qb.mk Jt qbU q0H q0I qbV) b10 t18 t72 t73 t74 t96) (w12,t97)).bind (fun(e:List Int)=>some (Exit.exit 6,⟨[(3,rP 2),(5,rP 4),(6,rP 5),(7,rP 6),(9,rO 7 1 w7.length),(12,rP 8),(19,rP 10),(72,rL 5 qh t72),(73,rI t73),(74,rI t74)],[(0,B.blk 26 [dL 8 qe b0]),(1,B.blk 114 [C.fn 59 [] []]),(2,B.blk 3 [dI b2]),(3,B.blk 28 [dI QP,dI ZI,dI ZJ]),(4,B.blk 163 [C.fn 104 [] [dP 0,dP 1,dP 2,dP 3,dP 4,dP 5]]),(5,B.blk 114 [C.fn 60 [] []]),(6,B.blk 36 [dI Jt,dI qbU,dI q0H,dL 2 qd q0I,dL 5 qh qbV]),(7,bR 4 1 eB w7),(8,B.blk 164 [dO 9 1 w9.length]),(9,bR 3 1 eI w9),(10,B.blk 164 [dO 11 1 e.length]),(11,bR 3 1 eI e)],12,142⟩)):=
 by
 intro w7 w9 w12 b0 b2 QP ZI ZJ Jt qbU q0H q0I qbV b10 t18 t72 t73 t74 t96 t97 zL JP qja h0 h1 h2
 subst h0 h1 h2
 revert t97;revert w12;exact qak qjm qkI (fun e=>by exact⟨_,rfl,fun h=>by cases h⟩) fun w12 t97=>by
  have hF':∀(qE Je qX:Int) (qY:List qc) (Jf:List qb) (v:List qa) (v2 qI z6 z7:Int),rE (.fn 104) 6 [R.agg [dI qE,dI Je,dI qX,dL 2 qd qY,dL 5 qh Jf],rP 0,rP 1,rP 2,rP 3,rP 4,rP 5] [(0,B.blk 26 [dL 8 qe v]),(1,B.blk 114 [C.fn 59 [] []]),(2,B.blk 3 [dI v2]),(3,B.blk 28 [dI qI,dI z6,dI z7]),(4,B.blk 163 [C.fn 104 [] [dP 0,dP 1,dP 2,dP 3,dP 4,dP 5]]),(5,B.blk 114 [C.fn 60 [] []])]=(rF ((qb.mk qE Je qX qY Jf),v,v2,(qg.mk qI z6 z7))).bind (fun e=>some (rL 1 eB e.1,[(0,B.blk 26 [dL 8 qe e.2.1]),(1,B.blk 114 [C.fn 59 [] []]),(2,B.blk 3 [dI e.2.2.1]),(3,B.blk 28 [dI e.2.2.2.Worst,dI e.2.2.2.Best,dI e.2.2.2.Pass]),(4,B.blk 163 [C.fn 104 [] [dP 0,dP 1,dP 2,dP 3,dP 4,dP 5]]),(5,B.blk 114 [C.fn 60 [] []])])):=fun qE Je qX qY Jf v v2 qI z6 z7=>hF ((qb.mk qE Je qX qY Jf),v,v2,(qg.mk qI z6 z7))
  have:=qa5;have:=@qc3.eq_1;have:=@q2u;have:=@Zt.eq_1;exact gA
def Zu (rF:(qb×List qa×Int×qg)→Option (List Bool×List qa×Int×qg)) (w7:List Bool) (b6:qb) (t72:List qb) (t73:Int):(List Int×List qa×Int×qg×Int)→Option ((List Int×List qa×Int×qg×Int)⊕(List Int×List qa×Int×qg))|(w9,b0,b2,b3,t74)=>if t74<t73 then if 0≤t74∧t74<((t72.length:Nat):Int) then Option.bind t72[Int.toNat t74]? fun(a2:qb)=>Option.bind (rF (a2,(b0,(b2,b3)))) fun(a3:Prod (List Bool) (Prod (List qa) (Prod Int qg)))=>if(b6.Kind==4)=Bool.true then if 0≤((w9.length:Nat):Int)∧8*((w9.length:Nat):Int)≤281474976710656∧((w9.length:Nat):Int)≤9223372036854775807 then Option.bind (zl (Zt rF w7 w9 a3.2.1 a3.2.2.1 a3.2.2.2 b6 a3.1 Bool.true t72 t73 t74 ((w9.length:Nat):Int)) (List.replicate w9.length 0,0)) fun(a4:List Int)=>some (Sum.inl (a4,a3.2.1,a3.2.2.1,a3.2.2.2,w64 (t74+1))) else none else if 0≤((w9.length:Nat):Int)∧8*((w9.length:Nat):Int)≤281474976710656∧((w9.length:Nat):Int)≤9223372036854775807 then Option.bind (zl (Zt rF w7 w9 a3.2.1 a3.2.2.1 a3.2.2.2 b6 a3.1 Bool.false t72 t73 t74 ((w9.length:Nat):Int)) (List.replicate w9.length 0,0)) fun(a5:List Int)=>some (Sum.inl (a5,a3.2.1,a3.2.2.1,a3.2.2.2,w64 (t74+1))) else none else none else some (Sum.inr (w9,b0,b2,b3))
theorem q80 (rE:Orc) (rF:(qb×List qa×Int×qg)→Option (List Bool×List qa×Int×qg)) (hF:∀y,rE (.fn 104) 6 (zC y).1 (zC y).2=(rF y).bind fun e=>some (Qv e)) (hM:∀g k a G,g≠104→rE (.fn g) k a G=ev g k a G) (hR:∀g asg bd k a G,rE (.rd g asg bd) k a G=evr g asg bd k a G):∀(w7:List Bool) (w9:List Int) (b0:List qa) (b2 QP ZI ZJ Jt qbU q0H:Int) (q0I:List qc) (qbV t72:List qb) (t73 t74:Int) (zL JP:Nat),zL=w7.length→JP=w9.length→XL2 rE 104 6 18 ⟨[(3,rP 2),(5,rP 4),(6,rP 5),(7,rP 6),(9,rO 7 1 zL),(12,rP 8),(72,rL 5 qh t72),(73,rI t73),(74,rI t74)],[(0,B.blk 26 [dL 8 qe b0]),(1,B.blk 114 [C.fn 59 [] []]),(2,B.blk 3 [dI b2]),(3,B.blk 28 [dI QP,dI ZI,dI ZJ]),(4,B.blk 163 [C.fn 104 [] [dP 0,dP 1,dP 2,dP 3,dP 4,dP 5]]),(5,B.blk 114 [C.fn 60 [] []]),(6,B.blk 36 [dI Jt,dI qbU,dI q0H,dL 2 qd q0I,dL 5 qh qbV]),(7,bR 4 1 eB w7),(8,B.blk 164 [dO 9 1 JP]),(9,bR 3 1 eI w9)],10,142⟩=(zl (Zu rF w7 (qb.mk Jt qbU q0H q0I qbV) t72 t73) (w9,b0,b2,(qg.mk QP ZI ZJ),t74)).bind (fun(e:List Int×List qa×Int×qg)=>some (Exit.exit 4,⟨[(7,rP 6),(9,rO 7 1 w7.length),(12,rP 8)],[(0,B.blk 26 [dL 8 qe e.2.1]),(1,B.blk 114 [C.fn 59 [] []]),(2,B.blk 3 [dI e.2.2.1]),(3,B.blk 28 [dI e.2.2.2.Worst,dI e.2.2.2.Best,dI e.2.2.2.Pass]),(4,B.blk 163 [C.fn 104 [] [dP 0,dP 1,dP 2,dP 3,dP 4,dP 5]]),(5,B.blk 114 [C.fn 60 [] []]),(6,B.blk 36 [dI Jt,dI qbU,dI q0H,dL 2 qd q0I,dL 5 qh qbV]),(7,bR 4 1 eB w7),(8,B.blk 164 [dO 9 1 e.1.length]),(9,bR 3 1 eI e.1)],10,142⟩)):=
 by
 intro w7 w9 b0 b2 QP ZI ZJ Jt qbU q0H q0I qbV t72 t73 t74 zL JP h0 h1
 subst h0 h1
 have h:=q52 (E:=rE) (f:=104) (k:=6) (st:=fun x:List Int×List qa×Int×qg×Int=>(⟨[(3,rP 2),(5,rP 4),(6,rP 5),(7,rP 6),(9,rO 7 1 w7.length),(12,rP 8),(72,rL 5 qh t72),(73,rI t73),(74,rI x.2.2.2.2)],[(0,B.blk 26 [dL 8 qe x.2.1]),(1,B.blk 114 [C.fn 59 [] []]),(2,B.blk 3 [dI x.2.2.1]),(3,B.blk 28 [dI x.2.2.2.1.Worst,dI x.2.2.2.1.Best,dI x.2.2.2.1.Pass]),(4,B.blk 163 [C.fn 104 [] [dP 0,dP 1,dP 2,dP 3,dP 4,dP 5]]),(5,B.blk 114 [C.fn 60 [] []]),(6,B.blk 36 [dI Jt,dI qbU,dI q0H,dL 2 qd q0I,dL 5 qh qbV]),(7,bR 4 1 eB w7),(8,B.blk 164 [dO 9 1 x.1.length]),(9,bR 3 1 eI x.1)],10,142⟩:S)) (ex:=fun(e:List Int×List qa×Int×qg)=>(Exit.exit 4,⟨[(7,rP 6),(9,rO 7 1 w7.length),(12,rP 8)],[(0,B.blk 26 [dL 8 qe e.2.1]),(1,B.blk 114 [C.fn 59 [] []]),(2,B.blk 3 [dI e.2.2.1]),(3,B.blk 28 [dI e.2.2.2.Worst,dI e.2.2.2.Best,dI e.2.2.2.Pass]),(4,B.blk 163 [C.fn 104 [] [dP 0,dP 1,dP 2,dP 3,dP 4,dP 5]]),(5,B.blk 114 [C.fn 60 [] []]),(6,B.blk 36 [dI Jt,dI qbU,dI q0H,dL 2 qd q0I,dL 5 qh qbV]),(7,bR 4 1 eB w7),(8,B.blk 164 [dO 9 1 e.1.length]),(9,bR 3 1 eI e.1)],10,142⟩)) (step:=(Zu rF w7 (qb.mk Jt qbU q0H q0I qbV) t72 t73)) qjE qjH (fun e h=>by cases h) (fun x=>by
  obtain⟨w9,b0,b2,b3,t74⟩:=x;have hF':∀(qE Je qX:Int) (qY:List qc) (Jf:List qb) (v:List qa) (v2 qI z6 z7:Int),rE (.fn 104) 6 [R.agg [dI qE,dI Je,dI qX,dL 2 qd qY,dL 5 qh Jf],rP 0,rP 1,rP 2,rP 3,rP 4,rP 5] [(0,B.blk 26 [dL 8 qe v]),(1,B.blk 114 [C.fn 59 [] []]),(2,B.blk 3 [dI v2]),(3,B.blk 28 [dI qI,dI z6,dI z7]),(4,B.blk 163 [C.fn 104 [] [dP 0,dP 1,dP 2,dP 3,dP 4,dP 5]]),(5,B.blk 114 [C.fn 60 [] []])]=(rF ((qb.mk qE Je qX qY Jf),v,v2,(qg.mk qI z6 z7))).bind (fun e=>some (rL 1 eB e.1,[(0,B.blk 26 [dL 8 qe e.2.1]),(1,B.blk 114 [C.fn 59 [] []]),(2,B.blk 3 [dI e.2.2.1]),(3,B.blk 28 [dI e.2.2.2.Worst,dI e.2.2.2.Best,dI e.2.2.2.Pass]),(4,B.blk 163 [C.fn 104 [] [dP 0,dP 1,dP 2,dP 3,dP 4,dP 5]]),(5,B.blk 114 [C.fn 60 [] []])])):=fun qE Je qX qY Jf v v2 qI z6 z7=>hF ((qb.mk qE Je qX qY Jf),v,v2,(qg.mk qI z6 z7))
  have:=qa5;have:=@qcd.eq_1;have:=@qdj;have:=q8d rE rF hF hM hR;have:=@Zu.eq_1;exact gA) (w9,b0,b2,(qg.mk QP ZI ZJ),t74)
 exact h
def Zs (rF:(qb×List qa×Int×qg)→Option (List Bool×List qa×Int×qg)) (w8:List Int) (b0:List qa) (b2:Int) (b3:qg) (t21:Int):(List Bool×Int)→Option ((List Bool×Int)⊕(List Bool))|(w6,t22)=>if t22<((w6.length:Nat):Int) then if 0≤t22∧t22<((w8.length:Nat):Int) then Option.bind w8[Int.toNat t22]? fun(a2:Int)=>if 0≤t22∧t22<((w6.length:Nat):Int) then if Int.toNat t22+1≤w6.length then some (Sum.inl (List.set w6 (Int.toNat t22) (decide (t21≤a2)),w64 (t22+1))) else none else none else none else some (Sum.inr w6)
theorem q8c (rE:Orc) (rF:(qb×List qa×Int×qg)→Option (List Bool×List qa×Int×qg)) (hF:∀y,rE (.fn 104) 6 (zC y).1 (zC y).2=(rF y).bind fun e=>some (Qv e)) (hM:∀g k a G,g≠104→rE (.fn g) k a G=ev g k a G) (hR:∀g asg bd k a G,rE (.rd g asg bd) k a G=evr g asg bd k a G):∀(w6:List Bool) (w8:List Int) (b0:List qa) (b2 QP ZI ZJ t21 t22:Int) (qdu qdw:Nat),qdu=w6.length→qdw=w8.length→XL2 rE 104 6 38 ⟨[(9,rO 6 1 qdu),(12,rP 7),(21,rI t21),(22,rI t22)],[(0,B.blk 26 [dL 8 qe b0]),(1,B.blk 114 [C.fn 59 [] []]),(2,B.blk 3 [dI b2]),(3,B.blk 28 [dI QP,dI ZI,dI ZJ]),(4,B.blk 163 [C.fn 104 [] [dP 0,dP 1,dP 2,dP 3,dP 4,dP 5]]),(5,B.blk 114 [C.fn 60 [] []]),(6,bR 4 1 eB w6),(7,B.blk 164 [dO 8 1 qdw]),(8,bR 3 1 eI w8)],9,142⟩=(zl (Zs rF w8 b0 b2 (qg.mk QP ZI ZJ) t21) (w6,t22)).bind (fun(e:List Bool)=>some (Exit.exit 8,⟨[(9,rO 6 1 e.length)],[(0,B.blk 26 [dL 8 qe b0]),(1,B.blk 114 [C.fn 59 [] []]),(2,B.blk 3 [dI b2]),(3,B.blk 28 [dI QP,dI ZI,dI ZJ]),(4,B.blk 163 [C.fn 104 [] [dP 0,dP 1,dP 2,dP 3,dP 4,dP 5]]),(5,B.blk 114 [C.fn 60 [] []]),(6,bR 4 1 eB e)],7,142⟩)):=
 by
 intro w6 w8 b0 b2 QP ZI ZJ t21 t22 qdu qdw h0 h1
 subst h0 h1
 revert t22;revert w6;exact qak qkQ qkx (fun e=>by exact⟨_,rfl,fun h=>by cases h⟩) fun w6 t22=>by
  have hF':∀(qE Je qX:Int) (qY:List qc) (Jf:List qb) (v:List qa) (v2 qI z6 z7:Int),rE (.fn 104) 6 [R.agg [dI qE,dI Je,dI qX,dL 2 qd qY,dL 5 qh Jf],rP 0,rP 1,rP 2,rP 3,rP 4,rP 5] [(0,B.blk 26 [dL 8 qe v]),(1,B.blk 114 [C.fn 59 [] []]),(2,B.blk 3 [dI v2]),(3,B.blk 28 [dI qI,dI z6,dI z7]),(4,B.blk 163 [C.fn 104 [] [dP 0,dP 1,dP 2,dP 3,dP 4,dP 5]]),(5,B.blk 114 [C.fn 60 [] []])]=(rF ((qb.mk qE Je qX qY Jf),v,v2,(qg.mk qI z6 z7))).bind (fun e=>some (rL 1 eB e.1,[(0,B.blk 26 [dL 8 qe e.2.1]),(1,B.blk 114 [C.fn 59 [] []]),(2,B.blk 3 [dI e.2.2.1]),(3,B.blk 28 [dI e.2.2.2.Worst,dI e.2.2.2.Best,dI e.2.2.2.Pass]),(4,B.blk 163 [C.fn 104 [] [dP 0,dP 1,dP 2,dP 3,dP 4,dP 5]]),(5,B.blk 114 [C.fn 60 [] []])])):=fun qE Je qX qY Jf v v2 qI z6 z7=>hF ((qb.mk qE Je qX qY Jf),v,v2,(qg.mk qI z6 z7))
  have:=qa5;have:=@qc4.eq_1;have:=@Zs.eq_1;exact gA
def q0Z (rF:(qb×List qa×Int×qg)→Option (List Bool×List qa×Int×qg)):(qb×List qa×Int×qg)→Option (List Bool×List qa×Int×qg)|(x0,v,v2,v3)=>if 0≤((v.length:Nat):Int) then if 0≤w64 (1*2 ^ min v.length (IntKind.bits IntKind.i64))∧1*w64 (1*2 ^ min v.length (IntKind.bits IntKind.i64))≤281474976710656∧w64 (1*2 ^ min v.length (IntKind.bits IntKind.i64))≤9223372036854775807 then if q02 x0=Bool.true then Option.bind (q1c x0.Kind) fun(a2:Sum Unit Unit)=>Sum.elim (fun(a3:Unit)=>Option.bind (zl (Jg rF v v2 v3 x0) (List.replicate (Int.toNat (w64 (1*2 ^ min v.length (IntKind.bits IntKind.i64)))) Bool.false,1)) fun(a5:List Bool)=>some (a5,v,w64 (v2+1),v3)) (fun(a4:Unit)=>Option.bind (zl (Jh rF v v2 v3 x0) (List.replicate (Int.toNat (w64 (1*2 ^ min v.length (IntKind.bits IntKind.i64)))) Bool.false,1)) fun(a6:List Bool)=>some (a6,v,w64 (v2+1),v3)) a2 else if 0≤((Int.toNat (w64 (1*2 ^ min v.length (IntKind.bits IntKind.i64))):Nat):Int)∧8*((Int.toNat (w64 (1*2 ^ min v.length (IntKind.bits IntKind.i64))):Nat):Int)≤281474976710656∧((Int.toNat (w64 (1*2 ^ min v.length (IntKind.bits IntKind.i64))):Nat):Int)≤9223372036854775807 then Option.bind (zl (Zr rF (List.replicate (Int.toNat (w64 (1*2 ^ min v.length (IntKind.bits IntKind.i64)))) Bool.false) v v2 v3 x0) (List.replicate (Int.toNat (w64 (1*2 ^ min v.length (IntKind.bits IntKind.i64)))) 0,1)) fun(a7:List Int)=>Option.bind (zl (Zu rF (List.replicate (Int.toNat (w64 (1*2 ^ min v.length (IntKind.bits IntKind.i64)))) Bool.false) x0 x0.L ((x0.L.length:Nat):Int)) (a7,(v,(v2,(v3,0))))) fun(a8:Prod (List Int) (Prod (List qa) (Prod Int qg)))=>if(x0.Kind==3)=Bool.true then Option.bind (zl (Zs rF a8.1 a8.2.1 a8.2.2.1 a8.2.2.2 ((x0.L.length:Nat):Int)) (List.replicate (Int.toNat (w64 (1*2 ^ min v.length (IntKind.bits IntKind.i64)))) Bool.false,1)) fun(a9:List Bool)=>some (a9,a8.2.1,a8.2.2.1,a8.2.2.2) else Option.bind (zl (Zs rF a8.1 a8.2.1 a8.2.2.1 a8.2.2.2 x0.N) (List.replicate (Int.toNat (w64 (1*2 ^ min v.length (IntKind.bits IntKind.i64)))) Bool.false,1)) fun(a10:List Bool)=>some (a10,a8.2.1,a8.2.2.1,a8.2.2.2) else none else none else none
theorem q6d:q8i 104 6 zC Qv q0Z:=by
 intro rE rF hF hM hR x
 obtain⟨x0,v,v2,v3⟩:=x
 show qaI rE 104 6 [R.agg [dI x0.Kind,dI x0.N,dI x0.Min,dL 2 qd x0.Set,dL 5 qh x0.L],rP 0,rP 1,rP 2,rP 3,rP 4,rP 5] [(0,B.blk 26 [dL 8 qe v]),(1,B.blk 114 [C.fn 59 [] []]),(2,B.blk 3 [dI v2]),(3,B.blk 28 [dI v3.Worst,dI v3.Best,dI v3.Pass]),(4,B.blk 163 [C.fn 104 [] [dP 0,dP 1,dP 2,dP 3,dP 4,dP 5]]),(5,B.blk 114 [C.fn 60 [] []])]=_
 have hF':∀(qE Je qX:Int) (qY:List qc) (Jf:List qb) (v:List qa) (v2 qI z6 z7:Int),rE (.fn 104) 6 [R.agg [dI qE,dI Je,dI qX,dL 2 qd qY,dL 5 qh Jf],rP 0,rP 1,rP 2,rP 3,rP 4,rP 5] [(0,B.blk 26 [dL 8 qe v]),(1,B.blk 114 [C.fn 59 [] []]),(2,B.blk 3 [dI v2]),(3,B.blk 28 [dI qI,dI z6,dI z7]),(4,B.blk 163 [C.fn 104 [] [dP 0,dP 1,dP 2,dP 3,dP 4,dP 5]]),(5,B.blk 114 [C.fn 60 [] []])]=(rF ((qb.mk qE Je qX qY Jf),v,v2,(qg.mk qI z6 z7))).bind (fun e=>some (rL 1 eB e.1,[(0,B.blk 26 [dL 8 qe e.2.1]),(1,B.blk 114 [C.fn 59 [] []]),(2,B.blk 3 [dI e.2.2.1]),(3,B.blk 28 [dI e.2.2.2.Worst,dI e.2.2.2.Best,dI e.2.2.2.Pass]),(4,B.blk 163 [C.fn 104 [] [dP 0,dP 1,dP 2,dP 3,dP 4,dP 5]]),(5,B.blk 114 [C.fn 60 [] []])])):=fun qE Je qX qY Jf v v2 qI z6 z7=>hF ((qb.mk qE Je qX qY Jf),v,v2,(qg.mk qI z6 z7))
 rw[q4N qfw qhh]
 have:=qa5;have:=@q3S;have:=@q56;have:=q78 rE rF hF hM hR;have:=q6U rE rF hF hM hR;have:=q6C rE rF hF hM hR;have:=q80 rE rF hF hM hR;have:=q8c rE rF hF hM hR;have:=@q0Z.eq_1;have:=@Qv.eq_1;exact gA
theorem q3L:∀x y,zC x=zC y→x=y:=by
 rintro⟨⟨qEl,qEm,qEn,qEo,qEp⟩,a1,a2,⟨qOB,qOC,qOD⟩⟩ ⟨⟨qEq,qEr,qEs,qEt,qEu⟩,b1,b2,⟨qOE,qOF,qOG⟩⟩ h
 simp only[zC,Prod.mk.injEq,List.cons.injEq,R.c.injEq,R.agg.injEq,R.tup.injEq,C.d.injEq,C.own.injEq,C.ptr.injEq,C.eptr.injEq,D.int.injEq,D.bool.injEq,D.str.injEq,D.sl.injEq,B.blk.injEq,B.row.injEq,q11,q2P,q1K,q1N,q2h,q2f,q4n,q4m,q4o,q0W,true_and,and_true,qPs] at h
 simp only[h]
theorem q8B:∀x y,Qv x=Qv y→x=y:=by
 rintro⟨a0,a1,a2,⟨qOB,qOC,qOD⟩⟩ ⟨b0,b1,b2,⟨qOE,qOF,qOG⟩⟩ h
 simp only[Qv,Prod.mk.injEq,List.cons.injEq,R.c.injEq,R.agg.injEq,R.tup.injEq,C.d.injEq,C.own.injEq,C.ptr.injEq,C.eptr.injEq,D.int.injEq,D.bool.injEq,D.str.injEq,D.sl.injEq,B.blk.injEq,B.row.injEq,q11,q2P,q1K,q1N,q2h,q2f,q4n,q4m,q4o,q0W,true_and,and_true,qPs] at h
 simp only[h]
def Ql:(qb×List qa×Int×qg)→Option (List Bool×List qa×Int×qg):=q8A 104 6 zC Qv
theorem qbB (x:(qb×List qa×Int×qg)):Ql x=q0Z Ql x:=qdd qnN.2.2.2 q3L q8B q6d x
theorem qaK (x0:qb) (v:List qa) (v2:Int) (v3:qg):ev 104 6 [R.agg [dI x0.Kind,dI x0.N,dI x0.Min,dL 2 qd x0.Set,dL 5 qh x0.L],rP 0,rP 1,rP 2,rP 3,rP 4,rP 5] [(0,B.blk 26 [dL 8 qe v]),(1,B.blk 114 [C.fn 59 [] []]),(2,B.blk 3 [dI v2]),(3,B.blk 28 [dI v3.Worst,dI v3.Best,dI v3.Pass]),(4,B.blk 163 [C.fn 104 [] [dP 0,dP 1,dP 2,dP 3,dP 4,dP 5]]),(5,B.blk 114 [C.fn 60 [] []])]=(Ql (x0,v,v2,v3)).bind (fun(e:List Bool×List qa×Int×qg)=>some (rL 1 eB e.1,[(0,B.blk 26 [dL 8 qe e.2.1]),(1,B.blk 114 [C.fn 59 [] []]),(2,B.blk 3 [dI e.2.2.1]),(3,B.blk 28 [dI e.2.2.2.Worst,dI e.2.2.2.Best,dI e.2.2.2.Pass]),(4,B.blk 163 [C.fn 104 [] [dP 0,dP 1,dP 2,dP 3,dP 4,dP 5]]),(5,B.blk 114 [C.fn 60 [] []])])):=(q9X qnN.2.2.2 q3L q6d (x0,v,v2,v3))
theorem qbQ:∀(qE Je qX:Int) (qY:List qc) (Jf:List qb) (v:List qa) (v2 qI z6 z7:Int),ev 104 6 [R.agg [dI qE,dI Je,dI qX,dL 2 qd qY,dL 5 qh Jf],rP 0,rP 1,rP 2,rP 3,rP 4,rP 5] [(0,B.blk 26 [dL 8 qe v]),(1,B.blk 114 [C.fn 59 [] []]),(2,B.blk 3 [dI v2]),(3,B.blk 28 [dI qI,dI z6,dI z7]),(4,B.blk 163 [C.fn 104 [] [dP 0,dP 1,dP 2,dP 3,dP 4,dP 5]]),(5,B.blk 114 [C.fn 60 [] []])]=(Ql ((qb.mk qE Je qX qY Jf),v,v2,(qg.mk qI z6 z7))).bind (fun(e:List Bool×List qa×Int×qg)=>some (rL 1 eB e.1,[(0,B.blk 26 [dL 8 qe e.2.1]),(1,B.blk 114 [C.fn 59 [] []]),(2,B.blk 3 [dI e.2.2.1]),(3,B.blk 28 [dI e.2.2.2.Worst,dI e.2.2.2.Best,dI e.2.2.2.Pass]),(4,B.blk 163 [C.fn 104 [] [dP 0,dP 1,dP 2,dP 3,dP 4,dP 5]]),(5,B.blk 114 [C.fn 60 [] []])])):=
 fun qE Je qX qY Jf v v2 qI z6 z7=>qaK (qb.mk qE Je qX qY Jf) v v2 (qg.mk qI z6 z7)
def q5V (n:qb) (s:qg) (l:List qa):Option (List Bool):=Option.bind (Ql (n,(l,(0,s)))) fun(a:Prod (List Bool) (Prod (List qa) (Prod Int qg)))=>some a.1
theorem qdJ:∀(qB n_N qN:Int) (qO:List qc) (n_L:List qb) (zm zZ Q0:Int) (l:List qa),ev 61 0 [R.agg [dI qB,dI n_N,dI qN,dL 2 qd qO,dL 5 qh n_L],R.agg [dI zm,dI zZ,dI Q0],rL 8 qe l,R.c (C.fn 59 [] []),R.c (C.fn 60 [] [])] []=(q5V (qb.mk qB n_N qN qO n_L) (qg.mk zm zZ Q0) l).bind (fun(e:List Bool)=>some (rL 1 eB e,[])):=
 fun qB n_N qN qO n_L zm zZ Q0 l=>by
  rw[qR qF2 qHC.2.2.2 qJB]
  have:=qK0;have:=@qbQ;have:=@q5V.eq_1;exact gA
def q2Y (n:qb) (s:qg) (l:List qa):Option (List Bool×Int):=Option.bind (JF n) fun(a:Int)=>if(a != 0)=Bool.true then some ([],a) else if 10<((l.length:Nat):Int) then some ([],2) else Option.bind (q5V n s l) fun(a2:List Bool)=>some (a2,0)
theorem qa4:∀(qB n_N qN:Int) (qO:List qc) (n_L:List qb) (zm zZ Q0:Int) (l:List qa),ev 35 0 [R.agg [dI qB,dI n_N,dI qN,dL 2 qd qO,dL 5 qh n_L],R.agg [dI zm,dI zZ,dI Q0],rL 8 qe l] []=(q2Y (qb.mk qB n_N qN qO n_L) (qg.mk zm zZ Q0) l).bind (fun(e:List Bool×Int)=>some (R.tup [rL 1 eB e.1,rI e.2],[])):=
 fun qB n_N qN qO n_L zm zZ Q0 l=>by
  rw[qR qFt qK9.2.2.2 qM0]
  have:=qNW;have:=@q4p;have:=@qdJ;have:=@q2Y.eq_1;exact gA
theorem qMz:okL 36 qnS:=qS (ql qH9) (by kernel_rfl) (by kernel_rfl)
def qMV:=JA_ @qnS.eq_1 (JA_ @Tryz.f36.eq_1 @qH9)
def q3k (n:Int):Option Unit:=
 some ()
def q6p (n:Int):Unit:=
 ()
theorem q9G (n:Int):q3k n=some (q6p n):=by
 unfold q3k q6p
 simp only[Zn]
theorem qax:∀(n:Int),ev 36 0 [rI n] []=some (R.c (C.fn 62 [] [dP 0]),[(0,B.blk 3 [dI n])]):=
 fun n=>by
  have h:ev 36 0 [rI n] []=(q3k n).bind (fun(e:Unit)=>some (R.c (C.fn 62 [] [dP 0]),[(0,B.blk 3 [dI n])])):=by
   rw[qR qH9 qKn.2.2.2 qMz]
   have:=qMV;have:=@q3k.eq_1;exact gA
  rw[q9G] at h
  exact h
theorem qFy:okL 62 qg7:=qS (ql qza) (by kernel_rfl) (by kernel_rfl)
def qGk:=JA_ @qg7.eq_1 (JA_ @Tryz.f62.eq_1 @qza)
theorem qz7:lbO 62 2=qpQ:=Qr (ql qza) rfl
theorem qDv:okL 62 qpQ:=zJ qFy (qP9 (i:=0) (by kernel_rfl))
theorem qzp:lbO 62 8=qny:=Qr (ql qza) rfl
theorem qCl:okL 62 qny:=zJ qFy (qP9 (i:=1) (by kernel_rfl))
def QZ (b1:qf) (b2:qg) (b3:Int) (b5:Int) (b6:List Int) (b7:List qa) (b8:List Bool) (b9:Int) (t8:Int):(List Int×Int)→Option ((List Int×Int)⊕(List Int))|(all,t9)=>if t9<t8 then if all.length+1≤maxLen∧(all.length+1)*8≤140737488355328 then some (Sum.inl (all++[t9],w64 (t9+1))) else none else some (Sum.inr all)
theorem q6H:∀(all:List Int) (zW q1s zD Z1:Int) (Z2:ByteArray) (qW zX zg:Int) (zh:List qc) (zY:List qb) (Qn Jc Jd:Int) (zE:List (JS qc)) (ZA JD JE b3 b5:Int) (b6:List Int) (b7:List qa) (b8:List Bool) (b9 t8 t9:Int) (qjb:Nat),qjb=all.length→XL2 evo 62 10 2 ⟨[(0,R.c (C.hd .yield 0)),(3,rO 10 1 qjb),(8,rI t8),(9,rI t9)],[(0,B.ob (AO.lp 15 (R.any::R.any::R.any::R.any::rP 1::rP 2::R.any::rP 3::rP 4::rP 5::R.any::rP 6::R.any::R.any::rP 7::rP 8::qlE) [67] (raO 15 19) (rbO 15 19) LoopState.ready none)),(1,B.blk 39 [dI zW,dI q1s,dI zD,dI Z1,dS Z2,dI qW,dI zX,dI zg,dL 2 qd zh,dL 5 qh zY,dI Qn,dI Jc,dI Jd,dL 4 (eA2 qd) zE]),(2,B.blk 28 [dI ZA,dI JD,dI JE]),(3,B.blk 3 [dI b3]),(4,B.blk 48 [C.nils,C.nils]),(5,B.blk 49 [dI b5]),(6,B.blk 22 [dL 1 eI b6]),(7,B.blk 26 [dL 8 qe b7]),(8,B.blk 88 [dL 1 eB b8]),(9,B.blk 3 [dI b9]),(10,bR 3 1 eI all)],11,30⟩=(zl (QZ (qf.mk zW q1s zD Z1 Z2 (qb.mk qW zX zg zh zY) Qn Jc Jd zE) (qg.mk ZA JD JE) b3 b5 b6 b7 b8 b9 t8) (all,t9)).bind (fun(e:List Int)=>some (Exit.exit 0,⟨[(0,R.c (C.hd .yield 0)),(3,rO 10 1 e.length)],[(0,B.ob (AO.lp 15 (R.any::R.any::R.any::R.any::rP 1::rP 2::R.any::rP 3::rP 4::rP 5::R.any::rP 6::R.any::R.any::rP 7::rP 8::qlE) [67] (raO 15 19) (rbO 15 19) LoopState.ready none)),(1,B.blk 39 [dI zW,dI q1s,dI zD,dI Z1,dS Z2,dI qW,dI zX,dI zg,dL 2 qd zh,dL 5 qh zY,dI Qn,dI Jc,dI Jd,dL 4 (eA2 qd) zE]),(2,B.blk 28 [dI ZA,dI JD,dI JE]),(3,B.blk 3 [dI b3]),(4,B.blk 48 [C.nils,C.nils]),(5,B.blk 49 [dI b5]),(6,B.blk 22 [dL 1 eI b6]),(7,B.blk 26 [dL 8 qe b7]),(8,B.blk 88 [dL 1 eB b8]),(9,B.blk 3 [dI b9]),(10,bR 3 1 eI e)],11,30⟩)):=
 by
 intro all zW q1s zD Z1 Z2 qW zX zg zh zY Qn Jc Jd zE ZA JD JE b3 b5 b6 b7 b8 b9 t8 t9 qjb h0
 subst h0
 revert t9;revert all;exact qak qz7 qDv (fun e=>by exact⟨_,rfl,fun h=>by cases h⟩) fun all t9=>by
  have:=qGk;have:=@qpQ.eq_1;have:=@QZ.eq_1;exact gA
theorem q4X:∀  (zW q1s zD Z1:Int) (Z2:ByteArray) (qW zX zg:Int) (zh:List qc) (zY:List qb) (Qn Jc Jd:Int) (zE:List (JS qc)) (ZA JD JE b3 b5:Int) (b6:List Int) (b7:List qa) (b8:List Bool) (b9 t8 t9:Int),XL2 evo 62 10 2 ⟨[(0,R.c (C.hd .yield 0)),(3,rO 10 1 0),(8,rI t8),(9,rI t9)],[(0,B.ob (AO.lp 15 (R.any::R.any::R.any::R.any::rP 1::rP 2::R.any::rP 3::rP 4::rP 5::R.any::rP 6::R.any::R.any::rP 7::rP 8::qlE) [67] (raO 15 19) (rbO 15 19) LoopState.ready none)),(1,B.blk 39 [dI zW,dI q1s,dI zD,dI Z1,dS Z2,dI qW,dI zX,dI zg,dL 2 qd zh,dL 5 qh zY,dI Qn,dI Jc,dI Jd,dL 4 (eA2 qd) zE]),(2,B.blk 28 [dI ZA,dI JD,dI JE]),(3,B.blk 3 [dI b3]),(4,B.blk 48 [C.nils,C.nils]),(5,B.blk 49 [dI b5]),(6,B.blk 22 [dL 1 eI b6]),(7,B.blk 26 [dL 8 qe b7]),(8,B.blk 88 [dL 1 eB b8]),(9,B.blk 3 [dI b9]),(10,B.row 3 1 [])],11,30⟩=(zl (QZ (qf.mk zW q1s zD Z1 Z2 (qb.mk qW zX zg zh zY) Qn Jc Jd zE) (qg.mk ZA JD JE) b3 b5 b6 b7 b8 b9 t8) ([],t9)).bind (fun(e:List Int)=>some (Exit.exit 0,⟨[(0,R.c (C.hd .yield 0)),(3,rO 10 1 e.length)],[(0,B.ob (AO.lp 15 (R.any::R.any::R.any::R.any::rP 1::rP 2::R.any::rP 3::rP 4::rP 5::R.any::rP 6::R.any::R.any::rP 7::rP 8::qlE) [67] (raO 15 19) (rbO 15 19) LoopState.ready none)),(1,B.blk 39 [dI zW,dI q1s,dI zD,dI Z1,dS Z2,dI qW,dI zX,dI zg,dL 2 qd zh,dL 5 qh zY,dI Qn,dI Jc,dI Jd,dL 4 (eA2 qd) zE]),(2,B.blk 28 [dI ZA,dI JD,dI JE]),(3,B.blk 3 [dI b3]),(4,B.blk 48 [C.nils,C.nils]),(5,B.blk 49 [dI b5]),(6,B.blk 22 [dL 1 eI b6]),(7,B.blk 26 [dL 8 qe b7]),(8,B.blk 88 [dL 1 eB b8]),(9,B.blk 3 [dI b9]),(10,bR 3 1 eI e)],11,30⟩)):=by
 intro zW q1s zD Z1 Z2 qW zX zg zh zY Qn Jc Jd zE ZA JD JE b3 b5 b6 b7 b8 b9 t8 t9;have h:=q6H [] ((qf.mk zW q1s zD Z1 Z2 (qb.mk qW zX zg zh zY) Qn Jc Jd zE)).School ((qf.mk zW q1s zD Z1 Z2 (qb.mk qW zX zg zh zY) Qn Jc Jd zE)).Id ((qf.mk zW q1s zD Z1 Z2 (qb.mk qW zX zg zh zY) Qn Jc Jd zE)).Version ((qf.mk zW q1s zD Z1 Z2 (qb.mk qW zX zg zh zY) Qn Jc Jd zE)).From ((qf.mk zW q1s zD Z1 Z2 (qb.mk qW zX zg zh zY) Qn Jc Jd zE)).Name ((qf.mk zW q1s zD Z1 Z2 (qb.mk qW zX zg zh zY) Qn Jc Jd zE)).Need.Kind ((qf.mk zW q1s zD Z1 Z2 (qb.mk qW zX zg zh zY) Qn Jc Jd zE)).Need.N ((qf.mk zW q1s zD Z1 Z2 (qb.mk qW zX zg zh zY) Qn Jc Jd zE)).Need.Min ((qf.mk zW q1s zD Z1 Z2 (qb.mk qW zX zg zh zY) Qn Jc Jd zE)).Need.Set ((qf.mk zW q1s zD Z1 Z2 (qb.mk qW zX zg zh zY) Qn Jc Jd zE)).Need.L ((qf.mk zW q1s zD Z1 Z2 (qb.mk qW zX zg zh zY) Qn Jc Jd zE)).Total ((qf.mk zW q1s zD Z1 Z2 (qb.mk qW zX zg zh zY) Qn Jc Jd zE)).Own ((qf.mk zW q1s zD Z1 Z2 (qb.mk qW zX zg zh zY) Qn Jc Jd zE)).Age ((qf.mk zW q1s zD Z1 Z2 (qb.mk qW zX zg zh zY) Qn Jc Jd zE)).Exclude ((qg.mk ZA JD JE)).Worst ((qg.mk ZA JD JE)).Best ((qg.mk ZA JD JE)).Pass b3 b5 b6 b7 b8 b9 t8 t9 _ rfl
 first
  | exact h
  | (simp only[rL,dL,bR,bZ,Nat.reduceAdd] at h;exact h)
theorem qNa:okL 64 qnh:=qS (ql qHu) (by kernel_rfl) (by kernel_rfl)
def qLo:=JA_ @qnh.eq_1 (JA_ @Tryz.f64.eq_1 @qHu)
theorem qNt:okL 67 qmx:=qS (ql qIw) (by kernel_rfl) (by kernel_rfl)
def qO3:=JA_ @qmx.eq_1 (JA_ @Tryz.f67.eq_1 @qIw)
theorem qHp:okL 112 qir:=qS (ql quW) (by kernel_rfl) (by kernel_rfl)
def qI3:=JA_ @qir.eq_1 (JA_ @Tryz.f112.eq_1 @quW)
def JB (x:Int):Option Int:=
 some (let y1:=ZW Go.BinOp.and IntKind.u64 (Int.fdiv x (2 ^ min 1 (IntKind.bits IntKind.u64))) 6148914691236517205+ZW Go.BinOp.and IntKind.u64 x 6148914691236517205;let y2:=Int.fdiv (IntKind.wrap IntKind.u64 y1) (2 ^ min 2 (IntKind.bits IntKind.u64));let y3:=ZW Go.BinOp.and IntKind.u64 y2 3689348814741910323+ZW Go.BinOp.and IntKind.u64 (IntKind.wrap IntKind.u64 y1) 3689348814741910323;let y4:=Int.fdiv (IntKind.wrap IntKind.u64 y3) (2 ^ min 4 (IntKind.bits IntKind.u64))+IntKind.wrap IntKind.u64 y3;let y5:=ZW Go.BinOp.and IntKind.u64 (IntKind.wrap IntKind.u64 y4) 1085102592571150095;let y6:=ZW Go.BinOp.and IntKind.u64 (IntKind.wrap IntKind.u64 y4) 1085102592571150095+Int.fdiv y5 (2 ^ min 8 (IntKind.bits IntKind.u64));let y7:=IntKind.wrap IntKind.u64 y6+Int.fdiv (IntKind.wrap IntKind.u64 y6) (2 ^ min 16 (IntKind.bits IntKind.u64));ZW Go.BinOp.and IntKind.i64 (w64 (IntKind.wrap IntKind.u64 (IntKind.wrap IntKind.u64 y7+Int.fdiv (IntKind.wrap IntKind.u64 y7) (2 ^ min 32 (IntKind.bits IntKind.u64))))) 127)
def Zi (x:Int):Int:=
 let y1:=ZW Go.BinOp.and IntKind.u64 (Int.fdiv x (2 ^ min 1 (IntKind.bits IntKind.u64))) 6148914691236517205+ZW Go.BinOp.and IntKind.u64 x 6148914691236517205;let y2:=Int.fdiv (IntKind.wrap IntKind.u64 y1) (2 ^ min 2 (IntKind.bits IntKind.u64));let y3:=ZW Go.BinOp.and IntKind.u64 y2 3689348814741910323+ZW Go.BinOp.and IntKind.u64 (IntKind.wrap IntKind.u64 y1) 3689348814741910323;let y4:=Int.fdiv (IntKind.wrap IntKind.u64 y3) (2 ^ min 4 (IntKind.bits IntKind.u64))+IntKind.wrap IntKind.u64 y3;let y5:=ZW Go.BinOp.and IntKind.u64 (IntKind.wrap IntKind.u64 y4) 1085102592571150095;let y6:=ZW Go.BinOp.and IntKind.u64 (IntKind.wrap IntKind.u64 y4) 1085102592571150095+Int.fdiv y5 (2 ^ min 8 (IntKind.bits IntKind.u64));let y7:=IntKind.wrap IntKind.u64 y6+Int.fdiv (IntKind.wrap IntKind.u64 y6) (2 ^ min 16 (IntKind.bits IntKind.u64));ZW Go.BinOp.and IntKind.i64 (w64 (IntKind.wrap IntKind.u64 (IntKind.wrap IntKind.u64 y7+Int.fdiv (IntKind.wrap IntKind.u64 y7) (2 ^ min 32 (IntKind.bits IntKind.u64))))) 127
theorem q4t (x:Int):JB x=some (Zi x):=by
 unfold JB Zi
 simp only[Zn]
theorem q4B:∀(x:Int),ev 112 0 [R.c (C.d (D.int .u64 x))] []=some (rI (Zi x),[]):=
 fun x=>by
  have h:ev 112 0 [R.c (C.d (D.int .u64 x))] []=(JB x).bind (fun(e:Int)=>some (rI e,[])):=by
   rw[qR quW qAW.2.2.2 qHp]
   have:=qI3;have:=@JB.eq_1;exact gA
  rw[q4t] at h
  exact h
def q00 (x:Int):Option Int:=
 some (Zi x)
def QB (x:Int):Int:=
 Zi x
theorem q4Y (x:Int):q00 x=some (QB x):=by
 unfold q00 QB
 simp only[Zn]
theorem q5r:∀(x:Int),ev 67 0 [R.c (C.d (D.int .u64 x))] []=some (rI (QB x),[]):=
 fun x=>by
  have h:ev 67 0 [R.c (C.d (D.int .u64 x))] []=(q00 x).bind (fun(e:Int)=>some (rI e,[])):=by
   rw[qR qIw qKM.2.2.2 qNt]
   have:=qO3;have:=@q4B;have:=@q00.eq_1;exact gA
  rw[q4Y] at h
  exact h
theorem qJu:okL 37 qkj:=qS (ql qEz) (by kernel_rfl) (by kernel_rfl)
def qJN:=JA_ @qkj.eq_1 (JA_ @Tryz.f37.eq_1 @qEz)
theorem qB8:lbO 37 2=qnu:=Qr (ql qEz) rfl
theorem qBl:okL 37 qnu:=zJ qJu (qP9 (i:=0) (by kernel_rfl))
def QC (mask:Int):(List Int×Int)→Option ((List Int×Int)⊕(List Int))|(l,k)=>if 0≤k then if 0<Int.fdiv mask (2 ^ min (Int.toNat k) (IntKind.bits IntKind.i64)) then if 0≤k then if(ZW Go.BinOp.and IntKind.i64 (Int.fdiv mask (2 ^ min (Int.toNat k) (IntKind.bits IntKind.i64))) 1==1)=Bool.true then if l.length+1≤maxLen∧(l.length+1)*8≤140737488355328 then some (Sum.inl (l++[k],w64 (k+1))) else none else some (Sum.inl (l,w64 (k+1))) else none else some (Sum.inr l) else none
theorem q6y:∀(l:List Int) (mask k:Int) (qjc:Nat),qjc=l.length→XL2 evo 37 0 2 ⟨[(0,rI mask),(2,rO 0 1 qjc),(3,rI k)],[(0,bR 3 1 eI l)],1,20⟩=(zl (QC mask) (l,k)).bind (fun(e:List Int)=>some (Exit.exit 0,⟨[(2,rO 0 1 e.length)],[(0,bR 3 1 eI e)],1,20⟩)):=
 by
 intro l mask k qjc h0
 subst h0
 revert k;revert l;exact qak qB8 qBl (fun e=>by exact⟨_,rfl,fun h=>by cases h⟩) fun l k=>by
  have:=qJN;have:=@qnu.eq_1;have:=@QC.eq_1;exact gA
theorem q4U:∀  (mask k:Int),XL2 evo 37 0 2 ⟨[(0,rI mask),(2,rO 0 1 0),(3,rI k)],[(0,B.row 3 1 [])],1,20⟩=(zl (QC mask) ([],k)).bind (fun(e:List Int)=>some (Exit.exit 0,⟨[(2,rO 0 1 e.length)],[(0,bR 3 1 eI e)],1,20⟩)):=by
 intro mask k;have h:=q6y [] mask k _ rfl
 first
  | exact h
  | (simp only[rL,dL,bR,bZ,Nat.reduceAdd] at h;exact h)
def ZT (mask:Int):Option (List Int):=Option.bind (zl (QC mask) ([],0)) fun(a:List Int)=>some a
theorem q2e:∀(mask:Int),ev 37 0 [rI mask] []=(ZT mask).bind (fun(e:List Int)=>some (rL 1 eI e,[])):=
 fun mask=>by
  rw[qR qEz qJ7.2.2.2 qJu]
  have:=qJN;have:=@q4U;have:=@ZT.eq_1;exact gA
theorem qJY:okL 68 qkG:=qS (ql qF8) (by kernel_rfl) (by kernel_rfl)
def qK6:=JA_ @qkG.eq_1 (JA_ @Tryz.f68.eq_1 @qF8)
theorem qCo:lbO 68 2=qp8:=Qr (ql qF8) rfl
theorem qDB:okL 68 qp8:=zJ qJY (qP9 (i:=0) (by kernel_rfl))
def zT (s1:List Int) (s2:List Int) (t9:List Int) (t10:Int):Int→Option (Int⊕(Int⊕Unit))|t11=>if t11<t10 then if 0≤t11∧t11<((t9.length:Nat):Int) then Option.bind t9[Int.toNat t11]? fun(a:Int)=>if((s2.length:Nat):Int)≤t11 then some (Sum.inr (Sum.inl 1)) else if 0≤t11∧t11<((s2.length:Nat):Int) then Option.bind s2[Int.toNat t11]? fun(a2:Int)=>if(Qa a a2 != 0)=Bool.true then some (Sum.inr (Sum.inl (Qa a a2))) else some (Sum.inl (w64 (t11+1))) else none else none else some (Sum.inr (Sum.inr ()))
theorem q3p:∀(s1 s2 t9:List Int) (t10 t11:Int),XL2 evo 68 0 2 ⟨[(0,rL 1 eI s1),(1,rL 1 eI s2),(9,rL 1 eI t9),(10,rI t10),(11,rI t11)],[],0,36⟩=(zl (zT s1 s2 t9 t10) t11).bind (Sum.elim (fun(e:Int)=>some (Exit.ret,⟨[(0,rL 1 eI s1),(1,rL 1 eI s2),(4,rI e)],[],0,36⟩)) (fun(e:Unit)=>some (Exit.exit 0,⟨[(0,rL 1 eI s1),(1,rL 1 eI s2),(4,R.any)],[],0,36⟩))):=
 fun s1 s2 t9 t10 t11=>by
  revert t11;exact qa6 qCo qDB (fun e=>by rcases e with _|_<;>exact⟨_,rfl,fun h=>by cases h⟩) fun x=>by
   have:=qK6;have:=@qp8.eq_1;have:=@q1J;have:=@zT.eq_1;exact gA
def QR (s1:List Int) (s2:List Int):Option Int:=Option.bind (zl (zT s1 s2 s1 ((s1.length:Nat):Int)) 0) fun(a:Sum Int Unit)=>Sum.elim (fun(a2:Int)=>some a2) (fun(a3:Unit)=>if((s1.length:Nat):Int)<((s2.length:Nat):Int) then some (-1) else some 0) a
theorem q1q:∀(s1 s2:List Int),ev 68 0 [rL 1 eI s1,rL 1 eI s2] []=(QR s1 s2).bind (fun(e:Int)=>some (rI e,[])):=
 fun s1 s2=>by
  rw[qR qF8 qKz.2.2.2 qJY]
  have:=qK6;have:=@q3p;have:=@QR.eq_1;exact gA
def Qx (a:Int) (b:Int):Option Int:=Option.bind (ZT a) fun(a2:List Int)=>Option.bind (ZT b) fun(a3:List Int)=>Option.bind (QR a2 a3) fun(a4:Int)=>Option.bind (q19 [Qa (QB (IntKind.wrap IntKind.u64 a)) (QB (IntKind.wrap IntKind.u64 b)),a4]) fun(e0:Int)=>some e0
theorem q7d:∀(a b:Int),ev 64 0 [rI a,rI b] []=(Qx a b).bind (fun(e:Int)=>some (rI e,[])):=
 fun a b=>by
  rw[qR qHu qKL.2.2.2 qNa]
  have:=qLo;have:=@q5r;have:=@q1J;have:=@q2e;have:=@q1q;have:=@q4K;have:=@Qx.eq_1;exact gA
theorem qGB:okL 38 qgT:=qS (ql qBw) (by kernel_rfl) (by kernel_rfl)
def qHD:=JA_ @qgT.eq_1 (JA_ @Tryz.f38.eq_1 @qBw)
theorem qAX:lbO 38 3=qps:=Qr (ql qBw) rfl
theorem qzP:okL 38 qps:=zJ qGB (qP9 (i:=0) (by kernel_rfl))
theorem qCP:lbO 38 8=qnv:=Qr (ql qBw) rfl
theorem qC0:okL 38 qnv:=zJ qGB (qP9 (i:=1) (by kernel_rfl))
theorem qKX:okL 69 qp9:=qS (ql qHW) (by kernel_rfl) (by kernel_rfl)
def qO9:=JA_ @qp9.eq_1 (JA_ @Tryz.f69.eq_1 @qHW)
theorem qIY:okL 91 qko:=qS (ql qEI) (by kernel_rfl) (by kernel_rfl)
def qKK:=JA_ @qko.eq_1 (JA_ @Tryz.f91.eq_1 @qEI)
theorem qDh:lbO 91 4=qoK:=Qr (ql qEI) rfl
theorem qCa:okL 91 qoK:=zJ qIY (qP9 (i:=0) (by kernel_rfl))
def Qp (s1:List Int) (s2:List Int) (t12:Int):Int→Option (Int⊕(Unit⊕Unit))|t13=>if t13<t12 then if 0≤t13∧t13<((s1.length:Nat):Int) then Option.bind s1[Int.toNat t13]? fun(a:Int)=>if 0≤t13∧t13<((s2.length:Nat):Int) then Option.bind s2[Int.toNat t13]? fun(a2:Int)=>if(a != a2)=Bool.true then some (Sum.inr (Sum.inl ())) else some (Sum.inl (w64 (t13+1))) else none else none else some (Sum.inr (Sum.inr ()))
theorem q3T:∀(s1 s2:List Int) (t12 t13:Int),XL2 evo 91 0 4 ⟨[(0,rL 1 eI s1),(1,rL 1 eI s2),(12,rI t12),(13,rI t13)],[],0,26⟩=(zl (Qp s1 s2 t12) t13).bind (Sum.elim (fun(e:Unit)=>some (Exit.ret,⟨[(4,rB Bool.false)],[],0,26⟩)) (fun(e:Unit)=>some (Exit.exit 0,⟨[(4,R.any)],[],0,26⟩))):=
 fun s1 s2 t12 t13=>by
  revert t13;exact qa6 qDh qCa (fun e=>by rcases e with _|_<;>exact⟨_,rfl,fun h=>by cases h⟩) fun x=>by
   have:=qKK;have:=@qoK.eq_1;have:=@Qp.eq_1;exact gA
def Zd (s1:List Int) (s2:List Int):Option Bool:=if(((s1.length:Nat):Int) != ((s2.length:Nat):Int))=Bool.true then some Bool.false else Option.bind (zl (Qp s1 s2 ((s1.length:Nat):Int)) 0) fun(a:Sum Unit Unit)=>Sum.elim (fun(a2:Unit)=>some Bool.false) (fun(a3:Unit)=>some Bool.true) a
theorem q1U:∀(s1 s2:List Int),ev 91 0 [rL 1 eI s1,rL 1 eI s2] []=(Zd s1 s2).bind (fun(e:Bool)=>some (rB e,[])):=
 fun s1 s2=>by
  rw[qR qEI qJR.2.2.2 qIY]
  have:=qKK;have:=@q3T;have:=@Zd.eq_1;exact gA
theorem qHT:okL 113 qj5:=qS (ql qy6) (by kernel_rfl) (by kernel_rfl)
def qIP:=JA_ @qj5.eq_1 (JA_ @Tryz.f113.eq_1 @qy6)
theorem qFX:okL 83 qnY:=qS (ql qzW) (by kernel_rfl) (by kernel_rfl)
def qFA:=JA_ @qnY.eq_1 (JA_ @Tryz.f83.eq_1 @qzW)
theorem qso:okL 131 qf0:=qS (ql qlJ) (by kernel_rfl) (by kernel_rfl)
def qlv:=JA_ @qf0.eq_1 (JA_ @Tryz.f131.eq_1 @qlJ)
theorem qiz:lbO 131 2=qcr:=Qr (ql qlJ) rfl
theorem qhB:okL 131 qcr:=zJ qso (qP9 (i:=0) (by kernel_rfl))
theorem qGp:okL 156 qiv:=qS (ql qxk) (by kernel_rfl) (by kernel_rfl)
def qHA:=JA_ @qiv.eq_1 (JA_ @Tryz.f156.eq_1 @qxk)
theorem qGa:okL 157 qic:=qS (ql qwC) (by kernel_rfl) (by kernel_rfl)
def qGr:=JA_ @qic.eq_1 (JA_ @Tryz.f157.eq_1 @qwC)
theorem qCt:okL 177 qfM:=qS (ql qrh) (by kernel_rfl) (by kernel_rfl)
def qzx:=JA_ @qfM.eq_1 (JA_ @Tryz.f177.eq_1 @qrh)
theorem qyj:lbO 177 2=qiV:=Qr (ql qrh) rfl
theorem qux:okL 177 qiV:=zJ qCt (qP9 (i:=0) (by kernel_rfl))
def QH (s:List Int) (v:Int) (t7:Int):Int→Option (Int⊕(Int⊕Unit))|t8=>if t8<t7 then if 0≤t8∧t8<((s.length:Nat):Int) then Option.bind s[Int.toNat t8]? fun(a:Int)=>if(v==a)=Bool.true then some (Sum.inr (Sum.inl t8)) else some (Sum.inl (w64 (t8+1))) else none else some (Sum.inr (Sum.inr ()))
theorem q3Z:∀(s:List Int) (v t7 t8:Int),XL2 evo 177 0 2 ⟨[(0,rL 1 eI s),(1,rI v),(7,rI t7),(8,rI t8)],[],0,19⟩=(zl (QH s v t7) t8).bind (Sum.elim (fun(e:Int)=>some (Exit.ret,⟨[(4,rI e)],[],0,19⟩)) (fun(e:Unit)=>some (Exit.exit 0,⟨[(4,R.any)],[],0,19⟩))):=
 fun s v t7 t8=>by
  revert t8;exact qa6 qyj qux (fun e=>by rcases e with _|_<;>exact⟨_,rfl,fun h=>by cases h⟩) fun x=>by
   have:=qzx;have:=@qiV.eq_1;have:=@QH.eq_1;exact gA
def JQ (s:List Int) (v:Int):Option Int:=Option.bind (zl (QH s v ((s.length:Nat):Int)) 0) fun(a:Sum Int Unit)=>Sum.elim (fun(a2:Int)=>some a2) (fun(a3:Unit)=>some (-1)) a
theorem q50:∀(s:List Int) (v:Int),ev 177 0 [rL 1 eI s,rI v] []=(JQ s v).bind (fun(e:Int)=>some (rI e,[])):=
 fun s v=>by
  rw[qR qrh qB7.2.2.2 qCt]
  have:=qzx;have:=@q3Z;have:=@JQ.eq_1;exact gA
def Zj (s:List Int) (v:Int):Option Bool:=Option.bind (JQ s v) fun(a:Int)=>some (decide (0≤a))
theorem q3U:∀(s:List Int) (v:Int),ev 157 0 [rL 1 eI s,rI v] []=(Zj s v).bind (fun(e:Bool)=>some (rB e,[])):=
 fun s v=>by
  rw[qR qwC qBX.2.2.2 qGa]
  have:=qGr;have:=@q50;have:=@Zj.eq_1;exact gA
def q0T (x:Int) (v:List Int):Option Bool:=Option.bind (Zj v x) fun(a:Bool)=>some a
theorem q7g:∀(x:Int) (v:List Int),ev 156 1 [rI x,rP 0] [(0,B.blk 22 [dL 1 eI v])]=(q0T x v).bind (fun(e:Bool)=>some (rB e,[(0,B.blk 22 [dL 1 eI v])])):=
 fun x v=>by
  rw[qR qxk qBm.2.2.2 qGp]
  have:=qHA;have:=@q3U;have:=@q0T.eq_1;exact gA
def Qj (b0:List Int) (s:List Int) (t7:Int):Int→Option (Int⊕(Int⊕Unit))|t8=>if t8<t7 then if 0≤t8∧t8<((s.length:Nat):Int) then Option.bind s[Int.toNat t8]? fun(a:Int)=>Option.bind (q0T a b0) fun(a2:Bool)=>if a2=Bool.true then some (Sum.inr (Sum.inl t8)) else some (Sum.inl (w64 (t8+1))) else none else some (Sum.inr (Sum.inr ()))
theorem q2L:∀(b0 s:List Int) (t7 t8:Int),XL2 evo 131 1 2 ⟨[(0,rL 1 eI s),(1,R.c (C.fn 156 [] [dP 0])),(7,rI t7),(8,rI t8)],[(0,B.blk 22 [dL 1 eI b0])],1,19⟩=(zl (Qj b0 s t7) t8).bind (Sum.elim (fun(e:Int)=>some (Exit.ret,⟨[(4,rI e)],[(0,B.blk 22 [dL 1 eI b0])],1,19⟩)) (fun(e:Unit)=>some (Exit.exit 0,⟨[(4,R.any)],[(0,B.blk 22 [dL 1 eI b0])],1,19⟩))):=
 fun b0 s t7 t8=>by
  revert t8;exact qa6 qiz qhB (fun e=>by rcases e with _|_<;>exact⟨_,rfl,fun h=>by cases h⟩) fun x=>by
   have:=qlv;have:=@qcr.eq_1;have:=@q7g;have:=@Qj.eq_1;exact gA
def ZU (s:List Int) (b0:List Int):Option Int:=Option.bind (zl (Qj b0 s ((s.length:Nat):Int)) 0) fun(a:Sum Int Unit)=>Sum.elim (fun(a2:Int)=>some a2) (fun(a3:Unit)=>some (-1)) a
theorem q3H:∀(s b0:List Int),ev 131 1 [rL 1 eI s,R.c (C.fn 156 [] [dP 0])] [(0,B.blk 22 [dL 1 eI b0])]=(ZU s b0).bind (fun(e:Int)=>some (rI e,[(0,B.blk 22 [dL 1 eI b0])])):=
 fun s b0=>by
  rw[qR qlJ qr2.2.2.2 qso]
  have:=qlv;have:=@q2L;have:=@ZU.eq_1;exact gA
def Zo (s:List Int) (b0:List Int):Option Bool:=Option.bind (ZU s b0) fun(a:Int)=>some (decide (0≤a))
theorem q2M:∀(s b0:List Int),ev 83 1 [rL 1 eI s,R.c (C.fn 156 [] [dP 0])] [(0,B.blk 22 [dL 1 eI b0])]=(Zo s b0).bind (fun(e:Bool)=>some (rB e,[(0,B.blk 22 [dL 1 eI b0])])):=
 fun s b0=>by
  rw[qR qzW qF9.2.2.2 qFX]
  have:=qFA;have:=@q3H;have:=@Zo.eq_1;exact gA
def JK (a:List Int) (b:List Int):Option Bool:=Option.bind (Zo a b) fun(a2:Bool)=>some a2
theorem q9w:∀(a b:List Int),ev 113 0 [rL 1 eI a,rL 1 eI b] []=(JK a b).bind (fun(e:Bool)=>some (rB e,[])):=
 fun a b=>by
  rw[qR qy6 qAu.2.2.2 qHT]
  have:=qIP;have:=@q2M;have:=@JK.eq_1;exact gA
def q3q (a:qa) (b:qa):Option Bool:=if(a.Course.School==b.Course.School)=Bool.true∧(ByteArray.toList a.Course.Code==ByteArray.toList b.Course.Code)=Bool.true then some Bool.false else if 0<a.Bundle then if(a.Bundle==b.Bundle)=Bool.true then Option.bind (Zd a.Path b.Path) fun(a2:Bool)=>if a2=Bool.true then some Bool.true else Option.bind (JK a.Sources b.Sources) fun(a3:Bool)=>some (!a3) else Option.bind (JK a.Sources b.Sources) fun(a4:Bool)=>some (!a4) else Option.bind (JK a.Sources b.Sources) fun(a5:Bool)=>some (!a5)
theorem qd2:∀(Qb:Int) (QE:ByteArray) (JN q2k q8X:Int) (Jx:List Int) (q0B:Int) (q3Q:List Int) (q4v:Int) (q68:ByteArray) (qdx qjd qyl:Int) (qdy:List Int) (qfT:Int) (qqb:List Int),ev 69 0 [R.agg [dI Qb,dS QE,dI JN,dI q2k,dI q8X,dL 1 eI Jx,dI q0B,dL 1 eI q3Q],R.agg [dI q4v,dS q68,dI qdx,dI qjd,dI qyl,dL 1 eI qdy,dI qfT,dL 1 eI qqb]] []=(q3q (qa.mk (qc.mk Qb QE) JN q2k q8X Jx q0B q3Q) (qa.mk (qc.mk q4v q68) qdx qjd qyl qdy qfT qqb)).bind (fun(e:Bool)=>some (rB e,[])):=
 fun Qb QE JN q2k q8X Jx q0B q3Q q4v q68 qdx qjd qyl qdy qfT qqb=>by
  rw[qR qHW qIX.2.2.2 qKX]
  have:=qO9;have:=@q1U;have:=@q9w;have:=@q3q.eq_1;exact gA
theorem qJe:okL 71 qkk:=qS (ql qFa) (by kernel_rfl) (by kernel_rfl)
def qJm:=JA_ @qkk.eq_1 (JA_ @Tryz.f71.eq_1 @qFa)
theorem qzM:lbO 71 3=qpl:=Qr (ql qFa) rfl
theorem qC5:okL 71 qpl:=zJ qJe (qP9 (i:=0) (by kernel_rfl))
def JH (t6:List qa) (t7:Int):(Int×Int)→Option ((Int×Int)⊕Int)|(n,t8)=>if t8<t7 then if 0≤t8∧t8<((t6.length:Nat):Int) then Option.bind t6[Int.toNat t8]? fun(a:qa)=>some (Sum.inl (w64 (n+a.Credits),w64 (t8+1))) else none else some (Sum.inr n)
theorem q8a:∀(n:Int) (t6:List qa) (t7 t8:Int),XL2 evo 71 0 3 ⟨[(3,rI n),(6,rL 8 qe t6),(7,rI t7),(8,rI t8)],[],0,18⟩=(zl (JH t6 t7) (n,t8)).bind (fun(e:Int)=>some (Exit.exit 0,⟨[(3,rI e)],[],0,18⟩)):=
 fun n t6 t7 t8=>by
  revert t8;revert n;exact qak qzM qC5 (fun e=>by exact⟨_,rfl,fun h=>by cases h⟩) fun n t8=>by
   have:=qJm;have:=@qpl.eq_1;have:=@JH.eq_1;exact gA
def q1Q (l:List qa):Option Int:=Option.bind (zl (JH l ((l.length:Nat):Int)) (0,0)) fun(a:Int)=>some a
theorem qb0:∀(l:List qa),ev 71 0 [rL 8 qe l] []=(q1Q l).bind (fun(e:Int)=>some (rI e,[])):=
 fun l=>by
  rw[qR qFa qKp.2.2.2 qJe]
  have:=qJm;have:=@q8a;have:=@q1Q.eq_1;exact gA
theorem qIN:okL 39 qgp:=qS (ql qBO) (by kernel_rfl) (by kernel_rfl)
def qFD:=JA_ @qgp.eq_1 (JA_ @Tryz.f39.eq_1 @qBO)
theorem qCx:lbO 39 2=qoz:=Qr (ql qBO) rfl
theorem qBK:okL 39 qoz:=zJ qIN (qP9 (i:=0) (by kernel_rfl))
theorem qzt:lbO 39 9=qpy:=Qr (ql qBO) rfl
theorem qDV:okL 39 qpy:=zJ qIN (qP9 (i:=1) (by kernel_rfl))
theorem qG5:okL 72 qge:=qS (ql qyE) (by kernel_rfl) (by kernel_rfl)
def qGt:=JA_ @qge.eq_1 (JA_ @Tryz.f72.eq_1 @qyE)
theorem qBv:lbO 72 9=qnc:=Qr (ql qyE) rfl
theorem qCm:okL 72 qnc:=zJ qG5 (qP9 (i:=0) (by kernel_rfl))
theorem qvD:lbO 72 14=qhl:=Qr (ql qyE) rfl
theorem qv5:okL 72 qhl:=zJ qG5 (qP9 (i:=1) (by kernel_rfl))
theorem qC6:okL 115 qeK:=qS (ql qrv) (by kernel_rfl) (by kernel_rfl)
def qE3:=JA_ @qeK.eq_1 (JA_ @Tryz.f115.eq_1 @qrv)
theorem qx1:lbO 115 2=qi3:=Qr (ql qrv) rfl
theorem quP:okL 115 qi3:=zJ qC6 (qP9 (i:=0) (by kernel_rfl))
def JG (w1:List Int) (leaf:Int) (set0:Int) (t9:Int):Int→Option (Int⊕(Unit⊕Unit))|t10=>if t10<t9 then if 0≤t10∧t10<((w1.length:Nat):Int) then Option.bind w1[Int.toNat t10]? fun(a:Int)=>if 0≤t10 then if(!((ZW Go.BinOp.and IntKind.i64 (Int.fdiv set0 (2 ^ min (Int.toNat t10) (IntKind.bits IntKind.i64))) 1==1)==(a==leaf)))=Bool.true then some (Sum.inr (Sum.inl ())) else some (Sum.inl (w64 (t10+1))) else none else none else some (Sum.inr (Sum.inr ()))
theorem q83:∀(w1:List Int) (leaf set0 t9 t10:Int) (QO:Nat),QO=w1.length→XL2 evo 115 1 2 ⟨[(0,rI leaf),(1,rI set0),(8,rO 1 1 QO),(9,rI t9),(10,rI t10)],[(0,B.blk 22 [dO 1 1 QO]),(1,bR 3 1 eI w1)],2,25⟩=(zl (JG w1 leaf set0 t9) t10).bind (Sum.elim (fun(e:Unit)=>some (Exit.ret,⟨[(5,rB Bool.false)],[(0,B.blk 22 [dO 1 1 w1.length]),(1,bR 3 1 eI w1)],2,25⟩)) (fun(e:Unit)=>some (Exit.exit 0,⟨[(5,R.any)],[(0,B.blk 22 [dO 1 1 w1.length]),(1,bR 3 1 eI w1)],2,25⟩))):=
 by
 intro w1 leaf set0 t9 t10 QO h0
 subst h0
 revert t10;exact qa6 qx1 quP (fun e=>by rcases e with _|_<;>exact⟨_,rfl,fun h=>by cases h⟩) fun x=>by
  have:=qE3;have:=@qi3.eq_1;have:=@JG.eq_1;exact gA
def q0P (leaf:Int) (set0:Int) (w1:List Int):Option Bool:=Option.bind (zl (JG w1 leaf set0 ((w1.length:Nat):Int)) 0) fun(a:Sum Unit Unit)=>Sum.elim (fun(a2:Unit)=>some Bool.false) (fun(a3:Unit)=>some Bool.true) a
theorem q5h:∀(leaf set0:Int) (w1:List Int) (QO:Nat),QO=w1.length→ev 115 1 [rI leaf,rI set0,rP 0] [(0,B.blk 22 [dO 1 1 QO]),(1,bR 3 1 eI w1)]=(q0P leaf set0 w1).bind (fun(e:Bool)=>some (rB e,[(0,B.blk 22 [dO 1 1 w1.length]),(1,bR 3 1 eI w1)])):=
 by
 intro leaf set0 w1 QO h0
 subst h0
 rw[qR qrv qBA.2.2.2 qC6]
 have:=qE3;have:=@q83;have:=@q0P.eq_1;exact gA
theorem qG9:okL 116 qi5:=qS (ql qvz) (by kernel_rfl) (by kernel_rfl)
def qFK:=JA_ @qi5.eq_1 (JA_ @Tryz.f116.eq_1 @qvz)
theorem qGP:okL 117 qiR:=qS (ql qvu) (by kernel_rfl) (by kernel_rfl)
def qHE:=JA_ @qiR.eq_1 (JA_ @Tryz.f117.eq_1 @qvu)
def q29 (x:Int) (v:Int) (v2:Int):Option Bool:=if v≤x then some (decide (x<v2)) else some Bool.false
def JY (x:Int) (v:Int) (v2:Int):Bool:=if v≤x then decide (x<v2) else Bool.false
theorem q7Z (x v v2:Int):q29 x v v2=some (JY x v v2):=by
 unfold q29 JY
 simp only[Zn]
theorem q8x:∀(x v v2:Int),ev 117 2 [rI x,rP 0,rP 1] [(0,B.blk 3 [dI v]),(1,B.blk 3 [dI v2])]=some (rB (JY x v v2),[(0,B.blk 3 [dI v]),(1,B.blk 3 [dI v2])]):=
 fun x v v2=>by
  have h:ev 117 2 [rI x,rP 0,rP 1] [(0,B.blk 3 [dI v]),(1,B.blk 3 [dI v2])]=(q29 x v v2).bind (fun(e:Bool)=>some (rB e,[(0,B.blk 3 [dI v]),(1,B.blk 3 [dI v2])])):=by
   rw[qR qvu qBF.2.2.2 qGP]
   have:=qHE;have:=@q29.eq_1;exact gA
  rw[q7Z] at h
  exact h
def Q7 (b0:Int) (b1:Int) (s:List Int) (t7:Int):Int→Option (Int⊕(Int⊕Unit))|t8=>if t8<t7 then if 0≤t8∧t8<((s.length:Nat):Int) then Option.bind s[Int.toNat t8]? fun(a:Int)=>if JY a b0 b1=Bool.true then some (Sum.inr (Sum.inl t8)) else some (Sum.inl (w64 (t8+1))) else none else some (Sum.inr (Sum.inr ()))
theorem q2p:∀(b0 b1:Int) (s:List Int) (t7 t8:Int),XL2 evo 131 2 2 ⟨[(0,rL 1 eI s),(1,R.c (C.fn 117 [] [dP 0,dP 1])),(7,rI t7),(8,rI t8)],[(0,B.blk 3 [dI b0]),(1,B.blk 3 [dI b1])],2,19⟩=(zl (Q7 b0 b1 s t7) t8).bind (Sum.elim (fun(e:Int)=>some (Exit.ret,⟨[(4,rI e)],[(0,B.blk 3 [dI b0]),(1,B.blk 3 [dI b1])],2,19⟩)) (fun(e:Unit)=>some (Exit.exit 0,⟨[(4,R.any)],[(0,B.blk 3 [dI b0]),(1,B.blk 3 [dI b1])],2,19⟩))):=
 fun b0 b1 s t7 t8=>by
  revert t8;exact qa6 qiz qhB (fun e=>by rcases e with _|_<;>exact⟨_,rfl,fun h=>by cases h⟩) fun x=>by
   have:=qlv;have:=@qcr.eq_1;have:=@q8x;have:=@Q7.eq_1;exact gA
def Zz (s:List Int) (b0:Int) (b1:Int):Option Int:=Option.bind (zl (Q7 b0 b1 s ((s.length:Nat):Int)) 0) fun(a:Sum Int Unit)=>Sum.elim (fun(a2:Int)=>some a2) (fun(a3:Unit)=>some (-1)) a
theorem q2W:∀(s:List Int) (b0 b1:Int),ev 131 2 [rL 1 eI s,R.c (C.fn 117 [] [dP 0,dP 1])] [(0,B.blk 3 [dI b0]),(1,B.blk 3 [dI b1])]=(Zz s b0 b1).bind (fun(e:Int)=>some (rI e,[(0,B.blk 3 [dI b0]),(1,B.blk 3 [dI b1])])):=
 fun s b0 b1=>by
  rw[qR qlJ qr2.2.2.2 qso]
  have:=qlv;have:=@q2p;have:=@Zz.eq_1;exact gA
def Z4 (s:List Int) (b0:Int) (b1:Int):Option Bool:=Option.bind (Zz s b0 b1) fun(a:Int)=>some (decide (0≤a))
theorem q2s:∀(s:List Int) (b0 b1:Int),ev 83 2 [rL 1 eI s,R.c (C.fn 117 [] [dP 0,dP 1])] [(0,B.blk 3 [dI b0]),(1,B.blk 3 [dI b1])]=(Z4 s b0 b1).bind (fun(e:Bool)=>some (rB e,[(0,B.blk 3 [dI b0]),(1,B.blk 3 [dI b1])])):=
 fun s b0 b1=>by
  rw[qR qzW qF9.2.2.2 qFX]
  have:=qFA;have:=@q2W;have:=@Z4.eq_1;exact gA
def q1V (from0:Int) (to:Int) (w1:List Int):Option Bool:=Option.bind (Z4 w1 from0 to) fun(a:Bool)=>some a
theorem qau:∀(from0 to:Int) (w1:List Int) (QO:Nat),QO=w1.length→ev 116 1 [rI from0,rI to,rP 0] [(0,B.blk 22 [dO 1 1 QO]),(1,bR 3 1 eI w1)]=(q1V from0 to w1).bind (fun(e:Bool)=>some (rB e,[(0,B.blk 22 [dO 1 1 w1.length]),(1,bR 3 1 eI w1)])):=
 by
 intro from0 to w1 QO h0
 subst h0
 rw[qR qvz qA3.2.2.2 qG9]
 have:=qFK;have:=@q2s;have:=@q1V.eq_1;exact gA
def zo (v:JS qc) (s:List (JS qc)) (t7:Int):Int→Option (Int⊕(Int⊕Unit))|t8=>if t8<t7 then if 0≤t8∧t8<((s.length:Nat):Int) then Option.bind s[Int.toNat t8]? fun(a:@JS qc)=>if((v.a0.School==a.a0.School)=Bool.true∧(ByteArray.toList v.a0.Code==ByteArray.toList a.a0.Code)=Bool.true)∧(v.a1.School==a.a1.School)=Bool.true∧(ByteArray.toList v.a1.Code==ByteArray.toList a.a1.Code)=Bool.true then some (Sum.inr (Sum.inl t8)) else some (Sum.inl (w64 (t8+1))) else none else some (Sum.inr (Sum.inr ()))
theorem q0c:∀(q0n:Int) (q2D:ByteArray) (q0o:Int) (q2E:ByteArray) (s:List (JS qc)) (t7 t8:Int),XL2 evo 114 0 2 ⟨[(0,rL 4 (eA2 qd) s),(3,rP 0),(7,rI t7),(8,rI t8)],[(0,B.blk 70 [dI q0n,dS q2D,dI q0o,dS q2E])],1,19⟩=(zl (zo (JS.mk (qc.mk q0n q2D) (qc.mk q0o q2E)) s t7) t8).bind (Sum.elim (fun(e:Int)=>some (Exit.ret,⟨[(4,rI e)],[],0,19⟩)) (fun(e:Unit)=>some (Exit.exit 0,⟨[(4,R.any)],[],0,19⟩))):=
 fun q0n q2D q0o q2E s t7 t8=>by
  revert t8;exact qa6 quA que (fun e=>by rcases e with _|_<;>exact⟨_,rfl,fun h=>by cases h⟩) fun x=>by
   have:=qAz;have:=@qiU.eq_1;have:=@zo.eq_1;exact gA
def Qh (s:List (JS qc)) (v:JS qc):Option Int:=Option.bind (zl (zo v s ((s.length:Nat):Int)) 0) fun(a:Sum Int Unit)=>Sum.elim (fun(a2:Int)=>some a2) (fun(a3:Unit)=>some (-1)) a
theorem q0q:∀(s:List (JS qc)) (q0n:Int) (q2D:ByteArray) (q0o:Int) (q2E:ByteArray),ev 114 0 [rL 4 (eA2 qd) s,R.agg [dI q0n,dS q2D,dI q0o,dS q2E]] []=(Qh s (JS.mk (qc.mk q0n q2D) (qc.mk q0o q2E))).bind (fun(e:Int)=>some (rI e,[])):=
 fun s q0n q2D q0o q2E=>by
  rw[qR qqv qBQ.2.2.2 qA2]
  have:=qAz;have:=@q0c;have:=@Qh.eq_1;exact gA
def qZ (s:List (JS qc)) (v:JS qc):Option Bool:=Option.bind (Qh s v) fun(a:Int)=>some (decide (0≤a))
theorem Zq:∀(s:List (JS qc)) (q0n:Int) (q2D:ByteArray) (q0o:Int) (q2E:ByteArray),ev 70 0 [rL 4 (eA2 qd) s,R.agg [dI q0n,dS q2D,dI q0o,dS q2E]] []=(qZ s (JS.mk (qc.mk q0n q2D) (qc.mk q0o q2E))).bind (fun(e:Bool)=>some (rB e,[])):=
 fun s q0n q2D q0o q2E=>by
  rw[qR qII qJa.2.2.2 qMI]
  have:=qNq;have:=@q0q;have:=@qZ.eq_1;exact gA
def QX (b0:qf) (t62:List (JS qc)) (t63:Int):Int→Option (Int⊕(Int⊕Unit))|t64=>if t64<t63 then if 0≤t64∧t64<((t62.length:Nat):Int) then Option.bind t62[Int.toNat t64]? fun(a:@JS qc)=>Option.bind (q1e a.a0) fun(a2:Bool)=>if(!a2)=Bool.true then some (Sum.inr (Sum.inl 1)) else Option.bind (q1e a.a1) fun(a3:Bool)=>if(!a3)=Bool.true then some (Sum.inr (Sum.inl 1)) else Option.bind (q0O a.a0 a.a1) fun(a4:Int)=>if 0≤a4 then some (Sum.inr (Sum.inl 7)) else if 0≤t64∧t64≤((b0.Exclude.length:Nat):Int) then Option.bind (qZ (List.take (Int.toNat t64-0) b0.Exclude) a) fun(a5:Bool)=>if a5=Bool.true then some (Sum.inr (Sum.inl 6)) else some (Sum.inl (w64 (t64+1))) else none else none else some (Sum.inr (Sum.inr ()))
theorem q6K:∀(qp zn qn qz:Int) (qA:ByteArray) (qi qq qk:Int) (qm:List qc) (qr:List qb) (qt qF qG:Int) (qo t62:List (JS qc)) (t63 t64:Int),XL2 evo 56 0 13 ⟨[(1,rP 0),(62,rL 4 (eA2 qd) t62),(63,rI t63),(64,rI t64)],[(0,B.blk 39 [dI qp,dI zn,dI qn,dI qz,dS qA,dI qi,dI qq,dI qk,dL 2 qd qm,dL 5 qh qr,dI qt,dI qF,dI qG,dL 4 (eA2 qd) qo])],1,95⟩=(zl (QX (qf.mk qp zn qn qz qA (qb.mk qi qq qk qm qr) qt qF qG qo) t62 t63) t64).bind (Sum.elim (fun(e:Int)=>some (Exit.ret,⟨[(2,rI e)],[],0,95⟩)) (fun(e:Unit)=>some (Exit.exit 1,⟨[(2,R.any)],[],0,95⟩))):=
 fun qp zn qn qz qA qi qq qk qm qr qt qF qG qo t62 t63 t64=>by
  revert t64;exact qa6 qwN qxq (fun e=>by rcases e with _|_<;>exact⟨_,rfl,fun h=>by cases h⟩) fun x=>by
   have:=qJU;have:=@qiE.eq_1;have:=@q6O;have:=@q5G;have:=@Zq;have:=@QX.eq_1;exact gA
def q0h (x0:qf):Option Int:=if(!(zA x0.School 1 8))=Bool.true then some 1 else if(!(zA x0.Id 1 999999))=Bool.true then some 3 else if(!(zA x0.Version 1 20))=Bool.true then some 3 else if(!(zA x0.From 0 100000))=Bool.true then some 3 else if(!(zA x0.Total 0 600))=Bool.true then some 3 else if(!(zA x0.Own 0 600))=Bool.true then some 3 else if(!(zA x0.Age 0 100))=Bool.true then some 3 else Option.bind (q1j x0.Name) fun(a:Bool)=>if(!a)=Bool.true then some 1 else Option.bind (JF x0.Need) fun(a2:Int)=>if(a2 != 0)=Bool.true then some a2 else if 8<((x0.Exclude.length:Nat):Int) then some 2 else Option.bind (zl (QX x0 x0.Exclude ((x0.Exclude.length:Nat):Int)) 0) fun(a3:Sum Int Unit)=>Sum.elim (fun(e0:Int)=>some e0) (fun(a4:Unit)=>some 0) a3
theorem q9k:∀(zM q0R zy QK:Int) (QL:ByteArray) (qT zN z8:Int) (za:List qc) (zO:List qb) (Qe ZX ZY:Int) (zz:List (JS qc)),ev 56 0 [R.agg [dI zM,dI q0R,dI zy,dI QK,dS QL,dI qT,dI zN,dI z8,dL 2 qd za,dL 5 qh zO,dI Qe,dI ZX,dI ZY,dL 4 (eA2 qd) zz]] []=(q0h (qf.mk zM q0R zy QK QL (qb.mk qT zN z8 za zO) Qe ZX ZY zz)).bind (fun(e:Int)=>some (rI e,[])):=
 fun zM q0R zy QK QL qT zN z8 za zO Qe ZX ZY zz=>by
  rw[qR qEK qJs.2.2.2 qJr]
  have:=qJU;have:=@Js;have:=@qd8;have:=@q4p;have:=@q6K;have:=@q0h.eq_1;exact gA
def QI (p:qf) (s:qg):Option Int:=Option.bind (q0h p) fun(a:Int)=>if(a != 0)=Bool.true then some a else Option.bind (q1w s) fun(e0:Int)=>some e0
theorem q5i:∀(qC JO qy zd:Int) (zf:ByteArray) (qs qD qv:Int) (qx:List qc) (qH:List qb) (qK Qc Qd:Int) (qJ:List (JS qc)) (zm zZ Q0:Int),ev 33 0 [R.agg [dI qC,dI JO,dI qy,dI zd,dS zf,dI qs,dI qD,dI qv,dL 2 qd qx,dL 5 qh qH,dI qK,dI Qc,dI Qd,dL 4 (eA2 qd) qJ],R.agg [dI zm,dI zZ,dI Q0]] []=(QI (qf.mk qC JO qy zd zf (qb.mk qs qD qv qx qH) qK Qc Qd qJ) (qg.mk zm zZ Q0)).bind (fun(e:Int)=>some (rI e,[])):=
 fun qC JO qy zd zf qs qD qv qx qH qK Qc Qd qJ zm zZ Q0=>by
  rw[qR qFQ qKF.2.2.2 qMv]
  have:=qOc;have:=@q9k;have:=@q6j;have:=@QI.eq_1;exact gA
end
noncomputable section
open Go.RowKit
set_option maxRecDepth 20000
set_option maxHeartbeats 8000000
def ZM (b0:qf) (b1:qa) (t1:List qa) (t2:Int) (t7:Int) (t12:List qa) (t13:Int) (t14:Int) (t25:List qa) (t26:Int):Int→Option (Int⊕(Unit⊕Unit))|t27=>if t27<t26 then if 0≤t27∧t27<((t25.length:Nat):Int) then Option.bind t25[Int.toNat t27]? fun(a:qa)=>Option.bind (q3q b1 a) fun(a2:Bool)=>if(!a2)=Bool.true then some (Sum.inr (Sum.inl ())) else Option.bind (qZ b0.Exclude (JS.mk b1.Course a.Course)) fun(a3:Bool)=>if a3=Bool.true then some (Sum.inr (Sum.inl ())) else Option.bind (qZ b0.Exclude (JS.mk a.Course b1.Course)) fun(a4:Bool)=>if a4=Bool.true then some (Sum.inr (Sum.inl ())) else some (Sum.inl (w64 (t27+1))) else none else some (Sum.inr (Sum.inr ()))
theorem q65:∀(qp zn qn qz:Int) (qA:ByteArray) (qi qq qk:Int) (qm:List qc) (qr:List qb) (qt qF qG:Int) (qo:List (JS qc)) (q0J:Int) (q1X:ByteArray) (q5H qaa qh7:Int) (q5I:List Int) (q7F:Int) (qdz:List Int) (t1:List qa) (t2 t7:Int) (t12:List qa) (t13 t14:Int) (t25:List qa) (t26 t27:Int),XL2 evo 38 0 8 ⟨[(1,rL 8 qe t1),(2,rI t2),(3,rP 0),(7,rI t7),(9,rP 1),(12,rL 8 qe t12),(13,rI t13),(14,rI t14),(25,rL 8 qe t25),(26,rI t26),(27,rI t27)],[(0,B.blk 39 [dI qp,dI zn,dI qn,dI qz,dS qA,dI qi,dI qq,dI qk,dL 2 qd qm,dL 5 qh qr,dI qt,dI qF,dI qG,dL 4 (eA2 qd) qo]),(1,B.blk 57 [dI q0J,dS q1X,dI q5H,dI qaa,dI qh7,dL 1 eI q5I,dI q7F,dL 1 eI qdz])],2,83⟩=(zl (ZM (qf.mk qp zn qn qz qA (qb.mk qi qq qk qm qr) qt qF qG qo) (qa.mk (qc.mk q0J q1X) q5H qaa qh7 q5I q7F qdz) t1 t2 t7 t12 t13 t14 t25 t26) t27).bind (Sum.elim (fun(e:Unit)=>some (Exit.ret,⟨[(1,rL 8 qe t1),(2,rI t2),(3,rP 0),(6,rB Bool.false),(7,rI t7),(9,rP 1),(12,rL 8 qe t12),(13,rI t13),(14,rI t14)],[(0,B.blk 39 [dI qp,dI zn,dI qn,dI qz,dS qA,dI qi,dI qq,dI qk,dL 2 qd qm,dL 5 qh qr,dI qt,dI qF,dI qG,dL 4 (eA2 qd) qo]),(1,B.blk 57 [dI q0J,dS q1X,dI q5H,dI qaa,dI qh7,dL 1 eI q5I,dI q7F,dL 1 eI qdz])],2,83⟩)) (fun(e:Unit)=>some (Exit.exit 2,⟨[(1,rL 8 qe t1),(2,rI t2),(3,rP 0),(6,R.any),(7,rI t7),(9,rP 1),(12,rL 8 qe t12),(13,rI t13),(14,rI t14)],[(0,B.blk 39 [dI qp,dI zn,dI qn,dI qz,dS qA,dI qi,dI qq,dI qk,dL 2 qd qm,dL 5 qh qr,dI qt,dI qF,dI qG,dL 4 (eA2 qd) qo]),(1,B.blk 57 [dI q0J,dS q1X,dI q5H,dI qaa,dI qh7,dL 1 eI q5I,dI q7F,dL 1 eI qdz])],2,83⟩))):=
 fun qp zn qn qz qA qi qq qk qm qr qt qF qG qo q0J q1X q5H qaa qh7 q5I q7F qdz t1 t2 t7 t12 t13 t14 t25 t26 t27=>by
  revert t27;exact qa6 qCP qC0 (fun e=>by rcases e with _|_<;>exact⟨_,rfl,fun h=>by cases h⟩) fun x=>by
   have:=qHD;have:=@qnv.eq_1;have:=@qd2;have:=@Zq;have:=@ZM.eq_1;exact gA
def Z9 (b0:qf) (t1:List qa) (t2:Int) (t12:List qa) (t13:Int):(Int×Int)→Option ((Int×Int)⊕(Int⊕Int))|(t7,t14)=>if t14<t13 then if 0≤t14∧t14<((t12.length:Nat):Int) then Option.bind t12[Int.toNat t14]? fun(a:qa)=>Option.bind (Zw b0 a t2) fun(a2:Bool)=>if a2=Bool.true then some (Sum.inr (Sum.inl t7)) else if 0≤t14∧t14≤((t1.length:Nat):Int) then Option.bind (zl (ZM b0 a t1 t2 t7 t12 t13 t14 (List.take (Int.toNat t14-0) t1) (((List.take (Int.toNat t14-0) t1).length:Nat):Int)) 0) fun(a3:Sum Unit Unit)=>Sum.elim (fun(a4:Unit)=>some (Sum.inr (Sum.inl t7))) (fun(a5:Unit)=>if(a.Course.School==b0.School)=Bool.true then if(a.Bundle==0)=Bool.true then some (Sum.inl (w64 (t7+a.Credits),w64 (t14+1))) else some (Sum.inl (t7,w64 (t14+1))) else some (Sum.inl (t7,w64 (t14+1)))) a3 else none else none else some (Sum.inr (Sum.inr t7))
theorem q60:∀(qp zn qn qz:Int) (qA:ByteArray) (qi qq qk:Int) (qm:List qc) (qr:List qb) (qt qF qG:Int) (qo:List (JS qc)) (t1:List qa) (t2 t7:Int) (t12:List qa) (t13 t14:Int),XL2 evo 38 0 3 ⟨[(1,rL 8 qe t1),(2,rI t2),(3,rP 0),(7,rI t7),(12,rL 8 qe t12),(13,rI t13),(14,rI t14)],[(0,B.blk 39 [dI qp,dI zn,dI qn,dI qz,dS qA,dI qi,dI qq,dI qk,dL 2 qd qm,dL 5 qh qr,dI qt,dI qF,dI qG,dL 4 (eA2 qd) qo])],1,83⟩=(zl (Z9 (qf.mk qp zn qn qz qA (qb.mk qi qq qk qm qr) qt qF qG qo) t1 t2 t12 t13) (t7,t14)).bind (Sum.elim (fun(e:Int)=>some (Exit.ret,⟨[(1,rL 8 qe t1),(3,rP 0),(6,rB Bool.false),(7,rI e)],[(0,B.blk 39 [dI qp,dI zn,dI qn,dI qz,dS qA,dI qi,dI qq,dI qk,dL 2 qd qm,dL 5 qh qr,dI qt,dI qF,dI qG,dL 4 (eA2 qd) qo])],1,83⟩)) (fun(e:Int)=>some (Exit.exit 0,⟨[(1,rL 8 qe t1),(3,rP 0),(6,R.any),(7,rI e)],[(0,B.blk 39 [dI qp,dI zn,dI qn,dI qz,dS qA,dI qi,dI qq,dI qk,dL 2 qd qm,dL 5 qh qr,dI qt,dI qF,dI qG,dL 4 (eA2 qd) qo])],1,83⟩))):=
 fun qp zn qn qz qA qi qq qk qm qr qt qF qG qo t1 t2 t7 t12 t13 t14=>by
  revert t14;revert t7;exact qak qAX qzP (fun e=>by rcases e with _|_<;>exact⟨_,rfl,fun h=>by cases h⟩) fun t7 t14=>by
   have:=qHD;have:=@qps.eq_1;have:=@q4q;have:=@q65;have:=@Z9.eq_1;exact gA
def JJ (x0:qf) (x1:List qa) (x2:Int):Option Bool:=Option.bind (zl (Z9 x0 x1 x2 x1 ((x1.length:Nat):Int)) (0,0)) fun(a:Sum Int Int)=>Sum.elim (fun(a2:Int)=>some Bool.false) (fun(a3:Int)=>Option.bind (q1Q x1) fun(a4:Int)=>if x0.Total≤a4 then some (decide (x0.Own≤a3)) else some Bool.false) a
theorem q3M:∀(zM q0R zy QK:Int) (QL:ByteArray) (qT zN z8:Int) (za:List qc) (zO:List qb) (Qe ZX ZY:Int) (zz:List (JS qc)) (x1:List qa) (x2:Int),ev 38 0 [R.agg [dI zM,dI q0R,dI zy,dI QK,dS QL,dI qT,dI zN,dI z8,dL 2 qd za,dL 5 qh zO,dI Qe,dI ZX,dI ZY,dL 4 (eA2 qd) zz],rL 8 qe x1,rI x2] []=(JJ (qf.mk zM q0R zy QK QL (qb.mk qT zN z8 za zO) Qe ZX ZY zz) x1 x2).bind (fun(e:Bool)=>some (rB e,[])):=
 fun zM q0R zy QK QL qT zN z8 za zO Qe ZX ZY zz x1 x2=>by
  rw[qR qBw qJz.2.2.2 qGB]
  have:=qHD;have:=@q60;have:=@qb0;have:=@JJ.eq_1;exact gA
def zc (x:(qb×List Int×List qa×Int×qg)):List R×List (Nat×B):=([R.agg [C.d (D.int .i64 x.1.Kind),C.d (D.int .i64 x.1.N),C.d (D.int .i64 x.1.Min),C.d (D.sl 2 x.1.Set.length (x.1.Set.flatMap qd)),C.d (D.sl 5 x.1.L.length (x.1.L.flatMap qh))],R.c (C.ptr 0 0),R.c (C.ptr 1 0),R.c (C.ptr 3 0),R.c (C.ptr 4 0),R.c (C.ptr 5 0),R.c (C.ptr 6 0)],[(0,B.blk 26 [C.d (D.sl 8 x.2.2.1.length (x.2.2.1.flatMap qe))]),(1,B.blk 114 [C.fn 115 [] [C.ptr 2 0]]),(2,B.blk 22 [C.own 7 1 0 x.2.1.length]),(3,B.blk 3 [C.d (D.int .i64 x.2.2.2.1)]),(4,B.blk 28 [C.d (D.int .i64 x.2.2.2.2.Worst),C.d (D.int .i64 x.2.2.2.2.Best),C.d (D.int .i64 x.2.2.2.2.Pass)]),(5,B.blk 163 [C.fn 104 [] [C.ptr 0 0,C.ptr 1 0,C.ptr 3 0,C.ptr 4 0,C.ptr 5 0,C.ptr 6 0]]),(6,B.blk 114 [C.fn 116 [] [C.ptr 2 0]]),(7,B.row 3 1 ((x.2.1.flatMap eI).map C.d))])
def Q9:(List Bool×List Int×List qa×Int×qg)→R×List (Nat×B):=fun(e:List Bool×List Int×List qa×Int×qg)=>(R.c (C.d (D.sl 1 e.1.length (e.1.flatMap eB))),[(0,B.blk 26 [C.d (D.sl 8 e.2.2.1.length (e.2.2.1.flatMap qe))]),(1,B.blk 114 [C.fn 115 [] [C.ptr 2 0]]),(2,B.blk 22 [C.own 7 1 0 e.2.1.length]),(3,B.blk 3 [C.d (D.int .i64 e.2.2.2.1)]),(4,B.blk 28 [C.d (D.int .i64 e.2.2.2.2.Worst),C.d (D.int .i64 e.2.2.2.2.Best),C.d (D.int .i64 e.2.2.2.2.Pass)]),(5,B.blk 163 [C.fn 104 [] [C.ptr 0 0,C.ptr 1 0,C.ptr 3 0,C.ptr 4 0,C.ptr 5 0,C.ptr 6 0]]),(6,B.blk 114 [C.fn 116 [] [C.ptr 2 0]]),(7,B.row 3 1 ((e.2.1.flatMap eI).map C.d))])
def ZN (rF:(qb×List Int×List qa×Int×qg)→Option (List Bool×List Int×List qa×Int×qg)) (w7:List Int) (b0:List qa) (b3:Int) (b4:qg) (b8:qb):(List Bool×Int)→Option ((List Bool×Int)⊕(List Bool))|(w9,b10)=>if b10<((w9.length:Nat):Int) then Option.bind (q0P b3 b10 w7) fun(a2:Bool)=>if a2=Bool.true then Option.bind (q1o b8 b4 b0 b10) fun(a3:qM)=>if 0≤b10∧b10<((w9.length:Nat):Int) then if Int.toNat b10+1≤w9.length then some (Sum.inl (List.set w9 (Int.toNat b10) (Q2 a3 b8),w64 (b10+1))) else none else none else if 0≤b10∧b10<((w9.length:Nat):Int) then if Int.toNat b10+1≤w9.length then some (Sum.inl (List.set w9 (Int.toNat b10) Bool.false,w64 (b10+1))) else none else none else some (Sum.inr w9)
theorem q5W (rE:Orc) (rF:(qb×List Int×List qa×Int×qg)→Option (List Bool×List Int×List qa×Int×qg)) (hF:∀y,rE (.fn 104) 7 (zc y).1 (zc y).2=(rF y).bind fun e=>some (Q9 e)) (hM:∀g k a G,g≠104→rE (.fn g) k a G=ev g k a G) (hR:∀g asg bd k a G,rE (.rd g asg bd) k a G=evr g asg bd k a G):∀(w7:List Int) (w9:List Bool) (b0:List qa) (b3 QQ ZK ZL Ju qbW q0K:Int) (q0L:List qc) (qbX:List qb) (b10:Int) (JP zL:Nat),JP=w9.length→zL=w7.length→XL2 rE 104 7 5 ⟨[(1,rP 0),(2,rP 1),(3,rP 3),(4,rP 4),(7,rP 8),(9,rO 9 1 JP),(10,R.c (C.fn 133 [] [])),(11,rP 10)],[(0,B.blk 26 [dL 8 qe b0]),(1,B.blk 114 [C.fn 115 [] [dP 2]]),(2,B.blk 22 [dO 7 1 zL]),(3,B.blk 3 [dI b3]),(4,B.blk 28 [dI QQ,dI ZK,dI ZL]),(5,B.blk 163 [C.fn 104 [] [dP 0,dP 1,dP 3,dP 4,dP 5,dP 6]]),(6,B.blk 114 [C.fn 116 [] [dP 2]]),(7,bR 3 1 eI w7),(8,B.blk 36 [dI Ju,dI qbW,dI q0K,dL 2 qd q0L,dL 5 qh qbX]),(9,bR 4 1 eB w9),(10,B.blk 3 [dI b10])],11,142⟩=(zl (ZN rF w7 b0 b3 (qg.mk QQ ZK ZL) (qb.mk Ju qbW q0K q0L qbX)) (w9,b10)).bind (fun(e:List Bool)=>some (Exit.exit 0,⟨[(3,rP 3),(9,rO 8 1 e.length)],[(0,B.blk 26 [dL 8 qe b0]),(1,B.blk 114 [C.fn 115 [] [dP 2]]),(2,B.blk 22 [dO 7 1 w7.length]),(3,B.blk 3 [dI b3]),(4,B.blk 28 [dI QQ,dI ZK,dI ZL]),(5,B.blk 163 [C.fn 104 [] [dP 0,dP 1,dP 3,dP 4,dP 5,dP 6]]),(6,B.blk 114 [C.fn 116 [] [dP 2]]),(7,bR 3 1 eI w7),(8,bR 4 1 eB e)],9,142⟩)):=
 by
 intro w7 w9 b0 b3 QQ ZK ZL Ju qbW q0K q0L qbX b10 JP zL h0 h1
 subst h0 h1
 revert b10;revert w9;exact qak qf4 qeM (fun e=>by exact⟨_,rfl,fun h=>by cases h⟩) fun w9 b10=>by
  have hF':∀(qE Je qX:Int) (qY:List qc) (Jf:List qb) (w7:List Int) (v:List qa) (v2 qI z6 z7:Int) (zL:Nat),zL=w7.length→rE (.fn 104) 7 [R.agg [dI qE,dI Je,dI qX,dL 2 qd qY,dL 5 qh Jf],rP 0,rP 1,rP 3,rP 4,rP 5,rP 6] [(0,B.blk 26 [dL 8 qe v]),(1,B.blk 114 [C.fn 115 [] [dP 2]]),(2,B.blk 22 [dO 7 1 zL]),(3,B.blk 3 [dI v2]),(4,B.blk 28 [dI qI,dI z6,dI z7]),(5,B.blk 163 [C.fn 104 [] [dP 0,dP 1,dP 3,dP 4,dP 5,dP 6]]),(6,B.blk 114 [C.fn 116 [] [dP 2]]),(7,bR 3 1 eI w7)]=(rF ((qb.mk qE Je qX qY Jf),w7,v,v2,(qg.mk qI z6 z7))).bind (fun e=>some (rL 1 eB e.1,[(0,B.blk 26 [dL 8 qe e.2.2.1]),(1,B.blk 114 [C.fn 115 [] [dP 2]]),(2,B.blk 22 [dO 7 1 e.2.1.length]),(3,B.blk 3 [dI e.2.2.2.1]),(4,B.blk 28 [dI e.2.2.2.2.Worst,dI e.2.2.2.2.Best,dI e.2.2.2.2.Pass]),(5,B.blk 163 [C.fn 104 [] [dP 0,dP 1,dP 3,dP 4,dP 5,dP 6]]),(6,B.blk 114 [C.fn 116 [] [dP 2]]),(7,bR 3 1 eI e.2.1)])):=by intro qE Je qX qY Jf w7 v v2 qI z6 z7 zL h0;subst h0;exact hF ((qb.mk qE Je qX qY Jf),w7,v,v2,(qg.mk qI z6 z7))
  have:=qa5;have:=@qb8.eq_1;have:=@q5h;have:=@q3i;have:=@q1L;have:=@ZN.eq_1;exact gA
def ZP (rF:(qb×List Int×List qa×Int×qg)→Option (List Bool×List Int×List qa×Int×qg)) (w7:List Int) (b0:List qa) (b3:Int) (b4:qg) (b8:qb):(List Bool×Int)→Option ((List Bool×Int)⊕(List Bool))|(w9,b10)=>if b10<((w9.length:Nat):Int) then Option.bind (q0P b3 b10 w7) fun(a2:Bool)=>if a2=Bool.true then Option.bind (q1o b8 b4 b0 b10) fun(a3:qM)=>if 0≤b10∧b10<((w9.length:Nat):Int) then if Int.toNat b10+1≤w9.length then some (Sum.inl (List.set w9 (Int.toNat b10) (Qu a3 b8),w64 (b10+1))) else none else none else if 0≤b10∧b10<((w9.length:Nat):Int) then if Int.toNat b10+1≤w9.length then some (Sum.inl (List.set w9 (Int.toNat b10) Bool.false,w64 (b10+1))) else none else none else some (Sum.inr w9)
theorem q5X (rE:Orc) (rF:(qb×List Int×List qa×Int×qg)→Option (List Bool×List Int×List qa×Int×qg)) (hF:∀y,rE (.fn 104) 7 (zc y).1 (zc y).2=(rF y).bind fun e=>some (Q9 e)) (hM:∀g k a G,g≠104→rE (.fn g) k a G=ev g k a G) (hR:∀g asg bd k a G,rE (.rd g asg bd) k a G=evr g asg bd k a G):∀(w7:List Int) (w9:List Bool) (b0:List qa) (b3 QQ ZK ZL Ju qbW q0K:Int) (q0L:List qc) (qbX:List qb) (b10:Int) (JP zL:Nat),JP=w9.length→zL=w7.length→XL2 rE 104 7 5 ⟨[(1,rP 0),(2,rP 1),(3,rP 3),(4,rP 4),(7,rP 8),(9,rO 9 1 JP),(10,R.c (C.fn 134 [] [])),(11,rP 10)],[(0,B.blk 26 [dL 8 qe b0]),(1,B.blk 114 [C.fn 115 [] [dP 2]]),(2,B.blk 22 [dO 7 1 zL]),(3,B.blk 3 [dI b3]),(4,B.blk 28 [dI QQ,dI ZK,dI ZL]),(5,B.blk 163 [C.fn 104 [] [dP 0,dP 1,dP 3,dP 4,dP 5,dP 6]]),(6,B.blk 114 [C.fn 116 [] [dP 2]]),(7,bR 3 1 eI w7),(8,B.blk 36 [dI Ju,dI qbW,dI q0K,dL 2 qd q0L,dL 5 qh qbX]),(9,bR 4 1 eB w9),(10,B.blk 3 [dI b10])],11,142⟩=(zl (ZP rF w7 b0 b3 (qg.mk QQ ZK ZL) (qb.mk Ju qbW q0K q0L qbX)) (w9,b10)).bind (fun(e:List Bool)=>some (Exit.exit 0,⟨[(3,rP 3),(9,rO 8 1 e.length)],[(0,B.blk 26 [dL 8 qe b0]),(1,B.blk 114 [C.fn 115 [] [dP 2]]),(2,B.blk 22 [dO 7 1 w7.length]),(3,B.blk 3 [dI b3]),(4,B.blk 28 [dI QQ,dI ZK,dI ZL]),(5,B.blk 163 [C.fn 104 [] [dP 0,dP 1,dP 3,dP 4,dP 5,dP 6]]),(6,B.blk 114 [C.fn 116 [] [dP 2]]),(7,bR 3 1 eI w7),(8,bR 4 1 eB e)],9,142⟩)):=
 by
 intro w7 w9 b0 b3 QQ ZK ZL Ju qbW q0K q0L qbX b10 JP zL h0 h1
 subst h0 h1
 revert b10;revert w9;exact qak qf4 qeM (fun e=>by exact⟨_,rfl,fun h=>by cases h⟩) fun w9 b10=>by
  have hF':∀(qE Je qX:Int) (qY:List qc) (Jf:List qb) (w7:List Int) (v:List qa) (v2 qI z6 z7:Int) (zL:Nat),zL=w7.length→rE (.fn 104) 7 [R.agg [dI qE,dI Je,dI qX,dL 2 qd qY,dL 5 qh Jf],rP 0,rP 1,rP 3,rP 4,rP 5,rP 6] [(0,B.blk 26 [dL 8 qe v]),(1,B.blk 114 [C.fn 115 [] [dP 2]]),(2,B.blk 22 [dO 7 1 zL]),(3,B.blk 3 [dI v2]),(4,B.blk 28 [dI qI,dI z6,dI z7]),(5,B.blk 163 [C.fn 104 [] [dP 0,dP 1,dP 3,dP 4,dP 5,dP 6]]),(6,B.blk 114 [C.fn 116 [] [dP 2]]),(7,bR 3 1 eI w7)]=(rF ((qb.mk qE Je qX qY Jf),w7,v,v2,(qg.mk qI z6 z7))).bind (fun e=>some (rL 1 eB e.1,[(0,B.blk 26 [dL 8 qe e.2.2.1]),(1,B.blk 114 [C.fn 115 [] [dP 2]]),(2,B.blk 22 [dO 7 1 e.2.1.length]),(3,B.blk 3 [dI e.2.2.2.1]),(4,B.blk 28 [dI e.2.2.2.2.Worst,dI e.2.2.2.2.Best,dI e.2.2.2.2.Pass]),(5,B.blk 163 [C.fn 104 [] [dP 0,dP 1,dP 3,dP 4,dP 5,dP 6]]),(6,B.blk 114 [C.fn 116 [] [dP 2]]),(7,bR 3 1 eI e.2.1)])):=by intro qE Je qX qY Jf w7 v v2 qI z6 z7 zL h0;subst h0;exact hF ((qb.mk qE Je qX qY Jf),w7,v,v2,(qg.mk qI z6 z7))
  have:=qa5;have:=@qb8.eq_1;have:=@q5h;have:=@q3i;have:=@q31;have:=@ZP.eq_1;exact gA
def QU (rF:(qb×List Int×List qa×Int×qg)→Option (List Bool×List Int×List qa×Int×qg)) (w7:List Int) (w9:List Bool) (b0:List qa) (b3:Int) (b4:qg) (b8:qb):(List Int×Int)→Option ((List Int×Int)⊕(List Int))|(w11,t13)=>if t13<((w11.length:Nat):Int) then if 0≤t13∧t13<((w11.length:Nat):Int) then if Int.toNat t13+1≤w11.length then some (Sum.inl (List.set w11 (Int.toNat t13) (-1),w64 (t13+1))) else none else none else some (Sum.inr w11)
theorem q5q (rE:Orc) (rF:(qb×List Int×List qa×Int×qg)→Option (List Bool×List Int×List qa×Int×qg)) (hF:∀y,rE (.fn 104) 7 (zc y).1 (zc y).2=(rF y).bind fun e=>some (Q9 e)) (hM:∀g k a G,g≠104→rE (.fn g) k a G=ev g k a G) (hR:∀g asg bd k a G,rE (.rd g asg bd) k a G=evr g asg bd k a G):∀(w7:List Int) (w9:List Bool) (w11:List Int) (b0:List qa) (b3 QQ ZK ZL Ju qbW q0K:Int) (q0L:List qc) (qbX:List qb) (t13:Int) (JP zL q4w:Nat),JP=w9.length→zL=w7.length→q4w=w11.length→XL2 rE 104 7 14 ⟨[(3,rP 3),(5,rP 5),(6,rP 6),(7,rP 8),(9,rO 9 1 JP),(12,rP 10),(13,rI t13)],[(0,B.blk 26 [dL 8 qe b0]),(1,B.blk 114 [C.fn 115 [] [dP 2]]),(2,B.blk 22 [dO 7 1 zL]),(3,B.blk 3 [dI b3]),(4,B.blk 28 [dI QQ,dI ZK,dI ZL]),(5,B.blk 163 [C.fn 104 [] [dP 0,dP 1,dP 3,dP 4,dP 5,dP 6]]),(6,B.blk 114 [C.fn 116 [] [dP 2]]),(7,bR 3 1 eI w7),(8,B.blk 36 [dI Ju,dI qbW,dI q0K,dL 2 qd q0L,dL 5 qh qbX]),(9,bR 4 1 eB w9),(10,B.blk 164 [dO 11 1 q4w]),(11,bR 3 1 eI w11)],12,142⟩=(zl (QU rF w7 w9 b0 b3 (qg.mk QQ ZK ZL) (qb.mk Ju qbW q0K q0L qbX)) (w11,t13)).bind (fun(e:List Int)=>some (Exit.exit 2,⟨[(3,rP 3),(5,rP 5),(6,rP 6),(7,rP 8),(9,rO 9 1 w9.length),(12,rP 10)],[(0,B.blk 26 [dL 8 qe b0]),(1,B.blk 114 [C.fn 115 [] [dP 2]]),(2,B.blk 22 [dO 7 1 w7.length]),(3,B.blk 3 [dI b3]),(4,B.blk 28 [dI QQ,dI ZK,dI ZL]),(5,B.blk 163 [C.fn 104 [] [dP 0,dP 1,dP 3,dP 4,dP 5,dP 6]]),(6,B.blk 114 [C.fn 116 [] [dP 2]]),(7,bR 3 1 eI w7),(8,B.blk 36 [dI Ju,dI qbW,dI q0K,dL 2 qd q0L,dL 5 qh qbX]),(9,bR 4 1 eB w9),(10,B.blk 164 [dO 11 1 e.length]),(11,bR 3 1 eI e)],12,142⟩)):=
 by
 intro w7 w9 w11 b0 b3 QQ ZK ZL Ju qbW q0K q0L qbX t13 JP zL q4w h0 h1 h2
 subst h0 h1 h2
 revert t13;revert w11;exact qak qjt qks (fun e=>by exact⟨_,rfl,fun h=>by cases h⟩) fun w11 t13=>by
  have hF':∀(qE Je qX:Int) (qY:List qc) (Jf:List qb) (w7:List Int) (v:List qa) (v2 qI z6 z7:Int) (zL:Nat),zL=w7.length→rE (.fn 104) 7 [R.agg [dI qE,dI Je,dI qX,dL 2 qd qY,dL 5 qh Jf],rP 0,rP 1,rP 3,rP 4,rP 5,rP 6] [(0,B.blk 26 [dL 8 qe v]),(1,B.blk 114 [C.fn 115 [] [dP 2]]),(2,B.blk 22 [dO 7 1 zL]),(3,B.blk 3 [dI v2]),(4,B.blk 28 [dI qI,dI z6,dI z7]),(5,B.blk 163 [C.fn 104 [] [dP 0,dP 1,dP 3,dP 4,dP 5,dP 6]]),(6,B.blk 114 [C.fn 116 [] [dP 2]]),(7,bR 3 1 eI w7)]=(rF ((qb.mk qE Je qX qY Jf),w7,v,v2,(qg.mk qI z6 z7))).bind (fun e=>some (rL 1 eB e.1,[(0,B.blk 26 [dL 8 qe e.2.2.1]),(1,B.blk 114 [C.fn 115 [] [dP 2]]),(2,B.blk 22 [dO 7 1 e.2.1.length]),(3,B.blk 3 [dI e.2.2.2.1]),(4,B.blk 28 [dI e.2.2.2.2.Worst,dI e.2.2.2.2.Best,dI e.2.2.2.2.Pass]),(5,B.blk 163 [C.fn 104 [] [dP 0,dP 1,dP 3,dP 4,dP 5,dP 6]]),(6,B.blk 114 [C.fn 116 [] [dP 2]]),(7,bR 3 1 eI e.2.1)])):=by intro qE Je qX qY Jf w7 v v2 qI z6 z7 zL h0;subst h0;exact hF ((qb.mk qE Je qX qY Jf),w7,v,v2,(qg.mk qI z6 z7))
  have:=qa5;have:=@qc1.eq_1;have:=@QU.eq_1;exact gA
def Qz (rF:(qb×List Int×List qa×Int×qg)→Option (List Bool×List Int×List qa×Int×qg)) (w7:List Int) (w9:List Bool) (w11:List Int) (b0:List qa) (b3:Int) (b4:qg) (b8:qb) (b12:List Bool) (t18:Bool) (t72:List qb) (t73:Int) (t74:Int) (t96:Int):(List Int×Int)→Option ((List Int×Int)⊕(List Int))|(w14,t97)=>if t97<t96 then if 0≤t97∧t97<((w14.length:Nat):Int) then if Int.toNat t97+1≤w14.length then if t18=Bool.true then if 0≤t97∧t97<((w11.length:Nat):Int) then Option.bind w11[Int.toNat t97]? fun(a2:Int)=>if 0≤t97∧t97<((w14.length:Nat):Int) then if Int.toNat t97+1≤w14.length then Option.bind (Qf t97 w11 (List.set (List.set w14 (Int.toNat t97) (-1)) (Int.toNat t97) a2) b12 t97) fun(a3:List Int)=>some (Sum.inl (a3,w64 (t97+1))) else none else none else none else Option.bind (Qf t97 w11 (List.set w14 (Int.toNat t97) (-1)) b12 t97) fun(a4:List Int)=>some (Sum.inl (a4,w64 (t97+1))) else none else none else some (Sum.inr w14)
theorem q5g (rE:Orc) (rF:(qb×List Int×List qa×Int×qg)→Option (List Bool×List Int×List qa×Int×qg)) (hF:∀y,rE (.fn 104) 7 (zc y).1 (zc y).2=(rF y).bind fun e=>some (Q9 e)) (hM:∀g k a G,g≠104→rE (.fn g) k a G=ev g k a G) (hR:∀g asg bd k a G,rE (.rd g asg bd) k a G=evr g asg bd k a G):∀(w7:List Int) (w9:List Bool) (w11 w14:List Int) (b0:List qa) (b3 QQ ZK ZL Ju qbW q0K:Int) (q0L:List qc) (qbX:List qb) (b12:List Bool) (t18:Bool) (t72:List qb) (t73 t74 t96 t97:Int) (JP zL q4w qje:Nat),JP=w9.length→zL=w7.length→q4w=w11.length→qje=w14.length→XL2 rE 104 7 25 ⟨[(3,rP 3),(5,rP 5),(6,rP 6),(7,rP 8),(9,rO 9 1 JP),(12,rP 10),(17,rP 12),(18,rB t18),(19,rP 13),(72,rL 5 qh t72),(73,rI t73),(74,rI t74),(96,rI t96),(97,rI t97)],[(0,B.blk 26 [dL 8 qe b0]),(1,B.blk 114 [C.fn 115 [] [dP 2]]),(2,B.blk 22 [dO 7 1 zL]),(3,B.blk 3 [dI b3]),(4,B.blk 28 [dI QQ,dI ZK,dI ZL]),(5,B.blk 163 [C.fn 104 [] [dP 0,dP 1,dP 3,dP 4,dP 5,dP 6]]),(6,B.blk 114 [C.fn 116 [] [dP 2]]),(7,bR 3 1 eI w7),(8,B.blk 36 [dI Ju,dI qbW,dI q0K,dL 2 qd q0L,dL 5 qh qbX]),(9,bR 4 1 eB w9),(10,B.blk 164 [dO 11 1 q4w]),(11,bR 3 1 eI w11),(12,B.blk 115 [dL 1 eB b12]),(13,B.blk 164 [dO 14 1 qje]),(14,bR 3 1 eI w14)],15,142⟩=(zl (Qz rF w7 w9 w11 b0 b3 (qg.mk QQ ZK ZL) (qb.mk Ju qbW q0K q0L qbX) b12 t18 t72 t73 t74 t96) (w14,t97)).bind (fun(e:List Int)=>some (Exit.exit 6,⟨[(3,rP 3),(5,rP 5),(6,rP 6),(7,rP 8),(9,rO 9 1 w9.length),(12,rP 10),(19,rP 12),(72,rL 5 qh t72),(73,rI t73),(74,rI t74)],[(0,B.blk 26 [dL 8 qe b0]),(1,B.blk 114 [C.fn 115 [] [dP 2]]),(2,B.blk 22 [dO 7 1 w7.length]),(3,B.blk 3 [dI b3]),(4,B.blk 28 [dI QQ,dI ZK,dI ZL]),(5,B.blk 163 [C.fn 104 [] [dP 0,dP 1,dP 3,dP 4,dP 5,dP 6]]),(6,B.blk 114 [C.fn 116 [] [dP 2]]),(7,bR 3 1 eI w7),(8,B.blk 36 [dI Ju,dI qbW,dI q0K,dL 2 qd q0L,dL 5 qh qbX]),(9,bR 4 1 eB w9),(10,B.blk 164 [dO 11 1 w11.length]),(11,bR 3 1 eI w11),(12,B.blk 164 [dO 13 1 e.length]),(13,bR 3 1 eI e)],14,142⟩)):=
 by
 intro w7 w9 w11 w14 b0 b3 QQ ZK ZL Ju qbW q0K q0L qbX b12 t18 t72 t73 t74 t96 t97 JP zL q4w qje h0 h1 h2 h3
 subst h0 h1 h2 h3
 revert t97;revert w14;exact qak qjm qkI (fun e=>by exact⟨_,rfl,fun h=>by cases h⟩) fun w14 t97=>by
  have hF':∀(qE Je qX:Int) (qY:List qc) (Jf:List qb) (w7:List Int) (v:List qa) (v2 qI z6 z7:Int) (zL:Nat),zL=w7.length→rE (.fn 104) 7 [R.agg [dI qE,dI Je,dI qX,dL 2 qd qY,dL 5 qh Jf],rP 0,rP 1,rP 3,rP 4,rP 5,rP 6] [(0,B.blk 26 [dL 8 qe v]),(1,B.blk 114 [C.fn 115 [] [dP 2]]),(2,B.blk 22 [dO 7 1 zL]),(3,B.blk 3 [dI v2]),(4,B.blk 28 [dI qI,dI z6,dI z7]),(5,B.blk 163 [C.fn 104 [] [dP 0,dP 1,dP 3,dP 4,dP 5,dP 6]]),(6,B.blk 114 [C.fn 116 [] [dP 2]]),(7,bR 3 1 eI w7)]=(rF ((qb.mk qE Je qX qY Jf),w7,v,v2,(qg.mk qI z6 z7))).bind (fun e=>some (rL 1 eB e.1,[(0,B.blk 26 [dL 8 qe e.2.2.1]),(1,B.blk 114 [C.fn 115 [] [dP 2]]),(2,B.blk 22 [dO 7 1 e.2.1.length]),(3,B.blk 3 [dI e.2.2.2.1]),(4,B.blk 28 [dI e.2.2.2.2.Worst,dI e.2.2.2.2.Best,dI e.2.2.2.2.Pass]),(5,B.blk 163 [C.fn 104 [] [dP 0,dP 1,dP 3,dP 4,dP 5,dP 6]]),(6,B.blk 114 [C.fn 116 [] [dP 2]]),(7,bR 3 1 eI e.2.1)])):=by intro qE Je qX qY Jf w7 v v2 qI z6 z7 zL h0;subst h0;exact hF ((qb.mk qE Je qX qY Jf),w7,v,v2,(qg.mk qI z6 z7))
  have:=qa5;have:=@qc3.eq_1;have:=@q2u;have:=@Qz.eq_1;exact gA
def QW (rF:(qb×List Int×List qa×Int×qg)→Option (List Bool×List Int×List qa×Int×qg)) (w9:List Bool) (b8:qb) (t72:List qb) (t73:Int):(List Int×List Int×List qa×Int×qg×Int)→Option ((List Int×List Int×List qa×Int×qg×Int)⊕(List Int×List Int×List qa×Int×qg))|(w7,w11,b0,b3,b4,t74)=>if t74<t73 then if 0≤t74∧t74<((t72.length:Nat):Int) then Option.bind t72[Int.toNat t74]? fun(a2:qb)=>Option.bind (rF (a2,(w7,(b0,(b3,b4))))) fun(a3:Prod (List Bool) (Prod (List Int) (Prod (List qa) (Prod Int qg))))=>if(b8.Kind==4)=Bool.true then Option.bind (q1V b3 a3.2.2.2.1 a3.2.1) fun(a4:Bool)=>if 0≤((w11.length:Nat):Int)∧8*((w11.length:Nat):Int)≤281474976710656∧((w11.length:Nat):Int)≤9223372036854775807 then Option.bind (zl (Qz rF a3.2.1 w9 w11 a3.2.2.1 a3.2.2.2.1 a3.2.2.2.2 b8 a3.1 (!a4) t72 t73 t74 ((w11.length:Nat):Int)) (List.replicate w11.length 0,0)) fun(a5:List Int)=>some (Sum.inl (a3.2.1,a5,a3.2.2.1,a3.2.2.2.1,a3.2.2.2.2,w64 (t74+1))) else none else if 0≤((w11.length:Nat):Int)∧8*((w11.length:Nat):Int)≤281474976710656∧((w11.length:Nat):Int)≤9223372036854775807 then Option.bind (zl (Qz rF a3.2.1 w9 w11 a3.2.2.1 a3.2.2.2.1 a3.2.2.2.2 b8 a3.1 Bool.false t72 t73 t74 ((w11.length:Nat):Int)) (List.replicate w11.length 0,0)) fun(a6:List Int)=>some (Sum.inl (a3.2.1,a6,a3.2.2.1,a3.2.2.2.1,a3.2.2.2.2,w64 (t74+1))) else none else none else some (Sum.inr (w7,w11,b0,b3,b4))
theorem q6A (rE:Orc) (rF:(qb×List Int×List qa×Int×qg)→Option (List Bool×List Int×List qa×Int×qg)) (hF:∀y,rE (.fn 104) 7 (zc y).1 (zc y).2=(rF y).bind fun e=>some (Q9 e)) (hM:∀g k a G,g≠104→rE (.fn g) k a G=ev g k a G) (hR:∀g asg bd k a G,rE (.rd g asg bd) k a G=evr g asg bd k a G):∀(w7:List Int) (w9:List Bool) (w11:List Int) (b0:List qa) (b3 QQ ZK ZL Ju qbW q0K:Int) (q0L:List qc) (qbX t72:List qb) (t73 t74:Int) (JP zL q4w:Nat),JP=w9.length→zL=w7.length→q4w=w11.length→XL2 rE 104 7 18 ⟨[(3,rP 3),(5,rP 5),(6,rP 6),(7,rP 8),(9,rO 9 1 JP),(12,rP 10),(72,rL 5 qh t72),(73,rI t73),(74,rI t74)],[(0,B.blk 26 [dL 8 qe b0]),(1,B.blk 114 [C.fn 115 [] [dP 2]]),(2,B.blk 22 [dO 7 1 zL]),(3,B.blk 3 [dI b3]),(4,B.blk 28 [dI QQ,dI ZK,dI ZL]),(5,B.blk 163 [C.fn 104 [] [dP 0,dP 1,dP 3,dP 4,dP 5,dP 6]]),(6,B.blk 114 [C.fn 116 [] [dP 2]]),(7,bR 3 1 eI w7),(8,B.blk 36 [dI Ju,dI qbW,dI q0K,dL 2 qd q0L,dL 5 qh qbX]),(9,bR 4 1 eB w9),(10,B.blk 164 [dO 11 1 q4w]),(11,bR 3 1 eI w11)],12,142⟩=(zl (QW rF w9 (qb.mk Ju qbW q0K q0L qbX) t72 t73) (w7,w11,b0,b3,(qg.mk QQ ZK ZL),t74)).bind (fun(e:List Int×List Int×List qa×Int×qg)=>some (Exit.exit 4,⟨[(7,rP 8),(9,rO 9 1 w9.length),(12,rP 10)],[(0,B.blk 26 [dL 8 qe e.2.2.1]),(1,B.blk 114 [C.fn 115 [] [dP 2]]),(2,B.blk 22 [dO 7 1 e.1.length]),(3,B.blk 3 [dI e.2.2.2.1]),(4,B.blk 28 [dI e.2.2.2.2.Worst,dI e.2.2.2.2.Best,dI e.2.2.2.2.Pass]),(5,B.blk 163 [C.fn 104 [] [dP 0,dP 1,dP 3,dP 4,dP 5,dP 6]]),(6,B.blk 114 [C.fn 116 [] [dP 2]]),(7,bR 3 1 eI e.1),(8,B.blk 36 [dI Ju,dI qbW,dI q0K,dL 2 qd q0L,dL 5 qh qbX]),(9,bR 4 1 eB w9),(10,B.blk 164 [dO 11 1 e.2.1.length]),(11,bR 3 1 eI e.2.1)],12,142⟩)):=
 by
 intro w7 w9 w11 b0 b3 QQ ZK ZL Ju qbW q0K q0L qbX t72 t73 t74 JP zL q4w h0 h1 h2
 subst h0 h1 h2
 have h:=q52 (E:=rE) (f:=104) (k:=7) (st:=fun x:List Int×List Int×List qa×Int×qg×Int=>(⟨[(3,rP 3),(5,rP 5),(6,rP 6),(7,rP 8),(9,rO 9 1 w9.length),(12,rP 10),(72,rL 5 qh t72),(73,rI t73),(74,rI x.2.2.2.2.2)],[(0,B.blk 26 [dL 8 qe x.2.2.1]),(1,B.blk 114 [C.fn 115 [] [dP 2]]),(2,B.blk 22 [dO 7 1 x.1.length]),(3,B.blk 3 [dI x.2.2.2.1]),(4,B.blk 28 [dI x.2.2.2.2.1.Worst,dI x.2.2.2.2.1.Best,dI x.2.2.2.2.1.Pass]),(5,B.blk 163 [C.fn 104 [] [dP 0,dP 1,dP 3,dP 4,dP 5,dP 6]]),(6,B.blk 114 [C.fn 116 [] [dP 2]]),(7,bR 3 1 eI x.1),(8,B.blk 36 [dI Ju,dI qbW,dI q0K,dL 2 qd q0L,dL 5 qh qbX]),(9,bR 4 1 eB w9),(10,B.blk 164 [dO 11 1 x.2.1.length]),(11,bR 3 1 eI x.2.1)],12,142⟩:S)) (ex:=fun(e:List Int×List Int×List qa×Int×qg)=>(Exit.exit 4,⟨[(7,rP 8),(9,rO 9 1 w9.length),(12,rP 10)],[(0,B.blk 26 [dL 8 qe e.2.2.1]),(1,B.blk 114 [C.fn 115 [] [dP 2]]),(2,B.blk 22 [dO 7 1 e.1.length]),(3,B.blk 3 [dI e.2.2.2.1]),(4,B.blk 28 [dI e.2.2.2.2.Worst,dI e.2.2.2.2.Best,dI e.2.2.2.2.Pass]),(5,B.blk 163 [C.fn 104 [] [dP 0,dP 1,dP 3,dP 4,dP 5,dP 6]]),(6,B.blk 114 [C.fn 116 [] [dP 2]]),(7,bR 3 1 eI e.1),(8,B.blk 36 [dI Ju,dI qbW,dI q0K,dL 2 qd q0L,dL 5 qh qbX]),(9,bR 4 1 eB w9),(10,B.blk 164 [dO 11 1 e.2.1.length]),(11,bR 3 1 eI e.2.1)],12,142⟩)) (step:=(QW rF w9 (qb.mk Ju qbW q0K q0L qbX) t72 t73)) qjE qjH (fun e h=>by cases h) (fun x=>by
  obtain⟨w7,w11,b0,b3,b4,t74⟩:=x;have hF':∀(qE Je qX:Int) (qY:List qc) (Jf:List qb) (w7:List Int) (v:List qa) (v2 qI z6 z7:Int) (zL:Nat),zL=w7.length→rE (.fn 104) 7 [R.agg [dI qE,dI Je,dI qX,dL 2 qd qY,dL 5 qh Jf],rP 0,rP 1,rP 3,rP 4,rP 5,rP 6] [(0,B.blk 26 [dL 8 qe v]),(1,B.blk 114 [C.fn 115 [] [dP 2]]),(2,B.blk 22 [dO 7 1 zL]),(3,B.blk 3 [dI v2]),(4,B.blk 28 [dI qI,dI z6,dI z7]),(5,B.blk 163 [C.fn 104 [] [dP 0,dP 1,dP 3,dP 4,dP 5,dP 6]]),(6,B.blk 114 [C.fn 116 [] [dP 2]]),(7,bR 3 1 eI w7)]=(rF ((qb.mk qE Je qX qY Jf),w7,v,v2,(qg.mk qI z6 z7))).bind (fun e=>some (rL 1 eB e.1,[(0,B.blk 26 [dL 8 qe e.2.2.1]),(1,B.blk 114 [C.fn 115 [] [dP 2]]),(2,B.blk 22 [dO 7 1 e.2.1.length]),(3,B.blk 3 [dI e.2.2.2.1]),(4,B.blk 28 [dI e.2.2.2.2.Worst,dI e.2.2.2.2.Best,dI e.2.2.2.2.Pass]),(5,B.blk 163 [C.fn 104 [] [dP 0,dP 1,dP 3,dP 4,dP 5,dP 6]]),(6,B.blk 114 [C.fn 116 [] [dP 2]]),(7,bR 3 1 eI e.2.1)])):=by intro qE Je qX qY Jf w7 v v2 qI z6 z7 zL h0;subst h0;exact hF ((qb.mk qE Je qX qY Jf),w7,v,v2,(qg.mk qI z6 z7))
  have:=qa5;have:=@qcd.eq_1;have:=@qau;have:=q5g rE rF hF hM hR;have:=@QW.eq_1;exact gA) (w7,w11,b0,b3,(qg.mk QQ ZK ZL),t74)
 exact h
def QV (rF:(qb×List Int×List qa×Int×qg)→Option (List Bool×List Int×List qa×Int×qg)) (w7:List Int) (w10:List Int) (b0:List qa) (b3:Int) (b4:qg) (t21:Int):(List Bool×Int)→Option ((List Bool×Int)⊕(List Bool))|(w8,t22)=>if t22<((w8.length:Nat):Int) then if 0≤t22∧t22<((w10.length:Nat):Int) then Option.bind w10[Int.toNat t22]? fun(a2:Int)=>if 0≤t22∧t22<((w8.length:Nat):Int) then if Int.toNat t22+1≤w8.length then some (Sum.inl (List.set w8 (Int.toNat t22) (decide (t21≤a2)),w64 (t22+1))) else none else none else none else some (Sum.inr w8)
theorem q6v (rE:Orc) (rF:(qb×List Int×List qa×Int×qg)→Option (List Bool×List Int×List qa×Int×qg)) (hF:∀y,rE (.fn 104) 7 (zc y).1 (zc y).2=(rF y).bind fun e=>some (Q9 e)) (hM:∀g k a G,g≠104→rE (.fn g) k a G=ev g k a G) (hR:∀g asg bd k a G,rE (.rd g asg bd) k a G=evr g asg bd k a G):∀(w7:List Int) (w8:List Bool) (w10:List Int) (b0:List qa) (b3 QQ ZK ZL t21 t22:Int) (qdw zL qjf:Nat),qdw=w8.length→zL=w7.length→qjf=w10.length→XL2 rE 104 7 38 ⟨[(9,rO 8 1 qdw),(12,rP 9),(21,rI t21),(22,rI t22)],[(0,B.blk 26 [dL 8 qe b0]),(1,B.blk 114 [C.fn 115 [] [dP 2]]),(2,B.blk 22 [dO 7 1 zL]),(3,B.blk 3 [dI b3]),(4,B.blk 28 [dI QQ,dI ZK,dI ZL]),(5,B.blk 163 [C.fn 104 [] [dP 0,dP 1,dP 3,dP 4,dP 5,dP 6]]),(6,B.blk 114 [C.fn 116 [] [dP 2]]),(7,bR 3 1 eI w7),(8,bR 4 1 eB w8),(9,B.blk 164 [dO 10 1 qjf]),(10,bR 3 1 eI w10)],11,142⟩=(zl (QV rF w7 w10 b0 b3 (qg.mk QQ ZK ZL) t21) (w8,t22)).bind (fun(e:List Bool)=>some (Exit.exit 8,⟨[(9,rO 8 1 e.length)],[(0,B.blk 26 [dL 8 qe b0]),(1,B.blk 114 [C.fn 115 [] [dP 2]]),(2,B.blk 22 [dO 7 1 w7.length]),(3,B.blk 3 [dI b3]),(4,B.blk 28 [dI QQ,dI ZK,dI ZL]),(5,B.blk 163 [C.fn 104 [] [dP 0,dP 1,dP 3,dP 4,dP 5,dP 6]]),(6,B.blk 114 [C.fn 116 [] [dP 2]]),(7,bR 3 1 eI w7),(8,bR 4 1 eB e)],9,142⟩)):=
 by
 intro w7 w8 w10 b0 b3 QQ ZK ZL t21 t22 qdw zL qjf h0 h1 h2
 subst h0 h1 h2
 revert t22;revert w8;exact qak qkQ qkx (fun e=>by exact⟨_,rfl,fun h=>by cases h⟩) fun w8 t22=>by
  have hF':∀(qE Je qX:Int) (qY:List qc) (Jf:List qb) (w7:List Int) (v:List qa) (v2 qI z6 z7:Int) (zL:Nat),zL=w7.length→rE (.fn 104) 7 [R.agg [dI qE,dI Je,dI qX,dL 2 qd qY,dL 5 qh Jf],rP 0,rP 1,rP 3,rP 4,rP 5,rP 6] [(0,B.blk 26 [dL 8 qe v]),(1,B.blk 114 [C.fn 115 [] [dP 2]]),(2,B.blk 22 [dO 7 1 zL]),(3,B.blk 3 [dI v2]),(4,B.blk 28 [dI qI,dI z6,dI z7]),(5,B.blk 163 [C.fn 104 [] [dP 0,dP 1,dP 3,dP 4,dP 5,dP 6]]),(6,B.blk 114 [C.fn 116 [] [dP 2]]),(7,bR 3 1 eI w7)]=(rF ((qb.mk qE Je qX qY Jf),w7,v,v2,(qg.mk qI z6 z7))).bind (fun e=>some (rL 1 eB e.1,[(0,B.blk 26 [dL 8 qe e.2.2.1]),(1,B.blk 114 [C.fn 115 [] [dP 2]]),(2,B.blk 22 [dO 7 1 e.2.1.length]),(3,B.blk 3 [dI e.2.2.2.1]),(4,B.blk 28 [dI e.2.2.2.2.Worst,dI e.2.2.2.2.Best,dI e.2.2.2.2.Pass]),(5,B.blk 163 [C.fn 104 [] [dP 0,dP 1,dP 3,dP 4,dP 5,dP 6]]),(6,B.blk 114 [C.fn 116 [] [dP 2]]),(7,bR 3 1 eI e.2.1)])):=by intro qE Je qX qY Jf w7 v v2 qI z6 z7 zL h0;subst h0;exact hF ((qb.mk qE Je qX qY Jf),w7,v,v2,(qg.mk qI z6 z7))
  have:=qa5;have:=@qc4.eq_1;have:=@QV.eq_1;exact gA
def q0e (rF:(qb×List Int×List qa×Int×qg)→Option (List Bool×List Int×List qa×Int×qg)):(qb×List Int×List qa×Int×qg)→Option (List Bool×List Int×List qa×Int×qg)|(x0,w7,v,v2,v3)=>if 0≤((v.length:Nat):Int) then if 0≤w64 (1*2 ^ min v.length (IntKind.bits IntKind.i64))∧1*w64 (1*2 ^ min v.length (IntKind.bits IntKind.i64))≤281474976710656∧w64 (1*2 ^ min v.length (IntKind.bits IntKind.i64))≤9223372036854775807 then if q02 x0=Bool.true then Option.bind (q1c x0.Kind) fun(a2:Sum Unit Unit)=>Sum.elim (fun(a3:Unit)=>Option.bind (zl (ZN rF w7 v v2 v3 x0) (List.replicate (Int.toNat (w64 (1*2 ^ min v.length (IntKind.bits IntKind.i64)))) Bool.false,1)) fun(a5:List Bool)=>some (a5,w7,v,w64 (v2+1),v3)) (fun(a4:Unit)=>Option.bind (zl (ZP rF w7 v v2 v3 x0) (List.replicate (Int.toNat (w64 (1*2 ^ min v.length (IntKind.bits IntKind.i64)))) Bool.false,1)) fun(a6:List Bool)=>some (a6,w7,v,w64 (v2+1),v3)) a2 else if 0≤((Int.toNat (w64 (1*2 ^ min v.length (IntKind.bits IntKind.i64))):Nat):Int)∧8*((Int.toNat (w64 (1*2 ^ min v.length (IntKind.bits IntKind.i64))):Nat):Int)≤281474976710656∧((Int.toNat (w64 (1*2 ^ min v.length (IntKind.bits IntKind.i64))):Nat):Int)≤9223372036854775807 then Option.bind (zl (QU rF w7 (List.replicate (Int.toNat (w64 (1*2 ^ min v.length (IntKind.bits IntKind.i64)))) Bool.false) v v2 v3 x0) (List.replicate (Int.toNat (w64 (1*2 ^ min v.length (IntKind.bits IntKind.i64)))) 0,1)) fun(a7:List Int)=>Option.bind (zl (QW rF (List.replicate (Int.toNat (w64 (1*2 ^ min v.length (IntKind.bits IntKind.i64)))) Bool.false) x0 x0.L ((x0.L.length:Nat):Int)) (w7,(a7,(v,(v2,(v3,0)))))) fun(a8:Prod (List Int) (Prod (List Int) (Prod (List qa) (Prod Int qg))))=>if(x0.Kind==3)=Bool.true then Option.bind (zl (QV rF a8.1 a8.2.1 a8.2.2.1 a8.2.2.2.1 a8.2.2.2.2 ((x0.L.length:Nat):Int)) (List.replicate (Int.toNat (w64 (1*2 ^ min v.length (IntKind.bits IntKind.i64)))) Bool.false,1)) fun(a9:List Bool)=>some (a9,a8.1,a8.2.2.1,a8.2.2.2.1,a8.2.2.2.2) else Option.bind (zl (QV rF a8.1 a8.2.1 a8.2.2.1 a8.2.2.2.1 a8.2.2.2.2 x0.N) (List.replicate (Int.toNat (w64 (1*2 ^ min v.length (IntKind.bits IntKind.i64)))) Bool.false,1)) fun(a10:List Bool)=>some (a10,a8.1,a8.2.2.1,a8.2.2.2.1,a8.2.2.2.2) else none else none else none
theorem q4M:q8i 104 7 zc Q9 q0e:=by
 intro rE rF hF hM hR x
 obtain⟨x0,w7,v,v2,v3⟩:=x
 show qaI rE 104 7 [R.agg [dI x0.Kind,dI x0.N,dI x0.Min,dL 2 qd x0.Set,dL 5 qh x0.L],rP 0,rP 1,rP 3,rP 4,rP 5,rP 6] [(0,B.blk 26 [dL 8 qe v]),(1,B.blk 114 [C.fn 115 [] [dP 2]]),(2,B.blk 22 [dO 7 1 w7.length]),(3,B.blk 3 [dI v2]),(4,B.blk 28 [dI v3.Worst,dI v3.Best,dI v3.Pass]),(5,B.blk 163 [C.fn 104 [] [dP 0,dP 1,dP 3,dP 4,dP 5,dP 6]]),(6,B.blk 114 [C.fn 116 [] [dP 2]]),(7,bR 3 1 eI w7)]=_
 have hF':∀(qE Je qX:Int) (qY:List qc) (Jf:List qb) (w7:List Int) (v:List qa) (v2 qI z6 z7:Int) (zL:Nat),zL=w7.length→rE (.fn 104) 7 [R.agg [dI qE,dI Je,dI qX,dL 2 qd qY,dL 5 qh Jf],rP 0,rP 1,rP 3,rP 4,rP 5,rP 6] [(0,B.blk 26 [dL 8 qe v]),(1,B.blk 114 [C.fn 115 [] [dP 2]]),(2,B.blk 22 [dO 7 1 zL]),(3,B.blk 3 [dI v2]),(4,B.blk 28 [dI qI,dI z6,dI z7]),(5,B.blk 163 [C.fn 104 [] [dP 0,dP 1,dP 3,dP 4,dP 5,dP 6]]),(6,B.blk 114 [C.fn 116 [] [dP 2]]),(7,bR 3 1 eI w7)]=(rF ((qb.mk qE Je qX qY Jf),w7,v,v2,(qg.mk qI z6 z7))).bind (fun e=>some (rL 1 eB e.1,[(0,B.blk 26 [dL 8 qe e.2.2.1]),(1,B.blk 114 [C.fn 115 [] [dP 2]]),(2,B.blk 22 [dO 7 1 e.2.1.length]),(3,B.blk 3 [dI e.2.2.2.1]),(4,B.blk 28 [dI e.2.2.2.2.Worst,dI e.2.2.2.2.Best,dI e.2.2.2.2.Pass]),(5,B.blk 163 [C.fn 104 [] [dP 0,dP 1,dP 3,dP 4,dP 5,dP 6]]),(6,B.blk 114 [C.fn 116 [] [dP 2]]),(7,bR 3 1 eI e.2.1)])):=by intro qE Je qX qY Jf w7 v v2 qI z6 z7 zL h0;subst h0;exact hF ((qb.mk qE Je qX qY Jf),w7,v,v2,(qg.mk qI z6 z7))
 rw[q4N qfw qhh]
 have:=qa5;have:=@q3S;have:=@q56;have:=q5W rE rF hF hM hR;have:=q5X rE rF hF hM hR;have:=q5q rE rF hF hM hR;have:=q6A rE rF hF hM hR;have:=q6v rE rF hF hM hR;have:=@q0e.eq_1;have:=@Q9.eq_1;exact gA
theorem q2O:∀x y,zc x=zc y→x=y:=by
 rintro⟨⟨qEl,qEm,qEn,qEo,qEp⟩,a1,a2,a3,⟨qOH,qOI,qOJ⟩⟩ ⟨⟨qEq,qEr,qEs,qEt,qEu⟩,b1,b2,b3,⟨qOK,qOL,qOM⟩⟩ h
 simp only[zc,Prod.mk.injEq,List.cons.injEq,R.c.injEq,R.agg.injEq,R.tup.injEq,C.d.injEq,C.own.injEq,C.ptr.injEq,C.eptr.injEq,D.int.injEq,D.bool.injEq,D.str.injEq,D.sl.injEq,B.blk.injEq,B.row.injEq,q11,q2P,q1K,q1N,q2h,q2f,q4n,q4m,q4o,q0W,true_and,and_true,qPs] at h
 simp only[h]
theorem q7a:∀x y,Q9 x=Q9 y→x=y:=by
 rintro⟨a0,a1,a2,a3,⟨qOH,qOI,qOJ⟩⟩ ⟨b0,b1,b2,b3,⟨qOK,qOL,qOM⟩⟩ h
 simp only[Q9,Prod.mk.injEq,List.cons.injEq,R.c.injEq,R.agg.injEq,R.tup.injEq,C.d.injEq,C.own.injEq,C.ptr.injEq,C.eptr.injEq,D.int.injEq,D.bool.injEq,D.str.injEq,D.sl.injEq,B.blk.injEq,B.row.injEq,q11,q2P,q1K,q1N,q2h,q2f,q4n,q4m,q4o,q0W,true_and,and_true,qPs] at h
 simp only[h]
def zK:(qb×List Int×List qa×Int×qg)→Option (List Bool×List Int×List qa×Int×qg):=q8A 104 7 zc Q9
theorem q9J (x:(qb×List Int×List qa×Int×qg)):zK x=q0e zK x:=qdd qnN.2.2.2 q2O q7a q4M x
theorem q8z (x0:qb) (w7:List Int) (v:List qa) (v2:Int) (v3:qg):ev 104 7 [R.agg [dI x0.Kind,dI x0.N,dI x0.Min,dL 2 qd x0.Set,dL 5 qh x0.L],rP 0,rP 1,rP 3,rP 4,rP 5,rP 6] [(0,B.blk 26 [dL 8 qe v]),(1,B.blk 114 [C.fn 115 [] [dP 2]]),(2,B.blk 22 [dO 7 1 w7.length]),(3,B.blk 3 [dI v2]),(4,B.blk 28 [dI v3.Worst,dI v3.Best,dI v3.Pass]),(5,B.blk 163 [C.fn 104 [] [dP 0,dP 1,dP 3,dP 4,dP 5,dP 6]]),(6,B.blk 114 [C.fn 116 [] [dP 2]]),(7,bR 3 1 eI w7)]=(zK (x0,w7,v,v2,v3)).bind (fun(e:List Bool×List Int×List qa×Int×qg)=>some (rL 1 eB e.1,[(0,B.blk 26 [dL 8 qe e.2.2.1]),(1,B.blk 114 [C.fn 115 [] [dP 2]]),(2,B.blk 22 [dO 7 1 e.2.1.length]),(3,B.blk 3 [dI e.2.2.2.1]),(4,B.blk 28 [dI e.2.2.2.2.Worst,dI e.2.2.2.2.Best,dI e.2.2.2.2.Pass]),(5,B.blk 163 [C.fn 104 [] [dP 0,dP 1,dP 3,dP 4,dP 5,dP 6]]),(6,B.blk 114 [C.fn 116 [] [dP 2]]),(7,bR 3 1 eI e.2.1)])):=(q9X qnN.2.2.2 q2O q4M (x0,w7,v,v2,v3))
theorem qa7:∀(qE Je qX:Int) (qY:List qc) (Jf:List qb) (w7:List Int) (v:List qa) (v2 qI z6 z7:Int) (zL:Nat),zL=w7.length→ev 104 7 [R.agg [dI qE,dI Je,dI qX,dL 2 qd qY,dL 5 qh Jf],rP 0,rP 1,rP 3,rP 4,rP 5,rP 6] [(0,B.blk 26 [dL 8 qe v]),(1,B.blk 114 [C.fn 115 [] [dP 2]]),(2,B.blk 22 [dO 7 1 zL]),(3,B.blk 3 [dI v2]),(4,B.blk 28 [dI qI,dI z6,dI z7]),(5,B.blk 163 [C.fn 104 [] [dP 0,dP 1,dP 3,dP 4,dP 5,dP 6]]),(6,B.blk 114 [C.fn 116 [] [dP 2]]),(7,bR 3 1 eI w7)]=(zK ((qb.mk qE Je qX qY Jf),w7,v,v2,(qg.mk qI z6 z7))).bind (fun(e:List Bool×List Int×List qa×Int×qg)=>some (rL 1 eB e.1,[(0,B.blk 26 [dL 8 qe e.2.2.1]),(1,B.blk 114 [C.fn 115 [] [dP 2]]),(2,B.blk 22 [dO 7 1 e.2.1.length]),(3,B.blk 3 [dI e.2.2.2.1]),(4,B.blk 28 [dI e.2.2.2.2.Worst,dI e.2.2.2.2.Best,dI e.2.2.2.2.Pass]),(5,B.blk 163 [C.fn 104 [] [dP 0,dP 1,dP 3,dP 4,dP 5,dP 6]]),(6,B.blk 114 [C.fn 116 [] [dP 2]]),(7,bR 3 1 eI e.2.1)])):=
 by
 intro qE Je qX qY Jf w7 v v2 qI z6 z7 zL h0
 subst h0
 exact q8z (qb.mk qE Je qX qY Jf) w7 v v2 (qg.mk qI z6 z7)
def q2x (n:qb) (s:qg) (l:List qa) (w1:List Int):Option (List Bool×List Int):=Option.bind (zK (n,(w1,(l,(0,s))))) fun(a:Prod (List Bool) (Prod (List Int) (Prod (List qa) (Prod Int qg))))=>some (a.1,a.2.1)
theorem qbS:∀(qB n_N qN:Int) (qO:List qc) (n_L:List qb) (zm zZ Q0:Int) (l:List qa) (w1:List Int) (QO:Nat),QO=w1.length→ev 61 1 [R.agg [dI qB,dI n_N,dI qN,dL 2 qd qO,dL 5 qh n_L],R.agg [dI zm,dI zZ,dI Q0],rL 8 qe l,R.c (C.fn 115 [] [dP 0]),R.c (C.fn 116 [] [dP 0])] [(0,B.blk 22 [dO 1 1 QO]),(1,bR 3 1 eI w1)]=(q2x (qb.mk qB n_N qN qO n_L) (qg.mk zm zZ Q0) l w1).bind (fun(e:List Bool×List Int)=>some (rL 1 eB e.1,[(0,B.blk 22 [dO 1 1 e.2.length]),(1,bR 3 1 eI e.2)])):=
 by
 intro qB n_N qN qO n_L zm zZ Q0 l w1 QO h0
 subst h0
 rw[qR qF2 qHC.2.2.2 qJB]
 have:=qK0;have:=@qa7;have:=@q2x.eq_1;exact gA
def JX (w4:List Int) (b0:qb) (b1:qg) (t2:List qa) (t3:Int) (t16:Int) (t49:Int) (t50:Int):(List Int)→Option ((List Int)⊕(List Int))|w3=>Option.bind (q2x b0 b1 t2 w3) fun(a:Prod (List Bool) (List Int))=>if 0≤t3∧t3<((a.1.length:Nat):Int) then Option.bind a.1[Int.toNat t3]? fun(a2:Bool)=>if(!a2)=Bool.true then if 0≤t16∧t16<((a.2.length:Nat):Int) then Option.bind a.2[Int.toNat t16]? fun(a3:Int)=>if 0≤t16∧t16<((a.2.length:Nat):Int) then if Int.toNat t16+1≤a.2.length then some (Sum.inl (List.set a.2 (Int.toNat t16) (w64 (a3+1)))) else none else none else none else some (Sum.inr a.2) else none
theorem q8I:∀(w3 w4:List Int) (q1t qh8 q3D:Int) (q3E:List qc) (q3R:List qb) (qV zu zw:Int) (t2:List qa) (t3 t16 t49 t50:Int) (ZH q2F:Nat),ZH=w4.length→q2F=w3.length→XL2 evo 72 0 14 ⟨[(2,rL 8 qe t2),(3,rI t3),(4,rP 0),(5,rP 1),(12,rP 2),(13,R.c (C.fn 115 [] [dP 2])),(14,R.c (C.fn 116 [] [dP 2])),(15,rO 4 1 ZH),(16,rI t16),(49,rI t49),(50,rI t50)],[(0,B.blk 36 [dI q1t,dI qh8,dI q3D,dL 2 qd q3E,dL 5 qh q3R]),(1,B.blk 28 [dI qV,dI zu,dI zw]),(2,B.blk 22 [dO 3 1 q2F]),(3,bR 3 1 eI w3),(4,bR 3 1 eI w4)],5,89⟩=(zl (JX w4 (qb.mk q1t qh8 q3D q3E q3R) (qg.mk qV zu zw) t2 t3 t16 t49 t50) w3).bind (fun(e:List Int)=>some (Exit.exit 2,⟨[(2,rL 8 qe t2),(3,rI t3),(4,rP 0),(5,rP 1),(12,rP 2),(13,R.c (C.fn 115 [] [dP 2])),(14,R.c (C.fn 116 [] [dP 2])),(15,rO 4 1 w4.length),(16,rI t16),(49,rI t49),(50,rI t50)],[(0,B.blk 36 [dI q1t,dI qh8,dI q3D,dL 2 qd q3E,dL 5 qh q3R]),(1,B.blk 28 [dI qV,dI zu,dI zw]),(2,B.blk 22 [dO 3 1 e.length]),(3,bR 3 1 eI e),(4,bR 3 1 eI w4)],5,89⟩)):=
 by
 intro w3 w4 q1t qh8 q3D q3E q3R qV zu zw t2 t3 t16 t49 t50 ZH q2F h0 h1
 subst h0 h1
 revert w3;exact qa6 qvD qv5 (fun e=>by exact⟨_,rfl,fun h=>by cases h⟩) fun x=>by
  have:=qGt;have:=@qhl.eq_1;have:=@qbS;have:=@JX.eq_1;exact gA
def Jb (b0:qb) (b1:qg) (t2:List qa) (t3:Int) (t49:Int):(List Int×List Int×Int)→Option ((List Int×List Int×Int)⊕(List Int))|(w3,w4,t50)=>if t50<t49 then if w3.length+1≤maxLen∧(w3.length+1)*8≤140737488355328 then if 0≤t50 then if(ZW Go.BinOp.and IntKind.i64 (Int.fdiv t3 (2 ^ min (Int.toNat t50) (IntKind.bits IntKind.i64))) 1==0)=Bool.true then some (Sum.inl (w3++[(-1)],w4,w64 (t50+1))) else if 0≤t50∧t50<((w3.length+1:Nat):Int) then if Int.toNat t50≤w3.length then Option.bind (zl (JX w4 b0 b1 t2 t3 t50 t49 t50) (List.set (w3++[(-1)]) (Int.toNat t50) 0)) fun(a:List Int)=>if 0≤t50∧t50<((a.length:Nat):Int) then Option.bind a[Int.toNat t50]? fun(a2:Int)=>if w4.length+1≤maxLen∧(w4.length+1)*8≤140737488355328 then some (Sum.inl (a,w4++[a2],w64 (t50+1))) else none else none else none else none else none else none else some (Sum.inr w4)
theorem q9b:∀(w3 w4:List Int) (q1t qh8 q3D:Int) (q3E:List qc) (q3R:List qb) (qV zu zw:Int) (t2:List qa) (t3 t49 t50:Int) (ZH q2F:Nat),ZH=w4.length→q2F=w3.length→XL2 evo 72 0 9 ⟨[(2,rL 8 qe t2),(3,rI t3),(4,rP 0),(5,rP 1),(12,rP 2),(13,R.c (C.fn 115 [] [dP 2])),(14,R.c (C.fn 116 [] [dP 2])),(15,rO 4 1 ZH),(49,rI t49),(50,rI t50)],[(0,B.blk 36 [dI q1t,dI qh8,dI q3D,dL 2 qd q3E,dL 5 qh q3R]),(1,B.blk 28 [dI qV,dI zu,dI zw]),(2,B.blk 22 [dO 3 1 q2F]),(3,bR 3 1 eI w3),(4,bR 3 1 eI w4)],5,89⟩=(zl (Jb (qb.mk q1t qh8 q3D q3E q3R) (qg.mk qV zu zw) t2 t3 t49) (w3,w4,t50)).bind (fun(e:List Int)=>some (Exit.exit 0,⟨[(15,rO 0 1 e.length)],[(0,bR 3 1 eI e)],1,89⟩)):=
 by
 intro w3 w4 q1t qh8 q3D q3E q3R qV zu zw t2 t3 t49 t50 ZH q2F h0 h1
 subst h0 h1
 revert t50;revert w4;revert w3;exact qFh qBv qCm (fun e=>by exact⟨_,rfl,fun h=>by cases h⟩) fun w3 w4 t50=>by
  have:=qGt;have:=@qnc.eq_1;have:=@q8I;have:=@Jb.eq_1;exact gA
theorem q7A:∀  (q1t qh8 q3D:Int) (q3E:List qc) (q3R:List qb) (qV zu zw:Int) (t2:List qa) (t3 t49 t50:Int),XL2 evo 72 0 9 ⟨[(2,rL 8 qe t2),(3,rI t3),(4,rP 0),(5,rP 1),(12,rP 2),(13,R.c (C.fn 115 [] [dP 2])),(14,R.c (C.fn 116 [] [dP 2])),(15,rO 4 1 0),(49,rI t49),(50,rI t50)],[(0,B.blk 36 [dI q1t,dI qh8,dI q3D,dL 2 qd q3E,dL 5 qh q3R]),(1,B.blk 28 [dI qV,dI zu,dI zw]),(2,B.blk 22 [dO 3 1 0]),(3,B.row 3 1 []),(4,B.row 3 1 [])],5,89⟩=(zl (Jb (qb.mk q1t qh8 q3D q3E q3R) (qg.mk qV zu zw) t2 t3 t49) ([],[],t50)).bind (fun(e:List Int)=>some (Exit.exit 0,⟨[(15,rO 0 1 e.length)],[(0,bR 3 1 eI e)],1,89⟩)):=by
 intro q1t qh8 q3D q3E q3R qV zu zw t2 t3 t49 t50;have h:=q9b [] [] ((qb.mk q1t qh8 q3D q3E q3R)).Kind ((qb.mk q1t qh8 q3D q3E q3R)).N ((qb.mk q1t qh8 q3D q3E q3R)).Min ((qb.mk q1t qh8 q3D q3E q3R)).Set ((qb.mk q1t qh8 q3D q3E q3R)).L ((qg.mk qV zu zw)).Worst ((qg.mk qV zu zw)).Best ((qg.mk qV zu zw)).Pass t2 t3 t49 t50 _ _ rfl rfl
 first
  | exact h
  | (simp only[rL,dL,bR,bZ,Nat.reduceAdd] at h;exact h)
def q1f (x0:qb) (x1:qg) (x2:List qa) (x3:Int):Option (List Int×Bool):=Option.bind (q2Y x0 x1 x2) fun(a:Prod (List Bool) Int)=>if(a.2 != 0)=Bool.true then some ([],Bool.false) else if x3<0 then some ([],Bool.false) else if((a.1.length:Nat):Int)≤x3 then some ([],Bool.false) else if 0≤x3∧x3<((a.1.length:Nat):Int) then Option.bind a.1[Int.toNat x3]? fun(a2:Bool)=>if(!a2)=Bool.true then some ([],Bool.false) else if 0≤((x2.length:Nat):Int)∧8*((x2.length:Nat):Int)≤281474976710656∧((x2.length:Nat):Int)≤9223372036854775807 then Option.bind (zl (Jb x0 x1 x2 x3 ((x2.length:Nat):Int)) ([],([],0))) fun(a3:List Int)=>some (a3,Bool.true) else none else none
theorem qct:∀(qE Je qX:Int) (qY:List qc) (Jf:List qb) (ZV JT JU:Int) (x2:List qa) (x3:Int),ev 72 0 [R.agg [dI qE,dI Je,dI qX,dL 2 qd qY,dL 5 qh Jf],R.agg [dI ZV,dI JT,dI JU],rL 8 qe x2,rI x3] []=(q1f (qb.mk qE Je qX qY Jf) (qg.mk ZV JT JU) x2 x3).bind (fun(e:List Int×Bool)=>some (R.tup [rL 1 eI e.1,rB e.2],[])):=
 fun qE Je qX qY Jf ZV JT JU x2 x3=>by
  rw[qR qyE qKf.2.2.2 qG5]
  have:=qGt;have:=@qa4;have:=@q7A;have:=@q1f.eq_1;exact gA
def Qy (w2:List Int) (b0:qf) (b1:qg) (t2:List qa) (t3:List Bool) (t4:Int) (t11:Bool) (t12:Int) (t46:List Int) (t47:Int):(List Int×List Int×Int)→Option ((List Int×List Int×Int)⊕(List Int))|(w3,t13,t48)=>if t48<t47 then if 0≤t48∧t48<((t46.length:Nat):Int) then Option.bind t46[Int.toNat t48]? fun(a:Int)=>if 0≤a then if(ZW Go.BinOp.and IntKind.i64 (Int.fdiv t12 (2 ^ min (Int.toNat a) (IntKind.bits IntKind.i64))) 1==0)=Bool.true then if w3.length+1≤maxLen∧(w3.length+1)*8≤140737488355328 then some (Sum.inl (w3++[(-1)],t13,w64 (t48+1))) else none else if 0<((t13.length:Nat):Int) then Option.bind t13[0]? fun(a2:Int)=>if w3.length+1≤maxLen∧(w3.length+1)*8≤140737488355328 then if 1≤((t13.length:Nat):Int) then some (Sum.inl (w3++[a2],List.take (t13.length-1) (List.drop 1 t13),w64 (t48+1))) else none else none else none else none else none else some (Sum.inr w3)
theorem q7B:∀(w2 w3:List Int) (qp zn qn qz:Int) (qA:ByteArray) (qi qq qk:Int) (qm:List qc) (qr:List qb) (qt qF qG:Int) (qo:List (JS qc)) (qV zu zw:Int) (t2:List qa) (t3:List Bool) (t4:Int) (t11:Bool) (t12:Int) (t13 t46:List Int) (t47 t48:Int) (q2G q2F:Nat),q2G=w2.length→q2F=w3.length→XL2 evo 39 0 9 ⟨[(2,rL 8 qe t2),(3,rL 1 eB t3),(4,rI t4),(5,rP 0),(6,rP 1),(10,rO 2 1 q2G),(11,rB t11),(12,rI t12),(13,rL 1 eI t13),(15,rO 3 1 q2F),(46,rL 1 eI t46),(47,rI t47),(48,rI t48)],[(0,B.blk 39 [dI qp,dI zn,dI qn,dI qz,dS qA,dI qi,dI qq,dI qk,dL 2 qd qm,dL 5 qh qr,dI qt,dI qF,dI qG,dL 4 (eA2 qd) qo]),(1,B.blk 28 [dI qV,dI zu,dI zw]),(2,bR 3 1 eI w2),(3,bR 3 1 eI w3)],4,80⟩=(zl (Qy w2 (qf.mk qp zn qn qz qA (qb.mk qi qq qk qm qr) qt qF qG qo) (qg.mk qV zu zw) t2 t3 t4 t11 t12 t46 t47) (w3,t13,t48)).bind (fun(e:List Int)=>some (Exit.exit 2,⟨[(2,rL 8 qe t2),(3,rL 1 eB t3),(4,rI t4),(5,rP 0),(6,rP 1),(10,rO 2 1 w2.length),(11,rB t11),(12,rI t12),(15,rO 3 1 e.length)],[(0,B.blk 39 [dI qp,dI zn,dI qn,dI qz,dS qA,dI qi,dI qq,dI qk,dL 2 qd qm,dL 5 qh qr,dI qt,dI qF,dI qG,dL 4 (eA2 qd) qo]),(1,B.blk 28 [dI qV,dI zu,dI zw]),(2,bR 3 1 eI w2),(3,bR 3 1 eI e)],4,80⟩)):=
 by
 intro w2 w3 qp zn qn qz qA qi qq qk qm qr qt qF qG qo qV zu zw t2 t3 t4 t11 t12 t13 t46 t47 t48 q2G q2F h0 h1
 subst h0 h1
 revert t48;revert t13;revert w3;exact qFh qzt qDV (fun e=>by exact⟨_,rfl,fun h=>by cases h⟩) fun w3 t13 t48=>by
  have:=qFD;have:=@qpy.eq_1;have:=@Qy.eq_1;exact gA
theorem q5F:∀  (w2:List Int) (qp zn qn qz:Int) (qA:ByteArray) (qi qq qk:Int) (qm:List qc) (qr:List qb) (qt qF qG:Int) (qo:List (JS qc)) (qV zu zw:Int) (t2:List qa) (t3:List Bool) (t4:Int) (t11:Bool) (t12:Int) (t13 t46:List Int) (t47 t48:Int) (q2G:Nat),q2G=w2.length→XL2 evo 39 0 9 ⟨[(2,rL 8 qe t2),(3,rL 1 eB t3),(4,rI t4),(5,rP 0),(6,rP 1),(10,rO 2 1 q2G),(11,rB t11),(12,rI t12),(13,rL 1 eI t13),(15,rO 3 1 0),(46,rL 1 eI t46),(47,rI t47),(48,rI t48)],[(0,B.blk 39 [dI qp,dI zn,dI qn,dI qz,dS qA,dI qi,dI qq,dI qk,dL 2 qd qm,dL 5 qh qr,dI qt,dI qF,dI qG,dL 4 (eA2 qd) qo]),(1,B.blk 28 [dI qV,dI zu,dI zw]),(2,bR 3 1 eI w2),(3,B.row 3 1 [])],4,80⟩=(zl (Qy w2 (qf.mk qp zn qn qz qA (qb.mk qi qq qk qm qr) qt qF qG qo) (qg.mk qV zu zw) t2 t3 t4 t11 t12 t46 t47) ([],t13,t48)).bind (fun(e:List Int)=>some (Exit.exit 2,⟨[(2,rL 8 qe t2),(3,rL 1 eB t3),(4,rI t4),(5,rP 0),(6,rP 1),(10,rO 2 1 w2.length),(11,rB t11),(12,rI t12),(15,rO 3 1 e.length)],[(0,B.blk 39 [dI qp,dI zn,dI qn,dI qz,dS qA,dI qi,dI qq,dI qk,dL 2 qd qm,dL 5 qh qr,dI qt,dI qF,dI qG,dL 4 (eA2 qd) qo]),(1,B.blk 28 [dI qV,dI zu,dI zw]),(2,bR 3 1 eI w2),(3,bR 3 1 eI e)],4,80⟩)):=by
 intro w2 qp zn qn qz qA qi qq qk qm qr qt qF qG qo qV zu zw t2 t3 t4 t11 t12 t13 t46 t47 t48 q2G h0;subst h0;have h:=q7B w2 [] ((qf.mk qp zn qn qz qA (qb.mk qi qq qk qm qr) qt qF qG qo)).School ((qf.mk qp zn qn qz qA (qb.mk qi qq qk qm qr) qt qF qG qo)).Id ((qf.mk qp zn qn qz qA (qb.mk qi qq qk qm qr) qt qF qG qo)).Version ((qf.mk qp zn qn qz qA (qb.mk qi qq qk qm qr) qt qF qG qo)).From ((qf.mk qp zn qn qz qA (qb.mk qi qq qk qm qr) qt qF qG qo)).Name ((qf.mk qp zn qn qz qA (qb.mk qi qq qk qm qr) qt qF qG qo)).Need.Kind ((qf.mk qp zn qn qz qA (qb.mk qi qq qk qm qr) qt qF qG qo)).Need.N ((qf.mk qp zn qn qz qA (qb.mk qi qq qk qm qr) qt qF qG qo)).Need.Min ((qf.mk qp zn qn qz qA (qb.mk qi qq qk qm qr) qt qF qG qo)).Need.Set ((qf.mk qp zn qn qz qA (qb.mk qi qq qk qm qr) qt qF qG qo)).Need.L ((qf.mk qp zn qn qz qA (qb.mk qi qq qk qm qr) qt qF qG qo)).Total ((qf.mk qp zn qn qz qA (qb.mk qi qq qk qm qr) qt qF qG qo)).Own ((qf.mk qp zn qn qz qA (qb.mk qi qq qk qm qr) qt qF qG qo)).Age ((qf.mk qp zn qn qz qA (qb.mk qi qq qk qm qr) qt qF qG qo)).Exclude ((qg.mk qV zu zw)).Worst ((qg.mk qV zu zw)).Best ((qg.mk qV zu zw)).Pass t2 t3 t4 t11 t12 t13 t46 t47 t48 _ _ rfl rfl
 first
  | exact h
  | (simp only[rL,dL,bR,bZ,Nat.reduceAdd] at h;exact h)
def Zc (b0:qf) (b1:qg) (t2:List qa) (t3:List Bool) (t4:Int):(List Int×Bool×Int)→Option ((List Int×Bool×Int)⊕(List Int×Bool))|(w2,t11,t12)=>if 0≤t12 then if(ZW Go.BinOp.andNot IntKind.i64 t12 t4 != 0)=Bool.true then some (Sum.inl (w2,t11,w64 (t12-1))) else if 0≤t12∧t12<((t3.length:Nat):Int) then Option.bind t3[Int.toNat t12]? fun(a:Bool)=>if(!a)=Bool.true then some (Sum.inl (w2,t11,w64 (t12-1))) else Option.bind (q1f b0.Need b1 t2 t12) fun(a2:Prod (List Int) Bool)=>if(!a2.2)=Bool.true then some (Sum.inl (w2,t11,w64 (t12-1))) else Option.bind (ZT t4) fun(a3:List Int)=>Option.bind (zl (Qy w2 b0 b1 t2 t3 t4 t11 t12 a3 ((a3.length:Nat):Int)) ([],(a2.1,0))) fun(a4:List Int)=>if(!t11)=Bool.true then some (Sum.inl (a4,Bool.true,w64 (t12-1))) else Option.bind (QR a4 w2) fun(a5:Int)=>if a5<0 then some (Sum.inl (a4,Bool.true,w64 (t12-1))) else some (Sum.inl (w2,t11,w64 (t12-1))) else none else some (Sum.inr (w2,t11))
theorem q6R:∀(w2:List Int) (qp zn qn qz:Int) (qA:ByteArray) (qi qq qk:Int) (qm:List qc) (qr:List qb) (qt qF qG:Int) (qo:List (JS qc)) (qV zu zw:Int) (t2:List qa) (t3:List Bool) (t4:Int) (t11:Bool) (t12:Int) (q2G:Nat),q2G=w2.length→XL2 evo 39 0 2 ⟨[(2,rL 8 qe t2),(3,rL 1 eB t3),(4,rI t4),(5,rP 0),(6,rP 1),(10,rO 2 1 q2G),(11,rB t11),(12,rI t12)],[(0,B.blk 39 [dI qp,dI zn,dI qn,dI qz,dS qA,dI qi,dI qq,dI qk,dL 2 qd qm,dL 5 qh qr,dI qt,dI qF,dI qG,dL 4 (eA2 qd) qo]),(1,B.blk 28 [dI qV,dI zu,dI zw]),(2,bR 3 1 eI w2)],3,80⟩=(zl (Zc (qf.mk qp zn qn qz qA (qb.mk qi qq qk qm qr) qt qF qG qo) (qg.mk qV zu zw) t2 t3 t4) (w2,t11,t12)).bind (fun(e:List Int×Bool)=>some (Exit.exit 0,⟨[(10,rO 0 1 e.1.length),(11,rB e.2)],[(0,bR 3 1 eI e.1)],1,80⟩)):=
 by
 intro w2 qp zn qn qz qA qi qq qk qm qr qt qF qG qo qV zu zw t2 t3 t4 t11 t12 q2G h0
 subst h0
 revert t12;revert t11;revert w2;exact qFh qCx qBK (fun e=>by exact⟨_,rfl,fun h=>by cases h⟩) fun w2 t11 t12=>by
  have:=qFD;have:=@qoz.eq_1;have:=@qct;have:=@q2e;have:=@q5F;have:=@q1q;have:=@Zc.eq_1;exact gA
theorem q5E:∀  (qp zn qn qz:Int) (qA:ByteArray) (qi qq qk:Int) (qm:List qc) (qr:List qb) (qt qF qG:Int) (qo:List (JS qc)) (qV zu zw:Int) (t2:List qa) (t3:List Bool) (t4:Int) (t11:Bool) (t12:Int),XL2 evo 39 0 2 ⟨[(2,rL 8 qe t2),(3,rL 1 eB t3),(4,rI t4),(5,rP 0),(6,rP 1),(10,rO 2 1 0),(11,rB t11),(12,rI t12)],[(0,B.blk 39 [dI qp,dI zn,dI qn,dI qz,dS qA,dI qi,dI qq,dI qk,dL 2 qd qm,dL 5 qh qr,dI qt,dI qF,dI qG,dL 4 (eA2 qd) qo]),(1,B.blk 28 [dI qV,dI zu,dI zw]),(2,B.row 3 1 [])],3,80⟩=(zl (Zc (qf.mk qp zn qn qz qA (qb.mk qi qq qk qm qr) qt qF qG qo) (qg.mk qV zu zw) t2 t3 t4) ([],t11,t12)).bind (fun(e:List Int×Bool)=>some (Exit.exit 0,⟨[(10,rO 0 1 e.1.length),(11,rB e.2)],[(0,bR 3 1 eI e.1)],1,80⟩)):=by
 intro qp zn qn qz qA qi qq qk qm qr qt qF qG qo qV zu zw t2 t3 t4 t11 t12;have h:=q6R [] ((qf.mk qp zn qn qz qA (qb.mk qi qq qk qm qr) qt qF qG qo)).School ((qf.mk qp zn qn qz qA (qb.mk qi qq qk qm qr) qt qF qG qo)).Id ((qf.mk qp zn qn qz qA (qb.mk qi qq qk qm qr) qt qF qG qo)).Version ((qf.mk qp zn qn qz qA (qb.mk qi qq qk qm qr) qt qF qG qo)).From ((qf.mk qp zn qn qz qA (qb.mk qi qq qk qm qr) qt qF qG qo)).Name ((qf.mk qp zn qn qz qA (qb.mk qi qq qk qm qr) qt qF qG qo)).Need.Kind ((qf.mk qp zn qn qz qA (qb.mk qi qq qk qm qr) qt qF qG qo)).Need.N ((qf.mk qp zn qn qz qA (qb.mk qi qq qk qm qr) qt qF qG qo)).Need.Min ((qf.mk qp zn qn qz qA (qb.mk qi qq qk qm qr) qt qF qG qo)).Need.Set ((qf.mk qp zn qn qz qA (qb.mk qi qq qk qm qr) qt qF qG qo)).Need.L ((qf.mk qp zn qn qz qA (qb.mk qi qq qk qm qr) qt qF qG qo)).Total ((qf.mk qp zn qn qz qA (qb.mk qi qq qk qm qr) qt qF qG qo)).Own ((qf.mk qp zn qn qz qA (qb.mk qi qq qk qm qr) qt qF qG qo)).Age ((qf.mk qp zn qn qz qA (qb.mk qi qq qk qm qr) qt qF qG qo)).Exclude ((qg.mk qV zu zw)).Worst ((qg.mk qV zu zw)).Best ((qg.mk qV zu zw)).Pass t2 t3 t4 t11 t12 _ rfl
 first
  | exact h
  | (simp only[rL,dL,bR,bZ,Nat.reduceAdd] at h;exact h)
def q1n (x0:qf) (x1:qg) (x2:List qa) (x3:List Bool) (x4:Int):Option (List Int×Bool):=Option.bind (zl (Zc x0 x1 x2 x3 x4) ([],(Bool.false,x4))) fun(a:Prod (List Int) Bool)=>some (a.1,a.2)
theorem qa0:∀(zM q0R zy QK:Int) (QL:ByteArray) (qT zN z8:Int) (za:List qc) (zO:List qb) (Qe ZX ZY:Int) (zz:List (JS qc)) (ZV JT JU:Int) (x2:List qa) (x3:List Bool) (x4:Int),ev 39 0 [R.agg [dI zM,dI q0R,dI zy,dI QK,dS QL,dI qT,dI zN,dI z8,dL 2 qd za,dL 5 qh zO,dI Qe,dI ZX,dI ZY,dL 4 (eA2 qd) zz],R.agg [dI ZV,dI JT,dI JU],rL 8 qe x2,rL 1 eB x3,rI x4] []=(q1n (qf.mk zM q0R zy QK QL (qb.mk qT zN z8 za zO) Qe ZX ZY zz) (qg.mk ZV JT JU) x2 x3 x4).bind (fun(e:List Int×Bool)=>some (R.tup [rL 1 eI e.1,rB e.2],[])):=
 fun zM q0R zy QK QL qT zN z8 za zO Qe ZX ZY zz ZV JT JU x2 x3 x4=>by
  rw[qR qBO qJo.2.2.2 qIN]
  have:=qFD;have:=@q5E;have:=@q1n.eq_1;exact gA
theorem qJA:okL 40 qkl:=qS (ql qEy) (by kernel_rfl) (by kernel_rfl)
def qJ8:=JA_ @qkl.eq_1 (JA_ @Tryz.f40.eq_1 @qEy)
theorem qCK:lbO 40 2=qmM:=Qr (ql qEy) rfl
theorem qyX:okL 40 qmM:=zJ qJA (qP9 (i:=0) (by kernel_rfl))
def Qs (l:List Int) (t7:List Int) (t8:Int):(List Int×Int)→Option ((List Int×Int)⊕(List Int))|(out,t9)=>if t9<t8 then if 0≤t9∧t9<((t7.length:Nat):Int) then Option.bind t7[Int.toNat t9]? fun(a:Int)=>if 0≤a∧a<((l.length:Nat):Int) then Option.bind l[Int.toNat a]? fun(a2:Int)=>if out.length+1≤maxLen∧(out.length+1)*8≤140737488355328 then some (Sum.inl (out++[a2],w64 (t9+1))) else none else none else none else some (Sum.inr out)
theorem q51:∀(out l t7:List Int) (t8 t9:Int) (Z0:Nat),Z0=out.length→XL2 evo 40 0 2 ⟨[(0,rL 1 eI l),(4,rO 0 1 Z0),(7,rL 1 eI t7),(8,rI t8),(9,rI t9)],[(0,bR 3 1 eI out)],1,22⟩=(zl (Qs l t7 t8) (out,t9)).bind (fun(e:List Int)=>some (Exit.exit 0,⟨[(4,rO 0 1 e.length)],[(0,bR 3 1 eI e)],1,22⟩)):=
 by
 intro out l t7 t8 t9 Z0 h0
 subst h0
 revert t9;revert out;exact qak qCK qyX (fun e=>by exact⟨_,rfl,fun h=>by cases h⟩) fun out t9=>by
  have:=qJ8;have:=@qmM.eq_1;have:=@Qs.eq_1;exact gA
theorem q3X:∀  (l t7:List Int) (t8 t9:Int),XL2 evo 40 0 2 ⟨[(0,rL 1 eI l),(4,rO 0 1 0),(7,rL 1 eI t7),(8,rI t8),(9,rI t9)],[(0,B.row 3 1 [])],1,22⟩=(zl (Qs l t7 t8) ([],t9)).bind (fun(e:List Int)=>some (Exit.exit 0,⟨[(4,rO 0 1 e.length)],[(0,bR 3 1 eI e)],1,22⟩)):=by
 intro l t7 t8 t9;have h:=q51 [] l t7 t8 t9 _ rfl
 first
  | exact h
  | (simp only[rL,dL,bR,bZ,Nat.reduceAdd] at h;exact h)
def J3 (l:List Int) (at0:List Int):Option (List Int):=Option.bind (zl (Qs l at0 ((at0.length:Nat):Int)) ([],0)) fun(a:List Int)=>some a
theorem q6u:∀(l at0:List Int),ev 40 0 [rL 1 eI l,rL 1 eI at0] []=(J3 l at0).bind (fun(e:List Int)=>some (rL 1 eI e,[])):=
 fun l at0=>by
  rw[qR qEy qJG.2.2.2 qJA]
  have:=qJ8;have:=@q3X;have:=@J3.eq_1;exact gA
def JM (t67:Int) (v:qf) (v2:qg) (v3:Int) (v4:Int) (v5:List Int) (v6:List qa) (v7:List Bool):Option (Unit⊕qP):=Option.bind (ZT t67) fun(a:List Int)=>Option.bind (zQ v6 a) fun(a2:List qa)=>Option.bind (JJ v a2 v3) fun(a3:Bool)=>if(!a3)=Bool.true then some (Sum.inl ()) else Option.bind (q1n v v2 v6 v7 t67) fun(a4:Prod (List Int) Bool)=>if a4.2=Bool.true then Option.bind (J3 v5 a) fun(a5:List Int)=>some (Sum.inr (qP.mk a5 a4.1)) else some (Sum.inl ())
theorem q6D:∀(t67 q04 qEx q7G qh9:Int) (qha:ByteArray) (q4x qab q5J:Int) (q5K:List qc) (qac:List qb) (qdA qqc qqd:Int) (q7H:List (JS qc)) (qad qdB qdC v3 v4:Int) (v5:List Int) (v6:List qa) (v7:List Bool),evr 15 (raO 15 19) (rbO 15 19) 9 (R.any::R.any::R.any::R.any::rP 0::rP 1::R.any::rP 2::rP 3::rP 4::R.any::rP 5::R.any::R.any::rP 6::rP 7::R.any::R.any::R.any::R.any::R.any::R.any::R.any::R.any::R.any::R.any::R.any::R.any::R.any::R.any::R.any::R.any::R.any::R.any::R.any::R.any::R.any::R.any::R.any::R.any::R.any::R.any::R.any::R.any::R.any::R.any::R.any::R.any::R.any::R.any::R.any::R.any::R.any::R.any::R.any::R.any::R.any::R.any::R.any::R.any::R.any::R.any::R.any::R.any::R.any::R.any::R.any::rI t67::qKv) [(0,B.blk 39 [dI q04,dI qEx,dI q7G,dI qh9,dS qha,dI q4x,dI qab,dI q5J,dL 2 qd q5K,dL 5 qh qac,dI qdA,dI qqc,dI qqd,dL 4 (eA2 qd) q7H]),(1,B.blk 28 [dI qad,dI qdB,dI qdC]),(2,B.blk 3 [dI v3]),(3,B.blk 48 [C.nils,C.nils]),(4,B.blk 49 [dI v4]),(5,B.blk 22 [dL 1 eI v5]),(6,B.blk 26 [dL 8 qe v6]),(7,B.blk 88 [dL 1 eB v7]),(8,B.ob (AO.lp 15 (R.any::R.any::R.any::R.any::rP 0::rP 1::R.any::rP 2::rP 3::rP 4::R.any::rP 5::R.any::R.any::rP 6::rP 7::qlE) [67] (raO 15 19) (rbO 15 19) LoopState.ready none))]=(JM t67 (qf.mk q04 qEx q7G qh9 qha (qb.mk q4x qab q5J q5K qac) qdA qqc qqd q7H) (qg.mk qad qdB qdC) v3 v4 v5 v6 v7).bind (Sum.elim (fun(e:Unit)=>some (rB Bool.true,[(0,B.blk 39 [dI q04,dI qEx,dI q7G,dI qh9,dS qha,dI q4x,dI qab,dI q5J,dL 2 qd q5K,dL 5 qh qac,dI qdA,dI qqc,dI qqd,dL 4 (eA2 qd) q7H]),(1,B.blk 28 [dI qad,dI qdB,dI qdC]),(2,B.blk 3 [dI v3]),(3,B.blk 48 [C.nils,C.nils]),(4,B.blk 49 [dI v4]),(5,B.blk 22 [dL 1 eI v5]),(6,B.blk 26 [dL 8 qe v6]),(7,B.blk 88 [dL 1 eB v7]),(8,B.ob (AO.lp 15 (R.any::R.any::R.any::R.any::rP 0::rP 1::R.any::rP 2::rP 3::rP 4::R.any::rP 5::R.any::R.any::rP 6::rP 7::qlE) [67] (raO 15 19) (rbO 15 19) LoopState.ready none))])) (fun(e:qP)=>some (rB Bool.false,[(0,B.blk 39 [dI q04,dI qEx,dI q7G,dI qh9,dS qha,dI q4x,dI qab,dI q5J,dL 2 qd q5K,dL 5 qh qac,dI qdA,dI qqc,dI qqd,dL 4 (eA2 qd) q7H]),(1,B.blk 28 [dI qad,dI qdB,dI qdC]),(2,B.blk 3 [dI v3]),(3,B.blk 48 [dL 1 eI e.Taken,dL 1 eI e.Leaf]),(4,B.blk 49 [dI 0]),(5,B.blk 22 [dL 1 eI v5]),(6,B.blk 26 [dL 8 qe v6]),(7,B.blk 88 [dL 1 eB v7]),(8,B.ob (AO.lp 15 (R.any::R.any::R.any::R.any::rP 0::rP 1::R.any::rP 2::rP 3::rP 4::R.any::rP 5::R.any::R.any::rP 6::rP 7::qlE) [67] (raO 15 19) (rbO 15 19) LoopState.done (some Code.ret)))]))):=
 fun t67 q04 qEx q7G qh9 qha q4x qab q5J q5K qac qdA qqc qqd q7H qad qdB qdC v3 v4 v5 v6 v7=>by
  rw[qhm qm8 qhY (by decide) qyb qnj.1 qnj.2]
  have:=qFF;have:=@qu3;have:=@qvH;have:=@qb4.eq_1;have:=@q8v.eq_1;have:=@q2e;have:=@JR;have:=@q3M;have:=@qa0;have:=@q6u;have:=@JM.eq_1;have:=@qht;exact gA
def QD (b1:qf) (b2:qg) (b3:Int) (b5:Int) (b6:List Int) (b7:List qa) (b8:List Bool) (b9:Int) (t19:List Int) (t20:Int):Int→Option (Int⊕(qP⊕Unit))|t21=>if t21<t20 then if 0≤t21∧t21<((t19.length:Nat):Int) then Option.bind t19[Int.toNat t21]? fun(a:Int)=>Option.bind (JM a b1 b2 b3 b5 b6 b7 b8) fun(a2:Sum Unit qP)=>Sum.elim (fun(a3:Unit)=>some (Sum.inl (w64 (t21+1)))) (fun(a4:qP)=>some (Sum.inr (Sum.inl a4))) a2 else none else some (Sum.inr (Sum.inr ()))
theorem q6F:∀(zW q1s zD Z1:Int) (Z2:ByteArray) (qW zX zg:Int) (zh:List qc) (zY:List qb) (Qn Jc Jd:Int) (zE:List (JS qc)) (ZA JD JE b3 b5:Int) (b6:List Int) (b7:List qa) (b8:List Bool) (b9:Int) (t19:List Int) (t20 t21:Int),XL2 evo 62 10 8 ⟨[(0,R.c (C.hd .yield 0)),(19,rL 1 eI t19),(20,rI t20),(21,rI t21)],[(0,B.ob (AO.lp 15 (R.any::R.any::R.any::R.any::rP 1::rP 2::R.any::rP 3::rP 4::rP 5::R.any::rP 6::R.any::R.any::rP 7::rP 8::qlE) [67] (raO 15 19) (rbO 15 19) LoopState.ready none)),(1,B.blk 39 [dI zW,dI q1s,dI zD,dI Z1,dS Z2,dI qW,dI zX,dI zg,dL 2 qd zh,dL 5 qh zY,dI Qn,dI Jc,dI Jd,dL 4 (eA2 qd) zE]),(2,B.blk 28 [dI ZA,dI JD,dI JE]),(3,B.blk 3 [dI b3]),(4,B.blk 48 [C.nils,C.nils]),(5,B.blk 49 [dI b5]),(6,B.blk 22 [dL 1 eI b6]),(7,B.blk 26 [dL 8 qe b7]),(8,B.blk 88 [dL 1 eB b8]),(9,B.blk 3 [dI b9])],10,30⟩=(zl (QD (qf.mk zW q1s zD Z1 Z2 (qb.mk qW zX zg zh zY) Qn Jc Jd zE) (qg.mk ZA JD JE) b3 b5 b6 b7 b8 b9 t19 t20) t21).bind (Sum.elim (fun(e:qP)=>some (Exit.ret,⟨[],[(0,B.ob (AO.lp 15 (R.any::R.any::R.any::R.any::rP 1::rP 2::R.any::rP 3::rP 4::rP 5::R.any::rP 6::R.any::R.any::rP 7::rP 8::qlE) [67] (raO 15 19) (rbO 15 19) LoopState.done (some Code.ret))),(1,B.blk 39 [dI zW,dI q1s,dI zD,dI Z1,dS Z2,dI qW,dI zX,dI zg,dL 2 qd zh,dL 5 qh zY,dI Qn,dI Jc,dI Jd,dL 4 (eA2 qd) zE]),(2,B.blk 28 [dI ZA,dI JD,dI JE]),(3,B.blk 3 [dI b3]),(4,B.blk 48 [dL 1 eI e.Taken,dL 1 eI e.Leaf]),(5,B.blk 49 [dI 0]),(6,B.blk 22 [dL 1 eI b6]),(7,B.blk 26 [dL 8 qe b7]),(8,B.blk 88 [dL 1 eB b8]),(9,B.blk 3 [dI b9])],10,30⟩)) (fun(e:Unit)=>some (Exit.exit 2,⟨[],[(0,B.ob (AO.lp 15 (R.any::R.any::R.any::R.any::rP 1::rP 2::R.any::rP 3::rP 4::rP 5::R.any::rP 6::R.any::R.any::rP 7::rP 8::qlE) [67] (raO 15 19) (rbO 15 19) LoopState.ready none)),(1,B.blk 39 [dI zW,dI q1s,dI zD,dI Z1,dS Z2,dI qW,dI zX,dI zg,dL 2 qd zh,dL 5 qh zY,dI Qn,dI Jc,dI Jd,dL 4 (eA2 qd) zE]),(2,B.blk 28 [dI ZA,dI JD,dI JE]),(3,B.blk 3 [dI b3]),(4,B.blk 48 [C.nils,C.nils]),(5,B.blk 49 [dI b5]),(6,B.blk 22 [dL 1 eI b6]),(7,B.blk 26 [dL 8 qe b7]),(8,B.blk 88 [dL 1 eB b8]),(9,B.blk 3 [dI b9])],10,30⟩))):=
 fun zW q1s zD Z1 Z2 qW zX zg zh zY Qn Jc Jd zE ZA JD JE b3 b5 b6 b7 b8 b9 t19 t20 t21=>by
  revert t21;exact qa6 qzp qCl (fun e=>by rcases e with _|_<;>exact⟨_,rfl,fun h=>by cases h⟩) fun x=>by
   have:=qGk;have:=@qny.eq_1;have:=@q6D;have:=@QD.eq_1;exact gA
def q0D (b1:qf) (b2:qg) (b3:Int) (b5:Int) (b6:List Int) (b7:List qa) (b8:List Bool) (v:Int):Option (qP⊕Unit):=if 0≤v then Option.bind (zl (QZ b1 b2 b3 b5 b6 b7 b8 v (w64 (1*2 ^ min (Int.toNat v) (IntKind.bits IntKind.i64)))) ([],0)) fun(a:List Int)=>if 0<a.length∧a.length<4611686018427387904∧okB Qx a=Bool.true then Option.bind (zl (QD b1 b2 b3 b5 b6 b7 b8 v (q17 Qx a) (((q17 Qx a).length:Nat):Int)) 0) fun(a2:Sum qP Unit)=>Sum.elim (fun(a3:qP)=>some (Sum.inl a3)) (fun(a4:Unit)=>some (Sum.inr ())) a2 else none else none
theorem q8J:∀(zW q1s zD Z1:Int) (Z2:ByteArray) (qW zX zg:Int) (zh:List qc) (zY:List qb) (Qn Jc Jd:Int) (zE:List (JS qc)) (ZA JD JE b3 b5:Int) (b6:List Int) (b7:List qa) (b8:List Bool) (v:Int),ev 62 10 [R.c (C.hd .yield 0),rP 9] [(0,B.ob (AO.lp 15 (R.any::R.any::R.any::R.any::rP 1::rP 2::R.any::rP 3::rP 4::rP 5::R.any::rP 6::R.any::R.any::rP 7::rP 8::qlE) [67] (raO 15 19) (rbO 15 19) LoopState.ready none)),(1,B.blk 39 [dI zW,dI q1s,dI zD,dI Z1,dS Z2,dI qW,dI zX,dI zg,dL 2 qd zh,dL 5 qh zY,dI Qn,dI Jc,dI Jd,dL 4 (eA2 qd) zE]),(2,B.blk 28 [dI ZA,dI JD,dI JE]),(3,B.blk 3 [dI b3]),(4,B.blk 48 [C.nils,C.nils]),(5,B.blk 49 [dI b5]),(6,B.blk 22 [dL 1 eI b6]),(7,B.blk 26 [dL 8 qe b7]),(8,B.blk 88 [dL 1 eB b8]),(9,B.blk 3 [dI v])]=(q0D (qf.mk zW q1s zD Z1 Z2 (qb.mk qW zX zg zh zY) Qn Jc Jd zE) (qg.mk ZA JD JE) b3 b5 b6 b7 b8 v).bind (Sum.elim (fun(e:qP)=>some (R.tup [],[(0,B.ob (AO.lp 15 (R.any::R.any::R.any::R.any::rP 1::rP 2::R.any::rP 3::rP 4::rP 5::R.any::rP 6::R.any::R.any::rP 7::rP 8::qlE) [67] (raO 15 19) (rbO 15 19) LoopState.done (some Code.ret))),(1,B.blk 39 [dI zW,dI q1s,dI zD,dI Z1,dS Z2,dI qW,dI zX,dI zg,dL 2 qd zh,dL 5 qh zY,dI Qn,dI Jc,dI Jd,dL 4 (eA2 qd) zE]),(2,B.blk 28 [dI ZA,dI JD,dI JE]),(3,B.blk 3 [dI b3]),(4,B.blk 48 [dL 1 eI e.Taken,dL 1 eI e.Leaf]),(5,B.blk 49 [dI 0]),(6,B.blk 22 [dL 1 eI b6]),(7,B.blk 26 [dL 8 qe b7]),(8,B.blk 88 [dL 1 eB b8]),(9,B.blk 3 [dI v])])) (fun(e:Unit)=>some (R.tup [],[(0,B.ob (AO.lp 15 (R.any::R.any::R.any::R.any::rP 1::rP 2::R.any::rP 3::rP 4::rP 5::R.any::rP 6::R.any::R.any::rP 7::rP 8::qlE) [67] (raO 15 19) (rbO 15 19) LoopState.ready none)),(1,B.blk 39 [dI zW,dI q1s,dI zD,dI Z1,dS Z2,dI qW,dI zX,dI zg,dL 2 qd zh,dL 5 qh zY,dI Qn,dI Jc,dI Jd,dL 4 (eA2 qd) zE]),(2,B.blk 28 [dI ZA,dI JD,dI JE]),(3,B.blk 3 [dI b3]),(4,B.blk 48 [C.nils,C.nils]),(5,B.blk 49 [dI b5]),(6,B.blk 22 [dL 1 eI b6]),(7,B.blk 26 [dL 8 qe b7]),(8,B.blk 88 [dL 1 eB b8]),(9,B.blk 3 [dI v])]))):=
 fun zW q1s zD Z1 Z2 qW zX zg zh zY Qn Jc Jd zE ZA JD JE b3 b5 b6 b7 b8 v=>by
  rw[qR qza qJT.2.2.2 qFy]
  have:=qGk;have:=@q4X;have:=qG6 q7d;have:=@q6F;have:=@q0D.eq_1;exact gA
def Zh (x0:qf) (x1:qg) (x2:List qa) (x3:Int):Option (qP×Int):=Option.bind (QI x0 x1) fun(a:Int)=>if(a != 0)=Bool.true then some (qP.mk [] [],a) else Option.bind (zl (Zb x0 x1 x3 0 x2 x2 ((x2.length:Nat):Int)) ([],0)) fun(a2:List Int)=>if 10<((a2.length:Nat):Int) then some (qP.mk [] [],2) else Option.bind (zQ x2 a2) fun(a3:List qa)=>Option.bind (q2Y x0.Need x1 a3) fun(a4:Prod (List Bool) Int)=>if(a4.2 != 0)=Bool.true then some (qP.mk [] [],a4.2) else Option.bind (q0D x0 x1 x3 0 a2 a3 a4.1 ((a3.length:Nat):Int)) fun(a5:Sum qP Unit)=>Sum.elim (fun(a6:qP)=>some (a6,0)) (fun(a7:Unit)=>some (qP.mk [] [],31)) a5
theorem q4F:∀(zM q0R zy QK:Int) (QL:ByteArray) (qT zN z8:Int) (za:List qc) (zO:List qb) (Qe ZX ZY:Int) (zz:List (JS qc)) (ZV JT JU:Int) (x2:List qa) (x3:Int),ev 15 0 [R.agg [dI zM,dI q0R,dI zy,dI QK,dS QL,dI qT,dI zN,dI z8,dL 2 qd za,dL 5 qh zO,dI Qe,dI ZX,dI ZY,dL 4 (eA2 qd) zz],R.agg [dI ZV,dI JT,dI JU],rL 8 qe x2,rI x3] []=(Zh (qf.mk zM q0R zy QK QL (qb.mk qT zN z8 za zO) Qe ZX ZY zz) (qg.mk ZV JT JU) x2 x3).bind (fun(e:qP×Int)=>some (R.tup [R.agg [dL 1 eI e.1.Taken,dL 1 eI e.1.Leaf],rI e.2],[])):=
 fun zM q0R zy QK QL qT zN z8 za zO Qe ZX ZY zz ZV JT JU x2 x3=>by
  rw[qR qyy qJ4.2.2.2 qH3]
  have:=qFF;have:=@q5i;have:=@q5d;have:=@JR;have:=@qa4;have:=@qax;have:=@q8J;have:=@Zh.eq_1;have:=@qht;exact gA
theorem qGb:okL 95 qkN:=qS (ql qAK) (by kernel_rfl) (by kernel_rfl)
def qEE:=JA_ @qkN.eq_1 (JA_ @Tryz.f95.eq_1 @qAK)
theorem qti:lbO 95 5=qk7:=Qr (ql qAK) rfl
theorem qtw:okL 95 qk7:=zJ qGb (qP9 (i:=0) (by kernel_rfl))
def ZG (x:(qb×Int×List qw)):List R×List (Nat×B):=([R.c (C.own 0 6 0 x.2.2.length),R.agg [C.d (D.int .i64 x.1.Kind),C.d (D.int .i64 x.1.N),C.d (D.int .i64 x.1.Min),C.d (D.sl 2 x.1.Set.length (x.1.Set.flatMap qd)),C.d (D.sl 5 x.1.L.length (x.1.L.flatMap qh))],R.c (C.d (D.int .i64 x.2.1))],[(0,B.row 150 6 ((x.2.2.flatMap qQ).map C.d))])
def J0:(Unit⊕(List qw))→R×List (Nat×B):=Sum.elim (fun(e:Unit)=>(R.tup [R.c (C.d (D.sl 6 0 [])),R.c (C.d (D.bool Bool.false))],[])) (fun(e:List qw)=>(R.tup [R.c (C.own 0 6 0 e.length),R.c (C.d (D.bool Bool.true))],[(0,B.row 150 6 ((e.flatMap qQ).map C.d))]))
def q0w (rF:(qb×Int×List qw)→Option (Unit⊕(List qw))) (n:qb) (deep:Int):(List qw×Int)→Option ((List qw×Int)⊕(Unit⊕(List qw)))|(out,i)=>if i<((n.L.length:Nat):Int) then if 0≤i∧i<((n.L.length:Nat):Int) then Option.bind n.L[Int.toNat i]? fun(a2:qb)=>Option.bind (rF (a2,(w64 (deep+1),out))) fun(a3:Sum Unit (List qw))=>Sum.elim (fun(a4:Unit)=>some (Sum.inr (Sum.inl ()))) (fun(a5:List qw)=>some (Sum.inl (a5,w64 (i+1)))) a3 else none else some (Sum.inr (Sum.inr out))
theorem q6E (rE:Orc) (rF:(qb×Int×List qw)→Option (Unit⊕(List qw))) (hF:∀y,rE (.fn 95) 0 (ZG y).1 (ZG y).2=(rF y).bind fun e=>some (J0 e)) (hM:∀g k a G,g≠95→rE (.fn g) k a G=ev g k a G) (hR:∀g asg bd k a G,rE (.rd g asg bd) k a G=evr g asg bd k a G):∀(out:List qw) (qB n_N qN:Int) (qO:List qc) (n_L:List qb) (deep i:Int) (Z0:Nat),Z0=out.length→XL2 rE 95 0 5 ⟨[(0,rO 0 6 Z0),(2,rI deep),(4,rP 1),(8,rI i)],[(0,bR 150 6 qQ out),(1,B.blk 36 [dI qB,dI n_N,dI qN,dL 2 qd qO,dL 5 qh n_L])],2,47⟩=(zl (q0w rF (qb.mk qB n_N qN qO n_L) deep) (out,i)).bind (Sum.elim (fun(e:Unit)=>some (Exit.ret,⟨[(0,R.c (C.any)),(6,R.c (C.nils)),(7,rB Bool.false)],[],0,47⟩)) (fun(e:List qw)=>some (Exit.exit 0,⟨[(0,rO 0 6 e.length),(6,R.any),(7,R.any)],[(0,bR 150 6 qQ e)],1,47⟩))):=
 by
 intro out qB n_N qN qO n_L deep i Z0 h0
 subst h0
 revert i;revert out;exact qak qti qtw (fun e=>by rcases e with _|_<;>exact⟨_,rfl,fun h=>by cases h⟩) fun out i=>by
  have hF':∀(qB n_N qN:Int) (qO:List qc) (n_L:List qb) (deep:Int) (out:List qw) (Z0:Nat),Z0=out.length→rE (.fn 95) 0 [rO 0 6 Z0,R.agg [dI qB,dI n_N,dI qN,dL 2 qd qO,dL 5 qh n_L],rI deep] [(0,bR 150 6 qQ out)]=(rF ((qb.mk qB n_N qN qO n_L),deep,out)).bind (Sum.elim (fun(e:Unit)=>some (R.tup [R.c (C.d (D.sl 6 0 [])),rB Bool.false],[])) (fun(e:List qw)=>some (R.tup [rO 0 6 e.length,rB Bool.true],[(0,bR 150 6 qQ e)]))):=by intro qB n_N qN qO n_L deep out Z0 h0;subst h0;exact(hF ((qb.mk qB n_N qN qO n_L),deep,out)).trans (by congr 1;funext e;rcases e with _|_<;>rfl)
  have:=qEE;have:=@qk7.eq_1;have:=@q0w.eq_1;exact gA
def q0u (rF:(qb×Int×List qw)→Option (Unit⊕(List qw))):(qb×Int×List qw)→Option (Unit⊕(List qw))|(n,deep,out)=>if 100<deep then some (Sum.inl ()) else if 10000≤((out.length:Nat):Int) then some (Sum.inl ()) else if out.length+1≤maxLen∧(out.length+1)*80≤140737488355328 then Option.bind (zl (q0w rF n deep) (out++[qw.mk n deep],0)) fun(a2:Sum Unit (List qw))=>Sum.elim (fun(a3:Unit)=>some (Sum.inl ())) (fun(a4:List qw)=>some (Sum.inr a4)) a2 else none
theorem q5z:q8i 95 0 ZG J0 q0u:=by
 intro rE rF hF hM hR x
 obtain⟨n,deep,out⟩:=x
 show qaI rE 95 0 [rO 0 6 out.length,R.agg [dI n.Kind,dI n.N,dI n.Min,dL 2 qd n.Set,dL 5 qh n.L],rI deep] [(0,bR 150 6 qQ out)]=_
 have hF':∀(qB n_N qN:Int) (qO:List qc) (n_L:List qb) (deep:Int) (out:List qw) (Z0:Nat),Z0=out.length→rE (.fn 95) 0 [rO 0 6 Z0,R.agg [dI qB,dI n_N,dI qN,dL 2 qd qO,dL 5 qh n_L],rI deep] [(0,bR 150 6 qQ out)]=(rF ((qb.mk qB n_N qN qO n_L),deep,out)).bind (Sum.elim (fun(e:Unit)=>some (R.tup [R.c (C.d (D.sl 6 0 [])),rB Bool.false],[])) (fun(e:List qw)=>some (R.tup [rO 0 6 e.length,rB Bool.true],[(0,bR 150 6 qQ e)]))):=by intro qB n_N qN qO n_L deep out Z0 h0;subst h0;exact(hF ((qb.mk qB n_N qN qO n_L),deep,out)).trans (by congr 1;funext e;rcases e with _|_<;>rfl)
 rw[q4N qAK qGb]
 have:=qEE;have:=q6E rE rF hF hM hR;have:=@q0u.eq_1;have:=@J0.eq_1;exact gA
theorem q3A:∀x y,ZG x=ZG y→x=y:=by
 rintro⟨⟨qEl,qEm,qEn,qEo,qEp⟩,a1,a2⟩ ⟨⟨qEq,qEr,qEs,qEt,qEu⟩,b1,b2⟩ h
 simp only[ZG,Prod.mk.injEq,List.cons.injEq,R.c.injEq,R.agg.injEq,R.tup.injEq,C.d.injEq,C.own.injEq,C.ptr.injEq,C.eptr.injEq,D.int.injEq,D.bool.injEq,D.str.injEq,D.sl.injEq,B.blk.injEq,B.row.injEq,q11,q2P,q1K,q1N,q2h,q2f,q4n,q4m,q4o,q0W,true_and,and_true,qPs] at h
 simp only[h]
theorem q81:∀x y,J0 x=J0 y→x=y:=by
 rintro(_|a1) (_|b1) h<;>simp only[Sum.elim_inl,Sum.elim_inr,J0,Prod.mk.injEq,List.cons.injEq,R.c.injEq,R.agg.injEq,R.tup.injEq,C.d.injEq,C.own.injEq,C.ptr.injEq,C.eptr.injEq,D.int.injEq,D.bool.injEq,D.str.injEq,D.sl.injEq,B.blk.injEq,B.row.injEq,q11,q2P,q1K,q1N,q2h,q2f,q4n,q4m,q4o,q0W,true_and,and_true,qPs,reduceCtorEq,false_and,and_false] at h<;>simp only[h]
def ZC:(qb×Int×List qw)→Option (Unit⊕(List qw)):=q8A 95 0 ZG J0
theorem qal (x:(qb×Int×List qw)):ZC x=q0u ZC x:=qdd qEL.2.2.2 q3A q81 q5z x
theorem q9H (n:qb) (deep:Int) (out:List qw):ev 95 0 [rO 0 6 out.length,R.agg [dI n.Kind,dI n.N,dI n.Min,dL 2 qd n.Set,dL 5 qh n.L],rI deep] [(0,bR 150 6 qQ out)]=(ZC (n,deep,out)).bind (Sum.elim (fun(e:Unit)=>some (R.tup [R.c (C.d (D.sl 6 0 [])),rB Bool.false],[])) (fun(e:List qw)=>some (R.tup [rO 0 6 e.length,rB Bool.true],[(0,bR 150 6 qQ e)]))):=(q9X qEL.2.2.2 q3A q5z (n,deep,out)).trans (by congr 1;funext e;rcases e with _|_<;>rfl)
theorem qba:∀(qB n_N qN:Int) (qO:List qc) (n_L:List qb) (deep:Int) (out:List qw) (Z0:Nat),Z0=out.length→ev 95 0 [rO 0 6 Z0,R.agg [dI qB,dI n_N,dI qN,dL 2 qd qO,dL 5 qh n_L],rI deep] [(0,bR 150 6 qQ out)]=(ZC ((qb.mk qB n_N qN qO n_L),deep,out)).bind (Sum.elim (fun(e:Unit)=>some (R.tup [R.c (C.d (D.sl 6 0 [])),rB Bool.false],[])) (fun(e:List qw)=>some (R.tup [rO 0 6 e.length,rB Bool.true],[(0,bR 150 6 qQ e)]))):=
 by
 intro qB n_N qN qO n_L deep out Z0 h0
 subst h0
 exact q9H (qb.mk qB n_N qN qO n_L) deep out
def q1b (n:qb) (deep:Int):(List qw×Int)→Option ((List qw×Int)⊕(Unit⊕(List qw)))|(out,i)=>if i<((n.L.length:Nat):Int) then if 0≤i∧i<((n.L.length:Nat):Int) then Option.bind n.L[Int.toNat i]? fun(a:qb)=>Option.bind (ZC (a,(w64 (deep+1),out))) fun(a2:Sum Unit (List qw))=>Sum.elim (fun(a3:Unit)=>some (Sum.inr (Sum.inl ()))) (fun(a4:List qw)=>some (Sum.inl (a4,w64 (i+1)))) a2 else none else some (Sum.inr (Sum.inr out))
theorem q9U:∀(out:List qw) (qB n_N qN:Int) (qO:List qc) (n_L:List qb) (deep i:Int) (Z0:Nat),Z0=out.length→XL2 evo 95 0 5 ⟨[(0,rO 0 6 Z0),(2,rI deep),(4,rP 1),(8,rI i)],[(0,bR 150 6 qQ out),(1,B.blk 36 [dI qB,dI n_N,dI qN,dL 2 qd qO,dL 5 qh n_L])],2,47⟩=(zl (q1b (qb.mk qB n_N qN qO n_L) deep) (out,i)).bind (Sum.elim (fun(e:Unit)=>some (Exit.ret,⟨[(0,R.c (C.any)),(6,R.c (C.nils)),(7,rB Bool.false)],[],0,47⟩)) (fun(e:List qw)=>some (Exit.exit 0,⟨[(0,rO 0 6 e.length),(6,R.any),(7,R.any)],[(0,bR 150 6 qQ e)],1,47⟩))):=
 by
 intro out qB n_N qN qO n_L deep i Z0 h0
 subst h0
 revert i;revert out;exact qak qti qtw (fun e=>by rcases e with _|_<;>exact⟨_,rfl,fun h=>by cases h⟩) fun out i=>by
  have:=qEE;have:=@qk7.eq_1;have:=@qba;have:=@q1b.eq_1;exact gA
theorem q7s:∀(q3l q69 q41:Int) (q42:List qc) (q6a:List qb) (qae qB n_N qN:Int) (qO:List qc) (n_L:List qb) (deep i:Int),XL2 evo 95 0 5 ⟨[(0,rO 0 6 1),(2,rI deep),(4,rP 1),(8,rI i)],[(0,B.row 150 6 [dI q3l,dI q69,dI q41,dL 2 qd q42,dL 5 qh q6a,dI qae]),(1,B.blk 36 [dI qB,dI n_N,dI qN,dL 2 qd qO,dL 5 qh n_L])],2,47⟩=(zl (q1b (qb.mk qB n_N qN qO n_L) deep) ([(qw.mk (qb.mk q3l q69 q41 q42 q6a) qae)],i)).bind (Sum.elim (fun(e:Unit)=>some (Exit.ret,⟨[(0,R.c (C.any)),(6,R.c (C.nils)),(7,rB Bool.false)],[],0,47⟩)) (fun(e:List qw)=>some (Exit.exit 0,⟨[(0,rO 0 6 e.length),(6,R.any),(7,R.any)],[(0,bR 150 6 qQ e)],1,47⟩))):=by
 intro q3l q69 q41 q42 q6a qae qB n_N qN qO n_L deep i;have h:=q9U [(qw.mk (qb.mk q3l q69 q41 q42 q6a) qae)] ((qb.mk qB n_N qN qO n_L)).Kind ((qb.mk qB n_N qN qO n_L)).N ((qb.mk qB n_N qN qO n_L)).Min ((qb.mk qB n_N qN qO n_L)).Set ((qb.mk qB n_N qN qO n_L)).L deep i _ rfl
 first
  | exact h
  | (simp only[rL,dL,bR,bZ,Nat.reduceAdd] at h;exact h)
def q3r (n:qb) (deep:Int):Option (Unit⊕(List qw)):=if 100<deep then some (Sum.inl ()) else if 1≤maxLen then Option.bind (zl (q1b n deep) ([qw.mk n deep],0)) fun(a:Sum Unit (List qw))=>Sum.elim (fun(a2:Unit)=>some (Sum.inl ())) (fun(a3:List qw)=>some (Sum.inr a3)) a else none
theorem qcn:∀(qB n_N qN:Int) (qO:List qc) (n_L:List qb) (deep:Int),ev 95 0 [R.c (C.nils),R.agg [dI qB,dI n_N,dI qN,dL 2 qd qO,dL 5 qh n_L],rI deep] []=(q3r (qb.mk qB n_N qN qO n_L) deep).bind (Sum.elim (fun(e:Unit)=>some (R.tup [R.c (C.d (D.sl 6 0 [])),rB Bool.false],[])) (fun(e:List qw)=>some (R.tup [rO 0 6 e.length,rB Bool.true],[(0,bR 150 6 qQ e)]))):=
 fun qB n_N qN qO n_L deep=>by
  rw[qR qAK qEL.2.2.2 qGb]
  have:=qEE;have:=@q7s;have:=@q3r.eq_1;exact gA
theorem qNT:okL 93 qm2:=qS (ql qHN) (by kernel_rfl) (by kernel_rfl)
def qMa:=JA_ @qm2.eq_1 (JA_ @Tryz.f93.eq_1 @qHN)
def q2b (a:qc) (b:qc):Option Bool:=if a.School<b.School then some Bool.true else if(a.School==b.School)=Bool.true then some (Op.bytesLess (ByteArray.toList a.Code) (ByteArray.toList b.Code)) else some Bool.false
def Qk (a:qc) (b:qc):Bool:=if a.School<b.School then Bool.true else if(a.School==b.School)=Bool.true then Op.bytesLess (ByteArray.toList a.Code) (ByteArray.toList b.Code) else Bool.false
theorem q7Y (a b:qc):q2b a b=some (Qk a b):=by
 unfold q2b Qk
 simp only[Zn]
theorem q0y:∀(q03:Int) (q3C:ByteArray) (q40:Int) (qa9:ByteArray),ev 93 0 [R.agg [dI q03,dS q3C],R.agg [dI q40,dS qa9]] []=some (rB (Qk (qc.mk q03 q3C) (qc.mk q40 qa9)),[]):=
 fun q03 q3C q40 qa9=>by
  have h:ev 93 0 [R.agg [dI q03,dS q3C],R.agg [dI q40,dS qa9]] []=(q2b (qc.mk q03 q3C) (qc.mk q40 qa9)).bind (fun(e:Bool)=>some (rB e,[])):=by
   rw[qR qHN qKi.2.2.2 qNT]
   have:=qMa;have:=@q2b.eq_1;exact gA
  rw[q7Y] at h
  exact h
theorem qOl:okL 11 qq2:=qS (ql qIk) (by kernel_rfl) (by kernel_rfl)
def qNe:=JA_ @qq2.eq_1 (JA_ @Tryz.f11.eq_1 @qIk)
theorem qO4:okL 26 qlZ:=qS (ql qIg) (by kernel_rfl) (by kernel_rfl)
def qMs:=JA_ @qlZ.eq_1 (JA_ @Tryz.f26.eq_1 @qIg)
theorem qNv:okL 51 qnp:=qS (ql qI4) (by kernel_rfl) (by kernel_rfl)
def qLx:=JA_ @qnp.eq_1 (JA_ @Tryz.f51.eq_1 @qI4)
theorem qMG:okL 52 qmG:=qS (ql qG3) (by kernel_rfl) (by kernel_rfl)
def qMu:=JA_ @qmG.eq_1 (JA_ @Tryz.f52.eq_1 @qG3)
def qu (most:Int) (d:qj):Option (Int×qj):=if((d.L.length:Nat):Int)≤d.At then some (0,d) else if 0≤d.At∧d.At<((d.L.length:Nat):Int) then Option.bind d.L[Int.toNat d.At]? fun(a:Int)=>if most=0 then none else if most=0 then none else some (Int.tmod (w64 (Int.tmod a most+most)) most,qj.mk d.L (w64 (d.At+1))) else none
theorem ZO:∀(most:Int) (d_L:List Int) (q8Z:Int),ev 52 1 [rP 0,rI most] [(0,B.blk 106 [dL 1 eI d_L,dI q8Z])]=(qu most (qj.mk d_L q8Z)).bind (fun(e:Int×qj)=>some (rI e.1,[(0,B.blk 106 [dL 1 eI e.2.L,dI e.2.At])])):=
 fun most d_L q8Z=>by
  rw[qR qG3 qKJ.2.2.2 qMG]
  have:=qMu;have:=@qu.eq_1;exact gA
theorem qL1:okL 92 qpp:=qS (ql qG4) (by kernel_rfl) (by kernel_rfl)
def qLd:=JA_ @qpp.eq_1 (JA_ @Tryz.f92.eq_1 @qG4)
theorem qOr:okL 53 qnD:=qS (ql qIS) (by kernel_rfl) (by kernel_rfl)
def qLS:=JA_ @qnD.eq_1 (JA_ @Tryz.f53.eq_1 @qIS)
def q3V:Option (List ByteArray):=
 some [ByteArray.mk (List.toArray [65,49]),ByteArray.mk (List.toArray [66,49]),ByteArray.mk (List.toArray [66,50]),ByteArray.mk (List.toArray [67,49]),ByteArray.mk (List.toArray [68,49]),ByteArray.mk (List.toArray [69,57])]
def Q3:List ByteArray:=
 [ByteArray.mk (List.toArray [65,49]),ByteArray.mk (List.toArray [66,49]),ByteArray.mk (List.toArray [66,50]),ByteArray.mk (List.toArray [67,49]),ByteArray.mk (List.toArray [68,49]),ByteArray.mk (List.toArray [69,57])]
theorem qaW:q3V=some (Q3):=by
 unfold q3V Q3
 simp only[Zn]
theorem q6h:ev 53 0 [] []=some (R.c (C.d (D.sl 1 (Q3).length ((Q3).flatMap eS))),[]):=
 by
  have h:ev 53 0 [] []=(q3V).bind (fun(e:List ByteArray)=>some (rL 1 eS e,[])):=by
   rw[qR qIS qKk.2.2.2 qOr]
   have:=qLS;have:=@q3V.eq_1;exact gA
  rw[qaW] at h
  exact h
def q05 (d:qj):Option (qc×qj):=Option.bind (qu 6 d) fun(a:Prod Int qj)=>if 0≤a.1∧a.1<6 then Option.bind [(1:Int),1,1,2,2,3][Int.toNat a.1]? fun(a2:Int)=>Option.bind (qu ((Q3.length:Nat):Int) a.2) fun(a3:Prod Int qj)=>if 0≤a3.1∧a3.1<((Q3.length:Nat):Int) then Option.bind Q3[Int.toNat a3.1]? fun(a4:ByteArray)=>some (qc.mk a2 a4,a3.2) else none else none
theorem q5D:∀(d_L:List Int) (q8Z:Int),ev 92 1 [rP 0] [(0,B.blk 106 [dL 1 eI d_L,dI q8Z])]=(q05 (qj.mk d_L q8Z)).bind (fun(e:qc×qj)=>some (R.agg [dI e.1.School,dS e.1.Code],[(0,B.blk 106 [dL 1 eI e.2.L,dI e.2.At])])):=
 fun d_L q8Z=>by
  rw[qR qG4 qKa.2.2.2 qL1]
  have:=qLd;have:=@ZO;have:=@q6h;have:=@q05.eq_1;exact gA
theorem qKw:okL 94 qkf:=qS (ql qEB) (by kernel_rfl) (by kernel_rfl)
def qJL:=JA_ @qkf.eq_1 (JA_ @Tryz.f94.eq_1 @qEB)
theorem qz2:lbO 94 9=qpY:=Qr (ql qEB) rfl
theorem qCy:okL 94 qpY:=zJ qKw (qP9 (i:=0) (by kernel_rfl))
theorem qv3:okL 136 qcI:=qS (ql qpt) (by kernel_rfl) (by kernel_rfl)
def qu6:=JA_ @qcI.eq_1 (JA_ @Tryz.f136.eq_1 @qpt)
theorem quM:lbO 136 4=qhO:=Qr (ql qpt) rfl
theorem qwZ:okL 136 qhO:=zJ qv3 (qP9 (i:=0) (by kernel_rfl))
theorem qxp:lbO 136 8=qhJ:=Qr (ql qpt) rfl
theorem qvj:okL 136 qhJ:=zJ qv3 (qP9 (i:=1) (by kernel_rfl))
def q08 (out:List qc) (d:qj) (c:qc) (many:Int) (k:Int):Int→Option (Int⊕Int)|at0=>if at0<((out.length:Nat):Int) then if 0≤at0∧at0<((out.length:Nat):Int) then Option.bind out[Int.toNat at0]? fun(a:qc)=>if Qk a c=Bool.true then some (Sum.inl (w64 (at0+1))) else some (Sum.inr at0) else none else some (Sum.inr at0)
theorem qb9:∀(out:List qc) (d_L:List Int) (q8Z q2d:Int) (q6r:ByteArray) (many k at0:Int) (Z0:Nat),Z0=out.length→XL2 evo 136 1 8 ⟨[(0,rP 0),(3,rI many),(4,rO 1 2 Z0),(5,rI k),(6,rP 2),(7,rI at0)],[(0,B.blk 106 [dL 1 eI d_L,dI q8Z]),(1,bR 55 2 qd out),(2,B.blk 55 [dI q2d,dS q6r])],3,61⟩=(zl (q08 out (qj.mk d_L q8Z) (qc.mk q2d q6r) many k) at0).bind (fun(e:Int)=>some (Exit.exit 2,⟨[(0,rP 0),(3,rI many),(4,rO 1 2 out.length),(5,rI k),(6,rP 2),(7,rI e)],[(0,B.blk 106 [dL 1 eI d_L,dI q8Z]),(1,bR 55 2 qd out),(2,B.blk 55 [dI q2d,dS q6r])],3,61⟩)):=
 by
 intro out d_L q8Z q2d q6r many k at0 Z0 h0
 subst h0
 revert at0;exact qa6 qxp qvj (fun e=>by exact⟨_,rfl,fun h=>by cases h⟩) fun x=>by
  have:=qu6;have:=@qhJ.eq_1;have:=@q0y;have:=@q08.eq_1;exact gA
end
noncomputable section
open Go.RowKit
set_option maxRecDepth 20000
set_option maxHeartbeats 8000000
def J6 (many:Int):(List qc×qj×Int)→Option ((List qc×qj×Int)⊕(List qc×qj))|(out,d,k)=>if k<many then Option.bind (q05 d) fun(a:Prod qc qj)=>Option.bind (zl (q08 out a.2 a.1 many k) 0) fun(a2:Int)=>if a2<((out.length:Nat):Int) then if 0≤a2∧a2<((out.length:Nat):Int) then Option.bind out[Int.toNat a2]? fun(a3:qc)=>if(a3.School==a.1.School)=Bool.true∧(ByteArray.toList a3.Code==ByteArray.toList a.1.Code)=Bool.true then some (Sum.inl (out,a.2,w64 (k+1))) else if out.length+1≤maxLen∧(out.length+1)*24≤140737488355328 then if 0≤w64 (a2+1)∧w64 (a2+1)≤((out.length+1:Nat):Int) then if w64 (a2+1)=0∨w64 (a2+1)<((out.length+1:Nat):Int) then if 0≤a2∧a2≤((out.length+1:Nat):Int) then if a2=0∨a2<((out.length+1:Nat):Int) then if(List.take (out.length+1-Int.toNat a2) (List.drop (Int.toNat a2) (out++[qc.mk 0 (ByteArray.mk (List.toArray []))]))).length*2=(out.length+1-Int.toNat a2)*2∧Int.toNat (w64 (a2+1))*2+(out.length+1-Int.toNat (w64 (a2+1)))*2≤(out.length+1)*2 then if 0≤a2∧a2<((out.length+1:Nat):Int) then if Int.toNat a2*2+2≤(out.length+1)*2 then some (Sum.inl (List.set (spl (out++[qc.mk 0 (ByteArray.mk (List.toArray []))]) (Int.toNat (w64 (a2+1))) (List.take (min (out.length+1-Int.toNat a2) (out.length+1-Int.toNat (w64 (a2+1)))) (List.take (out.length+1-Int.toNat a2) (List.drop (Int.toNat a2) (out++[qc.mk 0 (ByteArray.mk (List.toArray []))]))))) (Int.toNat a2) a.1,a.2,w64 (k+1))) else none else none else none else if Int.toNat (w64 (a2+1))*2+(out.length+1-Int.toNat (w64 (a2+1)))*2≤(out.length+1)*2 then if 0≤a2∧a2<((out.length+1:Nat):Int) then if Int.toNat a2*2+2≤(out.length+1)*2 then some (Sum.inl (List.set (out++[qc.mk 0 (ByteArray.mk (List.toArray []))]) (Int.toNat a2) a.1,a.2,w64 (k+1))) else none else none else none else none else if 0≤a2∧a2≤((out.length+1:Nat):Int) then if a2=0∨a2<((out.length+1:Nat):Int) then if(List.take (out.length+1-Int.toNat a2) (List.drop (Int.toNat a2) (out++[qc.mk 0 (ByteArray.mk (List.toArray []))]))).length*2=(out.length+1-Int.toNat a2)*2 then if 0≤a2∧a2<((out.length+1:Nat):Int) then if Int.toNat a2*2+2≤(out.length+1)*2 then some (Sum.inl (List.set (out++[qc.mk 0 (ByteArray.mk (List.toArray []))]) (Int.toNat a2) a.1,a.2,w64 (k+1))) else none else none else none else if 0≤a2∧a2<((out.length+1:Nat):Int) then if Int.toNat a2*2+2≤(out.length+1)*2 then some (Sum.inl (List.set (out++[qc.mk 0 (ByteArray.mk (List.toArray []))]) (Int.toNat a2) a.1,a.2,w64 (k+1))) else none else none else none else none else none else none else if out.length+1≤maxLen∧(out.length+1)*24≤140737488355328 then if 0≤w64 (a2+1)∧w64 (a2+1)≤((out.length+1:Nat):Int) then if w64 (a2+1)=0∨w64 (a2+1)<((out.length+1:Nat):Int) then if 0≤a2∧a2≤((out.length+1:Nat):Int) then if a2=0∨a2<((out.length+1:Nat):Int) then if(List.take (out.length+1-Int.toNat a2) (List.drop (Int.toNat a2) (out++[qc.mk 0 (ByteArray.mk (List.toArray []))]))).length*2=(out.length+1-Int.toNat a2)*2∧Int.toNat (w64 (a2+1))*2+(out.length+1-Int.toNat (w64 (a2+1)))*2≤(out.length+1)*2 then if 0≤a2∧a2<((out.length+1:Nat):Int) then if Int.toNat a2*2+2≤(out.length+1)*2 then some (Sum.inl (List.set (spl (out++[qc.mk 0 (ByteArray.mk (List.toArray []))]) (Int.toNat (w64 (a2+1))) (List.take (min (out.length+1-Int.toNat a2) (out.length+1-Int.toNat (w64 (a2+1)))) (List.take (out.length+1-Int.toNat a2) (List.drop (Int.toNat a2) (out++[qc.mk 0 (ByteArray.mk (List.toArray []))]))))) (Int.toNat a2) a.1,a.2,w64 (k+1))) else none else none else none else if Int.toNat (w64 (a2+1))*2+(out.length+1-Int.toNat (w64 (a2+1)))*2≤(out.length+1)*2 then if 0≤a2∧a2<((out.length+1:Nat):Int) then if Int.toNat a2*2+2≤(out.length+1)*2 then some (Sum.inl (List.set (out++[qc.mk 0 (ByteArray.mk (List.toArray []))]) (Int.toNat a2) a.1,a.2,w64 (k+1))) else none else none else none else none else if 0≤a2∧a2≤((out.length+1:Nat):Int) then if a2=0∨a2<((out.length+1:Nat):Int) then if(List.take (out.length+1-Int.toNat a2) (List.drop (Int.toNat a2) (out++[qc.mk 0 (ByteArray.mk (List.toArray []))]))).length*2=(out.length+1-Int.toNat a2)*2 then if 0≤a2∧a2<((out.length+1:Nat):Int) then if Int.toNat a2*2+2≤(out.length+1)*2 then some (Sum.inl (List.set (out++[qc.mk 0 (ByteArray.mk (List.toArray []))]) (Int.toNat a2) a.1,a.2,w64 (k+1))) else none else none else none else if 0≤a2∧a2<((out.length+1:Nat):Int) then if Int.toNat a2*2+2≤(out.length+1)*2 then some (Sum.inl (List.set (out++[qc.mk 0 (ByteArray.mk (List.toArray []))]) (Int.toNat a2) a.1,a.2,w64 (k+1))) else none else none else none else none else none else some (Sum.inr (out,d))
theorem qaC:∀(out:List qc) (d_L:List Int) (q8Z many k:Int) (Z0:Nat),Z0=out.length→XL2 evo 136 1 4 ⟨[(0,rP 0),(3,rI many),(4,rO 1 2 Z0),(5,rI k)],[(0,B.blk 106 [dL 1 eI d_L,dI q8Z]),(1,bR 55 2 qd out)],2,61⟩=(zl (J6 many) (out,(qj.mk d_L q8Z),k)).bind (fun(e:List qc×qj)=>some (Exit.exit 0,⟨[(4,rO 1 2 e.1.length)],[(0,B.blk 106 [dL 1 eI e.2.L,dI e.2.At]),(1,bR 55 2 qd e.1)],2,61⟩)):=
 by
 intro out d_L q8Z many k Z0 h0
 subst h0
 have h:=q52 (E:=evo) (f:=136) (k:=1) (st:=fun x:List qc×qj×Int=>(⟨[(0,rP 0),(3,rI many),(4,rO 1 2 x.1.length),(5,rI x.2.2)],[(0,B.blk 106 [dL 1 eI x.2.1.L,dI x.2.1.At]),(1,bR 55 2 qd x.1)],2,61⟩:S)) (ex:=fun(e:List qc×qj)=>(Exit.exit 0,⟨[(4,rO 1 2 e.1.length)],[(0,B.blk 106 [dL 1 eI e.2.L,dI e.2.At]),(1,bR 55 2 qd e.1)],2,61⟩)) (step:=(J6 many)) quM qwZ (fun e h=>by cases h) (fun x=>by
  obtain⟨out,d,k⟩:=x;have:=qu6;have:=@qhO.eq_1;have:=@q5D;have:=@qb9;have:=@J6.eq_1;exact gA) (out,(qj.mk d_L q8Z),k)
 exact h
theorem q87:∀  (d_L:List Int) (q8Z many k:Int),XL2 evo 136 1 4 ⟨[(0,rP 0),(3,rI many),(4,rO 1 2 0),(5,rI k)],[(0,B.blk 106 [dL 1 eI d_L,dI q8Z]),(1,B.row 55 2 [])],2,61⟩=(zl (J6 many) ([],(qj.mk d_L q8Z),k)).bind (fun(e:List qc×qj)=>some (Exit.exit 0,⟨[(4,rO 1 2 e.1.length)],[(0,B.blk 106 [dL 1 eI e.2.L,dI e.2.At]),(1,bR 55 2 qd e.1)],2,61⟩)):=by
 intro d_L q8Z many k;have h:=qaC [] ((qj.mk d_L q8Z)).L ((qj.mk d_L q8Z)).At many k _ rfl
 first
  | exact h
  | (simp only[rL,dL,bR,bZ,Nat.reduceAdd] at h;exact h)
def Jm (d:qj):Option (List qc×qj):=Option.bind (qu 3 d) fun(a:Prod Int qj)=>Option.bind (zl (J6 (w64 (1+a.1))) ([],(a.2,0))) fun(a2:Prod (List qc) qj)=>some (a2.1,a2.2)
theorem qdV:∀(d_L:List Int) (q8Z:Int),ev 136 1 [rP 0] [(0,B.blk 106 [dL 1 eI d_L,dI q8Z])]=(Jm (qj.mk d_L q8Z)).bind (fun(e:List qc×qj)=>some (rL 2 qd e.1,[(0,B.blk 106 [dL 1 eI e.2.L,dI e.2.At])])):=
 fun d_L q8Z=>by
  rw[qR qpt qAV.2.2.2 qv3]
  have:=qu6;have:=@ZO;have:=@q87;have:=@Jm.eq_1;exact gA
def Zl (x:(Int×Int×qj)):List R×List (Nat×B):=([R.c (C.ptr 0 0),R.c (C.d (D.int .i64 x.1)),R.c (C.d (D.int .i64 x.2.1))],[(0,B.blk 106 [C.d (D.sl 1 x.2.2.L.length (x.2.2.L.flatMap eI)),C.d (D.int .i64 x.2.2.At)])])
def J9:(qb×qj)→R×List (Nat×B):=fun(e:qb×qj)=>(R.agg [C.d (D.int .i64 e.1.Kind),C.d (D.int .i64 e.1.N),C.d (D.int .i64 e.1.Min),C.d (D.sl 2 e.1.Set.length (e.1.Set.flatMap qd)),C.d (D.sl 5 e.1.L.length (e.1.L.flatMap qh))],[(0,B.blk 106 [C.d (D.sl 1 e.2.L.length (e.2.L.flatMap eI)),C.d (D.int .i64 e.2.At)])])
def Zf (rF:(Int×Int×qj)→Option (qb×qj)) (q2H:Int) (qkR:Int) (q4Q:Int) (q0m:Int) (qeC:Int) (q2o:Int) (t1:Int) (t2:Int) (t7:Int) (t8:Int):(List qb×qj×Int)→Option ((List qb×qj×Int)⊕(List qb×qj))|(w3,b0,t10)=>if t10<t8 then if t8=0 then none else Option.bind (rF (w64 (t1-1),(w64 (Int.tdiv t2 t8),b0))) fun(a2:Prod qb qj)=>if w3.length+1≤maxLen∧(w3.length+1)*72≤140737488355328 then some (Sum.inl (w3++[a2.1],a2.2,w64 (t10+1))) else none else some (Sum.inr (w3,b0))
theorem q9v (rE:Orc) (rF:(Int×Int×qj)→Option (qb×qj)) (hF:∀y,rE (.fn 94) 1 (Zl y).1 (Zl y).2=(rF y).bind fun e=>some (J9 e)) (hM:∀g k a G,g≠94→rE (.fn g) k a G=ev g k a G) (hR:∀g asg bd k a G,rE (.rd g asg bd) k a G=evr g asg bd k a G):∀(w3:List qb) (q3R:List Int) (q1Y q2H qkR q4Q q0m qeC q2o t1 t2 t7 t8 t10:Int) (q2F:Nat),q2F=w3.length→XL2 rE 94 1 9 ⟨[(0,rP 0),(1,rI t1),(2,rI t2),(6,rP 1),(7,rI t7),(8,rI t8),(9,rP 2),(10,rI t10)],[(0,B.blk 106 [dL 1 eI q3R,dI q1Y]),(1,B.blk 36 [dI q2H,dI qkR,dI q4Q,C.nils,C.nils]),(2,B.blk 36 [dI q0m,dI qeC,dI q2o,C.nils,dO 3 5 q2F]),(3,bR 36 5 qh w3)],4,77⟩=(zl (Zf rF q2H qkR q4Q q0m qeC q2o t1 t2 t7 t8) (w3,(qj.mk q3R q1Y),t10)).bind (fun(e:List qb×qj)=>some (Exit.exit 0,⟨[(0,rP 0),(6,rP 1),(7,rI t7),(8,rI t8),(9,rP 2)],[(0,B.blk 106 [dL 1 eI e.2.L,dI e.2.At]),(1,B.blk 36 [dI q2H,dI qkR,dI q4Q,C.nils,C.nils]),(2,B.blk 36 [dI q0m,dI qeC,dI q2o,C.nils,dO 3 5 e.1.length]),(3,bR 36 5 qh e.1)],4,77⟩)):=
 by
 intro w3 q3R q1Y q2H qkR q4Q q0m qeC q2o t1 t2 t7 t8 t10 q2F h0
 subst h0
 have h:=q52 (E:=rE) (f:=94) (k:=1) (st:=fun x:List qb×qj×Int=>(⟨[(0,rP 0),(1,rI t1),(2,rI t2),(6,rP 1),(7,rI t7),(8,rI t8),(9,rP 2),(10,rI x.2.2)],[(0,B.blk 106 [dL 1 eI x.2.1.L,dI x.2.1.At]),(1,B.blk 36 [dI q2H,dI qkR,dI q4Q,C.nils,C.nils]),(2,B.blk 36 [dI q0m,dI qeC,dI q2o,C.nils,dO 3 5 x.1.length]),(3,bR 36 5 qh x.1)],4,77⟩:S)) (ex:=fun(e:List qb×qj)=>(Exit.exit 0,⟨[(0,rP 0),(6,rP 1),(7,rI t7),(8,rI t8),(9,rP 2)],[(0,B.blk 106 [dL 1 eI e.2.L,dI e.2.At]),(1,B.blk 36 [dI q2H,dI qkR,dI q4Q,C.nils,C.nils]),(2,B.blk 36 [dI q0m,dI qeC,dI q2o,C.nils,dO 3 5 e.1.length]),(3,bR 36 5 qh e.1)],4,77⟩)) (step:=(Zf rF q2H qkR q4Q q0m qeC q2o t1 t2 t7 t8)) qz2 qCy (fun e h=>by cases h) (fun x=>by
  obtain⟨w3,b0,t10⟩:=x;have hF':∀(x1 x2:Int) (v_L:List Int) (qkS:Int),rE (.fn 94) 1 [rP 0,rI x1,rI x2] [(0,B.blk 106 [dL 1 eI v_L,dI qkS])]=(rF (x1,x2,(qj.mk v_L qkS))).bind (fun e=>some (R.agg [dI e.1.Kind,dI e.1.N,dI e.1.Min,dL 2 qd e.1.Set,dL 5 qh e.1.L],[(0,B.blk 106 [dL 1 eI e.2.L,dI e.2.At])])):=fun x1 x2 v_L qkS=>hF (x1,x2,(qj.mk v_L qkS))
  have:=qJL;have:=@qpY.eq_1;have:=@Zf.eq_1;exact gA) (w3,(qj.mk q3R q1Y),t10)
 exact h
theorem q7i:∀(rE:Orc) (rF:(Int×Int×qj)→Option (qb×qj)) (hF:∀y,rE (.fn 94) 1 (Zl y).1 (Zl y).2=(rF y).bind fun e=>some (J9 e)) (hM:∀g k a G,g≠94→rE (.fn g) k a G=ev g k a G) (hR:∀g asg bd k a G,rE (.rd g asg bd) k a G=evr g asg bd k a G),∀  (q3R:List Int) (q1Y q2H qkR q4Q q0m qeC q2o t1 t2 t7 t8 t10:Int),XL2 rE 94 1 9 ⟨[(0,rP 0),(1,rI t1),(2,rI t2),(6,rP 1),(7,rI t7),(8,rI t8),(9,rP 2),(10,rI t10)],[(0,B.blk 106 [dL 1 eI q3R,dI q1Y]),(1,B.blk 36 [dI q2H,dI qkR,dI q4Q,C.nils,C.nils]),(2,B.blk 36 [dI q0m,dI qeC,dI q2o,C.nils,dO 3 5 0]),(3,B.row 36 5 [])],4,77⟩=(zl (Zf rF q2H qkR q4Q q0m qeC q2o t1 t2 t7 t8) ([],(qj.mk q3R q1Y),t10)).bind (fun(e:List qb×qj)=>some (Exit.exit 0,⟨[(0,rP 0),(6,rP 1),(7,rI t7),(8,rI t8),(9,rP 2)],[(0,B.blk 106 [dL 1 eI e.2.L,dI e.2.At]),(1,B.blk 36 [dI q2H,dI qkR,dI q4Q,C.nils,C.nils]),(2,B.blk 36 [dI q0m,dI qeC,dI q2o,C.nils,dO 3 5 e.1.length]),(3,bR 36 5 qh e.1)],4,77⟩)):=by
 intro rE rF hF hM hR q3R q1Y q2H qkR q4Q q0m qeC q2o t1 t2 t7 t8 t10;have h:=q9v rE rF hF hM hR [] ((qj.mk q3R q1Y)).L ((qj.mk q3R q1Y)).At q2H qkR q4Q q0m qeC q2o t1 t2 t7 t8 t10 _ rfl
 first
  | exact h
  | (simp only[rL,dL,bR,bZ,Nat.reduceAdd] at h;exact h)
def q1E (rF:(Int×Int×qj)→Option (qb×qj)):(Int×Int×qj)→Option (qb×qj)|(x1,x2,v)=>Option.bind (qu 6 v) fun(a2:Prod Int qj)=>if x1≤0 then Option.bind (qu 3 a2.2) fun(a3:Prod Int qj)=>if(a3.1==0)=Bool.true then Option.bind (qu 12 a3.2) fun(a4:Prod Int qj)=>Option.bind (qu 3 a4.2) fun(a5:Prod Int qj)=>if 0≤a5.1∧a5.1<3 then Option.bind [(0:Int),50,60][Int.toNat a5.1]? fun(a6:Int)=>Option.bind (Jm a5.2) fun(a7:Prod (List qc) qj)=>some (qb.mk 2 (w64 (1+a4.1)) a6 a7.1 [],a7.2) else none else Option.bind (qu 4 a3.2) fun(a8:Prod Int qj)=>if 0≤a8.1∧a8.1<4 then Option.bind [(0:Int),50,60,80][Int.toNat a8.1]? fun(a9:Int)=>Option.bind (Jm a8.2) fun(a10:Prod (List qc) qj)=>some (qb.mk 1 0 a9 a10.1 [],a10.2) else none else if x2<2 then Option.bind (qu 3 a2.2) fun(a11:Prod Int qj)=>if(a11.1==0)=Bool.true then Option.bind (qu 12 a11.2) fun(a12:Prod Int qj)=>Option.bind (qu 3 a12.2) fun(a13:Prod Int qj)=>if 0≤a13.1∧a13.1<3 then Option.bind [(0:Int),50,60][Int.toNat a13.1]? fun(a14:Int)=>Option.bind (Jm a13.2) fun(a15:Prod (List qc) qj)=>some (qb.mk 2 (w64 (1+a12.1)) a14 a15.1 [],a15.2) else none else Option.bind (qu 4 a11.2) fun(a16:Prod Int qj)=>if 0≤a16.1∧a16.1<4 then Option.bind [(0:Int),50,60,80][Int.toNat a16.1]? fun(a17:Int)=>Option.bind (Jm a16.2) fun(a18:Prod (List qc) qj)=>some (qb.mk 1 0 a17 a18.1 [],a18.2) else none else if a2.1<2 then Option.bind (qu 3 a2.2) fun(a19:Prod Int qj)=>if(a19.1==0)=Bool.true then Option.bind (qu 12 a19.2) fun(a20:Prod Int qj)=>Option.bind (qu 3 a20.2) fun(a21:Prod Int qj)=>if 0≤a21.1∧a21.1<3 then Option.bind [(0:Int),50,60][Int.toNat a21.1]? fun(a22:Int)=>Option.bind (Jm a21.2) fun(a23:Prod (List qc) qj)=>some (qb.mk 2 (w64 (1+a20.1)) a22 a23.1 [],a23.2) else none else Option.bind (qu 4 a19.2) fun(a24:Prod Int qj)=>if 0≤a24.1∧a24.1<4 then Option.bind [(0:Int),50,60,80][Int.toNat a24.1]? fun(a25:Int)=>Option.bind (Jm a24.2) fun(a26:Prod (List qc) qj)=>some (qb.mk 1 0 a25 a26.1 [],a26.2) else none else Option.bind (qu (min 3 x2) a2.2) fun(a27:Prod Int qj)=>Option.bind (zl (Zf rF 0 0 0 3 0 0 x1 x2 a2.1 (w64 (1+a27.1))) ([],(a27.2,0))) fun(a28:Prod (List qb) qj)=>if 3<a2.1 then Option.bind (qu (w64 (1+a27.1)) a28.2) fun(a29:Prod Int qj)=>some (qb.mk 4 (w64 (1+a29.1)) 0 [] a28.1,a29.2) else some (qb.mk 3 0 0 [] a28.1,a28.2)
theorem q6Z:q8i 94 1 Zl J9 q1E:=by
 intro rE rF hF hM hR x
 obtain⟨x1,x2,v⟩:=x
 show qaI rE 94 1 [rP 0,rI x1,rI x2] [(0,B.blk 106 [dL 1 eI v.L,dI v.At])]=_
 have hF':∀(x1 x2:Int) (v_L:List Int) (qkS:Int),rE (.fn 94) 1 [rP 0,rI x1,rI x2] [(0,B.blk 106 [dL 1 eI v_L,dI qkS])]=(rF (x1,x2,(qj.mk v_L qkS))).bind (fun e=>some (R.agg [dI e.1.Kind,dI e.1.N,dI e.1.Min,dL 2 qd e.1.Set,dL 5 qh e.1.L],[(0,B.blk 106 [dL 1 eI e.2.L,dI e.2.At])])):=fun x1 x2 v_L qkS=>hF (x1,x2,(qj.mk v_L qkS))
 rw[q4N qEB qKw]
 have:=qJL;have:=@ZO;have:=@qdV;have:=q7i rE rF hF hM hR;have:=@q1E.eq_1;have:=@J9.eq_1;exact gA
theorem q4g:∀x y,Zl x=Zl y→x=y:=by
 rintro⟨a0,a1,⟨qON,qOO⟩⟩ ⟨b0,b1,⟨qOP,qOQ⟩⟩ h
 simp only[Zl,Prod.mk.injEq,List.cons.injEq,R.c.injEq,R.agg.injEq,R.tup.injEq,C.d.injEq,C.own.injEq,C.ptr.injEq,C.eptr.injEq,D.int.injEq,D.bool.injEq,D.str.injEq,D.sl.injEq,B.blk.injEq,B.row.injEq,q11,q2P,q1K,q1N,q2h,q2f,q4n,q4m,q4o,q0W,true_and,and_true,qPs] at h
 simp only[h]
theorem q9P:∀x y,J9 x=J9 y→x=y:=by
 rintro⟨⟨qEl,qEm,qEn,qEo,qEp⟩,⟨qKO,qKP⟩⟩ ⟨⟨qEq,qEr,qEs,qEt,qEu⟩,⟨qKQ,qKR⟩⟩ h
 simp only[J9,Prod.mk.injEq,List.cons.injEq,R.c.injEq,R.agg.injEq,R.tup.injEq,C.d.injEq,C.own.injEq,C.ptr.injEq,C.eptr.injEq,D.int.injEq,D.bool.injEq,D.str.injEq,D.sl.injEq,B.blk.injEq,B.row.injEq,q11,q2P,q1K,q1N,q2h,q2f,q4n,q4m,q4o,q0W,true_and,and_true,qPs] at h
 simp only[h]
def ZS:(Int×Int×qj)→Option (qb×qj):=q8A 94 1 Zl J9
theorem q6X (x:(Int×Int×qj)):ZS x=q1E ZS x:=qdd qIG.2.2.2 q4g q9P q6Z x
theorem qbw (x1 x2:Int) (v:qj):ev 94 1 [rP 0,rI x1,rI x2] [(0,B.blk 106 [dL 1 eI v.L,dI v.At])]=(ZS (x1,x2,v)).bind (fun(e:qb×qj)=>some (R.agg [dI e.1.Kind,dI e.1.N,dI e.1.Min,dL 2 qd e.1.Set,dL 5 qh e.1.L],[(0,B.blk 106 [dL 1 eI e.2.L,dI e.2.At])])):=(q9X qIG.2.2.2 q4g q6Z (x1,x2,v))
theorem qdh:∀(x1 x2:Int) (v_L:List Int) (qkS:Int),ev 94 1 [rP 0,rI x1,rI x2] [(0,B.blk 106 [dL 1 eI v_L,dI qkS])]=(ZS (x1,x2,(qj.mk v_L qkS))).bind (fun(e:qb×qj)=>some (R.agg [dI e.1.Kind,dI e.1.N,dI e.1.Min,dL 2 qd e.1.Set,dL 5 qh e.1.L],[(0,B.blk 106 [dL 1 eI e.2.L,dI e.2.At])])):=
 fun x1 x2 v_L qkS=>qbw x1 x2 (qj.mk v_L qkS)
def q1p (l:List Int):Option qf:=Option.bind (qu 3 (qj.mk l 0)) fun(a:Prod Int qj)=>Option.bind (qu 3 a.2) fun(a2:Prod Int qj)=>Option.bind (qu 5 a2.2) fun(a3:Prod Int qj)=>Option.bind (qu 3 a3.2) fun(a4:Prod Int qj)=>if 0≤a4.1∧a4.1<3 then Option.bind [ByteArray.mk (List.toArray [77,117,115,105,99]),ByteArray.mk (List.toArray [76,97,119]),ByteArray.mk (List.toArray [79,108,100,32,109,97,112,115])][Int.toNat a4.1]? fun(a5:ByteArray)=>Option.bind (qu 20 a4.2) fun(a6:Prod Int qj)=>Option.bind (qu 3 a6.2) fun(a7:Prod Int qj)=>Option.bind (qu 6 a7.2) fun(a8:Prod Int qj)=>Option.bind (qu 5 a8.2) fun(a9:Prod Int qj)=>if 0≤a9.1∧a9.1<5 then Option.bind [(0:Int),0,0,2,5][Int.toNat a9.1]? fun(a10:Int)=>Option.bind (qu 3 a9.2) fun(a11:Prod Int qj)=>if(a11.1==0)=Bool.true then Option.bind (q05 a11.2) fun(a12:Prod qc qj)=>Option.bind (q05 a12.2) fun(a13:Prod qc qj)=>if Qk a12.1 a13.1=Bool.true then Option.bind (ZS (3,(6,a13.2))) fun(a14:Prod qb qj)=>some (qf.mk 1 (w64 (1+a.1)) (w64 (1+a2.1)) (w64 (100*a3.1)) a5 a14.1 a6.1 (w64 (a7.1*a8.1)) a10 [JS.mk a12.1 a13.1]) else Option.bind (ZS (3,(6,a13.2))) fun(a15:Prod qb qj)=>some (qf.mk 1 (w64 (1+a.1)) (w64 (1+a2.1)) (w64 (100*a3.1)) a5 a15.1 a6.1 (w64 (a7.1*a8.1)) a10 []) else Option.bind (ZS (3,(6,a11.2))) fun(a16:Prod qb qj)=>some (qf.mk 1 (w64 (1+a.1)) (w64 (1+a2.1)) (w64 (100*a3.1)) a5 a16.1 a6.1 (w64 (a7.1*a8.1)) a10 []) else none else none
theorem q9K:∀(l:List Int),ev 51 0 [rL 1 eI l] []=(q1p l).bind (fun(e:qf)=>some (R.agg [dI e.School,dI e.Id,dI e.Version,dI e.From,dS e.Name,dI e.Need.Kind,dI e.Need.N,dI e.Need.Min,dL 2 qd e.Need.Set,dL 5 qh e.Need.L,dI e.Total,dI e.Own,dI e.Age,dL 4 (eA2 qd) e.Exclude],[])):=
 fun l=>by
  rw[qR qI4 qKh.2.2.2 qNv]
  have:=qLx;have:=@ZO;have:=@q5D;have:=@qdh;have:=@q0y;have:=@q1p.eq_1;exact gA
def q3w (l:List Int):Option qf:=Option.bind (q1p l) fun(a:qf)=>some (qf.mk a.School a.Id a.Version a.From a.Name a.Need (Int.tmod a.Total 12) (Int.tmod a.Own 4) a.Age a.Exclude)
theorem qdb:∀(l:List Int),ev 26 0 [rL 1 eI l] []=(q3w l).bind (fun(e:qf)=>some (R.agg [dI e.School,dI e.Id,dI e.Version,dI e.From,dS e.Name,dI e.Need.Kind,dI e.Need.N,dI e.Need.Min,dL 2 qd e.Need.Set,dL 5 qh e.Need.L,dI e.Total,dI e.Own,dI e.Age,dL 4 (eA2 qd) e.Exclude],[])):=
 fun l=>by
  rw[qR qIg qKg.2.2.2 qO4]
  have:=qMs;have:=@q9K;have:=@q3w.eq_1;exact gA
theorem qK2:okL 30 qjX:=qS (ql qF4) (by kernel_rfl) (by kernel_rfl)
def qKy:=JA_ @qjX.eq_1 (JA_ @Tryz.f30.eq_1 @qF4)
theorem qzO:lbO 30 6=qq3:=Qr (ql qF4) rfl
theorem qBR:okL 30 qq3:=zJ qK2 (qP9 (i:=0) (by kernel_rfl))
def ZF (t4:Int) (t5:List ByteArray):(List qa×qj×Int)→Option ((List qa×qj×Int)⊕(List qa))|(w1,b0,t7)=>if t7<t4 then Option.bind (qu 5 b0) fun(a:Prod Int qj)=>if 0≤a.1∧a.1<5 then Option.bind [(1:Int),1,1,2,3][Int.toNat a.1]? fun(a2:Int)=>Option.bind (qu ((t5.length:Nat):Int) a.2) fun(a3:Prod Int qj)=>if 0≤a3.1∧a3.1<((t5.length:Nat):Int) then Option.bind t5[Int.toNat a3.1]? fun(a4:ByteArray)=>Option.bind (qu 3 a3.2) fun(a5:Prod Int qj)=>if 0≤a5.1∧a5.1<3 then Option.bind [(5:Int),6,10][Int.toNat a5.1]? fun(a6:Int)=>Option.bind (qu 11 a5.2) fun(a7:Prod Int qj)=>Option.bind (qu 12 a7.2) fun(a8:Prod Int qj)=>Option.bind (qu 4 a8.2) fun(a9:Prod Int qj)=>if(a9.1==0)=Bool.true then Option.bind (qu 2 a9.2) fun(a10:Prod Int qj)=>Option.bind (qu 3 a10.2) fun(a11:Prod Int qj)=>if w1.length+1≤maxLen∧(w1.length+1)*104≤140737488355328 then some (Sum.inl (w1++[qa.mk (qc.mk a2 a4) a6 (w64 (10*a7.1)) (w64 (50*a8.1)) [w64 (2000001+a11.1)] (w64 (1+a10.1)) [w64 (1+a10.1)]],a11.2,w64 (t7+1))) else none else if w1.length+1≤maxLen∧(w1.length+1)*104≤140737488355328 then some (Sum.inl (w1++[qa.mk (qc.mk a2 a4) a6 (w64 (10*a7.1)) (w64 (50*a8.1)) [w64 (w64 (w64 (1000000*a2)+1)+t7)] 0 []],a9.2,w64 (t7+1))) else none else none else none else none else some (Sum.inr w1)
theorem q9f:∀(w1:List qa) (q3R:List Int) (q1Y t4:Int) (t5:List ByteArray) (t7:Int) (QO:Nat),QO=w1.length→XL2 evo 30 0 6 ⟨[(3,rP 0),(4,rI t4),(5,rL 1 eS t5),(6,rO 1 8 QO),(7,rI t7)],[(0,B.blk 106 [dL 1 eI q3R,dI q1Y]),(1,bR 57 8 qe w1)],2,75⟩=(zl (ZF t4 t5) (w1,(qj.mk q3R q1Y),t7)).bind (fun(e:List qa)=>some (Exit.exit 0,⟨[(6,rO 0 8 e.length)],[(0,bR 57 8 qe e)],1,75⟩)):=
 by
 intro w1 q3R q1Y t4 t5 t7 QO h0
 subst h0
 have h:=q52 (E:=evo) (f:=30) (k:=0) (st:=fun x:List qa×qj×Int=>(⟨[(3,rP 0),(4,rI t4),(5,rL 1 eS t5),(6,rO 1 8 x.1.length),(7,rI x.2.2)],[(0,B.blk 106 [dL 1 eI x.2.1.L,dI x.2.1.At]),(1,bR 57 8 qe x.1)],2,75⟩:S)) (ex:=fun(e:List qa)=>(Exit.exit 0,⟨[(6,rO 0 8 e.length)],[(0,bR 57 8 qe e)],1,75⟩)) (step:=(ZF t4 t5)) qzO qBR (fun e h=>by cases h) (fun x=>by
  obtain⟨w1,b0,t7⟩:=x;have:=qKy;have:=@qq3.eq_1;have:=@ZO;have:=@ZF.eq_1;exact gA) (w1,(qj.mk q3R q1Y),t7)
 exact h
theorem q75:∀  (q3R:List Int) (q1Y t4:Int) (t5:List ByteArray) (t7:Int),XL2 evo 30 0 6 ⟨[(3,rP 0),(4,rI t4),(5,rL 1 eS t5),(6,rO 1 8 0),(7,rI t7)],[(0,B.blk 106 [dL 1 eI q3R,dI q1Y]),(1,B.row 57 8 [])],2,75⟩=(zl (ZF t4 t5) ([],(qj.mk q3R q1Y),t7)).bind (fun(e:List qa)=>some (Exit.exit 0,⟨[(6,rO 0 8 e.length)],[(0,bR 57 8 qe e)],1,75⟩)):=by
 intro q3R q1Y t4 t5 t7;have h:=q9f [] ((qj.mk q3R q1Y)).L ((qj.mk q3R q1Y)).At t4 t5 t7 _ rfl
 first
  | exact h
  | (simp only[rL,dL,bR,bZ,Nat.reduceAdd] at h;exact h)
def q3z (x0:List Int):Option (List qa):=Option.bind (qu 8 (qj.mk x0 0)) fun(a:Prod Int qj)=>Option.bind (zl (ZF a.1 Q3) ([],(a.2,0))) fun(a2:List qa)=>some a2
theorem qdq:∀(x0:List Int),ev 30 0 [rL 1 eI x0] []=(q3z x0).bind (fun(e:List qa)=>some (rL 8 qe e,[])):=
 fun x0=>by
  rw[qR qF4 qJI.2.2.2 qK2]
  have:=qKy;have:=@ZO;have:=@q6h;have:=@q75;have:=@q3z.eq_1;exact gA
theorem qKm:okL 31 qkH:=qS (ql qES) (by kernel_rfl) (by kernel_rfl)
def qJD:=JA_ @qkH.eq_1 (JA_ @Tryz.f31.eq_1 @qES)
theorem qCq:lbO 31 6=qmY:=Qr (ql qES) rfl
theorem qCs:okL 31 qmY:=zJ qKm (qP9 (i:=0) (by kernel_rfl))
theorem qEY:okL 54 qee:=qS (ql qyr) (by kernel_rfl) (by kernel_rfl)
def quI:=JA_ @qee.eq_1 (JA_ @Tryz.f54.eq_1 @qyr)
theorem qtG:lbO 54 4=qjs:=Qr (ql qyr) rfl
theorem qtj:okL 54 qjs:=zJ qEY (qP9 (i:=0) (by kernel_rfl))
theorem qt7:lbO 54 8=qkF:=Qr (ql qyr) rfl
theorem qtl:okL 54 qkF:=zJ qEY (qP9 (i:=1) (by kernel_rfl))
theorem qmB:lbO 54 11=qfz:=Qr (ql qyr) rfl
theorem qpn:okL 54 qfz:=zJ qEY (qP9 (i:=2) (by kernel_rfl))
def q2j (w0:List qc) (t3:List qw) (t6:Int) (t7:List qc) (t8:Int):Int→Option (Int⊕Int)|t9=>if t9<((w0.length:Nat):Int) then if 0≤t9∧t9<((w0.length:Nat):Int) then Option.bind w0[Int.toNat t9]? fun(a:qc)=>if 0≤t8∧t8<((t7.length:Nat):Int) then Option.bind t7[Int.toNat t8]? fun(a2:qc)=>if Qk a a2=Bool.true then some (Sum.inl (w64 (t9+1))) else some (Sum.inr t9) else none else none else some (Sum.inr t9)
theorem q6B:∀(w0:List qc) (t3:List qw) (t6:Int) (t7:List qc) (t8 t9:Int) (q0p:Nat),q0p=w0.length→XL2 evo 54 0 11 ⟨[(3,rL 6 qQ t3),(5,rO 0 2 q0p),(6,rI t6),(7,rL 2 qd t7),(8,rI t8),(9,rI t9)],[(0,bR 55 2 qd w0)],1,85⟩=(zl (q2j w0 t3 t6 t7 t8) t9).bind (fun(e:Int)=>some (Exit.exit 4,⟨[(3,rL 6 qQ t3),(5,rO 0 2 w0.length),(6,rI t6),(7,rL 2 qd t7),(8,rI t8),(9,rI e)],[(0,bR 55 2 qd w0)],1,85⟩)):=
 by
 intro w0 t3 t6 t7 t8 t9 q0p h0
 subst h0
 revert t9;exact qa6 qmB qpn (fun e=>by exact⟨_,rfl,fun h=>by cases h⟩) fun x=>by
  have:=quI;have:=@qfz.eq_1;have:=@q0y;have:=@q2j.eq_1;exact gA
def q2C (t3:List qw) (t6:Int) (t7:List qc):(List qc×Int)→Option ((List qc×Int)⊕(List qc))|(w0,t8)=>if t8<((t7.length:Nat):Int) then Option.bind (zl (q2j w0 t3 t6 t7 t8) 0) fun(a:Int)=>if a<((w0.length:Nat):Int) then if 0≤a∧a<((w0.length:Nat):Int) then Option.bind w0[Int.toNat a]? fun(a2:qc)=>if 0≤t8∧t8<((t7.length:Nat):Int) then Option.bind t7[Int.toNat t8]? fun(a3:qc)=>if(a2.School==a3.School)=Bool.true∧(ByteArray.toList a2.Code==ByteArray.toList a3.Code)=Bool.true then some (Sum.inl (w0,w64 (t8+1))) else if w0.length+1≤maxLen∧(w0.length+1)*24≤140737488355328 then if 0≤w64 (a+1)∧w64 (a+1)≤((w0.length+1:Nat):Int) then if w64 (a+1)=0∨w64 (a+1)<((w0.length+1:Nat):Int) then if 0≤a∧a≤((w0.length+1:Nat):Int) then if a=0∨a<((w0.length+1:Nat):Int) then if(List.take (w0.length+1-Int.toNat a) (List.drop (Int.toNat a) (w0++[qc.mk 0 (ByteArray.mk (List.toArray []))]))).length*2=(w0.length+1-Int.toNat a)*2∧Int.toNat (w64 (a+1))*2+(w0.length+1-Int.toNat (w64 (a+1)))*2≤(w0.length+1)*2 then if 0≤t8∧t8<((t7.length:Nat):Int) then Option.bind t7[Int.toNat t8]? fun(a4:qc)=>if 0≤a∧a<((w0.length+1:Nat):Int) then if Int.toNat a*2+2≤(w0.length+1)*2 then some (Sum.inl (List.set (spl (w0++[qc.mk 0 (ByteArray.mk (List.toArray []))]) (Int.toNat (w64 (a+1))) (List.take (min (w0.length+1-Int.toNat a) (w0.length+1-Int.toNat (w64 (a+1)))) (List.take (w0.length+1-Int.toNat a) (List.drop (Int.toNat a) (w0++[qc.mk 0 (ByteArray.mk (List.toArray []))]))))) (Int.toNat a) a4,w64 (t8+1))) else none else none else none else none else if Int.toNat (w64 (a+1))*2+(w0.length+1-Int.toNat (w64 (a+1)))*2≤(w0.length+1)*2 then if 0≤t8∧t8<((t7.length:Nat):Int) then Option.bind t7[Int.toNat t8]? fun(a5:qc)=>if 0≤a∧a<((w0.length+1:Nat):Int) then if Int.toNat a*2+2≤(w0.length+1)*2 then some (Sum.inl (List.set (w0++[qc.mk 0 (ByteArray.mk (List.toArray []))]) (Int.toNat a) a5,w64 (t8+1))) else none else none else none else none else none else if 0≤a∧a≤((w0.length+1:Nat):Int) then if a=0∨a<((w0.length+1:Nat):Int) then if(List.take (w0.length+1-Int.toNat a) (List.drop (Int.toNat a) (w0++[qc.mk 0 (ByteArray.mk (List.toArray []))]))).length*2=(w0.length+1-Int.toNat a)*2 then if 0≤t8∧t8<((t7.length:Nat):Int) then Option.bind t7[Int.toNat t8]? fun(a6:qc)=>if 0≤a∧a<((w0.length+1:Nat):Int) then if Int.toNat a*2+2≤(w0.length+1)*2 then some (Sum.inl (List.set (w0++[qc.mk 0 (ByteArray.mk (List.toArray []))]) (Int.toNat a) a6,w64 (t8+1))) else none else none else none else none else if 0≤t8∧t8<((t7.length:Nat):Int) then Option.bind t7[Int.toNat t8]? fun(a7:qc)=>if 0≤a∧a<((w0.length+1:Nat):Int) then if Int.toNat a*2+2≤(w0.length+1)*2 then some (Sum.inl (List.set (w0++[qc.mk 0 (ByteArray.mk (List.toArray []))]) (Int.toNat a) a7,w64 (t8+1))) else none else none else none else none else none else none else none else none else if w0.length+1≤maxLen∧(w0.length+1)*24≤140737488355328 then if 0≤w64 (a+1)∧w64 (a+1)≤((w0.length+1:Nat):Int) then if w64 (a+1)=0∨w64 (a+1)<((w0.length+1:Nat):Int) then if 0≤a∧a≤((w0.length+1:Nat):Int) then if a=0∨a<((w0.length+1:Nat):Int) then if(List.take (w0.length+1-Int.toNat a) (List.drop (Int.toNat a) (w0++[qc.mk 0 (ByteArray.mk (List.toArray []))]))).length*2=(w0.length+1-Int.toNat a)*2∧Int.toNat (w64 (a+1))*2+(w0.length+1-Int.toNat (w64 (a+1)))*2≤(w0.length+1)*2 then if 0≤t8∧t8<((t7.length:Nat):Int) then Option.bind t7[Int.toNat t8]? fun(a8:qc)=>if 0≤a∧a<((w0.length+1:Nat):Int) then if Int.toNat a*2+2≤(w0.length+1)*2 then some (Sum.inl (List.set (spl (w0++[qc.mk 0 (ByteArray.mk (List.toArray []))]) (Int.toNat (w64 (a+1))) (List.take (min (w0.length+1-Int.toNat a) (w0.length+1-Int.toNat (w64 (a+1)))) (List.take (w0.length+1-Int.toNat a) (List.drop (Int.toNat a) (w0++[qc.mk 0 (ByteArray.mk (List.toArray []))]))))) (Int.toNat a) a8,w64 (t8+1))) else none else none else none else none else if Int.toNat (w64 (a+1))*2+(w0.length+1-Int.toNat (w64 (a+1)))*2≤(w0.length+1)*2 then if 0≤t8∧t8<((t7.length:Nat):Int) then Option.bind t7[Int.toNat t8]? fun(a9:qc)=>if 0≤a∧a<((w0.length+1:Nat):Int) then if Int.toNat a*2+2≤(w0.length+1)*2 then some (Sum.inl (List.set (w0++[qc.mk 0 (ByteArray.mk (List.toArray []))]) (Int.toNat a) a9,w64 (t8+1))) else none else none else none else none else none else if 0≤a∧a≤((w0.length+1:Nat):Int) then if a=0∨a<((w0.length+1:Nat):Int) then if(List.take (w0.length+1-Int.toNat a) (List.drop (Int.toNat a) (w0++[qc.mk 0 (ByteArray.mk (List.toArray []))]))).length*2=(w0.length+1-Int.toNat a)*2 then if 0≤t8∧t8<((t7.length:Nat):Int) then Option.bind t7[Int.toNat t8]? fun(a10:qc)=>if 0≤a∧a<((w0.length+1:Nat):Int) then if Int.toNat a*2+2≤(w0.length+1)*2 then some (Sum.inl (List.set (w0++[qc.mk 0 (ByteArray.mk (List.toArray []))]) (Int.toNat a) a10,w64 (t8+1))) else none else none else none else none else if 0≤t8∧t8<((t7.length:Nat):Int) then Option.bind t7[Int.toNat t8]? fun(a11:qc)=>if 0≤a∧a<((w0.length+1:Nat):Int) then if Int.toNat a*2+2≤(w0.length+1)*2 then some (Sum.inl (List.set (w0++[qc.mk 0 (ByteArray.mk (List.toArray []))]) (Int.toNat a) a11,w64 (t8+1))) else none else none else none else none else none else none else some (Sum.inr w0)
theorem q6P:∀(w0:List qc) (t3:List qw) (t6:Int) (t7:List qc) (t8:Int) (q0p:Nat),q0p=w0.length→XL2 evo 54 0 8 ⟨[(3,rL 6 qQ t3),(5,rO 0 2 q0p),(6,rI t6),(7,rL 2 qd t7),(8,rI t8)],[(0,bR 55 2 qd w0)],1,85⟩=(zl (q2C t3 t6 t7) (w0,t8)).bind (fun(e:List qc)=>some (Exit.exit 2,⟨[(3,rL 6 qQ t3),(5,rO 0 2 e.length),(6,rI t6)],[(0,bR 55 2 qd e)],1,85⟩)):=
 by
 intro w0 t3 t6 t7 t8 q0p h0
 subst h0
 revert t8;revert w0;exact qak qt7 qtl (fun e=>by exact⟨_,rfl,fun h=>by cases h⟩) fun w0 t8=>by
  have:=quI;have:=@qkF.eq_1;have:=@q6B;have:=@q2C.eq_1;exact gA
def q14 (t3:List qw):(List qc×Int)→Option ((List qc×Int)⊕(List qc))|(w0,t6)=>if t6<((t3.length:Nat):Int) then if 0≤t6∧t6<((t3.length:Nat):Int) then Option.bind t3[Int.toNat t6]? fun(a:qw)=>Option.bind (zl (q2C t3 t6 a.Need.Set) (w0,0)) fun(a2:List qc)=>some (Sum.inl (a2,w64 (t6+1))) else none else some (Sum.inr w0)
theorem q7k:∀(w0:List qc) (t3:List qw) (t6:Int) (q0p:Nat),q0p=w0.length→XL2 evo 54 0 4 ⟨[(3,rL 6 qQ t3),(5,rO 0 2 q0p),(6,rI t6)],[(0,bR 55 2 qd w0)],1,85⟩=(zl (q14 t3) (w0,t6)).bind (fun(e:List qc)=>some (Exit.exit 0,⟨[(5,rO 0 2 e.length)],[(0,bR 55 2 qd e)],1,85⟩)):=
 by
 intro w0 t3 t6 q0p h0
 subst h0
 revert t6;revert w0;exact qak qtG qtj (fun e=>by exact⟨_,rfl,fun h=>by cases h⟩) fun w0 t6=>by
  have:=quI;have:=@qjs.eq_1;have:=@q6P;have:=@q14.eq_1;exact gA
theorem q5A:∀  (t6:Int),XL2 evo 54 0 4 ⟨[(3,R.c (C.d (D.sl 6 0 []))),(5,rO 0 2 0),(6,rI t6)],[(0,B.row 55 2 [])],1,85⟩=(zl (q14 []) ([],t6)).bind (fun(e:List qc)=>some (Exit.exit 0,⟨[(5,rO 0 2 e.length)],[(0,bR 55 2 qd e)],1,85⟩)):=by
 intro t6;have h:=q7k [] [] t6 _ rfl
 first
  | exact h
  | (simp only[rL,dL,bR,bZ,Nat.reduceAdd] at h;exact h)
def QY (w0:List qw) (w1:List qc) (t6:Int) (t7:List qc) (t8:Int):Int→Option (Int⊕Int)|t9=>if t9<((w1.length:Nat):Int) then if 0≤t9∧t9<((w1.length:Nat):Int) then Option.bind w1[Int.toNat t9]? fun(a:qc)=>if 0≤t8∧t8<((t7.length:Nat):Int) then Option.bind t7[Int.toNat t8]? fun(a2:qc)=>if Qk a a2=Bool.true then some (Sum.inl (w64 (t9+1))) else some (Sum.inr t9) else none else none else some (Sum.inr t9)
theorem q5k:∀(w0:List qw) (w1:List qc) (t6:Int) (t7:List qc) (t8 t9:Int) (q0p QO:Nat),q0p=w0.length→QO=w1.length→XL2 evo 54 0 11 ⟨[(3,rO 0 6 q0p),(5,rO 1 2 QO),(6,rI t6),(7,rL 2 qd t7),(8,rI t8),(9,rI t9)],[(0,bR 150 6 qQ w0),(1,bR 55 2 qd w1)],2,85⟩=(zl (QY w0 w1 t6 t7 t8) t9).bind (fun(e:Int)=>some (Exit.exit 4,⟨[(3,rO 0 6 w0.length),(5,rO 1 2 w1.length),(6,rI t6),(7,rL 2 qd t7),(8,rI t8),(9,rI e)],[(0,bR 150 6 qQ w0),(1,bR 55 2 qd w1)],2,85⟩)):=
 by
 intro w0 w1 t6 t7 t8 t9 q0p QO h0 h1
 subst h0 h1
 revert t9;exact qa6 qmB qpn (fun e=>by exact⟨_,rfl,fun h=>by cases h⟩) fun x=>by
  have:=quI;have:=@qfz.eq_1;have:=@q0y;have:=@QY.eq_1;exact gA
def Z8 (w0:List qw) (t6:Int) (t7:List qc):(List qc×Int)→Option ((List qc×Int)⊕(List qc))|(w1,t8)=>if t8<((t7.length:Nat):Int) then Option.bind (zl (QY w0 w1 t6 t7 t8) 0) fun(a:Int)=>if a<((w1.length:Nat):Int) then if 0≤a∧a<((w1.length:Nat):Int) then Option.bind w1[Int.toNat a]? fun(a2:qc)=>if 0≤t8∧t8<((t7.length:Nat):Int) then Option.bind t7[Int.toNat t8]? fun(a3:qc)=>if(a2.School==a3.School)=Bool.true∧(ByteArray.toList a2.Code==ByteArray.toList a3.Code)=Bool.true then some (Sum.inl (w1,w64 (t8+1))) else if w1.length+1≤maxLen∧(w1.length+1)*24≤140737488355328 then if 0≤w64 (a+1)∧w64 (a+1)≤((w1.length+1:Nat):Int) then if w64 (a+1)=0∨w64 (a+1)<((w1.length+1:Nat):Int) then if 0≤a∧a≤((w1.length+1:Nat):Int) then if a=0∨a<((w1.length+1:Nat):Int) then if(List.take (w1.length+1-Int.toNat a) (List.drop (Int.toNat a) (w1++[qc.mk 0 (ByteArray.mk (List.toArray []))]))).length*2=(w1.length+1-Int.toNat a)*2∧Int.toNat (w64 (a+1))*2+(w1.length+1-Int.toNat (w64 (a+1)))*2≤(w1.length+1)*2 then if 0≤t8∧t8<((t7.length:Nat):Int) then Option.bind t7[Int.toNat t8]? fun(a4:qc)=>if 0≤a∧a<((w1.length+1:Nat):Int) then if Int.toNat a*2+2≤(w1.length+1)*2 then some (Sum.inl (List.set (spl (w1++[qc.mk 0 (ByteArray.mk (List.toArray []))]) (Int.toNat (w64 (a+1))) (List.take (min (w1.length+1-Int.toNat a) (w1.length+1-Int.toNat (w64 (a+1)))) (List.take (w1.length+1-Int.toNat a) (List.drop (Int.toNat a) (w1++[qc.mk 0 (ByteArray.mk (List.toArray []))]))))) (Int.toNat a) a4,w64 (t8+1))) else none else none else none else none else if Int.toNat (w64 (a+1))*2+(w1.length+1-Int.toNat (w64 (a+1)))*2≤(w1.length+1)*2 then if 0≤t8∧t8<((t7.length:Nat):Int) then Option.bind t7[Int.toNat t8]? fun(a5:qc)=>if 0≤a∧a<((w1.length+1:Nat):Int) then if Int.toNat a*2+2≤(w1.length+1)*2 then some (Sum.inl (List.set (w1++[qc.mk 0 (ByteArray.mk (List.toArray []))]) (Int.toNat a) a5,w64 (t8+1))) else none else none else none else none else none else if 0≤a∧a≤((w1.length+1:Nat):Int) then if a=0∨a<((w1.length+1:Nat):Int) then if(List.take (w1.length+1-Int.toNat a) (List.drop (Int.toNat a) (w1++[qc.mk 0 (ByteArray.mk (List.toArray []))]))).length*2=(w1.length+1-Int.toNat a)*2 then if 0≤t8∧t8<((t7.length:Nat):Int) then Option.bind t7[Int.toNat t8]? fun(a6:qc)=>if 0≤a∧a<((w1.length+1:Nat):Int) then if Int.toNat a*2+2≤(w1.length+1)*2 then some (Sum.inl (List.set (w1++[qc.mk 0 (ByteArray.mk (List.toArray []))]) (Int.toNat a) a6,w64 (t8+1))) else none else none else none else none else if 0≤t8∧t8<((t7.length:Nat):Int) then Option.bind t7[Int.toNat t8]? fun(a7:qc)=>if 0≤a∧a<((w1.length+1:Nat):Int) then if Int.toNat a*2+2≤(w1.length+1)*2 then some (Sum.inl (List.set (w1++[qc.mk 0 (ByteArray.mk (List.toArray []))]) (Int.toNat a) a7,w64 (t8+1))) else none else none else none else none else none else none else none else none else if w1.length+1≤maxLen∧(w1.length+1)*24≤140737488355328 then if 0≤w64 (a+1)∧w64 (a+1)≤((w1.length+1:Nat):Int) then if w64 (a+1)=0∨w64 (a+1)<((w1.length+1:Nat):Int) then if 0≤a∧a≤((w1.length+1:Nat):Int) then if a=0∨a<((w1.length+1:Nat):Int) then if(List.take (w1.length+1-Int.toNat a) (List.drop (Int.toNat a) (w1++[qc.mk 0 (ByteArray.mk (List.toArray []))]))).length*2=(w1.length+1-Int.toNat a)*2∧Int.toNat (w64 (a+1))*2+(w1.length+1-Int.toNat (w64 (a+1)))*2≤(w1.length+1)*2 then if 0≤t8∧t8<((t7.length:Nat):Int) then Option.bind t7[Int.toNat t8]? fun(a8:qc)=>if 0≤a∧a<((w1.length+1:Nat):Int) then if Int.toNat a*2+2≤(w1.length+1)*2 then some (Sum.inl (List.set (spl (w1++[qc.mk 0 (ByteArray.mk (List.toArray []))]) (Int.toNat (w64 (a+1))) (List.take (min (w1.length+1-Int.toNat a) (w1.length+1-Int.toNat (w64 (a+1)))) (List.take (w1.length+1-Int.toNat a) (List.drop (Int.toNat a) (w1++[qc.mk 0 (ByteArray.mk (List.toArray []))]))))) (Int.toNat a) a8,w64 (t8+1))) else none else none else none else none else if Int.toNat (w64 (a+1))*2+(w1.length+1-Int.toNat (w64 (a+1)))*2≤(w1.length+1)*2 then if 0≤t8∧t8<((t7.length:Nat):Int) then Option.bind t7[Int.toNat t8]? fun(a9:qc)=>if 0≤a∧a<((w1.length+1:Nat):Int) then if Int.toNat a*2+2≤(w1.length+1)*2 then some (Sum.inl (List.set (w1++[qc.mk 0 (ByteArray.mk (List.toArray []))]) (Int.toNat a) a9,w64 (t8+1))) else none else none else none else none else none else if 0≤a∧a≤((w1.length+1:Nat):Int) then if a=0∨a<((w1.length+1:Nat):Int) then if(List.take (w1.length+1-Int.toNat a) (List.drop (Int.toNat a) (w1++[qc.mk 0 (ByteArray.mk (List.toArray []))]))).length*2=(w1.length+1-Int.toNat a)*2 then if 0≤t8∧t8<((t7.length:Nat):Int) then Option.bind t7[Int.toNat t8]? fun(a10:qc)=>if 0≤a∧a<((w1.length+1:Nat):Int) then if Int.toNat a*2+2≤(w1.length+1)*2 then some (Sum.inl (List.set (w1++[qc.mk 0 (ByteArray.mk (List.toArray []))]) (Int.toNat a) a10,w64 (t8+1))) else none else none else none else none else if 0≤t8∧t8<((t7.length:Nat):Int) then Option.bind t7[Int.toNat t8]? fun(a11:qc)=>if 0≤a∧a<((w1.length+1:Nat):Int) then if Int.toNat a*2+2≤(w1.length+1)*2 then some (Sum.inl (List.set (w1++[qc.mk 0 (ByteArray.mk (List.toArray []))]) (Int.toNat a) a11,w64 (t8+1))) else none else none else none else none else none else none else some (Sum.inr w1)
theorem q5R:∀(w0:List qw) (w1:List qc) (t6:Int) (t7:List qc) (t8:Int) (q0p QO:Nat),q0p=w0.length→QO=w1.length→XL2 evo 54 0 8 ⟨[(3,rO 0 6 q0p),(5,rO 1 2 QO),(6,rI t6),(7,rL 2 qd t7),(8,rI t8)],[(0,bR 150 6 qQ w0),(1,bR 55 2 qd w1)],2,85⟩=(zl (Z8 w0 t6 t7) (w1,t8)).bind (fun(e:List qc)=>some (Exit.exit 2,⟨[(3,rO 0 6 w0.length),(5,rO 1 2 e.length),(6,rI t6)],[(0,bR 150 6 qQ w0),(1,bR 55 2 qd e)],2,85⟩)):=
 by
 intro w0 w1 t6 t7 t8 q0p QO h0 h1
 subst h0 h1
 revert t8;revert w1;exact qak qt7 qtl (fun e=>by exact⟨_,rfl,fun h=>by cases h⟩) fun w1 t8=>by
  have:=quI;have:=@qkF.eq_1;have:=@q5k;have:=@Z8.eq_1;exact gA
def Za (w0:List qw):(List qc×Int)→Option ((List qc×Int)⊕(List qc))|(w1,t6)=>if t6<((w0.length:Nat):Int) then if 0≤t6∧t6<((w0.length:Nat):Int) then Option.bind w0[Int.toNat t6]? fun(a:qw)=>Option.bind (zl (Z8 w0 t6 a.Need.Set) (w1,0)) fun(a2:List qc)=>some (Sum.inl (a2,w64 (t6+1))) else none else some (Sum.inr w1)
theorem q66:∀(w0:List qw) (w1:List qc) (t6:Int) (q0p QO:Nat),q0p=w0.length→QO=w1.length→XL2 evo 54 0 4 ⟨[(3,rO 0 6 q0p),(5,rO 1 2 QO),(6,rI t6)],[(0,bR 150 6 qQ w0),(1,bR 55 2 qd w1)],2,85⟩=(zl (Za w0) (w1,t6)).bind (fun(e:List qc)=>some (Exit.exit 0,⟨[(5,rO 0 2 e.length)],[(0,bR 55 2 qd e)],1,85⟩)):=
 by
 intro w0 w1 t6 q0p QO h0 h1
 subst h0 h1
 revert t6;revert w1;exact qak qtG qtj (fun e=>by exact⟨_,rfl,fun h=>by cases h⟩) fun w1 t6=>by
  have:=quI;have:=@qjs.eq_1;have:=@q5R;have:=@Za.eq_1;exact gA
theorem q4y:∀  (w0:List qw) (t6:Int) (q0p:Nat),q0p=w0.length→XL2 evo 54 0 4 ⟨[(3,rO 0 6 q0p),(5,rO 1 2 0),(6,rI t6)],[(0,bR 150 6 qQ w0),(1,B.row 55 2 [])],2,85⟩=(zl (Za w0) ([],t6)).bind (fun(e:List qc)=>some (Exit.exit 0,⟨[(5,rO 0 2 e.length)],[(0,bR 55 2 qd e)],1,85⟩)):=by
 intro w0 t6 q0p h0;subst h0;have h:=q66 w0 [] t6 _ _ rfl rfl
 first
  | exact h
  | (simp only[rL,dL,bR,bZ,Nat.reduceAdd] at h;exact h)
def q1i (x0:qb):Option (List qc):=Option.bind (q3r x0 1) fun(a:Sum Unit (List qw))=>Sum.elim (fun(a2:Unit)=>Option.bind (zl (q14 []) ([],0)) fun(a4:List qc)=>some a4) (fun(a3:List qw)=>Option.bind (zl (Za a3) ([],0)) fun(a5:List qc)=>some a5) a
theorem q9M:∀(qE Je qX:Int) (qY:List qc) (Jf:List qb),ev 54 0 [R.agg [dI qE,dI Je,dI qX,dL 2 qd qY,dL 5 qh Jf]] []=(q1i (qb.mk qE Je qX qY Jf)).bind (fun(e:List qc)=>some (rO 0 2 e.length,[(0,bR 55 2 qd e)])):=
 fun qE Je qX qY Jf=>by
  rw[qR qyr qKc.2.2.2 qEY]
  have:=quI;have:=@qcn;have:=@q5A;have:=@q4y;have:=@q1i.eq_1;exact gA
theorem qLC:okL 55 qpo:=qS (ql qFC) (by kernel_rfl) (by kernel_rfl)
def qM2:=JA_ @qpo.eq_1 (JA_ @Tryz.f55.eq_1 @qFC)
theorem qLM:okL 96 qpG:=qS (ql qFu) (by kernel_rfl) (by kernel_rfl)
def qMj:=JA_ @qpG.eq_1 (JA_ @Tryz.f96.eq_1 @qFu)
def q4r (n:Int) (m:Int):Option Int:=if m=0 then none else if m=0 then none else some (Int.tmod (w64 (Int.tmod n m+m)) m)
theorem qdR:∀(n m:Int),ev 96 0 [rI n,rI m] []=(q4r n m).bind (fun(e:Int)=>some (rI e,[])):=
 fun n m=>by
  rw[qR qFu qK5.2.2.2 qLM]
  have:=qMj;have:=@q4r.eq_1;exact gA
def QG (n:Int) (d:qj):Option (Int×qj):=if((d.L.length:Nat):Int)≤d.At then some (0,d) else if 0≤w64 (w64 (d.At+1)-1)∧w64 (w64 (d.At+1)-1)<((d.L.length:Nat):Int) then Option.bind d.L[Int.toNat (w64 (w64 (d.At+1)-1))]? fun(a:Int)=>Option.bind (q4r a n) fun(a2:Int)=>some (a2,qj.mk d.L (w64 (d.At+1))) else none
theorem q3P:∀(n:Int) (d_L:List Int) (q8Z:Int),ev 55 1 [rP 0,rI n] [(0,B.blk 109 [dL 1 eI d_L,dI q8Z])]=(QG n (qj.mk d_L q8Z)).bind (fun(e:Int×qj)=>some (rI e.1,[(0,B.blk 109 [dL 1 eI e.2.L,dI e.2.At])])):=
 fun n d_L q8Z=>by
  rw[qR qFC qKC.2.2.2 qLC]
  have:=qM2;have:=@qdR;have:=@QG.eq_1;exact gA
def Zg (w1:List qc) (t8:Int):(List qa×qj×Int)→Option ((List qa×qj×Int)⊕(List qa))|(w2,b0,t9)=>if t9<t8 then Option.bind (QG ((w1.length:Nat):Int) b0) fun(a:Prod Int qj)=>if 0≤a.1∧a.1<((w1.length:Nat):Int) then Option.bind w1[Int.toNat a.1]? fun(a2:qc)=>Option.bind (QG 4 a.2) fun(a3:Prod Int qj)=>if 0≤a3.1∧a3.1<4 then Option.bind [(5:Int),6,10,3][Int.toNat a3.1]? fun(a4:Int)=>Option.bind (QG 7 a3.2) fun(a5:Prod Int qj)=>if 0≤a5.1∧a5.1<7 then Option.bind [(50:Int),60,90,40,100,79,80][Int.toNat a5.1]? fun(a6:Int)=>Option.bind (QG 600 a5.2) fun(a7:Prod Int qj)=>Option.bind (QG 8 a7.2) fun(a8:Prod Int qj)=>if(a8.1==0)=Bool.true then if 0<t9 then if 0≤w64 (t9-1)∧w64 (t9-1)<((w2.length:Nat):Int) then Option.bind w2[Int.toNat (w64 (t9-1))]? fun(a9:qa)=>if 0<((a9.Sources.length:Nat):Int) then Option.bind a9.Sources[0]? fun(a10:Int)=>if w2.length+1≤maxLen∧(w2.length+1)*104≤140737488355328 then some (Sum.inl (w2++[qa.mk a2 a4 a6 a7.1 [a10] 0 []],a8.2,w64 (t9+1))) else none else none else none else if w2.length+1≤maxLen∧(w2.length+1)*104≤140737488355328 then some (Sum.inl (w2++[qa.mk a2 a4 a6 a7.1 [w64 (w64 (w64 (1000000*a2.School)+t9)+1)] 0 []],a8.2,w64 (t9+1))) else none else if w2.length+1≤maxLen∧(w2.length+1)*104≤140737488355328 then some (Sum.inl (w2++[qa.mk a2 a4 a6 a7.1 [w64 (w64 (w64 (1000000*a2.School)+t9)+1)] 0 []],a8.2,w64 (t9+1))) else none else none else none else none else some (Sum.inr w2)
theorem q9j:∀(w1:List qc) (w2:List qa) (q3R:List Int) (q1Y t8 t9:Int) (QO q2G:Nat),QO=w1.length→q2G=w2.length→XL2 evo 31 0 6 ⟨[(5,rP 0),(6,rO 1 2 QO),(7,rO 2 8 q2G),(8,rI t8),(9,rI t9)],[(0,B.blk 109 [dL 1 eI q3R,dI q1Y]),(1,bR 55 2 qd w1),(2,bR 57 8 qe w2)],3,77⟩=(zl (Zg w1 t8) (w2,(qj.mk q3R q1Y),t9)).bind (fun(e:List qa)=>some (Exit.exit 0,⟨[(7,rO 0 8 e.length)],[(0,bR 57 8 qe e)],1,77⟩)):=
 by
 intro w1 w2 q3R q1Y t8 t9 QO q2G h0 h1
 subst h0 h1
 have h:=q52 (E:=evo) (f:=31) (k:=0) (st:=fun x:List qa×qj×Int=>(⟨[(5,rP 0),(6,rO 1 2 w1.length),(7,rO 2 8 x.1.length),(8,rI t8),(9,rI x.2.2)],[(0,B.blk 109 [dL 1 eI x.2.1.L,dI x.2.1.At]),(1,bR 55 2 qd w1),(2,bR 57 8 qe x.1)],3,77⟩:S)) (ex:=fun(e:List qa)=>(Exit.exit 0,⟨[(7,rO 0 8 e.length)],[(0,bR 57 8 qe e)],1,77⟩)) (step:=(Zg w1 t8)) qCq qCs (fun e h=>by cases h) (fun x=>by
  obtain⟨w2,b0,t9⟩:=x;have:=qJD;have:=@qmY.eq_1;have:=@q3P;have:=@Zg.eq_1;exact gA) (w2,(qj.mk q3R q1Y),t9)
 exact h
theorem q7c:∀  (w1:List qc) (q3R:List Int) (q1Y t8 t9:Int) (QO:Nat),QO=w1.length→XL2 evo 31 0 6 ⟨[(5,rP 0),(6,rO 1 2 QO),(7,rO 2 8 0),(8,rI t8),(9,rI t9)],[(0,B.blk 109 [dL 1 eI q3R,dI q1Y]),(1,bR 55 2 qd w1),(2,B.row 57 8 [])],3,77⟩=(zl (Zg w1 t8) ([],(qj.mk q3R q1Y),t9)).bind (fun(e:List qa)=>some (Exit.exit 0,⟨[(7,rO 0 8 e.length)],[(0,bR 57 8 qe e)],1,77⟩)):=by
 intro w1 q3R q1Y t8 t9 QO h0;subst h0;have h:=q9j w1 [] ((qj.mk q3R q1Y)).L ((qj.mk q3R q1Y)).At t8 t9 _ _ rfl rfl
 first
  | exact h
  | (simp only[rL,dL,bR,bZ,Nat.reduceAdd] at h;exact h)
def q3x (x0:qb) (x1:List Int):Option (List qa):=Option.bind (q1i x0) fun(a:List qc)=>if a.length+1≤maxLen∧(a.length+1)*24≤140737488355328 then Option.bind (QG 8 (qj.mk x1 0)) fun(a2:Prod Int qj)=>Option.bind (zl (Zg (a++[qc.mk 1 (ByteArray.mk (List.toArray [90]))]) a2.1) ([],(a2.2,0))) fun(a3:List qa)=>some a3 else none
theorem qcW:∀(qE Je qX:Int) (qY:List qc) (Jf:List qb) (x1:List Int),ev 31 0 [R.agg [dI qE,dI Je,dI qX,dL 2 qd qY,dL 5 qh Jf],rL 1 eI x1] []=(q3x (qb.mk qE Je qX qY Jf) x1).bind (fun(e:List qa)=>some (rL 8 qe e,[])):=
 fun qE Je qX qY Jf x1=>by
  rw[qR qES qKu.2.2.2 qKm]
  have:=qJD;have:=@q9M;have:=@q3P;have:=@q7c;have:=@q3x.eq_1;exact gA
def q0g (c:JW):Option (qf×List qa×Int):=Option.bind (q3w c.Programme) fun(a:qf)=>Option.bind (q3z c.Had) fun(a2:List qa)=>if(Int.tmod c.Day 2==0)=Bool.true then Option.bind (q3x a.Need c.Had) fun(a3:List qa)=>some (a,a3,Int.tmod (w64 c.Day) 800) else some (a,a2,Int.tmod (w64 c.Day) 800)
theorem q8e:∀(q90 qym:List Int) (qyn:Int),ev 11 0 [R.agg [dL 1 eI q90,dL 1 eI qym,C.d (D.int .u16 qyn)]] []=(q0g (JW.mk q90 qym qyn)).bind (fun(e:qf×List qa×Int)=>some (R.tup [R.agg [dI e.1.School,dI e.1.Id,dI e.1.Version,dI e.1.From,dS e.1.Name,dI e.1.Need.Kind,dI e.1.Need.N,dI e.1.Need.Min,dL 2 qd e.1.Need.Set,dL 5 qh e.1.Need.L,dI e.1.Total,dI e.1.Own,dI e.1.Age,dL 4 (eA2 qd) e.1.Exclude],rL 8 qe e.2.1,rI e.2.2],[])):=
 fun q90 qym qyn=>by
  rw[qR qIk qJj.2.2.2 qOl]
  have:=qNe;have:=@qdb;have:=@qdq;have:=@qcW;have:=@q0g.eq_1;exact gA
end

end Go.Proofs.YtojflbfdcpkedaaGreat.Vc
