/- Part 4 of a proof. -/
import Derived.Test.YtojflbfdcpkedaaGreatP3
set_option linter.unusedVariables false
set_option linter.unusedSimpArgs false
set_option linter.defProp false
set_option linter.unusedSectionVars false
set_option linter.unnecessarySimpa false
namespace Go.Proofs.YtojflbfdcpkedaaGreat.Vc
noncomputable section
open Go.RowKit
theorem qIe:qgk Tryz.prog 55=true:=by kernel_rfl
theorem qG0:qsH Tryz.prog 70=true:=by kernel_rfl
def by0:=JA_ @k3 (JA_ @z3 (JA_ @b3 (JA_ @o3 (JA_ @q3 (JA_ @k4 (JA_ @z4 (JA_ @b4 (JA_ @o4 (JA_ @q4 (JA_ @k5 (@z5)))))))))))
def by1:=JA_ @k9 (JA_ @z9 (@q9))
def by2:=JA_ @q21 (JA_ @k22 (JA_ @z22 (JA_ @o22 (JA_ @q22 (JA_ @k23 (JA_ @z23 (JA_ @k25 (@z25))))))))
def by3:=JA_ @q25 (JA_ @k26 (JA_ @z26 (JA_ @o26 (JA_ @q26 (JA_ @k28 (JA_ @z28 (JA_ @o28 (JA_ @q28 (JA_ @k29 (JA_ @z29 (JA_ @o29 (JA_ @k33 (@z33)))))))))))))
def by4:=JA_ @q33 (JA_ @k34 (JA_ @z34 (JA_ @o34 (JA_ @q34 (JA_ @k36 (JA_ @z36 (JA_ @b36 (JA_ @o36 (JA_ @q36 (JA_ @k37 (JA_ @z37 (JA_ @q37 (JA_ @k39 (JA_ @z39 (JA_ @o39 (@q39))))))))))))))))
def by5:=JA_ @k48 (JA_ @z48 (JA_ @o48 (JA_ @q48 (JA_ @k49 (JA_ @z49 (JA_ @o49 (@q49)))))))
def by6:=JA_ @k55 (JA_ @z55 (JA_ @b55 (JA_ @o55 (JA_ @q55 (JA_ @k57 (JA_ @z57 (JA_ @b57 (JA_ @o57 (@q57)))))))))
def by8:=JA_ @k70 (JA_ @z70 (JA_ @o70 (@q70)))
def by9:=@k76
def qKX:=JA_ @k85 (JA_ @q85 (JA_ @k88 (JA_ @z88 (JA_ @o88 (@q88)))))
def qLA:=@q92
def qLX:=JA_ @qMy (JA_ @qNy (JA_ @qNj (JA_ @qMd (JA_ @qKP (JA_ @qNW (JA_ @qLp (@qLg)))))))
def qN6:=JA_ @qNC (JA_ @qLk (JA_ @qNF (JA_ @qO1 (JA_ @qL3 (JA_ @qNf (JA_ @qLI (JA_ @qNQ (@qMv))))))))
def qLf:=JA_ @qN5 (JA_ @qLz (JA_ @qLN (@qMZ)))
def qNB:=JA_ @qLd (JA_ @qMg (JA_ @qMq (JA_ @qLm (JA_ @qKS (JA_ @qLL (JA_ @qN0 (JA_ @qM7 (JA_ @qLM (JA_ @qLh (@qKW))))))))))
def qNz:=JA_ @qMY (JA_ @qMU (JA_ @qM8 (JA_ @qLt (JA_ @qMK (JA_ @qMD (@qMk))))))
def qM1:=JA_ @qMw (JA_ @qO3 (@qL4))
def qNu:=JA_ @qMA (JA_ @qNe (JA_ @qM2 (JA_ @qN2 (JA_ @qMF (JA_ @qNp (JA_ @qN4 (JA_ @qLn (JA_ @qMu (JA_ @qKV (@qLW))))))))))
def qKO:=JA_ @qLG (@qNV)
def qLD:=@qLw
def qML:=JA_ @qLE (@qNR)
def qM3:=@qIe
def qLC:=JA_ @qG0 (JA_ @pw7 (JA_ @qJZ (JA_ @qJT (JA_ @qK4 (JA_ @qIP (JA_ @qKm (JA_ @qJv (JA_ @qKi (JA_ @qIZ (JA_ @qJe (JA_ @qJ2 (JA_ @qJ4 (JA_ @qK3 (JA_ @qKl (JA_ @qKx (JA_ @qJN (@qJQ)))))))))))))))))
def qNa:=JA_ @qKs (JA_ @qK5 (JA_ @qJg (JA_ @qKo (JA_ @qJ3 (JA_ @qJd (JA_ @qKb (JA_ @qKn (JA_ @qJC (JA_ @qJo (JA_ @qJi (JA_ @qJz (JA_ @qKq (JA_ @qK2 (JA_ @qIQ (JA_ @qJM (JA_ @qJU (JA_ @qJc (JA_ @qJ7 (JA_ @qFP (JA_ @qKk (JA_ @qOi (JA_ @qK6 (JA_ @qKr (JA_ @qJh (JA_ @qKa (JA_ @qKe (JA_ @qJl (JA_ @qJa (JA_ @qJr (@qJ5))))))))))))))))))))))))))))))
def qNI:=JA_ @qII (JA_ @qJE (JA_ @qEL (JA_ @qIV (JA_ @qG5 (JA_ @qJP (JA_ @qIk (JA_ @qKu (JA_ @qKh (JA_ @qJ1 (JA_ @qJJ (JA_ @qJj (JA_ @qH7 (JA_ @qEk (JA_ @qKd (JA_ @qIH (JA_ @qIY (JA_ @qJ8 (JA_ @qCq (JA_ @qBN (JA_ @qA8 (JA_ @qzh (JA_ @qn7 (JA_ @qBf (JA_ @qCn (JA_ @qCh (JA_ @qyE (JA_ @qD3 (JA_ @qCw (JA_ @qCo (@qzc))))))))))))))))))))))))))))))
def qNt:=JA_ @qDP (JA_ @qDX (JA_ @qAn (JA_ @qvM (JA_ @qrG (JA_ @qBw (JA_ @qDU (JA_ @qDf (JA_ @qAq (JA_ @qBm (JA_ @qCB (JA_ @qAA (JA_ @qzK (JA_ @qAI (JA_ @qyQ (JA_ @qCf (JA_ @qDt (JA_ @qBR (JA_ @qCr (@qzz)))))))))))))))))))
def qO2:=JA_ @qAS (JA_ @qDZ (JA_ @qDH (JA_ @qzO (JA_ @qyW (JA_ @qBp (JA_ @qD1 (JA_ @qBP (JA_ @qsE (JA_ @qB3 (JA_ @qzt (JA_ @qDx (JA_ @qyX (JA_ @qzV (JA_ @qD4 (JA_ @qDO (JA_ @qHp (@qF3)))))))))))))))))
def qOh:=JA_ @qGI (JA_ @qFU (JA_ @qGl (JA_ @qI7 (JA_ @qFs (JA_ @qGN (JA_ @qG8 (JA_ @qGd (JA_ @qH4 (JA_ @qGA (JA_ @qHT (JA_ @qGp (JA_ @qIf (@qFA)))))))))))))
def qKY:=JA_ @qFi (JA_ @qGu (JA_ @qIt (JA_ @qGf (JA_ @qHF (JA_ @qFD (JA_ @qHZ (JA_ @qGP (JA_ @qFt (JA_ @qHf (JA_ @qH5 (JA_ @qFC (JA_ @qFV (JA_ @qGs (JA_ @qHS (JA_ @qG2 (JA_ @qHt (JA_ @qHW (@qGb))))))))))))))))))
def qOd:=JA_ @qGe (JA_ @qFJ (JA_ @qG1 (JA_ @qzJ (JA_ @qzB (JA_ @qyL (JA_ @qzQ (JA_ @qC8 (JA_ @qE5 (JA_ @qyC (@qDV))))))))))
def qMf:=JA_ @qCg (JA_ @qzZ (JA_ @qyz (JA_ @qBQ (JA_ @qBS (JA_ @qCX (JA_ @qyO (JA_ @qBI (JA_ @qAw (JA_ @qCz (JA_ @qz7 (@qyF)))))))))))
def qMJ:=JA_ @qC9 (JA_ @qBK (JA_ @qDS (JA_ @qA6 (JA_ @qAl (JA_ @qAE (JA_ @qyS (JA_ @qD6 (JA_ @qAY (JA_ @qAB (JA_ @qzq (JA_ @qAP (JA_ @qBY (JA_ @qAU (JA_ @qAs (@qyN)))))))))))))))
def qLj:=JA_ @qyA (JA_ @qAT (JA_ @qy3 (JA_ @qCc (JA_ @qB0 (JA_ @qy9 (JA_ @qAD (JA_ @qBZ (JA_ @qzl (JA_ @qCW (JA_ @qyB (JA_ @qCP (JA_ @qA0 (JA_ @qwJ (JA_ @qAW (JA_ @qCV (JA_ @qDQ (JA_ @qBy (JA_ @qzp (JA_ @qCx (@qBv))))))))))))))))))))
def qLR:=JA_ @qDj (JA_ @qso (JA_ @qsR (JA_ @qsw (JA_ @qqE (JA_ @qxs (JA_ @qxQ (JA_ @qvX (JA_ @qvG (JA_ @qvO (JA_ @qvP (JA_ @quN (JA_ @qy0 (@qwx)))))))))))))
def qNN:=JA_ @qvp (JA_ @quu (JA_ @qv6 (JA_ @quD (@quY))))
def qMO:=JA_ @qGC (JA_ @qDp (JA_ @qxe (JA_ @qCp (JA_ @qu8 (@qCM)))))
def qMQ:=JA_ @qw8 (JA_ @qBA (JA_ @qBM (JA_ @qC5 (JA_ @qyI (JA_ @qDL (JA_ @qwr (JA_ @qu5 (JA_ @qyT (JA_ @qDF (JA_ @qE0 (JA_ @qwU (JA_ @qyd (JA_ @qxN (JA_ @qAm (JA_ @qyy (JA_ @quz (JA_ @qAF (JA_ @qz2 (JA_ @qwT (JA_ @qCZ (JA_ @qz8 (JA_ @qBn (JA_ @qAd (JA_ @qul (@qxl)))))))))))))))))))))))))
def qKG:=JA_ @qvc (JA_ @qxy (JA_ @qwq (JA_ @qr2 (JA_ @qtU (JA_ @qvE (JA_ @quG (JA_ @quL (JA_ @qxI (JA_ @qqx (JA_ @qs4 (@quB)))))))))))
def qL6:=JA_ @qtV (JA_ @qx7 (JA_ @qwl (JA_ @qHr (JA_ @qzw (JA_ @qtZ (JA_ @qzS (JA_ @qxi (JA_ @qzP (JA_ @qvH (@qBh))))))))))
def qLJ:=JA_ @qCi (JA_ @qCO (JA_ @qzd (JA_ @qBg (JA_ @qtX (JA_ @qx0 (JA_ @qAj (JA_ @qBx (JA_ @qyv (JA_ @qwC (JA_ @qxj (JA_ @qwH (JA_ @qB8 (JA_ @qAx (JA_ @qx3 (JA_ @qDb (JA_ @qE4 (JA_ @qwY (JA_ @qzU (JA_ @qzs (JA_ @qE3 (JA_ @qzD (JA_ @quM (JA_ @qu4 (JA_ @qxg (@qxa)))))))))))))))))))))))))
def qMe:=JA_ @qwZ (JA_ @qqF (JA_ @qvi (JA_ @qvf (JA_ @qu7 (JA_ @qvI (JA_ @qx4 (JA_ @qqJ (JA_ @qqO (@qtR)))))))))
def qM5:=@qxp
def bt0:=JA_ @qGn (JA_ @qsL (JA_ @qFK (JA_ @qC4 (JA_ @qBX (JA_ @qy7 (JA_ @qyw (JA_ @qBO (JA_ @qec (JA_ @qlC (@qkX))))))))))
def bt1:=JA_ @qBc (JA_ @qDg (JA_ @qs5 (JA_ @q6I (JA_ @qDK (JA_ @qlm (JA_ @qzn (@qxW)))))))
def bt2:=JA_ @qwt (JA_ @qum (JA_ @qvr (JA_ @qB7 (JA_ @qkY (JA_ @qCT (@qvJ))))))
def bt3:=@ql5
def bt4:=JA_ @qsA (JA_ @qry (@qrK))
def bt5:=JA_ @qHH (JA_ @qrr (JA_ @qzv (JA_ @qzm (JA_ @quf (@qib)))))
def bt6:=JA_ @qwW (JA_ @qxS (JA_ @qcQ (JA_ @qdN (JA_ @q8j (JA_ @qfm (JA_ @qbu (JA_ @q73 (JA_ @qbm (JA_ @qdu (@qvs))))))))))
def bA:=JA_ @bx0 (JA_ @bx1 (JA_ @bx2 (JA_ @bx3 (JA_ @bx4 (JA_ @bx5 (JA_ @bx6 (JA_ @bx7 (JA_ @bx8 (JA_ @bx9 (JA_ @qN3 (JA_ @qNZ (JA_ @qO8 (JA_ @qMW (JA_ @qMj (JA_ @qKC (JA_ @qND (JA_ @qLq (JA_ @qNO (JA_ @qNY (JA_ @qMi (JA_ @qLS (JA_ @qO6 (JA_ @qLo (JA_ @qNs (JA_ @qLy (JA_ @qMc (JA_ @qKK (JA_ @bz0 (JA_ @bz1 (JA_ @by0 (JA_ @by1 (JA_ @by2 (JA_ @by3 (JA_ @by4 (JA_ @by5 (JA_ @by6 (JA_ @by8 (JA_ @by9 (JA_ @qKX (JA_ @qLA (JA_ @qLX (JA_ @qN6 (JA_ @qLf (JA_ @qNB (JA_ @qNz (JA_ @qM1 (JA_ @qNu (JA_ @qKO (JA_ @qLD (JA_ @qML (JA_ @qM3 (JA_ @qLC (JA_ @qNa (JA_ @qNI (JA_ @qNt (JA_ @qO2 (JA_ @qOh (JA_ @qKY (JA_ @qOd (JA_ @qMf (JA_ @qMJ (JA_ @qLj (JA_ @qLR (JA_ @qNN (JA_ @qMO (JA_ @qMQ (JA_ @qKG (JA_ @qL6 (JA_ @qLJ (JA_ @qMe (JA_ @qM5 (JA_ @bt0 (JA_ @bt1 (JA_ @bt2 (JA_ @bt3 (JA_ @bt4 (JA_ @bt5 (@bt6))))))))))))))))))))))))))))))))))))))))))))))))))))))))))))))))))))))))))))))
def bZ:=JA_ @qOZ.{0} (JA_ @qPE.{0} (JA_ @q74 (JA_ @qPA.{0} (JA_ @qP3.{0} (JA_ @qPC.{0} (JA_ @qPg (JA_ @qPX.{0,0} (JA_ @List.flatMap_nil.{0,0} (JA_ @qPf.{0,0} (JA_ @List.map_nil.{0,0} (JA_ @eI.eq_1 (JA_ @eS.eq_1 (JA_ @qPY.{0} (JA_ @qPc.{0} (JA_ @qPd.{0} (JA_ @List.flatMap_append.{0,0} (JA_ @List.map_append.{0,0} (JA_ @q2q (JA_ @q16 (JA_ @Jv (@eA2.eq_1)))))))))))))))))))))
theorem gA {P:Prop} (h:P:=by simp -implicitDefEqProofs (maxSteps:=10000000) only[bA,Int.reduceToNat,Int.reduceLT,Int.reduceLE,Int.reduceAdd,Int.reduceSub,Int.reduceMul,Int.reduceNeg,Int.reduceEq,Int.reduceNe,Int.reduceBEq,Int.reduceBNe,Nat.reduceLT,Nat.reduceAdd,Nat.reduceMul,Nat.reduceSub,Nat.reduceEqDiff,Nat.reduceLeDiff,Nat.reduceBEq,Nat.reduceBNe,↓reduceIte,reduceCtorEq,pure,bind,w64,Q7,roundOf,Option.or_some,Option.or_none,Option.none_or,Option.some_or, *]<;>simp only[rL,dL,bR,bZ,Nat.reduceAdd]):P:=h
end
noncomputable section
open Go.RowKit
set_option maxRecDepth 20000
set_option maxHeartbeats 8000000
theorem qHI:okL 15 qel:=qZ (qk qym) (by kernel_rfl) (by kernel_rfl)
def qHO:=JA_ @qel.eq_1 (JA_ @Tryz.f15.eq_1 @qym)
theorem qCE:lbO 15 6=qnF:=QG (qk qym) rfl
theorem qBi:okL 15 qnF:=zV qHI (qOT (i:=0) (by kernel_rfl))
theorem qlS:raO 15 19=qaP:=qtG (qk qym) rfl
theorem qhc:rbO 15 19=q8z:=qtu (qk qym) rfl
theorem qlU:okL 15 qaP∧okL 15 q8z:=qt0 (key:=0) (q:=(qaP,q8z)) qHI (qOT (i:=0) (by kernel_rfl))
theorem qhO:Q5 (rbO 15 19)=19:=by rw[qhc];exact qxq
theorem qwB:∀k s,XE2 evo 15 k (raO 15 19) s=XE2 evo 15 k qaP s:=fun _ _=>by rw[qlS]
theorem qtK:∀k s,XE2 evo 15 k (rbO 15 19) s=XE2 evo 15 k q8z s:=fun _ _=>by rw[qhc]
theorem qOa:okL 33 qnk:=qZ (qk qIo) (by kernel_rfl) (by kernel_rfl)
def qNh:=JA_ @qnk.eq_1 (JA_ @Tryz.f33.eq_1 @qIo)
theorem qJV:okL 56 qkv:=qZ (qk qEH) (by kernel_rfl) (by kernel_rfl)
def qJm:=JA_ @qkv.eq_1 (JA_ @Tryz.f56.eq_1 @qEH)
theorem qxh:lbO 56 13=qj0:=QG (qk qEH) rfl
theorem quX:okL 56 qj0:=zV qJV (qOT (i:=0) (by kernel_rfl))
theorem qMX:okL 97 qmP:=qZ (qk qIz) (by kernel_rfl) (by kernel_rfl)
def qLl:=JA_ @qmP.eq_1 (JA_ @Tryz.f97.eq_1 @qIz)
def q3U (n:Int) (low:Int) (high:Int):Option Bool:=if low≤n then some (decide (n≤high)) else some Bool.false
def zD (n:Int) (low:Int) (high:Int):Bool:=if low≤n then decide (n≤high) else Bool.false
theorem qaL (n low high:Int):q3U n low high=some (zD n low high):=by
 unfold q3U zD
 simp only[Zn]
theorem Jq:∀(n low high:Int),ev 97 0 [rI n,rI low,rI high] []=some (rB (zD n low high),[]):=
 fun n low high=>by
  have h:ev 97 0 [rI n,rI low,rI high] []=(q3U n low high).bind (fun(e:Bool)=>some (rB e,[])):=by
   rw[qW qIz qIH.2.2.2 qMX]
   have:=qLl;have:=@q3U.eq_1;exact gA
  rw[qaL] at h
  exact h
theorem qJX:okL 98 qjn:=qZ (qk qET) (by kernel_rfl) (by kernel_rfl)
def qK1:=JA_ @qjn.eq_1 (JA_ @Tryz.f98.eq_1 @qET)
theorem qzH:lbO 98 2=qpx:=QG (qk qET) rfl
theorem qyR:okL 98 qpx:=zV qJX (qOT (i:=0) (by kernel_rfl))
def q0e (s:ByteArray) (t6:List Int) (t7:Int):Int→Option (Int⊕(Unit⊕Unit))|t8=>if t8<t7 then if 0≤t8∧t8<((t6.length:Nat):Int) then Option.bind t6[Int.toNat t8]? fun(a:Int)=>if a<32 then some (Sum.inr (Sum.inl ())) else if 126<a then some (Sum.inr (Sum.inl ())) else if(a==34)=Bool.true then some (Sum.inr (Sum.inl ())) else some (Sum.inl (w64 (t8+1))) else none else some (Sum.inr (Sum.inr ()))
theorem q9P:∀(s:ByteArray) (t6:List Int) (t7 t8:Int),XL2 evo 98 0 2 ⟨[(0,rS s),(6,rL 1 eU8 t6),(7,rI t7),(8,rI t8)],[],0,26⟩=(zB (q0e s t6 t7) t8).bind (Sum.elim (fun(e:Unit)=>some (Exit.ret,⟨[(0,rS s),(2,rB Bool.false)],[],0,26⟩)) (fun(e:Unit)=>some (Exit.exit 0,⟨[(0,rS s),(2,R.any)],[],0,26⟩))):=
 fun s t6 t7 t8=>by
  revert t8;exact qbj qzH qyR (fun e=>by rcases e with _|_<;>exact⟨_,rfl,fun h=>by cases h⟩) fun x=>by
   have:=qK1;have:=@qpx.eq_1;have:=@q0e.eq_1;exact gA
def q1e (s:ByteArray):Option Bool:=if ByteArray.size s≤4611686018427387903 then Option.bind (zB (q0e s (qgZ s) (((qgZ s).length:Nat):Int)) 0) fun(a:Sum Unit Unit)=>Sum.elim (fun(a2:Unit)=>some Bool.false) (fun(a3:Unit)=>some (zD ((ByteArray.size s:Nat):Int) 1 40)) a else none
theorem qcs:∀(s:ByteArray),ev 98 0 [rS s] []=(q1e s).bind (fun(e:Bool)=>some (rB e,[])):=
 fun s=>by
  rw[qW qET qIY.2.2.2 qJX]
  have:=qK1;have:=@q9P;have:=@Jq;have:=@q1e.eq_1;exact gA
theorem qK7:okL 58 qko:=qZ (qk qEs) (by kernel_rfl) (by kernel_rfl)
def qJH:=JA_ @qko.eq_1 (JA_ @Tryz.f58.eq_1 @qEs)
theorem qAR:lbO 58 6=qn9:=QG (qk qEs) rfl
theorem qz0:okL 58 qn9:=zV qK7 (qOT (i:=0) (by kernel_rfl))
theorem qCR:okL 102 qd0:=qZ (qk qmg) (by kernel_rfl) (by kernel_rfl)
def qu1:=JA_ @qd0.eq_1 (JA_ @Tryz.f102.eq_1 @qmg)
theorem qhs:raO 102 4=q8v:=qtG (qk qmg) rfl
theorem qeE:rbO 102 4=q6G:=qtu (qk qmg) rfl
theorem qer:okL 102 q8v∧okL 102 q6G:=qt0 (key:=0) (q:=(q8v,q6G)) qCR (qOT (i:=0) (by kernel_rfl))
theorem qiN:Q5 (rbO 102 4)=4:=by rw[qeE];exact qwL
theorem qnj:∀k s,XE2 evo 102 k (raO 102 4) s=XE2 evo 102 k q8v s:=fun _ _=>by rw[qhs]
theorem qoK:∀k s,XE2 evo 102 k (rbO 102 4) s=XE2 evo 102 k q6G s:=fun _ _=>by rw[qeE]
theorem qHQ:okL 139 qh9:=qZ (qk qxv) (by kernel_rfl) (by kernel_rfl)
def qG6:=JA_ @qh9.eq_1 (JA_ @Tryz.f139.eq_1 @qxv)
def q4G (n:qb):Option Unit:=
 some ()
def q8b (n:qb):Unit:=
 ()
theorem qbx (n:qb):q4G n=some (q8b n):=by
 unfold q4G q8b
 simp only[Zn]
theorem qc9:∀(qz n_N qQ:Int) (qR:List qc) (n_L:List qb),ev 139 0 [R.agg [dI qz,dI n_N,dI qQ,dL 2 qd qR,dL 5 qh n_L]] []=some (R.c (C.fn 168 [] [dP 0]),[(0,B.blk 36 [dI qz,dI n_N,dI qQ,dL 2 qd qR,dL 5 qh n_L])]):=
 fun qz n_N qQ qR n_L=>by
  have h:ev 139 0 [R.agg [dI qz,dI n_N,dI qQ,dL 2 qd qR,dL 5 qh n_L]] []=(q4G (qb.mk qz n_N qQ qR n_L)).bind (fun(e:Unit)=>some (R.c (C.fn 168 [] [dP 0]),[(0,B.blk 36 [dI qz,dI n_N,dI qQ,dL 2 qd qR,dL 5 qh n_L])])):=by
   rw[qW qxv qAA.2.2.2 qHQ]
   have:=qG6;have:=@q4G.eq_1;exact gA
  rw[qbx] at h
  exact h
theorem qFH:okL 168 qiE:=qZ (qk qwo) (by kernel_rfl) (by kernel_rfl)
def qGh:=JA_ @qiE.eq_1 (JA_ @Tryz.f168.eq_1 @qwo)
theorem qvm:okL 169 qeu:=qZ (qk qpb) (by kernel_rfl) (by kernel_rfl)
def qrl:=JA_ @qeu.eq_1 (JA_ @Tryz.f169.eq_1 @qpb)
theorem qp1:lbO 169 4=qfg:=QG (qk qpb) rfl
theorem qn4:okL 169 qfg:=zV qvm (qOT (i:=0) (by kernel_rfl))
def q38 (t9:Int) (t10:Int) (t102:Int) (t103:Int) (t104:List qc) (t105:List qb) (deepest:Int) (ok:Bool):Option (Unit⊕(List qb×Int)):=if 100<t9 then some (Sum.inl ()) else if 1≤maxLen then some (Sum.inr ([qb.mk t10 t102 t103 t104 t105],max deepest t9)) else none
theorem qaT:∀(t9 t10 t102 t103:Int) (t104:List qc) (t105:List qb) (deepest:Int) (ok:Bool),evr 102 (raO 102 4) (rbO 102 4) 4 [R.any,R.any,rP 0,rP 1,rP 2,R.any,R.any,R.any,R.any,rI t9,R.agg [dI t10,dI t102,dI t103,dL 2 qd t104,dL 5 qh t105],R.any,R.any,R.any,R.any,R.any,R.any,R.any,R.any,R.any,R.any,R.any,R.any,R.any,R.any,R.any,R.any] [(0,B.blk 34 [C.nils]),(1,B.blk 3 [dI deepest]),(2,B.blk 4 [dB ok]),(3,B.ob (AO.lp 102 (R.any::R.any::rP 0::rP 1::rP 2::q8o) [9,10] (raO 102 4) (rbO 102 4) LoopState.ready none))]=(q38 t9 t10 t102 t103 t104 t105 deepest ok).bind (Sum.elim (fun(e:Unit)=>some (rB Bool.false,[(0,B.blk 34 [C.nils]),(1,B.blk 3 [dI 0]),(2,B.blk 4 [dB Bool.false]),(3,B.ob (AO.lp 102 (R.any::R.any::rP 0::rP 1::rP 2::q8o) [9,10] (raO 102 4) (rbO 102 4) LoopState.done (some Code.ret)))])) (fun(e:List qb×Int)=>some (rB Bool.true,[(0,B.blk 34 [dO 4 5 e.1.length]),(1,B.blk 3 [dI e.2]),(2,B.blk 4 [dB ok]),(3,B.ob (AO.lp 102 (R.any::R.any::rP 0::rP 1::rP 2::q8o) [9,10] (raO 102 4) (rbO 102 4) LoopState.ready none)),(4,bR 36 5 qh e.1)]))):=
 fun t9 t10 t102 t103 t104 t105 deepest ok=>by
  rw[qho qhs qeE (by decide) qpQ qer.1 qer.2]
  have:=qu1;have:=@qnj;have:=@qoK;have:=@q8v.eq_1;have:=@q6G.eq_1;have:=@q38.eq_1;have:=@qiN;exact gA
def q1W (t9:Int) (t10:Int) (t102:Int) (t103:Int) (t104:List qc) (t105:List qb) (w4:List qb) (deepest:Int) (ok:Bool):Option (Unit⊕(List qb×Int)):=if 100<t9 then some (Sum.inl ()) else if(((w4.length:Nat):Int)==10000)=Bool.true then some (Sum.inl ()) else if w4.length+1≤maxLen∧(w4.length+1)*72≤140737488355328 then some (Sum.inr (w4++[qb.mk t10 t102 t103 t104 t105],max deepest t9)) else none
theorem q8u:∀(t9 t10 t102 t103:Int) (t104:List qc) (t105 w4:List qb) (deepest:Int) (ok:Bool) (ZF:Nat),ZF=w4.length→evr 102 (raO 102 4) (rbO 102 4) 4 [R.any,R.any,rP 0,rP 1,rP 2,R.any,R.any,R.any,R.any,rI t9,R.agg [dI t10,dI t102,dI t103,dL 2 qd t104,dL 5 qh t105],R.any,R.any,R.any,R.any,R.any,R.any,R.any,R.any,R.any,R.any,R.any,R.any,R.any,R.any,R.any,R.any] [(0,B.blk 34 [dO 4 5 ZF]),(1,B.blk 3 [dI deepest]),(2,B.blk 4 [dB ok]),(3,B.ob (AO.lp 102 (R.any::R.any::rP 0::rP 1::rP 2::q8o) [9,10] (raO 102 4) (rbO 102 4) LoopState.ready none)),(4,bR 36 5 qh w4)]=(q1W t9 t10 t102 t103 t104 t105 w4 deepest ok).bind (Sum.elim (fun(e:Unit)=>some (rB Bool.false,[(0,B.blk 34 [C.nils]),(1,B.blk 3 [dI 0]),(2,B.blk 4 [dB Bool.false]),(3,B.ob (AO.lp 102 (R.any::R.any::rP 0::rP 1::rP 2::q8o) [9,10] (raO 102 4) (rbO 102 4) LoopState.done (some Code.ret)))])) (fun(e:List qb×Int)=>some (rB Bool.true,[(0,B.blk 34 [dO 4 5 e.1.length]),(1,B.blk 3 [dI e.2]),(2,B.blk 4 [dB ok]),(3,B.ob (AO.lp 102 (R.any::R.any::rP 0::rP 1::rP 2::q8o) [9,10] (raO 102 4) (rbO 102 4) LoopState.ready none)),(4,bR 36 5 qh e.1)]))):=
 by
 intro t9 t10 t102 t103 t104 t105 w4 deepest ok ZF h0
 subst h0
 rw[qho qhs qeE (by decide) qpQ qer.1 qer.2]
 have:=qu1;have:=@qnj;have:=@qoK;have:=@q8v.eq_1;have:=@q6G.eq_1;have:=@q1W.eq_1;have:=@qiN;exact gA
def J0 (x:(qb×Int×List qb×Int×Bool)):List R×List (Nat×B):=([R.agg [C.d (D.int .i64 x.1.Kind),C.d (D.int .i64 x.1.N),C.d (D.int .i64 x.1.Min),C.d (D.sl 2 x.1.Set.length (x.1.Set.flatMap qd)),C.d (D.sl 5 x.1.L.length (x.1.L.flatMap qh))],R.c (C.d (D.int .i64 x.2.1)),R.c (C.hd .yield 0)],[(0,B.ob (AO.lp 102 [R.any,R.any,R.c (C.ptr 1 0),R.c (C.ptr 2 0),R.c (C.ptr 3 0),R.any,R.any,R.any,R.any,R.any,R.any,R.any,R.any,R.any,R.any,R.any,R.any,R.any,R.any,R.any,R.any,R.any,R.any,R.any,R.any,R.any,R.any] [9,10] (raO 102 4) (rbO 102 4) LoopState.ready none)),(1,B.blk 34 [C.own 4 5 0 x.2.2.1.length]),(2,B.blk 3 [C.d (D.int .i64 x.2.2.2.1)]),(3,B.blk 4 [C.d (D.bool x.2.2.2.2)]),(4,B.row 36 5 ((x.2.2.1.flatMap qh).map C.d))])
def Jl:(Int⊕(List qb×Int×Bool))→R×List (Nat×B):=Sum.elim (fun(e:Int)=>(R.c (C.d (D.bool Bool.false)),[(0,B.ob (AO.lp 102 [R.any,R.any,R.c (C.ptr 1 0),R.c (C.ptr 2 0),R.c (C.ptr 3 0),R.any,R.any,R.any,R.any,R.any,R.any,R.any,R.any,R.any,R.any,R.any,R.any,R.any,R.any,R.any,R.any,R.any,R.any,R.any,R.any,R.any,R.any] [9,10] (raO 102 4) (rbO 102 4) LoopState.done (some Code.ret))),(1,B.blk 34 [C.nils]),(2,B.blk 3 [C.d (D.int .i64 e)]),(3,B.blk 4 [C.d (D.bool Bool.false)])])) (fun(e:List qb×Int×Bool)=>(R.c (C.d (D.bool Bool.true)),[(0,B.ob (AO.lp 102 [R.any,R.any,R.c (C.ptr 1 0),R.c (C.ptr 2 0),R.c (C.ptr 3 0),R.any,R.any,R.any,R.any,R.any,R.any,R.any,R.any,R.any,R.any,R.any,R.any,R.any,R.any,R.any,R.any,R.any,R.any,R.any,R.any,R.any,R.any] [9,10] (raO 102 4) (rbO 102 4) LoopState.ready none)),(1,B.blk 34 [C.own 4 5 0 e.1.length]),(2,B.blk 3 [C.d (D.int .i64 e.2.1)]),(3,B.blk 4 [C.d (D.bool e.2.2)]),(4,B.row 36 5 ((e.1.flatMap qh).map C.d))]))
def q0M (rF:(qb×Int×List qb×Int×Bool)→Option (Int⊕(List qb×Int×Bool))) (deep:Int) (t15:List qb) (t16:Int):(List qb×Int×Bool×Int)→Option ((List qb×Int×Bool×Int)⊕(Int⊕(List qb×Int×Bool)))|(w4,b2,b3,t17)=>if t17<t16 then if 0≤t17∧t17<((t15.length:Nat):Int) then Option.bind t15[Int.toNat t17]? fun(a2:qb)=>Option.bind (rF (a2,(w64 (deep+1),(w4,(b2,b3))))) fun(a3:Sum Int (Prod (List qb) (Prod Int Bool)))=>Sum.elim (fun(a4:Int)=>some (Sum.inr (Sum.inl a4))) (fun(a5:Prod (List qb) (Prod Int Bool))=>some (Sum.inl (a5.1,a5.2.1,a5.2.2,w64 (t17+1)))) a3 else none else some (Sum.inr (Sum.inr (w4,b2,b3)))
theorem q7g (rE:Orc) (rF:(qb×Int×List qb×Int×Bool)→Option (Int⊕(List qb×Int×Bool))) (hF:∀y,rE (.fn 169) 4 (J0 y).1 (J0 y).2=(rF y).bind fun e=>some (Jl e)) (hM:∀g k a G,g≠169→rE (.fn g) k a G=ev g k a G) (hR:∀g asg bd k a G,rE (.rd g asg bd) k a G=evr g asg bd k a G):∀(w4:List qb) (b2:Int) (b3:Bool) (deep:Int) (t15:List qb) (t16 t17:Int) (ZF:Nat),ZF=w4.length→XL2 rE 169 4 4 ⟨[(1,rI deep),(2,R.c (C.hd .yield 0)),(15,rL 5 qh t15),(16,rI t16),(17,rI t17)],[(0,B.ob (AO.lp 102 (R.any::R.any::rP 1::rP 2::rP 3::q8o) [9,10] (raO 102 4) (rbO 102 4) LoopState.ready none)),(1,B.blk 34 [dO 4 5 ZF]),(2,B.blk 3 [dI b2]),(3,B.blk 4 [dB b3]),(4,bR 36 5 qh w4)],5,28⟩=(zB (q0M rF deep t15 t16) (w4,b2,b3,t17)).bind (Sum.elim (fun(e:Int)=>some (Exit.ret,⟨[(6,rB Bool.false)],[(0,B.ob (AO.lp 102 (R.any::R.any::rP 1::rP 2::rP 3::q8o) [9,10] (raO 102 4) (rbO 102 4) LoopState.done (some Code.ret))),(1,B.blk 34 [C.nils]),(2,B.blk 3 [dI e]),(3,B.blk 4 [dB Bool.false])],4,28⟩)) (fun(e:List qb×Int×Bool)=>some (Exit.exit 0,⟨[(6,R.any)],[(0,B.ob (AO.lp 102 (R.any::R.any::rP 1::rP 2::rP 3::q8o) [9,10] (raO 102 4) (rbO 102 4) LoopState.ready none)),(1,B.blk 34 [dO 4 5 e.1.length]),(2,B.blk 3 [dI e.2.1]),(3,B.blk 4 [dB e.2.2]),(4,bR 36 5 qh e.1)],5,28⟩))):=
 by
 intro w4 b2 b3 deep t15 t16 t17 ZF h0
 subst h0
 revert t17;revert b3;revert b2;revert w4;exact qJq qp1 qn4 (fun e=>by rcases e with _|_<;>exact⟨_,rfl,fun h=>by cases h⟩) fun w4 b2 b3 t17=>by
  have hF':∀(qz n_N qQ:Int) (qR:List qc) (n_L:List qb) (deep:Int) (w4:List qb) (b2:Int) (b3:Bool) (ZF:Nat),ZF=w4.length→rE (.fn 169) 4 [R.agg [dI qz,dI n_N,dI qQ,dL 2 qd qR,dL 5 qh n_L],rI deep,R.c (C.hd .yield 0)] [(0,B.ob (AO.lp 102 (R.any::R.any::rP 1::rP 2::rP 3::q8o) [9,10] (raO 102 4) (rbO 102 4) LoopState.ready none)),(1,B.blk 34 [dO 4 5 ZF]),(2,B.blk 3 [dI b2]),(3,B.blk 4 [dB b3]),(4,bR 36 5 qh w4)]=(rF ((qb.mk qz n_N qQ qR n_L),deep,w4,b2,b3)).bind (Sum.elim (fun(e:Int)=>some (rB Bool.false,[(0,B.ob (AO.lp 102 (R.any::R.any::rP 1::rP 2::rP 3::q8o) [9,10] (raO 102 4) (rbO 102 4) LoopState.done (some Code.ret))),(1,B.blk 34 [C.nils]),(2,B.blk 3 [dI e]),(3,B.blk 4 [dB Bool.false])])) (fun(e:List qb×Int×Bool)=>some (rB Bool.true,[(0,B.ob (AO.lp 102 (R.any::R.any::rP 1::rP 2::rP 3::q8o) [9,10] (raO 102 4) (rbO 102 4) LoopState.ready none)),(1,B.blk 34 [dO 4 5 e.1.length]),(2,B.blk 3 [dI e.2.1]),(3,B.blk 4 [dB e.2.2]),(4,bR 36 5 qh e.1)]))):=by intro qz n_N qQ qR n_L deep w4 b2 b3 ZF h0;subst h0;exact(hF ((qb.mk qz n_N qQ qR n_L),deep,w4,b2,b3)).trans (by congr 1;funext e;rcases e with _|_<;>rfl)
  have:=qrl;have:=@qfg.eq_1;have:=@q0M.eq_1;exact gA
def q0V (rF:(qb×Int×List qb×Int×Bool)→Option (Int⊕(List qb×Int×Bool))):(qb×Int×List qb×Int×Bool)→Option (Int⊕(List qb×Int×Bool))|(n,deep,w4,b2,b3)=>Option.bind (q1W deep n.Kind n.N n.Min n.Set n.L w4 b2 b3) fun(a2:Sum Unit (Prod (List qb) Int))=>Sum.elim (fun(a3:Unit)=>some (Sum.inl 0)) (fun(a4:Prod (List qb) Int)=>Option.bind (zB (q0M rF deep n.L ((n.L.length:Nat):Int)) (a4.1,(a4.2,(b3,0)))) fun(a5:Sum Int (Prod (List qb) (Prod Int Bool)))=>Sum.elim (fun(a6:Int)=>some (Sum.inl a6)) (fun(a7:Prod (List qb) (Prod Int Bool))=>some (Sum.inr (a7.1,a7.2.1,a7.2.2))) a5) a2
theorem q6f:q8h 169 4 J0 Jl q0V:=by
 intro rE rF hF hM hR x
 obtain⟨n,deep,w4,b2,b3⟩:=x
 show qas rE 169 4 [R.agg [dI n.Kind,dI n.N,dI n.Min,dL 2 qd n.Set,dL 5 qh n.L],rI deep,R.c (C.hd .yield 0)] [(0,B.ob (AO.lp 102 (R.any::R.any::rP 1::rP 2::rP 3::q8o) [9,10] (raO 102 4) (rbO 102 4) LoopState.ready none)),(1,B.blk 34 [dO 4 5 w4.length]),(2,B.blk 3 [dI b2]),(3,B.blk 4 [dB b3]),(4,bR 36 5 qh w4)]=_
 have hF':∀(qz n_N qQ:Int) (qR:List qc) (n_L:List qb) (deep:Int) (w4:List qb) (b2:Int) (b3:Bool) (ZF:Nat),ZF=w4.length→rE (.fn 169) 4 [R.agg [dI qz,dI n_N,dI qQ,dL 2 qd qR,dL 5 qh n_L],rI deep,R.c (C.hd .yield 0)] [(0,B.ob (AO.lp 102 (R.any::R.any::rP 1::rP 2::rP 3::q8o) [9,10] (raO 102 4) (rbO 102 4) LoopState.ready none)),(1,B.blk 34 [dO 4 5 ZF]),(2,B.blk 3 [dI b2]),(3,B.blk 4 [dB b3]),(4,bR 36 5 qh w4)]=(rF ((qb.mk qz n_N qQ qR n_L),deep,w4,b2,b3)).bind (Sum.elim (fun(e:Int)=>some (rB Bool.false,[(0,B.ob (AO.lp 102 (R.any::R.any::rP 1::rP 2::rP 3::q8o) [9,10] (raO 102 4) (rbO 102 4) LoopState.done (some Code.ret))),(1,B.blk 34 [C.nils]),(2,B.blk 3 [dI e]),(3,B.blk 4 [dB Bool.false])])) (fun(e:List qb×Int×Bool)=>some (rB Bool.true,[(0,B.ob (AO.lp 102 (R.any::R.any::rP 1::rP 2::rP 3::q8o) [9,10] (raO 102 4) (rbO 102 4) LoopState.ready none)),(1,B.blk 34 [dO 4 5 e.1.length]),(2,B.blk 3 [dI e.2.1]),(3,B.blk 4 [dB e.2.2]),(4,bR 36 5 qh e.1)]))):=by intro qz n_N qQ qR n_L deep w4 b2 b3 ZF h0;subst h0;exact(hF ((qb.mk qz n_N qQ qR n_L),deep,w4,b2,b3)).trans (by congr 1;funext e;rcases e with _|_<;>rfl)
 rw[q4F qpb qvm]
 have:=qrl;have:=@q8u;have:=q7g rE rF hF hM hR;have:=@q0V.eq_1;have:=@Jl.eq_1;exact gA
theorem q3J:∀x y,J0 x=J0 y→x=y:=by
 rintro⟨⟨qE6,qE7,qE8,qE9,qEa⟩,a1,a2,a3,a4⟩ ⟨⟨qEb,qEc,qEd,qEe,qEf⟩,b1,b2,b3,b4⟩ h
 simp only[J0,Prod.mk.injEq,List.cons.injEq,R.c.injEq,R.agg.injEq,R.tup.injEq,C.d.injEq,C.own.injEq,C.ptr.injEq,C.eptr.injEq,D.int.injEq,D.bool.injEq,D.str.injEq,D.sl.injEq,B.blk.injEq,B.row.injEq,q0P,q2D,q1E,q1F,q2a,q23,q4g,q4d,q47,q0S,true_and,and_true,qPc] at h
 simp only[h]
theorem q8K:∀x y,Jl x=Jl y→x=y:=by
 rintro(a0|⟨qKy,qKz,qOj⟩) (b0|⟨qKA,qKB,qOk⟩) h<;>simp only[Sum.elim_inl,Sum.elim_inr,Jl,Prod.mk.injEq,List.cons.injEq,R.c.injEq,R.agg.injEq,R.tup.injEq,C.d.injEq,C.own.injEq,C.ptr.injEq,C.eptr.injEq,D.int.injEq,D.bool.injEq,D.str.injEq,D.sl.injEq,B.blk.injEq,B.row.injEq,q0P,q2D,q1E,q1F,q2a,q23,q4g,q4d,q47,q0S,true_and,and_true,qPc,reduceCtorEq,false_and,and_false] at h<;>simp only[h]
def Jz:(qb×Int×List qb×Int×Bool)→Option (Int⊕(List qb×Int×Bool)):=q8l 169 4 J0 Jl
theorem qbi (x:(qb×Int×List qb×Int×Bool)):Jz x=q0V Jz x:=qd4 qsE.2.2.2 q3J q8K q6f x
theorem qaE (n:qb) (deep:Int) (w4:List qb) (b2:Int) (b3:Bool):ev 169 4 [R.agg [dI n.Kind,dI n.N,dI n.Min,dL 2 qd n.Set,dL 5 qh n.L],rI deep,R.c (C.hd .yield 0)] [(0,B.ob (AO.lp 102 (R.any::R.any::rP 1::rP 2::rP 3::q8o) [9,10] (raO 102 4) (rbO 102 4) LoopState.ready none)),(1,B.blk 34 [dO 4 5 w4.length]),(2,B.blk 3 [dI b2]),(3,B.blk 4 [dB b3]),(4,bR 36 5 qh w4)]=(Jz (n,deep,w4,b2,b3)).bind (Sum.elim (fun(e:Int)=>some (rB Bool.false,[(0,B.ob (AO.lp 102 (R.any::R.any::rP 1::rP 2::rP 3::q8o) [9,10] (raO 102 4) (rbO 102 4) LoopState.done (some Code.ret))),(1,B.blk 34 [C.nils]),(2,B.blk 3 [dI e]),(3,B.blk 4 [dB Bool.false])])) (fun(e:List qb×Int×Bool)=>some (rB Bool.true,[(0,B.ob (AO.lp 102 (R.any::R.any::rP 1::rP 2::rP 3::q8o) [9,10] (raO 102 4) (rbO 102 4) LoopState.ready none)),(1,B.blk 34 [dO 4 5 e.1.length]),(2,B.blk 3 [dI e.2.1]),(3,B.blk 4 [dB e.2.2]),(4,bR 36 5 qh e.1)]))):=(q9g qsE.2.2.2 q3J q6f (n,deep,w4,b2,b3)).trans (by congr 1;funext e;rcases e with _|_<;>rfl)
theorem qbr:∀(qz n_N qQ:Int) (qR:List qc) (n_L:List qb) (deep:Int) (w4:List qb) (b2:Int) (b3:Bool) (ZF:Nat),ZF=w4.length→ev 169 4 [R.agg [dI qz,dI n_N,dI qQ,dL 2 qd qR,dL 5 qh n_L],rI deep,R.c (C.hd .yield 0)] [(0,B.ob (AO.lp 102 (R.any::R.any::rP 1::rP 2::rP 3::q8o) [9,10] (raO 102 4) (rbO 102 4) LoopState.ready none)),(1,B.blk 34 [dO 4 5 ZF]),(2,B.blk 3 [dI b2]),(3,B.blk 4 [dB b3]),(4,bR 36 5 qh w4)]=(Jz ((qb.mk qz n_N qQ qR n_L),deep,w4,b2,b3)).bind (Sum.elim (fun(e:Int)=>some (rB Bool.false,[(0,B.ob (AO.lp 102 (R.any::R.any::rP 1::rP 2::rP 3::q8o) [9,10] (raO 102 4) (rbO 102 4) LoopState.done (some Code.ret))),(1,B.blk 34 [C.nils]),(2,B.blk 3 [dI e]),(3,B.blk 4 [dB Bool.false])])) (fun(e:List qb×Int×Bool)=>some (rB Bool.true,[(0,B.ob (AO.lp 102 (R.any::R.any::rP 1::rP 2::rP 3::q8o) [9,10] (raO 102 4) (rbO 102 4) LoopState.ready none)),(1,B.blk 34 [dO 4 5 e.1.length]),(2,B.blk 3 [dI e.2.1]),(3,B.blk 4 [dB e.2.2]),(4,bR 36 5 qh e.1)]))):=
 by
 intro qz n_N qQ qR n_L deep w4 b2 b3 ZF h0
 subst h0
 exact qaE (qb.mk qz n_N qQ qR n_L) deep w4 b2 b3
def q32 (deep:Int) (t15:List qb) (t16:Int):(List qb×Int×Bool×Int)→Option ((List qb×Int×Bool×Int)⊕(Int⊕(List qb×Int×Bool)))|(w4,b2,b3,t17)=>if t17<t16 then if 0≤t17∧t17<((t15.length:Nat):Int) then Option.bind t15[Int.toNat t17]? fun(a:qb)=>Option.bind (Jz (a,(w64 (deep+1),(w4,(b2,b3))))) fun(a2:Sum Int (Prod (List qb) (Prod Int Bool)))=>Sum.elim (fun(a3:Int)=>some (Sum.inr (Sum.inl a3))) (fun(a4:Prod (List qb) (Prod Int Bool))=>some (Sum.inl (a4.1,a4.2.1,a4.2.2,w64 (t17+1)))) a2 else none else some (Sum.inr (Sum.inr (w4,b2,b3)))
theorem qaH:∀(w4:List qb) (b2:Int) (b3:Bool) (deep:Int) (t15:List qb) (t16 t17:Int) (ZF:Nat),ZF=w4.length→XL2 evo 169 4 4 ⟨[(1,rI deep),(2,R.c (C.hd .yield 0)),(15,rL 5 qh t15),(16,rI t16),(17,rI t17)],[(0,B.ob (AO.lp 102 (R.any::R.any::rP 1::rP 2::rP 3::q8o) [9,10] (raO 102 4) (rbO 102 4) LoopState.ready none)),(1,B.blk 34 [dO 4 5 ZF]),(2,B.blk 3 [dI b2]),(3,B.blk 4 [dB b3]),(4,bR 36 5 qh w4)],5,28⟩=(zB (q32 deep t15 t16) (w4,b2,b3,t17)).bind (Sum.elim (fun(e:Int)=>some (Exit.ret,⟨[(6,rB Bool.false)],[(0,B.ob (AO.lp 102 (R.any::R.any::rP 1::rP 2::rP 3::q8o) [9,10] (raO 102 4) (rbO 102 4) LoopState.done (some Code.ret))),(1,B.blk 34 [C.nils]),(2,B.blk 3 [dI e]),(3,B.blk 4 [dB Bool.false])],4,28⟩)) (fun(e:List qb×Int×Bool)=>some (Exit.exit 0,⟨[(6,R.any)],[(0,B.ob (AO.lp 102 (R.any::R.any::rP 1::rP 2::rP 3::q8o) [9,10] (raO 102 4) (rbO 102 4) LoopState.ready none)),(1,B.blk 34 [dO 4 5 e.1.length]),(2,B.blk 3 [dI e.2.1]),(3,B.blk 4 [dB e.2.2]),(4,bR 36 5 qh e.1)],5,28⟩))):=
 by
 intro w4 b2 b3 deep t15 t16 t17 ZF h0
 subst h0
 revert t17;revert b3;revert b2;revert w4;exact qJq qp1 qn4 (fun e=>by rcases e with _|_<;>exact⟨_,rfl,fun h=>by cases h⟩) fun w4 b2 b3 t17=>by
  have:=qrl;have:=@qfg.eq_1;have:=@qbr;have:=@q32.eq_1;exact gA
def q5W (n:qb) (deep:Int) (b2:Int) (b3:Bool):Option (Int⊕(List qb×Int×Bool)):=Option.bind (q38 deep n.Kind n.N n.Min n.Set n.L b2 b3) fun(a:Sum Unit (Prod (List qb) Int))=>Sum.elim (fun(a2:Unit)=>some (Sum.inl 0)) (fun(a3:Prod (List qb) Int)=>Option.bind (zB (q32 deep n.L ((n.L.length:Nat):Int)) (a3.1,(a3.2,(b3,0)))) fun(a4:Sum Int (Prod (List qb) (Prod Int Bool)))=>Sum.elim (fun(a5:Int)=>some (Sum.inl a5)) (fun(a6:Prod (List qb) (Prod Int Bool))=>some (Sum.inr (a6.1,a6.2.1,a6.2.2))) a4) a
theorem qdH:∀(qz n_N qQ:Int) (qR:List qc) (n_L:List qb) (deep b2:Int) (b3:Bool),ev 169 4 [R.agg [dI qz,dI n_N,dI qQ,dL 2 qd qR,dL 5 qh n_L],rI deep,R.c (C.hd .yield 0)] [(0,B.ob (AO.lp 102 (R.any::R.any::rP 1::rP 2::rP 3::q8o) [9,10] (raO 102 4) (rbO 102 4) LoopState.ready none)),(1,B.blk 34 [C.nils]),(2,B.blk 3 [dI b2]),(3,B.blk 4 [dB b3])]=(q5W (qb.mk qz n_N qQ qR n_L) deep b2 b3).bind (Sum.elim (fun(e:Int)=>some (rB Bool.false,[(0,B.ob (AO.lp 102 (R.any::R.any::rP 1::rP 2::rP 3::q8o) [9,10] (raO 102 4) (rbO 102 4) LoopState.done (some Code.ret))),(1,B.blk 34 [C.nils]),(2,B.blk 3 [dI e]),(3,B.blk 4 [dB Bool.false])])) (fun(e:List qb×Int×Bool)=>some (rB Bool.true,[(0,B.ob (AO.lp 102 (R.any::R.any::rP 1::rP 2::rP 3::q8o) [9,10] (raO 102 4) (rbO 102 4) LoopState.ready none)),(1,B.blk 34 [dO 4 5 e.1.length]),(2,B.blk 3 [dI e.2.1]),(3,B.blk 4 [dB e.2.2]),(4,bR 36 5 qh e.1)]))):=
 fun qz n_N qQ qR n_L deep b2 b3=>by
  rw[qW qpb qsE.2.2.2 qvm]
  have:=qrl;have:=@qaT;have:=@qaH;have:=@q5W.eq_1;exact gA
def q3d (b2:Int) (b3:Bool) (v:qb):Option (Int⊕(List qb×Int×Bool)):=Option.bind (q5W v 1 b2 b3) fun(a:Sum Int (Prod (List qb) (Prod Int Bool)))=>Sum.elim (fun(a2:Int)=>some (Sum.inl a2)) (fun(a3:Prod (List qb) (Prod Int Bool))=>some (Sum.inr (a3.1,a3.2.1,a3.2.2))) a
theorem qag:∀(b2:Int) (b3:Bool) (qgR v_N qpX:Int) (qpY:List qc) (v_L:List qb),ev 168 5 [R.c (C.hd .yield 0),rP 4] [(0,B.ob (AO.lp 102 (R.any::R.any::rP 1::rP 2::rP 3::q8o) [9,10] (raO 102 4) (rbO 102 4) LoopState.ready none)),(1,B.blk 34 [C.nils]),(2,B.blk 3 [dI b2]),(3,B.blk 4 [dB b3]),(4,B.blk 36 [dI qgR,dI v_N,dI qpX,dL 2 qd qpY,dL 5 qh v_L])]=(q3d b2 b3 (qb.mk qgR v_N qpX qpY v_L)).bind (Sum.elim (fun(e:Int)=>some (R.tup [],[(0,B.ob (AO.lp 102 (R.any::R.any::rP 1::rP 2::rP 3::q8o) [9,10] (raO 102 4) (rbO 102 4) LoopState.done (some Code.ret))),(1,B.blk 34 [C.nils]),(2,B.blk 3 [dI e]),(3,B.blk 4 [dB Bool.false]),(4,B.blk 36 [dI qgR,dI v_N,dI qpX,dL 2 qd qpY,dL 5 qh v_L])])) (fun(e:List qb×Int×Bool)=>some (R.tup [],[(0,B.ob (AO.lp 102 (R.any::R.any::rP 1::rP 2::rP 3::q8o) [9,10] (raO 102 4) (rbO 102 4) LoopState.ready none)),(1,B.blk 34 [dO 5 5 e.1.length]),(2,B.blk 3 [dI e.2.1]),(3,B.blk 4 [dB e.2.2]),(4,B.blk 36 [dI qgR,dI v_N,dI qpX,dL 2 qd qpY,dL 5 qh v_L]),(5,bR 36 5 qh e.1)]))):=
 fun b2 b3 qgR v_N qpX qpY v_L=>by
  rw[qW qwo qBP.2.2.2 qFH]
  have:=qGh;have:=@qdH;have:=@q3d.eq_1;exact gA
def q2J (n:qb):Option (List qb×Int×Bool):=Option.bind (q3d 0 Bool.false n) fun(a:Sum Int (Prod (List qb) (Prod Int Bool)))=>Sum.elim (fun(a2:Int)=>some ([],a2,Bool.false)) (fun(a3:Prod (List qb) (Prod Int Bool))=>some (a3.1,a3.2.1,Bool.true)) a
theorem q8f:∀(qz n_N qQ:Int) (qR:List qc) (n_L:List qb),ev 102 0 [R.agg [dI qz,dI n_N,dI qQ,dL 2 qd qR,dL 5 qh n_L]] []=(q2J (qb.mk qz n_N qQ qR n_L)).bind (fun(e:List qb×Int×Bool)=>some (R.tup [rL 5 qh e.1,rI e.2.1,rB e.2.2],[])):=
 fun qz n_N qQ qR n_L=>by
  rw[qW qmg qA8.2.2.2 qCR]
  have:=qu1;have:=@qc9;have:=@qag;have:=@q2J.eq_1;have:=@qiN;exact gA
theorem qJf:okL 82 qkE:=qZ (qk qEv) (by kernel_rfl) (by kernel_rfl)
def qIT:=JA_ @qkE.eq_1 (JA_ @Tryz.f82.eq_1 @qEv)
theorem qzF:lbO 82 3=qpp:=QG (qk qEv) rfl
theorem qDA:okL 82 qpp:=zV qJf (qOT (i:=0) (by kernel_rfl))
theorem qHx:okL 129 qi8:=qZ (qk qxZ) (by kernel_rfl) (by kernel_rfl)
def qF5:=JA_ @qi8.eq_1 (JA_ @Tryz.f129.eq_1 @qxZ)
def q5X (n:qb):Option Bool:=if(n.Kind != 3)=Bool.true then some (n.Kind != 4) else some Bool.false
def q1t (n:qb):Bool:=if(n.Kind != 3)=Bool.true then n.Kind != 4 else Bool.false
theorem qcg (n:qb):q5X n=some (q1t n):=by
 unfold q5X q1t
 simp only[Zn]
theorem qdz:∀(qz n_N qQ:Int) (qR:List qc) (n_L:List qb),ev 129 0 [R.agg [dI qz,dI n_N,dI qQ,dL 2 qd qR,dL 5 qh n_L]] []=some (rB (q1t (qb.mk qz n_N qQ qR n_L)),[]):=
 fun qz n_N qQ qR n_L=>by
  have h:ev 129 0 [R.agg [dI qz,dI n_N,dI qQ,dL 2 qd qR,dL 5 qh n_L]] []=(q5X (qb.mk qz n_N qQ qR n_L)).bind (fun(e:Bool)=>some (rB e,[])):=by
   rw[qW qxZ qAn.2.2.2 qHx]
   have:=qF5;have:=@q5X.eq_1;exact gA
  rw[qcg] at h
  exact h
theorem qA7:okL 130 qeQ:=qZ (qk qqg) (by kernel_rfl) (by kernel_rfl)
def qzk:=JA_ @qeQ.eq_1 (JA_ @Tryz.f130.eq_1 @qqg)
theorem quV:lbO 130 3=qhX:=QG (qk qqg) rfl
theorem qxM:okL 130 qhX:=zV qA7 (qOT (i:=0) (by kernel_rfl))
def Q8 (s:List qc):Option Unit:=if s.length≤maxLen∧s.length*24≤140737488355328 then some () else none
theorem q1d:∀(s:List qc),ev 161 0 [rL 2 qd s] []=(Q8 s).bind (fun(e:Unit)=>some (rL 2 qd s,[])):=
 fun s=>by
  rw[qwc,qAS.2.2.2]
  have:=@Q8.eq_1;exact gA
def QV (s:List qb):Option Unit:=if s.length≤maxLen∧s.length*72≤140737488355328 then some () else none
theorem q27:∀(s:List qb),ev 162 0 [rL 5 qh s] []=(QV s).bind (fun(e:Unit)=>some (rO 0 5 s.length,[(0,bR 36 5 qh s)])):=
 fun s=>by
  rw[qwc,qDZ.2.2.2]
  have:=@QV.eq_1;exact gA
def ZX (x:qb):List R×List (Nat×B):=([R.agg [C.d (D.int .i64 x.Kind),C.d (D.int .i64 x.N),C.d (D.int .i64 x.Min),C.d (D.sl 2 x.Set.length (x.Set.flatMap qd)),C.d (D.sl 5 x.L.length (x.L.flatMap qh))]],[])
def Ji:qb→R×List (Nat×B):=fun(e:qb)=>(R.agg [C.d (D.int .i64 e.Kind),C.d (D.int .i64 e.N),C.d (D.int .i64 e.Min),C.d (D.sl 2 e.Set.length (e.Set.flatMap qd)),C.d (D.sl 5 e.L.length (e.L.flatMap qh))],[])
def JP (rF:qb→Option qb) (qz:Int) (n_N:Int) (qQ:Int) (qR:List qc) (q0g:Int) (qeo:Int) (q2e:Int) (t15:Int):(List qb×Int)→Option ((List qb×Int)⊕(List qb))|(w1,t16)=>if t16<t15 then if 0≤t16∧t16<((w1.length:Nat):Int) then Option.bind w1[Int.toNat t16]? fun(a2:qb)=>Option.bind (rF a2) fun(a3:qb)=>if 0≤t16∧t16<((w1.length:Nat):Int) then if Int.toNat t16*5+5≤w1.length*5 then some (Sum.inl (List.set w1 (Int.toNat t16) a3,w64 (t16+1))) else none else none else none else some (Sum.inr w1)
theorem q8n (rE:Orc) (rF:qb→Option qb) (hF:∀y,rE (.fn 130) 0 (ZX y).1 (ZX y).2=(rF y).bind fun e=>some (Ji e)) (hM:∀g k a G,g≠130→rE (.fn g) k a G=ev g k a G) (hR:∀g asg bd k a G,rE (.rd g asg bd) k a G=evr g asg bd k a G):∀(w1:List qb) (qz n_N qQ:Int) (qR:List qc) (q0g qeo q2e t15 t16:Int) (QQ:Nat),QQ=w1.length→XL2 rE 130 0 3 ⟨[(1,rP 0),(2,rP 2),(14,rO 1 5 QQ),(15,rI t15),(16,rI t16)],[(0,B.blk 36 [dI qz,dI n_N,dI qQ,dL 2 qd qR,dO 1 5 QQ]),(1,bR 36 5 qh w1),(2,B.blk 36 [dI q0g,dI qeo,dI q2e,C.nils,C.nils])],3,29⟩=(zB (JP rF qz n_N qQ qR q0g qeo q2e t15) (w1,t16)).bind (fun(e:List qb)=>some (Exit.exit 0,⟨[(1,rP 0),(2,rP 2)],[(0,B.blk 36 [dI qz,dI n_N,dI qQ,dL 2 qd qR,dO 1 5 e.length]),(1,bR 36 5 qh e),(2,B.blk 36 [dI q0g,dI qeo,dI q2e,C.nils,C.nils])],3,29⟩)):=
 by
 intro w1 qz n_N qQ qR q0g qeo q2e t15 t16 QQ h0
 subst h0
 revert t16;revert w1;exact q9j quV qxM (fun e=>by exact⟨_,rfl,fun h=>by cases h⟩) fun w1 t16=>by
  have hF':∀(qz n_N qQ:Int) (qR:List qc) (n_L:List qb),rE (.fn 130) 0 [R.agg [dI qz,dI n_N,dI qQ,dL 2 qd qR,dL 5 qh n_L]] []=(rF (qb.mk qz n_N qQ qR n_L)).bind (fun e=>some (R.agg [dI e.Kind,dI e.N,dI e.Min,dL 2 qd e.Set,dL 5 qh e.L],[])):=fun qz n_N qQ qR n_L=>hF (qb.mk qz n_N qQ qR n_L)
  have:=qzk;have:=@qhX.eq_1;have:=@JP.eq_1;exact gA
def q0R (rF:qb→Option qb):qb→Option qb|n=>Option.bind (Q8 n.Set) fun(a2:Unit)=>Option.bind (QV n.L) fun(a3:Unit)=>Option.bind (zB (JP rF n.Kind n.N n.Min n.Set 0 0 0 ((n.L.length:Nat):Int)) (n.L,0)) fun(a4:List qb)=>some (qb.mk n.Kind n.N n.Min n.Set a4)
theorem q66:q8h 130 0 ZX Ji q0R:=by
 intro rE rF hF hM hR n
 show qas rE 130 0 [R.agg [dI n.Kind,dI n.N,dI n.Min,dL 2 qd n.Set,dL 5 qh n.L]] []=_
 have hF':∀(qz n_N qQ:Int) (qR:List qc) (n_L:List qb),rE (.fn 130) 0 [R.agg [dI qz,dI n_N,dI qQ,dL 2 qd qR,dL 5 qh n_L]] []=(rF (qb.mk qz n_N qQ qR n_L)).bind (fun e=>some (R.agg [dI e.Kind,dI e.N,dI e.Min,dL 2 qd e.Set,dL 5 qh e.L],[])):=fun qz n_N qQ qR n_L=>hF (qb.mk qz n_N qQ qR n_L)
 rw[q4F qqg qA7]
 have:=qzk;have:=@q1d;have:=@q27;have:=q8n rE rF hF hM hR;have:=@q0R.eq_1;have:=@Ji.eq_1;exact gA
theorem q3G:∀x y,ZX x=ZX y→x=y:=by
 rintro⟨a_0,a_1,a_2,a_3,a_4⟩ ⟨b_0,b_1,b_2,b_3,b_4⟩ h
 simp only[ZX,Prod.mk.injEq,List.cons.injEq,R.c.injEq,R.agg.injEq,R.tup.injEq,C.d.injEq,C.own.injEq,C.ptr.injEq,C.eptr.injEq,D.int.injEq,D.bool.injEq,D.str.injEq,D.sl.injEq,B.blk.injEq,B.row.injEq,q0P,q2D,q1E,q1F,q2a,q23,q4g,q4d,q47,q0S,true_and,and_true,qPc] at h
 simp only[h]
theorem q8k:∀x y,Ji x=Ji y→x=y:=by
 rintro⟨a_0,a_1,a_2,a_3,a_4⟩ ⟨b_0,b_1,b_2,b_3,b_4⟩ h
 simp only[Ji,Prod.mk.injEq,List.cons.injEq,R.c.injEq,R.agg.injEq,R.tup.injEq,C.d.injEq,C.own.injEq,C.ptr.injEq,C.eptr.injEq,D.int.injEq,D.bool.injEq,D.str.injEq,D.sl.injEq,B.blk.injEq,B.row.injEq,q0P,q2D,q1E,q1F,q2a,q23,q4g,q4d,q47,q0S,true_and,and_true,qPc] at h
 simp only[h]
def Jy:qb→Option qb:=q8l 130 0 ZX Ji
theorem qbF (x:qb):Jy x=q0R Jy x:=qd4 qvM.2.2.2 q3G q8k q66 x
theorem qaM (n:qb):ev 130 0 [R.agg [dI n.Kind,dI n.N,dI n.Min,dL 2 qd n.Set,dL 5 qh n.L]] []=(Jy n).bind (fun(e:qb)=>some (R.agg [dI e.Kind,dI e.N,dI e.Min,dL 2 qd e.Set,dL 5 qh e.L],[])):=(q9g qvM.2.2.2 q3G q66 n)
theorem qbe:∀(qz n_N qQ:Int) (qR:List qc) (n_L:List qb),ev 130 0 [R.agg [dI qz,dI n_N,dI qQ,dL 2 qd qR,dL 5 qh n_L]] []=(Jy (qb.mk qz n_N qQ qR n_L)).bind (fun(e:qb)=>some (R.agg [dI e.Kind,dI e.N,dI e.Min,dL 2 qd e.Set,dL 5 qh e.L],[])):=
 fun qz n_N qQ qR n_L=>qaM (qb.mk qz n_N qQ qR n_L)
def ZT (t14:List qb) (t15:Int):(List qb×Int)→Option ((List qb×Int)⊕(List qb))|(leaves,t16)=>if t16<t15 then if 0≤t16∧t16<((t14.length:Nat):Int) then Option.bind t14[Int.toNat t16]? fun(a:qb)=>if q1t a=Bool.true then Option.bind (Jy a) fun(a2:qb)=>if leaves.length+1≤maxLen∧(leaves.length+1)*72≤140737488355328 then some (Sum.inl (leaves++[a2],w64 (t16+1))) else none else some (Sum.inl (leaves,w64 (t16+1))) else none else some (Sum.inr leaves)
theorem q8p:∀(leaves t14:List qb) (t15 t16:Int) (qb0:Nat),qb0=leaves.length→XL2 evo 82 0 3 ⟨[(2,rO 0 5 qb0),(14,rL 5 qh t14),(15,rI t15),(16,rI t16)],[(0,bR 36 5 qh leaves)],1,29⟩=(zB (ZT t14 t15) (leaves,t16)).bind (fun(e:List qb)=>some (Exit.exit 0,⟨[(2,rO 0 5 e.length)],[(0,bR 36 5 qh e)],1,29⟩)):=
 by
 intro leaves t14 t15 t16 qb0 h0
 subst h0
 revert t16;revert leaves;exact q9j qzF qDA (fun e=>by exact⟨_,rfl,fun h=>by cases h⟩) fun leaves t16=>by
  have:=qIT;have:=@qpp.eq_1;have:=@qdz;have:=@qbe;have:=@ZT.eq_1;exact gA
theorem q6B:∀  (t14:List qb) (t15 t16:Int),XL2 evo 82 0 3 ⟨[(2,rO 0 5 0),(14,rL 5 qh t14),(15,rI t15),(16,rI t16)],[(0,B.row 36 5 [])],1,29⟩=(zB (ZT t14 t15) ([],t16)).bind (fun(e:List qb)=>some (Exit.exit 0,⟨[(2,rO 0 5 e.length)],[(0,bR 36 5 qh e)],1,29⟩)):=by
 intro t14 t15 t16;have h:=q8p [] t14 t15 t16 _ rfl
 first
  | exact h
  | (simp only[rL,dL,bR,bZ,Nat.reduceAdd] at h;exact h)
def q1q (n:qb):Option (List qb):=Option.bind (q2J n) fun(a:Prod (List qb) (Prod Int Bool))=>Option.bind (zB (ZT a.1 ((a.1.length:Nat):Int)) ([],0)) fun(a2:List qb)=>some a2
theorem q67:∀(qz n_N qQ:Int) (qR:List qc) (n_L:List qb),ev 82 0 [R.agg [dI qz,dI n_N,dI qQ,dL 2 qd qR,dL 5 qh n_L]] []=(q1q (qb.mk qz n_N qQ qR n_L)).bind (fun(e:List qb)=>some (rL 5 qh e,[])):=
 fun qz n_N qQ qR n_L=>by
  rw[qW qEv qJE.2.2.2 qJf]
  have:=qIT;have:=@q8f;have:=@q6B;have:=@q1q.eq_1;exact gA
theorem qGv:okL 103 qha:=qZ (qk qxD) (by kernel_rfl) (by kernel_rfl)
def qFS:=JA_ @qha.eq_1 (JA_ @Tryz.f103.eq_1 @qxD)
theorem qcp:ev 103 0 [] []=some (R.c (C.hd HK.map 0),[(0,B.ob (@AO.mp [(Value.int IntKind.i64 1,(R.agg [C.fn 141 [] []],0)),(Value.int IntKind.i64 2,(R.agg [C.fn 143 [] []],1)),(Value.int IntKind.i64 3,(R.agg [C.fn 144 [] [dP 1]],2)),(Value.int IntKind.i64 4,(R.agg [C.fn 145 [] [dP 1]],3))] 4)),(1,B.blk 136 [C.fn 140 [] []])]):=
 by
  rw[qW qxD qzh.2.2.2 qGv]
  have:=qFS;exact gA
theorem qHC:okL 141 qhw:=qZ (qk qvu) (by kernel_rfl) (by kernel_rfl)
def qGL:=JA_ @qhw.eq_1 (JA_ @Tryz.f141.eq_1 @qvu)
theorem qCS:okL 142 qeW:=qZ (qk qs7) (by kernel_rfl) (by kernel_rfl)
def qDl:=JA_ @qeW.eq_1 (JA_ @Tryz.f142.eq_1 @qs7)
theorem qw5:lbO 142 7=qhF:=QG (qk qs7) rfl
theorem qwj:okL 142 qhF:=zV qCS (qOT (i:=0) (by kernel_rfl))
theorem qHc:okL 170 qil:=qZ (qk qtJ) (by kernel_rfl) (by kernel_rfl)
def qIi:=JA_ @qil.eq_1 (JA_ @Tryz.f170.eq_1 @qtJ)
theorem qyP:okL 182 qet:=qZ (qk qs2) (by kernel_rfl) (by kernel_rfl)
def qAJ:=JA_ @qet.eq_1 (JA_ @Tryz.f182.eq_1 @qs2)
theorem qtY:lbO 182 2=qih:=QG (qk qs2) rfl
theorem qwF:okL 182 qih:=zV qyP (qOT (i:=0) (by kernel_rfl))
theorem qG9:okL 171 qh6:=qZ (qk qtQ) (by kernel_rfl) (by kernel_rfl)
def qGF:=JA_ @qh6.eq_1 (JA_ @Tryz.f171.eq_1 @qtQ)
theorem qLr:okL 99 qnh:=qZ (qk qHe) (by kernel_rfl) (by kernel_rfl)
def qNH:=JA_ @qnh.eq_1 (JA_ @Tryz.f99.eq_1 @qHe)
theorem qId:okL 137 qhj:=qZ (qk qwN) (by kernel_rfl) (by kernel_rfl)
def qFx:=JA_ @qhj.eq_1 (JA_ @Tryz.f137.eq_1 @qwN)
theorem qG7:okL 166 qiY:=qZ (qk qwi) (by kernel_rfl) (by kernel_rfl)
def qGx:=JA_ @qiY.eq_1 (JA_ @Tryz.f166.eq_1 @qwi)
theorem qAH:okL 181 qfw:=qZ (qk qro) (by kernel_rfl) (by kernel_rfl)
def qCD:=JA_ @qfw.eq_1 (JA_ @Tryz.f181.eq_1 @qro)
theorem qxX:lbO 181 2=qiZ:=QG (qk qro) rfl
theorem qvF:okL 181 qiZ:=zV qAH (qOT (i:=0) (by kernel_rfl))
theorem qH6:okL 165 qis:=qZ (qk qvw) (by kernel_rfl) (by kernel_rfl)
def qHV:=JA_ @qis.eq_1 (JA_ @Tryz.f165.eq_1 @qvw)
def q2m (c:Int):Option Bool:=if c<65 then if c<48 then some Bool.true else some (decide (57<c)) else if 90<c then if c<48 then some Bool.true else some (decide (57<c)) else some Bool.false
def Zv (c:Int):Bool:=if c<65 then if c<48 then Bool.true else decide (57<c) else if 90<c then if c<48 then Bool.true else decide (57<c) else Bool.false
theorem q8E (c:Int):q2m c=some (Zv c):=by
 unfold q2m Zv
 simp only[Zn]
theorem q9C:∀(c:Int),ev 165 0 [R.c (C.d (D.int .i32 c))] []=some (rB (Zv c),[]):=
 fun c=>by
  have h:ev 165 0 [R.c (C.d (D.int .i32 c))] []=(q2m c).bind (fun(e:Bool)=>some (rB e,[])):=by
   rw[qW qvw qyW.2.2.2 qH6]
   have:=qHV;have:=@q2m.eq_1;exact gA
  rw[q8E] at h
  exact h
def Qv (it0_s:ByteArray) (truth:Bool):Nat→Option (Nat⊕(Int⊕Unit))|it0_p=>if it0_p<ByteArray.size it0_s then if(Zv (((@Go.Utf8.decode it0_s it0_p).1:Nat):Int)==truth)=Bool.true then some (Sum.inr (Sum.inl ((it0_p:Nat):Int))) else some (Sum.inl (it0_p+(@Go.Utf8.decode it0_s it0_p).2)) else some (Sum.inr (Sum.inr ()))
theorem q4W:∀(it0_s:ByteArray) (it0_p:Nat) (truth:Bool),XL2 evo 181 0 2 ⟨[(1,R.c (C.fn 165 [] [])),(2,rB truth),(10,R.c (C.hd .iter 0))],[(0,B.ob (AO.si it0_s it0_p))],1,21⟩=(zB (Qv it0_s truth) it0_p).bind (Sum.elim (fun(e:Int)=>some (Exit.ret,⟨[(6,rI e)],[],0,21⟩)) (fun(e:Unit)=>some (Exit.exit 0,⟨[(6,R.any)],[],0,21⟩))):=
 fun it0_s it0_p truth=>by
  revert it0_p;exact qbj qxX qvF (fun e=>by rcases e with _|_<;>exact⟨_,rfl,fun h=>by cases h⟩) fun x=>by
   have:=qCD;have:=@qiZ.eq_1;have:=@q9C;have:=@Qv.eq_1;exact gA
def q0m (s:ByteArray) (truth:Bool):Option Int:=Option.bind (zB (Qv s truth) 0) fun(a:Sum Int Unit)=>Sum.elim (fun(a2:Int)=>some a2) (fun(a3:Unit)=>some (-1)) a
theorem q6p:∀(s:ByteArray) (truth:Bool),ev 181 0 [rS s,R.c (C.fn 165 [] []),rB truth] []=(q0m s truth).bind (fun(e:Int)=>some (rI e,[])):=
 fun s truth=>by
  rw[qW qro qD4.2.2.2 qAH]
  have:=qCD;have:=@q4W;have:=@q0m.eq_1;exact gA
def q0k (s:ByteArray):Option Int:=Option.bind (q0m s Bool.true) fun(e0:Int)=>some e0
theorem q6u:∀(s:ByteArray),ev 166 0 [rS s,R.c (C.fn 165 [] [])] []=(q0k s).bind (fun(e:Int)=>some (rI e,[])):=
 fun s=>by
  rw[qW qwi qBp.2.2.2 qG7]
  have:=qGx;have:=@q6p;have:=@q0k.eq_1;exact gA
def q2j (s:ByteArray):Option Bool:=if(!(ByteArray.toList s==ByteArray.toList (ByteArray.mk (List.toArray []))))=Bool.true then if((ByteArray.size s:Nat):Int)≤8 then Option.bind (q0k s) fun(a:Int)=>some (decide (a<0)) else some Bool.false else some Bool.false
theorem qbk:∀(s:ByteArray),ev 137 0 [rS s] []=(q2j s).bind (fun(e:Bool)=>some (rB e,[])):=
 fun s=>by
  rw[qW qwN qBm.2.2.2 qId]
  have:=qFx;have:=@q6u;have:=@q2j.eq_1;exact gA
def q14 (c:qc):Option Bool:=if zD c.School 1 8=Bool.true then Option.bind (q2j c.Code) fun(e0:Bool)=>some e0 else some Bool.false
theorem q6F:∀(q20:Int) (q6i:ByteArray),ev 99 0 [R.agg [dI q20,dS q6i]] []=(q14 (qc.mk q20 q6i)).bind (fun(e:Bool)=>some (rB e,[])):=
 fun q20 q6i=>by
  rw[qW qHe qJ8.2.2.2 qLr]
  have:=qNH;have:=@Jq;have:=@qbk;have:=@q14.eq_1;exact gA
def q1V (c:qc):Option Bool:=Option.bind (q14 c) fun(a:Bool)=>some (!a)
theorem q8i:∀(q20:Int) (q6i:ByteArray),ev 171 0 [R.agg [dI q20,dS q6i]] []=(q1V (qc.mk q20 q6i)).bind (fun(e:Bool)=>some (rB e,[])):=
 fun q20 q6i=>by
  rw[qW qtQ qzt.2.2.2 qG9]
  have:=qGF;have:=@q6F;have:=@q1V.eq_1;exact gA
def zu (s:List qc) (t7:Int):Int→Option (Int⊕(Int⊕Unit))|t8=>if t8<t7 then if 0≤t8∧t8<((s.length:Nat):Int) then Option.bind s[Int.toNat t8]? fun(a:qc)=>Option.bind (q1V a) fun(a2:Bool)=>if a2=Bool.true then some (Sum.inr (Sum.inl t8)) else some (Sum.inl (w64 (t8+1))) else none else some (Sum.inr (Sum.inr ()))
theorem q04:∀(s:List qc) (t7 t8:Int),XL2 evo 182 0 2 ⟨[(0,rL 2 qd s),(1,R.c (C.fn 171 [] [])),(7,rI t7),(8,rI t8)],[],0,19⟩=(zB (zu s t7) t8).bind (Sum.elim (fun(e:Int)=>some (Exit.ret,⟨[(4,rI e)],[],0,19⟩)) (fun(e:Unit)=>some (Exit.exit 0,⟨[(4,R.any)],[],0,19⟩))):=
 fun s t7 t8=>by
  revert t8;exact qbj qtY qwF (fun e=>by rcases e with _|_<;>exact⟨_,rfl,fun h=>by cases h⟩) fun x=>by
   have:=qAJ;have:=@qih.eq_1;have:=@q8i;have:=@zu.eq_1;exact gA
def Qk (s:List qc):Option Int:=Option.bind (zB (zu s ((s.length:Nat):Int)) 0) fun(a:Sum Int Unit)=>Sum.elim (fun(a2:Int)=>some a2) (fun(a3:Unit)=>some (-1)) a
theorem q0r:∀(s:List qc),ev 182 0 [rL 2 qd s,R.c (C.fn 171 [] [])] []=(Qk s).bind (fun(e:Int)=>some (rI e,[])):=
 fun s=>by
  rw[qW qs2 qDO.2.2.2 qyP]
  have:=qAJ;have:=@q04;have:=@Qk.eq_1;exact gA
def zM (s:List qc):Option Bool:=Option.bind (Qk s) fun(a:Int)=>some (decide (0≤a))
theorem q06:∀(s:List qc),ev 170 0 [rL 2 qd s,R.c (C.fn 171 [] [])] []=(zM s).bind (fun(e:Bool)=>some (rB e,[])):=
 fun s=>by
  rw[qW qtJ qB3.2.2.2 qHc]
  have:=qIi;have:=@q0r;have:=@zM.eq_1;exact gA
theorem qF9:okL 100 qhH:=qZ (qk qvB) (by kernel_rfl) (by kernel_rfl)
def qIB:=JA_ @qhH.eq_1 (JA_ @Tryz.f100.eq_1 @qvB)
theorem qN7:okL 66 qo9:=qZ (qk qHd) (by kernel_rfl) (by kernel_rfl)
def qMP:=JA_ @qo9.eq_1 (JA_ @Tryz.f66.eq_1 @qHd)
theorem qH8:okL 110 qiI:=qZ (qk qxb) (by kernel_rfl) (by kernel_rfl)
def qHY:=JA_ @qiI.eq_1 (JA_ @Tryz.f110.eq_1 @qxb)
def q2p (x:Int):Option Bool:=
 some (x != x)
def Qm (x:Int):Bool:=
 x != x
theorem q8x (x:Int):q2p x=some (Qm x):=by
 unfold q2p Qm
 simp only[Zn]
theorem q9G:∀(x:Int),ev 110 0 [rI x] []=some (rB (Qm x),[]):=
 fun x=>by
  have h:ev 110 0 [rI x] []=(q2p x).bind (fun(e:Bool)=>some (rB e,[])):=by
   rw[qW qxb qyE.2.2.2 qH8]
   have:=qHY;have:=@q2p.eq_1;exact gA
  rw[q8x] at h
  exact h
def q1s (x:Int) (y:Int):Option Int:=if Qm x=Bool.true then if Qm y=Bool.true then some 0 else some (-1) else if Qm y=Bool.true then some 1 else if x<y then some (-1) else if y<x then some 1 else some 0
def Qd (x:Int) (y:Int):Int:=if Qm x=Bool.true then if Qm y=Bool.true then 0 else(-1) else if Qm y=Bool.true then 1 else if x<y then(-1) else if y<x then 1 else 0
theorem q7o (x y:Int):q1s x y=some (Qd x y):=by
 unfold q1s Qd
 simp only[Zn]
theorem q1D:∀(x y:Int),ev 66 0 [rI x,rI y] []=some (rI (Qd x y),[]):=
 fun x y=>by
  have h:ev 66 0 [rI x,rI y] []=(q1s x y).bind (fun(e:Int)=>some (rI e,[])):=by
   rw[qW qHd qJh.2.2.2 qN7]
   have:=qMP;have:=@q9G;have:=@q1s.eq_1;exact gA
  rw[q7o] at h
  exact h
theorem qHJ:okL 138 qim:=qZ (qk qw0) (by kernel_rfl) (by kernel_rfl)
def qIl:=JA_ @qim.eq_1 (JA_ @Tryz.f138.eq_1 @qw0)
theorem qGR:okL 167 qhB:=qZ (qk qxT) (by kernel_rfl) (by kernel_rfl)
def qGY:=JA_ @qhB.eq_1 (JA_ @Tryz.f167.eq_1 @qxT)
def q0L (x:ByteArray):Option Unit:=
 some ()
def q3E (x:ByteArray):Unit:=
 ()
theorem q6m (x:ByteArray):q0L x=some (q3E x):=by
 unfold q0L q3E
 simp only[Zn]
theorem q6X:∀(x:ByteArray),ev 167 0 [rS x] []=some (rB Bool.false,[]):=
 fun x=>by
  have h:ev 167 0 [rS x] []=(q0L x).bind (fun(e:Unit)=>some (rB Bool.false,[])):=by
   rw[qW qxT qD1.2.2.2 qGR]
   have:=qGY;have:=@q0L.eq_1;exact gA
  rw[q6m] at h
  exact h
def q08 (x:ByteArray) (y:ByteArray):Option Int:=if Op.bytesLess (ByteArray.toList x) (ByteArray.toList y)=Bool.true then some (-1) else if(!(Op.bytesLess (ByteArray.toList x) (ByteArray.toList y)||ByteArray.toList x==ByteArray.toList y))=Bool.true then some 1 else some 0
def Zg (x:ByteArray) (y:ByteArray):Int:=if Op.bytesLess (ByteArray.toList x) (ByteArray.toList y)=Bool.true then(-1) else if(!(Op.bytesLess (ByteArray.toList x) (ByteArray.toList y)||ByteArray.toList x==ByteArray.toList y))=Bool.true then 1 else 0
theorem q5i (x y:ByteArray):q08 x y=some (Zg x y):=by
 unfold q08 Zg
 simp only[Zn]
theorem q5R:∀(x y:ByteArray),ev 138 0 [rS x,rS y] []=some (rI (Zg x y),[]):=
 fun x y=>by
  have h:ev 138 0 [rS x,rS y] []=(q08 x y).bind (fun(e:Int)=>some (rI e,[])):=by
   rw[qW qw0 qCB.2.2.2 qHJ]
   have:=qIl;have:=@q6X;have:=@q08.eq_1;exact gA
  rw[q5i] at h
  exact h
theorem qJu:okL 65 qkn:=qZ (qk qEj) (by kernel_rfl) (by kernel_rfl)
def qJn:=JA_ @qkn.eq_1 (JA_ @Tryz.f65.eq_1 @qEj)
theorem qzi:lbO 65 3=qnJ:=QG (qk qEj) rfl
theorem qD8:okL 65 qnJ:=zV qJu (qOT (i:=0) (by kernel_rfl))
def ZE (zero:Int) (t6:List Int) (t7:Int):Int→Option (Int⊕(Int⊕Unit))|t8=>if t8<t7 then if 0≤t8∧t8<((t6.length:Nat):Int) then Option.bind t6[Int.toNat t8]? fun(a:Int)=>if(a != zero)=Bool.true then some (Sum.inr (Sum.inl a)) else some (Sum.inl (w64 (t8+1))) else none else some (Sum.inr (Sum.inr ()))
theorem q97:∀(zero:Int) (t6:List Int) (t7 t8:Int),XL2 evo 65 0 3 ⟨[(3,rI zero),(6,rL 1 eI t6),(7,rI t7),(8,rI t8)],[],0,18⟩=(zB (ZE zero t6 t7) t8).bind (Sum.elim (fun(e:Int)=>some (Exit.ret,⟨[(2,rI e),(3,rI zero)],[],0,18⟩)) (fun(e:Unit)=>some (Exit.exit 0,⟨[(2,R.any),(3,rI zero)],[],0,18⟩))):=
 fun zero t6 t7 t8=>by
  revert t8;exact qbj qzi qD8 (fun e=>by rcases e with _|_<;>exact⟨_,rfl,fun h=>by cases h⟩) fun x=>by
   have:=qJn;have:=@qnJ.eq_1;have:=@ZE.eq_1;exact gA
def q15 (vals:List Int):Option Int:=Option.bind (zB (ZE 0 vals ((vals.length:Nat):Int)) 0) fun(a:Sum Int Unit)=>Sum.elim (fun(a2:Int)=>some a2) (fun(a3:Unit)=>some 0) a
theorem qdc:∀(vals:List Int),ev 65 0 [rL 1 eI vals] []=(q15 vals).bind (fun(e:Int)=>some (rI e,[])):=
 fun vals=>by
  rw[qW qEj qKr.2.2.2 qJu]
  have:=qJn;have:=@q97;have:=@q15.eq_1;exact gA
theorem q4J:∀(vals0 vals1:Int) , ev 65 0 [R.c (C.d (D.sl 1 2 [D.int .i64 vals0,D.int .i64 vals1]))] []=(q15 [vals0,vals1]).bind (fun(e:Int)=>some (rI e,[])):=by
 intro vals0 vals1;have h:=qdc [vals0,vals1]
 first
  | exact h
  | (simp only[rL,dL,bR,bZ,Nat.reduceAdd] at h;exact h)
def q0G (a:qc) (b:qc):Option Int:=Option.bind (q15 [Qd a.School b.School,Zg a.Code b.Code]) fun(e0:Int)=>some e0
theorem q5a:∀(JW:Int) (q3w:ByteArray) (q3V:Int) (qa1:ByteArray),ev 100 0 [R.agg [dI JW,dS q3w],R.agg [dI q3V,dS qa1]] []=(q0G (qc.mk JW q3w) (qc.mk q3V qa1)).bind (fun(e:Int)=>some (rI e,[])):=
 fun JW q3w q3V qa1=>by
  rw[qW qvB qCq.2.2.2 qF9]
  have:=qIB;have:=@q1D;have:=@q5R;have:=@q4J;have:=@q0G.eq_1;exact gA
def Zu (n:qb) (t22:List qc) (t23:Int):Int→Option (Int⊕(Unit⊕Unit))|t24=>if t24<t23 then if 0≤t24∧t24<((t22.length:Nat):Int) then Option.bind t22[Int.toNat t24]? fun(a:qc)=>if 0<t24 then if 0≤w64 (t24-1)∧w64 (t24-1)<((n.Set.length:Nat):Int) then Option.bind n.Set[Int.toNat (w64 (t24-1))]? fun(a2:qc)=>Option.bind (q0G a2 a) fun(a3:Int)=>if 0≤a3 then some (Sum.inr (Sum.inl ())) else some (Sum.inl (w64 (t24+1))) else none else some (Sum.inl (w64 (t24+1))) else none else some (Sum.inr (Sum.inr ()))
theorem q7V:∀(qz n_N qQ:Int) (qR:List qc) (n_L:List qb) (t22:List qc) (t23 t24:Int),XL2 evo 142 0 7 ⟨[(1,rP 0),(22,rL 2 qd t22),(23,rI t23),(24,rI t24)],[(0,B.blk 36 [dI qz,dI n_N,dI qQ,dL 2 qd qR,dL 5 qh n_L])],1,43⟩=(zB (Zu (qb.mk qz n_N qQ qR n_L) t22 t23) t24).bind (Sum.elim (fun(e:Unit)=>some (Exit.ret,⟨[(2,rI 7)],[],0,43⟩)) (fun(e:Unit)=>some (Exit.exit 1,⟨[(2,R.any)],[],0,43⟩))):=
 fun qz n_N qQ qR n_L t22 t23 t24=>by
  revert t24;exact qbj qw5 qwj (fun e=>by rcases e with _|_<;>exact⟨_,rfl,fun h=>by cases h⟩) fun x=>by
   have:=qDl;have:=@qhF.eq_1;have:=@q5a;have:=@Zu.eq_1;exact gA
def q0F (n:qb):Option Int:=if(!(zD n.Min (-1000) 1000))=Bool.true then some 3 else if(!(zD ((n.Set.length:Nat):Int) 1 12))=Bool.true then some 2 else Option.bind (zM n.Set) fun(a:Bool)=>if(!a)=Bool.true then Option.bind (zB (Zu n n.Set ((n.Set.length:Nat):Int)) 0) fun(a2:Sum Unit Unit)=>Sum.elim (fun(a3:Unit)=>some 7) (fun(a4:Unit)=>some 0) a2 else some 1
theorem q5h:∀(qz n_N qQ:Int) (qR:List qc) (n_L:List qb),ev 142 0 [R.agg [dI qz,dI n_N,dI qQ,dL 2 qd qR,dL 5 qh n_L]] []=(q0F (qb.mk qz n_N qQ qR n_L)).bind (fun(e:Int)=>some (rI e,[])):=
 fun qz n_N qQ qR n_L=>by
  rw[qW qs7 qyQ.2.2.2 qCS]
  have:=qDl;have:=@Jq;have:=@q06;have:=@q7V;have:=@q0F.eq_1;exact gA
def q1K (n:qb):Option Int:=if(n.N != 0)=Bool.true then some 13 else if 0<((n.L.length:Nat):Int) then some 13 else Option.bind (q0F n) fun(e0:Int)=>some e0
theorem qaC:∀(qz n_N qQ:Int) (qR:List qc) (n_L:List qb),ev 141 0 [R.agg [dI qz,dI n_N,dI qQ,dL 2 qd qR,dL 5 qh n_L]] []=(q1K (qb.mk qz n_N qQ qR n_L)).bind (fun(e:Int)=>some (rI e,[])):=
 fun qz n_N qQ qR n_L=>by
  rw[qW qvu qAI.2.2.2 qHC]
  have:=qGL;have:=@q5h;have:=@q1K.eq_1;exact gA
theorem qFy:okL 143 qiS:=qZ (qk qvl) (by kernel_rfl) (by kernel_rfl)
def qFN:=JA_ @qiS.eq_1 (JA_ @Tryz.f143.eq_1 @qvl)
def q1M (n:qb):Option Int:=if 0<((n.L.length:Nat):Int) then some 13 else if(!(zD n.N 1 600))=Bool.true then some 3 else Option.bind (q0F n) fun(e0:Int)=>some e0
theorem qaj:∀(qz n_N qQ:Int) (qR:List qc) (n_L:List qb),ev 143 0 [R.agg [dI qz,dI n_N,dI qQ,dL 2 qd qR,dL 5 qh n_L]] []=(q1M (qb.mk qz n_N qQ qR n_L)).bind (fun(e:Int)=>some (rI e,[])):=
 fun qz n_N qQ qR n_L=>by
  rw[qW qvl qCf.2.2.2 qFy]
  have:=qFN;have:=@Jq;have:=@q5h;have:=@q1M.eq_1;exact gA
theorem qHM:okL 144 qhS:=qZ (qk qv3) (by kernel_rfl) (by kernel_rfl)
def qGi:=JA_ @qhS.eq_1 (JA_ @Tryz.f144.eq_1 @qv3)
theorem qFc:okL 140 qi7:=qZ (qk qvq) (by kernel_rfl) (by kernel_rfl)
def qGk:=JA_ @qi7.eq_1 (JA_ @Tryz.f140.eq_1 @qvq)
def q3f (n:qb):Option Bool:=if(n.Min==0)=Bool.true then if(((n.Set.length:Nat):Int)==0)=Bool.true then some (decide (0<((n.L.length:Nat):Int))) else some Bool.false else some Bool.false
def Zo (n:qb):Bool:=if(n.Min==0)=Bool.true then if(((n.Set.length:Nat):Int)==0)=Bool.true then decide (0<((n.L.length:Nat):Int)) else Bool.false else Bool.false
theorem q9U (n:qb):q3f n=some (Zo n):=by
 unfold q3f Zo
 simp only[Zn]
theorem q5o:∀(qz n_N qQ:Int) (qR:List qc) (n_L:List qb),ev 140 0 [R.agg [dI qz,dI n_N,dI qQ,dL 2 qd qR,dL 5 qh n_L]] []=some (rB (Zo (qb.mk qz n_N qQ qR n_L)),[]):=
 fun qz n_N qQ qR n_L=>by
  have h:ev 140 0 [R.agg [dI qz,dI n_N,dI qQ,dL 2 qd qR,dL 5 qh n_L]] []=(q3f (qb.mk qz n_N qQ qR n_L)).bind (fun(e:Bool)=>some (rB e,[])):=by
   rw[qW qvq qzK.2.2.2 qFc]
   have:=qGk;have:=@q3f.eq_1;exact gA
  rw[q9U] at h
  exact h
def q2Y (n:qb):Option Int:=if(!(Zo n))=Bool.true then some 13 else if(n.N != 0)=Bool.true then some 13 else some 0
def Jh (n:qb):Int:=if(!(Zo n))=Bool.true then 13 else if(n.N != 0)=Bool.true then 13 else 0
theorem q9k (n:qb):q2Y n=some (Jh n):=by
 unfold q2Y Jh
 simp only[Zn]
theorem qam:∀(qz n_N qQ:Int) (qR:List qc) (n_L:List qb),ev 144 1 [R.agg [dI qz,dI n_N,dI qQ,dL 2 qd qR,dL 5 qh n_L],rP 0] [(0,B.blk 136 [C.fn 140 [] []])]=some (rI (Jh (qb.mk qz n_N qQ qR n_L)),[(0,B.blk 136 [C.fn 140 [] []])]):=
 fun qz n_N qQ qR n_L=>by
  have h:ev 144 1 [R.agg [dI qz,dI n_N,dI qQ,dL 2 qd qR,dL 5 qh n_L],rP 0] [(0,B.blk 136 [C.fn 140 [] []])]=(q2Y (qb.mk qz n_N qQ qR n_L)).bind (fun(e:Int)=>some (rI e,[(0,B.blk 136 [C.fn 140 [] []])])):=by
   rw[qW qv3 qDt.2.2.2 qHM]
   have:=qGi;have:=@q5o;have:=@q2Y.eq_1;exact gA
  rw[q9k] at h
  exact h
theorem qFa:okL 145 qin:=qZ (qk qyc) (by kernel_rfl) (by kernel_rfl)
def qFY:=JA_ @qin.eq_1 (JA_ @Tryz.f145.eq_1 @qyc)
def q3a (n:qb):Option Int:=if(!(Zo n))=Bool.true then some 13 else if(!(zD n.N 1 ((n.L.length:Nat):Int)))=Bool.true then some 3 else some 0
def Jm (n:qb):Int:=if(!(Zo n))=Bool.true then 13 else if(!(zD n.N 1 ((n.L.length:Nat):Int)))=Bool.true then 3 else 0
theorem q8W (n:qb):q3a n=some (Jm n):=by
 unfold q3a Jm
 simp only[Zn]
theorem qai:∀(qz n_N qQ:Int) (qR:List qc) (n_L:List qb),ev 145 1 [R.agg [dI qz,dI n_N,dI qQ,dL 2 qd qR,dL 5 qh n_L],rP 0] [(0,B.blk 136 [C.fn 140 [] []])]=some (rI (Jm (qb.mk qz n_N qQ qR n_L)),[(0,B.blk 136 [C.fn 140 [] []])]):=
 fun qz n_N qQ qR n_L=>by
  have h:ev 145 1 [R.agg [dI qz,dI n_N,dI qQ,dL 2 qd qR,dL 5 qh n_L],rP 0] [(0,B.blk 136 [C.fn 140 [] []])]=(q3a (qb.mk qz n_N qQ qR n_L)).bind (fun(e:Int)=>some (rI e,[(0,B.blk 136 [C.fn 140 [] []])])):=by
   rw[qW qyc qBR.2.2.2 qFa]
   have:=qFY;have:=@q5o;have:=@Jq;have:=@q3a.eq_1;exact gA
  rw[q8W] at h
  exact h
def JH (t37:List qb) (t38:Int):Int→Option (Int⊕(Int⊕Unit))|t39=>if t39<t38 then if 0≤t39∧t39<((t37.length:Nat):Int) then Option.bind t37[Int.toNat t39]? fun(a:qb)=>if a.Kind=1 then Option.bind (q1K a) fun(a2:Int)=>if(a2 != 0)=Bool.true then some (Sum.inr (Sum.inl a2)) else some (Sum.inl (w64 (t39+1))) else if a.Kind=2 then Option.bind (q1M a) fun(a3:Int)=>if(a3 != 0)=Bool.true then some (Sum.inr (Sum.inl a3)) else some (Sum.inl (w64 (t39+1))) else if a.Kind=3 then if(Jh a != 0)=Bool.true then some (Sum.inr (Sum.inl (Jh a))) else some (Sum.inl (w64 (t39+1))) else if a.Kind=4 then if(Jm a != 0)=Bool.true then some (Sum.inr (Sum.inl (Jm a))) else some (Sum.inl (w64 (t39+1))) else some (Sum.inr (Sum.inl 13)) else none else some (Sum.inr (Sum.inr ()))
theorem q9p:∀(t37:List qb) (t38 t39:Int),XL2 evo 58 0 6 ⟨[(6,R.c (C.hd .map 0)),(37,rL 5 qh t37),(38,rI t38),(39,rI t39)],[(0,B.ob (AO.mp [(Value.int IntKind.i64 1,R.agg [C.fn 141 [] []],0),(Value.int IntKind.i64 2,R.agg [C.fn 143 [] []],1),(Value.int IntKind.i64 3,R.agg [C.fn 144 [] [dP 1]],2),(Value.int IntKind.i64 4,R.agg [C.fn 145 [] [dP 1]],3)] 4)),(1,B.blk 136 [C.fn 140 [] []])],2,60⟩=(zB (JH t37 t38) t39).bind (Sum.elim (fun(e:Int)=>some (Exit.ret,⟨[(2,rI e)],[],0,60⟩)) (fun(e:Unit)=>some (Exit.exit 0,⟨[(2,R.any)],[],0,60⟩))):=
 fun t37 t38 t39=>by
  revert t39;exact qbj qAR qz0 (fun e=>by rcases e with _|_<;>exact⟨_,rfl,fun h=>by cases h⟩) fun x=>by
   have:=qJH;have:=@qn9.eq_1;have:=@qaC;have:=@qaj;have:=@qam;have:=@qai;have:=@JH.eq_1;exact gA
def JD (n:qb):Option Int:=Option.bind (q2J n) fun(a:Prod (List qb) (Prod Int Bool))=>if(!a.2.2)=Bool.true then some 2 else if 24<((a.1.length:Nat):Int) then some 2 else if 5<a.2.1 then some 2 else Option.bind (q1q n) fun(a2:List qb)=>if(!(zD ((a2.length:Nat):Int) 1 8))=Bool.true then some 2 else Option.bind (zB (JH a.1 ((a.1.length:Nat):Int)) 0) fun(a3:Sum Int Unit)=>Sum.elim (fun(a4:Int)=>some a4) (fun(a5:Unit)=>some 0) a3
theorem q4c:∀(qz n_N qQ:Int) (qR:List qc) (n_L:List qb),ev 58 0 [R.agg [dI qz,dI n_N,dI qQ,dL 2 qd qR,dL 5 qh n_L]] []=(JD (qb.mk qz n_N qQ qR n_L)).bind (fun(e:Int)=>some (rI e,[])):=
 fun qz n_N qQ qR n_L=>by
  rw[qW qEs qJU.2.2.2 qK7]
  have:=qJH;have:=@q8f;have:=@q67;have:=@Jq;have:=@qcp;have:=@q9p;have:=@JD.eq_1;exact gA
theorem qLH:okL 70 qpM:=qZ (qk qI2) (by kernel_rfl) (by kernel_rfl)
def qNr:=JA_ @qpM.eq_1 (JA_ @Tryz.f70.eq_1 @qI2)
theorem qDy:okL 114 qes:=qZ (qk qqW) (by kernel_rfl) (by kernel_rfl)
def qDE:=JA_ @qes.eq_1 (JA_ @Tryz.f114.eq_1 @qqW)
theorem quh:lbO 114 2=qif:=QG (qk qqW) rfl
theorem qus:okL 114 qif:=zV qDy (qOT (i:=0) (by kernel_rfl))
theorem qKp:okL 57 qjS:=qZ (qk qEF) (by kernel_rfl) (by kernel_rfl)
def qJA:=JA_ @qjS.eq_1 (JA_ @Tryz.f57.eq_1 @qEF)
theorem qC1:lbO 57 2=qoz:=QG (qk qEF) rfl
theorem qCQ:okL 57 qoz:=zV qKp (qOT (i:=0) (by kernel_rfl))
theorem qFZ:okL 101 qiD:=qZ (qk quK) (by kernel_rfl) (by kernel_rfl)
def qGG:=JA_ @qiD.eq_1 (JA_ @Tryz.f101.eq_1 @quK)
def q0p (n:Int) (a:Int) (b:Int):Option Int:=
 some (max (min a b) (min n (max a b)))
def QF (n:Int) (a:Int) (b:Int):Int:=
 max (min a b) (min n (max a b))
theorem q5F (n a b:Int):q0p n a b=some (QF n a b):=by
 unfold q0p QF
 simp only[Zn]
theorem q0I:∀(n a b:Int),ev 101 0 [rI n,rI a,rI b] []=some (rI (QF n a b),[]):=
 fun n a b=>by
  have h:ev 101 0 [rI n,rI a,rI b] []=(q0p n a b).bind (fun(e:Int)=>some (rI e,[])):=by
   rw[qW quK qBN.2.2.2 qFZ]
   have:=qGG;have:=@q0p.eq_1;exact gA
  rw[q5F] at h
  exact h
def Jk (w1:List Int) (s:qg) (t10:Int):Int→Option (Int⊕(Unit⊕Unit))|t11=>if t11<t10 then if 0≤t11∧t11<((w1.length:Nat):Int) then Option.bind w1[Int.toNat t11]? fun(a:Int)=>if(QF a (-1000) 1000 != a)=Bool.true then some (Sum.inr (Sum.inl ())) else some (Sum.inl (w64 (t11+1))) else none else some (Sum.inr (Sum.inr ()))
theorem q8m:∀(w1:List Int) (zr Q2 Q3 t10 t11:Int) (QQ:Nat),QQ=w1.length→XL2 evo 57 0 2 ⟨[(1,rP 0),(9,rO 1 1 QQ),(10,rI t10),(11,rI t11)],[(0,B.blk 28 [dI zr,dI Q2,dI Q3]),(1,bR 3 1 eI w1)],2,37⟩=(zB (Jk w1 (qg.mk zr Q2 Q3) t10) t11).bind (Sum.elim (fun(e:Unit)=>some (Exit.ret,⟨[(1,rP 0),(2,rI 10)],[(0,B.blk 28 [dI zr,dI Q2,dI Q3])],1,37⟩)) (fun(e:Unit)=>some (Exit.exit 0,⟨[(1,rP 0),(2,R.any)],[(0,B.blk 28 [dI zr,dI Q2,dI Q3])],1,37⟩))):=
 by
 intro w1 zr Q2 Q3 t10 t11 QQ h0
 subst h0
 revert t11;exact qbj qC1 qCQ (fun e=>by rcases e with _|_<;>exact⟨_,rfl,fun h=>by cases h⟩) fun x=>by
  have:=qJA;have:=@qoz.eq_1;have:=@q0I;have:=@Jk.eq_1;exact gA
theorem q6s:∀(w10 w11 zr Q2 Q3 t10 t11:Int),XL2 evo 57 0 2 ⟨[(1,rP 0),(9,rO 1 1 2),(10,rI t10),(11,rI t11)],[(0,B.blk 28 [dI zr,dI Q2,dI Q3]),(1,B.row 3 1 [dI w10,dI w11])],2,37⟩=(zB (Jk [w10,w11] (qg.mk zr Q2 Q3) t10) t11).bind (Sum.elim (fun(e:Unit)=>some (Exit.ret,⟨[(1,rP 0),(2,rI 10)],[(0,B.blk 28 [dI zr,dI Q2,dI Q3])],1,37⟩)) (fun(e:Unit)=>some (Exit.exit 0,⟨[(1,rP 0),(2,R.any)],[(0,B.blk 28 [dI zr,dI Q2,dI Q3])],1,37⟩))):=by
 intro w10 w11 zr Q2 Q3 t10 t11;have h:=q8m [w10,w11] ((qg.mk zr Q2 Q3)).Worst ((qg.mk zr Q2 Q3)).Best ((qg.mk zr Q2 Q3)).Pass t10 t11 _ rfl
 first
  | exact h
  | (simp only[rL,dL,bR,bZ,Nat.reduceAdd] at h;exact h)
def q1u (s:qg):Option Int:=Option.bind (zB (Jk [s.Worst,s.Best] s 2) 0) fun(a:Sum Unit Unit)=>Sum.elim (fun(a2:Unit)=>some 10) (fun(a3:Unit)=>if(s.Worst==s.Best)=Bool.true then some 10 else if(QF s.Pass s.Worst s.Best != s.Pass)=Bool.true then some 10 else some 0) a
theorem q68:∀(zr Q2 Q3:Int),ev 57 0 [R.agg [dI zr,dI Q2,dI Q3]] []=(q1u (qg.mk zr Q2 Q3)).bind (fun(e:Int)=>some (rI e,[])):=
 fun zr Q2 Q3=>by
  rw[qW qEF qJM.2.2.2 qKp]
  have:=qJA;have:=@q6s;have:=@q0I;have:=@q1u.eq_1;exact gA
theorem qO7:okL 18 qng:=qZ (qk qIa) (by kernel_rfl) (by kernel_rfl)
def qMn:=JA_ @qng.eq_1 (JA_ @Tryz.f18.eq_1 @qIa)
theorem qOe:okL 46 qnM:=qZ (qk qIr) (by kernel_rfl) (by kernel_rfl)
def qKL:=JA_ @qnM.eq_1 (JA_ @Tryz.f46.eq_1 @qIr)
theorem qNg:okL 80 qol:=qZ (qk qF6) (by kernel_rfl) (by kernel_rfl)
def qL1:=JA_ @qol.eq_1 (JA_ @Tryz.f80.eq_1 @qF6)
def q1v (n:Int) (by0:Int):Option Int:=if by0=0 then none else if by0=0 then none else if by0=0 then none else some (w64 (Int.tdiv (w64 (n-Int.tmod (w64 (Int.tmod n by0+by0)) by0)) by0))
theorem qbD:∀(n by0:Int),ev 80 0 [rI n,rI by0] []=(q1v n by0).bind (fun(e:Int)=>some (rI e,[])):=
 fun n by0=>by
  rw[qW qF6 qII.2.2.2 qNg]
  have:=qL1;have:=@q1v.eq_1;exact gA
def q2M (day:Int):Option Int:=if day<(-4611686018427387904) then Option.bind (q1v (w64 (day+100)) 100) fun(a:Int)=>some (w64 (a-1)) else Option.bind (q1v day 100) fun(e0:Int)=>some e0
theorem qdv:∀(day:Int),ev 46 0 [rI day] []=(q2M day).bind (fun(e:Int)=>some (rI e,[])):=
 fun day=>by
  rw[qW qIr qKb.2.2.2 qOe]
  have:=qKL;have:=@qbD;have:=@q2M.eq_1;exact gA
def ZS (p:qe) (a:qa) (day:Int):Option Bool:=if 0<p.Age then Option.bind (q2M day) fun(a2:Int)=>Option.bind (q2M a.Day) fun(a3:Int)=>some (decide (p.Age<w64 (a2-a3))) else some Bool.false
theorem q4i:∀(qD JL qy zl:Int) (zm:ByteArray) (qp qE qt:Int) (qx:List qc) (qJ:List qb) (qO Qf Qg:Int) (qL:List (q00 qc)) (Qe:Int) (QK:ByteArray) (JK q2c q8Q:Int) (Jw:List Int) (q0u:Int) (q3K:List Int) (day:Int),ev 18 0 [R.agg [dI qD,dI JL,dI qy,dI zl,dS zm,dI qp,dI qE,dI qt,dL 2 qd qx,dL 5 qh qJ,dI qO,dI Qf,dI Qg,dL 4 (eA2 qd) qL],R.agg [dI Qe,dS QK,dI JK,dI q2c,dI q8Q,dL 1 eI Jw,dI q0u,dL 1 eI q3K],rI day] []=(ZS (qe.mk qD JL qy zl zm (qb.mk qp qE qt qx qJ) qO Qf Qg qL) (qa.mk (qc.mk Qe QK) JK q2c q8Q Jw q0u q3K) day).bind (fun(e:Bool)=>some (rB e,[])):=
 fun qD JL qy zl zm qp qE qt qx qJ qO Qf Qg qL Qe QK JK q2c q8Q Jw q0u q3K day=>by
  rw[qW qIa qJv.2.2.2 qO7]
  have:=qMn;have:=@qdv;have:=@ZS.eq_1;exact gA
def Ze (b0:qe) (b1:qg) (b2:Int) (b4:Int) (t2:List qa) (t28:List qa) (t29:Int):(List Int×Int)→Option ((List Int×Int)⊕(List Int))|(w6,t30)=>if t30<t29 then if 0≤t30∧t30<((t28.length:Nat):Int) then Option.bind t28[Int.toNat t30]? fun(a:qa)=>Option.bind (ZS b0 a b2) fun(a2:Bool)=>if(!a2)=Bool.true then if w6.length+1≤maxLen∧(w6.length+1)*8≤140737488355328 then some (Sum.inl (w6++[t30],w64 (t30+1))) else none else some (Sum.inl (w6,w64 (t30+1))) else none else some (Sum.inr w6)
theorem q77:∀(w6:List Int) (qq zL qn qB:Int) (qC:ByteArray) (qj qr ql:Int) (qm:List qc) (qu:List qb) (qw qT qU:Int) (qo:List (q00 qc)) (qY zy zz b2 b4:Int) (t2 t28:List qa) (t29 t30:Int) (qdg:Nat),qdg=w6.length→XL2 evo 15 0 6 ⟨[(2,rL 8 qf t2),(4,rP 0),(5,rP 1),(7,rP 2),(8,rP 3),(9,rP 4),(11,rP 5),(28,rL 8 qf t28),(29,rI t29),(30,rI t30)],[(0,B.blk 39 [dI qq,dI zL,dI qn,dI qB,dS qC,dI qj,dI qr,dI ql,dL 2 qd qm,dL 5 qh qu,dI qw,dI qT,dI qU,dL 4 (eA2 qd) qo]),(1,B.blk 28 [dI qY,dI zy,dI zz]),(2,B.blk 3 [dI b2]),(3,B.blk 48 [C.nils,C.nils]),(4,B.blk 49 [dI b4]),(5,B.blk 22 [dO 6 1 qdg]),(6,bR 3 1 eI w6)],7,93⟩=(zB (Ze (qe.mk qq zL qn qB qC (qb.mk qj qr ql qm qu) qw qT qU qo) (qg.mk qY zy zz) b2 b4 t2 t28 t29) (w6,t30)).bind (fun(e:List Int)=>some (Exit.exit 0,⟨[(2,rL 8 qf t2),(4,rP 0),(5,rP 1),(7,rP 2),(8,rP 3),(9,rP 4),(11,rP 5)],[(0,B.blk 39 [dI qq,dI zL,dI qn,dI qB,dS qC,dI qj,dI qr,dI ql,dL 2 qd qm,dL 5 qh qu,dI qw,dI qT,dI qU,dL 4 (eA2 qd) qo]),(1,B.blk 28 [dI qY,dI zy,dI zz]),(2,B.blk 3 [dI b2]),(3,B.blk 48 [C.nils,C.nils]),(4,B.blk 49 [dI b4]),(5,B.blk 22 [dO 6 1 e.length]),(6,bR 3 1 eI e)],7,93⟩)):=
 by
 intro w6 qq zL qn qB qC qj qr ql qm qu qw qT qU qo qY zy zz b2 b4 t2 t28 t29 t30 qdg h0
 subst h0
 revert t30;revert w6;exact q9j qCE qBi (fun e=>by exact⟨_,rfl,fun h=>by cases h⟩) fun w6 t30=>by
  have:=qHO;have:=@qnF.eq_1;have:=@q4i;have:=@Ze.eq_1;have:=@qhO;exact gA
theorem q5q:∀  (qq zL qn qB:Int) (qC:ByteArray) (qj qr ql:Int) (qm:List qc) (qu:List qb) (qw qT qU:Int) (qo:List (q00 qc)) (qY zy zz b2 b4:Int) (t2 t28:List qa) (t29 t30:Int),XL2 evo 15 0 6 ⟨[(2,rL 8 qf t2),(4,rP 0),(5,rP 1),(7,rP 2),(8,rP 3),(9,rP 4),(11,rP 5),(28,rL 8 qf t28),(29,rI t29),(30,rI t30)],[(0,B.blk 39 [dI qq,dI zL,dI qn,dI qB,dS qC,dI qj,dI qr,dI ql,dL 2 qd qm,dL 5 qh qu,dI qw,dI qT,dI qU,dL 4 (eA2 qd) qo]),(1,B.blk 28 [dI qY,dI zy,dI zz]),(2,B.blk 3 [dI b2]),(3,B.blk 48 [C.nils,C.nils]),(4,B.blk 49 [dI b4]),(5,B.blk 22 [dO 6 1 0]),(6,B.row 3 1 [])],7,93⟩=(zB (Ze (qe.mk qq zL qn qB qC (qb.mk qj qr ql qm qu) qw qT qU qo) (qg.mk qY zy zz) b2 b4 t2 t28 t29) ([],t30)).bind (fun(e:List Int)=>some (Exit.exit 0,⟨[(2,rL 8 qf t2),(4,rP 0),(5,rP 1),(7,rP 2),(8,rP 3),(9,rP 4),(11,rP 5)],[(0,B.blk 39 [dI qq,dI zL,dI qn,dI qB,dS qC,dI qj,dI qr,dI ql,dL 2 qd qm,dL 5 qh qu,dI qw,dI qT,dI qU,dL 4 (eA2 qd) qo]),(1,B.blk 28 [dI qY,dI zy,dI zz]),(2,B.blk 3 [dI b2]),(3,B.blk 48 [C.nils,C.nils]),(4,B.blk 49 [dI b4]),(5,B.blk 22 [dO 6 1 e.length]),(6,bR 3 1 eI e)],7,93⟩)):=by
 intro qq zL qn qB qC qj qr ql qm qu qw qT qU qo qY zy zz b2 b4 t2 t28 t29 t30;have h:=q77 [] ((qe.mk qq zL qn qB qC (qb.mk qj qr ql qm qu) qw qT qU qo)).School ((qe.mk qq zL qn qB qC (qb.mk qj qr ql qm qu) qw qT qU qo)).Id ((qe.mk qq zL qn qB qC (qb.mk qj qr ql qm qu) qw qT qU qo)).Version ((qe.mk qq zL qn qB qC (qb.mk qj qr ql qm qu) qw qT qU qo)).From ((qe.mk qq zL qn qB qC (qb.mk qj qr ql qm qu) qw qT qU qo)).Name ((qe.mk qq zL qn qB qC (qb.mk qj qr ql qm qu) qw qT qU qo)).Need.Kind ((qe.mk qq zL qn qB qC (qb.mk qj qr ql qm qu) qw qT qU qo)).Need.N ((qe.mk qq zL qn qB qC (qb.mk qj qr ql qm qu) qw qT qU qo)).Need.Min ((qe.mk qq zL qn qB qC (qb.mk qj qr ql qm qu) qw qT qU qo)).Need.Set ((qe.mk qq zL qn qB qC (qb.mk qj qr ql qm qu) qw qT qU qo)).Need.L ((qe.mk qq zL qn qB qC (qb.mk qj qr ql qm qu) qw qT qU qo)).Total ((qe.mk qq zL qn qB qC (qb.mk qj qr ql qm qu) qw qT qU qo)).Own ((qe.mk qq zL qn qB qC (qb.mk qj qr ql qm qu) qw qT qU qo)).Age ((qe.mk qq zL qn qB qC (qb.mk qj qr ql qm qu) qw qT qU qo)).Exclude ((qg.mk qY zy zz)).Worst ((qg.mk qY zy zz)).Best ((qg.mk qY zy zz)).Pass b2 b4 t2 t28 t29 t30 _ rfl
 first
  | exact h
  | (simp only[rL,dL,bR,bZ,Nat.reduceAdd] at h;exact h)
theorem qK0:okL 34 qjN:=qZ (qk qED) (by kernel_rfl) (by kernel_rfl)
def qJ0:=JA_ @qjN.eq_1 (JA_ @Tryz.f34.eq_1 @qED)
theorem qCt:lbO 34 2=qm3:=QG (qk qED) rfl
theorem qCI:okL 34 qm3:=zV qK0 (qOT (i:=0) (by kernel_rfl))
def zx (l:List qa) (t7:List Int) (t8:Int):(List qa×Int)→Option ((List qa×Int)⊕(List qa))|(out,t9)=>if t9<t8 then if 0≤t9∧t9<((t7.length:Nat):Int) then Option.bind t7[Int.toNat t9]? fun(a:Int)=>if 0≤a∧a<((l.length:Nat):Int) then Option.bind l[Int.toNat a]? fun(a2:qa)=>if out.length+1≤maxLen∧(out.length+1)*104≤140737488355328 then some (Sum.inl (out++[a2],w64 (t9+1))) else none else none else none else some (Sum.inr out)
theorem q1H:∀(out l:List qa) (t7:List Int) (t8 t9:Int) (Z2:Nat),Z2=out.length→XL2 evo 34 0 2 ⟨[(0,rL 8 qf l),(4,rO 0 8 Z2),(7,rL 1 eI t7),(8,rI t8),(9,rI t9)],[(0,bR 57 8 qf out)],1,22⟩=(zB (zx l t7 t8) (out,t9)).bind (fun(e:List qa)=>some (Exit.exit 0,⟨[(4,rO 0 8 e.length)],[(0,bR 57 8 qf e)],1,22⟩)):=
 by
 intro out l t7 t8 t9 Z2 h0
 subst h0
 revert t9;revert out;exact q9j qCt qCI (fun e=>by exact⟨_,rfl,fun h=>by cases h⟩) fun out t9=>by
  have:=qJ0;have:=@qm3.eq_1;have:=@zx.eq_1;exact gA
theorem q0X:∀  (l:List qa) (t7:List Int) (t8 t9:Int),XL2 evo 34 0 2 ⟨[(0,rL 8 qf l),(4,rO 0 8 0),(7,rL 1 eI t7),(8,rI t8),(9,rI t9)],[(0,B.row 57 8 [])],1,22⟩=(zB (zx l t7 t8) ([],t9)).bind (fun(e:List qa)=>some (Exit.exit 0,⟨[(4,rO 0 8 e.length)],[(0,bR 57 8 qf e)],1,22⟩)):=by
 intro l t7 t8 t9;have h:=q1H [] l t7 t8 t9 _ rfl
 first
  | exact h
  | (simp only[rL,dL,bR,bZ,Nat.reduceAdd] at h;exact h)
def zS (l:List qa) (at0:List Int):Option (List qa):=Option.bind (zB (zx l at0 ((at0.length:Nat):Int)) ([],0)) fun(a:List qa)=>some a
theorem JO:∀(l:List qa) (at0:List Int),ev 34 0 [rL 8 qf l,rL 1 eI at0] []=(zS l at0).bind (fun(e:List qa)=>some (rL 8 qf e,[])):=
 fun l at0=>by
  rw[qW qED qJQ.2.2.2 qK0]
  have:=qJ0;have:=@q0X;have:=@zS.eq_1;exact gA
theorem qMp:okL 35 qoD:=qZ (qk qGw) (by kernel_rfl) (by kernel_rfl)
def qLT:=JA_ @qoD.eq_1 (JA_ @Tryz.f35.eq_1 @qGw)
theorem qIJ:okL 61 qpq:=qZ (qk qEX) (by kernel_rfl) (by kernel_rfl)
def qIS:=JA_ @qpq.eq_1 (JA_ @Tryz.f61.eq_1 @qEX)
theorem qiH:okL 104 q7b:=qZ (qk qf5) (by kernel_rfl) (by kernel_rfl)
def q9u:=JA_ @q7b.eq_1 (JA_ @Tryz.f104.eq_1 @qf5)
theorem qfi:lbO 104 5=qak:=QG (qk qf5) rfl
theorem qeA:okL 104 qak:=zV qiH (qOT (i:=0) (by kernel_rfl))
theorem qkh:lbO 104 14=qbS:=QG (qk qf5) rfl
theorem qjz:okL 104 qbS:=zV qiH (qOT (i:=1) (by kernel_rfl))
theorem qkq:lbO 104 18=qbQ:=QG (qk qf5) rfl
theorem qk8:okL 104 qbQ:=zV qiH (qOT (i:=2) (by kernel_rfl))
theorem qkC:lbO 104 25=qbY:=QG (qk qf5) rfl
theorem qkx:okL 104 qbY:=zV qiH (qOT (i:=3) (by kernel_rfl))
theorem qk9:lbO 104 38=qbV:=QG (qk qf5) rfl
theorem qjO:okL 104 qbV:=zV qiH (qOT (i:=4) (by kernel_rfl))
theorem qNc:okL 86 qph:=qZ (qk qHz) (by kernel_rfl) (by kernel_rfl)
def qNE:=JA_ @qph.eq_1 (JA_ @Tryz.f86.eq_1 @qHz)
def q7J (n:qb):Option Bool:=if(n.Kind==1)=Bool.true then some Bool.true else some (n.Kind==2)
def JT (n:qb):Bool:=if(n.Kind==1)=Bool.true then Bool.true else n.Kind==2
theorem qdK (n:qb):q7J n=some (JT n):=by
 unfold q7J JT
 simp only[Zn]
theorem q3T:∀(qz n_N qQ:Int) (qR:List qc) (n_L:List qb),ev 86 0 [R.agg [dI qz,dI n_N,dI qQ,dL 2 qd qR,dL 5 qh n_L]] []=some (rB (JT (qb.mk qz n_N qQ qR n_L)),[]):=
 fun qz n_N qQ qR n_L=>by
  have h:ev 86 0 [R.agg [dI qz,dI n_N,dI qQ,dL 2 qd qR,dL 5 qh n_L]] []=(q7J (qb.mk qz n_N qQ qR n_L)).bind (fun(e:Bool)=>some (rB e,[])):=by
   rw[qW qHz qJP.2.2.2 qNc]
   have:=qNE;have:=@q7J.eq_1;exact gA
  rw[qdK] at h
  exact h
theorem qKD:okL 89 qoG:=qZ (qk qFd) (by kernel_rfl) (by kernel_rfl)
def qMB:=JA_ @qoG.eq_1 (JA_ @Tryz.f89.eq_1 @qFd)
def q1a (kind:Int):Option (Unit⊕Unit):=if(kind==1)=Bool.true then some (Sum.inl ()) else some (Sum.inr ())
theorem q4P:∀(kind:Int),ev 89 0 [rI kind] []=(q1a kind).bind (Sum.elim (fun(e:Unit)=>some (R.c (C.fn 133 [] []),[])) (fun(e:Unit)=>some (R.c (C.fn 134 [] []),[]))):=
 fun kind=>by
  rw[qW qFd qKh.2.2.2 qKD]
  have:=qMB;have:=@q1a.eq_1;exact gA
theorem qLZ:okL 59 qpg:=qZ (qk qGz) (by kernel_rfl) (by kernel_rfl)
def qKF:=JA_ @qpg.eq_1 (JA_ @Tryz.f59.eq_1 @qGz)
def q4A (x0:Int) (x1:Int):Option Unit:=
 some ()
def q86 (x0:Int) (x1:Int):Unit:=
 ()
theorem qbA (x0 x1:Int):q4A x0 x1=some (q86 x0 x1):=by
 unfold q4A q86
 simp only[Zn]
theorem q6M:∀(x0 x1:Int),ev 59 0 [rI x0,rI x1] []=some (rB Bool.true,[]):=
 fun x0 x1=>by
  have h:ev 59 0 [rI x0,rI x1] []=(q4A x0 x1).bind (fun(e:Unit)=>some (rB Bool.true,[])):=by
   rw[qW qGz qJc.2.2.2 qLZ]
   have:=qKF;have:=@q4A.eq_1;exact gA
  rw[qbA] at h
  exact h
theorem qHL:okL 87 qjZ:=qZ (qk qBu) (by kernel_rfl) (by kernel_rfl)
def qEY:=JA_ @qjZ.eq_1 (JA_ @Tryz.f87.eq_1 @qBu)
theorem qtF:lbO 87 3=qjl:=QG (qk qBu) rfl
theorem qte:okL 87 qjl:=zV qHL (qOT (i:=0) (by kernel_rfl))
theorem qFE:okL 105 qh1:=qZ (qk qvT) (by kernel_rfl) (by kernel_rfl)
def qHh:=JA_ @qh1.eq_1 (JA_ @Tryz.f105.eq_1 @qvT)
def q1f (k:Int) (v:Int):Option Bool:=if 0≤k then some (ZW Go.BinOp.and IntKind.i64 (Int.fdiv v (2 ^ min (Int.toNat k) (IntKind.bits IntKind.i64))) 1==1) else none
theorem q96:∀(k v:Int),ev 105 1 [rI k,rP 0] [(0,B.blk 3 [dI v])]=(q1f k v).bind (fun(e:Bool)=>some (rB e,[(0,B.blk 3 [dI v])])):=
 fun k v=>by
  rw[qW qvT qBf.2.2.2 qFE]
  have:=qHh;have:=@q1f.eq_1;exact gA
theorem qIb:okL 132 qik:=qZ (qk qug) (by kernel_rfl) (by kernel_rfl)
def qIx:=JA_ @qik.eq_1 (JA_ @Tryz.f132.eq_1 @qug)
theorem qG3:okL 163 qhb:=qZ (qk qu2) (by kernel_rfl) (by kernel_rfl)
def qHK:=JA_ @qhb.eq_1 (JA_ @Tryz.f163.eq_1 @qu2)
theorem qA9:okL 179 qfh:=qZ (qk qr6) (by kernel_rfl) (by kernel_rfl)
def qCd:=JA_ @qfh.eq_1 (JA_ @Tryz.f179.eq_1 @qr6)
theorem qy5:lbO 179 2=qhT:=QG (qk qr6) rfl
theorem qvK:okL 179 qhT:=zV qA9 (qOT (i:=0) (by kernel_rfl))
def zF (v:qc) (s:List qc) (t7:Int):Int→Option (Int⊕(Int⊕Unit))|t8=>if t8<t7 then if 0≤t8∧t8<((s.length:Nat):Int) then Option.bind s[Int.toNat t8]? fun(a:qc)=>if(v.School==a.School)=Bool.true∧(ByteArray.toList v.Code==ByteArray.toList a.Code)=Bool.true then some (Sum.inr (Sum.inl t8)) else some (Sum.inl (w64 (t8+1))) else none else some (Sum.inr (Sum.inr ()))
theorem q0v:∀(JX:Int) (q7v:ByteArray) (s:List qc) (t7 t8:Int),XL2 evo 179 0 2 ⟨[(0,rL 2 qd s),(3,rP 0),(7,rI t7),(8,rI t8)],[(0,B.blk 55 [dI JX,dS q7v])],1,19⟩=(zB (zF (qc.mk JX q7v) s t7) t8).bind (Sum.elim (fun(e:Int)=>some (Exit.ret,⟨[(4,rI e)],[],0,19⟩)) (fun(e:Unit)=>some (Exit.exit 0,⟨[(4,R.any)],[],0,19⟩))):=
 fun JX q7v s t7 t8=>by
  revert t8;exact qbj qy5 qvK (fun e=>by rcases e with _|_<;>exact⟨_,rfl,fun h=>by cases h⟩) fun x=>by
   have:=qCd;have:=@qhT.eq_1;have:=@zF.eq_1;exact gA
def Q9 (s:List qc) (v:qc):Option Int:=Option.bind (zB (zF v s ((s.length:Nat):Int)) 0) fun(a:Sum Int Unit)=>Sum.elim (fun(a2:Int)=>some a2) (fun(a3:Unit)=>some (-1)) a
theorem q17:∀(s:List qc) (JX:Int) (q7v:ByteArray),ev 179 0 [rL 2 qd s,R.agg [dI JX,dS q7v]] []=(Q9 s (qc.mk JX q7v)).bind (fun(e:Int)=>some (rI e,[])):=
 fun s JX q7v=>by
  rw[qW qr6 qyX.2.2.2 qA9]
  have:=qCd;have:=@q0v;have:=@Q9.eq_1;exact gA
def zW (s:List qc) (v:qc):Option Bool:=Option.bind (Q9 s v) fun(a:Int)=>some (decide (0≤a))
theorem q0w:∀(s:List qc) (JX:Int) (q7v:ByteArray),ev 163 0 [rL 2 qd s,R.agg [dI JX,dS q7v]] []=(zW s (qc.mk JX q7v)).bind (fun(e:Bool)=>some (rB e,[])):=
 fun s JX q7v=>by
  rw[qW qu2 qDH.2.2.2 qG3]
  have:=qHK;have:=@q17;have:=@zW.eq_1;exact gA
theorem qHm:okL 164 qi4:=qZ (qk qvU) (by kernel_rfl) (by kernel_rfl)
def qFv:=JA_ @qi4.eq_1 (JA_ @Tryz.f164.eq_1 @qvU)
theorem qHj:okL 180 qi3:=qZ (qk qwb) (by kernel_rfl) (by kernel_rfl)
def qGm:=JA_ @qi3.eq_1 (JA_ @Tryz.f180.eq_1 @qwb)
def q2t (s:qg) (g:Int):Option Bool:=Option.bind (q1u s) fun(a:Int)=>if(a==0)=Bool.true then some (QF g s.Worst s.Best==g) else some Bool.false
theorem qbp:∀(zr Q2 Q3 g:Int),ev 180 0 [R.agg [dI zr,dI Q2,dI Q3],rI g] []=(q2t (qg.mk zr Q2 Q3) g).bind (fun(e:Bool)=>some (rB e,[])):=
 fun zr Q2 Q3 g=>by
  rw[qW qwb qzV.2.2.2 qHj]
  have:=qGm;have:=@q68;have:=@q0I;have:=@q2t.eq_1;exact gA
def q1h (s:qg) (g:Int) (min:Int):Option Bool:=Option.bind (q2t s g) fun(a:Bool)=>if a=Bool.true then if(g==min)=Bool.true then some Bool.true else some (decide (min<g)==decide (s.Worst<s.Best)) else some Bool.false
theorem q9A:∀(zr Q2 Q3 g min:Int),ev 164 0 [R.agg [dI zr,dI Q2,dI Q3],rI g,rI min] []=(q1h (qg.mk zr Q2 Q3) g min).bind (fun(e:Bool)=>some (rB e,[])):=
 fun zr Q2 Q3 g min=>by
  rw[qW qvU qzO.2.2.2 qHm]
  have:=qFv;have:=@qbp;have:=@q1h.eq_1;exact gA
def q40 (n:qb) (s:qg) (a:qa):Option Bool:=if JT n=Bool.true then Option.bind (zW n.Set a.Course) fun(a2:Bool)=>if a2=Bool.true then Option.bind (q1h s a.Grade n.Min) fun(e0:Bool)=>some e0 else some Bool.false else some Bool.false
theorem qa0:∀(qz n_N qQ:Int) (qR:List qc) (n_L:List qb) (zr Q2 Q3 Qe:Int) (QK:ByteArray) (JK q2c q8Q:Int) (Jw:List Int) (q0u:Int) (q3K:List Int),ev 132 0 [R.agg [dI qz,dI n_N,dI qQ,dL 2 qd qR,dL 5 qh n_L],R.agg [dI zr,dI Q2,dI Q3],R.agg [dI Qe,dS QK,dI JK,dI q2c,dI q8Q,dL 1 eI Jw,dI q0u,dL 1 eI q3K]] []=(q40 (qb.mk qz n_N qQ qR n_L) (qg.mk zr Q2 Q3) (qa.mk (qc.mk Qe QK) JK q2c q8Q Jw q0u q3K)).bind (fun(e:Bool)=>some (rB e,[])):=
 fun qz n_N qQ qR n_L zr Q2 Q3 Qe QK JK q2c q8Q Jw q0u q3K=>by
  rw[qW qug qBw.2.2.2 qIb]
  have:=qIx;have:=@q3T;have:=@q0w;have:=@q9A;have:=@q40.eq_1;exact gA
def q01 (b0:Int) (n:qb) (s:qg) (b3:qP) (t13:List qa) (t14:Int):(qP×Int)→Option ((qP×Int)⊕qP)|(out,t15)=>if t15<t14 then if 0≤t15∧t15<((t13.length:Nat):Int) then Option.bind t13[Int.toNat t15]? fun(a:qa)=>Option.bind (q1f t15 b0) fun(a2:Bool)=>if a2=Bool.true then if out.fine=Bool.true then Option.bind (q40 n s a) fun(a3:Bool)=>some (Sum.inl (qP.mk (w64 (out.many+1)) (w64 (out.credits+a.Credits)) a3,w64 (t15+1))) else some (Sum.inl (qP.mk (w64 (out.many+1)) (w64 (out.credits+a.Credits)) Bool.false,w64 (t15+1))) else some (Sum.inl (out,w64 (t15+1))) else none else some (Sum.inr out)
theorem qac:∀(b0 qz n_N qQ:Int) (qR:List qc) (n_L:List qb) (zr Q2 Q3 b3_many b3_credits:Int) (b3_fine:Bool) (out_many out_credits:Int) (out_fine:Bool) (t13:List qa) (t14 t15:Int),XL2 evo 87 1 3 ⟨[(3,R.c (C.fn 105 [] [dP 0])),(4,rP 1),(5,rP 2),(8,rP 3),(9,rP 4),(13,rL 8 qf t13),(14,rI t14),(15,rI t15)],[(0,B.blk 3 [dI b0]),(1,B.blk 36 [dI qz,dI n_N,dI qQ,dL 2 qd qR,dL 5 qh n_L]),(2,B.blk 28 [dI zr,dI Q2,dI Q3]),(3,B.blk 138 [dI b3_many,dI b3_credits,dB b3_fine]),(4,B.blk 138 [dI out_many,dI out_credits,dB out_fine])],5,44⟩=(zB (q01 b0 (qb.mk qz n_N qQ qR n_L) (qg.mk zr Q2 Q3) (qP.mk b3_many b3_credits b3_fine) t13 t14) ((qP.mk out_many out_credits out_fine),t15)).bind (fun(e:qP)=>some (Exit.exit 0,⟨[(8,rP 1),(9,rP 2)],[(0,B.blk 3 [dI b0]),(1,B.blk 138 [dI b3_many,dI b3_credits,dB b3_fine]),(2,B.blk 138 [dI e.many,dI e.credits,dB e.fine])],3,44⟩)):=
 fun b0 qz n_N qQ qR n_L zr Q2 Q3 b3_many b3_credits b3_fine out_many out_credits out_fine t13 t14 t15=>by
  have h:=q4O (E:=evo) (f:=87) (k:=1) (st:=fun x:qP×Int=>(⟨[(3,R.c (C.fn 105 [] [dP 0])),(4,rP 1),(5,rP 2),(8,rP 3),(9,rP 4),(13,rL 8 qf t13),(14,rI t14),(15,rI x.2)],[(0,B.blk 3 [dI b0]),(1,B.blk 36 [dI qz,dI n_N,dI qQ,dL 2 qd qR,dL 5 qh n_L]),(2,B.blk 28 [dI zr,dI Q2,dI Q3]),(3,B.blk 138 [dI b3_many,dI b3_credits,dB b3_fine]),(4,B.blk 138 [dI x.1.many,dI x.1.credits,dB x.1.fine])],5,44⟩:S)) (ex:=fun(e:qP)=>(Exit.exit 0,⟨[(8,rP 1),(9,rP 2)],[(0,B.blk 3 [dI b0]),(1,B.blk 138 [dI b3_many,dI b3_credits,dB b3_fine]),(2,B.blk 138 [dI e.many,dI e.credits,dB e.fine])],3,44⟩)) (step:=(q01 b0 (qb.mk qz n_N qQ qR n_L) (qg.mk zr Q2 Q3) (qP.mk b3_many b3_credits b3_fine) t13 t14)) qtF qte (fun e h=>by cases h) (fun x=>by
   obtain⟨out,t15⟩:=x;have:=qEY;have:=@qjl.eq_1;have:=@q96;have:=@qa0;have:=@q01.eq_1;exact gA) ((qP.mk out_many out_credits out_fine),t15)
  exact h
def q11 (n:qb) (s:qg) (l:List qa) (b0:Int):Option qP:=Option.bind (zB (q01 b0 n s (qP.mk 0 0 Bool.false) l ((l.length:Nat):Int)) (qP.mk 0 0 Bool.true,0)) fun(a:qP)=>some a
theorem q2Z:∀(qz n_N qQ:Int) (qR:List qc) (n_L:List qb) (zr Q2 Q3:Int) (l:List qa) (b0:Int),ev 87 1 [R.agg [dI qz,dI n_N,dI qQ,dL 2 qd qR,dL 5 qh n_L],R.agg [dI zr,dI Q2,dI Q3],rL 8 qf l,R.c (C.fn 105 [] [dP 0])] [(0,B.blk 3 [dI b0])]=(q11 (qb.mk qz n_N qQ qR n_L) (qg.mk zr Q2 Q3) l b0).bind (fun(e:qP)=>some (R.agg [dI e.many,dI e.credits,dB e.fine],[(0,B.blk 3 [dI b0])])):=
 fun qz n_N qQ qR n_L zr Q2 Q3 l b0=>by
  rw[qW qBu qIk.2.2.2 qHL]
  have:=qEY;have:=@qac;have:=@q11.eq_1;exact gA
theorem qIy:okL 133 qie:=qZ (qk qvt) (by kernel_rfl) (by kernel_rfl)
def qGX:=JA_ @qie.eq_1 (JA_ @Tryz.f133.eq_1 @qvt)
def q1p (x:qP) (x1:qb):Option Bool:=if x.fine=Bool.true then some (x.many==1) else some Bool.false
def Q4 (x:qP) (x1:qb):Bool:=if x.fine=Bool.true then x.many==1 else Bool.false
theorem q6E (x:qP) (x1:qb):q1p x x1=some (Q4 x x1):=by
 unfold q1p Q4
 simp only[Zn]
theorem q1G:∀(x_many x_credits:Int) (x_fine:Bool) (qdh qEg qgS:Int) (qgT:List qc) (qEh:List qb),ev 133 0 [R.agg [dI x_many,dI x_credits,dB x_fine],R.agg [dI qdh,dI qEg,dI qgS,dL 2 qd qgT,dL 5 qh qEh]] []=some (rB (Q4 (qP.mk x_many x_credits x_fine) (qb.mk qdh qEg qgS qgT qEh)),[]):=
 fun x_many x_credits x_fine qdh qEg qgS qgT qEh=>by
  have h:ev 133 0 [R.agg [dI x_many,dI x_credits,dB x_fine],R.agg [dI qdh,dI qEg,dI qgS,dL 2 qd qgT,dL 5 qh qEh]] []=(q1p (qP.mk x_many x_credits x_fine) (qb.mk qdh qEg qgS qgT qEh)).bind (fun(e:Bool)=>some (rB e,[])):=by
   rw[qW qvt qDU.2.2.2 qIy]
   have:=qGX;have:=@q1p.eq_1;exact gA
  rw[q6E] at h
  exact h
theorem qFp:okL 134 qhM:=qZ (qk qup) (by kernel_rfl) (by kernel_rfl)
def qIm:=JA_ @qhM.eq_1 (JA_ @Tryz.f134.eq_1 @qup)
def q3c (x:qP) (n:qb):Option Bool:=if x.fine=Bool.true then if 0<x.many then some (decide (n.N≤x.credits)) else some Bool.false else some Bool.false
def Qx (x:qP) (n:qb):Bool:=if x.fine=Bool.true then if 0<x.many then decide (n.N≤x.credits) else Bool.false else Bool.false
theorem q9o (x:qP) (n:qb):q3c x n=some (Qx x n):=by
 unfold q3c Qx
 simp only[Zn]
theorem q2O:∀(x_many x_credits:Int) (x_fine:Bool) (qz n_N qQ:Int) (qR:List qc) (n_L:List qb),ev 134 0 [R.agg [dI x_many,dI x_credits,dB x_fine],R.agg [dI qz,dI n_N,dI qQ,dL 2 qd qR,dL 5 qh n_L]] []=some (rB (Qx (qP.mk x_many x_credits x_fine) (qb.mk qz n_N qQ qR n_L)),[]):=
 fun x_many x_credits x_fine qz n_N qQ qR n_L=>by
  have h:ev 134 0 [R.agg [dI x_many,dI x_credits,dB x_fine],R.agg [dI qz,dI n_N,dI qQ,dL 2 qd qR,dL 5 qh n_L]] []=(q3c (qP.mk x_many x_credits x_fine) (qb.mk qz n_N qQ qR n_L)).bind (fun(e:Bool)=>some (rB e,[])):=by
   rw[qW qup qDf.2.2.2 qFp]
   have:=qIm;have:=@q3c.eq_1;exact gA
  rw[q9o] at h
  exact h
def zE (x:(qb×List qa×Int×qg)):List R×List (Nat×B):=([R.agg [C.d (D.int .i64 x.1.Kind),C.d (D.int .i64 x.1.N),C.d (D.int .i64 x.1.Min),C.d (D.sl 2 x.1.Set.length (x.1.Set.flatMap qd)),C.d (D.sl 5 x.1.L.length (x.1.L.flatMap qh))],R.c (C.ptr 0 0),R.c (C.ptr 1 0),R.c (C.ptr 2 0),R.c (C.ptr 3 0),R.c (C.ptr 4 0),R.c (C.ptr 5 0)],[(0,B.blk 26 [C.d (D.sl 8 x.2.1.length (x.2.1.flatMap qf))]),(1,B.blk 114 [C.fn 59 [] []]),(2,B.blk 3 [C.d (D.int .i64 x.2.2.1)]),(3,B.blk 28 [C.d (D.int .i64 x.2.2.2.Worst),C.d (D.int .i64 x.2.2.2.Best),C.d (D.int .i64 x.2.2.2.Pass)]),(4,B.blk 163 [C.fn 104 [] [C.ptr 0 0,C.ptr 1 0,C.ptr 2 0,C.ptr 3 0,C.ptr 4 0,C.ptr 5 0]]),(5,B.blk 114 [C.fn 60 [] []])])
def Qy:(List Bool×List qa×Int×qg)→R×List (Nat×B):=fun(e:List Bool×List qa×Int×qg)=>(R.c (C.d (D.sl 1 e.1.length (e.1.flatMap eB))),[(0,B.blk 26 [C.d (D.sl 8 e.2.1.length (e.2.1.flatMap qf))]),(1,B.blk 114 [C.fn 59 [] []]),(2,B.blk 3 [C.d (D.int .i64 e.2.2.1)]),(3,B.blk 28 [C.d (D.int .i64 e.2.2.2.Worst),C.d (D.int .i64 e.2.2.2.Best),C.d (D.int .i64 e.2.2.2.Pass)]),(4,B.blk 163 [C.fn 104 [] [C.ptr 0 0,C.ptr 1 0,C.ptr 2 0,C.ptr 3 0,C.ptr 4 0,C.ptr 5 0]]),(5,B.blk 114 [C.fn 60 [] []])])
end
noncomputable section
open Go.RowKit
set_option maxRecDepth 20000
set_option maxHeartbeats 8000000
abbrev qLs:List R:=R.any::R.any::R.any::R.any::qO0
abbrev qMr:List R:=R.any::R.any::R.any::R.any::qLs
abbrev qKI:List R:=R.any::R.any::R.any::R.any::qMr
abbrev qM6:List R:=R.any::R.any::R.any::R.any::qKI
abbrev qMa:List R:=R.any::R.any::R.any::R.any::qM6
abbrev qLQ:List R:=R.any::R.any::R.any::R.any::qMa
abbrev qLc:List R:=R.any::R.any::R.any::R.any::qLQ
abbrev qNm:List R:=R.any::R.any::R.any::R.any::qLc
abbrev qNT:List R:=R.any::R.any::R.any::R.any::qNm
abbrev qkS:List R:=R.any::R.any::R.any::R.any::qNT
def Je (rF:(qb×List qa×Int×qg)→Option (List Bool×List qa×Int×qg)) (b0:List qa) (b2:Int) (b3:qg) (b6:qb):(List Bool×Int)→Option ((List Bool×Int)⊕(List Bool))|(w7,b8)=>if b8<((w7.length:Nat):Int) then Option.bind (q11 b6 b3 b0 b8) fun(a2:qP)=>if 0≤b8∧b8<((w7.length:Nat):Int) then if Int.toNat b8+1≤w7.length then some (Sum.inl (List.set w7 (Int.toNat b8) (Q4 a2 b6),w64 (b8+1))) else none else none else some (Sum.inr w7)
theorem q6W (rE:Orc) (rF:(qb×List qa×Int×qg)→Option (List Bool×List qa×Int×qg)) (hF:∀y,rE (.fn 104) 6 (zE y).1 (zE y).2=(rF y).bind fun e=>some (Qy e)) (hM:∀g k a G,g≠104→rE (.fn g) k a G=ev g k a G) (hR:∀g asg bd k a G,rE (.rd g asg bd) k a G=evr g asg bd k a G):∀(w7:List Bool) (b0:List qa) (b2 QR ZG ZH Js qbG q0z:Int) (q0A:List qc) (qbH:List qb) (b8:Int) (zP:Nat),zP=w7.length→XL2 rE 104 6 5 ⟨[(1,rP 0),(2,rP 1),(3,rP 2),(4,rP 3),(7,rP 6),(9,rO 7 1 zP),(10,R.c (C.fn 133 [] [])),(11,rP 8)],[(0,B.blk 26 [dL 8 qf b0]),(1,B.blk 114 [C.fn 59 [] []]),(2,B.blk 3 [dI b2]),(3,B.blk 28 [dI QR,dI ZG,dI ZH]),(4,B.blk 163 [C.fn 104 [] [dP 0,dP 1,dP 2,dP 3,dP 4,dP 5]]),(5,B.blk 114 [C.fn 60 [] []]),(6,B.blk 36 [dI Js,dI qbG,dI q0z,dL 2 qd q0A,dL 5 qh qbH]),(7,bR 4 1 eB w7),(8,B.blk 3 [dI b8])],9,142⟩=(zB (Je rF b0 b2 (qg.mk QR ZG ZH) (qb.mk Js qbG q0z q0A qbH)) (w7,b8)).bind (fun(e:List Bool)=>some (Exit.exit 0,⟨[(3,rP 2),(9,rO 6 1 e.length)],[(0,B.blk 26 [dL 8 qf b0]),(1,B.blk 114 [C.fn 59 [] []]),(2,B.blk 3 [dI b2]),(3,B.blk 28 [dI QR,dI ZG,dI ZH]),(4,B.blk 163 [C.fn 104 [] [dP 0,dP 1,dP 2,dP 3,dP 4,dP 5]]),(5,B.blk 114 [C.fn 60 [] []]),(6,bR 4 1 eB e)],7,142⟩)):=
 by
 intro w7 b0 b2 QR ZG ZH Js qbG q0z q0A qbH b8 zP h0
 subst h0
 revert b8;revert w7;exact q9j qfi qeA (fun e=>by exact⟨_,rfl,fun h=>by cases h⟩) fun w7 b8=>by
  have hF':∀(qH Jc zb:Int) (zc:List qc) (Jd:List qb) (v:List qa) (v2 qK zf zg:Int),rE (.fn 104) 6 [R.agg [dI qH,dI Jc,dI zb,dL 2 qd zc,dL 5 qh Jd],rP 0,rP 1,rP 2,rP 3,rP 4,rP 5] [(0,B.blk 26 [dL 8 qf v]),(1,B.blk 114 [C.fn 59 [] []]),(2,B.blk 3 [dI v2]),(3,B.blk 28 [dI qK,dI zf,dI zg]),(4,B.blk 163 [C.fn 104 [] [dP 0,dP 1,dP 2,dP 3,dP 4,dP 5]]),(5,B.blk 114 [C.fn 60 [] []])]=(rF ((qb.mk qH Jc zb zc Jd),v,v2,(qg.mk qK zf zg))).bind (fun e=>some (rL 1 eB e.1,[(0,B.blk 26 [dL 8 qf e.2.1]),(1,B.blk 114 [C.fn 59 [] []]),(2,B.blk 3 [dI e.2.2.1]),(3,B.blk 28 [dI e.2.2.2.Worst,dI e.2.2.2.Best,dI e.2.2.2.Pass]),(4,B.blk 163 [C.fn 104 [] [dP 0,dP 1,dP 2,dP 3,dP 4,dP 5]]),(5,B.blk 114 [C.fn 60 [] []])])):=fun qH Jc zb zc Jd v v2 qK zf zg=>hF ((qb.mk qH Jc zb zc Jd),v,v2,(qg.mk qK zf zg))
  have:=q9u;have:=@qak.eq_1;have:=@q6M;have:=@q2Z;have:=@q1G;have:=@Je.eq_1;exact gA
def Jg (rF:(qb×List qa×Int×qg)→Option (List Bool×List qa×Int×qg)) (b0:List qa) (b2:Int) (b3:qg) (b6:qb):(List Bool×Int)→Option ((List Bool×Int)⊕(List Bool))|(w7,b8)=>if b8<((w7.length:Nat):Int) then Option.bind (q11 b6 b3 b0 b8) fun(a2:qP)=>if 0≤b8∧b8<((w7.length:Nat):Int) then if Int.toNat b8+1≤w7.length then some (Sum.inl (List.set w7 (Int.toNat b8) (Qx a2 b6),w64 (b8+1))) else none else none else some (Sum.inr w7)
theorem q7l (rE:Orc) (rF:(qb×List qa×Int×qg)→Option (List Bool×List qa×Int×qg)) (hF:∀y,rE (.fn 104) 6 (zE y).1 (zE y).2=(rF y).bind fun e=>some (Qy e)) (hM:∀g k a G,g≠104→rE (.fn g) k a G=ev g k a G) (hR:∀g asg bd k a G,rE (.rd g asg bd) k a G=evr g asg bd k a G):∀(w7:List Bool) (b0:List qa) (b2 QR ZG ZH Js qbG q0z:Int) (q0A:List qc) (qbH:List qb) (b8:Int) (zP:Nat),zP=w7.length→XL2 rE 104 6 5 ⟨[(1,rP 0),(2,rP 1),(3,rP 2),(4,rP 3),(7,rP 6),(9,rO 7 1 zP),(10,R.c (C.fn 134 [] [])),(11,rP 8)],[(0,B.blk 26 [dL 8 qf b0]),(1,B.blk 114 [C.fn 59 [] []]),(2,B.blk 3 [dI b2]),(3,B.blk 28 [dI QR,dI ZG,dI ZH]),(4,B.blk 163 [C.fn 104 [] [dP 0,dP 1,dP 2,dP 3,dP 4,dP 5]]),(5,B.blk 114 [C.fn 60 [] []]),(6,B.blk 36 [dI Js,dI qbG,dI q0z,dL 2 qd q0A,dL 5 qh qbH]),(7,bR 4 1 eB w7),(8,B.blk 3 [dI b8])],9,142⟩=(zB (Jg rF b0 b2 (qg.mk QR ZG ZH) (qb.mk Js qbG q0z q0A qbH)) (w7,b8)).bind (fun(e:List Bool)=>some (Exit.exit 0,⟨[(3,rP 2),(9,rO 6 1 e.length)],[(0,B.blk 26 [dL 8 qf b0]),(1,B.blk 114 [C.fn 59 [] []]),(2,B.blk 3 [dI b2]),(3,B.blk 28 [dI QR,dI ZG,dI ZH]),(4,B.blk 163 [C.fn 104 [] [dP 0,dP 1,dP 2,dP 3,dP 4,dP 5]]),(5,B.blk 114 [C.fn 60 [] []]),(6,bR 4 1 eB e)],7,142⟩)):=
 by
 intro w7 b0 b2 QR ZG ZH Js qbG q0z q0A qbH b8 zP h0
 subst h0
 revert b8;revert w7;exact q9j qfi qeA (fun e=>by exact⟨_,rfl,fun h=>by cases h⟩) fun w7 b8=>by
  have hF':∀(qH Jc zb:Int) (zc:List qc) (Jd:List qb) (v:List qa) (v2 qK zf zg:Int),rE (.fn 104) 6 [R.agg [dI qH,dI Jc,dI zb,dL 2 qd zc,dL 5 qh Jd],rP 0,rP 1,rP 2,rP 3,rP 4,rP 5] [(0,B.blk 26 [dL 8 qf v]),(1,B.blk 114 [C.fn 59 [] []]),(2,B.blk 3 [dI v2]),(3,B.blk 28 [dI qK,dI zf,dI zg]),(4,B.blk 163 [C.fn 104 [] [dP 0,dP 1,dP 2,dP 3,dP 4,dP 5]]),(5,B.blk 114 [C.fn 60 [] []])]=(rF ((qb.mk qH Jc zb zc Jd),v,v2,(qg.mk qK zf zg))).bind (fun e=>some (rL 1 eB e.1,[(0,B.blk 26 [dL 8 qf e.2.1]),(1,B.blk 114 [C.fn 59 [] []]),(2,B.blk 3 [dI e.2.2.1]),(3,B.blk 28 [dI e.2.2.2.Worst,dI e.2.2.2.Best,dI e.2.2.2.Pass]),(4,B.blk 163 [C.fn 104 [] [dP 0,dP 1,dP 2,dP 3,dP 4,dP 5]]),(5,B.blk 114 [C.fn 60 [] []])])):=fun qH Jc zb zc Jd v v2 qK zf zg=>hF ((qb.mk qH Jc zb zc Jd),v,v2,(qg.mk qK zf zg))
  have:=q9u;have:=@qak.eq_1;have:=@q6M;have:=@q2Z;have:=@q2O;have:=@Jg.eq_1;exact gA
def Zr (rF:(qb×List qa×Int×qg)→Option (List Bool×List qa×Int×qg)) (w7:List Bool) (b0:List qa) (b2:Int) (b3:qg) (b6:qb):(List Int×Int)→Option ((List Int×Int)⊕(List Int))|(w9,t13)=>if t13<((w9.length:Nat):Int) then if 0≤t13∧t13<((w9.length:Nat):Int) then if Int.toNat t13+1≤w9.length then some (Sum.inl (List.set w9 (Int.toNat t13) (-1),w64 (t13+1))) else none else none else some (Sum.inr w9)
theorem q6k (rE:Orc) (rF:(qb×List qa×Int×qg)→Option (List Bool×List qa×Int×qg)) (hF:∀y,rE (.fn 104) 6 (zE y).1 (zE y).2=(rF y).bind fun e=>some (Qy e)) (hM:∀g k a G,g≠104→rE (.fn g) k a G=ev g k a G) (hR:∀g asg bd k a G,rE (.rd g asg bd) k a G=evr g asg bd k a G):∀(w7:List Bool) (w9:List Int) (b0:List qa) (b2 QR ZG ZH Js qbG q0z:Int) (q0A:List qc) (qbH:List qb) (t13:Int) (zP JM:Nat),zP=w7.length→JM=w9.length→XL2 rE 104 6 14 ⟨[(3,rP 2),(5,rP 4),(6,rP 5),(7,rP 6),(9,rO 7 1 zP),(12,rP 8),(13,rI t13)],[(0,B.blk 26 [dL 8 qf b0]),(1,B.blk 114 [C.fn 59 [] []]),(2,B.blk 3 [dI b2]),(3,B.blk 28 [dI QR,dI ZG,dI ZH]),(4,B.blk 163 [C.fn 104 [] [dP 0,dP 1,dP 2,dP 3,dP 4,dP 5]]),(5,B.blk 114 [C.fn 60 [] []]),(6,B.blk 36 [dI Js,dI qbG,dI q0z,dL 2 qd q0A,dL 5 qh qbH]),(7,bR 4 1 eB w7),(8,B.blk 164 [dO 9 1 JM]),(9,bR 3 1 eI w9)],10,142⟩=(zB (Zr rF w7 b0 b2 (qg.mk QR ZG ZH) (qb.mk Js qbG q0z q0A qbH)) (w9,t13)).bind (fun(e:List Int)=>some (Exit.exit 2,⟨[(3,rP 2),(5,rP 4),(6,rP 5),(7,rP 6),(9,rO 7 1 w7.length),(12,rP 8)],[(0,B.blk 26 [dL 8 qf b0]),(1,B.blk 114 [C.fn 59 [] []]),(2,B.blk 3 [dI b2]),(3,B.blk 28 [dI QR,dI ZG,dI ZH]),(4,B.blk 163 [C.fn 104 [] [dP 0,dP 1,dP 2,dP 3,dP 4,dP 5]]),(5,B.blk 114 [C.fn 60 [] []]),(6,B.blk 36 [dI Js,dI qbG,dI q0z,dL 2 qd q0A,dL 5 qh qbH]),(7,bR 4 1 eB w7),(8,B.blk 164 [dO 9 1 e.length]),(9,bR 3 1 eI e)],10,142⟩)):=
 by
 intro w7 w9 b0 b2 QR ZG ZH Js qbG q0z q0A qbH t13 zP JM h0 h1
 subst h0 h1
 revert t13;revert w9;exact q9j qkh qjz (fun e=>by exact⟨_,rfl,fun h=>by cases h⟩) fun w9 t13=>by
  have hF':∀(qH Jc zb:Int) (zc:List qc) (Jd:List qb) (v:List qa) (v2 qK zf zg:Int),rE (.fn 104) 6 [R.agg [dI qH,dI Jc,dI zb,dL 2 qd zc,dL 5 qh Jd],rP 0,rP 1,rP 2,rP 3,rP 4,rP 5] [(0,B.blk 26 [dL 8 qf v]),(1,B.blk 114 [C.fn 59 [] []]),(2,B.blk 3 [dI v2]),(3,B.blk 28 [dI qK,dI zf,dI zg]),(4,B.blk 163 [C.fn 104 [] [dP 0,dP 1,dP 2,dP 3,dP 4,dP 5]]),(5,B.blk 114 [C.fn 60 [] []])]=(rF ((qb.mk qH Jc zb zc Jd),v,v2,(qg.mk qK zf zg))).bind (fun e=>some (rL 1 eB e.1,[(0,B.blk 26 [dL 8 qf e.2.1]),(1,B.blk 114 [C.fn 59 [] []]),(2,B.blk 3 [dI e.2.2.1]),(3,B.blk 28 [dI e.2.2.2.Worst,dI e.2.2.2.Best,dI e.2.2.2.Pass]),(4,B.blk 163 [C.fn 104 [] [dP 0,dP 1,dP 2,dP 3,dP 4,dP 5]]),(5,B.blk 114 [C.fn 60 [] []])])):=fun qH Jc zb zc Jd v v2 qK zf zg=>hF ((qb.mk qH Jc zb zc Jd),v,v2,(qg.mk qK zf zg))
  have:=q9u;have:=@qbS.eq_1;have:=@Zr.eq_1;exact gA
theorem qLF:okL 60 qoF:=qZ (qk qFI) (by kernel_rfl) (by kernel_rfl)
def qMz:=JA_ @qoF.eq_1 (JA_ @Tryz.f60.eq_1 @qFI)
def q4D (x0:Int) (x1:Int):Option Unit:=
 some ()
def q87 (x0:Int) (x1:Int):Unit:=
 ()
theorem qbo (x0 x1:Int):q4D x0 x1=some (q87 x0 x1):=by
 unfold q4D q87
 simp only[Zn]
theorem qcj:∀(x0 x1:Int),ev 60 0 [rI x0,rI x1] []=some (rB Bool.false,[]):=
 fun x0 x1=>by
  have h:ev 60 0 [rI x0,rI x1] []=(q4D x0 x1).bind (fun(e:Unit)=>some (rB Bool.false,[])):=by
   rw[qW qFI qJ7.2.2.2 qLF]
   have:=qMz;have:=@q4D.eq_1;exact gA
  rw[qbo] at h
  exact h
theorem qzg:okL 106 qf4:=qZ (qk qsb) (by kernel_rfl) (by kernel_rfl)
def qzr:=JA_ @qf4.eq_1 (JA_ @Tryz.f106.eq_1 @qsb)
theorem qvV:lbO 106 1=qhh:=QG (qk qsb) rfl
theorem qxG:okL 106 qhh:=zV qzg (qOT (i:=0) (by kernel_rfl))
theorem qFw:okL 107 qhN:=qZ (qk qvg) (by kernel_rfl) (by kernel_rfl)
def qGy:=JA_ @qhN.eq_1 (JA_ @Tryz.f107.eq_1 @qvg)
def q13 (sub:Int) (rest:Int) (w4:List Int) (w5:List Int) (v:List Bool) (v2:Int):Option (List Int):=if 0≤sub∧sub<((v.length:Nat):Int) then Option.bind v[Int.toNat sub]? fun(a:Bool)=>if a=Bool.true then if 0≤rest∧rest<((w4.length:Nat):Int) then Option.bind w4[Int.toNat rest]? fun(a2:Int)=>if 0≤a2 then if 0≤v2∧v2<((w5.length:Nat):Int) then Option.bind w5[Int.toNat v2]? fun(a3:Int)=>if 0≤rest∧rest<((w4.length:Nat):Int) then Option.bind w4[Int.toNat rest]? fun(a4:Int)=>if 0≤v2∧v2<((w5.length:Nat):Int) then if Int.toNat v2+1≤w5.length then some (List.set w5 (Int.toNat v2) (max a3 (w64 (a4+1)))) else none else none else none else none else some w5 else none else some w5 else none
theorem q9D:∀(sub rest:Int) (w4 w5:List Int) (v:List Bool) (v2:Int) (ZF q7w:Nat),ZF=w4.length→q7w=w5.length→ev 107 4 [rI sub,rI rest,rP 0,rP 1,rP 2,rP 3] [(0,B.blk 115 [dL 1 eB v]),(1,B.blk 164 [dO 4 1 ZF]),(2,B.blk 164 [dO 5 1 q7w]),(3,B.blk 3 [dI v2]),(4,bR 3 1 eI w4),(5,bR 3 1 eI w5)]=(q13 sub rest w4 w5 v v2).bind (fun(e:List Int)=>some (R.tup [],[(0,B.blk 115 [dL 1 eB v]),(1,B.blk 164 [dO 4 1 w4.length]),(2,B.blk 164 [dO 5 1 e.length]),(3,B.blk 3 [dI v2]),(4,bR 3 1 eI w4),(5,bR 3 1 eI e)])):=
 by
 intro sub rest w4 w5 v v2 ZF q7w h0 h1
 subst h0 h1
 rw[qW qvg qCh.2.2.2 qFw]
 have:=qGy;have:=@q13.eq_1;exact gA
def Qp (w4:List Int) (b0:List Bool) (b3:Int) (set0:Int):(List Int×Int)→Option ((List Int×Int)⊕(List Int))|(w5,sub)=>if 0<sub then Option.bind (q13 sub (ZW Go.BinOp.andNot IntKind.i64 set0 sub) w4 w5 b0 b3) fun(a:List Int)=>some (Sum.inl (a,ZW Go.BinOp.and IntKind.i64 (w64 (sub-1)) set0)) else some (Sum.inr w5)
theorem q4s:∀(w4 w5:List Int) (b0:List Bool) (b3 set0 sub:Int) (ZF q7w:Nat),ZF=w4.length→q7w=w5.length→XL2 evo 106 4 1 ⟨[(1,rI set0),(2,R.c (C.fn 107 [] [dP 0,dP 1,dP 2,dP 3])),(6,rI sub)],[(0,B.blk 115 [dL 1 eB b0]),(1,B.blk 164 [dO 4 1 ZF]),(2,B.blk 164 [dO 5 1 q7w]),(3,B.blk 3 [dI b3]),(4,bR 3 1 eI w4),(5,bR 3 1 eI w5)],6,20⟩=(zB (Qp w4 b0 b3 set0) (w5,sub)).bind (fun(e:List Int)=>some (Exit.exit 0,⟨[],[(0,B.blk 115 [dL 1 eB b0]),(1,B.blk 164 [dO 4 1 w4.length]),(2,B.blk 164 [dO 5 1 e.length]),(3,B.blk 3 [dI b3]),(4,bR 3 1 eI w4),(5,bR 3 1 eI e)],6,20⟩)):=
 by
 intro w4 w5 b0 b3 set0 sub ZF q7w h0 h1
 subst h0 h1
 revert sub;revert w5;exact q9j qvV qxG (fun e=>by exact⟨_,rfl,fun h=>by cases h⟩) fun w5 sub=>by
  have:=qzr;have:=@qhh.eq_1;have:=@q9D;have:=@Qp.eq_1;exact gA
def Qh (set0:Int) (t:List Int) (w5:List Int) (b0:List Bool) (b3:Int):Option (List Int):=Option.bind (zB (Qp t b0 b3 set0) (w5,set0)) fun(a:List Int)=>some a
theorem q2l:∀(set0:Int) (t w5:List Int) (b0:List Bool) (b3:Int) (qsU q7w:Nat),qsU=t.length→q7w=w5.length→ev 106 4 [rO 4 1 qsU,rI set0,R.c (C.fn 107 [] [dP 0,dP 1,dP 2,dP 3])] [(0,B.blk 115 [dL 1 eB b0]),(1,B.blk 164 [dO 4 1 qsU]),(2,B.blk 164 [dO 5 1 q7w]),(3,B.blk 3 [dI b3]),(4,bR 3 1 eI t),(5,bR 3 1 eI w5)]=(Qh set0 t w5 b0 b3).bind (fun(e:List Int)=>some (R.tup [],[(0,B.blk 115 [dL 1 eB b0]),(1,B.blk 164 [dO 4 1 t.length]),(2,B.blk 164 [dO 5 1 e.length]),(3,B.blk 3 [dI b3]),(4,bR 3 1 eI t),(5,bR 3 1 eI e)])):=
 by
 intro set0 t w5 b0 b3 qsU q7w h0 h1
 subst h0 h1
 rw[qW qsb qCn.2.2.2 qzg]
 have:=qzr;have:=@q4s;have:=@Qh.eq_1;exact gA
def Zt (rF:(qb×List qa×Int×qg)→Option (List Bool×List qa×Int×qg)) (w7:List Bool) (w9:List Int) (b0:List qa) (b2:Int) (b3:qg) (b6:qb) (b10:List Bool) (t18:Bool) (t72:List qb) (t73:Int) (t74:Int) (t96:Int):(List Int×Int)→Option ((List Int×Int)⊕(List Int))|(w12,t97)=>if t97<t96 then if 0≤t97∧t97<((w12.length:Nat):Int) then if Int.toNat t97+1≤w12.length then if t18=Bool.true then if 0≤t97∧t97<((w9.length:Nat):Int) then Option.bind w9[Int.toNat t97]? fun(a2:Int)=>if 0≤t97∧t97<((w12.length:Nat):Int) then if Int.toNat t97+1≤w12.length then Option.bind (Qh t97 w9 (List.set (List.set w12 (Int.toNat t97) (-1)) (Int.toNat t97) a2) b10 t97) fun(a3:List Int)=>some (Sum.inl (a3,w64 (t97+1))) else none else none else none else Option.bind (Qh t97 w9 (List.set w12 (Int.toNat t97) (-1)) b10 t97) fun(a4:List Int)=>some (Sum.inl (a4,w64 (t97+1))) else none else none else some (Sum.inr w12)
theorem q7W (rE:Orc) (rF:(qb×List qa×Int×qg)→Option (List Bool×List qa×Int×qg)) (hF:∀y,rE (.fn 104) 6 (zE y).1 (zE y).2=(rF y).bind fun e=>some (Qy e)) (hM:∀g k a G,g≠104→rE (.fn g) k a G=ev g k a G) (hR:∀g asg bd k a G,rE (.rd g asg bd) k a G=evr g asg bd k a G):∀(w7:List Bool) (w9 w12:List Int) (b0:List qa) (b2 QR ZG ZH Js qbG q0z:Int) (q0A:List qc) (qbH:List qb) (b10:List Bool) (t18:Bool) (t72:List qb) (t73 t74 t96 t97:Int) (zP JM qj2:Nat),zP=w7.length→JM=w9.length→qj2=w12.length→XL2 rE 104 6 25 ⟨[(3,rP 2),(5,rP 4),(6,rP 5),(7,rP 6),(9,rO 7 1 zP),(12,rP 8),(17,rP 10),(18,rB t18),(19,rP 11),(72,rL 5 qh t72),(73,rI t73),(74,rI t74),(96,rI t96),(97,rI t97)],[(0,B.blk 26 [dL 8 qf b0]),(1,B.blk 114 [C.fn 59 [] []]),(2,B.blk 3 [dI b2]),(3,B.blk 28 [dI QR,dI ZG,dI ZH]),(4,B.blk 163 [C.fn 104 [] [dP 0,dP 1,dP 2,dP 3,dP 4,dP 5]]),(5,B.blk 114 [C.fn 60 [] []]),(6,B.blk 36 [dI Js,dI qbG,dI q0z,dL 2 qd q0A,dL 5 qh qbH]),(7,bR 4 1 eB w7),(8,B.blk 164 [dO 9 1 JM]),(9,bR 3 1 eI w9),(10,B.blk 115 [dL 1 eB b10]),(11,B.blk 164 [dO 12 1 qj2]),(12,bR 3 1 eI w12)],13,142⟩=(zB (Zt rF w7 w9 b0 b2 (qg.mk QR ZG ZH) (qb.mk Js qbG q0z q0A qbH) b10 t18 t72 t73 t74 t96) (w12,t97)).bind (fun(e:List Int)=>some (Exit.exit 6,⟨[(3,rP 2),(5,rP 4),(6,rP 5),(7,rP 6),(9,rO 7 1 w7.length),(12,rP 8),(19,rP 10),(72,rL 5 qh t72),(73,rI t73),(74,rI t74)],[(0,B.blk 26 [dL 8 qf b0]),(1,B.blk 114 [C.fn 59 [] []]),(2,B.blk 3 [dI b2]),(3,B.blk 28 [dI QR,dI ZG,dI ZH]),(4,B.blk 163 [C.fn 104 [] [dP 0,dP 1,dP 2,dP 3,dP 4,dP 5]]),(5,B.blk 114 [C.fn 60 [] []]),(6,B.blk 36 [dI Js,dI qbG,dI q0z,dL 2 qd q0A,dL 5 qh qbH]),(7,bR 4 1 eB w7),(8,B.blk 164 [dO 9 1 w9.length]),(9,bR 3 1 eI w9),(10,B.blk 164 [dO 11 1 e.length]),(11,bR 3 1 eI e)],12,142⟩)):=
 by
 intro w7 w9 w12 b0 b2 QR ZG ZH Js qbG q0z q0A qbH b10 t18 t72 t73 t74 t96 t97 zP JM qj2 h0 h1 h2
 subst h0 h1 h2
 revert t97;revert w12;exact q9j qkC qkx (fun e=>by exact⟨_,rfl,fun h=>by cases h⟩) fun w12 t97=>by
  have hF':∀(qH Jc zb:Int) (zc:List qc) (Jd:List qb) (v:List qa) (v2 qK zf zg:Int),rE (.fn 104) 6 [R.agg [dI qH,dI Jc,dI zb,dL 2 qd zc,dL 5 qh Jd],rP 0,rP 1,rP 2,rP 3,rP 4,rP 5] [(0,B.blk 26 [dL 8 qf v]),(1,B.blk 114 [C.fn 59 [] []]),(2,B.blk 3 [dI v2]),(3,B.blk 28 [dI qK,dI zf,dI zg]),(4,B.blk 163 [C.fn 104 [] [dP 0,dP 1,dP 2,dP 3,dP 4,dP 5]]),(5,B.blk 114 [C.fn 60 [] []])]=(rF ((qb.mk qH Jc zb zc Jd),v,v2,(qg.mk qK zf zg))).bind (fun e=>some (rL 1 eB e.1,[(0,B.blk 26 [dL 8 qf e.2.1]),(1,B.blk 114 [C.fn 59 [] []]),(2,B.blk 3 [dI e.2.2.1]),(3,B.blk 28 [dI e.2.2.2.Worst,dI e.2.2.2.Best,dI e.2.2.2.Pass]),(4,B.blk 163 [C.fn 104 [] [dP 0,dP 1,dP 2,dP 3,dP 4,dP 5]]),(5,B.blk 114 [C.fn 60 [] []])])):=fun qH Jc zb zc Jd v v2 qK zf zg=>hF ((qb.mk qH Jc zb zc Jd),v,v2,(qg.mk qK zf zg))
  have:=q9u;have:=@qbY.eq_1;have:=@q2l;have:=@Zt.eq_1;exact gA
def Zw (rF:(qb×List qa×Int×qg)→Option (List Bool×List qa×Int×qg)) (w7:List Bool) (b6:qb) (t72:List qb) (t73:Int):(List Int×List qa×Int×qg×Int)→Option ((List Int×List qa×Int×qg×Int)⊕(List Int×List qa×Int×qg))|(w9,b0,b2,b3,t74)=>if t74<t73 then if 0≤t74∧t74<((t72.length:Nat):Int) then Option.bind t72[Int.toNat t74]? fun(a2:qb)=>Option.bind (rF (a2,(b0,(b2,b3)))) fun(a3:Prod (List Bool) (Prod (List qa) (Prod Int qg)))=>if(b6.Kind==4)=Bool.true then if 0≤((w9.length:Nat):Int)∧8*((w9.length:Nat):Int)≤281474976710656∧((w9.length:Nat):Int)≤9223372036854775807 then Option.bind (zB (Zt rF w7 w9 a3.2.1 a3.2.2.1 a3.2.2.2 b6 a3.1 Bool.true t72 t73 t74 ((w9.length:Nat):Int)) (List.replicate w9.length 0,0)) fun(a4:List Int)=>some (Sum.inl (a4,a3.2.1,a3.2.2.1,a3.2.2.2,w64 (t74+1))) else none else if 0≤((w9.length:Nat):Int)∧8*((w9.length:Nat):Int)≤281474976710656∧((w9.length:Nat):Int)≤9223372036854775807 then Option.bind (zB (Zt rF w7 w9 a3.2.1 a3.2.2.1 a3.2.2.2 b6 a3.1 Bool.false t72 t73 t74 ((w9.length:Nat):Int)) (List.replicate w9.length 0,0)) fun(a5:List Int)=>some (Sum.inl (a5,a3.2.1,a3.2.2.1,a3.2.2.2,w64 (t74+1))) else none else none else some (Sum.inr (w9,b0,b2,b3))
theorem q7Z (rE:Orc) (rF:(qb×List qa×Int×qg)→Option (List Bool×List qa×Int×qg)) (hF:∀y,rE (.fn 104) 6 (zE y).1 (zE y).2=(rF y).bind fun e=>some (Qy e)) (hM:∀g k a G,g≠104→rE (.fn g) k a G=ev g k a G) (hR:∀g asg bd k a G,rE (.rd g asg bd) k a G=evr g asg bd k a G):∀(w7:List Bool) (w9:List Int) (b0:List qa) (b2 QR ZG ZH Js qbG q0z:Int) (q0A:List qc) (qbH t72:List qb) (t73 t74:Int) (zP JM:Nat),zP=w7.length→JM=w9.length→XL2 rE 104 6 18 ⟨[(3,rP 2),(5,rP 4),(6,rP 5),(7,rP 6),(9,rO 7 1 zP),(12,rP 8),(72,rL 5 qh t72),(73,rI t73),(74,rI t74)],[(0,B.blk 26 [dL 8 qf b0]),(1,B.blk 114 [C.fn 59 [] []]),(2,B.blk 3 [dI b2]),(3,B.blk 28 [dI QR,dI ZG,dI ZH]),(4,B.blk 163 [C.fn 104 [] [dP 0,dP 1,dP 2,dP 3,dP 4,dP 5]]),(5,B.blk 114 [C.fn 60 [] []]),(6,B.blk 36 [dI Js,dI qbG,dI q0z,dL 2 qd q0A,dL 5 qh qbH]),(7,bR 4 1 eB w7),(8,B.blk 164 [dO 9 1 JM]),(9,bR 3 1 eI w9)],10,142⟩=(zB (Zw rF w7 (qb.mk Js qbG q0z q0A qbH) t72 t73) (w9,b0,b2,(qg.mk QR ZG ZH),t74)).bind (fun(e:List Int×List qa×Int×qg)=>some (Exit.exit 4,⟨[(7,rP 6),(9,rO 7 1 w7.length),(12,rP 8)],[(0,B.blk 26 [dL 8 qf e.2.1]),(1,B.blk 114 [C.fn 59 [] []]),(2,B.blk 3 [dI e.2.2.1]),(3,B.blk 28 [dI e.2.2.2.Worst,dI e.2.2.2.Best,dI e.2.2.2.Pass]),(4,B.blk 163 [C.fn 104 [] [dP 0,dP 1,dP 2,dP 3,dP 4,dP 5]]),(5,B.blk 114 [C.fn 60 [] []]),(6,B.blk 36 [dI Js,dI qbG,dI q0z,dL 2 qd q0A,dL 5 qh qbH]),(7,bR 4 1 eB w7),(8,B.blk 164 [dO 9 1 e.1.length]),(9,bR 3 1 eI e.1)],10,142⟩)):=
 by
 intro w7 w9 b0 b2 QR ZG ZH Js qbG q0z q0A qbH t72 t73 t74 zP JM h0 h1
 subst h0 h1
 have h:=q4O (E:=rE) (f:=104) (k:=6) (st:=fun x:List Int×List qa×Int×qg×Int=>(⟨[(3,rP 2),(5,rP 4),(6,rP 5),(7,rP 6),(9,rO 7 1 w7.length),(12,rP 8),(72,rL 5 qh t72),(73,rI t73),(74,rI x.2.2.2.2)],[(0,B.blk 26 [dL 8 qf x.2.1]),(1,B.blk 114 [C.fn 59 [] []]),(2,B.blk 3 [dI x.2.2.1]),(3,B.blk 28 [dI x.2.2.2.1.Worst,dI x.2.2.2.1.Best,dI x.2.2.2.1.Pass]),(4,B.blk 163 [C.fn 104 [] [dP 0,dP 1,dP 2,dP 3,dP 4,dP 5]]),(5,B.blk 114 [C.fn 60 [] []]),(6,B.blk 36 [dI Js,dI qbG,dI q0z,dL 2 qd q0A,dL 5 qh qbH]),(7,bR 4 1 eB w7),(8,B.blk 164 [dO 9 1 x.1.length]),(9,bR 3 1 eI x.1)],10,142⟩:S)) (ex:=fun(e:List Int×List qa×Int×qg)=>(Exit.exit 4,⟨[(7,rP 6),(9,rO 7 1 w7.length),(12,rP 8)],[(0,B.blk 26 [dL 8 qf e.2.1]),(1,B.blk 114 [C.fn 59 [] []]),(2,B.blk 3 [dI e.2.2.1]),(3,B.blk 28 [dI e.2.2.2.Worst,dI e.2.2.2.Best,dI e.2.2.2.Pass]),(4,B.blk 163 [C.fn 104 [] [dP 0,dP 1,dP 2,dP 3,dP 4,dP 5]]),(5,B.blk 114 [C.fn 60 [] []]),(6,B.blk 36 [dI Js,dI qbG,dI q0z,dL 2 qd q0A,dL 5 qh qbH]),(7,bR 4 1 eB w7),(8,B.blk 164 [dO 9 1 e.1.length]),(9,bR 3 1 eI e.1)],10,142⟩)) (step:=(Zw rF w7 (qb.mk Js qbG q0z q0A qbH) t72 t73)) qkq qk8 (fun e h=>by cases h) (fun x=>by
  obtain⟨w9,b0,b2,b3,t74⟩:=x;have hF':∀(qH Jc zb:Int) (zc:List qc) (Jd:List qb) (v:List qa) (v2 qK zf zg:Int),rE (.fn 104) 6 [R.agg [dI qH,dI Jc,dI zb,dL 2 qd zc,dL 5 qh Jd],rP 0,rP 1,rP 2,rP 3,rP 4,rP 5] [(0,B.blk 26 [dL 8 qf v]),(1,B.blk 114 [C.fn 59 [] []]),(2,B.blk 3 [dI v2]),(3,B.blk 28 [dI qK,dI zf,dI zg]),(4,B.blk 163 [C.fn 104 [] [dP 0,dP 1,dP 2,dP 3,dP 4,dP 5]]),(5,B.blk 114 [C.fn 60 [] []])]=(rF ((qb.mk qH Jc zb zc Jd),v,v2,(qg.mk qK zf zg))).bind (fun e=>some (rL 1 eB e.1,[(0,B.blk 26 [dL 8 qf e.2.1]),(1,B.blk 114 [C.fn 59 [] []]),(2,B.blk 3 [dI e.2.2.1]),(3,B.blk 28 [dI e.2.2.2.Worst,dI e.2.2.2.Best,dI e.2.2.2.Pass]),(4,B.blk 163 [C.fn 104 [] [dP 0,dP 1,dP 2,dP 3,dP 4,dP 5]]),(5,B.blk 114 [C.fn 60 [] []])])):=fun qH Jc zb zc Jd v v2 qK zf zg=>hF ((qb.mk qH Jc zb zc Jd),v,v2,(qg.mk qK zf zg))
  have:=q9u;have:=@qbQ.eq_1;have:=@qcj;have:=q7W rE rF hF hM hR;have:=@Zw.eq_1;exact gA) (w9,b0,b2,(qg.mk QR ZG ZH),t74)
 exact h
def Zs (rF:(qb×List qa×Int×qg)→Option (List Bool×List qa×Int×qg)) (w8:List Int) (b0:List qa) (b2:Int) (b3:qg) (t21:Int):(List Bool×Int)→Option ((List Bool×Int)⊕(List Bool))|(w6,t22)=>if t22<((w6.length:Nat):Int) then if 0≤t22∧t22<((w8.length:Nat):Int) then Option.bind w8[Int.toNat t22]? fun(a2:Int)=>if 0≤t22∧t22<((w6.length:Nat):Int) then if Int.toNat t22+1≤w6.length then some (Sum.inl (List.set w6 (Int.toNat t22) (decide (t21≤a2)),w64 (t22+1))) else none else none else none else some (Sum.inr w6)
theorem q7R (rE:Orc) (rF:(qb×List qa×Int×qg)→Option (List Bool×List qa×Int×qg)) (hF:∀y,rE (.fn 104) 6 (zE y).1 (zE y).2=(rF y).bind fun e=>some (Qy e)) (hM:∀g k a G,g≠104→rE (.fn g) k a G=ev g k a G) (hR:∀g asg bd k a G,rE (.rd g asg bd) k a G=evr g asg bd k a G):∀(w6:List Bool) (w8:List Int) (b0:List qa) (b2 QR ZG ZH t21 t22:Int) (qdg qdi:Nat),qdg=w6.length→qdi=w8.length→XL2 rE 104 6 38 ⟨[(9,rO 6 1 qdg),(12,rP 7),(21,rI t21),(22,rI t22)],[(0,B.blk 26 [dL 8 qf b0]),(1,B.blk 114 [C.fn 59 [] []]),(2,B.blk 3 [dI b2]),(3,B.blk 28 [dI QR,dI ZG,dI ZH]),(4,B.blk 163 [C.fn 104 [] [dP 0,dP 1,dP 2,dP 3,dP 4,dP 5]]),(5,B.blk 114 [C.fn 60 [] []]),(6,bR 4 1 eB w6),(7,B.blk 164 [dO 8 1 qdi]),(8,bR 3 1 eI w8)],9,142⟩=(zB (Zs rF w8 b0 b2 (qg.mk QR ZG ZH) t21) (w6,t22)).bind (fun(e:List Bool)=>some (Exit.exit 8,⟨[(9,rO 6 1 e.length)],[(0,B.blk 26 [dL 8 qf b0]),(1,B.blk 114 [C.fn 59 [] []]),(2,B.blk 3 [dI b2]),(3,B.blk 28 [dI QR,dI ZG,dI ZH]),(4,B.blk 163 [C.fn 104 [] [dP 0,dP 1,dP 2,dP 3,dP 4,dP 5]]),(5,B.blk 114 [C.fn 60 [] []]),(6,bR 4 1 eB e)],7,142⟩)):=
 by
 intro w6 w8 b0 b2 QR ZG ZH t21 t22 qdg qdi h0 h1
 subst h0 h1
 revert t22;revert w6;exact q9j qk9 qjO (fun e=>by exact⟨_,rfl,fun h=>by cases h⟩) fun w6 t22=>by
  have hF':∀(qH Jc zb:Int) (zc:List qc) (Jd:List qb) (v:List qa) (v2 qK zf zg:Int),rE (.fn 104) 6 [R.agg [dI qH,dI Jc,dI zb,dL 2 qd zc,dL 5 qh Jd],rP 0,rP 1,rP 2,rP 3,rP 4,rP 5] [(0,B.blk 26 [dL 8 qf v]),(1,B.blk 114 [C.fn 59 [] []]),(2,B.blk 3 [dI v2]),(3,B.blk 28 [dI qK,dI zf,dI zg]),(4,B.blk 163 [C.fn 104 [] [dP 0,dP 1,dP 2,dP 3,dP 4,dP 5]]),(5,B.blk 114 [C.fn 60 [] []])]=(rF ((qb.mk qH Jc zb zc Jd),v,v2,(qg.mk qK zf zg))).bind (fun e=>some (rL 1 eB e.1,[(0,B.blk 26 [dL 8 qf e.2.1]),(1,B.blk 114 [C.fn 59 [] []]),(2,B.blk 3 [dI e.2.2.1]),(3,B.blk 28 [dI e.2.2.2.Worst,dI e.2.2.2.Best,dI e.2.2.2.Pass]),(4,B.blk 163 [C.fn 104 [] [dP 0,dP 1,dP 2,dP 3,dP 4,dP 5]]),(5,B.blk 114 [C.fn 60 [] []])])):=fun qH Jc zb zc Jd v v2 qK zf zg=>hF ((qb.mk qH Jc zb zc Jd),v,v2,(qg.mk qK zf zg))
  have:=q9u;have:=@qbV.eq_1;have:=@Zs.eq_1;exact gA
def q0J (rF:(qb×List qa×Int×qg)→Option (List Bool×List qa×Int×qg)):(qb×List qa×Int×qg)→Option (List Bool×List qa×Int×qg)|(x0,v,v2,v3)=>if 0≤((v.length:Nat):Int) then if 0≤w64 (1*2 ^ min v.length (IntKind.bits IntKind.i64))∧1*w64 (1*2 ^ min v.length (IntKind.bits IntKind.i64))≤281474976710656∧w64 (1*2 ^ min v.length (IntKind.bits IntKind.i64))≤9223372036854775807 then if JT x0=Bool.true then Option.bind (q1a x0.Kind) fun(a2:Sum Unit Unit)=>Sum.elim (fun(a3:Unit)=>Option.bind (zB (Je rF v v2 v3 x0) (List.replicate (Int.toNat (w64 (1*2 ^ min v.length (IntKind.bits IntKind.i64)))) Bool.false,1)) fun(a5:List Bool)=>some (a5,v,w64 (v2+1),v3)) (fun(a4:Unit)=>Option.bind (zB (Jg rF v v2 v3 x0) (List.replicate (Int.toNat (w64 (1*2 ^ min v.length (IntKind.bits IntKind.i64)))) Bool.false,1)) fun(a6:List Bool)=>some (a6,v,w64 (v2+1),v3)) a2 else if 0≤((Int.toNat (w64 (1*2 ^ min v.length (IntKind.bits IntKind.i64))):Nat):Int)∧8*((Int.toNat (w64 (1*2 ^ min v.length (IntKind.bits IntKind.i64))):Nat):Int)≤281474976710656∧((Int.toNat (w64 (1*2 ^ min v.length (IntKind.bits IntKind.i64))):Nat):Int)≤9223372036854775807 then Option.bind (zB (Zr rF (List.replicate (Int.toNat (w64 (1*2 ^ min v.length (IntKind.bits IntKind.i64)))) Bool.false) v v2 v3 x0) (List.replicate (Int.toNat (w64 (1*2 ^ min v.length (IntKind.bits IntKind.i64)))) 0,1)) fun(a7:List Int)=>Option.bind (zB (Zw rF (List.replicate (Int.toNat (w64 (1*2 ^ min v.length (IntKind.bits IntKind.i64)))) Bool.false) x0 x0.L ((x0.L.length:Nat):Int)) (a7,(v,(v2,(v3,0))))) fun(a8:Prod (List Int) (Prod (List qa) (Prod Int qg)))=>if(x0.Kind==3)=Bool.true then Option.bind (zB (Zs rF a8.1 a8.2.1 a8.2.2.1 a8.2.2.2 ((x0.L.length:Nat):Int)) (List.replicate (Int.toNat (w64 (1*2 ^ min v.length (IntKind.bits IntKind.i64)))) Bool.false,1)) fun(a9:List Bool)=>some (a9,a8.2.1,a8.2.2.1,a8.2.2.2) else Option.bind (zB (Zs rF a8.1 a8.2.1 a8.2.2.1 a8.2.2.2 x0.N) (List.replicate (Int.toNat (w64 (1*2 ^ min v.length (IntKind.bits IntKind.i64)))) Bool.false,1)) fun(a10:List Bool)=>some (a10,a8.2.1,a8.2.2.1,a8.2.2.2) else none else none else none
theorem q69:q8h 104 6 zE Qy q0J:=by
 intro rE rF hF hM hR x
 obtain⟨x0,v,v2,v3⟩:=x
 show qas rE 104 6 [R.agg [dI x0.Kind,dI x0.N,dI x0.Min,dL 2 qd x0.Set,dL 5 qh x0.L],rP 0,rP 1,rP 2,rP 3,rP 4,rP 5] [(0,B.blk 26 [dL 8 qf v]),(1,B.blk 114 [C.fn 59 [] []]),(2,B.blk 3 [dI v2]),(3,B.blk 28 [dI v3.Worst,dI v3.Best,dI v3.Pass]),(4,B.blk 163 [C.fn 104 [] [dP 0,dP 1,dP 2,dP 3,dP 4,dP 5]]),(5,B.blk 114 [C.fn 60 [] []])]=_
 have hF':∀(qH Jc zb:Int) (zc:List qc) (Jd:List qb) (v:List qa) (v2 qK zf zg:Int),rE (.fn 104) 6 [R.agg [dI qH,dI Jc,dI zb,dL 2 qd zc,dL 5 qh Jd],rP 0,rP 1,rP 2,rP 3,rP 4,rP 5] [(0,B.blk 26 [dL 8 qf v]),(1,B.blk 114 [C.fn 59 [] []]),(2,B.blk 3 [dI v2]),(3,B.blk 28 [dI qK,dI zf,dI zg]),(4,B.blk 163 [C.fn 104 [] [dP 0,dP 1,dP 2,dP 3,dP 4,dP 5]]),(5,B.blk 114 [C.fn 60 [] []])]=(rF ((qb.mk qH Jc zb zc Jd),v,v2,(qg.mk qK zf zg))).bind (fun e=>some (rL 1 eB e.1,[(0,B.blk 26 [dL 8 qf e.2.1]),(1,B.blk 114 [C.fn 59 [] []]),(2,B.blk 3 [dI e.2.2.1]),(3,B.blk 28 [dI e.2.2.2.Worst,dI e.2.2.2.Best,dI e.2.2.2.Pass]),(4,B.blk 163 [C.fn 104 [] [dP 0,dP 1,dP 2,dP 3,dP 4,dP 5]]),(5,B.blk 114 [C.fn 60 [] []])])):=fun qH Jc zb zc Jd v v2 qK zf zg=>hF ((qb.mk qH Jc zb zc Jd),v,v2,(qg.mk qK zf zg))
 rw[q4F qf5 qiH]
 have:=q9u;have:=@q3T;have:=@q4P;have:=q6W rE rF hF hM hR;have:=q7l rE rF hF hM hR;have:=q6k rE rF hF hM hR;have:=q7Z rE rF hF hM hR;have:=q7R rE rF hF hM hR;have:=@q0J.eq_1;have:=@Qy.eq_1;exact gA
theorem q3I:∀x y,zE x=zE y→x=y:=by
 rintro⟨⟨qE6,qE7,qE8,qE9,qEa⟩,a1,a2,⟨qOl,qOm,qOn⟩⟩ ⟨⟨qEb,qEc,qEd,qEe,qEf⟩,b1,b2,⟨qOo,qOp,qOq⟩⟩ h
 simp only[zE,Prod.mk.injEq,List.cons.injEq,R.c.injEq,R.agg.injEq,R.tup.injEq,C.d.injEq,C.own.injEq,C.ptr.injEq,C.eptr.injEq,D.int.injEq,D.bool.injEq,D.str.injEq,D.sl.injEq,B.blk.injEq,B.row.injEq,q0P,q2D,q1E,q1F,q2a,q23,q4g,q4d,q47,q0S,true_and,and_true,qPc] at h
 simp only[h]
theorem q8t:∀x y,Qy x=Qy y→x=y:=by
 rintro⟨a0,a1,a2,⟨qOl,qOm,qOn⟩⟩ ⟨b0,b1,b2,⟨qOo,qOp,qOq⟩⟩ h
 simp only[Qy,Prod.mk.injEq,List.cons.injEq,R.c.injEq,R.agg.injEq,R.tup.injEq,C.d.injEq,C.own.injEq,C.ptr.injEq,C.eptr.injEq,D.int.injEq,D.bool.injEq,D.str.injEq,D.sl.injEq,B.blk.injEq,B.row.injEq,q0P,q2D,q1E,q1F,q2a,q23,q4g,q4d,q47,q0S,true_and,and_true,qPc] at h
 simp only[h]
def Qn:(qb×List qa×Int×qg)→Option (List Bool×List qa×Int×qg):=q8l 104 6 zE Qy
theorem qbt (x:(qb×List qa×Int×qg)):Qn x=q0J Qn x:=qd4 qn7.2.2.2 q3I q8t q69 x
theorem qaq (x0:qb) (v:List qa) (v2:Int) (v3:qg):ev 104 6 [R.agg [dI x0.Kind,dI x0.N,dI x0.Min,dL 2 qd x0.Set,dL 5 qh x0.L],rP 0,rP 1,rP 2,rP 3,rP 4,rP 5] [(0,B.blk 26 [dL 8 qf v]),(1,B.blk 114 [C.fn 59 [] []]),(2,B.blk 3 [dI v2]),(3,B.blk 28 [dI v3.Worst,dI v3.Best,dI v3.Pass]),(4,B.blk 163 [C.fn 104 [] [dP 0,dP 1,dP 2,dP 3,dP 4,dP 5]]),(5,B.blk 114 [C.fn 60 [] []])]=(Qn (x0,v,v2,v3)).bind (fun(e:List Bool×List qa×Int×qg)=>some (rL 1 eB e.1,[(0,B.blk 26 [dL 8 qf e.2.1]),(1,B.blk 114 [C.fn 59 [] []]),(2,B.blk 3 [dI e.2.2.1]),(3,B.blk 28 [dI e.2.2.2.Worst,dI e.2.2.2.Best,dI e.2.2.2.Pass]),(4,B.blk 163 [C.fn 104 [] [dP 0,dP 1,dP 2,dP 3,dP 4,dP 5]]),(5,B.blk 114 [C.fn 60 [] []])])):=(q9g qn7.2.2.2 q3I q69 (x0,v,v2,v3))
theorem qbh:∀(qH Jc zb:Int) (zc:List qc) (Jd:List qb) (v:List qa) (v2 qK zf zg:Int),ev 104 6 [R.agg [dI qH,dI Jc,dI zb,dL 2 qd zc,dL 5 qh Jd],rP 0,rP 1,rP 2,rP 3,rP 4,rP 5] [(0,B.blk 26 [dL 8 qf v]),(1,B.blk 114 [C.fn 59 [] []]),(2,B.blk 3 [dI v2]),(3,B.blk 28 [dI qK,dI zf,dI zg]),(4,B.blk 163 [C.fn 104 [] [dP 0,dP 1,dP 2,dP 3,dP 4,dP 5]]),(5,B.blk 114 [C.fn 60 [] []])]=(Qn ((qb.mk qH Jc zb zc Jd),v,v2,(qg.mk qK zf zg))).bind (fun(e:List Bool×List qa×Int×qg)=>some (rL 1 eB e.1,[(0,B.blk 26 [dL 8 qf e.2.1]),(1,B.blk 114 [C.fn 59 [] []]),(2,B.blk 3 [dI e.2.2.1]),(3,B.blk 28 [dI e.2.2.2.Worst,dI e.2.2.2.Best,dI e.2.2.2.Pass]),(4,B.blk 163 [C.fn 104 [] [dP 0,dP 1,dP 2,dP 3,dP 4,dP 5]]),(5,B.blk 114 [C.fn 60 [] []])])):=
 fun qH Jc zb zc Jd v v2 qK zf zg=>qaq (qb.mk qH Jc zb zc Jd) v v2 (qg.mk qK zf zg)
def q5M (n:qb) (s:qg) (l:List qa):Option (List Bool):=Option.bind (Qn (n,(l,(0,s)))) fun(a:Prod (List Bool) (Prod (List qa) (Prod Int qg)))=>some a.1
theorem qdB:∀(qz n_N qQ:Int) (qR:List qc) (n_L:List qb) (zr Q2 Q3:Int) (l:List qa),ev 61 0 [R.agg [dI qz,dI n_N,dI qQ,dL 2 qd qR,dL 5 qh n_L],R.agg [dI zr,dI Q2,dI Q3],rL 8 qf l,R.c (C.fn 59 [] []),R.c (C.fn 60 [] [])] []=(q5M (qb.mk qz n_N qQ qR n_L) (qg.mk zr Q2 Q3) l).bind (fun(e:List Bool)=>some (rL 1 eB e,[])):=
 fun qz n_N qQ qR n_L zr Q2 Q3 l=>by
  rw[qW qEX qFP.2.2.2 qIJ]
  have:=qIS;have:=@qbh;have:=@q5M.eq_1;exact gA
def q2I (n:qb) (s:qg) (l:List qa):Option (List Bool×Int):=Option.bind (JD n) fun(a:Int)=>if(a != 0)=Bool.true then some ([],a) else if 10<((l.length:Nat):Int) then some ([],2) else Option.bind (q5M n s l) fun(a2:List Bool)=>some (a2,0)
theorem q9r:∀(qz n_N qQ:Int) (qR:List qc) (n_L:List qb) (zr Q2 Q3:Int) (l:List qa),ev 35 0 [R.agg [dI qz,dI n_N,dI qQ,dL 2 qd qR,dL 5 qh n_L],R.agg [dI zr,dI Q2,dI Q3],rL 8 qf l] []=(q2I (qb.mk qz n_N qQ qR n_L) (qg.mk zr Q2 Q3) l).bind (fun(e:List Bool×Int)=>some (R.tup [rL 1 eB e.1,rI e.2],[])):=
 fun qz n_N qQ qR n_L zr Q2 Q3 l=>by
  rw[qW qGw qKs.2.2.2 qMp]
  have:=qLT;have:=@q4c;have:=@qdB;have:=@q2I.eq_1;exact gA
theorem qKZ:okL 36 qpB:=qZ (qk qFR) (by kernel_rfl) (by kernel_rfl)
def qO5:=JA_ @qpB.eq_1 (JA_ @Tryz.f36.eq_1 @qFR)
def q31 (n:Int):Option Unit:=
 some ()
def q65 (n:Int):Unit:=
 ()
theorem q9K (n:Int):q31 n=some (q65 n):=by
 unfold q31 q65
 simp only[Zn]
theorem qar:∀(n:Int),ev 36 0 [rI n] []=some (R.c (C.fn 62 [] [dP 0]),[(0,B.blk 3 [dI n])]):=
 fun n=>by
  have h:ev 36 0 [rI n] []=(q31 n).bind (fun(e:Unit)=>some (R.c (C.fn 62 [] [dP 0]),[(0,B.blk 3 [dI n])])):=by
   rw[qW qFR qK5.2.2.2 qKZ]
   have:=qO5;have:=@q31.eq_1;exact gA
  rw[q9K] at h
  exact h
theorem qIv:okL 62 qgA:=qZ (qk qyG) (by kernel_rfl) (by kernel_rfl)
def qFk:=JA_ @qgA.eq_1 (JA_ @Tryz.f62.eq_1 @qyG)
theorem qD7:lbO 62 2=qpJ:=QG (qk qyG) rfl
theorem qAo:okL 62 qpJ:=zV qIv (qOT (i:=0) (by kernel_rfl))
theorem qDC:lbO 62 8=qpT:=QG (qk qyG) rfl
theorem qAZ:okL 62 qpT:=zV qIv (qOT (i:=1) (by kernel_rfl))
def Z0 (b1:qe) (b2:qg) (b3:Int) (b5:Int) (b6:List Int) (b7:List qa) (b8:List Bool) (b9:Int) (t8:Int):(List Int×Int)→Option ((List Int×Int)⊕(List Int))|(all,t9)=>if t9<t8 then if all.length+1≤maxLen∧(all.length+1)*8≤140737488355328 then some (Sum.inl (all++[t9],w64 (t9+1))) else none else some (Sum.inr all)
theorem q6n:∀(all:List Int) (zY q1j zG Z3:Int) (Z4:ByteArray) (za zZ zn:Int) (zo:List qc) (Q0:List qb) (Qq Ja Jb:Int) (zH:List (q00 qc)) (Zz JB JC b3 b5:Int) (b6:List Int) (b7:List qa) (b8:List Bool) (b9 t8 t9:Int) (qj3:Nat),qj3=all.length→XL2 evo 62 10 2 ⟨[(0,R.c (C.hd .yield 0)),(3,rO 10 1 qj3),(8,rI t8),(9,rI t9)],[(0,B.ob (AO.lp 15 (R.any::R.any::R.any::R.any::rP 1::rP 2::R.any::rP 3::rP 4::rP 5::R.any::rP 6::R.any::R.any::rP 7::rP 8::qkS) [67] (raO 15 19) (rbO 15 19) LoopState.ready none)),(1,B.blk 39 [dI zY,dI q1j,dI zG,dI Z3,dS Z4,dI za,dI zZ,dI zn,dL 2 qd zo,dL 5 qh Q0,dI Qq,dI Ja,dI Jb,dL 4 (eA2 qd) zH]),(2,B.blk 28 [dI Zz,dI JB,dI JC]),(3,B.blk 3 [dI b3]),(4,B.blk 48 [C.nils,C.nils]),(5,B.blk 49 [dI b5]),(6,B.blk 22 [dL 1 eI b6]),(7,B.blk 26 [dL 8 qf b7]),(8,B.blk 88 [dL 1 eB b8]),(9,B.blk 3 [dI b9]),(10,bR 3 1 eI all)],11,30⟩=(zB (Z0 (qe.mk zY q1j zG Z3 Z4 (qb.mk za zZ zn zo Q0) Qq Ja Jb zH) (qg.mk Zz JB JC) b3 b5 b6 b7 b8 b9 t8) (all,t9)).bind (fun(e:List Int)=>some (Exit.exit 0,⟨[(0,R.c (C.hd .yield 0)),(3,rO 10 1 e.length)],[(0,B.ob (AO.lp 15 (R.any::R.any::R.any::R.any::rP 1::rP 2::R.any::rP 3::rP 4::rP 5::R.any::rP 6::R.any::R.any::rP 7::rP 8::qkS) [67] (raO 15 19) (rbO 15 19) LoopState.ready none)),(1,B.blk 39 [dI zY,dI q1j,dI zG,dI Z3,dS Z4,dI za,dI zZ,dI zn,dL 2 qd zo,dL 5 qh Q0,dI Qq,dI Ja,dI Jb,dL 4 (eA2 qd) zH]),(2,B.blk 28 [dI Zz,dI JB,dI JC]),(3,B.blk 3 [dI b3]),(4,B.blk 48 [C.nils,C.nils]),(5,B.blk 49 [dI b5]),(6,B.blk 22 [dL 1 eI b6]),(7,B.blk 26 [dL 8 qf b7]),(8,B.blk 88 [dL 1 eB b8]),(9,B.blk 3 [dI b9]),(10,bR 3 1 eI e)],11,30⟩)):=
 by
 intro all zY q1j zG Z3 Z4 za zZ zn zo Q0 Qq Ja Jb zH Zz JB JC b3 b5 b6 b7 b8 b9 t8 t9 qj3 h0
 subst h0
 revert t9;revert all;exact q9j qD7 qAo (fun e=>by exact⟨_,rfl,fun h=>by cases h⟩) fun all t9=>by
  have:=qFk;have:=@qpJ.eq_1;have:=@Z0.eq_1;exact gA
theorem q4V:∀  (zY q1j zG Z3:Int) (Z4:ByteArray) (za zZ zn:Int) (zo:List qc) (Q0:List qb) (Qq Ja Jb:Int) (zH:List (q00 qc)) (Zz JB JC b3 b5:Int) (b6:List Int) (b7:List qa) (b8:List Bool) (b9 t8 t9:Int),XL2 evo 62 10 2 ⟨[(0,R.c (C.hd .yield 0)),(3,rO 10 1 0),(8,rI t8),(9,rI t9)],[(0,B.ob (AO.lp 15 (R.any::R.any::R.any::R.any::rP 1::rP 2::R.any::rP 3::rP 4::rP 5::R.any::rP 6::R.any::R.any::rP 7::rP 8::qkS) [67] (raO 15 19) (rbO 15 19) LoopState.ready none)),(1,B.blk 39 [dI zY,dI q1j,dI zG,dI Z3,dS Z4,dI za,dI zZ,dI zn,dL 2 qd zo,dL 5 qh Q0,dI Qq,dI Ja,dI Jb,dL 4 (eA2 qd) zH]),(2,B.blk 28 [dI Zz,dI JB,dI JC]),(3,B.blk 3 [dI b3]),(4,B.blk 48 [C.nils,C.nils]),(5,B.blk 49 [dI b5]),(6,B.blk 22 [dL 1 eI b6]),(7,B.blk 26 [dL 8 qf b7]),(8,B.blk 88 [dL 1 eB b8]),(9,B.blk 3 [dI b9]),(10,B.row 3 1 [])],11,30⟩=(zB (Z0 (qe.mk zY q1j zG Z3 Z4 (qb.mk za zZ zn zo Q0) Qq Ja Jb zH) (qg.mk Zz JB JC) b3 b5 b6 b7 b8 b9 t8) ([],t9)).bind (fun(e:List Int)=>some (Exit.exit 0,⟨[(0,R.c (C.hd .yield 0)),(3,rO 10 1 e.length)],[(0,B.ob (AO.lp 15 (R.any::R.any::R.any::R.any::rP 1::rP 2::R.any::rP 3::rP 4::rP 5::R.any::rP 6::R.any::R.any::rP 7::rP 8::qkS) [67] (raO 15 19) (rbO 15 19) LoopState.ready none)),(1,B.blk 39 [dI zY,dI q1j,dI zG,dI Z3,dS Z4,dI za,dI zZ,dI zn,dL 2 qd zo,dL 5 qh Q0,dI Qq,dI Ja,dI Jb,dL 4 (eA2 qd) zH]),(2,B.blk 28 [dI Zz,dI JB,dI JC]),(3,B.blk 3 [dI b3]),(4,B.blk 48 [C.nils,C.nils]),(5,B.blk 49 [dI b5]),(6,B.blk 22 [dL 1 eI b6]),(7,B.blk 26 [dL 8 qf b7]),(8,B.blk 88 [dL 1 eB b8]),(9,B.blk 3 [dI b9]),(10,bR 3 1 eI e)],11,30⟩)):=by
 intro zY q1j zG Z3 Z4 za zZ zn zo Q0 Qq Ja Jb zH Zz JB JC b3 b5 b6 b7 b8 b9 t8 t9;have h:=q6n [] ((qe.mk zY q1j zG Z3 Z4 (qb.mk za zZ zn zo Q0) Qq Ja Jb zH)).School ((qe.mk zY q1j zG Z3 Z4 (qb.mk za zZ zn zo Q0) Qq Ja Jb zH)).Id ((qe.mk zY q1j zG Z3 Z4 (qb.mk za zZ zn zo Q0) Qq Ja Jb zH)).Version ((qe.mk zY q1j zG Z3 Z4 (qb.mk za zZ zn zo Q0) Qq Ja Jb zH)).From ((qe.mk zY q1j zG Z3 Z4 (qb.mk za zZ zn zo Q0) Qq Ja Jb zH)).Name ((qe.mk zY q1j zG Z3 Z4 (qb.mk za zZ zn zo Q0) Qq Ja Jb zH)).Need.Kind ((qe.mk zY q1j zG Z3 Z4 (qb.mk za zZ zn zo Q0) Qq Ja Jb zH)).Need.N ((qe.mk zY q1j zG Z3 Z4 (qb.mk za zZ zn zo Q0) Qq Ja Jb zH)).Need.Min ((qe.mk zY q1j zG Z3 Z4 (qb.mk za zZ zn zo Q0) Qq Ja Jb zH)).Need.Set ((qe.mk zY q1j zG Z3 Z4 (qb.mk za zZ zn zo Q0) Qq Ja Jb zH)).Need.L ((qe.mk zY q1j zG Z3 Z4 (qb.mk za zZ zn zo Q0) Qq Ja Jb zH)).Total ((qe.mk zY q1j zG Z3 Z4 (qb.mk za zZ zn zo Q0) Qq Ja Jb zH)).Own ((qe.mk zY q1j zG Z3 Z4 (qb.mk za zZ zn zo Q0) Qq Ja Jb zH)).Age ((qe.mk zY q1j zG Z3 Z4 (qb.mk za zZ zn zo Q0) Qq Ja Jb zH)).Exclude ((qg.mk Zz JB JC)).Worst ((qg.mk Zz JB JC)).Best ((qg.mk Zz JB JC)).Pass b3 b5 b6 b7 b8 b9 t8 t9 _ rfl
 first
  | exact h
  | (simp only[rL,dL,bR,bZ,Nat.reduceAdd] at h;exact h)
theorem qNv:okL 64 qmh:=qZ (qk qFW) (by kernel_rfl) (by kernel_rfl)
def qNn:=JA_ @qmh.eq_1 (JA_ @Tryz.f64.eq_1 @qFW)
theorem qLO:okL 67 qlQ:=qZ (qk qHB) (by kernel_rfl) (by kernel_rfl)
def qM4:=JA_ @qlQ.eq_1 (JA_ @Tryz.f67.eq_1 @qHB)
theorem qFz:okL 112 qiB:=qZ (qk qy6) (by kernel_rfl) (by kernel_rfl)
def qIc:=JA_ @qiB.eq_1 (JA_ @Tryz.f112.eq_1 @qy6)
def JA (x:Int):Option Int:=
 some (let y1:=ZW Go.BinOp.and IntKind.u64 (Int.fdiv x (2 ^ min 1 (IntKind.bits IntKind.u64))) 6148914691236517205+ZW Go.BinOp.and IntKind.u64 x 6148914691236517205;let y2:=Int.fdiv (IntKind.wrap IntKind.u64 y1) (2 ^ min 2 (IntKind.bits IntKind.u64));let y3:=ZW Go.BinOp.and IntKind.u64 y2 3689348814741910323+ZW Go.BinOp.and IntKind.u64 (IntKind.wrap IntKind.u64 y1) 3689348814741910323;let y4:=Int.fdiv (IntKind.wrap IntKind.u64 y3) (2 ^ min 4 (IntKind.bits IntKind.u64))+IntKind.wrap IntKind.u64 y3;let y5:=ZW Go.BinOp.and IntKind.u64 (IntKind.wrap IntKind.u64 y4) 1085102592571150095;let y6:=ZW Go.BinOp.and IntKind.u64 (IntKind.wrap IntKind.u64 y4) 1085102592571150095+Int.fdiv y5 (2 ^ min 8 (IntKind.bits IntKind.u64));let y7:=IntKind.wrap IntKind.u64 y6+Int.fdiv (IntKind.wrap IntKind.u64 y6) (2 ^ min 16 (IntKind.bits IntKind.u64));ZW Go.BinOp.and IntKind.i64 (w64 (IntKind.wrap IntKind.u64 (IntKind.wrap IntKind.u64 y7+Int.fdiv (IntKind.wrap IntKind.u64 y7) (2 ^ min 32 (IntKind.bits IntKind.u64))))) 127)
def Zj (x:Int):Int:=
 let y1:=ZW Go.BinOp.and IntKind.u64 (Int.fdiv x (2 ^ min 1 (IntKind.bits IntKind.u64))) 6148914691236517205+ZW Go.BinOp.and IntKind.u64 x 6148914691236517205;let y2:=Int.fdiv (IntKind.wrap IntKind.u64 y1) (2 ^ min 2 (IntKind.bits IntKind.u64));let y3:=ZW Go.BinOp.and IntKind.u64 y2 3689348814741910323+ZW Go.BinOp.and IntKind.u64 (IntKind.wrap IntKind.u64 y1) 3689348814741910323;let y4:=Int.fdiv (IntKind.wrap IntKind.u64 y3) (2 ^ min 4 (IntKind.bits IntKind.u64))+IntKind.wrap IntKind.u64 y3;let y5:=ZW Go.BinOp.and IntKind.u64 (IntKind.wrap IntKind.u64 y4) 1085102592571150095;let y6:=ZW Go.BinOp.and IntKind.u64 (IntKind.wrap IntKind.u64 y4) 1085102592571150095+Int.fdiv y5 (2 ^ min 8 (IntKind.bits IntKind.u64));let y7:=IntKind.wrap IntKind.u64 y6+Int.fdiv (IntKind.wrap IntKind.u64 y6) (2 ^ min 16 (IntKind.bits IntKind.u64));ZW Go.BinOp.and IntKind.i64 (w64 (IntKind.wrap IntKind.u64 (IntKind.wrap IntKind.u64 y7+Int.fdiv (IntKind.wrap IntKind.u64 y7) (2 ^ min 32 (IntKind.bits IntKind.u64))))) 127
theorem q4f (x:Int):JA x=some (Zj x):=by
 unfold JA Zj
 simp only[Zn]
theorem q4t:∀(x:Int),ev 112 0 [R.c (C.d (D.int .u64 x))] []=some (rI (Zj x),[]):=
 fun x=>by
  have h:ev 112 0 [R.c (C.d (D.int .u64 x))] []=(JA x).bind (fun(e:Int)=>some (rI e,[])):=by
   rw[qW qy6 qD3.2.2.2 qFz]
   have:=qIc;have:=@JA.eq_1;exact gA
  rw[q4f] at h
  exact h
def JS (x:Int):Option Int:=
 some (Zj x)
def QJ (x:Int):Int:=
 Zj x
theorem q4Z (x:Int):JS x=some (QJ x):=by
 unfold JS QJ
 simp only[Zn]
theorem q5c:∀(x:Int),ev 67 0 [R.c (C.d (D.int .u64 x))] []=some (rI (QJ x),[]):=
 fun x=>by
  have h:ev 67 0 [R.c (C.d (D.int .u64 x))] []=(JS x).bind (fun(e:Int)=>some (rI e,[])):=by
   rw[qW qHB qKa.2.2.2 qLO]
   have:=qM4;have:=@q4t;have:=@JS.eq_1;exact gA
  rw[q4Z] at h
  exact h
theorem qJt:okL 37 qkL:=qZ (qk qEZ) (by kernel_rfl) (by kernel_rfl)
def qJx:=JA_ @qkL.eq_1 (JA_ @Tryz.f37.eq_1 @qEZ)
theorem qDD:lbO 37 2=qpu:=QG (qk qEZ) rfl
theorem qDu:okL 37 qpu:=zV qJt (qOT (i:=0) (by kernel_rfl))
def QH (mask:Int):(List Int×Int)→Option ((List Int×Int)⊕(List Int))|(l,k)=>if 0≤k then if 0<Int.fdiv mask (2 ^ min (Int.toNat k) (IntKind.bits IntKind.i64)) then if 0≤k then if(ZW Go.BinOp.and IntKind.i64 (Int.fdiv mask (2 ^ min (Int.toNat k) (IntKind.bits IntKind.i64))) 1==1)=Bool.true then if l.length+1≤maxLen∧(l.length+1)*8≤140737488355328 then some (Sum.inl (l++[k],w64 (k+1))) else none else some (Sum.inl (l,w64 (k+1))) else none else some (Sum.inr l) else none
theorem q6v:∀(l:List Int) (mask k:Int) (qj4:Nat),qj4=l.length→XL2 evo 37 0 2 ⟨[(0,rI mask),(2,rO 0 1 qj4),(3,rI k)],[(0,bR 3 1 eI l)],1,20⟩=(zB (QH mask) (l,k)).bind (fun(e:List Int)=>some (Exit.exit 0,⟨[(2,rO 0 1 e.length)],[(0,bR 3 1 eI e)],1,20⟩)):=
 by
 intro l mask k qj4 h0
 subst h0
 revert k;revert l;exact q9j qDD qDu (fun e=>by exact⟨_,rfl,fun h=>by cases h⟩) fun l k=>by
  have:=qJx;have:=@qpu.eq_1;have:=@QH.eq_1;exact gA
theorem q4Q:∀  (mask k:Int),XL2 evo 37 0 2 ⟨[(0,rI mask),(2,rO 0 1 0),(3,rI k)],[(0,B.row 3 1 [])],1,20⟩=(zB (QH mask) ([],k)).bind (fun(e:List Int)=>some (Exit.exit 0,⟨[(2,rO 0 1 e.length)],[(0,bR 3 1 eI e)],1,20⟩)):=by
 intro mask k;have h:=q6v [] mask k _ rfl
 first
  | exact h
  | (simp only[rL,dL,bR,bZ,Nat.reduceAdd] at h;exact h)
def ZU (mask:Int):Option (List Int):=Option.bind (zB (QH mask) ([],0)) fun(a:List Int)=>some a
theorem q2b:∀(mask:Int),ev 37 0 [rI mask] []=(ZU mask).bind (fun(e:List Int)=>some (rL 1 eI e,[])):=
 fun mask=>by
  rw[qW qEZ qJg.2.2.2 qJt]
  have:=qJx;have:=@q4Q;have:=@ZU.eq_1;exact gA
theorem qJy:okL 68 qki:=qZ (qk qEN) (by kernel_rfl) (by kernel_rfl)
def qIU:=JA_ @qki.eq_1 (JA_ @Tryz.f68.eq_1 @qEN)
theorem qzN:lbO 68 2=qpi:=QG (qk qEN) rfl
theorem qAN:okL 68 qpi:=zV qJy (qOT (i:=0) (by kernel_rfl))
def zX (s1:List Int) (s2:List Int) (t9:List Int) (t10:Int):Int→Option (Int⊕(Int⊕Unit))|t11=>if t11<t10 then if 0≤t11∧t11<((t9.length:Nat):Int) then Option.bind t9[Int.toNat t11]? fun(a:Int)=>if((s2.length:Nat):Int)≤t11 then some (Sum.inr (Sum.inl 1)) else if 0≤t11∧t11<((s2.length:Nat):Int) then Option.bind s2[Int.toNat t11]? fun(a2:Int)=>if(Qd a a2 != 0)=Bool.true then some (Sum.inr (Sum.inl (Qd a a2))) else some (Sum.inl (w64 (t11+1))) else none else none else some (Sum.inr (Sum.inr ()))
theorem q3l:∀(s1 s2 t9:List Int) (t10 t11:Int),XL2 evo 68 0 2 ⟨[(0,rL 1 eI s1),(1,rL 1 eI s2),(9,rL 1 eI t9),(10,rI t10),(11,rI t11)],[],0,36⟩=(zB (zX s1 s2 t9 t10) t11).bind (Sum.elim (fun(e:Int)=>some (Exit.ret,⟨[(0,rL 1 eI s1),(1,rL 1 eI s2),(4,rI e)],[],0,36⟩)) (fun(e:Unit)=>some (Exit.exit 0,⟨[(0,rL 1 eI s1),(1,rL 1 eI s2),(4,R.any)],[],0,36⟩))):=
 fun s1 s2 t9 t10 t11=>by
  revert t11;exact qbj qzN qAN (fun e=>by rcases e with _|_<;>exact⟨_,rfl,fun h=>by cases h⟩) fun x=>by
   have:=qIU;have:=@qpi.eq_1;have:=@q1D;have:=@zX.eq_1;exact gA
def QU (s1:List Int) (s2:List Int):Option Int:=Option.bind (zB (zX s1 s2 s1 ((s1.length:Nat):Int)) 0) fun(a:Sum Int Unit)=>Sum.elim (fun(a2:Int)=>some a2) (fun(a3:Unit)=>if((s1.length:Nat):Int)<((s2.length:Nat):Int) then some (-1) else some 0) a
theorem q19:∀(s1 s2:List Int),ev 68 0 [rL 1 eI s1,rL 1 eI s2] []=(QU s1 s2).bind (fun(e:Int)=>some (rI e,[])):=
 fun s1 s2=>by
  rw[qW qEN qKe.2.2.2 qJy]
  have:=qIU;have:=@q3l;have:=@QU.eq_1;exact gA
def QD (a:Int) (b:Int):Option Int:=Option.bind (ZU a) fun(a2:List Int)=>Option.bind (ZU b) fun(a3:List Int)=>Option.bind (QU a2 a3) fun(a4:Int)=>Option.bind (q15 [Qd (QJ (IntKind.wrap IntKind.u64 a)) (QJ (IntKind.wrap IntKind.u64 b)),a4]) fun(e0:Int)=>some e0
theorem q7n:∀(a b:Int),ev 64 0 [rI a,rI b] []=(QD a b).bind (fun(e:Int)=>some (rI e,[])):=
 fun a b=>by
  rw[qW qFW qK6.2.2.2 qNv]
  have:=qNn;have:=@q5c;have:=@q1D;have:=@q2b;have:=@q19;have:=@q4J;have:=@QD.eq_1;exact gA
theorem qFj:okL 38 qgi:=qZ (qk qA4) (by kernel_rfl) (by kernel_rfl)
def qG4:=JA_ @qgi.eq_1 (JA_ @Tryz.f38.eq_1 @qA4)
theorem qCk:lbO 38 3=qna:=QG (qk qA4) rfl
theorem qDh:okL 38 qna:=zV qFj (qOT (i:=0) (by kernel_rfl))
theorem qA5:lbO 38 8=qmO:=QG (qk qA4) rfl
theorem qAa:okL 38 qmO:=zV qFj (qOT (i:=1) (by kernel_rfl))
theorem qLv:okL 69 qnE:=qZ (qk qI1) (by kernel_rfl) (by kernel_rfl)
def qMh:=JA_ @qnE.eq_1 (JA_ @Tryz.f69.eq_1 @qI1)
theorem qIR:okL 91 qkt:=qZ (qk qER) (by kernel_rfl) (by kernel_rfl)
def qIX:=JA_ @qkt.eq_1 (JA_ @Tryz.f91.eq_1 @qER)
theorem qB4:lbO 91 4=qm8:=QG (qk qER) rfl
theorem qBT:okL 91 qm8:=zV qIR (qOT (i:=0) (by kernel_rfl))
def Qt (s1:List Int) (s2:List Int) (t12:Int):Int→Option (Int⊕(Unit⊕Unit))|t13=>if t13<t12 then if 0≤t13∧t13<((s1.length:Nat):Int) then Option.bind s1[Int.toNat t13]? fun(a:Int)=>if 0≤t13∧t13<((s2.length:Nat):Int) then Option.bind s2[Int.toNat t13]? fun(a2:Int)=>if(a != a2)=Bool.true then some (Sum.inr (Sum.inl ())) else some (Sum.inl (w64 (t13+1))) else none else none else some (Sum.inr (Sum.inr ()))
theorem q3R:∀(s1 s2:List Int) (t12 t13:Int),XL2 evo 91 0 4 ⟨[(0,rL 1 eI s1),(1,rL 1 eI s2),(12,rI t12),(13,rI t13)],[],0,26⟩=(zB (Qt s1 s2 t12) t13).bind (Sum.elim (fun(e:Unit)=>some (Exit.ret,⟨[(4,rB Bool.false)],[],0,26⟩)) (fun(e:Unit)=>some (Exit.exit 0,⟨[(4,R.any)],[],0,26⟩))):=
 fun s1 s2 t12 t13=>by
  revert t13;exact qbj qB4 qBT (fun e=>by rcases e with _|_<;>exact⟨_,rfl,fun h=>by cases h⟩) fun x=>by
   have:=qIX;have:=@qm8.eq_1;have:=@Qt.eq_1;exact gA
def Zf (s1:List Int) (s2:List Int):Option Bool:=if(((s1.length:Nat):Int) != ((s2.length:Nat):Int))=Bool.true then some Bool.false else Option.bind (zB (Qt s1 s2 ((s1.length:Nat):Int)) 0) fun(a:Sum Unit Unit)=>Sum.elim (fun(a2:Unit)=>some Bool.false) (fun(a3:Unit)=>some Bool.true) a
theorem q1P:∀(s1 s2:List Int),ev 91 0 [rL 1 eI s1,rL 1 eI s2] []=(Zf s1 s2).bind (fun(e:Bool)=>some (rB e,[])):=
 fun s1 s2=>by
  rw[qW qER qJ1.2.2.2 qIR]
  have:=qIX;have:=@q3R;have:=@Zf.eq_1;exact gA
theorem qIg:okL 113 qi6:=qZ (qk qww) (by kernel_rfl) (by kernel_rfl)
def qGW:=JA_ @qi6.eq_1 (JA_ @Tryz.f113.eq_1 @qww)
theorem qGZ:okL 83 qml:=qZ (qk qCU) (by kernel_rfl) (by kernel_rfl)
def qH3:=JA_ @qml.eq_1 (JA_ @Tryz.f83.eq_1 @qCU)
theorem qql:okL 131 qfz:=qZ (qk qlH) (by kernel_rfl) (by kernel_rfl)
def qlf:=JA_ @qfz.eq_1 (JA_ @Tryz.f131.eq_1 @qlH)
theorem qhe:lbO 131 2=qcR:=QG (qk qlH) rfl
theorem qh3:okL 131 qcR:=zV qql (qOT (i:=0) (by kernel_rfl))
theorem qFn:okL 156 qh4:=qZ (qk qwe) (by kernel_rfl) (by kernel_rfl)
def qFr:=JA_ @qh4.eq_1 (JA_ @Tryz.f156.eq_1 @qwe)
theorem qI4:okL 157 qhy:=qZ (qk qwK) (by kernel_rfl) (by kernel_rfl)
def qH1:=JA_ @qhy.eq_1 (JA_ @Tryz.f157.eq_1 @qwK)
theorem qBF:okL 177 qeH:=qZ (qk qs8) (by kernel_rfl) (by kernel_rfl)
def qAu:=JA_ @qeH.eq_1 (JA_ @Tryz.f177.eq_1 @qs8)
theorem qwz:lbO 177 2=qii:=QG (qk qs8) rfl
theorem qw4:okL 177 qii:=zV qBF (qOT (i:=0) (by kernel_rfl))
def QM (s:List Int) (v:Int) (t7:Int):Int→Option (Int⊕(Int⊕Unit))|t8=>if t8<t7 then if 0≤t8∧t8<((s.length:Nat):Int) then Option.bind s[Int.toNat t8]? fun(a:Int)=>if(v==a)=Bool.true then some (Sum.inr (Sum.inl t8)) else some (Sum.inl (w64 (t8+1))) else none else some (Sum.inr (Sum.inr ()))
theorem q3P:∀(s:List Int) (v t7 t8:Int),XL2 evo 177 0 2 ⟨[(0,rL 1 eI s),(1,rI v),(7,rI t7),(8,rI t8)],[],0,19⟩=(zB (QM s v t7) t8).bind (Sum.elim (fun(e:Int)=>some (Exit.ret,⟨[(4,rI e)],[],0,19⟩)) (fun(e:Unit)=>some (Exit.exit 0,⟨[(4,R.any)],[],0,19⟩))):=
 fun s v t7 t8=>by
  revert t8;exact qbj qwz qw4 (fun e=>by rcases e with _|_<;>exact⟨_,rfl,fun h=>by cases h⟩) fun x=>by
   have:=qAu;have:=@qii.eq_1;have:=@QM.eq_1;exact gA
def JN (s:List Int) (v:Int):Option Int:=Option.bind (zB (QM s v ((s.length:Nat):Int)) 0) fun(a:Sum Int Unit)=>Sum.elim (fun(a2:Int)=>some a2) (fun(a3:Unit)=>some (-1)) a
theorem q51:∀(s:List Int) (v:Int),ev 177 0 [rL 1 eI s,rI v] []=(JN s v).bind (fun(e:Int)=>some (rI e,[])):=
 fun s v=>by
  rw[qW qs8 qDx.2.2.2 qBF]
  have:=qAu;have:=@q3P;have:=@JN.eq_1;exact gA
def Zh (s:List Int) (v:Int):Option Bool:=Option.bind (JN s v) fun(a:Int)=>some (decide (0≤a))
theorem q3Q:∀(s:List Int) (v:Int),ev 157 0 [rL 1 eI s,rI v] []=(Zh s v).bind (fun(e:Bool)=>some (rB e,[])):=
 fun s v=>by
  rw[qW qwK qzz.2.2.2 qI4]
  have:=qH1;have:=@q51;have:=@Zh.eq_1;exact gA
def q0Q (x:Int) (v:List Int):Option Bool:=Option.bind (Zh v x) fun(a:Bool)=>some a
theorem q7a:∀(x:Int) (v:List Int),ev 156 1 [rI x,rP 0] [(0,B.blk 22 [dL 1 eI v])]=(q0Q x v).bind (fun(e:Bool)=>some (rB e,[(0,B.blk 22 [dL 1 eI v])])):=
 fun x v=>by
  rw[qW qwe qCr.2.2.2 qFn]
  have:=qFr;have:=@q3Q;have:=@q0Q.eq_1;exact gA
def Ql (b0:List Int) (s:List Int) (t7:Int):Int→Option (Int⊕(Int⊕Unit))|t8=>if t8<t7 then if 0≤t8∧t8<((s.length:Nat):Int) then Option.bind s[Int.toNat t8]? fun(a:Int)=>Option.bind (q0Q a b0) fun(a2:Bool)=>if a2=Bool.true then some (Sum.inr (Sum.inl t8)) else some (Sum.inl (w64 (t8+1))) else none else some (Sum.inr (Sum.inr ()))
theorem q2B:∀(b0 s:List Int) (t7 t8:Int),XL2 evo 131 1 2 ⟨[(0,rL 1 eI s),(1,R.c (C.fn 156 [] [dP 0])),(7,rI t7),(8,rI t8)],[(0,B.blk 22 [dL 1 eI b0])],1,19⟩=(zB (Ql b0 s t7) t8).bind (Sum.elim (fun(e:Int)=>some (Exit.ret,⟨[(4,rI e)],[(0,B.blk 22 [dL 1 eI b0])],1,19⟩)) (fun(e:Unit)=>some (Exit.exit 0,⟨[(4,R.any)],[(0,B.blk 22 [dL 1 eI b0])],1,19⟩))):=
 fun b0 s t7 t8=>by
  revert t8;exact qbj qhe qh3 (fun e=>by rcases e with _|_<;>exact⟨_,rfl,fun h=>by cases h⟩) fun x=>by
   have:=qlf;have:=@qcR.eq_1;have:=@q7a;have:=@Ql.eq_1;exact gA
def ZV (s:List Int) (b0:List Int):Option Int:=Option.bind (zB (Ql b0 s ((s.length:Nat):Int)) 0) fun(a:Sum Int Unit)=>Sum.elim (fun(a2:Int)=>some a2) (fun(a3:Unit)=>some (-1)) a
theorem q3B:∀(s b0:List Int),ev 131 1 [rL 1 eI s,R.c (C.fn 156 [] [dP 0])] [(0,B.blk 22 [dL 1 eI b0])]=(ZV s b0).bind (fun(e:Int)=>some (rI e,[(0,B.blk 22 [dL 1 eI b0])])):=
 fun s b0=>by
  rw[qW qlH qrG.2.2.2 qql]
  have:=qlf;have:=@q2B;have:=@ZV.eq_1;exact gA
def Zp (s:List Int) (b0:List Int):Option Bool:=Option.bind (ZV s b0) fun(a:Int)=>some (decide (0≤a))
theorem q2C:∀(s b0:List Int),ev 83 1 [rL 1 eI s,R.c (C.fn 156 [] [dP 0])] [(0,B.blk 22 [dL 1 eI b0])]=(Zp s b0).bind (fun(e:Bool)=>some (rB e,[(0,B.blk 22 [dL 1 eI b0])])):=
 fun s b0=>by
  rw[qW qCU qEL.2.2.2 qGZ]
  have:=qH3;have:=@q3B;have:=@Zp.eq_1;exact gA
def JJ (a:List Int) (b:List Int):Option Bool:=Option.bind (Zp a b) fun(a2:Bool)=>some a2
theorem q9b:∀(a b:List Int),ev 113 0 [rL 1 eI a,rL 1 eI b] []=(JJ a b).bind (fun(e:Bool)=>some (rB e,[])):=
 fun a b=>by
  rw[qW qww qCw.2.2.2 qIg]
  have:=qGW;have:=@q2C;have:=@JJ.eq_1;exact gA
def q3p (a:qa) (b:qa):Option Bool:=if(a.Course.School==b.Course.School)=Bool.true∧(ByteArray.toList a.Course.Code==ByteArray.toList b.Course.Code)=Bool.true then some Bool.false else if 0<a.Bundle then if(a.Bundle==b.Bundle)=Bool.true then Option.bind (Zf a.Path b.Path) fun(a2:Bool)=>if a2=Bool.true then some Bool.true else Option.bind (JJ a.Sources b.Sources) fun(a3:Bool)=>some (!a3) else Option.bind (JJ a.Sources b.Sources) fun(a4:Bool)=>some (!a4) else Option.bind (JJ a.Sources b.Sources) fun(a5:Bool)=>some (!a5)
theorem qd9:∀(Qe:Int) (QK:ByteArray) (JK q2c q8Q:Int) (Jw:List Int) (q0u:Int) (q3K:List Int) (q4p:Int) (q62:ByteArray) (qdj qj5 qyg:Int) (qdk:List Int) (qfH:Int) (qpZ:List Int),ev 69 0 [R.agg [dI Qe,dS QK,dI JK,dI q2c,dI q8Q,dL 1 eI Jw,dI q0u,dL 1 eI q3K],R.agg [dI q4p,dS q62,dI qdj,dI qj5,dI qyg,dL 1 eI qdk,dI qfH,dL 1 eI qpZ]] []=(q3p (qa.mk (qc.mk Qe QK) JK q2c q8Q Jw q0u q3K) (qa.mk (qc.mk q4p q62) qdj qj5 qyg qdk qfH qpZ)).bind (fun(e:Bool)=>some (rB e,[])):=
 fun Qe QK JK q2c q8Q Jw q0u q3K q4p q62 qdj qj5 qyg qdk qfH qpZ=>by
  rw[qW qI1 qJl.2.2.2 qLv]
  have:=qMh;have:=@q1P;have:=@q9b;have:=@q3p.eq_1;exact gA
theorem qJk:okL 71 qjj:=qZ (qk qEl) (by kernel_rfl) (by kernel_rfl)
def qJY:=JA_ @qjj.eq_1 (JA_ @Tryz.f71.eq_1 @qEl)
theorem qyJ:lbO 71 3=qnw:=QG (qk qEl) rfl
theorem qCC:okL 71 qnw:=zV qJk (qOT (i:=0) (by kernel_rfl))
def JE (t6:List qa) (t7:Int):(Int×Int)→Option ((Int×Int)⊕Int)|(n,t8)=>if t8<t7 then if 0≤t8∧t8<((t6.length:Nat):Int) then Option.bind t6[Int.toNat t8]? fun(a:qa)=>some (Sum.inl (w64 (n+a.Credits),w64 (t8+1))) else none else some (Sum.inr n)
theorem q81:∀(n:Int) (t6:List qa) (t7 t8:Int),XL2 evo 71 0 3 ⟨[(3,rI n),(6,rL 8 qf t6),(7,rI t7),(8,rI t8)],[],0,18⟩=(zB (JE t6 t7) (n,t8)).bind (fun(e:Int)=>some (Exit.exit 0,⟨[(3,rI e)],[],0,18⟩)):=
 fun n t6 t7 t8=>by
  revert t8;revert n;exact q9j qyJ qCC (fun e=>by exact⟨_,rfl,fun h=>by cases h⟩) fun n t8=>by
   have:=qJY;have:=@qnw.eq_1;have:=@JE.eq_1;exact gA
def q1I (l:List qa):Option Int:=Option.bind (zB (JE l ((l.length:Nat):Int)) (0,0)) fun(a:Int)=>some a
theorem qaY:∀(l:List qa),ev 71 0 [rL 8 qf l] []=(q1I l).bind (fun(e:Int)=>some (rI e,[])):=
 fun l=>by
  rw[qW qEl qJr.2.2.2 qJk]
  have:=qJY;have:=@q81;have:=@q1I.eq_1;exact gA
theorem qHD:okL 39 qgf:=qZ (qk qze) (by kernel_rfl) (by kernel_rfl)
def qGV:=JA_ @qgf.eq_1 (JA_ @Tryz.f39.eq_1 @qze)
theorem qyZ:lbO 39 2=qmQ:=QG (qk qze) rfl
theorem qCb:okL 39 qmQ:=zV qHD (qOT (i:=0) (by kernel_rfl))
theorem qzo:lbO 39 9=qlX:=QG (qk qze) rfl
theorem qC3:okL 39 qlX:=zV qHD (qOT (i:=1) (by kernel_rfl))
theorem qFb:okL 72 qgv:=qZ (qk qBz) (by kernel_rfl) (by kernel_rfl)
def qGr:=JA_ @qgv.eq_1 (JA_ @Tryz.f72.eq_1 @qBz)
theorem qAL:lbO 72 9=qpK:=QG (qk qBz) rfl
theorem qA2:okL 72 qpK:=zV qFb (qOT (i:=0) (by kernel_rfl))
theorem qvD:lbO 72 14=qi0:=QG (qk qBz) rfl
theorem qwS:okL 72 qi0:=zV qFb (qOT (i:=1) (by kernel_rfl))
theorem qD0:okL 115 qeR:=qZ (qk qqr) (by kernel_rfl) (by kernel_rfl)
def qzL:=JA_ @qeR.eq_1 (JA_ @Tryz.f115.eq_1 @qqr)
theorem qvx:lbO 115 2=qhr:=QG (qk qqr) rfl
theorem qwg:okL 115 qhr:=zV qD0 (qOT (i:=0) (by kernel_rfl))
def JG (w1:List Int) (leaf:Int) (set0:Int) (t9:Int):Int→Option (Int⊕(Unit⊕Unit))|t10=>if t10<t9 then if 0≤t10∧t10<((w1.length:Nat):Int) then Option.bind w1[Int.toNat t10]? fun(a:Int)=>if 0≤t10 then if(!((ZW Go.BinOp.and IntKind.i64 (Int.fdiv set0 (2 ^ min (Int.toNat t10) (IntKind.bits IntKind.i64))) 1==1)==(a==leaf)))=Bool.true then some (Sum.inr (Sum.inl ())) else some (Sum.inl (w64 (t10+1))) else none else none else some (Sum.inr (Sum.inr ()))
theorem q83:∀(w1:List Int) (leaf set0 t9 t10:Int) (QQ:Nat),QQ=w1.length→XL2 evo 115 1 2 ⟨[(0,rI leaf),(1,rI set0),(8,rO 1 1 QQ),(9,rI t9),(10,rI t10)],[(0,B.blk 22 [dO 1 1 QQ]),(1,bR 3 1 eI w1)],2,25⟩=(zB (JG w1 leaf set0 t9) t10).bind (Sum.elim (fun(e:Unit)=>some (Exit.ret,⟨[(5,rB Bool.false)],[(0,B.blk 22 [dO 1 1 w1.length]),(1,bR 3 1 eI w1)],2,25⟩)) (fun(e:Unit)=>some (Exit.exit 0,⟨[(5,R.any)],[(0,B.blk 22 [dO 1 1 w1.length]),(1,bR 3 1 eI w1)],2,25⟩))):=
 by
 intro w1 leaf set0 t9 t10 QQ h0
 subst h0
 revert t10;exact qbj qvx qwg (fun e=>by rcases e with _|_<;>exact⟨_,rfl,fun h=>by cases h⟩) fun x=>by
  have:=qzL;have:=@qhr.eq_1;have:=@JG.eq_1;exact gA
def q0H (leaf:Int) (set0:Int) (w1:List Int):Option Bool:=Option.bind (zB (JG w1 leaf set0 ((w1.length:Nat):Int)) 0) fun(a:Sum Unit Unit)=>Sum.elim (fun(a2:Unit)=>some Bool.false) (fun(a3:Unit)=>some Bool.true) a
theorem q56:∀(leaf set0:Int) (w1:List Int) (QQ:Nat),QQ=w1.length→ev 115 1 [rI leaf,rI set0,rP 0] [(0,B.blk 22 [dO 1 1 QQ]),(1,bR 3 1 eI w1)]=(q0H leaf set0 w1).bind (fun(e:Bool)=>some (rB e,[(0,B.blk 22 [dO 1 1 w1.length]),(1,bR 3 1 eI w1)])):=
 by
 intro leaf set0 w1 QQ h0
 subst h0
 rw[qW qqr qzc.2.2.2 qD0]
 have:=qzL;have:=@q83;have:=@q0H.eq_1;exact gA
theorem qHN:okL 116 qhE:=qZ (qk qtS) (by kernel_rfl) (by kernel_rfl)
def qGg:=JA_ @qhE.eq_1 (JA_ @Tryz.f116.eq_1 @qtS)
theorem qGO:okL 117 qhY:=qZ (qk qxV) (by kernel_rfl) (by kernel_rfl)
def qGo:=JA_ @qhY.eq_1 (JA_ @Tryz.f117.eq_1 @qxV)
def q1X (x:Int) (v:Int) (v2:Int):Option Bool:=if v≤x then some (decide (x<v2)) else some Bool.false
def JR (x:Int) (v:Int) (v2:Int):Bool:=if v≤x then decide (x<v2) else Bool.false
theorem q82 (x v v2:Int):q1X x v v2=some (JR x v v2):=by
 unfold q1X JR
 simp only[Zn]
theorem q8q:∀(x v v2:Int),ev 117 2 [rI x,rP 0,rP 1] [(0,B.blk 3 [dI v]),(1,B.blk 3 [dI v2])]=some (rB (JR x v v2),[(0,B.blk 3 [dI v]),(1,B.blk 3 [dI v2])]):=
 fun x v v2=>by
  have h:ev 117 2 [rI x,rP 0,rP 1] [(0,B.blk 3 [dI v]),(1,B.blk 3 [dI v2])]=(q1X x v v2).bind (fun(e:Bool)=>some (rB e,[(0,B.blk 3 [dI v]),(1,B.blk 3 [dI v2])])):=by
   rw[qW qxV qDX.2.2.2 qGO]
   have:=qGo;have:=@q1X.eq_1;exact gA
  rw[q82] at h
  exact h
def Qa (b0:Int) (b1:Int) (s:List Int) (t7:Int):Int→Option (Int⊕(Int⊕Unit))|t8=>if t8<t7 then if 0≤t8∧t8<((s.length:Nat):Int) then Option.bind s[Int.toNat t8]? fun(a:Int)=>if JR a b0 b1=Bool.true then some (Sum.inr (Sum.inl t8)) else some (Sum.inl (w64 (t8+1))) else none else some (Sum.inr (Sum.inr ()))
theorem q2g:∀(b0 b1:Int) (s:List Int) (t7 t8:Int),XL2 evo 131 2 2 ⟨[(0,rL 1 eI s),(1,R.c (C.fn 117 [] [dP 0,dP 1])),(7,rI t7),(8,rI t8)],[(0,B.blk 3 [dI b0]),(1,B.blk 3 [dI b1])],2,19⟩=(zB (Qa b0 b1 s t7) t8).bind (Sum.elim (fun(e:Int)=>some (Exit.ret,⟨[(4,rI e)],[(0,B.blk 3 [dI b0]),(1,B.blk 3 [dI b1])],2,19⟩)) (fun(e:Unit)=>some (Exit.exit 0,⟨[(4,R.any)],[(0,B.blk 3 [dI b0]),(1,B.blk 3 [dI b1])],2,19⟩))):=
 fun b0 b1 s t7 t8=>by
  revert t8;exact qbj qhe qh3 (fun e=>by rcases e with _|_<;>exact⟨_,rfl,fun h=>by cases h⟩) fun x=>by
   have:=qlf;have:=@qcR.eq_1;have:=@q8q;have:=@Qa.eq_1;exact gA
def Zx (s:List Int) (b0:Int) (b1:Int):Option Int:=Option.bind (zB (Qa b0 b1 s ((s.length:Nat):Int)) 0) fun(a:Sum Int Unit)=>Sum.elim (fun(a2:Int)=>some a2) (fun(a3:Unit)=>some (-1)) a
theorem q2R:∀(s:List Int) (b0 b1:Int),ev 131 2 [rL 1 eI s,R.c (C.fn 117 [] [dP 0,dP 1])] [(0,B.blk 3 [dI b0]),(1,B.blk 3 [dI b1])]=(Zx s b0 b1).bind (fun(e:Int)=>some (rI e,[(0,B.blk 3 [dI b0]),(1,B.blk 3 [dI b1])])):=
 fun s b0 b1=>by
  rw[qW qlH qrG.2.2.2 qql]
  have:=qlf;have:=@q2g;have:=@Zx.eq_1;exact gA
def Z6 (s:List Int) (b0:Int) (b1:Int):Option Bool:=Option.bind (Zx s b0 b1) fun(a:Int)=>some (decide (0≤a))
theorem q2f:∀(s:List Int) (b0 b1:Int),ev 83 2 [rL 1 eI s,R.c (C.fn 117 [] [dP 0,dP 1])] [(0,B.blk 3 [dI b0]),(1,B.blk 3 [dI b1])]=(Z6 s b0 b1).bind (fun(e:Bool)=>some (rB e,[(0,B.blk 3 [dI b0]),(1,B.blk 3 [dI b1])])):=
 fun s b0 b1=>by
  rw[qW qCU qEL.2.2.2 qGZ]
  have:=qH3;have:=@q2R;have:=@Z6.eq_1;exact gA
def q1O (from0:Int) (to:Int) (w1:List Int):Option Bool:=Option.bind (Z6 w1 from0 to) fun(a:Bool)=>some a
theorem qaW:∀(from0 to:Int) (w1:List Int) (QQ:Nat),QQ=w1.length→ev 116 1 [rI from0,rI to,rP 0] [(0,B.blk 22 [dO 1 1 QQ]),(1,bR 3 1 eI w1)]=(q1O from0 to w1).bind (fun(e:Bool)=>some (rB e,[(0,B.blk 22 [dO 1 1 w1.length]),(1,bR 3 1 eI w1)])):=
 by
 intro from0 to w1 QQ h0
 subst h0
 rw[qW qtS qDP.2.2.2 qHN]
 have:=qGg;have:=@q2f;have:=@q1O.eq_1;exact gA
def zt (v:q00 qc) (s:List (q00 qc)) (t7:Int):Int→Option (Int⊕(Int⊕Unit))|t8=>if t8<t7 then if 0≤t8∧t8<((s.length:Nat):Int) then Option.bind s[Int.toNat t8]? fun(a:@q00 qc)=>if((v.a0.School==a.a0.School)=Bool.true∧(ByteArray.toList v.a0.Code==ByteArray.toList a.a0.Code)=Bool.true)∧(v.a1.School==a.a1.School)=Bool.true∧(ByteArray.toList v.a1.Code==ByteArray.toList a.a1.Code)=Bool.true then some (Sum.inr (Sum.inl t8)) else some (Sum.inl (w64 (t8+1))) else none else some (Sum.inr (Sum.inr ()))
theorem q05:∀(q0h:Int) (q2u:ByteArray) (q0i:Int) (q2v:ByteArray) (s:List (q00 qc)) (t7 t8:Int),XL2 evo 114 0 2 ⟨[(0,rL 4 (eA2 qd) s),(3,rP 0),(7,rI t7),(8,rI t8)],[(0,B.blk 70 [dI q0h,dS q2u,dI q0i,dS q2v])],1,19⟩=(zB (zt (q00.mk (qc.mk q0h q2u) (qc.mk q0i q2v)) s t7) t8).bind (Sum.elim (fun(e:Int)=>some (Exit.ret,⟨[(4,rI e)],[],0,19⟩)) (fun(e:Unit)=>some (Exit.exit 0,⟨[(4,R.any)],[],0,19⟩))):=
 fun q0h q2u q0i q2v s t7 t8=>by
  revert t8;exact qbj quh qus (fun e=>by rcases e with _|_<;>exact⟨_,rfl,fun h=>by cases h⟩) fun x=>by
   have:=qDE;have:=@qif.eq_1;have:=@zt.eq_1;exact gA
def Qj (s:List (q00 qc)) (v:q00 qc):Option Int:=Option.bind (zB (zt v s ((s.length:Nat):Int)) 0) fun(a:Sum Int Unit)=>Sum.elim (fun(a2:Int)=>some a2) (fun(a3:Unit)=>some (-1)) a
theorem q0l:∀(s:List (q00 qc)) (q0h:Int) (q2u:ByteArray) (q0i:Int) (q2v:ByteArray),ev 114 0 [rL 4 (eA2 qd) s,R.agg [dI q0h,dS q2u,dI q0i,dS q2v]] []=(Qj s (q00.mk (qc.mk q0h q2u) (qc.mk q0i q2v))).bind (fun(e:Int)=>some (rI e,[])):=
 fun s q0h q2u q0i q2v=>by
  rw[qW qqW qCo.2.2.2 qDy]
  have:=qDE;have:=@q05;have:=@Qj.eq_1;exact gA
def zd (s:List (q00 qc)) (v:q00 qc):Option Bool:=Option.bind (Qj s v) fun(a:Int)=>some (decide (0≤a))
theorem Zq:∀(s:List (q00 qc)) (q0h:Int) (q2u:ByteArray) (q0i:Int) (q2v:ByteArray),ev 70 0 [rL 4 (eA2 qd) s,R.agg [dI q0h,dS q2u,dI q0i,dS q2v]] []=(zd s (q00.mk (qc.mk q0h q2u) (qc.mk q0i q2v))).bind (fun(e:Bool)=>some (rB e,[])):=
 fun s q0h q2u q0i q2v=>by
  rw[qW qI2 qJa.2.2.2 qLH]
  have:=qNr;have:=@q0l;have:=@zd.eq_1;exact gA
def QW (b0:qe) (t62:List (q00 qc)) (t63:Int):Int→Option (Int⊕(Int⊕Unit))|t64=>if t64<t63 then if 0≤t64∧t64<((t62.length:Nat):Int) then Option.bind t62[Int.toNat t64]? fun(a:@q00 qc)=>Option.bind (q14 a.a0) fun(a2:Bool)=>if(!a2)=Bool.true then some (Sum.inr (Sum.inl 1)) else Option.bind (q14 a.a1) fun(a3:Bool)=>if(!a3)=Bool.true then some (Sum.inr (Sum.inl 1)) else Option.bind (q0G a.a0 a.a1) fun(a4:Int)=>if 0≤a4 then some (Sum.inr (Sum.inl 7)) else if 0≤t64∧t64≤((b0.Exclude.length:Nat):Int) then Option.bind (zd (List.take (Int.toNat t64-0) b0.Exclude) a) fun(a5:Bool)=>if a5=Bool.true then some (Sum.inr (Sum.inl 6)) else some (Sum.inl (w64 (t64+1))) else none else none else some (Sum.inr (Sum.inr ()))
theorem q6w:∀(qq zL qn qB:Int) (qC:ByteArray) (qj qr ql:Int) (qm:List qc) (qu:List qb) (qw qT qU:Int) (qo t62:List (q00 qc)) (t63 t64:Int),XL2 evo 56 0 13 ⟨[(1,rP 0),(62,rL 4 (eA2 qd) t62),(63,rI t63),(64,rI t64)],[(0,B.blk 39 [dI qq,dI zL,dI qn,dI qB,dS qC,dI qj,dI qr,dI ql,dL 2 qd qm,dL 5 qh qu,dI qw,dI qT,dI qU,dL 4 (eA2 qd) qo])],1,95⟩=(zB (QW (qe.mk qq zL qn qB qC (qb.mk qj qr ql qm qu) qw qT qU qo) t62 t63) t64).bind (Sum.elim (fun(e:Int)=>some (Exit.ret,⟨[(2,rI e)],[],0,95⟩)) (fun(e:Unit)=>some (Exit.exit 1,⟨[(2,R.any)],[],0,95⟩))):=
 fun qq zL qn qB qC qj qr ql qm qu qw qT qU qo t62 t63 t64=>by
  revert t64;exact qbj qxh quX (fun e=>by rcases e with _|_<;>exact⟨_,rfl,fun h=>by cases h⟩) fun x=>by
   have:=qJm;have:=@qj0.eq_1;have:=@q6F;have:=@q5a;have:=@Zq;have:=@QW.eq_1;exact gA
def q0a (x0:qe):Option Int:=if(!(zD x0.School 1 8))=Bool.true then some 1 else if(!(zD x0.Id 1 999999))=Bool.true then some 3 else if(!(zD x0.Version 1 20))=Bool.true then some 3 else if(!(zD x0.From 0 100000))=Bool.true then some 3 else if(!(zD x0.Total 0 600))=Bool.true then some 3 else if(!(zD x0.Own 0 600))=Bool.true then some 3 else if(!(zD x0.Age 0 100))=Bool.true then some 3 else Option.bind (q1e x0.Name) fun(a:Bool)=>if(!a)=Bool.true then some 1 else Option.bind (JD x0.Need) fun(a2:Int)=>if(a2 != 0)=Bool.true then some a2 else if 8<((x0.Exclude.length:Nat):Int) then some 2 else Option.bind (zB (QW x0 x0.Exclude ((x0.Exclude.length:Nat):Int)) 0) fun(a3:Sum Int Unit)=>Sum.elim (fun(e0:Int)=>some e0) (fun(a4:Unit)=>some 0) a3
theorem q90:∀(z6 J2 qM zT:Int) (zU:ByteArray) (qA z7 qF:Int) (qG:List qc) (z8:List qb) (zw QA QB:Int) (qN:List (q00 qc)),ev 56 0 [R.agg [dI z6,dI J2,dI qM,dI zT,dS zU,dI qA,dI z7,dI qF,dL 2 qd qG,dL 5 qh z8,dI zw,dI QA,dI QB,dL 4 (eA2 qd) qN]] []=(q0a (qe.mk z6 J2 qM zT zU (qb.mk qA z7 qF qG z8) zw QA QB qN)).bind (fun(e:Int)=>some (rI e,[])):=
 fun z6 J2 qM zT zU qA z7 qF qG z8 zw QA QB qN=>by
  rw[qW qEH qIQ.2.2.2 qJV]
  have:=qJm;have:=@Jq;have:=@qcs;have:=@q4c;have:=@q6w;have:=@q0a.eq_1;exact gA
def Qs (p:qe) (s:qg):Option Int:=Option.bind (q0a p) fun(a:Int)=>if(a != 0)=Bool.true then some a else Option.bind (q1u s) fun(e0:Int)=>some e0
theorem q5g:∀(qD JL qy zl:Int) (zm:ByteArray) (qp qE qt:Int) (qx:List qc) (qJ:List qb) (qO Qf Qg:Int) (qL:List (q00 qc)) (zr Q2 Q3:Int),ev 33 0 [R.agg [dI qD,dI JL,dI qy,dI zl,dS zm,dI qp,dI qE,dI qt,dL 2 qd qx,dL 5 qh qJ,dI qO,dI Qf,dI Qg,dL 4 (eA2 qd) qL],R.agg [dI zr,dI Q2,dI Q3]] []=(Qs (qe.mk qD JL qy zl zm (qb.mk qp qE qt qx qJ) qO Qf Qg qL) (qg.mk zr Q2 Q3)).bind (fun(e:Int)=>some (rI e,[])):=
 fun qD JL qy zl zm qp qE qt qx qJ qO Qf Qg qL zr Q2 Q3=>by
  rw[qW qIo qJN.2.2.2 qOa]
  have:=qNh;have:=@q90;have:=@q68;have:=@Qs.eq_1;exact gA
end
noncomputable section
open Go.RowKit
set_option maxRecDepth 20000
set_option maxHeartbeats 8000000
def ZO (b0:qe) (b1:qa) (t1:List qa) (t2:Int) (t7:Int) (t12:List qa) (t13:Int) (t14:Int) (t25:List qa) (t26:Int):Int→Option (Int⊕(Unit⊕Unit))|t27=>if t27<t26 then if 0≤t27∧t27<((t25.length:Nat):Int) then Option.bind t25[Int.toNat t27]? fun(a:qa)=>Option.bind (q3p b1 a) fun(a2:Bool)=>if(!a2)=Bool.true then some (Sum.inr (Sum.inl ())) else Option.bind (zd b0.Exclude (q00.mk b1.Course a.Course)) fun(a3:Bool)=>if a3=Bool.true then some (Sum.inr (Sum.inl ())) else Option.bind (zd b0.Exclude (q00.mk a.Course b1.Course)) fun(a4:Bool)=>if a4=Bool.true then some (Sum.inr (Sum.inl ())) else some (Sum.inl (w64 (t27+1))) else none else some (Sum.inr (Sum.inr ()))
theorem q5O:∀(qq zL qn qB:Int) (qC:ByteArray) (qj qr ql:Int) (qm:List qc) (qu:List qb) (qw qT qU:Int) (qo:List (q00 qc)) (q0B:Int) (q1Q:ByteArray) (q5A qa2 qgU:Int) (q5B:List Int) (q7x:Int) (qdl:List Int) (t1:List qa) (t2 t7:Int) (t12:List qa) (t13 t14:Int) (t25:List qa) (t26 t27:Int),XL2 evo 38 0 8 ⟨[(1,rL 8 qf t1),(2,rI t2),(3,rP 0),(7,rI t7),(9,rP 1),(12,rL 8 qf t12),(13,rI t13),(14,rI t14),(25,rL 8 qf t25),(26,rI t26),(27,rI t27)],[(0,B.blk 39 [dI qq,dI zL,dI qn,dI qB,dS qC,dI qj,dI qr,dI ql,dL 2 qd qm,dL 5 qh qu,dI qw,dI qT,dI qU,dL 4 (eA2 qd) qo]),(1,B.blk 57 [dI q0B,dS q1Q,dI q5A,dI qa2,dI qgU,dL 1 eI q5B,dI q7x,dL 1 eI qdl])],2,83⟩=(zB (ZO (qe.mk qq zL qn qB qC (qb.mk qj qr ql qm qu) qw qT qU qo) (qa.mk (qc.mk q0B q1Q) q5A qa2 qgU q5B q7x qdl) t1 t2 t7 t12 t13 t14 t25 t26) t27).bind (Sum.elim (fun(e:Unit)=>some (Exit.ret,⟨[(1,rL 8 qf t1),(2,rI t2),(3,rP 0),(6,rB Bool.false),(7,rI t7),(9,rP 1),(12,rL 8 qf t12),(13,rI t13),(14,rI t14)],[(0,B.blk 39 [dI qq,dI zL,dI qn,dI qB,dS qC,dI qj,dI qr,dI ql,dL 2 qd qm,dL 5 qh qu,dI qw,dI qT,dI qU,dL 4 (eA2 qd) qo]),(1,B.blk 57 [dI q0B,dS q1Q,dI q5A,dI qa2,dI qgU,dL 1 eI q5B,dI q7x,dL 1 eI qdl])],2,83⟩)) (fun(e:Unit)=>some (Exit.exit 2,⟨[(1,rL 8 qf t1),(2,rI t2),(3,rP 0),(6,R.any),(7,rI t7),(9,rP 1),(12,rL 8 qf t12),(13,rI t13),(14,rI t14)],[(0,B.blk 39 [dI qq,dI zL,dI qn,dI qB,dS qC,dI qj,dI qr,dI ql,dL 2 qd qm,dL 5 qh qu,dI qw,dI qT,dI qU,dL 4 (eA2 qd) qo]),(1,B.blk 57 [dI q0B,dS q1Q,dI q5A,dI qa2,dI qgU,dL 1 eI q5B,dI q7x,dL 1 eI qdl])],2,83⟩))):=
 fun qq zL qn qB qC qj qr ql qm qu qw qT qU qo q0B q1Q q5A qa2 qgU q5B q7x qdl t1 t2 t7 t12 t13 t14 t25 t26 t27=>by
  revert t27;exact qbj qA5 qAa (fun e=>by rcases e with _|_<;>exact⟨_,rfl,fun h=>by cases h⟩) fun x=>by
   have:=qG4;have:=@qmO.eq_1;have:=@qd9;have:=@Zq;have:=@ZO.eq_1;exact gA
def Za (b0:qe) (t1:List qa) (t2:Int) (t12:List qa) (t13:Int):(Int×Int)→Option ((Int×Int)⊕(Int⊕Int))|(t7,t14)=>if t14<t13 then if 0≤t14∧t14<((t12.length:Nat):Int) then Option.bind t12[Int.toNat t14]? fun(a:qa)=>Option.bind (ZS b0 a t2) fun(a2:Bool)=>if a2=Bool.true then some (Sum.inr (Sum.inl t7)) else if 0≤t14∧t14≤((t1.length:Nat):Int) then Option.bind (zB (ZO b0 a t1 t2 t7 t12 t13 t14 (List.take (Int.toNat t14-0) t1) (((List.take (Int.toNat t14-0) t1).length:Nat):Int)) 0) fun(a3:Sum Unit Unit)=>Sum.elim (fun(a4:Unit)=>some (Sum.inr (Sum.inl t7))) (fun(a5:Unit)=>if(a.Course.School==b0.School)=Bool.true then if(a.Bundle==0)=Bool.true then some (Sum.inl (w64 (t7+a.Credits),w64 (t14+1))) else some (Sum.inl (t7,w64 (t14+1))) else some (Sum.inl (t7,w64 (t14+1)))) a3 else none else none else some (Sum.inr (Sum.inr t7))
theorem q5S:∀(qq zL qn qB:Int) (qC:ByteArray) (qj qr ql:Int) (qm:List qc) (qu:List qb) (qw qT qU:Int) (qo:List (q00 qc)) (t1:List qa) (t2 t7:Int) (t12:List qa) (t13 t14:Int),XL2 evo 38 0 3 ⟨[(1,rL 8 qf t1),(2,rI t2),(3,rP 0),(7,rI t7),(12,rL 8 qf t12),(13,rI t13),(14,rI t14)],[(0,B.blk 39 [dI qq,dI zL,dI qn,dI qB,dS qC,dI qj,dI qr,dI ql,dL 2 qd qm,dL 5 qh qu,dI qw,dI qT,dI qU,dL 4 (eA2 qd) qo])],1,83⟩=(zB (Za (qe.mk qq zL qn qB qC (qb.mk qj qr ql qm qu) qw qT qU qo) t1 t2 t12 t13) (t7,t14)).bind (Sum.elim (fun(e:Int)=>some (Exit.ret,⟨[(1,rL 8 qf t1),(3,rP 0),(6,rB Bool.false),(7,rI e)],[(0,B.blk 39 [dI qq,dI zL,dI qn,dI qB,dS qC,dI qj,dI qr,dI ql,dL 2 qd qm,dL 5 qh qu,dI qw,dI qT,dI qU,dL 4 (eA2 qd) qo])],1,83⟩)) (fun(e:Int)=>some (Exit.exit 0,⟨[(1,rL 8 qf t1),(3,rP 0),(6,R.any),(7,rI e)],[(0,B.blk 39 [dI qq,dI zL,dI qn,dI qB,dS qC,dI qj,dI qr,dI ql,dL 2 qd qm,dL 5 qh qu,dI qw,dI qT,dI qU,dL 4 (eA2 qd) qo])],1,83⟩))):=
 fun qq zL qn qB qC qj qr ql qm qu qw qT qU qo t1 t2 t7 t12 t13 t14=>by
  revert t14;revert t7;exact q9j qCk qDh (fun e=>by rcases e with _|_<;>exact⟨_,rfl,fun h=>by cases h⟩) fun t7 t14=>by
   have:=qG4;have:=@qna.eq_1;have:=@q4i;have:=@q5O;have:=@Za.eq_1;exact gA
def JF (x0:qe) (x1:List qa) (x2:Int):Option Bool:=Option.bind (zB (Za x0 x1 x2 x1 ((x1.length:Nat):Int)) (0,0)) fun(a:Sum Int Int)=>Sum.elim (fun(a2:Int)=>some Bool.false) (fun(a3:Int)=>Option.bind (q1I x1) fun(a4:Int)=>if x0.Total≤a4 then some (decide (x0.Own≤a3)) else some Bool.false) a
theorem q3F:∀(z6 J2 qM zT:Int) (zU:ByteArray) (qA z7 qF:Int) (qG:List qc) (z8:List qb) (zw QA QB:Int) (qN:List (q00 qc)) (x1:List qa) (x2:Int),ev 38 0 [R.agg [dI z6,dI J2,dI qM,dI zT,dS zU,dI qA,dI z7,dI qF,dL 2 qd qG,dL 5 qh z8,dI zw,dI QA,dI QB,dL 4 (eA2 qd) qN],rL 8 qf x1,rI x2] []=(JF (qe.mk z6 J2 qM zT zU (qb.mk qA z7 qF qG z8) zw QA QB qN) x1 x2).bind (fun(e:Bool)=>some (rB e,[])):=
 fun z6 J2 qM zT zU qA z7 qF qG z8 zw QA QB qN x1 x2=>by
  rw[qW qA4 qKo.2.2.2 qFj]
  have:=qG4;have:=@q5S;have:=@qaY;have:=@JF.eq_1;exact gA
def zi (x:(qb×List Int×List qa×Int×qg)):List R×List (Nat×B):=([R.agg [C.d (D.int .i64 x.1.Kind),C.d (D.int .i64 x.1.N),C.d (D.int .i64 x.1.Min),C.d (D.sl 2 x.1.Set.length (x.1.Set.flatMap qd)),C.d (D.sl 5 x.1.L.length (x.1.L.flatMap qh))],R.c (C.ptr 0 0),R.c (C.ptr 1 0),R.c (C.ptr 3 0),R.c (C.ptr 4 0),R.c (C.ptr 5 0),R.c (C.ptr 6 0)],[(0,B.blk 26 [C.d (D.sl 8 x.2.2.1.length (x.2.2.1.flatMap qf))]),(1,B.blk 114 [C.fn 115 [] [C.ptr 2 0]]),(2,B.blk 22 [C.own 7 1 0 x.2.1.length]),(3,B.blk 3 [C.d (D.int .i64 x.2.2.2.1)]),(4,B.blk 28 [C.d (D.int .i64 x.2.2.2.2.Worst),C.d (D.int .i64 x.2.2.2.2.Best),C.d (D.int .i64 x.2.2.2.2.Pass)]),(5,B.blk 163 [C.fn 104 [] [C.ptr 0 0,C.ptr 1 0,C.ptr 3 0,C.ptr 4 0,C.ptr 5 0,C.ptr 6 0]]),(6,B.blk 114 [C.fn 116 [] [C.ptr 2 0]]),(7,B.row 3 1 ((x.2.1.flatMap eI).map C.d))])
def Qc:(List Bool×List Int×List qa×Int×qg)→R×List (Nat×B):=fun(e:List Bool×List Int×List qa×Int×qg)=>(R.c (C.d (D.sl 1 e.1.length (e.1.flatMap eB))),[(0,B.blk 26 [C.d (D.sl 8 e.2.2.1.length (e.2.2.1.flatMap qf))]),(1,B.blk 114 [C.fn 115 [] [C.ptr 2 0]]),(2,B.blk 22 [C.own 7 1 0 e.2.1.length]),(3,B.blk 3 [C.d (D.int .i64 e.2.2.2.1)]),(4,B.blk 28 [C.d (D.int .i64 e.2.2.2.2.Worst),C.d (D.int .i64 e.2.2.2.2.Best),C.d (D.int .i64 e.2.2.2.2.Pass)]),(5,B.blk 163 [C.fn 104 [] [C.ptr 0 0,C.ptr 1 0,C.ptr 3 0,C.ptr 4 0,C.ptr 5 0,C.ptr 6 0]]),(6,B.blk 114 [C.fn 116 [] [C.ptr 2 0]]),(7,B.row 3 1 ((e.2.1.flatMap eI).map C.d))])
def ZP (rF:(qb×List Int×List qa×Int×qg)→Option (List Bool×List Int×List qa×Int×qg)) (w7:List Int) (b0:List qa) (b3:Int) (b4:qg) (b8:qb):(List Bool×Int)→Option ((List Bool×Int)⊕(List Bool))|(w9,b10)=>if b10<((w9.length:Nat):Int) then Option.bind (q0H b3 b10 w7) fun(a2:Bool)=>if a2=Bool.true then Option.bind (q11 b8 b4 b0 b10) fun(a3:qP)=>if 0≤b10∧b10<((w9.length:Nat):Int) then if Int.toNat b10+1≤w9.length then some (Sum.inl (List.set w9 (Int.toNat b10) (Q4 a3 b8),w64 (b10+1))) else none else none else if 0≤b10∧b10<((w9.length:Nat):Int) then if Int.toNat b10+1≤w9.length then some (Sum.inl (List.set w9 (Int.toNat b10) Bool.false,w64 (b10+1))) else none else none else some (Sum.inr w9)
theorem q5L (rE:Orc) (rF:(qb×List Int×List qa×Int×qg)→Option (List Bool×List Int×List qa×Int×qg)) (hF:∀y,rE (.fn 104) 7 (zi y).1 (zi y).2=(rF y).bind fun e=>some (Qc e)) (hM:∀g k a G,g≠104→rE (.fn g) k a G=ev g k a G) (hR:∀g asg bd k a G,rE (.rd g asg bd) k a G=evr g asg bd k a G):∀(w7:List Int) (w9:List Bool) (b0:List qa) (b3 QS ZI ZJ Jt qbI q0C:Int) (q0D:List qc) (qbJ:List qb) (b10:Int) (JM zP:Nat),JM=w9.length→zP=w7.length→XL2 rE 104 7 5 ⟨[(1,rP 0),(2,rP 1),(3,rP 3),(4,rP 4),(7,rP 8),(9,rO 9 1 JM),(10,R.c (C.fn 133 [] [])),(11,rP 10)],[(0,B.blk 26 [dL 8 qf b0]),(1,B.blk 114 [C.fn 115 [] [dP 2]]),(2,B.blk 22 [dO 7 1 zP]),(3,B.blk 3 [dI b3]),(4,B.blk 28 [dI QS,dI ZI,dI ZJ]),(5,B.blk 163 [C.fn 104 [] [dP 0,dP 1,dP 3,dP 4,dP 5,dP 6]]),(6,B.blk 114 [C.fn 116 [] [dP 2]]),(7,bR 3 1 eI w7),(8,B.blk 36 [dI Jt,dI qbI,dI q0C,dL 2 qd q0D,dL 5 qh qbJ]),(9,bR 4 1 eB w9),(10,B.blk 3 [dI b10])],11,142⟩=(zB (ZP rF w7 b0 b3 (qg.mk QS ZI ZJ) (qb.mk Jt qbI q0C q0D qbJ)) (w9,b10)).bind (fun(e:List Bool)=>some (Exit.exit 0,⟨[(3,rP 3),(9,rO 8 1 e.length)],[(0,B.blk 26 [dL 8 qf b0]),(1,B.blk 114 [C.fn 115 [] [dP 2]]),(2,B.blk 22 [dO 7 1 w7.length]),(3,B.blk 3 [dI b3]),(4,B.blk 28 [dI QS,dI ZI,dI ZJ]),(5,B.blk 163 [C.fn 104 [] [dP 0,dP 1,dP 3,dP 4,dP 5,dP 6]]),(6,B.blk 114 [C.fn 116 [] [dP 2]]),(7,bR 3 1 eI w7),(8,bR 4 1 eB e)],9,142⟩)):=
 by
 intro w7 w9 b0 b3 QS ZI ZJ Jt qbI q0C q0D qbJ b10 JM zP h0 h1
 subst h0 h1
 revert b10;revert w9;exact q9j qfi qeA (fun e=>by exact⟨_,rfl,fun h=>by cases h⟩) fun w9 b10=>by
  have hF':∀(qH Jc zb:Int) (zc:List qc) (Jd:List qb) (w7:List Int) (v:List qa) (v2 qK zf zg:Int) (zP:Nat),zP=w7.length→rE (.fn 104) 7 [R.agg [dI qH,dI Jc,dI zb,dL 2 qd zc,dL 5 qh Jd],rP 0,rP 1,rP 3,rP 4,rP 5,rP 6] [(0,B.blk 26 [dL 8 qf v]),(1,B.blk 114 [C.fn 115 [] [dP 2]]),(2,B.blk 22 [dO 7 1 zP]),(3,B.blk 3 [dI v2]),(4,B.blk 28 [dI qK,dI zf,dI zg]),(5,B.blk 163 [C.fn 104 [] [dP 0,dP 1,dP 3,dP 4,dP 5,dP 6]]),(6,B.blk 114 [C.fn 116 [] [dP 2]]),(7,bR 3 1 eI w7)]=(rF ((qb.mk qH Jc zb zc Jd),w7,v,v2,(qg.mk qK zf zg))).bind (fun e=>some (rL 1 eB e.1,[(0,B.blk 26 [dL 8 qf e.2.2.1]),(1,B.blk 114 [C.fn 115 [] [dP 2]]),(2,B.blk 22 [dO 7 1 e.2.1.length]),(3,B.blk 3 [dI e.2.2.2.1]),(4,B.blk 28 [dI e.2.2.2.2.Worst,dI e.2.2.2.2.Best,dI e.2.2.2.2.Pass]),(5,B.blk 163 [C.fn 104 [] [dP 0,dP 1,dP 3,dP 4,dP 5,dP 6]]),(6,B.blk 114 [C.fn 116 [] [dP 2]]),(7,bR 3 1 eI e.2.1)])):=by intro qH Jc zb zc Jd w7 v v2 qK zf zg zP h0;subst h0;exact hF ((qb.mk qH Jc zb zc Jd),w7,v,v2,(qg.mk qK zf zg))
  have:=q9u;have:=@qak.eq_1;have:=@q56;have:=@q2Z;have:=@q1G;have:=@ZP.eq_1;exact gA
def ZM (rF:(qb×List Int×List qa×Int×qg)→Option (List Bool×List Int×List qa×Int×qg)) (w7:List Int) (b0:List qa) (b3:Int) (b4:qg) (b8:qb):(List Bool×Int)→Option ((List Bool×Int)⊕(List Bool))|(w9,b10)=>if b10<((w9.length:Nat):Int) then Option.bind (q0H b3 b10 w7) fun(a2:Bool)=>if a2=Bool.true then Option.bind (q11 b8 b4 b0 b10) fun(a3:qP)=>if 0≤b10∧b10<((w9.length:Nat):Int) then if Int.toNat b10+1≤w9.length then some (Sum.inl (List.set w9 (Int.toNat b10) (Qx a3 b8),w64 (b10+1))) else none else none else if 0≤b10∧b10<((w9.length:Nat):Int) then if Int.toNat b10+1≤w9.length then some (Sum.inl (List.set w9 (Int.toNat b10) Bool.false,w64 (b10+1))) else none else none else some (Sum.inr w9)
theorem q5V (rE:Orc) (rF:(qb×List Int×List qa×Int×qg)→Option (List Bool×List Int×List qa×Int×qg)) (hF:∀y,rE (.fn 104) 7 (zi y).1 (zi y).2=(rF y).bind fun e=>some (Qc e)) (hM:∀g k a G,g≠104→rE (.fn g) k a G=ev g k a G) (hR:∀g asg bd k a G,rE (.rd g asg bd) k a G=evr g asg bd k a G):∀(w7:List Int) (w9:List Bool) (b0:List qa) (b3 QS ZI ZJ Jt qbI q0C:Int) (q0D:List qc) (qbJ:List qb) (b10:Int) (JM zP:Nat),JM=w9.length→zP=w7.length→XL2 rE 104 7 5 ⟨[(1,rP 0),(2,rP 1),(3,rP 3),(4,rP 4),(7,rP 8),(9,rO 9 1 JM),(10,R.c (C.fn 134 [] [])),(11,rP 10)],[(0,B.blk 26 [dL 8 qf b0]),(1,B.blk 114 [C.fn 115 [] [dP 2]]),(2,B.blk 22 [dO 7 1 zP]),(3,B.blk 3 [dI b3]),(4,B.blk 28 [dI QS,dI ZI,dI ZJ]),(5,B.blk 163 [C.fn 104 [] [dP 0,dP 1,dP 3,dP 4,dP 5,dP 6]]),(6,B.blk 114 [C.fn 116 [] [dP 2]]),(7,bR 3 1 eI w7),(8,B.blk 36 [dI Jt,dI qbI,dI q0C,dL 2 qd q0D,dL 5 qh qbJ]),(9,bR 4 1 eB w9),(10,B.blk 3 [dI b10])],11,142⟩=(zB (ZM rF w7 b0 b3 (qg.mk QS ZI ZJ) (qb.mk Jt qbI q0C q0D qbJ)) (w9,b10)).bind (fun(e:List Bool)=>some (Exit.exit 0,⟨[(3,rP 3),(9,rO 8 1 e.length)],[(0,B.blk 26 [dL 8 qf b0]),(1,B.blk 114 [C.fn 115 [] [dP 2]]),(2,B.blk 22 [dO 7 1 w7.length]),(3,B.blk 3 [dI b3]),(4,B.blk 28 [dI QS,dI ZI,dI ZJ]),(5,B.blk 163 [C.fn 104 [] [dP 0,dP 1,dP 3,dP 4,dP 5,dP 6]]),(6,B.blk 114 [C.fn 116 [] [dP 2]]),(7,bR 3 1 eI w7),(8,bR 4 1 eB e)],9,142⟩)):=
 by
 intro w7 w9 b0 b3 QS ZI ZJ Jt qbI q0C q0D qbJ b10 JM zP h0 h1
 subst h0 h1
 revert b10;revert w9;exact q9j qfi qeA (fun e=>by exact⟨_,rfl,fun h=>by cases h⟩) fun w9 b10=>by
  have hF':∀(qH Jc zb:Int) (zc:List qc) (Jd:List qb) (w7:List Int) (v:List qa) (v2 qK zf zg:Int) (zP:Nat),zP=w7.length→rE (.fn 104) 7 [R.agg [dI qH,dI Jc,dI zb,dL 2 qd zc,dL 5 qh Jd],rP 0,rP 1,rP 3,rP 4,rP 5,rP 6] [(0,B.blk 26 [dL 8 qf v]),(1,B.blk 114 [C.fn 115 [] [dP 2]]),(2,B.blk 22 [dO 7 1 zP]),(3,B.blk 3 [dI v2]),(4,B.blk 28 [dI qK,dI zf,dI zg]),(5,B.blk 163 [C.fn 104 [] [dP 0,dP 1,dP 3,dP 4,dP 5,dP 6]]),(6,B.blk 114 [C.fn 116 [] [dP 2]]),(7,bR 3 1 eI w7)]=(rF ((qb.mk qH Jc zb zc Jd),w7,v,v2,(qg.mk qK zf zg))).bind (fun e=>some (rL 1 eB e.1,[(0,B.blk 26 [dL 8 qf e.2.2.1]),(1,B.blk 114 [C.fn 115 [] [dP 2]]),(2,B.blk 22 [dO 7 1 e.2.1.length]),(3,B.blk 3 [dI e.2.2.2.1]),(4,B.blk 28 [dI e.2.2.2.2.Worst,dI e.2.2.2.2.Best,dI e.2.2.2.2.Pass]),(5,B.blk 163 [C.fn 104 [] [dP 0,dP 1,dP 3,dP 4,dP 5,dP 6]]),(6,B.blk 114 [C.fn 116 [] [dP 2]]),(7,bR 3 1 eI e.2.1)])):=by intro qH Jc zb zc Jd w7 v v2 qK zf zg zP h0;subst h0;exact hF ((qb.mk qH Jc zb zc Jd),w7,v,v2,(qg.mk qK zf zg))
  have:=q9u;have:=@qak.eq_1;have:=@q56;have:=@q2Z;have:=@q2O;have:=@ZM.eq_1;exact gA
def Z1 (rF:(qb×List Int×List qa×Int×qg)→Option (List Bool×List Int×List qa×Int×qg)) (w7:List Int) (w9:List Bool) (b0:List qa) (b3:Int) (b4:qg) (b8:qb):(List Int×Int)→Option ((List Int×Int)⊕(List Int))|(w11,t13)=>if t13<((w11.length:Nat):Int) then if 0≤t13∧t13<((w11.length:Nat):Int) then if Int.toNat t13+1≤w11.length then some (Sum.inl (List.set w11 (Int.toNat t13) (-1),w64 (t13+1))) else none else none else some (Sum.inr w11)
theorem q5y (rE:Orc) (rF:(qb×List Int×List qa×Int×qg)→Option (List Bool×List Int×List qa×Int×qg)) (hF:∀y,rE (.fn 104) 7 (zi y).1 (zi y).2=(rF y).bind fun e=>some (Qc e)) (hM:∀g k a G,g≠104→rE (.fn g) k a G=ev g k a G) (hR:∀g asg bd k a G,rE (.rd g asg bd) k a G=evr g asg bd k a G):∀(w7:List Int) (w9:List Bool) (w11:List Int) (b0:List qa) (b3 QS ZI ZJ Jt qbI q0C:Int) (q0D:List qc) (qbJ:List qb) (t13:Int) (JM zP q4q:Nat),JM=w9.length→zP=w7.length→q4q=w11.length→XL2 rE 104 7 14 ⟨[(3,rP 3),(5,rP 5),(6,rP 6),(7,rP 8),(9,rO 9 1 JM),(12,rP 10),(13,rI t13)],[(0,B.blk 26 [dL 8 qf b0]),(1,B.blk 114 [C.fn 115 [] [dP 2]]),(2,B.blk 22 [dO 7 1 zP]),(3,B.blk 3 [dI b3]),(4,B.blk 28 [dI QS,dI ZI,dI ZJ]),(5,B.blk 163 [C.fn 104 [] [dP 0,dP 1,dP 3,dP 4,dP 5,dP 6]]),(6,B.blk 114 [C.fn 116 [] [dP 2]]),(7,bR 3 1 eI w7),(8,B.blk 36 [dI Jt,dI qbI,dI q0C,dL 2 qd q0D,dL 5 qh qbJ]),(9,bR 4 1 eB w9),(10,B.blk 164 [dO 11 1 q4q]),(11,bR 3 1 eI w11)],12,142⟩=(zB (Z1 rF w7 w9 b0 b3 (qg.mk QS ZI ZJ) (qb.mk Jt qbI q0C q0D qbJ)) (w11,t13)).bind (fun(e:List Int)=>some (Exit.exit 2,⟨[(3,rP 3),(5,rP 5),(6,rP 6),(7,rP 8),(9,rO 9 1 w9.length),(12,rP 10)],[(0,B.blk 26 [dL 8 qf b0]),(1,B.blk 114 [C.fn 115 [] [dP 2]]),(2,B.blk 22 [dO 7 1 w7.length]),(3,B.blk 3 [dI b3]),(4,B.blk 28 [dI QS,dI ZI,dI ZJ]),(5,B.blk 163 [C.fn 104 [] [dP 0,dP 1,dP 3,dP 4,dP 5,dP 6]]),(6,B.blk 114 [C.fn 116 [] [dP 2]]),(7,bR 3 1 eI w7),(8,B.blk 36 [dI Jt,dI qbI,dI q0C,dL 2 qd q0D,dL 5 qh qbJ]),(9,bR 4 1 eB w9),(10,B.blk 164 [dO 11 1 e.length]),(11,bR 3 1 eI e)],12,142⟩)):=
 by
 intro w7 w9 w11 b0 b3 QS ZI ZJ Jt qbI q0C q0D qbJ t13 JM zP q4q h0 h1 h2
 subst h0 h1 h2
 revert t13;revert w11;exact q9j qkh qjz (fun e=>by exact⟨_,rfl,fun h=>by cases h⟩) fun w11 t13=>by
  have hF':∀(qH Jc zb:Int) (zc:List qc) (Jd:List qb) (w7:List Int) (v:List qa) (v2 qK zf zg:Int) (zP:Nat),zP=w7.length→rE (.fn 104) 7 [R.agg [dI qH,dI Jc,dI zb,dL 2 qd zc,dL 5 qh Jd],rP 0,rP 1,rP 3,rP 4,rP 5,rP 6] [(0,B.blk 26 [dL 8 qf v]),(1,B.blk 114 [C.fn 115 [] [dP 2]]),(2,B.blk 22 [dO 7 1 zP]),(3,B.blk 3 [dI v2]),(4,B.blk 28 [dI qK,dI zf,dI zg]),(5,B.blk 163 [C.fn 104 [] [dP 0,dP 1,dP 3,dP 4,dP 5,dP 6]]),(6,B.blk 114 [C.fn 116 [] [dP 2]]),(7,bR 3 1 eI w7)]=(rF ((qb.mk qH Jc zb zc Jd),w7,v,v2,(qg.mk qK zf zg))).bind (fun e=>some (rL 1 eB e.1,[(0,B.blk 26 [dL 8 qf e.2.2.1]),(1,B.blk 114 [C.fn 115 [] [dP 2]]),(2,B.blk 22 [dO 7 1 e.2.1.length]),(3,B.blk 3 [dI e.2.2.2.1]),(4,B.blk 28 [dI e.2.2.2.2.Worst,dI e.2.2.2.2.Best,dI e.2.2.2.2.Pass]),(5,B.blk 163 [C.fn 104 [] [dP 0,dP 1,dP 3,dP 4,dP 5,dP 6]]),(6,B.blk 114 [C.fn 116 [] [dP 2]]),(7,bR 3 1 eI e.2.1)])):=by intro qH Jc zb zc Jd w7 v v2 qK zf zg zP h0;subst h0;exact hF ((qb.mk qH Jc zb zc Jd),w7,v,v2,(qg.mk qK zf zg))
  have:=q9u;have:=@qbS.eq_1;have:=@Z1.eq_1;exact gA
def QE (rF:(qb×List Int×List qa×Int×qg)→Option (List Bool×List Int×List qa×Int×qg)) (w7:List Int) (w9:List Bool) (w11:List Int) (b0:List qa) (b3:Int) (b4:qg) (b8:qb) (b12:List Bool) (t18:Bool) (t72:List qb) (t73:Int) (t74:Int) (t96:Int):(List Int×Int)→Option ((List Int×Int)⊕(List Int))|(w14,t97)=>if t97<t96 then if 0≤t97∧t97<((w14.length:Nat):Int) then if Int.toNat t97+1≤w14.length then if t18=Bool.true then if 0≤t97∧t97<((w11.length:Nat):Int) then Option.bind w11[Int.toNat t97]? fun(a2:Int)=>if 0≤t97∧t97<((w14.length:Nat):Int) then if Int.toNat t97+1≤w14.length then Option.bind (Qh t97 w11 (List.set (List.set w14 (Int.toNat t97) (-1)) (Int.toNat t97) a2) b12 t97) fun(a3:List Int)=>some (Sum.inl (a3,w64 (t97+1))) else none else none else none else Option.bind (Qh t97 w11 (List.set w14 (Int.toNat t97) (-1)) b12 t97) fun(a4:List Int)=>some (Sum.inl (a4,w64 (t97+1))) else none else none else some (Sum.inr w14)
theorem q5x (rE:Orc) (rF:(qb×List Int×List qa×Int×qg)→Option (List Bool×List Int×List qa×Int×qg)) (hF:∀y,rE (.fn 104) 7 (zi y).1 (zi y).2=(rF y).bind fun e=>some (Qc e)) (hM:∀g k a G,g≠104→rE (.fn g) k a G=ev g k a G) (hR:∀g asg bd k a G,rE (.rd g asg bd) k a G=evr g asg bd k a G):∀(w7:List Int) (w9:List Bool) (w11 w14:List Int) (b0:List qa) (b3 QS ZI ZJ Jt qbI q0C:Int) (q0D:List qc) (qbJ:List qb) (b12:List Bool) (t18:Bool) (t72:List qb) (t73 t74 t96 t97:Int) (JM zP q4q qj6:Nat),JM=w9.length→zP=w7.length→q4q=w11.length→qj6=w14.length→XL2 rE 104 7 25 ⟨[(3,rP 3),(5,rP 5),(6,rP 6),(7,rP 8),(9,rO 9 1 JM),(12,rP 10),(17,rP 12),(18,rB t18),(19,rP 13),(72,rL 5 qh t72),(73,rI t73),(74,rI t74),(96,rI t96),(97,rI t97)],[(0,B.blk 26 [dL 8 qf b0]),(1,B.blk 114 [C.fn 115 [] [dP 2]]),(2,B.blk 22 [dO 7 1 zP]),(3,B.blk 3 [dI b3]),(4,B.blk 28 [dI QS,dI ZI,dI ZJ]),(5,B.blk 163 [C.fn 104 [] [dP 0,dP 1,dP 3,dP 4,dP 5,dP 6]]),(6,B.blk 114 [C.fn 116 [] [dP 2]]),(7,bR 3 1 eI w7),(8,B.blk 36 [dI Jt,dI qbI,dI q0C,dL 2 qd q0D,dL 5 qh qbJ]),(9,bR 4 1 eB w9),(10,B.blk 164 [dO 11 1 q4q]),(11,bR 3 1 eI w11),(12,B.blk 115 [dL 1 eB b12]),(13,B.blk 164 [dO 14 1 qj6]),(14,bR 3 1 eI w14)],15,142⟩=(zB (QE rF w7 w9 w11 b0 b3 (qg.mk QS ZI ZJ) (qb.mk Jt qbI q0C q0D qbJ) b12 t18 t72 t73 t74 t96) (w14,t97)).bind (fun(e:List Int)=>some (Exit.exit 6,⟨[(3,rP 3),(5,rP 5),(6,rP 6),(7,rP 8),(9,rO 9 1 w9.length),(12,rP 10),(19,rP 12),(72,rL 5 qh t72),(73,rI t73),(74,rI t74)],[(0,B.blk 26 [dL 8 qf b0]),(1,B.blk 114 [C.fn 115 [] [dP 2]]),(2,B.blk 22 [dO 7 1 w7.length]),(3,B.blk 3 [dI b3]),(4,B.blk 28 [dI QS,dI ZI,dI ZJ]),(5,B.blk 163 [C.fn 104 [] [dP 0,dP 1,dP 3,dP 4,dP 5,dP 6]]),(6,B.blk 114 [C.fn 116 [] [dP 2]]),(7,bR 3 1 eI w7),(8,B.blk 36 [dI Jt,dI qbI,dI q0C,dL 2 qd q0D,dL 5 qh qbJ]),(9,bR 4 1 eB w9),(10,B.blk 164 [dO 11 1 w11.length]),(11,bR 3 1 eI w11),(12,B.blk 164 [dO 13 1 e.length]),(13,bR 3 1 eI e)],14,142⟩)):=
 by
 intro w7 w9 w11 w14 b0 b3 QS ZI ZJ Jt qbI q0C q0D qbJ b12 t18 t72 t73 t74 t96 t97 JM zP q4q qj6 h0 h1 h2 h3
 subst h0 h1 h2 h3
 revert t97;revert w14;exact q9j qkC qkx (fun e=>by exact⟨_,rfl,fun h=>by cases h⟩) fun w14 t97=>by
  have hF':∀(qH Jc zb:Int) (zc:List qc) (Jd:List qb) (w7:List Int) (v:List qa) (v2 qK zf zg:Int) (zP:Nat),zP=w7.length→rE (.fn 104) 7 [R.agg [dI qH,dI Jc,dI zb,dL 2 qd zc,dL 5 qh Jd],rP 0,rP 1,rP 3,rP 4,rP 5,rP 6] [(0,B.blk 26 [dL 8 qf v]),(1,B.blk 114 [C.fn 115 [] [dP 2]]),(2,B.blk 22 [dO 7 1 zP]),(3,B.blk 3 [dI v2]),(4,B.blk 28 [dI qK,dI zf,dI zg]),(5,B.blk 163 [C.fn 104 [] [dP 0,dP 1,dP 3,dP 4,dP 5,dP 6]]),(6,B.blk 114 [C.fn 116 [] [dP 2]]),(7,bR 3 1 eI w7)]=(rF ((qb.mk qH Jc zb zc Jd),w7,v,v2,(qg.mk qK zf zg))).bind (fun e=>some (rL 1 eB e.1,[(0,B.blk 26 [dL 8 qf e.2.2.1]),(1,B.blk 114 [C.fn 115 [] [dP 2]]),(2,B.blk 22 [dO 7 1 e.2.1.length]),(3,B.blk 3 [dI e.2.2.2.1]),(4,B.blk 28 [dI e.2.2.2.2.Worst,dI e.2.2.2.2.Best,dI e.2.2.2.2.Pass]),(5,B.blk 163 [C.fn 104 [] [dP 0,dP 1,dP 3,dP 4,dP 5,dP 6]]),(6,B.blk 114 [C.fn 116 [] [dP 2]]),(7,bR 3 1 eI e.2.1)])):=by intro qH Jc zb zc Jd w7 v v2 qK zf zg zP h0;subst h0;exact hF ((qb.mk qH Jc zb zc Jd),w7,v,v2,(qg.mk qK zf zg))
  have:=q9u;have:=@qbY.eq_1;have:=@q2l;have:=@QE.eq_1;exact gA
def QY (rF:(qb×List Int×List qa×Int×qg)→Option (List Bool×List Int×List qa×Int×qg)) (w9:List Bool) (b8:qb) (t72:List qb) (t73:Int):(List Int×List Int×List qa×Int×qg×Int)→Option ((List Int×List Int×List qa×Int×qg×Int)⊕(List Int×List Int×List qa×Int×qg))|(w7,w11,b0,b3,b4,t74)=>if t74<t73 then if 0≤t74∧t74<((t72.length:Nat):Int) then Option.bind t72[Int.toNat t74]? fun(a2:qb)=>Option.bind (rF (a2,(w7,(b0,(b3,b4))))) fun(a3:Prod (List Bool) (Prod (List Int) (Prod (List qa) (Prod Int qg))))=>if(b8.Kind==4)=Bool.true then Option.bind (q1O b3 a3.2.2.2.1 a3.2.1) fun(a4:Bool)=>if 0≤((w11.length:Nat):Int)∧8*((w11.length:Nat):Int)≤281474976710656∧((w11.length:Nat):Int)≤9223372036854775807 then Option.bind (zB (QE rF a3.2.1 w9 w11 a3.2.2.1 a3.2.2.2.1 a3.2.2.2.2 b8 a3.1 (!a4) t72 t73 t74 ((w11.length:Nat):Int)) (List.replicate w11.length 0,0)) fun(a5:List Int)=>some (Sum.inl (a3.2.1,a5,a3.2.2.1,a3.2.2.2.1,a3.2.2.2.2,w64 (t74+1))) else none else if 0≤((w11.length:Nat):Int)∧8*((w11.length:Nat):Int)≤281474976710656∧((w11.length:Nat):Int)≤9223372036854775807 then Option.bind (zB (QE rF a3.2.1 w9 w11 a3.2.2.1 a3.2.2.2.1 a3.2.2.2.2 b8 a3.1 Bool.false t72 t73 t74 ((w11.length:Nat):Int)) (List.replicate w11.length 0,0)) fun(a6:List Int)=>some (Sum.inl (a3.2.1,a6,a3.2.2.1,a3.2.2.2.1,a3.2.2.2.2,w64 (t74+1))) else none else none else some (Sum.inr (w7,w11,b0,b3,b4))
theorem q6q (rE:Orc) (rF:(qb×List Int×List qa×Int×qg)→Option (List Bool×List Int×List qa×Int×qg)) (hF:∀y,rE (.fn 104) 7 (zi y).1 (zi y).2=(rF y).bind fun e=>some (Qc e)) (hM:∀g k a G,g≠104→rE (.fn g) k a G=ev g k a G) (hR:∀g asg bd k a G,rE (.rd g asg bd) k a G=evr g asg bd k a G):∀(w7:List Int) (w9:List Bool) (w11:List Int) (b0:List qa) (b3 QS ZI ZJ Jt qbI q0C:Int) (q0D:List qc) (qbJ t72:List qb) (t73 t74:Int) (JM zP q4q:Nat),JM=w9.length→zP=w7.length→q4q=w11.length→XL2 rE 104 7 18 ⟨[(3,rP 3),(5,rP 5),(6,rP 6),(7,rP 8),(9,rO 9 1 JM),(12,rP 10),(72,rL 5 qh t72),(73,rI t73),(74,rI t74)],[(0,B.blk 26 [dL 8 qf b0]),(1,B.blk 114 [C.fn 115 [] [dP 2]]),(2,B.blk 22 [dO 7 1 zP]),(3,B.blk 3 [dI b3]),(4,B.blk 28 [dI QS,dI ZI,dI ZJ]),(5,B.blk 163 [C.fn 104 [] [dP 0,dP 1,dP 3,dP 4,dP 5,dP 6]]),(6,B.blk 114 [C.fn 116 [] [dP 2]]),(7,bR 3 1 eI w7),(8,B.blk 36 [dI Jt,dI qbI,dI q0C,dL 2 qd q0D,dL 5 qh qbJ]),(9,bR 4 1 eB w9),(10,B.blk 164 [dO 11 1 q4q]),(11,bR 3 1 eI w11)],12,142⟩=(zB (QY rF w9 (qb.mk Jt qbI q0C q0D qbJ) t72 t73) (w7,w11,b0,b3,(qg.mk QS ZI ZJ),t74)).bind (fun(e:List Int×List Int×List qa×Int×qg)=>some (Exit.exit 4,⟨[(7,rP 8),(9,rO 9 1 w9.length),(12,rP 10)],[(0,B.blk 26 [dL 8 qf e.2.2.1]),(1,B.blk 114 [C.fn 115 [] [dP 2]]),(2,B.blk 22 [dO 7 1 e.1.length]),(3,B.blk 3 [dI e.2.2.2.1]),(4,B.blk 28 [dI e.2.2.2.2.Worst,dI e.2.2.2.2.Best,dI e.2.2.2.2.Pass]),(5,B.blk 163 [C.fn 104 [] [dP 0,dP 1,dP 3,dP 4,dP 5,dP 6]]),(6,B.blk 114 [C.fn 116 [] [dP 2]]),(7,bR 3 1 eI e.1),(8,B.blk 36 [dI Jt,dI qbI,dI q0C,dL 2 qd q0D,dL 5 qh qbJ]),(9,bR 4 1 eB w9),(10,B.blk 164 [dO 11 1 e.2.1.length]),(11,bR 3 1 eI e.2.1)],12,142⟩)):=
 by
 intro w7 w9 w11 b0 b3 QS ZI ZJ Jt qbI q0C q0D qbJ t72 t73 t74 JM zP q4q h0 h1 h2
 subst h0 h1 h2
 have h:=q4O (E:=rE) (f:=104) (k:=7) (st:=fun x:List Int×List Int×List qa×Int×qg×Int=>(⟨[(3,rP 3),(5,rP 5),(6,rP 6),(7,rP 8),(9,rO 9 1 w9.length),(12,rP 10),(72,rL 5 qh t72),(73,rI t73),(74,rI x.2.2.2.2.2)],[(0,B.blk 26 [dL 8 qf x.2.2.1]),(1,B.blk 114 [C.fn 115 [] [dP 2]]),(2,B.blk 22 [dO 7 1 x.1.length]),(3,B.blk 3 [dI x.2.2.2.1]),(4,B.blk 28 [dI x.2.2.2.2.1.Worst,dI x.2.2.2.2.1.Best,dI x.2.2.2.2.1.Pass]),(5,B.blk 163 [C.fn 104 [] [dP 0,dP 1,dP 3,dP 4,dP 5,dP 6]]),(6,B.blk 114 [C.fn 116 [] [dP 2]]),(7,bR 3 1 eI x.1),(8,B.blk 36 [dI Jt,dI qbI,dI q0C,dL 2 qd q0D,dL 5 qh qbJ]),(9,bR 4 1 eB w9),(10,B.blk 164 [dO 11 1 x.2.1.length]),(11,bR 3 1 eI x.2.1)],12,142⟩:S)) (ex:=fun(e:List Int×List Int×List qa×Int×qg)=>(Exit.exit 4,⟨[(7,rP 8),(9,rO 9 1 w9.length),(12,rP 10)],[(0,B.blk 26 [dL 8 qf e.2.2.1]),(1,B.blk 114 [C.fn 115 [] [dP 2]]),(2,B.blk 22 [dO 7 1 e.1.length]),(3,B.blk 3 [dI e.2.2.2.1]),(4,B.blk 28 [dI e.2.2.2.2.Worst,dI e.2.2.2.2.Best,dI e.2.2.2.2.Pass]),(5,B.blk 163 [C.fn 104 [] [dP 0,dP 1,dP 3,dP 4,dP 5,dP 6]]),(6,B.blk 114 [C.fn 116 [] [dP 2]]),(7,bR 3 1 eI e.1),(8,B.blk 36 [dI Jt,dI qbI,dI q0C,dL 2 qd q0D,dL 5 qh qbJ]),(9,bR 4 1 eB w9),(10,B.blk 164 [dO 11 1 e.2.1.length]),(11,bR 3 1 eI e.2.1)],12,142⟩)) (step:=(QY rF w9 (qb.mk Jt qbI q0C q0D qbJ) t72 t73)) qkq qk8 (fun e h=>by cases h) (fun x=>by
  obtain⟨w7,w11,b0,b3,b4,t74⟩:=x;have hF':∀(qH Jc zb:Int) (zc:List qc) (Jd:List qb) (w7:List Int) (v:List qa) (v2 qK zf zg:Int) (zP:Nat),zP=w7.length→rE (.fn 104) 7 [R.agg [dI qH,dI Jc,dI zb,dL 2 qd zc,dL 5 qh Jd],rP 0,rP 1,rP 3,rP 4,rP 5,rP 6] [(0,B.blk 26 [dL 8 qf v]),(1,B.blk 114 [C.fn 115 [] [dP 2]]),(2,B.blk 22 [dO 7 1 zP]),(3,B.blk 3 [dI v2]),(4,B.blk 28 [dI qK,dI zf,dI zg]),(5,B.blk 163 [C.fn 104 [] [dP 0,dP 1,dP 3,dP 4,dP 5,dP 6]]),(6,B.blk 114 [C.fn 116 [] [dP 2]]),(7,bR 3 1 eI w7)]=(rF ((qb.mk qH Jc zb zc Jd),w7,v,v2,(qg.mk qK zf zg))).bind (fun e=>some (rL 1 eB e.1,[(0,B.blk 26 [dL 8 qf e.2.2.1]),(1,B.blk 114 [C.fn 115 [] [dP 2]]),(2,B.blk 22 [dO 7 1 e.2.1.length]),(3,B.blk 3 [dI e.2.2.2.1]),(4,B.blk 28 [dI e.2.2.2.2.Worst,dI e.2.2.2.2.Best,dI e.2.2.2.2.Pass]),(5,B.blk 163 [C.fn 104 [] [dP 0,dP 1,dP 3,dP 4,dP 5,dP 6]]),(6,B.blk 114 [C.fn 116 [] [dP 2]]),(7,bR 3 1 eI e.2.1)])):=by intro qH Jc zb zc Jd w7 v v2 qK zf zg zP h0;subst h0;exact hF ((qb.mk qH Jc zb zc Jd),w7,v,v2,(qg.mk qK zf zg))
  have:=q9u;have:=@qbQ.eq_1;have:=@qaW;have:=q5x rE rF hF hM hR;have:=@QY.eq_1;exact gA) (w7,w11,b0,b3,(qg.mk QS ZI ZJ),t74)
 exact h
def QX (rF:(qb×List Int×List qa×Int×qg)→Option (List Bool×List Int×List qa×Int×qg)) (w7:List Int) (w10:List Int) (b0:List qa) (b3:Int) (b4:qg) (t21:Int):(List Bool×Int)→Option ((List Bool×Int)⊕(List Bool))|(w8,t22)=>if t22<((w8.length:Nat):Int) then if 0≤t22∧t22<((w10.length:Nat):Int) then Option.bind w10[Int.toNat t22]? fun(a2:Int)=>if 0≤t22∧t22<((w8.length:Nat):Int) then if Int.toNat t22+1≤w8.length then some (Sum.inl (List.set w8 (Int.toNat t22) (decide (t21≤a2)),w64 (t22+1))) else none else none else none else some (Sum.inr w8)
theorem q6x (rE:Orc) (rF:(qb×List Int×List qa×Int×qg)→Option (List Bool×List Int×List qa×Int×qg)) (hF:∀y,rE (.fn 104) 7 (zi y).1 (zi y).2=(rF y).bind fun e=>some (Qc e)) (hM:∀g k a G,g≠104→rE (.fn g) k a G=ev g k a G) (hR:∀g asg bd k a G,rE (.rd g asg bd) k a G=evr g asg bd k a G):∀(w7:List Int) (w8:List Bool) (w10:List Int) (b0:List qa) (b3 QS ZI ZJ t21 t22:Int) (qdi zP qj7:Nat),qdi=w8.length→zP=w7.length→qj7=w10.length→XL2 rE 104 7 38 ⟨[(9,rO 8 1 qdi),(12,rP 9),(21,rI t21),(22,rI t22)],[(0,B.blk 26 [dL 8 qf b0]),(1,B.blk 114 [C.fn 115 [] [dP 2]]),(2,B.blk 22 [dO 7 1 zP]),(3,B.blk 3 [dI b3]),(4,B.blk 28 [dI QS,dI ZI,dI ZJ]),(5,B.blk 163 [C.fn 104 [] [dP 0,dP 1,dP 3,dP 4,dP 5,dP 6]]),(6,B.blk 114 [C.fn 116 [] [dP 2]]),(7,bR 3 1 eI w7),(8,bR 4 1 eB w8),(9,B.blk 164 [dO 10 1 qj7]),(10,bR 3 1 eI w10)],11,142⟩=(zB (QX rF w7 w10 b0 b3 (qg.mk QS ZI ZJ) t21) (w8,t22)).bind (fun(e:List Bool)=>some (Exit.exit 8,⟨[(9,rO 8 1 e.length)],[(0,B.blk 26 [dL 8 qf b0]),(1,B.blk 114 [C.fn 115 [] [dP 2]]),(2,B.blk 22 [dO 7 1 w7.length]),(3,B.blk 3 [dI b3]),(4,B.blk 28 [dI QS,dI ZI,dI ZJ]),(5,B.blk 163 [C.fn 104 [] [dP 0,dP 1,dP 3,dP 4,dP 5,dP 6]]),(6,B.blk 114 [C.fn 116 [] [dP 2]]),(7,bR 3 1 eI w7),(8,bR 4 1 eB e)],9,142⟩)):=
 by
 intro w7 w8 w10 b0 b3 QS ZI ZJ t21 t22 qdi zP qj7 h0 h1 h2
 subst h0 h1 h2
 revert t22;revert w8;exact q9j qk9 qjO (fun e=>by exact⟨_,rfl,fun h=>by cases h⟩) fun w8 t22=>by
  have hF':∀(qH Jc zb:Int) (zc:List qc) (Jd:List qb) (w7:List Int) (v:List qa) (v2 qK zf zg:Int) (zP:Nat),zP=w7.length→rE (.fn 104) 7 [R.agg [dI qH,dI Jc,dI zb,dL 2 qd zc,dL 5 qh Jd],rP 0,rP 1,rP 3,rP 4,rP 5,rP 6] [(0,B.blk 26 [dL 8 qf v]),(1,B.blk 114 [C.fn 115 [] [dP 2]]),(2,B.blk 22 [dO 7 1 zP]),(3,B.blk 3 [dI v2]),(4,B.blk 28 [dI qK,dI zf,dI zg]),(5,B.blk 163 [C.fn 104 [] [dP 0,dP 1,dP 3,dP 4,dP 5,dP 6]]),(6,B.blk 114 [C.fn 116 [] [dP 2]]),(7,bR 3 1 eI w7)]=(rF ((qb.mk qH Jc zb zc Jd),w7,v,v2,(qg.mk qK zf zg))).bind (fun e=>some (rL 1 eB e.1,[(0,B.blk 26 [dL 8 qf e.2.2.1]),(1,B.blk 114 [C.fn 115 [] [dP 2]]),(2,B.blk 22 [dO 7 1 e.2.1.length]),(3,B.blk 3 [dI e.2.2.2.1]),(4,B.blk 28 [dI e.2.2.2.2.Worst,dI e.2.2.2.2.Best,dI e.2.2.2.2.Pass]),(5,B.blk 163 [C.fn 104 [] [dP 0,dP 1,dP 3,dP 4,dP 5,dP 6]]),(6,B.blk 114 [C.fn 116 [] [dP 2]]),(7,bR 3 1 eI e.2.1)])):=by intro qH Jc zb zc Jd w7 v v2 qK zf zg zP h0;subst h0;exact hF ((qb.mk qH Jc zb zc Jd),w7,v,v2,(qg.mk qK zf zg))
  have:=q9u;have:=@qbV.eq_1;have:=@QX.eq_1;exact gA
def q07 (rF:(qb×List Int×List qa×Int×qg)→Option (List Bool×List Int×List qa×Int×qg)):(qb×List Int×List qa×Int×qg)→Option (List Bool×List Int×List qa×Int×qg)|(x0,w7,v,v2,v3)=>if 0≤((v.length:Nat):Int) then if 0≤w64 (1*2 ^ min v.length (IntKind.bits IntKind.i64))∧1*w64 (1*2 ^ min v.length (IntKind.bits IntKind.i64))≤281474976710656∧w64 (1*2 ^ min v.length (IntKind.bits IntKind.i64))≤9223372036854775807 then if JT x0=Bool.true then Option.bind (q1a x0.Kind) fun(a2:Sum Unit Unit)=>Sum.elim (fun(a3:Unit)=>Option.bind (zB (ZP rF w7 v v2 v3 x0) (List.replicate (Int.toNat (w64 (1*2 ^ min v.length (IntKind.bits IntKind.i64)))) Bool.false,1)) fun(a5:List Bool)=>some (a5,w7,v,w64 (v2+1),v3)) (fun(a4:Unit)=>Option.bind (zB (ZM rF w7 v v2 v3 x0) (List.replicate (Int.toNat (w64 (1*2 ^ min v.length (IntKind.bits IntKind.i64)))) Bool.false,1)) fun(a6:List Bool)=>some (a6,w7,v,w64 (v2+1),v3)) a2 else if 0≤((Int.toNat (w64 (1*2 ^ min v.length (IntKind.bits IntKind.i64))):Nat):Int)∧8*((Int.toNat (w64 (1*2 ^ min v.length (IntKind.bits IntKind.i64))):Nat):Int)≤281474976710656∧((Int.toNat (w64 (1*2 ^ min v.length (IntKind.bits IntKind.i64))):Nat):Int)≤9223372036854775807 then Option.bind (zB (Z1 rF w7 (List.replicate (Int.toNat (w64 (1*2 ^ min v.length (IntKind.bits IntKind.i64)))) Bool.false) v v2 v3 x0) (List.replicate (Int.toNat (w64 (1*2 ^ min v.length (IntKind.bits IntKind.i64)))) 0,1)) fun(a7:List Int)=>Option.bind (zB (QY rF (List.replicate (Int.toNat (w64 (1*2 ^ min v.length (IntKind.bits IntKind.i64)))) Bool.false) x0 x0.L ((x0.L.length:Nat):Int)) (w7,(a7,(v,(v2,(v3,0)))))) fun(a8:Prod (List Int) (Prod (List Int) (Prod (List qa) (Prod Int qg))))=>if(x0.Kind==3)=Bool.true then Option.bind (zB (QX rF a8.1 a8.2.1 a8.2.2.1 a8.2.2.2.1 a8.2.2.2.2 ((x0.L.length:Nat):Int)) (List.replicate (Int.toNat (w64 (1*2 ^ min v.length (IntKind.bits IntKind.i64)))) Bool.false,1)) fun(a9:List Bool)=>some (a9,a8.1,a8.2.2.1,a8.2.2.2.1,a8.2.2.2.2) else Option.bind (zB (QX rF a8.1 a8.2.1 a8.2.2.1 a8.2.2.2.1 a8.2.2.2.2 x0.N) (List.replicate (Int.toNat (w64 (1*2 ^ min v.length (IntKind.bits IntKind.i64)))) Bool.false,1)) fun(a10:List Bool)=>some (a10,a8.1,a8.2.2.1,a8.2.2.2.1,a8.2.2.2.2) else none else none else none
theorem q4B:q8h 104 7 zi Qc q07:=by
 intro rE rF hF hM hR x
 obtain⟨x0,w7,v,v2,v3⟩:=x
 show qas rE 104 7 [R.agg [dI x0.Kind,dI x0.N,dI x0.Min,dL 2 qd x0.Set,dL 5 qh x0.L],rP 0,rP 1,rP 3,rP 4,rP 5,rP 6] [(0,B.blk 26 [dL 8 qf v]),(1,B.blk 114 [C.fn 115 [] [dP 2]]),(2,B.blk 22 [dO 7 1 w7.length]),(3,B.blk 3 [dI v2]),(4,B.blk 28 [dI v3.Worst,dI v3.Best,dI v3.Pass]),(5,B.blk 163 [C.fn 104 [] [dP 0,dP 1,dP 3,dP 4,dP 5,dP 6]]),(6,B.blk 114 [C.fn 116 [] [dP 2]]),(7,bR 3 1 eI w7)]=_
 have hF':∀(qH Jc zb:Int) (zc:List qc) (Jd:List qb) (w7:List Int) (v:List qa) (v2 qK zf zg:Int) (zP:Nat),zP=w7.length→rE (.fn 104) 7 [R.agg [dI qH,dI Jc,dI zb,dL 2 qd zc,dL 5 qh Jd],rP 0,rP 1,rP 3,rP 4,rP 5,rP 6] [(0,B.blk 26 [dL 8 qf v]),(1,B.blk 114 [C.fn 115 [] [dP 2]]),(2,B.blk 22 [dO 7 1 zP]),(3,B.blk 3 [dI v2]),(4,B.blk 28 [dI qK,dI zf,dI zg]),(5,B.blk 163 [C.fn 104 [] [dP 0,dP 1,dP 3,dP 4,dP 5,dP 6]]),(6,B.blk 114 [C.fn 116 [] [dP 2]]),(7,bR 3 1 eI w7)]=(rF ((qb.mk qH Jc zb zc Jd),w7,v,v2,(qg.mk qK zf zg))).bind (fun e=>some (rL 1 eB e.1,[(0,B.blk 26 [dL 8 qf e.2.2.1]),(1,B.blk 114 [C.fn 115 [] [dP 2]]),(2,B.blk 22 [dO 7 1 e.2.1.length]),(3,B.blk 3 [dI e.2.2.2.1]),(4,B.blk 28 [dI e.2.2.2.2.Worst,dI e.2.2.2.2.Best,dI e.2.2.2.2.Pass]),(5,B.blk 163 [C.fn 104 [] [dP 0,dP 1,dP 3,dP 4,dP 5,dP 6]]),(6,B.blk 114 [C.fn 116 [] [dP 2]]),(7,bR 3 1 eI e.2.1)])):=by intro qH Jc zb zc Jd w7 v v2 qK zf zg zP h0;subst h0;exact hF ((qb.mk qH Jc zb zc Jd),w7,v,v2,(qg.mk qK zf zg))
 rw[q4F qf5 qiH]
 have:=q9u;have:=@q3T;have:=@q4P;have:=q5L rE rF hF hM hR;have:=q5V rE rF hF hM hR;have:=q5y rE rF hF hM hR;have:=q6q rE rF hF hM hR;have:=q6x rE rF hF hM hR;have:=@q07.eq_1;have:=@Qc.eq_1;exact gA
theorem q2E:∀x y,zi x=zi y→x=y:=by
 rintro⟨⟨qE6,qE7,qE8,qE9,qEa⟩,a1,a2,a3,⟨qOr,qOs,qOt⟩⟩ ⟨⟨qEb,qEc,qEd,qEe,qEf⟩,b1,b2,b3,⟨qOu,qOv,qOw⟩⟩ h
 simp only[zi,Prod.mk.injEq,List.cons.injEq,R.c.injEq,R.agg.injEq,R.tup.injEq,C.d.injEq,C.own.injEq,C.ptr.injEq,C.eptr.injEq,D.int.injEq,D.bool.injEq,D.str.injEq,D.sl.injEq,B.blk.injEq,B.row.injEq,q0P,q2D,q1E,q1F,q2a,q23,q4g,q4d,q47,q0S,true_and,and_true,qPc] at h
 simp only[h]
theorem q6Z:∀x y,Qc x=Qc y→x=y:=by
 rintro⟨a0,a1,a2,a3,⟨qOr,qOs,qOt⟩⟩ ⟨b0,b1,b2,b3,⟨qOu,qOv,qOw⟩⟩ h
 simp only[Qc,Prod.mk.injEq,List.cons.injEq,R.c.injEq,R.agg.injEq,R.tup.injEq,C.d.injEq,C.own.injEq,C.ptr.injEq,C.eptr.injEq,D.int.injEq,D.bool.injEq,D.str.injEq,D.sl.injEq,B.blk.injEq,B.row.injEq,q0P,q2D,q1E,q1F,q2a,q23,q4g,q4d,q47,q0S,true_and,and_true,qPc] at h
 simp only[h]
def zO:(qb×List Int×List qa×Int×qg)→Option (List Bool×List Int×List qa×Int×qg):=q8l 104 7 zi Qc
theorem q9s (x:(qb×List Int×List qa×Int×qg)):zO x=q07 zO x:=qd4 qn7.2.2.2 q2E q6Z q4B x
theorem q8L (x0:qb) (w7:List Int) (v:List qa) (v2:Int) (v3:qg):ev 104 7 [R.agg [dI x0.Kind,dI x0.N,dI x0.Min,dL 2 qd x0.Set,dL 5 qh x0.L],rP 0,rP 1,rP 3,rP 4,rP 5,rP 6] [(0,B.blk 26 [dL 8 qf v]),(1,B.blk 114 [C.fn 115 [] [dP 2]]),(2,B.blk 22 [dO 7 1 w7.length]),(3,B.blk 3 [dI v2]),(4,B.blk 28 [dI v3.Worst,dI v3.Best,dI v3.Pass]),(5,B.blk 163 [C.fn 104 [] [dP 0,dP 1,dP 3,dP 4,dP 5,dP 6]]),(6,B.blk 114 [C.fn 116 [] [dP 2]]),(7,bR 3 1 eI w7)]=(zO (x0,w7,v,v2,v3)).bind (fun(e:List Bool×List Int×List qa×Int×qg)=>some (rL 1 eB e.1,[(0,B.blk 26 [dL 8 qf e.2.2.1]),(1,B.blk 114 [C.fn 115 [] [dP 2]]),(2,B.blk 22 [dO 7 1 e.2.1.length]),(3,B.blk 3 [dI e.2.2.2.1]),(4,B.blk 28 [dI e.2.2.2.2.Worst,dI e.2.2.2.2.Best,dI e.2.2.2.2.Pass]),(5,B.blk 163 [C.fn 104 [] [dP 0,dP 1,dP 3,dP 4,dP 5,dP 6]]),(6,B.blk 114 [C.fn 116 [] [dP 2]]),(7,bR 3 1 eI e.2.1)])):=(q9g qn7.2.2.2 q2E q4B (x0,w7,v,v2,v3))
theorem q9X:∀(qH Jc zb:Int) (zc:List qc) (Jd:List qb) (w7:List Int) (v:List qa) (v2 qK zf zg:Int) (zP:Nat),zP=w7.length→ev 104 7 [R.agg [dI qH,dI Jc,dI zb,dL 2 qd zc,dL 5 qh Jd],rP 0,rP 1,rP 3,rP 4,rP 5,rP 6] [(0,B.blk 26 [dL 8 qf v]),(1,B.blk 114 [C.fn 115 [] [dP 2]]),(2,B.blk 22 [dO 7 1 zP]),(3,B.blk 3 [dI v2]),(4,B.blk 28 [dI qK,dI zf,dI zg]),(5,B.blk 163 [C.fn 104 [] [dP 0,dP 1,dP 3,dP 4,dP 5,dP 6]]),(6,B.blk 114 [C.fn 116 [] [dP 2]]),(7,bR 3 1 eI w7)]=(zO ((qb.mk qH Jc zb zc Jd),w7,v,v2,(qg.mk qK zf zg))).bind (fun(e:List Bool×List Int×List qa×Int×qg)=>some (rL 1 eB e.1,[(0,B.blk 26 [dL 8 qf e.2.2.1]),(1,B.blk 114 [C.fn 115 [] [dP 2]]),(2,B.blk 22 [dO 7 1 e.2.1.length]),(3,B.blk 3 [dI e.2.2.2.1]),(4,B.blk 28 [dI e.2.2.2.2.Worst,dI e.2.2.2.2.Best,dI e.2.2.2.2.Pass]),(5,B.blk 163 [C.fn 104 [] [dP 0,dP 1,dP 3,dP 4,dP 5,dP 6]]),(6,B.blk 114 [C.fn 116 [] [dP 2]]),(7,bR 3 1 eI e.2.1)])):=
 by
 intro qH Jc zb zc Jd w7 v v2 qK zf zg zP h0
 subst h0
 exact q8L (qb.mk qH Jc zb zc Jd) w7 v v2 (qg.mk qK zf zg)
def q2s (n:qb) (s:qg) (l:List qa) (w1:List Int):Option (List Bool×List Int):=Option.bind (zO (n,(w1,(l,(0,s))))) fun(a:Prod (List Bool) (Prod (List Int) (Prod (List qa) (Prod Int qg))))=>some (a.1,a.2.1)
theorem qby:∀(qz n_N qQ:Int) (qR:List qc) (n_L:List qb) (zr Q2 Q3:Int) (l:List qa) (w1:List Int) (QQ:Nat),QQ=w1.length→ev 61 1 [R.agg [dI qz,dI n_N,dI qQ,dL 2 qd qR,dL 5 qh n_L],R.agg [dI zr,dI Q2,dI Q3],rL 8 qf l,R.c (C.fn 115 [] [dP 0]),R.c (C.fn 116 [] [dP 0])] [(0,B.blk 22 [dO 1 1 QQ]),(1,bR 3 1 eI w1)]=(q2s (qb.mk qz n_N qQ qR n_L) (qg.mk zr Q2 Q3) l w1).bind (fun(e:List Bool×List Int)=>some (rL 1 eB e.1,[(0,B.blk 22 [dO 1 1 e.2.length]),(1,bR 3 1 eI e.2)])):=
 by
 intro qz n_N qQ qR n_L zr Q2 Q3 l w1 QQ h0
 subst h0
 rw[qW qEX qFP.2.2.2 qIJ]
 have:=qIS;have:=@q9X;have:=@q2s.eq_1;exact gA
def JQ (w4:List Int) (b0:qb) (b1:qg) (t2:List qa) (t3:Int) (t16:Int) (t49:Int) (t50:Int):(List Int)→Option ((List Int)⊕(List Int))|w3=>Option.bind (q2s b0 b1 t2 w3) fun(a:Prod (List Bool) (List Int))=>if 0≤t3∧t3<((a.1.length:Nat):Int) then Option.bind a.1[Int.toNat t3]? fun(a2:Bool)=>if(!a2)=Bool.true then if 0≤t16∧t16<((a.2.length:Nat):Int) then Option.bind a.2[Int.toNat t16]? fun(a3:Int)=>if 0≤t16∧t16<((a.2.length:Nat):Int) then if Int.toNat t16+1≤a.2.length then some (Sum.inl (List.set a.2 (Int.toNat t16) (w64 (a3+1)))) else none else none else none else some (Sum.inr a.2) else none
theorem q8D:∀(w3 w4:List Int) (q1k qgV q3x:Int) (q3y:List qc) (q3L:List qb) (qY zy zz:Int) (t2:List qa) (t3 t16 t49 t50:Int) (ZF q2w:Nat),ZF=w4.length→q2w=w3.length→XL2 evo 72 0 14 ⟨[(2,rL 8 qf t2),(3,rI t3),(4,rP 0),(5,rP 1),(12,rP 2),(13,R.c (C.fn 115 [] [dP 2])),(14,R.c (C.fn 116 [] [dP 2])),(15,rO 4 1 ZF),(16,rI t16),(49,rI t49),(50,rI t50)],[(0,B.blk 36 [dI q1k,dI qgV,dI q3x,dL 2 qd q3y,dL 5 qh q3L]),(1,B.blk 28 [dI qY,dI zy,dI zz]),(2,B.blk 22 [dO 3 1 q2w]),(3,bR 3 1 eI w3),(4,bR 3 1 eI w4)],5,89⟩=(zB (JQ w4 (qb.mk q1k qgV q3x q3y q3L) (qg.mk qY zy zz) t2 t3 t16 t49 t50) w3).bind (fun(e:List Int)=>some (Exit.exit 2,⟨[(2,rL 8 qf t2),(3,rI t3),(4,rP 0),(5,rP 1),(12,rP 2),(13,R.c (C.fn 115 [] [dP 2])),(14,R.c (C.fn 116 [] [dP 2])),(15,rO 4 1 w4.length),(16,rI t16),(49,rI t49),(50,rI t50)],[(0,B.blk 36 [dI q1k,dI qgV,dI q3x,dL 2 qd q3y,dL 5 qh q3L]),(1,B.blk 28 [dI qY,dI zy,dI zz]),(2,B.blk 22 [dO 3 1 e.length]),(3,bR 3 1 eI e),(4,bR 3 1 eI w4)],5,89⟩)):=
 by
 intro w3 w4 q1k qgV q3x q3y q3L qY zy zz t2 t3 t16 t49 t50 ZF q2w h0 h1
 subst h0 h1
 revert w3;exact qbj qvD qwS (fun e=>by exact⟨_,rfl,fun h=>by cases h⟩) fun x=>by
  have:=qGr;have:=@qi0.eq_1;have:=@qby;have:=@JQ.eq_1;exact gA
def J8 (b0:qb) (b1:qg) (t2:List qa) (t3:Int) (t49:Int):(List Int×List Int×Int)→Option ((List Int×List Int×Int)⊕(List Int))|(w3,w4,t50)=>if t50<t49 then if w3.length+1≤maxLen∧(w3.length+1)*8≤140737488355328 then if 0≤t50 then if(ZW Go.BinOp.and IntKind.i64 (Int.fdiv t3 (2 ^ min (Int.toNat t50) (IntKind.bits IntKind.i64))) 1==0)=Bool.true then some (Sum.inl (w3++[(-1)],w4,w64 (t50+1))) else if 0≤t50∧t50<((w3.length+1:Nat):Int) then if Int.toNat t50≤w3.length then Option.bind (zB (JQ w4 b0 b1 t2 t3 t50 t49 t50) (List.set (w3++[(-1)]) (Int.toNat t50) 0)) fun(a:List Int)=>if 0≤t50∧t50<((a.length:Nat):Int) then Option.bind a[Int.toNat t50]? fun(a2:Int)=>if w4.length+1≤maxLen∧(w4.length+1)*8≤140737488355328 then some (Sum.inl (a,w4++[a2],w64 (t50+1))) else none else none else none else none else none else none else some (Sum.inr w4)
theorem q9v:∀(w3 w4:List Int) (q1k qgV q3x:Int) (q3y:List qc) (q3L:List qb) (qY zy zz:Int) (t2:List qa) (t3 t49 t50:Int) (ZF q2w:Nat),ZF=w4.length→q2w=w3.length→XL2 evo 72 0 9 ⟨[(2,rL 8 qf t2),(3,rI t3),(4,rP 0),(5,rP 1),(12,rP 2),(13,R.c (C.fn 115 [] [dP 2])),(14,R.c (C.fn 116 [] [dP 2])),(15,rO 4 1 ZF),(49,rI t49),(50,rI t50)],[(0,B.blk 36 [dI q1k,dI qgV,dI q3x,dL 2 qd q3y,dL 5 qh q3L]),(1,B.blk 28 [dI qY,dI zy,dI zz]),(2,B.blk 22 [dO 3 1 q2w]),(3,bR 3 1 eI w3),(4,bR 3 1 eI w4)],5,89⟩=(zB (J8 (qb.mk q1k qgV q3x q3y q3L) (qg.mk qY zy zz) t2 t3 t49) (w3,w4,t50)).bind (fun(e:List Int)=>some (Exit.exit 0,⟨[(15,rO 0 1 e.length)],[(0,bR 3 1 eI e)],1,89⟩)):=
 by
 intro w3 w4 q1k qgV q3x q3y q3L qY zy zz t2 t3 t49 t50 ZF q2w h0 h1
 subst h0 h1
 revert t50;revert w4;revert w3;exact qIs qAL qA2 (fun e=>by exact⟨_,rfl,fun h=>by cases h⟩) fun w3 w4 t50=>by
  have:=qGr;have:=@qpK.eq_1;have:=@q8D;have:=@J8.eq_1;exact gA
theorem q6K:∀  (q1k qgV q3x:Int) (q3y:List qc) (q3L:List qb) (qY zy zz:Int) (t2:List qa) (t3 t49 t50:Int),XL2 evo 72 0 9 ⟨[(2,rL 8 qf t2),(3,rI t3),(4,rP 0),(5,rP 1),(12,rP 2),(13,R.c (C.fn 115 [] [dP 2])),(14,R.c (C.fn 116 [] [dP 2])),(15,rO 4 1 0),(49,rI t49),(50,rI t50)],[(0,B.blk 36 [dI q1k,dI qgV,dI q3x,dL 2 qd q3y,dL 5 qh q3L]),(1,B.blk 28 [dI qY,dI zy,dI zz]),(2,B.blk 22 [dO 3 1 0]),(3,B.row 3 1 []),(4,B.row 3 1 [])],5,89⟩=(zB (J8 (qb.mk q1k qgV q3x q3y q3L) (qg.mk qY zy zz) t2 t3 t49) ([],[],t50)).bind (fun(e:List Int)=>some (Exit.exit 0,⟨[(15,rO 0 1 e.length)],[(0,bR 3 1 eI e)],1,89⟩)):=by
 intro q1k qgV q3x q3y q3L qY zy zz t2 t3 t49 t50;have h:=q9v [] [] ((qb.mk q1k qgV q3x q3y q3L)).Kind ((qb.mk q1k qgV q3x q3y q3L)).N ((qb.mk q1k qgV q3x q3y q3L)).Min ((qb.mk q1k qgV q3x q3y q3L)).Set ((qb.mk q1k qgV q3x q3y q3L)).L ((qg.mk qY zy zz)).Worst ((qg.mk qY zy zz)).Best ((qg.mk qY zy zz)).Pass t2 t3 t49 t50 _ _ rfl rfl
 first
  | exact h
  | (simp only[rL,dL,bR,bZ,Nat.reduceAdd] at h;exact h)
def q1c (x0:qb) (x1:qg) (x2:List qa) (x3:Int):Option (List Int×Bool):=Option.bind (q2I x0 x1 x2) fun(a:Prod (List Bool) Int)=>if(a.2 != 0)=Bool.true then some ([],Bool.false) else if x3<0 then some ([],Bool.false) else if((a.1.length:Nat):Int)≤x3 then some ([],Bool.false) else if 0≤x3∧x3<((a.1.length:Nat):Int) then Option.bind a.1[Int.toNat x3]? fun(a2:Bool)=>if(!a2)=Bool.true then some ([],Bool.false) else if 0≤((x2.length:Nat):Int)∧8*((x2.length:Nat):Int)≤281474976710656∧((x2.length:Nat):Int)≤9223372036854775807 then Option.bind (zB (J8 x0 x1 x2 x3 ((x2.length:Nat):Int)) ([],([],0))) fun(a3:List Int)=>some (a3,Bool.true) else none else none
theorem qcC:∀(qH Jc zb:Int) (zc:List qc) (Jd:List qb) (QT ZK ZL:Int) (x2:List qa) (x3:Int),ev 72 0 [R.agg [dI qH,dI Jc,dI zb,dL 2 qd zc,dL 5 qh Jd],R.agg [dI QT,dI ZK,dI ZL],rL 8 qf x2,rI x3] []=(q1c (qb.mk qH Jc zb zc Jd) (qg.mk QT ZK ZL) x2 x3).bind (fun(e:List Int×Bool)=>some (R.tup [rL 1 eI e.1,rB e.2],[])):=
 fun qH Jc zb zc Jd QT ZK ZL x2 x3=>by
  rw[qW qBz qJ5.2.2.2 qFb]
  have:=qGr;have:=@q9r;have:=@q6K;have:=@q1c.eq_1;exact gA
def QC (w2:List Int) (b0:qe) (b1:qg) (t2:List qa) (t3:List Bool) (t4:Int) (t11:Bool) (t12:Int) (t46:List Int) (t47:Int):(List Int×List Int×Int)→Option ((List Int×List Int×Int)⊕(List Int))|(w3,t13,t48)=>if t48<t47 then if 0≤t48∧t48<((t46.length:Nat):Int) then Option.bind t46[Int.toNat t48]? fun(a:Int)=>if 0≤a then if(ZW Go.BinOp.and IntKind.i64 (Int.fdiv t12 (2 ^ min (Int.toNat a) (IntKind.bits IntKind.i64))) 1==0)=Bool.true then if w3.length+1≤maxLen∧(w3.length+1)*8≤140737488355328 then some (Sum.inl (w3++[(-1)],t13,w64 (t48+1))) else none else if 0<((t13.length:Nat):Int) then Option.bind t13[0]? fun(a2:Int)=>if w3.length+1≤maxLen∧(w3.length+1)*8≤140737488355328 then if 1≤((t13.length:Nat):Int) then some (Sum.inl (w3++[a2],List.take (t13.length-1) (List.drop 1 t13),w64 (t48+1))) else none else none else none else none else none else some (Sum.inr w3)
theorem q7q:∀(w2 w3:List Int) (qq zL qn qB:Int) (qC:ByteArray) (qj qr ql:Int) (qm:List qc) (qu:List qb) (qw qT qU:Int) (qo:List (q00 qc)) (qY zy zz:Int) (t2:List qa) (t3:List Bool) (t4:Int) (t11:Bool) (t12:Int) (t13 t46:List Int) (t47 t48:Int) (q1l q2w:Nat),q1l=w2.length→q2w=w3.length→XL2 evo 39 0 9 ⟨[(2,rL 8 qf t2),(3,rL 1 eB t3),(4,rI t4),(5,rP 0),(6,rP 1),(10,rO 2 1 q1l),(11,rB t11),(12,rI t12),(13,rL 1 eI t13),(15,rO 3 1 q2w),(46,rL 1 eI t46),(47,rI t47),(48,rI t48)],[(0,B.blk 39 [dI qq,dI zL,dI qn,dI qB,dS qC,dI qj,dI qr,dI ql,dL 2 qd qm,dL 5 qh qu,dI qw,dI qT,dI qU,dL 4 (eA2 qd) qo]),(1,B.blk 28 [dI qY,dI zy,dI zz]),(2,bR 3 1 eI w2),(3,bR 3 1 eI w3)],4,80⟩=(zB (QC w2 (qe.mk qq zL qn qB qC (qb.mk qj qr ql qm qu) qw qT qU qo) (qg.mk qY zy zz) t2 t3 t4 t11 t12 t46 t47) (w3,t13,t48)).bind (fun(e:List Int)=>some (Exit.exit 2,⟨[(2,rL 8 qf t2),(3,rL 1 eB t3),(4,rI t4),(5,rP 0),(6,rP 1),(10,rO 2 1 w2.length),(11,rB t11),(12,rI t12),(15,rO 3 1 e.length)],[(0,B.blk 39 [dI qq,dI zL,dI qn,dI qB,dS qC,dI qj,dI qr,dI ql,dL 2 qd qm,dL 5 qh qu,dI qw,dI qT,dI qU,dL 4 (eA2 qd) qo]),(1,B.blk 28 [dI qY,dI zy,dI zz]),(2,bR 3 1 eI w2),(3,bR 3 1 eI e)],4,80⟩)):=
 by
 intro w2 w3 qq zL qn qB qC qj qr ql qm qu qw qT qU qo qY zy zz t2 t3 t4 t11 t12 t13 t46 t47 t48 q1l q2w h0 h1
 subst h0 h1
 revert t48;revert t13;revert w3;exact qIs qzo qC3 (fun e=>by exact⟨_,rfl,fun h=>by cases h⟩) fun w3 t13 t48=>by
  have:=qGV;have:=@qlX.eq_1;have:=@QC.eq_1;exact gA
theorem q5w:∀  (w2:List Int) (qq zL qn qB:Int) (qC:ByteArray) (qj qr ql:Int) (qm:List qc) (qu:List qb) (qw qT qU:Int) (qo:List (q00 qc)) (qY zy zz:Int) (t2:List qa) (t3:List Bool) (t4:Int) (t11:Bool) (t12:Int) (t13 t46:List Int) (t47 t48:Int) (q1l:Nat),q1l=w2.length→XL2 evo 39 0 9 ⟨[(2,rL 8 qf t2),(3,rL 1 eB t3),(4,rI t4),(5,rP 0),(6,rP 1),(10,rO 2 1 q1l),(11,rB t11),(12,rI t12),(13,rL 1 eI t13),(15,rO 3 1 0),(46,rL 1 eI t46),(47,rI t47),(48,rI t48)],[(0,B.blk 39 [dI qq,dI zL,dI qn,dI qB,dS qC,dI qj,dI qr,dI ql,dL 2 qd qm,dL 5 qh qu,dI qw,dI qT,dI qU,dL 4 (eA2 qd) qo]),(1,B.blk 28 [dI qY,dI zy,dI zz]),(2,bR 3 1 eI w2),(3,B.row 3 1 [])],4,80⟩=(zB (QC w2 (qe.mk qq zL qn qB qC (qb.mk qj qr ql qm qu) qw qT qU qo) (qg.mk qY zy zz) t2 t3 t4 t11 t12 t46 t47) ([],t13,t48)).bind (fun(e:List Int)=>some (Exit.exit 2,⟨[(2,rL 8 qf t2),(3,rL 1 eB t3),(4,rI t4),(5,rP 0),(6,rP 1),(10,rO 2 1 w2.length),(11,rB t11),(12,rI t12),(15,rO 3 1 e.length)],[(0,B.blk 39 [dI qq,dI zL,dI qn,dI qB,dS qC,dI qj,dI qr,dI ql,dL 2 qd qm,dL 5 qh qu,dI qw,dI qT,dI qU,dL 4 (eA2 qd) qo]),(1,B.blk 28 [dI qY,dI zy,dI zz]),(2,bR 3 1 eI w2),(3,bR 3 1 eI e)],4,80⟩)):=by
 intro w2 qq zL qn qB qC qj qr ql qm qu qw qT qU qo qY zy zz t2 t3 t4 t11 t12 t13 t46 t47 t48 q1l h0;subst h0;have h:=q7q w2 [] ((qe.mk qq zL qn qB qC (qb.mk qj qr ql qm qu) qw qT qU qo)).School ((qe.mk qq zL qn qB qC (qb.mk qj qr ql qm qu) qw qT qU qo)).Id ((qe.mk qq zL qn qB qC (qb.mk qj qr ql qm qu) qw qT qU qo)).Version ((qe.mk qq zL qn qB qC (qb.mk qj qr ql qm qu) qw qT qU qo)).From ((qe.mk qq zL qn qB qC (qb.mk qj qr ql qm qu) qw qT qU qo)).Name ((qe.mk qq zL qn qB qC (qb.mk qj qr ql qm qu) qw qT qU qo)).Need.Kind ((qe.mk qq zL qn qB qC (qb.mk qj qr ql qm qu) qw qT qU qo)).Need.N ((qe.mk qq zL qn qB qC (qb.mk qj qr ql qm qu) qw qT qU qo)).Need.Min ((qe.mk qq zL qn qB qC (qb.mk qj qr ql qm qu) qw qT qU qo)).Need.Set ((qe.mk qq zL qn qB qC (qb.mk qj qr ql qm qu) qw qT qU qo)).Need.L ((qe.mk qq zL qn qB qC (qb.mk qj qr ql qm qu) qw qT qU qo)).Total ((qe.mk qq zL qn qB qC (qb.mk qj qr ql qm qu) qw qT qU qo)).Own ((qe.mk qq zL qn qB qC (qb.mk qj qr ql qm qu) qw qT qU qo)).Age ((qe.mk qq zL qn qB qC (qb.mk qj qr ql qm qu) qw qT qU qo)).Exclude ((qg.mk qY zy zz)).Worst ((qg.mk qY zy zz)).Best ((qg.mk qY zy zz)).Pass t2 t3 t4 t11 t12 t13 t46 t47 t48 _ _ rfl rfl
 first
  | exact h
  | (simp only[rL,dL,bR,bZ,Nat.reduceAdd] at h;exact h)
def Zd (b0:qe) (b1:qg) (t2:List qa) (t3:List Bool) (t4:Int):(List Int×Bool×Int)→Option ((List Int×Bool×Int)⊕(List Int×Bool))|(w2,t11,t12)=>if 0≤t12 then if(ZW Go.BinOp.andNot IntKind.i64 t12 t4 != 0)=Bool.true then some (Sum.inl (w2,t11,w64 (t12-1))) else if 0≤t12∧t12<((t3.length:Nat):Int) then Option.bind t3[Int.toNat t12]? fun(a:Bool)=>if(!a)=Bool.true then some (Sum.inl (w2,t11,w64 (t12-1))) else Option.bind (q1c b0.Need b1 t2 t12) fun(a2:Prod (List Int) Bool)=>if(!a2.2)=Bool.true then some (Sum.inl (w2,t11,w64 (t12-1))) else Option.bind (ZU t4) fun(a3:List Int)=>Option.bind (zB (QC w2 b0 b1 t2 t3 t4 t11 t12 a3 ((a3.length:Nat):Int)) ([],(a2.1,0))) fun(a4:List Int)=>if(!t11)=Bool.true then some (Sum.inl (a4,Bool.true,w64 (t12-1))) else Option.bind (QU a4 w2) fun(a5:Int)=>if a5<0 then some (Sum.inl (a4,Bool.true,w64 (t12-1))) else some (Sum.inl (w2,t11,w64 (t12-1))) else none else some (Sum.inr (w2,t11))
theorem q7h:∀(w2:List Int) (qq zL qn qB:Int) (qC:ByteArray) (qj qr ql:Int) (qm:List qc) (qu:List qb) (qw qT qU:Int) (qo:List (q00 qc)) (qY zy zz:Int) (t2:List qa) (t3:List Bool) (t4:Int) (t11:Bool) (t12:Int) (q1l:Nat),q1l=w2.length→XL2 evo 39 0 2 ⟨[(2,rL 8 qf t2),(3,rL 1 eB t3),(4,rI t4),(5,rP 0),(6,rP 1),(10,rO 2 1 q1l),(11,rB t11),(12,rI t12)],[(0,B.blk 39 [dI qq,dI zL,dI qn,dI qB,dS qC,dI qj,dI qr,dI ql,dL 2 qd qm,dL 5 qh qu,dI qw,dI qT,dI qU,dL 4 (eA2 qd) qo]),(1,B.blk 28 [dI qY,dI zy,dI zz]),(2,bR 3 1 eI w2)],3,80⟩=(zB (Zd (qe.mk qq zL qn qB qC (qb.mk qj qr ql qm qu) qw qT qU qo) (qg.mk qY zy zz) t2 t3 t4) (w2,t11,t12)).bind (fun(e:List Int×Bool)=>some (Exit.exit 0,⟨[(10,rO 0 1 e.1.length),(11,rB e.2)],[(0,bR 3 1 eI e.1)],1,80⟩)):=
 by
 intro w2 qq zL qn qB qC qj qr ql qm qu qw qT qU qo qY zy zz t2 t3 t4 t11 t12 q1l h0
 subst h0
 revert t12;revert t11;revert w2;exact qIs qyZ qCb (fun e=>by exact⟨_,rfl,fun h=>by cases h⟩) fun w2 t11 t12=>by
  have:=qGV;have:=@qmQ.eq_1;have:=@qcC;have:=@q2b;have:=@q5w;have:=@q19;have:=@Zd.eq_1;exact gA
theorem q5r:∀  (qq zL qn qB:Int) (qC:ByteArray) (qj qr ql:Int) (qm:List qc) (qu:List qb) (qw qT qU:Int) (qo:List (q00 qc)) (qY zy zz:Int) (t2:List qa) (t3:List Bool) (t4:Int) (t11:Bool) (t12:Int),XL2 evo 39 0 2 ⟨[(2,rL 8 qf t2),(3,rL 1 eB t3),(4,rI t4),(5,rP 0),(6,rP 1),(10,rO 2 1 0),(11,rB t11),(12,rI t12)],[(0,B.blk 39 [dI qq,dI zL,dI qn,dI qB,dS qC,dI qj,dI qr,dI ql,dL 2 qd qm,dL 5 qh qu,dI qw,dI qT,dI qU,dL 4 (eA2 qd) qo]),(1,B.blk 28 [dI qY,dI zy,dI zz]),(2,B.row 3 1 [])],3,80⟩=(zB (Zd (qe.mk qq zL qn qB qC (qb.mk qj qr ql qm qu) qw qT qU qo) (qg.mk qY zy zz) t2 t3 t4) ([],t11,t12)).bind (fun(e:List Int×Bool)=>some (Exit.exit 0,⟨[(10,rO 0 1 e.1.length),(11,rB e.2)],[(0,bR 3 1 eI e.1)],1,80⟩)):=by
 intro qq zL qn qB qC qj qr ql qm qu qw qT qU qo qY zy zz t2 t3 t4 t11 t12;have h:=q7h [] ((qe.mk qq zL qn qB qC (qb.mk qj qr ql qm qu) qw qT qU qo)).School ((qe.mk qq zL qn qB qC (qb.mk qj qr ql qm qu) qw qT qU qo)).Id ((qe.mk qq zL qn qB qC (qb.mk qj qr ql qm qu) qw qT qU qo)).Version ((qe.mk qq zL qn qB qC (qb.mk qj qr ql qm qu) qw qT qU qo)).From ((qe.mk qq zL qn qB qC (qb.mk qj qr ql qm qu) qw qT qU qo)).Name ((qe.mk qq zL qn qB qC (qb.mk qj qr ql qm qu) qw qT qU qo)).Need.Kind ((qe.mk qq zL qn qB qC (qb.mk qj qr ql qm qu) qw qT qU qo)).Need.N ((qe.mk qq zL qn qB qC (qb.mk qj qr ql qm qu) qw qT qU qo)).Need.Min ((qe.mk qq zL qn qB qC (qb.mk qj qr ql qm qu) qw qT qU qo)).Need.Set ((qe.mk qq zL qn qB qC (qb.mk qj qr ql qm qu) qw qT qU qo)).Need.L ((qe.mk qq zL qn qB qC (qb.mk qj qr ql qm qu) qw qT qU qo)).Total ((qe.mk qq zL qn qB qC (qb.mk qj qr ql qm qu) qw qT qU qo)).Own ((qe.mk qq zL qn qB qC (qb.mk qj qr ql qm qu) qw qT qU qo)).Age ((qe.mk qq zL qn qB qC (qb.mk qj qr ql qm qu) qw qT qU qo)).Exclude ((qg.mk qY zy zz)).Worst ((qg.mk qY zy zz)).Best ((qg.mk qY zy zz)).Pass t2 t3 t4 t11 t12 _ rfl
 first
  | exact h
  | (simp only[rL,dL,bR,bZ,Nat.reduceAdd] at h;exact h)
def q0Y (x0:qe) (x1:qg) (x2:List qa) (x3:List Bool) (x4:Int):Option (List Int×Bool):=Option.bind (zB (Zd x0 x1 x2 x3 x4) ([],(Bool.false,x4))) fun(a:Prod (List Int) Bool)=>some (a.1,a.2)
theorem q9n:∀(z6 J2 qM zT:Int) (zU:ByteArray) (qA z7 qF:Int) (qG:List qc) (z8:List qb) (zw QA QB:Int) (qN:List (q00 qc)) (QT ZK ZL:Int) (x2:List qa) (x3:List Bool) (x4:Int),ev 39 0 [R.agg [dI z6,dI J2,dI qM,dI zT,dS zU,dI qA,dI z7,dI qF,dL 2 qd qG,dL 5 qh z8,dI zw,dI QA,dI QB,dL 4 (eA2 qd) qN],R.agg [dI QT,dI ZK,dI ZL],rL 8 qf x2,rL 1 eB x3,rI x4] []=(q0Y (qe.mk z6 J2 qM zT zU (qb.mk qA z7 qF qG z8) zw QA QB qN) (qg.mk QT ZK ZL) x2 x3 x4).bind (fun(e:List Int×Bool)=>some (R.tup [rL 1 eI e.1,rB e.2],[])):=
 fun z6 J2 qM zT zU qA z7 qF qG z8 zw QA QB qN QT ZK ZL x2 x3 x4=>by
  rw[qW qze qJ3.2.2.2 qHD]
  have:=qGV;have:=@q5r;have:=@q0Y.eq_1;exact gA
theorem qJK:okL 40 qjk:=qZ (qk qEn) (by kernel_rfl) (by kernel_rfl)
def qJp:=JA_ @qjk.eq_1 (JA_ @Tryz.f40.eq_1 @qEn)
theorem qzy:lbO 40 2=qoP:=QG (qk qEn) rfl
theorem qAb:okL 40 qoP:=zV qJK (qOT (i:=0) (by kernel_rfl))
def Qw (l:List Int) (t7:List Int) (t8:Int):(List Int×Int)→Option ((List Int×Int)⊕(List Int))|(out,t9)=>if t9<t8 then if 0≤t9∧t9<((t7.length:Nat):Int) then Option.bind t7[Int.toNat t9]? fun(a:Int)=>if 0≤a∧a<((l.length:Nat):Int) then Option.bind l[Int.toNat a]? fun(a2:Int)=>if out.length+1≤maxLen∧(out.length+1)*8≤140737488355328 then some (Sum.inl (out++[a2],w64 (t9+1))) else none else none else none else some (Sum.inr out)
theorem q4Y:∀(out l t7:List Int) (t8 t9:Int) (Z2:Nat),Z2=out.length→XL2 evo 40 0 2 ⟨[(0,rL 1 eI l),(4,rO 0 1 Z2),(7,rL 1 eI t7),(8,rI t8),(9,rI t9)],[(0,bR 3 1 eI out)],1,22⟩=(zB (Qw l t7 t8) (out,t9)).bind (fun(e:List Int)=>some (Exit.exit 0,⟨[(4,rO 0 1 e.length)],[(0,bR 3 1 eI e)],1,22⟩)):=
 by
 intro out l t7 t8 t9 Z2 h0
 subst h0
 revert t9;revert out;exact q9j qzy qAb (fun e=>by exact⟨_,rfl,fun h=>by cases h⟩) fun out t9=>by
  have:=qJp;have:=@qoP.eq_1;have:=@Qw.eq_1;exact gA
theorem q3S:∀  (l t7:List Int) (t8 t9:Int),XL2 evo 40 0 2 ⟨[(0,rL 1 eI l),(4,rO 0 1 0),(7,rL 1 eI t7),(8,rI t8),(9,rI t9)],[(0,B.row 3 1 [])],1,22⟩=(zB (Qw l t7 t8) ([],t9)).bind (fun(e:List Int)=>some (Exit.exit 0,⟨[(4,rO 0 1 e.length)],[(0,bR 3 1 eI e)],1,22⟩)):=by
 intro l t7 t8 t9;have h:=q4Y [] l t7 t8 t9 _ rfl
 first
  | exact h
  | (simp only[rL,dL,bR,bZ,Nat.reduceAdd] at h;exact h)
def ZZ (l:List Int) (at0:List Int):Option (List Int):=Option.bind (zB (Qw l at0 ((at0.length:Nat):Int)) ([],0)) fun(a:List Int)=>some a
theorem q6o:∀(l at0:List Int),ev 40 0 [rL 1 eI l,rL 1 eI at0] []=(ZZ l at0).bind (fun(e:List Int)=>some (rL 1 eI e,[])):=
 fun l at0=>by
  rw[qW qEn qJd.2.2.2 qJK]
  have:=qJp;have:=@q3S;have:=@ZZ.eq_1;exact gA
def JI (t67:Int) (v:qe) (v2:qg) (v3:Int) (v4:Int) (v5:List Int) (v6:List qa) (v7:List Bool):Option (Unit⊕qI):=Option.bind (ZU t67) fun(a:List Int)=>Option.bind (zS v6 a) fun(a2:List qa)=>Option.bind (JF v a2 v3) fun(a3:Bool)=>if(!a3)=Bool.true then some (Sum.inl ()) else Option.bind (q0Y v v2 v6 v7 t67) fun(a4:Prod (List Int) Bool)=>if a4.2=Bool.true then Option.bind (ZZ v5 a) fun(a5:List Int)=>some (Sum.inr (qI.mk a5 a4.1)) else some (Sum.inl ())
theorem q6r:∀(t67 JX qEi q7y qgW:Int) (qgX:ByteArray) (q4r qa3 q5C:Int) (q5D:List qc) (qa4:List qb) (qdm qq2 qq3:Int) (q7z:List (q00 qc)) (qa5 qdn qdo v3 v4:Int) (v5:List Int) (v6:List qa) (v7:List Bool),evr 15 (raO 15 19) (rbO 15 19) 9 (R.any::R.any::R.any::R.any::rP 0::rP 1::R.any::rP 2::rP 3::rP 4::R.any::rP 5::R.any::R.any::rP 6::rP 7::R.any::R.any::R.any::R.any::R.any::R.any::R.any::R.any::R.any::R.any::R.any::R.any::R.any::R.any::R.any::R.any::R.any::R.any::R.any::R.any::R.any::R.any::R.any::R.any::R.any::R.any::R.any::R.any::R.any::R.any::R.any::R.any::R.any::R.any::R.any::R.any::R.any::R.any::R.any::R.any::R.any::R.any::R.any::R.any::R.any::R.any::R.any::R.any::R.any::R.any::R.any::rI t67::qJD) [(0,B.blk 39 [dI JX,dI qEi,dI q7y,dI qgW,dS qgX,dI q4r,dI qa3,dI q5C,dL 2 qd q5D,dL 5 qh qa4,dI qdm,dI qq2,dI qq3,dL 4 (eA2 qd) q7z]),(1,B.blk 28 [dI qa5,dI qdn,dI qdo]),(2,B.blk 3 [dI v3]),(3,B.blk 48 [C.nils,C.nils]),(4,B.blk 49 [dI v4]),(5,B.blk 22 [dL 1 eI v5]),(6,B.blk 26 [dL 8 qf v6]),(7,B.blk 88 [dL 1 eB v7]),(8,B.ob (AO.lp 15 (R.any::R.any::R.any::R.any::rP 0::rP 1::R.any::rP 2::rP 3::rP 4::R.any::rP 5::R.any::R.any::rP 6::rP 7::qkS) [67] (raO 15 19) (rbO 15 19) LoopState.ready none))]=(JI t67 (qe.mk JX qEi q7y qgW qgX (qb.mk q4r qa3 q5C q5D qa4) qdm qq2 qq3 q7z) (qg.mk qa5 qdn qdo) v3 v4 v5 v6 v7).bind (Sum.elim (fun(e:Unit)=>some (rB Bool.true,[(0,B.blk 39 [dI JX,dI qEi,dI q7y,dI qgW,dS qgX,dI q4r,dI qa3,dI q5C,dL 2 qd q5D,dL 5 qh qa4,dI qdm,dI qq2,dI qq3,dL 4 (eA2 qd) q7z]),(1,B.blk 28 [dI qa5,dI qdn,dI qdo]),(2,B.blk 3 [dI v3]),(3,B.blk 48 [C.nils,C.nils]),(4,B.blk 49 [dI v4]),(5,B.blk 22 [dL 1 eI v5]),(6,B.blk 26 [dL 8 qf v6]),(7,B.blk 88 [dL 1 eB v7]),(8,B.ob (AO.lp 15 (R.any::R.any::R.any::R.any::rP 0::rP 1::R.any::rP 2::rP 3::rP 4::R.any::rP 5::R.any::R.any::rP 6::rP 7::qkS) [67] (raO 15 19) (rbO 15 19) LoopState.ready none))])) (fun(e:qI)=>some (rB Bool.false,[(0,B.blk 39 [dI JX,dI qEi,dI q7y,dI qgW,dS qgX,dI q4r,dI qa3,dI q5C,dL 2 qd q5D,dL 5 qh qa4,dI qdm,dI qq2,dI qq3,dL 4 (eA2 qd) q7z]),(1,B.blk 28 [dI qa5,dI qdn,dI qdo]),(2,B.blk 3 [dI v3]),(3,B.blk 48 [dL 1 eI e.Taken,dL 1 eI e.Leaf]),(4,B.blk 49 [dI 0]),(5,B.blk 22 [dL 1 eI v5]),(6,B.blk 26 [dL 8 qf v6]),(7,B.blk 88 [dL 1 eB v7]),(8,B.ob (AO.lp 15 (R.any::R.any::R.any::R.any::rP 0::rP 1::R.any::rP 2::rP 3::rP 4::R.any::rP 5::R.any::R.any::rP 6::rP 7::qkS) [67] (raO 15 19) (rbO 15 19) LoopState.done (some Code.ret)))]))):=
 fun t67 JX qEi q7y qgW qgX q4r qa3 q5C q5D qa4 qdm qq2 qq3 q7z qa5 qdn qdo v3 v4 v5 v6 v7=>by
  rw[qho qlS qhc (by decide) qvY qlU.1 qlU.2]
  have:=qHO;have:=@qwB;have:=@qtK;have:=@qaP.eq_1;have:=@q8z.eq_1;have:=@q2b;have:=@JO;have:=@q3F;have:=@q9n;have:=@q6o;have:=@JI.eq_1;have:=@qhO;exact gA
def QI (b1:qe) (b2:qg) (b3:Int) (b5:Int) (b6:List Int) (b7:List qa) (b8:List Bool) (b9:Int) (t19:List Int) (t20:Int):Int→Option (Int⊕(qI⊕Unit))|t21=>if t21<t20 then if 0≤t21∧t21<((t19.length:Nat):Int) then Option.bind t19[Int.toNat t21]? fun(a:Int)=>Option.bind (JI a b1 b2 b3 b5 b6 b7 b8) fun(a2:Sum Unit qI)=>Sum.elim (fun(a3:Unit)=>some (Sum.inl (w64 (t21+1)))) (fun(a4:qI)=>some (Sum.inr (Sum.inl a4))) a2 else none else some (Sum.inr (Sum.inr ()))
theorem q6t:∀(zY q1j zG Z3:Int) (Z4:ByteArray) (za zZ zn:Int) (zo:List qc) (Q0:List qb) (Qq Ja Jb:Int) (zH:List (q00 qc)) (Zz JB JC b3 b5:Int) (b6:List Int) (b7:List qa) (b8:List Bool) (b9:Int) (t19:List Int) (t20 t21:Int),XL2 evo 62 10 8 ⟨[(0,R.c (C.hd .yield 0)),(19,rL 1 eI t19),(20,rI t20),(21,rI t21)],[(0,B.ob (AO.lp 15 (R.any::R.any::R.any::R.any::rP 1::rP 2::R.any::rP 3::rP 4::rP 5::R.any::rP 6::R.any::R.any::rP 7::rP 8::qkS) [67] (raO 15 19) (rbO 15 19) LoopState.ready none)),(1,B.blk 39 [dI zY,dI q1j,dI zG,dI Z3,dS Z4,dI za,dI zZ,dI zn,dL 2 qd zo,dL 5 qh Q0,dI Qq,dI Ja,dI Jb,dL 4 (eA2 qd) zH]),(2,B.blk 28 [dI Zz,dI JB,dI JC]),(3,B.blk 3 [dI b3]),(4,B.blk 48 [C.nils,C.nils]),(5,B.blk 49 [dI b5]),(6,B.blk 22 [dL 1 eI b6]),(7,B.blk 26 [dL 8 qf b7]),(8,B.blk 88 [dL 1 eB b8]),(9,B.blk 3 [dI b9])],10,30⟩=(zB (QI (qe.mk zY q1j zG Z3 Z4 (qb.mk za zZ zn zo Q0) Qq Ja Jb zH) (qg.mk Zz JB JC) b3 b5 b6 b7 b8 b9 t19 t20) t21).bind (Sum.elim (fun(e:qI)=>some (Exit.ret,⟨[],[(0,B.ob (AO.lp 15 (R.any::R.any::R.any::R.any::rP 1::rP 2::R.any::rP 3::rP 4::rP 5::R.any::rP 6::R.any::R.any::rP 7::rP 8::qkS) [67] (raO 15 19) (rbO 15 19) LoopState.done (some Code.ret))),(1,B.blk 39 [dI zY,dI q1j,dI zG,dI Z3,dS Z4,dI za,dI zZ,dI zn,dL 2 qd zo,dL 5 qh Q0,dI Qq,dI Ja,dI Jb,dL 4 (eA2 qd) zH]),(2,B.blk 28 [dI Zz,dI JB,dI JC]),(3,B.blk 3 [dI b3]),(4,B.blk 48 [dL 1 eI e.Taken,dL 1 eI e.Leaf]),(5,B.blk 49 [dI 0]),(6,B.blk 22 [dL 1 eI b6]),(7,B.blk 26 [dL 8 qf b7]),(8,B.blk 88 [dL 1 eB b8]),(9,B.blk 3 [dI b9])],10,30⟩)) (fun(e:Unit)=>some (Exit.exit 2,⟨[],[(0,B.ob (AO.lp 15 (R.any::R.any::R.any::R.any::rP 1::rP 2::R.any::rP 3::rP 4::rP 5::R.any::rP 6::R.any::R.any::rP 7::rP 8::qkS) [67] (raO 15 19) (rbO 15 19) LoopState.ready none)),(1,B.blk 39 [dI zY,dI q1j,dI zG,dI Z3,dS Z4,dI za,dI zZ,dI zn,dL 2 qd zo,dL 5 qh Q0,dI Qq,dI Ja,dI Jb,dL 4 (eA2 qd) zH]),(2,B.blk 28 [dI Zz,dI JB,dI JC]),(3,B.blk 3 [dI b3]),(4,B.blk 48 [C.nils,C.nils]),(5,B.blk 49 [dI b5]),(6,B.blk 22 [dL 1 eI b6]),(7,B.blk 26 [dL 8 qf b7]),(8,B.blk 88 [dL 1 eB b8]),(9,B.blk 3 [dI b9])],10,30⟩))):=
 fun zY q1j zG Z3 Z4 za zZ zn zo Q0 Qq Ja Jb zH Zz JB JC b3 b5 b6 b7 b8 b9 t19 t20 t21=>by
  revert t21;exact qbj qDC qAZ (fun e=>by rcases e with _|_<;>exact⟨_,rfl,fun h=>by cases h⟩) fun x=>by
   have:=qFk;have:=@qpT.eq_1;have:=@q6r;have:=@QI.eq_1;exact gA
def q0y (b1:qe) (b2:qg) (b3:Int) (b5:Int) (b6:List Int) (b7:List qa) (b8:List Bool) (v:Int):Option (qI⊕Unit):=if 0≤v then Option.bind (zB (Z0 b1 b2 b3 b5 b6 b7 b8 v (w64 (1*2 ^ min (Int.toNat v) (IntKind.bits IntKind.i64)))) ([],0)) fun(a:List Int)=>if 0<a.length∧a.length<4611686018427387904∧okB QD a=Bool.true then Option.bind (zB (QI b1 b2 b3 b5 b6 b7 b8 v (q0W QD a) (((q0W QD a).length:Nat):Int)) 0) fun(a2:Sum qI Unit)=>Sum.elim (fun(a3:qI)=>some (Sum.inl a3)) (fun(a4:Unit)=>some (Sum.inr ())) a2 else none else none
theorem q8H:∀(zY q1j zG Z3:Int) (Z4:ByteArray) (za zZ zn:Int) (zo:List qc) (Q0:List qb) (Qq Ja Jb:Int) (zH:List (q00 qc)) (Zz JB JC b3 b5:Int) (b6:List Int) (b7:List qa) (b8:List Bool) (v:Int),ev 62 10 [R.c (C.hd .yield 0),rP 9] [(0,B.ob (AO.lp 15 (R.any::R.any::R.any::R.any::rP 1::rP 2::R.any::rP 3::rP 4::rP 5::R.any::rP 6::R.any::R.any::rP 7::rP 8::qkS) [67] (raO 15 19) (rbO 15 19) LoopState.ready none)),(1,B.blk 39 [dI zY,dI q1j,dI zG,dI Z3,dS Z4,dI za,dI zZ,dI zn,dL 2 qd zo,dL 5 qh Q0,dI Qq,dI Ja,dI Jb,dL 4 (eA2 qd) zH]),(2,B.blk 28 [dI Zz,dI JB,dI JC]),(3,B.blk 3 [dI b3]),(4,B.blk 48 [C.nils,C.nils]),(5,B.blk 49 [dI b5]),(6,B.blk 22 [dL 1 eI b6]),(7,B.blk 26 [dL 8 qf b7]),(8,B.blk 88 [dL 1 eB b8]),(9,B.blk 3 [dI v])]=(q0y (qe.mk zY q1j zG Z3 Z4 (qb.mk za zZ zn zo Q0) Qq Ja Jb zH) (qg.mk Zz JB JC) b3 b5 b6 b7 b8 v).bind (Sum.elim (fun(e:qI)=>some (R.tup [],[(0,B.ob (AO.lp 15 (R.any::R.any::R.any::R.any::rP 1::rP 2::R.any::rP 3::rP 4::rP 5::R.any::rP 6::R.any::R.any::rP 7::rP 8::qkS) [67] (raO 15 19) (rbO 15 19) LoopState.done (some Code.ret))),(1,B.blk 39 [dI zY,dI q1j,dI zG,dI Z3,dS Z4,dI za,dI zZ,dI zn,dL 2 qd zo,dL 5 qh Q0,dI Qq,dI Ja,dI Jb,dL 4 (eA2 qd) zH]),(2,B.blk 28 [dI Zz,dI JB,dI JC]),(3,B.blk 3 [dI b3]),(4,B.blk 48 [dL 1 eI e.Taken,dL 1 eI e.Leaf]),(5,B.blk 49 [dI 0]),(6,B.blk 22 [dL 1 eI b6]),(7,B.blk 26 [dL 8 qf b7]),(8,B.blk 88 [dL 1 eB b8]),(9,B.blk 3 [dI v])])) (fun(e:Unit)=>some (R.tup [],[(0,B.ob (AO.lp 15 (R.any::R.any::R.any::R.any::rP 1::rP 2::R.any::rP 3::rP 4::rP 5::R.any::rP 6::R.any::R.any::rP 7::rP 8::qkS) [67] (raO 15 19) (rbO 15 19) LoopState.ready none)),(1,B.blk 39 [dI zY,dI q1j,dI zG,dI Z3,dS Z4,dI za,dI zZ,dI zn,dL 2 qd zo,dL 5 qh Q0,dI Qq,dI Ja,dI Jb,dL 4 (eA2 qd) zH]),(2,B.blk 28 [dI Zz,dI JB,dI JC]),(3,B.blk 3 [dI b3]),(4,B.blk 48 [C.nils,C.nils]),(5,B.blk 49 [dI b5]),(6,B.blk 22 [dL 1 eI b6]),(7,B.blk 26 [dL 8 qf b7]),(8,B.blk 88 [dL 1 eB b8]),(9,B.blk 3 [dI v])]))):=
 fun zY q1j zG Z3 Z4 za zZ zn zo Q0 Qq Ja Jb zH Zz JB JC b3 b5 b6 b7 b8 v=>by
  rw[qW qyG qKk.2.2.2 qIv]
  have:=qFk;have:=@q4V;have:=qHE q7n;have:=@q6t;have:=@q0y.eq_1;exact gA
def zN (x0:qe) (x1:qg) (x2:List qa) (x3:Int):Option (qI×Int):=Option.bind (Qs x0 x1) fun(a:Int)=>if(a != 0)=Bool.true then some (qI.mk [] [],a) else Option.bind (zB (Ze x0 x1 x3 0 x2 x2 ((x2.length:Nat):Int)) ([],0)) fun(a2:List Int)=>if 10<((a2.length:Nat):Int) then some (qI.mk [] [],2) else Option.bind (zS x2 a2) fun(a3:List qa)=>Option.bind (q2I x0.Need x1 a3) fun(a4:Prod (List Bool) Int)=>if(a4.2 != 0)=Bool.true then some (qI.mk [] [],a4.2) else Option.bind (q0y x0 x1 x3 0 a2 a3 a4.1 ((a3.length:Nat):Int)) fun(a5:Sum qI Unit)=>Sum.elim (fun(a6:qI)=>some (a6,0)) (fun(a7:Unit)=>some (qI.mk [] [],31)) a5
theorem q4E:∀(z6 J2 qM zT:Int) (zU:ByteArray) (qA z7 qF:Int) (qG:List qc) (z8:List qb) (zw QA QB:Int) (qN:List (q00 qc)) (QT ZK ZL:Int) (x2:List qa) (x3:Int),ev 15 0 [R.agg [dI z6,dI J2,dI qM,dI zT,dS zU,dI qA,dI z7,dI qF,dL 2 qd qG,dL 5 qh z8,dI zw,dI QA,dI QB,dL 4 (eA2 qd) qN],R.agg [dI QT,dI ZK,dI ZL],rL 8 qf x2,rI x3] []=(zN (qe.mk z6 J2 qM zT zU (qb.mk qA z7 qF qG z8) zw QA QB qN) (qg.mk QT ZK ZL) x2 x3).bind (fun(e:qI×Int)=>some (R.tup [R.agg [dL 1 eI e.1.Taken,dL 1 eI e.1.Leaf],rI e.2],[])):=
 fun z6 J2 qM zT zU qA z7 qF qG z8 zw QA QB qN QT ZK ZL x2 x3=>by
  rw[qW qym qIP.2.2.2 qHI]
  have:=qHO;have:=@q5g;have:=@q5q;have:=@JO;have:=@q9r;have:=@qar;have:=@q8H;have:=@zN.eq_1;have:=@qhO;exact gA
theorem qFo:okL 95 qji:=qZ (qk qA3) (by kernel_rfl) (by kernel_rfl)
def qF1:=JA_ @qji.eq_1 (JA_ @Tryz.f95.eq_1 @qA3)
theorem qtv:lbO 95 5=qke:=QG (qk qA3) rfl
theorem qta:okL 95 qke:=zV qFo (qOT (i:=0) (by kernel_rfl))
def ZD (x:(qb×Int×List qv)):List R×List (Nat×B):=([R.c (C.own 0 6 0 x.2.2.length),R.agg [C.d (D.int .i64 x.1.Kind),C.d (D.int .i64 x.1.N),C.d (D.int .i64 x.1.Min),C.d (D.sl 2 x.1.Set.length (x.1.Set.flatMap qd)),C.d (D.sl 5 x.1.L.length (x.1.L.flatMap qh))],R.c (C.d (D.int .i64 x.2.1))],[(0,B.row 150 6 ((x.2.2.flatMap qV).map C.d))])
def ZY:(Unit⊕(List qv))→R×List (Nat×B):=Sum.elim (fun(e:Unit)=>(R.tup [R.c (C.d (D.sl 6 0 [])),R.c (C.d (D.bool Bool.false))],[])) (fun(e:List qv)=>(R.tup [R.c (C.own 0 6 0 e.length),R.c (C.d (D.bool Bool.true))],[(0,B.row 150 6 ((e.flatMap qV).map C.d))]))
def q0q (rF:(qb×Int×List qv)→Option (Unit⊕(List qv))) (n:qb) (deep:Int):(List qv×Int)→Option ((List qv×Int)⊕(Unit⊕(List qv)))|(out,i)=>if i<((n.L.length:Nat):Int) then if 0≤i∧i<((n.L.length:Nat):Int) then Option.bind n.L[Int.toNat i]? fun(a2:qb)=>Option.bind (rF (a2,(w64 (deep+1),out))) fun(a3:Sum Unit (List qv))=>Sum.elim (fun(a4:Unit)=>some (Sum.inr (Sum.inl ()))) (fun(a5:List qv)=>some (Sum.inl (a5,w64 (i+1)))) a3 else none else some (Sum.inr (Sum.inr out))
theorem q6j (rE:Orc) (rF:(qb×Int×List qv)→Option (Unit⊕(List qv))) (hF:∀y,rE (.fn 95) 0 (ZD y).1 (ZD y).2=(rF y).bind fun e=>some (ZY e)) (hM:∀g k a G,g≠95→rE (.fn g) k a G=ev g k a G) (hR:∀g asg bd k a G,rE (.rd g asg bd) k a G=evr g asg bd k a G):∀(out:List qv) (qz n_N qQ:Int) (qR:List qc) (n_L:List qb) (deep i:Int) (Z2:Nat),Z2=out.length→XL2 rE 95 0 5 ⟨[(0,rO 0 6 Z2),(2,rI deep),(4,rP 1),(8,rI i)],[(0,bR 150 6 qV out),(1,B.blk 36 [dI qz,dI n_N,dI qQ,dL 2 qd qR,dL 5 qh n_L])],2,47⟩=(zB (q0q rF (qb.mk qz n_N qQ qR n_L) deep) (out,i)).bind (Sum.elim (fun(e:Unit)=>some (Exit.ret,⟨[(0,R.c (C.any)),(6,R.c (C.nils)),(7,rB Bool.false)],[],0,47⟩)) (fun(e:List qv)=>some (Exit.exit 0,⟨[(0,rO 0 6 e.length),(6,R.any),(7,R.any)],[(0,bR 150 6 qV e)],1,47⟩))):=
 by
 intro out qz n_N qQ qR n_L deep i Z2 h0
 subst h0
 revert i;revert out;exact q9j qtv qta (fun e=>by rcases e with _|_<;>exact⟨_,rfl,fun h=>by cases h⟩) fun out i=>by
  have hF':∀(qz n_N qQ:Int) (qR:List qc) (n_L:List qb) (deep:Int) (out:List qv) (Z2:Nat),Z2=out.length→rE (.fn 95) 0 [rO 0 6 Z2,R.agg [dI qz,dI n_N,dI qQ,dL 2 qd qR,dL 5 qh n_L],rI deep] [(0,bR 150 6 qV out)]=(rF ((qb.mk qz n_N qQ qR n_L),deep,out)).bind (Sum.elim (fun(e:Unit)=>some (R.tup [R.c (C.d (D.sl 6 0 [])),rB Bool.false],[])) (fun(e:List qv)=>some (R.tup [rO 0 6 e.length,rB Bool.true],[(0,bR 150 6 qV e)]))):=by intro qz n_N qQ qR n_L deep out Z2 h0;subst h0;exact(hF ((qb.mk qz n_N qQ qR n_L),deep,out)).trans (by congr 1;funext e;rcases e with _|_<;>rfl)
  have:=qF1;have:=@qke.eq_1;have:=@q0q.eq_1;exact gA
def q0o (rF:(qb×Int×List qv)→Option (Unit⊕(List qv))):(qb×Int×List qv)→Option (Unit⊕(List qv))|(n,deep,out)=>if 100<deep then some (Sum.inl ()) else if 10000≤((out.length:Nat):Int) then some (Sum.inl ()) else if out.length+1≤maxLen∧(out.length+1)*80≤140737488355328 then Option.bind (zB (q0q rF n deep) (out++[qv.mk n deep],0)) fun(a2:Sum Unit (List qv))=>Sum.elim (fun(a3:Unit)=>some (Sum.inl ())) (fun(a4:List qv)=>some (Sum.inr a4)) a2 else none
theorem q5u:q8h 95 0 ZD ZY q0o:=by
 intro rE rF hF hM hR x
 obtain⟨n,deep,out⟩:=x
 show qas rE 95 0 [rO 0 6 out.length,R.agg [dI n.Kind,dI n.N,dI n.Min,dL 2 qd n.Set,dL 5 qh n.L],rI deep] [(0,bR 150 6 qV out)]=_
 have hF':∀(qz n_N qQ:Int) (qR:List qc) (n_L:List qb) (deep:Int) (out:List qv) (Z2:Nat),Z2=out.length→rE (.fn 95) 0 [rO 0 6 Z2,R.agg [dI qz,dI n_N,dI qQ,dL 2 qd qR,dL 5 qh n_L],rI deep] [(0,bR 150 6 qV out)]=(rF ((qb.mk qz n_N qQ qR n_L),deep,out)).bind (Sum.elim (fun(e:Unit)=>some (R.tup [R.c (C.d (D.sl 6 0 [])),rB Bool.false],[])) (fun(e:List qv)=>some (R.tup [rO 0 6 e.length,rB Bool.true],[(0,bR 150 6 qV e)]))):=by intro qz n_N qQ qR n_L deep out Z2 h0;subst h0;exact(hF ((qb.mk qz n_N qQ qR n_L),deep,out)).trans (by congr 1;funext e;rcases e with _|_<;>rfl)
 rw[q4F qA3 qFo]
 have:=qF1;have:=q6j rE rF hF hM hR;have:=@q0o.eq_1;have:=@ZY.eq_1;exact gA
theorem q3m:∀x y,ZD x=ZD y→x=y:=by
 rintro⟨⟨qE6,qE7,qE8,qE9,qEa⟩,a1,a2⟩ ⟨⟨qEb,qEc,qEd,qEe,qEf⟩,b1,b2⟩ h
 simp only[ZD,Prod.mk.injEq,List.cons.injEq,R.c.injEq,R.agg.injEq,R.tup.injEq,C.d.injEq,C.own.injEq,C.ptr.injEq,C.eptr.injEq,D.int.injEq,D.bool.injEq,D.str.injEq,D.sl.injEq,B.blk.injEq,B.row.injEq,q0P,q2D,q1E,q1F,q2a,q23,q4g,q4d,q47,q0S,true_and,and_true,qPc] at h
 simp only[h]
theorem q7T:∀x y,ZY x=ZY y→x=y:=by
 rintro(_|a1) (_|b1) h<;>simp only[Sum.elim_inl,Sum.elim_inr,ZY,Prod.mk.injEq,List.cons.injEq,R.c.injEq,R.agg.injEq,R.tup.injEq,C.d.injEq,C.own.injEq,C.ptr.injEq,C.eptr.injEq,D.int.injEq,D.bool.injEq,D.str.injEq,D.sl.injEq,B.blk.injEq,B.row.injEq,q0P,q2D,q1E,q1F,q2a,q23,q4g,q4d,q47,q0S,true_and,and_true,qPc,reduceCtorEq,false_and,and_false] at h<;>simp only[h]
def ZA:(qb×Int×List qv)→Option (Unit⊕(List qv)):=q8l 95 0 ZD ZY
theorem qaA (x:(qb×Int×List qv)):ZA x=q0o ZA x:=qd4 qEk.2.2.2 q3m q7T q5u x
theorem q9S (n:qb) (deep:Int) (out:List qv):ev 95 0 [rO 0 6 out.length,R.agg [dI n.Kind,dI n.N,dI n.Min,dL 2 qd n.Set,dL 5 qh n.L],rI deep] [(0,bR 150 6 qV out)]=(ZA (n,deep,out)).bind (Sum.elim (fun(e:Unit)=>some (R.tup [R.c (C.d (D.sl 6 0 [])),rB Bool.false],[])) (fun(e:List qv)=>some (R.tup [rO 0 6 e.length,rB Bool.true],[(0,bR 150 6 qV e)]))):=(q9g qEk.2.2.2 q3m q5u (n,deep,out)).trans (by congr 1;funext e;rcases e with _|_<;>rfl)
theorem qaU:∀(qz n_N qQ:Int) (qR:List qc) (n_L:List qb) (deep:Int) (out:List qv) (Z2:Nat),Z2=out.length→ev 95 0 [rO 0 6 Z2,R.agg [dI qz,dI n_N,dI qQ,dL 2 qd qR,dL 5 qh n_L],rI deep] [(0,bR 150 6 qV out)]=(ZA ((qb.mk qz n_N qQ qR n_L),deep,out)).bind (Sum.elim (fun(e:Unit)=>some (R.tup [R.c (C.d (D.sl 6 0 [])),rB Bool.false],[])) (fun(e:List qv)=>some (R.tup [rO 0 6 e.length,rB Bool.true],[(0,bR 150 6 qV e)]))):=
 by
 intro qz n_N qQ qR n_L deep out Z2 h0
 subst h0
 exact q9S (qb.mk qz n_N qQ qR n_L) deep out
def q1b (n:qb) (deep:Int):(List qv×Int)→Option ((List qv×Int)⊕(Unit⊕(List qv)))|(out,i)=>if i<((n.L.length:Nat):Int) then if 0≤i∧i<((n.L.length:Nat):Int) then Option.bind n.L[Int.toNat i]? fun(a:qb)=>Option.bind (ZA (a,(w64 (deep+1),out))) fun(a2:Sum Unit (List qv))=>Sum.elim (fun(a3:Unit)=>some (Sum.inr (Sum.inl ()))) (fun(a4:List qv)=>some (Sum.inl (a4,w64 (i+1)))) a2 else none else some (Sum.inr (Sum.inr out))
theorem q9B:∀(out:List qv) (qz n_N qQ:Int) (qR:List qc) (n_L:List qb) (deep i:Int) (Z2:Nat),Z2=out.length→XL2 evo 95 0 5 ⟨[(0,rO 0 6 Z2),(2,rI deep),(4,rP 1),(8,rI i)],[(0,bR 150 6 qV out),(1,B.blk 36 [dI qz,dI n_N,dI qQ,dL 2 qd qR,dL 5 qh n_L])],2,47⟩=(zB (q1b (qb.mk qz n_N qQ qR n_L) deep) (out,i)).bind (Sum.elim (fun(e:Unit)=>some (Exit.ret,⟨[(0,R.c (C.any)),(6,R.c (C.nils)),(7,rB Bool.false)],[],0,47⟩)) (fun(e:List qv)=>some (Exit.exit 0,⟨[(0,rO 0 6 e.length),(6,R.any),(7,R.any)],[(0,bR 150 6 qV e)],1,47⟩))):=
 by
 intro out qz n_N qQ qR n_L deep i Z2 h0
 subst h0
 revert i;revert out;exact q9j qtv qta (fun e=>by rcases e with _|_<;>exact⟨_,rfl,fun h=>by cases h⟩) fun out i=>by
  have:=qF1;have:=@qke.eq_1;have:=@qaU;have:=@q1b.eq_1;exact gA
theorem q7d:∀(q3g q63 q3W:Int) (q3X:List qc) (q64:List qb) (qa6 qz n_N qQ:Int) (qR:List qc) (n_L:List qb) (deep i:Int),XL2 evo 95 0 5 ⟨[(0,rO 0 6 1),(2,rI deep),(4,rP 1),(8,rI i)],[(0,B.row 150 6 [dI q3g,dI q63,dI q3W,dL 2 qd q3X,dL 5 qh q64,dI qa6]),(1,B.blk 36 [dI qz,dI n_N,dI qQ,dL 2 qd qR,dL 5 qh n_L])],2,47⟩=(zB (q1b (qb.mk qz n_N qQ qR n_L) deep) ([(qv.mk (qb.mk q3g q63 q3W q3X q64) qa6)],i)).bind (Sum.elim (fun(e:Unit)=>some (Exit.ret,⟨[(0,R.c (C.any)),(6,R.c (C.nils)),(7,rB Bool.false)],[],0,47⟩)) (fun(e:List qv)=>some (Exit.exit 0,⟨[(0,rO 0 6 e.length),(6,R.any),(7,R.any)],[(0,bR 150 6 qV e)],1,47⟩))):=by
 intro q3g q63 q3W q3X q64 qa6 qz n_N qQ qR n_L deep i;have h:=q9B [(qv.mk (qb.mk q3g q63 q3W q3X q64) qa6)] ((qb.mk qz n_N qQ qR n_L)).Kind ((qb.mk qz n_N qQ qR n_L)).N ((qb.mk qz n_N qQ qR n_L)).Min ((qb.mk qz n_N qQ qR n_L)).Set ((qb.mk qz n_N qQ qR n_L)).L deep i _ rfl
 first
  | exact h
  | (simp only[rL,dL,bR,bZ,Nat.reduceAdd] at h;exact h)
def q3k (n:qb) (deep:Int):Option (Unit⊕(List qv)):=if 100<deep then some (Sum.inl ()) else if 1≤maxLen then Option.bind (zB (q1b n deep) ([qv.mk n deep],0)) fun(a:Sum Unit (List qv))=>Sum.elim (fun(a2:Unit)=>some (Sum.inl ())) (fun(a3:List qv)=>some (Sum.inr a3)) a else none
theorem qcU:∀(qz n_N qQ:Int) (qR:List qc) (n_L:List qb) (deep:Int),ev 95 0 [R.c (C.nils),R.agg [dI qz,dI n_N,dI qQ,dL 2 qd qR,dL 5 qh n_L],rI deep] []=(q3k (qb.mk qz n_N qQ qR n_L) deep).bind (Sum.elim (fun(e:Unit)=>some (R.tup [R.c (C.d (D.sl 6 0 [])),rB Bool.false],[])) (fun(e:List qv)=>some (R.tup [rO 0 6 e.length,rB Bool.true],[(0,bR 150 6 qV e)]))):=
 fun qz n_N qQ qR n_L deep=>by
  rw[qW qA3 qEk.2.2.2 qFo]
  have:=qF1;have:=@q7d;have:=@q3k.eq_1;exact gA
theorem qNo:okL 93 qpO:=qZ (qk qFL) (by kernel_rfl) (by kernel_rfl)
def qNM:=JA_ @qpO.eq_1 (JA_ @Tryz.f93.eq_1 @qFL)
def q1Z (a:qc) (b:qc):Option Bool:=if a.School<b.School then some Bool.true else if(a.School==b.School)=Bool.true then some (Op.bytesLess (ByteArray.toList a.Code) (ByteArray.toList b.Code)) else some Bool.false
def Qo (a:qc) (b:qc):Bool:=if a.School<b.School then Bool.true else if(a.School==b.School)=Bool.true then Op.bytesLess (ByteArray.toList a.Code) (ByteArray.toList b.Code) else Bool.false
theorem q7S (a b:qc):q1Z a b=some (Qo a b):=by
 unfold q1Z Qo
 simp only[Zn]
theorem q0t:∀(JW:Int) (q3w:ByteArray) (q3V:Int) (qa1:ByteArray),ev 93 0 [R.agg [dI JW,dS q3w],R.agg [dI q3V,dS qa1]] []=some (rB (Qo (qc.mk JW q3w) (qc.mk q3V qa1)),[]):=
 fun JW q3w q3V qa1=>by
  have h:ev 93 0 [R.agg [dI JW,dS q3w],R.agg [dI q3V,dS qa1]] []=(q1Z (qc.mk JW q3w) (qc.mk q3V qa1)).bind (fun(e:Bool)=>some (rB e,[])):=by
   rw[qW qFL qJj.2.2.2 qNo]
   have:=qNM;have:=@q1Z.eq_1;exact gA
  rw[q7S] at h
  exact h
theorem qOb:okL 11 qmt:=qZ (qk qFF) (by kernel_rfl) (by kernel_rfl)
def qL7:=JA_ @qmt.eq_1 (JA_ @Tryz.f11.eq_1 @qFF)
theorem qL5:okL 26 qmY:=qZ (qk qHl) (by kernel_rfl) (by kernel_rfl)
def qNS:=JA_ @qmY.eq_1 (JA_ @Tryz.f26.eq_1 @qHl)
theorem qLi:okL 51 qpH:=qZ (qk qHn) (by kernel_rfl) (by kernel_rfl)
def qMs:=JA_ @qpH.eq_1 (JA_ @Tryz.f51.eq_1 @qHn)
theorem qNX:okL 52 qnW:=qZ (qk qHA) (by kernel_rfl) (by kernel_rfl)
def qKE:=JA_ @qnW.eq_1 (JA_ @Tryz.f52.eq_1 @qHA)
def qs (most:Int) (d:qi):Option (Int×qi):=if((d.L.length:Nat):Int)≤d.At then some (0,d) else if 0≤d.At∧d.At<((d.L.length:Nat):Int) then Option.bind d.L[Int.toNat d.At]? fun(a:Int)=>if most=0 then none else if most=0 then none else some (Int.tmod (w64 (Int.tmod a most+most)) most,qi.mk d.L (w64 (d.At+1))) else none
theorem ZN:∀(most:Int) (d_L:List Int) (q8S:Int),ev 52 1 [rP 0,rI most] [(0,B.blk 106 [dL 1 eI d_L,dI q8S])]=(qs most (qi.mk d_L q8S)).bind (fun(e:Int×qi)=>some (rI e.1,[(0,B.blk 106 [dL 1 eI e.2.L,dI e.2.At])])):=
 fun most d_L q8S=>by
  rw[qW qHA qJi.2.2.2 qNX]
  have:=qKE;have:=@qs.eq_1;exact gA
theorem qMS:okL 92 qmT:=qZ (qk qI3) (by kernel_rfl) (by kernel_rfl)
def qO9:=JA_ @qmT.eq_1 (JA_ @Tryz.f92.eq_1 @qI3)
theorem qNb:okL 53 qlT:=qZ (qk qFe) (by kernel_rfl) (by kernel_rfl)
def qLB:=JA_ @qlT.eq_1 (JA_ @Tryz.f53.eq_1 @qFe)
def q3M:Option (List ByteArray):=
 some [ByteArray.mk (List.toArray [65,49]),ByteArray.mk (List.toArray [66,49]),ByteArray.mk (List.toArray [66,50]),ByteArray.mk (List.toArray [67,49]),ByteArray.mk (List.toArray [68,49]),ByteArray.mk (List.toArray [69,57])]
def Q6:List ByteArray:=
 [ByteArray.mk (List.toArray [65,49]),ByteArray.mk (List.toArray [66,49]),ByteArray.mk (List.toArray [66,50]),ByteArray.mk (List.toArray [67,49]),ByteArray.mk (List.toArray [68,49]),ByteArray.mk (List.toArray [69,57])]
theorem qaf:q3M=some (Q6):=by
 unfold q3M Q6
 simp only[Zn]
theorem q6d:ev 53 0 [] []=some (R.c (C.d (D.sl 1 (Q6).length ((Q6).flatMap eS))),[]):=
 by
  have h:ev 53 0 [] []=(q3M).bind (fun(e:List ByteArray)=>some (rL 1 eS e,[])):=by
   rw[qW qFe qJz.2.2.2 qNb]
   have:=qLB;have:=@q3M.eq_1;exact gA
  rw[qaf] at h
  exact h
def JZ (d:qi):Option (qc×qi):=Option.bind (qs 6 d) fun(a:Prod Int qi)=>if 0≤a.1∧a.1<6 then Option.bind [(1:Int),1,1,2,2,3][Int.toNat a.1]? fun(a2:Int)=>Option.bind (qs ((Q6.length:Nat):Int) a.2) fun(a3:Prod Int qi)=>if 0≤a3.1∧a3.1<((Q6.length:Nat):Int) then Option.bind Q6[Int.toNat a3.1]? fun(a4:ByteArray)=>some (qc.mk a2 a4,a3.2) else none else none
theorem q58:∀(d_L:List Int) (q8S:Int),ev 92 1 [rP 0] [(0,B.blk 106 [dL 1 eI d_L,dI q8S])]=(JZ (qi.mk d_L q8S)).bind (fun(e:qc×qi)=>some (R.agg [dI e.1.School,dS e.1.Code],[(0,B.blk 106 [dL 1 eI e.2.L,dI e.2.At])])):=
 fun d_L q8S=>by
  rw[qW qI3 qJJ.2.2.2 qMS]
  have:=qO9;have:=@ZN;have:=@q6d;have:=@JZ.eq_1;exact gA
theorem qIN:okL 94 qjK:=qZ (qk qEq) (by kernel_rfl) (by kernel_rfl)
def qKj:=JA_ @qjK.eq_1 (JA_ @Tryz.f94.eq_1 @qEq)
theorem qAk:lbO 94 9=qox:=QG (qk qEq) rfl
theorem qCm:okL 94 qox:=zV qIN (qOT (i:=0) (by kernel_rfl))
theorem qxH:okL 136 qcT:=qZ (qk qmR) (by kernel_rfl) (by kernel_rfl)
def qxU:=JA_ @qcT.eq_1 (JA_ @Tryz.f136.eq_1 @qmR)
theorem qwm:lbO 136 4=qhK:=QG (qk qmR) rfl
theorem qvQ:okL 136 qhK:=zV qxH (qOT (i:=0) (by kernel_rfl))
theorem qvS:lbO 136 8=qi1:=QG (qk qmR) rfl
theorem qxz:okL 136 qi1:=zV qxH (qOT (i:=1) (by kernel_rfl))
def JY (out:List qc) (d:qi) (c:qc) (many:Int) (k:Int):Int→Option (Int⊕Int)|at0=>if at0<((out.length:Nat):Int) then if 0≤at0∧at0<((out.length:Nat):Int) then Option.bind out[Int.toNat at0]? fun(a:qc)=>if Qo a c=Bool.true then some (Sum.inl (w64 (at0+1))) else some (Sum.inr at0) else none else some (Sum.inr at0)
theorem qaS:∀(out:List qc) (d_L:List Int) (q8S q20:Int) (q6i:ByteArray) (many k at0:Int) (Z2:Nat),Z2=out.length→XL2 evo 136 1 8 ⟨[(0,rP 0),(3,rI many),(4,rO 1 2 Z2),(5,rI k),(6,rP 2),(7,rI at0)],[(0,B.blk 106 [dL 1 eI d_L,dI q8S]),(1,bR 55 2 qd out),(2,B.blk 55 [dI q20,dS q6i])],3,61⟩=(zB (JY out (qi.mk d_L q8S) (qc.mk q20 q6i) many k) at0).bind (fun(e:Int)=>some (Exit.exit 2,⟨[(0,rP 0),(3,rI many),(4,rO 1 2 out.length),(5,rI k),(6,rP 2),(7,rI e)],[(0,B.blk 106 [dL 1 eI d_L,dI q8S]),(1,bR 55 2 qd out),(2,B.blk 55 [dI q20,dS q6i])],3,61⟩)):=
 by
 intro out d_L q8S q20 q6i many k at0 Z2 h0
 subst h0
 revert at0;exact qbj qvS qxz (fun e=>by exact⟨_,rfl,fun h=>by cases h⟩) fun x=>by
  have:=qxU;have:=@qi1.eq_1;have:=@q0t;have:=@JY.eq_1;exact gA
end
noncomputable section
open Go.RowKit
set_option maxRecDepth 20000
set_option maxHeartbeats 8000000
def J5 (many:Int):(List qc×qi×Int)→Option ((List qc×qi×Int)⊕(List qc×qi))|(out,d,k)=>if k<many then Option.bind (JZ d) fun(a:Prod qc qi)=>Option.bind (zB (JY out a.2 a.1 many k) 0) fun(a2:Int)=>if a2<((out.length:Nat):Int) then if 0≤a2∧a2<((out.length:Nat):Int) then Option.bind out[Int.toNat a2]? fun(a3:qc)=>if(a3.School==a.1.School)=Bool.true∧(ByteArray.toList a3.Code==ByteArray.toList a.1.Code)=Bool.true then some (Sum.inl (out,a.2,w64 (k+1))) else if out.length+1≤maxLen∧(out.length+1)*24≤140737488355328 then if 0≤w64 (a2+1)∧w64 (a2+1)≤((out.length+1:Nat):Int) then if w64 (a2+1)=0∨w64 (a2+1)<((out.length+1:Nat):Int) then if 0≤a2∧a2≤((out.length+1:Nat):Int) then if a2=0∨a2<((out.length+1:Nat):Int) then if(List.take (out.length+1-Int.toNat a2) (List.drop (Int.toNat a2) (out++[qc.mk 0 (ByteArray.mk (List.toArray []))]))).length*2=(out.length+1-Int.toNat a2)*2∧Int.toNat (w64 (a2+1))*2+(out.length+1-Int.toNat (w64 (a2+1)))*2≤(out.length+1)*2 then if 0≤a2∧a2<((out.length+1:Nat):Int) then if Int.toNat a2*2+2≤(out.length+1)*2 then some (Sum.inl (List.set (spl (out++[qc.mk 0 (ByteArray.mk (List.toArray []))]) (Int.toNat (w64 (a2+1))) (List.take (min (out.length+1-Int.toNat a2) (out.length+1-Int.toNat (w64 (a2+1)))) (List.take (out.length+1-Int.toNat a2) (List.drop (Int.toNat a2) (out++[qc.mk 0 (ByteArray.mk (List.toArray []))]))))) (Int.toNat a2) a.1,a.2,w64 (k+1))) else none else none else none else if Int.toNat (w64 (a2+1))*2+(out.length+1-Int.toNat (w64 (a2+1)))*2≤(out.length+1)*2 then if 0≤a2∧a2<((out.length+1:Nat):Int) then if Int.toNat a2*2+2≤(out.length+1)*2 then some (Sum.inl (List.set (out++[qc.mk 0 (ByteArray.mk (List.toArray []))]) (Int.toNat a2) a.1,a.2,w64 (k+1))) else none else none else none else none else if 0≤a2∧a2≤((out.length+1:Nat):Int) then if a2=0∨a2<((out.length+1:Nat):Int) then if(List.take (out.length+1-Int.toNat a2) (List.drop (Int.toNat a2) (out++[qc.mk 0 (ByteArray.mk (List.toArray []))]))).length*2=(out.length+1-Int.toNat a2)*2 then if 0≤a2∧a2<((out.length+1:Nat):Int) then if Int.toNat a2*2+2≤(out.length+1)*2 then some (Sum.inl (List.set (out++[qc.mk 0 (ByteArray.mk (List.toArray []))]) (Int.toNat a2) a.1,a.2,w64 (k+1))) else none else none else none else if 0≤a2∧a2<((out.length+1:Nat):Int) then if Int.toNat a2*2+2≤(out.length+1)*2 then some (Sum.inl (List.set (out++[qc.mk 0 (ByteArray.mk (List.toArray []))]) (Int.toNat a2) a.1,a.2,w64 (k+1))) else none else none else none else none else none else none else if out.length+1≤maxLen∧(out.length+1)*24≤140737488355328 then if 0≤w64 (a2+1)∧w64 (a2+1)≤((out.length+1:Nat):Int) then if w64 (a2+1)=0∨w64 (a2+1)<((out.length+1:Nat):Int) then if 0≤a2∧a2≤((out.length+1:Nat):Int) then if a2=0∨a2<((out.length+1:Nat):Int) then if(List.take (out.length+1-Int.toNat a2) (List.drop (Int.toNat a2) (out++[qc.mk 0 (ByteArray.mk (List.toArray []))]))).length*2=(out.length+1-Int.toNat a2)*2∧Int.toNat (w64 (a2+1))*2+(out.length+1-Int.toNat (w64 (a2+1)))*2≤(out.length+1)*2 then if 0≤a2∧a2<((out.length+1:Nat):Int) then if Int.toNat a2*2+2≤(out.length+1)*2 then some (Sum.inl (List.set (spl (out++[qc.mk 0 (ByteArray.mk (List.toArray []))]) (Int.toNat (w64 (a2+1))) (List.take (min (out.length+1-Int.toNat a2) (out.length+1-Int.toNat (w64 (a2+1)))) (List.take (out.length+1-Int.toNat a2) (List.drop (Int.toNat a2) (out++[qc.mk 0 (ByteArray.mk (List.toArray []))]))))) (Int.toNat a2) a.1,a.2,w64 (k+1))) else none else none else none else if Int.toNat (w64 (a2+1))*2+(out.length+1-Int.toNat (w64 (a2+1)))*2≤(out.length+1)*2 then if 0≤a2∧a2<((out.length+1:Nat):Int) then if Int.toNat a2*2+2≤(out.length+1)*2 then some (Sum.inl (List.set (out++[qc.mk 0 (ByteArray.mk (List.toArray []))]) (Int.toNat a2) a.1,a.2,w64 (k+1))) else none else none else none else none else if 0≤a2∧a2≤((out.length+1:Nat):Int) then if a2=0∨a2<((out.length+1:Nat):Int) then if(List.take (out.length+1-Int.toNat a2) (List.drop (Int.toNat a2) (out++[qc.mk 0 (ByteArray.mk (List.toArray []))]))).length*2=(out.length+1-Int.toNat a2)*2 then if 0≤a2∧a2<((out.length+1:Nat):Int) then if Int.toNat a2*2+2≤(out.length+1)*2 then some (Sum.inl (List.set (out++[qc.mk 0 (ByteArray.mk (List.toArray []))]) (Int.toNat a2) a.1,a.2,w64 (k+1))) else none else none else none else if 0≤a2∧a2<((out.length+1:Nat):Int) then if Int.toNat a2*2+2≤(out.length+1)*2 then some (Sum.inl (List.set (out++[qc.mk 0 (ByteArray.mk (List.toArray []))]) (Int.toNat a2) a.1,a.2,w64 (k+1))) else none else none else none else none else none else some (Sum.inr (out,d))
theorem qaF:∀(out:List qc) (d_L:List Int) (q8S many k:Int) (Z2:Nat),Z2=out.length→XL2 evo 136 1 4 ⟨[(0,rP 0),(3,rI many),(4,rO 1 2 Z2),(5,rI k)],[(0,B.blk 106 [dL 1 eI d_L,dI q8S]),(1,bR 55 2 qd out)],2,61⟩=(zB (J5 many) (out,(qi.mk d_L q8S),k)).bind (fun(e:List qc×qi)=>some (Exit.exit 0,⟨[(4,rO 1 2 e.1.length)],[(0,B.blk 106 [dL 1 eI e.2.L,dI e.2.At]),(1,bR 55 2 qd e.1)],2,61⟩)):=
 by
 intro out d_L q8S many k Z2 h0
 subst h0
 have h:=q4O (E:=evo) (f:=136) (k:=1) (st:=fun x:List qc×qi×Int=>(⟨[(0,rP 0),(3,rI many),(4,rO 1 2 x.1.length),(5,rI x.2.2)],[(0,B.blk 106 [dL 1 eI x.2.1.L,dI x.2.1.At]),(1,bR 55 2 qd x.1)],2,61⟩:S)) (ex:=fun(e:List qc×qi)=>(Exit.exit 0,⟨[(4,rO 1 2 e.1.length)],[(0,B.blk 106 [dL 1 eI e.2.L,dI e.2.At]),(1,bR 55 2 qd e.1)],2,61⟩)) (step:=(J5 many)) qwm qvQ (fun e h=>by cases h) (fun x=>by
  obtain⟨out,d,k⟩:=x;have:=qxU;have:=@qhK.eq_1;have:=@q58;have:=@qaS;have:=@J5.eq_1;exact gA) (out,(qi.mk d_L q8S),k)
 exact h
theorem q80:∀  (d_L:List Int) (q8S many k:Int),XL2 evo 136 1 4 ⟨[(0,rP 0),(3,rI many),(4,rO 1 2 0),(5,rI k)],[(0,B.blk 106 [dL 1 eI d_L,dI q8S]),(1,B.row 55 2 [])],2,61⟩=(zB (J5 many) ([],(qi.mk d_L q8S),k)).bind (fun(e:List qc×qi)=>some (Exit.exit 0,⟨[(4,rO 1 2 e.1.length)],[(0,B.blk 106 [dL 1 eI e.2.L,dI e.2.At]),(1,bR 55 2 qd e.1)],2,61⟩)):=by
 intro d_L q8S many k;have h:=qaF [] ((qi.mk d_L q8S)).L ((qi.mk d_L q8S)).At many k _ rfl
 first
  | exact h
  | (simp only[rL,dL,bR,bZ,Nat.reduceAdd] at h;exact h)
def Jp (d:qi):Option (List qc×qi):=Option.bind (qs 3 d) fun(a:Prod Int qi)=>Option.bind (zB (J5 (w64 (1+a.1))) ([],(a.2,0))) fun(a2:Prod (List qc) qi)=>some (a2.1,a2.2)
theorem qdF:∀(d_L:List Int) (q8S:Int),ev 136 1 [rP 0] [(0,B.blk 106 [dL 1 eI d_L,dI q8S])]=(Jp (qi.mk d_L q8S)).bind (fun(e:List qc×qi)=>some (rL 2 qd e.1,[(0,B.blk 106 [dL 1 eI e.2.L,dI e.2.At])])):=
 fun d_L q8S=>by
  rw[qW qmR qAq.2.2.2 qxH]
  have:=qxU;have:=@ZN;have:=@q80;have:=@Jp.eq_1;exact gA
def Zm (x:(Int×Int×qi)):List R×List (Nat×B):=([R.c (C.ptr 0 0),R.c (C.d (D.int .i64 x.1)),R.c (C.d (D.int .i64 x.2.1))],[(0,B.blk 106 [C.d (D.sl 1 x.2.2.L.length (x.2.2.L.flatMap eI)),C.d (D.int .i64 x.2.2.At)])])
def J9:(qb×qi)→R×List (Nat×B):=fun(e:qb×qi)=>(R.agg [C.d (D.int .i64 e.1.Kind),C.d (D.int .i64 e.1.N),C.d (D.int .i64 e.1.Min),C.d (D.sl 2 e.1.Set.length (e.1.Set.flatMap qd)),C.d (D.sl 5 e.1.L.length (e.1.L.flatMap qh))],[(0,B.blk 106 [C.d (D.sl 1 e.2.L.length (e.2.L.flatMap eI)),C.d (D.int .i64 e.2.At)])])
def Zi (rF:(Int×Int×qi)→Option (qb×qi)) (q2x:Int) (qkO:Int) (q4L:Int) (q0g:Int) (qeo:Int) (q2e:Int) (t1:Int) (t2:Int) (t7:Int) (t8:Int):(List qb×qi×Int)→Option ((List qb×qi×Int)⊕(List qb×qi))|(w3,b0,t10)=>if t10<t8 then if t8=0 then none else Option.bind (rF (w64 (t1-1),(w64 (Int.tdiv t2 t8),b0))) fun(a2:Prod qb qi)=>if w3.length+1≤maxLen∧(w3.length+1)*72≤140737488355328 then some (Sum.inl (w3++[a2.1],a2.2,w64 (t10+1))) else none else some (Sum.inr (w3,b0))
theorem q9R (rE:Orc) (rF:(Int×Int×qi)→Option (qb×qi)) (hF:∀y,rE (.fn 94) 1 (Zm y).1 (Zm y).2=(rF y).bind fun e=>some (J9 e)) (hM:∀g k a G,g≠94→rE (.fn g) k a G=ev g k a G) (hR:∀g asg bd k a G,rE (.rd g asg bd) k a G=evr g asg bd k a G):∀(w3:List qb) (q3L:List Int) (q1R q2x qkO q4L q0g qeo q2e t1 t2 t7 t8 t10:Int) (q2w:Nat),q2w=w3.length→XL2 rE 94 1 9 ⟨[(0,rP 0),(1,rI t1),(2,rI t2),(6,rP 1),(7,rI t7),(8,rI t8),(9,rP 2),(10,rI t10)],[(0,B.blk 106 [dL 1 eI q3L,dI q1R]),(1,B.blk 36 [dI q2x,dI qkO,dI q4L,C.nils,C.nils]),(2,B.blk 36 [dI q0g,dI qeo,dI q2e,C.nils,dO 3 5 q2w]),(3,bR 36 5 qh w3)],4,77⟩=(zB (Zi rF q2x qkO q4L q0g qeo q2e t1 t2 t7 t8) (w3,(qi.mk q3L q1R),t10)).bind (fun(e:List qb×qi)=>some (Exit.exit 0,⟨[(0,rP 0),(6,rP 1),(7,rI t7),(8,rI t8),(9,rP 2)],[(0,B.blk 106 [dL 1 eI e.2.L,dI e.2.At]),(1,B.blk 36 [dI q2x,dI qkO,dI q4L,C.nils,C.nils]),(2,B.blk 36 [dI q0g,dI qeo,dI q2e,C.nils,dO 3 5 e.1.length]),(3,bR 36 5 qh e.1)],4,77⟩)):=
 by
 intro w3 q3L q1R q2x qkO q4L q0g qeo q2e t1 t2 t7 t8 t10 q2w h0
 subst h0
 have h:=q4O (E:=rE) (f:=94) (k:=1) (st:=fun x:List qb×qi×Int=>(⟨[(0,rP 0),(1,rI t1),(2,rI t2),(6,rP 1),(7,rI t7),(8,rI t8),(9,rP 2),(10,rI x.2.2)],[(0,B.blk 106 [dL 1 eI x.2.1.L,dI x.2.1.At]),(1,B.blk 36 [dI q2x,dI qkO,dI q4L,C.nils,C.nils]),(2,B.blk 36 [dI q0g,dI qeo,dI q2e,C.nils,dO 3 5 x.1.length]),(3,bR 36 5 qh x.1)],4,77⟩:S)) (ex:=fun(e:List qb×qi)=>(Exit.exit 0,⟨[(0,rP 0),(6,rP 1),(7,rI t7),(8,rI t8),(9,rP 2)],[(0,B.blk 106 [dL 1 eI e.2.L,dI e.2.At]),(1,B.blk 36 [dI q2x,dI qkO,dI q4L,C.nils,C.nils]),(2,B.blk 36 [dI q0g,dI qeo,dI q2e,C.nils,dO 3 5 e.1.length]),(3,bR 36 5 qh e.1)],4,77⟩)) (step:=(Zi rF q2x qkO q4L q0g qeo q2e t1 t2 t7 t8)) qAk qCm (fun e h=>by cases h) (fun x=>by
  obtain⟨w3,b0,t10⟩:=x;have hF':∀(x1 x2:Int) (v_L:List Int) (qkP:Int),rE (.fn 94) 1 [rP 0,rI x1,rI x2] [(0,B.blk 106 [dL 1 eI v_L,dI qkP])]=(rF (x1,x2,(qi.mk v_L qkP))).bind (fun e=>some (R.agg [dI e.1.Kind,dI e.1.N,dI e.1.Min,dL 2 qd e.1.Set,dL 5 qh e.1.L],[(0,B.blk 106 [dL 1 eI e.2.L,dI e.2.At])])):=fun x1 x2 v_L qkP=>hF (x1,x2,(qi.mk v_L qkP))
  have:=qKj;have:=@qox.eq_1;have:=@Zi.eq_1;exact gA) (w3,(qi.mk q3L q1R),t10)
 exact h
theorem q6T:∀(rE:Orc) (rF:(Int×Int×qi)→Option (qb×qi)) (hF:∀y,rE (.fn 94) 1 (Zm y).1 (Zm y).2=(rF y).bind fun e=>some (J9 e)) (hM:∀g k a G,g≠94→rE (.fn g) k a G=ev g k a G) (hR:∀g asg bd k a G,rE (.rd g asg bd) k a G=evr g asg bd k a G),∀  (q3L:List Int) (q1R q2x qkO q4L q0g qeo q2e t1 t2 t7 t8 t10:Int),XL2 rE 94 1 9 ⟨[(0,rP 0),(1,rI t1),(2,rI t2),(6,rP 1),(7,rI t7),(8,rI t8),(9,rP 2),(10,rI t10)],[(0,B.blk 106 [dL 1 eI q3L,dI q1R]),(1,B.blk 36 [dI q2x,dI qkO,dI q4L,C.nils,C.nils]),(2,B.blk 36 [dI q0g,dI qeo,dI q2e,C.nils,dO 3 5 0]),(3,B.row 36 5 [])],4,77⟩=(zB (Zi rF q2x qkO q4L q0g qeo q2e t1 t2 t7 t8) ([],(qi.mk q3L q1R),t10)).bind (fun(e:List qb×qi)=>some (Exit.exit 0,⟨[(0,rP 0),(6,rP 1),(7,rI t7),(8,rI t8),(9,rP 2)],[(0,B.blk 106 [dL 1 eI e.2.L,dI e.2.At]),(1,B.blk 36 [dI q2x,dI qkO,dI q4L,C.nils,C.nils]),(2,B.blk 36 [dI q0g,dI qeo,dI q2e,C.nils,dO 3 5 e.1.length]),(3,bR 36 5 qh e.1)],4,77⟩)):=by
 intro rE rF hF hM hR q3L q1R q2x qkO q4L q0g qeo q2e t1 t2 t7 t8 t10;have h:=q9R rE rF hF hM hR [] ((qi.mk q3L q1R)).L ((qi.mk q3L q1R)).At q2x qkO q4L q0g qeo q2e t1 t2 t7 t8 t10 _ rfl
 first
  | exact h
  | (simp only[rL,dL,bR,bZ,Nat.reduceAdd] at h;exact h)
def q1x (rF:(Int×Int×qi)→Option (qb×qi)):(Int×Int×qi)→Option (qb×qi)|(x1,x2,v)=>Option.bind (qs 6 v) fun(a2:Prod Int qi)=>if x1≤0 then Option.bind (qs 3 a2.2) fun(a3:Prod Int qi)=>if(a3.1==0)=Bool.true then Option.bind (qs 12 a3.2) fun(a4:Prod Int qi)=>Option.bind (qs 3 a4.2) fun(a5:Prod Int qi)=>if 0≤a5.1∧a5.1<3 then Option.bind [(0:Int),50,60][Int.toNat a5.1]? fun(a6:Int)=>Option.bind (Jp a5.2) fun(a7:Prod (List qc) qi)=>some (qb.mk 2 (w64 (1+a4.1)) a6 a7.1 [],a7.2) else none else Option.bind (qs 4 a3.2) fun(a8:Prod Int qi)=>if 0≤a8.1∧a8.1<4 then Option.bind [(0:Int),50,60,80][Int.toNat a8.1]? fun(a9:Int)=>Option.bind (Jp a8.2) fun(a10:Prod (List qc) qi)=>some (qb.mk 1 0 a9 a10.1 [],a10.2) else none else if x2<2 then Option.bind (qs 3 a2.2) fun(a11:Prod Int qi)=>if(a11.1==0)=Bool.true then Option.bind (qs 12 a11.2) fun(a12:Prod Int qi)=>Option.bind (qs 3 a12.2) fun(a13:Prod Int qi)=>if 0≤a13.1∧a13.1<3 then Option.bind [(0:Int),50,60][Int.toNat a13.1]? fun(a14:Int)=>Option.bind (Jp a13.2) fun(a15:Prod (List qc) qi)=>some (qb.mk 2 (w64 (1+a12.1)) a14 a15.1 [],a15.2) else none else Option.bind (qs 4 a11.2) fun(a16:Prod Int qi)=>if 0≤a16.1∧a16.1<4 then Option.bind [(0:Int),50,60,80][Int.toNat a16.1]? fun(a17:Int)=>Option.bind (Jp a16.2) fun(a18:Prod (List qc) qi)=>some (qb.mk 1 0 a17 a18.1 [],a18.2) else none else if a2.1<2 then Option.bind (qs 3 a2.2) fun(a19:Prod Int qi)=>if(a19.1==0)=Bool.true then Option.bind (qs 12 a19.2) fun(a20:Prod Int qi)=>Option.bind (qs 3 a20.2) fun(a21:Prod Int qi)=>if 0≤a21.1∧a21.1<3 then Option.bind [(0:Int),50,60][Int.toNat a21.1]? fun(a22:Int)=>Option.bind (Jp a21.2) fun(a23:Prod (List qc) qi)=>some (qb.mk 2 (w64 (1+a20.1)) a22 a23.1 [],a23.2) else none else Option.bind (qs 4 a19.2) fun(a24:Prod Int qi)=>if 0≤a24.1∧a24.1<4 then Option.bind [(0:Int),50,60,80][Int.toNat a24.1]? fun(a25:Int)=>Option.bind (Jp a24.2) fun(a26:Prod (List qc) qi)=>some (qb.mk 1 0 a25 a26.1 [],a26.2) else none else Option.bind (qs (min 3 x2) a2.2) fun(a27:Prod Int qi)=>Option.bind (zB (Zi rF 0 0 0 3 0 0 x1 x2 a2.1 (w64 (1+a27.1))) ([],(a27.2,0))) fun(a28:Prod (List qb) qi)=>if 3<a2.1 then Option.bind (qs (w64 (1+a27.1)) a28.2) fun(a29:Prod Int qi)=>some (qb.mk 4 (w64 (1+a29.1)) 0 [] a28.1,a29.2) else some (qb.mk 3 0 0 [] a28.1,a28.2)
theorem q6C:q8h 94 1 Zm J9 q1x:=by
 intro rE rF hF hM hR x
 obtain⟨x1,x2,v⟩:=x
 show qas rE 94 1 [rP 0,rI x1,rI x2] [(0,B.blk 106 [dL 1 eI v.L,dI v.At])]=_
 have hF':∀(x1 x2:Int) (v_L:List Int) (qkP:Int),rE (.fn 94) 1 [rP 0,rI x1,rI x2] [(0,B.blk 106 [dL 1 eI v_L,dI qkP])]=(rF (x1,x2,(qi.mk v_L qkP))).bind (fun e=>some (R.agg [dI e.1.Kind,dI e.1.N,dI e.1.Min,dL 2 qd e.1.Set,dL 5 qh e.1.L],[(0,B.blk 106 [dL 1 eI e.2.L,dI e.2.At])])):=fun x1 x2 v_L qkP=>hF (x1,x2,(qi.mk v_L qkP))
 rw[q4F qEq qIN]
 have:=qKj;have:=@ZN;have:=@qdF;have:=q6T rE rF hF hM hR;have:=@q1x.eq_1;have:=@J9.eq_1;exact gA
theorem q4a:∀x y,Zm x=Zm y→x=y:=by
 rintro⟨a0,a1,⟨qOx,qOy⟩⟩ ⟨b0,b1,⟨qOz,qOA⟩⟩ h
 simp only[Zm,Prod.mk.injEq,List.cons.injEq,R.c.injEq,R.agg.injEq,R.tup.injEq,C.d.injEq,C.own.injEq,C.ptr.injEq,C.eptr.injEq,D.int.injEq,D.bool.injEq,D.str.injEq,D.sl.injEq,B.blk.injEq,B.row.injEq,q0P,q2D,q1E,q1F,q2a,q23,q4g,q4d,q47,q0S,true_and,and_true,qPc] at h
 simp only[h]
theorem q9e:∀x y,J9 x=J9 y→x=y:=by
 rintro⟨⟨qE6,qE7,qE8,qE9,qEa⟩,⟨qKy,qKz⟩⟩ ⟨⟨qEb,qEc,qEd,qEe,qEf⟩,⟨qKA,qKB⟩⟩ h
 simp only[J9,Prod.mk.injEq,List.cons.injEq,R.c.injEq,R.agg.injEq,R.tup.injEq,C.d.injEq,C.own.injEq,C.ptr.injEq,C.eptr.injEq,D.int.injEq,D.bool.injEq,D.str.injEq,D.sl.injEq,B.blk.injEq,B.row.injEq,q0P,q2D,q1E,q1F,q2a,q23,q4g,q4d,q47,q0S,true_and,and_true,qPc] at h
 simp only[h]
def ZR:(Int×Int×qi)→Option (qb×qi):=q8l 94 1 Zm J9
theorem q6D (x:(Int×Int×qi)):ZR x=q1x ZR x:=qd4 qH7.2.2.2 q4a q9e q6C x
theorem qbz (x1 x2:Int) (v:qi):ev 94 1 [rP 0,rI x1,rI x2] [(0,B.blk 106 [dL 1 eI v.L,dI v.At])]=(ZR (x1,x2,v)).bind (fun(e:qb×qi)=>some (R.agg [dI e.1.Kind,dI e.1.N,dI e.1.Min,dL 2 qd e.1.Set,dL 5 qh e.1.L],[(0,B.blk 106 [dL 1 eI e.2.L,dI e.2.At])])):=(q9g qH7.2.2.2 q4a q6C (x1,x2,v))
theorem qcx:∀(x1 x2:Int) (v_L:List Int) (qkP:Int),ev 94 1 [rP 0,rI x1,rI x2] [(0,B.blk 106 [dL 1 eI v_L,dI qkP])]=(ZR (x1,x2,(qi.mk v_L qkP))).bind (fun(e:qb×qi)=>some (R.agg [dI e.1.Kind,dI e.1.N,dI e.1.Min,dL 2 qd e.1.Set,dL 5 qh e.1.L],[(0,B.blk 106 [dL 1 eI e.2.L,dI e.2.At])])):=
 fun x1 x2 v_L qkP=>qbz x1 x2 (qi.mk v_L qkP)
def q18 (l:List Int):Option qe:=Option.bind (qs 3 (qi.mk l 0)) fun(a:Prod Int qi)=>Option.bind (qs 3 a.2) fun(a2:Prod Int qi)=>Option.bind (qs 5 a2.2) fun(a3:Prod Int qi)=>Option.bind (qs 3 a3.2) fun(a4:Prod Int qi)=>if 0≤a4.1∧a4.1<3 then Option.bind [ByteArray.mk (List.toArray [77,117,115,105,99]),ByteArray.mk (List.toArray [76,97,119]),ByteArray.mk (List.toArray [79,108,100,32,109,97,112,115])][Int.toNat a4.1]? fun(a5:ByteArray)=>Option.bind (qs 20 a4.2) fun(a6:Prod Int qi)=>Option.bind (qs 3 a6.2) fun(a7:Prod Int qi)=>Option.bind (qs 6 a7.2) fun(a8:Prod Int qi)=>Option.bind (qs 5 a8.2) fun(a9:Prod Int qi)=>if 0≤a9.1∧a9.1<5 then Option.bind [(0:Int),0,0,2,5][Int.toNat a9.1]? fun(a10:Int)=>Option.bind (qs 3 a9.2) fun(a11:Prod Int qi)=>if(a11.1==0)=Bool.true then Option.bind (JZ a11.2) fun(a12:Prod qc qi)=>Option.bind (JZ a12.2) fun(a13:Prod qc qi)=>if Qo a12.1 a13.1=Bool.true then Option.bind (ZR (3,(6,a13.2))) fun(a14:Prod qb qi)=>some (qe.mk 1 (w64 (1+a.1)) (w64 (1+a2.1)) (w64 (100*a3.1)) a5 a14.1 a6.1 (w64 (a7.1*a8.1)) a10 [q00.mk a12.1 a13.1]) else Option.bind (ZR (3,(6,a13.2))) fun(a15:Prod qb qi)=>some (qe.mk 1 (w64 (1+a.1)) (w64 (1+a2.1)) (w64 (100*a3.1)) a5 a15.1 a6.1 (w64 (a7.1*a8.1)) a10 []) else Option.bind (ZR (3,(6,a11.2))) fun(a16:Prod qb qi)=>some (qe.mk 1 (w64 (1+a.1)) (w64 (1+a2.1)) (w64 (100*a3.1)) a5 a16.1 a6.1 (w64 (a7.1*a8.1)) a10 []) else none else none
theorem q8X:∀(l:List Int),ev 51 0 [rL 1 eI l] []=(q18 l).bind (fun(e:qe)=>some (R.agg [dI e.School,dI e.Id,dI e.Version,dI e.From,dS e.Name,dI e.Need.Kind,dI e.Need.N,dI e.Need.Min,dL 2 qd e.Need.Set,dL 5 qh e.Need.L,dI e.Total,dI e.Own,dI e.Age,dL 4 (eA2 qd) e.Exclude],[])):=
 fun l=>by
  rw[qW qHn qJo.2.2.2 qLi]
  have:=qMs;have:=@ZN;have:=@q58;have:=@qcx;have:=@q0t;have:=@q18.eq_1;exact gA
def q3s (l:List Int):Option qe:=Option.bind (q18 l) fun(a:qe)=>some (qe.mk a.School a.Id a.Version a.From a.Name a.Need (Int.tmod a.Total 12) (Int.tmod a.Own 4) a.Age a.Exclude)
theorem qd6:∀(l:List Int),ev 26 0 [rL 1 eI l] []=(q3s l).bind (fun(e:qe)=>some (R.agg [dI e.School,dI e.Id,dI e.Version,dI e.From,dS e.Name,dI e.Need.Kind,dI e.Need.N,dI e.Need.Min,dL 2 qd e.Need.Set,dL 5 qh e.Need.L,dI e.Total,dI e.Own,dI e.Age,dL 4 (eA2 qd) e.Exclude],[])):=
 fun l=>by
  rw[qW qHl qJe.2.2.2 qL5]
  have:=qNS;have:=@q8X;have:=@q3s.eq_1;exact gA
theorem qKf:okL 30 qkK:=qZ (qk qEA) (by kernel_rfl) (by kernel_rfl)
def qJW:=JA_ @qkK.eq_1 (JA_ @Tryz.f30.eq_1 @qEA)
theorem qB1:lbO 30 6=qn8:=QG (qk qEA) rfl
theorem qAe:okL 30 qn8:=zV qKf (qOT (i:=0) (by kernel_rfl))
def ZC (t4:Int) (t5:List ByteArray):(List qa×qi×Int)→Option ((List qa×qi×Int)⊕(List qa))|(w1,b0,t7)=>if t7<t4 then Option.bind (qs 5 b0) fun(a:Prod Int qi)=>if 0≤a.1∧a.1<5 then Option.bind [(1:Int),1,1,2,3][Int.toNat a.1]? fun(a2:Int)=>Option.bind (qs ((t5.length:Nat):Int) a.2) fun(a3:Prod Int qi)=>if 0≤a3.1∧a3.1<((t5.length:Nat):Int) then Option.bind t5[Int.toNat a3.1]? fun(a4:ByteArray)=>Option.bind (qs 3 a3.2) fun(a5:Prod Int qi)=>if 0≤a5.1∧a5.1<3 then Option.bind [(5:Int),6,10][Int.toNat a5.1]? fun(a6:Int)=>Option.bind (qs 11 a5.2) fun(a7:Prod Int qi)=>Option.bind (qs 12 a7.2) fun(a8:Prod Int qi)=>Option.bind (qs 4 a8.2) fun(a9:Prod Int qi)=>if(a9.1==0)=Bool.true then Option.bind (qs 2 a9.2) fun(a10:Prod Int qi)=>Option.bind (qs 3 a10.2) fun(a11:Prod Int qi)=>if w1.length+1≤maxLen∧(w1.length+1)*104≤140737488355328 then some (Sum.inl (w1++[qa.mk (qc.mk a2 a4) a6 (w64 (10*a7.1)) (w64 (50*a8.1)) [w64 (2000001+a11.1)] (w64 (1+a10.1)) [w64 (1+a10.1)]],a11.2,w64 (t7+1))) else none else if w1.length+1≤maxLen∧(w1.length+1)*104≤140737488355328 then some (Sum.inl (w1++[qa.mk (qc.mk a2 a4) a6 (w64 (10*a7.1)) (w64 (50*a8.1)) [w64 (w64 (w64 (1000000*a2)+1)+t7)] 0 []],a9.2,w64 (t7+1))) else none else none else none else none else some (Sum.inr w1)
theorem q9i:∀(w1:List qa) (q3L:List Int) (q1R t4:Int) (t5:List ByteArray) (t7:Int) (QQ:Nat),QQ=w1.length→XL2 evo 30 0 6 ⟨[(3,rP 0),(4,rI t4),(5,rL 1 eS t5),(6,rO 1 8 QQ),(7,rI t7)],[(0,B.blk 106 [dL 1 eI q3L,dI q1R]),(1,bR 57 8 qf w1)],2,75⟩=(zB (ZC t4 t5) (w1,(qi.mk q3L q1R),t7)).bind (fun(e:List qa)=>some (Exit.exit 0,⟨[(6,rO 0 8 e.length)],[(0,bR 57 8 qf e)],1,75⟩)):=
 by
 intro w1 q3L q1R t4 t5 t7 QQ h0
 subst h0
 have h:=q4O (E:=evo) (f:=30) (k:=0) (st:=fun x:List qa×qi×Int=>(⟨[(3,rP 0),(4,rI t4),(5,rL 1 eS t5),(6,rO 1 8 x.1.length),(7,rI x.2.2)],[(0,B.blk 106 [dL 1 eI x.2.1.L,dI x.2.1.At]),(1,bR 57 8 qf x.1)],2,75⟩:S)) (ex:=fun(e:List qa)=>(Exit.exit 0,⟨[(6,rO 0 8 e.length)],[(0,bR 57 8 qf e)],1,75⟩)) (step:=(ZC t4 t5)) qB1 qAe (fun e h=>by cases h) (fun x=>by
  obtain⟨w1,b0,t7⟩:=x;have:=qJW;have:=@qn8.eq_1;have:=@ZN;have:=@ZC.eq_1;exact gA) (w1,(qi.mk q3L q1R),t7)
 exact h
theorem q7c:∀  (q3L:List Int) (q1R t4:Int) (t5:List ByteArray) (t7:Int),XL2 evo 30 0 6 ⟨[(3,rP 0),(4,rI t4),(5,rL 1 eS t5),(6,rO 1 8 0),(7,rI t7)],[(0,B.blk 106 [dL 1 eI q3L,dI q1R]),(1,B.row 57 8 [])],2,75⟩=(zB (ZC t4 t5) ([],(qi.mk q3L q1R),t7)).bind (fun(e:List qa)=>some (Exit.exit 0,⟨[(6,rO 0 8 e.length)],[(0,bR 57 8 qf e)],1,75⟩)):=by
 intro q3L q1R t4 t5 t7;have h:=q9i [] ((qi.mk q3L q1R)).L ((qi.mk q3L q1R)).At t4 t5 t7 _ rfl
 first
  | exact h
  | (simp only[rL,dL,bR,bZ,Nat.reduceAdd] at h;exact h)
def q3r (x0:List Int):Option (List qa):=Option.bind (qs 8 (qi.mk x0 0)) fun(a:Prod Int qi)=>Option.bind (zB (ZC a.1 Q6) ([],(a.2,0))) fun(a2:List qa)=>some a2
theorem qcm:∀(x0:List Int),ev 30 0 [rL 1 eI x0] []=(q3r x0).bind (fun(e:List qa)=>some (rL 8 qf e,[])):=
 fun x0=>by
  rw[qW qEA qKl.2.2.2 qKf]
  have:=qJW;have:=@ZN;have:=@q6d;have:=@q7c;have:=@q3r.eq_1;exact gA
theorem qJO:okL 31 qk1:=qZ (qk qF0) (by kernel_rfl) (by kernel_rfl)
def qKt:=JA_ @qk1.eq_1 (JA_ @Tryz.f31.eq_1 @qF0)
theorem qDB:lbO 31 6=qoY:=QG (qk qF0) rfl
theorem qzR:okL 31 qoY:=zV qJO (qOT (i:=0) (by kernel_rfl))
theorem qEw:okL 54 qee:=qZ (qk qyp) (by kernel_rfl) (by kernel_rfl)
def quJ:=JA_ @qee.eq_1 (JA_ @Tryz.f54.eq_1 @qyp)
theorem qtw:lbO 54 4=qk2:=QG (qk qyp) rfl
theorem qty:okL 54 qk2:=zV qEw (qOT (i:=0) (by kernel_rfl))
theorem qtr:lbO 54 8=qkd:=QG (qk qyp) rfl
theorem qtE:okL 54 qkd:=zV qEw (qOT (i:=1) (by kernel_rfl))
theorem qnD:lbO 54 11=qf7:=QG (qk qyp) rfl
theorem qnK:okL 54 qf7:=zV qEw (qOT (i:=2) (by kernel_rfl))
def q29 (w0:List qc) (t3:List qv) (t6:Int) (t7:List qc) (t8:Int):Int→Option (Int⊕Int)|t9=>if t9<((w0.length:Nat):Int) then if 0≤t9∧t9<((w0.length:Nat):Int) then Option.bind w0[Int.toNat t9]? fun(a:qc)=>if 0≤t8∧t8<((t7.length:Nat):Int) then Option.bind t7[Int.toNat t8]? fun(a2:qc)=>if Qo a a2=Bool.true then some (Sum.inl (w64 (t9+1))) else some (Sum.inr t9) else none else none else some (Sum.inr t9)
theorem q6l:∀(w0:List qc) (t3:List qv) (t6:Int) (t7:List qc) (t8 t9:Int) (q0j:Nat),q0j=w0.length→XL2 evo 54 0 11 ⟨[(3,rL 6 qV t3),(5,rO 0 2 q0j),(6,rI t6),(7,rL 2 qd t7),(8,rI t8),(9,rI t9)],[(0,bR 55 2 qd w0)],1,85⟩=(zB (q29 w0 t3 t6 t7 t8) t9).bind (fun(e:Int)=>some (Exit.exit 4,⟨[(3,rL 6 qV t3),(5,rO 0 2 w0.length),(6,rI t6),(7,rL 2 qd t7),(8,rI t8),(9,rI e)],[(0,bR 55 2 qd w0)],1,85⟩)):=
 by
 intro w0 t3 t6 t7 t8 t9 q0j h0
 subst h0
 revert t9;exact qbj qnD qnK (fun e=>by exact⟨_,rfl,fun h=>by cases h⟩) fun x=>by
  have:=quJ;have:=@qf7.eq_1;have:=@q0t;have:=@q29.eq_1;exact gA
def q2n (t3:List qv) (t6:Int) (t7:List qc):(List qc×Int)→Option ((List qc×Int)⊕(List qc))|(w0,t8)=>if t8<((t7.length:Nat):Int) then Option.bind (zB (q29 w0 t3 t6 t7 t8) 0) fun(a:Int)=>if a<((w0.length:Nat):Int) then if 0≤a∧a<((w0.length:Nat):Int) then Option.bind w0[Int.toNat a]? fun(a2:qc)=>if 0≤t8∧t8<((t7.length:Nat):Int) then Option.bind t7[Int.toNat t8]? fun(a3:qc)=>if(a2.School==a3.School)=Bool.true∧(ByteArray.toList a2.Code==ByteArray.toList a3.Code)=Bool.true then some (Sum.inl (w0,w64 (t8+1))) else if w0.length+1≤maxLen∧(w0.length+1)*24≤140737488355328 then if 0≤w64 (a+1)∧w64 (a+1)≤((w0.length+1:Nat):Int) then if w64 (a+1)=0∨w64 (a+1)<((w0.length+1:Nat):Int) then if 0≤a∧a≤((w0.length+1:Nat):Int) then if a=0∨a<((w0.length+1:Nat):Int) then if(List.take (w0.length+1-Int.toNat a) (List.drop (Int.toNat a) (w0++[qc.mk 0 (ByteArray.mk (List.toArray []))]))).length*2=(w0.length+1-Int.toNat a)*2∧Int.toNat (w64 (a+1))*2+(w0.length+1-Int.toNat (w64 (a+1)))*2≤(w0.length+1)*2 then if 0≤t8∧t8<((t7.length:Nat):Int) then Option.bind t7[Int.toNat t8]? fun(a4:qc)=>if 0≤a∧a<((w0.length+1:Nat):Int) then if Int.toNat a*2+2≤(w0.length+1)*2 then some (Sum.inl (List.set (spl (w0++[qc.mk 0 (ByteArray.mk (List.toArray []))]) (Int.toNat (w64 (a+1))) (List.take (min (w0.length+1-Int.toNat a) (w0.length+1-Int.toNat (w64 (a+1)))) (List.take (w0.length+1-Int.toNat a) (List.drop (Int.toNat a) (w0++[qc.mk 0 (ByteArray.mk (List.toArray []))]))))) (Int.toNat a) a4,w64 (t8+1))) else none else none else none else none else if Int.toNat (w64 (a+1))*2+(w0.length+1-Int.toNat (w64 (a+1)))*2≤(w0.length+1)*2 then if 0≤t8∧t8<((t7.length:Nat):Int) then Option.bind t7[Int.toNat t8]? fun(a5:qc)=>if 0≤a∧a<((w0.length+1:Nat):Int) then if Int.toNat a*2+2≤(w0.length+1)*2 then some (Sum.inl (List.set (w0++[qc.mk 0 (ByteArray.mk (List.toArray []))]) (Int.toNat a) a5,w64 (t8+1))) else none else none else none else none else none else if 0≤a∧a≤((w0.length+1:Nat):Int) then if a=0∨a<((w0.length+1:Nat):Int) then if(List.take (w0.length+1-Int.toNat a) (List.drop (Int.toNat a) (w0++[qc.mk 0 (ByteArray.mk (List.toArray []))]))).length*2=(w0.length+1-Int.toNat a)*2 then if 0≤t8∧t8<((t7.length:Nat):Int) then Option.bind t7[Int.toNat t8]? fun(a6:qc)=>if 0≤a∧a<((w0.length+1:Nat):Int) then if Int.toNat a*2+2≤(w0.length+1)*2 then some (Sum.inl (List.set (w0++[qc.mk 0 (ByteArray.mk (List.toArray []))]) (Int.toNat a) a6,w64 (t8+1))) else none else none else none else none else if 0≤t8∧t8<((t7.length:Nat):Int) then Option.bind t7[Int.toNat t8]? fun(a7:qc)=>if 0≤a∧a<((w0.length+1:Nat):Int) then if Int.toNat a*2+2≤(w0.length+1)*2 then some (Sum.inl (List.set (w0++[qc.mk 0 (ByteArray.mk (List.toArray []))]) (Int.toNat a) a7,w64 (t8+1))) else none else none else none else none else none else none else none else none else if w0.length+1≤maxLen∧(w0.length+1)*24≤140737488355328 then if 0≤w64 (a+1)∧w64 (a+1)≤((w0.length+1:Nat):Int) then if w64 (a+1)=0∨w64 (a+1)<((w0.length+1:Nat):Int) then if 0≤a∧a≤((w0.length+1:Nat):Int) then if a=0∨a<((w0.length+1:Nat):Int) then if(List.take (w0.length+1-Int.toNat a) (List.drop (Int.toNat a) (w0++[qc.mk 0 (ByteArray.mk (List.toArray []))]))).length*2=(w0.length+1-Int.toNat a)*2∧Int.toNat (w64 (a+1))*2+(w0.length+1-Int.toNat (w64 (a+1)))*2≤(w0.length+1)*2 then if 0≤t8∧t8<((t7.length:Nat):Int) then Option.bind t7[Int.toNat t8]? fun(a8:qc)=>if 0≤a∧a<((w0.length+1:Nat):Int) then if Int.toNat a*2+2≤(w0.length+1)*2 then some (Sum.inl (List.set (spl (w0++[qc.mk 0 (ByteArray.mk (List.toArray []))]) (Int.toNat (w64 (a+1))) (List.take (min (w0.length+1-Int.toNat a) (w0.length+1-Int.toNat (w64 (a+1)))) (List.take (w0.length+1-Int.toNat a) (List.drop (Int.toNat a) (w0++[qc.mk 0 (ByteArray.mk (List.toArray []))]))))) (Int.toNat a) a8,w64 (t8+1))) else none else none else none else none else if Int.toNat (w64 (a+1))*2+(w0.length+1-Int.toNat (w64 (a+1)))*2≤(w0.length+1)*2 then if 0≤t8∧t8<((t7.length:Nat):Int) then Option.bind t7[Int.toNat t8]? fun(a9:qc)=>if 0≤a∧a<((w0.length+1:Nat):Int) then if Int.toNat a*2+2≤(w0.length+1)*2 then some (Sum.inl (List.set (w0++[qc.mk 0 (ByteArray.mk (List.toArray []))]) (Int.toNat a) a9,w64 (t8+1))) else none else none else none else none else none else if 0≤a∧a≤((w0.length+1:Nat):Int) then if a=0∨a<((w0.length+1:Nat):Int) then if(List.take (w0.length+1-Int.toNat a) (List.drop (Int.toNat a) (w0++[qc.mk 0 (ByteArray.mk (List.toArray []))]))).length*2=(w0.length+1-Int.toNat a)*2 then if 0≤t8∧t8<((t7.length:Nat):Int) then Option.bind t7[Int.toNat t8]? fun(a10:qc)=>if 0≤a∧a<((w0.length+1:Nat):Int) then if Int.toNat a*2+2≤(w0.length+1)*2 then some (Sum.inl (List.set (w0++[qc.mk 0 (ByteArray.mk (List.toArray []))]) (Int.toNat a) a10,w64 (t8+1))) else none else none else none else none else if 0≤t8∧t8<((t7.length:Nat):Int) then Option.bind t7[Int.toNat t8]? fun(a11:qc)=>if 0≤a∧a<((w0.length+1:Nat):Int) then if Int.toNat a*2+2≤(w0.length+1)*2 then some (Sum.inl (List.set (w0++[qc.mk 0 (ByteArray.mk (List.toArray []))]) (Int.toNat a) a11,w64 (t8+1))) else none else none else none else none else none else none else some (Sum.inr w0)
theorem q71:∀(w0:List qc) (t3:List qv) (t6:Int) (t7:List qc) (t8:Int) (q0j:Nat),q0j=w0.length→XL2 evo 54 0 8 ⟨[(3,rL 6 qV t3),(5,rO 0 2 q0j),(6,rI t6),(7,rL 2 qd t7),(8,rI t8)],[(0,bR 55 2 qd w0)],1,85⟩=(zB (q2n t3 t6 t7) (w0,t8)).bind (fun(e:List qc)=>some (Exit.exit 2,⟨[(3,rL 6 qV t3),(5,rO 0 2 e.length),(6,rI t6)],[(0,bR 55 2 qd e)],1,85⟩)):=
 by
 intro w0 t3 t6 t7 t8 q0j h0
 subst h0
 revert t8;revert w0;exact q9j qtr qtE (fun e=>by exact⟨_,rfl,fun h=>by cases h⟩) fun w0 t8=>by
  have:=quJ;have:=@qkd.eq_1;have:=@q6l;have:=@q2n.eq_1;exact gA
def q0K (t3:List qv):(List qc×Int)→Option ((List qc×Int)⊕(List qc))|(w0,t6)=>if t6<((t3.length:Nat):Int) then if 0≤t6∧t6<((t3.length:Nat):Int) then Option.bind t3[Int.toNat t6]? fun(a:qv)=>Option.bind (zB (q2n t3 t6 a.Need.Set) (w0,0)) fun(a2:List qc)=>some (Sum.inl (a2,w64 (t6+1))) else none else some (Sum.inr w0)
theorem q6N:∀(w0:List qc) (t3:List qv) (t6:Int) (q0j:Nat),q0j=w0.length→XL2 evo 54 0 4 ⟨[(3,rL 6 qV t3),(5,rO 0 2 q0j),(6,rI t6)],[(0,bR 55 2 qd w0)],1,85⟩=(zB (q0K t3) (w0,t6)).bind (fun(e:List qc)=>some (Exit.exit 0,⟨[(5,rO 0 2 e.length)],[(0,bR 55 2 qd e)],1,85⟩)):=
 by
 intro w0 t3 t6 q0j h0
 subst h0
 revert t6;revert w0;exact q9j qtw qty (fun e=>by exact⟨_,rfl,fun h=>by cases h⟩) fun w0 t6=>by
  have:=quJ;have:=@qk2.eq_1;have:=@q71;have:=@q0K.eq_1;exact gA
theorem q5j:∀  (t6:Int),XL2 evo 54 0 4 ⟨[(3,R.c (C.d (D.sl 6 0 []))),(5,rO 0 2 0),(6,rI t6)],[(0,B.row 55 2 [])],1,85⟩=(zB (q0K []) ([],t6)).bind (fun(e:List qc)=>some (Exit.exit 0,⟨[(5,rO 0 2 e.length)],[(0,bR 55 2 qd e)],1,85⟩)):=by
 intro t6;have h:=q6N [] [] t6 _ rfl
 first
  | exact h
  | (simp only[rL,dL,bR,bZ,Nat.reduceAdd] at h;exact h)
def QZ (w0:List qv) (w1:List qc) (t6:Int) (t7:List qc) (t8:Int):Int→Option (Int⊕Int)|t9=>if t9<((w1.length:Nat):Int) then if 0≤t9∧t9<((w1.length:Nat):Int) then Option.bind w1[Int.toNat t9]? fun(a:qc)=>if 0≤t8∧t8<((t7.length:Nat):Int) then Option.bind t7[Int.toNat t8]? fun(a2:qc)=>if Qo a a2=Bool.true then some (Sum.inl (w64 (t9+1))) else some (Sum.inr t9) else none else none else some (Sum.inr t9)
theorem q5z:∀(w0:List qv) (w1:List qc) (t6:Int) (t7:List qc) (t8 t9:Int) (q0j QQ:Nat),q0j=w0.length→QQ=w1.length→XL2 evo 54 0 11 ⟨[(3,rO 0 6 q0j),(5,rO 1 2 QQ),(6,rI t6),(7,rL 2 qd t7),(8,rI t8),(9,rI t9)],[(0,bR 150 6 qV w0),(1,bR 55 2 qd w1)],2,85⟩=(zB (QZ w0 w1 t6 t7 t8) t9).bind (fun(e:Int)=>some (Exit.exit 4,⟨[(3,rO 0 6 w0.length),(5,rO 1 2 w1.length),(6,rI t6),(7,rL 2 qd t7),(8,rI t8),(9,rI e)],[(0,bR 150 6 qV w0),(1,bR 55 2 qd w1)],2,85⟩)):=
 by
 intro w0 w1 t6 t7 t8 t9 q0j QQ h0 h1
 subst h0 h1
 revert t9;exact qbj qnD qnK (fun e=>by exact⟨_,rfl,fun h=>by cases h⟩) fun x=>by
  have:=quJ;have:=@qf7.eq_1;have:=@q0t;have:=@QZ.eq_1;exact gA
def Zb (w0:List qv) (t6:Int) (t7:List qc):(List qc×Int)→Option ((List qc×Int)⊕(List qc))|(w1,t8)=>if t8<((t7.length:Nat):Int) then Option.bind (zB (QZ w0 w1 t6 t7 t8) 0) fun(a:Int)=>if a<((w1.length:Nat):Int) then if 0≤a∧a<((w1.length:Nat):Int) then Option.bind w1[Int.toNat a]? fun(a2:qc)=>if 0≤t8∧t8<((t7.length:Nat):Int) then Option.bind t7[Int.toNat t8]? fun(a3:qc)=>if(a2.School==a3.School)=Bool.true∧(ByteArray.toList a2.Code==ByteArray.toList a3.Code)=Bool.true then some (Sum.inl (w1,w64 (t8+1))) else if w1.length+1≤maxLen∧(w1.length+1)*24≤140737488355328 then if 0≤w64 (a+1)∧w64 (a+1)≤((w1.length+1:Nat):Int) then if w64 (a+1)=0∨w64 (a+1)<((w1.length+1:Nat):Int) then if 0≤a∧a≤((w1.length+1:Nat):Int) then if a=0∨a<((w1.length+1:Nat):Int) then if(List.take (w1.length+1-Int.toNat a) (List.drop (Int.toNat a) (w1++[qc.mk 0 (ByteArray.mk (List.toArray []))]))).length*2=(w1.length+1-Int.toNat a)*2∧Int.toNat (w64 (a+1))*2+(w1.length+1-Int.toNat (w64 (a+1)))*2≤(w1.length+1)*2 then if 0≤t8∧t8<((t7.length:Nat):Int) then Option.bind t7[Int.toNat t8]? fun(a4:qc)=>if 0≤a∧a<((w1.length+1:Nat):Int) then if Int.toNat a*2+2≤(w1.length+1)*2 then some (Sum.inl (List.set (spl (w1++[qc.mk 0 (ByteArray.mk (List.toArray []))]) (Int.toNat (w64 (a+1))) (List.take (min (w1.length+1-Int.toNat a) (w1.length+1-Int.toNat (w64 (a+1)))) (List.take (w1.length+1-Int.toNat a) (List.drop (Int.toNat a) (w1++[qc.mk 0 (ByteArray.mk (List.toArray []))]))))) (Int.toNat a) a4,w64 (t8+1))) else none else none else none else none else if Int.toNat (w64 (a+1))*2+(w1.length+1-Int.toNat (w64 (a+1)))*2≤(w1.length+1)*2 then if 0≤t8∧t8<((t7.length:Nat):Int) then Option.bind t7[Int.toNat t8]? fun(a5:qc)=>if 0≤a∧a<((w1.length+1:Nat):Int) then if Int.toNat a*2+2≤(w1.length+1)*2 then some (Sum.inl (List.set (w1++[qc.mk 0 (ByteArray.mk (List.toArray []))]) (Int.toNat a) a5,w64 (t8+1))) else none else none else none else none else none else if 0≤a∧a≤((w1.length+1:Nat):Int) then if a=0∨a<((w1.length+1:Nat):Int) then if(List.take (w1.length+1-Int.toNat a) (List.drop (Int.toNat a) (w1++[qc.mk 0 (ByteArray.mk (List.toArray []))]))).length*2=(w1.length+1-Int.toNat a)*2 then if 0≤t8∧t8<((t7.length:Nat):Int) then Option.bind t7[Int.toNat t8]? fun(a6:qc)=>if 0≤a∧a<((w1.length+1:Nat):Int) then if Int.toNat a*2+2≤(w1.length+1)*2 then some (Sum.inl (List.set (w1++[qc.mk 0 (ByteArray.mk (List.toArray []))]) (Int.toNat a) a6,w64 (t8+1))) else none else none else none else none else if 0≤t8∧t8<((t7.length:Nat):Int) then Option.bind t7[Int.toNat t8]? fun(a7:qc)=>if 0≤a∧a<((w1.length+1:Nat):Int) then if Int.toNat a*2+2≤(w1.length+1)*2 then some (Sum.inl (List.set (w1++[qc.mk 0 (ByteArray.mk (List.toArray []))]) (Int.toNat a) a7,w64 (t8+1))) else none else none else none else none else none else none else none else none else if w1.length+1≤maxLen∧(w1.length+1)*24≤140737488355328 then if 0≤w64 (a+1)∧w64 (a+1)≤((w1.length+1:Nat):Int) then if w64 (a+1)=0∨w64 (a+1)<((w1.length+1:Nat):Int) then if 0≤a∧a≤((w1.length+1:Nat):Int) then if a=0∨a<((w1.length+1:Nat):Int) then if(List.take (w1.length+1-Int.toNat a) (List.drop (Int.toNat a) (w1++[qc.mk 0 (ByteArray.mk (List.toArray []))]))).length*2=(w1.length+1-Int.toNat a)*2∧Int.toNat (w64 (a+1))*2+(w1.length+1-Int.toNat (w64 (a+1)))*2≤(w1.length+1)*2 then if 0≤t8∧t8<((t7.length:Nat):Int) then Option.bind t7[Int.toNat t8]? fun(a8:qc)=>if 0≤a∧a<((w1.length+1:Nat):Int) then if Int.toNat a*2+2≤(w1.length+1)*2 then some (Sum.inl (List.set (spl (w1++[qc.mk 0 (ByteArray.mk (List.toArray []))]) (Int.toNat (w64 (a+1))) (List.take (min (w1.length+1-Int.toNat a) (w1.length+1-Int.toNat (w64 (a+1)))) (List.take (w1.length+1-Int.toNat a) (List.drop (Int.toNat a) (w1++[qc.mk 0 (ByteArray.mk (List.toArray []))]))))) (Int.toNat a) a8,w64 (t8+1))) else none else none else none else none else if Int.toNat (w64 (a+1))*2+(w1.length+1-Int.toNat (w64 (a+1)))*2≤(w1.length+1)*2 then if 0≤t8∧t8<((t7.length:Nat):Int) then Option.bind t7[Int.toNat t8]? fun(a9:qc)=>if 0≤a∧a<((w1.length+1:Nat):Int) then if Int.toNat a*2+2≤(w1.length+1)*2 then some (Sum.inl (List.set (w1++[qc.mk 0 (ByteArray.mk (List.toArray []))]) (Int.toNat a) a9,w64 (t8+1))) else none else none else none else none else none else if 0≤a∧a≤((w1.length+1:Nat):Int) then if a=0∨a<((w1.length+1:Nat):Int) then if(List.take (w1.length+1-Int.toNat a) (List.drop (Int.toNat a) (w1++[qc.mk 0 (ByteArray.mk (List.toArray []))]))).length*2=(w1.length+1-Int.toNat a)*2 then if 0≤t8∧t8<((t7.length:Nat):Int) then Option.bind t7[Int.toNat t8]? fun(a10:qc)=>if 0≤a∧a<((w1.length+1:Nat):Int) then if Int.toNat a*2+2≤(w1.length+1)*2 then some (Sum.inl (List.set (w1++[qc.mk 0 (ByteArray.mk (List.toArray []))]) (Int.toNat a) a10,w64 (t8+1))) else none else none else none else none else if 0≤t8∧t8<((t7.length:Nat):Int) then Option.bind t7[Int.toNat t8]? fun(a11:qc)=>if 0≤a∧a<((w1.length+1:Nat):Int) then if Int.toNat a*2+2≤(w1.length+1)*2 then some (Sum.inl (List.set (w1++[qc.mk 0 (ByteArray.mk (List.toArray []))]) (Int.toNat a) a11,w64 (t8+1))) else none else none else none else none else none else none else some (Sum.inr w1)
theorem q60:∀(w0:List qv) (w1:List qc) (t6:Int) (t7:List qc) (t8:Int) (q0j QQ:Nat),q0j=w0.length→QQ=w1.length→XL2 evo 54 0 8 ⟨[(3,rO 0 6 q0j),(5,rO 1 2 QQ),(6,rI t6),(7,rL 2 qd t7),(8,rI t8)],[(0,bR 150 6 qV w0),(1,bR 55 2 qd w1)],2,85⟩=(zB (Zb w0 t6 t7) (w1,t8)).bind (fun(e:List qc)=>some (Exit.exit 2,⟨[(3,rO 0 6 w0.length),(5,rO 1 2 e.length),(6,rI t6)],[(0,bR 150 6 qV w0),(1,bR 55 2 qd e)],2,85⟩)):=
 by
 intro w0 w1 t6 t7 t8 q0j QQ h0 h1
 subst h0 h1
 revert t8;revert w1;exact q9j qtr qtE (fun e=>by exact⟨_,rfl,fun h=>by cases h⟩) fun w1 t8=>by
  have:=quJ;have:=@qkd.eq_1;have:=@q5z;have:=@Zb.eq_1;exact gA
def Zc (w0:List qv):(List qc×Int)→Option ((List qc×Int)⊕(List qc))|(w1,t6)=>if t6<((w0.length:Nat):Int) then if 0≤t6∧t6<((w0.length:Nat):Int) then Option.bind w0[Int.toNat t6]? fun(a:qv)=>Option.bind (zB (Zb w0 t6 a.Need.Set) (w1,0)) fun(a2:List qc)=>some (Sum.inl (a2,w64 (t6+1))) else none else some (Sum.inr w1)
theorem q5N:∀(w0:List qv) (w1:List qc) (t6:Int) (q0j QQ:Nat),q0j=w0.length→QQ=w1.length→XL2 evo 54 0 4 ⟨[(3,rO 0 6 q0j),(5,rO 1 2 QQ),(6,rI t6)],[(0,bR 150 6 qV w0),(1,bR 55 2 qd w1)],2,85⟩=(zB (Zc w0) (w1,t6)).bind (fun(e:List qc)=>some (Exit.exit 0,⟨[(5,rO 0 2 e.length)],[(0,bR 55 2 qd e)],1,85⟩)):=
 by
 intro w0 w1 t6 q0j QQ h0 h1
 subst h0 h1
 revert t6;revert w1;exact q9j qtw qty (fun e=>by exact⟨_,rfl,fun h=>by cases h⟩) fun w1 t6=>by
  have:=quJ;have:=@qk2.eq_1;have:=@q60;have:=@Zc.eq_1;exact gA
theorem q4v:∀  (w0:List qv) (t6:Int) (q0j:Nat),q0j=w0.length→XL2 evo 54 0 4 ⟨[(3,rO 0 6 q0j),(5,rO 1 2 0),(6,rI t6)],[(0,bR 150 6 qV w0),(1,B.row 55 2 [])],2,85⟩=(zB (Zc w0) ([],t6)).bind (fun(e:List qc)=>some (Exit.exit 0,⟨[(5,rO 0 2 e.length)],[(0,bR 55 2 qd e)],1,85⟩)):=by
 intro w0 t6 q0j h0;subst h0;have h:=q5N w0 [] t6 _ _ rfl rfl
 first
  | exact h
  | (simp only[rL,dL,bR,bZ,Nat.reduceAdd] at h;exact h)
def q1i (x0:qb):Option (List qc):=Option.bind (q3k x0 1) fun(a:Sum Unit (List qv))=>Sum.elim (fun(a2:Unit)=>Option.bind (zB (q0K []) ([],0)) fun(a4:List qc)=>some a4) (fun(a3:List qv)=>Option.bind (zB (Zc a3) ([],0)) fun(a5:List qc)=>some a5) a
theorem q9J:∀(qH Jc zb:Int) (zc:List qc) (Jd:List qb),ev 54 0 [R.agg [dI qH,dI Jc,dI zb,dL 2 qd zc,dL 5 qh Jd]] []=(q1i (qb.mk qH Jc zb zc Jd)).bind (fun(e:List qc)=>some (rO 0 2 e.length,[(0,bR 55 2 qd e)])):=
 fun qH Jc zb zc Jd=>by
  rw[qW qyp qKq.2.2.2 qEw]
  have:=quJ;have:=@qcU;have:=@q5j;have:=@q4v;have:=@q1i.eq_1;exact gA
theorem qMo:okL 55 qmI:=qZ (qk qHX) (by kernel_rfl) (by kernel_rfl)
def qNA:=JA_ @qmI.eq_1 (JA_ @Tryz.f55.eq_1 @qHX)
theorem qLu:okL 96 qoL:=qZ (qk qFl) (by kernel_rfl) (by kernel_rfl)
def qMl:=JA_ @qoL.eq_1 (JA_ @Tryz.f96.eq_1 @qFl)
def q4k (n:Int) (m:Int):Option Int:=if m=0 then none else if m=0 then none else some (Int.tmod (w64 (Int.tmod n m+m)) m)
theorem qdI:∀(n m:Int),ev 96 0 [rI n,rI m] []=(q4k n m).bind (fun(e:Int)=>some (rI e,[])):=
 fun n m=>by
  rw[qW qFl qKd.2.2.2 qLu]
  have:=qMl;have:=@q4k.eq_1;exact gA
def QN (n:Int) (d:qi):Option (Int×qi):=if((d.L.length:Nat):Int)≤d.At then some (0,d) else if 0≤w64 (w64 (d.At+1)-1)∧w64 (w64 (d.At+1)-1)<((d.L.length:Nat):Int) then Option.bind d.L[Int.toNat (w64 (w64 (d.At+1)-1))]? fun(a:Int)=>Option.bind (q4k a n) fun(a2:Int)=>some (a2,qi.mk d.L (w64 (d.At+1))) else none
theorem q3D:∀(n:Int) (d_L:List Int) (q8S:Int),ev 55 1 [rP 0,rI n] [(0,B.blk 109 [dL 1 eI d_L,dI q8S])]=(QN n (qi.mk d_L q8S)).bind (fun(e:Int×qi)=>some (rI e.1,[(0,B.blk 109 [dL 1 eI e.2.L,dI e.2.At])])):=
 fun n d_L q8S=>by
  rw[qW qHX qK2.2.2.2 qMo]
  have:=qNA;have:=@qdI;have:=@QN.eq_1;exact gA
def Zl (w1:List qc) (t8:Int):(List qa×qi×Int)→Option ((List qa×qi×Int)⊕(List qa))|(w2,b0,t9)=>if t9<t8 then Option.bind (QN ((w1.length:Nat):Int) b0) fun(a:Prod Int qi)=>if 0≤a.1∧a.1<((w1.length:Nat):Int) then Option.bind w1[Int.toNat a.1]? fun(a2:qc)=>Option.bind (QN 4 a.2) fun(a3:Prod Int qi)=>if 0≤a3.1∧a3.1<4 then Option.bind [(5:Int),6,10,3][Int.toNat a3.1]? fun(a4:Int)=>Option.bind (QN 7 a3.2) fun(a5:Prod Int qi)=>if 0≤a5.1∧a5.1<7 then Option.bind [(50:Int),60,90,40,100,79,80][Int.toNat a5.1]? fun(a6:Int)=>Option.bind (QN 600 a5.2) fun(a7:Prod Int qi)=>Option.bind (QN 8 a7.2) fun(a8:Prod Int qi)=>if(a8.1==0)=Bool.true then if 0<t9 then if 0≤w64 (t9-1)∧w64 (t9-1)<((w2.length:Nat):Int) then Option.bind w2[Int.toNat (w64 (t9-1))]? fun(a9:qa)=>if 0<((a9.Sources.length:Nat):Int) then Option.bind a9.Sources[0]? fun(a10:Int)=>if w2.length+1≤maxLen∧(w2.length+1)*104≤140737488355328 then some (Sum.inl (w2++[qa.mk a2 a4 a6 a7.1 [a10] 0 []],a8.2,w64 (t9+1))) else none else none else none else if w2.length+1≤maxLen∧(w2.length+1)*104≤140737488355328 then some (Sum.inl (w2++[qa.mk a2 a4 a6 a7.1 [w64 (w64 (w64 (1000000*a2.School)+t9)+1)] 0 []],a8.2,w64 (t9+1))) else none else if w2.length+1≤maxLen∧(w2.length+1)*104≤140737488355328 then some (Sum.inl (w2++[qa.mk a2 a4 a6 a7.1 [w64 (w64 (w64 (1000000*a2.School)+t9)+1)] 0 []],a8.2,w64 (t9+1))) else none else none else none else none else some (Sum.inr w2)
theorem q9h:∀(w1:List qc) (w2:List qa) (q3L:List Int) (q1R t8 t9:Int) (QQ q1l:Nat),QQ=w1.length→q1l=w2.length→XL2 evo 31 0 6 ⟨[(5,rP 0),(6,rO 1 2 QQ),(7,rO 2 8 q1l),(8,rI t8),(9,rI t9)],[(0,B.blk 109 [dL 1 eI q3L,dI q1R]),(1,bR 55 2 qd w1),(2,bR 57 8 qf w2)],3,77⟩=(zB (Zl w1 t8) (w2,(qi.mk q3L q1R),t9)).bind (fun(e:List qa)=>some (Exit.exit 0,⟨[(7,rO 0 8 e.length)],[(0,bR 57 8 qf e)],1,77⟩)):=
 by
 intro w1 w2 q3L q1R t8 t9 QQ q1l h0 h1
 subst h0 h1
 have h:=q4O (E:=evo) (f:=31) (k:=0) (st:=fun x:List qa×qi×Int=>(⟨[(5,rP 0),(6,rO 1 2 w1.length),(7,rO 2 8 x.1.length),(8,rI t8),(9,rI x.2.2)],[(0,B.blk 109 [dL 1 eI x.2.1.L,dI x.2.1.At]),(1,bR 55 2 qd w1),(2,bR 57 8 qf x.1)],3,77⟩:S)) (ex:=fun(e:List qa)=>(Exit.exit 0,⟨[(7,rO 0 8 e.length)],[(0,bR 57 8 qf e)],1,77⟩)) (step:=(Zl w1 t8)) qDB qzR (fun e h=>by cases h) (fun x=>by
  obtain⟨w2,b0,t9⟩:=x;have:=qKt;have:=@qoY.eq_1;have:=@q3D;have:=@Zl.eq_1;exact gA) (w2,(qi.mk q3L q1R),t9)
 exact h
theorem q78:∀  (w1:List qc) (q3L:List Int) (q1R t8 t9:Int) (QQ:Nat),QQ=w1.length→XL2 evo 31 0 6 ⟨[(5,rP 0),(6,rO 1 2 QQ),(7,rO 2 8 0),(8,rI t8),(9,rI t9)],[(0,B.blk 109 [dL 1 eI q3L,dI q1R]),(1,bR 55 2 qd w1),(2,B.row 57 8 [])],3,77⟩=(zB (Zl w1 t8) ([],(qi.mk q3L q1R),t9)).bind (fun(e:List qa)=>some (Exit.exit 0,⟨[(7,rO 0 8 e.length)],[(0,bR 57 8 qf e)],1,77⟩)):=by
 intro w1 q3L q1R t8 t9 QQ h0;subst h0;have h:=q9h w1 [] ((qi.mk q3L q1R)).L ((qi.mk q3L q1R)).At t8 t9 _ _ rfl rfl
 first
  | exact h
  | (simp only[rL,dL,bR,bZ,Nat.reduceAdd] at h;exact h)
def q3t (x0:qb) (x1:List Int):Option (List qa):=Option.bind (q1i x0) fun(a:List qc)=>if a.length+1≤maxLen∧(a.length+1)*24≤140737488355328 then Option.bind (QN 8 (qi.mk x1 0)) fun(a2:Prod Int qi)=>Option.bind (zB (Zl (a++[qc.mk 1 (ByteArray.mk (List.toArray [90]))]) a2.1) ([],(a2.2,0))) fun(a3:List qa)=>some a3 else none
theorem qcO:∀(qH Jc zb:Int) (zc:List qc) (Jd:List qb) (x1:List Int),ev 31 0 [R.agg [dI qH,dI Jc,dI zb,dL 2 qd zc,dL 5 qh Jd],rL 1 eI x1] []=(q3t (qb.mk qH Jc zb zc Jd) x1).bind (fun(e:List qa)=>some (rL 8 qf e,[])):=
 fun qH Jc zb zc Jd x1=>by
  rw[qW qF0 qKx.2.2.2 qJO]
  have:=qKt;have:=@q9J;have:=@q3D;have:=@q78;have:=@q3t.eq_1;exact gA
def q0d (c:q0c):Option (qe×List qa×Int):=Option.bind (q3s c.Programme) fun(a:qe)=>Option.bind (q3r c.Had) fun(a2:List qa)=>if(Int.tmod c.Day 2==0)=Bool.true then Option.bind (q3t a.Need c.Had) fun(a3:List qa)=>some (a,a3,Int.tmod (w64 c.Day) 800) else some (a,a2,Int.tmod (w64 c.Day) 800)
theorem q7X:∀(q8T qyh:List Int) (qyi:Int),ev 11 0 [R.agg [dL 1 eI q8T,dL 1 eI qyh,C.d (D.int .u16 qyi)]] []=(q0d (q0c.mk q8T qyh qyi)).bind (fun(e:qe×List qa×Int)=>some (R.tup [R.agg [dI e.1.School,dI e.1.Id,dI e.1.Version,dI e.1.From,dS e.1.Name,dI e.1.Need.Kind,dI e.1.Need.N,dI e.1.Need.Min,dL 2 qd e.1.Need.Set,dL 5 qh e.1.Need.L,dI e.1.Total,dI e.1.Own,dI e.1.Age,dL 4 (eA2 qd) e.1.Exclude],rL 8 qf e.2.1,rI e.2.2],[])):=
 fun q8T qyh qyi=>by
  rw[qW qFF qJT.2.2.2 qOb]
  have:=qL7;have:=@qd6;have:=@qcm;have:=@qcO;have:=@q0d.eq_1;exact gA
end

end Go.Proofs.YtojflbfdcpkedaaGreat.Vc
