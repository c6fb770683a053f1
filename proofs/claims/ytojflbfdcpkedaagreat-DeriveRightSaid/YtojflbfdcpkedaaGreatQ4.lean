/- Part 4 of a proof. -/
import Derived.Test.YtojflbfdcpkedaaGreatQ3
set_option linter.unusedVariables false
set_option linter.unusedSimpArgs false
set_option linter.defProp false
set_option linter.unusedSectionVars false
set_option linter.unnecessarySimpa false
namespace Go.Proofs.YtojflbfdcpkedaaGreat.Vc
noncomputable section
open Go.RowKit
theorem qHk:qgZ Tryz.prog 55=true:=by kernel_rfl
theorem qIv:qt7 Tryz.prog 70=true:=by kernel_rfl
def by0:=JA_ @k3 (JA_ @z3 (JA_ @b3 (JA_ @o3 (JA_ @q3 (JA_ @k4 (JA_ @z4 (JA_ @b4 (JA_ @o4 (JA_ @q4 (JA_ @k5 (@z5)))))))))))
def by1:=JA_ @k9 (JA_ @z9 (@q9))
def by2:=JA_ @q21 (JA_ @k22 (JA_ @z22 (JA_ @o22 (JA_ @q22 (JA_ @k23 (JA_ @z23 (JA_ @k25 (@z25))))))))
def by3:=JA_ @q25 (JA_ @k26 (JA_ @z26 (JA_ @o26 (JA_ @q26 (JA_ @k28 (JA_ @z28 (JA_ @o28 (JA_ @q28 (JA_ @k29 (JA_ @z29 (JA_ @o29 (JA_ @k33 (@z33)))))))))))))
def by4:=JA_ @q33 (JA_ @k34 (JA_ @z34 (JA_ @o34 (JA_ @q34 (JA_ @k36 (JA_ @z36 (JA_ @b36 (JA_ @o36 (JA_ @q36 (JA_ @k37 (JA_ @z37 (JA_ @q37 (JA_ @k39 (JA_ @z39 (JA_ @o39 (@q39))))))))))))))))
def by5:=JA_ @k48 (JA_ @z48 (JA_ @o48 (JA_ @q48 (JA_ @k49 (JA_ @z49 (JA_ @o49 (@q49)))))))
def by6:=JA_ @k55 (JA_ @z55 (JA_ @b55 (JA_ @o55 (JA_ @q55 (JA_ @k57 (JA_ @z57 (JA_ @b57 (JA_ @o57 (JA_ @q57 (@k59))))))))))
def by7:=JA_ @z59 (JA_ @k60 (JA_ @z60 (JA_ @k62 (JA_ @z62 (JA_ @q62 (@k63))))))
def by8:=JA_ @k70 (JA_ @z70 (JA_ @o70 (@q70)))
def by9:=@k76
def qNZ:=JA_ @k85 (JA_ @q85 (JA_ @k88 (JA_ @z88 (JA_ @o88 (@q88)))))
def qNk:=@q92
def qMe:=JA_ @qNc (JA_ @qPh (JA_ @qOM (JA_ @qPn (JA_ @qN2 (JA_ @qMw (JA_ @qMS (@qOK)))))))
def qOZ:=JA_ @qOe (JA_ @qMT (JA_ @qMv (JA_ @qMq (JA_ @qNA (JA_ @qNH (JA_ @qNY (JA_ @qOd (@qOO))))))))
def qNb:=JA_ @qOx (JA_ @qNw (JA_ @qPg (@qNf)))
def qNX:=JA_ @qOD (JA_ @qMy (JA_ @qLY (JA_ @qM0 (JA_ @qO3 (JA_ @qMt (JA_ @qOo (JA_ @qO6 (JA_ @qNO (JA_ @qNq (@qNJ))))))))))
def qM2:=JA_ @qOU (JA_ @qMZ (JA_ @qNW (JA_ @qNg (JA_ @qOT (JA_ @qP6 (@qPs))))))
def qNz:=JA_ @qN0 (JA_ @qO9 (@qNt))
def qNr:=JA_ @qMg (JA_ @qPc (JA_ @qNK (JA_ @qMs (JA_ @qMQ (JA_ @qNR (JA_ @qMk (JA_ @qMp (JA_ @qMR (JA_ @qOb (@qOg))))))))))
def qMh:=JA_ @qOc (@qLT)
def qM8:=@qMP
def qNm:=JA_ @qOl (@qOX)
def qPi:=@qHk
def qOA:=JA_ @qIv (JA_ @pw5 (JA_ @qKu (JA_ @qKn (JA_ @qLI (JA_ @qKz (JA_ @qKH (JA_ @qJK (JA_ @qL7 (JA_ @qKo (JA_ @qJP (JA_ @qK5 (JA_ @qKV (JA_ @qLa (JA_ @qKT (JA_ @qKe (JA_ @qKw (JA_ @qKj (JA_ @qLs (@qL9)))))))))))))))))))
def qMi:=JA_ @qLv (JA_ @qK4 (JA_ @qKt (JA_ @qLz (JA_ @qKr (JA_ @qLE (JA_ @qL5 (JA_ @qKM (JA_ @qKi (JA_ @qLu (JA_ @qKC (JA_ @qL2 (JA_ @qLm (JA_ @qKF (JA_ @qL3 (JA_ @qLc (JA_ @qLf (JA_ @qKA (JA_ @qLw (JA_ @qJE (JA_ @qKL (JA_ @qLU (JA_ @qKE (JA_ @qKS (JA_ @qLH (JA_ @qJU (JA_ @qKJ (JA_ @qJY (JA_ @qKq (JA_ @qJO (@qLj))))))))))))))))))))))))))))))
def qOu:=JA_ @qKO (JA_ @qKx (JA_ @qFI (JA_ @qKd (JA_ @qIP (JA_ @qLi (JA_ @qH5 (JA_ @qLx (JA_ @qLh (JA_ @qJS (JA_ @qLb (JA_ @qLJ (JA_ @qIp (JA_ @qFL (JA_ @qKU (JA_ @qKa (JA_ @qKK (JA_ @qLd (JA_ @qzs (JA_ @qBn (JA_ @qCZ (JA_ @qBg (JA_ @qpi (JA_ @qDt (JA_ @qEw (JA_ @qEz (JA_ @qBs (JA_ @qD8 (JA_ @qCd (JA_ @qDD (@qC2))))))))))))))))))))))))))))))
def qOV:=JA_ @qDN (JA_ @qCH (JA_ @qBz (JA_ @qyb (JA_ @qtu (JA_ @qDc (JA_ @qDJ (JA_ @qBi (JA_ @qAE (JA_ @qCC (JA_ @qzw (JA_ @qBV (JA_ @qC1 (JA_ @qAh (JA_ @qC6 (JA_ @qzH (JA_ @qDK (JA_ @qCL (JA_ @qDr (@qCD)))))))))))))))))))
def qLX:=JA_ @qEc (JA_ @qAi (JA_ @qzA (JA_ @qBM (JA_ @qDB (JA_ @qDu (JA_ @qEA (JA_ @qEm (JA_ @qt9 (JA_ @qzx (JA_ @qBH (JA_ @qF3 (JA_ @qE4 (JA_ @qBP (JA_ @qE0 (JA_ @qBX (JA_ @qGh (@qIT)))))))))))))))))
def qP5:=JA_ @qHI (JA_ @qI4 (JA_ @qI3 (JA_ @qGM (JA_ @qHo (JA_ @qHy (JA_ @qIe (JA_ @qHS (JA_ @qHD (JA_ @qJa (JA_ @qH6 (JA_ @qIM (JA_ @qIw (JA_ @qHl (@qIX))))))))))))))
def qP9:=JA_ @qGZ (JA_ @qJn (JA_ @qJm (JA_ @qHf (JA_ @qGP (JA_ @qJ2 (JA_ @qGF (JA_ @qIQ (JA_ @qJs (JA_ @qHO (JA_ @qIW (JA_ @qJr (JA_ @qHT (JA_ @qJo (JA_ @qGV (JA_ @qHY (JA_ @qIj (JA_ @qHm (@qIK))))))))))))))))))
def qNV:=JA_ @qIC (JA_ @qIs (JA_ @qGc (JA_ @qDV (JA_ @qEG (JA_ @qCg (JA_ @qBp (JA_ @qCj (JA_ @qCS (JA_ @qCu (@qA5))))))))))
def qML:=JA_ @qBN (JA_ @qDH (JA_ @qAf (JA_ @qBm (JA_ @qBw (JA_ @qC5 (JA_ @qBQ (JA_ @qEV (JA_ @qCr (JA_ @qDG (JA_ @qAD (@qF7)))))))))))
def qMo:=JA_ @qBa (JA_ @qCB (JA_ @qEC (JA_ @qIc (JA_ @qzu (JA_ @qAT (JA_ @qA4 (JA_ @qzE (JA_ @qF6 (JA_ @qD7 (JA_ @qB0 (JA_ @qD0 (JA_ @qDz (JA_ @qB3 (JA_ @qDA (JA_ @qAH (JA_ @qDR (@qA9)))))))))))))))))
def qOI:=JA_ @qDq (JA_ @qED (JA_ @quC (JA_ @qDY (JA_ @qEt (JA_ @qxe (JA_ @qA1 (JA_ @qAM (JA_ @qDQ (JA_ @qB1 (JA_ @qE3 (JA_ @qDU (JA_ @qBJ (JA_ @qwT (JA_ @qAz (JA_ @qDF (JA_ @qzy (JA_ @qDk (JA_ @qES (JA_ @qCe (@qBu))))))))))))))))))))
def qNI:=JA_ @qBY (JA_ @qrG (JA_ @qrr (JA_ @qsT (JA_ @qrx (JA_ @qyB (JA_ @qvK (JA_ @qvg (JA_ @qyA (JA_ @qvc (JA_ @qya (JA_ @qyS (JA_ @qyD (@qxu)))))))))))))
def qOL:=JA_ @qx2 (JA_ @qvk (JA_ @qy8 (JA_ @qwP (@qxZ))))
def qNE:=JA_ @qAw (JA_ @qwC (JA_ @qEH (JA_ @qwA (@qzv))))
def qPa:=JA_ @quV (JA_ @qEq (JA_ @qBA (JA_ @qDm (JA_ @qDT (JA_ @qAZ (JA_ @qAx (JA_ @qEd (JA_ @qzO (JA_ @qx5 (JA_ @qvj (JA_ @qCY (JA_ @qzP (JA_ @qEx (JA_ @qyj (JA_ @qwH (JA_ @qvV (JA_ @qCh (JA_ @qEQ (JA_ @qyP (JA_ @qB7 (JA_ @qBc (JA_ @qvq (JA_ @qCP (JA_ @qDC (JA_ @qBk (JA_ @qBR (JA_ @qwF (@qvX))))))))))))))))))))))))))))
def qPv:=JA_ @quL (JA_ @quP (JA_ @qv6 (JA_ @qs4 (JA_ @qwO (JA_ @quM (JA_ @quy (JA_ @qwt (JA_ @qy3 (JA_ @qsk (JA_ @qrM (@qyK)))))))))))
def qMA:=JA_ @qyV (JA_ @qys (JA_ @qvZ (JA_ @qA7 (JA_ @qyz (JA_ @qDi (JA_ @qxy (JA_ @qAl (JA_ @quI (@qzr)))))))))
def qOH:=JA_ @qDa (JA_ @qDx (JA_ @qDb (JA_ @qEF (JA_ @qEi (JA_ @qAY (JA_ @qDe (JA_ @qwo (JA_ @qw0 (JA_ @qAA (JA_ @qAL (JA_ @qA2 (JA_ @qy0 (JA_ @qxx (JA_ @qy9 (JA_ @qAq (JA_ @qBv (JA_ @qxq (JA_ @qAe (JA_ @qEp (JA_ @qwf (JA_ @qEB (JA_ @qEf (JA_ @qBZ (JA_ @qCK (JA_ @qvM (JA_ @qxa (JA_ @qxD (@qwm))))))))))))))))))))))))))))
def qP2:=JA_ @quH (JA_ @qrQ (JA_ @qyp (JA_ @qxC (JA_ @qy2 (JA_ @qvO (JA_ @quA (JA_ @qrE (JA_ @qsA (@qwr)))))))))
def qPp:=@qwD
def bt0:=JA_ @qHB (JA_ @qtl (JA_ @qH9 (JA_ @qDI (JA_ @qzt (JA_ @qyJ (JA_ @qAJ (JA_ @qCF (JA_ @qeZ (JA_ @qm6 (@qlO))))))))))
def bt1:=JA_ @qAg (JA_ @qCV (JA_ @qtg (JA_ @q7J (JA_ @qD3 (JA_ @qm9 (JA_ @qCn (@qux)))))))
def bt2:=JA_ @qxj (JA_ @qyI (JA_ @qxo (JA_ @qA8 (JA_ @qlQ (JA_ @qCp (@qxc))))))
def bt3:=@qlM
def bt4:=JA_ @qt0 (JA_ @qrZ (@qsa))
def bt5:=JA_ @qHL (JA_ @qsy (JA_ @qA3 (JA_ @qEN (JA_ @qxh (@qhY)))))
def bt6:=JA_ @qw8 (JA_ @qws (JA_ @qdS (JA_ @qen (JA_ @q8Y (JA_ @qge (JA_ @qc3 (JA_ @q7e (JA_ @qc7 (JA_ @qef (@qwn))))))))))
def bA:=JA_ @bx0 (JA_ @bx1 (JA_ @bx2 (JA_ @bx3 (JA_ @bx4 (JA_ @bx5 (JA_ @bx6 (JA_ @bx7 (JA_ @bx8 (JA_ @bx9 (JA_ @qNa (JA_ @qNP (JA_ @qN7 (JA_ @qN1 (JA_ @qPm (JA_ @qOP (JA_ @qNB (JA_ @qO1 (JA_ @qM3 (JA_ @qOQ (JA_ @qNe (JA_ @qNQ (JA_ @qNS (JA_ @qMj (JA_ @qMC (JA_ @qMn (JA_ @qPj (JA_ @qMO (JA_ @bz0 (JA_ @bz1 (JA_ @by0 (JA_ @by1 (JA_ @by2 (JA_ @by3 (JA_ @by4 (JA_ @by5 (JA_ @by6 (JA_ @by7 (JA_ @by8 (JA_ @by9 (JA_ @qNZ (JA_ @qNk (JA_ @qMe (JA_ @qOZ (JA_ @qNb (JA_ @qNX (JA_ @qM2 (JA_ @qNz (JA_ @qNr (JA_ @qMh (JA_ @qM8 (JA_ @qNm (JA_ @qPi (JA_ @qOA (JA_ @qMi (JA_ @qOu (JA_ @qOV (JA_ @qLX (JA_ @qP5 (JA_ @qP9 (JA_ @qNV (JA_ @qML (JA_ @qMo (JA_ @qOI (JA_ @qNI (JA_ @qOL (JA_ @qNE (JA_ @qPa (JA_ @qPv (JA_ @qMA (JA_ @qOH (JA_ @qP2 (JA_ @qPp (JA_ @bt0 (JA_ @bt1 (JA_ @bt2 (JA_ @bt3 (JA_ @bt4 (JA_ @bt5 (@bt6)))))))))))))))))))))))))))))))))))))))))))))))))))))))))))))))))))))))))))))))
def bZ:=JA_ @qQc.{0} (JA_ @qQR.{0} (JA_ @q7K (JA_ @qQN.{0} (JA_ @qQg.{0} (JA_ @qQP.{0} (JA_ @qQt (JA_ @qRa.{0,0} (JA_ @List.flatMap_nil.{0,0} (JA_ @qQs.{0,0} (JA_ @List.map_nil.{0,0} (JA_ @eI.eq_1 (JA_ @eS.eq_1 (JA_ @qRb.{0} (JA_ @qQp.{0} (JA_ @qQq.{0} (JA_ @List.flatMap_append.{0,0} (JA_ @List.map_append.{0,0} (JA_ @q2D (JA_ @q1i (JA_ @JH (@eA2.eq_1)))))))))))))))))))))
theorem gA {P:Prop} (h:P:=by simp -implicitDefEqProofs (maxSteps:=10000000) only[bA,Int.reduceToNat,Int.reduceLT,Int.reduceLE,Int.reduceAdd,Int.reduceSub,Int.reduceMul,Int.reduceNeg,Int.reduceEq,Int.reduceNe,Int.reduceBEq,Int.reduceBNe,Nat.reduceLT,Nat.reduceAdd,Nat.reduceMul,Nat.reduceSub,Nat.reduceEqDiff,Nat.reduceLeDiff,Nat.reduceBEq,Nat.reduceBNe,↓reduceIte,reduceCtorEq,pure,bind,w64,Q3,roundOf,Option.or_some,Option.or_none,Option.none_or,Option.some_or, *]<;>simp only[rL,dL,bR,bZ,Nat.reduceAdd]):P:=h
end
noncomputable section
open Go.RowKit
set_option maxRecDepth 20000
set_option maxHeartbeats 8000000
theorem qGi:okL 15 qf3:=qV (qk qzh) (by kernel_rfl) (by kernel_rfl)
def qGG:=JA_ @qf3.eq_1 (JA_ @Tryz.f15.eq_1 @qzh)
theorem qEk:lbO 15 6=qpK:=Qz (qk qzh) rfl
theorem qCo:okL 15 qpK:=zS qGi (qQ6 (i:=0) (by kernel_rfl))
theorem qnr:raO 15 19=qaO:=qun (qk qzh) rfl
theorem qje:rbO 15 19=q94:=quj (qk qzh) rfl
theorem qn7:okL 15 qaO∧okL 15 q94:=qtK (key:=0) (q:=(qaO,q94)) qGi (qQ6 (i:=0) (by kernel_rfl))
theorem qih:Q5 (rbO 15 19)=19:=by rw[qje];exact qvh
theorem qv4:∀k s,XE2 evo 15 k (raO 15 19) s=XE2 evo 15 k qaO s:=fun _ _=>by rw[qnr]
theorem qwI:∀k s,XE2 evo 15 k (rbO 15 19) s=XE2 evo 15 k q94 s:=fun _ _=>by rw[qje]
theorem qNT:okL 33 qo1:=qV (qk qJp) (by kernel_rfl) (by kernel_rfl)
def qPt:=JA_ @qo1.eq_1 (JA_ @Tryz.f33.eq_1 @qJp)
theorem qK7:okL 56 qkX:=qV (qk qFu) (by kernel_rfl) (by kernel_rfl)
def qKX:=JA_ @qkX.eq_1 (JA_ @Tryz.f56.eq_1 @qFu)
theorem qve:lbO 56 13=qhS:=Qz (qk qFu) rfl
theorem qyG:okL 56 qhS:=zS qK7 (qQ6 (i:=0) (by kernel_rfl))
theorem qM9:okL 97 qnG:=qV (qk qHP) (by kernel_rfl) (by kernel_rfl)
def qO4:=JA_ @qnG.eq_1 (JA_ @Tryz.f97.eq_1 @qHP)
def q3Z (n:Int) (low:Int) (high:Int):Option Bool:=if low≤n then some (decide (n≤high)) else some Bool.false
def zB (n:Int) (low:Int) (high:Int):Bool:=if low≤n then decide (n≤high) else Bool.false
theorem qaX (n low high:Int):q3Z n low high=some (zB n low high):=by
 unfold q3Z zB
 simp only[Zs]
theorem Jv:∀(n low high:Int),ev 97 0 [rI n,rI low,rI high] []=some (rB (zB n low high),[]):=
 fun n low high=>by
  have h:ev 97 0 [rI n,rI low,rI high] []=(q3Z n low high).bind (fun(e:Bool)=>some (rB e,[])):=by
   rw[qU qHP qKa.2.2.2 qM9]
   have:=qO4;have:=@q3Z.eq_1;exact gA
  rw[qaX] at h
  exact h
theorem qKG:okL 98 qjS:=qV (qk qFp) (by kernel_rfl) (by kernel_rfl)
def qJN:=JA_ @qjS.eq_1 (JA_ @Tryz.f98.eq_1 @qFp)
theorem qAP:lbO 98 2=qof:=Qz (qk qFp) rfl
theorem qCf:okL 98 qof:=zS qKG (qQ6 (i:=0) (by kernel_rfl))
def q0p (s:ByteArray) (t6:List Int) (t7:Int):Int→Option (Int⊕(Unit⊕Unit))|t8=>if t8<t7 then if 0≤t8∧t8<((t6.length:Nat):Int) then Option.bind t6[Int.toNat t8]? fun(a:Int)=>if a<32 then some (Sum.inr (Sum.inl ())) else if 126<a then some (Sum.inr (Sum.inl ())) else if(a==34)=Bool.true then some (Sum.inr (Sum.inl ())) else some (Sum.inl (w64 (t8+1))) else none else some (Sum.inr (Sum.inr ()))
theorem qak:∀(s:ByteArray) (t6:List Int) (t7 t8:Int),XL2 evo 98 0 2 ⟨[(0,rS s),(6,rL 1 eU8 t6),(7,rI t7),(8,rI t8)],[],0,26⟩=(zw (q0p s t6 t7) t8).bind (Sum.elim (fun(e:Unit)=>some (Exit.ret,⟨[(0,rS s),(2,rB Bool.false)],[],0,26⟩)) (fun(e:Unit)=>some (Exit.exit 0,⟨[(0,rS s),(2,R.any)],[],0,26⟩))):=
 fun s t6 t7 t8=>by
  revert t8;exact qbL qAP qCf (fun e=>by rcases e with _|_<;>exact⟨_,rfl,fun h=>by cases h⟩) fun x=>by
   have:=qJN;have:=@qof.eq_1;have:=@q0p.eq_1;exact gA
def q1f (s:ByteArray):Option Bool:=if ByteArray.size s≤4611686018427387903 then Option.bind (zw (q0p s (qhK s) (((qhK s).length:Nat):Int)) 0) fun(a:Sum Unit Unit)=>Sum.elim (fun(a2:Unit)=>some Bool.false) (fun(a3:Unit)=>some (zB ((ByteArray.size s:Nat):Int) 1 40)) a else none
theorem qcU:∀(s:ByteArray),ev 98 0 [rS s] []=(q1f s).bind (fun(e:Bool)=>some (rB e,[])):=
 fun s=>by
  rw[qU qFp qKK.2.2.2 qKG]
  have:=qJN;have:=@qak;have:=@Jv;have:=@q1f.eq_1;exact gA
theorem qJV:okL 58 qkz:=qV (qk qG1) (by kernel_rfl) (by kernel_rfl)
def qL0:=JA_ @qkz.eq_1 (JA_ @Tryz.f58.eq_1 @qG1)
theorem qDo:lbO 58 6=qoW:=Qz (qk qG1) rfl
theorem qAy:okL 58 qoW:=zS qJV (qQ6 (i:=0) (by kernel_rfl))
theorem qD5:okL 102 qdK:=qV (qk qoa) (by kernel_rfl) (by kernel_rfl)
def quG:=JA_ @qdK.eq_1 (JA_ @Tryz.f102.eq_1 @qoa)
theorem qig:raO 102 4=q8S:=qun (qk qoa) rfl
theorem qgh:rbO 102 4=q6Z:=quj (qk qoa) rfl
theorem qfG:okL 102 q8S∧okL 102 q6Z:=qtK (key:=0) (q:=(q8S,q6Z)) qD5 (qQ6 (i:=0) (by kernel_rfl))
theorem qjb:Q5 (rbO 102 4)=4:=by rw[qgh];exact qxg
theorem qoA:∀k s,XE2 evo 102 k (raO 102 4) s=XE2 evo 102 k q8S s:=fun _ _=>by rw[qig]
theorem qqn:∀k s,XE2 evo 102 k (rbO 102 4) s=XE2 evo 102 k q6Z s:=fun _ _=>by rw[qgh]
theorem qId:okL 139 qic:=qV (qk qxn) (by kernel_rfl) (by kernel_rfl)
def qGB:=JA_ @qic.eq_1 (JA_ @Tryz.f139.eq_1 @qxn)
def q4R (n:qb):Option Unit:=
 some ()
def q8z (n:qb):Unit:=
 ()
theorem qbW (n:qb):q4R n=some (q8z n):=by
 unfold q4R q8z
 simp only[Zs]
theorem qde:∀(qB n_N qP:Int) (qQ:List qc) (n_L:List qb),ev 139 0 [R.agg [dI qB,dI n_N,dI qP,dL 2 qd qQ,dL 5 qh n_L]] []=some (R.c (C.fn 168 [] [dP 0]),[(0,B.blk 36 [dI qB,dI n_N,dI qP,dL 2 qd qQ,dL 5 qh n_L])]):=
 fun qB n_N qP qQ n_L=>by
  have h:ev 139 0 [R.agg [dI qB,dI n_N,dI qP,dL 2 qd qQ,dL 5 qh n_L]] []=(q4R (qb.mk qB n_N qP qQ n_L)).bind (fun(e:Unit)=>some (R.c (C.fn 168 [] [dP 0]),[(0,B.blk 36 [dI qB,dI n_N,dI qP,dL 2 qd qQ,dL 5 qh n_L])])):=by
   rw[qU qxn qBV.2.2.2 qId]
   have:=qGB;have:=@q4R.eq_1;exact gA
  rw[qbW] at h
  exact h
theorem qI1:okL 168 qjp:=qV (qk qxz) (by kernel_rfl) (by kernel_rfl)
def qJc:=JA_ @qjp.eq_1 (JA_ @Tryz.f168.eq_1 @qxz)
theorem qwW:okL 169 qfz:=qV (qk qnt) (by kernel_rfl) (by kernel_rfl)
def qr8:=JA_ @qfz.eq_1 (JA_ @Tryz.f169.eq_1 @qnt)
theorem qop:lbO 169 4=qfT:=Qz (qk qnt) rfl
theorem qqf:okL 169 qfT:=zS qwW (qQ6 (i:=0) (by kernel_rfl))
def q3g (t9:Int) (t10:Int) (t102:Int) (t103:Int) (t104:List qc) (t105:List qb) (deepest:Int) (ok:Bool):Option (Unit⊕(List qb×Int)):=if 100<t9 then some (Sum.inl ()) else if 1≤maxLen then some (Sum.inr ([qb.mk t10 t102 t103 t104 t105],max deepest t9)) else none
theorem qaT:∀(t9 t10 t102 t103:Int) (t104:List qc) (t105:List qb) (deepest:Int) (ok:Bool),evr 102 (raO 102 4) (rbO 102 4) 4 [R.any,R.any,rP 0,rP 1,rP 2,R.any,R.any,R.any,R.any,rI t9,R.agg [dI t10,dI t102,dI t103,dL 2 qd t104,dL 5 qh t105],R.any,R.any,R.any,R.any,R.any,R.any,R.any,R.any,R.any,R.any,R.any,R.any,R.any,R.any,R.any,R.any] [(0,B.blk 34 [C.nils]),(1,B.blk 3 [dI deepest]),(2,B.blk 4 [dB ok]),(3,B.ob (AO.lp 102 (R.any::R.any::rP 0::rP 1::rP 2::q95) [9,10] (raO 102 4) (rbO 102 4) LoopState.ready none))]=(q3g t9 t10 t102 t103 t104 t105 deepest ok).bind (Sum.elim (fun(e:Unit)=>some (rB Bool.false,[(0,B.blk 34 [C.nils]),(1,B.blk 3 [dI 0]),(2,B.blk 4 [dB Bool.false]),(3,B.ob (AO.lp 102 (R.any::R.any::rP 0::rP 1::rP 2::q95) [9,10] (raO 102 4) (rbO 102 4) LoopState.done (some Code.ret)))])) (fun(e:List qb×Int)=>some (rB Bool.true,[(0,B.blk 34 [dO 4 5 e.1.length]),(1,B.blk 3 [dI e.2]),(2,B.blk 4 [dB ok]),(3,B.ob (AO.lp 102 (R.any::R.any::rP 0::rP 1::rP 2::q95) [9,10] (raO 102 4) (rbO 102 4) LoopState.ready none)),(4,bR 36 5 qh e.1)]))):=
 fun t9 t10 t102 t103 t104 t105 deepest ok=>by
  rw[qiq qig qgh (by decide) qnS qfG.1 qfG.2]
  have:=quG;have:=@qoA;have:=@qqn;have:=@q8S.eq_1;have:=@q6Z.eq_1;have:=@q3g.eq_1;have:=@qjb;exact gA
def q2h (t9:Int) (t10:Int) (t102:Int) (t103:Int) (t104:List qc) (t105:List qb) (w4:List qb) (deepest:Int) (ok:Bool):Option (Unit⊕(List qb×Int)):=if 100<t9 then some (Sum.inl ()) else if(((w4.length:Nat):Int)==10000)=Bool.true then some (Sum.inl ()) else if w4.length+1≤maxLen∧(w4.length+1)*72≤140737488355328 then some (Sum.inr (w4++[qb.mk t10 t102 t103 t104 t105],max deepest t9)) else none
theorem q8V:∀(t9 t10 t102 t103:Int) (t104:List qc) (t105 w4:List qb) (deepest:Int) (ok:Bool) (Zo:Nat),Zo=w4.length→evr 102 (raO 102 4) (rbO 102 4) 4 [R.any,R.any,rP 0,rP 1,rP 2,R.any,R.any,R.any,R.any,rI t9,R.agg [dI t10,dI t102,dI t103,dL 2 qd t104,dL 5 qh t105],R.any,R.any,R.any,R.any,R.any,R.any,R.any,R.any,R.any,R.any,R.any,R.any,R.any,R.any,R.any,R.any] [(0,B.blk 34 [dO 4 5 Zo]),(1,B.blk 3 [dI deepest]),(2,B.blk 4 [dB ok]),(3,B.ob (AO.lp 102 (R.any::R.any::rP 0::rP 1::rP 2::q95) [9,10] (raO 102 4) (rbO 102 4) LoopState.ready none)),(4,bR 36 5 qh w4)]=(q2h t9 t10 t102 t103 t104 t105 w4 deepest ok).bind (Sum.elim (fun(e:Unit)=>some (rB Bool.false,[(0,B.blk 34 [C.nils]),(1,B.blk 3 [dI 0]),(2,B.blk 4 [dB Bool.false]),(3,B.ob (AO.lp 102 (R.any::R.any::rP 0::rP 1::rP 2::q95) [9,10] (raO 102 4) (rbO 102 4) LoopState.done (some Code.ret)))])) (fun(e:List qb×Int)=>some (rB Bool.true,[(0,B.blk 34 [dO 4 5 e.1.length]),(1,B.blk 3 [dI e.2]),(2,B.blk 4 [dB ok]),(3,B.ob (AO.lp 102 (R.any::R.any::rP 0::rP 1::rP 2::q95) [9,10] (raO 102 4) (rbO 102 4) LoopState.ready none)),(4,bR 36 5 qh e.1)]))):=
 by
 intro t9 t10 t102 t103 t104 t105 w4 deepest ok Zo h0
 subst h0
 rw[qiq qig qgh (by decide) qnS qfG.1 qfG.2]
 have:=quG;have:=@qoA;have:=@qqn;have:=@q8S.eq_1;have:=@q6Z.eq_1;have:=@q2h.eq_1;have:=@qjb;exact gA
def Ja (x:(qb×Int×List qb×Int×Bool)):List R×List (Nat×B):=([R.agg [C.d (D.int .i64 x.1.Kind),C.d (D.int .i64 x.1.N),C.d (D.int .i64 x.1.Min),C.d (D.sl 2 x.1.Set.length (x.1.Set.flatMap qd)),C.d (D.sl 5 x.1.L.length (x.1.L.flatMap qh))],R.c (C.d (D.int .i64 x.2.1)),R.c (C.hd .yield 0)],[(0,B.ob (AO.lp 102 [R.any,R.any,R.c (C.ptr 1 0),R.c (C.ptr 2 0),R.c (C.ptr 3 0),R.any,R.any,R.any,R.any,R.any,R.any,R.any,R.any,R.any,R.any,R.any,R.any,R.any,R.any,R.any,R.any,R.any,R.any,R.any,R.any,R.any,R.any] [9,10] (raO 102 4) (rbO 102 4) LoopState.ready none)),(1,B.blk 34 [C.own 4 5 0 x.2.2.1.length]),(2,B.blk 3 [C.d (D.int .i64 x.2.2.2.1)]),(3,B.blk 4 [C.d (D.bool x.2.2.2.2)]),(4,B.row 36 5 ((x.2.2.1.flatMap qh).map C.d))])
def Jw:(Int⊕(List qb×Int×Bool))→R×List (Nat×B):=Sum.elim (fun(e:Int)=>(R.c (C.d (D.bool Bool.false)),[(0,B.ob (AO.lp 102 [R.any,R.any,R.c (C.ptr 1 0),R.c (C.ptr 2 0),R.c (C.ptr 3 0),R.any,R.any,R.any,R.any,R.any,R.any,R.any,R.any,R.any,R.any,R.any,R.any,R.any,R.any,R.any,R.any,R.any,R.any,R.any,R.any,R.any,R.any] [9,10] (raO 102 4) (rbO 102 4) LoopState.done (some Code.ret))),(1,B.blk 34 [C.nils]),(2,B.blk 3 [C.d (D.int .i64 e)]),(3,B.blk 4 [C.d (D.bool Bool.false)])])) (fun(e:List qb×Int×Bool)=>(R.c (C.d (D.bool Bool.true)),[(0,B.ob (AO.lp 102 [R.any,R.any,R.c (C.ptr 1 0),R.c (C.ptr 2 0),R.c (C.ptr 3 0),R.any,R.any,R.any,R.any,R.any,R.any,R.any,R.any,R.any,R.any,R.any,R.any,R.any,R.any,R.any,R.any,R.any,R.any,R.any,R.any,R.any,R.any] [9,10] (raO 102 4) (rbO 102 4) LoopState.ready none)),(1,B.blk 34 [C.own 4 5 0 e.1.length]),(2,B.blk 3 [C.d (D.int .i64 e.2.1)]),(3,B.blk 4 [C.d (D.bool e.2.2)]),(4,B.row 36 5 ((e.1.flatMap qh).map C.d))]))
def q1b (rF:(qb×Int×List qb×Int×Bool)→Option (Int⊕(List qb×Int×Bool))) (deep:Int) (t15:List qb) (t16:Int):(List qb×Int×Bool×Int)→Option ((List qb×Int×Bool×Int)⊕(Int⊕(List qb×Int×Bool)))|(w4,b2,b3,t17)=>if t17<t16 then if 0≤t17∧t17<((t15.length:Nat):Int) then Option.bind t15[Int.toNat t17]? fun(a2:qb)=>Option.bind (rF (a2,(w64 (deep+1),(w4,(b2,b3))))) fun(a3:Sum Int (Prod (List qb) (Prod Int Bool)))=>Sum.elim (fun(a4:Int)=>some (Sum.inr (Sum.inl a4))) (fun(a5:Prod (List qb) (Prod Int Bool))=>some (Sum.inl (a5.1,a5.2.1,a5.2.2,w64 (t17+1)))) a3 else none else some (Sum.inr (Sum.inr (w4,b2,b3)))
theorem q7I (rE:Orc) (rF:(qb×Int×List qb×Int×Bool)→Option (Int⊕(List qb×Int×Bool))) (hF:∀y,rE (.fn 169) 4 (Ja y).1 (Ja y).2=(rF y).bind fun e=>some (Jw e)) (hM:∀g k a G,g≠169→rE (.fn g) k a G=ev g k a G) (hR:∀g asg bd k a G,rE (.rd g asg bd) k a G=evr g asg bd k a G):∀(w4:List qb) (b2:Int) (b3:Bool) (deep:Int) (t15:List qb) (t16 t17:Int) (Zo:Nat),Zo=w4.length→XL2 rE 169 4 4 ⟨[(1,rI deep),(2,R.c (C.hd .yield 0)),(15,rL 5 qh t15),(16,rI t16),(17,rI t17)],[(0,B.ob (AO.lp 102 (R.any::R.any::rP 1::rP 2::rP 3::q95) [9,10] (raO 102 4) (rbO 102 4) LoopState.ready none)),(1,B.blk 34 [dO 4 5 Zo]),(2,B.blk 3 [dI b2]),(3,B.blk 4 [dB b3]),(4,bR 36 5 qh w4)],5,28⟩=(zw (q1b rF deep t15 t16) (w4,b2,b3,t17)).bind (Sum.elim (fun(e:Int)=>some (Exit.ret,⟨[(6,rB Bool.false)],[(0,B.ob (AO.lp 102 (R.any::R.any::rP 1::rP 2::rP 3::q95) [9,10] (raO 102 4) (rbO 102 4) LoopState.done (some Code.ret))),(1,B.blk 34 [C.nils]),(2,B.blk 3 [dI e]),(3,B.blk 4 [dB Bool.false])],4,28⟩)) (fun(e:List qb×Int×Bool)=>some (Exit.exit 0,⟨[(6,R.any)],[(0,B.ob (AO.lp 102 (R.any::R.any::rP 1::rP 2::rP 3::q95) [9,10] (raO 102 4) (rbO 102 4) LoopState.ready none)),(1,B.blk 34 [dO 4 5 e.1.length]),(2,B.blk 3 [dI e.2.1]),(3,B.blk 4 [dB e.2.2]),(4,bR 36 5 qh e.1)],5,28⟩))):=
 by
 intro w4 b2 b3 deep t15 t16 t17 Zo h0
 subst h0
 revert t17;revert b3;revert b2;revert w4;exact qL6 qop qqf (fun e=>by rcases e with _|_<;>exact⟨_,rfl,fun h=>by cases h⟩) fun w4 b2 b3 t17=>by
  have hF':∀(qB n_N qP:Int) (qQ:List qc) (n_L:List qb) (deep:Int) (w4:List qb) (b2:Int) (b3:Bool) (Zo:Nat),Zo=w4.length→rE (.fn 169) 4 [R.agg [dI qB,dI n_N,dI qP,dL 2 qd qQ,dL 5 qh n_L],rI deep,R.c (C.hd .yield 0)] [(0,B.ob (AO.lp 102 (R.any::R.any::rP 1::rP 2::rP 3::q95) [9,10] (raO 102 4) (rbO 102 4) LoopState.ready none)),(1,B.blk 34 [dO 4 5 Zo]),(2,B.blk 3 [dI b2]),(3,B.blk 4 [dB b3]),(4,bR 36 5 qh w4)]=(rF ((qb.mk qB n_N qP qQ n_L),deep,w4,b2,b3)).bind (Sum.elim (fun(e:Int)=>some (rB Bool.false,[(0,B.ob (AO.lp 102 (R.any::R.any::rP 1::rP 2::rP 3::q95) [9,10] (raO 102 4) (rbO 102 4) LoopState.done (some Code.ret))),(1,B.blk 34 [C.nils]),(2,B.blk 3 [dI e]),(3,B.blk 4 [dB Bool.false])])) (fun(e:List qb×Int×Bool)=>some (rB Bool.true,[(0,B.ob (AO.lp 102 (R.any::R.any::rP 1::rP 2::rP 3::q95) [9,10] (raO 102 4) (rbO 102 4) LoopState.ready none)),(1,B.blk 34 [dO 4 5 e.1.length]),(2,B.blk 3 [dI e.2.1]),(3,B.blk 4 [dB e.2.2]),(4,bR 36 5 qh e.1)]))):=by intro qB n_N qP qQ n_L deep w4 b2 b3 Zo h0;subst h0;exact(hF ((qb.mk qB n_N qP qQ n_L),deep,w4,b2,b3)).trans (by congr 1;funext e;rcases e with _|_<;>rfl)
  have:=qr8;have:=@qfT.eq_1;have:=@q1b.eq_1;exact gA
def q18 (rF:(qb×Int×List qb×Int×Bool)→Option (Int⊕(List qb×Int×Bool))):(qb×Int×List qb×Int×Bool)→Option (Int⊕(List qb×Int×Bool))|(n,deep,w4,b2,b3)=>Option.bind (q2h deep n.Kind n.N n.Min n.Set n.L w4 b2 b3) fun(a2:Sum Unit (Prod (List qb) Int))=>Sum.elim (fun(a3:Unit)=>some (Sum.inl 0)) (fun(a4:Prod (List qb) Int)=>Option.bind (zw (q1b rF deep n.L ((n.L.length:Nat):Int)) (a4.1,(a4.2,(b3,0)))) fun(a5:Sum Int (Prod (List qb) (Prod Int Bool)))=>Sum.elim (fun(a6:Int)=>some (Sum.inl a6)) (fun(a7:Prod (List qb) (Prod Int Bool))=>some (Sum.inr (a7.1,a7.2.1,a7.2.2))) a5) a2
theorem q6l:q8v 169 4 Ja Jw q18:=by
 intro rE rF hF hM hR x
 obtain⟨n,deep,w4,b2,b3⟩:=x
 show qb9 rE 169 4 [R.agg [dI n.Kind,dI n.N,dI n.Min,dL 2 qd n.Set,dL 5 qh n.L],rI deep,R.c (C.hd .yield 0)] [(0,B.ob (AO.lp 102 (R.any::R.any::rP 1::rP 2::rP 3::q95) [9,10] (raO 102 4) (rbO 102 4) LoopState.ready none)),(1,B.blk 34 [dO 4 5 w4.length]),(2,B.blk 3 [dI b2]),(3,B.blk 4 [dB b3]),(4,bR 36 5 qh w4)]=_
 have hF':∀(qB n_N qP:Int) (qQ:List qc) (n_L:List qb) (deep:Int) (w4:List qb) (b2:Int) (b3:Bool) (Zo:Nat),Zo=w4.length→rE (.fn 169) 4 [R.agg [dI qB,dI n_N,dI qP,dL 2 qd qQ,dL 5 qh n_L],rI deep,R.c (C.hd .yield 0)] [(0,B.ob (AO.lp 102 (R.any::R.any::rP 1::rP 2::rP 3::q95) [9,10] (raO 102 4) (rbO 102 4) LoopState.ready none)),(1,B.blk 34 [dO 4 5 Zo]),(2,B.blk 3 [dI b2]),(3,B.blk 4 [dB b3]),(4,bR 36 5 qh w4)]=(rF ((qb.mk qB n_N qP qQ n_L),deep,w4,b2,b3)).bind (Sum.elim (fun(e:Int)=>some (rB Bool.false,[(0,B.ob (AO.lp 102 (R.any::R.any::rP 1::rP 2::rP 3::q95) [9,10] (raO 102 4) (rbO 102 4) LoopState.done (some Code.ret))),(1,B.blk 34 [C.nils]),(2,B.blk 3 [dI e]),(3,B.blk 4 [dB Bool.false])])) (fun(e:List qb×Int×Bool)=>some (rB Bool.true,[(0,B.ob (AO.lp 102 (R.any::R.any::rP 1::rP 2::rP 3::q95) [9,10] (raO 102 4) (rbO 102 4) LoopState.ready none)),(1,B.blk 34 [dO 4 5 e.1.length]),(2,B.blk 3 [dI e.2.1]),(3,B.blk 4 [dB e.2.2]),(4,bR 36 5 qh e.1)]))):=by intro qB n_N qP qQ n_L deep w4 b2 b3 Zo h0;subst h0;exact(hF ((qb.mk qB n_N qP qQ n_L),deep,w4,b2,b3)).trans (by congr 1;funext e;rcases e with _|_<;>rfl)
 rw[q4T qnt qwW]
 have:=qr8;have:=@q8V;have:=q7I rE rF hF hM hR;have:=@q18.eq_1;have:=@Jw.eq_1;exact gA
theorem q3U:∀x y,Ja x=Ja y→x=y:=by
 rintro⟨⟨qF9,qFa,qFb,qFc,qFd⟩,a1,a2,a3,a4⟩ ⟨⟨qFe,qFf,qFg,qFh,qFi⟩,b1,b2,b3,b4⟩ h
 simp only[Ja,Prod.mk.injEq,List.cons.injEq,R.c.injEq,R.agg.injEq,R.tup.injEq,C.d.injEq,C.own.injEq,C.ptr.injEq,C.eptr.injEq,D.int.injEq,D.bool.injEq,D.str.injEq,D.sl.injEq,B.blk.injEq,B.row.injEq,q11,q2R,q1S,q1X,q2m,q2l,q4B,q4m,q4s,q16,true_and,and_true,qQp] at h
 simp only[h]
theorem q8H:∀x y,Jw x=Jw y→x=y:=by
 rintro(a0|⟨qLL,qLM,qPw⟩) (b0|⟨qLN,qLO,qPx⟩) h<;>simp only[Sum.elim_inl,Sum.elim_inr,Jw,Prod.mk.injEq,List.cons.injEq,R.c.injEq,R.agg.injEq,R.tup.injEq,C.d.injEq,C.own.injEq,C.ptr.injEq,C.eptr.injEq,D.int.injEq,D.bool.injEq,D.str.injEq,D.sl.injEq,B.blk.injEq,B.row.injEq,q11,q2R,q1S,q1X,q2m,q2l,q4B,q4m,q4s,q16,true_and,and_true,qQp,reduceCtorEq,false_and,and_false] at h<;>simp only[h]
def JM:(qb×Int×List qb×Int×Bool)→Option (Int⊕(List qb×Int×Bool)):=q8L 169 4 Ja Jw
theorem qbX (x:(qb×Int×List qb×Int×Bool)):JM x=q18 JM x:=qdr qt9.2.2.2 q3U q8H q6l x
theorem qbo (n:qb) (deep:Int) (w4:List qb) (b2:Int) (b3:Bool):ev 169 4 [R.agg [dI n.Kind,dI n.N,dI n.Min,dL 2 qd n.Set,dL 5 qh n.L],rI deep,R.c (C.hd .yield 0)] [(0,B.ob (AO.lp 102 (R.any::R.any::rP 1::rP 2::rP 3::q95) [9,10] (raO 102 4) (rbO 102 4) LoopState.ready none)),(1,B.blk 34 [dO 4 5 w4.length]),(2,B.blk 3 [dI b2]),(3,B.blk 4 [dB b3]),(4,bR 36 5 qh w4)]=(JM (n,deep,w4,b2,b3)).bind (Sum.elim (fun(e:Int)=>some (rB Bool.false,[(0,B.ob (AO.lp 102 (R.any::R.any::rP 1::rP 2::rP 3::q95) [9,10] (raO 102 4) (rbO 102 4) LoopState.done (some Code.ret))),(1,B.blk 34 [C.nils]),(2,B.blk 3 [dI e]),(3,B.blk 4 [dB Bool.false])])) (fun(e:List qb×Int×Bool)=>some (rB Bool.true,[(0,B.ob (AO.lp 102 (R.any::R.any::rP 1::rP 2::rP 3::q95) [9,10] (raO 102 4) (rbO 102 4) LoopState.ready none)),(1,B.blk 34 [dO 4 5 e.1.length]),(2,B.blk 3 [dI e.2.1]),(3,B.blk 4 [dB e.2.2]),(4,bR 36 5 qh e.1)]))):=(q9y qt9.2.2.2 q3U q6l (n,deep,w4,b2,b3)).trans (by congr 1;funext e;rcases e with _|_<;>rfl)
theorem qcd:∀(qB n_N qP:Int) (qQ:List qc) (n_L:List qb) (deep:Int) (w4:List qb) (b2:Int) (b3:Bool) (Zo:Nat),Zo=w4.length→ev 169 4 [R.agg [dI qB,dI n_N,dI qP,dL 2 qd qQ,dL 5 qh n_L],rI deep,R.c (C.hd .yield 0)] [(0,B.ob (AO.lp 102 (R.any::R.any::rP 1::rP 2::rP 3::q95) [9,10] (raO 102 4) (rbO 102 4) LoopState.ready none)),(1,B.blk 34 [dO 4 5 Zo]),(2,B.blk 3 [dI b2]),(3,B.blk 4 [dB b3]),(4,bR 36 5 qh w4)]=(JM ((qb.mk qB n_N qP qQ n_L),deep,w4,b2,b3)).bind (Sum.elim (fun(e:Int)=>some (rB Bool.false,[(0,B.ob (AO.lp 102 (R.any::R.any::rP 1::rP 2::rP 3::q95) [9,10] (raO 102 4) (rbO 102 4) LoopState.done (some Code.ret))),(1,B.blk 34 [C.nils]),(2,B.blk 3 [dI e]),(3,B.blk 4 [dB Bool.false])])) (fun(e:List qb×Int×Bool)=>some (rB Bool.true,[(0,B.ob (AO.lp 102 (R.any::R.any::rP 1::rP 2::rP 3::q95) [9,10] (raO 102 4) (rbO 102 4) LoopState.ready none)),(1,B.blk 34 [dO 4 5 e.1.length]),(2,B.blk 3 [dI e.2.1]),(3,B.blk 4 [dB e.2.2]),(4,bR 36 5 qh e.1)]))):=
 by
 intro qB n_N qP qQ n_L deep w4 b2 b3 Zo h0
 subst h0
 exact qbo (qb.mk qB n_N qP qQ n_L) deep w4 b2 b3
def q3k (deep:Int) (t15:List qb) (t16:Int):(List qb×Int×Bool×Int)→Option ((List qb×Int×Bool×Int)⊕(Int⊕(List qb×Int×Bool)))|(w4,b2,b3,t17)=>if t17<t16 then if 0≤t17∧t17<((t15.length:Nat):Int) then Option.bind t15[Int.toNat t17]? fun(a:qb)=>Option.bind (JM (a,(w64 (deep+1),(w4,(b2,b3))))) fun(a2:Sum Int (Prod (List qb) (Prod Int Bool)))=>Sum.elim (fun(a3:Int)=>some (Sum.inr (Sum.inl a3))) (fun(a4:Prod (List qb) (Prod Int Bool))=>some (Sum.inl (a4.1,a4.2.1,a4.2.2,w64 (t17+1)))) a2 else none else some (Sum.inr (Sum.inr (w4,b2,b3)))
theorem qb5:∀(w4:List qb) (b2:Int) (b3:Bool) (deep:Int) (t15:List qb) (t16 t17:Int) (Zo:Nat),Zo=w4.length→XL2 evo 169 4 4 ⟨[(1,rI deep),(2,R.c (C.hd .yield 0)),(15,rL 5 qh t15),(16,rI t16),(17,rI t17)],[(0,B.ob (AO.lp 102 (R.any::R.any::rP 1::rP 2::rP 3::q95) [9,10] (raO 102 4) (rbO 102 4) LoopState.ready none)),(1,B.blk 34 [dO 4 5 Zo]),(2,B.blk 3 [dI b2]),(3,B.blk 4 [dB b3]),(4,bR 36 5 qh w4)],5,28⟩=(zw (q3k deep t15 t16) (w4,b2,b3,t17)).bind (Sum.elim (fun(e:Int)=>some (Exit.ret,⟨[(6,rB Bool.false)],[(0,B.ob (AO.lp 102 (R.any::R.any::rP 1::rP 2::rP 3::q95) [9,10] (raO 102 4) (rbO 102 4) LoopState.done (some Code.ret))),(1,B.blk 34 [C.nils]),(2,B.blk 3 [dI e]),(3,B.blk 4 [dB Bool.false])],4,28⟩)) (fun(e:List qb×Int×Bool)=>some (Exit.exit 0,⟨[(6,R.any)],[(0,B.ob (AO.lp 102 (R.any::R.any::rP 1::rP 2::rP 3::q95) [9,10] (raO 102 4) (rbO 102 4) LoopState.ready none)),(1,B.blk 34 [dO 4 5 e.1.length]),(2,B.blk 3 [dI e.2.1]),(3,B.blk 4 [dB e.2.2]),(4,bR 36 5 qh e.1)],5,28⟩))):=
 by
 intro w4 b2 b3 deep t15 t16 t17 Zo h0
 subst h0
 revert t17;revert b3;revert b2;revert w4;exact qL6 qop qqf (fun e=>by rcases e with _|_<;>exact⟨_,rfl,fun h=>by cases h⟩) fun w4 b2 b3 t17=>by
  have:=qr8;have:=@qfT.eq_1;have:=@qcd;have:=@q3k.eq_1;exact gA
def q68 (n:qb) (deep:Int) (b2:Int) (b3:Bool):Option (Int⊕(List qb×Int×Bool)):=Option.bind (q3g deep n.Kind n.N n.Min n.Set n.L b2 b3) fun(a:Sum Unit (Prod (List qb) Int))=>Sum.elim (fun(a2:Unit)=>some (Sum.inl 0)) (fun(a3:Prod (List qb) Int)=>Option.bind (zw (q3k deep n.L ((n.L.length:Nat):Int)) (a3.1,(a3.2,(b3,0)))) fun(a4:Sum Int (Prod (List qb) (Prod Int Bool)))=>Sum.elim (fun(a5:Int)=>some (Sum.inl a5)) (fun(a6:Prod (List qb) (Prod Int Bool))=>some (Sum.inr (a6.1,a6.2.1,a6.2.2))) a4) a
theorem qee:∀(qB n_N qP:Int) (qQ:List qc) (n_L:List qb) (deep b2:Int) (b3:Bool),ev 169 4 [R.agg [dI qB,dI n_N,dI qP,dL 2 qd qQ,dL 5 qh n_L],rI deep,R.c (C.hd .yield 0)] [(0,B.ob (AO.lp 102 (R.any::R.any::rP 1::rP 2::rP 3::q95) [9,10] (raO 102 4) (rbO 102 4) LoopState.ready none)),(1,B.blk 34 [C.nils]),(2,B.blk 3 [dI b2]),(3,B.blk 4 [dB b3])]=(q68 (qb.mk qB n_N qP qQ n_L) deep b2 b3).bind (Sum.elim (fun(e:Int)=>some (rB Bool.false,[(0,B.ob (AO.lp 102 (R.any::R.any::rP 1::rP 2::rP 3::q95) [9,10] (raO 102 4) (rbO 102 4) LoopState.done (some Code.ret))),(1,B.blk 34 [C.nils]),(2,B.blk 3 [dI e]),(3,B.blk 4 [dB Bool.false])])) (fun(e:List qb×Int×Bool)=>some (rB Bool.true,[(0,B.ob (AO.lp 102 (R.any::R.any::rP 1::rP 2::rP 3::q95) [9,10] (raO 102 4) (rbO 102 4) LoopState.ready none)),(1,B.blk 34 [dO 4 5 e.1.length]),(2,B.blk 3 [dI e.2.1]),(3,B.blk 4 [dB e.2.2]),(4,bR 36 5 qh e.1)]))):=
 fun qB n_N qP qQ n_L deep b2 b3=>by
  rw[qU qnt qt9.2.2.2 qwW]
  have:=qr8;have:=@qaT;have:=@qb5;have:=@q68.eq_1;exact gA
def q3l (b2:Int) (b3:Bool) (v:qb):Option (Int⊕(List qb×Int×Bool)):=Option.bind (q68 v 1 b2 b3) fun(a:Sum Int (Prod (List qb) (Prod Int Bool)))=>Sum.elim (fun(a2:Int)=>some (Sum.inl a2)) (fun(a3:Prod (List qb) (Prod Int Bool))=>some (Sum.inr (a3.1,a3.2.1,a3.2.2))) a
theorem qaS:∀(b2:Int) (b3:Bool) (qhC v_N qqK:Int) (qqL:List qc) (v_L:List qb),ev 168 5 [R.c (C.hd .yield 0),rP 4] [(0,B.ob (AO.lp 102 (R.any::R.any::rP 1::rP 2::rP 3::q95) [9,10] (raO 102 4) (rbO 102 4) LoopState.ready none)),(1,B.blk 34 [C.nils]),(2,B.blk 3 [dI b2]),(3,B.blk 4 [dB b3]),(4,B.blk 36 [dI qhC,dI v_N,dI qqK,dL 2 qd qqL,dL 5 qh v_L])]=(q3l b2 b3 (qb.mk qhC v_N qqK qqL v_L)).bind (Sum.elim (fun(e:Int)=>some (R.tup [],[(0,B.ob (AO.lp 102 (R.any::R.any::rP 1::rP 2::rP 3::q95) [9,10] (raO 102 4) (rbO 102 4) LoopState.done (some Code.ret))),(1,B.blk 34 [C.nils]),(2,B.blk 3 [dI e]),(3,B.blk 4 [dB Bool.false]),(4,B.blk 36 [dI qhC,dI v_N,dI qqK,dL 2 qd qqL,dL 5 qh v_L])])) (fun(e:List qb×Int×Bool)=>some (R.tup [],[(0,B.ob (AO.lp 102 (R.any::R.any::rP 1::rP 2::rP 3::q95) [9,10] (raO 102 4) (rbO 102 4) LoopState.ready none)),(1,B.blk 34 [dO 5 5 e.1.length]),(2,B.blk 3 [dI e.2.1]),(3,B.blk 4 [dB e.2.2]),(4,B.blk 36 [dI qhC,dI v_N,dI qqK,dL 2 qd qqL,dL 5 qh v_L]),(5,bR 36 5 qh e.1)]))):=
 fun b2 b3 qhC v_N qqK qqL v_L=>by
  rw[qU qxz qEm.2.2.2 qI1]
  have:=qJc;have:=@qee;have:=@q3l.eq_1;exact gA
def q2W (n:qb):Option (List qb×Int×Bool):=Option.bind (q3l 0 Bool.false n) fun(a:Sum Int (Prod (List qb) (Prod Int Bool)))=>Sum.elim (fun(a2:Int)=>some ([],a2,Bool.false)) (fun(a3:Prod (List qb) (Prod Int Bool))=>some (a3.1,a3.2.1,Bool.true)) a
theorem q8t:∀(qB n_N qP:Int) (qQ:List qc) (n_L:List qb),ev 102 0 [R.agg [dI qB,dI n_N,dI qP,dL 2 qd qQ,dL 5 qh n_L]] []=(q2W (qb.mk qB n_N qP qQ n_L)).bind (fun(e:List qb×Int×Bool)=>some (R.tup [rL 5 qh e.1,rI e.2.1,rB e.2.2],[])):=
 fun qB n_N qP qQ n_L=>by
  rw[qU qoa qCZ.2.2.2 qD5]
  have:=quG;have:=@qde;have:=@qaS;have:=@q2W.eq_1;have:=@qjb;exact gA
theorem qK0:okL 82 qlr:=qV (qk qFS) (by kernel_rfl) (by kernel_rfl)
def qKI:=JA_ @qlr.eq_1 (JA_ @Tryz.f82.eq_1 @qFS)
theorem qzm:lbO 82 3=qqk:=Qz (qk qFS) rfl
theorem qB9:okL 82 qqk:=zS qK0 (qQ6 (i:=0) (by kernel_rfl))
theorem qIu:okL 129 qi9:=qV (qk quw) (by kernel_rfl) (by kernel_rfl)
def qHj:=JA_ @qi9.eq_1 (JA_ @Tryz.f129.eq_1 @quw)
def q6b (n:qb):Option Bool:=if(n.Kind != 3)=Bool.true then some (n.Kind != 4) else some Bool.false
def q1F (n:qb):Bool:=if(n.Kind != 3)=Bool.true then n.Kind != 4 else Bool.false
theorem qcZ (n:qb):q6b n=some (q1F n):=by
 unfold q6b q1F
 simp only[Zs]
theorem qel:∀(qB n_N qP:Int) (qQ:List qc) (n_L:List qb),ev 129 0 [R.agg [dI qB,dI n_N,dI qP,dL 2 qd qQ,dL 5 qh n_L]] []=some (rB (q1F (qb.mk qB n_N qP qQ n_L)),[]):=
 fun qB n_N qP qQ n_L=>by
  have h:ev 129 0 [R.agg [dI qB,dI n_N,dI qP,dL 2 qd qQ,dL 5 qh n_L]] []=(q6b (qb.mk qB n_N qP qQ n_L)).bind (fun(e:Bool)=>some (rB e,[])):=by
   rw[qU quw qBz.2.2.2 qIu]
   have:=qHj;have:=@q6b.eq_1;exact gA
  rw[qcZ] at h
  exact h
theorem qzG:okL 130 qfj:=qV (qk qt6) (by kernel_rfl) (by kernel_rfl)
def qBE:=JA_ @qfj.eq_1 (JA_ @Tryz.f130.eq_1 @qt6)
theorem qvB:lbO 130 3=qhT:=Qz (qk qt6) rfl
theorem quF:okL 130 qhT:=zS qzG (qQ6 (i:=0) (by kernel_rfl))
def Q7 (s:List qc):Option Unit:=if s.length≤maxLen∧s.length*24≤140737488355328 then some () else none
theorem q1h:∀(s:List qc),ev 161 0 [rL 2 qd s] []=(Q7 s).bind (fun(e:Unit)=>some (rL 2 qd s,[])):=
 fun s=>by
  rw[qwY,qEc.2.2.2]
  have:=@Q7.eq_1;exact gA
def QW (s:List qb):Option Unit:=if s.length≤maxLen∧s.length*72≤140737488355328 then some () else none
theorem q2n:∀(s:List qb),ev 162 0 [rL 5 qh s] []=(QW s).bind (fun(e:Unit)=>some (rO 0 5 s.length,[(0,bR 36 5 qh s)])):=
 fun s=>by
  rw[qwY,qAi.2.2.2]
  have:=@QW.eq_1;exact gA
def J9 (x:qb):List R×List (Nat×B):=([R.agg [C.d (D.int .i64 x.Kind),C.d (D.int .i64 x.N),C.d (D.int .i64 x.Min),C.d (D.sl 2 x.Set.length (x.Set.flatMap qd)),C.d (D.sl 5 x.L.length (x.L.flatMap qh))]],[])
def JA:qb→R×List (Nat×B):=fun(e:qb)=>(R.agg [C.d (D.int .i64 e.Kind),C.d (D.int .i64 e.N),C.d (D.int .i64 e.Min),C.d (D.sl 2 e.Set.length (e.Set.flatMap qd)),C.d (D.sl 5 e.L.length (e.L.flatMap qh))],[])
def q06 (rF:qb→Option qb) (qB:Int) (n_N:Int) (qP:Int) (qQ:List qc) (q0v:Int) (qf8:Int) (q2s:Int) (t15:Int):(List qb×Int)→Option ((List qb×Int)⊕(List qb))|(w1,t16)=>if t16<t15 then if 0≤t16∧t16<((w1.length:Nat):Int) then Option.bind w1[Int.toNat t16]? fun(a2:qb)=>Option.bind (rF a2) fun(a3:qb)=>if 0≤t16∧t16<((w1.length:Nat):Int) then if Int.toNat t16*5+5≤w1.length*5 then some (Sum.inl (List.set w1 (Int.toNat t16) a3,w64 (t16+1))) else none else none else none else some (Sum.inr w1)
theorem q8K (rE:Orc) (rF:qb→Option qb) (hF:∀y,rE (.fn 130) 0 (J9 y).1 (J9 y).2=(rF y).bind fun e=>some (JA e)) (hM:∀g k a G,g≠130→rE (.fn g) k a G=ev g k a G) (hR:∀g asg bd k a G,rE (.rd g asg bd) k a G=evr g asg bd k a G):∀(w1:List qb) (qB n_N qP:Int) (qQ:List qc) (q0v qf8 q2s t15 t16:Int) (QS:Nat),QS=w1.length→XL2 rE 130 0 3 ⟨[(1,rP 0),(2,rP 2),(14,rO 1 5 QS),(15,rI t15),(16,rI t16)],[(0,B.blk 36 [dI qB,dI n_N,dI qP,dL 2 qd qQ,dO 1 5 QS]),(1,bR 36 5 qh w1),(2,B.blk 36 [dI q0v,dI qf8,dI q2s,C.nils,C.nils])],3,29⟩=(zw (q06 rF qB n_N qP qQ q0v qf8 q2s t15) (w1,t16)).bind (fun(e:List qb)=>some (Exit.exit 0,⟨[(1,rP 0),(2,rP 2)],[(0,B.blk 36 [dI qB,dI n_N,dI qP,dL 2 qd qQ,dO 1 5 e.length]),(1,bR 36 5 qh e),(2,B.blk 36 [dI q0v,dI qf8,dI q2s,C.nils,C.nils])],3,29⟩)):=
 by
 intro w1 qB n_N qP qQ q0v qf8 q2s t15 t16 QS h0
 subst h0
 revert t16;revert w1;exact qaL qvB quF (fun e=>by exact⟨_,rfl,fun h=>by cases h⟩) fun w1 t16=>by
  have hF':∀(qB n_N qP:Int) (qQ:List qc) (n_L:List qb),rE (.fn 130) 0 [R.agg [dI qB,dI n_N,dI qP,dL 2 qd qQ,dL 5 qh n_L]] []=(rF (qb.mk qB n_N qP qQ n_L)).bind (fun e=>some (R.agg [dI e.Kind,dI e.N,dI e.Min,dL 2 qd e.Set,dL 5 qh e.L],[])):=fun qB n_N qP qQ n_L=>hF (qb.mk qB n_N qP qQ n_L)
  have:=qBE;have:=@qhT.eq_1;have:=@q06.eq_1;exact gA
def q1c (rF:qb→Option qb):qb→Option qb|n=>Option.bind (Q7 n.Set) fun(a2:Unit)=>Option.bind (QW n.L) fun(a3:Unit)=>Option.bind (zw (q06 rF n.Kind n.N n.Min n.Set 0 0 0 ((n.L.length:Nat):Int)) (n.L,0)) fun(a4:List qb)=>some (qb.mk n.Kind n.N n.Min n.Set a4)
theorem q6t:q8v 130 0 J9 JA q1c:=by
 intro rE rF hF hM hR n
 show qb9 rE 130 0 [R.agg [dI n.Kind,dI n.N,dI n.Min,dL 2 qd n.Set,dL 5 qh n.L]] []=_
 have hF':∀(qB n_N qP:Int) (qQ:List qc) (n_L:List qb),rE (.fn 130) 0 [R.agg [dI qB,dI n_N,dI qP,dL 2 qd qQ,dL 5 qh n_L]] []=(rF (qb.mk qB n_N qP qQ n_L)).bind (fun e=>some (R.agg [dI e.Kind,dI e.N,dI e.Min,dL 2 qd e.Set,dL 5 qh e.L],[])):=fun qB n_N qP qQ n_L=>hF (qb.mk qB n_N qP qQ n_L)
 rw[q4T qt6 qzG]
 have:=qBE;have:=@q1h;have:=@q2n;have:=q8K rE rF hF hM hR;have:=@q1c.eq_1;have:=@JA.eq_1;exact gA
theorem q3P:∀x y,J9 x=J9 y→x=y:=by
 rintro⟨a_0,a_1,a_2,a_3,a_4⟩ ⟨b_0,b_1,b_2,b_3,b_4⟩ h
 simp only[J9,Prod.mk.injEq,List.cons.injEq,R.c.injEq,R.agg.injEq,R.tup.injEq,C.d.injEq,C.own.injEq,C.ptr.injEq,C.eptr.injEq,D.int.injEq,D.bool.injEq,D.str.injEq,D.sl.injEq,B.blk.injEq,B.row.injEq,q11,q2R,q1S,q1X,q2m,q2l,q4B,q4m,q4s,q16,true_and,and_true,qQp] at h
 simp only[h]
theorem q8D:∀x y,JA x=JA y→x=y:=by
 rintro⟨a_0,a_1,a_2,a_3,a_4⟩ ⟨b_0,b_1,b_2,b_3,b_4⟩ h
 simp only[JA,Prod.mk.injEq,List.cons.injEq,R.c.injEq,R.agg.injEq,R.tup.injEq,C.d.injEq,C.own.injEq,C.ptr.injEq,C.eptr.injEq,D.int.injEq,D.bool.injEq,D.str.injEq,D.sl.injEq,B.blk.injEq,B.row.injEq,q11,q2R,q1S,q1X,q2m,q2l,q4B,q4m,q4s,q16,true_and,and_true,qQp] at h
 simp only[h]
def JL:qb→Option qb:=q8L 130 0 J9 JA
theorem qcf (x:qb):JL x=q1c JL x:=qdr qyb.2.2.2 q3P q8D q6t x
theorem qbw (n:qb):ev 130 0 [R.agg [dI n.Kind,dI n.N,dI n.Min,dL 2 qd n.Set,dL 5 qh n.L]] []=(JL n).bind (fun(e:qb)=>some (R.agg [dI e.Kind,dI e.N,dI e.Min,dL 2 qd e.Set,dL 5 qh e.L],[])):=(q9y qyb.2.2.2 q3P q6t n)
theorem qc6:∀(qB n_N qP:Int) (qQ:List qc) (n_L:List qb),ev 130 0 [R.agg [dI qB,dI n_N,dI qP,dL 2 qd qQ,dL 5 qh n_L]] []=(JL (qb.mk qB n_N qP qQ n_L)).bind (fun(e:qb)=>some (R.agg [dI e.Kind,dI e.N,dI e.Min,dL 2 qd e.Set,dL 5 qh e.L],[])):=
 fun qB n_N qP qQ n_L=>qbw (qb.mk qB n_N qP qQ n_L)
def ZR (t14:List qb) (t15:Int):(List qb×Int)→Option ((List qb×Int)⊕(List qb))|(leaves,t16)=>if t16<t15 then if 0≤t16∧t16<((t14.length:Nat):Int) then Option.bind t14[Int.toNat t16]? fun(a:qb)=>if q1F a=Bool.true then Option.bind (JL a) fun(a2:qb)=>if leaves.length+1≤maxLen∧(leaves.length+1)*72≤140737488355328 then some (Sum.inl (leaves++[a2],w64 (t16+1))) else none else some (Sum.inl (leaves,w64 (t16+1))) else none else some (Sum.inr leaves)
theorem q8I:∀(leaves t14:List qb) (t15 t16:Int) (qbA:Nat),qbA=leaves.length→XL2 evo 82 0 3 ⟨[(2,rO 0 5 qbA),(14,rL 5 qh t14),(15,rI t15),(16,rI t16)],[(0,bR 36 5 qh leaves)],1,29⟩=(zw (ZR t14 t15) (leaves,t16)).bind (fun(e:List qb)=>some (Exit.exit 0,⟨[(2,rO 0 5 e.length)],[(0,bR 36 5 qh e)],1,29⟩)):=
 by
 intro leaves t14 t15 t16 qbA h0
 subst h0
 revert t16;revert leaves;exact qaL qzm qB9 (fun e=>by exact⟨_,rfl,fun h=>by cases h⟩) fun leaves t16=>by
  have:=qKI;have:=@qqk.eq_1;have:=@qel;have:=@qc6;have:=@ZR.eq_1;exact gA
theorem q6J:∀  (t14:List qb) (t15 t16:Int),XL2 evo 82 0 3 ⟨[(2,rO 0 5 0),(14,rL 5 qh t14),(15,rI t15),(16,rI t16)],[(0,B.row 36 5 [])],1,29⟩=(zw (ZR t14 t15) ([],t16)).bind (fun(e:List qb)=>some (Exit.exit 0,⟨[(2,rO 0 5 e.length)],[(0,bR 36 5 qh e)],1,29⟩)):=by
 intro t14 t15 t16;have h:=q8I [] t14 t15 t16 _ rfl
 first
  | exact h
  | (simp only[rL,dL,bR,bZ,Nat.reduceAdd] at h;exact h)
def q1K (n:qb):Option (List qb):=Option.bind (q2W n) fun(a:Prod (List qb) (Prod Int Bool))=>Option.bind (zw (ZR a.1 ((a.1.length:Nat):Int)) ([],0)) fun(a2:List qb)=>some a2
theorem q6j:∀(qB n_N qP:Int) (qQ:List qc) (n_L:List qb),ev 82 0 [R.agg [dI qB,dI n_N,dI qP,dL 2 qd qQ,dL 5 qh n_L]] []=(q1K (qb.mk qB n_N qP qQ n_L)).bind (fun(e:List qb)=>some (rL 5 qh e,[])):=
 fun qB n_N qP qQ n_L=>by
  rw[qU qFS qKx.2.2.2 qK0]
  have:=qKI;have:=@q8t;have:=@q6J;have:=@q1K.eq_1;exact gA
theorem qH2:okL 103 qjf:=qV (qk qv0) (by kernel_rfl) (by kernel_rfl)
def qIS:=JA_ @qjf.eq_1 (JA_ @Tryz.f103.eq_1 @qv0)
theorem qcP:ev 103 0 [] []=some (R.c (C.hd HK.map 0),[(0,B.ob (@AO.mp [(Value.int IntKind.i64 1,(R.agg [C.fn 141 [] []],0)),(Value.int IntKind.i64 2,(R.agg [C.fn 143 [] []],1)),(Value.int IntKind.i64 3,(R.agg [C.fn 144 [] [dP 1]],2)),(Value.int IntKind.i64 4,(R.agg [C.fn 145 [] [dP 1]],3))] 4)),(1,B.blk 136 [C.fn 140 [] []])]):=
 by
  rw[qU qv0 qBg.2.2.2 qH2]
  have:=qIS;exact gA
theorem qHF:okL 141 qj7:=qV (qk qyQ) (by kernel_rfl) (by kernel_rfl)
def qIJ:=JA_ @qj7.eq_1 (JA_ @Tryz.f141.eq_1 @qyQ)
theorem qDO:okL 142 qfJ:=qV (qk qr0) (by kernel_rfl) (by kernel_rfl)
def qF1:=JA_ @qfJ.eq_1 (JA_ @Tryz.f142.eq_1 @qr0)
theorem qvy:lbO 142 7=qiK:=Qz (qk qr0) rfl
theorem qxG:okL 142 qiK:=zS qDO (qQ6 (i:=0) (by kernel_rfl))
theorem qJD:okL 170 qi1:=qV (qk qw4) (by kernel_rfl) (by kernel_rfl)
def qJ8:=JA_ @qi1.eq_1 (JA_ @Tryz.f170.eq_1 @qw4)
theorem qEO:okL 182 qfa:=qV (qk qrm) (by kernel_rfl) (by kernel_rfl)
def qBe:=JA_ @qfa.eq_1 (JA_ @Tryz.f182.eq_1 @qrm)
theorem qwb:lbO 182 2=qi3:=Qz (qk qrm) rfl
theorem qy5:okL 182 qi3:=zS qEO (qQ6 (i:=0) (by kernel_rfl))
theorem qJ7:okL 171 qix:=qV (qk quv) (by kernel_rfl) (by kernel_rfl)
def qGy:=JA_ @qix.eq_1 (JA_ @Tryz.f171.eq_1 @quv)
theorem qME:okL 99 qp5:=qV (qk qIx) (by kernel_rfl) (by kernel_rfl)
def qOp:=JA_ @qp5.eq_1 (JA_ @Tryz.f99.eq_1 @qIx)
theorem qGm:okL 137 qjc:=qV (qk qyw) (by kernel_rfl) (by kernel_rfl)
def qJi:=JA_ @qjc.eq_1 (JA_ @Tryz.f137.eq_1 @qyw)
theorem qJe:okL 166 qiO:=qV (qk qyT) (by kernel_rfl) (by kernel_rfl)
def qHU:=JA_ @qiO.eq_1 (JA_ @Tryz.f166.eq_1 @qyT)
theorem qAj:okL 181 qgk:=qV (qk qr1) (by kernel_rfl) (by kernel_rfl)
def qEl:=JA_ @qgk.eq_1 (JA_ @Tryz.f181.eq_1 @qr1)
theorem qy6:lbO 181 2=qjq:=Qz (qk qr1) rfl
theorem qyq:okL 181 qjq:=zS qAj (qQ6 (i:=0) (by kernel_rfl))
theorem qH7:okL 165 qhX:=qV (qk qxm) (by kernel_rfl) (by kernel_rfl)
def qIL:=JA_ @qhX.eq_1 (JA_ @Tryz.f165.eq_1 @qxm)
def q2E (c:Int):Option Bool:=if c<65 then if c<48 then some Bool.true else some (decide (57<c)) else if 90<c then if c<48 then some Bool.true else some (decide (57<c)) else some Bool.false
def Zv (c:Int):Bool:=if c<65 then if c<48 then Bool.true else decide (57<c) else if 90<c then if c<48 then Bool.true else decide (57<c) else Bool.false
theorem q8C (c:Int):q2E c=some (Zv c):=by
 unfold q2E Zv
 simp only[Zs]
theorem qa8:∀(c:Int),ev 165 0 [R.c (C.d (D.int .i32 c))] []=some (rB (Zv c),[]):=
 fun c=>by
  have h:ev 165 0 [R.c (C.d (D.int .i32 c))] []=(q2E c).bind (fun(e:Bool)=>some (rB e,[])):=by
   rw[qU qxm qDB.2.2.2 qH7]
   have:=qIL;have:=@q2E.eq_1;exact gA
  rw[q8C] at h
  exact h
def Qv (it0_s:ByteArray) (truth:Bool):Nat→Option (Nat⊕(Int⊕Unit))|it0_p=>if it0_p<ByteArray.size it0_s then if(Zv (((@Go.Utf8.decode it0_s it0_p).1:Nat):Int)==truth)=Bool.true then some (Sum.inr (Sum.inl ((it0_p:Nat):Int))) else some (Sum.inl (it0_p+(@Go.Utf8.decode it0_s it0_p).2)) else some (Sum.inr (Sum.inr ()))
theorem q56:∀(it0_s:ByteArray) (it0_p:Nat) (truth:Bool),XL2 evo 181 0 2 ⟨[(1,R.c (C.fn 165 [] [])),(2,rB truth),(10,R.c (C.hd .iter 0))],[(0,B.ob (AO.si it0_s it0_p))],1,21⟩=(zw (Qv it0_s truth) it0_p).bind (Sum.elim (fun(e:Int)=>some (Exit.ret,⟨[(6,rI e)],[],0,21⟩)) (fun(e:Unit)=>some (Exit.exit 0,⟨[(6,R.any)],[],0,21⟩))):=
 fun it0_s it0_p truth=>by
  revert it0_p;exact qbL qy6 qyq (fun e=>by rcases e with _|_<;>exact⟨_,rfl,fun h=>by cases h⟩) fun x=>by
   have:=qEl;have:=@qjq.eq_1;have:=@qa8;have:=@Qv.eq_1;exact gA
def q0A (s:ByteArray) (truth:Bool):Option Int:=Option.bind (zw (Qv s truth) 0) fun(a:Sum Int Unit)=>Sum.elim (fun(a2:Int)=>some a2) (fun(a3:Unit)=>some (-1)) a
theorem q6z:∀(s:ByteArray) (truth:Bool),ev 181 0 [rS s,R.c (C.fn 165 [] []),rB truth] []=(q0A s truth).bind (fun(e:Int)=>some (rI e,[])):=
 fun s truth=>by
  rw[qU qr1 qE0.2.2.2 qAj]
  have:=qEl;have:=@q56;have:=@q0A.eq_1;exact gA
def q0G (s:ByteArray):Option Int:=Option.bind (q0A s Bool.true) fun(e0:Int)=>some e0
theorem q6I:∀(s:ByteArray),ev 166 0 [rS s,R.c (C.fn 165 [] [])] []=(q0G s).bind (fun(e:Int)=>some (rI e,[])):=
 fun s=>by
  rw[qU qyT qDu.2.2.2 qJe]
  have:=qHU;have:=@q6z;have:=@q0G.eq_1;exact gA
def q2A (s:ByteArray):Option Bool:=if(!(ByteArray.toList s==ByteArray.toList (ByteArray.mk (List.toArray []))))=Bool.true then if((ByteArray.size s:Nat):Int)≤8 then Option.bind (q0G s) fun(a:Int)=>some (decide (a<0)) else some Bool.false else some Bool.false
theorem qcg:∀(s:ByteArray),ev 137 0 [rS s] []=(q2A s).bind (fun(e:Bool)=>some (rB e,[])):=
 fun s=>by
  rw[qU qyw qCC.2.2.2 qGm]
  have:=qJi;have:=@q6I;have:=@q2A.eq_1;exact gA
def q1y (c:qc):Option Bool:=if zB c.School 1 8=Bool.true then Option.bind (q2A c.Code) fun(e0:Bool)=>some e0 else some Bool.false
theorem q7m:∀(q2j:Int) (q6w:ByteArray),ev 99 0 [R.agg [dI q2j,dS q6w]] []=(q1y (qc.mk q2j q6w)).bind (fun(e:Bool)=>some (rB e,[])):=
 fun q2j q6w=>by
  rw[qU qIx qLd.2.2.2 qME]
  have:=qOp;have:=@Jv;have:=@qcg;have:=@q1y.eq_1;exact gA
def q2g (c:qc):Option Bool:=Option.bind (q1y c) fun(a:Bool)=>some (!a)
theorem q8Q:∀(q2j:Int) (q6w:ByteArray),ev 171 0 [R.agg [dI q2j,dS q6w]] []=(q2g (qc.mk q2j q6w)).bind (fun(e:Bool)=>some (rB e,[])):=
 fun q2j q6w=>by
  rw[qU quv qBH.2.2.2 qJ7]
  have:=qGy;have:=@q7m;have:=@q2g.eq_1;exact gA
def zp (s:List qc) (t7:Int):Int→Option (Int⊕(Int⊕Unit))|t8=>if t8<t7 then if 0≤t8∧t8<((s.length:Nat):Int) then Option.bind s[Int.toNat t8]? fun(a:qc)=>Option.bind (q2g a) fun(a2:Bool)=>if a2=Bool.true then some (Sum.inr (Sum.inl t8)) else some (Sum.inl (w64 (t8+1))) else none else some (Sum.inr (Sum.inr ()))
theorem q0j:∀(s:List qc) (t7 t8:Int),XL2 evo 182 0 2 ⟨[(0,rL 2 qd s),(1,R.c (C.fn 171 [] [])),(7,rI t7),(8,rI t8)],[],0,19⟩=(zw (zp s t7) t8).bind (Sum.elim (fun(e:Int)=>some (Exit.ret,⟨[(4,rI e)],[],0,19⟩)) (fun(e:Unit)=>some (Exit.exit 0,⟨[(4,R.any)],[],0,19⟩))):=
 fun s t7 t8=>by
  revert t8;exact qbL qwb qy5 (fun e=>by rcases e with _|_<;>exact⟨_,rfl,fun h=>by cases h⟩) fun x=>by
   have:=qBe;have:=@qi3.eq_1;have:=@q8Q;have:=@zp.eq_1;exact gA
def Qi (s:List qc):Option Int:=Option.bind (zw (zp s ((s.length:Nat):Int)) 0) fun(a:Sum Int Unit)=>Sum.elim (fun(a2:Int)=>some a2) (fun(a3:Unit)=>some (-1)) a
theorem q0H:∀(s:List qc),ev 182 0 [rL 2 qd s,R.c (C.fn 171 [] [])] []=(Qi s).bind (fun(e:Int)=>some (rI e,[])):=
 fun s=>by
  rw[qU qrm qBX.2.2.2 qEO]
  have:=qBe;have:=@q0j;have:=@Qi.eq_1;exact gA
def zK (s:List qc):Option Bool:=Option.bind (Qi s) fun(a:Int)=>some (decide (0≤a))
theorem q0k:∀(s:List qc),ev 170 0 [rL 2 qd s,R.c (C.fn 171 [] [])] []=(zK s).bind (fun(e:Bool)=>some (rB e,[])):=
 fun s=>by
  rw[qU qw4 qzx.2.2.2 qJD]
  have:=qJ8;have:=@q0H;have:=@zK.eq_1;exact gA
theorem qIm:okL 100 qjE:=qV (qk qw3) (by kernel_rfl) (by kernel_rfl)
def qIb:=JA_ @qjE.eq_1 (JA_ @Tryz.f100.eq_1 @qw3)
theorem qNj:okL 66 qoI:=qV (qk qIn) (by kernel_rfl) (by kernel_rfl)
def qNu:=JA_ @qoI.eq_1 (JA_ @Tryz.f66.eq_1 @qIn)
theorem qGQ:okL 110 qiP:=qV (qk qxQ) (by kernel_rfl) (by kernel_rfl)
def qIi:=JA_ @qiP.eq_1 (JA_ @Tryz.f110.eq_1 @qxQ)
def q2C (x:Int):Option Bool:=
 some (x != x)
def Ql (x:Int):Bool:=
 x != x
theorem q91 (x:Int):q2C x=some (Ql x):=by
 unfold q2C Ql
 simp only[Zs]
theorem q9D:∀(x:Int),ev 110 0 [rI x] []=some (rB (Ql x),[]):=
 fun x=>by
  have h:ev 110 0 [rI x] []=(q2C x).bind (fun(e:Bool)=>some (rB e,[])):=by
   rw[qU qxQ qBs.2.2.2 qGQ]
   have:=qIi;have:=@q2C.eq_1;exact gA
  rw[q91] at h
  exact h
def q1I (x:Int) (y:Int):Option Int:=if Ql x=Bool.true then if Ql y=Bool.true then some 0 else some (-1) else if Ql y=Bool.true then some 1 else if x<y then some (-1) else if y<x then some 1 else some 0
def Qb (x:Int) (y:Int):Int:=if Ql x=Bool.true then if Ql y=Bool.true then 0 else(-1) else if Ql y=Bool.true then 1 else if x<y then(-1) else if y<x then 1 else 0
theorem q7D (x y:Int):q1I x y=some (Qb x y):=by
 unfold q1I Qb
 simp only[Zs]
theorem q1U:∀(x y:Int),ev 66 0 [rI x,rI y] []=some (rI (Qb x y),[]):=
 fun x y=>by
  have h:ev 66 0 [rI x,rI y] []=(q1I x y).bind (fun(e:Int)=>some (rI e,[])):=by
   rw[qU qIn qLH.2.2.2 qNj]
   have:=qNu;have:=@q9D;have:=@q1I.eq_1;exact gA
  rw[q7D] at h
  exact h
theorem qH8:okL 138 qij:=qV (qk qw2) (by kernel_rfl) (by kernel_rfl)
def qIy:=JA_ @qij.eq_1 (JA_ @Tryz.f138.eq_1 @qw2)
theorem qGN:okL 167 qjH:=qV (qk qyt) (by kernel_rfl) (by kernel_rfl)
def qIA:=JA_ @qjH.eq_1 (JA_ @Tryz.f167.eq_1 @qyt)
def q15 (x:ByteArray):Option Unit:=
 some ()
def q3V (x:ByteArray):Unit:=
 ()
theorem q6F (x:ByteArray):q15 x=some (q3V x):=by
 unfold q15 q3V
 simp only[Zs]
theorem q75:∀(x:ByteArray),ev 167 0 [rS x] []=some (rB Bool.false,[]):=
 fun x=>by
  have h:ev 167 0 [rS x] []=(q15 x).bind (fun(e:Unit)=>some (rB Bool.false,[])):=by
   rw[qU qyt qEA.2.2.2 qGN]
   have:=qIA;have:=@q15.eq_1;exact gA
  rw[q6F] at h
  exact h
def q0m (x:ByteArray) (y:ByteArray):Option Int:=if Op.bytesLess (ByteArray.toList x) (ByteArray.toList y)=Bool.true then some (-1) else if(!(Op.bytesLess (ByteArray.toList x) (ByteArray.toList y)||ByteArray.toList x==ByteArray.toList y))=Bool.true then some 1 else some 0
def Zg (x:ByteArray) (y:ByteArray):Int:=if Op.bytesLess (ByteArray.toList x) (ByteArray.toList y)=Bool.true then(-1) else if(!(Op.bytesLess (ByteArray.toList x) (ByteArray.toList y)||ByteArray.toList x==ByteArray.toList y))=Bool.true then 1 else 0
theorem q5l (x y:ByteArray):q0m x y=some (Zg x y):=by
 unfold q0m Zg
 simp only[Zs]
theorem q65:∀(x y:ByteArray),ev 138 0 [rS x,rS y] []=some (rI (Zg x y),[]):=
 fun x y=>by
  have h:ev 138 0 [rS x,rS y] []=(q0m x y).bind (fun(e:Int)=>some (rI e,[])):=by
   rw[qU qw2 qzw.2.2.2 qH8]
   have:=qIy;have:=@q75;have:=@q0m.eq_1;exact gA
  rw[q5l] at h
  exact h
theorem qJM:okL 65 qkd:=qV (qk qFx) (by kernel_rfl) (by kernel_rfl)
def qLr:=JA_ @qkd.eq_1 (JA_ @Tryz.f65.eq_1 @qFx)
theorem qEo:lbO 65 3=qqw:=Qz (qk qFx) rfl
theorem qCk:okL 65 qqw:=zS qJM (qQ6 (i:=0) (by kernel_rfl))
def ZF (zero:Int) (t6:List Int) (t7:Int):Int→Option (Int⊕(Int⊕Unit))|t8=>if t8<t7 then if 0≤t8∧t8<((t6.length:Nat):Int) then Option.bind t6[Int.toNat t8]? fun(a:Int)=>if(a != zero)=Bool.true then some (Sum.inr (Sum.inl a)) else some (Sum.inl (w64 (t8+1))) else none else some (Sum.inr (Sum.inr ()))
theorem q9Y:∀(zero:Int) (t6:List Int) (t7 t8:Int),XL2 evo 65 0 3 ⟨[(3,rI zero),(6,rL 1 eI t6),(7,rI t7),(8,rI t8)],[],0,18⟩=(zw (ZF zero t6 t7) t8).bind (Sum.elim (fun(e:Int)=>some (Exit.ret,⟨[(2,rI e),(3,rI zero)],[],0,18⟩)) (fun(e:Unit)=>some (Exit.exit 0,⟨[(2,R.any),(3,rI zero)],[],0,18⟩))):=
 fun zero t6 t7 t8=>by
  revert t8;exact qbL qEo qCk (fun e=>by rcases e with _|_<;>exact⟨_,rfl,fun h=>by cases h⟩) fun x=>by
   have:=qLr;have:=@qqw.eq_1;have:=@ZF.eq_1;exact gA
def q1t (vals:List Int):Option Int:=Option.bind (zw (ZF 0 vals ((vals.length:Nat):Int)) 0) fun(a:Sum Int Unit)=>Sum.elim (fun(a2:Int)=>some a2) (fun(a3:Unit)=>some 0) a
theorem qdm:∀(vals:List Int),ev 65 0 [rL 1 eI vals] []=(q1t vals).bind (fun(e:Int)=>some (rI e,[])):=
 fun vals=>by
  rw[qU qFx qKS.2.2.2 qJM]
  have:=qLr;have:=@q9Y;have:=@q1t.eq_1;exact gA
theorem q4N:∀(vals0 vals1:Int) , ev 65 0 [R.c (C.d (D.sl 1 2 [D.int .i64 vals0,D.int .i64 vals1]))] []=(q1t [vals0,vals1]).bind (fun(e:Int)=>some (rI e,[])):=by
 intro vals0 vals1;have h:=qdm [vals0,vals1]
 first
  | exact h
  | (simp only[rL,dL,bR,bZ,Nat.reduceAdd] at h;exact h)
def q0W (a:qc) (b:qc):Option Int:=Option.bind (q1t [Qb a.School b.School,Zg a.Code b.Code]) fun(e0:Int)=>some e0
theorem q5t:∀(q0c:Int) (q3I:ByteArray) (q47:Int) (qaB:ByteArray),ev 100 0 [R.agg [dI q0c,dS q3I],R.agg [dI q47,dS qaB]] []=(q0W (qc.mk q0c q3I) (qc.mk q47 qaB)).bind (fun(e:Int)=>some (rI e,[])):=
 fun q0c q3I q47 qaB=>by
  rw[qU qw3 qzs.2.2.2 qIm]
  have:=qIb;have:=@q1U;have:=@q65;have:=@q4N;have:=@q0W.eq_1;exact gA
def Zw (n:qb) (t22:List qc) (t23:Int):Int→Option (Int⊕(Unit⊕Unit))|t24=>if t24<t23 then if 0≤t24∧t24<((t22.length:Nat):Int) then Option.bind t22[Int.toNat t24]? fun(a:qc)=>if 0<t24 then if 0≤w64 (t24-1)∧w64 (t24-1)<((n.Set.length:Nat):Int) then Option.bind n.Set[Int.toNat (w64 (t24-1))]? fun(a2:qc)=>Option.bind (q0W a2 a) fun(a3:Int)=>if 0≤a3 then some (Sum.inr (Sum.inl ())) else some (Sum.inl (w64 (t24+1))) else none else some (Sum.inl (w64 (t24+1))) else none else some (Sum.inr (Sum.inr ()))
theorem q8f:∀(qB n_N qP:Int) (qQ:List qc) (n_L:List qb) (t22:List qc) (t23 t24:Int),XL2 evo 142 0 7 ⟨[(1,rP 0),(22,rL 2 qd t22),(23,rI t23),(24,rI t24)],[(0,B.blk 36 [dI qB,dI n_N,dI qP,dL 2 qd qQ,dL 5 qh n_L])],1,43⟩=(zw (Zw (qb.mk qB n_N qP qQ n_L) t22 t23) t24).bind (Sum.elim (fun(e:Unit)=>some (Exit.ret,⟨[(2,rI 7)],[],0,43⟩)) (fun(e:Unit)=>some (Exit.exit 1,⟨[(2,R.any)],[],0,43⟩))):=
 fun qB n_N qP qQ n_L t22 t23 t24=>by
  revert t24;exact qbL qvy qxG (fun e=>by rcases e with _|_<;>exact⟨_,rfl,fun h=>by cases h⟩) fun x=>by
   have:=qF1;have:=@qiK.eq_1;have:=@q5t;have:=@Zw.eq_1;exact gA
def q0V (n:qb):Option Int:=if(!(zB n.Min (-1000) 1000))=Bool.true then some 3 else if(!(zB ((n.Set.length:Nat):Int) 1 12))=Bool.true then some 2 else Option.bind (zK n.Set) fun(a:Bool)=>if(!a)=Bool.true then Option.bind (zw (Zw n n.Set ((n.Set.length:Nat):Int)) 0) fun(a2:Sum Unit Unit)=>Sum.elim (fun(a3:Unit)=>some 7) (fun(a4:Unit)=>some 0) a2 else some 1
theorem q5M:∀(qB n_N qP:Int) (qQ:List qc) (n_L:List qb),ev 142 0 [R.agg [dI qB,dI n_N,dI qP,dL 2 qd qQ,dL 5 qh n_L]] []=(q0V (qb.mk qB n_N qP qQ n_L)).bind (fun(e:Int)=>some (rI e,[])):=
 fun qB n_N qP qQ n_L=>by
  rw[qU qr0 qC6.2.2.2 qDO]
  have:=qF1;have:=@Jv;have:=@q0k;have:=@q8f;have:=@q0V.eq_1;exact gA
def q29 (n:qb):Option Int:=if(n.N != 0)=Bool.true then some 13 else if 0<((n.L.length:Nat):Int) then some 13 else Option.bind (q0V n) fun(e0:Int)=>some e0
theorem qaQ:∀(qB n_N qP:Int) (qQ:List qc) (n_L:List qb),ev 141 0 [R.agg [dI qB,dI n_N,dI qP,dL 2 qd qQ,dL 5 qh n_L]] []=(q29 (qb.mk qB n_N qP qQ n_L)).bind (fun(e:Int)=>some (rI e,[])):=
 fun qB n_N qP qQ n_L=>by
  rw[qU qyQ qAh.2.2.2 qHF]
  have:=qIJ;have:=@q5M;have:=@q29.eq_1;exact gA
theorem qGp:okL 143 qjw:=qV (qk qxt) (by kernel_rfl) (by kernel_rfl)
def qGe:=JA_ @qjw.eq_1 (JA_ @Tryz.f143.eq_1 @qxt)
def q1Y (n:qb):Option Int:=if 0<((n.L.length:Nat):Int) then some 13 else if(!(zB n.N 1 600))=Bool.true then some 3 else Option.bind (q0V n) fun(e0:Int)=>some e0
theorem qbr:∀(qB n_N qP:Int) (qQ:List qc) (n_L:List qb),ev 143 0 [R.agg [dI qB,dI n_N,dI qP,dL 2 qd qQ,dL 5 qh n_L]] []=(q1Y (qb.mk qB n_N qP qQ n_L)).bind (fun(e:Int)=>some (rI e,[])):=
 fun qB n_N qP qQ n_L=>by
  rw[qU qxt qzH.2.2.2 qGp]
  have:=qGe;have:=@Jv;have:=@q5M;have:=@q1Y.eq_1;exact gA
theorem qHQ:okL 144 qiM:=qV (qk qvt) (by kernel_rfl) (by kernel_rfl)
def qGv:=JA_ @qiM.eq_1 (JA_ @Tryz.f144.eq_1 @qvt)
theorem qH1:okL 140 qiT:=qV (qk qwk) (by kernel_rfl) (by kernel_rfl)
def qHp:=JA_ @qiT.eq_1 (JA_ @Tryz.f140.eq_1 @qwk)
def q3i (n:qb):Option Bool:=if(n.Min==0)=Bool.true then if(((n.Set.length:Nat):Int)==0)=Bool.true then some (decide (0<((n.L.length:Nat):Int))) else some Bool.false else some Bool.false
def Zr (n:qb):Bool:=if(n.Min==0)=Bool.true then if(((n.Set.length:Nat):Int)==0)=Bool.true then decide (0<((n.L.length:Nat):Int)) else Bool.false else Bool.false
theorem q9J (n:qb):q3i n=some (Zr n):=by
 unfold q3i Zr
 simp only[Zs]
theorem q5p:∀(qB n_N qP:Int) (qQ:List qc) (n_L:List qb),ev 140 0 [R.agg [dI qB,dI n_N,dI qP,dL 2 qd qQ,dL 5 qh n_L]] []=some (rB (Zr (qb.mk qB n_N qP qQ n_L)),[]):=
 fun qB n_N qP qQ n_L=>by
  have h:ev 140 0 [R.agg [dI qB,dI n_N,dI qP,dL 2 qd qQ,dL 5 qh n_L]] []=(q3i (qb.mk qB n_N qP qQ n_L)).bind (fun(e:Bool)=>some (rB e,[])):=by
   rw[qU qwk qC1.2.2.2 qH1]
   have:=qHp;have:=@q3i.eq_1;exact gA
  rw[q9J] at h
  exact h
def q3h (n:qb):Option Int:=if(!(Zr n))=Bool.true then some 13 else if(n.N != 0)=Bool.true then some 13 else some 0
def Jt (n:qb):Int:=if(!(Zr n))=Bool.true then 13 else if(n.N != 0)=Bool.true then 13 else 0
theorem q9T (n:qb):q3h n=some (Jt n):=by
 unfold q3h Jt
 simp only[Zs]
theorem qb6:∀(qB n_N qP:Int) (qQ:List qc) (n_L:List qb),ev 144 1 [R.agg [dI qB,dI n_N,dI qP,dL 2 qd qQ,dL 5 qh n_L],rP 0] [(0,B.blk 136 [C.fn 140 [] []])]=some (rI (Jt (qb.mk qB n_N qP qQ n_L)),[(0,B.blk 136 [C.fn 140 [] []])]):=
 fun qB n_N qP qQ n_L=>by
  have h:ev 144 1 [R.agg [dI qB,dI n_N,dI qP,dL 2 qd qQ,dL 5 qh n_L],rP 0] [(0,B.blk 136 [C.fn 140 [] []])]=(q3h (qb.mk qB n_N qP qQ n_L)).bind (fun(e:Int)=>some (rI e,[(0,B.blk 136 [C.fn 140 [] []])])):=by
   rw[qU qvt qDK.2.2.2 qHQ]
   have:=qGv;have:=@q5p;have:=@q3h.eq_1;exact gA
  rw[q9T] at h
  exact h
theorem qID:okL 145 qiN:=qV (qk qwE) (by kernel_rfl) (by kernel_rfl)
def qHC:=JA_ @qiN.eq_1 (JA_ @Tryz.f145.eq_1 @qwE)
def q3j (n:qb):Option Int:=if(!(Zr n))=Bool.true then some 13 else if(!(zB n.N 1 ((n.L.length:Nat):Int)))=Bool.true then some 3 else some 0
def Ju (n:qb):Int:=if(!(Zr n))=Bool.true then 13 else if(!(zB n.N 1 ((n.L.length:Nat):Int)))=Bool.true then 3 else 0
theorem qav (n:qb):q3j n=some (Ju n):=by
 unfold q3j Ju
 simp only[Zs]
theorem qbk:∀(qB n_N qP:Int) (qQ:List qc) (n_L:List qb),ev 145 1 [R.agg [dI qB,dI n_N,dI qP,dL 2 qd qQ,dL 5 qh n_L],rP 0] [(0,B.blk 136 [C.fn 140 [] []])]=some (rI (Ju (qb.mk qB n_N qP qQ n_L)),[(0,B.blk 136 [C.fn 140 [] []])]):=
 fun qB n_N qP qQ n_L=>by
  have h:ev 145 1 [R.agg [dI qB,dI n_N,dI qP,dL 2 qd qQ,dL 5 qh n_L],rP 0] [(0,B.blk 136 [C.fn 140 [] []])]=(q3j (qb.mk qB n_N qP qQ n_L)).bind (fun(e:Int)=>some (rI e,[(0,B.blk 136 [C.fn 140 [] []])])):=by
   rw[qU qwE qCL.2.2.2 qID]
   have:=qHC;have:=@q5p;have:=@Jv;have:=@q3j.eq_1;exact gA
  rw[qav] at h
  exact h
def JW (t37:List qb) (t38:Int):Int→Option (Int⊕(Int⊕Unit))|t39=>if t39<t38 then if 0≤t39∧t39<((t37.length:Nat):Int) then Option.bind t37[Int.toNat t39]? fun(a:qb)=>if a.Kind=1 then Option.bind (q29 a) fun(a2:Int)=>if(a2 != 0)=Bool.true then some (Sum.inr (Sum.inl a2)) else some (Sum.inl (w64 (t39+1))) else if a.Kind=2 then Option.bind (q1Y a) fun(a3:Int)=>if(a3 != 0)=Bool.true then some (Sum.inr (Sum.inl a3)) else some (Sum.inl (w64 (t39+1))) else if a.Kind=3 then if(Jt a != 0)=Bool.true then some (Sum.inr (Sum.inl (Jt a))) else some (Sum.inl (w64 (t39+1))) else if a.Kind=4 then if(Ju a != 0)=Bool.true then some (Sum.inr (Sum.inl (Ju a))) else some (Sum.inl (w64 (t39+1))) else some (Sum.inr (Sum.inl 13)) else none else some (Sum.inr (Sum.inr ()))
theorem q9Q:∀(t37:List qb) (t38 t39:Int),XL2 evo 58 0 6 ⟨[(6,R.c (C.hd .map 0)),(37,rL 5 qh t37),(38,rI t38),(39,rI t39)],[(0,B.ob (AO.mp [(Value.int IntKind.i64 1,R.agg [C.fn 141 [] []],0),(Value.int IntKind.i64 2,R.agg [C.fn 143 [] []],1),(Value.int IntKind.i64 3,R.agg [C.fn 144 [] [dP 1]],2),(Value.int IntKind.i64 4,R.agg [C.fn 145 [] [dP 1]],3)] 4)),(1,B.blk 136 [C.fn 140 [] []])],2,60⟩=(zw (JW t37 t38) t39).bind (Sum.elim (fun(e:Int)=>some (Exit.ret,⟨[(2,rI e)],[],0,60⟩)) (fun(e:Unit)=>some (Exit.exit 0,⟨[(2,R.any)],[],0,60⟩))):=
 fun t37 t38 t39=>by
  revert t39;exact qbL qDo qAy (fun e=>by rcases e with _|_<;>exact⟨_,rfl,fun h=>by cases h⟩) fun x=>by
   have:=qL0;have:=@qoW.eq_1;have:=@qaQ;have:=@qbr;have:=@qb6;have:=@qbk;have:=@JW.eq_1;exact gA
def JQ (n:qb):Option Int:=Option.bind (q2W n) fun(a:Prod (List qb) (Prod Int Bool))=>if(!a.2.2)=Bool.true then some 2 else if 24<((a.1.length:Nat):Int) then some 2 else if 5<a.2.1 then some 2 else Option.bind (q1K n) fun(a2:List qb)=>if(!(zB ((a2.length:Nat):Int) 1 8))=Bool.true then some 2 else Option.bind (zw (JW a.1 ((a.1.length:Nat):Int)) 0) fun(a3:Sum Int Unit)=>Sum.elim (fun(a4:Int)=>some a4) (fun(a5:Unit)=>some 0) a3
theorem q4w:∀(qB n_N qP:Int) (qQ:List qc) (n_L:List qb),ev 58 0 [R.agg [dI qB,dI n_N,dI qP,dL 2 qd qQ,dL 5 qh n_L]] []=(JQ (qb.mk qB n_N qP qQ n_L)).bind (fun(e:Int)=>some (rI e,[])):=
 fun qB n_N qP qQ n_L=>by
  rw[qU qG1 qLf.2.2.2 qJV]
  have:=qL0;have:=@q8t;have:=@q6j;have:=@Jv;have:=@qcP;have:=@q9Q;have:=@JQ.eq_1;exact gA
theorem qOE:okL 70 qmV:=qV (qk qJl) (by kernel_rfl) (by kernel_rfl)
def qMl:=JA_ @qmV.eq_1 (JA_ @Tryz.f70.eq_1 @qJl)
theorem qCQ:okL 114 qg4:=qV (qk qr5) (by kernel_rfl) (by kernel_rfl)
def qAS:=JA_ @qg4.eq_1 (JA_ @Tryz.f114.eq_1 @qr5)
theorem qxL:lbO 114 2=qif:=Qz (qk qr5) rfl
theorem qyg:okL 114 qif:=zS qCQ (qQ6 (i:=0) (by kernel_rfl))
theorem qK1:okL 57 qkS:=qV (qk qFt) (by kernel_rfl) (by kernel_rfl)
def qLy:=JA_ @qkS.eq_1 (JA_ @Tryz.f57.eq_1 @qFt)
theorem qBt:lbO 57 2=qne:=Qz (qk qFt) rfl
theorem qEZ:okL 57 qne:=zS qK1 (qQ6 (i:=0) (by kernel_rfl))
theorem qJx:okL 101 qiH:=qV (qk qyW) (by kernel_rfl) (by kernel_rfl)
def qI5:=JA_ @qiH.eq_1 (JA_ @Tryz.f101.eq_1 @qyW)
def q0z (n:Int) (a:Int) (b:Int):Option Int:=
 some (max (min a b) (min n (max a b)))
def QF (n:Int) (a:Int) (b:Int):Int:=
 max (min a b) (min n (max a b))
theorem q5S (n a b:Int):q0z n a b=some (QF n a b):=by
 unfold q0z QF
 simp only[Zs]
theorem q0Y:∀(n a b:Int),ev 101 0 [rI n,rI a,rI b] []=some (rI (QF n a b),[]):=
 fun n a b=>by
  have h:ev 101 0 [rI n,rI a,rI b] []=(q0z n a b).bind (fun(e:Int)=>some (rI e,[])):=by
   rw[qU qyW qBn.2.2.2 qJx]
   have:=qI5;have:=@q0z.eq_1;exact gA
  rw[q5S] at h
  exact h
def JB (w1:List Int) (s:qg) (t10:Int):Int→Option (Int⊕(Unit⊕Unit))|t11=>if t11<t10 then if 0≤t11∧t11<((w1.length:Nat):Int) then Option.bind w1[Int.toNat t11]? fun(a:Int)=>if(QF a (-1000) 1000 != a)=Bool.true then some (Sum.inr (Sum.inl ())) else some (Sum.inl (w64 (t11+1))) else none else some (Sum.inr (Sum.inr ()))
theorem q8F:∀(w1:List Int) (zo Q1 Q2 t10 t11:Int) (QS:Nat),QS=w1.length→XL2 evo 57 0 2 ⟨[(1,rP 0),(9,rO 1 1 QS),(10,rI t10),(11,rI t11)],[(0,B.blk 28 [dI zo,dI Q1,dI Q2]),(1,bR 3 1 eI w1)],2,37⟩=(zw (JB w1 (qg.mk zo Q1 Q2) t10) t11).bind (Sum.elim (fun(e:Unit)=>some (Exit.ret,⟨[(1,rP 0),(2,rI 10)],[(0,B.blk 28 [dI zo,dI Q1,dI Q2])],1,37⟩)) (fun(e:Unit)=>some (Exit.exit 0,⟨[(1,rP 0),(2,R.any)],[(0,B.blk 28 [dI zo,dI Q1,dI Q2])],1,37⟩))):=
 by
 intro w1 zo Q1 Q2 t10 t11 QS h0
 subst h0
 revert t11;exact qbL qBt qEZ (fun e=>by rcases e with _|_<;>exact⟨_,rfl,fun h=>by cases h⟩) fun x=>by
  have:=qLy;have:=@qne.eq_1;have:=@q0Y;have:=@JB.eq_1;exact gA
theorem q6N:∀(w10 w11 zo Q1 Q2 t10 t11:Int),XL2 evo 57 0 2 ⟨[(1,rP 0),(9,rO 1 1 2),(10,rI t10),(11,rI t11)],[(0,B.blk 28 [dI zo,dI Q1,dI Q2]),(1,B.row 3 1 [dI w10,dI w11])],2,37⟩=(zw (JB [w10,w11] (qg.mk zo Q1 Q2) t10) t11).bind (Sum.elim (fun(e:Unit)=>some (Exit.ret,⟨[(1,rP 0),(2,rI 10)],[(0,B.blk 28 [dI zo,dI Q1,dI Q2])],1,37⟩)) (fun(e:Unit)=>some (Exit.exit 0,⟨[(1,rP 0),(2,R.any)],[(0,B.blk 28 [dI zo,dI Q1,dI Q2])],1,37⟩))):=by
 intro w10 w11 zo Q1 Q2 t10 t11;have h:=q8F [w10,w11] ((qg.mk zo Q1 Q2)).Worst ((qg.mk zo Q1 Q2)).Best ((qg.mk zo Q1 Q2)).Pass t10 t11 _ rfl
 first
  | exact h
  | (simp only[rL,dL,bR,bZ,Nat.reduceAdd] at h;exact h)
def q1O (s:qg):Option Int:=Option.bind (zw (JB [s.Worst,s.Best] s 2) 0) fun(a:Sum Unit Unit)=>Sum.elim (fun(a2:Unit)=>some 10) (fun(a3:Unit)=>if(s.Worst==s.Best)=Bool.true then some 10 else if(QF s.Pass s.Worst s.Best != s.Pass)=Bool.true then some 10 else some 0) a
theorem q6p:∀(zo Q1 Q2:Int),ev 57 0 [R.agg [dI zo,dI Q1,dI Q2]] []=(q1O (qg.mk zo Q1 Q2)).bind (fun(e:Int)=>some (rI e,[])):=
 fun zo Q1 Q2=>by
  rw[qU qFt qLc.2.2.2 qK1]
  have:=qLy;have:=@q6N;have:=@q0Y;have:=@q1O.eq_1;exact gA
theorem qOF:okL 18 qnV:=qV (qk qHH) (by kernel_rfl) (by kernel_rfl)
def qNl:=JA_ @qnV.eq_1 (JA_ @Tryz.f18.eq_1 @qHH)
theorem qMd:okL 46 qn5:=qV (qk qHq) (by kernel_rfl) (by kernel_rfl)
def qOW:=JA_ @qn5.eq_1 (JA_ @Tryz.f46.eq_1 @qHq)
theorem qMB:okL 80 qmB:=qV (qk qHG) (by kernel_rfl) (by kernel_rfl)
def qPk:=JA_ @qmB.eq_1 (JA_ @Tryz.f80.eq_1 @qHG)
def q1G (n:Int) (by0:Int):Option Int:=if by0=0 then none else if by0=0 then none else if by0=0 then none else some (w64 (Int.tdiv (w64 (n-Int.tmod (w64 (Int.tmod n by0+by0)) by0)) by0))
theorem qcb:∀(n by0:Int),ev 80 0 [rI n,rI by0] []=(q1G n by0).bind (fun(e:Int)=>some (rI e,[])):=
 fun n by0=>by
  rw[qU qHG qKO.2.2.2 qMB]
  have:=qPk;have:=@q1G.eq_1;exact gA
def q3b (day:Int):Option Int:=if day<(-4611686018427387904) then Option.bind (q1G (w64 (day+100)) 100) fun(a:Int)=>some (w64 (a-1)) else Option.bind (q1G day 100) fun(e0:Int)=>some e0
theorem qes:∀(day:Int),ev 46 0 [rI day] []=(q3b day).bind (fun(e:Int)=>some (rI e,[])):=
 fun day=>by
  rw[qU qHq qL5.2.2.2 qMd]
  have:=qOW;have:=@qcb;have:=@q3b.eq_1;exact gA
def ZS (p:qf) (a:qa) (day:Int):Option Bool:=if 0<p.Age then Option.bind (q3b day) fun(a2:Int)=>Option.bind (q3b a.Day) fun(a3:Int)=>some (decide (p.Age<w64 (a2-a3))) else some Bool.false
theorem q4l:∀(qE JY qA zh:Int) (zi:ByteArray) (qp qF qt:Int) (qz:List qc) (qJ:List qb) (qM Qd Qe:Int) (qL:List (q05 qc)) (Qc:Int) (QJ:ByteArray) (JX q2q q98:Int) (JI:List Int) (q0K:Int) (q3W:List Int) (day:Int),ev 18 0 [R.agg [dI qE,dI JY,dI qA,dI zh,dS zi,dI qp,dI qF,dI qt,dL 2 qd qz,dL 5 qh qJ,dI qM,dI Qd,dI Qe,dL 4 (eA2 qd) qL],R.agg [dI Qc,dS QJ,dI JX,dI q2q,dI q98,dL 1 eI JI,dI q0K,dL 1 eI q3W],rI day] []=(ZS (qf.mk qE JY qA zh zi (qb.mk qp qF qt qz qJ) qM Qd Qe qL) (qa.mk (qc.mk Qc QJ) JX q2q q98 JI q0K q3W) day).bind (fun(e:Bool)=>some (rB e,[])):=
 fun qE JY qA zh zi qp qF qt qz qJ qM Qd Qe qL Qc QJ JX q2q q98 JI q0K q3W day=>by
  rw[qU qHH qJK.2.2.2 qOF]
  have:=qNl;have:=@qes;have:=@ZS.eq_1;exact gA
def Ze (b0:qf) (b1:qg) (b2:Int) (b4:Int) (t2:List qa) (t28:List qa) (t29:Int):(List Int×Int)→Option ((List Int×Int)⊕(List Int))|(w6,t30)=>if t30<t29 then if 0≤t30∧t30<((t28.length:Nat):Int) then Option.bind t28[Int.toNat t30]? fun(a:qa)=>Option.bind (ZS b0 a b2) fun(a2:Bool)=>if(!a2)=Bool.true then if w6.length+1≤maxLen∧(w6.length+1)*8≤140737488355328 then some (Sum.inl (w6++[t30],w64 (t30+1))) else none else some (Sum.inl (w6,w64 (t30+1))) else none else some (Sum.inr w6)
theorem q7t:∀(w6:List Int) (qq zJ qn qC:Int) (qD:ByteArray) (qj qr ql:Int) (qm:List qc) (qu:List qb) (qw qR qS:Int) (qo:List (q05 qc)) (qX zx zy b2 b4:Int) (t2 t28:List qa) (t29 t30:Int) (qdY:Nat),qdY=w6.length→XL2 evo 15 0 6 ⟨[(2,rL 8 qe t2),(4,rP 0),(5,rP 1),(7,rP 2),(8,rP 3),(9,rP 4),(11,rP 5),(28,rL 8 qe t28),(29,rI t29),(30,rI t30)],[(0,B.blk 39 [dI qq,dI zJ,dI qn,dI qC,dS qD,dI qj,dI qr,dI ql,dL 2 qd qm,dL 5 qh qu,dI qw,dI qR,dI qS,dL 4 (eA2 qd) qo]),(1,B.blk 28 [dI qX,dI zx,dI zy]),(2,B.blk 3 [dI b2]),(3,B.blk 48 [C.nils,C.nils]),(4,B.blk 49 [dI b4]),(5,B.blk 22 [dO 6 1 qdY]),(6,bR 3 1 eI w6)],7,93⟩=(zw (Ze (qf.mk qq zJ qn qC qD (qb.mk qj qr ql qm qu) qw qR qS qo) (qg.mk qX zx zy) b2 b4 t2 t28 t29) (w6,t30)).bind (fun(e:List Int)=>some (Exit.exit 0,⟨[(2,rL 8 qe t2),(4,rP 0),(5,rP 1),(7,rP 2),(8,rP 3),(9,rP 4),(11,rP 5)],[(0,B.blk 39 [dI qq,dI zJ,dI qn,dI qC,dS qD,dI qj,dI qr,dI ql,dL 2 qd qm,dL 5 qh qu,dI qw,dI qR,dI qS,dL 4 (eA2 qd) qo]),(1,B.blk 28 [dI qX,dI zx,dI zy]),(2,B.blk 3 [dI b2]),(3,B.blk 48 [C.nils,C.nils]),(4,B.blk 49 [dI b4]),(5,B.blk 22 [dO 6 1 e.length]),(6,bR 3 1 eI e)],7,93⟩)):=
 by
 intro w6 qq zJ qn qC qD qj qr ql qm qu qw qR qS qo qX zx zy b2 b4 t2 t28 t29 t30 qdY h0
 subst h0
 revert t30;revert w6;exact qaL qEk qCo (fun e=>by exact⟨_,rfl,fun h=>by cases h⟩) fun w6 t30=>by
  have:=qGG;have:=@qpK.eq_1;have:=@q4l;have:=@Ze.eq_1;have:=@qih;exact gA
theorem q5s:∀  (qq zJ qn qC:Int) (qD:ByteArray) (qj qr ql:Int) (qm:List qc) (qu:List qb) (qw qR qS:Int) (qo:List (q05 qc)) (qX zx zy b2 b4:Int) (t2 t28:List qa) (t29 t30:Int),XL2 evo 15 0 6 ⟨[(2,rL 8 qe t2),(4,rP 0),(5,rP 1),(7,rP 2),(8,rP 3),(9,rP 4),(11,rP 5),(28,rL 8 qe t28),(29,rI t29),(30,rI t30)],[(0,B.blk 39 [dI qq,dI zJ,dI qn,dI qC,dS qD,dI qj,dI qr,dI ql,dL 2 qd qm,dL 5 qh qu,dI qw,dI qR,dI qS,dL 4 (eA2 qd) qo]),(1,B.blk 28 [dI qX,dI zx,dI zy]),(2,B.blk 3 [dI b2]),(3,B.blk 48 [C.nils,C.nils]),(4,B.blk 49 [dI b4]),(5,B.blk 22 [dO 6 1 0]),(6,B.row 3 1 [])],7,93⟩=(zw (Ze (qf.mk qq zJ qn qC qD (qb.mk qj qr ql qm qu) qw qR qS qo) (qg.mk qX zx zy) b2 b4 t2 t28 t29) ([],t30)).bind (fun(e:List Int)=>some (Exit.exit 0,⟨[(2,rL 8 qe t2),(4,rP 0),(5,rP 1),(7,rP 2),(8,rP 3),(9,rP 4),(11,rP 5)],[(0,B.blk 39 [dI qq,dI zJ,dI qn,dI qC,dS qD,dI qj,dI qr,dI ql,dL 2 qd qm,dL 5 qh qu,dI qw,dI qR,dI qS,dL 4 (eA2 qd) qo]),(1,B.blk 28 [dI qX,dI zx,dI zy]),(2,B.blk 3 [dI b2]),(3,B.blk 48 [C.nils,C.nils]),(4,B.blk 49 [dI b4]),(5,B.blk 22 [dO 6 1 e.length]),(6,bR 3 1 eI e)],7,93⟩)):=by
 intro qq zJ qn qC qD qj qr ql qm qu qw qR qS qo qX zx zy b2 b4 t2 t28 t29 t30;have h:=q7t [] ((qf.mk qq zJ qn qC qD (qb.mk qj qr ql qm qu) qw qR qS qo)).School ((qf.mk qq zJ qn qC qD (qb.mk qj qr ql qm qu) qw qR qS qo)).Id ((qf.mk qq zJ qn qC qD (qb.mk qj qr ql qm qu) qw qR qS qo)).Version ((qf.mk qq zJ qn qC qD (qb.mk qj qr ql qm qu) qw qR qS qo)).From ((qf.mk qq zJ qn qC qD (qb.mk qj qr ql qm qu) qw qR qS qo)).Name ((qf.mk qq zJ qn qC qD (qb.mk qj qr ql qm qu) qw qR qS qo)).Need.Kind ((qf.mk qq zJ qn qC qD (qb.mk qj qr ql qm qu) qw qR qS qo)).Need.N ((qf.mk qq zJ qn qC qD (qb.mk qj qr ql qm qu) qw qR qS qo)).Need.Min ((qf.mk qq zJ qn qC qD (qb.mk qj qr ql qm qu) qw qR qS qo)).Need.Set ((qf.mk qq zJ qn qC qD (qb.mk qj qr ql qm qu) qw qR qS qo)).Need.L ((qf.mk qq zJ qn qC qD (qb.mk qj qr ql qm qu) qw qR qS qo)).Total ((qf.mk qq zJ qn qC qD (qb.mk qj qr ql qm qu) qw qR qS qo)).Own ((qf.mk qq zJ qn qC qD (qb.mk qj qr ql qm qu) qw qR qS qo)).Age ((qf.mk qq zJ qn qC qD (qb.mk qj qr ql qm qu) qw qR qS qo)).Exclude ((qg.mk qX zx zy)).Worst ((qg.mk qX zx zy)).Best ((qg.mk qX zx zy)).Pass b2 b4 t2 t28 t29 t30 _ rfl
 first
  | exact h
  | (simp only[rL,dL,bR,bZ,Nat.reduceAdd] at h;exact h)
theorem qLF:okL 34 qlg:=qV (qk qG0) (by kernel_rfl) (by kernel_rfl)
def qLk:=JA_ @qlg.eq_1 (JA_ @Tryz.f34.eq_1 @qG0)
theorem qDw:lbO 34 2=qng:=Qz (qk qG0) rfl
theorem qCt:okL 34 qng:=zS qLF (qQ6 (i:=0) (by kernel_rfl))
def zt (l:List qa) (t7:List Int) (t8:Int):(List qa×Int)→Option ((List qa×Int)⊕(List qa))|(out,t9)=>if t9<t8 then if 0≤t9∧t9<((t7.length:Nat):Int) then Option.bind t7[Int.toNat t9]? fun(a:Int)=>if 0≤a∧a<((l.length:Nat):Int) then Option.bind l[Int.toNat a]? fun(a2:qa)=>if out.length+1≤maxLen∧(out.length+1)*104≤140737488355328 then some (Sum.inl (out++[a2],w64 (t9+1))) else none else none else none else some (Sum.inr out)
theorem q1T:∀(out l:List qa) (t7:List Int) (t8 t9:Int) (Z3:Nat),Z3=out.length→XL2 evo 34 0 2 ⟨[(0,rL 8 qe l),(4,rO 0 8 Z3),(7,rL 1 eI t7),(8,rI t8),(9,rI t9)],[(0,bR 57 8 qe out)],1,22⟩=(zw (zt l t7 t8) (out,t9)).bind (fun(e:List qa)=>some (Exit.exit 0,⟨[(4,rO 0 8 e.length)],[(0,bR 57 8 qe e)],1,22⟩)):=
 by
 intro out l t7 t8 t9 Z3 h0
 subst h0
 revert t9;revert out;exact qaL qDw qCt (fun e=>by exact⟨_,rfl,fun h=>by cases h⟩) fun out t9=>by
  have:=qLk;have:=@qng.eq_1;have:=@zt.eq_1;exact gA
theorem q1d:∀  (l:List qa) (t7:List Int) (t8 t9:Int),XL2 evo 34 0 2 ⟨[(0,rL 8 qe l),(4,rO 0 8 0),(7,rL 1 eI t7),(8,rI t8),(9,rI t9)],[(0,B.row 57 8 [])],1,22⟩=(zw (zt l t7 t8) ([],t9)).bind (fun(e:List qa)=>some (Exit.exit 0,⟨[(4,rO 0 8 e.length)],[(0,bR 57 8 qe e)],1,22⟩)):=by
 intro l t7 t8 t9;have h:=q1T [] l t7 t8 t9 _ rfl
 first
  | exact h
  | (simp only[rL,dL,bR,bZ,Nat.reduceAdd] at h;exact h)
def zQ (l:List qa) (at0:List Int):Option (List qa):=Option.bind (zw (zt l at0 ((at0.length:Nat):Int)) ([],0)) fun(a:List qa)=>some a
theorem q01:∀(l:List qa) (at0:List Int),ev 34 0 [rL 8 qe l,rL 1 eI at0] []=(zQ l at0).bind (fun(e:List qa)=>some (rL 8 qe e,[])):=
 fun l at0=>by
  rw[qU qG0 qL9.2.2.2 qLF]
  have:=qLk;have:=@q1d;have:=@zQ.eq_1;exact gA
theorem qOs:okL 35 qmL:=qV (qk qGI) (by kernel_rfl) (by kernel_rfl)
def qOy:=JA_ @qmL.eq_1 (JA_ @Tryz.f35.eq_1 @qGI)
theorem qKm:okL 61 qq7:=qV (qk qFv) (by kernel_rfl) (by kernel_rfl)
def qK8:=JA_ @qq7.eq_1 (JA_ @Tryz.f61.eq_1 @qFv)
theorem qiV:okL 104 q7w:=qV (qk qfq) (by kernel_rfl) (by kernel_rfl)
def q9U:=JA_ @q7w.eq_1 (JA_ @Tryz.f104.eq_1 @qfq)
theorem qfW:lbO 104 5=qaP:=Qz (qk qfq) rfl
theorem qfA:okL 104 qaP:=zS qiV (qQ6 (i:=0) (by kernel_rfl))
theorem qkb:lbO 104 14=qcG:=Qz (qk qfq) rfl
theorem qk8:okL 104 qcG:=zS qiV (qQ6 (i:=1) (by kernel_rfl))
theorem qli:lbO 104 18=qcH:=Qz (qk qfq) rfl
theorem qkB:okL 104 qcH:=zS qiV (qQ6 (i:=2) (by kernel_rfl))
theorem qkm:lbO 104 25=qcC:=Qz (qk qfq) rfl
theorem qlq:okL 104 qcC:=zS qiV (qQ6 (i:=3) (by kernel_rfl))
theorem qjX:lbO 104 38=qcw:=Qz (qk qfq) rfl
theorem ql5:okL 104 qcw:=zS qiV (qQ6 (i:=4) (by kernel_rfl))
theorem qOR:okL 86 qq9:=qV (qk qHM) (by kernel_rfl) (by kernel_rfl)
def qMY:=JA_ @qq9.eq_1 (JA_ @Tryz.f86.eq_1 @qHM)
def q7U (n:qb):Option Bool:=if(n.Kind==1)=Bool.true then some Bool.true else some (n.Kind==2)
def q0a (n:qb):Bool:=if(n.Kind==1)=Bool.true then Bool.true else n.Kind==2
theorem qeu (n:qb):q7U n=some (q0a n):=by
 unfold q7U q0a
 simp only[Zs]
theorem q3Y:∀(qB n_N qP:Int) (qQ:List qc) (n_L:List qb),ev 86 0 [R.agg [dI qB,dI n_N,dI qP,dL 2 qd qQ,dL 5 qh n_L]] []=some (rB (q0a (qb.mk qB n_N qP qQ n_L)),[]):=
 fun qB n_N qP qQ n_L=>by
  have h:ev 86 0 [R.agg [dI qB,dI n_N,dI qP,dL 2 qd qQ,dL 5 qh n_L]] []=(q7U (qb.mk qB n_N qP qQ n_L)).bind (fun(e:Bool)=>some (rB e,[])):=by
   rw[qU qHM qLi.2.2.2 qOR]
   have:=qMY;have:=@q7U.eq_1;exact gA
  rw[qeu] at h
  exact h
theorem qNi:okL 89 qo6:=qV (qk qHv) (by kernel_rfl) (by kernel_rfl)
def qP7:=JA_ @qo6.eq_1 (JA_ @Tryz.f89.eq_1 @qHv)
def q1l (kind:Int):Option (Unit⊕Unit):=if(kind==1)=Bool.true then some (Sum.inl ()) else some (Sum.inr ())
theorem q58:∀(kind:Int),ev 89 0 [rI kind] []=(q1l kind).bind (Sum.elim (fun(e:Unit)=>some (R.c (C.fn 133 [] []),[])) (fun(e:Unit)=>some (R.c (C.fn 134 [] []),[]))):=
 fun kind=>by
  rw[qU qHv qLh.2.2.2 qNi]
  have:=qP7;have:=@q1l.eq_1;exact gA
theorem qLS:okL 59 qmI:=qV (qk qGE) (by kernel_rfl) (by kernel_rfl)
def qOr:=JA_ @qmI.eq_1 (JA_ @Tryz.f59.eq_1 @qGE)
def q4O (x0:Int) (x1:Int):Option Unit:=
 some ()
def q8r (x0:Int) (x1:Int):Unit:=
 ()
theorem qc1 (x0 x1:Int):q4O x0 x1=some (q8r x0 x1):=by
 unfold q4O q8r
 simp only[Zs]
theorem q7v:∀(x0 x1:Int),ev 59 0 [rI x0,rI x1] []=some (rB Bool.true,[]):=
 fun x0 x1=>by
  have h:ev 59 0 [rI x0,rI x1] []=(q4O x0 x1).bind (fun(e:Unit)=>some (rB Bool.true,[])):=by
   rw[qU qGE qKA.2.2.2 qLS]
   have:=qOr;have:=@q4O.eq_1;exact gA
  rw[qc1] at h
  exact h
theorem qIH:okL 87 qlt:=qV (qk qF0) (by kernel_rfl) (by kernel_rfl)
def qG8:=JA_ @qlt.eq_1 (JA_ @Tryz.f87.eq_1 @qF0)
theorem quh:lbO 87 3=qlm:=Qz (qk qF0) rfl
theorem qtU:okL 87 qlm:=zS qIH (qQ6 (i:=0) (by kernel_rfl))
theorem qHd:okL 105 qiL:=qV (qk qvb) (by kernel_rfl) (by kernel_rfl)
def qIr:=JA_ @qiL.eq_1 (JA_ @Tryz.f105.eq_1 @qvb)
def q1w (k:Int) (v:Int):Option Bool:=if 0≤k then some (ZT Go.BinOp.and IntKind.i64 (Int.fdiv v (2 ^ min (Int.toNat k) (IntKind.bits IntKind.i64))) 1==1) else none
theorem qa7:∀(k v:Int),ev 105 1 [rI k,rP 0] [(0,B.blk 3 [dI v])]=(q1w k v).bind (fun(e:Bool)=>some (rB e,[(0,B.blk 3 [dI v])])):=
 fun k v=>by
  rw[qU qvb qDt.2.2.2 qHd]
  have:=qIr;have:=@q1w.eq_1;exact gA
theorem qIZ:okL 132 qib:=qV (qk qwG) (by kernel_rfl) (by kernel_rfl)
def qHt:=JA_ @qib.eq_1 (JA_ @Tryz.f132.eq_1 @qwG)
theorem qIB:okL 163 qi7:=qV (qk qyn) (by kernel_rfl) (by kernel_rfl)
def qI6:=JA_ @qi7.eq_1 (JA_ @Tryz.f163.eq_1 @qyn)
theorem qCz:okL 179 qff:=qV (qk qss) (by kernel_rfl) (by kernel_rfl)
def qzZ:=JA_ @qff.eq_1 (JA_ @Tryz.f179.eq_1 @qss)
theorem quY:lbO 179 2=qil:=Qz (qk qss) rfl
theorem qvQ:okL 179 qil:=zS qCz (qQ6 (i:=0) (by kernel_rfl))
def zC (v:qc) (s:List qc) (t7:Int):Int→Option (Int⊕(Int⊕Unit))|t8=>if t8<t7 then if 0≤t8∧t8<((s.length:Nat):Int) then Option.bind s[Int.toNat t8]? fun(a:qc)=>if(v.School==a.School)=Bool.true∧(ByteArray.toList v.Code==ByteArray.toList a.Code)=Bool.true then some (Sum.inr (Sum.inl t8)) else some (Sum.inl (w64 (t8+1))) else none else some (Sum.inr (Sum.inr ()))
theorem q0O:∀(q0d:Int) (q7L:ByteArray) (s:List qc) (t7 t8:Int),XL2 evo 179 0 2 ⟨[(0,rL 2 qd s),(3,rP 0),(7,rI t7),(8,rI t8)],[(0,B.blk 55 [dI q0d,dS q7L])],1,19⟩=(zw (zC (qc.mk q0d q7L) s t7) t8).bind (Sum.elim (fun(e:Int)=>some (Exit.ret,⟨[(4,rI e)],[],0,19⟩)) (fun(e:Unit)=>some (Exit.exit 0,⟨[(4,R.any)],[],0,19⟩))):=
 fun q0d q7L s t7 t8=>by
  revert t8;exact qbL quY qvQ (fun e=>by rcases e with _|_<;>exact⟨_,rfl,fun h=>by cases h⟩) fun x=>by
   have:=qzZ;have:=@qil.eq_1;have:=@zC.eq_1;exact gA
def Q8 (s:List qc) (v:qc):Option Int:=Option.bind (zw (zC v s ((s.length:Nat):Int)) 0) fun(a:Sum Int Unit)=>Sum.elim (fun(a2:Int)=>some a2) (fun(a3:Unit)=>some (-1)) a
theorem q1g:∀(s:List qc) (q0d:Int) (q7L:ByteArray),ev 179 0 [rL 2 qd s,R.agg [dI q0d,dS q7L]] []=(Q8 s (qc.mk q0d q7L)).bind (fun(e:Int)=>some (rI e,[])):=
 fun s q0d q7L=>by
  rw[qU qss qE4.2.2.2 qCz]
  have:=qzZ;have:=@q0O;have:=@Q8.eq_1;exact gA
def zX (s:List qc) (v:qc):Option Bool:=Option.bind (Q8 s v) fun(a:Int)=>some (decide (0≤a))
theorem q0N:∀(s:List qc) (q0d:Int) (q7L:ByteArray),ev 163 0 [rL 2 qd s,R.agg [dI q0d,dS q7L]] []=(zX s (qc.mk q0d q7L)).bind (fun(e:Bool)=>some (rB e,[])):=
 fun s q0d q7L=>by
  rw[qU qyn qzA.2.2.2 qIB]
  have:=qI6;have:=@q1g;have:=@zX.eq_1;exact gA
theorem qIV:okL 164 qjD:=qV (qk qxA) (by kernel_rfl) (by kernel_rfl)
def qJq:=JA_ @qjD.eq_1 (JA_ @Tryz.f164.eq_1 @qxA)
theorem qJj:okL 180 qiY:=qV (qk qz1) (by kernel_rfl) (by kernel_rfl)
def qH4:=JA_ @qiY.eq_1 (JA_ @Tryz.f180.eq_1 @qz1)
def q2B (s:qg) (g:Int):Option Bool:=Option.bind (q1O s) fun(a:Int)=>if(a==0)=Bool.true then some (QF g s.Worst s.Best==g) else some Bool.false
theorem qbV:∀(zo Q1 Q2 g:Int),ev 180 0 [R.agg [dI zo,dI Q1,dI Q2],rI g] []=(q2B (qg.mk zo Q1 Q2) g).bind (fun(e:Bool)=>some (rB e,[])):=
 fun zo Q1 Q2 g=>by
  rw[qU qz1 qBP.2.2.2 qJj]
  have:=qH4;have:=@q6p;have:=@q0Y;have:=@q2B.eq_1;exact gA
def q1k (s:qg) (g:Int) (min:Int):Option Bool:=Option.bind (q2B s g) fun(a:Bool)=>if a=Bool.true then if(g==min)=Bool.true then some Bool.true else some (decide (min<g)==decide (s.Worst<s.Best)) else some Bool.false
theorem qa3:∀(zo Q1 Q2 g min:Int),ev 164 0 [R.agg [dI zo,dI Q1,dI Q2],rI g,rI min] []=(q1k (qg.mk zo Q1 Q2) g min).bind (fun(e:Bool)=>some (rB e,[])):=
 fun zo Q1 Q2 g min=>by
  rw[qU qxA qBM.2.2.2 qIV]
  have:=qJq;have:=@qbV;have:=@q1k.eq_1;exact gA
def q4g (n:qb) (s:qg) (a:qa):Option Bool:=if q0a n=Bool.true then Option.bind (zX n.Set a.Course) fun(a2:Bool)=>if a2=Bool.true then Option.bind (q1k s a.Grade n.Min) fun(e0:Bool)=>some e0 else some Bool.false else some Bool.false
theorem q9L:∀(qB n_N qP:Int) (qQ:List qc) (n_L:List qb) (zo Q1 Q2 Qc:Int) (QJ:ByteArray) (JX q2q q98:Int) (JI:List Int) (q0K:Int) (q3W:List Int),ev 132 0 [R.agg [dI qB,dI n_N,dI qP,dL 2 qd qQ,dL 5 qh n_L],R.agg [dI zo,dI Q1,dI Q2],R.agg [dI Qc,dS QJ,dI JX,dI q2q,dI q98,dL 1 eI JI,dI q0K,dL 1 eI q3W]] []=(q4g (qb.mk qB n_N qP qQ n_L) (qg.mk zo Q1 Q2) (qa.mk (qc.mk Qc QJ) JX q2q q98 JI q0K q3W)).bind (fun(e:Bool)=>some (rB e,[])):=
 fun qB n_N qP qQ n_L zo Q1 Q2 Qc QJ JX q2q q98 JI q0K q3W=>by
  rw[qU qwG qDc.2.2.2 qIZ]
  have:=qHt;have:=@q3Y;have:=@q0N;have:=@qa3;have:=@q4g.eq_1;exact gA
def q0f (b0:Int) (n:qb) (s:qg) (b3:qO) (t13:List qa) (t14:Int):(qO×Int)→Option ((qO×Int)⊕qO)|(out,t15)=>if t15<t14 then if 0≤t15∧t15<((t13.length:Nat):Int) then Option.bind t13[Int.toNat t15]? fun(a:qa)=>Option.bind (q1w t15 b0) fun(a2:Bool)=>if a2=Bool.true then if out.fine=Bool.true then Option.bind (q4g n s a) fun(a3:Bool)=>some (Sum.inl (qO.mk (w64 (out.many+1)) (w64 (out.credits+a.Credits)) a3,w64 (t15+1))) else some (Sum.inl (qO.mk (w64 (out.many+1)) (w64 (out.credits+a.Credits)) Bool.false,w64 (t15+1))) else some (Sum.inl (out,w64 (t15+1))) else none else some (Sum.inr out)
theorem qb8:∀(b0 qB n_N qP:Int) (qQ:List qc) (n_L:List qb) (zo Q1 Q2 b3_many b3_credits:Int) (b3_fine:Bool) (out_many out_credits:Int) (out_fine:Bool) (t13:List qa) (t14 t15:Int),XL2 evo 87 1 3 ⟨[(3,R.c (C.fn 105 [] [dP 0])),(4,rP 1),(5,rP 2),(8,rP 3),(9,rP 4),(13,rL 8 qe t13),(14,rI t14),(15,rI t15)],[(0,B.blk 3 [dI b0]),(1,B.blk 36 [dI qB,dI n_N,dI qP,dL 2 qd qQ,dL 5 qh n_L]),(2,B.blk 28 [dI zo,dI Q1,dI Q2]),(3,B.blk 138 [dI b3_many,dI b3_credits,dB b3_fine]),(4,B.blk 138 [dI out_many,dI out_credits,dB out_fine])],5,44⟩=(zw (q0f b0 (qb.mk qB n_N qP qQ n_L) (qg.mk zo Q1 Q2) (qO.mk b3_many b3_credits b3_fine) t13 t14) ((qO.mk out_many out_credits out_fine),t15)).bind (fun(e:qO)=>some (Exit.exit 0,⟨[(8,rP 1),(9,rP 2)],[(0,B.blk 3 [dI b0]),(1,B.blk 138 [dI b3_many,dI b3_credits,dB b3_fine]),(2,B.blk 138 [dI e.many,dI e.credits,dB e.fine])],3,44⟩)):=
 fun b0 qB n_N qP qQ n_L zo Q1 Q2 b3_many b3_credits b3_fine out_many out_credits out_fine t13 t14 t15=>by
  have h:=q5e (E:=evo) (f:=87) (k:=1) (st:=fun x:qO×Int=>(⟨[(3,R.c (C.fn 105 [] [dP 0])),(4,rP 1),(5,rP 2),(8,rP 3),(9,rP 4),(13,rL 8 qe t13),(14,rI t14),(15,rI x.2)],[(0,B.blk 3 [dI b0]),(1,B.blk 36 [dI qB,dI n_N,dI qP,dL 2 qd qQ,dL 5 qh n_L]),(2,B.blk 28 [dI zo,dI Q1,dI Q2]),(3,B.blk 138 [dI b3_many,dI b3_credits,dB b3_fine]),(4,B.blk 138 [dI x.1.many,dI x.1.credits,dB x.1.fine])],5,44⟩:S)) (ex:=fun(e:qO)=>(Exit.exit 0,⟨[(8,rP 1),(9,rP 2)],[(0,B.blk 3 [dI b0]),(1,B.blk 138 [dI b3_many,dI b3_credits,dB b3_fine]),(2,B.blk 138 [dI e.many,dI e.credits,dB e.fine])],3,44⟩)) (step:=(q0f b0 (qb.mk qB n_N qP qQ n_L) (qg.mk zo Q1 Q2) (qO.mk b3_many b3_credits b3_fine) t13 t14)) quh qtU (fun e h=>by cases h) (fun x=>by
   obtain⟨out,t15⟩:=x;have:=qG8;have:=@qlm.eq_1;have:=@qa7;have:=@q9L;have:=@q0f.eq_1;exact gA) ((qO.mk out_many out_credits out_fine),t15)
  exact h
def q1p (n:qb) (s:qg) (l:List qa) (b0:Int):Option qO:=Option.bind (zw (q0f b0 n s (qO.mk 0 0 Bool.false) l ((l.length:Nat):Int)) (qO.mk 0 0 Bool.true,0)) fun(a:qO)=>some a
theorem q3o:∀(qB n_N qP:Int) (qQ:List qc) (n_L:List qb) (zo Q1 Q2:Int) (l:List qa) (b0:Int),ev 87 1 [R.agg [dI qB,dI n_N,dI qP,dL 2 qd qQ,dL 5 qh n_L],R.agg [dI zo,dI Q1,dI Q2],rL 8 qe l,R.c (C.fn 105 [] [dP 0])] [(0,B.blk 3 [dI b0])]=(q1p (qb.mk qB n_N qP qQ n_L) (qg.mk zo Q1 Q2) l b0).bind (fun(e:qO)=>some (R.agg [dI e.many,dI e.credits,dB e.fine],[(0,B.blk 3 [dI b0])])):=
 fun qB n_N qP qQ n_L zo Q1 Q2 l b0=>by
  rw[qU qF0 qH5.2.2.2 qIH]
  have:=qG8;have:=@qb8;have:=@q1p.eq_1;exact gA
theorem qGs:okL 133 qj8:=qV (qk qxB) (by kernel_rfl) (by kernel_rfl)
def qI7:=JA_ @qj8.eq_1 (JA_ @Tryz.f133.eq_1 @qxB)
def q1J (x:qO) (x1:qb):Option Bool:=if x.fine=Bool.true then some (x.many==1) else some Bool.false
def Q4 (x:qO) (x1:qb):Bool:=if x.fine=Bool.true then x.many==1 else Bool.false
theorem q7u (x:qO) (x1:qb):q1J x x1=some (Q4 x x1):=by
 unfold q1J Q4
 simp only[Zs]
theorem q1W:∀(x_many x_credits:Int) (x_fine:Bool) (qdZ qFj qhD:Int) (qhE:List qc) (qFk:List qb),ev 133 0 [R.agg [dI x_many,dI x_credits,dB x_fine],R.agg [dI qdZ,dI qFj,dI qhD,dL 2 qd qhE,dL 5 qh qFk]] []=some (rB (Q4 (qO.mk x_many x_credits x_fine) (qb.mk qdZ qFj qhD qhE qFk)),[]):=
 fun x_many x_credits x_fine qdZ qFj qhD qhE qFk=>by
  have h:ev 133 0 [R.agg [dI x_many,dI x_credits,dB x_fine],R.agg [dI qdZ,dI qFj,dI qhD,dL 2 qd qhE,dL 5 qh qFk]] []=(q1J (qO.mk x_many x_credits x_fine) (qb.mk qdZ qFj qhD qhE qFk)).bind (fun(e:Bool)=>some (rB e,[])):=by
   rw[qU qxB qDJ.2.2.2 qGs]
   have:=qI7;have:=@q1J.eq_1;exact gA
  rw[q7u] at h
  exact h
theorem qGz:okL 134 qin:=qV (qk qxf) (by kernel_rfl) (by kernel_rfl)
def qJ3:=JA_ @qin.eq_1 (JA_ @Tryz.f134.eq_1 @qxf)
def q3p (x:qO) (n:qb):Option Bool:=if x.fine=Bool.true then if 0<x.many then some (decide (n.N≤x.credits)) else some Bool.false else some Bool.false
def Qw (x:qO) (n:qb):Bool:=if x.fine=Bool.true then if 0<x.many then decide (n.N≤x.credits) else Bool.false else Bool.false
theorem qap (x:qO) (n:qb):q3p x n=some (Qw x n):=by
 unfold q3p Qw
 simp only[Zs]
theorem q31:∀(x_many x_credits:Int) (x_fine:Bool) (qB n_N qP:Int) (qQ:List qc) (n_L:List qb),ev 134 0 [R.agg [dI x_many,dI x_credits,dB x_fine],R.agg [dI qB,dI n_N,dI qP,dL 2 qd qQ,dL 5 qh n_L]] []=some (rB (Qw (qO.mk x_many x_credits x_fine) (qb.mk qB n_N qP qQ n_L)),[]):=
 fun x_many x_credits x_fine qB n_N qP qQ n_L=>by
  have h:ev 134 0 [R.agg [dI x_many,dI x_credits,dB x_fine],R.agg [dI qB,dI n_N,dI qP,dL 2 qd qQ,dL 5 qh n_L]] []=(q3p (qO.mk x_many x_credits x_fine) (qb.mk qB n_N qP qQ n_L)).bind (fun(e:Bool)=>some (rB e,[])):=by
   rw[qU qxf qBi.2.2.2 qGz]
   have:=qJ3;have:=@q3p.eq_1;exact gA
  rw[qap] at h
  exact h
def zD (x:(qb×List qa×Int×qg)):List R×List (Nat×B):=([R.agg [C.d (D.int .i64 x.1.Kind),C.d (D.int .i64 x.1.N),C.d (D.int .i64 x.1.Min),C.d (D.sl 2 x.1.Set.length (x.1.Set.flatMap qd)),C.d (D.sl 5 x.1.L.length (x.1.L.flatMap qh))],R.c (C.ptr 0 0),R.c (C.ptr 1 0),R.c (C.ptr 2 0),R.c (C.ptr 3 0),R.c (C.ptr 4 0),R.c (C.ptr 5 0)],[(0,B.blk 26 [C.d (D.sl 8 x.2.1.length (x.2.1.flatMap qe))]),(1,B.blk 114 [C.fn 59 [] []]),(2,B.blk 3 [C.d (D.int .i64 x.2.2.1)]),(3,B.blk 28 [C.d (D.int .i64 x.2.2.2.Worst),C.d (D.int .i64 x.2.2.2.Best),C.d (D.int .i64 x.2.2.2.Pass)]),(4,B.blk 163 [C.fn 104 [] [C.ptr 0 0,C.ptr 1 0,C.ptr 2 0,C.ptr 3 0,C.ptr 4 0,C.ptr 5 0]]),(5,B.blk 114 [C.fn 60 [] []])])
def Qx:(List Bool×List qa×Int×qg)→R×List (Nat×B):=fun(e:List Bool×List qa×Int×qg)=>(R.c (C.d (D.sl 1 e.1.length (e.1.flatMap eB))),[(0,B.blk 26 [C.d (D.sl 8 e.2.1.length (e.2.1.flatMap qe))]),(1,B.blk 114 [C.fn 59 [] []]),(2,B.blk 3 [C.d (D.int .i64 e.2.2.1)]),(3,B.blk 28 [C.d (D.int .i64 e.2.2.2.Worst),C.d (D.int .i64 e.2.2.2.Best),C.d (D.int .i64 e.2.2.2.Pass)]),(4,B.blk 163 [C.fn 104 [] [C.ptr 0 0,C.ptr 1 0,C.ptr 2 0,C.ptr 3 0,C.ptr 4 0,C.ptr 5 0]]),(5,B.blk 114 [C.fn 60 [] []])])
end
noncomputable section
open Go.RowKit
set_option maxRecDepth 20000
set_option maxHeartbeats 8000000
abbrev qMz:List R:=R.any::R.any::R.any::R.any::qOB
abbrev qPq:List R:=R.any::R.any::R.any::R.any::qMz
abbrev qO5:List R:=R.any::R.any::R.any::R.any::qPq
abbrev qMU:List R:=R.any::R.any::R.any::R.any::qO5
abbrev qNF:List R:=R.any::R.any::R.any::R.any::qMU
abbrev qM1:List R:=R.any::R.any::R.any::R.any::qNF
abbrev qMH:List R:=R.any::R.any::R.any::R.any::qM1
abbrev qMX:List R:=R.any::R.any::R.any::R.any::qMH
abbrev qPf:List R:=R.any::R.any::R.any::R.any::qMX
abbrev qlP:List R:=R.any::R.any::R.any::R.any::qPf
def Js (rF:(qb×List qa×Int×qg)→Option (List Bool×List qa×Int×qg)) (b0:List qa) (b2:Int) (b3:qg) (b6:qb):(List Bool×Int)→Option ((List Bool×Int)⊕(List Bool))|(w7,b8)=>if b8<((w7.length:Nat):Int) then Option.bind (q1p b6 b3 b0 b8) fun(a2:qO)=>if 0≤b8∧b8<((w7.length:Nat):Int) then if Int.toNat b8+1≤w7.length then some (Sum.inl (List.set w7 (Int.toNat b8) (Q4 a2 b6),w64 (b8+1))) else none else none else some (Sum.inr w7)
theorem q6V (rE:Orc) (rF:(qb×List qa×Int×qg)→Option (List Bool×List qa×Int×qg)) (hF:∀y,rE (.fn 104) 6 (zD y).1 (zD y).2=(rF y).bind fun e=>some (Qx e)) (hM:∀g k a G,g≠104→rE (.fn g) k a G=ev g k a G) (hR:∀g asg bd k a G,rE (.rd g asg bd) k a G=evr g asg bd k a G):∀(w7:List Bool) (b0:List qa) (b2 QT ZH ZI JE qch q0P:Int) (q0Q:List qc) (qci:List qb) (b8:Int) (zM:Nat),zM=w7.length→XL2 rE 104 6 5 ⟨[(1,rP 0),(2,rP 1),(3,rP 2),(4,rP 3),(7,rP 6),(9,rO 7 1 zM),(10,R.c (C.fn 133 [] [])),(11,rP 8)],[(0,B.blk 26 [dL 8 qe b0]),(1,B.blk 114 [C.fn 59 [] []]),(2,B.blk 3 [dI b2]),(3,B.blk 28 [dI QT,dI ZH,dI ZI]),(4,B.blk 163 [C.fn 104 [] [dP 0,dP 1,dP 2,dP 3,dP 4,dP 5]]),(5,B.blk 114 [C.fn 60 [] []]),(6,B.blk 36 [dI JE,dI qch,dI q0P,dL 2 qd q0Q,dL 5 qh qci]),(7,bR 4 1 eB w7),(8,B.blk 3 [dI b8])],9,142⟩=(zw (Js rF b0 b2 (qg.mk QT ZH ZI) (qb.mk JE qch q0P q0Q qci)) (w7,b8)).bind (fun(e:List Bool)=>some (Exit.exit 0,⟨[(3,rP 2),(9,rO 6 1 e.length)],[(0,B.blk 26 [dL 8 qe b0]),(1,B.blk 114 [C.fn 59 [] []]),(2,B.blk 3 [dI b2]),(3,B.blk 28 [dI QT,dI ZH,dI ZI]),(4,B.blk 163 [C.fn 104 [] [dP 0,dP 1,dP 2,dP 3,dP 4,dP 5]]),(5,B.blk 114 [C.fn 60 [] []]),(6,bR 4 1 eB e)],7,142⟩)):=
 by
 intro w7 b0 b2 QT ZH ZI JE qch q0P q0Q qci b8 zM h0
 subst h0
 revert b8;revert w7;exact qaL qfW qfA (fun e=>by exact⟨_,rfl,fun h=>by cases h⟩) fun w7 b8=>by
  have hF':∀(qI Jp qZ:Int) (z6:List qc) (Jq:List qb) (v:List qa) (v2 qK z8 za:Int),rE (.fn 104) 6 [R.agg [dI qI,dI Jp,dI qZ,dL 2 qd z6,dL 5 qh Jq],rP 0,rP 1,rP 2,rP 3,rP 4,rP 5] [(0,B.blk 26 [dL 8 qe v]),(1,B.blk 114 [C.fn 59 [] []]),(2,B.blk 3 [dI v2]),(3,B.blk 28 [dI qK,dI z8,dI za]),(4,B.blk 163 [C.fn 104 [] [dP 0,dP 1,dP 2,dP 3,dP 4,dP 5]]),(5,B.blk 114 [C.fn 60 [] []])]=(rF ((qb.mk qI Jp qZ z6 Jq),v,v2,(qg.mk qK z8 za))).bind (fun e=>some (rL 1 eB e.1,[(0,B.blk 26 [dL 8 qe e.2.1]),(1,B.blk 114 [C.fn 59 [] []]),(2,B.blk 3 [dI e.2.2.1]),(3,B.blk 28 [dI e.2.2.2.Worst,dI e.2.2.2.Best,dI e.2.2.2.Pass]),(4,B.blk 163 [C.fn 104 [] [dP 0,dP 1,dP 2,dP 3,dP 4,dP 5]]),(5,B.blk 114 [C.fn 60 [] []])])):=fun qI Jp qZ z6 Jq v v2 qK z8 za=>hF ((qb.mk qI Jp qZ z6 Jq),v,v2,(qg.mk qK z8 za))
  have:=q9U;have:=@qaP.eq_1;have:=@q7v;have:=@q3o;have:=@q1W;have:=@Js.eq_1;exact gA
def Jr (rF:(qb×List qa×Int×qg)→Option (List Bool×List qa×Int×qg)) (b0:List qa) (b2:Int) (b3:qg) (b6:qb):(List Bool×Int)→Option ((List Bool×Int)⊕(List Bool))|(w7,b8)=>if b8<((w7.length:Nat):Int) then Option.bind (q1p b6 b3 b0 b8) fun(a2:qO)=>if 0≤b8∧b8<((w7.length:Nat):Int) then if Int.toNat b8+1≤w7.length then some (Sum.inl (List.set w7 (Int.toNat b8) (Qw a2 b6),w64 (b8+1))) else none else none else some (Sum.inr w7)
theorem q77 (rE:Orc) (rF:(qb×List qa×Int×qg)→Option (List Bool×List qa×Int×qg)) (hF:∀y,rE (.fn 104) 6 (zD y).1 (zD y).2=(rF y).bind fun e=>some (Qx e)) (hM:∀g k a G,g≠104→rE (.fn g) k a G=ev g k a G) (hR:∀g asg bd k a G,rE (.rd g asg bd) k a G=evr g asg bd k a G):∀(w7:List Bool) (b0:List qa) (b2 QT ZH ZI JE qch q0P:Int) (q0Q:List qc) (qci:List qb) (b8:Int) (zM:Nat),zM=w7.length→XL2 rE 104 6 5 ⟨[(1,rP 0),(2,rP 1),(3,rP 2),(4,rP 3),(7,rP 6),(9,rO 7 1 zM),(10,R.c (C.fn 134 [] [])),(11,rP 8)],[(0,B.blk 26 [dL 8 qe b0]),(1,B.blk 114 [C.fn 59 [] []]),(2,B.blk 3 [dI b2]),(3,B.blk 28 [dI QT,dI ZH,dI ZI]),(4,B.blk 163 [C.fn 104 [] [dP 0,dP 1,dP 2,dP 3,dP 4,dP 5]]),(5,B.blk 114 [C.fn 60 [] []]),(6,B.blk 36 [dI JE,dI qch,dI q0P,dL 2 qd q0Q,dL 5 qh qci]),(7,bR 4 1 eB w7),(8,B.blk 3 [dI b8])],9,142⟩=(zw (Jr rF b0 b2 (qg.mk QT ZH ZI) (qb.mk JE qch q0P q0Q qci)) (w7,b8)).bind (fun(e:List Bool)=>some (Exit.exit 0,⟨[(3,rP 2),(9,rO 6 1 e.length)],[(0,B.blk 26 [dL 8 qe b0]),(1,B.blk 114 [C.fn 59 [] []]),(2,B.blk 3 [dI b2]),(3,B.blk 28 [dI QT,dI ZH,dI ZI]),(4,B.blk 163 [C.fn 104 [] [dP 0,dP 1,dP 2,dP 3,dP 4,dP 5]]),(5,B.blk 114 [C.fn 60 [] []]),(6,bR 4 1 eB e)],7,142⟩)):=
 by
 intro w7 b0 b2 QT ZH ZI JE qch q0P q0Q qci b8 zM h0
 subst h0
 revert b8;revert w7;exact qaL qfW qfA (fun e=>by exact⟨_,rfl,fun h=>by cases h⟩) fun w7 b8=>by
  have hF':∀(qI Jp qZ:Int) (z6:List qc) (Jq:List qb) (v:List qa) (v2 qK z8 za:Int),rE (.fn 104) 6 [R.agg [dI qI,dI Jp,dI qZ,dL 2 qd z6,dL 5 qh Jq],rP 0,rP 1,rP 2,rP 3,rP 4,rP 5] [(0,B.blk 26 [dL 8 qe v]),(1,B.blk 114 [C.fn 59 [] []]),(2,B.blk 3 [dI v2]),(3,B.blk 28 [dI qK,dI z8,dI za]),(4,B.blk 163 [C.fn 104 [] [dP 0,dP 1,dP 2,dP 3,dP 4,dP 5]]),(5,B.blk 114 [C.fn 60 [] []])]=(rF ((qb.mk qI Jp qZ z6 Jq),v,v2,(qg.mk qK z8 za))).bind (fun e=>some (rL 1 eB e.1,[(0,B.blk 26 [dL 8 qe e.2.1]),(1,B.blk 114 [C.fn 59 [] []]),(2,B.blk 3 [dI e.2.2.1]),(3,B.blk 28 [dI e.2.2.2.Worst,dI e.2.2.2.Best,dI e.2.2.2.Pass]),(4,B.blk 163 [C.fn 104 [] [dP 0,dP 1,dP 2,dP 3,dP 4,dP 5]]),(5,B.blk 114 [C.fn 60 [] []])])):=fun qI Jp qZ z6 Jq v v2 qK z8 za=>hF ((qb.mk qI Jp qZ z6 Jq),v,v2,(qg.mk qK z8 za))
  have:=q9U;have:=@qaP.eq_1;have:=@q7v;have:=@q3o;have:=@q31;have:=@Jr.eq_1;exact gA
def Zu (rF:(qb×List qa×Int×qg)→Option (List Bool×List qa×Int×qg)) (w7:List Bool) (b0:List qa) (b2:Int) (b3:qg) (b6:qb):(List Int×Int)→Option ((List Int×Int)⊕(List Int))|(w9,t13)=>if t13<((w9.length:Nat):Int) then if 0≤t13∧t13<((w9.length:Nat):Int) then if Int.toNat t13+1≤w9.length then some (Sum.inl (List.set w9 (Int.toNat t13) (-1),w64 (t13+1))) else none else none else some (Sum.inr w9)
theorem q6E (rE:Orc) (rF:(qb×List qa×Int×qg)→Option (List Bool×List qa×Int×qg)) (hF:∀y,rE (.fn 104) 6 (zD y).1 (zD y).2=(rF y).bind fun e=>some (Qx e)) (hM:∀g k a G,g≠104→rE (.fn g) k a G=ev g k a G) (hR:∀g asg bd k a G,rE (.rd g asg bd) k a G=evr g asg bd k a G):∀(w7:List Bool) (w9:List Int) (b0:List qa) (b2 QT ZH ZI JE qch q0P:Int) (q0Q:List qc) (qci:List qb) (t13:Int) (zM JZ:Nat),zM=w7.length→JZ=w9.length→XL2 rE 104 6 14 ⟨[(3,rP 2),(5,rP 4),(6,rP 5),(7,rP 6),(9,rO 7 1 zM),(12,rP 8),(13,rI t13)],[(0,B.blk 26 [dL 8 qe b0]),(1,B.blk 114 [C.fn 59 [] []]),(2,B.blk 3 [dI b2]),(3,B.blk 28 [dI QT,dI ZH,dI ZI]),(4,B.blk 163 [C.fn 104 [] [dP 0,dP 1,dP 2,dP 3,dP 4,dP 5]]),(5,B.blk 114 [C.fn 60 [] []]),(6,B.blk 36 [dI JE,dI qch,dI q0P,dL 2 qd q0Q,dL 5 qh qci]),(7,bR 4 1 eB w7),(8,B.blk 164 [dO 9 1 JZ]),(9,bR 3 1 eI w9)],10,142⟩=(zw (Zu rF w7 b0 b2 (qg.mk QT ZH ZI) (qb.mk JE qch q0P q0Q qci)) (w9,t13)).bind (fun(e:List Int)=>some (Exit.exit 2,⟨[(3,rP 2),(5,rP 4),(6,rP 5),(7,rP 6),(9,rO 7 1 w7.length),(12,rP 8)],[(0,B.blk 26 [dL 8 qe b0]),(1,B.blk 114 [C.fn 59 [] []]),(2,B.blk 3 [dI b2]),(3,B.blk 28 [dI QT,dI ZH,dI ZI]),(4,B.blk 163 [C.fn 104 [] [dP 0,dP 1,dP 2,dP 3,dP 4,dP 5]]),(5,B.blk 114 [C.fn 60 [] []]),(6,B.blk 36 [dI JE,dI qch,dI q0P,dL 2 qd q0Q,dL 5 qh qci]),(7,bR 4 1 eB w7),(8,B.blk 164 [dO 9 1 e.length]),(9,bR 3 1 eI e)],10,142⟩)):=
 by
 intro w7 w9 b0 b2 QT ZH ZI JE qch q0P q0Q qci t13 zM JZ h0 h1
 subst h0 h1
 revert t13;revert w9;exact qaL qkb qk8 (fun e=>by exact⟨_,rfl,fun h=>by cases h⟩) fun w9 t13=>by
  have hF':∀(qI Jp qZ:Int) (z6:List qc) (Jq:List qb) (v:List qa) (v2 qK z8 za:Int),rE (.fn 104) 6 [R.agg [dI qI,dI Jp,dI qZ,dL 2 qd z6,dL 5 qh Jq],rP 0,rP 1,rP 2,rP 3,rP 4,rP 5] [(0,B.blk 26 [dL 8 qe v]),(1,B.blk 114 [C.fn 59 [] []]),(2,B.blk 3 [dI v2]),(3,B.blk 28 [dI qK,dI z8,dI za]),(4,B.blk 163 [C.fn 104 [] [dP 0,dP 1,dP 2,dP 3,dP 4,dP 5]]),(5,B.blk 114 [C.fn 60 [] []])]=(rF ((qb.mk qI Jp qZ z6 Jq),v,v2,(qg.mk qK z8 za))).bind (fun e=>some (rL 1 eB e.1,[(0,B.blk 26 [dL 8 qe e.2.1]),(1,B.blk 114 [C.fn 59 [] []]),(2,B.blk 3 [dI e.2.2.1]),(3,B.blk 28 [dI e.2.2.2.Worst,dI e.2.2.2.Best,dI e.2.2.2.Pass]),(4,B.blk 163 [C.fn 104 [] [dP 0,dP 1,dP 2,dP 3,dP 4,dP 5]]),(5,B.blk 114 [C.fn 60 [] []])])):=fun qI Jp qZ z6 Jq v v2 qK z8 za=>hF ((qb.mk qI Jp qZ z6 Jq),v,v2,(qg.mk qK z8 za))
  have:=q9U;have:=@qcG.eq_1;have:=@Zu.eq_1;exact gA
theorem qPu:okL 60 qpS:=qV (qk qGJ) (by kernel_rfl) (by kernel_rfl)
def qOY:=JA_ @qpS.eq_1 (JA_ @Tryz.f60.eq_1 @qGJ)
def q4Y (x0:Int) (x1:Int):Option Unit:=
 some ()
def q8o (x0:Int) (x1:Int):Unit:=
 ()
theorem qc4 (x0 x1:Int):q4Y x0 x1=some (q8o x0 x1):=by
 unfold q4Y q8o
 simp only[Zs]
theorem qd6:∀(x0 x1:Int),ev 60 0 [rI x0,rI x1] []=some (rB Bool.false,[]):=
 fun x0 x1=>by
  have h:ev 60 0 [rI x0,rI x1] []=(q4Y x0 x1).bind (fun(e:Unit)=>some (rB Bool.false,[])):=by
   rw[qU qGJ qLw.2.2.2 qPu]
   have:=qOY;have:=@q4Y.eq_1;exact gA
  rw[qc4] at h
  exact h
theorem qEy:okL 106 qfC:=qV (qk qtj) (by kernel_rfl) (by kernel_rfl)
def qB4:=JA_ @qfC.eq_1 (JA_ @Tryz.f106.eq_1 @qtj)
theorem qyE:lbO 106 1=qiR:=Qz (qk qtj) rfl
theorem qvC:okL 106 qiR:=zS qEy (qQ6 (i:=0) (by kernel_rfl))
theorem qGa:okL 107 qjs:=qV (qk qwN) (by kernel_rfl) (by kernel_rfl)
def qHR:=JA_ @qjs.eq_1 (JA_ @Tryz.f107.eq_1 @qwN)
def q1v (sub:Int) (rest:Int) (w4:List Int) (w5:List Int) (v:List Bool) (v2:Int):Option (List Int):=if 0≤sub∧sub<((v.length:Nat):Int) then Option.bind v[Int.toNat sub]? fun(a:Bool)=>if a=Bool.true then if 0≤rest∧rest<((w4.length:Nat):Int) then Option.bind w4[Int.toNat rest]? fun(a2:Int)=>if 0≤a2 then if 0≤v2∧v2<((w5.length:Nat):Int) then Option.bind w5[Int.toNat v2]? fun(a3:Int)=>if 0≤rest∧rest<((w4.length:Nat):Int) then Option.bind w4[Int.toNat rest]? fun(a4:Int)=>if 0≤v2∧v2<((w5.length:Nat):Int) then if Int.toNat v2+1≤w5.length then some (List.set w5 (Int.toNat v2) (max a3 (w64 (a4+1)))) else none else none else none else none else some w5 else none else some w5 else none
theorem qam:∀(sub rest:Int) (w4 w5:List Int) (v:List Bool) (v2:Int) (Zo q7M:Nat),Zo=w4.length→q7M=w5.length→ev 107 4 [rI sub,rI rest,rP 0,rP 1,rP 2,rP 3] [(0,B.blk 115 [dL 1 eB v]),(1,B.blk 164 [dO 4 1 Zo]),(2,B.blk 164 [dO 5 1 q7M]),(3,B.blk 3 [dI v2]),(4,bR 3 1 eI w4),(5,bR 3 1 eI w5)]=(q1v sub rest w4 w5 v v2).bind (fun(e:List Int)=>some (R.tup [],[(0,B.blk 115 [dL 1 eB v]),(1,B.blk 164 [dO 4 1 w4.length]),(2,B.blk 164 [dO 5 1 e.length]),(3,B.blk 3 [dI v2]),(4,bR 3 1 eI w4),(5,bR 3 1 eI e)])):=
 by
 intro sub rest w4 w5 v v2 Zo q7M h0 h1
 subst h0 h1
 rw[qU qwN qEz.2.2.2 qGa]
 have:=qHR;have:=@q1v.eq_1;exact gA
def Qp (w4:List Int) (b0:List Bool) (b3:Int) (set0:Int):(List Int×Int)→Option ((List Int×Int)⊕(List Int))|(w5,sub)=>if 0<sub then Option.bind (q1v sub (ZT Go.BinOp.andNot IntKind.i64 set0 sub) w4 w5 b0 b3) fun(a:List Int)=>some (Sum.inl (a,ZT Go.BinOp.and IntKind.i64 (w64 (sub-1)) set0)) else some (Sum.inr w5)
theorem q4H:∀(w4 w5:List Int) (b0:List Bool) (b3 set0 sub:Int) (Zo q7M:Nat),Zo=w4.length→q7M=w5.length→XL2 evo 106 4 1 ⟨[(1,rI set0),(2,R.c (C.fn 107 [] [dP 0,dP 1,dP 2,dP 3])),(6,rI sub)],[(0,B.blk 115 [dL 1 eB b0]),(1,B.blk 164 [dO 4 1 Zo]),(2,B.blk 164 [dO 5 1 q7M]),(3,B.blk 3 [dI b3]),(4,bR 3 1 eI w4),(5,bR 3 1 eI w5)],6,20⟩=(zw (Qp w4 b0 b3 set0) (w5,sub)).bind (fun(e:List Int)=>some (Exit.exit 0,⟨[],[(0,B.blk 115 [dL 1 eB b0]),(1,B.blk 164 [dO 4 1 w4.length]),(2,B.blk 164 [dO 5 1 e.length]),(3,B.blk 3 [dI b3]),(4,bR 3 1 eI w4),(5,bR 3 1 eI e)],6,20⟩)):=
 by
 intro w4 w5 b0 b3 set0 sub Zo q7M h0 h1
 subst h0 h1
 revert sub;revert w5;exact qaL qyE qvC (fun e=>by exact⟨_,rfl,fun h=>by cases h⟩) fun w5 sub=>by
  have:=qB4;have:=@qiR.eq_1;have:=@qam;have:=@Qp.eq_1;exact gA
def Qh (set0:Int) (t:List Int) (w5:List Int) (b0:List Bool) (b3:Int):Option (List Int):=Option.bind (zw (Qp t b0 b3 set0) (w5,set0)) fun(a:List Int)=>some a
theorem q2G:∀(set0:Int) (t w5:List Int) (b0:List Bool) (b3:Int) (qtE q7M:Nat),qtE=t.length→q7M=w5.length→ev 106 4 [rO 4 1 qtE,rI set0,R.c (C.fn 107 [] [dP 0,dP 1,dP 2,dP 3])] [(0,B.blk 115 [dL 1 eB b0]),(1,B.blk 164 [dO 4 1 qtE]),(2,B.blk 164 [dO 5 1 q7M]),(3,B.blk 3 [dI b3]),(4,bR 3 1 eI t),(5,bR 3 1 eI w5)]=(Qh set0 t w5 b0 b3).bind (fun(e:List Int)=>some (R.tup [],[(0,B.blk 115 [dL 1 eB b0]),(1,B.blk 164 [dO 4 1 t.length]),(2,B.blk 164 [dO 5 1 e.length]),(3,B.blk 3 [dI b3]),(4,bR 3 1 eI t),(5,bR 3 1 eI e)])):=
 by
 intro set0 t w5 b0 b3 qtE q7M h0 h1
 subst h0 h1
 rw[qU qtj qEw.2.2.2 qEy]
 have:=qB4;have:=@q4H;have:=@Qh.eq_1;exact gA
def Zy (rF:(qb×List qa×Int×qg)→Option (List Bool×List qa×Int×qg)) (w7:List Bool) (w9:List Int) (b0:List qa) (b2:Int) (b3:qg) (b6:qb) (b10:List Bool) (t18:Bool) (t72:List qb) (t73:Int) (t74:Int) (t96:Int):(List Int×Int)→Option ((List Int×Int)⊕(List Int))|(w12,t97)=>if t97<t96 then if 0≤t97∧t97<((w12.length:Nat):Int) then if Int.toNat t97+1≤w12.length then if t18=Bool.true then if 0≤t97∧t97<((w9.length:Nat):Int) then Option.bind w9[Int.toNat t97]? fun(a2:Int)=>if 0≤t97∧t97<((w12.length:Nat):Int) then if Int.toNat t97+1≤w12.length then Option.bind (Qh t97 w9 (List.set (List.set w12 (Int.toNat t97) (-1)) (Int.toNat t97) a2) b10 t97) fun(a3:List Int)=>some (Sum.inl (a3,w64 (t97+1))) else none else none else none else Option.bind (Qh t97 w9 (List.set w12 (Int.toNat t97) (-1)) b10 t97) fun(a4:List Int)=>some (Sum.inl (a4,w64 (t97+1))) else none else none else some (Sum.inr w12)
theorem q8i (rE:Orc) (rF:(qb×List qa×Int×qg)→Option (List Bool×List qa×Int×qg)) (hF:∀y,rE (.fn 104) 6 (zD y).1 (zD y).2=(rF y).bind fun e=>some (Qx e)) (hM:∀g k a G,g≠104→rE (.fn g) k a G=ev g k a G) (hR:∀g asg bd k a G,rE (.rd g asg bd) k a G=evr g asg bd k a G):∀(w7:List Bool) (w9 w12:List Int) (b0:List qa) (b2 QT ZH ZI JE qch q0P:Int) (q0Q:List qc) (qci:List qb) (b10:List Bool) (t18:Bool) (t72:List qb) (t73 t74 t96 t97:Int) (zM JZ qjL:Nat),zM=w7.length→JZ=w9.length→qjL=w12.length→XL2 rE 104 6 25 ⟨[(3,rP 2),(5,rP 4),(6,rP 5),(7,rP 6),(9,rO 7 1 zM),(12,rP 8),(17,rP 10),(18,rB t18),(19,rP 11),(72,rL 5 qh t72),(73,rI t73),(74,rI t74),(96,rI t96),(97,rI t97)],[(0,B.blk 26 [dL 8 qe b0]),(1,B.blk 114 [C.fn 59 [] []]),(2,B.blk 3 [dI b2]),(3,B.blk 28 [dI QT,dI ZH,dI ZI]),(4,B.blk 163 [C.fn 104 [] [dP 0,dP 1,dP 2,dP 3,dP 4,dP 5]]),(5,B.blk 114 [C.fn 60 [] []]),(6,B.blk 36 [dI JE,dI qch,dI q0P,dL 2 qd q0Q,dL 5 qh qci]),(7,bR 4 1 eB w7),(8,B.blk 164 [dO 9 1 JZ]),(9,bR 3 1 eI w9),(10,B.blk 115 [dL 1 eB b10]),(11,B.blk 164 [dO 12 1 qjL]),(12,bR 3 1 eI w12)],13,142⟩=(zw (Zy rF w7 w9 b0 b2 (qg.mk QT ZH ZI) (qb.mk JE qch q0P q0Q qci) b10 t18 t72 t73 t74 t96) (w12,t97)).bind (fun(e:List Int)=>some (Exit.exit 6,⟨[(3,rP 2),(5,rP 4),(6,rP 5),(7,rP 6),(9,rO 7 1 w7.length),(12,rP 8),(19,rP 10),(72,rL 5 qh t72),(73,rI t73),(74,rI t74)],[(0,B.blk 26 [dL 8 qe b0]),(1,B.blk 114 [C.fn 59 [] []]),(2,B.blk 3 [dI b2]),(3,B.blk 28 [dI QT,dI ZH,dI ZI]),(4,B.blk 163 [C.fn 104 [] [dP 0,dP 1,dP 2,dP 3,dP 4,dP 5]]),(5,B.blk 114 [C.fn 60 [] []]),(6,B.blk 36 [dI JE,dI qch,dI q0P,dL 2 qd q0Q,dL 5 qh qci]),(7,bR 4 1 eB w7),(8,B.blk 164 [dO 9 1 w9.length]),(9,bR 3 1 eI w9),(10,B.blk 164 [dO 11 1 e.length]),(11,bR 3 1 eI e)],12,142⟩)):=
 by
 intro w7 w9 w12 b0 b2 QT ZH ZI JE qch q0P q0Q qci b10 t18 t72 t73 t74 t96 t97 zM JZ qjL h0 h1 h2
 subst h0 h1 h2
 revert t97;revert w12;exact qaL qkm qlq (fun e=>by exact⟨_,rfl,fun h=>by cases h⟩) fun w12 t97=>by
  have hF':∀(qI Jp qZ:Int) (z6:List qc) (Jq:List qb) (v:List qa) (v2 qK z8 za:Int),rE (.fn 104) 6 [R.agg [dI qI,dI Jp,dI qZ,dL 2 qd z6,dL 5 qh Jq],rP 0,rP 1,rP 2,rP 3,rP 4,rP 5] [(0,B.blk 26 [dL 8 qe v]),(1,B.blk 114 [C.fn 59 [] []]),(2,B.blk 3 [dI v2]),(3,B.blk 28 [dI qK,dI z8,dI za]),(4,B.blk 163 [C.fn 104 [] [dP 0,dP 1,dP 2,dP 3,dP 4,dP 5]]),(5,B.blk 114 [C.fn 60 [] []])]=(rF ((qb.mk qI Jp qZ z6 Jq),v,v2,(qg.mk qK z8 za))).bind (fun e=>some (rL 1 eB e.1,[(0,B.blk 26 [dL 8 qe e.2.1]),(1,B.blk 114 [C.fn 59 [] []]),(2,B.blk 3 [dI e.2.2.1]),(3,B.blk 28 [dI e.2.2.2.Worst,dI e.2.2.2.Best,dI e.2.2.2.Pass]),(4,B.blk 163 [C.fn 104 [] [dP 0,dP 1,dP 2,dP 3,dP 4,dP 5]]),(5,B.blk 114 [C.fn 60 [] []])])):=fun qI Jp qZ z6 Jq v v2 qK z8 za=>hF ((qb.mk qI Jp qZ z6 Jq),v,v2,(qg.mk qK z8 za))
  have:=q9U;have:=@qcC.eq_1;have:=@q2G;have:=@Zy.eq_1;exact gA
def Zz (rF:(qb×List qa×Int×qg)→Option (List Bool×List qa×Int×qg)) (w7:List Bool) (b6:qb) (t72:List qb) (t73:Int):(List Int×List qa×Int×qg×Int)→Option ((List Int×List qa×Int×qg×Int)⊕(List Int×List qa×Int×qg))|(w9,b0,b2,b3,t74)=>if t74<t73 then if 0≤t74∧t74<((t72.length:Nat):Int) then Option.bind t72[Int.toNat t74]? fun(a2:qb)=>Option.bind (rF (a2,(b0,(b2,b3)))) fun(a3:Prod (List Bool) (Prod (List qa) (Prod Int qg)))=>if(b6.Kind==4)=Bool.true then if 0≤((w9.length:Nat):Int)∧8*((w9.length:Nat):Int)≤281474976710656∧((w9.length:Nat):Int)≤9223372036854775807 then Option.bind (zw (Zy rF w7 w9 a3.2.1 a3.2.2.1 a3.2.2.2 b6 a3.1 Bool.true t72 t73 t74 ((w9.length:Nat):Int)) (List.replicate w9.length 0,0)) fun(a4:List Int)=>some (Sum.inl (a4,a3.2.1,a3.2.2.1,a3.2.2.2,w64 (t74+1))) else none else if 0≤((w9.length:Nat):Int)∧8*((w9.length:Nat):Int)≤281474976710656∧((w9.length:Nat):Int)≤9223372036854775807 then Option.bind (zw (Zy rF w7 w9 a3.2.1 a3.2.2.1 a3.2.2.2 b6 a3.1 Bool.false t72 t73 t74 ((w9.length:Nat):Int)) (List.replicate w9.length 0,0)) fun(a5:List Int)=>some (Sum.inl (a5,a3.2.1,a3.2.2.1,a3.2.2.2,w64 (t74+1))) else none else none else some (Sum.inr (w9,b0,b2,b3))
theorem q8h (rE:Orc) (rF:(qb×List qa×Int×qg)→Option (List Bool×List qa×Int×qg)) (hF:∀y,rE (.fn 104) 6 (zD y).1 (zD y).2=(rF y).bind fun e=>some (Qx e)) (hM:∀g k a G,g≠104→rE (.fn g) k a G=ev g k a G) (hR:∀g asg bd k a G,rE (.rd g asg bd) k a G=evr g asg bd k a G):∀(w7:List Bool) (w9:List Int) (b0:List qa) (b2 QT ZH ZI JE qch q0P:Int) (q0Q:List qc) (qci t72:List qb) (t73 t74:Int) (zM JZ:Nat),zM=w7.length→JZ=w9.length→XL2 rE 104 6 18 ⟨[(3,rP 2),(5,rP 4),(6,rP 5),(7,rP 6),(9,rO 7 1 zM),(12,rP 8),(72,rL 5 qh t72),(73,rI t73),(74,rI t74)],[(0,B.blk 26 [dL 8 qe b0]),(1,B.blk 114 [C.fn 59 [] []]),(2,B.blk 3 [dI b2]),(3,B.blk 28 [dI QT,dI ZH,dI ZI]),(4,B.blk 163 [C.fn 104 [] [dP 0,dP 1,dP 2,dP 3,dP 4,dP 5]]),(5,B.blk 114 [C.fn 60 [] []]),(6,B.blk 36 [dI JE,dI qch,dI q0P,dL 2 qd q0Q,dL 5 qh qci]),(7,bR 4 1 eB w7),(8,B.blk 164 [dO 9 1 JZ]),(9,bR 3 1 eI w9)],10,142⟩=(zw (Zz rF w7 (qb.mk JE qch q0P q0Q qci) t72 t73) (w9,b0,b2,(qg.mk QT ZH ZI),t74)).bind (fun(e:List Int×List qa×Int×qg)=>some (Exit.exit 4,⟨[(7,rP 6),(9,rO 7 1 w7.length),(12,rP 8)],[(0,B.blk 26 [dL 8 qe e.2.1]),(1,B.blk 114 [C.fn 59 [] []]),(2,B.blk 3 [dI e.2.2.1]),(3,B.blk 28 [dI e.2.2.2.Worst,dI e.2.2.2.Best,dI e.2.2.2.Pass]),(4,B.blk 163 [C.fn 104 [] [dP 0,dP 1,dP 2,dP 3,dP 4,dP 5]]),(5,B.blk 114 [C.fn 60 [] []]),(6,B.blk 36 [dI JE,dI qch,dI q0P,dL 2 qd q0Q,dL 5 qh qci]),(7,bR 4 1 eB w7),(8,B.blk 164 [dO 9 1 e.1.length]),(9,bR 3 1 eI e.1)],10,142⟩)):=
 by
 intro w7 w9 b0 b2 QT ZH ZI JE qch q0P q0Q qci t72 t73 t74 zM JZ h0 h1
 subst h0 h1
 have h:=q5e (E:=rE) (f:=104) (k:=6) (st:=fun x:List Int×List qa×Int×qg×Int=>(⟨[(3,rP 2),(5,rP 4),(6,rP 5),(7,rP 6),(9,rO 7 1 w7.length),(12,rP 8),(72,rL 5 qh t72),(73,rI t73),(74,rI x.2.2.2.2)],[(0,B.blk 26 [dL 8 qe x.2.1]),(1,B.blk 114 [C.fn 59 [] []]),(2,B.blk 3 [dI x.2.2.1]),(3,B.blk 28 [dI x.2.2.2.1.Worst,dI x.2.2.2.1.Best,dI x.2.2.2.1.Pass]),(4,B.blk 163 [C.fn 104 [] [dP 0,dP 1,dP 2,dP 3,dP 4,dP 5]]),(5,B.blk 114 [C.fn 60 [] []]),(6,B.blk 36 [dI JE,dI qch,dI q0P,dL 2 qd q0Q,dL 5 qh qci]),(7,bR 4 1 eB w7),(8,B.blk 164 [dO 9 1 x.1.length]),(9,bR 3 1 eI x.1)],10,142⟩:S)) (ex:=fun(e:List Int×List qa×Int×qg)=>(Exit.exit 4,⟨[(7,rP 6),(9,rO 7 1 w7.length),(12,rP 8)],[(0,B.blk 26 [dL 8 qe e.2.1]),(1,B.blk 114 [C.fn 59 [] []]),(2,B.blk 3 [dI e.2.2.1]),(3,B.blk 28 [dI e.2.2.2.Worst,dI e.2.2.2.Best,dI e.2.2.2.Pass]),(4,B.blk 163 [C.fn 104 [] [dP 0,dP 1,dP 2,dP 3,dP 4,dP 5]]),(5,B.blk 114 [C.fn 60 [] []]),(6,B.blk 36 [dI JE,dI qch,dI q0P,dL 2 qd q0Q,dL 5 qh qci]),(7,bR 4 1 eB w7),(8,B.blk 164 [dO 9 1 e.1.length]),(9,bR 3 1 eI e.1)],10,142⟩)) (step:=(Zz rF w7 (qb.mk JE qch q0P q0Q qci) t72 t73)) qli qkB (fun e h=>by cases h) (fun x=>by
  obtain⟨w9,b0,b2,b3,t74⟩:=x;have hF':∀(qI Jp qZ:Int) (z6:List qc) (Jq:List qb) (v:List qa) (v2 qK z8 za:Int),rE (.fn 104) 6 [R.agg [dI qI,dI Jp,dI qZ,dL 2 qd z6,dL 5 qh Jq],rP 0,rP 1,rP 2,rP 3,rP 4,rP 5] [(0,B.blk 26 [dL 8 qe v]),(1,B.blk 114 [C.fn 59 [] []]),(2,B.blk 3 [dI v2]),(3,B.blk 28 [dI qK,dI z8,dI za]),(4,B.blk 163 [C.fn 104 [] [dP 0,dP 1,dP 2,dP 3,dP 4,dP 5]]),(5,B.blk 114 [C.fn 60 [] []])]=(rF ((qb.mk qI Jp qZ z6 Jq),v,v2,(qg.mk qK z8 za))).bind (fun e=>some (rL 1 eB e.1,[(0,B.blk 26 [dL 8 qe e.2.1]),(1,B.blk 114 [C.fn 59 [] []]),(2,B.blk 3 [dI e.2.2.1]),(3,B.blk 28 [dI e.2.2.2.Worst,dI e.2.2.2.Best,dI e.2.2.2.Pass]),(4,B.blk 163 [C.fn 104 [] [dP 0,dP 1,dP 2,dP 3,dP 4,dP 5]]),(5,B.blk 114 [C.fn 60 [] []])])):=fun qI Jp qZ z6 Jq v v2 qK z8 za=>hF ((qb.mk qI Jp qZ z6 Jq),v,v2,(qg.mk qK z8 za))
  have:=q9U;have:=@qcH.eq_1;have:=@qd6;have:=q8i rE rF hF hM hR;have:=@Zz.eq_1;exact gA) (w9,b0,b2,(qg.mk QT ZH ZI),t74)
 exact h
def Zx (rF:(qb×List qa×Int×qg)→Option (List Bool×List qa×Int×qg)) (w8:List Int) (b0:List qa) (b2:Int) (b3:qg) (t21:Int):(List Bool×Int)→Option ((List Bool×Int)⊕(List Bool))|(w6,t22)=>if t22<((w6.length:Nat):Int) then if 0≤t22∧t22<((w8.length:Nat):Int) then Option.bind w8[Int.toNat t22]? fun(a2:Int)=>if 0≤t22∧t22<((w6.length:Nat):Int) then if Int.toNat t22+1≤w6.length then some (Sum.inl (List.set w6 (Int.toNat t22) (decide (t21≤a2)),w64 (t22+1))) else none else none else none else some (Sum.inr w6)
theorem q8n (rE:Orc) (rF:(qb×List qa×Int×qg)→Option (List Bool×List qa×Int×qg)) (hF:∀y,rE (.fn 104) 6 (zD y).1 (zD y).2=(rF y).bind fun e=>some (Qx e)) (hM:∀g k a G,g≠104→rE (.fn g) k a G=ev g k a G) (hR:∀g asg bd k a G,rE (.rd g asg bd) k a G=evr g asg bd k a G):∀(w6:List Bool) (w8:List Int) (b0:List qa) (b2 QT ZH ZI t21 t22:Int) (qdY qe0:Nat),qdY=w6.length→qe0=w8.length→XL2 rE 104 6 38 ⟨[(9,rO 6 1 qdY),(12,rP 7),(21,rI t21),(22,rI t22)],[(0,B.blk 26 [dL 8 qe b0]),(1,B.blk 114 [C.fn 59 [] []]),(2,B.blk 3 [dI b2]),(3,B.blk 28 [dI QT,dI ZH,dI ZI]),(4,B.blk 163 [C.fn 104 [] [dP 0,dP 1,dP 2,dP 3,dP 4,dP 5]]),(5,B.blk 114 [C.fn 60 [] []]),(6,bR 4 1 eB w6),(7,B.blk 164 [dO 8 1 qe0]),(8,bR 3 1 eI w8)],9,142⟩=(zw (Zx rF w8 b0 b2 (qg.mk QT ZH ZI) t21) (w6,t22)).bind (fun(e:List Bool)=>some (Exit.exit 8,⟨[(9,rO 6 1 e.length)],[(0,B.blk 26 [dL 8 qe b0]),(1,B.blk 114 [C.fn 59 [] []]),(2,B.blk 3 [dI b2]),(3,B.blk 28 [dI QT,dI ZH,dI ZI]),(4,B.blk 163 [C.fn 104 [] [dP 0,dP 1,dP 2,dP 3,dP 4,dP 5]]),(5,B.blk 114 [C.fn 60 [] []]),(6,bR 4 1 eB e)],7,142⟩)):=
 by
 intro w6 w8 b0 b2 QT ZH ZI t21 t22 qdY qe0 h0 h1
 subst h0 h1
 revert t22;revert w6;exact qaL qjX ql5 (fun e=>by exact⟨_,rfl,fun h=>by cases h⟩) fun w6 t22=>by
  have hF':∀(qI Jp qZ:Int) (z6:List qc) (Jq:List qb) (v:List qa) (v2 qK z8 za:Int),rE (.fn 104) 6 [R.agg [dI qI,dI Jp,dI qZ,dL 2 qd z6,dL 5 qh Jq],rP 0,rP 1,rP 2,rP 3,rP 4,rP 5] [(0,B.blk 26 [dL 8 qe v]),(1,B.blk 114 [C.fn 59 [] []]),(2,B.blk 3 [dI v2]),(3,B.blk 28 [dI qK,dI z8,dI za]),(4,B.blk 163 [C.fn 104 [] [dP 0,dP 1,dP 2,dP 3,dP 4,dP 5]]),(5,B.blk 114 [C.fn 60 [] []])]=(rF ((qb.mk qI Jp qZ z6 Jq),v,v2,(qg.mk qK z8 za))).bind (fun e=>some (rL 1 eB e.1,[(0,B.blk 26 [dL 8 qe e.2.1]),(1,B.blk 114 [C.fn 59 [] []]),(2,B.blk 3 [dI e.2.2.1]),(3,B.blk 28 [dI e.2.2.2.Worst,dI e.2.2.2.Best,dI e.2.2.2.Pass]),(4,B.blk 163 [C.fn 104 [] [dP 0,dP 1,dP 2,dP 3,dP 4,dP 5]]),(5,B.blk 114 [C.fn 60 [] []])])):=fun qI Jp qZ z6 Jq v v2 qK z8 za=>hF ((qb.mk qI Jp qZ z6 Jq),v,v2,(qg.mk qK z8 za))
  have:=q9U;have:=@qcw.eq_1;have:=@Zx.eq_1;exact gA
def q17 (rF:(qb×List qa×Int×qg)→Option (List Bool×List qa×Int×qg)):(qb×List qa×Int×qg)→Option (List Bool×List qa×Int×qg)|(x0,v,v2,v3)=>if 0≤((v.length:Nat):Int) then if 0≤w64 (1*2 ^ min v.length (IntKind.bits IntKind.i64))∧1*w64 (1*2 ^ min v.length (IntKind.bits IntKind.i64))≤281474976710656∧w64 (1*2 ^ min v.length (IntKind.bits IntKind.i64))≤9223372036854775807 then if q0a x0=Bool.true then Option.bind (q1l x0.Kind) fun(a2:Sum Unit Unit)=>Sum.elim (fun(a3:Unit)=>Option.bind (zw (Js rF v v2 v3 x0) (List.replicate (Int.toNat (w64 (1*2 ^ min v.length (IntKind.bits IntKind.i64)))) Bool.false,1)) fun(a5:List Bool)=>some (a5,v,w64 (v2+1),v3)) (fun(a4:Unit)=>Option.bind (zw (Jr rF v v2 v3 x0) (List.replicate (Int.toNat (w64 (1*2 ^ min v.length (IntKind.bits IntKind.i64)))) Bool.false,1)) fun(a6:List Bool)=>some (a6,v,w64 (v2+1),v3)) a2 else if 0≤((Int.toNat (w64 (1*2 ^ min v.length (IntKind.bits IntKind.i64))):Nat):Int)∧8*((Int.toNat (w64 (1*2 ^ min v.length (IntKind.bits IntKind.i64))):Nat):Int)≤281474976710656∧((Int.toNat (w64 (1*2 ^ min v.length (IntKind.bits IntKind.i64))):Nat):Int)≤9223372036854775807 then Option.bind (zw (Zu rF (List.replicate (Int.toNat (w64 (1*2 ^ min v.length (IntKind.bits IntKind.i64)))) Bool.false) v v2 v3 x0) (List.replicate (Int.toNat (w64 (1*2 ^ min v.length (IntKind.bits IntKind.i64)))) 0,1)) fun(a7:List Int)=>Option.bind (zw (Zz rF (List.replicate (Int.toNat (w64 (1*2 ^ min v.length (IntKind.bits IntKind.i64)))) Bool.false) x0 x0.L ((x0.L.length:Nat):Int)) (a7,(v,(v2,(v3,0))))) fun(a8:Prod (List Int) (Prod (List qa) (Prod Int qg)))=>if(x0.Kind==3)=Bool.true then Option.bind (zw (Zx rF a8.1 a8.2.1 a8.2.2.1 a8.2.2.2 ((x0.L.length:Nat):Int)) (List.replicate (Int.toNat (w64 (1*2 ^ min v.length (IntKind.bits IntKind.i64)))) Bool.false,1)) fun(a9:List Bool)=>some (a9,a8.2.1,a8.2.2.1,a8.2.2.2) else Option.bind (zw (Zx rF a8.1 a8.2.1 a8.2.2.1 a8.2.2.2 x0.N) (List.replicate (Int.toNat (w64 (1*2 ^ min v.length (IntKind.bits IntKind.i64)))) Bool.false,1)) fun(a10:List Bool)=>some (a10,a8.2.1,a8.2.2.1,a8.2.2.2) else none else none else none
theorem q6r:q8v 104 6 zD Qx q17:=by
 intro rE rF hF hM hR x
 obtain⟨x0,v,v2,v3⟩:=x
 show qb9 rE 104 6 [R.agg [dI x0.Kind,dI x0.N,dI x0.Min,dL 2 qd x0.Set,dL 5 qh x0.L],rP 0,rP 1,rP 2,rP 3,rP 4,rP 5] [(0,B.blk 26 [dL 8 qe v]),(1,B.blk 114 [C.fn 59 [] []]),(2,B.blk 3 [dI v2]),(3,B.blk 28 [dI v3.Worst,dI v3.Best,dI v3.Pass]),(4,B.blk 163 [C.fn 104 [] [dP 0,dP 1,dP 2,dP 3,dP 4,dP 5]]),(5,B.blk 114 [C.fn 60 [] []])]=_
 have hF':∀(qI Jp qZ:Int) (z6:List qc) (Jq:List qb) (v:List qa) (v2 qK z8 za:Int),rE (.fn 104) 6 [R.agg [dI qI,dI Jp,dI qZ,dL 2 qd z6,dL 5 qh Jq],rP 0,rP 1,rP 2,rP 3,rP 4,rP 5] [(0,B.blk 26 [dL 8 qe v]),(1,B.blk 114 [C.fn 59 [] []]),(2,B.blk 3 [dI v2]),(3,B.blk 28 [dI qK,dI z8,dI za]),(4,B.blk 163 [C.fn 104 [] [dP 0,dP 1,dP 2,dP 3,dP 4,dP 5]]),(5,B.blk 114 [C.fn 60 [] []])]=(rF ((qb.mk qI Jp qZ z6 Jq),v,v2,(qg.mk qK z8 za))).bind (fun e=>some (rL 1 eB e.1,[(0,B.blk 26 [dL 8 qe e.2.1]),(1,B.blk 114 [C.fn 59 [] []]),(2,B.blk 3 [dI e.2.2.1]),(3,B.blk 28 [dI e.2.2.2.Worst,dI e.2.2.2.Best,dI e.2.2.2.Pass]),(4,B.blk 163 [C.fn 104 [] [dP 0,dP 1,dP 2,dP 3,dP 4,dP 5]]),(5,B.blk 114 [C.fn 60 [] []])])):=fun qI Jp qZ z6 Jq v v2 qK z8 za=>hF ((qb.mk qI Jp qZ z6 Jq),v,v2,(qg.mk qK z8 za))
 rw[q4T qfq qiV]
 have:=q9U;have:=@q3Y;have:=@q58;have:=q6V rE rF hF hM hR;have:=q77 rE rF hF hM hR;have:=q6E rE rF hF hM hR;have:=q8h rE rF hF hM hR;have:=q8n rE rF hF hM hR;have:=@q17.eq_1;have:=@Qx.eq_1;exact gA
theorem q3S:∀x y,zD x=zD y→x=y:=by
 rintro⟨⟨qF9,qFa,qFb,qFc,qFd⟩,a1,a2,⟨qPy,qPz,qPA⟩⟩ ⟨⟨qFe,qFf,qFg,qFh,qFi⟩,b1,b2,⟨qPB,qPC,qPD⟩⟩ h
 simp only[zD,Prod.mk.injEq,List.cons.injEq,R.c.injEq,R.agg.injEq,R.tup.injEq,C.d.injEq,C.own.injEq,C.ptr.injEq,C.eptr.injEq,D.int.injEq,D.bool.injEq,D.str.injEq,D.sl.injEq,B.blk.injEq,B.row.injEq,q11,q2R,q1S,q1X,q2m,q2l,q4B,q4m,q4s,q16,true_and,and_true,qQp] at h
 simp only[h]
theorem q8O:∀x y,Qx x=Qx y→x=y:=by
 rintro⟨a0,a1,a2,⟨qPy,qPz,qPA⟩⟩ ⟨b0,b1,b2,⟨qPB,qPC,qPD⟩⟩ h
 simp only[Qx,Prod.mk.injEq,List.cons.injEq,R.c.injEq,R.agg.injEq,R.tup.injEq,C.d.injEq,C.own.injEq,C.ptr.injEq,C.eptr.injEq,D.int.injEq,D.bool.injEq,D.str.injEq,D.sl.injEq,B.blk.injEq,B.row.injEq,q11,q2R,q1S,q1X,q2m,q2l,q4B,q4m,q4s,q16,true_and,and_true,qQp] at h
 simp only[h]
def Qn:(qb×List qa×Int×qg)→Option (List Bool×List qa×Int×qg):=q8L 104 6 zD Qx
theorem qbZ (x:(qb×List qa×Int×qg)):Qn x=q17 Qn x:=qdr qpi.2.2.2 q3S q8O q6r x
theorem qaY (x0:qb) (v:List qa) (v2:Int) (v3:qg):ev 104 6 [R.agg [dI x0.Kind,dI x0.N,dI x0.Min,dL 2 qd x0.Set,dL 5 qh x0.L],rP 0,rP 1,rP 2,rP 3,rP 4,rP 5] [(0,B.blk 26 [dL 8 qe v]),(1,B.blk 114 [C.fn 59 [] []]),(2,B.blk 3 [dI v2]),(3,B.blk 28 [dI v3.Worst,dI v3.Best,dI v3.Pass]),(4,B.blk 163 [C.fn 104 [] [dP 0,dP 1,dP 2,dP 3,dP 4,dP 5]]),(5,B.blk 114 [C.fn 60 [] []])]=(Qn (x0,v,v2,v3)).bind (fun(e:List Bool×List qa×Int×qg)=>some (rL 1 eB e.1,[(0,B.blk 26 [dL 8 qe e.2.1]),(1,B.blk 114 [C.fn 59 [] []]),(2,B.blk 3 [dI e.2.2.1]),(3,B.blk 28 [dI e.2.2.2.Worst,dI e.2.2.2.Best,dI e.2.2.2.Pass]),(4,B.blk 163 [C.fn 104 [] [dP 0,dP 1,dP 2,dP 3,dP 4,dP 5]]),(5,B.blk 114 [C.fn 60 [] []])])):=(q9y qpi.2.2.2 q3S q6r (x0,v,v2,v3))
theorem qbU:∀(qI Jp qZ:Int) (z6:List qc) (Jq:List qb) (v:List qa) (v2 qK z8 za:Int),ev 104 6 [R.agg [dI qI,dI Jp,dI qZ,dL 2 qd z6,dL 5 qh Jq],rP 0,rP 1,rP 2,rP 3,rP 4,rP 5] [(0,B.blk 26 [dL 8 qe v]),(1,B.blk 114 [C.fn 59 [] []]),(2,B.blk 3 [dI v2]),(3,B.blk 28 [dI qK,dI z8,dI za]),(4,B.blk 163 [C.fn 104 [] [dP 0,dP 1,dP 2,dP 3,dP 4,dP 5]]),(5,B.blk 114 [C.fn 60 [] []])]=(Qn ((qb.mk qI Jp qZ z6 Jq),v,v2,(qg.mk qK z8 za))).bind (fun(e:List Bool×List qa×Int×qg)=>some (rL 1 eB e.1,[(0,B.blk 26 [dL 8 qe e.2.1]),(1,B.blk 114 [C.fn 59 [] []]),(2,B.blk 3 [dI e.2.2.1]),(3,B.blk 28 [dI e.2.2.2.Worst,dI e.2.2.2.Best,dI e.2.2.2.Pass]),(4,B.blk 163 [C.fn 104 [] [dP 0,dP 1,dP 2,dP 3,dP 4,dP 5]]),(5,B.blk 114 [C.fn 60 [] []])])):=
 fun qI Jp qZ z6 Jq v v2 qK z8 za=>qaY (qb.mk qI Jp qZ z6 Jq) v v2 (qg.mk qK z8 za)
def q67 (n:qb) (s:qg) (l:List qa):Option (List Bool):=Option.bind (Qn (n,(l,(0,s)))) fun(a:Prod (List Bool) (Prod (List qa) (Prod Int qg)))=>some a.1
theorem qeh:∀(qB n_N qP:Int) (qQ:List qc) (n_L:List qb) (zo Q1 Q2:Int) (l:List qa),ev 61 0 [R.agg [dI qB,dI n_N,dI qP,dL 2 qd qQ,dL 5 qh n_L],R.agg [dI zo,dI Q1,dI Q2],rL 8 qe l,R.c (C.fn 59 [] []),R.c (C.fn 60 [] [])] []=(q67 (qb.mk qB n_N qP qQ n_L) (qg.mk zo Q1 Q2) l).bind (fun(e:List Bool)=>some (rL 1 eB e,[])):=
 fun qB n_N qP qQ n_L zo Q1 Q2 l=>by
  rw[qU qFv qJE.2.2.2 qKm]
  have:=qK8;have:=@qbU;have:=@q67.eq_1;exact gA
def q35 (n:qb) (s:qg) (l:List qa):Option (List Bool×Int):=Option.bind (JQ n) fun(a:Int)=>if(a != 0)=Bool.true then some ([],a) else if 10<((l.length:Nat):Int) then some ([],2) else Option.bind (q67 n s l) fun(a2:List Bool)=>some (a2,0)
theorem q9S:∀(qB n_N qP:Int) (qQ:List qc) (n_L:List qb) (zo Q1 Q2:Int) (l:List qa),ev 35 0 [R.agg [dI qB,dI n_N,dI qP,dL 2 qd qQ,dL 5 qh n_L],R.agg [dI zo,dI Q1,dI Q2],rL 8 qe l] []=(q35 (qb.mk qB n_N qP qQ n_L) (qg.mk zo Q1 Q2) l).bind (fun(e:List Bool×Int)=>some (R.tup [rL 1 eB e.1,rI e.2],[])):=
 fun qB n_N qP qQ n_L zo Q1 Q2 l=>by
  rw[qU qGI qLv.2.2.2 qOs]
  have:=qOy;have:=@q4w;have:=@qeh;have:=@q35.eq_1;exact gA
theorem qO2:okL 36 qmZ:=qV (qk qGT) (by kernel_rfl) (by kernel_rfl)
def qLZ:=JA_ @qmZ.eq_1 (JA_ @Tryz.f36.eq_1 @qGT)
def q3f (n:Int):Option Unit:=
 some ()
def q6q (n:Int):Unit:=
 ()
theorem qaA (n:Int):q3f n=some (q6q n):=by
 unfold q3f q6q
 simp only[Zs]
theorem qbx:∀(n:Int),ev 36 0 [rI n] []=some (R.c (C.fn 62 [] [dP 0]),[(0,B.blk 3 [dI n])]):=
 fun n=>by
  have h:ev 36 0 [rI n] []=(q3f n).bind (fun(e:Unit)=>some (R.c (C.fn 62 [] [dP 0]),[(0,B.blk 3 [dI n])])):=by
   rw[qU qGT qK4.2.2.2 qO2]
   have:=qLZ;have:=@q3f.eq_1;exact gA
  rw[qaA] at h
  exact h
theorem qJ9:okL 62 qh1:=qV (qk qDP) (by kernel_rfl) (by kernel_rfl)
def qIN:=JA_ @qh1.eq_1 (JA_ @Tryz.f62.eq_1 @qDP)
theorem qAN:lbO 62 2=qp6:=Qz (qk qDP) rfl
theorem qCM:okL 62 qp6:=zS qJ9 (qQ6 (i:=0) (by kernel_rfl))
theorem qF8:lbO 62 8=qnh:=Qz (qk qDP) rfl
theorem qB5:okL 62 qnh:=zS qJ9 (qQ6 (i:=1) (by kernel_rfl))
def Z2 (b1:qf) (b2:qg) (b3:Int) (b5:Int) (b6:List Int) (b7:List qa) (b8:List Bool) (b9:Int) (t8:Int):(List Int×Int)→Option ((List Int×Int)⊕(List Int))|(all,t9)=>if t9<t8 then if all.length+1≤maxLen∧(all.length+1)*8≤140737488355328 then some (Sum.inl (all++[t9],w64 (t9+1))) else none else some (Sum.inr all)
theorem q6Q:∀(all:List Int) (zY q1z zE Z4:Int) (Z5:ByteArray) (qY zZ zj:Int) (zl:List qc) (Q0:List qb) (Qq Jn Jo:Int) (zF:List (q05 qc)) (ZB JO JP b3 b5:Int) (b6:List Int) (b7:List qa) (b8:List Bool) (b9 t8 t9:Int) (qjM:Nat),qjM=all.length→XL2 evo 62 10 2 ⟨[(0,R.c (C.hd .yield 0)),(3,rO 10 1 qjM),(8,rI t8),(9,rI t9)],[(0,B.ob (AO.lp 15 (R.any::R.any::R.any::R.any::rP 1::rP 2::R.any::rP 3::rP 4::rP 5::R.any::rP 6::R.any::R.any::rP 7::rP 8::qlP) [67] (raO 15 19) (rbO 15 19) LoopState.ready none)),(1,B.blk 39 [dI zY,dI q1z,dI zE,dI Z4,dS Z5,dI qY,dI zZ,dI zj,dL 2 qd zl,dL 5 qh Q0,dI Qq,dI Jn,dI Jo,dL 4 (eA2 qd) zF]),(2,B.blk 28 [dI ZB,dI JO,dI JP]),(3,B.blk 3 [dI b3]),(4,B.blk 48 [C.nils,C.nils]),(5,B.blk 49 [dI b5]),(6,B.blk 22 [dL 1 eI b6]),(7,B.blk 26 [dL 8 qe b7]),(8,B.blk 88 [dL 1 eB b8]),(9,B.blk 3 [dI b9]),(10,bR 3 1 eI all)],11,30⟩=(zw (Z2 (qf.mk zY q1z zE Z4 Z5 (qb.mk qY zZ zj zl Q0) Qq Jn Jo zF) (qg.mk ZB JO JP) b3 b5 b6 b7 b8 b9 t8) (all,t9)).bind (fun(e:List Int)=>some (Exit.exit 0,⟨[(0,R.c (C.hd .yield 0)),(3,rO 10 1 e.length)],[(0,B.ob (AO.lp 15 (R.any::R.any::R.any::R.any::rP 1::rP 2::R.any::rP 3::rP 4::rP 5::R.any::rP 6::R.any::R.any::rP 7::rP 8::qlP) [67] (raO 15 19) (rbO 15 19) LoopState.ready none)),(1,B.blk 39 [dI zY,dI q1z,dI zE,dI Z4,dS Z5,dI qY,dI zZ,dI zj,dL 2 qd zl,dL 5 qh Q0,dI Qq,dI Jn,dI Jo,dL 4 (eA2 qd) zF]),(2,B.blk 28 [dI ZB,dI JO,dI JP]),(3,B.blk 3 [dI b3]),(4,B.blk 48 [C.nils,C.nils]),(5,B.blk 49 [dI b5]),(6,B.blk 22 [dL 1 eI b6]),(7,B.blk 26 [dL 8 qe b7]),(8,B.blk 88 [dL 1 eB b8]),(9,B.blk 3 [dI b9]),(10,bR 3 1 eI e)],11,30⟩)):=
 by
 intro all zY q1z zE Z4 Z5 qY zZ zj zl Q0 Qq Jn Jo zF ZB JO JP b3 b5 b6 b7 b8 b9 t8 t9 qjM h0
 subst h0
 revert t9;revert all;exact qaL qAN qCM (fun e=>by exact⟨_,rfl,fun h=>by cases h⟩) fun all t9=>by
  have:=qIN;have:=@qp6.eq_1;have:=@Z2.eq_1;exact gA
theorem q53:∀  (zY q1z zE Z4:Int) (Z5:ByteArray) (qY zZ zj:Int) (zl:List qc) (Q0:List qb) (Qq Jn Jo:Int) (zF:List (q05 qc)) (ZB JO JP b3 b5:Int) (b6:List Int) (b7:List qa) (b8:List Bool) (b9 t8 t9:Int),XL2 evo 62 10 2 ⟨[(0,R.c (C.hd .yield 0)),(3,rO 10 1 0),(8,rI t8),(9,rI t9)],[(0,B.ob (AO.lp 15 (R.any::R.any::R.any::R.any::rP 1::rP 2::R.any::rP 3::rP 4::rP 5::R.any::rP 6::R.any::R.any::rP 7::rP 8::qlP) [67] (raO 15 19) (rbO 15 19) LoopState.ready none)),(1,B.blk 39 [dI zY,dI q1z,dI zE,dI Z4,dS Z5,dI qY,dI zZ,dI zj,dL 2 qd zl,dL 5 qh Q0,dI Qq,dI Jn,dI Jo,dL 4 (eA2 qd) zF]),(2,B.blk 28 [dI ZB,dI JO,dI JP]),(3,B.blk 3 [dI b3]),(4,B.blk 48 [C.nils,C.nils]),(5,B.blk 49 [dI b5]),(6,B.blk 22 [dL 1 eI b6]),(7,B.blk 26 [dL 8 qe b7]),(8,B.blk 88 [dL 1 eB b8]),(9,B.blk 3 [dI b9]),(10,B.row 3 1 [])],11,30⟩=(zw (Z2 (qf.mk zY q1z zE Z4 Z5 (qb.mk qY zZ zj zl Q0) Qq Jn Jo zF) (qg.mk ZB JO JP) b3 b5 b6 b7 b8 b9 t8) ([],t9)).bind (fun(e:List Int)=>some (Exit.exit 0,⟨[(0,R.c (C.hd .yield 0)),(3,rO 10 1 e.length)],[(0,B.ob (AO.lp 15 (R.any::R.any::R.any::R.any::rP 1::rP 2::R.any::rP 3::rP 4::rP 5::R.any::rP 6::R.any::R.any::rP 7::rP 8::qlP) [67] (raO 15 19) (rbO 15 19) LoopState.ready none)),(1,B.blk 39 [dI zY,dI q1z,dI zE,dI Z4,dS Z5,dI qY,dI zZ,dI zj,dL 2 qd zl,dL 5 qh Q0,dI Qq,dI Jn,dI Jo,dL 4 (eA2 qd) zF]),(2,B.blk 28 [dI ZB,dI JO,dI JP]),(3,B.blk 3 [dI b3]),(4,B.blk 48 [C.nils,C.nils]),(5,B.blk 49 [dI b5]),(6,B.blk 22 [dL 1 eI b6]),(7,B.blk 26 [dL 8 qe b7]),(8,B.blk 88 [dL 1 eB b8]),(9,B.blk 3 [dI b9]),(10,bR 3 1 eI e)],11,30⟩)):=by
 intro zY q1z zE Z4 Z5 qY zZ zj zl Q0 Qq Jn Jo zF ZB JO JP b3 b5 b6 b7 b8 b9 t8 t9;have h:=q6Q [] ((qf.mk zY q1z zE Z4 Z5 (qb.mk qY zZ zj zl Q0) Qq Jn Jo zF)).School ((qf.mk zY q1z zE Z4 Z5 (qb.mk qY zZ zj zl Q0) Qq Jn Jo zF)).Id ((qf.mk zY q1z zE Z4 Z5 (qb.mk qY zZ zj zl Q0) Qq Jn Jo zF)).Version ((qf.mk zY q1z zE Z4 Z5 (qb.mk qY zZ zj zl Q0) Qq Jn Jo zF)).From ((qf.mk zY q1z zE Z4 Z5 (qb.mk qY zZ zj zl Q0) Qq Jn Jo zF)).Name ((qf.mk zY q1z zE Z4 Z5 (qb.mk qY zZ zj zl Q0) Qq Jn Jo zF)).Need.Kind ((qf.mk zY q1z zE Z4 Z5 (qb.mk qY zZ zj zl Q0) Qq Jn Jo zF)).Need.N ((qf.mk zY q1z zE Z4 Z5 (qb.mk qY zZ zj zl Q0) Qq Jn Jo zF)).Need.Min ((qf.mk zY q1z zE Z4 Z5 (qb.mk qY zZ zj zl Q0) Qq Jn Jo zF)).Need.Set ((qf.mk zY q1z zE Z4 Z5 (qb.mk qY zZ zj zl Q0) Qq Jn Jo zF)).Need.L ((qf.mk zY q1z zE Z4 Z5 (qb.mk qY zZ zj zl Q0) Qq Jn Jo zF)).Total ((qf.mk zY q1z zE Z4 Z5 (qb.mk qY zZ zj zl Q0) Qq Jn Jo zF)).Own ((qf.mk zY q1z zE Z4 Z5 (qb.mk qY zZ zj zl Q0) Qq Jn Jo zF)).Age ((qf.mk zY q1z zE Z4 Z5 (qb.mk qY zZ zj zl Q0) Qq Jn Jo zF)).Exclude ((qg.mk ZB JO JP)).Worst ((qg.mk ZB JO JP)).Best ((qg.mk ZB JO JP)).Pass b3 b5 b6 b7 b8 b9 t8 t9 _ rfl
 first
  | exact h
  | (simp only[rL,dL,bR,bZ,Nat.reduceAdd] at h;exact h)
theorem qNs:okL 64 qnl:=qV (qk qJ4) (by kernel_rfl) (by kernel_rfl)
def qNx:=JA_ @qnl.eq_1 (JA_ @Tryz.f64.eq_1 @qJ4)
theorem qOm:okL 67 qo0:=qV (qk qHX) (by kernel_rfl) (by kernel_rfl)
def qNU:=JA_ @qo0.eq_1 (JA_ @Tryz.f67.eq_1 @qHX)
theorem qIk:okL 112 qhN:=qV (qk quU) (by kernel_rfl) (by kernel_rfl)
def qJt:=JA_ @qhN.eq_1 (JA_ @Tryz.f112.eq_1 @quU)
def JJ (x:Int):Option Int:=
 some (let y1:=ZT Go.BinOp.and IntKind.u64 (Int.fdiv x (2 ^ min 1 (IntKind.bits IntKind.u64))) 6148914691236517205+ZT Go.BinOp.and IntKind.u64 x 6148914691236517205;let y2:=Int.fdiv (IntKind.wrap IntKind.u64 y1) (2 ^ min 2 (IntKind.bits IntKind.u64));let y3:=ZT Go.BinOp.and IntKind.u64 y2 3689348814741910323+ZT Go.BinOp.and IntKind.u64 (IntKind.wrap IntKind.u64 y1) 3689348814741910323;let y4:=Int.fdiv (IntKind.wrap IntKind.u64 y3) (2 ^ min 4 (IntKind.bits IntKind.u64))+IntKind.wrap IntKind.u64 y3;let y5:=ZT Go.BinOp.and IntKind.u64 (IntKind.wrap IntKind.u64 y4) 1085102592571150095;let y6:=ZT Go.BinOp.and IntKind.u64 (IntKind.wrap IntKind.u64 y4) 1085102592571150095+Int.fdiv y5 (2 ^ min 8 (IntKind.bits IntKind.u64));let y7:=IntKind.wrap IntKind.u64 y6+Int.fdiv (IntKind.wrap IntKind.u64 y6) (2 ^ min 16 (IntKind.bits IntKind.u64));ZT Go.BinOp.and IntKind.i64 (w64 (IntKind.wrap IntKind.u64 (IntKind.wrap IntKind.u64 y7+Int.fdiv (IntKind.wrap IntKind.u64 y7) (2 ^ min 32 (IntKind.bits IntKind.u64))))) 127)
def Zj (x:Int):Int:=
 let y1:=ZT Go.BinOp.and IntKind.u64 (Int.fdiv x (2 ^ min 1 (IntKind.bits IntKind.u64))) 6148914691236517205+ZT Go.BinOp.and IntKind.u64 x 6148914691236517205;let y2:=Int.fdiv (IntKind.wrap IntKind.u64 y1) (2 ^ min 2 (IntKind.bits IntKind.u64));let y3:=ZT Go.BinOp.and IntKind.u64 y2 3689348814741910323+ZT Go.BinOp.and IntKind.u64 (IntKind.wrap IntKind.u64 y1) 3689348814741910323;let y4:=Int.fdiv (IntKind.wrap IntKind.u64 y3) (2 ^ min 4 (IntKind.bits IntKind.u64))+IntKind.wrap IntKind.u64 y3;let y5:=ZT Go.BinOp.and IntKind.u64 (IntKind.wrap IntKind.u64 y4) 1085102592571150095;let y6:=ZT Go.BinOp.and IntKind.u64 (IntKind.wrap IntKind.u64 y4) 1085102592571150095+Int.fdiv y5 (2 ^ min 8 (IntKind.bits IntKind.u64));let y7:=IntKind.wrap IntKind.u64 y6+Int.fdiv (IntKind.wrap IntKind.u64 y6) (2 ^ min 16 (IntKind.bits IntKind.u64));ZT Go.BinOp.and IntKind.i64 (w64 (IntKind.wrap IntKind.u64 (IntKind.wrap IntKind.u64 y7+Int.fdiv (IntKind.wrap IntKind.u64 y7) (2 ^ min 32 (IntKind.bits IntKind.u64))))) 127
theorem q4o (x:Int):JJ x=some (Zj x):=by
 unfold JJ Zj
 simp only[Zs]
theorem q4I:∀(x:Int),ev 112 0 [R.c (C.d (D.int .u64 x))] []=some (rI (Zj x),[]):=
 fun x=>by
  have h:ev 112 0 [R.c (C.d (D.int .u64 x))] []=(JJ x).bind (fun(e:Int)=>some (rI e,[])):=by
   rw[qU quU qD8.2.2.2 qIk]
   have:=qJt;have:=@JJ.eq_1;exact gA
  rw[q4o] at h
  exact h
def q08 (x:Int):Option Int:=
 some (Zj x)
def QG (x:Int):Int:=
 Zj x
theorem q5a (x:Int):q08 x=some (QG x):=by
 unfold q08 QG
 simp only[Zs]
theorem q5J:∀(x:Int),ev 67 0 [R.c (C.d (D.int .u64 x))] []=some (rI (QG x),[]):=
 fun x=>by
  have h:ev 67 0 [R.c (C.d (D.int .u64 x))] []=(q08 x).bind (fun(e:Int)=>some (rI e,[])):=by
   rw[qU qHX qJU.2.2.2 qOm]
   have:=qNU;have:=@q4I;have:=@q08.eq_1;exact gA
  rw[q5a] at h
  exact h
theorem qKf:okL 37 qkI:=qV (qk qFC) (by kernel_rfl) (by kernel_rfl)
def qLq:=JA_ @qkI.eq_1 (JA_ @Tryz.f37.eq_1 @qFC)
theorem qAm:lbO 37 2=qnx:=Qz (qk qFC) rfl
theorem qBD:okL 37 qnx:=zS qKf (qQ6 (i:=0) (by kernel_rfl))
def QI (mask:Int):(List Int×Int)→Option ((List Int×Int)⊕(List Int))|(l,k)=>if 0≤k then if 0<Int.fdiv mask (2 ^ min (Int.toNat k) (IntKind.bits IntKind.i64)) then if 0≤k then if(ZT Go.BinOp.and IntKind.i64 (Int.fdiv mask (2 ^ min (Int.toNat k) (IntKind.bits IntKind.i64))) 1==1)=Bool.true then if l.length+1≤maxLen∧(l.length+1)*8≤140737488355328 then some (Sum.inl (l++[k],w64 (k+1))) else none else some (Sum.inl (l,w64 (k+1))) else none else some (Sum.inr l) else none
theorem q6A:∀(l:List Int) (mask k:Int) (qjN:Nat),qjN=l.length→XL2 evo 37 0 2 ⟨[(0,rI mask),(2,rO 0 1 qjN),(3,rI k)],[(0,bR 3 1 eI l)],1,20⟩=(zw (QI mask) (l,k)).bind (fun(e:List Int)=>some (Exit.exit 0,⟨[(2,rO 0 1 e.length)],[(0,bR 3 1 eI e)],1,20⟩)):=
 by
 intro l mask k qjN h0
 subst h0
 revert k;revert l;exact qaL qAm qBD (fun e=>by exact⟨_,rfl,fun h=>by cases h⟩) fun l k=>by
  have:=qLq;have:=@qnx.eq_1;have:=@QI.eq_1;exact gA
theorem q52:∀  (mask k:Int),XL2 evo 37 0 2 ⟨[(0,rI mask),(2,rO 0 1 0),(3,rI k)],[(0,B.row 3 1 [])],1,20⟩=(zw (QI mask) ([],k)).bind (fun(e:List Int)=>some (Exit.exit 0,⟨[(2,rO 0 1 e.length)],[(0,bR 3 1 eI e)],1,20⟩)):=by
 intro mask k;have h:=q6A [] mask k _ rfl
 first
  | exact h
  | (simp only[rL,dL,bR,bZ,Nat.reduceAdd] at h;exact h)
def ZU (mask:Int):Option (List Int):=Option.bind (zw (QI mask) ([],0)) fun(a:List Int)=>some a
theorem q2k:∀(mask:Int),ev 37 0 [rI mask] []=(ZU mask).bind (fun(e:List Int)=>some (rL 1 eI e,[])):=
 fun mask=>by
  rw[qU qFC qKt.2.2.2 qKf]
  have:=qLq;have:=@q52;have:=@ZU.eq_1;exact gA
theorem qKZ:okL 68 qkK:=qV (qk qFO) (by kernel_rfl) (by kernel_rfl)
def qLt:=JA_ @qkK.eq_1 (JA_ @Tryz.f68.eq_1 @qFO)
theorem qBd:lbO 68 2=qod:=Qz (qk qFO) rfl
theorem qCx:okL 68 qod:=zS qKZ (qQ6 (i:=0) (by kernel_rfl))
def zW (s1:List Int) (s2:List Int) (t9:List Int) (t10:Int):Int→Option (Int⊕(Int⊕Unit))|t11=>if t11<t10 then if 0≤t11∧t11<((t9.length:Nat):Int) then Option.bind t9[Int.toNat t11]? fun(a:Int)=>if((s2.length:Nat):Int)≤t11 then some (Sum.inr (Sum.inl 1)) else if 0≤t11∧t11<((s2.length:Nat):Int) then Option.bind s2[Int.toNat t11]? fun(a2:Int)=>if(Qb a a2 != 0)=Bool.true then some (Sum.inr (Sum.inl (Qb a a2))) else some (Sum.inl (w64 (t11+1))) else none else none else some (Sum.inr (Sum.inr ()))
theorem q3v:∀(s1 s2 t9:List Int) (t10 t11:Int),XL2 evo 68 0 2 ⟨[(0,rL 1 eI s1),(1,rL 1 eI s2),(9,rL 1 eI t9),(10,rI t10),(11,rI t11)],[],0,36⟩=(zw (zW s1 s2 t9 t10) t11).bind (Sum.elim (fun(e:Int)=>some (Exit.ret,⟨[(0,rL 1 eI s1),(1,rL 1 eI s2),(4,rI e)],[],0,36⟩)) (fun(e:Unit)=>some (Exit.exit 0,⟨[(0,rL 1 eI s1),(1,rL 1 eI s2),(4,R.any)],[],0,36⟩))):=
 fun s1 s2 t9 t10 t11=>by
  revert t11;exact qbL qBd qCx (fun e=>by rcases e with _|_<;>exact⟨_,rfl,fun h=>by cases h⟩) fun x=>by
   have:=qLt;have:=@qod.eq_1;have:=@q1U;have:=@zW.eq_1;exact gA
def QV (s1:List Int) (s2:List Int):Option Int:=Option.bind (zw (zW s1 s2 s1 ((s1.length:Nat):Int)) 0) fun(a:Sum Int Unit)=>Sum.elim (fun(a2:Int)=>some a2) (fun(a3:Unit)=>if((s1.length:Nat):Int)<((s2.length:Nat):Int) then some (-1) else some 0) a
theorem q1o:∀(s1 s2:List Int),ev 68 0 [rL 1 eI s1,rL 1 eI s2] []=(QV s1 s2).bind (fun(e:Int)=>some (rI e,[])):=
 fun s1 s2=>by
  rw[qU qFO qKJ.2.2.2 qKZ]
  have:=qLt;have:=@q3v;have:=@QV.eq_1;exact gA
def QA (a:Int) (b:Int):Option Int:=Option.bind (ZU a) fun(a2:List Int)=>Option.bind (ZU b) fun(a3:List Int)=>Option.bind (QV a2 a3) fun(a4:Int)=>Option.bind (q1t [Qb (QG (IntKind.wrap IntKind.u64 a)) (QG (IntKind.wrap IntKind.u64 b)),a4]) fun(e0:Int)=>some e0
theorem q7d:∀(a b:Int),ev 64 0 [rI a,rI b] []=(QA a b).bind (fun(e:Int)=>some (rI e,[])):=
 fun a b=>by
  rw[qU qJ4 qKE.2.2.2 qNs]
  have:=qNx;have:=@q5J;have:=@q1U;have:=@q2k;have:=@q1o;have:=@q4N;have:=@QA.eq_1;exact gA
theorem qJA:okL 38 qgO:=qV (qk qzn) (by kernel_rfl) (by kernel_rfl)
def qI2:=JA_ @qgO.eq_1 (JA_ @Tryz.f38.eq_1 @qzn)
theorem qDS:lbO 38 3=qqe:=Qz (qk qzn) rfl
theorem qE1:okL 38 qqe:=zS qJA (qQ6 (i:=0) (by kernel_rfl))
theorem qzo:lbO 38 8=qpv:=Qz (qk qzn) rfl
theorem qzS:okL 38 qpv:=zS qJA (qQ6 (i:=1) (by kernel_rfl))
theorem qOf:okL 69 qmO:=qV (qk qJ0) (by kernel_rfl) (by kernel_rfl)
def qMI:=JA_ @qmO.eq_1 (JA_ @Tryz.f69.eq_1 @qJ0)
theorem qKk:okL 91 qkl:=qV (qk qFJ) (by kernel_rfl) (by kernel_rfl)
def qKB:=JA_ @qkl.eq_1 (JA_ @Tryz.f91.eq_1 @qFJ)
theorem qCU:lbO 91 4=qn2:=Qz (qk qFJ) rfl
theorem qAV:okL 91 qn2:=zS qKk (qQ6 (i:=0) (by kernel_rfl))
def Qs (s1:List Int) (s2:List Int) (t12:Int):Int→Option (Int⊕(Unit⊕Unit))|t13=>if t13<t12 then if 0≤t13∧t13<((s1.length:Nat):Int) then Option.bind s1[Int.toNat t13]? fun(a:Int)=>if 0≤t13∧t13<((s2.length:Nat):Int) then Option.bind s2[Int.toNat t13]? fun(a2:Int)=>if(a != a2)=Bool.true then some (Sum.inr (Sum.inl ())) else some (Sum.inl (w64 (t13+1))) else none else none else some (Sum.inr (Sum.inr ()))
theorem q46:∀(s1 s2:List Int) (t12 t13:Int),XL2 evo 91 0 4 ⟨[(0,rL 1 eI s1),(1,rL 1 eI s2),(12,rI t12),(13,rI t13)],[],0,26⟩=(zw (Qs s1 s2 t12) t13).bind (Sum.elim (fun(e:Unit)=>some (Exit.ret,⟨[(4,rB Bool.false)],[],0,26⟩)) (fun(e:Unit)=>some (Exit.exit 0,⟨[(4,R.any)],[],0,26⟩))):=
 fun s1 s2 t12 t13=>by
  revert t13;exact qbL qCU qAV (fun e=>by rcases e with _|_<;>exact⟨_,rfl,fun h=>by cases h⟩) fun x=>by
   have:=qKB;have:=@qn2.eq_1;have:=@Qs.eq_1;exact gA
def Zh (s1:List Int) (s2:List Int):Option Bool:=if(((s1.length:Nat):Int) != ((s2.length:Nat):Int))=Bool.true then some Bool.false else Option.bind (zw (Qs s1 s2 ((s1.length:Nat):Int)) 0) fun(a:Sum Unit Unit)=>Sum.elim (fun(a2:Unit)=>some Bool.false) (fun(a3:Unit)=>some Bool.true) a
theorem q24:∀(s1 s2:List Int),ev 91 0 [rL 1 eI s1,rL 1 eI s2] []=(Zh s1 s2).bind (fun(e:Bool)=>some (rB e,[])):=
 fun s1 s2=>by
  rw[qU qFJ qJS.2.2.2 qKk]
  have:=qKB;have:=@q46;have:=@Zh.eq_1;exact gA
theorem qHJ:okL 113 qik:=qV (qk qwV) (by kernel_rfl) (by kernel_rfl)
def qIU:=JA_ @qik.eq_1 (JA_ @Tryz.f113.eq_1 @qwV)
theorem qHe:okL 83 qpX:=qV (qk qAr) (by kernel_rfl) (by kernel_rfl)
def qHA:=JA_ @qpX.eq_1 (JA_ @Tryz.f83.eq_1 @qAr)
theorem qrz:okL 131 qfS:=qV (qk qmm) (by kernel_rfl) (by kernel_rfl)
def qmc:=JA_ @qfS.eq_1 (JA_ @Tryz.f131.eq_1 @qmm)
theorem qj6:lbO 131 2=qdN:=Qz (qk qmm) rfl
theorem qjI:okL 131 qdN:=zS qrz (qQ6 (i:=0) (by kernel_rfl))
theorem qJw:okL 156 qjG:=qV (qk qyd) (by kernel_rfl) (by kernel_rfl)
def qJk:=JA_ @qjG.eq_1 (JA_ @Tryz.f156.eq_1 @qyd)
theorem qGR:okL 157 qhQ:=qV (qk qvl) (by kernel_rfl) (by kernel_rfl)
def qGt:=JA_ @qhQ.eq_1 (JA_ @Tryz.f157.eq_1 @qvl)
theorem qAu:okL 177 qfM:=qV (qk qry) (by kernel_rfl) (by kernel_rfl)
def qBj:=JA_ @qfM.eq_1 (JA_ @Tryz.f177.eq_1 @qry)
theorem qyH:lbO 177 2=qiC:=Qz (qk qry) rfl
theorem qxU:okL 177 qiC:=zS qAu (qQ6 (i:=0) (by kernel_rfl))
def QL (s:List Int) (v:Int) (t7:Int):Int→Option (Int⊕(Int⊕Unit))|t8=>if t8<t7 then if 0≤t8∧t8<((s.length:Nat):Int) then Option.bind s[Int.toNat t8]? fun(a:Int)=>if(v==a)=Bool.true then some (Sum.inr (Sum.inl t8)) else some (Sum.inl (w64 (t8+1))) else none else some (Sum.inr (Sum.inr ()))
theorem q40:∀(s:List Int) (v t7 t8:Int),XL2 evo 177 0 2 ⟨[(0,rL 1 eI s),(1,rI v),(7,rI t7),(8,rI t8)],[],0,19⟩=(zw (QL s v t7) t8).bind (Sum.elim (fun(e:Int)=>some (Exit.ret,⟨[(4,rI e)],[],0,19⟩)) (fun(e:Unit)=>some (Exit.exit 0,⟨[(4,R.any)],[],0,19⟩))):=
 fun s v t7 t8=>by
  revert t8;exact qbL qyH qxU (fun e=>by rcases e with _|_<;>exact⟨_,rfl,fun h=>by cases h⟩) fun x=>by
   have:=qBj;have:=@qiC.eq_1;have:=@QL.eq_1;exact gA
def q00 (s:List Int) (v:Int):Option Int:=Option.bind (zw (QL s v ((s.length:Nat):Int)) 0) fun(a:Sum Int Unit)=>Sum.elim (fun(a2:Int)=>some a2) (fun(a3:Unit)=>some (-1)) a
theorem q5d:∀(s:List Int) (v:Int),ev 177 0 [rL 1 eI s,rI v] []=(q00 s v).bind (fun(e:Int)=>some (rI e,[])):=
 fun s v=>by
  rw[qU qry qF3.2.2.2 qAu]
  have:=qBj;have:=@q40;have:=@q00.eq_1;exact gA
def Zk (s:List Int) (v:Int):Option Bool:=Option.bind (q00 s v) fun(a:Int)=>some (decide (0≤a))
theorem q43:∀(s:List Int) (v:Int),ev 157 0 [rL 1 eI s,rI v] []=(Zk s v).bind (fun(e:Bool)=>some (rB e,[])):=
 fun s v=>by
  rw[qU qvl qCD.2.2.2 qGR]
  have:=qGt;have:=@q5d;have:=@Zk.eq_1;exact gA
def q19 (x:Int) (v:List Int):Option Bool:=Option.bind (Zk v x) fun(a:Bool)=>some a
theorem q7B:∀(x:Int) (v:List Int),ev 156 1 [rI x,rP 0] [(0,B.blk 22 [dL 1 eI v])]=(q19 x v).bind (fun(e:Bool)=>some (rB e,[(0,B.blk 22 [dL 1 eI v])])):=
 fun x v=>by
  rw[qU qyd qDr.2.2.2 qJw]
  have:=qJk;have:=@q43;have:=@q19.eq_1;exact gA
def Qm (b0:List Int) (s:List Int) (t7:Int):Int→Option (Int⊕(Int⊕Unit))|t8=>if t8<t7 then if 0≤t8∧t8<((s.length:Nat):Int) then Option.bind s[Int.toNat t8]? fun(a:Int)=>Option.bind (q19 a b0) fun(a2:Bool)=>if a2=Bool.true then some (Sum.inr (Sum.inl t8)) else some (Sum.inl (w64 (t8+1))) else none else some (Sum.inr (Sum.inr ()))
theorem q2P:∀(b0 s:List Int) (t7 t8:Int),XL2 evo 131 1 2 ⟨[(0,rL 1 eI s),(1,R.c (C.fn 156 [] [dP 0])),(7,rI t7),(8,rI t8)],[(0,B.blk 22 [dL 1 eI b0])],1,19⟩=(zw (Qm b0 s t7) t8).bind (Sum.elim (fun(e:Int)=>some (Exit.ret,⟨[(4,rI e)],[(0,B.blk 22 [dL 1 eI b0])],1,19⟩)) (fun(e:Unit)=>some (Exit.exit 0,⟨[(4,R.any)],[(0,B.blk 22 [dL 1 eI b0])],1,19⟩))):=
 fun b0 s t7 t8=>by
  revert t8;exact qbL qj6 qjI (fun e=>by rcases e with _|_<;>exact⟨_,rfl,fun h=>by cases h⟩) fun x=>by
   have:=qmc;have:=@qdN.eq_1;have:=@q7B;have:=@Qm.eq_1;exact gA
def ZV (s:List Int) (b0:List Int):Option Int:=Option.bind (zw (Qm b0 s ((s.length:Nat):Int)) 0) fun(a:Sum Int Unit)=>Sum.elim (fun(a2:Int)=>some a2) (fun(a3:Unit)=>some (-1)) a
theorem q3N:∀(s b0:List Int),ev 131 1 [rL 1 eI s,R.c (C.fn 156 [] [dP 0])] [(0,B.blk 22 [dL 1 eI b0])]=(ZV s b0).bind (fun(e:Int)=>some (rI e,[(0,B.blk 22 [dL 1 eI b0])])):=
 fun s b0=>by
  rw[qU qmm qtu.2.2.2 qrz]
  have:=qmc;have:=@q2P;have:=@ZV.eq_1;exact gA
def Zq (s:List Int) (b0:List Int):Option Bool:=Option.bind (ZV s b0) fun(a:Int)=>some (decide (0≤a))
theorem q2O:∀(s b0:List Int),ev 83 1 [rL 1 eI s,R.c (C.fn 156 [] [dP 0])] [(0,B.blk 22 [dL 1 eI b0])]=(Zq s b0).bind (fun(e:Bool)=>some (rB e,[(0,B.blk 22 [dL 1 eI b0])])):=
 fun s b0=>by
  rw[qU qAr qFI.2.2.2 qHe]
  have:=qHA;have:=@q3N;have:=@Zq.eq_1;exact gA
def JV (a:List Int) (b:List Int):Option Bool:=Option.bind (Zq a b) fun(a2:Bool)=>some a2
theorem q9z:∀(a b:List Int),ev 113 0 [rL 1 eI a,rL 1 eI b] []=(JV a b).bind (fun(e:Bool)=>some (rB e,[])):=
 fun a b=>by
  rw[qU qwV qCd.2.2.2 qHJ]
  have:=qIU;have:=@q2O;have:=@JV.eq_1;exact gA
def q3B (a:qa) (b:qa):Option Bool:=if(a.Course.School==b.Course.School)=Bool.true∧(ByteArray.toList a.Course.Code==ByteArray.toList b.Course.Code)=Bool.true then some Bool.false else if 0<a.Bundle then if(a.Bundle==b.Bundle)=Bool.true then Option.bind (Zh a.Path b.Path) fun(a2:Bool)=>if a2=Bool.true then some Bool.true else Option.bind (JV a.Sources b.Sources) fun(a3:Bool)=>some (!a3) else Option.bind (JV a.Sources b.Sources) fun(a4:Bool)=>some (!a4) else Option.bind (JV a.Sources b.Sources) fun(a5:Bool)=>some (!a5)
theorem qdh:∀(Qc:Int) (QJ:ByteArray) (JX q2q q98:Int) (JI:List Int) (q0K:Int) (q3W:List Int) (q4C:Int) (q6g:ByteArray) (qe1 qjO qz7:Int) (qe2:List Int) (qgo:Int) (qqM:List Int),ev 69 0 [R.agg [dI Qc,dS QJ,dI JX,dI q2q,dI q98,dL 1 eI JI,dI q0K,dL 1 eI q3W],R.agg [dI q4C,dS q6g,dI qe1,dI qjO,dI qz7,dL 1 eI qe2,dI qgo,dL 1 eI qqM]] []=(q3B (qa.mk (qc.mk Qc QJ) JX q2q q98 JI q0K q3W) (qa.mk (qc.mk q4C q6g) qe1 qjO qz7 qe2 qgo qqM)).bind (fun(e:Bool)=>some (rB e,[])):=
 fun Qc QJ JX q2q q98 JI q0K q3W q4C q6g qe1 qjO qz7 qe2 qgo qqM=>by
  rw[qU qJ0 qJY.2.2.2 qOf]
  have:=qMI;have:=@q24;have:=@q9z;have:=@q3B.eq_1;exact gA
theorem qKW:okL 71 qky:=qV (qk qFK) (by kernel_rfl) (by kernel_rfl)
def qJT:=JA_ @qky.eq_1 (JA_ @Tryz.f71.eq_1 @qFK)
theorem qBS:lbO 71 3=qoS:=Qz (qk qFK) rfl
theorem qzJ:okL 71 qoS:=zS qKW (qQ6 (i:=0) (by kernel_rfl))
def JT (t6:List qa) (t7:Int):(Int×Int)→Option ((Int×Int)⊕Int)|(n,t8)=>if t8<t7 then if 0≤t8∧t8<((t6.length:Nat):Int) then Option.bind t6[Int.toNat t8]? fun(a:qa)=>some (Sum.inl (w64 (n+a.Credits),w64 (t8+1))) else none else some (Sum.inr n)
theorem q8m:∀(n:Int) (t6:List qa) (t7 t8:Int),XL2 evo 71 0 3 ⟨[(3,rI n),(6,rL 8 qe t6),(7,rI t7),(8,rI t8)],[],0,18⟩=(zw (JT t6 t7) (n,t8)).bind (fun(e:Int)=>some (Exit.exit 0,⟨[(3,rI e)],[],0,18⟩)):=
 fun n t6 t7 t8=>by
  revert t8;revert n;exact qaL qBS qzJ (fun e=>by exact⟨_,rfl,fun h=>by cases h⟩) fun n t8=>by
   have:=qJT;have:=@qoS.eq_1;have:=@JT.eq_1;exact gA
def q23 (l:List qa):Option Int:=Option.bind (zw (JT l ((l.length:Nat):Int)) (0,0)) fun(a:Int)=>some a
theorem qb3:∀(l:List qa),ev 71 0 [rL 8 qe l] []=(q23 l).bind (fun(e:Int)=>some (rI e,[])):=
 fun l=>by
  rw[qU qFK qJO.2.2.2 qKW]
  have:=qJT;have:=@q8m;have:=@q23.eq_1;exact gA
theorem qGd:okL 39 qh8:=qV (qk qEn) (by kernel_rfl) (by kernel_rfl)
def qIO:=JA_ @qh8.eq_1 (JA_ @Tryz.f39.eq_1 @qEn)
theorem qAU:lbO 39 2=qqb:=Qz (qk qEn) rfl
theorem qC8:okL 39 qqb:=zS qGd (qQ6 (i:=0) (by kernel_rfl))
theorem qEr:lbO 39 9=qny:=Qz (qk qEn) rfl
theorem qzU:okL 39 qny:=zS qGd (qQ6 (i:=1) (by kernel_rfl))
theorem qHi:okL 72 qgN:=qV (qk qE6) (by kernel_rfl) (by kernel_rfl)
def qH0:=JA_ @qgN.eq_1 (JA_ @Tryz.f72.eq_1 @qE6)
theorem qEP:lbO 72 9=qpn:=Qz (qk qE6) rfl
theorem qAX:okL 72 qpn:=zS qHi (qQ6 (i:=0) (by kernel_rfl))
theorem qvd:lbO 72 14=qi5:=Qz (qk qE6) rfl
theorem qyl:okL 72 qi5:=zS qHi (qQ6 (i:=1) (by kernel_rfl))
theorem qAn:okL 115 qfm:=qV (qk qtm) (by kernel_rfl) (by kernel_rfl)
def qA6:=JA_ @qfm.eq_1 (JA_ @Tryz.f115.eq_1 @qtm)
theorem qwB:lbO 115 2=qjk:=Qz (qk qtm) rfl
theorem qy4:okL 115 qjk:=zS qAn (qQ6 (i:=0) (by kernel_rfl))
def JR (w1:List Int) (leaf:Int) (set0:Int) (t9:Int):Int→Option (Int⊕(Unit⊕Unit))|t10=>if t10<t9 then if 0≤t10∧t10<((w1.length:Nat):Int) then Option.bind w1[Int.toNat t10]? fun(a:Int)=>if 0≤t10 then if(!((ZT Go.BinOp.and IntKind.i64 (Int.fdiv set0 (2 ^ min (Int.toNat t10) (IntKind.bits IntKind.i64))) 1==1)==(a==leaf)))=Bool.true then some (Sum.inr (Sum.inl ())) else some (Sum.inl (w64 (t10+1))) else none else none else some (Sum.inr (Sum.inr ()))
theorem q8l:∀(w1:List Int) (leaf set0 t9 t10:Int) (QS:Nat),QS=w1.length→XL2 evo 115 1 2 ⟨[(0,rI leaf),(1,rI set0),(8,rO 1 1 QS),(9,rI t9),(10,rI t10)],[(0,B.blk 22 [dO 1 1 QS]),(1,bR 3 1 eI w1)],2,25⟩=(zw (JR w1 leaf set0 t9) t10).bind (Sum.elim (fun(e:Unit)=>some (Exit.ret,⟨[(5,rB Bool.false)],[(0,B.blk 22 [dO 1 1 w1.length]),(1,bR 3 1 eI w1)],2,25⟩)) (fun(e:Unit)=>some (Exit.exit 0,⟨[(5,R.any)],[(0,B.blk 22 [dO 1 1 w1.length]),(1,bR 3 1 eI w1)],2,25⟩))):=
 by
 intro w1 leaf set0 t9 t10 QS h0
 subst h0
 revert t10;exact qbL qwB qy4 (fun e=>by rcases e with _|_<;>exact⟨_,rfl,fun h=>by cases h⟩) fun x=>by
  have:=qA6;have:=@qjk.eq_1;have:=@JR.eq_1;exact gA
def q0U (leaf:Int) (set0:Int) (w1:List Int):Option Bool:=Option.bind (zw (JR w1 leaf set0 ((w1.length:Nat):Int)) 0) fun(a:Sum Unit Unit)=>Sum.elim (fun(a2:Unit)=>some Bool.false) (fun(a3:Unit)=>some Bool.true) a
theorem q5E:∀(leaf set0:Int) (w1:List Int) (QS:Nat),QS=w1.length→ev 115 1 [rI leaf,rI set0,rP 0] [(0,B.blk 22 [dO 1 1 QS]),(1,bR 3 1 eI w1)]=(q0U leaf set0 w1).bind (fun(e:Bool)=>some (rB e,[(0,B.blk 22 [dO 1 1 w1.length]),(1,bR 3 1 eI w1)])):=
 by
 intro leaf set0 w1 QS h0
 subst h0
 rw[qU qtm qC2.2.2.2 qAn]
 have:=qA6;have:=@q8l;have:=@q0U.eq_1;exact gA
theorem qHZ:okL 116 qji:=qV (qk qv7) (by kernel_rfl) (by kernel_rfl)
def qJg:=JA_ @qji.eq_1 (JA_ @Tryz.f116.eq_1 @qv7)
theorem qII:okL 117 qi4:=qV (qk qxr) (by kernel_rfl) (by kernel_rfl)
def qGw:=JA_ @qi4.eq_1 (JA_ @Tryz.f117.eq_1 @qxr)
def q2f (x:Int) (v:Int) (v2:Int):Option Bool:=if v≤x then some (decide (x<v2)) else some Bool.false
def q09 (x:Int) (v:Int) (v2:Int):Bool:=if v≤x then decide (x<v2) else Bool.false
theorem q8d (x v v2:Int):q2f x v v2=some (q09 x v v2):=by
 unfold q2f q09
 simp only[Zs]
theorem q8E:∀(x v v2:Int),ev 117 2 [rI x,rP 0,rP 1] [(0,B.blk 3 [dI v]),(1,B.blk 3 [dI v2])]=some (rB (q09 x v v2),[(0,B.blk 3 [dI v]),(1,B.blk 3 [dI v2])]):=
 fun x v v2=>by
  have h:ev 117 2 [rI x,rP 0,rP 1] [(0,B.blk 3 [dI v]),(1,B.blk 3 [dI v2])]=(q2f x v v2).bind (fun(e:Bool)=>some (rB e,[(0,B.blk 3 [dI v]),(1,B.blk 3 [dI v2])])):=by
   rw[qU qxr qCH.2.2.2 qII]
   have:=qGw;have:=@q2f.eq_1;exact gA
  rw[q8d] at h
  exact h
def Q9 (b0:Int) (b1:Int) (s:List Int) (t7:Int):Int→Option (Int⊕(Int⊕Unit))|t8=>if t8<t7 then if 0≤t8∧t8<((s.length:Nat):Int) then Option.bind s[Int.toNat t8]? fun(a:Int)=>if q09 a b0 b1=Bool.true then some (Sum.inr (Sum.inl t8)) else some (Sum.inl (w64 (t8+1))) else none else some (Sum.inr (Sum.inr ()))
theorem q2v:∀(b0 b1:Int) (s:List Int) (t7 t8:Int),XL2 evo 131 2 2 ⟨[(0,rL 1 eI s),(1,R.c (C.fn 117 [] [dP 0,dP 1])),(7,rI t7),(8,rI t8)],[(0,B.blk 3 [dI b0]),(1,B.blk 3 [dI b1])],2,19⟩=(zw (Q9 b0 b1 s t7) t8).bind (Sum.elim (fun(e:Int)=>some (Exit.ret,⟨[(4,rI e)],[(0,B.blk 3 [dI b0]),(1,B.blk 3 [dI b1])],2,19⟩)) (fun(e:Unit)=>some (Exit.exit 0,⟨[(4,R.any)],[(0,B.blk 3 [dI b0]),(1,B.blk 3 [dI b1])],2,19⟩))):=
 fun b0 b1 s t7 t8=>by
  revert t8;exact qbL qj6 qjI (fun e=>by rcases e with _|_<;>exact⟨_,rfl,fun h=>by cases h⟩) fun x=>by
   have:=qmc;have:=@qdN.eq_1;have:=@q8E;have:=@Q9.eq_1;exact gA
def ZA (s:List Int) (b0:Int) (b1:Int):Option Int:=Option.bind (zw (Q9 b0 b1 s ((s.length:Nat):Int)) 0) fun(a:Sum Int Unit)=>Sum.elim (fun(a2:Int)=>some a2) (fun(a3:Unit)=>some (-1)) a
theorem q2U:∀(s:List Int) (b0 b1:Int),ev 131 2 [rL 1 eI s,R.c (C.fn 117 [] [dP 0,dP 1])] [(0,B.blk 3 [dI b0]),(1,B.blk 3 [dI b1])]=(ZA s b0 b1).bind (fun(e:Int)=>some (rI e,[(0,B.blk 3 [dI b0]),(1,B.blk 3 [dI b1])])):=
 fun s b0 b1=>by
  rw[qU qmm qtu.2.2.2 qrz]
  have:=qmc;have:=@q2v;have:=@ZA.eq_1;exact gA
def Z7 (s:List Int) (b0:Int) (b1:Int):Option Bool:=Option.bind (ZA s b0 b1) fun(a:Int)=>some (decide (0≤a))
theorem q2t:∀(s:List Int) (b0 b1:Int),ev 83 2 [rL 1 eI s,R.c (C.fn 117 [] [dP 0,dP 1])] [(0,B.blk 3 [dI b0]),(1,B.blk 3 [dI b1])]=(Z7 s b0 b1).bind (fun(e:Bool)=>some (rB e,[(0,B.blk 3 [dI b0]),(1,B.blk 3 [dI b1])])):=
 fun s b0 b1=>by
  rw[qU qAr qFI.2.2.2 qHe]
  have:=qHA;have:=@q2U;have:=@Z7.eq_1;exact gA
def q27 (from0:Int) (to:Int) (w1:List Int):Option Bool:=Option.bind (Z7 w1 from0 to) fun(a:Bool)=>some a
theorem qaN:∀(from0 to:Int) (w1:List Int) (QS:Nat),QS=w1.length→ev 116 1 [rI from0,rI to,rP 0] [(0,B.blk 22 [dO 1 1 QS]),(1,bR 3 1 eI w1)]=(q27 from0 to w1).bind (fun(e:Bool)=>some (rB e,[(0,B.blk 22 [dO 1 1 w1.length]),(1,bR 3 1 eI w1)])):=
 by
 intro from0 to w1 QS h0
 subst h0
 rw[qU qv7 qDN.2.2.2 qHZ]
 have:=qJg;have:=@q2t;have:=@q27.eq_1;exact gA
def zr (v:q05 qc) (s:List (q05 qc)) (t7:Int):Int→Option (Int⊕(Int⊕Unit))|t8=>if t8<t7 then if 0≤t8∧t8<((s.length:Nat):Int) then Option.bind s[Int.toNat t8]? fun(a:@q05 qc)=>if((v.a0.School==a.a0.School)=Bool.true∧(ByteArray.toList v.a0.Code==ByteArray.toList a.a0.Code)=Bool.true)∧(v.a1.School==a.a1.School)=Bool.true∧(ByteArray.toList v.a1.Code==ByteArray.toList a.a1.Code)=Bool.true then some (Sum.inr (Sum.inl t8)) else some (Sum.inl (w64 (t8+1))) else none else some (Sum.inr (Sum.inr ()))
theorem q0l:∀(q0w:Int) (q2I:ByteArray) (q0x:Int) (q2J:ByteArray) (s:List (q05 qc)) (t7 t8:Int),XL2 evo 114 0 2 ⟨[(0,rL 4 (eA2 qd) s),(3,rP 0),(7,rI t7),(8,rI t8)],[(0,B.blk 70 [dI q0w,dS q2I,dI q0x,dS q2J])],1,19⟩=(zw (zr (q05.mk (qc.mk q0w q2I) (qc.mk q0x q2J)) s t7) t8).bind (Sum.elim (fun(e:Int)=>some (Exit.ret,⟨[(4,rI e)],[],0,19⟩)) (fun(e:Unit)=>some (Exit.exit 0,⟨[(4,R.any)],[],0,19⟩))):=
 fun q0w q2I q0x q2J s t7 t8=>by
  revert t8;exact qbL qxL qyg (fun e=>by rcases e with _|_<;>exact⟨_,rfl,fun h=>by cases h⟩) fun x=>by
   have:=qAS;have:=@qif.eq_1;have:=@zr.eq_1;exact gA
def Qj (s:List (q05 qc)) (v:q05 qc):Option Int:=Option.bind (zw (zr v s ((s.length:Nat):Int)) 0) fun(a:Sum Int Unit)=>Sum.elim (fun(a2:Int)=>some a2) (fun(a3:Unit)=>some (-1)) a
theorem q0B:∀(s:List (q05 qc)) (q0w:Int) (q2I:ByteArray) (q0x:Int) (q2J:ByteArray),ev 114 0 [rL 4 (eA2 qd) s,R.agg [dI q0w,dS q2I,dI q0x,dS q2J]] []=(Qj s (q05.mk (qc.mk q0w q2I) (qc.mk q0x q2J))).bind (fun(e:Int)=>some (rI e,[])):=
 fun s q0w q2I q0x q2J=>by
  rw[qU qr5 qDD.2.2.2 qCQ]
  have:=qAS;have:=@q0l;have:=@Qj.eq_1;exact gA
def z7 (s:List (q05 qc)) (v:q05 qc):Option Bool:=Option.bind (Qj s v) fun(a:Int)=>some (decide (0≤a))
theorem Zt:∀(s:List (q05 qc)) (q0w:Int) (q2I:ByteArray) (q0x:Int) (q2J:ByteArray),ev 70 0 [rL 4 (eA2 qd) s,R.agg [dI q0w,dS q2I,dI q0x,dS q2J]] []=(z7 s (q05.mk (qc.mk q0w q2I) (qc.mk q0x q2J))).bind (fun(e:Bool)=>some (rB e,[])):=
 fun s q0w q2I q0x q2J=>by
  rw[qU qJl qKq.2.2.2 qOE]
  have:=qMl;have:=@q0B;have:=@z7.eq_1;exact gA
def QY (b0:qf) (t62:List (q05 qc)) (t63:Int):Int→Option (Int⊕(Int⊕Unit))|t64=>if t64<t63 then if 0≤t64∧t64<((t62.length:Nat):Int) then Option.bind t62[Int.toNat t64]? fun(a:@q05 qc)=>Option.bind (q1y a.a0) fun(a2:Bool)=>if(!a2)=Bool.true then some (Sum.inr (Sum.inl 1)) else Option.bind (q1y a.a1) fun(a3:Bool)=>if(!a3)=Bool.true then some (Sum.inr (Sum.inl 1)) else Option.bind (q0W a.a0 a.a1) fun(a4:Int)=>if 0≤a4 then some (Sum.inr (Sum.inl 7)) else if 0≤t64∧t64≤((b0.Exclude.length:Nat):Int) then Option.bind (z7 (List.take (Int.toNat t64-0) b0.Exclude) a) fun(a5:Bool)=>if a5=Bool.true then some (Sum.inr (Sum.inl 6)) else some (Sum.inl (w64 (t64+1))) else none else none else some (Sum.inr (Sum.inr ()))
theorem q6G:∀(qq zJ qn qC:Int) (qD:ByteArray) (qj qr ql:Int) (qm:List qc) (qu:List qb) (qw qR qS:Int) (qo t62:List (q05 qc)) (t63 t64:Int),XL2 evo 56 0 13 ⟨[(1,rP 0),(62,rL 4 (eA2 qd) t62),(63,rI t63),(64,rI t64)],[(0,B.blk 39 [dI qq,dI zJ,dI qn,dI qC,dS qD,dI qj,dI qr,dI ql,dL 2 qd qm,dL 5 qh qu,dI qw,dI qR,dI qS,dL 4 (eA2 qd) qo])],1,95⟩=(zw (QY (qf.mk qq zJ qn qC qD (qb.mk qj qr ql qm qu) qw qR qS qo) t62 t63) t64).bind (Sum.elim (fun(e:Int)=>some (Exit.ret,⟨[(2,rI e)],[],0,95⟩)) (fun(e:Unit)=>some (Exit.exit 1,⟨[(2,R.any)],[],0,95⟩))):=
 fun qq zJ qn qC qD qj qr ql qm qu qw qR qS qo t62 t63 t64=>by
  revert t64;exact qbL qve qyG (fun e=>by rcases e with _|_<;>exact⟨_,rfl,fun h=>by cases h⟩) fun x=>by
   have:=qKX;have:=@qhS.eq_1;have:=@q7m;have:=@q5t;have:=@Zt;have:=@QY.eq_1;exact gA
def q0q (x0:qf):Option Int:=if(!(zB x0.School 1 8))=Bool.true then some 1 else if(!(zB x0.Id 1 999999))=Bool.true then some 3 else if(!(zB x0.Version 1 20))=Bool.true then some 3 else if(!(zB x0.From 0 100000))=Bool.true then some 3 else if(!(zB x0.Total 0 600))=Bool.true then some 3 else if(!(zB x0.Own 0 600))=Bool.true then some 3 else if(!(zB x0.Age 0 100))=Bool.true then some 3 else Option.bind (q1f x0.Name) fun(a:Bool)=>if(!a)=Bool.true then some 1 else Option.bind (JQ x0.Need) fun(a2:Int)=>if(a2 != 0)=Bool.true then some a2 else if 8<((x0.Exclude.length:Nat):Int) then some 2 else Option.bind (zw (QY x0 x0.Exclude ((x0.Exclude.length:Nat):Int)) 0) fun(a3:Sum Int Unit)=>Sum.elim (fun(e0:Int)=>some e0) (fun(a4:Unit)=>some 0) a3
theorem qae:∀(zN q0Z zz QN:Int) (QO:ByteArray) (qW zO zc:Int) (zd:List qc) (zP:List qb) (Qf J7 J8:Int) (zA:List (q05 qc)),ev 56 0 [R.agg [dI zN,dI q0Z,dI zz,dI QN,dS QO,dI qW,dI zO,dI zc,dL 2 qd zd,dL 5 qh zP,dI Qf,dI J7,dI J8,dL 4 (eA2 qd) zA]] []=(q0q (qf.mk zN q0Z zz QN QO (qb.mk qW zO zc zd zP) Qf J7 J8 zA)).bind (fun(e:Int)=>some (rI e,[])):=
 fun zN q0Z zz QN QO qW zO zc zd zP Qf J7 J8 zA=>by
  rw[qU qFu qL3.2.2.2 qK7]
  have:=qKX;have:=@Jv;have:=@qcU;have:=@q4w;have:=@q6G;have:=@q0q.eq_1;exact gA
def Qg (p:qf) (s:qg):Option Int:=Option.bind (q0q p) fun(a:Int)=>if(a != 0)=Bool.true then some a else Option.bind (q1O s) fun(e0:Int)=>some e0
theorem q5q:∀(qE JY qA zh:Int) (zi:ByteArray) (qp qF qt:Int) (qz:List qc) (qJ:List qb) (qM Qd Qe:Int) (qL:List (q05 qc)) (zo Q1 Q2:Int),ev 33 0 [R.agg [dI qE,dI JY,dI qA,dI zh,dS zi,dI qp,dI qF,dI qt,dL 2 qd qz,dL 5 qh qJ,dI qM,dI Qd,dI Qe,dL 4 (eA2 qd) qL],R.agg [dI zo,dI Q1,dI Q2]] []=(Qg (qf.mk qE JY qA zh zi (qb.mk qp qF qt qz qJ) qM Qd Qe qL) (qg.mk zo Q1 Q2)).bind (fun(e:Int)=>some (rI e,[])):=
 fun qE JY qA zh zi qp qF qt qz qJ qM Qd Qe qL zo Q1 Q2=>by
  rw[qU qJp qLs.2.2.2 qNT]
  have:=qPt;have:=@qae;have:=@q6p;have:=@Qg.eq_1;exact gA
end
noncomputable section
open Go.RowKit
set_option maxRecDepth 20000
set_option maxHeartbeats 8000000
def ZO (b0:qf) (b1:qa) (t1:List qa) (t2:Int) (t7:Int) (t12:List qa) (t13:Int) (t14:Int) (t25:List qa) (t26:Int):Int→Option (Int⊕(Unit⊕Unit))|t27=>if t27<t26 then if 0≤t27∧t27<((t25.length:Nat):Int) then Option.bind t25[Int.toNat t27]? fun(a:qa)=>Option.bind (q3B b1 a) fun(a2:Bool)=>if(!a2)=Bool.true then some (Sum.inr (Sum.inl ())) else Option.bind (z7 b0.Exclude (q05.mk b1.Course a.Course)) fun(a3:Bool)=>if a3=Bool.true then some (Sum.inr (Sum.inl ())) else Option.bind (z7 b0.Exclude (q05.mk a.Course b1.Course)) fun(a4:Bool)=>if a4=Bool.true then some (Sum.inr (Sum.inl ())) else some (Sum.inl (w64 (t27+1))) else none else some (Sum.inr (Sum.inr ()))
theorem q6f:∀(qq zJ qn qC:Int) (qD:ByteArray) (qj qr ql:Int) (qm:List qc) (qu:List qb) (qw qR qS:Int) (qo:List (q05 qc)) (q0R:Int) (q2a:ByteArray) (q5O qaC qhF:Int) (q5P:List Int) (q7N:Int) (qe3:List Int) (t1:List qa) (t2 t7:Int) (t12:List qa) (t13 t14:Int) (t25:List qa) (t26 t27:Int),XL2 evo 38 0 8 ⟨[(1,rL 8 qe t1),(2,rI t2),(3,rP 0),(7,rI t7),(9,rP 1),(12,rL 8 qe t12),(13,rI t13),(14,rI t14),(25,rL 8 qe t25),(26,rI t26),(27,rI t27)],[(0,B.blk 39 [dI qq,dI zJ,dI qn,dI qC,dS qD,dI qj,dI qr,dI ql,dL 2 qd qm,dL 5 qh qu,dI qw,dI qR,dI qS,dL 4 (eA2 qd) qo]),(1,B.blk 57 [dI q0R,dS q2a,dI q5O,dI qaC,dI qhF,dL 1 eI q5P,dI q7N,dL 1 eI qe3])],2,83⟩=(zw (ZO (qf.mk qq zJ qn qC qD (qb.mk qj qr ql qm qu) qw qR qS qo) (qa.mk (qc.mk q0R q2a) q5O qaC qhF q5P q7N qe3) t1 t2 t7 t12 t13 t14 t25 t26) t27).bind (Sum.elim (fun(e:Unit)=>some (Exit.ret,⟨[(1,rL 8 qe t1),(2,rI t2),(3,rP 0),(6,rB Bool.false),(7,rI t7),(9,rP 1),(12,rL 8 qe t12),(13,rI t13),(14,rI t14)],[(0,B.blk 39 [dI qq,dI zJ,dI qn,dI qC,dS qD,dI qj,dI qr,dI ql,dL 2 qd qm,dL 5 qh qu,dI qw,dI qR,dI qS,dL 4 (eA2 qd) qo]),(1,B.blk 57 [dI q0R,dS q2a,dI q5O,dI qaC,dI qhF,dL 1 eI q5P,dI q7N,dL 1 eI qe3])],2,83⟩)) (fun(e:Unit)=>some (Exit.exit 2,⟨[(1,rL 8 qe t1),(2,rI t2),(3,rP 0),(6,R.any),(7,rI t7),(9,rP 1),(12,rL 8 qe t12),(13,rI t13),(14,rI t14)],[(0,B.blk 39 [dI qq,dI zJ,dI qn,dI qC,dS qD,dI qj,dI qr,dI ql,dL 2 qd qm,dL 5 qh qu,dI qw,dI qR,dI qS,dL 4 (eA2 qd) qo]),(1,B.blk 57 [dI q0R,dS q2a,dI q5O,dI qaC,dI qhF,dL 1 eI q5P,dI q7N,dL 1 eI qe3])],2,83⟩))):=
 fun qq zJ qn qC qD qj qr ql qm qu qw qR qS qo q0R q2a q5O qaC qhF q5P q7N qe3 t1 t2 t7 t12 t13 t14 t25 t26 t27=>by
  revert t27;exact qbL qzo qzS (fun e=>by rcases e with _|_<;>exact⟨_,rfl,fun h=>by cases h⟩) fun x=>by
   have:=qI2;have:=@qpv.eq_1;have:=@qdh;have:=@Zt;have:=@ZO.eq_1;exact gA
def Zd (b0:qf) (t1:List qa) (t2:Int) (t12:List qa) (t13:Int):(Int×Int)→Option ((Int×Int)⊕(Int⊕Int))|(t7,t14)=>if t14<t13 then if 0≤t14∧t14<((t12.length:Nat):Int) then Option.bind t12[Int.toNat t14]? fun(a:qa)=>Option.bind (ZS b0 a t2) fun(a2:Bool)=>if a2=Bool.true then some (Sum.inr (Sum.inl t7)) else if 0≤t14∧t14≤((t1.length:Nat):Int) then Option.bind (zw (ZO b0 a t1 t2 t7 t12 t13 t14 (List.take (Int.toNat t14-0) t1) (((List.take (Int.toNat t14-0) t1).length:Nat):Int)) 0) fun(a3:Sum Unit Unit)=>Sum.elim (fun(a4:Unit)=>some (Sum.inr (Sum.inl t7))) (fun(a5:Unit)=>if(a.Course.School==b0.School)=Bool.true then if(a.Bundle==0)=Bool.true then some (Sum.inl (w64 (t7+a.Credits),w64 (t14+1))) else some (Sum.inl (t7,w64 (t14+1))) else some (Sum.inl (t7,w64 (t14+1)))) a3 else none else none else some (Sum.inr (Sum.inr t7))
theorem q61:∀(qq zJ qn qC:Int) (qD:ByteArray) (qj qr ql:Int) (qm:List qc) (qu:List qb) (qw qR qS:Int) (qo:List (q05 qc)) (t1:List qa) (t2 t7:Int) (t12:List qa) (t13 t14:Int),XL2 evo 38 0 3 ⟨[(1,rL 8 qe t1),(2,rI t2),(3,rP 0),(7,rI t7),(12,rL 8 qe t12),(13,rI t13),(14,rI t14)],[(0,B.blk 39 [dI qq,dI zJ,dI qn,dI qC,dS qD,dI qj,dI qr,dI ql,dL 2 qd qm,dL 5 qh qu,dI qw,dI qR,dI qS,dL 4 (eA2 qd) qo])],1,83⟩=(zw (Zd (qf.mk qq zJ qn qC qD (qb.mk qj qr ql qm qu) qw qR qS qo) t1 t2 t12 t13) (t7,t14)).bind (Sum.elim (fun(e:Int)=>some (Exit.ret,⟨[(1,rL 8 qe t1),(3,rP 0),(6,rB Bool.false),(7,rI e)],[(0,B.blk 39 [dI qq,dI zJ,dI qn,dI qC,dS qD,dI qj,dI qr,dI ql,dL 2 qd qm,dL 5 qh qu,dI qw,dI qR,dI qS,dL 4 (eA2 qd) qo])],1,83⟩)) (fun(e:Int)=>some (Exit.exit 0,⟨[(1,rL 8 qe t1),(3,rP 0),(6,R.any),(7,rI e)],[(0,B.blk 39 [dI qq,dI zJ,dI qn,dI qC,dS qD,dI qj,dI qr,dI ql,dL 2 qd qm,dL 5 qh qu,dI qw,dI qR,dI qS,dL 4 (eA2 qd) qo])],1,83⟩))):=
 fun qq zJ qn qC qD qj qr ql qm qu qw qR qS qo t1 t2 t7 t12 t13 t14=>by
  revert t14;revert t7;exact qaL qDS qE1 (fun e=>by rcases e with _|_<;>exact⟨_,rfl,fun h=>by cases h⟩) fun t7 t14=>by
   have:=qI2;have:=@qqe.eq_1;have:=@q4l;have:=@q6f;have:=@Zd.eq_1;exact gA
def JS (x0:qf) (x1:List qa) (x2:Int):Option Bool:=Option.bind (zw (Zd x0 x1 x2 x1 ((x1.length:Nat):Int)) (0,0)) fun(a:Sum Int Int)=>Sum.elim (fun(a2:Int)=>some Bool.false) (fun(a3:Int)=>Option.bind (q23 x1) fun(a4:Int)=>if x0.Total≤a4 then some (decide (x0.Own≤a3)) else some Bool.false) a
theorem q3R:∀(zN q0Z zz QN:Int) (QO:ByteArray) (qW zO zc:Int) (zd:List qc) (zP:List qb) (Qf J7 J8:Int) (zA:List (q05 qc)) (x1:List qa) (x2:Int),ev 38 0 [R.agg [dI zN,dI q0Z,dI zz,dI QN,dS QO,dI qW,dI zO,dI zc,dL 2 qd zd,dL 5 qh zP,dI Qf,dI J7,dI J8,dL 4 (eA2 qd) zA],rL 8 qe x1,rI x2] []=(JS (qf.mk zN q0Z zz QN QO (qb.mk qW zO zc zd zP) Qf J7 J8 zA) x1 x2).bind (fun(e:Bool)=>some (rB e,[])):=
 fun zN q0Z zz QN QO qW zO zc zd zP Qf J7 J8 zA x1 x2=>by
  rw[qU qzn qLz.2.2.2 qJA]
  have:=qI2;have:=@q61;have:=@qb3;have:=@JS.eq_1;exact gA
def zg (x:(qb×List Int×List qa×Int×qg)):List R×List (Nat×B):=([R.agg [C.d (D.int .i64 x.1.Kind),C.d (D.int .i64 x.1.N),C.d (D.int .i64 x.1.Min),C.d (D.sl 2 x.1.Set.length (x.1.Set.flatMap qd)),C.d (D.sl 5 x.1.L.length (x.1.L.flatMap qh))],R.c (C.ptr 0 0),R.c (C.ptr 1 0),R.c (C.ptr 3 0),R.c (C.ptr 4 0),R.c (C.ptr 5 0),R.c (C.ptr 6 0)],[(0,B.blk 26 [C.d (D.sl 8 x.2.2.1.length (x.2.2.1.flatMap qe))]),(1,B.blk 114 [C.fn 115 [] [C.ptr 2 0]]),(2,B.blk 22 [C.own 7 1 0 x.2.1.length]),(3,B.blk 3 [C.d (D.int .i64 x.2.2.2.1)]),(4,B.blk 28 [C.d (D.int .i64 x.2.2.2.2.Worst),C.d (D.int .i64 x.2.2.2.2.Best),C.d (D.int .i64 x.2.2.2.2.Pass)]),(5,B.blk 163 [C.fn 104 [] [C.ptr 0 0,C.ptr 1 0,C.ptr 3 0,C.ptr 4 0,C.ptr 5 0,C.ptr 6 0]]),(6,B.blk 114 [C.fn 116 [] [C.ptr 2 0]]),(7,B.row 3 1 ((x.2.1.flatMap eI).map C.d))])
def Qa:(List Bool×List Int×List qa×Int×qg)→R×List (Nat×B):=fun(e:List Bool×List Int×List qa×Int×qg)=>(R.c (C.d (D.sl 1 e.1.length (e.1.flatMap eB))),[(0,B.blk 26 [C.d (D.sl 8 e.2.2.1.length (e.2.2.1.flatMap qe))]),(1,B.blk 114 [C.fn 115 [] [C.ptr 2 0]]),(2,B.blk 22 [C.own 7 1 0 e.2.1.length]),(3,B.blk 3 [C.d (D.int .i64 e.2.2.2.1)]),(4,B.blk 28 [C.d (D.int .i64 e.2.2.2.2.Worst),C.d (D.int .i64 e.2.2.2.2.Best),C.d (D.int .i64 e.2.2.2.2.Pass)]),(5,B.blk 163 [C.fn 104 [] [C.ptr 0 0,C.ptr 1 0,C.ptr 3 0,C.ptr 4 0,C.ptr 5 0,C.ptr 6 0]]),(6,B.blk 114 [C.fn 116 [] [C.ptr 2 0]]),(7,B.row 3 1 ((e.2.1.flatMap eI).map C.d))])
def ZM (rF:(qb×List Int×List qa×Int×qg)→Option (List Bool×List Int×List qa×Int×qg)) (w7:List Int) (b0:List qa) (b3:Int) (b4:qg) (b8:qb):(List Bool×Int)→Option ((List Bool×Int)⊕(List Bool))|(w9,b10)=>if b10<((w9.length:Nat):Int) then Option.bind (q0U b3 b10 w7) fun(a2:Bool)=>if a2=Bool.true then Option.bind (q1p b8 b4 b0 b10) fun(a3:qO)=>if 0≤b10∧b10<((w9.length:Nat):Int) then if Int.toNat b10+1≤w9.length then some (Sum.inl (List.set w9 (Int.toNat b10) (Q4 a3 b8),w64 (b10+1))) else none else none else if 0≤b10∧b10<((w9.length:Nat):Int) then if Int.toNat b10+1≤w9.length then some (Sum.inl (List.set w9 (Int.toNat b10) Bool.false,w64 (b10+1))) else none else none else some (Sum.inr w9)
theorem q5V (rE:Orc) (rF:(qb×List Int×List qa×Int×qg)→Option (List Bool×List Int×List qa×Int×qg)) (hF:∀y,rE (.fn 104) 7 (zg y).1 (zg y).2=(rF y).bind fun e=>some (Qa e)) (hM:∀g k a G,g≠104→rE (.fn g) k a G=ev g k a G) (hR:∀g asg bd k a G,rE (.rd g asg bd) k a G=evr g asg bd k a G):∀(w7:List Int) (w9:List Bool) (b0:List qa) (b3 QU ZJ ZK JF qcj q0S:Int) (q0T:List qc) (qck:List qb) (b10:Int) (JZ zM:Nat),JZ=w9.length→zM=w7.length→XL2 rE 104 7 5 ⟨[(1,rP 0),(2,rP 1),(3,rP 3),(4,rP 4),(7,rP 8),(9,rO 9 1 JZ),(10,R.c (C.fn 133 [] [])),(11,rP 10)],[(0,B.blk 26 [dL 8 qe b0]),(1,B.blk 114 [C.fn 115 [] [dP 2]]),(2,B.blk 22 [dO 7 1 zM]),(3,B.blk 3 [dI b3]),(4,B.blk 28 [dI QU,dI ZJ,dI ZK]),(5,B.blk 163 [C.fn 104 [] [dP 0,dP 1,dP 3,dP 4,dP 5,dP 6]]),(6,B.blk 114 [C.fn 116 [] [dP 2]]),(7,bR 3 1 eI w7),(8,B.blk 36 [dI JF,dI qcj,dI q0S,dL 2 qd q0T,dL 5 qh qck]),(9,bR 4 1 eB w9),(10,B.blk 3 [dI b10])],11,142⟩=(zw (ZM rF w7 b0 b3 (qg.mk QU ZJ ZK) (qb.mk JF qcj q0S q0T qck)) (w9,b10)).bind (fun(e:List Bool)=>some (Exit.exit 0,⟨[(3,rP 3),(9,rO 8 1 e.length)],[(0,B.blk 26 [dL 8 qe b0]),(1,B.blk 114 [C.fn 115 [] [dP 2]]),(2,B.blk 22 [dO 7 1 w7.length]),(3,B.blk 3 [dI b3]),(4,B.blk 28 [dI QU,dI ZJ,dI ZK]),(5,B.blk 163 [C.fn 104 [] [dP 0,dP 1,dP 3,dP 4,dP 5,dP 6]]),(6,B.blk 114 [C.fn 116 [] [dP 2]]),(7,bR 3 1 eI w7),(8,bR 4 1 eB e)],9,142⟩)):=
 by
 intro w7 w9 b0 b3 QU ZJ ZK JF qcj q0S q0T qck b10 JZ zM h0 h1
 subst h0 h1
 revert b10;revert w9;exact qaL qfW qfA (fun e=>by exact⟨_,rfl,fun h=>by cases h⟩) fun w9 b10=>by
  have hF':∀(qI Jp qZ:Int) (z6:List qc) (Jq:List qb) (w7:List Int) (v:List qa) (v2 qK z8 za:Int) (zM:Nat),zM=w7.length→rE (.fn 104) 7 [R.agg [dI qI,dI Jp,dI qZ,dL 2 qd z6,dL 5 qh Jq],rP 0,rP 1,rP 3,rP 4,rP 5,rP 6] [(0,B.blk 26 [dL 8 qe v]),(1,B.blk 114 [C.fn 115 [] [dP 2]]),(2,B.blk 22 [dO 7 1 zM]),(3,B.blk 3 [dI v2]),(4,B.blk 28 [dI qK,dI z8,dI za]),(5,B.blk 163 [C.fn 104 [] [dP 0,dP 1,dP 3,dP 4,dP 5,dP 6]]),(6,B.blk 114 [C.fn 116 [] [dP 2]]),(7,bR 3 1 eI w7)]=(rF ((qb.mk qI Jp qZ z6 Jq),w7,v,v2,(qg.mk qK z8 za))).bind (fun e=>some (rL 1 eB e.1,[(0,B.blk 26 [dL 8 qe e.2.2.1]),(1,B.blk 114 [C.fn 115 [] [dP 2]]),(2,B.blk 22 [dO 7 1 e.2.1.length]),(3,B.blk 3 [dI e.2.2.2.1]),(4,B.blk 28 [dI e.2.2.2.2.Worst,dI e.2.2.2.2.Best,dI e.2.2.2.2.Pass]),(5,B.blk 163 [C.fn 104 [] [dP 0,dP 1,dP 3,dP 4,dP 5,dP 6]]),(6,B.blk 114 [C.fn 116 [] [dP 2]]),(7,bR 3 1 eI e.2.1)])):=by intro qI Jp qZ z6 Jq w7 v v2 qK z8 za zM h0;subst h0;exact hF ((qb.mk qI Jp qZ z6 Jq),w7,v,v2,(qg.mk qK z8 za))
  have:=q9U;have:=@qaP.eq_1;have:=@q5E;have:=@q3o;have:=@q1W;have:=@ZM.eq_1;exact gA
def ZN (rF:(qb×List Int×List qa×Int×qg)→Option (List Bool×List Int×List qa×Int×qg)) (w7:List Int) (b0:List qa) (b3:Int) (b4:qg) (b8:qb):(List Bool×Int)→Option ((List Bool×Int)⊕(List Bool))|(w9,b10)=>if b10<((w9.length:Nat):Int) then Option.bind (q0U b3 b10 w7) fun(a2:Bool)=>if a2=Bool.true then Option.bind (q1p b8 b4 b0 b10) fun(a3:qO)=>if 0≤b10∧b10<((w9.length:Nat):Int) then if Int.toNat b10+1≤w9.length then some (Sum.inl (List.set w9 (Int.toNat b10) (Qw a3 b8),w64 (b10+1))) else none else none else if 0≤b10∧b10<((w9.length:Nat):Int) then if Int.toNat b10+1≤w9.length then some (Sum.inl (List.set w9 (Int.toNat b10) Bool.false,w64 (b10+1))) else none else none else some (Sum.inr w9)
theorem q63 (rE:Orc) (rF:(qb×List Int×List qa×Int×qg)→Option (List Bool×List Int×List qa×Int×qg)) (hF:∀y,rE (.fn 104) 7 (zg y).1 (zg y).2=(rF y).bind fun e=>some (Qa e)) (hM:∀g k a G,g≠104→rE (.fn g) k a G=ev g k a G) (hR:∀g asg bd k a G,rE (.rd g asg bd) k a G=evr g asg bd k a G):∀(w7:List Int) (w9:List Bool) (b0:List qa) (b3 QU ZJ ZK JF qcj q0S:Int) (q0T:List qc) (qck:List qb) (b10:Int) (JZ zM:Nat),JZ=w9.length→zM=w7.length→XL2 rE 104 7 5 ⟨[(1,rP 0),(2,rP 1),(3,rP 3),(4,rP 4),(7,rP 8),(9,rO 9 1 JZ),(10,R.c (C.fn 134 [] [])),(11,rP 10)],[(0,B.blk 26 [dL 8 qe b0]),(1,B.blk 114 [C.fn 115 [] [dP 2]]),(2,B.blk 22 [dO 7 1 zM]),(3,B.blk 3 [dI b3]),(4,B.blk 28 [dI QU,dI ZJ,dI ZK]),(5,B.blk 163 [C.fn 104 [] [dP 0,dP 1,dP 3,dP 4,dP 5,dP 6]]),(6,B.blk 114 [C.fn 116 [] [dP 2]]),(7,bR 3 1 eI w7),(8,B.blk 36 [dI JF,dI qcj,dI q0S,dL 2 qd q0T,dL 5 qh qck]),(9,bR 4 1 eB w9),(10,B.blk 3 [dI b10])],11,142⟩=(zw (ZN rF w7 b0 b3 (qg.mk QU ZJ ZK) (qb.mk JF qcj q0S q0T qck)) (w9,b10)).bind (fun(e:List Bool)=>some (Exit.exit 0,⟨[(3,rP 3),(9,rO 8 1 e.length)],[(0,B.blk 26 [dL 8 qe b0]),(1,B.blk 114 [C.fn 115 [] [dP 2]]),(2,B.blk 22 [dO 7 1 w7.length]),(3,B.blk 3 [dI b3]),(4,B.blk 28 [dI QU,dI ZJ,dI ZK]),(5,B.blk 163 [C.fn 104 [] [dP 0,dP 1,dP 3,dP 4,dP 5,dP 6]]),(6,B.blk 114 [C.fn 116 [] [dP 2]]),(7,bR 3 1 eI w7),(8,bR 4 1 eB e)],9,142⟩)):=
 by
 intro w7 w9 b0 b3 QU ZJ ZK JF qcj q0S q0T qck b10 JZ zM h0 h1
 subst h0 h1
 revert b10;revert w9;exact qaL qfW qfA (fun e=>by exact⟨_,rfl,fun h=>by cases h⟩) fun w9 b10=>by
  have hF':∀(qI Jp qZ:Int) (z6:List qc) (Jq:List qb) (w7:List Int) (v:List qa) (v2 qK z8 za:Int) (zM:Nat),zM=w7.length→rE (.fn 104) 7 [R.agg [dI qI,dI Jp,dI qZ,dL 2 qd z6,dL 5 qh Jq],rP 0,rP 1,rP 3,rP 4,rP 5,rP 6] [(0,B.blk 26 [dL 8 qe v]),(1,B.blk 114 [C.fn 115 [] [dP 2]]),(2,B.blk 22 [dO 7 1 zM]),(3,B.blk 3 [dI v2]),(4,B.blk 28 [dI qK,dI z8,dI za]),(5,B.blk 163 [C.fn 104 [] [dP 0,dP 1,dP 3,dP 4,dP 5,dP 6]]),(6,B.blk 114 [C.fn 116 [] [dP 2]]),(7,bR 3 1 eI w7)]=(rF ((qb.mk qI Jp qZ z6 Jq),w7,v,v2,(qg.mk qK z8 za))).bind (fun e=>some (rL 1 eB e.1,[(0,B.blk 26 [dL 8 qe e.2.2.1]),(1,B.blk 114 [C.fn 115 [] [dP 2]]),(2,B.blk 22 [dO 7 1 e.2.1.length]),(3,B.blk 3 [dI e.2.2.2.1]),(4,B.blk 28 [dI e.2.2.2.2.Worst,dI e.2.2.2.2.Best,dI e.2.2.2.2.Pass]),(5,B.blk 163 [C.fn 104 [] [dP 0,dP 1,dP 3,dP 4,dP 5,dP 6]]),(6,B.blk 114 [C.fn 116 [] [dP 2]]),(7,bR 3 1 eI e.2.1)])):=by intro qI Jp qZ z6 Jq w7 v v2 qK z8 za zM h0;subst h0;exact hF ((qb.mk qI Jp qZ z6 Jq),w7,v,v2,(qg.mk qK z8 za))
  have:=q9U;have:=@qaP.eq_1;have:=@q5E;have:=@q3o;have:=@q31;have:=@ZN.eq_1;exact gA
def QZ (rF:(qb×List Int×List qa×Int×qg)→Option (List Bool×List Int×List qa×Int×qg)) (w7:List Int) (w9:List Bool) (b0:List qa) (b3:Int) (b4:qg) (b8:qb):(List Int×Int)→Option ((List Int×Int)⊕(List Int))|(w11,t13)=>if t13<((w11.length:Nat):Int) then if 0≤t13∧t13<((w11.length:Nat):Int) then if Int.toNat t13+1≤w11.length then some (Sum.inl (List.set w11 (Int.toNat t13) (-1),w64 (t13+1))) else none else none else some (Sum.inr w11)
theorem q5x (rE:Orc) (rF:(qb×List Int×List qa×Int×qg)→Option (List Bool×List Int×List qa×Int×qg)) (hF:∀y,rE (.fn 104) 7 (zg y).1 (zg y).2=(rF y).bind fun e=>some (Qa e)) (hM:∀g k a G,g≠104→rE (.fn g) k a G=ev g k a G) (hR:∀g asg bd k a G,rE (.rd g asg bd) k a G=evr g asg bd k a G):∀(w7:List Int) (w9:List Bool) (w11:List Int) (b0:List qa) (b3 QU ZJ ZK JF qcj q0S:Int) (q0T:List qc) (qck:List qb) (t13:Int) (JZ zM q4D:Nat),JZ=w9.length→zM=w7.length→q4D=w11.length→XL2 rE 104 7 14 ⟨[(3,rP 3),(5,rP 5),(6,rP 6),(7,rP 8),(9,rO 9 1 JZ),(12,rP 10),(13,rI t13)],[(0,B.blk 26 [dL 8 qe b0]),(1,B.blk 114 [C.fn 115 [] [dP 2]]),(2,B.blk 22 [dO 7 1 zM]),(3,B.blk 3 [dI b3]),(4,B.blk 28 [dI QU,dI ZJ,dI ZK]),(5,B.blk 163 [C.fn 104 [] [dP 0,dP 1,dP 3,dP 4,dP 5,dP 6]]),(6,B.blk 114 [C.fn 116 [] [dP 2]]),(7,bR 3 1 eI w7),(8,B.blk 36 [dI JF,dI qcj,dI q0S,dL 2 qd q0T,dL 5 qh qck]),(9,bR 4 1 eB w9),(10,B.blk 164 [dO 11 1 q4D]),(11,bR 3 1 eI w11)],12,142⟩=(zw (QZ rF w7 w9 b0 b3 (qg.mk QU ZJ ZK) (qb.mk JF qcj q0S q0T qck)) (w11,t13)).bind (fun(e:List Int)=>some (Exit.exit 2,⟨[(3,rP 3),(5,rP 5),(6,rP 6),(7,rP 8),(9,rO 9 1 w9.length),(12,rP 10)],[(0,B.blk 26 [dL 8 qe b0]),(1,B.blk 114 [C.fn 115 [] [dP 2]]),(2,B.blk 22 [dO 7 1 w7.length]),(3,B.blk 3 [dI b3]),(4,B.blk 28 [dI QU,dI ZJ,dI ZK]),(5,B.blk 163 [C.fn 104 [] [dP 0,dP 1,dP 3,dP 4,dP 5,dP 6]]),(6,B.blk 114 [C.fn 116 [] [dP 2]]),(7,bR 3 1 eI w7),(8,B.blk 36 [dI JF,dI qcj,dI q0S,dL 2 qd q0T,dL 5 qh qck]),(9,bR 4 1 eB w9),(10,B.blk 164 [dO 11 1 e.length]),(11,bR 3 1 eI e)],12,142⟩)):=
 by
 intro w7 w9 w11 b0 b3 QU ZJ ZK JF qcj q0S q0T qck t13 JZ zM q4D h0 h1 h2
 subst h0 h1 h2
 revert t13;revert w11;exact qaL qkb qk8 (fun e=>by exact⟨_,rfl,fun h=>by cases h⟩) fun w11 t13=>by
  have hF':∀(qI Jp qZ:Int) (z6:List qc) (Jq:List qb) (w7:List Int) (v:List qa) (v2 qK z8 za:Int) (zM:Nat),zM=w7.length→rE (.fn 104) 7 [R.agg [dI qI,dI Jp,dI qZ,dL 2 qd z6,dL 5 qh Jq],rP 0,rP 1,rP 3,rP 4,rP 5,rP 6] [(0,B.blk 26 [dL 8 qe v]),(1,B.blk 114 [C.fn 115 [] [dP 2]]),(2,B.blk 22 [dO 7 1 zM]),(3,B.blk 3 [dI v2]),(4,B.blk 28 [dI qK,dI z8,dI za]),(5,B.blk 163 [C.fn 104 [] [dP 0,dP 1,dP 3,dP 4,dP 5,dP 6]]),(6,B.blk 114 [C.fn 116 [] [dP 2]]),(7,bR 3 1 eI w7)]=(rF ((qb.mk qI Jp qZ z6 Jq),w7,v,v2,(qg.mk qK z8 za))).bind (fun e=>some (rL 1 eB e.1,[(0,B.blk 26 [dL 8 qe e.2.2.1]),(1,B.blk 114 [C.fn 115 [] [dP 2]]),(2,B.blk 22 [dO 7 1 e.2.1.length]),(3,B.blk 3 [dI e.2.2.2.1]),(4,B.blk 28 [dI e.2.2.2.2.Worst,dI e.2.2.2.2.Best,dI e.2.2.2.2.Pass]),(5,B.blk 163 [C.fn 104 [] [dP 0,dP 1,dP 3,dP 4,dP 5,dP 6]]),(6,B.blk 114 [C.fn 116 [] [dP 2]]),(7,bR 3 1 eI e.2.1)])):=by intro qI Jp qZ z6 Jq w7 v v2 qK z8 za zM h0;subst h0;exact hF ((qb.mk qI Jp qZ z6 Jq),w7,v,v2,(qg.mk qK z8 za))
  have:=q9U;have:=@qcG.eq_1;have:=@QZ.eq_1;exact gA
def QD (rF:(qb×List Int×List qa×Int×qg)→Option (List Bool×List Int×List qa×Int×qg)) (w7:List Int) (w9:List Bool) (w11:List Int) (b0:List qa) (b3:Int) (b4:qg) (b8:qb) (b12:List Bool) (t18:Bool) (t72:List qb) (t73:Int) (t74:Int) (t96:Int):(List Int×Int)→Option ((List Int×Int)⊕(List Int))|(w14,t97)=>if t97<t96 then if 0≤t97∧t97<((w14.length:Nat):Int) then if Int.toNat t97+1≤w14.length then if t18=Bool.true then if 0≤t97∧t97<((w11.length:Nat):Int) then Option.bind w11[Int.toNat t97]? fun(a2:Int)=>if 0≤t97∧t97<((w14.length:Nat):Int) then if Int.toNat t97+1≤w14.length then Option.bind (Qh t97 w11 (List.set (List.set w14 (Int.toNat t97) (-1)) (Int.toNat t97) a2) b12 t97) fun(a3:List Int)=>some (Sum.inl (a3,w64 (t97+1))) else none else none else none else Option.bind (Qh t97 w11 (List.set w14 (Int.toNat t97) (-1)) b12 t97) fun(a4:List Int)=>some (Sum.inl (a4,w64 (t97+1))) else none else none else some (Sum.inr w14)
theorem q5H (rE:Orc) (rF:(qb×List Int×List qa×Int×qg)→Option (List Bool×List Int×List qa×Int×qg)) (hF:∀y,rE (.fn 104) 7 (zg y).1 (zg y).2=(rF y).bind fun e=>some (Qa e)) (hM:∀g k a G,g≠104→rE (.fn g) k a G=ev g k a G) (hR:∀g asg bd k a G,rE (.rd g asg bd) k a G=evr g asg bd k a G):∀(w7:List Int) (w9:List Bool) (w11 w14:List Int) (b0:List qa) (b3 QU ZJ ZK JF qcj q0S:Int) (q0T:List qc) (qck:List qb) (b12:List Bool) (t18:Bool) (t72:List qb) (t73 t74 t96 t97:Int) (JZ zM q4D qjP:Nat),JZ=w9.length→zM=w7.length→q4D=w11.length→qjP=w14.length→XL2 rE 104 7 25 ⟨[(3,rP 3),(5,rP 5),(6,rP 6),(7,rP 8),(9,rO 9 1 JZ),(12,rP 10),(17,rP 12),(18,rB t18),(19,rP 13),(72,rL 5 qh t72),(73,rI t73),(74,rI t74),(96,rI t96),(97,rI t97)],[(0,B.blk 26 [dL 8 qe b0]),(1,B.blk 114 [C.fn 115 [] [dP 2]]),(2,B.blk 22 [dO 7 1 zM]),(3,B.blk 3 [dI b3]),(4,B.blk 28 [dI QU,dI ZJ,dI ZK]),(5,B.blk 163 [C.fn 104 [] [dP 0,dP 1,dP 3,dP 4,dP 5,dP 6]]),(6,B.blk 114 [C.fn 116 [] [dP 2]]),(7,bR 3 1 eI w7),(8,B.blk 36 [dI JF,dI qcj,dI q0S,dL 2 qd q0T,dL 5 qh qck]),(9,bR 4 1 eB w9),(10,B.blk 164 [dO 11 1 q4D]),(11,bR 3 1 eI w11),(12,B.blk 115 [dL 1 eB b12]),(13,B.blk 164 [dO 14 1 qjP]),(14,bR 3 1 eI w14)],15,142⟩=(zw (QD rF w7 w9 w11 b0 b3 (qg.mk QU ZJ ZK) (qb.mk JF qcj q0S q0T qck) b12 t18 t72 t73 t74 t96) (w14,t97)).bind (fun(e:List Int)=>some (Exit.exit 6,⟨[(3,rP 3),(5,rP 5),(6,rP 6),(7,rP 8),(9,rO 9 1 w9.length),(12,rP 10),(19,rP 12),(72,rL 5 qh t72),(73,rI t73),(74,rI t74)],[(0,B.blk 26 [dL 8 qe b0]),(1,B.blk 114 [C.fn 115 [] [dP 2]]),(2,B.blk 22 [dO 7 1 w7.length]),(3,B.blk 3 [dI b3]),(4,B.blk 28 [dI QU,dI ZJ,dI ZK]),(5,B.blk 163 [C.fn 104 [] [dP 0,dP 1,dP 3,dP 4,dP 5,dP 6]]),(6,B.blk 114 [C.fn 116 [] [dP 2]]),(7,bR 3 1 eI w7),(8,B.blk 36 [dI JF,dI qcj,dI q0S,dL 2 qd q0T,dL 5 qh qck]),(9,bR 4 1 eB w9),(10,B.blk 164 [dO 11 1 w11.length]),(11,bR 3 1 eI w11),(12,B.blk 164 [dO 13 1 e.length]),(13,bR 3 1 eI e)],14,142⟩)):=
 by
 intro w7 w9 w11 w14 b0 b3 QU ZJ ZK JF qcj q0S q0T qck b12 t18 t72 t73 t74 t96 t97 JZ zM q4D qjP h0 h1 h2 h3
 subst h0 h1 h2 h3
 revert t97;revert w14;exact qaL qkm qlq (fun e=>by exact⟨_,rfl,fun h=>by cases h⟩) fun w14 t97=>by
  have hF':∀(qI Jp qZ:Int) (z6:List qc) (Jq:List qb) (w7:List Int) (v:List qa) (v2 qK z8 za:Int) (zM:Nat),zM=w7.length→rE (.fn 104) 7 [R.agg [dI qI,dI Jp,dI qZ,dL 2 qd z6,dL 5 qh Jq],rP 0,rP 1,rP 3,rP 4,rP 5,rP 6] [(0,B.blk 26 [dL 8 qe v]),(1,B.blk 114 [C.fn 115 [] [dP 2]]),(2,B.blk 22 [dO 7 1 zM]),(3,B.blk 3 [dI v2]),(4,B.blk 28 [dI qK,dI z8,dI za]),(5,B.blk 163 [C.fn 104 [] [dP 0,dP 1,dP 3,dP 4,dP 5,dP 6]]),(6,B.blk 114 [C.fn 116 [] [dP 2]]),(7,bR 3 1 eI w7)]=(rF ((qb.mk qI Jp qZ z6 Jq),w7,v,v2,(qg.mk qK z8 za))).bind (fun e=>some (rL 1 eB e.1,[(0,B.blk 26 [dL 8 qe e.2.2.1]),(1,B.blk 114 [C.fn 115 [] [dP 2]]),(2,B.blk 22 [dO 7 1 e.2.1.length]),(3,B.blk 3 [dI e.2.2.2.1]),(4,B.blk 28 [dI e.2.2.2.2.Worst,dI e.2.2.2.2.Best,dI e.2.2.2.2.Pass]),(5,B.blk 163 [C.fn 104 [] [dP 0,dP 1,dP 3,dP 4,dP 5,dP 6]]),(6,B.blk 114 [C.fn 116 [] [dP 2]]),(7,bR 3 1 eI e.2.1)])):=by intro qI Jp qZ z6 Jq w7 v v2 qK z8 za zM h0;subst h0;exact hF ((qb.mk qI Jp qZ z6 Jq),w7,v,v2,(qg.mk qK z8 za))
  have:=q9U;have:=@qcC.eq_1;have:=@q2G;have:=@QD.eq_1;exact gA
def QX (rF:(qb×List Int×List qa×Int×qg)→Option (List Bool×List Int×List qa×Int×qg)) (w9:List Bool) (b8:qb) (t72:List qb) (t73:Int):(List Int×List Int×List qa×Int×qg×Int)→Option ((List Int×List Int×List qa×Int×qg×Int)⊕(List Int×List Int×List qa×Int×qg))|(w7,w11,b0,b3,b4,t74)=>if t74<t73 then if 0≤t74∧t74<((t72.length:Nat):Int) then Option.bind t72[Int.toNat t74]? fun(a2:qb)=>Option.bind (rF (a2,(w7,(b0,(b3,b4))))) fun(a3:Prod (List Bool) (Prod (List Int) (Prod (List qa) (Prod Int qg))))=>if(b8.Kind==4)=Bool.true then Option.bind (q27 b3 a3.2.2.2.1 a3.2.1) fun(a4:Bool)=>if 0≤((w11.length:Nat):Int)∧8*((w11.length:Nat):Int)≤281474976710656∧((w11.length:Nat):Int)≤9223372036854775807 then Option.bind (zw (QD rF a3.2.1 w9 w11 a3.2.2.1 a3.2.2.2.1 a3.2.2.2.2 b8 a3.1 (!a4) t72 t73 t74 ((w11.length:Nat):Int)) (List.replicate w11.length 0,0)) fun(a5:List Int)=>some (Sum.inl (a3.2.1,a5,a3.2.2.1,a3.2.2.2.1,a3.2.2.2.2,w64 (t74+1))) else none else if 0≤((w11.length:Nat):Int)∧8*((w11.length:Nat):Int)≤281474976710656∧((w11.length:Nat):Int)≤9223372036854775807 then Option.bind (zw (QD rF a3.2.1 w9 w11 a3.2.2.1 a3.2.2.2.1 a3.2.2.2.2 b8 a3.1 Bool.false t72 t73 t74 ((w11.length:Nat):Int)) (List.replicate w11.length 0,0)) fun(a6:List Int)=>some (Sum.inl (a3.2.1,a6,a3.2.2.1,a3.2.2.2.1,a3.2.2.2.2,w64 (t74+1))) else none else none else some (Sum.inr (w7,w11,b0,b3,b4))
theorem q6y (rE:Orc) (rF:(qb×List Int×List qa×Int×qg)→Option (List Bool×List Int×List qa×Int×qg)) (hF:∀y,rE (.fn 104) 7 (zg y).1 (zg y).2=(rF y).bind fun e=>some (Qa e)) (hM:∀g k a G,g≠104→rE (.fn g) k a G=ev g k a G) (hR:∀g asg bd k a G,rE (.rd g asg bd) k a G=evr g asg bd k a G):∀(w7:List Int) (w9:List Bool) (w11:List Int) (b0:List qa) (b3 QU ZJ ZK JF qcj q0S:Int) (q0T:List qc) (qck t72:List qb) (t73 t74:Int) (JZ zM q4D:Nat),JZ=w9.length→zM=w7.length→q4D=w11.length→XL2 rE 104 7 18 ⟨[(3,rP 3),(5,rP 5),(6,rP 6),(7,rP 8),(9,rO 9 1 JZ),(12,rP 10),(72,rL 5 qh t72),(73,rI t73),(74,rI t74)],[(0,B.blk 26 [dL 8 qe b0]),(1,B.blk 114 [C.fn 115 [] [dP 2]]),(2,B.blk 22 [dO 7 1 zM]),(3,B.blk 3 [dI b3]),(4,B.blk 28 [dI QU,dI ZJ,dI ZK]),(5,B.blk 163 [C.fn 104 [] [dP 0,dP 1,dP 3,dP 4,dP 5,dP 6]]),(6,B.blk 114 [C.fn 116 [] [dP 2]]),(7,bR 3 1 eI w7),(8,B.blk 36 [dI JF,dI qcj,dI q0S,dL 2 qd q0T,dL 5 qh qck]),(9,bR 4 1 eB w9),(10,B.blk 164 [dO 11 1 q4D]),(11,bR 3 1 eI w11)],12,142⟩=(zw (QX rF w9 (qb.mk JF qcj q0S q0T qck) t72 t73) (w7,w11,b0,b3,(qg.mk QU ZJ ZK),t74)).bind (fun(e:List Int×List Int×List qa×Int×qg)=>some (Exit.exit 4,⟨[(7,rP 8),(9,rO 9 1 w9.length),(12,rP 10)],[(0,B.blk 26 [dL 8 qe e.2.2.1]),(1,B.blk 114 [C.fn 115 [] [dP 2]]),(2,B.blk 22 [dO 7 1 e.1.length]),(3,B.blk 3 [dI e.2.2.2.1]),(4,B.blk 28 [dI e.2.2.2.2.Worst,dI e.2.2.2.2.Best,dI e.2.2.2.2.Pass]),(5,B.blk 163 [C.fn 104 [] [dP 0,dP 1,dP 3,dP 4,dP 5,dP 6]]),(6,B.blk 114 [C.fn 116 [] [dP 2]]),(7,bR 3 1 eI e.1),(8,B.blk 36 [dI JF,dI qcj,dI q0S,dL 2 qd q0T,dL 5 qh qck]),(9,bR 4 1 eB w9),(10,B.blk 164 [dO 11 1 e.2.1.length]),(11,bR 3 1 eI e.2.1)],12,142⟩)):=
 by
 intro w7 w9 w11 b0 b3 QU ZJ ZK JF qcj q0S q0T qck t72 t73 t74 JZ zM q4D h0 h1 h2
 subst h0 h1 h2
 have h:=q5e (E:=rE) (f:=104) (k:=7) (st:=fun x:List Int×List Int×List qa×Int×qg×Int=>(⟨[(3,rP 3),(5,rP 5),(6,rP 6),(7,rP 8),(9,rO 9 1 w9.length),(12,rP 10),(72,rL 5 qh t72),(73,rI t73),(74,rI x.2.2.2.2.2)],[(0,B.blk 26 [dL 8 qe x.2.2.1]),(1,B.blk 114 [C.fn 115 [] [dP 2]]),(2,B.blk 22 [dO 7 1 x.1.length]),(3,B.blk 3 [dI x.2.2.2.1]),(4,B.blk 28 [dI x.2.2.2.2.1.Worst,dI x.2.2.2.2.1.Best,dI x.2.2.2.2.1.Pass]),(5,B.blk 163 [C.fn 104 [] [dP 0,dP 1,dP 3,dP 4,dP 5,dP 6]]),(6,B.blk 114 [C.fn 116 [] [dP 2]]),(7,bR 3 1 eI x.1),(8,B.blk 36 [dI JF,dI qcj,dI q0S,dL 2 qd q0T,dL 5 qh qck]),(9,bR 4 1 eB w9),(10,B.blk 164 [dO 11 1 x.2.1.length]),(11,bR 3 1 eI x.2.1)],12,142⟩:S)) (ex:=fun(e:List Int×List Int×List qa×Int×qg)=>(Exit.exit 4,⟨[(7,rP 8),(9,rO 9 1 w9.length),(12,rP 10)],[(0,B.blk 26 [dL 8 qe e.2.2.1]),(1,B.blk 114 [C.fn 115 [] [dP 2]]),(2,B.blk 22 [dO 7 1 e.1.length]),(3,B.blk 3 [dI e.2.2.2.1]),(4,B.blk 28 [dI e.2.2.2.2.Worst,dI e.2.2.2.2.Best,dI e.2.2.2.2.Pass]),(5,B.blk 163 [C.fn 104 [] [dP 0,dP 1,dP 3,dP 4,dP 5,dP 6]]),(6,B.blk 114 [C.fn 116 [] [dP 2]]),(7,bR 3 1 eI e.1),(8,B.blk 36 [dI JF,dI qcj,dI q0S,dL 2 qd q0T,dL 5 qh qck]),(9,bR 4 1 eB w9),(10,B.blk 164 [dO 11 1 e.2.1.length]),(11,bR 3 1 eI e.2.1)],12,142⟩)) (step:=(QX rF w9 (qb.mk JF qcj q0S q0T qck) t72 t73)) qli qkB (fun e h=>by cases h) (fun x=>by
  obtain⟨w7,w11,b0,b3,b4,t74⟩:=x;have hF':∀(qI Jp qZ:Int) (z6:List qc) (Jq:List qb) (w7:List Int) (v:List qa) (v2 qK z8 za:Int) (zM:Nat),zM=w7.length→rE (.fn 104) 7 [R.agg [dI qI,dI Jp,dI qZ,dL 2 qd z6,dL 5 qh Jq],rP 0,rP 1,rP 3,rP 4,rP 5,rP 6] [(0,B.blk 26 [dL 8 qe v]),(1,B.blk 114 [C.fn 115 [] [dP 2]]),(2,B.blk 22 [dO 7 1 zM]),(3,B.blk 3 [dI v2]),(4,B.blk 28 [dI qK,dI z8,dI za]),(5,B.blk 163 [C.fn 104 [] [dP 0,dP 1,dP 3,dP 4,dP 5,dP 6]]),(6,B.blk 114 [C.fn 116 [] [dP 2]]),(7,bR 3 1 eI w7)]=(rF ((qb.mk qI Jp qZ z6 Jq),w7,v,v2,(qg.mk qK z8 za))).bind (fun e=>some (rL 1 eB e.1,[(0,B.blk 26 [dL 8 qe e.2.2.1]),(1,B.blk 114 [C.fn 115 [] [dP 2]]),(2,B.blk 22 [dO 7 1 e.2.1.length]),(3,B.blk 3 [dI e.2.2.2.1]),(4,B.blk 28 [dI e.2.2.2.2.Worst,dI e.2.2.2.2.Best,dI e.2.2.2.2.Pass]),(5,B.blk 163 [C.fn 104 [] [dP 0,dP 1,dP 3,dP 4,dP 5,dP 6]]),(6,B.blk 114 [C.fn 116 [] [dP 2]]),(7,bR 3 1 eI e.2.1)])):=by intro qI Jp qZ z6 Jq w7 v v2 qK z8 za zM h0;subst h0;exact hF ((qb.mk qI Jp qZ z6 Jq),w7,v,v2,(qg.mk qK z8 za))
  have:=q9U;have:=@qcH.eq_1;have:=@qaN;have:=q5H rE rF hF hM hR;have:=@QX.eq_1;exact gA) (w7,w11,b0,b3,(qg.mk QU ZJ ZK),t74)
 exact h
def Z1 (rF:(qb×List Int×List qa×Int×qg)→Option (List Bool×List Int×List qa×Int×qg)) (w7:List Int) (w10:List Int) (b0:List qa) (b3:Int) (b4:qg) (t21:Int):(List Bool×Int)→Option ((List Bool×Int)⊕(List Bool))|(w8,t22)=>if t22<((w8.length:Nat):Int) then if 0≤t22∧t22<((w10.length:Nat):Int) then Option.bind w10[Int.toNat t22]? fun(a2:Int)=>if 0≤t22∧t22<((w8.length:Nat):Int) then if Int.toNat t22+1≤w8.length then some (Sum.inl (List.set w8 (Int.toNat t22) (decide (t21≤a2)),w64 (t22+1))) else none else none else none else some (Sum.inr w8)
theorem q6S (rE:Orc) (rF:(qb×List Int×List qa×Int×qg)→Option (List Bool×List Int×List qa×Int×qg)) (hF:∀y,rE (.fn 104) 7 (zg y).1 (zg y).2=(rF y).bind fun e=>some (Qa e)) (hM:∀g k a G,g≠104→rE (.fn g) k a G=ev g k a G) (hR:∀g asg bd k a G,rE (.rd g asg bd) k a G=evr g asg bd k a G):∀(w7:List Int) (w8:List Bool) (w10:List Int) (b0:List qa) (b3 QU ZJ ZK t21 t22:Int) (qe0 zM qjQ:Nat),qe0=w8.length→zM=w7.length→qjQ=w10.length→XL2 rE 104 7 38 ⟨[(9,rO 8 1 qe0),(12,rP 9),(21,rI t21),(22,rI t22)],[(0,B.blk 26 [dL 8 qe b0]),(1,B.blk 114 [C.fn 115 [] [dP 2]]),(2,B.blk 22 [dO 7 1 zM]),(3,B.blk 3 [dI b3]),(4,B.blk 28 [dI QU,dI ZJ,dI ZK]),(5,B.blk 163 [C.fn 104 [] [dP 0,dP 1,dP 3,dP 4,dP 5,dP 6]]),(6,B.blk 114 [C.fn 116 [] [dP 2]]),(7,bR 3 1 eI w7),(8,bR 4 1 eB w8),(9,B.blk 164 [dO 10 1 qjQ]),(10,bR 3 1 eI w10)],11,142⟩=(zw (Z1 rF w7 w10 b0 b3 (qg.mk QU ZJ ZK) t21) (w8,t22)).bind (fun(e:List Bool)=>some (Exit.exit 8,⟨[(9,rO 8 1 e.length)],[(0,B.blk 26 [dL 8 qe b0]),(1,B.blk 114 [C.fn 115 [] [dP 2]]),(2,B.blk 22 [dO 7 1 w7.length]),(3,B.blk 3 [dI b3]),(4,B.blk 28 [dI QU,dI ZJ,dI ZK]),(5,B.blk 163 [C.fn 104 [] [dP 0,dP 1,dP 3,dP 4,dP 5,dP 6]]),(6,B.blk 114 [C.fn 116 [] [dP 2]]),(7,bR 3 1 eI w7),(8,bR 4 1 eB e)],9,142⟩)):=
 by
 intro w7 w8 w10 b0 b3 QU ZJ ZK t21 t22 qe0 zM qjQ h0 h1 h2
 subst h0 h1 h2
 revert t22;revert w8;exact qaL qjX ql5 (fun e=>by exact⟨_,rfl,fun h=>by cases h⟩) fun w8 t22=>by
  have hF':∀(qI Jp qZ:Int) (z6:List qc) (Jq:List qb) (w7:List Int) (v:List qa) (v2 qK z8 za:Int) (zM:Nat),zM=w7.length→rE (.fn 104) 7 [R.agg [dI qI,dI Jp,dI qZ,dL 2 qd z6,dL 5 qh Jq],rP 0,rP 1,rP 3,rP 4,rP 5,rP 6] [(0,B.blk 26 [dL 8 qe v]),(1,B.blk 114 [C.fn 115 [] [dP 2]]),(2,B.blk 22 [dO 7 1 zM]),(3,B.blk 3 [dI v2]),(4,B.blk 28 [dI qK,dI z8,dI za]),(5,B.blk 163 [C.fn 104 [] [dP 0,dP 1,dP 3,dP 4,dP 5,dP 6]]),(6,B.blk 114 [C.fn 116 [] [dP 2]]),(7,bR 3 1 eI w7)]=(rF ((qb.mk qI Jp qZ z6 Jq),w7,v,v2,(qg.mk qK z8 za))).bind (fun e=>some (rL 1 eB e.1,[(0,B.blk 26 [dL 8 qe e.2.2.1]),(1,B.blk 114 [C.fn 115 [] [dP 2]]),(2,B.blk 22 [dO 7 1 e.2.1.length]),(3,B.blk 3 [dI e.2.2.2.1]),(4,B.blk 28 [dI e.2.2.2.2.Worst,dI e.2.2.2.2.Best,dI e.2.2.2.2.Pass]),(5,B.blk 163 [C.fn 104 [] [dP 0,dP 1,dP 3,dP 4,dP 5,dP 6]]),(6,B.blk 114 [C.fn 116 [] [dP 2]]),(7,bR 3 1 eI e.2.1)])):=by intro qI Jp qZ z6 Jq w7 v v2 qK z8 za zM h0;subst h0;exact hF ((qb.mk qI Jp qZ z6 Jq),w7,v,v2,(qg.mk qK z8 za))
  have:=q9U;have:=@qcw.eq_1;have:=@Z1.eq_1;exact gA
def q0n (rF:(qb×List Int×List qa×Int×qg)→Option (List Bool×List Int×List qa×Int×qg)):(qb×List Int×List qa×Int×qg)→Option (List Bool×List Int×List qa×Int×qg)|(x0,w7,v,v2,v3)=>if 0≤((v.length:Nat):Int) then if 0≤w64 (1*2 ^ min v.length (IntKind.bits IntKind.i64))∧1*w64 (1*2 ^ min v.length (IntKind.bits IntKind.i64))≤281474976710656∧w64 (1*2 ^ min v.length (IntKind.bits IntKind.i64))≤9223372036854775807 then if q0a x0=Bool.true then Option.bind (q1l x0.Kind) fun(a2:Sum Unit Unit)=>Sum.elim (fun(a3:Unit)=>Option.bind (zw (ZM rF w7 v v2 v3 x0) (List.replicate (Int.toNat (w64 (1*2 ^ min v.length (IntKind.bits IntKind.i64)))) Bool.false,1)) fun(a5:List Bool)=>some (a5,w7,v,w64 (v2+1),v3)) (fun(a4:Unit)=>Option.bind (zw (ZN rF w7 v v2 v3 x0) (List.replicate (Int.toNat (w64 (1*2 ^ min v.length (IntKind.bits IntKind.i64)))) Bool.false,1)) fun(a6:List Bool)=>some (a6,w7,v,w64 (v2+1),v3)) a2 else if 0≤((Int.toNat (w64 (1*2 ^ min v.length (IntKind.bits IntKind.i64))):Nat):Int)∧8*((Int.toNat (w64 (1*2 ^ min v.length (IntKind.bits IntKind.i64))):Nat):Int)≤281474976710656∧((Int.toNat (w64 (1*2 ^ min v.length (IntKind.bits IntKind.i64))):Nat):Int)≤9223372036854775807 then Option.bind (zw (QZ rF w7 (List.replicate (Int.toNat (w64 (1*2 ^ min v.length (IntKind.bits IntKind.i64)))) Bool.false) v v2 v3 x0) (List.replicate (Int.toNat (w64 (1*2 ^ min v.length (IntKind.bits IntKind.i64)))) 0,1)) fun(a7:List Int)=>Option.bind (zw (QX rF (List.replicate (Int.toNat (w64 (1*2 ^ min v.length (IntKind.bits IntKind.i64)))) Bool.false) x0 x0.L ((x0.L.length:Nat):Int)) (w7,(a7,(v,(v2,(v3,0)))))) fun(a8:Prod (List Int) (Prod (List Int) (Prod (List qa) (Prod Int qg))))=>if(x0.Kind==3)=Bool.true then Option.bind (zw (Z1 rF a8.1 a8.2.1 a8.2.2.1 a8.2.2.2.1 a8.2.2.2.2 ((x0.L.length:Nat):Int)) (List.replicate (Int.toNat (w64 (1*2 ^ min v.length (IntKind.bits IntKind.i64)))) Bool.false,1)) fun(a9:List Bool)=>some (a9,a8.1,a8.2.2.1,a8.2.2.2.1,a8.2.2.2.2) else Option.bind (zw (Z1 rF a8.1 a8.2.1 a8.2.2.1 a8.2.2.2.1 a8.2.2.2.2 x0.N) (List.replicate (Int.toNat (w64 (1*2 ^ min v.length (IntKind.bits IntKind.i64)))) Bool.false,1)) fun(a10:List Bool)=>some (a10,a8.1,a8.2.2.1,a8.2.2.2.1,a8.2.2.2.2) else none else none else none
theorem q4S:q8v 104 7 zg Qa q0n:=by
 intro rE rF hF hM hR x
 obtain⟨x0,w7,v,v2,v3⟩:=x
 show qb9 rE 104 7 [R.agg [dI x0.Kind,dI x0.N,dI x0.Min,dL 2 qd x0.Set,dL 5 qh x0.L],rP 0,rP 1,rP 3,rP 4,rP 5,rP 6] [(0,B.blk 26 [dL 8 qe v]),(1,B.blk 114 [C.fn 115 [] [dP 2]]),(2,B.blk 22 [dO 7 1 w7.length]),(3,B.blk 3 [dI v2]),(4,B.blk 28 [dI v3.Worst,dI v3.Best,dI v3.Pass]),(5,B.blk 163 [C.fn 104 [] [dP 0,dP 1,dP 3,dP 4,dP 5,dP 6]]),(6,B.blk 114 [C.fn 116 [] [dP 2]]),(7,bR 3 1 eI w7)]=_
 have hF':∀(qI Jp qZ:Int) (z6:List qc) (Jq:List qb) (w7:List Int) (v:List qa) (v2 qK z8 za:Int) (zM:Nat),zM=w7.length→rE (.fn 104) 7 [R.agg [dI qI,dI Jp,dI qZ,dL 2 qd z6,dL 5 qh Jq],rP 0,rP 1,rP 3,rP 4,rP 5,rP 6] [(0,B.blk 26 [dL 8 qe v]),(1,B.blk 114 [C.fn 115 [] [dP 2]]),(2,B.blk 22 [dO 7 1 zM]),(3,B.blk 3 [dI v2]),(4,B.blk 28 [dI qK,dI z8,dI za]),(5,B.blk 163 [C.fn 104 [] [dP 0,dP 1,dP 3,dP 4,dP 5,dP 6]]),(6,B.blk 114 [C.fn 116 [] [dP 2]]),(7,bR 3 1 eI w7)]=(rF ((qb.mk qI Jp qZ z6 Jq),w7,v,v2,(qg.mk qK z8 za))).bind (fun e=>some (rL 1 eB e.1,[(0,B.blk 26 [dL 8 qe e.2.2.1]),(1,B.blk 114 [C.fn 115 [] [dP 2]]),(2,B.blk 22 [dO 7 1 e.2.1.length]),(3,B.blk 3 [dI e.2.2.2.1]),(4,B.blk 28 [dI e.2.2.2.2.Worst,dI e.2.2.2.2.Best,dI e.2.2.2.2.Pass]),(5,B.blk 163 [C.fn 104 [] [dP 0,dP 1,dP 3,dP 4,dP 5,dP 6]]),(6,B.blk 114 [C.fn 116 [] [dP 2]]),(7,bR 3 1 eI e.2.1)])):=by intro qI Jp qZ z6 Jq w7 v v2 qK z8 za zM h0;subst h0;exact hF ((qb.mk qI Jp qZ z6 Jq),w7,v,v2,(qg.mk qK z8 za))
 rw[q4T qfq qiV]
 have:=q9U;have:=@q3Y;have:=@q58;have:=q5V rE rF hF hM hR;have:=q63 rE rF hF hM hR;have:=q5x rE rF hF hM hR;have:=q6y rE rF hF hM hR;have:=q6S rE rF hF hM hR;have:=@q0n.eq_1;have:=@Qa.eq_1;exact gA
theorem q2Q:∀x y,zg x=zg y→x=y:=by
 rintro⟨⟨qF9,qFa,qFb,qFc,qFd⟩,a1,a2,a3,⟨qPE,qPF,qPG⟩⟩ ⟨⟨qFe,qFf,qFg,qFh,qFi⟩,b1,b2,b3,⟨qPH,qPI,qPJ⟩⟩ h
 simp only[zg,Prod.mk.injEq,List.cons.injEq,R.c.injEq,R.agg.injEq,R.tup.injEq,C.d.injEq,C.own.injEq,C.ptr.injEq,C.eptr.injEq,D.int.injEq,D.bool.injEq,D.str.injEq,D.sl.injEq,B.blk.injEq,B.row.injEq,q11,q2R,q1S,q1X,q2m,q2l,q4B,q4m,q4s,q16,true_and,and_true,qQp] at h
 simp only[h]
theorem q7n:∀x y,Qa x=Qa y→x=y:=by
 rintro⟨a0,a1,a2,a3,⟨qPE,qPF,qPG⟩⟩ ⟨b0,b1,b2,b3,⟨qPH,qPI,qPJ⟩⟩ h
 simp only[Qa,Prod.mk.injEq,List.cons.injEq,R.c.injEq,R.agg.injEq,R.tup.injEq,C.d.injEq,C.own.injEq,C.ptr.injEq,C.eptr.injEq,D.int.injEq,D.bool.injEq,D.str.injEq,D.sl.injEq,B.blk.injEq,B.row.injEq,q11,q2R,q1S,q1X,q2m,q2l,q4B,q4m,q4s,q16,true_and,and_true,qQp] at h
 simp only[h]
def zL:(qb×List Int×List qa×Int×qg)→Option (List Bool×List Int×List qa×Int×qg):=q8L 104 7 zg Qa
theorem q9X (x:(qb×List Int×List qa×Int×qg)):zL x=q0n zL x:=qdr qpi.2.2.2 q2Q q7n q4S x
theorem q97 (x0:qb) (w7:List Int) (v:List qa) (v2:Int) (v3:qg):ev 104 7 [R.agg [dI x0.Kind,dI x0.N,dI x0.Min,dL 2 qd x0.Set,dL 5 qh x0.L],rP 0,rP 1,rP 3,rP 4,rP 5,rP 6] [(0,B.blk 26 [dL 8 qe v]),(1,B.blk 114 [C.fn 115 [] [dP 2]]),(2,B.blk 22 [dO 7 1 w7.length]),(3,B.blk 3 [dI v2]),(4,B.blk 28 [dI v3.Worst,dI v3.Best,dI v3.Pass]),(5,B.blk 163 [C.fn 104 [] [dP 0,dP 1,dP 3,dP 4,dP 5,dP 6]]),(6,B.blk 114 [C.fn 116 [] [dP 2]]),(7,bR 3 1 eI w7)]=(zL (x0,w7,v,v2,v3)).bind (fun(e:List Bool×List Int×List qa×Int×qg)=>some (rL 1 eB e.1,[(0,B.blk 26 [dL 8 qe e.2.2.1]),(1,B.blk 114 [C.fn 115 [] [dP 2]]),(2,B.blk 22 [dO 7 1 e.2.1.length]),(3,B.blk 3 [dI e.2.2.2.1]),(4,B.blk 28 [dI e.2.2.2.2.Worst,dI e.2.2.2.2.Best,dI e.2.2.2.2.Pass]),(5,B.blk 163 [C.fn 104 [] [dP 0,dP 1,dP 3,dP 4,dP 5,dP 6]]),(6,B.blk 114 [C.fn 116 [] [dP 2]]),(7,bR 3 1 eI e.2.1)])):=(q9y qpi.2.2.2 q2Q q4S (x0,w7,v,v2,v3))
theorem qa1:∀(qI Jp qZ:Int) (z6:List qc) (Jq:List qb) (w7:List Int) (v:List qa) (v2 qK z8 za:Int) (zM:Nat),zM=w7.length→ev 104 7 [R.agg [dI qI,dI Jp,dI qZ,dL 2 qd z6,dL 5 qh Jq],rP 0,rP 1,rP 3,rP 4,rP 5,rP 6] [(0,B.blk 26 [dL 8 qe v]),(1,B.blk 114 [C.fn 115 [] [dP 2]]),(2,B.blk 22 [dO 7 1 zM]),(3,B.blk 3 [dI v2]),(4,B.blk 28 [dI qK,dI z8,dI za]),(5,B.blk 163 [C.fn 104 [] [dP 0,dP 1,dP 3,dP 4,dP 5,dP 6]]),(6,B.blk 114 [C.fn 116 [] [dP 2]]),(7,bR 3 1 eI w7)]=(zL ((qb.mk qI Jp qZ z6 Jq),w7,v,v2,(qg.mk qK z8 za))).bind (fun(e:List Bool×List Int×List qa×Int×qg)=>some (rL 1 eB e.1,[(0,B.blk 26 [dL 8 qe e.2.2.1]),(1,B.blk 114 [C.fn 115 [] [dP 2]]),(2,B.blk 22 [dO 7 1 e.2.1.length]),(3,B.blk 3 [dI e.2.2.2.1]),(4,B.blk 28 [dI e.2.2.2.2.Worst,dI e.2.2.2.2.Best,dI e.2.2.2.2.Pass]),(5,B.blk 163 [C.fn 104 [] [dP 0,dP 1,dP 3,dP 4,dP 5,dP 6]]),(6,B.blk 114 [C.fn 116 [] [dP 2]]),(7,bR 3 1 eI e.2.1)])):=
 by
 intro qI Jp qZ z6 Jq w7 v v2 qK z8 za zM h0
 subst h0
 exact q97 (qb.mk qI Jp qZ z6 Jq) w7 v v2 (qg.mk qK z8 za)
def q2H (n:qb) (s:qg) (l:List qa) (w1:List Int):Option (List Bool×List Int):=Option.bind (zL (n,(w1,(l,(0,s))))) fun(a:Prod (List Bool) (Prod (List Int) (Prod (List qa) (Prod Int qg))))=>some (a.1,a.2.1)
theorem qce:∀(qB n_N qP:Int) (qQ:List qc) (n_L:List qb) (zo Q1 Q2:Int) (l:List qa) (w1:List Int) (QS:Nat),QS=w1.length→ev 61 1 [R.agg [dI qB,dI n_N,dI qP,dL 2 qd qQ,dL 5 qh n_L],R.agg [dI zo,dI Q1,dI Q2],rL 8 qe l,R.c (C.fn 115 [] [dP 0]),R.c (C.fn 116 [] [dP 0])] [(0,B.blk 22 [dO 1 1 QS]),(1,bR 3 1 eI w1)]=(q2H (qb.mk qB n_N qP qQ n_L) (qg.mk zo Q1 Q2) l w1).bind (fun(e:List Bool×List Int)=>some (rL 1 eB e.1,[(0,B.blk 22 [dO 1 1 e.2.length]),(1,bR 3 1 eI e.2)])):=
 by
 intro qB n_N qP qQ n_L zo Q1 Q2 l w1 QS h0
 subst h0
 rw[qU qFv qJE.2.2.2 qKm]
 have:=qK8;have:=@qa1;have:=@q2H.eq_1;exact gA
def q04 (w4:List Int) (b0:qb) (b1:qg) (t2:List qa) (t3:Int) (t16:Int) (t49:Int) (t50:Int):(List Int)→Option ((List Int)⊕(List Int))|w3=>Option.bind (q2H b0 b1 t2 w3) fun(a:Prod (List Bool) (List Int))=>if 0≤t3∧t3<((a.1.length:Nat):Int) then Option.bind a.1[Int.toNat t3]? fun(a2:Bool)=>if(!a2)=Bool.true then if 0≤t16∧t16<((a.2.length:Nat):Int) then Option.bind a.2[Int.toNat t16]? fun(a3:Int)=>if 0≤t16∧t16<((a.2.length:Nat):Int) then if Int.toNat t16+1≤a.2.length then some (Sum.inl (List.set a.2 (Int.toNat t16) (w64 (a3+1)))) else none else none else none else some (Sum.inr a.2) else none
theorem q8R:∀(w3 w4:List Int) (q1A qhG q3J:Int) (q3K:List qc) (q3X:List qb) (qX zx zy:Int) (t2:List qa) (t3 t16 t49 t50:Int) (Zo q1B:Nat),Zo=w4.length→q1B=w3.length→XL2 evo 72 0 14 ⟨[(2,rL 8 qe t2),(3,rI t3),(4,rP 0),(5,rP 1),(12,rP 2),(13,R.c (C.fn 115 [] [dP 2])),(14,R.c (C.fn 116 [] [dP 2])),(15,rO 4 1 Zo),(16,rI t16),(49,rI t49),(50,rI t50)],[(0,B.blk 36 [dI q1A,dI qhG,dI q3J,dL 2 qd q3K,dL 5 qh q3X]),(1,B.blk 28 [dI qX,dI zx,dI zy]),(2,B.blk 22 [dO 3 1 q1B]),(3,bR 3 1 eI w3),(4,bR 3 1 eI w4)],5,89⟩=(zw (q04 w4 (qb.mk q1A qhG q3J q3K q3X) (qg.mk qX zx zy) t2 t3 t16 t49 t50) w3).bind (fun(e:List Int)=>some (Exit.exit 2,⟨[(2,rL 8 qe t2),(3,rI t3),(4,rP 0),(5,rP 1),(12,rP 2),(13,R.c (C.fn 115 [] [dP 2])),(14,R.c (C.fn 116 [] [dP 2])),(15,rO 4 1 w4.length),(16,rI t16),(49,rI t49),(50,rI t50)],[(0,B.blk 36 [dI q1A,dI qhG,dI q3J,dL 2 qd q3K,dL 5 qh q3X]),(1,B.blk 28 [dI qX,dI zx,dI zy]),(2,B.blk 22 [dO 3 1 e.length]),(3,bR 3 1 eI e),(4,bR 3 1 eI w4)],5,89⟩)):=
 by
 intro w3 w4 q1A qhG q3J q3K q3X qX zx zy t2 t3 t16 t49 t50 Zo q1B h0 h1
 subst h0 h1
 revert w3;exact qbL qvd qyl (fun e=>by exact⟨_,rfl,fun h=>by cases h⟩) fun x=>by
  have:=qH0;have:=@qi5.eq_1;have:=@qce;have:=@q04.eq_1;exact gA
def Jj (b0:qb) (b1:qg) (t2:List qa) (t3:Int) (t49:Int):(List Int×List Int×Int)→Option ((List Int×List Int×Int)⊕(List Int))|(w3,w4,t50)=>if t50<t49 then if w3.length+1≤maxLen∧(w3.length+1)*8≤140737488355328 then if 0≤t50 then if(ZT Go.BinOp.and IntKind.i64 (Int.fdiv t3 (2 ^ min (Int.toNat t50) (IntKind.bits IntKind.i64))) 1==0)=Bool.true then some (Sum.inl (w3++[(-1)],w4,w64 (t50+1))) else if 0≤t50∧t50<((w3.length+1:Nat):Int) then if Int.toNat t50≤w3.length then Option.bind (zw (q04 w4 b0 b1 t2 t3 t50 t49 t50) (List.set (w3++[(-1)]) (Int.toNat t50) 0)) fun(a:List Int)=>if 0≤t50∧t50<((a.length:Nat):Int) then Option.bind a[Int.toNat t50]? fun(a2:Int)=>if w4.length+1≤maxLen∧(w4.length+1)*8≤140737488355328 then some (Sum.inl (a,w4++[a2],w64 (t50+1))) else none else none else none else none else none else none else some (Sum.inr w4)
theorem qay:∀(w3 w4:List Int) (q1A qhG q3J:Int) (q3K:List qc) (q3X:List qb) (qX zx zy:Int) (t2:List qa) (t3 t49 t50:Int) (Zo q1B:Nat),Zo=w4.length→q1B=w3.length→XL2 evo 72 0 9 ⟨[(2,rL 8 qe t2),(3,rI t3),(4,rP 0),(5,rP 1),(12,rP 2),(13,R.c (C.fn 115 [] [dP 2])),(14,R.c (C.fn 116 [] [dP 2])),(15,rO 4 1 Zo),(49,rI t49),(50,rI t50)],[(0,B.blk 36 [dI q1A,dI qhG,dI q3J,dL 2 qd q3K,dL 5 qh q3X]),(1,B.blk 28 [dI qX,dI zx,dI zy]),(2,B.blk 22 [dO 3 1 q1B]),(3,bR 3 1 eI w3),(4,bR 3 1 eI w4)],5,89⟩=(zw (Jj (qb.mk q1A qhG q3J q3K q3X) (qg.mk qX zx zy) t2 t3 t49) (w3,w4,t50)).bind (fun(e:List Int)=>some (Exit.exit 0,⟨[(15,rO 0 1 e.length)],[(0,bR 3 1 eI e)],1,89⟩)):=
 by
 intro w3 w4 q1A qhG q3J q3K q3X qX zx zy t2 t3 t49 t50 Zo q1B h0 h1
 subst h0 h1
 revert t50;revert w4;revert w3;exact qFy qEP qAX (fun e=>by exact⟨_,rfl,fun h=>by cases h⟩) fun w3 w4 t50=>by
  have:=qH0;have:=@qpn.eq_1;have:=@q8R;have:=@Jj.eq_1;exact gA
theorem q7g:∀  (q1A qhG q3J:Int) (q3K:List qc) (q3X:List qb) (qX zx zy:Int) (t2:List qa) (t3 t49 t50:Int),XL2 evo 72 0 9 ⟨[(2,rL 8 qe t2),(3,rI t3),(4,rP 0),(5,rP 1),(12,rP 2),(13,R.c (C.fn 115 [] [dP 2])),(14,R.c (C.fn 116 [] [dP 2])),(15,rO 4 1 0),(49,rI t49),(50,rI t50)],[(0,B.blk 36 [dI q1A,dI qhG,dI q3J,dL 2 qd q3K,dL 5 qh q3X]),(1,B.blk 28 [dI qX,dI zx,dI zy]),(2,B.blk 22 [dO 3 1 0]),(3,B.row 3 1 []),(4,B.row 3 1 [])],5,89⟩=(zw (Jj (qb.mk q1A qhG q3J q3K q3X) (qg.mk qX zx zy) t2 t3 t49) ([],[],t50)).bind (fun(e:List Int)=>some (Exit.exit 0,⟨[(15,rO 0 1 e.length)],[(0,bR 3 1 eI e)],1,89⟩)):=by
 intro q1A qhG q3J q3K q3X qX zx zy t2 t3 t49 t50;have h:=qay [] [] ((qb.mk q1A qhG q3J q3K q3X)).Kind ((qb.mk q1A qhG q3J q3K q3X)).N ((qb.mk q1A qhG q3J q3K q3X)).Min ((qb.mk q1A qhG q3J q3K q3X)).Set ((qb.mk q1A qhG q3J q3K q3X)).L ((qg.mk qX zx zy)).Worst ((qg.mk qX zx zy)).Best ((qg.mk qX zx zy)).Pass t2 t3 t49 t50 _ _ rfl rfl
 first
  | exact h
  | (simp only[rL,dL,bR,bZ,Nat.reduceAdd] at h;exact h)
def q1j (x0:qb) (x1:qg) (x2:List qa) (x3:Int):Option (List Int×Bool):=Option.bind (q35 x0 x1 x2) fun(a:Prod (List Bool) Int)=>if(a.2 != 0)=Bool.true then some ([],Bool.false) else if x3<0 then some ([],Bool.false) else if((a.1.length:Nat):Int)≤x3 then some ([],Bool.false) else if 0≤x3∧x3<((a.1.length:Nat):Int) then Option.bind a.1[Int.toNat x3]? fun(a2:Bool)=>if(!a2)=Bool.true then some ([],Bool.false) else if 0≤((x2.length:Nat):Int)∧8*((x2.length:Nat):Int)≤281474976710656∧((x2.length:Nat):Int)≤9223372036854775807 then Option.bind (zw (Jj x0 x1 x2 x3 ((x2.length:Nat):Int)) ([],([],0))) fun(a3:List Int)=>some (a3,Bool.true) else none else none
theorem qcQ:∀(qI Jp qZ:Int) (z6:List qc) (Jq:List qb) (ZW q02 q03:Int) (x2:List qa) (x3:Int),ev 72 0 [R.agg [dI qI,dI Jp,dI qZ,dL 2 qd z6,dL 5 qh Jq],R.agg [dI ZW,dI q02,dI q03],rL 8 qe x2,rI x3] []=(q1j (qb.mk qI Jp qZ z6 Jq) (qg.mk ZW q02 q03) x2 x3).bind (fun(e:List Int×Bool)=>some (R.tup [rL 1 eI e.1,rB e.2],[])):=
 fun qI Jp qZ z6 Jq ZW q02 q03 x2 x3=>by
  rw[qU qE6 qLj.2.2.2 qHi]
  have:=qH0;have:=@q9S;have:=@q7g;have:=@q1j.eq_1;exact gA
def QB (w2:List Int) (b0:qf) (b1:qg) (t2:List qa) (t3:List Bool) (t4:Int) (t11:Bool) (t12:Int) (t46:List Int) (t47:Int):(List Int×List Int×Int)→Option ((List Int×List Int×Int)⊕(List Int))|(w3,t13,t48)=>if t48<t47 then if 0≤t48∧t48<((t46.length:Nat):Int) then Option.bind t46[Int.toNat t48]? fun(a:Int)=>if 0≤a then if(ZT Go.BinOp.and IntKind.i64 (Int.fdiv t12 (2 ^ min (Int.toNat a) (IntKind.bits IntKind.i64))) 1==0)=Bool.true then if w3.length+1≤maxLen∧(w3.length+1)*8≤140737488355328 then some (Sum.inl (w3++[(-1)],t13,w64 (t48+1))) else none else if 0<((t13.length:Nat):Int) then Option.bind t13[0]? fun(a2:Int)=>if w3.length+1≤maxLen∧(w3.length+1)*8≤140737488355328 then if 1≤((t13.length:Nat):Int) then some (Sum.inl (w3++[a2],List.take (t13.length-1) (List.drop 1 t13),w64 (t48+1))) else none else none else none else none else none else some (Sum.inr w3)
theorem q7y:∀(w2 w3:List Int) (qq zJ qn qC:Int) (qD:ByteArray) (qj qr ql:Int) (qm:List qc) (qu:List qb) (qw qR qS:Int) (qo:List (q05 qc)) (qX zx zy:Int) (t2:List qa) (t3:List Bool) (t4:Int) (t11:Bool) (t12:Int) (t13 t46:List Int) (t47 t48:Int) (q2K q1B:Nat),q2K=w2.length→q1B=w3.length→XL2 evo 39 0 9 ⟨[(2,rL 8 qe t2),(3,rL 1 eB t3),(4,rI t4),(5,rP 0),(6,rP 1),(10,rO 2 1 q2K),(11,rB t11),(12,rI t12),(13,rL 1 eI t13),(15,rO 3 1 q1B),(46,rL 1 eI t46),(47,rI t47),(48,rI t48)],[(0,B.blk 39 [dI qq,dI zJ,dI qn,dI qC,dS qD,dI qj,dI qr,dI ql,dL 2 qd qm,dL 5 qh qu,dI qw,dI qR,dI qS,dL 4 (eA2 qd) qo]),(1,B.blk 28 [dI qX,dI zx,dI zy]),(2,bR 3 1 eI w2),(3,bR 3 1 eI w3)],4,80⟩=(zw (QB w2 (qf.mk qq zJ qn qC qD (qb.mk qj qr ql qm qu) qw qR qS qo) (qg.mk qX zx zy) t2 t3 t4 t11 t12 t46 t47) (w3,t13,t48)).bind (fun(e:List Int)=>some (Exit.exit 2,⟨[(2,rL 8 qe t2),(3,rL 1 eB t3),(4,rI t4),(5,rP 0),(6,rP 1),(10,rO 2 1 w2.length),(11,rB t11),(12,rI t12),(15,rO 3 1 e.length)],[(0,B.blk 39 [dI qq,dI zJ,dI qn,dI qC,dS qD,dI qj,dI qr,dI ql,dL 2 qd qm,dL 5 qh qu,dI qw,dI qR,dI qS,dL 4 (eA2 qd) qo]),(1,B.blk 28 [dI qX,dI zx,dI zy]),(2,bR 3 1 eI w2),(3,bR 3 1 eI e)],4,80⟩)):=
 by
 intro w2 w3 qq zJ qn qC qD qj qr ql qm qu qw qR qS qo qX zx zy t2 t3 t4 t11 t12 t13 t46 t47 t48 q2K q1B h0 h1
 subst h0 h1
 revert t48;revert t13;revert w3;exact qFy qEr qzU (fun e=>by exact⟨_,rfl,fun h=>by cases h⟩) fun w3 t13 t48=>by
  have:=qIO;have:=@qny.eq_1;have:=@QB.eq_1;exact gA
theorem q5I:∀  (w2:List Int) (qq zJ qn qC:Int) (qD:ByteArray) (qj qr ql:Int) (qm:List qc) (qu:List qb) (qw qR qS:Int) (qo:List (q05 qc)) (qX zx zy:Int) (t2:List qa) (t3:List Bool) (t4:Int) (t11:Bool) (t12:Int) (t13 t46:List Int) (t47 t48:Int) (q2K:Nat),q2K=w2.length→XL2 evo 39 0 9 ⟨[(2,rL 8 qe t2),(3,rL 1 eB t3),(4,rI t4),(5,rP 0),(6,rP 1),(10,rO 2 1 q2K),(11,rB t11),(12,rI t12),(13,rL 1 eI t13),(15,rO 3 1 0),(46,rL 1 eI t46),(47,rI t47),(48,rI t48)],[(0,B.blk 39 [dI qq,dI zJ,dI qn,dI qC,dS qD,dI qj,dI qr,dI ql,dL 2 qd qm,dL 5 qh qu,dI qw,dI qR,dI qS,dL 4 (eA2 qd) qo]),(1,B.blk 28 [dI qX,dI zx,dI zy]),(2,bR 3 1 eI w2),(3,B.row 3 1 [])],4,80⟩=(zw (QB w2 (qf.mk qq zJ qn qC qD (qb.mk qj qr ql qm qu) qw qR qS qo) (qg.mk qX zx zy) t2 t3 t4 t11 t12 t46 t47) ([],t13,t48)).bind (fun(e:List Int)=>some (Exit.exit 2,⟨[(2,rL 8 qe t2),(3,rL 1 eB t3),(4,rI t4),(5,rP 0),(6,rP 1),(10,rO 2 1 w2.length),(11,rB t11),(12,rI t12),(15,rO 3 1 e.length)],[(0,B.blk 39 [dI qq,dI zJ,dI qn,dI qC,dS qD,dI qj,dI qr,dI ql,dL 2 qd qm,dL 5 qh qu,dI qw,dI qR,dI qS,dL 4 (eA2 qd) qo]),(1,B.blk 28 [dI qX,dI zx,dI zy]),(2,bR 3 1 eI w2),(3,bR 3 1 eI e)],4,80⟩)):=by
 intro w2 qq zJ qn qC qD qj qr ql qm qu qw qR qS qo qX zx zy t2 t3 t4 t11 t12 t13 t46 t47 t48 q2K h0;subst h0;have h:=q7y w2 [] ((qf.mk qq zJ qn qC qD (qb.mk qj qr ql qm qu) qw qR qS qo)).School ((qf.mk qq zJ qn qC qD (qb.mk qj qr ql qm qu) qw qR qS qo)).Id ((qf.mk qq zJ qn qC qD (qb.mk qj qr ql qm qu) qw qR qS qo)).Version ((qf.mk qq zJ qn qC qD (qb.mk qj qr ql qm qu) qw qR qS qo)).From ((qf.mk qq zJ qn qC qD (qb.mk qj qr ql qm qu) qw qR qS qo)).Name ((qf.mk qq zJ qn qC qD (qb.mk qj qr ql qm qu) qw qR qS qo)).Need.Kind ((qf.mk qq zJ qn qC qD (qb.mk qj qr ql qm qu) qw qR qS qo)).Need.N ((qf.mk qq zJ qn qC qD (qb.mk qj qr ql qm qu) qw qR qS qo)).Need.Min ((qf.mk qq zJ qn qC qD (qb.mk qj qr ql qm qu) qw qR qS qo)).Need.Set ((qf.mk qq zJ qn qC qD (qb.mk qj qr ql qm qu) qw qR qS qo)).Need.L ((qf.mk qq zJ qn qC qD (qb.mk qj qr ql qm qu) qw qR qS qo)).Total ((qf.mk qq zJ qn qC qD (qb.mk qj qr ql qm qu) qw qR qS qo)).Own ((qf.mk qq zJ qn qC qD (qb.mk qj qr ql qm qu) qw qR qS qo)).Age ((qf.mk qq zJ qn qC qD (qb.mk qj qr ql qm qu) qw qR qS qo)).Exclude ((qg.mk qX zx zy)).Worst ((qg.mk qX zx zy)).Best ((qg.mk qX zx zy)).Pass t2 t3 t4 t11 t12 t13 t46 t47 t48 _ _ rfl rfl
 first
  | exact h
  | (simp only[rL,dL,bR,bZ,Nat.reduceAdd] at h;exact h)
def Zf (b0:qf) (b1:qg) (t2:List qa) (t3:List Bool) (t4:Int):(List Int×Bool×Int)→Option ((List Int×Bool×Int)⊕(List Int×Bool))|(w2,t11,t12)=>if 0≤t12 then if(ZT Go.BinOp.andNot IntKind.i64 t12 t4 != 0)=Bool.true then some (Sum.inl (w2,t11,w64 (t12-1))) else if 0≤t12∧t12<((t3.length:Nat):Int) then Option.bind t3[Int.toNat t12]? fun(a:Bool)=>if(!a)=Bool.true then some (Sum.inl (w2,t11,w64 (t12-1))) else Option.bind (q1j b0.Need b1 t2 t12) fun(a2:Prod (List Int) Bool)=>if(!a2.2)=Bool.true then some (Sum.inl (w2,t11,w64 (t12-1))) else Option.bind (ZU t4) fun(a3:List Int)=>Option.bind (zw (QB w2 b0 b1 t2 t3 t4 t11 t12 a3 ((a3.length:Nat):Int)) ([],(a2.1,0))) fun(a4:List Int)=>if(!t11)=Bool.true then some (Sum.inl (a4,Bool.true,w64 (t12-1))) else Option.bind (QV a4 w2) fun(a5:Int)=>if a5<0 then some (Sum.inl (a4,Bool.true,w64 (t12-1))) else some (Sum.inl (w2,t11,w64 (t12-1))) else none else some (Sum.inr (w2,t11))
theorem q78:∀(w2:List Int) (qq zJ qn qC:Int) (qD:ByteArray) (qj qr ql:Int) (qm:List qc) (qu:List qb) (qw qR qS:Int) (qo:List (q05 qc)) (qX zx zy:Int) (t2:List qa) (t3:List Bool) (t4:Int) (t11:Bool) (t12:Int) (q2K:Nat),q2K=w2.length→XL2 evo 39 0 2 ⟨[(2,rL 8 qe t2),(3,rL 1 eB t3),(4,rI t4),(5,rP 0),(6,rP 1),(10,rO 2 1 q2K),(11,rB t11),(12,rI t12)],[(0,B.blk 39 [dI qq,dI zJ,dI qn,dI qC,dS qD,dI qj,dI qr,dI ql,dL 2 qd qm,dL 5 qh qu,dI qw,dI qR,dI qS,dL 4 (eA2 qd) qo]),(1,B.blk 28 [dI qX,dI zx,dI zy]),(2,bR 3 1 eI w2)],3,80⟩=(zw (Zf (qf.mk qq zJ qn qC qD (qb.mk qj qr ql qm qu) qw qR qS qo) (qg.mk qX zx zy) t2 t3 t4) (w2,t11,t12)).bind (fun(e:List Int×Bool)=>some (Exit.exit 0,⟨[(10,rO 0 1 e.1.length),(11,rB e.2)],[(0,bR 3 1 eI e.1)],1,80⟩)):=
 by
 intro w2 qq zJ qn qC qD qj qr ql qm qu qw qR qS qo qX zx zy t2 t3 t4 t11 t12 q2K h0
 subst h0
 revert t12;revert t11;revert w2;exact qFy qAU qC8 (fun e=>by exact⟨_,rfl,fun h=>by cases h⟩) fun w2 t11 t12=>by
  have:=qIO;have:=@qqb.eq_1;have:=@qcQ;have:=@q2k;have:=@q5I;have:=@q1o;have:=@Zf.eq_1;exact gA
theorem q5A:∀  (qq zJ qn qC:Int) (qD:ByteArray) (qj qr ql:Int) (qm:List qc) (qu:List qb) (qw qR qS:Int) (qo:List (q05 qc)) (qX zx zy:Int) (t2:List qa) (t3:List Bool) (t4:Int) (t11:Bool) (t12:Int),XL2 evo 39 0 2 ⟨[(2,rL 8 qe t2),(3,rL 1 eB t3),(4,rI t4),(5,rP 0),(6,rP 1),(10,rO 2 1 0),(11,rB t11),(12,rI t12)],[(0,B.blk 39 [dI qq,dI zJ,dI qn,dI qC,dS qD,dI qj,dI qr,dI ql,dL 2 qd qm,dL 5 qh qu,dI qw,dI qR,dI qS,dL 4 (eA2 qd) qo]),(1,B.blk 28 [dI qX,dI zx,dI zy]),(2,B.row 3 1 [])],3,80⟩=(zw (Zf (qf.mk qq zJ qn qC qD (qb.mk qj qr ql qm qu) qw qR qS qo) (qg.mk qX zx zy) t2 t3 t4) ([],t11,t12)).bind (fun(e:List Int×Bool)=>some (Exit.exit 0,⟨[(10,rO 0 1 e.1.length),(11,rB e.2)],[(0,bR 3 1 eI e.1)],1,80⟩)):=by
 intro qq zJ qn qC qD qj qr ql qm qu qw qR qS qo qX zx zy t2 t3 t4 t11 t12;have h:=q78 [] ((qf.mk qq zJ qn qC qD (qb.mk qj qr ql qm qu) qw qR qS qo)).School ((qf.mk qq zJ qn qC qD (qb.mk qj qr ql qm qu) qw qR qS qo)).Id ((qf.mk qq zJ qn qC qD (qb.mk qj qr ql qm qu) qw qR qS qo)).Version ((qf.mk qq zJ qn qC qD (qb.mk qj qr ql qm qu) qw qR qS qo)).From ((qf.mk qq zJ qn qC qD (qb.mk qj qr ql qm qu) qw qR qS qo)).Name ((qf.mk qq zJ qn qC qD (qb.mk qj qr ql qm qu) qw qR qS qo)).Need.Kind ((qf.mk qq zJ qn qC qD (qb.mk qj qr ql qm qu) qw qR qS qo)).Need.N ((qf.mk qq zJ qn qC qD (qb.mk qj qr ql qm qu) qw qR qS qo)).Need.Min ((qf.mk qq zJ qn qC qD (qb.mk qj qr ql qm qu) qw qR qS qo)).Need.Set ((qf.mk qq zJ qn qC qD (qb.mk qj qr ql qm qu) qw qR qS qo)).Need.L ((qf.mk qq zJ qn qC qD (qb.mk qj qr ql qm qu) qw qR qS qo)).Total ((qf.mk qq zJ qn qC qD (qb.mk qj qr ql qm qu) qw qR qS qo)).Own ((qf.mk qq zJ qn qC qD (qb.mk qj qr ql qm qu) qw qR qS qo)).Age ((qf.mk qq zJ qn qC qD (qb.mk qj qr ql qm qu) qw qR qS qo)).Exclude ((qg.mk qX zx zy)).Worst ((qg.mk qX zx zy)).Best ((qg.mk qX zx zy)).Pass t2 t3 t4 t11 t12 _ rfl
 first
  | exact h
  | (simp only[rL,dL,bR,bZ,Nat.reduceAdd] at h;exact h)
def q1n (x0:qf) (x1:qg) (x2:List qa) (x3:List Bool) (x4:Int):Option (List Int×Bool):=Option.bind (zw (Zf x0 x1 x2 x3 x4) ([],(Bool.false,x4))) fun(a:Prod (List Int) Bool)=>some (a.1,a.2)
theorem qaq:∀(zN q0Z zz QN:Int) (QO:ByteArray) (qW zO zc:Int) (zd:List qc) (zP:List qb) (Qf J7 J8:Int) (zA:List (q05 qc)) (ZW q02 q03:Int) (x2:List qa) (x3:List Bool) (x4:Int),ev 39 0 [R.agg [dI zN,dI q0Z,dI zz,dI QN,dS QO,dI qW,dI zO,dI zc,dL 2 qd zd,dL 5 qh zP,dI Qf,dI J7,dI J8,dL 4 (eA2 qd) zA],R.agg [dI ZW,dI q02,dI q03],rL 8 qe x2,rL 1 eB x3,rI x4] []=(q1n (qf.mk zN q0Z zz QN QO (qb.mk qW zO zc zd zP) Qf J7 J8 zA) (qg.mk ZW q02 q03) x2 x3 x4).bind (fun(e:List Int×Bool)=>some (R.tup [rL 1 eI e.1,rB e.2],[])):=
 fun zN q0Z zz QN QO qW zO zc zd zP Qf J7 J8 zA ZW q02 q03 x2 x3 x4=>by
  rw[qU qEn qKr.2.2.2 qGd]
  have:=qIO;have:=@q5A;have:=@q1n.eq_1;exact gA
theorem qK6:okL 40 qkV:=qV (qk qFs) (by kernel_rfl) (by kernel_rfl)
def qK9:=JA_ @qkV.eq_1 (JA_ @Tryz.f40.eq_1 @qFs)
theorem qCX:lbO 40 2=qo2:=Qz (qk qFs) rfl
theorem qCJ:okL 40 qo2:=zS qK6 (qQ6 (i:=0) (by kernel_rfl))
def Qu (l:List Int) (t7:List Int) (t8:Int):(List Int×Int)→Option ((List Int×Int)⊕(List Int))|(out,t9)=>if t9<t8 then if 0≤t9∧t9<((t7.length:Nat):Int) then Option.bind t7[Int.toNat t9]? fun(a:Int)=>if 0≤a∧a<((l.length:Nat):Int) then Option.bind l[Int.toNat a]? fun(a2:Int)=>if out.length+1≤maxLen∧(out.length+1)*8≤140737488355328 then some (Sum.inl (out++[a2],w64 (t9+1))) else none else none else none else some (Sum.inr out)
theorem q59:∀(out l t7:List Int) (t8 t9:Int) (Z3:Nat),Z3=out.length→XL2 evo 40 0 2 ⟨[(0,rL 1 eI l),(4,rO 0 1 Z3),(7,rL 1 eI t7),(8,rI t8),(9,rI t9)],[(0,bR 3 1 eI out)],1,22⟩=(zw (Qu l t7 t8) (out,t9)).bind (fun(e:List Int)=>some (Exit.exit 0,⟨[(4,rO 0 1 e.length)],[(0,bR 3 1 eI e)],1,22⟩)):=
 by
 intro out l t7 t8 t9 Z3 h0
 subst h0
 revert t9;revert out;exact qaL qCX qCJ (fun e=>by exact⟨_,rfl,fun h=>by cases h⟩) fun out t9=>by
  have:=qK9;have:=@qo2.eq_1;have:=@Qu.eq_1;exact gA
theorem q41:∀  (l t7:List Int) (t8 t9:Int),XL2 evo 40 0 2 ⟨[(0,rL 1 eI l),(4,rO 0 1 0),(7,rL 1 eI t7),(8,rI t8),(9,rI t9)],[(0,B.row 3 1 [])],1,22⟩=(zw (Qu l t7 t8) ([],t9)).bind (fun(e:List Int)=>some (Exit.exit 0,⟨[(4,rO 0 1 e.length)],[(0,bR 3 1 eI e)],1,22⟩)):=by
 intro l t7 t8 t9;have h:=q59 [] l t7 t8 t9 _ rfl
 first
  | exact h
  | (simp only[rL,dL,bR,bZ,Nat.reduceAdd] at h;exact h)
def Jd (l:List Int) (at0:List Int):Option (List Int):=Option.bind (zw (Qu l at0 ((at0.length:Nat):Int)) ([],0)) fun(a:List Int)=>some a
theorem q6D:∀(l at0:List Int),ev 40 0 [rL 1 eI l,rL 1 eI at0] []=(Jd l at0).bind (fun(e:List Int)=>some (rL 1 eI e,[])):=
 fun l at0=>by
  rw[qU qFs qLE.2.2.2 qK6]
  have:=qK9;have:=@q41;have:=@Jd.eq_1;exact gA
def JU (t67:Int) (v:qf) (v2:qg) (v3:Int) (v4:Int) (v5:List Int) (v6:List qa) (v7:List Bool):Option (Unit⊕qG):=Option.bind (ZU t67) fun(a:List Int)=>Option.bind (zQ v6 a) fun(a2:List qa)=>Option.bind (JS v a2 v3) fun(a3:Bool)=>if(!a3)=Bool.true then some (Sum.inl ()) else Option.bind (q1n v v2 v6 v7 t67) fun(a4:Prod (List Int) Bool)=>if a4.2=Bool.true then Option.bind (Jd v5 a) fun(a5:List Int)=>some (Sum.inr (qG.mk a5 a4.1)) else some (Sum.inl ())
theorem q6H:∀(t67 q0d qFl q7O qhH:Int) (qhI:ByteArray) (q4E qaD q5Q:Int) (q5R:List qc) (qaE:List qb) (qe4 qqN qqO:Int) (q7P:List (q05 qc)) (qaF qe5 qe6 v3 v4:Int) (v5:List Int) (v6:List qa) (v7:List Bool),evr 15 (raO 15 19) (rbO 15 19) 9 (R.any::R.any::R.any::R.any::rP 0::rP 1::R.any::rP 2::rP 3::rP 4::R.any::rP 5::R.any::R.any::rP 6::rP 7::R.any::R.any::R.any::R.any::R.any::R.any::R.any::R.any::R.any::R.any::R.any::R.any::R.any::R.any::R.any::R.any::R.any::R.any::R.any::R.any::R.any::R.any::R.any::R.any::R.any::R.any::R.any::R.any::R.any::R.any::R.any::R.any::R.any::R.any::R.any::R.any::R.any::R.any::R.any::R.any::R.any::R.any::R.any::R.any::R.any::R.any::R.any::R.any::R.any::R.any::R.any::rI t67::qLo) [(0,B.blk 39 [dI q0d,dI qFl,dI q7O,dI qhH,dS qhI,dI q4E,dI qaD,dI q5Q,dL 2 qd q5R,dL 5 qh qaE,dI qe4,dI qqN,dI qqO,dL 4 (eA2 qd) q7P]),(1,B.blk 28 [dI qaF,dI qe5,dI qe6]),(2,B.blk 3 [dI v3]),(3,B.blk 48 [C.nils,C.nils]),(4,B.blk 49 [dI v4]),(5,B.blk 22 [dL 1 eI v5]),(6,B.blk 26 [dL 8 qe v6]),(7,B.blk 88 [dL 1 eB v7]),(8,B.ob (AO.lp 15 (R.any::R.any::R.any::R.any::rP 0::rP 1::R.any::rP 2::rP 3::rP 4::R.any::rP 5::R.any::R.any::rP 6::rP 7::qlP) [67] (raO 15 19) (rbO 15 19) LoopState.ready none))]=(JU t67 (qf.mk q0d qFl q7O qhH qhI (qb.mk q4E qaD q5Q q5R qaE) qe4 qqN qqO q7P) (qg.mk qaF qe5 qe6) v3 v4 v5 v6 v7).bind (Sum.elim (fun(e:Unit)=>some (rB Bool.true,[(0,B.blk 39 [dI q0d,dI qFl,dI q7O,dI qhH,dS qhI,dI q4E,dI qaD,dI q5Q,dL 2 qd q5R,dL 5 qh qaE,dI qe4,dI qqN,dI qqO,dL 4 (eA2 qd) q7P]),(1,B.blk 28 [dI qaF,dI qe5,dI qe6]),(2,B.blk 3 [dI v3]),(3,B.blk 48 [C.nils,C.nils]),(4,B.blk 49 [dI v4]),(5,B.blk 22 [dL 1 eI v5]),(6,B.blk 26 [dL 8 qe v6]),(7,B.blk 88 [dL 1 eB v7]),(8,B.ob (AO.lp 15 (R.any::R.any::R.any::R.any::rP 0::rP 1::R.any::rP 2::rP 3::rP 4::R.any::rP 5::R.any::R.any::rP 6::rP 7::qlP) [67] (raO 15 19) (rbO 15 19) LoopState.ready none))])) (fun(e:qG)=>some (rB Bool.false,[(0,B.blk 39 [dI q0d,dI qFl,dI q7O,dI qhH,dS qhI,dI q4E,dI qaD,dI q5Q,dL 2 qd q5R,dL 5 qh qaE,dI qe4,dI qqN,dI qqO,dL 4 (eA2 qd) q7P]),(1,B.blk 28 [dI qaF,dI qe5,dI qe6]),(2,B.blk 3 [dI v3]),(3,B.blk 48 [dL 1 eI e.Taken,dL 1 eI e.Leaf]),(4,B.blk 49 [dI 0]),(5,B.blk 22 [dL 1 eI v5]),(6,B.blk 26 [dL 8 qe v6]),(7,B.blk 88 [dL 1 eB v7]),(8,B.ob (AO.lp 15 (R.any::R.any::R.any::R.any::rP 0::rP 1::R.any::rP 2::rP 3::rP 4::R.any::rP 5::R.any::R.any::rP 6::rP 7::qlP) [67] (raO 15 19) (rbO 15 19) LoopState.done (some Code.ret)))]))):=
 fun t67 q0d qFl q7O qhH qhI q4E qaD q5Q q5R qaE qe4 qqN qqO q7P qaF qe5 qe6 v3 v4 v5 v6 v7=>by
  rw[qiq qnr qje (by decide) quK qn7.1 qn7.2]
  have:=qGG;have:=@qv4;have:=@qwI;have:=@qaO.eq_1;have:=@q94.eq_1;have:=@q2k;have:=@q01;have:=@q3R;have:=@qaq;have:=@q6D;have:=@JU.eq_1;have:=@qih;exact gA
def QH (b1:qf) (b2:qg) (b3:Int) (b5:Int) (b6:List Int) (b7:List qa) (b8:List Bool) (b9:Int) (t19:List Int) (t20:Int):Int→Option (Int⊕(qG⊕Unit))|t21=>if t21<t20 then if 0≤t21∧t21<((t19.length:Nat):Int) then Option.bind t19[Int.toNat t21]? fun(a:Int)=>Option.bind (JU a b1 b2 b3 b5 b6 b7 b8) fun(a2:Sum Unit qG)=>Sum.elim (fun(a3:Unit)=>some (Sum.inl (w64 (t21+1)))) (fun(a4:qG)=>some (Sum.inr (Sum.inl a4))) a2 else none else some (Sum.inr (Sum.inr ()))
theorem q6B:∀(zY q1z zE Z4:Int) (Z5:ByteArray) (qY zZ zj:Int) (zl:List qc) (Q0:List qb) (Qq Jn Jo:Int) (zF:List (q05 qc)) (ZB JO JP b3 b5:Int) (b6:List Int) (b7:List qa) (b8:List Bool) (b9:Int) (t19:List Int) (t20 t21:Int),XL2 evo 62 10 8 ⟨[(0,R.c (C.hd .yield 0)),(19,rL 1 eI t19),(20,rI t20),(21,rI t21)],[(0,B.ob (AO.lp 15 (R.any::R.any::R.any::R.any::rP 1::rP 2::R.any::rP 3::rP 4::rP 5::R.any::rP 6::R.any::R.any::rP 7::rP 8::qlP) [67] (raO 15 19) (rbO 15 19) LoopState.ready none)),(1,B.blk 39 [dI zY,dI q1z,dI zE,dI Z4,dS Z5,dI qY,dI zZ,dI zj,dL 2 qd zl,dL 5 qh Q0,dI Qq,dI Jn,dI Jo,dL 4 (eA2 qd) zF]),(2,B.blk 28 [dI ZB,dI JO,dI JP]),(3,B.blk 3 [dI b3]),(4,B.blk 48 [C.nils,C.nils]),(5,B.blk 49 [dI b5]),(6,B.blk 22 [dL 1 eI b6]),(7,B.blk 26 [dL 8 qe b7]),(8,B.blk 88 [dL 1 eB b8]),(9,B.blk 3 [dI b9])],10,30⟩=(zw (QH (qf.mk zY q1z zE Z4 Z5 (qb.mk qY zZ zj zl Q0) Qq Jn Jo zF) (qg.mk ZB JO JP) b3 b5 b6 b7 b8 b9 t19 t20) t21).bind (Sum.elim (fun(e:qG)=>some (Exit.ret,⟨[],[(0,B.ob (AO.lp 15 (R.any::R.any::R.any::R.any::rP 1::rP 2::R.any::rP 3::rP 4::rP 5::R.any::rP 6::R.any::R.any::rP 7::rP 8::qlP) [67] (raO 15 19) (rbO 15 19) LoopState.done (some Code.ret))),(1,B.blk 39 [dI zY,dI q1z,dI zE,dI Z4,dS Z5,dI qY,dI zZ,dI zj,dL 2 qd zl,dL 5 qh Q0,dI Qq,dI Jn,dI Jo,dL 4 (eA2 qd) zF]),(2,B.blk 28 [dI ZB,dI JO,dI JP]),(3,B.blk 3 [dI b3]),(4,B.blk 48 [dL 1 eI e.Taken,dL 1 eI e.Leaf]),(5,B.blk 49 [dI 0]),(6,B.blk 22 [dL 1 eI b6]),(7,B.blk 26 [dL 8 qe b7]),(8,B.blk 88 [dL 1 eB b8]),(9,B.blk 3 [dI b9])],10,30⟩)) (fun(e:Unit)=>some (Exit.exit 2,⟨[],[(0,B.ob (AO.lp 15 (R.any::R.any::R.any::R.any::rP 1::rP 2::R.any::rP 3::rP 4::rP 5::R.any::rP 6::R.any::R.any::rP 7::rP 8::qlP) [67] (raO 15 19) (rbO 15 19) LoopState.ready none)),(1,B.blk 39 [dI zY,dI q1z,dI zE,dI Z4,dS Z5,dI qY,dI zZ,dI zj,dL 2 qd zl,dL 5 qh Q0,dI Qq,dI Jn,dI Jo,dL 4 (eA2 qd) zF]),(2,B.blk 28 [dI ZB,dI JO,dI JP]),(3,B.blk 3 [dI b3]),(4,B.blk 48 [C.nils,C.nils]),(5,B.blk 49 [dI b5]),(6,B.blk 22 [dL 1 eI b6]),(7,B.blk 26 [dL 8 qe b7]),(8,B.blk 88 [dL 1 eB b8]),(9,B.blk 3 [dI b9])],10,30⟩))):=
 fun zY q1z zE Z4 Z5 qY zZ zj zl Q0 Qq Jn Jo zF ZB JO JP b3 b5 b6 b7 b8 b9 t19 t20 t21=>by
  revert t21;exact qbL qF8 qB5 (fun e=>by rcases e with _|_<;>exact⟨_,rfl,fun h=>by cases h⟩) fun x=>by
   have:=qIN;have:=@qnh.eq_1;have:=@q6H;have:=@QH.eq_1;exact gA
def q0L (b1:qf) (b2:qg) (b3:Int) (b5:Int) (b6:List Int) (b7:List qa) (b8:List Bool) (v:Int):Option (qG⊕Unit):=if 0≤v then Option.bind (zw (Z2 b1 b2 b3 b5 b6 b7 b8 v (w64 (1*2 ^ min (Int.toNat v) (IntKind.bits IntKind.i64)))) ([],0)) fun(a:List Int)=>if 0<a.length∧a.length<4611686018427387904∧okB QA a=Bool.true then Option.bind (zw (QH b1 b2 b3 b5 b6 b7 b8 v (q1e QA a) (((q1e QA a).length:Nat):Int)) 0) fun(a2:Sum qG Unit)=>Sum.elim (fun(a3:qG)=>some (Sum.inl a3)) (fun(a4:Unit)=>some (Sum.inr ())) a2 else none else none
theorem q8N:∀(zY q1z zE Z4:Int) (Z5:ByteArray) (qY zZ zj:Int) (zl:List qc) (Q0:List qb) (Qq Jn Jo:Int) (zF:List (q05 qc)) (ZB JO JP b3 b5:Int) (b6:List Int) (b7:List qa) (b8:List Bool) (v:Int),ev 62 10 [R.c (C.hd .yield 0),rP 9] [(0,B.ob (AO.lp 15 (R.any::R.any::R.any::R.any::rP 1::rP 2::R.any::rP 3::rP 4::rP 5::R.any::rP 6::R.any::R.any::rP 7::rP 8::qlP) [67] (raO 15 19) (rbO 15 19) LoopState.ready none)),(1,B.blk 39 [dI zY,dI q1z,dI zE,dI Z4,dS Z5,dI qY,dI zZ,dI zj,dL 2 qd zl,dL 5 qh Q0,dI Qq,dI Jn,dI Jo,dL 4 (eA2 qd) zF]),(2,B.blk 28 [dI ZB,dI JO,dI JP]),(3,B.blk 3 [dI b3]),(4,B.blk 48 [C.nils,C.nils]),(5,B.blk 49 [dI b5]),(6,B.blk 22 [dL 1 eI b6]),(7,B.blk 26 [dL 8 qe b7]),(8,B.blk 88 [dL 1 eB b8]),(9,B.blk 3 [dI v])]=(q0L (qf.mk zY q1z zE Z4 Z5 (qb.mk qY zZ zj zl Q0) Qq Jn Jo zF) (qg.mk ZB JO JP) b3 b5 b6 b7 b8 v).bind (Sum.elim (fun(e:qG)=>some (R.tup [],[(0,B.ob (AO.lp 15 (R.any::R.any::R.any::R.any::rP 1::rP 2::R.any::rP 3::rP 4::rP 5::R.any::rP 6::R.any::R.any::rP 7::rP 8::qlP) [67] (raO 15 19) (rbO 15 19) LoopState.done (some Code.ret))),(1,B.blk 39 [dI zY,dI q1z,dI zE,dI Z4,dS Z5,dI qY,dI zZ,dI zj,dL 2 qd zl,dL 5 qh Q0,dI Qq,dI Jn,dI Jo,dL 4 (eA2 qd) zF]),(2,B.blk 28 [dI ZB,dI JO,dI JP]),(3,B.blk 3 [dI b3]),(4,B.blk 48 [dL 1 eI e.Taken,dL 1 eI e.Leaf]),(5,B.blk 49 [dI 0]),(6,B.blk 22 [dL 1 eI b6]),(7,B.blk 26 [dL 8 qe b7]),(8,B.blk 88 [dL 1 eB b8]),(9,B.blk 3 [dI v])])) (fun(e:Unit)=>some (R.tup [],[(0,B.ob (AO.lp 15 (R.any::R.any::R.any::R.any::rP 1::rP 2::R.any::rP 3::rP 4::rP 5::R.any::rP 6::R.any::R.any::rP 7::rP 8::qlP) [67] (raO 15 19) (rbO 15 19) LoopState.ready none)),(1,B.blk 39 [dI zY,dI q1z,dI zE,dI Z4,dS Z5,dI qY,dI zZ,dI zj,dL 2 qd zl,dL 5 qh Q0,dI Qq,dI Jn,dI Jo,dL 4 (eA2 qd) zF]),(2,B.blk 28 [dI ZB,dI JO,dI JP]),(3,B.blk 3 [dI b3]),(4,B.blk 48 [C.nils,C.nils]),(5,B.blk 49 [dI b5]),(6,B.blk 22 [dL 1 eI b6]),(7,B.blk 26 [dL 8 qe b7]),(8,B.blk 88 [dL 1 eB b8]),(9,B.blk 3 [dI v])]))):=
 fun zY q1z zE Z4 Z5 qY zZ zj zl Q0 Qq Jn Jo zF ZB JO JP b3 b5 b6 b7 b8 v=>by
  rw[qU qDP qKL.2.2.2 qJ9]
  have:=qIN;have:=@q53;have:=qGu q7d;have:=@q6B;have:=@q0L.eq_1;exact gA
def QK (x0:qf) (x1:qg) (x2:List qa) (x3:Int):Option (qG×Int):=Option.bind (Qg x0 x1) fun(a:Int)=>if(a != 0)=Bool.true then some (qG.mk [] [],a) else Option.bind (zw (Ze x0 x1 x3 0 x2 x2 ((x2.length:Nat):Int)) ([],0)) fun(a2:List Int)=>if 10<((a2.length:Nat):Int) then some (qG.mk [] [],2) else Option.bind (zQ x2 a2) fun(a3:List qa)=>Option.bind (q35 x0.Need x1 a3) fun(a4:Prod (List Bool) Int)=>if(a4.2 != 0)=Bool.true then some (qG.mk [] [],a4.2) else Option.bind (q0L x0 x1 x3 0 a2 a3 a4.1 ((a3.length:Nat):Int)) fun(a5:Sum qG Unit)=>Sum.elim (fun(a6:qG)=>some (a6,0)) (fun(a7:Unit)=>some (qG.mk [] [],31)) a5
theorem q4P:∀(zN q0Z zz QN:Int) (QO:ByteArray) (qW zO zc:Int) (zd:List qc) (zP:List qb) (Qf J7 J8:Int) (zA:List (q05 qc)) (ZW q02 q03:Int) (x2:List qa) (x3:Int),ev 15 0 [R.agg [dI zN,dI q0Z,dI zz,dI QN,dS QO,dI qW,dI zO,dI zc,dL 2 qd zd,dL 5 qh zP,dI Qf,dI J7,dI J8,dL 4 (eA2 qd) zA],R.agg [dI ZW,dI q02,dI q03],rL 8 qe x2,rI x3] []=(QK (qf.mk zN q0Z zz QN QO (qb.mk qW zO zc zd zP) Qf J7 J8 zA) (qg.mk ZW q02 q03) x2 x3).bind (fun(e:qG×Int)=>some (R.tup [R.agg [dL 1 eI e.1.Taken,dL 1 eI e.1.Leaf],rI e.2],[])):=
 fun zN q0Z zz QN QO qW zO zc zd zP Qf J7 J8 zA ZW q02 q03 x2 x3=>by
  rw[qU qzh qKz.2.2.2 qGi]
  have:=qGG;have:=@q5q;have:=@q5s;have:=@q01;have:=@q9S;have:=@qbx;have:=@q8N;have:=@QK.eq_1;have:=@qih;exact gA
theorem qIl:okL 95 qkG:=qV (qk qDs) (by kernel_rfl) (by kernel_rfl)
def qG4:=JA_ @qkG.eq_1 (JA_ @Tryz.f95.eq_1 @qDs)
theorem qtM:lbO 95 5=qk7:=Qz (qk qDs) rfl
theorem qu4:okL 95 qk7:=zS qIl (qQ6 (i:=0) (by kernel_rfl))
def ZG (x:(qb×Int×List qv)):List R×List (Nat×B):=([R.c (C.own 0 6 0 x.2.2.length),R.agg [C.d (D.int .i64 x.1.Kind),C.d (D.int .i64 x.1.N),C.d (D.int .i64 x.1.Min),C.d (D.sl 2 x.1.Set.length (x.1.Set.flatMap qd)),C.d (D.sl 5 x.1.L.length (x.1.L.flatMap qh))],R.c (C.d (D.int .i64 x.2.1))],[(0,B.row 150 6 ((x.2.2.flatMap qT).map C.d))])
def Jc:(Unit⊕(List qv))→R×List (Nat×B):=Sum.elim (fun(e:Unit)=>(R.tup [R.c (C.d (D.sl 6 0 [])),R.c (C.d (D.bool Bool.false))],[])) (fun(e:List qv)=>(R.tup [R.c (C.own 0 6 0 e.length),R.c (C.d (D.bool Bool.true))],[(0,B.row 150 6 ((e.flatMap qT).map C.d))]))
def q0E (rF:(qb×Int×List qv)→Option (Unit⊕(List qv))) (n:qb) (deep:Int):(List qv×Int)→Option ((List qv×Int)⊕(Unit⊕(List qv)))|(out,i)=>if i<((n.L.length:Nat):Int) then if 0≤i∧i<((n.L.length:Nat):Int) then Option.bind n.L[Int.toNat i]? fun(a2:qb)=>Option.bind (rF (a2,(w64 (deep+1),out))) fun(a3:Sum Unit (List qv))=>Sum.elim (fun(a4:Unit)=>some (Sum.inr (Sum.inl ()))) (fun(a5:List qv)=>some (Sum.inl (a5,w64 (i+1)))) a3 else none else some (Sum.inr (Sum.inr out))
theorem q6K (rE:Orc) (rF:(qb×Int×List qv)→Option (Unit⊕(List qv))) (hF:∀y,rE (.fn 95) 0 (ZG y).1 (ZG y).2=(rF y).bind fun e=>some (Jc e)) (hM:∀g k a G,g≠95→rE (.fn g) k a G=ev g k a G) (hR:∀g asg bd k a G,rE (.rd g asg bd) k a G=evr g asg bd k a G):∀(out:List qv) (qB n_N qP:Int) (qQ:List qc) (n_L:List qb) (deep i:Int) (Z3:Nat),Z3=out.length→XL2 rE 95 0 5 ⟨[(0,rO 0 6 Z3),(2,rI deep),(4,rP 1),(8,rI i)],[(0,bR 150 6 qT out),(1,B.blk 36 [dI qB,dI n_N,dI qP,dL 2 qd qQ,dL 5 qh n_L])],2,47⟩=(zw (q0E rF (qb.mk qB n_N qP qQ n_L) deep) (out,i)).bind (Sum.elim (fun(e:Unit)=>some (Exit.ret,⟨[(0,R.c (C.any)),(6,R.c (C.nils)),(7,rB Bool.false)],[],0,47⟩)) (fun(e:List qv)=>some (Exit.exit 0,⟨[(0,rO 0 6 e.length),(6,R.any),(7,R.any)],[(0,bR 150 6 qT e)],1,47⟩))):=
 by
 intro out qB n_N qP qQ n_L deep i Z3 h0
 subst h0
 revert i;revert out;exact qaL qtM qu4 (fun e=>by rcases e with _|_<;>exact⟨_,rfl,fun h=>by cases h⟩) fun out i=>by
  have hF':∀(qB n_N qP:Int) (qQ:List qc) (n_L:List qb) (deep:Int) (out:List qv) (Z3:Nat),Z3=out.length→rE (.fn 95) 0 [rO 0 6 Z3,R.agg [dI qB,dI n_N,dI qP,dL 2 qd qQ,dL 5 qh n_L],rI deep] [(0,bR 150 6 qT out)]=(rF ((qb.mk qB n_N qP qQ n_L),deep,out)).bind (Sum.elim (fun(e:Unit)=>some (R.tup [R.c (C.d (D.sl 6 0 [])),rB Bool.false],[])) (fun(e:List qv)=>some (R.tup [rO 0 6 e.length,rB Bool.true],[(0,bR 150 6 qT e)]))):=by intro qB n_N qP qQ n_L deep out Z3 h0;subst h0;exact(hF ((qb.mk qB n_N qP qQ n_L),deep,out)).trans (by congr 1;funext e;rcases e with _|_<;>rfl)
  have:=qG4;have:=@qk7.eq_1;have:=@q0E.eq_1;exact gA
def q0J (rF:(qb×Int×List qv)→Option (Unit⊕(List qv))):(qb×Int×List qv)→Option (Unit⊕(List qv))|(n,deep,out)=>if 100<deep then some (Sum.inl ()) else if 10000≤((out.length:Nat):Int) then some (Sum.inl ()) else if out.length+1≤maxLen∧(out.length+1)*80≤140737488355328 then Option.bind (zw (q0E rF n deep) (out++[qv.mk n deep],0)) fun(a2:Sum Unit (List qv))=>Sum.elim (fun(a3:Unit)=>some (Sum.inl ())) (fun(a4:List qv)=>some (Sum.inr a4)) a2 else none
theorem q5L:q8v 95 0 ZG Jc q0J:=by
 intro rE rF hF hM hR x
 obtain⟨n,deep,out⟩:=x
 show qb9 rE 95 0 [rO 0 6 out.length,R.agg [dI n.Kind,dI n.N,dI n.Min,dL 2 qd n.Set,dL 5 qh n.L],rI deep] [(0,bR 150 6 qT out)]=_
 have hF':∀(qB n_N qP:Int) (qQ:List qc) (n_L:List qb) (deep:Int) (out:List qv) (Z3:Nat),Z3=out.length→rE (.fn 95) 0 [rO 0 6 Z3,R.agg [dI qB,dI n_N,dI qP,dL 2 qd qQ,dL 5 qh n_L],rI deep] [(0,bR 150 6 qT out)]=(rF ((qb.mk qB n_N qP qQ n_L),deep,out)).bind (Sum.elim (fun(e:Unit)=>some (R.tup [R.c (C.d (D.sl 6 0 [])),rB Bool.false],[])) (fun(e:List qv)=>some (R.tup [rO 0 6 e.length,rB Bool.true],[(0,bR 150 6 qT e)]))):=by intro qB n_N qP qQ n_L deep out Z3 h0;subst h0;exact(hF ((qb.mk qB n_N qP qQ n_L),deep,out)).trans (by congr 1;funext e;rcases e with _|_<;>rfl)
 rw[q4T qDs qIl]
 have:=qG4;have:=q6K rE rF hF hM hR;have:=@q0J.eq_1;have:=@Jc.eq_1;exact gA
theorem q3C:∀x y,ZG x=ZG y→x=y:=by
 rintro⟨⟨qF9,qFa,qFb,qFc,qFd⟩,a1,a2⟩ ⟨⟨qFe,qFf,qFg,qFh,qFi⟩,b1,b2⟩ h
 simp only[ZG,Prod.mk.injEq,List.cons.injEq,R.c.injEq,R.agg.injEq,R.tup.injEq,C.d.injEq,C.own.injEq,C.ptr.injEq,C.eptr.injEq,D.int.injEq,D.bool.injEq,D.str.injEq,D.sl.injEq,B.blk.injEq,B.row.injEq,q11,q2R,q1S,q1X,q2m,q2l,q4B,q4m,q4s,q16,true_and,and_true,qQp] at h
 simp only[h]
theorem q8k:∀x y,Jc x=Jc y→x=y:=by
 rintro(_|a1) (_|b1) h<;>simp only[Sum.elim_inl,Sum.elim_inr,Jc,Prod.mk.injEq,List.cons.injEq,R.c.injEq,R.agg.injEq,R.tup.injEq,C.d.injEq,C.own.injEq,C.ptr.injEq,C.eptr.injEq,D.int.injEq,D.bool.injEq,D.str.injEq,D.sl.injEq,B.blk.injEq,B.row.injEq,q11,q2R,q1S,q1X,q2m,q2l,q4B,q4m,q4s,q16,true_and,and_true,qQp,reduceCtorEq,false_and,and_false] at h<;>simp only[h]
def ZC:(qb×Int×List qv)→Option (Unit⊕(List qv)):=q8L 95 0 ZG Jc
theorem qbh (x:(qb×Int×List qv)):ZC x=q0J ZC x:=qdr qFL.2.2.2 q3C q8k q5L x
theorem qa4 (n:qb) (deep:Int) (out:List qv):ev 95 0 [rO 0 6 out.length,R.agg [dI n.Kind,dI n.N,dI n.Min,dL 2 qd n.Set,dL 5 qh n.L],rI deep] [(0,bR 150 6 qT out)]=(ZC (n,deep,out)).bind (Sum.elim (fun(e:Unit)=>some (R.tup [R.c (C.d (D.sl 6 0 [])),rB Bool.false],[])) (fun(e:List qv)=>some (R.tup [rO 0 6 e.length,rB Bool.true],[(0,bR 150 6 qT e)]))):=(q9y qFL.2.2.2 q3C q5L (n,deep,out)).trans (by congr 1;funext e;rcases e with _|_<;>rfl)
theorem qaZ:∀(qB n_N qP:Int) (qQ:List qc) (n_L:List qb) (deep:Int) (out:List qv) (Z3:Nat),Z3=out.length→ev 95 0 [rO 0 6 Z3,R.agg [dI qB,dI n_N,dI qP,dL 2 qd qQ,dL 5 qh n_L],rI deep] [(0,bR 150 6 qT out)]=(ZC ((qb.mk qB n_N qP qQ n_L),deep,out)).bind (Sum.elim (fun(e:Unit)=>some (R.tup [R.c (C.d (D.sl 6 0 [])),rB Bool.false],[])) (fun(e:List qv)=>some (R.tup [rO 0 6 e.length,rB Bool.true],[(0,bR 150 6 qT e)]))):=
 by
 intro qB n_N qP qQ n_L deep out Z3 h0
 subst h0
 exact qa4 (qb.mk qB n_N qP qQ n_L) deep out
def q1u (n:qb) (deep:Int):(List qv×Int)→Option ((List qv×Int)⊕(Unit⊕(List qv)))|(out,i)=>if i<((n.L.length:Nat):Int) then if 0≤i∧i<((n.L.length:Nat):Int) then Option.bind n.L[Int.toNat i]? fun(a:qb)=>Option.bind (ZC (a,(w64 (deep+1),out))) fun(a2:Sum Unit (List qv))=>Sum.elim (fun(a3:Unit)=>some (Sum.inr (Sum.inl ()))) (fun(a4:List qv)=>some (Sum.inl (a4,w64 (i+1)))) a2 else none else some (Sum.inr (Sum.inr out))
theorem q9x:∀(out:List qv) (qB n_N qP:Int) (qQ:List qc) (n_L:List qb) (deep i:Int) (Z3:Nat),Z3=out.length→XL2 evo 95 0 5 ⟨[(0,rO 0 6 Z3),(2,rI deep),(4,rP 1),(8,rI i)],[(0,bR 150 6 qT out),(1,B.blk 36 [dI qB,dI n_N,dI qP,dL 2 qd qQ,dL 5 qh n_L])],2,47⟩=(zw (q1u (qb.mk qB n_N qP qQ n_L) deep) (out,i)).bind (Sum.elim (fun(e:Unit)=>some (Exit.ret,⟨[(0,R.c (C.any)),(6,R.c (C.nils)),(7,rB Bool.false)],[],0,47⟩)) (fun(e:List qv)=>some (Exit.exit 0,⟨[(0,rO 0 6 e.length),(6,R.any),(7,R.any)],[(0,bR 150 6 qT e)],1,47⟩))):=
 by
 intro out qB n_N qP qQ n_L deep i Z3 h0
 subst h0
 revert i;revert out;exact qaL qtM qu4 (fun e=>by rcases e with _|_<;>exact⟨_,rfl,fun h=>by cases h⟩) fun out i=>by
  have:=qG4;have:=@qk7.eq_1;have:=@qaZ;have:=@q1u.eq_1;exact gA
theorem q7G:∀(q3q q6h q4a:Int) (q4b:List qc) (q6i:List qb) (qaG qB n_N qP:Int) (qQ:List qc) (n_L:List qb) (deep i:Int),XL2 evo 95 0 5 ⟨[(0,rO 0 6 1),(2,rI deep),(4,rP 1),(8,rI i)],[(0,B.row 150 6 [dI q3q,dI q6h,dI q4a,dL 2 qd q4b,dL 5 qh q6i,dI qaG]),(1,B.blk 36 [dI qB,dI n_N,dI qP,dL 2 qd qQ,dL 5 qh n_L])],2,47⟩=(zw (q1u (qb.mk qB n_N qP qQ n_L) deep) ([(qv.mk (qb.mk q3q q6h q4a q4b q6i) qaG)],i)).bind (Sum.elim (fun(e:Unit)=>some (Exit.ret,⟨[(0,R.c (C.any)),(6,R.c (C.nils)),(7,rB Bool.false)],[],0,47⟩)) (fun(e:List qv)=>some (Exit.exit 0,⟨[(0,rO 0 6 e.length),(6,R.any),(7,R.any)],[(0,bR 150 6 qT e)],1,47⟩))):=by
 intro q3q q6h q4a q4b q6i qaG qB n_N qP qQ n_L deep i;have h:=q9x [(qv.mk (qb.mk q3q q6h q4a q4b q6i) qaG)] ((qb.mk qB n_N qP qQ n_L)).Kind ((qb.mk qB n_N qP qQ n_L)).N ((qb.mk qB n_N qP qQ n_L)).Min ((qb.mk qB n_N qP qQ n_L)).Set ((qb.mk qB n_N qP qQ n_L)).L deep i _ rfl
 first
  | exact h
  | (simp only[rL,dL,bR,bZ,Nat.reduceAdd] at h;exact h)
def q3F (n:qb) (deep:Int):Option (Unit⊕(List qv)):=if 100<deep then some (Sum.inl ()) else if 1≤maxLen then Option.bind (zw (q1u n deep) ([qv.mk n deep],0)) fun(a:Sum Unit (List qv))=>Sum.elim (fun(a2:Unit)=>some (Sum.inl ())) (fun(a3:List qv)=>some (Sum.inr a3)) a else none
theorem qdT:∀(qB n_N qP:Int) (qQ:List qc) (n_L:List qb) (deep:Int),ev 95 0 [R.c (C.nils),R.agg [dI qB,dI n_N,dI qP,dL 2 qd qQ,dL 5 qh n_L],rI deep] []=(q3F (qb.mk qB n_N qP qQ n_L) deep).bind (Sum.elim (fun(e:Unit)=>some (R.tup [R.c (C.d (D.sl 6 0 [])),rB Bool.false],[])) (fun(e:List qv)=>some (R.tup [rO 0 6 e.length,rB Bool.true],[(0,bR 150 6 qT e)]))):=
 fun qB n_N qP qQ n_L deep=>by
  rw[qU qDs qFL.2.2.2 qIl]
  have:=qG4;have:=@q7G;have:=@q3F.eq_1;exact gA
theorem qPr:okL 93 qoQ:=qV (qk qHa) (by kernel_rfl) (by kernel_rfl)
def qOt:=JA_ @qoQ.eq_1 (JA_ @Tryz.f93.eq_1 @qHa)
def q2i (a:qc) (b:qc):Option Bool:=if a.School<b.School then some Bool.true else if(a.School==b.School)=Bool.true then some (Op.bytesLess (ByteArray.toList a.Code) (ByteArray.toList b.Code)) else some Bool.false
def Qo (a:qc) (b:qc):Bool:=if a.School<b.School then Bool.true else if(a.School==b.School)=Bool.true then Op.bytesLess (ByteArray.toList a.Code) (ByteArray.toList b.Code) else Bool.false
theorem q8e (a b:qc):q2i a b=some (Qo a b):=by
 unfold q2i Qo
 simp only[Zs]
theorem q0D:∀(q0c:Int) (q3I:ByteArray) (q47:Int) (qaB:ByteArray),ev 93 0 [R.agg [dI q0c,dS q3I],R.agg [dI q47,dS qaB]] []=some (rB (Qo (qc.mk q0c q3I) (qc.mk q47 qaB)),[]):=
 fun q0c q3I q47 qaB=>by
  have h:ev 93 0 [R.agg [dI q0c,dS q3I],R.agg [dI q47,dS qaB]] []=(q2i (qc.mk q0c q3I) (qc.mk q47 qaB)).bind (fun(e:Bool)=>some (rB e,[])):=by
   rw[qU qHa qLJ.2.2.2 qPr]
   have:=qOt;have:=@q2i.eq_1;exact gA
  rw[q8e] at h
  exact h
theorem qMf:okL 11 qmT:=qV (qk qGn) (by kernel_rfl) (by kernel_rfl)
def qPb:=JA_ @qmT.eq_1 (JA_ @Tryz.f11.eq_1 @qGn)
theorem qLV:okL 26 qpB:=qV (qk qIh) (by kernel_rfl) (by kernel_rfl)
def qNG:=JA_ @qpB.eq_1 (JA_ @Tryz.f26.eq_1 @qIh)
theorem qOj:okL 51 qq2:=qV (qk qIo) (by kernel_rfl) (by kernel_rfl)
def qMM:=JA_ @qq2.eq_1 (JA_ @Tryz.f51.eq_1 @qIo)
theorem qPe:okL 52 qqF:=qV (qk qIq) (by kernel_rfl) (by kernel_rfl)
def qOS:=JA_ @qqF.eq_1 (JA_ @Tryz.f52.eq_1 @qIq)
def qs (most:Int) (d:qi):Option (Int×qi):=if((d.L.length:Nat):Int)≤d.At then some (0,d) else if 0≤d.At∧d.At<((d.L.length:Nat):Int) then Option.bind d.L[Int.toNat d.At]? fun(a:Int)=>if most=0 then none else if most=0 then none else some (Int.tmod (w64 (Int.tmod a most+most)) most,qi.mk d.L (w64 (d.At+1))) else none
theorem ZL:∀(most:Int) (d_L:List Int) (q9a:Int),ev 52 1 [rP 0,rI most] [(0,B.blk 106 [dL 1 eI d_L,dI q9a])]=(qs most (qi.mk d_L q9a)).bind (fun(e:Int×qi)=>some (rI e.1,[(0,B.blk 106 [dL 1 eI e.2.L,dI e.2.At])])):=
 fun most d_L q9a=>by
  rw[qU qIq qKC.2.2.2 qPe]
  have:=qOS;have:=@qs.eq_1;exact gA
theorem qN9:okL 92 qoO:=qV (qk qIY) (by kernel_rfl) (by kernel_rfl)
def qOn:=JA_ @qoO.eq_1 (JA_ @Tryz.f92.eq_1 @qIY)
theorem qON:okL 53 qoM:=qV (qk qHg) (by kernel_rfl) (by kernel_rfl)
def qMc:=JA_ @qoM.eq_1 (JA_ @Tryz.f53.eq_1 @qHg)
def q45:Option (List ByteArray):=
 some [ByteArray.mk (List.toArray [65,49]),ByteArray.mk (List.toArray [66,49]),ByteArray.mk (List.toArray [66,50]),ByteArray.mk (List.toArray [67,49]),ByteArray.mk (List.toArray [68,49]),ByteArray.mk (List.toArray [69,57])]
def Q6:List ByteArray:=
 [ByteArray.mk (List.toArray [65,49]),ByteArray.mk (List.toArray [66,49]),ByteArray.mk (List.toArray [66,50]),ByteArray.mk (List.toArray [67,49]),ByteArray.mk (List.toArray [68,49]),ByteArray.mk (List.toArray [69,57])]
theorem qbg:q45=some (Q6):=by
 unfold q45 Q6
 simp only[Zs]
theorem q6n:ev 53 0 [] []=some (R.c (C.d (D.sl 1 (Q6).length ((Q6).flatMap eS))),[]):=
 by
  have h:ev 53 0 [] []=(q45).bind (fun(e:List ByteArray)=>some (rL 1 eS e,[])):=by
   rw[qU qHg qL2.2.2.2 qON]
   have:=qMc;have:=@q45.eq_1;exact gA
  rw[qbg] at h
  exact h
def q0g (d:qi):Option (qc×qi):=Option.bind (qs 6 d) fun(a:Prod Int qi)=>if 0≤a.1∧a.1<6 then Option.bind [(1:Int),1,1,2,2,3][Int.toNat a.1]? fun(a2:Int)=>Option.bind (qs ((Q6.length:Nat):Int) a.2) fun(a3:Prod Int qi)=>if 0≤a3.1∧a3.1<((Q6.length:Nat):Int) then Option.bind Q6[Int.toNat a3.1]? fun(a4:ByteArray)=>some (qc.mk a2 a4,a3.2) else none else none
theorem q5N:∀(d_L:List Int) (q9a:Int),ev 92 1 [rP 0] [(0,B.blk 106 [dL 1 eI d_L,dI q9a])]=(q0g (qi.mk d_L q9a)).bind (fun(e:qc×qi)=>some (R.agg [dI e.1.School,dS e.1.Code],[(0,B.blk 106 [dL 1 eI e.2.L,dI e.2.At])])):=
 fun d_L q9a=>by
  rw[qU qIY qLb.2.2.2 qN9]
  have:=qOn;have:=@ZL;have:=@q6n;have:=@q0g.eq_1;exact gA
theorem qLe:okL 94 qkZ:=qV (qk qFY) (by kernel_rfl) (by kernel_rfl)
def qLG:=JA_ @qkZ.eq_1 (JA_ @Tryz.f94.eq_1 @qFY)
theorem qzI:lbO 94 9=qou:=Qz (qk qFY) rfl
theorem qF5:okL 94 qou:=zS qLe (qQ6 (i:=0) (by kernel_rfl))
theorem quS:okL 136 qdo:=qV (qk qo8) (by kernel_rfl) (by kernel_rfl)
def qxi:=JA_ @qdo.eq_1 (JA_ @Tryz.f136.eq_1 @qo8)
theorem qyL:lbO 136 4=qiD:=Qz (qk qo8) rfl
theorem qw7:okL 136 qiD:=zS quS (qQ6 (i:=0) (by kernel_rfl))
theorem qxV:lbO 136 8=qiw:=Qz (qk qo8) rfl
theorem qye:okL 136 qiw:=zS quS (qQ6 (i:=1) (by kernel_rfl))
def q0h (out:List qc) (d:qi) (c:qc) (many:Int) (k:Int):Int→Option (Int⊕Int)|at0=>if at0<((out.length:Nat):Int) then if 0≤at0∧at0<((out.length:Nat):Int) then Option.bind out[Int.toNat at0]? fun(a:qc)=>if Qo a c=Bool.true then some (Sum.inl (w64 (at0+1))) else some (Sum.inr at0) else none else some (Sum.inr at0)
theorem qaW:∀(out:List qc) (d_L:List Int) (q9a q2j:Int) (q6w:ByteArray) (many k at0:Int) (Z3:Nat),Z3=out.length→XL2 evo 136 1 8 ⟨[(0,rP 0),(3,rI many),(4,rO 1 2 Z3),(5,rI k),(6,rP 2),(7,rI at0)],[(0,B.blk 106 [dL 1 eI d_L,dI q9a]),(1,bR 55 2 qd out),(2,B.blk 55 [dI q2j,dS q6w])],3,61⟩=(zw (q0h out (qi.mk d_L q9a) (qc.mk q2j q6w) many k) at0).bind (fun(e:Int)=>some (Exit.exit 2,⟨[(0,rP 0),(3,rI many),(4,rO 1 2 out.length),(5,rI k),(6,rP 2),(7,rI e)],[(0,B.blk 106 [dL 1 eI d_L,dI q9a]),(1,bR 55 2 qd out),(2,B.blk 55 [dI q2j,dS q6w])],3,61⟩)):=
 by
 intro out d_L q9a q2j q6w many k at0 Z3 h0
 subst h0
 revert at0;exact qbL qxV qye (fun e=>by exact⟨_,rfl,fun h=>by cases h⟩) fun x=>by
  have:=qxi;have:=@qiw.eq_1;have:=@q0D;have:=@q0h.eq_1;exact gA
end
noncomputable section
open Go.RowKit
set_option maxRecDepth 20000
set_option maxHeartbeats 8000000
def Jh (many:Int):(List qc×qi×Int)→Option ((List qc×qi×Int)⊕(List qc×qi))|(out,d,k)=>if k<many then Option.bind (q0g d) fun(a:Prod qc qi)=>Option.bind (zw (q0h out a.2 a.1 many k) 0) fun(a2:Int)=>if a2<((out.length:Nat):Int) then if 0≤a2∧a2<((out.length:Nat):Int) then Option.bind out[Int.toNat a2]? fun(a3:qc)=>if(a3.School==a.1.School)=Bool.true∧(ByteArray.toList a3.Code==ByteArray.toList a.1.Code)=Bool.true then some (Sum.inl (out,a.2,w64 (k+1))) else if out.length+1≤maxLen∧(out.length+1)*24≤140737488355328 then if 0≤w64 (a2+1)∧w64 (a2+1)≤((out.length+1:Nat):Int) then if w64 (a2+1)=0∨w64 (a2+1)<((out.length+1:Nat):Int) then if 0≤a2∧a2≤((out.length+1:Nat):Int) then if a2=0∨a2<((out.length+1:Nat):Int) then if(List.take (out.length+1-Int.toNat a2) (List.drop (Int.toNat a2) (out++[qc.mk 0 (ByteArray.mk (List.toArray []))]))).length*2=(out.length+1-Int.toNat a2)*2∧Int.toNat (w64 (a2+1))*2+(out.length+1-Int.toNat (w64 (a2+1)))*2≤(out.length+1)*2 then if 0≤a2∧a2<((out.length+1:Nat):Int) then if Int.toNat a2*2+2≤(out.length+1)*2 then some (Sum.inl (List.set (spl (out++[qc.mk 0 (ByteArray.mk (List.toArray []))]) (Int.toNat (w64 (a2+1))) (List.take (min (out.length+1-Int.toNat a2) (out.length+1-Int.toNat (w64 (a2+1)))) (List.take (out.length+1-Int.toNat a2) (List.drop (Int.toNat a2) (out++[qc.mk 0 (ByteArray.mk (List.toArray []))]))))) (Int.toNat a2) a.1,a.2,w64 (k+1))) else none else none else none else if Int.toNat (w64 (a2+1))*2+(out.length+1-Int.toNat (w64 (a2+1)))*2≤(out.length+1)*2 then if 0≤a2∧a2<((out.length+1:Nat):Int) then if Int.toNat a2*2+2≤(out.length+1)*2 then some (Sum.inl (List.set (out++[qc.mk 0 (ByteArray.mk (List.toArray []))]) (Int.toNat a2) a.1,a.2,w64 (k+1))) else none else none else none else none else if 0≤a2∧a2≤((out.length+1:Nat):Int) then if a2=0∨a2<((out.length+1:Nat):Int) then if(List.take (out.length+1-Int.toNat a2) (List.drop (Int.toNat a2) (out++[qc.mk 0 (ByteArray.mk (List.toArray []))]))).length*2=(out.length+1-Int.toNat a2)*2 then if 0≤a2∧a2<((out.length+1:Nat):Int) then if Int.toNat a2*2+2≤(out.length+1)*2 then some (Sum.inl (List.set (out++[qc.mk 0 (ByteArray.mk (List.toArray []))]) (Int.toNat a2) a.1,a.2,w64 (k+1))) else none else none else none else if 0≤a2∧a2<((out.length+1:Nat):Int) then if Int.toNat a2*2+2≤(out.length+1)*2 then some (Sum.inl (List.set (out++[qc.mk 0 (ByteArray.mk (List.toArray []))]) (Int.toNat a2) a.1,a.2,w64 (k+1))) else none else none else none else none else none else none else if out.length+1≤maxLen∧(out.length+1)*24≤140737488355328 then if 0≤w64 (a2+1)∧w64 (a2+1)≤((out.length+1:Nat):Int) then if w64 (a2+1)=0∨w64 (a2+1)<((out.length+1:Nat):Int) then if 0≤a2∧a2≤((out.length+1:Nat):Int) then if a2=0∨a2<((out.length+1:Nat):Int) then if(List.take (out.length+1-Int.toNat a2) (List.drop (Int.toNat a2) (out++[qc.mk 0 (ByteArray.mk (List.toArray []))]))).length*2=(out.length+1-Int.toNat a2)*2∧Int.toNat (w64 (a2+1))*2+(out.length+1-Int.toNat (w64 (a2+1)))*2≤(out.length+1)*2 then if 0≤a2∧a2<((out.length+1:Nat):Int) then if Int.toNat a2*2+2≤(out.length+1)*2 then some (Sum.inl (List.set (spl (out++[qc.mk 0 (ByteArray.mk (List.toArray []))]) (Int.toNat (w64 (a2+1))) (List.take (min (out.length+1-Int.toNat a2) (out.length+1-Int.toNat (w64 (a2+1)))) (List.take (out.length+1-Int.toNat a2) (List.drop (Int.toNat a2) (out++[qc.mk 0 (ByteArray.mk (List.toArray []))]))))) (Int.toNat a2) a.1,a.2,w64 (k+1))) else none else none else none else if Int.toNat (w64 (a2+1))*2+(out.length+1-Int.toNat (w64 (a2+1)))*2≤(out.length+1)*2 then if 0≤a2∧a2<((out.length+1:Nat):Int) then if Int.toNat a2*2+2≤(out.length+1)*2 then some (Sum.inl (List.set (out++[qc.mk 0 (ByteArray.mk (List.toArray []))]) (Int.toNat a2) a.1,a.2,w64 (k+1))) else none else none else none else none else if 0≤a2∧a2≤((out.length+1:Nat):Int) then if a2=0∨a2<((out.length+1:Nat):Int) then if(List.take (out.length+1-Int.toNat a2) (List.drop (Int.toNat a2) (out++[qc.mk 0 (ByteArray.mk (List.toArray []))]))).length*2=(out.length+1-Int.toNat a2)*2 then if 0≤a2∧a2<((out.length+1:Nat):Int) then if Int.toNat a2*2+2≤(out.length+1)*2 then some (Sum.inl (List.set (out++[qc.mk 0 (ByteArray.mk (List.toArray []))]) (Int.toNat a2) a.1,a.2,w64 (k+1))) else none else none else none else if 0≤a2∧a2<((out.length+1:Nat):Int) then if Int.toNat a2*2+2≤(out.length+1)*2 then some (Sum.inl (List.set (out++[qc.mk 0 (ByteArray.mk (List.toArray []))]) (Int.toNat a2) a.1,a.2,w64 (k+1))) else none else none else none else none else none else some (Sum.inr (out,d))
theorem qaU:∀(out:List qc) (d_L:List Int) (q9a many k:Int) (Z3:Nat),Z3=out.length→XL2 evo 136 1 4 ⟨[(0,rP 0),(3,rI many),(4,rO 1 2 Z3),(5,rI k)],[(0,B.blk 106 [dL 1 eI d_L,dI q9a]),(1,bR 55 2 qd out)],2,61⟩=(zw (Jh many) (out,(qi.mk d_L q9a),k)).bind (fun(e:List qc×qi)=>some (Exit.exit 0,⟨[(4,rO 1 2 e.1.length)],[(0,B.blk 106 [dL 1 eI e.2.L,dI e.2.At]),(1,bR 55 2 qd e.1)],2,61⟩)):=
 by
 intro out d_L q9a many k Z3 h0
 subst h0
 have h:=q5e (E:=evo) (f:=136) (k:=1) (st:=fun x:List qc×qi×Int=>(⟨[(0,rP 0),(3,rI many),(4,rO 1 2 x.1.length),(5,rI x.2.2)],[(0,B.blk 106 [dL 1 eI x.2.1.L,dI x.2.1.At]),(1,bR 55 2 qd x.1)],2,61⟩:S)) (ex:=fun(e:List qc×qi)=>(Exit.exit 0,⟨[(4,rO 1 2 e.1.length)],[(0,B.blk 106 [dL 1 eI e.2.L,dI e.2.At]),(1,bR 55 2 qd e.1)],2,61⟩)) (step:=(Jh many)) qyL qw7 (fun e h=>by cases h) (fun x=>by
  obtain⟨out,d,k⟩:=x;have:=qxi;have:=@qiD.eq_1;have:=@q5N;have:=@qaW;have:=@Jh.eq_1;exact gA) (out,(qi.mk d_L q9a),k)
 exact h
theorem q8j:∀  (d_L:List Int) (q9a many k:Int),XL2 evo 136 1 4 ⟨[(0,rP 0),(3,rI many),(4,rO 1 2 0),(5,rI k)],[(0,B.blk 106 [dL 1 eI d_L,dI q9a]),(1,B.row 55 2 [])],2,61⟩=(zw (Jh many) ([],(qi.mk d_L q9a),k)).bind (fun(e:List qc×qi)=>some (Exit.exit 0,⟨[(4,rO 1 2 e.1.length)],[(0,B.blk 106 [dL 1 eI e.2.L,dI e.2.At]),(1,bR 55 2 qd e.1)],2,61⟩)):=by
 intro d_L q9a many k;have h:=qaU [] ((qi.mk d_L q9a)).L ((qi.mk d_L q9a)).At many k _ rfl
 first
  | exact h
  | (simp only[rL,dL,bR,bZ,Nat.reduceAdd] at h;exact h)
def Jz (d:qi):Option (List qc×qi):=Option.bind (qs 3 d) fun(a:Prod Int qi)=>Option.bind (zw (Jh (w64 (1+a.1))) ([],(a.2,0))) fun(a2:Prod (List qc) qi)=>some (a2.1,a2.2)
theorem qei:∀(d_L:List Int) (q9a:Int),ev 136 1 [rP 0] [(0,B.blk 106 [dL 1 eI d_L,dI q9a])]=(Jz (qi.mk d_L q9a)).bind (fun(e:List qc×qi)=>some (rL 2 qd e.1,[(0,B.blk 106 [dL 1 eI e.2.L,dI e.2.At])])):=
 fun d_L q9a=>by
  rw[qU qo8 qAE.2.2.2 quS]
  have:=qxi;have:=@ZL;have:=@q8j;have:=@Jz.eq_1;exact gA
def Zp (x:(Int×Int×qi)):List R×List (Nat×B):=([R.c (C.ptr 0 0),R.c (C.d (D.int .i64 x.1)),R.c (C.d (D.int .i64 x.2.1))],[(0,B.blk 106 [C.d (D.sl 1 x.2.2.L.length (x.2.2.L.flatMap eI)),C.d (D.int .i64 x.2.2.At)])])
def Jk:(qb×qi)→R×List (Nat×B):=fun(e:qb×qi)=>(R.agg [C.d (D.int .i64 e.1.Kind),C.d (D.int .i64 e.1.N),C.d (D.int .i64 e.1.Min),C.d (D.sl 2 e.1.Set.length (e.1.Set.flatMap qd)),C.d (D.sl 5 e.1.L.length (e.1.L.flatMap qh))],[(0,B.blk 106 [C.d (D.sl 1 e.2.L.length (e.2.L.flatMap eI)),C.d (D.int .i64 e.2.At)])])
def Zl (rF:(Int×Int×qi)→Option (qb×qi)) (q2L:Int) (qly:Int) (q4Z:Int) (q0v:Int) (qf8:Int) (q2s:Int) (t1:Int) (t2:Int) (t7:Int) (t8:Int):(List qb×qi×Int)→Option ((List qb×qi×Int)⊕(List qb×qi))|(w3,b0,t10)=>if t10<t8 then if t8=0 then none else Option.bind (rF (w64 (t1-1),(w64 (Int.tdiv t2 t8),b0))) fun(a2:Prod qb qi)=>if w3.length+1≤maxLen∧(w3.length+1)*72≤140737488355328 then some (Sum.inl (w3++[a2.1],a2.2,w64 (t10+1))) else none else some (Sum.inr (w3,b0))
theorem q9A (rE:Orc) (rF:(Int×Int×qi)→Option (qb×qi)) (hF:∀y,rE (.fn 94) 1 (Zp y).1 (Zp y).2=(rF y).bind fun e=>some (Jk e)) (hM:∀g k a G,g≠94→rE (.fn g) k a G=ev g k a G) (hR:∀g asg bd k a G,rE (.rd g asg bd) k a G=evr g asg bd k a G):∀(w3:List qb) (q3X:List Int) (q2b q2L qly q4Z q0v qf8 q2s t1 t2 t7 t8 t10:Int) (q1B:Nat),q1B=w3.length→XL2 rE 94 1 9 ⟨[(0,rP 0),(1,rI t1),(2,rI t2),(6,rP 1),(7,rI t7),(8,rI t8),(9,rP 2),(10,rI t10)],[(0,B.blk 106 [dL 1 eI q3X,dI q2b]),(1,B.blk 36 [dI q2L,dI qly,dI q4Z,C.nils,C.nils]),(2,B.blk 36 [dI q0v,dI qf8,dI q2s,C.nils,dO 3 5 q1B]),(3,bR 36 5 qh w3)],4,77⟩=(zw (Zl rF q2L qly q4Z q0v qf8 q2s t1 t2 t7 t8) (w3,(qi.mk q3X q2b),t10)).bind (fun(e:List qb×qi)=>some (Exit.exit 0,⟨[(0,rP 0),(6,rP 1),(7,rI t7),(8,rI t8),(9,rP 2)],[(0,B.blk 106 [dL 1 eI e.2.L,dI e.2.At]),(1,B.blk 36 [dI q2L,dI qly,dI q4Z,C.nils,C.nils]),(2,B.blk 36 [dI q0v,dI qf8,dI q2s,C.nils,dO 3 5 e.1.length]),(3,bR 36 5 qh e.1)],4,77⟩)):=
 by
 intro w3 q3X q2b q2L qly q4Z q0v qf8 q2s t1 t2 t7 t8 t10 q1B h0
 subst h0
 have h:=q5e (E:=rE) (f:=94) (k:=1) (st:=fun x:List qb×qi×Int=>(⟨[(0,rP 0),(1,rI t1),(2,rI t2),(6,rP 1),(7,rI t7),(8,rI t8),(9,rP 2),(10,rI x.2.2)],[(0,B.blk 106 [dL 1 eI x.2.1.L,dI x.2.1.At]),(1,B.blk 36 [dI q2L,dI qly,dI q4Z,C.nils,C.nils]),(2,B.blk 36 [dI q0v,dI qf8,dI q2s,C.nils,dO 3 5 x.1.length]),(3,bR 36 5 qh x.1)],4,77⟩:S)) (ex:=fun(e:List qb×qi)=>(Exit.exit 0,⟨[(0,rP 0),(6,rP 1),(7,rI t7),(8,rI t8),(9,rP 2)],[(0,B.blk 106 [dL 1 eI e.2.L,dI e.2.At]),(1,B.blk 36 [dI q2L,dI qly,dI q4Z,C.nils,C.nils]),(2,B.blk 36 [dI q0v,dI qf8,dI q2s,C.nils,dO 3 5 e.1.length]),(3,bR 36 5 qh e.1)],4,77⟩)) (step:=(Zl rF q2L qly q4Z q0v qf8 q2s t1 t2 t7 t8)) qzI qF5 (fun e h=>by cases h) (fun x=>by
  obtain⟨w3,b0,t10⟩:=x;have hF':∀(x1 x2:Int) (v_L:List Int) (qlz:Int),rE (.fn 94) 1 [rP 0,rI x1,rI x2] [(0,B.blk 106 [dL 1 eI v_L,dI qlz])]=(rF (x1,x2,(qi.mk v_L qlz))).bind (fun e=>some (R.agg [dI e.1.Kind,dI e.1.N,dI e.1.Min,dL 2 qd e.1.Set,dL 5 qh e.1.L],[(0,B.blk 106 [dL 1 eI e.2.L,dI e.2.At])])):=fun x1 x2 v_L qlz=>hF (x1,x2,(qi.mk v_L qlz))
  have:=qLG;have:=@qou.eq_1;have:=@Zl.eq_1;exact gA) (w3,(qi.mk q3X q2b),t10)
 exact h
theorem q7o:∀(rE:Orc) (rF:(Int×Int×qi)→Option (qb×qi)) (hF:∀y,rE (.fn 94) 1 (Zp y).1 (Zp y).2=(rF y).bind fun e=>some (Jk e)) (hM:∀g k a G,g≠94→rE (.fn g) k a G=ev g k a G) (hR:∀g asg bd k a G,rE (.rd g asg bd) k a G=evr g asg bd k a G),∀  (q3X:List Int) (q2b q2L qly q4Z q0v qf8 q2s t1 t2 t7 t8 t10:Int),XL2 rE 94 1 9 ⟨[(0,rP 0),(1,rI t1),(2,rI t2),(6,rP 1),(7,rI t7),(8,rI t8),(9,rP 2),(10,rI t10)],[(0,B.blk 106 [dL 1 eI q3X,dI q2b]),(1,B.blk 36 [dI q2L,dI qly,dI q4Z,C.nils,C.nils]),(2,B.blk 36 [dI q0v,dI qf8,dI q2s,C.nils,dO 3 5 0]),(3,B.row 36 5 [])],4,77⟩=(zw (Zl rF q2L qly q4Z q0v qf8 q2s t1 t2 t7 t8) ([],(qi.mk q3X q2b),t10)).bind (fun(e:List qb×qi)=>some (Exit.exit 0,⟨[(0,rP 0),(6,rP 1),(7,rI t7),(8,rI t8),(9,rP 2)],[(0,B.blk 106 [dL 1 eI e.2.L,dI e.2.At]),(1,B.blk 36 [dI q2L,dI qly,dI q4Z,C.nils,C.nils]),(2,B.blk 36 [dI q0v,dI qf8,dI q2s,C.nils,dO 3 5 e.1.length]),(3,bR 36 5 qh e.1)],4,77⟩)):=by
 intro rE rF hF hM hR q3X q2b q2L qly q4Z q0v qf8 q2s t1 t2 t7 t8 t10;have h:=q9A rE rF hF hM hR [] ((qi.mk q3X q2b)).L ((qi.mk q3X q2b)).At q2L qly q4Z q0v qf8 q2s t1 t2 t7 t8 t10 _ rfl
 first
  | exact h
  | (simp only[rL,dL,bR,bZ,Nat.reduceAdd] at h;exact h)
def q1M (rF:(Int×Int×qi)→Option (qb×qi)):(Int×Int×qi)→Option (qb×qi)|(x1,x2,v)=>Option.bind (qs 6 v) fun(a2:Prod Int qi)=>if x1≤0 then Option.bind (qs 3 a2.2) fun(a3:Prod Int qi)=>if(a3.1==0)=Bool.true then Option.bind (qs 12 a3.2) fun(a4:Prod Int qi)=>Option.bind (qs 3 a4.2) fun(a5:Prod Int qi)=>if 0≤a5.1∧a5.1<3 then Option.bind [(0:Int),50,60][Int.toNat a5.1]? fun(a6:Int)=>Option.bind (Jz a5.2) fun(a7:Prod (List qc) qi)=>some (qb.mk 2 (w64 (1+a4.1)) a6 a7.1 [],a7.2) else none else Option.bind (qs 4 a3.2) fun(a8:Prod Int qi)=>if 0≤a8.1∧a8.1<4 then Option.bind [(0:Int),50,60,80][Int.toNat a8.1]? fun(a9:Int)=>Option.bind (Jz a8.2) fun(a10:Prod (List qc) qi)=>some (qb.mk 1 0 a9 a10.1 [],a10.2) else none else if x2<2 then Option.bind (qs 3 a2.2) fun(a11:Prod Int qi)=>if(a11.1==0)=Bool.true then Option.bind (qs 12 a11.2) fun(a12:Prod Int qi)=>Option.bind (qs 3 a12.2) fun(a13:Prod Int qi)=>if 0≤a13.1∧a13.1<3 then Option.bind [(0:Int),50,60][Int.toNat a13.1]? fun(a14:Int)=>Option.bind (Jz a13.2) fun(a15:Prod (List qc) qi)=>some (qb.mk 2 (w64 (1+a12.1)) a14 a15.1 [],a15.2) else none else Option.bind (qs 4 a11.2) fun(a16:Prod Int qi)=>if 0≤a16.1∧a16.1<4 then Option.bind [(0:Int),50,60,80][Int.toNat a16.1]? fun(a17:Int)=>Option.bind (Jz a16.2) fun(a18:Prod (List qc) qi)=>some (qb.mk 1 0 a17 a18.1 [],a18.2) else none else if a2.1<2 then Option.bind (qs 3 a2.2) fun(a19:Prod Int qi)=>if(a19.1==0)=Bool.true then Option.bind (qs 12 a19.2) fun(a20:Prod Int qi)=>Option.bind (qs 3 a20.2) fun(a21:Prod Int qi)=>if 0≤a21.1∧a21.1<3 then Option.bind [(0:Int),50,60][Int.toNat a21.1]? fun(a22:Int)=>Option.bind (Jz a21.2) fun(a23:Prod (List qc) qi)=>some (qb.mk 2 (w64 (1+a20.1)) a22 a23.1 [],a23.2) else none else Option.bind (qs 4 a19.2) fun(a24:Prod Int qi)=>if 0≤a24.1∧a24.1<4 then Option.bind [(0:Int),50,60,80][Int.toNat a24.1]? fun(a25:Int)=>Option.bind (Jz a24.2) fun(a26:Prod (List qc) qi)=>some (qb.mk 1 0 a25 a26.1 [],a26.2) else none else Option.bind (qs (min 3 x2) a2.2) fun(a27:Prod Int qi)=>Option.bind (zw (Zl rF 0 0 0 3 0 0 x1 x2 a2.1 (w64 (1+a27.1))) ([],(a27.2,0))) fun(a28:Prod (List qb) qi)=>if 3<a2.1 then Option.bind (qs (w64 (1+a27.1)) a28.2) fun(a29:Prod Int qi)=>some (qb.mk 4 (w64 (1+a29.1)) 0 [] a28.1,a29.2) else some (qb.mk 3 0 0 [] a28.1,a28.2)
theorem q7A:q8v 94 1 Zp Jk q1M:=by
 intro rE rF hF hM hR x
 obtain⟨x1,x2,v⟩:=x
 show qb9 rE 94 1 [rP 0,rI x1,rI x2] [(0,B.blk 106 [dL 1 eI v.L,dI v.At])]=_
 have hF':∀(x1 x2:Int) (v_L:List Int) (qlz:Int),rE (.fn 94) 1 [rP 0,rI x1,rI x2] [(0,B.blk 106 [dL 1 eI v_L,dI qlz])]=(rF (x1,x2,(qi.mk v_L qlz))).bind (fun e=>some (R.agg [dI e.1.Kind,dI e.1.N,dI e.1.Min,dL 2 qd e.1.Set,dL 5 qh e.1.L],[(0,B.blk 106 [dL 1 eI e.2.L,dI e.2.At])])):=fun x1 x2 v_L qlz=>hF (x1,x2,(qi.mk v_L qlz))
 rw[q4T qFY qLe]
 have:=qLG;have:=@ZL;have:=@qei;have:=q7o rE rF hF hM hR;have:=@q1M.eq_1;have:=@Jk.eq_1;exact gA
theorem q4t:∀x y,Zp x=Zp y→x=y:=by
 rintro⟨a0,a1,⟨qPK,qPL⟩⟩ ⟨b0,b1,⟨qPM,qPN⟩⟩ h
 simp only[Zp,Prod.mk.injEq,List.cons.injEq,R.c.injEq,R.agg.injEq,R.tup.injEq,C.d.injEq,C.own.injEq,C.ptr.injEq,C.eptr.injEq,D.int.injEq,D.bool.injEq,D.str.injEq,D.sl.injEq,B.blk.injEq,B.row.injEq,q11,q2R,q1S,q1X,q2m,q2l,q4B,q4m,q4s,q16,true_and,and_true,qQp] at h
 simp only[h]
theorem qaz:∀x y,Jk x=Jk y→x=y:=by
 rintro⟨⟨qF9,qFa,qFb,qFc,qFd⟩,⟨qLL,qLM⟩⟩ ⟨⟨qFe,qFf,qFg,qFh,qFi⟩,⟨qLN,qLO⟩⟩ h
 simp only[Jk,Prod.mk.injEq,List.cons.injEq,R.c.injEq,R.agg.injEq,R.tup.injEq,C.d.injEq,C.own.injEq,C.ptr.injEq,C.eptr.injEq,D.int.injEq,D.bool.injEq,D.str.injEq,D.sl.injEq,B.blk.injEq,B.row.injEq,q11,q2R,q1S,q1X,q2m,q2l,q4B,q4m,q4s,q16,true_and,and_true,qQp] at h
 simp only[h]
def ZQ:(Int×Int×qi)→Option (qb×qi):=q8L 94 1 Zp Jk
theorem q7s (x:(Int×Int×qi)):ZQ x=q1M ZQ x:=qdr qIp.2.2.2 q4t qaz q7A x
theorem qca (x1 x2:Int) (v:qi):ev 94 1 [rP 0,rI x1,rI x2] [(0,B.blk 106 [dL 1 eI v.L,dI v.At])]=(ZQ (x1,x2,v)).bind (fun(e:qb×qi)=>some (R.agg [dI e.1.Kind,dI e.1.N,dI e.1.Min,dL 2 qd e.1.Set,dL 5 qh e.1.L],[(0,B.blk 106 [dL 1 eI e.2.L,dI e.2.At])])):=(q9y qIp.2.2.2 q4t q7A (x1,x2,v))
theorem qdg:∀(x1 x2:Int) (v_L:List Int) (qlz:Int),ev 94 1 [rP 0,rI x1,rI x2] [(0,B.blk 106 [dL 1 eI v_L,dI qlz])]=(ZQ (x1,x2,(qi.mk v_L qlz))).bind (fun(e:qb×qi)=>some (R.agg [dI e.1.Kind,dI e.1.N,dI e.1.Min,dL 2 qd e.1.Set,dL 5 qh e.1.L],[(0,B.blk 106 [dL 1 eI e.2.L,dI e.2.At])])):=
 fun x1 x2 v_L qlz=>qca x1 x2 (qi.mk v_L qlz)
def q1s (l:List Int):Option qf:=Option.bind (qs 3 (qi.mk l 0)) fun(a:Prod Int qi)=>Option.bind (qs 3 a.2) fun(a2:Prod Int qi)=>Option.bind (qs 5 a2.2) fun(a3:Prod Int qi)=>Option.bind (qs 3 a3.2) fun(a4:Prod Int qi)=>if 0≤a4.1∧a4.1<3 then Option.bind [ByteArray.mk (List.toArray [77,117,115,105,99]),ByteArray.mk (List.toArray [76,97,119]),ByteArray.mk (List.toArray [79,108,100,32,109,97,112,115])][Int.toNat a4.1]? fun(a5:ByteArray)=>Option.bind (qs 20 a4.2) fun(a6:Prod Int qi)=>Option.bind (qs 3 a6.2) fun(a7:Prod Int qi)=>Option.bind (qs 6 a7.2) fun(a8:Prod Int qi)=>Option.bind (qs 5 a8.2) fun(a9:Prod Int qi)=>if 0≤a9.1∧a9.1<5 then Option.bind [(0:Int),0,0,2,5][Int.toNat a9.1]? fun(a10:Int)=>Option.bind (qs 3 a9.2) fun(a11:Prod Int qi)=>if(a11.1==0)=Bool.true then Option.bind (q0g a11.2) fun(a12:Prod qc qi)=>Option.bind (q0g a12.2) fun(a13:Prod qc qi)=>if Qo a12.1 a13.1=Bool.true then Option.bind (ZQ (3,(6,a13.2))) fun(a14:Prod qb qi)=>some (qf.mk 1 (w64 (1+a.1)) (w64 (1+a2.1)) (w64 (100*a3.1)) a5 a14.1 a6.1 (w64 (a7.1*a8.1)) a10 [q05.mk a12.1 a13.1]) else Option.bind (ZQ (3,(6,a13.2))) fun(a15:Prod qb qi)=>some (qf.mk 1 (w64 (1+a.1)) (w64 (1+a2.1)) (w64 (100*a3.1)) a5 a15.1 a6.1 (w64 (a7.1*a8.1)) a10 []) else Option.bind (ZQ (3,(6,a11.2))) fun(a16:Prod qb qi)=>some (qf.mk 1 (w64 (1+a.1)) (w64 (1+a2.1)) (w64 (100*a3.1)) a5 a16.1 a6.1 (w64 (a7.1*a8.1)) a10 []) else none else none
theorem q9C:∀(l:List Int),ev 51 0 [rL 1 eI l] []=(q1s l).bind (fun(e:qf)=>some (R.agg [dI e.School,dI e.Id,dI e.Version,dI e.From,dS e.Name,dI e.Need.Kind,dI e.Need.N,dI e.Need.Min,dL 2 qd e.Need.Set,dL 5 qh e.Need.L,dI e.Total,dI e.Own,dI e.Age,dL 4 (eA2 qd) e.Exclude],[])):=
 fun l=>by
  rw[qU qIo qLu.2.2.2 qOj]
  have:=qMM;have:=@ZL;have:=@q5N;have:=@qdg;have:=@q0D;have:=@q1s.eq_1;exact gA
def q3A (l:List Int):Option qf:=Option.bind (q1s l) fun(a:qf)=>some (qf.mk a.School a.Id a.Version a.From a.Name a.Need (Int.tmod a.Total 12) (Int.tmod a.Own 4) a.Age a.Exclude)
theorem qdW:∀(l:List Int),ev 26 0 [rL 1 eI l] []=(q3A l).bind (fun(e:qf)=>some (R.agg [dI e.School,dI e.Id,dI e.Version,dI e.From,dS e.Name,dI e.Need.Kind,dI e.Need.N,dI e.Need.Min,dL 2 qd e.Need.Set,dL 5 qh e.Need.L,dI e.Total,dI e.Own,dI e.Age,dL 4 (eA2 qd) e.Exclude],[])):=
 fun l=>by
  rw[qU qIh qKV.2.2.2 qLV]
  have:=qNG;have:=@q9C;have:=@q3A.eq_1;exact gA
theorem qJQ:okL 30 qkh:=qV (qk qFD) (by kernel_rfl) (by kernel_rfl)
def qLA:=JA_ @qkh.eq_1 (JA_ @Tryz.f30.eq_1 @qFD)
theorem qD1:lbO 30 6=qpO:=Qz (qk qFD) rfl
theorem qEE:okL 30 qpO:=zS qJQ (qQ6 (i:=0) (by kernel_rfl))
def ZE (t4:Int) (t5:List ByteArray):(List qa×qi×Int)→Option ((List qa×qi×Int)⊕(List qa))|(w1,b0,t7)=>if t7<t4 then Option.bind (qs 5 b0) fun(a:Prod Int qi)=>if 0≤a.1∧a.1<5 then Option.bind [(1:Int),1,1,2,3][Int.toNat a.1]? fun(a2:Int)=>Option.bind (qs ((t5.length:Nat):Int) a.2) fun(a3:Prod Int qi)=>if 0≤a3.1∧a3.1<((t5.length:Nat):Int) then Option.bind t5[Int.toNat a3.1]? fun(a4:ByteArray)=>Option.bind (qs 3 a3.2) fun(a5:Prod Int qi)=>if 0≤a5.1∧a5.1<3 then Option.bind [(5:Int),6,10][Int.toNat a5.1]? fun(a6:Int)=>Option.bind (qs 11 a5.2) fun(a7:Prod Int qi)=>Option.bind (qs 12 a7.2) fun(a8:Prod Int qi)=>Option.bind (qs 4 a8.2) fun(a9:Prod Int qi)=>if(a9.1==0)=Bool.true then Option.bind (qs 2 a9.2) fun(a10:Prod Int qi)=>Option.bind (qs 3 a10.2) fun(a11:Prod Int qi)=>if w1.length+1≤maxLen∧(w1.length+1)*104≤140737488355328 then some (Sum.inl (w1++[qa.mk (qc.mk a2 a4) a6 (w64 (10*a7.1)) (w64 (50*a8.1)) [w64 (2000001+a11.1)] (w64 (1+a10.1)) [w64 (1+a10.1)]],a11.2,w64 (t7+1))) else none else if w1.length+1≤maxLen∧(w1.length+1)*104≤140737488355328 then some (Sum.inl (w1++[qa.mk (qc.mk a2 a4) a6 (w64 (10*a7.1)) (w64 (50*a8.1)) [w64 (w64 (w64 (1000000*a2)+1)+t7)] 0 []],a9.2,w64 (t7+1))) else none else none else none else none else some (Sum.inr w1)
theorem q9K:∀(w1:List qa) (q3X:List Int) (q2b t4:Int) (t5:List ByteArray) (t7:Int) (QS:Nat),QS=w1.length→XL2 evo 30 0 6 ⟨[(3,rP 0),(4,rI t4),(5,rL 1 eS t5),(6,rO 1 8 QS),(7,rI t7)],[(0,B.blk 106 [dL 1 eI q3X,dI q2b]),(1,bR 57 8 qe w1)],2,75⟩=(zw (ZE t4 t5) (w1,(qi.mk q3X q2b),t7)).bind (fun(e:List qa)=>some (Exit.exit 0,⟨[(6,rO 0 8 e.length)],[(0,bR 57 8 qe e)],1,75⟩)):=
 by
 intro w1 q3X q2b t4 t5 t7 QS h0
 subst h0
 have h:=q5e (E:=evo) (f:=30) (k:=0) (st:=fun x:List qa×qi×Int=>(⟨[(3,rP 0),(4,rI t4),(5,rL 1 eS t5),(6,rO 1 8 x.1.length),(7,rI x.2.2)],[(0,B.blk 106 [dL 1 eI x.2.1.L,dI x.2.1.At]),(1,bR 57 8 qe x.1)],2,75⟩:S)) (ex:=fun(e:List qa)=>(Exit.exit 0,⟨[(6,rO 0 8 e.length)],[(0,bR 57 8 qe e)],1,75⟩)) (step:=(ZE t4 t5)) qD1 qEE (fun e h=>by cases h) (fun x=>by
  obtain⟨w1,b0,t7⟩:=x;have:=qLA;have:=@qpO.eq_1;have:=@ZL;have:=@ZE.eq_1;exact gA) (w1,(qi.mk q3X q2b),t7)
 exact h
theorem q7r:∀  (q3X:List Int) (q2b t4:Int) (t5:List ByteArray) (t7:Int),XL2 evo 30 0 6 ⟨[(3,rP 0),(4,rI t4),(5,rL 1 eS t5),(6,rO 1 8 0),(7,rI t7)],[(0,B.blk 106 [dL 1 eI q3X,dI q2b]),(1,B.row 57 8 [])],2,75⟩=(zw (ZE t4 t5) ([],(qi.mk q3X q2b),t7)).bind (fun(e:List qa)=>some (Exit.exit 0,⟨[(6,rO 0 8 e.length)],[(0,bR 57 8 qe e)],1,75⟩)):=by
 intro q3X q2b t4 t5 t7;have h:=q9K [] ((qi.mk q3X q2b)).L ((qi.mk q3X q2b)).At t4 t5 t7 _ rfl
 first
  | exact h
  | (simp only[rL,dL,bR,bZ,Nat.reduceAdd] at h;exact h)
def q3u (x0:List Int):Option (List qa):=Option.bind (qs 8 (qi.mk x0 0)) fun(a:Prod Int qi)=>Option.bind (zw (ZE a.1 Q6) ([],(a.2,0))) fun(a2:List qa)=>some a2
theorem qds:∀(x0:List Int),ev 30 0 [rL 1 eI x0] []=(q3u x0).bind (fun(e:List qa)=>some (rL 8 qe e,[])):=
 fun x0=>by
  rw[qU qFD qKw.2.2.2 qJQ]
  have:=qLA;have:=@ZL;have:=@q6n;have:=@q7r;have:=@q3u.eq_1;exact gA
theorem qKY:okL 31 qk1:=qV (qk qFo) (by kernel_rfl) (by kernel_rfl)
def qLB:=JA_ @qk1.eq_1 (JA_ @Tryz.f31.eq_1 @qFo)
theorem qzN:lbO 31 6=qnJ:=Qz (qk qFo) rfl
theorem qCb:okL 31 qnJ:=zS qKY (qQ6 (i:=0) (by kernel_rfl))
theorem qFR:okL 54 qeV:=qV (qk qzi) (by kernel_rfl) (by kernel_rfl)
def quN:=JA_ @qeV.eq_1 (JA_ @Tryz.f54.eq_1 @qzi)
theorem qtQ:lbO 54 4=qkD:=Qz (qk qzi) rfl
theorem qtN:okL 54 qkD:=zS qFR (qQ6 (i:=0) (by kernel_rfl))
theorem qtZ:lbO 54 8=qlx:=Qz (qk qzi) rfl
theorem qum:okL 54 qlx:=zS qFR (qQ6 (i:=1) (by kernel_rfl))
theorem qpo:lbO 54 11=qfc:=Qz (qk qzi) rfl
theorem qoy:okL 54 qfc:=zS qFR (qQ6 (i:=2) (by kernel_rfl))
def q2p (w0:List qc) (t3:List qv) (t6:Int) (t7:List qc) (t8:Int):Int→Option (Int⊕Int)|t9=>if t9<((w0.length:Nat):Int) then if 0≤t9∧t9<((w0.length:Nat):Int) then Option.bind w0[Int.toNat t9]? fun(a:qc)=>if 0≤t8∧t8<((t7.length:Nat):Int) then Option.bind t7[Int.toNat t8]? fun(a2:qc)=>if Qo a a2=Bool.true then some (Sum.inl (w64 (t9+1))) else some (Sum.inr t9) else none else none else some (Sum.inr t9)
theorem q6x:∀(w0:List qc) (t3:List qv) (t6:Int) (t7:List qc) (t8 t9:Int) (q0y:Nat),q0y=w0.length→XL2 evo 54 0 11 ⟨[(3,rL 6 qT t3),(5,rO 0 2 q0y),(6,rI t6),(7,rL 2 qd t7),(8,rI t8),(9,rI t9)],[(0,bR 55 2 qd w0)],1,85⟩=(zw (q2p w0 t3 t6 t7 t8) t9).bind (fun(e:Int)=>some (Exit.exit 4,⟨[(3,rL 6 qT t3),(5,rO 0 2 w0.length),(6,rI t6),(7,rL 2 qd t7),(8,rI t8),(9,rI e)],[(0,bR 55 2 qd w0)],1,85⟩)):=
 by
 intro w0 t3 t6 t7 t8 t9 q0y h0
 subst h0
 revert t9;exact qbL qpo qoy (fun e=>by exact⟨_,rfl,fun h=>by cases h⟩) fun x=>by
  have:=quN;have:=@qfc.eq_1;have:=@q0D;have:=@q2p.eq_1;exact gA
def q2x (t3:List qv) (t6:Int) (t7:List qc):(List qc×Int)→Option ((List qc×Int)⊕(List qc))|(w0,t8)=>if t8<((t7.length:Nat):Int) then Option.bind (zw (q2p w0 t3 t6 t7 t8) 0) fun(a:Int)=>if a<((w0.length:Nat):Int) then if 0≤a∧a<((w0.length:Nat):Int) then Option.bind w0[Int.toNat a]? fun(a2:qc)=>if 0≤t8∧t8<((t7.length:Nat):Int) then Option.bind t7[Int.toNat t8]? fun(a3:qc)=>if(a2.School==a3.School)=Bool.true∧(ByteArray.toList a2.Code==ByteArray.toList a3.Code)=Bool.true then some (Sum.inl (w0,w64 (t8+1))) else if w0.length+1≤maxLen∧(w0.length+1)*24≤140737488355328 then if 0≤w64 (a+1)∧w64 (a+1)≤((w0.length+1:Nat):Int) then if w64 (a+1)=0∨w64 (a+1)<((w0.length+1:Nat):Int) then if 0≤a∧a≤((w0.length+1:Nat):Int) then if a=0∨a<((w0.length+1:Nat):Int) then if(List.take (w0.length+1-Int.toNat a) (List.drop (Int.toNat a) (w0++[qc.mk 0 (ByteArray.mk (List.toArray []))]))).length*2=(w0.length+1-Int.toNat a)*2∧Int.toNat (w64 (a+1))*2+(w0.length+1-Int.toNat (w64 (a+1)))*2≤(w0.length+1)*2 then if 0≤t8∧t8<((t7.length:Nat):Int) then Option.bind t7[Int.toNat t8]? fun(a4:qc)=>if 0≤a∧a<((w0.length+1:Nat):Int) then if Int.toNat a*2+2≤(w0.length+1)*2 then some (Sum.inl (List.set (spl (w0++[qc.mk 0 (ByteArray.mk (List.toArray []))]) (Int.toNat (w64 (a+1))) (List.take (min (w0.length+1-Int.toNat a) (w0.length+1-Int.toNat (w64 (a+1)))) (List.take (w0.length+1-Int.toNat a) (List.drop (Int.toNat a) (w0++[qc.mk 0 (ByteArray.mk (List.toArray []))]))))) (Int.toNat a) a4,w64 (t8+1))) else none else none else none else none else if Int.toNat (w64 (a+1))*2+(w0.length+1-Int.toNat (w64 (a+1)))*2≤(w0.length+1)*2 then if 0≤t8∧t8<((t7.length:Nat):Int) then Option.bind t7[Int.toNat t8]? fun(a5:qc)=>if 0≤a∧a<((w0.length+1:Nat):Int) then if Int.toNat a*2+2≤(w0.length+1)*2 then some (Sum.inl (List.set (w0++[qc.mk 0 (ByteArray.mk (List.toArray []))]) (Int.toNat a) a5,w64 (t8+1))) else none else none else none else none else none else if 0≤a∧a≤((w0.length+1:Nat):Int) then if a=0∨a<((w0.length+1:Nat):Int) then if(List.take (w0.length+1-Int.toNat a) (List.drop (Int.toNat a) (w0++[qc.mk 0 (ByteArray.mk (List.toArray []))]))).length*2=(w0.length+1-Int.toNat a)*2 then if 0≤t8∧t8<((t7.length:Nat):Int) then Option.bind t7[Int.toNat t8]? fun(a6:qc)=>if 0≤a∧a<((w0.length+1:Nat):Int) then if Int.toNat a*2+2≤(w0.length+1)*2 then some (Sum.inl (List.set (w0++[qc.mk 0 (ByteArray.mk (List.toArray []))]) (Int.toNat a) a6,w64 (t8+1))) else none else none else none else none else if 0≤t8∧t8<((t7.length:Nat):Int) then Option.bind t7[Int.toNat t8]? fun(a7:qc)=>if 0≤a∧a<((w0.length+1:Nat):Int) then if Int.toNat a*2+2≤(w0.length+1)*2 then some (Sum.inl (List.set (w0++[qc.mk 0 (ByteArray.mk (List.toArray []))]) (Int.toNat a) a7,w64 (t8+1))) else none else none else none else none else none else none else none else none else if w0.length+1≤maxLen∧(w0.length+1)*24≤140737488355328 then if 0≤w64 (a+1)∧w64 (a+1)≤((w0.length+1:Nat):Int) then if w64 (a+1)=0∨w64 (a+1)<((w0.length+1:Nat):Int) then if 0≤a∧a≤((w0.length+1:Nat):Int) then if a=0∨a<((w0.length+1:Nat):Int) then if(List.take (w0.length+1-Int.toNat a) (List.drop (Int.toNat a) (w0++[qc.mk 0 (ByteArray.mk (List.toArray []))]))).length*2=(w0.length+1-Int.toNat a)*2∧Int.toNat (w64 (a+1))*2+(w0.length+1-Int.toNat (w64 (a+1)))*2≤(w0.length+1)*2 then if 0≤t8∧t8<((t7.length:Nat):Int) then Option.bind t7[Int.toNat t8]? fun(a8:qc)=>if 0≤a∧a<((w0.length+1:Nat):Int) then if Int.toNat a*2+2≤(w0.length+1)*2 then some (Sum.inl (List.set (spl (w0++[qc.mk 0 (ByteArray.mk (List.toArray []))]) (Int.toNat (w64 (a+1))) (List.take (min (w0.length+1-Int.toNat a) (w0.length+1-Int.toNat (w64 (a+1)))) (List.take (w0.length+1-Int.toNat a) (List.drop (Int.toNat a) (w0++[qc.mk 0 (ByteArray.mk (List.toArray []))]))))) (Int.toNat a) a8,w64 (t8+1))) else none else none else none else none else if Int.toNat (w64 (a+1))*2+(w0.length+1-Int.toNat (w64 (a+1)))*2≤(w0.length+1)*2 then if 0≤t8∧t8<((t7.length:Nat):Int) then Option.bind t7[Int.toNat t8]? fun(a9:qc)=>if 0≤a∧a<((w0.length+1:Nat):Int) then if Int.toNat a*2+2≤(w0.length+1)*2 then some (Sum.inl (List.set (w0++[qc.mk 0 (ByteArray.mk (List.toArray []))]) (Int.toNat a) a9,w64 (t8+1))) else none else none else none else none else none else if 0≤a∧a≤((w0.length+1:Nat):Int) then if a=0∨a<((w0.length+1:Nat):Int) then if(List.take (w0.length+1-Int.toNat a) (List.drop (Int.toNat a) (w0++[qc.mk 0 (ByteArray.mk (List.toArray []))]))).length*2=(w0.length+1-Int.toNat a)*2 then if 0≤t8∧t8<((t7.length:Nat):Int) then Option.bind t7[Int.toNat t8]? fun(a10:qc)=>if 0≤a∧a<((w0.length+1:Nat):Int) then if Int.toNat a*2+2≤(w0.length+1)*2 then some (Sum.inl (List.set (w0++[qc.mk 0 (ByteArray.mk (List.toArray []))]) (Int.toNat a) a10,w64 (t8+1))) else none else none else none else none else if 0≤t8∧t8<((t7.length:Nat):Int) then Option.bind t7[Int.toNat t8]? fun(a11:qc)=>if 0≤a∧a<((w0.length+1:Nat):Int) then if Int.toNat a*2+2≤(w0.length+1)*2 then some (Sum.inl (List.set (w0++[qc.mk 0 (ByteArray.mk (List.toArray []))]) (Int.toNat a) a11,w64 (t8+1))) else none else none else none else none else none else none else some (Sum.inr w0)
theorem q7j:∀(w0:List qc) (t3:List qv) (t6:Int) (t7:List qc) (t8:Int) (q0y:Nat),q0y=w0.length→XL2 evo 54 0 8 ⟨[(3,rL 6 qT t3),(5,rO 0 2 q0y),(6,rI t6),(7,rL 2 qd t7),(8,rI t8)],[(0,bR 55 2 qd w0)],1,85⟩=(zw (q2x t3 t6 t7) (w0,t8)).bind (fun(e:List qc)=>some (Exit.exit 2,⟨[(3,rL 6 qT t3),(5,rO 0 2 e.length),(6,rI t6)],[(0,bR 55 2 qd e)],1,85⟩)):=
 by
 intro w0 t3 t6 t7 t8 q0y h0
 subst h0
 revert t8;revert w0;exact qaL qtZ qum (fun e=>by exact⟨_,rfl,fun h=>by cases h⟩) fun w0 t8=>by
  have:=quN;have:=@qlx.eq_1;have:=@q6x;have:=@q2x.eq_1;exact gA
def q13 (t3:List qv):(List qc×Int)→Option ((List qc×Int)⊕(List qc))|(w0,t6)=>if t6<((t3.length:Nat):Int) then if 0≤t6∧t6<((t3.length:Nat):Int) then Option.bind t3[Int.toNat t6]? fun(a:qv)=>Option.bind (zw (q2x t3 t6 a.Need.Set) (w0,0)) fun(a2:List qc)=>some (Sum.inl (a2,w64 (t6+1))) else none else some (Sum.inr w0)
theorem q7F:∀(w0:List qc) (t3:List qv) (t6:Int) (q0y:Nat),q0y=w0.length→XL2 evo 54 0 4 ⟨[(3,rL 6 qT t3),(5,rO 0 2 q0y),(6,rI t6)],[(0,bR 55 2 qd w0)],1,85⟩=(zw (q13 t3) (w0,t6)).bind (fun(e:List qc)=>some (Exit.exit 0,⟨[(5,rO 0 2 e.length)],[(0,bR 55 2 qd e)],1,85⟩)):=
 by
 intro w0 t3 t6 q0y h0
 subst h0
 revert t6;revert w0;exact qaL qtQ qtN (fun e=>by exact⟨_,rfl,fun h=>by cases h⟩) fun w0 t6=>by
  have:=quN;have:=@qkD.eq_1;have:=@q7j;have:=@q13.eq_1;exact gA
theorem q5j:∀  (t6:Int),XL2 evo 54 0 4 ⟨[(3,R.c (C.d (D.sl 6 0 []))),(5,rO 0 2 0),(6,rI t6)],[(0,B.row 55 2 [])],1,85⟩=(zw (q13 []) ([],t6)).bind (fun(e:List qc)=>some (Exit.exit 0,⟨[(5,rO 0 2 e.length)],[(0,bR 55 2 qd e)],1,85⟩)):=by
 intro t6;have h:=q7F [] [] t6 _ rfl
 first
  | exact h
  | (simp only[rL,dL,bR,bZ,Nat.reduceAdd] at h;exact h)
def Z0 (w0:List qv) (w1:List qc) (t6:Int) (t7:List qc) (t8:Int):Int→Option (Int⊕Int)|t9=>if t9<((w1.length:Nat):Int) then if 0≤t9∧t9<((w1.length:Nat):Int) then Option.bind w1[Int.toNat t9]? fun(a:qc)=>if 0≤t8∧t8<((t7.length:Nat):Int) then Option.bind t7[Int.toNat t8]? fun(a2:qc)=>if Qo a a2=Bool.true then some (Sum.inl (w64 (t9+1))) else some (Sum.inr t9) else none else none else some (Sum.inr t9)
theorem q5o:∀(w0:List qv) (w1:List qc) (t6:Int) (t7:List qc) (t8 t9:Int) (q0y QS:Nat),q0y=w0.length→QS=w1.length→XL2 evo 54 0 11 ⟨[(3,rO 0 6 q0y),(5,rO 1 2 QS),(6,rI t6),(7,rL 2 qd t7),(8,rI t8),(9,rI t9)],[(0,bR 150 6 qT w0),(1,bR 55 2 qd w1)],2,85⟩=(zw (Z0 w0 w1 t6 t7 t8) t9).bind (fun(e:Int)=>some (Exit.exit 4,⟨[(3,rO 0 6 w0.length),(5,rO 1 2 w1.length),(6,rI t6),(7,rL 2 qd t7),(8,rI t8),(9,rI e)],[(0,bR 150 6 qT w0),(1,bR 55 2 qd w1)],2,85⟩)):=
 by
 intro w0 w1 t6 t7 t8 t9 q0y QS h0 h1
 subst h0 h1
 revert t9;exact qbL qpo qoy (fun e=>by exact⟨_,rfl,fun h=>by cases h⟩) fun x=>by
  have:=quN;have:=@qfc.eq_1;have:=@q0D;have:=@Z0.eq_1;exact gA
def Zc (w0:List qv) (t6:Int) (t7:List qc):(List qc×Int)→Option ((List qc×Int)⊕(List qc))|(w1,t8)=>if t8<((t7.length:Nat):Int) then Option.bind (zw (Z0 w0 w1 t6 t7 t8) 0) fun(a:Int)=>if a<((w1.length:Nat):Int) then if 0≤a∧a<((w1.length:Nat):Int) then Option.bind w1[Int.toNat a]? fun(a2:qc)=>if 0≤t8∧t8<((t7.length:Nat):Int) then Option.bind t7[Int.toNat t8]? fun(a3:qc)=>if(a2.School==a3.School)=Bool.true∧(ByteArray.toList a2.Code==ByteArray.toList a3.Code)=Bool.true then some (Sum.inl (w1,w64 (t8+1))) else if w1.length+1≤maxLen∧(w1.length+1)*24≤140737488355328 then if 0≤w64 (a+1)∧w64 (a+1)≤((w1.length+1:Nat):Int) then if w64 (a+1)=0∨w64 (a+1)<((w1.length+1:Nat):Int) then if 0≤a∧a≤((w1.length+1:Nat):Int) then if a=0∨a<((w1.length+1:Nat):Int) then if(List.take (w1.length+1-Int.toNat a) (List.drop (Int.toNat a) (w1++[qc.mk 0 (ByteArray.mk (List.toArray []))]))).length*2=(w1.length+1-Int.toNat a)*2∧Int.toNat (w64 (a+1))*2+(w1.length+1-Int.toNat (w64 (a+1)))*2≤(w1.length+1)*2 then if 0≤t8∧t8<((t7.length:Nat):Int) then Option.bind t7[Int.toNat t8]? fun(a4:qc)=>if 0≤a∧a<((w1.length+1:Nat):Int) then if Int.toNat a*2+2≤(w1.length+1)*2 then some (Sum.inl (List.set (spl (w1++[qc.mk 0 (ByteArray.mk (List.toArray []))]) (Int.toNat (w64 (a+1))) (List.take (min (w1.length+1-Int.toNat a) (w1.length+1-Int.toNat (w64 (a+1)))) (List.take (w1.length+1-Int.toNat a) (List.drop (Int.toNat a) (w1++[qc.mk 0 (ByteArray.mk (List.toArray []))]))))) (Int.toNat a) a4,w64 (t8+1))) else none else none else none else none else if Int.toNat (w64 (a+1))*2+(w1.length+1-Int.toNat (w64 (a+1)))*2≤(w1.length+1)*2 then if 0≤t8∧t8<((t7.length:Nat):Int) then Option.bind t7[Int.toNat t8]? fun(a5:qc)=>if 0≤a∧a<((w1.length+1:Nat):Int) then if Int.toNat a*2+2≤(w1.length+1)*2 then some (Sum.inl (List.set (w1++[qc.mk 0 (ByteArray.mk (List.toArray []))]) (Int.toNat a) a5,w64 (t8+1))) else none else none else none else none else none else if 0≤a∧a≤((w1.length+1:Nat):Int) then if a=0∨a<((w1.length+1:Nat):Int) then if(List.take (w1.length+1-Int.toNat a) (List.drop (Int.toNat a) (w1++[qc.mk 0 (ByteArray.mk (List.toArray []))]))).length*2=(w1.length+1-Int.toNat a)*2 then if 0≤t8∧t8<((t7.length:Nat):Int) then Option.bind t7[Int.toNat t8]? fun(a6:qc)=>if 0≤a∧a<((w1.length+1:Nat):Int) then if Int.toNat a*2+2≤(w1.length+1)*2 then some (Sum.inl (List.set (w1++[qc.mk 0 (ByteArray.mk (List.toArray []))]) (Int.toNat a) a6,w64 (t8+1))) else none else none else none else none else if 0≤t8∧t8<((t7.length:Nat):Int) then Option.bind t7[Int.toNat t8]? fun(a7:qc)=>if 0≤a∧a<((w1.length+1:Nat):Int) then if Int.toNat a*2+2≤(w1.length+1)*2 then some (Sum.inl (List.set (w1++[qc.mk 0 (ByteArray.mk (List.toArray []))]) (Int.toNat a) a7,w64 (t8+1))) else none else none else none else none else none else none else none else none else if w1.length+1≤maxLen∧(w1.length+1)*24≤140737488355328 then if 0≤w64 (a+1)∧w64 (a+1)≤((w1.length+1:Nat):Int) then if w64 (a+1)=0∨w64 (a+1)<((w1.length+1:Nat):Int) then if 0≤a∧a≤((w1.length+1:Nat):Int) then if a=0∨a<((w1.length+1:Nat):Int) then if(List.take (w1.length+1-Int.toNat a) (List.drop (Int.toNat a) (w1++[qc.mk 0 (ByteArray.mk (List.toArray []))]))).length*2=(w1.length+1-Int.toNat a)*2∧Int.toNat (w64 (a+1))*2+(w1.length+1-Int.toNat (w64 (a+1)))*2≤(w1.length+1)*2 then if 0≤t8∧t8<((t7.length:Nat):Int) then Option.bind t7[Int.toNat t8]? fun(a8:qc)=>if 0≤a∧a<((w1.length+1:Nat):Int) then if Int.toNat a*2+2≤(w1.length+1)*2 then some (Sum.inl (List.set (spl (w1++[qc.mk 0 (ByteArray.mk (List.toArray []))]) (Int.toNat (w64 (a+1))) (List.take (min (w1.length+1-Int.toNat a) (w1.length+1-Int.toNat (w64 (a+1)))) (List.take (w1.length+1-Int.toNat a) (List.drop (Int.toNat a) (w1++[qc.mk 0 (ByteArray.mk (List.toArray []))]))))) (Int.toNat a) a8,w64 (t8+1))) else none else none else none else none else if Int.toNat (w64 (a+1))*2+(w1.length+1-Int.toNat (w64 (a+1)))*2≤(w1.length+1)*2 then if 0≤t8∧t8<((t7.length:Nat):Int) then Option.bind t7[Int.toNat t8]? fun(a9:qc)=>if 0≤a∧a<((w1.length+1:Nat):Int) then if Int.toNat a*2+2≤(w1.length+1)*2 then some (Sum.inl (List.set (w1++[qc.mk 0 (ByteArray.mk (List.toArray []))]) (Int.toNat a) a9,w64 (t8+1))) else none else none else none else none else none else if 0≤a∧a≤((w1.length+1:Nat):Int) then if a=0∨a<((w1.length+1:Nat):Int) then if(List.take (w1.length+1-Int.toNat a) (List.drop (Int.toNat a) (w1++[qc.mk 0 (ByteArray.mk (List.toArray []))]))).length*2=(w1.length+1-Int.toNat a)*2 then if 0≤t8∧t8<((t7.length:Nat):Int) then Option.bind t7[Int.toNat t8]? fun(a10:qc)=>if 0≤a∧a<((w1.length+1:Nat):Int) then if Int.toNat a*2+2≤(w1.length+1)*2 then some (Sum.inl (List.set (w1++[qc.mk 0 (ByteArray.mk (List.toArray []))]) (Int.toNat a) a10,w64 (t8+1))) else none else none else none else none else if 0≤t8∧t8<((t7.length:Nat):Int) then Option.bind t7[Int.toNat t8]? fun(a11:qc)=>if 0≤a∧a<((w1.length+1:Nat):Int) then if Int.toNat a*2+2≤(w1.length+1)*2 then some (Sum.inl (List.set (w1++[qc.mk 0 (ByteArray.mk (List.toArray []))]) (Int.toNat a) a11,w64 (t8+1))) else none else none else none else none else none else none else some (Sum.inr w1)
theorem q6c:∀(w0:List qv) (w1:List qc) (t6:Int) (t7:List qc) (t8:Int) (q0y QS:Nat),q0y=w0.length→QS=w1.length→XL2 evo 54 0 8 ⟨[(3,rO 0 6 q0y),(5,rO 1 2 QS),(6,rI t6),(7,rL 2 qd t7),(8,rI t8)],[(0,bR 150 6 qT w0),(1,bR 55 2 qd w1)],2,85⟩=(zw (Zc w0 t6 t7) (w1,t8)).bind (fun(e:List qc)=>some (Exit.exit 2,⟨[(3,rO 0 6 w0.length),(5,rO 1 2 e.length),(6,rI t6)],[(0,bR 150 6 qT w0),(1,bR 55 2 qd e)],2,85⟩)):=
 by
 intro w0 w1 t6 t7 t8 q0y QS h0 h1
 subst h0 h1
 revert t8;revert w1;exact qaL qtZ qum (fun e=>by exact⟨_,rfl,fun h=>by cases h⟩) fun w1 t8=>by
  have:=quN;have:=@qlx.eq_1;have:=@q5o;have:=@Zc.eq_1;exact gA
def Zb (w0:List qv):(List qc×Int)→Option ((List qc×Int)⊕(List qc))|(w1,t6)=>if t6<((w0.length:Nat):Int) then if 0≤t6∧t6<((w0.length:Nat):Int) then Option.bind w0[Int.toNat t6]? fun(a:qv)=>Option.bind (zw (Zc w0 t6 a.Need.Set) (w1,0)) fun(a2:List qc)=>some (Sum.inl (a2,w64 (t6+1))) else none else some (Sum.inr w1)
theorem q69:∀(w0:List qv) (w1:List qc) (t6:Int) (q0y QS:Nat),q0y=w0.length→QS=w1.length→XL2 evo 54 0 4 ⟨[(3,rO 0 6 q0y),(5,rO 1 2 QS),(6,rI t6)],[(0,bR 150 6 qT w0),(1,bR 55 2 qd w1)],2,85⟩=(zw (Zb w0) (w1,t6)).bind (fun(e:List qc)=>some (Exit.exit 0,⟨[(5,rO 0 2 e.length)],[(0,bR 55 2 qd e)],1,85⟩)):=
 by
 intro w0 w1 t6 q0y QS h0 h1
 subst h0 h1
 revert t6;revert w1;exact qaL qtQ qtN (fun e=>by exact⟨_,rfl,fun h=>by cases h⟩) fun w1 t6=>by
  have:=quN;have:=@qkD.eq_1;have:=@q6c;have:=@Zb.eq_1;exact gA
theorem q4J:∀  (w0:List qv) (t6:Int) (q0y:Nat),q0y=w0.length→XL2 evo 54 0 4 ⟨[(3,rO 0 6 q0y),(5,rO 1 2 0),(6,rI t6)],[(0,bR 150 6 qT w0),(1,B.row 55 2 [])],2,85⟩=(zw (Zb w0) ([],t6)).bind (fun(e:List qc)=>some (Exit.exit 0,⟨[(5,rO 0 2 e.length)],[(0,bR 55 2 qd e)],1,85⟩)):=by
 intro w0 t6 q0y h0;subst h0;have h:=q69 w0 [] t6 _ _ rfl rfl
 first
  | exact h
  | (simp only[rL,dL,bR,bZ,Nat.reduceAdd] at h;exact h)
def q1r (x0:qb):Option (List qc):=Option.bind (q3F x0 1) fun(a:Sum Unit (List qv))=>Sum.elim (fun(a2:Unit)=>Option.bind (zw (q13 []) ([],0)) fun(a4:List qc)=>some a4) (fun(a3:List qv)=>Option.bind (zw (Zb a3) ([],0)) fun(a5:List qc)=>some a5) a
theorem qa2:∀(qI Jp qZ:Int) (z6:List qc) (Jq:List qb),ev 54 0 [R.agg [dI qI,dI Jp,dI qZ,dL 2 qd z6,dL 5 qh Jq]] []=(q1r (qb.mk qI Jp qZ z6 Jq)).bind (fun(e:List qc)=>some (rO 0 2 e.length,[(0,bR 55 2 qd e)])):=
 fun qI Jp qZ z6 Jq=>by
  rw[qU qzi qLm.2.2.2 qFR]
  have:=quN;have:=@qdT;have:=@q5j;have:=@q4J;have:=@q1r.eq_1;exact gA
theorem qN5:okL 55 qpr:=qV (qk qIF) (by kernel_rfl) (by kernel_rfl)
def qPl:=JA_ @qpr.eq_1 (JA_ @Tryz.f55.eq_1 @qIF)
theorem qLW:okL 96 qnR:=qV (qk qGx) (by kernel_rfl) (by kernel_rfl)
def qO8:=JA_ @qnR.eq_1 (JA_ @Tryz.f96.eq_1 @qGx)
def q4z (n:Int) (m:Int):Option Int:=if m=0 then none else if m=0 then none else some (Int.tmod (w64 (Int.tmod n m+m)) m)
theorem qev:∀(n m:Int),ev 96 0 [rI n,rI m] []=(q4z n m).bind (fun(e:Int)=>some (rI e,[])):=
 fun n m=>by
  rw[qU qGx qKU.2.2.2 qLW]
  have:=qO8;have:=@q4z.eq_1;exact gA
def QM (n:Int) (d:qi):Option (Int×qi):=if((d.L.length:Nat):Int)≤d.At then some (0,d) else if 0≤w64 (w64 (d.At+1)-1)∧w64 (w64 (d.At+1)-1)<((d.L.length:Nat):Int) then Option.bind d.L[Int.toNat (w64 (w64 (d.At+1)-1))]? fun(a:Int)=>Option.bind (q4z a n) fun(a2:Int)=>some (a2,qi.mk d.L (w64 (d.At+1))) else none
theorem q3T:∀(n:Int) (d_L:List Int) (q9a:Int),ev 55 1 [rP 0,rI n] [(0,B.blk 109 [dL 1 eI d_L,dI q9a])]=(QM n (qi.mk d_L q9a)).bind (fun(e:Int×qi)=>some (rI e.1,[(0,B.blk 109 [dL 1 eI e.2.L,dI e.2.At])])):=
 fun n d_L q9a=>by
  rw[qU qIF qKF.2.2.2 qN5]
  have:=qPl;have:=@qev;have:=@QM.eq_1;exact gA
def Zm (w1:List qc) (t8:Int):(List qa×qi×Int)→Option ((List qa×qi×Int)⊕(List qa))|(w2,b0,t9)=>if t9<t8 then Option.bind (QM ((w1.length:Nat):Int) b0) fun(a:Prod Int qi)=>if 0≤a.1∧a.1<((w1.length:Nat):Int) then Option.bind w1[Int.toNat a.1]? fun(a2:qc)=>Option.bind (QM 4 a.2) fun(a3:Prod Int qi)=>if 0≤a3.1∧a3.1<4 then Option.bind [(5:Int),6,10,3][Int.toNat a3.1]? fun(a4:Int)=>Option.bind (QM 7 a3.2) fun(a5:Prod Int qi)=>if 0≤a5.1∧a5.1<7 then Option.bind [(50:Int),60,90,40,100,79,80][Int.toNat a5.1]? fun(a6:Int)=>Option.bind (QM 600 a5.2) fun(a7:Prod Int qi)=>Option.bind (QM 8 a7.2) fun(a8:Prod Int qi)=>if(a8.1==0)=Bool.true then if 0<t9 then if 0≤w64 (t9-1)∧w64 (t9-1)<((w2.length:Nat):Int) then Option.bind w2[Int.toNat (w64 (t9-1))]? fun(a9:qa)=>if 0<((a9.Sources.length:Nat):Int) then Option.bind a9.Sources[0]? fun(a10:Int)=>if w2.length+1≤maxLen∧(w2.length+1)*104≤140737488355328 then some (Sum.inl (w2++[qa.mk a2 a4 a6 a7.1 [a10] 0 []],a8.2,w64 (t9+1))) else none else none else none else if w2.length+1≤maxLen∧(w2.length+1)*104≤140737488355328 then some (Sum.inl (w2++[qa.mk a2 a4 a6 a7.1 [w64 (w64 (w64 (1000000*a2.School)+t9)+1)] 0 []],a8.2,w64 (t9+1))) else none else if w2.length+1≤maxLen∧(w2.length+1)*104≤140737488355328 then some (Sum.inl (w2++[qa.mk a2 a4 a6 a7.1 [w64 (w64 (w64 (1000000*a2.School)+t9)+1)] 0 []],a8.2,w64 (t9+1))) else none else none else none else none else some (Sum.inr w2)
theorem q9B:∀(w1:List qc) (w2:List qa) (q3X:List Int) (q2b t8 t9:Int) (QS q2K:Nat),QS=w1.length→q2K=w2.length→XL2 evo 31 0 6 ⟨[(5,rP 0),(6,rO 1 2 QS),(7,rO 2 8 q2K),(8,rI t8),(9,rI t9)],[(0,B.blk 109 [dL 1 eI q3X,dI q2b]),(1,bR 55 2 qd w1),(2,bR 57 8 qe w2)],3,77⟩=(zw (Zm w1 t8) (w2,(qi.mk q3X q2b),t9)).bind (fun(e:List qa)=>some (Exit.exit 0,⟨[(7,rO 0 8 e.length)],[(0,bR 57 8 qe e)],1,77⟩)):=
 by
 intro w1 w2 q3X q2b t8 t9 QS q2K h0 h1
 subst h0 h1
 have h:=q5e (E:=evo) (f:=31) (k:=0) (st:=fun x:List qa×qi×Int=>(⟨[(5,rP 0),(6,rO 1 2 w1.length),(7,rO 2 8 x.1.length),(8,rI t8),(9,rI x.2.2)],[(0,B.blk 109 [dL 1 eI x.2.1.L,dI x.2.1.At]),(1,bR 55 2 qd w1),(2,bR 57 8 qe x.1)],3,77⟩:S)) (ex:=fun(e:List qa)=>(Exit.exit 0,⟨[(7,rO 0 8 e.length)],[(0,bR 57 8 qe e)],1,77⟩)) (step:=(Zm w1 t8)) qzN qCb (fun e h=>by cases h) (fun x=>by
  obtain⟨w2,b0,t9⟩:=x;have:=qLB;have:=@qnJ.eq_1;have:=@q3T;have:=@Zm.eq_1;exact gA) (w2,(qi.mk q3X q2b),t9)
 exact h
theorem q7C:∀  (w1:List qc) (q3X:List Int) (q2b t8 t9:Int) (QS:Nat),QS=w1.length→XL2 evo 31 0 6 ⟨[(5,rP 0),(6,rO 1 2 QS),(7,rO 2 8 0),(8,rI t8),(9,rI t9)],[(0,B.blk 109 [dL 1 eI q3X,dI q2b]),(1,bR 55 2 qd w1),(2,B.row 57 8 [])],3,77⟩=(zw (Zm w1 t8) ([],(qi.mk q3X q2b),t9)).bind (fun(e:List qa)=>some (Exit.exit 0,⟨[(7,rO 0 8 e.length)],[(0,bR 57 8 qe e)],1,77⟩)):=by
 intro w1 q3X q2b t8 t9 QS h0;subst h0;have h:=q9B w1 [] ((qi.mk q3X q2b)).L ((qi.mk q3X q2b)).At t8 t9 _ _ rfl rfl
 first
  | exact h
  | (simp only[rL,dL,bR,bZ,Nat.reduceAdd] at h;exact h)
def q3G (x0:qb) (x1:List Int):Option (List qa):=Option.bind (q1r x0) fun(a:List qc)=>if a.length+1≤maxLen∧(a.length+1)*24≤140737488355328 then Option.bind (QM 8 (qi.mk x1 0)) fun(a2:Prod Int qi)=>Option.bind (zw (Zm (a++[qc.mk 1 (ByteArray.mk (List.toArray [90]))]) a2.1) ([],(a2.2,0))) fun(a3:List qa)=>some a3 else none
theorem qcX:∀(qI Jp qZ:Int) (z6:List qc) (Jq:List qb) (x1:List Int),ev 31 0 [R.agg [dI qI,dI Jp,dI qZ,dL 2 qd z6,dL 5 qh Jq],rL 1 eI x1] []=(q3G (qb.mk qI Jp qZ z6 Jq) x1).bind (fun(e:List qa)=>some (rL 8 qe e,[])):=
 fun qI Jp qZ z6 Jq x1=>by
  rw[qU qFo qKj.2.2.2 qKY]
  have:=qLB;have:=@qa2;have:=@q3T;have:=@q7C;have:=@q3G.eq_1;exact gA
def q0o (c:q07):Option (qf×List qa×Int):=Option.bind (q3A c.Programme) fun(a:qf)=>Option.bind (q3u c.Had) fun(a2:List qa)=>if(Int.tmod c.Day 2==0)=Bool.true then Option.bind (q3G a.Need c.Had) fun(a3:List qa)=>some (a,a3,Int.tmod (w64 c.Day) 800) else some (a,a2,Int.tmod (w64 c.Day) 800)
theorem q8b:∀(q9b qz8:List Int) (qz9:Int),ev 11 0 [R.agg [dL 1 eI q9b,dL 1 eI qz8,C.d (D.int .u16 qz9)]] []=(q0o (q07.mk q9b qz8 qz9)).bind (fun(e:qf×List qa×Int)=>some (R.tup [R.agg [dI e.1.School,dI e.1.Id,dI e.1.Version,dI e.1.From,dS e.1.Name,dI e.1.Need.Kind,dI e.1.Need.N,dI e.1.Need.Min,dL 2 qd e.1.Need.Set,dL 5 qh e.1.Need.L,dI e.1.Total,dI e.1.Own,dI e.1.Age,dL 4 (eA2 qd) e.1.Exclude],rL 8 qe e.2.1,rI e.2.2],[])):=
 fun q9b qz8 qz9=>by
  rw[qU qGn qKn.2.2.2 qMf]
  have:=qPb;have:=@qdW;have:=@qds;have:=@qcX;have:=@q0o.eq_1;exact gA
end

end Go.Proofs.YtojflbfdcpkedaaGreat.Vc
