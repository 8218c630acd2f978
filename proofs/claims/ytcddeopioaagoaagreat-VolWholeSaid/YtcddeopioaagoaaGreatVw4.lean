/- Part 4 of the lemmas behind RowVolWhole: Pf60, PgYc, SpKit, SpHeap, SpCopy, SpJoin, Pf32, SpRight, SpDisk, SpArr, SpArr2, Pf62, SpFind, SpLaid, SpLaid2, Pf11, Pf12, Pf43, Pf82, Pf44. No condition beyond those that each lemma names. -/
import Derived.Test.YtcddeopioaagoaaGreatVw3
import Derived.Test.YtcddeopioaagoaaGreatProg

set_option linter.unusedVariables false
set_option linter.unusedSimpArgs false
set_option linter.unusedSectionVars false
namespace Go.PG
open Go.Proofs

noncomputable def C60l : Code := sub [.l] (bodyOf Tryz.f60)
noncomputable def C60r : Code := sub [.r] (bodyOf Tryz.f60)
noncomputable def C60rrrrlrlr : Code := sub [.r, .r, .r, .r, .l, .r, .l, .r] (bodyOf Tryz.f60)
noncomputable def C60rrrrr : Code := sub [.r, .r, .r, .r, .r] (bodyOf Tryz.f60)
noncomputable def C60rrrrrll : Code := sub [.r, .r, .r, .r, .r, .l, .l] (bodyOf Tryz.f60)
noncomputable def C60rrrrrlr : Code := sub [.r, .r, .r, .r, .r, .l, .r] (bodyOf Tryz.f60)
noncomputable def C60rrrrrlrll : Code := sub [.r, .r, .r, .r, .r, .l, .r, .l, .l] (bodyOf Tryz.f60)
noncomputable def C60rrrrrlrllrrllrr : Code := sub [.r, .r, .r, .r, .r, .l, .r, .l, .l, .r, .r, .l, .l, .r, .r] (bodyOf Tryz.f60)
noncomputable def C60rrrrrlrllrrr : Code := sub [.r, .r, .r, .r, .r, .l, .r, .l, .l, .r, .r, .r] (bodyOf Tryz.f60)
noncomputable def C60rrrrrr : Code := sub [.r, .r, .r, .r, .r, .r] (bodyOf Tryz.f60)
noncomputable def C60rrrrrrrrlrll : Code := sub [.r, .r, .r, .r, .r, .r, .r, .r, .l, .r, .l, .l] (bodyOf Tryz.f60)
noncomputable def C60rrrrrrrrr : Code := sub [.r, .r, .r, .r, .r, .r, .r, .r, .r] (bodyOf Tryz.f60)
noncomputable def K60_0 (k : Nat) : Ex → Fr → Heap → Option (Value × Heap) := finK Tryz.prog Tryz.f60
noncomputable def K60_1 (k : Nat) : Ex → Fr → Heap → Option (Value × Heap) := seqC (denK Tryz.prog (run Tryz.prog k) k C60rrrrrrrrr (K60_0 k)) (K60_0 k)
noncomputable def K60_2 (k : Nat) : Ex → Fr → Heap → Option (Value × Heap) := blkC 2 (K60_1 k)
noncomputable def K60_3 (k : Nat) : Ex → Fr → Heap → Option (Value × Heap) := seqC (denK Tryz.prog (run Tryz.prog k) k C60rrrrrr (K60_0 k)) (K60_0 k)
noncomputable def K60_4 (k : Nat) : Ex → Fr → Heap → Option (Value × Heap) := blkC 0 (K60_3 k)
noncomputable def K60_5 (k : Nat) (nrrrrrlrl : Nat) : Ex → Fr → Heap → Option (Value × Heap) := seqC (iterK (denK Tryz.prog (run Tryz.prog k) k C60rrrrrlrll) (K60_4 k) nrrrrrlrl) (K60_4 k)
noncomputable def K60_6 (k : Nat) (nrrrrrlrl : Nat) : Ex → Fr → Heap → Option (Value × Heap) := seqC (denK Tryz.prog (run Tryz.prog k) k C60rrrrrlrllrrr (K60_5 k nrrrrrlrl)) (K60_5 k nrrrrrlrl)
noncomputable def K60_7 (k : Nat) (nrrrrrlrl : Nat) : Ex → Fr → Heap → Option (Value × Heap) := blkC 1 (K60_6 k nrrrrrlrl)
noncomputable def K60_8 (k : Nat) : Ex → Fr → Heap → Option (Value × Heap) := seqC (denK Tryz.prog (run Tryz.prog k) k C60rrrrrlr (K60_3 k)) (K60_3 k)
noncomputable def K60_9 (k : Nat) : Ex → Fr → Heap → Option (Value × Heap) := seqC (denK Tryz.prog (run Tryz.prog k) k C60rrrrr (K60_0 k)) (K60_0 k)
noncomputable def K60_10 (k : Nat) : Ex → Fr → Heap → Option (Value × Heap) := seqC (denK Tryz.prog (run Tryz.prog k) k C60r (K60_0 k)) (K60_0 k)

noncomputable def L60_0 (k : Nat) : Nat → Value → Value → Value → Value → Value → Value → Heap → Option (Value × Heap)
  | 0, _, _, _, _, _, _, _ => none
  | n + 1, x1, x8, x9, sC, tC, uC, H =>
    (binI .lss uC tC).bind fun y73 =>
    condV y73
    (
      (idxSl 1 sC uC).bind fun y74 =>
      (ldV false 1 y74 H).bind fun y75 =>
      (sliceSl 1 x8 (some x9) none none).bind fun y79 =>
      bindP (copyV 1 y79 x1 H) fun y81 H_1 =>
      (binI .add x9 y81).bind fun y82 =>
      (sliceSl 1 x8 (some y82) none none).bind fun y86 =>
      bindP (copyV 1 y86 y75 H_1) fun y88 H_2 =>
      (binI .add y82 y88).bind fun y89 =>
      (binI .add uC (.int .i64 1)).bind fun y90 =>
      (L60_0 k n) x1 x8 y89 sC tC y90 H_2)
    (
      some (x8, H))
noncomputable def J60_1 (k : Nat) (nxrrrrrlrl : Value → Value → Value → Value → Value → Value → Heap → Option (Value × Heap)) (x0 x1 x5 x7 qB rB sB : Value) (H : Heap) : Option (Value × Heap) :=
  bindM (lenSl x7) H fun y56 H_1 =>
  (binI .add x5 y56).bind fun y57 =>
  (binI .add sB (.int .i64 1)).bind fun y58 =>
  nxrrrrrlrl x0 x1 y57 qB rB y58 H_1
noncomputable def L60_2 (k : Nat) : Nat → Value → Value → Value → Value → Value → Value → Heap → Option (Value × Heap)
  | 0, _, _, _, _, _, _, _ => none
  | n + 1, x0, x1, x5, qB, rB, sB, H =>
    (binI .lss sB rB).bind fun y45 =>
    condV y45
    (
      (idxSl 1 qB sB).bind fun y46 =>
      (ldV false 1 y46 H).bind fun y47 =>
      bindM (lenSl y47) H fun y49 H_1 =>
      (binI .sub (.int .i64 9223372036854775807) x5).bind fun y51 =>
      (binI .gtr y49 y51).bind fun y52 =>
      condV y52
      (
        none)
      (
        J60_1 k (L60_2 k n) x0 x1 x5 y47 qB rB sB H_1))
    (
      bindP (run Tryz.prog k 91 #[x5] H) fun y60 H_2 =>
      (sliceSl 1 y60 none (some x5) (some x5)).bind fun y63 =>
      (idxSl 1 x0 (.int .i64 0)).bind fun y66 =>
      (ldV false 1 y66 H_2).bind fun y67 =>
      bindP (copyV 1 y63 y67 H_2) fun y68 H_3 =>
      (sliceSl 1 x0 (some (.int .i64 1)) none none).bind fun y70 =>
      bindM (lenSl y70) H_3 fun y71 H_4 =>
      L60_0 k k x1 y63 y68 y70 y71 (.int .i64 0) H_4)
noncomputable def J60_3 (k : Nat) (x0 x1 x5 : Value) (H : Heap) : Option (Value × Heap) :=
  bindM (lenSl x0) H fun y43 H_1 =>
  L60_2 k k x0 x1 x5 x0 y43 (.int .i64 0) H_1
noncomputable def J60_4 (k : Nat) (x0 x1 x5 : Value) (H : Heap) : Option (Value × Heap) :=
  bindM (lenSl x1) H fun y36 H_1 =>
  bindM (lenSl x0) H_1 fun y38 H_2 =>
  (binI .sub y38 (.int .i64 1)).bind fun y39 =>
  (binI .mul y36 y39).bind fun y40 =>
  (binI .add x5 y40).bind fun y41 =>
  J60_3 k x0 x1 y41 H_2
noncomputable def F60 (k : Nat) (x0 x1 : Value) (H : Heap) : Option (Value × Heap) :=
  bindM (lenSl x0) H fun y13 H_1 =>
  (binI .eql y13 (.int .i64 0)).bind fun y14 =>
  condV y14
  (
    bindP (pBuildSlice Tryz.prog 57 0 [] H_1) fun y15 H_2 =>
    some (y15, H_2))
  (
    bindM (lenSl x0) H_1 fun y17 H_3 =>
    (binI .eql y17 (.int .i64 1)).bind fun y18 =>
    condV y18
    (
      (idxSl 1 x0 (.int .i64 0)).bind fun y20 =>
      (ldV false 1 y20 H_3).bind fun y21 =>
      bindP (appendSl 5 1 1 (.slice none 0 0) y21 H_3) fun y22 H_4 =>
      some (y22, H_4))
    (
      bindM (lenSl x1) H_3 fun y24 H_5 =>
      (binI .gtr y24 (.int .i64 0)).bind fun y25 =>
      condV y25
      (
        bindM (lenSl x1) H_5 fun y27 H_6 =>
        bindM (lenSl x0) H_6 fun y29 H_7 =>
        (binI .sub y29 (.int .i64 1)).bind fun y30 =>
        (binI .quo (.int .i64 9223372036854775807) y30).bind fun y31 =>
        (binI .geq y27 y31).bind fun y32 =>
        condV y32
        (
          none)
        (
          J60_4 k x0 x1 (.int .i64 0) H_7))
      (
        J60_3 k x0 x1 (.int .i64 0) H_5)))

theorem TL60_0 (k : Nat) : ∀ (n : Nat) (x0 x1 x2 x3 x4 x5 x6 x7 x8 x9 kA lA mA nA oA pA qA rA sA tA uA vA wA xA yA zA aB bB cB dB eB fB gB hB iB jB kB lB mB nB oB pB qB rB sB tB uB vB wB xB yB zB aC bC cC dC eC fC gC hC iC jC kC lC mC nC oC pC qC rC sC tC uC vC wC xC yC zC aD bD cD dD eD fD gD hD iD jD kD lD mD nD : Value) (H : Heap), iterK (denK Tryz.prog (run Tryz.prog k) k C60rrrrrrrrlrll) (K60_2 k) n #[x0,x1,x2,x3,x4,x5,x6,x7,x8,x9,kA,lA,mA,nA,oA,pA,qA,rA,sA,tA,uA,vA,wA,xA,yA,zA,aB,bB,cB,dB,eB,fB,gB,hB,iB,jB,kB,lB,mB,nB,oB,pB,qB,rB,sB,tB,uB,vB,wB,xB,yB,zB,aC,bC,cC,dC,eC,fC,gC,hC,iC,jC,kC,lC,mC,nC,oC,pC,qC,rC,sC,tC,uC,vC,wC,xC,yC,zC,aD,bD,cD,dD,eD,fD,gD,hD,iD,jD,kD,lD,mD,nD] H = L60_0 k n x1 x8 x9 sC tC uC H := by
  intro n
  induction n with
  | zero => intros; rfl
  | succ n ih =>
    intro x0 x1 x2 x3 x4 x5 x6 x7 x8 x9 kA lA mA nA oA pA qA rA sA tA uA vA wA xA yA zA aB bB cB dB eB fB gB hB iB jB kB lB mB nB oB pB qB rB sB tB uB vB wB xB yB zB aC bC cC dC eC fC gC hC iC jC kC lC mC nC oC pC qC rC sC tC uC vC wC xC yC zC aD bD cD dD eD fD gD hD iD jD kD lD mD nD H
    refine Eq.trans (b :=
    (binI .lss uC tC).bind fun y73 =>
    condV y73
    (
      (idxSl 1 sC uC).bind fun y74 =>
      (ldV false 1 y74 H).bind fun y75 =>
      (sliceSl 1 x8 (some x9) none none).bind fun y79 =>
      bindP (copyV 1 y79 x1 H) fun y81 H_1 =>
      (binI .add x9 y81).bind fun y82 =>
      (sliceSl 1 x8 (some y82) none none).bind fun y86 =>
      bindP (copyV 1 y86 y75 H_1) fun y88 H_2 =>
      (binI .add y82 y88).bind fun y89 =>
      (binI .add uC (.int .i64 1)).bind fun y90 =>
      iterK (denK Tryz.prog (run Tryz.prog k) k C60rrrrrrrrlrll) (K60_2 k) n #[x0,x1,x2,x3,x4,x5,x6,x7,x8,y89,kA,y75,mA,nA,oA,pA,qA,rA,sA,tA,uA,vA,wA,xA,yA,zA,aB,bB,cB,dB,eB,fB,gB,hB,iB,jB,kB,lB,mB,nB,oB,pB,qB,rB,sB,tB,uB,vB,wB,xB,yB,zB,aC,bC,cC,dC,eC,fC,gC,hC,iC,jC,kC,lC,mC,nC,oC,pC,qC,rC,sC,tC,y90,y73,y74,y75,x9,x8,x9,y79,x1,y81,y82,y82,x8,y82,y86,y75,y88,y89,y90,nD] H_2)
    (
      some (x8, H))) (by kernel_rfl) ?_
    simp only [ih]
    rfl
theorem TJ60_1 (k : Nat) (nrrrrrlrl : Nat) (nxrrrrrlrl : Value → Value → Value → Value → Value → Value → Heap → Option (Value × Heap)) (hrrrrrlrl : ∀ (x0 x1 x2 x3 x4 x5 x6 x7 x8 x9 kA lA mA nA oA pA qA rA sA tA uA vA wA xA yA zA aB bB cB dB eB fB gB hB iB jB kB lB mB nB oB pB qB rB sB tB uB vB wB xB yB zB aC bC cC dC eC fC gC hC iC jC kC lC mC nC oC pC qC rC sC tC uC vC wC xC yC zC aD bD cD dD eD fD gD hD iD jD kD lD mD nD : Value) (H : Heap), iterK (denK Tryz.prog (run Tryz.prog k) k C60rrrrrlrll) (K60_4 k) nrrrrrlrl #[x0,x1,x2,x3,x4,x5,x6,x7,x8,x9,kA,lA,mA,nA,oA,pA,qA,rA,sA,tA,uA,vA,wA,xA,yA,zA,aB,bB,cB,dB,eB,fB,gB,hB,iB,jB,kB,lB,mB,nB,oB,pB,qB,rB,sB,tB,uB,vB,wB,xB,yB,zB,aC,bC,cC,dC,eC,fC,gC,hC,iC,jC,kC,lC,mC,nC,oC,pC,qC,rC,sC,tC,uC,vC,wC,xC,yC,zC,aD,bD,cD,dD,eD,fD,gD,hD,iD,jD,kD,lD,mD,nD] H = nxrrrrrlrl x0 x1 x5 qB rB sB H) (x0 x1 x2 x3 x4 x5 x6 x7 x8 x9 kA lA mA nA oA pA qA rA sA tA uA vA wA xA yA zA aB bB cB dB eB fB gB hB iB jB kB lB mB nB oB pB qB rB sB tB uB vB wB xB yB zB aC bC cC dC eC fC gC hC iC jC kC lC mC nC oC pC qC rC sC tC uC vC wC xC yC zC aD bD cD dD eD fD gD hD iD jD kD lD mD nD : Value) (H : Heap) : denK Tryz.prog (run Tryz.prog k) k C60rrrrrlrllrrllrr (K60_7 k nrrrrrlrl) #[x0,x1,x2,x3,x4,x5,x6,x7,x8,x9,kA,lA,mA,nA,oA,pA,qA,rA,sA,tA,uA,vA,wA,xA,yA,zA,aB,bB,cB,dB,eB,fB,gB,hB,iB,jB,kB,lB,mB,nB,oB,pB,qB,rB,sB,tB,uB,vB,wB,xB,yB,zB,aC,bC,cC,dC,eC,fC,gC,hC,iC,jC,kC,lC,mC,nC,oC,pC,qC,rC,sC,tC,uC,vC,wC,xC,yC,zC,aD,bD,cD,dD,eD,fD,gD,hD,iD,jD,kD,lD,mD,nD] H = J60_1 k nxrrrrrlrl x0 x1 x5 x7 qB rB sB H := by
  refine Eq.trans (b :=
    bindM (lenSl x7) H fun y56 H_1 =>
    (binI .add x5 y56).bind fun y57 =>
    (binI .add sB (.int .i64 1)).bind fun y58 =>
    iterK (denK Tryz.prog (run Tryz.prog k) k C60rrrrrlrll) (K60_4 k) nrrrrrlrl #[x0,x1,x2,x3,x4,y57,x6,x7,x8,x9,kA,lA,mA,nA,oA,pA,qA,rA,sA,tA,uA,vA,wA,xA,yA,zA,aB,bB,cB,dB,eB,fB,gB,hB,iB,jB,kB,lB,mB,nB,oB,pB,qB,rB,y58,tB,uB,vB,wB,xB,yB,zB,aC,bC,x5,x7,y56,y57,y58,hC,iC,jC,kC,lC,mC,nC,oC,pC,qC,rC,sC,tC,uC,vC,wC,xC,yC,zC,aD,bD,cD,dD,eD,fD,gD,hD,iD,jD,kD,lD,mD,nD] H_1) (by kernel_rfl) ?_
  simp only [hrrrrrlrl]
  rfl
theorem TL60_2 (k : Nat) : ∀ (n : Nat) (x0 x1 x2 x3 x4 x5 x6 x7 x8 x9 kA lA mA nA oA pA qA rA sA tA uA vA wA xA yA zA aB bB cB dB eB fB gB hB iB jB kB lB mB nB oB pB qB rB sB tB uB vB wB xB yB zB aC bC cC dC eC fC gC hC iC jC kC lC mC nC oC pC qC rC sC tC uC vC wC xC yC zC aD bD cD dD eD fD gD hD iD jD kD lD mD nD : Value) (H : Heap), iterK (denK Tryz.prog (run Tryz.prog k) k C60rrrrrlrll) (K60_4 k) n #[x0,x1,x2,x3,x4,x5,x6,x7,x8,x9,kA,lA,mA,nA,oA,pA,qA,rA,sA,tA,uA,vA,wA,xA,yA,zA,aB,bB,cB,dB,eB,fB,gB,hB,iB,jB,kB,lB,mB,nB,oB,pB,qB,rB,sB,tB,uB,vB,wB,xB,yB,zB,aC,bC,cC,dC,eC,fC,gC,hC,iC,jC,kC,lC,mC,nC,oC,pC,qC,rC,sC,tC,uC,vC,wC,xC,yC,zC,aD,bD,cD,dD,eD,fD,gD,hD,iD,jD,kD,lD,mD,nD] H = L60_2 k n x0 x1 x5 qB rB sB H := by
  intro n
  induction n with
  | zero => intros; rfl
  | succ n ih =>
    intro x0 x1 x2 x3 x4 x5 x6 x7 x8 x9 kA lA mA nA oA pA qA rA sA tA uA vA wA xA yA zA aB bB cB dB eB fB gB hB iB jB kB lB mB nB oB pB qB rB sB tB uB vB wB xB yB zB aC bC cC dC eC fC gC hC iC jC kC lC mC nC oC pC qC rC sC tC uC vC wC xC yC zC aD bD cD dD eD fD gD hD iD jD kD lD mD nD H
    refine Eq.trans (b :=
    (binI .lss sB rB).bind fun y45 =>
    condV y45
    (
      (idxSl 1 qB sB).bind fun y46 =>
      (ldV false 1 y46 H).bind fun y47 =>
      bindM (lenSl y47) H fun y49 H_1 =>
      (binI .sub (.int .i64 9223372036854775807) x5).bind fun y51 =>
      (binI .gtr y49 y51).bind fun y52 =>
      condV y52
      (
        none)
      (
        denK Tryz.prog (run Tryz.prog k) k C60rrrrrlrllrrllrr (K60_7 k n) #[x0,x1,x2,x3,x4,x5,x6,y47,x8,x9,kA,lA,mA,nA,oA,pA,qA,rA,sA,tA,uA,vA,wA,xA,yA,zA,aB,bB,cB,dB,eB,fB,gB,hB,iB,jB,kB,lB,mB,nB,oB,pB,qB,rB,sB,y45,y46,y47,y47,y49,x5,y51,y52,bC,cC,dC,eC,fC,gC,hC,iC,jC,kC,lC,mC,nC,oC,pC,qC,rC,sC,tC,uC,vC,wC,xC,yC,zC,aD,bD,cD,dD,eD,fD,gD,hD,iD,jD,kD,lD,mD,nD] H_1))
    (
      bindP (run Tryz.prog k 91 #[x5] H) fun y60 H_2 =>
      (sliceSl 1 y60 none (some x5) (some x5)).bind fun y63 =>
      (idxSl 1 x0 (.int .i64 0)).bind fun y66 =>
      (ldV false 1 y66 H_2).bind fun y67 =>
      bindP (copyV 1 y63 y67 H_2) fun y68 H_3 =>
      (sliceSl 1 x0 (some (.int .i64 1)) none none).bind fun y70 =>
      bindM (lenSl y70) H_3 fun y71 H_4 =>
      iterK (denK Tryz.prog (run Tryz.prog k) k C60rrrrrrrrlrll) (K60_2 k) k #[x0,x1,x2,x3,x4,x5,x6,x7,y63,y68,kA,lA,mA,nA,oA,pA,qA,rA,sA,tA,uA,vA,wA,xA,yA,zA,aB,bB,cB,dB,eB,fB,gB,hB,iB,jB,kB,lB,mB,nB,oB,pB,qB,rB,sB,y45,uB,vB,wB,xB,yB,zB,aC,bC,cC,dC,eC,fC,gC,x5,y60,x5,x5,y63,y63,x0,y66,y67,y68,x0,y70,y71,(.int .i64 0),vC,wC,xC,yC,zC,aD,bD,cD,dD,eD,fD,gD,hD,iD,jD,kD,lD,mD,nD] H_4)) (by kernel_rfl) ?_
    simp only [TL60_0 k, TJ60_1 k n (L60_2 k n) ih]
    rfl
theorem TJ60_3 (k : Nat) (x0 x1 x2 x3 x4 x5 x6 x7 x8 x9 kA lA mA nA oA pA qA rA sA tA uA vA wA xA yA zA aB bB cB dB eB fB gB hB iB jB kB lB mB nB oB pB qB rB sB tB uB vB wB xB yB zB aC bC cC dC eC fC gC hC iC jC kC lC mC nC oC pC qC rC sC tC uC vC wC xC yC zC aD bD cD dD eD fD gD hD iD jD kD lD mD nD : Value) (H : Heap) : denK Tryz.prog (run Tryz.prog k) k C60rrrrrll (K60_8 k) #[x0,x1,x2,x3,x4,x5,x6,x7,x8,x9,kA,lA,mA,nA,oA,pA,qA,rA,sA,tA,uA,vA,wA,xA,yA,zA,aB,bB,cB,dB,eB,fB,gB,hB,iB,jB,kB,lB,mB,nB,oB,pB,qB,rB,sB,tB,uB,vB,wB,xB,yB,zB,aC,bC,cC,dC,eC,fC,gC,hC,iC,jC,kC,lC,mC,nC,oC,pC,qC,rC,sC,tC,uC,vC,wC,xC,yC,zC,aD,bD,cD,dD,eD,fD,gD,hD,iD,jD,kD,lD,mD,nD] H = J60_3 k x0 x1 x5 H := by
  refine Eq.trans (b :=
    bindM (lenSl x0) H fun y43 H_1 =>
    iterK (denK Tryz.prog (run Tryz.prog k) k C60rrrrrlrll) (K60_4 k) k #[x0,x1,x2,x3,x4,x5,x6,x7,x8,x9,kA,lA,mA,nA,oA,pA,qA,rA,sA,tA,uA,vA,wA,xA,yA,zA,aB,bB,cB,dB,eB,fB,gB,hB,iB,jB,kB,lB,mB,nB,oB,pB,x0,y43,(.int .i64 0),tB,uB,vB,wB,xB,yB,zB,aC,bC,cC,dC,eC,fC,gC,hC,iC,jC,kC,lC,mC,nC,oC,pC,qC,rC,sC,tC,uC,vC,wC,xC,yC,zC,aD,bD,cD,dD,eD,fD,gD,hD,iD,jD,kD,lD,mD,nD] H_1) (by kernel_rfl) ?_
  simp only [TL60_2 k]
  rfl
theorem TJ60_4 (k : Nat) (x0 x1 x2 x3 x4 x5 x6 x7 x8 x9 kA lA mA nA oA pA qA rA sA tA uA vA wA xA yA zA aB bB cB dB eB fB gB hB iB jB kB lB mB nB oB pB qB rB sB tB uB vB wB xB yB zB aC bC cC dC eC fC gC hC iC jC kC lC mC nC oC pC qC rC sC tC uC vC wC xC yC zC aD bD cD dD eD fD gD hD iD jD kD lD mD nD : Value) (H : Heap) : denK Tryz.prog (run Tryz.prog k) k C60rrrrlrlr (K60_9 k) #[x0,x1,x2,x3,x4,x5,x6,x7,x8,x9,kA,lA,mA,nA,oA,pA,qA,rA,sA,tA,uA,vA,wA,xA,yA,zA,aB,bB,cB,dB,eB,fB,gB,hB,iB,jB,kB,lB,mB,nB,oB,pB,qB,rB,sB,tB,uB,vB,wB,xB,yB,zB,aC,bC,cC,dC,eC,fC,gC,hC,iC,jC,kC,lC,mC,nC,oC,pC,qC,rC,sC,tC,uC,vC,wC,xC,yC,zC,aD,bD,cD,dD,eD,fD,gD,hD,iD,jD,kD,lD,mD,nD] H = J60_4 k x0 x1 x5 H := by
  refine Eq.trans (b :=
    bindM (lenSl x1) H fun y36 H_1 =>
    bindM (lenSl x0) H_1 fun y38 H_2 =>
    (binI .sub y38 (.int .i64 1)).bind fun y39 =>
    (binI .mul y36 y39).bind fun y40 =>
    (binI .add x5 y40).bind fun y41 =>
    denK Tryz.prog (run Tryz.prog k) k C60rrrrrll (K60_8 k) #[x0,x1,x2,x3,x4,y41,x6,x7,x8,x9,kA,lA,mA,nA,oA,pA,qA,rA,sA,tA,uA,vA,wA,xA,yA,zA,aB,bB,cB,dB,eB,fB,gB,hB,x5,x1,y36,x0,y38,y39,y40,y41,qB,rB,sB,tB,uB,vB,wB,xB,yB,zB,aC,bC,cC,dC,eC,fC,gC,hC,iC,jC,kC,lC,mC,nC,oC,pC,qC,rC,sC,tC,uC,vC,wC,xC,yC,zC,aD,bD,cD,dD,eD,fD,gD,hD,iD,jD,kD,lD,mD,nD] H_2) (by kernel_rfl) ?_
  simp only [TJ60_3 k]
  rfl
theorem TF60 (k : Nat) (x0 x1 x2 x3 x4 x5 x6 x7 x8 x9 kA lA mA nA oA pA qA rA sA tA uA vA wA xA yA zA aB bB cB dB eB fB gB hB iB jB kB lB mB nB oB pB qB rB sB tB uB vB wB xB yB zB aC bC cC dC eC fC gC hC iC jC kC lC mC nC oC pC qC rC sC tC uC vC wC xC yC zC aD bD cD dD eD fD gD hD iD jD kD lD mD nD : Value) (H : Heap) : denK Tryz.prog (run Tryz.prog k) k C60l (K60_10 k) #[x0,x1,x2,x3,x4,x5,x6,x7,x8,x9,kA,lA,mA,nA,oA,pA,qA,rA,sA,tA,uA,vA,wA,xA,yA,zA,aB,bB,cB,dB,eB,fB,gB,hB,iB,jB,kB,lB,mB,nB,oB,pB,qB,rB,sB,tB,uB,vB,wB,xB,yB,zB,aC,bC,cC,dC,eC,fC,gC,hC,iC,jC,kC,lC,mC,nC,oC,pC,qC,rC,sC,tC,uC,vC,wC,xC,yC,zC,aD,bD,cD,dD,eD,fD,gD,hD,iD,jD,kD,lD,mD,nD] H = F60 k x0 x1 H := by
  refine Eq.trans (b :=
    bindM (lenSl x0) H fun y13 H_1 =>
    (binI .eql y13 (.int .i64 0)).bind fun y14 =>
    condV y14
    (
      bindP (pBuildSlice Tryz.prog 57 0 [] H_1) fun y15 H_2 =>
      some (y15, H_2))
    (
      bindM (lenSl x0) H_1 fun y17 H_3 =>
      (binI .eql y17 (.int .i64 1)).bind fun y18 =>
      condV y18
      (
        (idxSl 1 x0 (.int .i64 0)).bind fun y20 =>
        (ldV false 1 y20 H_3).bind fun y21 =>
        bindP (appendSl 5 1 1 (.slice none 0 0) y21 H_3) fun y22 H_4 =>
        some (y22, H_4))
      (
        bindM (lenSl x1) H_3 fun y24 H_5 =>
        (binI .gtr y24 (.int .i64 0)).bind fun y25 =>
        condV y25
        (
          bindM (lenSl x1) H_5 fun y27 H_6 =>
          bindM (lenSl x0) H_6 fun y29 H_7 =>
          (binI .sub y29 (.int .i64 1)).bind fun y30 =>
          (binI .quo (.int .i64 9223372036854775807) y30).bind fun y31 =>
          (binI .geq y27 y31).bind fun y32 =>
          condV y32
          (
            none)
          (
            denK Tryz.prog (run Tryz.prog k) k C60rrrrlrlr (K60_9 k) #[x0,x1,x2,x3,(.slice none 0 0),(.int .i64 0),x6,x7,x8,x9,kA,lA,x0,y13,y14,pA,x0,y17,y18,tA,uA,vA,wA,x1,y24,y25,x1,y27,x0,y29,y30,y31,y32,hB,iB,jB,kB,lB,mB,nB,oB,pB,qB,rB,sB,tB,uB,vB,wB,xB,yB,zB,aC,bC,cC,dC,eC,fC,gC,hC,iC,jC,kC,lC,mC,nC,oC,pC,qC,rC,sC,tC,uC,vC,wC,xC,yC,zC,aD,bD,cD,dD,eD,fD,gD,hD,iD,jD,kD,lD,mD,nD] H_7))
        (
          denK Tryz.prog (run Tryz.prog k) k C60rrrrrll (K60_8 k) #[x0,x1,x2,x3,(.slice none 0 0),(.int .i64 0),x6,x7,x8,x9,kA,lA,x0,y13,y14,pA,x0,y17,y18,tA,uA,vA,wA,x1,y24,y25,aB,bB,cB,dB,eB,fB,gB,hB,iB,jB,kB,lB,mB,nB,oB,pB,qB,rB,sB,tB,uB,vB,wB,xB,yB,zB,aC,bC,cC,dC,eC,fC,gC,hC,iC,jC,kC,lC,mC,nC,oC,pC,qC,rC,sC,tC,uC,vC,wC,xC,yC,zC,aD,bD,cD,dD,eD,fD,gD,hD,iD,jD,kD,lD,mD,nD] H_5)))) (by kernel_rfl) ?_
  simp only [TJ60_3 k, TJ60_4 k]
  rfl
theorem run60 (k : Nat) (x0 x1 : Value) (H : Heap) : run Tryz.prog (k + 1) 60 #[x0,x1] H = F60 k x0 x1 H := by
  refine Eq.trans (b := denK Tryz.prog (run Tryz.prog k) k C60l (K60_10 k) #[x0,x1,undef,undef,undef,undef,undef,undef,undef,undef,undef,undef,undef,undef,undef,undef,undef,undef,undef,undef,undef,undef,undef,undef,undef,undef,undef,undef,undef,undef,undef,undef,undef,undef,undef,undef,undef,undef,undef,undef,undef,undef,undef,undef,undef,undef,undef,undef,undef,undef,undef,undef,undef,undef,undef,undef,undef,undef,undef,undef,undef,undef,undef,undef,undef,undef,undef,undef,undef,undef,undef,undef,undef,undef,undef,undef,undef,undef,undef,undef,undef,undef,undef,undef,undef,undef,undef,undef,undef,undef,undef,undef] H) (by kernel_rfl) ?_
  exact TF60 k x0 x1 undef undef undef undef undef undef undef undef undef undef undef undef undef undef undef undef undef undef undef undef undef undef undef undef undef undef undef undef undef undef undef undef undef undef undef undef undef undef undef undef undef undef undef undef undef undef undef undef undef undef undef undef undef undef undef undef undef undef undef undef undef undef undef undef undef undef undef undef undef undef undef undef undef undef undef undef undef undef undef undef undef undef undef undef undef undef undef undef undef undef H

end Go.PG

namespace Go.PG

def str (l : List UInt8) : Value := .string ⟨l.toArray⟩
theorem str_add (a b : List UInt8) : (⟨a.toArray⟩ : ByteArray) ++ ⟨b.toArray⟩ = ⟨(a ++ b).toArray⟩ := by
  apply ByteArray.ext; simp
theorem str_extract (a : List UInt8) (i j : Nat) : (⟨a.toArray⟩ : ByteArray).extract i j = ⟨((a.drop i).take (j - i)).toArray⟩ := by
  apply ByteArray.ext; simp [ByteArray.data_extract]
theorem rowBytes_ok (l : List UInt8) : rowBytes (l.map fun b => Value.int .u8 (b.toNat : Int)) = some l := by
  induction l with
  | nil => rfl
  | cons b l ih => simp only [List.map_cons, rowBytes, ih, Option.map_some]; simp
theorem add_str {a b : List UInt8} (h : a.length + b.length < 2 ^ 62) : binS .add (str a) (str b) = some (str (a ++ b)) := by
  simp only [binS, str, str_add]
  rw [if_neg]
  simp [ByteArray.size]
  have : IntKind.i64.max = 9223372036854775807 := rfl
  omega
end Go.PG

namespace Go.PG

theorem bind_lazy {α β : Type} {x x' : Option α} {f : α → Option β} (h : x = x') : x.bind f = x'.bind f := by rw [h]
theorem bindP_lazy {α : Type} {x x' : Option (Value × Heap)} {f : Value → Heap → Option α} (h : x = x') : bindP x f = bindP x' f := by rw [h]
theorem bindM_lazy {α : Type} {x x' : Option Value} {H : Heap} {f : Value → Heap → Option α} (h : x = x') : bindM x H f = bindM x' H f := by rw [h]
theorem condV_lazy {α : Type} {x x' : Value} {a b : Option α} (h : x = x') : condV x a b = condV x' a b := by rw [h]
theorem condG_lazy {α : Type} {x x' : Value} {w : Bool} {a b : Option α} (h : x = x') : condG x w a b = condG x' w a b := by rw [h]
attribute [congr] bind_lazy bindP_lazy bindM_lazy condV_lazy condG_lazy

theorem Z0 {α β : Type} (a : α) (f : α → Option β) : (some a).bind f = f a := Eq.trans rfl rfl
theorem Z1 {α β : Type} (a : α) (f : α → β) : (some a).map f = some (f a) := Eq.trans rfl rfl
/-! ### Branches -/
theorem Z5 {α : Type} (A B : Option α) : condV (.bool true) A B = A := Eq.trans rfl rfl
theorem Z6 {α : Type} (A B : Option α) : condV (.bool false) A B = B := Eq.trans rfl rfl
theorem Z7 {α : Type} (b : Bool) (A B : Option α) : condV (.bool !b) A B = condV (.bool b) B A := by cases b <;> rfl
theorem Z8 {α : Type} (A B : Option α) : condG (.bool true) true A B = A := Eq.trans rfl rfl
theorem Z9 {α : Type} (A B : Option α) : condG (.bool false) false A B = A := Eq.trans rfl rfl
theorem Za {α : Type} (A B : Option α) : condG (.bool true) false A B = B := Eq.trans rfl rfl
theorem Zb {α : Type} (A B : Option α) : condG (.bool false) true A B = B := Eq.trans rfl rfl
theorem Zc {α : Type} (b w : Bool) (A B : Option α) : condG (.bool !b) w A B = condG (.bool b) (!w) A B := by cases b <;> cases w <;> rfl
theorem Zd {α : Type} (w : Bool) (A B : Option α) : condG undef w A B = B := Eq.trans rfl rfl
theorem Ze {p : Prop} [Decidable p] (h : p) : Value.bool (decide p) = .bool true := by simp [h]
theorem Zf {p : Prop} [Decidable p] (h : ¬p) : Value.bool (decide p) = .bool false := by simp [h]
theorem Zg (a b : Value) : pPick (.bool true) a b = some a := Eq.trans rfl rfl
theorem Zh (a b : Value) : pPick (.bool false) a b = some b := Eq.trans rfl rfl
theorem Zi (b : Bool) : pUn .not (.bool b) = some (.bool !b) := Eq.trans rfl rfl
theorem Zj : (!true) = false := rfl
theorem Zk : (!false) = true := rfl

/-! ### Numbers -/
theorem cast_one (i : Nat) : (i : Int) + 1 = ((i + 1 : Nat) : Int) := rfl
theorem Zl {a b : Int} (h1 : -9223372036854775808 ≤ a + b) (h2 : a + b < 9223372036854775808) : binI .add (.int .i64 a) (.int .i64 b) = some (.int .i64 (a + b)) := by simp only [binI, if_true, wrap64 h1 h2]
theorem Zm {a b : Int} (h1 : -9223372036854775808 ≤ a - b) (h2 : a - b < 9223372036854775808) : binI .sub (.int .i64 a) (.int .i64 b) = some (.int .i64 (a - b)) := by simp only [binI, if_true, wrap64 h1 h2]
theorem Zn {a b : Int} (h1 : -9223372036854775808 ≤ a * b) (h2 : a * b < 9223372036854775808) : binI .mul (.int .i64 a) (.int .i64 b) = some (.int .i64 (a * b)) := by simp only [binI, if_true, wrap64 h1 h2]
theorem Zo (k : IntKind) (a b : Int) : binI .lss (.int k a) (.int k b) = some (.bool (decide (a < b))) := by simp [binI]
theorem Zp (k : IntKind) (a b : Int) : binI .leq (.int k a) (.int k b) = some (.bool (decide (a ≤ b))) := by simp [binI]
theorem Zq (k : IntKind) (a b : Int) : binI .gtr (.int k a) (.int k b) = some (.bool (decide (b < a))) := by simp [binI]
theorem Zr (k : IntKind) (a b : Int) : binI .geq (.int k a) (.int k b) = some (.bool (decide (b ≤ a))) := by simp [binI]
theorem Zs (k : IntKind) (a b : Int) : binI .eql (.int k a) (.int k b) = some (.bool (decide (a = b))) := by simp [binI]; rfl
theorem Zt (k : IntKind) (a b : Int) : binI .neq (.int k a) (.int k b) = some (.bool !(decide (a = b))) := by simp [binI]; rfl
theorem Zv {k : IntKind} {a : Int} (h1 : -9223372036854775808 ≤ a) (h2 : a < 9223372036854775808) : convI .i64 (.int k a) = some (.int .i64 a) := by simp only [convI, wrap64 h1 h2]
theorem Zu (b : UInt8) : convI .i64 (.int .u8 (b.toNat : Int)) = some (.int .i64 (b.toNat : Int)) := by
  have := b.toNat_lt
  exact Zv (by omega) (by omega)

/-! ### Strings -/
theorem Zw (l : List UInt8) : Value.string ⟨l.toArray⟩ = str l := rfl
theorem str_ex (s : ByteArray) : ∃ l, Value.string s = str l := ⟨s.data.toList, rfl⟩
theorem str_inj {a b : List UInt8} (h : str a = str b) : a = b := by
  simp only [str, Value.string.injEq, ByteArray.mk.injEq] at h
  simpa using h
theorem Zx (l : List UInt8) : lenSt (str l) = some (.int .i64 (l.length : Int)) := by simp [lenSt, str, ByteArray.size]
theorem len_data (s : ByteArray) : s.data.toList.length = s.size := by rw [Array.length_toList]; rfl
theorem toList_loop (s : ByteArray) : ∀ (m i : Nat) (r : List UInt8), s.size - i ≤ m → ByteArray.toList.loop s i r = r.reverse ++ s.data.toList.drop i
  | 0, i, r, h => by
    rw [ByteArray.toList.loop, if_neg (by omega), List.drop_eq_nil_of_le (by rw [len_data]; omega), List.append_nil]
  | m + 1, i, r, h => by
    rw [ByteArray.toList.loop]
    by_cases hi : i < s.size
    · have hi' : i < s.data.toList.length := by rw [len_data]; exact hi
      rw [if_pos hi, toList_loop s m (i + 1) _ (by omega), List.drop_eq_getElem_cons hi']
      have e : s.get! i = s.data.toList[i] := by
        have hi2 : i < s.data.size := hi
        simp only [ByteArray.get!, getElem!_pos s.data i hi2, Array.getElem_toList]
      simp [e]
    · rw [if_neg hi, List.drop_eq_nil_of_le (by rw [len_data]; omega), List.append_nil]
theorem toList_mk (l : List UInt8) : (⟨l.toArray⟩ : ByteArray).toList = l := by
  rw [ByteArray.toList, toList_loop _ _ 0 [] (Nat.le_refl _)]; simp
theorem list_beq (a b : List UInt8) : (a == b) = decide (a = b) := by by_cases h : a = b <;> simp [h]
theorem Zy (a b : List UInt8) : binS .eql (str a) (str b) = some (.bool (decide (a = b))) := by
  simp [binS, str, toList_mk, list_beq]
theorem Zz (a b : List UInt8) : binS .neq (str a) (str b) = some (.bool !(decide (a = b))) := by
  simp [binS, str, toList_mk, list_beq]
theorem Y0 {l : List UInt8} {i : Nat} (h : i < l.length) : idxStr (str l) (.int .i64 (i : Int)) = some (.int .u8 ((l[i]).toNat : Int)) := by
  have e : (⟨l.toArray⟩ : ByteArray)[i]? = some l[i] := by
    have : i < (⟨l.toArray⟩ : ByteArray).size := by simpa [ByteArray.size] using h
    rw [getElem?_pos _ i this]; rfl
  simp [idxStr, str, e]
theorem Y1 {l : List UInt8} {i j : Nat} (h1 : i ≤ j) (h2 : j ≤ l.length) : sliceStr (str l) (some (.int .i64 (i : Int))) (some (.int .i64 (j : Int))) = some (str ((l.drop i).take (j - i))) := by
  have g2 : (j : Int) ≤ (l.length : Int) := by omega
  simp [sliceStr, str, sBound, ByteArray.size, g2, str_extract, h1]
theorem Y2 {l : List UInt8} {i : Nat} (h1 : i ≤ l.length) : sliceStr (str l) (some (.int .i64 (i : Int))) none = some (str (l.drop i)) := by
  simp [sliceStr, str, sBound, ByteArray.size, str_extract, h1]
  rw [List.take_of_length_le (by simp)]
theorem Y3 {l : List UInt8} {j : Nat} (h2 : j ≤ l.length) : sliceStr (str l) none (some (.int .i64 (j : Int))) = some (str (l.take j)) := by
  have g2 : (j : Int) ≤ (l.length : Int) := by omega
  simp [sliceStr, str, sBound, ByteArray.size, g2, str_extract]
end Go.PG

namespace Go.PG

/-! ### Blocks -/
def get1 (o : Nat) (b : Blk) : Option Value := b.view.bind fun d => if d.1 ≤ o then d.2[o - d.1]? else none
def getN (k o : Nat) (b : Blk) : Option Value := b.view.bind fun d => if d.1 ≤ o ∧ o - d.1 + k ≤ d.2.size then some (.agg (d.2.extract (o - d.1) (o - d.1 + k))) else none
theorem get1_row {b : Blk} {c : Array Value} (h : b.row = some c) (o : Nat) : get1 o b = c[o]? := by
  simp [get1, view_row h]
theorem getN_row {b : Blk} {c : Array Value} (h : b.row = some c) (k o : Nat) : getN k o b = if o + k ≤ c.size then some (.agg (c.extract o (o + k))) else none := by
  simp [getN, view_row h]
def putN (H : Heap) (b o : Nat) (v : Value) (n : Nat) (blk : Blk) : Option Heap :=
  blk.row.bind fun c => if v.cells.size = n ∧ n ≠ 0 ∧ H.floor ≤ b ∧ o + n ≤ c.size ∧ v.cells.toList.all oneC = true then some (H.set b (blk.put (setL c o v.cells.toList))) else none
theorem Y6 (n o : Nat) (H : Heap) : ldV false 1 (.pointer (some ⟨n, o, none⟩)) H = (H.blk n).bind (get1 o) := by
  simp only [ldV, Heap.ld1, Heap.view]
  cases H.blk n <;> simp [get1]
theorem Y7 {k : Nat} (hk : k ≠ 0) (n o : Nat) (H : Heap) : ldV true k (.pointer (some ⟨n, o, none⟩)) H = (H.blk n).bind (getN k o) := by
  simp only [ldV, Heap.ldN, Heap.view, hk]
  cases h : H.blk n with
  | none => simp
  | some b =>
    simp only [Option.bind_some, getN]
    cases b.view with
    | none => simp
    | some d =>
      simp only [Option.bind_some, Option.isSome_none, Bool.false_eq_true, if_false, if_true]
      split <;> rfl
theorem Y8 {n b o : Nat} {v : Value} {H : Heap} (hn : n ≠ 0) : stV n (.pointer (some ⟨b, o, none⟩)) v H = (H.blk b).bind (putN H b o v n) := by
  simp only [stV]
  by_cases hs : v.cells.size = n
  · have hl : v.cells.toList.length = n := by simpa using hs
    have he : v.cells.toList.isEmpty = false := by
      cases hh : v.cells.toList with
      | nil => rw [hh] at hl; exact absurd hl.symm hn
      | cons a l => rfl
    rw [if_pos hs]
    simp only [Heap.stN, he, hl]
    unfold putN
    generalize v.cells.toList.all oneC = q
    cases h : H.blk b with
    | none => simp
    | some blk =>
      cases hr : blk.row with
      | none => simp [hr]
      | some c =>
        by_cases hf : b < H.floor
        · simp [hf, hr]; omega
        · have e : H.floor ≤ b := by omega
          simp [hr, hf, hs, hn, e]
  · rw [if_neg hs]
    cases h : H.blk b with
    | none => rfl
    | some blk => simp [putN, hs]
theorem Y9 (H : Heap) (b : Blk) : (H.new b).blk H.next = some b := by simp [Heap.new]
theorem Ya {H : Heap} {b : Blk} {n : Nat} (h : n = H.next) : (H.new b).blk n = some b := by simp [Heap.new, h]
theorem Ye {H : Heap} {b : Blk} {n m : Nat} (h : m = n) : (H.set n b).blk m = some b := by simp [Heap.set, h]
theorem set_new (H : Heap) (b c : Blk) : (H.new b).set H.next c = H.new c := by
  simp only [Heap.new, Heap.set, Heap.mk.injEq, and_true]
  funext n; by_cases h : n = H.next <;> simp [h]
theorem Yb {H : Heap} {b c : Blk} {n : Nat} (h : n = H.next) : (H.new b).set n c = H.new c := by rw [h, set_new]
theorem Yc {α : Type} {a b o o' : Nat} {A : Option α} (h : a ≠ b) : apartK [.pointer (some ⟨a, o, none⟩)] (.pointer (some ⟨b, o', none⟩)) A = A := by
  simp [apartK, neB, h]
theorem floor_next (H : Heap) (b : Blk) : (H.new b).next = H.next + 1 := rfl
theorem row_cells (c : Array Value) (t : TypeId) : Blk.row (.cells c t) = some c := rfl
theorem row_grow (c : Array Value) (t : TypeId) : Blk.row (.grow c t) = some c := rfl
theorem Yl (a b c : Value) (t : TypeId) : get1 0 (.cells #[a, b, c] t) = some a := rfl
theorem Ym (a b c : Value) (t : TypeId) : get1 1 (.cells #[a, b, c] t) = some b := rfl
theorem Yn (a b c : Value) (t : TypeId) : get1 2 (.cells #[a, b, c] t) = some c := rfl
theorem Yo (a b c : Value) (t : TypeId) : getN 3 0 (.cells #[a, b, c] t) = some (.agg #[a, b, c]) := rfl
theorem Yq (a b c d : Value) (t : TypeId) : get1 0 (.cells #[a, b, c, d] t) = some a := rfl
theorem Yr (a b c d : Value) (t : TypeId) : get1 1 (.cells #[a, b, c, d] t) = some b := rfl
theorem Ys (a b c d : Value) (t : TypeId) : get1 2 (.cells #[a, b, c, d] t) = some c := rfl
theorem Yt (a b c d : Value) (t : TypeId) : get1 3 (.cells #[a, b, c, d] t) = some d := rfl
theorem Yu (a b c d : Value) (t : TypeId) : getN 4 0 (.cells #[a, b, c, d] t) = some (.agg #[a, b, c, d]) := rfl
theorem Q8 (a b c d e f : Value) (t : TypeId) : get1 0 (.cells #[a, b, c, d, e, f] t) = some a := rfl
theorem Q9 (a b c d e f : Value) (t : TypeId) : get1 1 (.cells #[a, b, c, d, e, f] t) = some b := rfl
theorem Qa (a b c d e f : Value) (t : TypeId) : get1 2 (.cells #[a, b, c, d, e, f] t) = some c := rfl
theorem Qb (a b c d e f : Value) (t : TypeId) : get1 3 (.cells #[a, b, c, d, e, f] t) = some d := rfl
theorem Qc (a b c d e f : Value) (t : TypeId) : get1 4 (.cells #[a, b, c, d, e, f] t) = some e := rfl
theorem Qd (a b c d e f : Value) (t : TypeId) : get1 5 (.cells #[a, b, c, d, e, f] t) = some f := rfl
theorem Yk (a : Value) (t : TypeId) : get1 0 (.cells #[a] t) = some a := rfl
theorem Qk (l : List UInt8) : oneC (str l) = true := rfl
theorem Ql (k : IntKind) (n : Int) : oneC (.int k n) = true := rfl
theorem Qm (b : Bool) : oneC (.bool b) = true := rfl
theorem Qn (a : Option Addr) (n c : Nat) : oneC (.slice a n c) = true := rfl
theorem Qo (a : Option Addr) : oneC (.pointer a) = true := rfl
theorem Qp (t : TypeId) (v : Value) : oneC (.iface t v) = true := rfl
theorem Yp {H : Heap} {n : Nat} {a b c x y z : Value} {t : TypeId} (hf : H.floor ≤ n) (h : (oneC a && oneC b && oneC c) = true) : putN H n 0 (.agg #[a, b, c]) 3 (.cells #[x, y, z] t) = some (H.set n (.cells #[a, b, c] t)) := by
  simp only [Bool.and_eq_true] at h
  obtain ⟨⟨h1, h2⟩, h3⟩ := h
  simp [putN, row_cells, Value.cells, hf, h1, h2, h3, setL, Blk.put]
theorem Yv {H : Heap} {n : Nat} {a b c d x y z w : Value} {t : TypeId} (hf : H.floor ≤ n) (h : (oneC a && oneC b && oneC c && oneC d) = true) : putN H n 0 (.agg #[a, b, c, d]) 4 (.cells #[x, y, z, w] t) = some (H.set n (.cells #[a, b, c, d] t)) := by
  simp only [Bool.and_eq_true] at h
  obtain ⟨⟨⟨h1, h2⟩, h3⟩, h4⟩ := h
  simp [putN, row_cells, Value.cells, hf, h1, h2, h3, h4, setL, Blk.put]

theorem Yw {b o len cap i : Nat} (h : i < len) : idxSl 1 (.slice (some ⟨b, o, none⟩) len cap) (.int .i64 (i : Int)) = some (.pointer (some ⟨b, o + i, none⟩)) := by
  have h2 : (i : Int) < (len : Int) := by omega
  simp [idxSl, h2, Addr.add]
theorem Yx (a b : Value) : pExtract (.tuple #[a, b]) 0 = some a := Eq.trans rfl rfl
theorem Yy (a b : Value) : pExtract (.tuple #[a, b]) 1 = some b := Eq.trans rfl rfl
theorem Yz (a b c : Value) : pExtract (.tuple #[a, b, c]) 0 = some a := Eq.trans rfl rfl
theorem Q0 (a b c : Value) : pExtract (.tuple #[a, b, c]) 1 = some b := Eq.trans rfl rfl
theorem Q1 (a b c : Value) : pExtract (.tuple #[a, b, c]) 2 = some c := Eq.trans rfl rfl

/-! ### Rows of records -/
section
variable {α : Type} {f : α → List Value} {n : Nat}
theorem flat_len (hf : ∀ x, (f x).length = n) (l : List α) : (l.flatMap f).length = l.length * n := by
  induction l with
  | nil => simp
  | cons a l ih => rw [List.flatMap_cons, List.length_append, ih, hf, List.length_cons, Nat.add_mul]; omega
theorem flat_drop (hf : ∀ x, (f x).length = n) (l : List α) (i : Nat) : (l.flatMap f).drop (i * n) = (l.drop i).flatMap f := by
  induction l generalizing i with
  | nil => simp
  | cons a l ih =>
    cases i with
    | zero => simp
    | succ i =>
      have e : (i + 1) * n = (f a).length + i * n := by rw [hf, Nat.add_mul]; omega
      rw [List.flatMap_cons, e, ← List.drop_drop, List.drop_left, ih]; rfl
theorem flat_take (hf : ∀ x, (f x).length = n) (l : List α) (i : Nat) : (l.flatMap f).take (i * n) = (l.take i).flatMap f := by
  induction l generalizing i with
  | nil => simp
  | cons a l ih =>
    cases i with
    | zero => simp
    | succ i =>
      have e : (i + 1) * n = (f a).length + i * n := by rw [hf, Nat.add_mul]; omega
      rw [List.flatMap_cons, e, List.take_length_add_append, ih]; rfl
theorem flat_one (hf : ∀ x, (f x).length = n) {l : List α} {i : Nat} (hi : i < l.length) : ((l.flatMap f).drop (i * n)).take n = f l[i] := by
  rw [flat_drop hf, List.drop_eq_getElem_cons hi, List.flatMap_cons, List.take_left' (hf _)]
theorem flat_get (hf : ∀ x, (f x).length = n) {l : List α} {i j : Nat} (hi : i < l.length) (hj : j < n) : (l.flatMap f)[i * n + j]? = (f l[i])[j]? := by
  rw [← flat_one hf hi, List.getElem?_take, if_pos hj, List.getElem?_drop]
theorem flat_set (hf : ∀ x, (f x).length = n) {l : List α} {i : Nat} (hi : i < l.length) (x : α) : (l.set i x).flatMap f = (l.flatMap f).take (i * n) ++ f x ++ (l.flatMap f).drop (i * n + n) := by
  have e : i * n + n = (i + 1) * n := by rw [Nat.add_mul]; omega
  rw [e, flat_drop hf, flat_take hf, List.set_eq_take_append_cons_drop, if_pos hi, List.flatMap_append, List.flatMap_cons, List.append_assoc]
theorem setL_list (c : Array Value) (o : Nat) (vs : List Value) (h : o + vs.length ≤ c.size) : setL c o vs = (c.toList.take o ++ vs ++ c.toList.drop (o + vs.length)).toArray := by
  induction vs generalizing c o with
  | nil => simp [setL]
  | cons v vs ih =>
    simp only [List.length_cons] at h
    rw [setL, ih _ _ (by simp; omega)]
    congr 1
    have hl : o < c.toList.length := by simp; omega
    rw [Array.toList_setIfInBounds, List.take_succ_eq_append_getElem (by simpa using hl), List.take_set_of_le (Nat.le_refl _), List.drop_set_of_lt (by omega)]
    simp
    congr 1; omega
end

/-! ### Heaps that changed in known blocks only -/
/-- All blocks that were are as they were, but for those of S. -/
structure Chg (S : Nat → Prop) (H H' : Heap) : Prop where
  next : H.next ≤ H'.next
  floor : H'.floor = H.floor
  old : ∀ n, n < H.next → ¬ S n → H'.blk n = H.blk n
theorem Grow.chg {S : Nat → Prop} {H H' : Heap} (h : Grow H H') : Chg S H H' := ⟨h.next, h.floor, fun n hn _ => h.old n hn⟩
theorem Chg.trans {S : Nat → Prop} {A B C : Heap} (h : Chg S A B) (k : Chg S B C) : Chg S A C := ⟨Nat.le_trans h.next k.next, k.floor.trans h.floor, fun n hn hs => (k.old n (Nat.lt_of_lt_of_le hn h.next) hs).trans (h.old n hn hs)⟩
theorem Chg.refl {S : Nat → Prop} (H : Heap) : Chg S H H := (Grow.refl H).chg
theorem Chg.set {S : Nat → Prop} {H H' : Heap} (h : Chg S H H') {n : Nat} (hn : S n ∨ H.next ≤ n) (b : Blk) : Chg S H (H'.set n b) := ⟨h.next, h.floor, fun m hm hs => by
  have e : m ≠ n := by rintro rfl; rcases hn with hn | hn; exact hs hn; omega
  simp [Heap.set, e, h.old m hm hs]⟩
theorem Chg.new {S : Nat → Prop} {H H' : Heap} (h : Chg S H H') (b : Blk) : Chg S H (H'.new b) := ⟨by have := h.next; simp [Heap.new]; omega, h.floor, fun n hn hs => by
  have e : n ≠ H'.next := by have := h.next; omega
  simp [Heap.new, e, h.old n hn hs]⟩
theorem Chg.mono {S T : Nat → Prop} {H H' : Heap} (h : Chg S H H') (k : ∀ n, S n → T n) : Chg T H H' := ⟨h.next, h.floor, fun n hn hs => h.old n hn fun h => hs (k n h)⟩

/-! ### Quiet calls -/
theorem Q2 {α : Type} {H H' : Heap} {v : Value} {f : Value → Heap → Nat → Option α} : quietK H [] (some (v, H')) f = f v (H'.atFloor H.floor) H'.next := Eq.trans rfl rfl
theorem quiet_lazy {α : Type} {H : Heap} {U : List (Nat × Nat)} {o o' : Option (Value × Heap)} {f : Value → Heap → Nat → Option α} (h : o = o') : quietK H U o f = quietK H U o' f := by rw [h]
attribute [congr] quiet_lazy
theorem Grow.quiet {H H' : Heap} (h : Grow (H.atFloor H.next) H') : Grow H (H'.atFloor H.floor) := ⟨h.next, rfl, h.old⟩
theorem Q5 (H : Heap) (n : Nat) : (H.atFloor n).next = H.next := rfl
theorem Q6 (H : Heap) (n : Nat) : (H.atFloor n).floor = n := rfl
theorem Q7 (H : Heap) (n m : Nat) : (H.atFloor n).blk m = H.blk m := rfl
theorem Q3 (H : Heap) (a : Nat) : (H.atFloor a).atFloor H.floor = H := Eq.trans rfl rfl
theorem Q4 (v : Value) : oneOf [v] = v := Eq.trans rfl rfl
theorem Qe {H : Heap} {lo hi n : Nat} (h : n < lo ∨ hi ≤ n) : (hides H [(lo, hi)]).blk n = H.blk n := by
  have : ¬ (lo ≤ n ∧ n < hi) := by omega
  simp [hides, Heap.hide, this]
theorem Qf {H : Heap} {lo hi lo' hi' n : Nat} (h : (n < lo ∨ hi ≤ n) ∧ (n < lo' ∨ hi' ≤ n)) : (hides H [(lo, hi), (lo', hi')]).blk n = H.blk n := by
  have h1 : ¬ (lo ≤ n ∧ n < hi) := by omega
  have h2 : ¬ (lo' ≤ n ∧ n < hi') := by omega
  simp [hides, Heap.hide, h1, h2]
theorem Qg (H : Heap) : hides H [] = H := Eq.trans rfl rfl
theorem Qh (H : Heap) (lo hi : Nat) : (hides H [(lo, hi)]).next = H.next := Eq.trans rfl rfl
theorem Qi (H : Heap) (lo hi : Nat) : (hides H [(lo, hi)]).floor = H.floor := Eq.trans rfl rfl
theorem Qj (H : Heap) (lo hi lo' hi' : Nat) : (hides H [(lo, hi), (lo', hi')]).next = H.next := Eq.trans rfl rfl
/-! ### Slices of records -/
section
variable {α : Type} {f : α → List Value} {n : Nat}
/-- A slice whose elements are records. -/
def SlAt (H : Heap) (v : Value) (n : Nat) (f : α → List Value) (l : List α) : Prop :=
  (∃ a c, v = .slice a 0 c ∧ l = []) ∨ ∃ b o cap blk c, v = .slice (some ⟨b, o, none⟩) l.length cap ∧ (cap = capU ∨ l.length ≤ cap) ∧ H.blk b = some blk ∧ blk.row = some c ∧ b < H.next ∧ (c.toList.drop o).take (l.length * n) = l.flatMap f
theorem SlAt.len {H : Heap} {v : Value} {l : List α} (h : SlAt H v n f l) : lenSl v = some (.int .i64 (l.length : Int)) := by
  rcases h with ⟨a, c, rfl, rfl⟩ | ⟨b, o, cap, blk, c, rfl, _⟩ <;> rfl
theorem SlAt.chg {S : Nat → Prop} {H H' : Heap} {v : Value} {l : List α} (h : SlAt H v n f l) (hg : Chg S H H') (hs : ∀ b o c, v = .slice (some ⟨b, o, none⟩) l.length c → ¬ S b) : SlAt H' v n f l := by
  rcases h with h | ⟨b, o, cap, blk, c, rfl, hcp, hb, hr, hn, hc⟩
  · exact .inl h
  · exact .inr ⟨b, o, cap, blk, c, rfl, hcp, by rw [hg.old b hn (hs b o cap rfl), hb], hr, Nat.lt_of_lt_of_le hn hg.next, hc⟩
theorem SlAt.grow {H H' : Heap} {v : Value} {l : List α} (h : SlAt H v n f l) (hg : Grow H H') : SlAt H' v n f l := h.chg (S := fun _ => False) hg.chg fun _ _ _ _ h => h
theorem SlAt.size {c : Array Value} {o : Nat} {l : List α} (hf : ∀ x, (f x).length = n) (h : (c.toList.drop o).take (l.length * n) = l.flatMap f) : l.length * n ≤ c.size - o := by
  have := congrArg List.length h
  rw [flat_len hf, List.length_take, List.length_drop] at this
  have e : c.toList.length = c.size := Array.length_toList
  omega
theorem SlAt.get {H : Heap} {v : Value} {l : List α} (hf : ∀ x, (f x).length = n) (hn : n ≠ 0) (h : SlAt H v n f l) {i : Nat} (hi : i < l.length) :
    ∃ b o, idxSl n v (.int .i64 (i : Int)) = some (.pointer (some ⟨b, o, none⟩)) ∧ b < H.next ∧ (H.blk b).bind (getN n o) = some (.agg (f l[i]).toArray) ∧ ∀ j, j < n → (H.blk b).bind (get1 (o + j)) = (f l[i])[j]? := by
  rcases h with ⟨a, c, rfl, rfl⟩ | ⟨b, o, cap, blk, c, rfl, hcp, hb, hr, hlt, hc⟩
  · simp at hi
  · have hsz := SlAt.size hf hc
    have hin : i * n + n ≤ l.length * n := by
      have : (i + 1) * n ≤ l.length * n := Nat.mul_le_mul_right n hi
      rw [Nat.add_mul] at this; omega
    have hpos : 0 < n := Nat.pos_of_ne_zero hn
    refine ⟨b, o + i * n, ?_, hlt, ?_, ?_⟩
    · simp [idxSl, hi, Addr.add]
    · rw [hb]
      rw [Option.bind_some, getN_row hr]
      rw [if_pos (by omega)]
      congr 2
      apply Array.toList_inj.1
      rw [Array.toList_extract, List.extract_eq_take_drop, ← flat_one hf hi, ← hc]
      rw [List.drop_take, List.take_take, List.drop_drop, show o + i * n + n - (o + i * n) = n from by omega, Nat.min_eq_left (by omega)]
    · intro j hj
      rw [hb]
      rw [Option.bind_some, get1_row hr]
      rw [← flat_get hf hi hj, ← hc, List.getElem?_take, if_pos (by omega), List.getElem?_drop, Array.getElem?_toList, Nat.add_assoc]
theorem SlAt.cells {H : Heap} {v : Value} {l : List α} (hf : ∀ x, (f x).length = n) (hn : n ≠ 0) (h : SlAt H v n f l) : srcLen v = some l.length ∧ srcCells n l.length v H = some (l.flatMap f).toArray := by
  rcases h with ⟨a, c, rfl, rfl⟩ | ⟨b, o, cap, blk, c, rfl, hcp, hb, hr, hlt, hc⟩
  · refine ⟨rfl, ?_⟩
    cases a <;> simp [srcCells, Heap.ldN]
  · refine ⟨rfl, ?_⟩
    have hsz := SlAt.size hf hc
    by_cases h0 : l.length * n = 0
    · have : l = [] := by
        rcases Nat.mul_eq_zero.1 h0 with h | h
        · exact List.length_eq_zero_iff.1 h
        · exact absurd h hn
      subst this; simp [srcCells, Heap.ldN]
    · have hcs : o + l.length * n ≤ c.size := by omega
      simp only [srcCells]
      rw [ldN_at hb hr hcs]
      congr 1
      apply Array.toList_inj.1
      rw [Array.toList_extract, List.extract_eq_take_drop, ← hc, show o + l.length * n - o = l.length * n from by omega]
theorem SlAt.from {H : Heap} {v : Value} {l : List α} (hf : ∀ x, (f x).length = n) (hn : n ≠ 0) (h : SlAt H v n f l) {i : Nat} (hi : i ≤ l.length) (hb : l.length < capU) :
    ∃ v', sliceSl n v (some (.int .i64 (i : Int))) none none = some v' ∧ SlAt H v' n f (l.drop i) := by
  have h2 : ∀ m : Nat, i ≤ m → sBound (some (.int .i64 (i : Int))) m 0 = some i := fun m hm => by
    simp only [sBound]; rw [if_pos ⟨by omega, by omega⟩, Int.toNat_natCast]
  rcases h with ⟨a, c, rfl, rfl⟩ | ⟨b, o, cap, blk, c, rfl, hcp, hb, hr, hlt, hc⟩
  · have hi0 : i = 0 := by simpa using hi
    subst hi0
    simp only [sliceSl, hn, if_false]
    rw [show sBound Option.none (if c = capU then 0 else c) 0 = some 0 from rfl, Option.bind_some, h2 _ (Nat.le_refl _), Option.bind_some]
    split
    · exact ⟨_, rfl, .inl ⟨_, _, rfl, rfl⟩⟩
    · exact ⟨_, rfl, .inl ⟨_, _, rfl, rfl⟩⟩
  · have hsz := SlAt.size hf hc
    have hd : ((c.toList.drop (o + i * n)).take ((l.drop i).length * n)) = (l.drop i).flatMap f := by
      rw [← flat_drop hf, ← hc, List.drop_take, List.drop_drop, List.length_drop, Nat.sub_mul]
    simp only [sliceSl, hn, if_false]
    rw [show sBound Option.none (if cap = capU then l.length else cap) l.length = some l.length from rfl, Option.bind_some, h2 _ hi, Option.bind_some]
    by_cases hcu : cap = capU
    · rw [if_pos hcu]
      refine ⟨_, rfl, .inr ⟨b, o + i * n, capU, blk, c, by simp [Addr.add], .inl rfl, hb, hr, hlt, hd⟩⟩
    · rw [if_neg hcu]
      by_cases hci : cap = i
      · rw [if_pos hci]
        have : l.length = i := by rcases hcp with h | h; exact absurd h hcu; omega
        refine ⟨_, rfl, .inl ⟨some ⟨b, o, none⟩, cap - i, by rw [this, Nat.sub_self], List.drop_eq_nil_of_le (by omega)⟩⟩
      · rw [if_neg hci]
        refine ⟨_, rfl, .inr ⟨b, o + i * n, cap - i, blk, c, by simp [Addr.add], .inr ?_, hb, hr, hlt, hd⟩⟩
        rw [List.length_drop]
        rcases hcp with h | h
        · exact absurd h hcu
        · omega
theorem SlAt.until {H : Heap} {v : Value} {l : List α} (hf : ∀ x, (f x).length = n) (hn : n ≠ 0) (h : SlAt H v n f l) {i j : Nat} (hij : i ≤ j) (hj : j ≤ l.length) (hb : l.length < capU) :
    ∃ v', sliceSl n v (some (.int .i64 (i : Int))) (some (.int .i64 (j : Int))) none = some v' ∧ SlAt H v' n f ((l.drop i).take (j - i)) := by
  have h2 : ∀ x m d : Nat, x ≤ m → sBound (some (.int .i64 (x : Int))) m d = some x := fun x m d hm => by
    simp only [sBound]; rw [if_pos ⟨by omega, by omega⟩, Int.toNat_natCast]
  rcases h with ⟨a, c, rfl, rfl⟩ | ⟨b, o, cap, blk, c, rfl, hcp, hb, hr, hlt, hc⟩
  · have hj0 : j = 0 := by simpa using hj
    subst hj0
    have hi0 : i = 0 := by omega
    subst hi0
    simp only [sliceSl, hn, if_false]
    rw [h2 0 _ _ (by omega), Option.bind_some, h2 0 _ _ (Nat.le_refl _), Option.bind_some]
    split
    · exact ⟨_, rfl, .inl ⟨_, _, rfl, rfl⟩⟩
    · exact ⟨_, rfl, .inl ⟨_, _, rfl, rfl⟩⟩
  · have hsz := SlAt.size hf hc
    have hln : ((l.drop i).take (j - i)).length = j - i := by rw [List.length_take, List.length_drop]; omega
    have hd : ((c.toList.drop (o + i * n)).take (((l.drop i).take (j - i)).length * n)) = ((l.drop i).take (j - i)).flatMap f := by
      have hm : (j - i) * n ≤ l.length * n - i * n := by rw [← Nat.sub_mul]; exact Nat.mul_le_mul_right n (by omega)
      rw [hln, ← flat_take hf, ← flat_drop hf, ← hc, List.drop_take, List.drop_drop, List.take_take, Nat.min_eq_left hm]
    have hcap : j ≤ (if cap = capU then l.length else cap) := by
      split
      · exact hj
      · rcases hcp with h | h
        · contradiction
        · omega
    simp only [sliceSl, hn, if_false]
    rw [h2 j _ _ hcap, Option.bind_some, h2 i _ _ hij, Option.bind_some]
    by_cases hcu : cap = capU
    · rw [if_pos hcu]
      refine ⟨_, rfl, .inr ⟨b, o + i * n, capU, blk, c, by rw [hln]; simp [Addr.add], .inl rfl, hb, hr, hlt, hd⟩⟩
    · rw [if_neg hcu] at hcap ⊢
      by_cases hci : cap = i
      · rw [if_pos hci]
        refine ⟨_, rfl, .inl ⟨some ⟨b, o, none⟩, cap - i, by rw [show j - i = 0 from by omega], by rw [show j - i = 0 from by omega, List.take_zero]⟩⟩
      · rw [if_neg hci]
        refine ⟨_, rfl, .inr ⟨b, o + i * n, cap - i, blk, c, by rw [hln]; simp [Addr.add], .inr (by rw [hln]; omega), hb, hr, hlt, hd⟩⟩
theorem SlAt.floor {m : Nat} {H : Heap} {v : Value} {l : List α} (h : SlAt H v n f l) : SlAt (H.atFloor m) v n f l := h
/-- A slice that may be appended to: its own block, made behind 'lo'. -/
def OwnAt (lo : Nat) (H : Heap) (v : Value) (e : TypeId) (f : α → List Value) (l : List α) : Prop :=
  (v = .slice none 0 0 ∧ l = []) ∨ (∃ b, v = .slice (some b) 0 0 ∧ l = []) ∨ ∃ b, v = .slice (some ⟨b, 0, none⟩) l.length capU ∧ H.blk b = some (.grow (l.flatMap f).toArray e) ∧ lo ≤ b ∧ b < H.next
theorem OwnAt.sl {lo : Nat} {H : Heap} {v : Value} {e : TypeId} {l : List α} (hf : ∀ x, (f x).length = n) (h : OwnAt lo H v e f l) : SlAt H v n f l := by
  rcases h with ⟨rfl, rfl⟩ | ⟨b, rfl, rfl⟩ | ⟨b, rfl, hb, h1, h2⟩
  · exact .inl ⟨_, _, rfl, rfl⟩
  · exact .inl ⟨_, _, rfl, rfl⟩
  · exact .inr ⟨b, 0, capU, _, _, rfl, .inl rfl, hb, rfl, h2, by rw [List.toList_toArray, List.drop_zero, List.take_of_length_le (by rw [flat_len hf]; exact Nat.le_refl _)]⟩
theorem OwnAt.grow {lo : Nat} {H H' : Heap} {v : Value} {e : TypeId} {l : List α} (h : OwnAt lo H v e f l) (hg : Grow H H') : OwnAt lo H' v e f l := by
  rcases h with h | h | ⟨b, rfl, hb, h1, h2⟩
  · exact .inl h
  · exact .inr (.inl h)
  · exact .inr (.inr ⟨b, rfl, by rw [hg.old b h2, hb], h1, Nat.lt_of_lt_of_le h2 hg.next⟩)
/-- A heap that keeps all blocks below 'lo'. -/
structure Keep (lo : Nat) (H H' : Heap) : Prop where
  next : H.next ≤ H'.next
  floor : H'.floor = H.floor
  old : ∀ n, n < lo → n < H.next → H'.blk n = H.blk n
theorem Grow.keep {A H H' : Heap} (h : Grow A H) {lo : Nat} (hlo : A.next ≤ lo) (k : Keep lo H H') : Grow A H' := ⟨Nat.le_trans h.next k.next, k.floor.trans h.floor, fun n hn => (k.old n (by omega) (Nat.lt_of_lt_of_le hn h.next)).trans (h.old n hn)⟩
/-- The block of a slice that may be appended to. -/
def ownB (v : Value) (n : Nat) : Prop := ∃ len, v = .slice (some ⟨n, 0, none⟩) len capU
theorem OwnAt.ownB_ge {lo : Nat} {H : Heap} {v : Value} {e : TypeId} {l : List α} (h : OwnAt lo H v e f l) {m : Nat} (hm : ownB v m) : lo ≤ m := by
  obtain ⟨len, rfl⟩ := hm
  rcases h with ⟨h, _⟩ | ⟨b, h, _⟩ | ⟨b, h, _, h1, _⟩
  · cases h
  · simp only [Value.slice.injEq] at h; exact absurd h.2.2 (by unfold capU; omega)
  · simp only [Value.slice.injEq, Option.some.injEq, Addr.mk.injEq] at h; omega
theorem OwnAt.app0 {lo : Nat} {H : Heap} {v x : Value} {e : TypeId} {bytes : Nat} {l l2 : List α} (hf : ∀ x, (f x).length = n) (hn : n ≠ 0) (h1 : ∀ x, (f x).all oneC = true) (h : OwnAt lo H v e f l) (hx : SlAt H x n f l2)
    (hb : (l.length + l2.length) * bytes ≤ 2 ^ 47) (hl : l.length + l2.length ≤ 2 ^ 47) (hfl : H.floor ≤ lo) (hlo : lo ≤ H.next) :
    ∃ v' H', appendV e n bytes v x H = some (v', H') ∧ OwnAt lo H' v' e f (l ++ l2) ∧ Chg (ownB v) H H' ∧ ∀ q, ownB v' q → ownB v q ∨ H.next ≤ q := by
  obtain ⟨hx1, hx2⟩ := hx.cells hf hn
  have hall : ((l2.flatMap f).toArray.toList.all oneC) = true := by
    rw [List.toList_toArray, List.all_flatMap]; simp only [h1]; simp
  have hcap : l.length + l2.length < capU := by unfold capU; omega
  by_cases h0 : l2 = []
  · subst h0
    simp only [List.length_nil] at hx1 hx2
    refine ⟨v, H, ?_, by rw [List.append_nil]; exact h, Chg.refl H, fun q hq => .inl hq⟩
    rcases h with ⟨rfl, rfl⟩ | ⟨b, rfl, rfl⟩ | ⟨b, rfl, hb, g1, g2⟩ <;> simp only [appendV, hx1, Option.bind_some, hx2, if_true]
  · have hpos : l2.length ≠ 0 := fun hh => h0 (List.length_eq_zero_iff.1 hh)
    rcases h with ⟨rfl, rfl⟩ | ⟨b, rfl, rfl⟩ | ⟨b, rfl, hb', g1, g2⟩
    · refine ⟨.slice (some ⟨H.next, 0, none⟩) l2.length capU, H.new (.grow (l2.flatMap f).toArray e), ?_, .inr (.inr ⟨H.next, rfl, Y9 _ _, hlo, by simp [Heap.new]⟩), (Chg.refl H).new _, fun q hq => by
        obtain ⟨len, hq⟩ := hq
        simp only [Value.slice.injEq, Option.some.injEq, Addr.mk.injEq] at hq
        exact .inr (by omega)⟩
      simp only [appendV, hx1, Option.bind_some, hx2, hpos, if_false, hall]
      simp only [List.length_nil] at hb hl
      rw [if_pos ⟨hb, hl, trivial⟩]
      simp
    · refine ⟨.slice (some ⟨H.next, 0, none⟩) l2.length capU, H.new (.grow (l2.flatMap f).toArray e), ?_, .inr (.inr ⟨H.next, rfl, Y9 _ _, hlo, by simp [Heap.new]⟩), (Chg.refl H).new _, fun q hq => by
        obtain ⟨len, hq⟩ := hq
        simp only [Value.slice.injEq, Option.some.injEq, Addr.mk.injEq] at hq
        exact .inr (by omega)⟩
      simp only [appendV, hx1, Option.bind_some, hx2, hpos, if_false, hall]
      simp only [List.length_nil] at hb hl
      rw [if_pos ⟨hb, hl, trivial⟩, if_neg (by unfold capU; omega), if_neg (by omega)]
      simp [Heap.ldN]
    · refine ⟨.slice (some ⟨H.next, 0, none⟩) (l.length + l2.length) capU, (H.del b).new (.grow ((l.flatMap f).toArray ++ (l2.flatMap f).toArray) e), ?_, .inr (.inr ⟨H.next, by rw [List.length_append], ?_, hlo, by simp [Heap.new, Heap.del]⟩), ⟨by simp [Heap.new, Heap.del], rfl, fun m hm2 hm => ?_⟩, fun q hq => by
        obtain ⟨len, hq⟩ := hq
        simp only [Value.slice.injEq, Option.some.injEq, Addr.mk.injEq] at hq
        exact .inr (by omega)⟩
      · have hs : SlAt H (.slice (some ⟨b, 0, none⟩) l.length capU) n f l := OwnAt.sl hf (.inr (.inr ⟨b, rfl, hb', g1, g2⟩))
        have hc := (hs.cells hf hn).2
        simp only [srcCells] at hc
        simp only [appendV, hx1, Option.bind_some, hx2, hpos, if_false, hall]
        rw [if_pos ⟨hb, hl, trivial⟩, if_pos trivial, if_pos ⟨trivial, by omega⟩, hc]
        simp only [Option.bind_some, hb', ne_eq, not_true_eq_false, if_false]
      · have := Y9 (H.del b) (.grow ((l.flatMap f).toArray ++ (l2.flatMap f).toArray) e)
        rw [show (H.del b).next = H.next from rfl] at this
        rw [this]; simp
      · have e1 : m ≠ H.next := by omega
        have e2 : m ≠ b := by rintro rfl; exact hm ⟨_, rfl⟩
        simp [Heap.new, Heap.del, e1, e2]
theorem OwnAt.keep {lo : Nat} {H H' : Heap} {v : Value} {e : TypeId} {l : List α} (h : OwnAt lo H v e f l) (g : Chg (ownB v) H H') : Keep lo H H' := ⟨g.next, g.floor, fun m h1 h2 => g.old m h2 fun hm => by have := h.ownB_ge hm; omega⟩
theorem OwnAt.app {lo : Nat} {H : Heap} {v x : Value} {e : TypeId} {bytes : Nat} {l l2 : List α} (hf : ∀ x, (f x).length = n) (hn : n ≠ 0) (h1 : ∀ x, (f x).all oneC = true) (h : OwnAt lo H v e f l) (hx : SlAt H x n f l2)
    (hb : (l.length + l2.length) * bytes ≤ 2 ^ 47) (hl : l.length + l2.length ≤ 2 ^ 47) (hfl : H.floor ≤ lo) (hlo : lo ≤ H.next) :
    ∃ v' H', appendV e n bytes v x H = some (v', H') ∧ OwnAt lo H' v' e f (l ++ l2) ∧ Keep lo H H' := by
  obtain ⟨v', H', e1, e2, e3, _⟩ := OwnAt.app0 hf hn h1 h hx hb hl hfl hlo
  exact ⟨v', H', e1, e2, h.keep e3⟩
theorem Keep.of_grow {lo : Nat} {H H' : Heap} (h : Grow H H') : Keep lo H H' := ⟨h.next, h.floor, fun n _ hn => h.old n hn⟩
theorem Keep.trans {lo : Nat} {A B C : Heap} (h : Keep lo A B) (k : Keep lo B C) : Keep lo A C := ⟨Nat.le_trans h.next k.next, k.floor.trans h.floor, fun n hn h2 => (k.old n hn (Nat.lt_of_lt_of_le h2 h.next)).trans (h.old n hn h2)⟩
theorem Keep.grow {lo : Nat} {A B : Heap} (h : Keep lo A B) (hl : A.next ≤ lo) : Grow A B := ⟨h.next, h.floor, fun n hn => h.old n (by omega) hn⟩
theorem OwnAt.app10 {lo : Nat} {H : Heap} {v : Value} {e t : TypeId} {bytes : Nat} {l : List α} {x : α} {c : Array Value} (hf : ∀ x, (f x).length = n) (hn : n ≠ 0) (h1 : ∀ x, (f x).all oneC = true) (h : OwnAt lo H v e f l) (hc : c.toList = f x)
    (hb : (l.length + 1) * bytes ≤ 2 ^ 47) (hl : l.length + 1 ≤ 2 ^ 47) (hfl : H.floor ≤ lo) (hlo : lo ≤ H.next) :
    ∃ v' H', appendSl e n bytes v (.slice (some ⟨H.next, 0, none⟩) 1 1) (H.new (.cells c t)) = some (v', H') ∧ OwnAt lo H' v' e f (l ++ [x]) ∧ Chg (ownB v) H H' ∧ ∀ q, ownB v' q → ownB v q ∨ H.next ≤ q := by
  have hs : SlAt (H.new (.cells c t)) (.slice (some ⟨H.next, 0, none⟩) 1 1) n f [x] :=
    .inr ⟨H.next, 0, 1, _, c, rfl, .inr (Nat.le_refl _), Y9 _ _, rfl, by simp [Heap.new], by rw [hc, List.drop_zero, List.take_of_length_le (by simp [hf])]; simp⟩
  have hg : Grow H (H.new (.cells c t)) := (Grow.refl H).new _
  obtain ⟨v', H', e1, e2, e3, e4⟩ := OwnAt.app0 hf hn h1 (h.grow hg) hs hb hl (by rw [hg.floor]; exact hfl) (Nat.le_trans hlo hg.next)
  exact ⟨v', H', e1, e2, hg.chg.trans e3, fun q hq => by
    rcases e4 q hq with h | h
    · exact .inl h
    · exact .inr (Nat.le_trans hg.next h)⟩
theorem OwnAt.app1 {lo : Nat} {H : Heap} {v : Value} {e t : TypeId} {bytes : Nat} {l : List α} {x : α} {c : Array Value} (hf : ∀ x, (f x).length = n) (hn : n ≠ 0) (h1 : ∀ x, (f x).all oneC = true) (h : OwnAt lo H v e f l) (hc : c.toList = f x)
    (hb : (l.length + 1) * bytes ≤ 2 ^ 47) (hl : l.length + 1 ≤ 2 ^ 47) (hfl : H.floor ≤ lo) (hlo : lo ≤ H.next) :
    ∃ v' H', appendSl e n bytes v (.slice (some ⟨H.next, 0, none⟩) 1 1) (H.new (.cells c t)) = some (v', H') ∧ OwnAt lo H' v' e f (l ++ [x]) ∧ Keep lo H H' := by
  obtain ⟨v', H', e1, e2, e3, _⟩ := OwnAt.app10 (t := t) hf hn h1 h hc hb hl hfl hlo
  exact ⟨v', H', e1, e2, h.keep e3⟩
end
/-- Bytes. -/
def byteC (b : UInt8) : List Value := [.int .u8 (b.toNat : Int)]
theorem byteC_len (b : UInt8) : (byteC b).length = 1 := rfl
theorem flat_byte (l : List UInt8) : l.flatMap byteC = l.map fun b => .int .u8 (b.toNat : Int) := by
  induction l with
  | nil => rfl
  | cons a l ih => rw [List.flatMap_cons, ih]; rfl
theorem byteRow_eq (l : List UInt8) : byteRow ⟨l.toArray⟩ = (l.flatMap byteC).toArray := by simp [byteRow, flat_byte]
theorem SlAt.str {H : Heap} {v : Value} {l : List UInt8} (h : SlAt H v 1 byteC l) : convBS v H = some (str l) := by
  have hc := (h.cells byteC_len (by decide)).2
  rcases h with ⟨a, c, rfl, rfl⟩ | ⟨b, o, cap, blk, c, rfl, hcp, hb, hr, hlt, _⟩
  · cases a <;> simp [convBS, Heap.ldN, rowBytes] <;> rfl
  · simp only [srcCells, Nat.mul_one] at hc
    simp only [convBS, hc, Option.bind_some, flat_byte, rowBytes_ok]
    rfl
end Go.PG

namespace Go.PG

theorem set_same {H : Heap} {b : Nat} {blk : Blk} (h : H.blk b = some blk) : H.set b blk = H := by
  simp only [Heap.set]
  have : (fun m => if m = b then some blk else H.blk m) = H.blk := by
    funext m; by_cases e : m = b
    · subst e; simp [h]
    · simp [e]
  rw [this]
theorem put_same {blk : Blk} {c : Array Value} (h : blk.row = some c) : blk.put c = blk := by
  cases blk <;> simp [Blk.row] at h <;> simp [Blk.put, h]
/-- A source of bytes: a slice or a string. -/
def SrcAt (H : Heap) (x : Value) (l : List UInt8) : Prop := srcLen x = some l.length ∧ ∀ m, m ≤ l.length → srcCells 1 m x H = some ((l.take m).flatMap byteC).toArray
theorem src_str (H : Heap) (l : List UInt8) : SrcAt H (str l) l := by
  refine ⟨by simp [srcLen, str, ByteArray.size], fun m hm => ?_⟩
  simp only [srcCells, str, str_extract, byteRow_eq, List.drop_zero, Nat.sub_zero]
theorem SlAt.src {H : Heap} {x : Value} {l : List UInt8} (h : SlAt H x 1 byteC l) : SrcAt H x l := by
  refine ⟨(h.cells byteC_len (by decide)).1, fun m hm => ?_⟩
  rcases h with ⟨a, c, rfl, rfl⟩ | ⟨b, o, cap, blk, c, rfl, hcp, hb, hr, hlt, hc⟩
  · simp only [List.length_nil, Nat.le_zero] at hm
    subst hm
    cases a <;> simp [srcCells, Heap.ldN]
  · have hsz := SlAt.size byteC_len hc
    by_cases h0 : m = 0
    · subst h0; simp [srcCells, Heap.ldN]
    · simp only [srcCells, Nat.mul_one]
      rw [ldN_at hb hr (by omega)]
      congr 1
      apply Array.toList_inj.1
      have e := flat_take byteC_len l m
      rw [Nat.mul_one] at e hc
      rw [Array.toList_extract, List.extract_eq_take_drop, ← e, ← hc, List.take_take, show o + m - o = m from by omega, Nat.min_eq_left hm]
theorem copy_bytes {H : Heap} {b o len cap : Nat} {blk : Blk} {c : Array Value} {x : Value} {l : List UInt8} (hb : H.blk b = some blk) (hr : blk.row = some c) (hsz : o + len ≤ c.size) (hf : H.floor ≤ b) (hx : SrcAt H x l) :
    copyV 1 (.slice (some ⟨b, o, none⟩) len cap) x H = some (.int .i64 ((min l.length len : Nat) : Int), H.set b (blk.put (c.toList.take o ++ (l.take (min l.length len)).flatMap byteC ++ c.toList.drop (o + min l.length len)).toArray)) := by
  have e1 : Nat.min l.length len = min l.length len := rfl
  simp only [copyV, hx.1, Option.bind_some, e1, hx.2 _ (Nat.min_le_left _ _)]
  have hl : ((l.take (min l.length len)).flatMap byteC).length = min l.length len := by
    rw [flat_len byteC_len, Nat.mul_one, List.length_take]; omega
  simp only [List.toList_toArray, Heap.stN]
  by_cases h0 : min l.length len = 0
  · have e2 : (l.take (min l.length len)).flatMap byteC = [] := by rw [h0]; rfl
    rw [e2]
    simp only [List.isEmpty_nil, if_true, Option.map_some]
    rw [h0, Nat.add_zero, List.append_nil, List.take_append_drop, Array.toArray_toList, put_same hr, set_same hb]
  · have e2 : ((l.take (min l.length len)).flatMap byteC).isEmpty = false := by
      cases hh : (l.take (min l.length len)).flatMap byteC with
      | nil => rw [hh] at hl; exact absurd hl.symm h0
      | cons a l => rfl
    have e3 : ((l.take (min l.length len)).flatMap byteC).all oneC = true := by
      rw [List.all_flatMap]; simp [byteC, oneC]
    rw [e2, hb]
    simp only [Option.bind_some, hr, hl, e3, Option.isSome_none]
    rw [if_neg (by simp), if_neg (by simp), if_neg (by omega), if_pos ⟨by omega, trivial⟩]
    simp only [Option.map_some]
    rw [setL_list _ _ _ (by rw [hl]; omega), hl]

theorem sub_lo {b o len cap i : Nat} (hc : cap < capU) (h : i ≤ len) (hl : len ≤ cap) : sliceSl 1 (.slice (some ⟨b, o, none⟩) len cap) (some (.int .i64 (i : Int))) none none = some (.slice (some ⟨b, if cap = i then o else o + i, none⟩) (len - i) (cap - i)) := by
  have hc' : ¬ (cap = capU) := by omega
  have h1 : (0 : Int) ≤ (i : Int) ∧ (i : Int) ≤ ((len : Nat) : Int) := by omega
  have h2 : (i : Int) ≤ (len : Int) := by omega
  simp only [sliceSl, hc', if_false, sBound, Option.bind_some]
  rw [if_neg (by decide)]
  rw [if_pos h1, Option.bind_some, Int.toNat_natCast]
  by_cases hci : cap = i
  · rw [if_pos hci, if_pos hci]
  · rw [if_neg hci, if_neg hci]; simp [Addr.add]
theorem sub_lo0 {b len cap i : Nat} (hc : cap < capU) (h : i ≤ len) (hl : len ≤ cap) : sliceSl 1 (.slice (some ⟨b, 0, none⟩) len cap) (some (.int .i64 (i : Int))) none none = some (.slice (some ⟨b, if cap = i then 0 else i, none⟩) (len - i) (cap - i)) := by
  rw [sub_lo hc h hl, Nat.zero_add]
/-- What is copied behind a place of a block that is a slice's own. -/
theorem copy_at {H : Heap} {b tot i : Nat} {blk : Blk} {c : Array Value} {x : Value} {l : List UInt8} (hb : H.blk b = some blk) (hr : blk.row = some c) (hsz : c.size = tot) (hi : i ≤ tot) (hf : H.floor ≤ b) (hx : SrcAt H x l) :
    copyV 1 (.slice (some ⟨b, if tot = i then 0 else i, none⟩) (tot - i) (tot - i)) x H = some (.int .i64 ((min l.length (tot - i) : Nat) : Int), H.set b (blk.put (c.toList.take i ++ (l.take (min l.length (tot - i))).flatMap byteC ++ c.toList.drop (i + min l.length (tot - i))).toArray)) := by
  by_cases h : tot = i
  · subst h
    rw [if_pos rfl, Nat.sub_self, Nat.min_zero, copy_bytes hb hr (by omega) hf hx, Nat.min_zero]
    have e : ((List.take 0 l).flatMap byteC) = [] := rfl
    rw [e, List.take_zero, List.nil_append, List.drop_zero, List.append_nil, Nat.add_zero, List.nil_append, List.take_append_drop]
  · rw [if_neg h, copy_bytes hb hr (by omega) hf hx]

theorem Grow.eqBlk {H H' : Heap} (g : Grow H H') {n : Nat} {b : Blk} (h : H.blk n = some b) (hn : n < H.next) : H'.blk n = some b := by rw [g.old n hn, h]
theorem Chg.eqBlk {S : Nat → Prop} {H H' : Heap} (g : Chg S H H') {n : Nat} {b : Blk} (h : H.blk n = some b) (hn : n < H.next) (hs : ¬ S n) : H'.blk n = some b := by rw [g.old n hn hs, h]
theorem SlAt.bytesAt {H : Heap} {v : Value} {l : List UInt8} (h : SlAt H v 1 byteC l) (hc : v = .slice none 0 0 ∨ ∃ b o c, v = .slice (some ⟨b, o, none⟩) l.length c) : lenSl v = some (.int .i64 (l.length : Int)) := h.len
end Go.PG

namespace Go.PG
open Go.Proofs

theorem noZero_run (k n : Nat) (h : n < 100000000000) (H : Heap) : run Tryz.prog (k + 1) 91 #[.int .i64 (n : Int)] H = some (.slice (some ⟨H.next, 0, none⟩) n capU, H.new (.grow (Array.replicate n junk) 5)) := by
  have e1 : (Tryz.f91.name == "runtime.NumGoroutine") = false := by kernel_rfl
  have e2 : Tryz.f91.body = none := by kernel_rfl
  have e3 : (Tryz.f91.name == "internal/bytealg.MakeNoZero") = true := by kernel_rfl
  have e4 : sliceElem Tryz.prog (Tryz.f91.resultTypes.toList.getD 0 0) = 5 := by kernel_rfl
  have e5 : ¬ Tryz.f91.name = "runtime.NumGoroutine" := by simpa using e1
  rw [run, func91]
  simp only [e1, e2, Bool.false_eq_true, if_false]
  simp only [ext, e3, if_true]
  rw [if_pos ⟨by omega, by omega⟩, e4, Int.toNat_natCast]
def elC (v : Value) : List Value := [v]
theorem elC_len (v : Value) : (elC v).length = 1 := rfl
def AllAt (H : Heap) (vs : List Value) (bs : List (List UInt8)) : Prop := vs.length = bs.length ∧ ∀ i (h : i < vs.length) (h' : i < bs.length), SlAt H vs[i] 1 byteC bs[i]
theorem AllAt.grow {H H' : Heap} {vs : List Value} {bs : List (List UInt8)} (h : AllAt H vs bs) (g : Grow H H') : AllAt H' vs bs := ⟨h.1, fun i h1 h2 => (h.2 i h1 h2).grow g⟩
theorem SlAt.el {H : Heap} {v : Value} {vs : List Value} (h : SlAt H v 1 elC vs) {i : Nat} (hi : i < vs.length) : ∃ b o, idxSl 1 v (.int .i64 (i : Int)) = some (.pointer (some ⟨b, o, none⟩)) ∧ (H.blk b).bind (get1 o) = some vs[i] := by
  obtain ⟨b, o, e1, _, _, e2⟩ := h.get elC_len (by decide) hi
  exact ⟨b, o, e1, by simpa [elC] using e2 0 (by decide)⟩
/-- The copying loop. -/
theorem join_copy (k : Nat) {x1 : Value} (hx1 : x1 = .slice none 0 0) {H0 : Heap} {rest : Value} {vs : List Value} {bs : List (List UInt8)} {b tot : Nat} (hb : H0.next ≤ b)
    (hv : SlAt H0 rest 1 elC vs) (ha : AllAt H0 vs bs) (hvl : vs.length < 1000000) : ∀ (m n i : Nat) (z w : Int) (done : List UInt8) (tail : List Value) (H : Heap), z = done.length → w = i → i + m = vs.length → m < n → Grow H0 H → b < H.next → H.floor ≤ H0.next →
    H.blk b = some (.grow (done.flatMap byteC ++ tail).toArray 5) → done.length + tail.length = tot → tail.length = ((bs.drop i).flatten).length → tot < 100000000000 →
    ∃ H', L60_0 k n x1 (.slice (some ⟨b, 0, none⟩) tot tot) (.int .i64 z) rest (.int .i64 (vs.length : Int)) (.int .i64 w) H = some (.slice (some ⟨b, 0, none⟩) tot tot, H') ∧ Grow H0 H' ∧ b < H'.next ∧ H'.blk b = some (.grow ((done ++ (bs.drop i).flatten).flatMap byteC).toArray 5)
  | 0, n, i, z, w, done, tail, H, hz, hw, hi, hn, hg, hbn, hf, hblk, ht, htl, hbig => by
    subst hz; subst hw
    obtain ⟨n, rfl⟩ : ∃ n', n = n' + 1 := ⟨n - 1, by omega⟩
    rw [L60_0]
    simp (disch := first | omega | assumption | (simp only [Yg, Yh, Yi, Yj] <;> omega) | (simp only [Qk, Ql, Qm, Qn, Qo, Qp, Bool.and_self]) | rfl) only [↓Z0, Z1, ↓Z2, ↓Z3, ↓Z4, ↓Z5, ↓Z6, Z7, ↓Z8, ↓Z9, ↓Za, ↓Zb, Zc, ↓Zd, Ze, Zf, decide_true, decide_false, Zg, Zh, Zi, Zj, Zk, Zl, Zm, Zn, Zo, Zp, Zq, Zr, Zs, Zt, Zu, Zv, Zw, Zx, Zy, Zz, Y0, Y1, Y2, Y3, Y4, Y5, Y6, Y7, Y8, Y9, Ya, Yb, Yc, Yd, Ye, Yf, Yg, Yh, Yi, Yj, Yk, Yl, Ym, Yn, Yo, Yp, Yq, Yr, Ys, Yt, Yu, Yv, Nat.zero_add, Nat.add_zero, ne_eq, not_false_eq_true, reduceCtorEq, Nat.reduceAdd, Nat.reduceEqDiff, Nat.succ_ne_self, Yw, Yx, Yy, Yz, Q0, Q1, ↓Q2, Q3, Q4, Q5, Q6, Q7, Q8, Q9, Qa, Qb, Qc, Qd, Qe, Qf, Qg, Qh, Qi, Qj]
    rw [List.drop_eq_nil_of_le (by have := ha.1; omega)] at htl ⊢
    have : tail = [] := List.length_eq_zero_iff.1 (by simpa using htl)
    subst this
    exact ⟨H, rfl, hg, hbn, by simpa using hblk⟩
  | m + 1, n, i, z, w, done, tail, H, hz, hw, hi, hn, hg, hbn, hf, hblk, ht, htl, hbig => by
    subst hz; subst hw; subst hx1
    obtain ⟨n, rfl⟩ : ∃ n', n = n' + 1 := ⟨n - 1, by omega⟩
    have hiv : i < vs.length := by omega
    have hib : i < bs.length := by have := ha.1; omega
    rw [List.drop_eq_getElem_cons hib, List.flatten_cons, List.length_append] at htl
    obtain ⟨b1, o1, e1, e2⟩ := (hv.grow hg).el hiv
    have hs := ((ha.grow hg).2 i hiv hib)
    have hlt : (i : Int) < (vs.length : Int) := by omega
    have hdl : done.length ≤ tot := by omega
    have hfl : H.floor ≤ b := by omega
    have dl : (done.flatMap byteC).length = done.length := by rw [flat_len byteC_len, Nat.mul_one]
    have s1 := sub_lo0 (b := b) (i := done.length) (show tot < capU by unfold capU; omega) hdl (Nat.le_refl tot)
    have hsrc : SrcAt H (.slice none 0 0) ([] : List UInt8) := SlAt.src (.inl ⟨_, _, rfl, rfl⟩)
    have c1 := copy_at hblk (row_grow _ _) (by simp [dl]; omega) hdl hfl hsrc
    have e0 : (min ([] : List UInt8).length (tot - done.length)) = 0 := by simp
    have e00 : ((List.take 0 ([] : List UInt8)).flatMap byteC) = [] := rfl
    rw [e0, e00, Nat.add_zero, List.append_nil, List.take_append_drop, Array.toArray_toList, put_same (row_grow _ _), set_same hblk] at c1
    have c2 := copy_at hblk (row_grow _ _) (by simp [dl]; omega) hdl hfl hs.src
    have e3 : min bs[i].length (tot - done.length) = bs[i].length := by omega
    rw [e3, List.take_length, Blk.put] at c2
    have e4 : (List.toArray (List.flatMap byteC done ++ tail)).toList.take done.length ++ List.flatMap byteC bs[i] ++ (List.toArray (List.flatMap byteC done ++ tail)).toList.drop (done.length + bs[i].length) = (done ++ bs[i]).flatMap byteC ++ tail.drop bs[i].length := by
      rw [List.toList_toArray, List.take_left' dl, ← List.drop_drop, List.drop_left' dl, List.flatMap_append]
    rw [e4] at c2
    have hz0 : (done.length : Int) + ((0 : Nat) : Int) = (done.length : Int) := by omega
    rw [L60_0]
    simp (disch := first | omega | assumption | (simp only [Yg, Yh, Yi, Yj] <;> omega) | (simp only [Qk, Ql, Qm, Qn, Qo, Qp, Bool.and_self]) | rfl) only [↓Z0, Z1, ↓Z2, ↓Z3, ↓Z4, ↓Z5, ↓Z6, Z7, ↓Z8, ↓Z9, ↓Za, ↓Zb, Zc, ↓Zd, Ze, Zf, decide_true, decide_false, Zg, Zh, Zi, Zj, Zk, Zl, Zm, Zn, Zo, Zp, Zq, Zr, Zs, Zt, Zu, Zv, Zw, Zx, Zy, Zz, Y0, Y1, Y2, Y3, Y4, Y5, Y6, Y7, Y8, Y9, Ya, Yb, Yc, Yd, Ye, Yf, Yg, Yh, Yi, Yj, Yk, Yl, Ym, Yn, Yo, Yp, Yq, Yr, Ys, Yt, Yu, Yv, Nat.zero_add, Nat.add_zero, ne_eq, not_false_eq_true, reduceCtorEq, Nat.reduceAdd, Nat.reduceEqDiff, Nat.succ_ne_self, Yw, Yx, Yy, Yz, Q0, Q1, ↓Q2, Q3, Q4, Q5, Q6, Q7, Q8, Q9, Qa, Qb, Qc, Qd, Qe, Qf, Qg, Qh, Qi, Qj, e1, e2, s1, c1, hz0, c2]
    obtain ⟨H', g1, g2, g3, g4⟩ := join_copy k rfl hb hv ha hvl m n (i + 1) _ _ (done ++ bs[i]) (tail.drop bs[i].length) (H.set b (.grow ((done ++ bs[i]).flatMap byteC ++ tail.drop bs[i].length).toArray 5)) rfl rfl (by omega) (by omega) (hg.set hb _) hbn hf (Ye rfl) (by rw [List.length_append, List.length_drop]; omega) (by rw [List.length_drop]; omega) hbig
    have hz2 : (done.length : Int) + (bs[i].length : Int) = (((done ++ bs[i]).length : Nat) : Int) := by rw [List.length_append]; omega
    refine ⟨H', ?_, g2, g3, ?_⟩
    · rw [hz2]; exact g1
    · rw [List.drop_eq_getElem_cons hib, List.flatten_cons, ← List.append_assoc]; exact g4
/-- The summing loop, and what stands behind it. -/
theorem join_sum (k : Nat) {H : Heap} {x0 : Value} {vs : List Value} {bs : List (List UInt8)} (hv : SlAt H x0 1 elC vs) (ha : AllAt H vs bs) (hne : 2 ≤ vs.length) (hvl : vs.length < 1000000) (hbig : (bs.flatten).length < 100000000000) (hk : 10 ≤ k) (hk2 : vs.length + 2 ≤ k) (hf : H.floor ≤ H.next) : ∀ (m n i : Nat) (z w : Int), z = ((bs.take i).flatten).length → w = i → i + m = vs.length → m < n →
    ∃ v H', L60_2 k n x0 (.slice none 0 0) (.int .i64 z) x0 (.int .i64 (vs.length : Int)) (.int .i64 w) H = some (v, H') ∧ SlAt H' v 1 byteC bs.flatten ∧ Grow H H'
  | 0, n, i, z, w, hz, hw, hi, hn => by
    subst hz; subst hw
    obtain ⟨n, rfl⟩ : ∃ n', n = n' + 1 := ⟨n - 1, by omega⟩
    obtain ⟨k, rfl⟩ : ∃ n', k = n' + 1 := ⟨k - 1, by omega⟩
    have e0 : bs.take i = bs := List.take_of_length_le (by have := ha.1; omega)
    rw [e0]
    have hvl' := ha.1
    have h0v : 0 < vs.length := by omega
    have h0b : 0 < bs.length := by omega
    obtain ⟨b1, o1, e1, e2⟩ := hv.el h0v
    obtain ⟨v', e3, hrest⟩ := hv.from elC_len (by decide) (i := 1) (by omega) (by unfold capU; omega)
    have hs := ha.2 0 h0v h0b
    have hspl : bs = bs[0] :: bs.drop 1 := by
      have := List.drop_eq_getElem_cons h0b
      rwa [List.drop_zero] at this
    have hfl : (bs.flatten).length = bs[0].length + ((bs.drop 1).flatten).length := by
      have := congrArg (fun l => (List.flatten l).length) hspl
      simpa using this
    generalize htot : (bs.flatten).length = tot at *
    have hcu : ¬ capU = tot := by unfold capU; omega
    have s1 : sliceSl 1 (.slice (some ⟨H.next, 0, none⟩) tot capU) none (some (.int .i64 (tot : Int))) (some (.int .i64 (tot : Int))) = some (.slice (some ⟨H.next, 0, none⟩) tot tot) := by
      have h1 : (0 : Int) ≤ (tot : Int) ∧ (tot : Int) ≤ (tot : Int) := by omega
      simp only [sliceSl, if_true, sBound, h1, and_self, Option.bind_some, Int.toNat_natCast, Nat.zero_le, Nat.sub_zero]
      rw [if_neg (by decide)]
      simp [Addr.add]
    have g1 : Grow H (H.new (.grow (Array.replicate tot junk) 5)) := (Grow.refl _).new _
    have hb0 : (H.new (.grow (Array.replicate tot junk) 5)).blk b1 = H.blk b1 := by
      cases hbb : H.blk b1 with
      | none => rw [hbb] at e2; simp at e2
      | some x =>
        obtain ⟨b2, o2, e1', hlt, _⟩ := hv.get elC_len (by decide) h0v
        rw [e1'] at e1
        simp only [Option.some.injEq, Value.pointer.injEq, Addr.mk.injEq] at e1
        rw [← hbb]
        exact g1.old b1 (by omega)
    have c1 := copy_at (i := 0) (Y9 H (.grow (Array.replicate tot junk) 5)) (row_grow _ _) (by simp) (Nat.zero_le tot) hf (hs.grow g1).src
    have e6 : (if tot = 0 then 0 else 0) = 0 := by split <;> rfl
    have e7 : min bs[0].length tot = bs[0].length := by omega
    rw [Nat.sub_zero, e6, e7, List.take_length, Blk.put, Nat.zero_add, List.take_zero, List.nil_append, set_new] at c1
    have e1 : idxSl 1 x0 (.int .i64 0) = some (.pointer (some ⟨b1, o1, none⟩)) := e1
    have e3 : sliceSl 1 x0 (some (.int .i64 1)) none none = some v' := e3
    rw [L60_2]
    simp (disch := first | omega | assumption | (simp only [Yg, Yh, Yi, Yj] <;> omega) | (simp only [Qk, Ql, Qm, Qn, Qo, Qp, Bool.and_self]) | rfl) only [↓Z0, Z1, ↓Z2, ↓Z3, ↓Z4, ↓Z5, ↓Z6, Z7, ↓Z8, ↓Z9, ↓Za, ↓Zb, Zc, ↓Zd, Ze, Zf, decide_true, decide_false, Zg, Zh, Zi, Zj, Zk, Zl, Zm, Zn, Zo, Zp, Zq, Zr, Zs, Zt, Zu, Zv, Zw, Zx, Zy, Zz, Y0, Y1, Y2, Y3, Y4, Y5, Y6, Y7, Y8, Y9, Ya, Yb, Yc, Yd, Ye, Yf, Yg, Yh, Yi, Yj, Yk, Yl, Ym, Yn, Yo, Yp, Yq, Yr, Ys, Yt, Yu, Yv, Nat.zero_add, Nat.add_zero, ne_eq, not_false_eq_true, reduceCtorEq, Nat.reduceAdd, Nat.reduceEqDiff, Nat.succ_ne_self, Yw, Yx, Yy, Yz, Q0, Q1, ↓Q2, Q3, Q4, Q5, Q6, Q7, Q8, Q9, Qa, Qb, Qc, Qd, Qe, Qf, Qg, Qh, Qi, Qj, noZero_run, s1, e1, hb0, e2, c1, e3, hrest.len]
    have hrl : (vs.drop 1).length = vs.length - 1 := List.length_drop
    have ha' : AllAt H (vs.drop 1) (bs.drop 1) := ⟨by rw [List.length_drop, List.length_drop]; omega, fun i h1 h2 => by
      rw [List.length_drop] at h1 h2
      have := ha.2 (1 + i) (by omega) (by omega)
      simpa only [List.getElem_drop] using this⟩
    have hrep : (Array.replicate tot junk).toList.length = tot := by simp
    obtain ⟨H', f1, f2, f3, f4⟩ := join_copy (k + 1) rfl (b := H.next) (tot := tot) (Nat.le_refl _) hrest ha' (by omega) (vs.length - 1) (k + 1) 0 _ _ bs[0] ((Array.replicate tot junk).toList.drop bs[0].length) (H.new (.grow ((bs[0].flatMap byteC) ++ (Array.replicate tot junk).toList.drop bs[0].length).toArray 5)) rfl rfl (by omega) (by omega) ((Grow.refl _).new _) (by simp only [Yg]; omega) hf (Y9 _ _) (by rw [List.length_drop, hrep]; omega) (by rw [List.length_drop, hrep, List.drop_zero]; omega) hbig
    rw [hrl] at f1
    refine ⟨_, H', by rw [hrl]; exact f1, ?_, f2⟩
    rw [List.drop_zero] at f4
    have e8 : bs[0] ++ (bs.drop 1).flatten = bs.flatten := by
      have := congrArg List.flatten hspl
      rw [this]; rfl
    rw [e8] at f4
    refine .inr ⟨H.next, 0, tot, _, _, by rw [htot], .inr (by omega), f4, rfl, f3, ?_⟩
    rw [List.toList_toArray, List.drop_zero, List.take_of_length_le (by rw [flat_len byteC_len]; omega)]
  | m + 1, n, i, z, w, hz, hw, hi, hn => by
    subst hz; subst hw
    obtain ⟨n, rfl⟩ : ∃ n', n = n' + 1 := ⟨n - 1, by omega⟩
    have hiv : i < vs.length := by omega
    have hib : i < bs.length := by have := ha.1; omega
    obtain ⟨b1, o1, e1, e2⟩ := hv.el hiv
    have hs := (ha.2 i hiv hib)
    have hlt : (i : Int) < (vs.length : Int) := by omega
    have hsum : ((bs.take i).flatten).length + bs[i].length = ((bs.take (i + 1)).flatten).length := by
      rw [List.take_succ_eq_append_getElem hib, List.flatten_append, List.length_append]; simp
    have hle : ((bs.take (i + 1)).flatten).length ≤ (bs.flatten).length := by
      have := congrArg (fun l => (List.flatten l).length) (List.take_append_drop (i + 1) bs)
      simp only [List.flatten_append, List.length_append] at this
      omega
    rw [L60_2]
    simp (disch := first | omega | assumption | (simp only [Yg, Yh, Yi, Yj] <;> omega) | (simp only [Qk, Ql, Qm, Qn, Qo, Qp, Bool.and_self]) | rfl) only [↓Z0, Z1, ↓Z2, ↓Z3, ↓Z4, ↓Z5, ↓Z6, Z7, ↓Z8, ↓Z9, ↓Za, ↓Zb, Zc, ↓Zd, Ze, Zf, decide_true, decide_false, Zg, Zh, Zi, Zj, Zk, Zl, Zm, Zn, Zo, Zp, Zq, Zr, Zs, Zt, Zu, Zv, Zw, Zx, Zy, Zz, Y0, Y1, Y2, Y3, Y4, Y5, Y6, Y7, Y8, Y9, Ya, Yb, Yc, Yd, Ye, Yf, Yg, Yh, Yi, Yj, Yk, Yl, Ym, Yn, Yo, Yp, Yq, Yr, Ys, Yt, Yu, Yv, Nat.zero_add, Nat.add_zero, ne_eq, not_false_eq_true, reduceCtorEq, Nat.reduceAdd, Nat.reduceEqDiff, Nat.succ_ne_self, Yw, Yx, Yy, Yz, Q0, Q1, ↓Q2, Q3, Q4, Q5, Q6, Q7, Q8, Q9, Qa, Qb, Qc, Qd, Qe, Qf, Qg, Qh, Qi, Qj, e1, e2, hs.len, J60_1]
    rw [show ((bs.take i).flatten.length : Int) + (bs[i].length : Int) = ((((bs.take (i + 1)).flatten).length : Nat) : Int) from by omega]
    exact join_sum k hv ha hne hvl hbig hk hk2 hf m n (i + 1) _ _ rfl rfl (by omega) (by omega)
theorem nil_of {v : Value} {H : Heap} {vs : List Value} (hv : SlAt H v 1 elC vs) (h : vs = []) : ∃ a c, v = .slice a 0 c := by
  rcases hv with ⟨a, c, rfl, _⟩ | ⟨b, o, cap, blk, c, rfl, _⟩
  · exact ⟨a, c, rfl⟩
  · subst h; exact ⟨_, cap, rfl⟩
theorem build57 (H : Heap) : pBuildSlice Tryz.prog 57 0 [] H = some (.slice (some ⟨H.next, 0, none⟩) 0 0, H.new (.cells #[] 5)) := by kernel_rfl
theorem join_run {k : Nat} {H : Heap} {x0 : Value} {vs : List Value} {bs : List (List UInt8)} (hv : SlAt H x0 1 elC vs) (ha : AllAt H vs bs) (hvl : vs.length < 1000000) (hbig : (bs.flatten).length < 100000000000) (hk : 11 ≤ k) (hk2 : vs.length + 3 ≤ k) (hf : H.floor ≤ H.next) :
    ∃ v H', run Tryz.prog k 60 #[x0, .slice none 0 0] H = some (v, H') ∧ SlAt H' v 1 byteC bs.flatten ∧ Grow H H' := by
  obtain ⟨k, rfl⟩ : ∃ n', k = n' + 1 := ⟨k - 1, by omega⟩
  have hvb := ha.1
  have hn0 : lenSl (.slice none 0 0) = some (.int .i64 0) := rfl
  rw [run60, F60]
  by_cases h0 : vs.length = 0
  · have hb0 : bs = [] := List.length_eq_zero_iff.1 (by omega)
    subst hb0
    simp (disch := first | omega | assumption | (simp only [Yg, Yh, Yi, Yj] <;> omega) | (simp only [Qk, Ql, Qm, Qn, Qo, Qp, Bool.and_self]) | rfl) only [↓Z0, Z1, ↓Z2, ↓Z3, ↓Z4, ↓Z5, ↓Z6, Z7, ↓Z8, ↓Z9, ↓Za, ↓Zb, Zc, ↓Zd, Ze, Zf, decide_true, decide_false, Zg, Zh, Zi, Zj, Zk, Zl, Zm, Zn, Zo, Zp, Zq, Zr, Zs, Zt, Zu, Zv, Zw, Zx, Zy, Zz, Y0, Y1, Y2, Y3, Y4, Y5, Y6, Y7, Y8, Y9, Ya, Yb, Yc, Yd, Ye, Yf, Yg, Yh, Yi, Yj, Yk, Yl, Ym, Yn, Yo, Yp, Yq, Yr, Ys, Yt, Yu, Yv, Nat.zero_add, Nat.add_zero, ne_eq, not_false_eq_true, reduceCtorEq, Nat.reduceAdd, Nat.reduceEqDiff, Nat.succ_ne_self, Yw, Yx, Yy, Yz, Q0, Q1, ↓Q2, Q3, Q4, Q5, Q6, Q7, Q8, Q9, Qa, Qb, Qc, Qd, Qe, Qf, Qg, Qh, Qi, Qj, hv.len, build57]
    exact ⟨_, _, rfl, .inl ⟨_, _, rfl, rfl⟩, (Grow.refl _).new _⟩
  · by_cases h1 : vs.length = 1
    · obtain ⟨b1, o1, e1, e2⟩ := hv.el (i := 0) (by omega)
      have e1 : idxSl 1 x0 (.int .i64 0) = some (.pointer (some ⟨b1, o1, none⟩)) := e1
      have hs := ha.2 0 (by omega) (by omega)
      have hbs : bs.flatten = bs[0] := by
        have h1b : bs.length = 1 := by omega
        obtain ⟨x, rfl⟩ := List.length_eq_one_iff.1 h1b
        simp
      have ho : OwnAt (α := UInt8) H.next H (.slice none 0 0) 5 byteC [] := .inl ⟨rfl, rfl⟩
      rw [hbs] at hbig ⊢
      obtain ⟨v', H', f1, f2, f3⟩ := OwnAt.app (bytes := 1) byteC_len (by decide) (fun _ => rfl) ho hs (by simp only [List.length_nil]; omega) (by simp only [List.length_nil]; omega) hf (Nat.le_refl _)
      have f1' : appendSl 5 1 1 (.slice none 0 0) vs[0] H = some (v', H') := by
        rw [← f1]
        rcases hs with ⟨a, c, e, _⟩ | ⟨b, o, cap, blk, c, e, _⟩ <;> rw [e] <;> rfl
      simp (disch := first | omega | assumption | (simp only [Yg, Yh, Yi, Yj] <;> omega) | (simp only [Qk, Ql, Qm, Qn, Qo, Qp, Bool.and_self]) | rfl) only [↓Z0, Z1, ↓Z2, ↓Z3, ↓Z4, ↓Z5, ↓Z6, Z7, ↓Z8, ↓Z9, ↓Za, ↓Zb, Zc, ↓Zd, Ze, Zf, decide_true, decide_false, Zg, Zh, Zi, Zj, Zk, Zl, Zm, Zn, Zo, Zp, Zq, Zr, Zs, Zt, Zu, Zv, Zw, Zx, Zy, Zz, Y0, Y1, Y2, Y3, Y4, Y5, Y6, Y7, Y8, Y9, Ya, Yb, Yc, Yd, Ye, Yf, Yg, Yh, Yi, Yj, Yk, Yl, Ym, Yn, Yo, Yp, Yq, Yr, Ys, Yt, Yu, Yv, Nat.zero_add, Nat.add_zero, ne_eq, not_false_eq_true, reduceCtorEq, Nat.reduceAdd, Nat.reduceEqDiff, Nat.succ_ne_self, Yw, Yx, Yy, Yz, Q0, Q1, ↓Q2, Q3, Q4, Q5, Q6, Q7, Q8, Q9, Qa, Qb, Qc, Qd, Qe, Qf, Qg, Qh, Qi, Qj, hv.len, e1, e2, f1']
      exact ⟨_, _, rfl, by simpa using f2.sl byteC_len, f3.grow (Nat.le_refl _)⟩
    · simp (disch := first | omega | assumption | (simp only [Yg, Yh, Yi, Yj] <;> omega) | (simp only [Qk, Ql, Qm, Qn, Qo, Qp, Bool.and_self]) | rfl) only [↓Z0, Z1, ↓Z2, ↓Z3, ↓Z4, ↓Z5, ↓Z6, Z7, ↓Z8, ↓Z9, ↓Za, ↓Zb, Zc, ↓Zd, Ze, Zf, decide_true, decide_false, Zg, Zh, Zi, Zj, Zk, Zl, Zm, Zn, Zo, Zp, Zq, Zr, Zs, Zt, Zu, Zv, Zw, Zx, Zy, Zz, Y0, Y1, Y2, Y3, Y4, Y5, Y6, Y7, Y8, Y9, Ya, Yb, Yc, Yd, Ye, Yf, Yg, Yh, Yi, Yj, Yk, Yl, Ym, Yn, Yo, Yp, Yq, Yr, Ys, Yt, Yu, Yv, Nat.zero_add, Nat.add_zero, ne_eq, not_false_eq_true, reduceCtorEq, Nat.reduceAdd, Nat.reduceEqDiff, Nat.succ_ne_self, Yw, Yx, Yy, Yz, Q0, Q1, ↓Q2, Q3, Q4, Q5, Q6, Q7, Q8, Q9, Qa, Qb, Qc, Qd, Qe, Qf, Qg, Qh, Qi, Qj, hv.len, hn0, J60_3]
      have h2 : 2 ≤ vs.length := by omega
      exact join_sum k hv ha h2 hvl hbig (by omega) (by omega) hf vs.length k 0 _ _ (by simp) rfl (by omega) (by omega)
end Go.PG

namespace Go.PG
open Go.Proofs

noncomputable def C32l : Code := sub [.l] (bodyOf Tryz.f32)
noncomputable def C32r : Code := sub [.r] (bodyOf Tryz.f32)
noncomputable def C32rl : Code := sub [.r, .l] (bodyOf Tryz.f32)
noncomputable def C32rr : Code := sub [.r, .r] (bodyOf Tryz.f32)
noncomputable def K32_0 (k : Nat) : Ex → Fr → Heap → Option (Value × Heap) := finK Tryz.prog Tryz.f32
noncomputable def K32_1 (k : Nat) : Ex → Fr → Heap → Option (Value × Heap) := seqC (denK Tryz.prog (run Tryz.prog k) k C32rr (K32_0 k)) (K32_0 k)
noncomputable def K32_2 (k : Nat) : Ex → Fr → Heap → Option (Value × Heap) := seqC (denK Tryz.prog (run Tryz.prog k) k C32r (K32_0 k)) (K32_0 k)

noncomputable def J32_0 (k : Nat) (x0 x1 x2 oA qA : Value) (H : Heap) : Option (Value × Heap) :=
  (pPick oA qA (.bool false)).bind fun y17 =>
  condG y17 true
  (
    (binI .sub x0 x2).bind fun y22 =>
    (binI .leq x1 y22).bind fun y23 =>
    (pPick y17 y23 (.bool false)).bind fun y24 =>
    some (y24, H))
  (
    (pPick y17 undef (.bool false)).bind fun y24_1 =>
    some (y24_1, H))
noncomputable def J32_1 (k : Nat) (x0 x1 x2 x9 mA : Value) (H : Heap) : Option (Value × Heap) :=
  (pPick x9 mA (.bool false)).bind fun y13 =>
  condG y13 true
  (
    (binI .geq x1 (.int .i64 0)).bind fun y16 =>
    J32_0 k x0 x1 x2 y13 y16 H)
  (
    J32_0 k x0 x1 x2 y13 undef H)
noncomputable def F32 (k : Nat) (x0 x1 x2 : Value) (H : Heap) : Option (Value × Heap) :=
  (binI .geq x2 (.int .i64 1)).bind fun y8 =>
  condG y8 true
  (
    (binI .leq x2 x0).bind fun y12 =>
    J32_1 k x0 x1 x2 y8 y12 H)
  (
    J32_1 k x0 x1 x2 y8 undef H)

theorem TJ32_0 (k : Nat) (x0 x1 x2 x3 x4 x5 x6 x7 x8 x9 kA lA mA nA oA pA qA rA sA tA uA vA wA xA yA : Value) (H : Heap) : grpK Tryz.prog (run Tryz.prog k) (ropsC C32rl) ((grps (ropsC C32rl).toList).drop 4) #[x0,x1,x2,x3,x4,x5,x6,x7,x8,x9,kA,lA,mA,nA,oA,pA,qA,rA,sA,tA,uA,vA,wA,xA,yA] H ((K32_1 k) .normal) = J32_0 k x0 x1 x2 oA qA H := by
  kernel_rfl
theorem TJ32_1 (k : Nat) (x0 x1 x2 x3 x4 x5 x6 x7 x8 x9 kA lA mA nA oA pA qA rA sA tA uA vA wA xA yA : Value) (H : Heap) : grpK Tryz.prog (run Tryz.prog k) (ropsC C32rl) ((grps (ropsC C32rl).toList).drop 2) #[x0,x1,x2,x3,x4,x5,x6,x7,x8,x9,kA,lA,mA,nA,oA,pA,qA,rA,sA,tA,uA,vA,wA,xA,yA] H ((K32_1 k) .normal) = J32_1 k x0 x1 x2 x9 mA H := by
  refine Eq.trans (b :=
    (pPick x9 mA (.bool false)).bind fun y13 =>
    condG y13 true
    (
      (binI .geq x1 (.int .i64 0)).bind fun y16 =>
      grpK Tryz.prog (run Tryz.prog k) (ropsC C32rl) ((grps (ropsC C32rl).toList).drop 4) #[x0,x1,x2,x3,x4,x5,x6,x7,x8,x9,kA,lA,mA,y13,y13,x1,y16,rA,sA,tA,uA,vA,wA,xA,yA] H ((K32_1 k) .normal))
    (
      grpK Tryz.prog (run Tryz.prog k) (ropsC C32rl) ((grps (ropsC C32rl).toList).drop 4) #[x0,x1,x2,x3,x4,x5,x6,x7,x8,x9,kA,lA,mA,y13,y13,undef,undef,rA,sA,tA,uA,vA,wA,xA,yA] H ((K32_1 k) .normal))) (by kernel_rfl) ?_
  simp only [TJ32_0 k]
  rfl
theorem TF32 (k : Nat) (x0 x1 x2 x3 x4 x5 x6 x7 x8 x9 kA lA mA nA oA pA qA rA sA tA uA vA wA xA yA : Value) (H : Heap) : denK Tryz.prog (run Tryz.prog k) k C32l (K32_2 k) #[x0,x1,x2,x3,x4,x5,x6,x7,x8,x9,kA,lA,mA,nA,oA,pA,qA,rA,sA,tA,uA,vA,wA,xA,yA] H = F32 k x0 x1 x2 H := by
  refine Eq.trans (b :=
    (binI .geq x2 (.int .i64 1)).bind fun y8 =>
    condG y8 true
    (
      (binI .leq x2 x0).bind fun y12 =>
      grpK Tryz.prog (run Tryz.prog k) (ropsC C32rl) ((grps (ropsC C32rl).toList).drop 2) #[x0,x1,x2,x3,x4,x5,(.bool false),x2,y8,y8,x2,x0,y12,nA,oA,pA,qA,rA,sA,tA,uA,vA,wA,xA,yA] H ((K32_1 k) .normal))
    (
      grpK Tryz.prog (run Tryz.prog k) (ropsC C32rl) ((grps (ropsC C32rl).toList).drop 2) #[x0,x1,x2,x3,x4,x5,(.bool false),x2,y8,y8,undef,undef,undef,nA,oA,pA,qA,rA,sA,tA,uA,vA,wA,xA,yA] H ((K32_1 k) .normal))) (by kernel_rfl) ?_
  simp only [TJ32_1 k]
  rfl
theorem run32 (k : Nat) (x0 x1 x2 : Value) (H : Heap) : run Tryz.prog (k + 1) 32 #[x0,x1,x2] H = F32 k x0 x1 x2 H := by
  refine Eq.trans (b := denK Tryz.prog (run Tryz.prog k) k C32l (K32_2 k) #[x0,x1,x2,undef,undef,undef,undef,undef,undef,undef,undef,undef,undef,undef,undef,undef,undef,undef,undef,undef,undef,undef,undef,undef,undef] H) (by kernel_rfl) ?_
  exact TF32 k x0 x1 x2 undef undef undef undef undef undef undef undef undef undef undef undef undef undef undef undef undef undef undef undef undef undef H

end Go.PG

namespace Go.PG
open Go.Proofs

theorem right_ref (k : Nat) (a b c : Int) (H : Heap) : run Tryz.prog (k + 1) 32 #[.int .i64 a, .int .i64 b, .int .i64 c] H = some (.bool (decide (1 ≤ c) && decide (c ≤ a) && decide (0 ≤ b) && decide (b ≤ IntKind.i64.wrap (a - c))), H) := by
  rw [run32]
  by_cases h1 : 1 ≤ c <;> by_cases h2 : c ≤ a <;> by_cases h3 : 0 ≤ b <;> simp [F32, J32_1, J32_0, binI, condG, pPick, h1, h2, h3]
def isRight (cap : Nat) (b c : Int) : Prop := 1 ≤ c ∧ c ≤ cap ∧ 0 ≤ b ∧ b + c ≤ cap
instance (cap : Nat) (b c : Int) : Decidable (isRight cap b c) := inferInstanceAs (Decidable (_ ∧ _))
theorem right_cap {cap : Nat} (hc : cap < 2 ^ 62) (b c : Int) : (decide (1 ≤ c) && decide (c ≤ (cap : Int)) && decide (0 ≤ b) && decide (b ≤ IntKind.i64.wrap ((cap : Int) - c))) = decide (isRight cap b c) := by
  by_cases h1 : 1 ≤ c
  · by_cases h2 : c ≤ (cap : Int)
    · rw [wrap64 (by omega) (by omega)]
      have e : (b ≤ (cap : Int) - c) = (b + c ≤ cap) := by apply propext; omega
      simp [h1, h2, isRight, e]
    · simp [h2, isRight]
  · simp [h1, isRight]
theorem right_run (k : Nat) {cap : Nat} (hc : cap < 2 ^ 62) (b c : Int) (H : Heap) : run Tryz.prog (k + 1) 32 #[.int .i64 (cap : Int), .int .i64 b, .int .i64 c] H = some (.bool (decide (isRight cap b c)), H) := by
  rw [right_ref, right_cap hc]
end Go.PG

namespace Go.PG
open Go.Proofs

/-- So many bytes: cut, or noughts behind. -/
def padTo (m : Nat) (l : List UInt8) : List UInt8 := l.take m ++ List.replicate (m - l.length) 0
theorem padTo_len (m : Nat) (l : List UInt8) : (padTo m l).length = m := by simp [padTo]; omega
def rdB (t : List UInt8) (a n : Nat) : List UInt8 := (t.drop (a * 32)).take (n * 32)
def wrB (t : List UInt8) (a n : Nat) (d : List UInt8) : List UInt8 := t.take (a * 32) ++ padTo (n * 32) d ++ t.drop ((a + n) * 32)
theorem wrB_len {t : List UInt8} {cap a n : Nat} {d : List UInt8} (h : t.length = cap * 32) (hr : a + n ≤ cap) : (wrB t a n d).length = cap * 32 := by
  have h1 : a * 32 ≤ cap * 32 := Nat.mul_le_mul_right _ (by omega)
  have h2 : (a + n) * 32 ≤ cap * 32 := Nat.mul_le_mul_right _ hr
  simp only [wrB, List.length_append, List.length_take, List.length_drop, padTo_len, h]
  omega
def rdI (cap : Nat) (t : List UInt8) (a n : Int) : Value := if isRight cap a n then .tuple #[str (rdB t a.toNat n.toNat), .int .i64 0] else .tuple #[str [], .int .i64 1]
def wrI (cap : Nat) (t : List UInt8) (a n : Int) (d : List UInt8) : List UInt8 := if isRight cap a n then wrB t a.toNat n.toNat d else t
def okI (cap : Nat) (a n : Int) : Value := .int .i64 (if isRight cap a n then 0 else 1)
/-- What a call does to a disk's blocks, from F to F'. -/
structure Foot (F F' : Nat → Prop) (H H' : Heap) : Prop where
  chg : Chg F H H'
  new : ∀ n, F' n → F n ∨ H.next ≤ n
abbrev DiskP := List UInt8 → (Nat → Prop) → Heap → Prop
structure DiskOk (K : Nat) (d : Value) (cap : Nat) (D : DiskP) : Prop where
  iface : ∃ t a, d = .iface t (.pointer (some a))
  len : ∀ {t F H}, D t F H → t.length = cap * 32
  big : cap ≤ 1000
  lt : ∀ {t F H}, D t F H → ∀ n, F n → n < H.next
  frame : ∀ {t F H T H'}, D t F H → Chg T H H' → (∀ n, F n → ¬ T n) → D t F H'
  read : ∀ {k t F H} (a n : Int), K ≤ k → D t F H → H.floor ≤ H.next → ∃ fa F' H', pMethod Tryz.prog d "Read" [.int .i64 a, .int .i64 n] = some fa ∧ run Tryz.prog k fa.1 fa.2 H = some (rdI cap t a n, H') ∧ D t F' H' ∧ Foot F F' H H'
  write : ∀ {k t F H} (a n : Int) (b : List UInt8), K ≤ k → D t F H → H.floor ≤ H.next → ∃ fa F' H', pMethod Tryz.prog d "Write" [.int .i64 a, .int .i64 n, str b] = some fa ∧ run Tryz.prog k fa.1 fa.2 H = some (okI cap a n, H') ∧ D (wrI cap t a n b) F' H' ∧ Foot F F' H H'
  trim : ∀ {k t F H} (a n : Int), K ≤ k → D t F H → H.floor ≤ H.next → ∃ fa F' H', pMethod Tryz.prog d "Trim" [.int .i64 a, .int .i64 n] = some fa ∧ run Tryz.prog k fa.1 fa.2 H = some (okI cap a n, H') ∧ D (wrI cap t a n []) F' H' ∧ Foot F F' H H'
  content : ∀ {k t F H}, K ≤ k → D t F H → H.floor ≤ H.next → ∃ fa F' H', pMethod Tryz.prog d "Content" [] = some fa ∧ run Tryz.prog k fa.1 fa.2 H = some (str t, H') ∧ D t F' H' ∧ Foot F F' H H'
  sectors : ∀ {k t F H}, K + 5 ≤ k → D t F H → H.floor ≤ H.next → ∃ F' H', run Tryz.prog k 47 #[d] H = some (.int .i64 (cap : Int), H') ∧ D t F' H' ∧ Foot F F' H H'
theorem Foot.refl (F : Nat → Prop) (H : Heap) : Foot F F H H := ⟨Chg.refl H, fun _ h => .inl h⟩
theorem Foot.of_grow {F : Nat → Prop} {H H' : Heap} (g : Grow H H') : Foot F F H H' := ⟨g.chg, fun _ h => .inl h⟩
theorem Foot.trans {F F' F'' : Nat → Prop} {A B C : Heap} (h : Foot F F' A B) (k : Foot F' F'' B C) : Foot F F'' A C :=
  ⟨⟨Nat.le_trans h.chg.next k.chg.next, k.chg.floor.trans h.chg.floor, fun n hn hs => (k.chg.old n (Nat.lt_of_lt_of_le hn h.chg.next) (fun hf => by rcases h.new n hf with h1 | h1; exact hs h1; omega)).trans (h.chg.old n hn hs)⟩,
   fun n hf => by
    rcases k.new n hf with h1 | h1
    · exact h.new n h1
    · exact .inr (Nat.le_trans h.chg.next h1)⟩
theorem DiskOk.grow {K cap : Nat} {d : Value} {D : DiskP} (h : DiskOk K d cap D) {t : List UInt8} {F : Nat → Prop} {H H' : Heap} (hd : D t F H) (g : Grow H H') : D t F H' := h.frame hd (g.chg (S := fun _ => False)) fun _ _ h => h
end Go.PG

namespace Go.PG
open Go.Proofs

/-! ### Contents -/
theorem padTo_split (m : Nat) (d : List UInt8) : padTo ((m + 1) * 32) d = padTo 32 d ++ padTo (m * 32) (d.drop 32) := by
  simp only [padTo, Nat.add_mul, Nat.one_mul, List.length_drop]
  by_cases h : d.length ≤ 32
  · rw [List.take_of_length_le (by omega), List.take_of_length_le h, List.drop_eq_nil_of_le h, List.take_nil, List.append_assoc, List.nil_append, List.replicate_append_replicate]
    congr 2; omega
  · rw [show 32 - d.length = 0 from by omega, List.replicate_zero, List.append_nil, ← List.append_assoc, Nat.add_comm (m * 32) 32, List.take_add]
    congr 2; omega
theorem wrB_zero (t : List UInt8) (a : Nat) (d : List UInt8) : wrB t a 0 d = t := by
  simp [wrB, padTo]
theorem wrB_succ {t : List UInt8} {a m : Nat} (h : (a + (m + 1)) * 32 ≤ t.length) (d : List UInt8) : wrB t a (m + 1) d = wrB (wrB t a 1 d) (a + 1) m (d.drop 32) := by
  have h1 : (t.take (a * 32)).length = a * 32 := by rw [List.length_take]; omega
  have h2 : (t.take (a * 32) ++ padTo 32 d).length = (a + 1) * 32 := by rw [List.length_append, h1, padTo_len]; omega
  have e1 : (wrB t a 1 d).take ((a + 1) * 32) = t.take (a * 32) ++ padTo 32 d := by
    rw [wrB, Nat.one_mul, List.take_left' h2]
  have e2 : (wrB t a 1 d).drop ((a + 1 + m) * 32) = t.drop ((a + (m + 1)) * 32) := by
    rw [wrB, Nat.one_mul, show (a + 1 + m) * 32 = (a + 1) * 32 + m * 32 from by omega, ← List.drop_drop, List.drop_left' h2, List.drop_drop]
    congr 1; omega
  show t.take (a * 32) ++ padTo ((m + 1) * 32) d ++ t.drop ((a + (m + 1)) * 32) = (wrB t a 1 d).take ((a + 1) * 32) ++ padTo (m * 32) (d.drop 32) ++ (wrB t a 1 d).drop ((a + 1 + m) * 32)
  rw [e1, e2, padTo_split]
  simp only [List.append_assoc]
/-- One sector. -/
def secB (t : List UInt8) (i : Nat) : List UInt8 := (t.drop (i * 32)).take 32
theorem secB_len {t : List UInt8} {i c : Nat} (h : t.length = c * 32) (hi : i < c) : (secB t i).length = 32 := by
  simp only [secB, List.length_take, List.length_drop]; omega
theorem secB_wr {t : List UInt8} {a c : Nat} {d : List UInt8} (h : t.length = c * 32) (ha : a < c) (i : Nat) : secB (wrB t a 1 d) i = if i = a then padTo 32 d else secB t i := by
  have h1 : (t.take (a * 32)).length = a * 32 := by rw [List.length_take]; omega
  have h2 : (t.take (a * 32) ++ padTo 32 d).length = (a + 1) * 32 := by rw [List.length_append, h1, padTo_len]; omega
  simp only [secB, wrB, Nat.one_mul]
  by_cases hlt : i < a
  · rw [if_neg (by omega), List.append_assoc, List.drop_append_of_le_length (by omega), List.take_append_of_le_length (by rw [List.length_drop]; omega), List.drop_take, List.take_take, Nat.min_eq_left (by omega)]
  · by_cases he : i = a
    · subst he
      rw [if_pos rfl, List.append_assoc, List.drop_left' h1, List.take_left' (padTo_len _ _)]
    · rw [if_neg he, show i * 32 = (a + 1) * 32 + (i - (a + 1)) * 32 from by omega, ← List.drop_drop, List.drop_left' h2, List.drop_drop]
/-! ### The array -/
def secV (s : Nat) : Value := .slice (some ⟨s, 0, none⟩) 32 32
structure ArrF (p q : Nat) (ss : List Nat) (t : List UInt8) (F : Nat → Prop) (H : Heap) : Prop where
  bp : H.blk p = some (.cells #[.slice (some ⟨q, 0, none⟩) ss.length capU] 86)
  bq : H.blk q = some (.grow (ss.map secV).toArray 57)
  lp : p < H.next
  lq : q < H.next
  fq : H.floor ≤ q
  bs : ∀ i (h : i < ss.length), ss[i] < H.next ∧ H.blk ss[i] = some (.cells ((secB t i).flatMap byteC).toArray 5)
  len : t.length = ss.length * 32
  foot : ∀ n, F n ↔ n = p ∨ n = q ∨ n ∈ ss
theorem ArrF.chg {p q : Nat} {ss : List Nat} {t : List UInt8} {F T : Nat → Prop} {H H' : Heap} (h : ArrF p q ss t F H) (g : Chg T H H') (hs : ∀ n, F n → ¬ T n) : ArrF p q ss t F H' where
  bp := by rw [g.old p h.lp (hs p ((h.foot p).2 (.inl rfl))), h.bp]
  bq := by rw [g.old q h.lq (hs q ((h.foot q).2 (.inr (.inl rfl)))), h.bq]
  lp := Nat.lt_of_lt_of_le h.lp g.next
  lq := Nat.lt_of_lt_of_le h.lq g.next
  fq := by rw [g.floor]; exact h.fq
  bs := fun i hi => ⟨Nat.lt_of_lt_of_le (h.bs i hi).1 g.next, by rw [g.old _ (h.bs i hi).1 (hs _ ((h.foot _).2 (.inr (.inr (List.getElem_mem hi))))), (h.bs i hi).2]⟩
  len := h.len
  foot := h.foot
theorem ArrF.grow {p q : Nat} {ss : List Nat} {t : List UInt8} {F : Nat → Prop} {H H' : Heap} (h : ArrF p q ss t F H) (g : Grow H H') : ArrF p q ss t F H' := h.chg (T := fun _ => False) g.chg fun _ _ h => h
theorem mk32 (H : Heap) : mkSl 1 1 #[(.int .u8 0)] 5 (.int .i64 32) (.int .i64 32) H = some (.slice (some ⟨H.next, 0, none⟩) 32 32, H.new (.cells (Array.replicate 32 (.int .u8 0)) 5)) := by
  simp [mkSl]
theorem put_row {H : Heap} {q j : Nat} {l : List Nat} {f : Nat → Value} {e : TypeId} {r : Nat} (hf : H.floor ≤ q) (hj : j < l.length) (h1 : oneC (f r) = true) (h2 : (f r).cells = #[f r]) : putN H q j (f r) 1 (.grow (l.map f).toArray e) = some (H.set q (.grow ((l.set j r).map f).toArray e)) := by
  simp only [putN, row_grow, Option.bind_some, h2]
  rw [if_pos ⟨rfl, by decide, hf, by simp; omega, by simp [h1]⟩]
  simp only [Blk.put]
  congr 3
  rw [setL, setL]
  apply Array.toList_inj.1
  simp
/-- A write of one sector. -/
theorem ArrF.wr {p q : Nat} {ss : List Nat} {t : List UInt8} {F : Nat → Prop} {H : Heap} (h : ArrF p q ss t F H) {a : Nat} (ha : a < ss.length) (d : List UInt8) :
    ArrF p q (ss.set a H.next) (wrB t a 1 d) (fun n => n = p ∨ n = q ∨ n ∈ ss.set a H.next) ((H.new (.cells ((padTo 32 d).flatMap byteC).toArray 5)).set q (.grow ((ss.set a H.next).map secV).toArray 57)) := by
  have hpq : p ≠ q := by rintro rfl; have := h.bp; rw [h.bq] at this; cases this
  have hp := h.lp; have hq := h.lq
  constructor
  · rw [Yf hpq, Yd (by omega), List.length_set]; exact h.bp
  · exact Ye rfl
  · simp only [Yi, Yg]; omega
  · simp only [Yi, Yg]; omega
  · exact h.fq
  · intro i hi
    have hi' : i < ss.length := by simpa using hi
    have := h.bs i hi'
    rw [List.getElem_set, secB_wr h.len ha]
    by_cases hia : a = i
    · subst hia
      rw [if_pos rfl, if_pos rfl, Yf (by omega)]
      exact ⟨by simp only [Yi, Yg]; omega, Y9 _ _⟩
    · rw [if_neg hia, if_neg (by omega)]
      have hne : ss[i] ≠ q := by intro e; have h2 := this.2; rw [e, h.bq] at h2; cases h2
      rw [Yf hne, Yd (by omega)]
      exact ⟨by simp only [Yi, Yg]; omega, this.2⟩
  · rw [List.length_set]; exact wrB_len h.len (by omega)
  · exact fun n => Iff.rfl
theorem wr_loop (k : Nat) {p : Nat} {a N : Nat} : ∀ (m n i : Nat) (z : Int) (q : Nat) (ss : List Nat) (d t : List UInt8) (F : Nat → Prop) (H : Heap), z = i → i + m = N → m < n → ArrF p q ss t F H → H.floor ≤ H.next → a + N ≤ ss.length → ss.length ≤ 1000 →
    ∃ ss' F' H', L14_0 k n (.pointer (some ⟨p, 0, none⟩)) (.int .i64 (a : Int)) (str d) (.int .i64 (N : Int)) (.int .i64 z) H = some (.int .i64 0, H') ∧ ArrF p q ss' (wrB t (a + i) m d) F' H' ∧ Foot F F' H H' ∧ ss'.length = ss.length
  | 0, n, i, z, q, ss, d, t, F, H, hz, hi, hn, h, hfl, hN, hs => by
    subst hz
    obtain ⟨n, rfl⟩ : ∃ n', n = n' + 1 := ⟨n - 1, by omega⟩
    rw [L14_0]
    simp (disch := first | omega | assumption | (simp only [Yg, Yh, Yi, Yj] <;> omega) | (simp only [Qk, Ql, Qm, Qn, Qo, Qp, Bool.and_self]) | rfl) only [↓Z0, Z1, ↓Z2, ↓Z3, ↓Z4, ↓Z5, ↓Z6, Z7, ↓Z8, ↓Z9, ↓Za, ↓Zb, Zc, ↓Zd, Ze, Zf, decide_true, decide_false, Zg, Zh, Zi, Zj, Zk, Zl, Zm, Zn, Zo, Zp, Zq, Zr, Zs, Zt, Zu, Zv, Zw, Zx, Zy, Zz, Y0, Y1, Y2, Y3, Y4, Y5, Y6, Y7, Y8, Y9, Ya, Yb, Yc, Yd, Ye, Yf, Yg, Yh, Yi, Yj, Yk, Yl, Ym, Yn, Yo, Yp, Yq, Yr, Ys, Yt, Yu, Yv, Nat.zero_add, Nat.add_zero, ne_eq, not_false_eq_true, reduceCtorEq, Nat.reduceAdd, Nat.reduceEqDiff, Nat.succ_ne_self, Yw, Yx, Yy, Yz, Q0, Q1, ↓Q2, Q3, Q4, Q5, Q6, Q7, Q8, Q9, Qa, Qb, Qc, Qd, Qe, Qf, Qg, Qh, Qi, Qj]
    exact ⟨ss, F, H, rfl, by rw [wrB_zero]; exact h, Foot.refl F H, rfl⟩
  | m + 1, n, i, z, q, ss, d, t, F, H, hz, hi, hn, h, hfl, hN, hs => by
    subst hz
    obtain ⟨n, rfl⟩ : ∃ n', n = n' + 1 := ⟨n - 1, by omega⟩
    have hp := h.lp; have hq := h.lq; have hfq := h.fq
    have c1 := copy_at (i := 0) (Y9 H (.cells (Array.replicate 32 (.int .u8 0)) 5)) (row_cells _ _) (tot := 32) (by simp) (Nat.zero_le 32) hfl (src_str _ d)
    have e1 : (if (32 : Nat) = 0 then 0 else 0) = 0 := rfl
    have e2 : List.take 0 (Array.replicate 32 (Value.int .u8 0)).toList ++ (d.take (min d.length 32)).flatMap byteC ++ List.drop (0 + min d.length 32) (Array.replicate 32 (Value.int .u8 0)).toList = (padTo 32 d).flatMap byteC := by
      have hr : (List.replicate (32 - d.length) (0 : UInt8)).flatMap byteC = List.replicate (32 - d.length) (Value.int .u8 0) := by
        rw [flat_byte, List.map_replicate]; rfl
      rw [padTo, List.flatMap_append, hr, List.take_zero, List.nil_append, Nat.zero_add, Array.toList_replicate, List.drop_replicate]
      congr 1
      · congr 1
        by_cases h : d.length ≤ 32
        · rw [List.take_of_length_le (by omega), List.take_of_length_le h]
        · congr 1; omega
      · congr 1; omega
    rw [e1, Nat.sub_zero, e2, Blk.put, set_new] at c1
    have e3 : d.drop (min d.length 32) = d.drop 32 := by
      by_cases h : d.length ≤ 32
      · rw [List.drop_eq_nil_of_le (by omega), List.drop_eq_nil_of_le h]
      · congr 1; omega
    have hj : a + i < ss.length := by omega
    have e4 : (a : Int) + (i : Int) = ((a + i : Nat) : Int) := by omega
    have e5 : sliceStr (str d) (some (.int .i64 ((min d.length 32 : Nat) : Int))) none = some (str (d.drop 32)) := by
      rw [Y2 (by omega), e3]
    have hpq : p ≠ q := by rintro rfl; have := h.bp; rw [h.bq] at this; cases this
    have w := h.wr hj d
    have pr := put_row (H := H.new (.cells ((padTo 32 d).flatMap byteC).toArray 5)) (q := q) (l := ss) (f := secV) (e := 57) (r := H.next) hfq hj rfl rfl
    rw [L14_0]
    simp (disch := first | omega | assumption | (simp only [Yg, Yh, Yi, Yj] <;> omega) | (simp only [Qk, Ql, Qm, Qn, Qo, Qp, Bool.and_self]) | rfl) only [↓Z0, Z1, ↓Z2, ↓Z3, ↓Z4, ↓Z5, ↓Z6, Z7, ↓Z8, ↓Z9, ↓Za, ↓Zb, Zc, ↓Zd, Ze, Zf, decide_true, decide_false, Zg, Zh, Zi, Zj, Zk, Zl, Zm, Zn, Zo, Zp, Zq, Zr, Zs, Zt, Zu, Zv, Zw, Zx, Zy, Zz, Y0, Y1, Y2, Y3, Y4, Y5, Y6, Y7, Y8, Y9, Ya, Yb, Yc, Yd, Ye, Yf, Yg, Yh, Yi, Yj, Yk, Yl, Ym, Yn, Yo, Yp, Yq, Yr, Ys, Yt, Yu, Yv, Nat.zero_add, Nat.add_zero, ne_eq, not_false_eq_true, reduceCtorEq, Nat.reduceAdd, Nat.reduceEqDiff, Nat.succ_ne_self, Yw, Yx, Yy, Yz, Q0, Q1, ↓Q2, Q3, Q4, Q5, Q6, Q7, Q8, Q9, Qa, Qb, Qc, Qd, Qe, Qf, Qg, Qh, Qi, Qj, mk32, c1, e5, h.bp, h.bq, e4, secV] at pr ⊢
    rw [pr]
    simp (disch := first | omega | assumption | (simp only [Yg, Yh, Yi, Yj] <;> omega) | (simp only [Qk, Ql, Qm, Qn, Qo, Qp, Bool.and_self]) | rfl) only [↓Z0, Z1, ↓Z2, ↓Z3, ↓Z4, ↓Z5, ↓Z6, Z7, ↓Z8, ↓Z9, ↓Za, ↓Zb, Zc, ↓Zd, Ze, Zf, decide_true, decide_false, Zg, Zh, Zi, Zj, Zk, Zl, Zm, Zn, Zo, Zp, Zq, Zr, Zs, Zt, Zu, Zv, Zw, Zx, Zy, Zz, Y0, Y1, Y2, Y3, Y4, Y5, Y6, Y7, Y8, Y9, Ya, Yb, Yc, Yd, Ye, Yf, Yg, Yh, Yi, Yj, Yk, Yl, Ym, Yn, Yo, Yp, Yq, Yr, Ys, Yt, Yu, Yv, Nat.zero_add, Nat.add_zero, ne_eq, not_false_eq_true, reduceCtorEq, Nat.reduceAdd, Nat.reduceEqDiff, Nat.succ_ne_self, Yw, Yx, Yy, Yz, Q0, Q1, ↓Q2, Q3, Q4, Q5, Q6, Q7, Q8, Q9, Qa, Qb, Qc, Qd, Qe, Qf, Qg, Qh, Qi, Qj]
    have hF : Foot F (fun n => n = p ∨ n = q ∨ n ∈ ss.set (a + i) H.next) H ((H.new (.cells ((padTo 32 d).flatMap byteC).toArray 5)).set q (.grow ((ss.set (a + i) H.next).map secV).toArray 57)) := by
      refine ⟨((Chg.refl H).new _).set (.inl ((h.foot q).2 (.inr (.inl rfl)))) _, fun n hn => ?_⟩
      rcases hn with hn | hn | hn
      · exact .inl ((h.foot n).2 (.inl hn))
      · exact .inl ((h.foot n).2 (.inr (.inl hn)))
      · rcases List.mem_or_eq_of_mem_set hn with hn | hn
        · exact .inl ((h.foot n).2 (.inr (.inr hn)))
        · exact .inr (by omega)
    obtain ⟨ss', F', H', f1, f2, f3, f4⟩ := wr_loop k (p := p) (a := a) (N := N) m n (i + 1) _ q (ss.set (a + i) H.next) (d.drop 32) (wrB t (a + i) 1 d) _ _ rfl (by omega) (by omega) w (by simp only [Yj, Yi, Yh, Yg]; omega) (by rw [List.length_set]; omega) (by rw [List.length_set]; omega)
    refine ⟨ss', F', H', f1, ?_, hF.trans f3, by rw [f4, List.length_set]⟩
    rw [wrB_succ (by rw [h.len]; omega)]; exact f2
theorem arr_right {k : Nat} {p q : Nat} {ss : List Nat} {t : List UInt8} {F : Nat → Prop} {H : Heap} (h : ArrF p q ss t F H) (hs : ss.length ≤ 1000) (a n : Int) :
    run Tryz.prog (k + 1) 45 #[.pointer (some ⟨p, 0, none⟩), .int .i64 a, .int .i64 n] H = some (.bool (decide (isRight ss.length a n)), H) := by
  have hl : lenSl (.slice (some ⟨q, 0, none⟩) ss.length capU) = some (.int .i64 (ss.length : Int)) := rfl
  rw [run45, F45]
  by_cases h1 : 1 ≤ n
  · by_cases h2 : n ≤ (ss.length : Int)
    · by_cases h3 : 0 ≤ a
      · simp (disch := first | omega | assumption | (simp only [Yg, Yh, Yi, Yj] <;> omega) | (simp only [Qk, Ql, Qm, Qn, Qo, Qp, Bool.and_self]) | rfl) only [↓Z0, Z1, ↓Z2, ↓Z3, ↓Z4, ↓Z5, ↓Z6, Z7, ↓Z8, ↓Z9, ↓Za, ↓Zb, Zc, ↓Zd, Ze, Zf, decide_true, decide_false, Zg, Zh, Zi, Zj, Zk, Zl, Zm, Zn, Zo, Zp, Zq, Zr, Zs, Zt, Zu, Zv, Zw, Zx, Zy, Zz, Y0, Y1, Y2, Y3, Y4, Y5, Y6, Y7, Y8, Y9, Ya, Yb, Yc, Yd, Ye, Yf, Yg, Yh, Yi, Yj, Yk, Yl, Ym, Yn, Yo, Yp, Yq, Yr, Ys, Yt, Yu, Yv, Nat.zero_add, Nat.add_zero, ne_eq, not_false_eq_true, reduceCtorEq, Nat.reduceAdd, Nat.reduceEqDiff, Nat.succ_ne_self, Yw, Yx, Yy, Yz, Q0, Q1, ↓Q2, Q3, Q4, Q5, Q6, Q7, Q8, Q9, Qa, Qb, Qc, Qd, Qe, Qf, Qg, Qh, Qi, Qj, h.bp, hl, J45_0, J45_1, h1, h2, h3]
        congr 3
        apply decide_eq_decide.2
        unfold isRight
        omega
      · simp (disch := first | omega | assumption | (simp only [Yg, Yh, Yi, Yj] <;> omega) | (simp only [Qk, Ql, Qm, Qn, Qo, Qp, Bool.and_self]) | rfl) only [↓Z0, Z1, ↓Z2, ↓Z3, ↓Z4, ↓Z5, ↓Z6, Z7, ↓Z8, ↓Z9, ↓Za, ↓Zb, Zc, ↓Zd, Ze, Zf, decide_true, decide_false, Zg, Zh, Zi, Zj, Zk, Zl, Zm, Zn, Zo, Zp, Zq, Zr, Zs, Zt, Zu, Zv, Zw, Zx, Zy, Zz, Y0, Y1, Y2, Y3, Y4, Y5, Y6, Y7, Y8, Y9, Ya, Yb, Yc, Yd, Ye, Yf, Yg, Yh, Yi, Yj, Yk, Yl, Ym, Yn, Yo, Yp, Yq, Yr, Ys, Yt, Yu, Yv, Nat.zero_add, Nat.add_zero, ne_eq, not_false_eq_true, reduceCtorEq, Nat.reduceAdd, Nat.reduceEqDiff, Nat.succ_ne_self, Yw, Yx, Yy, Yz, Q0, Q1, ↓Q2, Q3, Q4, Q5, Q6, Q7, Q8, Q9, Qa, Qb, Qc, Qd, Qe, Qf, Qg, Qh, Qi, Qj, h.bp, hl, J45_0, J45_1, h1, h2, h3]
        rw [Zf (by unfold isRight; omega)]
    · simp (disch := first | omega | assumption | (simp only [Yg, Yh, Yi, Yj] <;> omega) | (simp only [Qk, Ql, Qm, Qn, Qo, Qp, Bool.and_self]) | rfl) only [↓Z0, Z1, ↓Z2, ↓Z3, ↓Z4, ↓Z5, ↓Z6, Z7, ↓Z8, ↓Z9, ↓Za, ↓Zb, Zc, ↓Zd, Ze, Zf, decide_true, decide_false, Zg, Zh, Zi, Zj, Zk, Zl, Zm, Zn, Zo, Zp, Zq, Zr, Zs, Zt, Zu, Zv, Zw, Zx, Zy, Zz, Y0, Y1, Y2, Y3, Y4, Y5, Y6, Y7, Y8, Y9, Ya, Yb, Yc, Yd, Ye, Yf, Yg, Yh, Yi, Yj, Yk, Yl, Ym, Yn, Yo, Yp, Yq, Yr, Ys, Yt, Yu, Yv, Nat.zero_add, Nat.add_zero, ne_eq, not_false_eq_true, reduceCtorEq, Nat.reduceAdd, Nat.reduceEqDiff, Nat.succ_ne_self, Yw, Yx, Yy, Yz, Q0, Q1, ↓Q2, Q3, Q4, Q5, Q6, Q7, Q8, Q9, Qa, Qb, Qc, Qd, Qe, Qf, Qg, Qh, Qi, Qj, h.bp, hl, J45_0, J45_1, h1, h2]
      rw [Zf (by unfold isRight; omega)]
  · simp (disch := first | omega | assumption | (simp only [Yg, Yh, Yi, Yj] <;> omega) | (simp only [Qk, Ql, Qm, Qn, Qo, Qp, Bool.and_self]) | rfl) only [↓Z0, Z1, ↓Z2, ↓Z3, ↓Z4, ↓Z5, ↓Z6, Z7, ↓Z8, ↓Z9, ↓Za, ↓Zb, Zc, ↓Zd, Ze, Zf, decide_true, decide_false, Zg, Zh, Zi, Zj, Zk, Zl, Zm, Zn, Zo, Zp, Zq, Zr, Zs, Zt, Zu, Zv, Zw, Zx, Zy, Zz, Y0, Y1, Y2, Y3, Y4, Y5, Y6, Y7, Y8, Y9, Ya, Yb, Yc, Yd, Ye, Yf, Yg, Yh, Yi, Yj, Yk, Yl, Ym, Yn, Yo, Yp, Yq, Yr, Ys, Yt, Yu, Yv, Nat.zero_add, Nat.add_zero, ne_eq, not_false_eq_true, reduceCtorEq, Nat.reduceAdd, Nat.reduceEqDiff, Nat.succ_ne_self, Yw, Yx, Yy, Yz, Q0, Q1, ↓Q2, Q3, Q4, Q5, Q6, Q7, Q8, Q9, Qa, Qb, Qc, Qd, Qe, Qf, Qg, Qh, Qi, Qj, h.bp, hl, J45_0, J45_1, h1]
    rw [Zf (by unfold isRight; omega)]
theorem arr_write {k : Nat} (hk : 1002 ≤ k) {p q : Nat} {ss : List Nat} {t : List UInt8} {F : Nat → Prop} {H : Heap} (h : ArrF p q ss t F H) (hs : ss.length ≤ 1000) (hf : H.floor ≤ H.next) (a n : Int) (d : List UInt8) :
    ∃ ss' F' H', run Tryz.prog k 14 #[.pointer (some ⟨p, 0, none⟩), .int .i64 a, .int .i64 n, str d] H = some (okI ss.length a n, H') ∧ ArrF p q ss' (wrI ss.length t a n d) F' H' ∧ Foot F F' H H' ∧ ss'.length = ss.length := by
  obtain ⟨k, rfl⟩ : ∃ k', k = k' + 2 := ⟨k - 2, by omega⟩
  rw [run14, F14]
  by_cases hr : isRight ss.length a n
  · simp (disch := first | omega | assumption | (simp only [Yg, Yh, Yi, Yj] <;> omega) | (simp only [Qk, Ql, Qm, Qn, Qo, Qp, Bool.and_self]) | rfl) only [↓Z0, Z1, ↓Z2, ↓Z3, ↓Z4, ↓Z5, ↓Z6, Z7, ↓Z8, ↓Z9, ↓Za, ↓Zb, Zc, ↓Zd, Ze, Zf, decide_true, decide_false, Zg, Zh, Zi, Zj, Zk, Zl, Zm, Zn, Zo, Zp, Zq, Zr, Zs, Zt, Zu, Zv, Zw, Zx, Zy, Zz, Y0, Y1, Y2, Y3, Y4, Y5, Y6, Y7, Y8, Y9, Ya, Yb, Yc, Yd, Ye, Yf, Yg, Yh, Yi, Yj, Yk, Yl, Ym, Yn, Yo, Yp, Yq, Yr, Ys, Yt, Yu, Yv, Nat.zero_add, Nat.add_zero, ne_eq, not_false_eq_true, reduceCtorEq, Nat.reduceAdd, Nat.reduceEqDiff, Nat.succ_ne_self, Yw, Yx, Yy, Yz, Q0, Q1, ↓Q2, Q3, Q4, Q5, Q6, Q7, Q8, Q9, Qa, Qb, Qc, Qd, Qe, Qf, Qg, Qh, Qi, Qj, arr_right h hs, hr]
    obtain ⟨h1, h2, h3, h4⟩ := hr
    obtain ⟨a, rfl⟩ : ∃ x : Nat, a = x := ⟨a.toNat, by omega⟩
    obtain ⟨n, rfl⟩ : ∃ x : Nat, n = x := ⟨n.toNat, by omega⟩
    obtain ⟨ss', F', H', f1, f2, f3, f4⟩ := wr_loop (k + 1) (p := p) (a := a) (N := n) n (k + 1) 0 _ q ss d t F H rfl (by omega) (by omega) h hf (by omega) hs
    have hr : isRight ss.length (a : Int) (n : Int) := ⟨h1, h2, h3, h4⟩
    refine ⟨ss', F', H', ?_, ?_, f3, f4⟩
    · rw [okI, if_pos hr]; exact f1
    · rw [wrI, if_pos hr]; exact f2
  · simp (disch := first | omega | assumption | (simp only [Yg, Yh, Yi, Yj] <;> omega) | (simp only [Qk, Ql, Qm, Qn, Qo, Qp, Bool.and_self]) | rfl) only [↓Z0, Z1, ↓Z2, ↓Z3, ↓Z4, ↓Z5, ↓Z6, Z7, ↓Z8, ↓Z9, ↓Za, ↓Zb, Zc, ↓Zd, Ze, Zf, decide_true, decide_false, Zg, Zh, Zi, Zj, Zk, Zl, Zm, Zn, Zo, Zp, Zq, Zr, Zs, Zt, Zu, Zv, Zw, Zx, Zy, Zz, Y0, Y1, Y2, Y3, Y4, Y5, Y6, Y7, Y8, Y9, Ya, Yb, Yc, Yd, Ye, Yf, Yg, Yh, Yi, Yj, Yk, Yl, Ym, Yn, Yo, Yp, Yq, Yr, Ys, Yt, Yu, Yv, Nat.zero_add, Nat.add_zero, ne_eq, not_false_eq_true, reduceCtorEq, Nat.reduceAdd, Nat.reduceEqDiff, Nat.succ_ne_self, Yw, Yx, Yy, Yz, Q0, Q1, ↓Q2, Q3, Q4, Q5, Q6, Q7, Q8, Q9, Qa, Qb, Qc, Qd, Qe, Qf, Qg, Qh, Qi, Qj, arr_right h hs, hr]
    refine ⟨ss, F, H, ?_, ?_, Foot.refl F H, rfl⟩
    · rw [okI, if_neg hr]
    · rw [wrI, if_neg hr]; exact h
end Go.PG

namespace Go.PG
open Go.Proofs

/-! ### Sectors in a row -/
def secs (t : List UInt8) (c : Nat) : List (List UInt8) := (List.range c).map (secB t)
theorem secs_len (t : List UInt8) (c : Nat) : (secs t c).length = c := by simp [secs]
theorem secs_flat {t : List UInt8} : ∀ (n a : Nat), (a + n) * 32 ≤ t.length → ((((List.range (a + n)).map (secB t)).drop a).take n).flatten = (t.drop (a * 32)).take (n * 32)
  | 0, a, h => by simp
  | n + 1, a, h => by
    have h1 : a < ((List.range (a + (n + 1))).map (secB t)).length := by simp
    have ih := secs_flat (t := t) n (a + 1) (by omega)
    rw [show a + 1 + n = a + (n + 1) from by omega] at ih
    rw [List.drop_eq_getElem_cons h1, List.take_succ_cons, List.flatten_cons, ih]
    simp only [List.getElem_map, List.getElem_range, secB]
    rw [show (n + 1) * 32 = 32 + n * 32 from by omega, List.take_add, List.drop_drop]
    congr 3; omega
theorem secs_part {t : List UInt8} {c a n : Nat} (h : t.length = c * 32) (hr : a + n ≤ c) : (((secs t c).drop a).take n).flatten = rdB t a n := by
  have e1 : ((secs t c).drop a).take n = (((List.range (a + n)).map (secB t)).drop a).take n := by
    apply List.ext_getElem
    · simp [secs]; omega
    · intro i h1 h2
      simp [secs]
  rw [e1, secs_flat n a (by omega)]; rfl
theorem secs_all {t : List UInt8} {c : Nat} (h : t.length = c * 32) : (secs t c).flatten = t := by
  have := secs_part (a := 0) (n := c) h (by omega)
  rw [List.drop_zero, List.take_of_length_le (by rw [secs_len]; omega)] at this
  rw [this, rdB, Nat.zero_mul, List.drop_zero, List.take_of_length_le (by omega)]
/-! ### Calls -/
theorem ArrF.sl {p q : Nat} {ss : List Nat} {t : List UInt8} {F : Nat → Prop} {H : Heap} (h : ArrF p q ss t F H) : SlAt H (.slice (some ⟨q, 0, none⟩) ss.length capU) 1 elC (ss.map secV) := by
  refine .inr ⟨q, 0, capU, _, _, by rw [List.length_map], .inl rfl, h.bq, rfl, h.lq, ?_⟩
  have : (ss.map secV).flatMap elC = ss.map secV := by
    induction ss.map secV with
    | nil => rfl
    | cons a l ih => rw [List.flatMap_cons, ih]; rfl
  rw [this, List.toList_toArray, List.drop_zero, List.take_of_length_le (by simp)]
theorem ArrF.all {p q : Nat} {ss : List Nat} {t : List UInt8} {F : Nat → Prop} {H : Heap} (h : ArrF p q ss t F H) : AllAt H (ss.map secV) (secs t ss.length) := by
  refine ⟨by simp [secs], fun i h1 h2 => ?_⟩
  have hi : i < ss.length := by simpa using h1
  obtain ⟨b1, b2⟩ := h.bs i hi
  have hl := secB_len h.len hi
  have e1 : (secs t ss.length)[i] = secB t i := by simp [secs]
  have e2 : (ss.map secV)[i] = secV ss[i] := by simp
  rw [e1, e2]
  refine .inr ⟨ss[i], 0, 32, _, _, by rw [hl]; rfl, .inr (by omega), b2, rfl, b1, ?_⟩
  rw [List.toList_toArray, List.drop_zero, List.take_of_length_le (by rw [flat_len byteC_len]; omega)]
theorem AllAt.part {H : Heap} {vs : List Value} {bs : List (List UInt8)} (h : AllAt H vs bs) (a n : Nat) : AllAt H ((vs.drop a).take n) ((bs.drop a).take n) := by
  refine ⟨by simp [h.1], fun i h1 h2 => ?_⟩
  simp only [List.getElem_take, List.getElem_drop]
  exact h.2 _ _ _
theorem arr_read {k : Nat} (hk : 1100 ≤ k) {p q : Nat} {ss : List Nat} {t : List UInt8} {F : Nat → Prop} {H : Heap} (h : ArrF p q ss t F H) (hs : ss.length ≤ 1000) (hf : H.floor ≤ H.next) (a n : Int) :
    ∃ H', run Tryz.prog k 138 #[.pointer (some ⟨p, 0, none⟩), .int .i64 a, .int .i64 n] H = some (rdI ss.length t a n, H') ∧ Grow H H' := by
  obtain ⟨k, rfl⟩ : ∃ k', k = k' + 2 := ⟨k - 2, by omega⟩
  rw [run138, F138]
  by_cases hr : isRight ss.length a n
  · obtain ⟨h1, h2, h3, h4⟩ := hr
    obtain ⟨a, rfl⟩ : ∃ x : Nat, a = x := ⟨a.toNat, by omega⟩
    obtain ⟨n, rfl⟩ : ∃ x : Nat, n = x := ⟨n.toNat, by omega⟩
    have hr : isRight ss.length (a : Int) (n : Int) := ⟨h1, h2, h3, h4⟩
    have e0 : (a : Int) + (n : Int) = ((a + n : Nat) : Int) := by omega
    obtain ⟨v', e1, s1⟩ := h.sl.until elC_len (by decide) (i := a) (j := a + n) (by omega) (by rw [List.length_map]; omega) (by rw [List.length_map]; unfold capU; omega)
    have ha := h.all.part a n
    rw [show a + n - a = n from by omega] at s1
    have hfl := secs_part h.len (a := a) (n := n) (by omega)
    obtain ⟨v2, H2, e2, s2, g2⟩ := join_run (k := k + 1) s1 ha (by simp; omega) (by rw [hfl, rdB, List.length_take]; omega) (by omega) (by simp; omega) hf
    rw [hfl] at s2
    simp (disch := first | omega | assumption | (simp only [Yg, Yh, Yi, Yj] <;> omega) | (simp only [Qk, Ql, Qm, Qn, Qo, Qp, Bool.and_self]) | rfl) only [↓Z0, Z1, ↓Z2, ↓Z3, ↓Z4, ↓Z5, ↓Z6, Z7, ↓Z8, ↓Z9, ↓Za, ↓Zb, Zc, ↓Zd, Ze, Zf, decide_true, decide_false, Zg, Zh, Zi, Zj, Zk, Zl, Zm, Zn, Zo, Zp, Zq, Zr, Zs, Zt, Zu, Zv, Zw, Zx, Zy, Zz, Y0, Y1, Y2, Y3, Y4, Y5, Y6, Y7, Y8, Y9, Ya, Yb, Yc, Yd, Ye, Yf, Yg, Yh, Yi, Yj, Yk, Yl, Ym, Yn, Yo, Yp, Yq, Yr, Ys, Yt, Yu, Yv, Nat.zero_add, Nat.add_zero, ne_eq, not_false_eq_true, reduceCtorEq, Nat.reduceAdd, Nat.reduceEqDiff, Nat.succ_ne_self, Yw, Yx, Yy, Yz, Q0, Q1, ↓Q2, Q3, Q4, Q5, Q6, Q7, Q8, Q9, Qa, Qb, Qc, Qd, Qe, Qf, Qg, Qh, Qi, Qj, arr_right h hs, hr, h.bp, e0, e1, e2, s2.str]
    refine ⟨H2, ?_, g2⟩
    rw [rdI, if_pos hr, Int.toNat_natCast, Int.toNat_natCast]
  · simp (disch := first | omega | assumption | (simp only [Yg, Yh, Yi, Yj] <;> omega) | (simp only [Qk, Ql, Qm, Qn, Qo, Qp, Bool.and_self]) | rfl) only [↓Z0, Z1, ↓Z2, ↓Z3, ↓Z4, ↓Z5, ↓Z6, Z7, ↓Z8, ↓Z9, ↓Za, ↓Zb, Zc, ↓Zd, Ze, Zf, decide_true, decide_false, Zg, Zh, Zi, Zj, Zk, Zl, Zm, Zn, Zo, Zp, Zq, Zr, Zs, Zt, Zu, Zv, Zw, Zx, Zy, Zz, Y0, Y1, Y2, Y3, Y4, Y5, Y6, Y7, Y8, Y9, Ya, Yb, Yc, Yd, Ye, Yf, Yg, Yh, Yi, Yj, Yk, Yl, Ym, Yn, Yo, Yp, Yq, Yr, Ys, Yt, Yu, Yv, Nat.zero_add, Nat.add_zero, ne_eq, not_false_eq_true, reduceCtorEq, Nat.reduceAdd, Nat.reduceEqDiff, Nat.succ_ne_self, Yw, Yx, Yy, Yz, Q0, Q1, ↓Q2, Q3, Q4, Q5, Q6, Q7, Q8, Q9, Qa, Qb, Qc, Qd, Qe, Qf, Qg, Qh, Qi, Qj, arr_right h hs, hr]
    exact ⟨H, by rw [rdI, if_neg hr], Grow.refl H⟩
theorem arr_content {k : Nat} (hk : 1100 ≤ k) {p q : Nat} {ss : List Nat} {t : List UInt8} {F : Nat → Prop} {H : Heap} (h : ArrF p q ss t F H) (hs : ss.length ≤ 1000) (hf : H.floor ≤ H.next) :
    ∃ H', run Tryz.prog k 22 #[.pointer (some ⟨p, 0, none⟩)] H = some (str t, H') ∧ Grow H H' := by
  obtain ⟨k, rfl⟩ : ∃ k', k = k' + 2 := ⟨k - 2, by omega⟩
  rw [run22, F22]
  have hfl := secs_all h.len
  obtain ⟨v2, H2, e2, s2, g2⟩ := join_run (k := k + 1) h.sl h.all (by simp; omega) (by rw [hfl, h.len]; omega) (by omega) (by simp; omega) hf
  rw [hfl] at s2
  simp (disch := first | omega | assumption | (simp only [Yg, Yh, Yi, Yj] <;> omega) | (simp only [Qk, Ql, Qm, Qn, Qo, Qp, Bool.and_self]) | rfl) only [↓Z0, Z1, ↓Z2, ↓Z3, ↓Z4, ↓Z5, ↓Z6, Z7, ↓Z8, ↓Z9, ↓Za, ↓Zb, Zc, ↓Zd, Ze, Zf, decide_true, decide_false, Zg, Zh, Zi, Zj, Zk, Zl, Zm, Zn, Zo, Zp, Zq, Zr, Zs, Zt, Zu, Zv, Zw, Zx, Zy, Zz, Y0, Y1, Y2, Y3, Y4, Y5, Y6, Y7, Y8, Y9, Ya, Yb, Yc, Yd, Ye, Yf, Yg, Yh, Yi, Yj, Yk, Yl, Ym, Yn, Yo, Yp, Yq, Yr, Ys, Yt, Yu, Yv, Nat.zero_add, Nat.add_zero, ne_eq, not_false_eq_true, reduceCtorEq, Nat.reduceAdd, Nat.reduceEqDiff, Nat.succ_ne_self, Yw, Yx, Yy, Yz, Q0, Q1, ↓Q2, Q3, Q4, Q5, Q6, Q7, Q8, Q9, Qa, Qb, Qc, Qd, Qe, Qf, Qg, Qh, Qi, Qj, h.bp, e2, s2.str]
  exact ⟨H2, rfl, g2⟩
theorem arr_trim {k : Nat} (hk : 1003 ≤ k) {p q : Nat} {ss : List Nat} {t : List UInt8} {F : Nat → Prop} {H : Heap} (h : ArrF p q ss t F H) (hs : ss.length ≤ 1000) (hf : H.floor ≤ H.next) (a n : Int) :
    ∃ ss' F' H', run Tryz.prog k 139 #[.pointer (some ⟨p, 0, none⟩), .int .i64 a, .int .i64 n] H = some (okI ss.length a n, H') ∧ ArrF p q ss' (wrI ss.length t a n []) F' H' ∧ Foot F F' H H' ∧ ss'.length = ss.length := by
  obtain ⟨k, rfl⟩ : ∃ k', k = k' + 1 := ⟨k - 1, by omega⟩
  obtain ⟨ss', F', H', f1, f2, f3, f4⟩ := arr_write (k := k) (by omega) h hs hf a n []
  rw [run139, F139]
  simp (disch := first | omega | assumption | (simp only [Yg, Yh, Yi, Yj] <;> omega) | (simp only [Qk, Ql, Qm, Qn, Qo, Qp, Bool.and_self]) | rfl) only [↓Z0, Z1, ↓Z2, ↓Z3, ↓Z4, ↓Z5, ↓Z6, Z7, ↓Z8, ↓Z9, ↓Za, ↓Zb, Zc, ↓Zd, Ze, Zf, decide_true, decide_false, Zg, Zh, Zi, Zj, Zk, Zl, Zm, Zn, Zo, Zp, Zq, Zr, Zs, Zt, Zu, Zv, Zw, Zx, Zy, Zz, Y0, Y1, Y2, Y3, Y4, Y5, Y6, Y7, Y8, Y9, Ya, Yb, Yc, Yd, Ye, Yf, Yg, Yh, Yi, Yj, Yk, Yl, Ym, Yn, Yo, Yp, Yq, Yr, Ys, Yt, Yu, Yv, Nat.zero_add, Nat.add_zero, ne_eq, not_false_eq_true, reduceCtorEq, Nat.reduceAdd, Nat.reduceEqDiff, Nat.succ_ne_self, Yw, Yx, Yy, Yz, Q0, Q1, ↓Q2, Q3, Q4, Q5, Q6, Q7, Q8, Q9, Qa, Qb, Qc, Qd, Qe, Qf, Qg, Qh, Qi, Qj, f1]
  exact ⟨ss', F', H', rfl, f2, f3, f4⟩
/-! ### All calls -/
theorem quo32' (n : Nat) (h : n < 1000000000000000000) : binI .quo (.int .i64 (n : Int)) (.int .i64 32) = some (.int .i64 ((n / 32 : Nat) : Int)) := by
  have e : (n : Int).tdiv 32 = ((n / 32 : Nat) : Int) := by simp
  simp only [binI, if_true]
  rw [if_neg (by decide), e, wrap64 (by omega) (by omega)]
theorem met_read (v : Value) (a n : Value) : pMethod Tryz.prog (.iface 25 v) "Read" [a, n] = some (138, #[v, a, n]) := by kernel_rfl
theorem met_write (v : Value) (a n b : Value) : pMethod Tryz.prog (.iface 25 v) "Write" [a, n, b] = some (14, #[v, a, n, b]) := by kernel_rfl
theorem met_trim (v : Value) (a n : Value) : pMethod Tryz.prog (.iface 25 v) "Trim" [a, n] = some (139, #[v, a, n]) := by kernel_rfl
theorem met_content (v : Value) : pMethod Tryz.prog (.iface 25 v) "Content" [] = some (22, #[v]) := by kernel_rfl
theorem assert_arr (v : Value) : assertC 144 true (.pointer none) (.iface 25 v) = some (.tuple #[.pointer none, .bool false]) := by simp [assertC]
def ArrD (p c : Nat) : DiskP := fun t F H => ∃ q ss, ArrF p q ss t F H ∧ ss.length = c
theorem arr_ok (p c : Nat) (hc : c ≤ 1000) : DiskOk 1200 (.iface 25 (.pointer (some ⟨p, 0, none⟩))) c (ArrD p c) where
  iface := ⟨25, _, rfl⟩
  len := fun ⟨q, ss, h, e⟩ => by rw [h.len, e]
  big := hc
  lt := fun ⟨q, ss, h, e⟩ n hn => by
    rcases (h.foot n).1 hn with rfl | rfl | hn
    · exact h.lp
    · exact h.lq
    · obtain ⟨i, hi, rfl⟩ := List.getElem_of_mem hn
      exact (h.bs i hi).1
  frame := fun ⟨q, ss, h, e⟩ g hs => ⟨q, ss, h.chg g hs, e⟩
  read := fun {k t F H} a n hk ⟨q, ss, h, e⟩ hf => by
    subst e
    obtain ⟨H', e1, g⟩ := arr_read (k := k) (by omega) h hc hf a n
    exact ⟨_, F, H', met_read _ _ _, e1, ⟨q, ss, h.grow g, rfl⟩, Foot.of_grow g⟩
  write := fun {k t F H} a n b hk ⟨q, ss, h, e⟩ hf => by
    subst e
    obtain ⟨ss', F', H', e1, h', g, e2⟩ := arr_write (k := k) (by omega) h hc hf a n b
    exact ⟨_, F', H', met_write _ _ _ _, e1, ⟨q, ss', h', e2⟩, g⟩
  trim := fun {k t F H} a n hk ⟨q, ss, h, e⟩ hf => by
    subst e
    obtain ⟨ss', F', H', e1, h', g, e2⟩ := arr_trim (k := k) (by omega) h hc hf a n
    exact ⟨_, F', H', met_trim _ _ _, e1, ⟨q, ss', h', e2⟩, g⟩
  content := fun {k t F H} hk ⟨q, ss, h, e⟩ hf => by
    subst e
    obtain ⟨H', e1, g⟩ := arr_content (k := k) (by omega) h hc hf
    exact ⟨_, F, H', met_content _, e1, ⟨q, ss, h.grow g, rfl⟩, Foot.of_grow g⟩
  sectors := fun {k t F H} hk ⟨q, ss, h, e⟩ hf => by
    subst e
    obtain ⟨k, rfl⟩ : ∃ k', k = k' + 2 := ⟨k - 2, by omega⟩
    obtain ⟨H', e1, g⟩ := arr_content (k := k + 1) (by omega) h hc hf
    refine ⟨F, H', ?_, ⟨q, ss, h.grow g, rfl⟩, Foot.of_grow g⟩
    have hl := h.len
    have hq := quo32' t.length (by omega)
    rw [hl, Nat.mul_div_cancel _ (by decide : 0 < 32)] at hq
    rw [run47, F47]
    simp (disch := first | omega | assumption | (simp only [Yg, Yh, Yi, Yj] <;> omega) | (simp only [Qk, Ql, Qm, Qn, Qo, Qp, Bool.and_self]) | rfl) only [↓Z0, Z1, ↓Z2, ↓Z3, ↓Z4, ↓Z5, ↓Z6, Z7, ↓Z8, ↓Z9, ↓Za, ↓Zb, Zc, ↓Zd, Ze, Zf, decide_true, decide_false, Zg, Zh, Zi, Zj, Zk, Zl, Zm, Zn, Zo, Zp, Zq, Zr, Zs, Zt, Zu, Zv, Zw, Zx, Zy, Zz, Y0, Y1, Y2, Y3, Y4, Y5, Y6, Y7, Y8, Y9, Ya, Yb, Yc, Yd, Ye, Yf, Yg, Yh, Yi, Yj, Yk, Yl, Ym, Yn, Yo, Yp, Yq, Yr, Ys, Yt, Yu, Yv, Nat.zero_add, Nat.add_zero, ne_eq, not_false_eq_true, reduceCtorEq, Nat.reduceAdd, Nat.reduceEqDiff, Nat.succ_ne_self, Yw, Yx, Yy, Yz, Q0, Q1, ↓Q2, Q3, Q4, Q5, Q6, Q7, Q8, Q9, Qa, Qb, Qc, Qd, Qe, Qf, Qg, Qh, Qi, Qj, run83, F83, assert_arr, met_content, e1, h.len, hq]
end Go.PG

namespace Go.PG
open Go.Proofs

noncomputable def C62l : Code := sub [.l] (bodyOf Tryz.f62)
noncomputable def C62r : Code := sub [.r] (bodyOf Tryz.f62)
noncomputable def C62rlrll : Code := sub [.r, .l, .r, .l, .l] (bodyOf Tryz.f62)
noncomputable def C62rlrllrrllrl : Code := sub [.r, .l, .r, .l, .l, .r, .r, .l, .l, .r, .l] (bodyOf Tryz.f62)
noncomputable def C62rlrllrrllrr : Code := sub [.r, .l, .r, .l, .l, .r, .r, .l, .l, .r, .r] (bodyOf Tryz.f62)
noncomputable def C62rlrllrrr : Code := sub [.r, .l, .r, .l, .l, .r, .r, .r] (bodyOf Tryz.f62)
noncomputable def C62rr : Code := sub [.r, .r] (bodyOf Tryz.f62)
noncomputable def K62_0 (k : Nat) : Ex → Fr → Heap → Option (Value × Heap) := finK Tryz.prog Tryz.f62
noncomputable def K62_1 (k : Nat) : Ex → Fr → Heap → Option (Value × Heap) := seqC (denK Tryz.prog (run Tryz.prog k) k C62rr (K62_0 k)) (K62_0 k)
noncomputable def K62_2 (k : Nat) : Ex → Fr → Heap → Option (Value × Heap) := blkC 0 (K62_1 k)
noncomputable def K62_3 (k : Nat) (nrlrl : Nat) : Ex → Fr → Heap → Option (Value × Heap) := seqC (iterK (denK Tryz.prog (run Tryz.prog k) k C62rlrll) (K62_2 k) nrlrl) (K62_2 k)
noncomputable def K62_4 (k : Nat) (nrlrl : Nat) : Ex → Fr → Heap → Option (Value × Heap) := seqC (denK Tryz.prog (run Tryz.prog k) k C62rlrllrrr (K62_3 k nrlrl)) (K62_3 k nrlrl)
noncomputable def K62_5 (k : Nat) (nrlrl : Nat) : Ex → Fr → Heap → Option (Value × Heap) := blkC 1 (K62_4 k nrlrl)
noncomputable def K62_6 (k : Nat) (nrlrl : Nat) : Ex → Fr → Heap → Option (Value × Heap) := seqC (denK Tryz.prog (run Tryz.prog k) k C62rlrllrrllrr (K62_5 k nrlrl)) (K62_5 k nrlrl)
noncomputable def K62_7 (k : Nat) : Ex → Fr → Heap → Option (Value × Heap) := seqC (denK Tryz.prog (run Tryz.prog k) k C62r (K62_0 k)) (K62_0 k)

noncomputable def J62_0 (k : Nat) (nxrlrl : Value → Value → Value → Heap → Option (Value × Heap)) (x1 x6 lA mA tA xA : Value) (H : Heap) : Option (Value × Heap) :=
  (pPick tA xA (.bool false)).bind fun y24 =>
  condV y24
  (
    some ((.tuple #[x6,(.bool true)]), H))
  (
    (binI .add mA (.int .i64 1)).bind fun y26 =>
    nxrlrl x1 lA y26 H)
noncomputable def L62_1 (k : Nat) : Nat → Value → Value → Value → Heap → Option (Value × Heap)
  | 0, _, _, _, _ => none
  | n + 1, x1, lA, mA, H =>
    (binI .lss mA (.int .i64 8)).bind fun y13 =>
    condV y13
    (
      (idxAgg 8 true 3 lA mA).bind fun y15 =>
      newK H (.cells #[(.string ⟨#[]⟩), (.int .i64 0), (.int .i64 0)] 49) fun y7 H_1 =>
      (stV 3 y7 y15 H_1).bind fun H_2 =>
      (fieldA 2 y7).bind fun y16 =>
      (ldV false 1 y16 H_2).bind fun y17 =>
      (binI .gtr y17 (.int .i64 0)).bind fun y18 =>
      condG y18 true
      (
        (fieldA 0 y7).bind fun y20 =>
        (ldV false 1 y20 H_2).bind fun y21 =>
        (binS .eql y21 x1).bind fun y23 =>
        J62_0 k (L62_1 k n) x1 mA lA mA y18 y23 H_2)
      (
        J62_0 k (L62_1 k n) x1 mA lA mA y18 undef H_2))
    (
      some ((.tuple #[(.int .i64 0),(.bool false)]), H))
noncomputable def F62 (k : Nat) (x0 x1 : Value) (H : Heap) : Option (Value × Heap) :=
  (pNil x0).bind fun y9 =>
  (fieldA 2 y9).bind fun y10 =>
  (ldV true 24 y10 H).bind fun y11 =>
  L62_1 k k x1 y11 (.int .i64 0) H

theorem TJ62_0 (k : Nat) (nrlrl : Nat) (nxrlrl : Value → Value → Value → Heap → Option (Value × Heap)) (hrlrl : ∀ (x0 x1 x2 x3 x4 x5 x6 x7 x8 x9 kA lA mA nA oA pA qA rA sA tA uA vA wA xA yA zA aB : Value) (H : Heap), iterK (denK Tryz.prog (run Tryz.prog k) k C62rlrll) (K62_2 k) nrlrl #[x0,x1,x2,x3,x4,x5,x6,x7,x8,x9,kA,lA,mA,nA,oA,pA,qA,rA,sA,tA,uA,vA,wA,xA,yA,zA,aB] H = nxrlrl x1 lA mA H) (x0 x1 x2 x3 x4 x5 x6 x7 x8 x9 kA lA mA nA oA pA qA rA sA tA uA vA wA xA yA zA aB : Value) (H : Heap) : grpK Tryz.prog (run Tryz.prog k) (ropsC C62rlrllrrllrl) ((grps (ropsC C62rlrllrrllrl).toList).drop 2) #[x0,x1,x2,x3,x4,x5,x6,x7,x8,x9,kA,lA,mA,nA,oA,pA,qA,rA,sA,tA,uA,vA,wA,xA,yA,zA,aB] H ((K62_6 k nrlrl) .normal) = J62_0 k nxrlrl x1 x6 lA mA tA xA H := by
  refine Eq.trans (b :=
    (pPick tA xA (.bool false)).bind fun y24 =>
    condV y24
    (
      some ((.tuple #[x6,(.bool true)]), H))
    (
      (binI .add mA (.int .i64 1)).bind fun y26 =>
      iterK (denK Tryz.prog (run Tryz.prog k) k C62rlrll) (K62_2 k) nrlrl #[x0,x1,x2,x3,x4,x5,x6,x7,x8,x9,kA,lA,y26,nA,oA,pA,qA,rA,sA,tA,uA,vA,wA,xA,y24,zA,y26] H)) (by kernel_rfl) ?_
  simp only [hrlrl]
  rfl
theorem TL62_1 (k : Nat) : ∀ (n : Nat) (x0 x1 x2 x3 x4 x5 x6 x7 x8 x9 kA lA mA nA oA pA qA rA sA tA uA vA wA xA yA zA aB : Value) (H : Heap), iterK (denK Tryz.prog (run Tryz.prog k) k C62rlrll) (K62_2 k) n #[x0,x1,x2,x3,x4,x5,x6,x7,x8,x9,kA,lA,mA,nA,oA,pA,qA,rA,sA,tA,uA,vA,wA,xA,yA,zA,aB] H = L62_1 k n x1 lA mA H := by
  intro n
  induction n with
  | zero => intros; rfl
  | succ n ih =>
    intro x0 x1 x2 x3 x4 x5 x6 x7 x8 x9 kA lA mA nA oA pA qA rA sA tA uA vA wA xA yA zA aB H
    refine Eq.trans (b :=
    (binI .lss mA (.int .i64 8)).bind fun y13 =>
    condV y13
    (
      (idxAgg 8 true 3 lA mA).bind fun y15 =>
      newK H (.cells #[(.string ⟨#[]⟩), (.int .i64 0), (.int .i64 0)] 49) fun y7 H_1 =>
      (stV 3 y7 y15 H_1).bind fun H_2 =>
      (fieldA 2 y7).bind fun y16 =>
      (ldV false 1 y16 H_2).bind fun y17 =>
      (binI .gtr y17 (.int .i64 0)).bind fun y18 =>
      condG y18 true
      (
        (fieldA 0 y7).bind fun y20 =>
        (ldV false 1 y20 H_2).bind fun y21 =>
        (binS .eql y21 x1).bind fun y23 =>
        grpK Tryz.prog (run Tryz.prog k) (ropsC C62rlrllrrllrl) ((grps (ropsC C62rlrllrrllrl).toList).drop 2) #[x0,x1,x2,x3,x4,x5,mA,y7,x8,x9,kA,lA,mA,y13,mA,y15,y16,y17,y18,y18,y20,y21,x1,y23,yA,zA,aB] H_2 ((K62_6 k n) .normal))
      (
        grpK Tryz.prog (run Tryz.prog k) (ropsC C62rlrllrrllrl) ((grps (ropsC C62rlrllrrllrl).toList).drop 2) #[x0,x1,x2,x3,x4,x5,mA,y7,x8,x9,kA,lA,mA,y13,mA,y15,y16,y17,y18,y18,undef,undef,undef,undef,yA,zA,aB] H_2 ((K62_6 k n) .normal)))
    (
      some ((.tuple #[(.int .i64 0),(.bool false)]), H))) (by kernel_rfl) ?_
    simp only [TJ62_0 k n (L62_1 k n) ih]
    rfl
theorem TF62 (k : Nat) (x0 x1 x2 x3 x4 x5 x6 x7 x8 x9 kA lA mA nA oA pA qA rA sA tA uA vA wA xA yA zA aB : Value) (H : Heap) : denK Tryz.prog (run Tryz.prog k) k C62l (K62_7 k) #[x0,x1,x2,x3,x4,x5,x6,x7,x8,x9,kA,lA,mA,nA,oA,pA,qA,rA,sA,tA,uA,vA,wA,xA,yA,zA,aB] H = F62 k x0 x1 H := by
  refine Eq.trans (b :=
    (pNil x0).bind fun y9 =>
    (fieldA 2 y9).bind fun y10 =>
    (ldV true 24 y10 H).bind fun y11 =>
    iterK (denK Tryz.prog (run Tryz.prog k) k C62rlrll) (K62_2 k) k #[x0,x1,x2,x3,(.int .i64 0),(.bool false),x6,x7,x0,y9,y10,y11,(.int .i64 0),nA,oA,pA,qA,rA,sA,tA,uA,vA,wA,xA,yA,zA,aB] H) (by kernel_rfl) ?_
  simp only [TL62_1 k]
  rfl
theorem run62 (k : Nat) (x0 x1 : Value) (H : Heap) : run Tryz.prog (k + 1) 62 #[x0,x1] H = F62 k x0 x1 H := by
  refine Eq.trans (b := denK Tryz.prog (run Tryz.prog k) k C62l (K62_7 k) #[x0,x1,undef,undef,undef,undef,undef,undef,undef,undef,undef,undef,undef,undef,undef,undef,undef,undef,undef,undef,undef,undef,undef,undef,undef,undef,undef] H) (by kernel_rfl) ?_
  exact TF62 k x0 x1 undef undef undef undef undef undef undef undef undef undef undef undef undef undef undef undef undef undef undef undef undef undef undef undef undef H

end Go.PG

namespace Go.PG
open Go.Proofs

structure Ent where
  name : List UInt8
  first : Nat
  len : Nat
deriving DecidableEq
def Ent.none : Ent := ⟨[], 0, 0⟩
def entC (e : Ent) : List Value := [str e.name, .int .i64 (e.first : Int), .int .i64 (e.len : Int)]
theorem entC_len (e : Ent) : (entC e).length = 3 := rfl
theorem entC_one (e : Ent) : (entC e).all oneC = true := rfl
/-- A store's block: the disk, how many sectors, eight entries. -/
def StoreRow (d : Value) (n : Nat) (es : List Ent) : Array Value := (d :: .int .i64 (n : Int) :: es.flatMap entC).toArray
theorem idx_ent {es : List Ent} (h8 : es.length = 8) {i : Nat} (hi : i < 8) : idxAgg 8 true 3 (.agg (es.flatMap entC).toArray) (.int .i64 (i : Int)) = some (.agg #[str (es[i]'(by omega)).name, .int .i64 ((es[i]'(by omega)).first : Int), .int .i64 ((es[i]'(by omega)).len : Int)]) := by
  have e := flat_one entC_len (l := es) (i := i) (by omega)
  have hi2 : (i : Int) < (8 : Nat) := by omega
  simp only [idxAgg]
  rw [if_pos ⟨by omega, hi2⟩, Int.toNat_natCast]
  simp only [partV, if_true]
  congr 2
  apply Array.toList_inj.1
  rw [Array.toList_extract, List.extract_eq_take_drop, List.toList_toArray, show i * 3 + 3 - i * 3 = 3 from by omega, e]; rfl
theorem get_ents {d : Value} {n : Nat} {es : List Ent} (h8 : es.length = 8) (t : TypeId) : getN 24 2 (.cells (StoreRow d n es) t) = some (.agg (es.flatMap entC).toArray) := by
  have hl := flat_len entC_len es
  rw [getN_row (row_cells _ _), StoreRow]
  rw [if_pos (by simp only [List.size_toArray, List.length_cons, hl]; omega)]
  congr 2
  apply Array.toList_inj.1
  rw [Array.toList_extract, List.extract_eq_take_drop, List.toList_toArray, List.toList_toArray]
  simp only [List.drop_succ_cons, List.drop_zero]
  rw [List.take_of_length_le (by omega)]
def findFrom : Nat → List UInt8 → List Ent → Option Nat
  | _, _, [] => .none
  | i, nm, e :: es => if 0 < e.len ∧ e.name = nm then some i else findFrom (i + 1) nm es
def findE (es : List Ent) (nm : List UInt8) : Option Nat := findFrom 0 nm es
def findV : Option Nat → Value
  | some i => .tuple #[.int .i64 (i : Int), .bool true]
  | .none => .tuple #[.int .i64 0, .bool false]
theorem find_loop (k : Nat) {es : List Ent} (h8 : es.length = 8) (nm : List UInt8) : ∀ (m n i : Nat) (z : Int) (H : Heap), z = i → i + m = 8 → m < n → H.floor ≤ H.next →
    ∃ H', L62_1 k n (str nm) (.agg (es.flatMap entC).toArray) (.int .i64 z) H = some (findV (findFrom i nm (es.drop i)), H') ∧ Grow H H'
  | 0, n, i, z, H, hz, hi, hn, hf => by
    subst hz
    obtain ⟨n, rfl⟩ : ∃ n', n = n' + 1 := ⟨n - 1, by omega⟩
    rw [L62_1]
    simp (disch := first | omega | assumption | (simp only [Yg, Yh, Yi, Yj] <;> omega) | (simp only [Qk, Ql, Qm, Qn, Qo, Qp, Bool.and_self]) | rfl) only [↓Z0, Z1, ↓Z2, ↓Z3, ↓Z4, ↓Z5, ↓Z6, Z7, ↓Z8, ↓Z9, ↓Za, ↓Zb, Zc, ↓Zd, Ze, Zf, decide_true, decide_false, Zg, Zh, Zi, Zj, Zk, Zl, Zm, Zn, Zo, Zp, Zq, Zr, Zs, Zt, Zu, Zv, Zw, Zx, Zy, Zz, Y0, Y1, Y2, Y3, Y4, Y5, Y6, Y7, Y8, Y9, Ya, Yb, Yc, Yd, Ye, Yf, Yg, Yh, Yi, Yj, Yk, Yl, Ym, Yn, Yo, Yp, Yq, Yr, Ys, Yt, Yu, Yv, Nat.zero_add, Nat.add_zero, ne_eq, not_false_eq_true, reduceCtorEq, Nat.reduceAdd, Nat.reduceEqDiff, Nat.succ_ne_self, Yw, Yx, Yy, Yz, Q0, Q1, ↓Q2, Q3, Q4, Q5, Q6, Q7, Q8, Q9, Qa, Qb, Qc, Qd, Qe, Qf, Qg, Qh, Qi, Qj]
    rw [List.drop_eq_nil_of_le (by omega)]
    exact ⟨_, rfl, Grow.refl _⟩
  | m + 1, n, i, z, H, hz, hi, hn, hf => by
    subst hz
    obtain ⟨n, rfl⟩ : ∃ n', n = n' + 1 := ⟨n - 1, by omega⟩
    rw [L62_1]
    simp (disch := first | omega | assumption | (simp only [Yg, Yh, Yi, Yj] <;> omega) | (simp only [Qk, Ql, Qm, Qn, Qo, Qp, Bool.and_self]) | rfl) only [↓Z0, Z1, ↓Z2, ↓Z3, ↓Z4, ↓Z5, ↓Z6, Z7, ↓Z8, ↓Z9, ↓Za, ↓Zb, Zc, ↓Zd, Ze, Zf, decide_true, decide_false, Zg, Zh, Zi, Zj, Zk, Zl, Zm, Zn, Zo, Zp, Zq, Zr, Zs, Zt, Zu, Zv, Zw, Zx, Zy, Zz, Y0, Y1, Y2, Y3, Y4, Y5, Y6, Y7, Y8, Y9, Ya, Yb, Yc, Yd, Ye, Yf, Yg, Yh, Yi, Yj, Yk, Yl, Ym, Yn, Yo, Yp, Yq, Yr, Ys, Yt, Yu, Yv, Nat.zero_add, Nat.add_zero, ne_eq, not_false_eq_true, reduceCtorEq, Nat.reduceAdd, Nat.reduceEqDiff, Nat.succ_ne_self, Yw, Yx, Yy, Yz, Q0, Q1, ↓Q2, Q3, Q4, Q5, Q6, Q7, Q8, Q9, Qa, Qb, Qc, Qd, Qe, Qf, Qg, Qh, Qi, Qj, idx_ent h8]
    have hil : i < es.length := by omega
    rw [List.drop_eq_getElem_cons hil, findFrom]
    by_cases h1 : 0 < es[i].len
    · by_cases h2 : es[i].name = nm
      · simp (disch := first | omega | assumption | (simp only [Yg, Yh, Yi, Yj] <;> omega) | (simp only [Qk, Ql, Qm, Qn, Qo, Qp, Bool.and_self]) | rfl) only [↓Z0, Z1, ↓Z2, ↓Z3, ↓Z4, ↓Z5, ↓Z6, Z7, ↓Z8, ↓Z9, ↓Za, ↓Zb, Zc, ↓Zd, Ze, Zf, decide_true, decide_false, Zg, Zh, Zi, Zj, Zk, Zl, Zm, Zn, Zo, Zp, Zq, Zr, Zs, Zt, Zu, Zv, Zw, Zx, Zy, Zz, Y0, Y1, Y2, Y3, Y4, Y5, Y6, Y7, Y8, Y9, Ya, Yb, Yc, Yd, Ye, Yf, Yg, Yh, Yi, Yj, Yk, Yl, Ym, Yn, Yo, Yp, Yq, Yr, Ys, Yt, Yu, Yv, Nat.zero_add, Nat.add_zero, ne_eq, not_false_eq_true, reduceCtorEq, Nat.reduceAdd, Nat.reduceEqDiff, Nat.succ_ne_self, Yw, Yx, Yy, Yz, Q0, Q1, ↓Q2, Q3, Q4, Q5, Q6, Q7, Q8, Q9, Qa, Qb, Qc, Qd, Qe, Qf, Qg, Qh, Qi, Qj, J62_0, h1, h2]
        rw [if_pos (by simp)]
        exact ⟨_, rfl, (Grow.refl _).new _⟩
      · simp (disch := first | omega | assumption | (simp only [Yg, Yh, Yi, Yj] <;> omega) | (simp only [Qk, Ql, Qm, Qn, Qo, Qp, Bool.and_self]) | rfl) only [↓Z0, Z1, ↓Z2, ↓Z3, ↓Z4, ↓Z5, ↓Z6, Z7, ↓Z8, ↓Z9, ↓Za, ↓Zb, Zc, ↓Zd, Ze, Zf, decide_true, decide_false, Zg, Zh, Zi, Zj, Zk, Zl, Zm, Zn, Zo, Zp, Zq, Zr, Zs, Zt, Zu, Zv, Zw, Zx, Zy, Zz, Y0, Y1, Y2, Y3, Y4, Y5, Y6, Y7, Y8, Y9, Ya, Yb, Yc, Yd, Ye, Yf, Yg, Yh, Yi, Yj, Yk, Yl, Ym, Yn, Yo, Yp, Yq, Yr, Ys, Yt, Yu, Yv, Nat.zero_add, Nat.add_zero, ne_eq, not_false_eq_true, reduceCtorEq, Nat.reduceAdd, Nat.reduceEqDiff, Nat.succ_ne_self, Yw, Yx, Yy, Yz, Q0, Q1, ↓Q2, Q3, Q4, Q5, Q6, Q7, Q8, Q9, Qa, Qb, Qc, Qd, Qe, Qf, Qg, Qh, Qi, Qj, J62_0, h1, h2]
        obtain ⟨H', e, g⟩ := find_loop k h8 nm m n (i + 1) _ (H.new (.cells #[str es[i].name, .int .i64 (es[i].first : Int), .int .i64 (es[i].len : Int)] 49)) rfl (by omega) (by omega) (by simp only [Yh, Yg]; omega)
        rw [if_neg (by simp [h2])]
        exact ⟨H', e, ((Grow.refl _).new _).trans g⟩
    · simp (disch := first | omega | assumption | (simp only [Yg, Yh, Yi, Yj] <;> omega) | (simp only [Qk, Ql, Qm, Qn, Qo, Qp, Bool.and_self]) | rfl) only [↓Z0, Z1, ↓Z2, ↓Z3, ↓Z4, ↓Z5, ↓Z6, Z7, ↓Z8, ↓Z9, ↓Za, ↓Zb, Zc, ↓Zd, Ze, Zf, decide_true, decide_false, Zg, Zh, Zi, Zj, Zk, Zl, Zm, Zn, Zo, Zp, Zq, Zr, Zs, Zt, Zu, Zv, Zw, Zx, Zy, Zz, Y0, Y1, Y2, Y3, Y4, Y5, Y6, Y7, Y8, Y9, Ya, Yb, Yc, Yd, Ye, Yf, Yg, Yh, Yi, Yj, Yk, Yl, Ym, Yn, Yo, Yp, Yq, Yr, Ys, Yt, Yu, Yv, Nat.zero_add, Nat.add_zero, ne_eq, not_false_eq_true, reduceCtorEq, Nat.reduceAdd, Nat.reduceEqDiff, Nat.succ_ne_self, Yw, Yx, Yy, Yz, Q0, Q1, ↓Q2, Q3, Q4, Q5, Q6, Q7, Q8, Q9, Qa, Qb, Qc, Qd, Qe, Qf, Qg, Qh, Qi, Qj, J62_0, h1]
      obtain ⟨H', e, g⟩ := find_loop k h8 nm m n (i + 1) _ (H.new (.cells #[str es[i].name, .int .i64 (es[i].first : Int), .int .i64 (es[i].len : Int)] 49)) rfl (by omega) (by omega) (by simp only [Yh, Yg]; omega)
      rw [if_neg (by simp [h1])]
      exact ⟨H', e, ((Grow.refl _).new _).trans g⟩
/-- A store. -/
structure StoAt (H : Heap) (s : Nat) (d : Value) (n : Nat) (es : List Ent) : Prop where
  blk : H.blk s = some (.cells (StoreRow d n es) 93)
  lt : s < H.next
  fl : H.floor ≤ s
  e8 : es.length = 8
theorem StoAt.grow {H H' : Heap} {s : Nat} {d : Value} {n : Nat} {es : List Ent} (h : StoAt H s d n es) (g : Grow H H') : StoAt H' s d n es := ⟨by rw [g.old s h.lt, h.blk], Nat.lt_of_lt_of_le h.lt g.next, by rw [g.floor]; exact h.fl, h.e8⟩
theorem find_run {k : Nat} {H : Heap} {s : Nat} {d : Value} {n : Nat} {es : List Ent} (h : StoAt H s d n es) (nm : List UInt8) (hk : 20 ≤ k) :
    ∃ H', run Tryz.prog k 62 #[.pointer (some ⟨s, 0, none⟩), str nm] H = some (findV (findE es nm), H') ∧ Grow H H' := by
  obtain ⟨k, rfl⟩ : ∃ k', k = k' + 1 := ⟨k - 1, by omega⟩
  have := h.lt; have := h.fl
  rw [run62, F62]
  simp (disch := first | omega | assumption | (simp only [Yg, Yh, Yi, Yj] <;> omega) | (simp only [Qk, Ql, Qm, Qn, Qo, Qp, Bool.and_self]) | rfl) only [↓Z0, Z1, ↓Z2, ↓Z3, ↓Z4, ↓Z5, ↓Z6, Z7, ↓Z8, ↓Z9, ↓Za, ↓Zb, Zc, ↓Zd, Ze, Zf, decide_true, decide_false, Zg, Zh, Zi, Zj, Zk, Zl, Zm, Zn, Zo, Zp, Zq, Zr, Zs, Zt, Zu, Zv, Zw, Zx, Zy, Zz, Y0, Y1, Y2, Y3, Y4, Y5, Y6, Y7, Y8, Y9, Ya, Yb, Yc, Yd, Ye, Yf, Yg, Yh, Yi, Yj, Yk, Yl, Ym, Yn, Yo, Yp, Yq, Yr, Ys, Yt, Yu, Yv, Nat.zero_add, Nat.add_zero, ne_eq, not_false_eq_true, reduceCtorEq, Nat.reduceAdd, Nat.reduceEqDiff, Nat.succ_ne_self, Yw, Yx, Yy, Yz, Q0, Q1, ↓Q2, Q3, Q4, Q5, Q6, Q7, Q8, Q9, Qa, Qb, Qc, Qd, Qe, Qf, Qg, Qh, Qi, Qj, h.blk, get_ents h.e8]
  exact find_loop k h.e8 nm 8 k 0 _ H rfl rfl (by omega) (by omega)
end Go.PG

namespace Go.PG
open Go.Proofs

/-- A number's bytes, the least first. -/
def leB : Nat → Nat → List UInt8
  | 0, _ => []
  | m + 1, v => UInt8.ofNat v :: leB m (v / 256)
theorem leB_len (m v : Nat) : (leB m v).length = m := by
  induction m generalizing v with
  | zero => rfl
  | succ m ih => rw [leB, List.length_cons, ih]
theorem leB_get {m v i : Nat} (h : i < m) : (leB m v)[i]'(by rw [leB_len]; exact h) = UInt8.ofNat (v / 256 ^ i) := by
  induction m generalizing v i with
  | zero => omega
  | succ m ih =>
    cases i with
    | zero => simp [leB]
    | succ i =>
      simp only [leB, List.getElem_cons_succ]
      rw [ih (by omega), Nat.div_div_eq_div_mul, Nat.pow_succ, Nat.mul_comm]
/-- A number of bytes. -/
def leN : List UInt8 → Nat
  | [] => 0
  | b :: l => b.toNat + 256 * leN l
/-- A row of bytes. -/
def BB (l : List UInt8) : Blk := .cells (l.flatMap byteC).toArray 5
theorem BB_row (l : List UInt8) : (BB l).row = some (l.flatMap byteC).toArray := rfl
theorem BB_put (l m : List UInt8) : (BB l).put (m.flatMap byteC).toArray = BB m := rfl
theorem flat1_len (l : List UInt8) : (l.flatMap byteC).length = l.length := by rw [flat_len byteC_len, Nat.mul_one]
theorem flat1_take (l : List UInt8) (i : Nat) : (l.flatMap byteC).take i = (l.take i).flatMap byteC := by
  have := flat_take byteC_len l i
  rwa [Nat.mul_one] at this
theorem flat1_drop (l : List UInt8) (i : Nat) : (l.flatMap byteC).drop i = (l.drop i).flatMap byteC := by
  have := flat_drop byteC_len l i
  rwa [Nat.mul_one] at this
theorem put_byte {H : Heap} {n j : Nat} {l : List UInt8} {x : UInt8} (hf : H.floor ≤ n) (hj : j < l.length) : putN H n j (.int .u8 (x.toNat : Int)) 1 (BB l) = some (H.set n (BB (l.set j x))) := by
  have hc : (Value.int .u8 (x.toNat : Int)).cells = #[.int .u8 (x.toNat : Int)] := rfl
  simp only [putN, BB_row, Option.bind_some, hc]
  rw [if_pos ⟨rfl, by decide, hf, by rw [List.size_toArray, flat1_len]; omega, rfl⟩]
  congr 2
  rw [setL, setL]
  simp only [Blk.put, BB]
  congr 1
  apply Array.toList_inj.1
  simp only [Array.toList_setIfInBounds, List.toList_toArray, flat_byte]
  rw [List.map_set]
theorem copy_BB {H : Heap} {b o len cap : Nat} {bl l : List UInt8} {x : Value} (hb : H.blk b = some (BB bl)) (hsz : o + len ≤ bl.length) (hf : H.floor ≤ b) (hx : SrcAt H x l) :
    copyV 1 (.slice (some ⟨b, o, none⟩) len cap) x H = some (.int .i64 ((min l.length len : Nat) : Int), H.set b (BB (bl.take o ++ l.take (min l.length len) ++ bl.drop (o + min l.length len)))) := by
  rw [copy_bytes hb (BB_row bl) (by rw [List.size_toArray, flat1_len]; omega) hf hx]
  rw [List.toList_toArray, flat1_take, flat1_drop, ← List.flatMap_append, ← List.flatMap_append, BB_put]
theorem shr_le {v i : Nat} (hi : i ≤ 4) : binI .shr (.int .u32 (v : Int)) (.int .i64 (8 * (i : Int))) = some (.int .u32 ((v / 256 ^ i : Nat) : Int)) := by
  have h0 : ¬ (8 * (i : Int) < 0) := by omega
  simp only [binI, h0, if_false]
  have e : (min (8 * (i : Int)).toNat IntKind.u32.bits) = 8 * i := by simp [IntKind.bits]; omega
  rw [e, Int.fdiv_eq_ediv_of_nonneg _ (by have : (0 : Int) < 2 ^ (8 * i) := Int.pow_pos (by decide); omega)]
  have : (2 : Int) ^ (8 * i) = ((256 ^ i : Nat) : Int) := by
    obtain rfl | rfl | rfl | rfl | rfl : i = 0 ∨ i = 1 ∨ i = 2 ∨ i = 3 ∨ i = 4 := by omega
    all_goals rfl
  rw [this]; rfl
theorem conv_byte (n : Nat) (k : IntKind) : convI .u8 (.int k (n : Int)) = some (.int .u8 ((UInt8.ofNat n).toNat : Int)) := by
  simp only [convI, IntKind.wrap, IntKind.bits, IntKind.signed]
  simp
theorem put_loop (k : Nat) {b o cap M v : Nat} (hM : M ≤ 4) {H : Heap} (hf : H.floor ≤ b) {bl : List UInt8} (ho : o + M ≤ bl.length) : ∀ (m n i : Nat) (z : Int), z = i → i + m = M → m < n →
    L100_0 k n (.slice (some ⟨b, o, none⟩) M cap) (.int .u32 (v : Int)) (.int .i64 (M : Int)) (.int .i64 z) (H.set b (BB (bl.take o ++ (leB M v).take i ++ bl.drop (o + i)))) = some (.tuple #[], H.set b (BB (bl.take o ++ leB M v ++ bl.drop (o + M))))
  | 0, n, i, z, hz, hi, hn => by
    subst hz
    obtain ⟨n, rfl⟩ : ∃ n', n = n' + 1 := ⟨n - 1, by omega⟩
    rw [L100_0]
    simp (disch := first | omega | assumption | (simp only [Yg, Yh, Yi, Yj] <;> omega) | (simp only [Qk, Ql, Qm, Qn, Qo, Qp, Bool.and_self]) | rfl) only [↓Z0, Z1, ↓Z2, ↓Z3, ↓Z4, ↓Z5, ↓Z6, Z7, ↓Z8, ↓Z9, ↓Za, ↓Zb, Zc, ↓Zd, Ze, Zf, decide_true, decide_false, Zg, Zh, Zi, Zj, Zk, Zl, Zm, Zn, Zo, Zp, Zq, Zr, Zs, Zt, Zu, Zv, Zw, Zx, Zy, Zz, Y0, Y1, Y2, Y3, Y4, Y5, Y6, Y7, Y8, Y9, Ya, Yb, Yc, Yd, Ye, Yf, Yg, Yh, Yi, Yj, Yk, Yl, Ym, Yn, Yo, Yp, Yq, Yr, Ys, Yt, Yu, Yv, Nat.zero_add, Nat.add_zero, ne_eq, not_false_eq_true, reduceCtorEq, Nat.reduceAdd, Nat.reduceEqDiff, Nat.succ_ne_self, Yw, Yx, Yy, Yz, Q0, Q1, ↓Q2, Q3, Q4, Q5, Q6, Q7, Q8, Q9, Qa, Qb, Qc, Qd, Qe, Qf, Qg, Qh, Qi, Qj]
    rw [show (leB M v).take i = leB M v from List.take_of_length_le (by rw [leB_len]; omega), show o + i = o + M from by omega]
  | m + 1, n, i, z, hz, hi, hn => by
    subst hz
    obtain ⟨n, rfl⟩ : ∃ n', n = n' + 1 := ⟨n - 1, by omega⟩
    have hlen : (bl.take o ++ (leB M v).take i ++ bl.drop (o + i)).length = bl.length := by
      simp only [List.length_append, List.length_take, List.length_drop, leB_len]; omega
    have hpb := put_byte (H := H.set b (BB (bl.take o ++ (leB M v).take i ++ bl.drop (o + i)))) (n := b) (j := o + i) (l := bl.take o ++ (leB M v).take i ++ bl.drop (o + i)) (x := UInt8.ofNat (v / 256 ^ i)) hf (by omega)
    have hset : (bl.take o ++ (leB M v).take i ++ bl.drop (o + i)).set (o + i) (UInt8.ofNat (v / 256 ^ i)) = bl.take o ++ (leB M v).take (i + 1) ++ bl.drop (o + (i + 1)) := by
      have h1 : (bl.take o ++ (leB M v).take i).length = o + i := by
        simp only [List.length_append, List.length_take, leB_len]; omega
      have h2 : o + i < bl.length := by omega
      rw [List.set_append_right _ _ (by omega), h1, Nat.sub_self, List.drop_eq_getElem_cons h2, List.set_cons_zero, List.take_succ_eq_append_getElem (by rw [leB_len]; omega), leB_get (by omega)]
      simp only [List.append_assoc, List.singleton_append, Nat.add_assoc]
    rw [hset] at hpb
    have hss : ∀ x y : Blk, (H.set b x).set b y = H.set b y := fun x y => by
      simp only [Heap.set, Heap.mk.injEq, and_true]
      funext n; by_cases h : n = b <;> simp [h]
    have hidx : idxSl 1 (.slice (some ⟨b, o, none⟩) M cap) (.int .i64 (i : Int)) = some (.pointer (some ⟨b, o + i, none⟩)) := Yw (by omega)
    rw [L100_0]
    simp (disch := first | omega | assumption | (simp only [Yg, Yh, Yi, Yj] <;> omega) | (simp only [Qk, Ql, Qm, Qn, Qo, Qp, Bool.and_self]) | rfl) only [↓Z0, Z1, ↓Z2, ↓Z3, ↓Z4, ↓Z5, ↓Z6, Z7, ↓Z8, ↓Z9, ↓Za, ↓Zb, Zc, ↓Zd, Ze, Zf, decide_true, decide_false, Zg, Zh, Zi, Zj, Zk, Zl, Zm, Zn, Zo, Zp, Zq, Zr, Zs, Zt, Zu, Zv, Zw, Zx, Zy, Zz, Y0, Y1, Y2, Y3, Y4, Y5, Y6, Y7, Y8, Y9, Ya, Yb, Yc, Yd, Ye, Yf, Yg, Yh, Yi, Yj, Yk, Yl, Ym, Yn, Yo, Yp, Yq, Yr, Ys, Yt, Yu, Yv, Nat.zero_add, Nat.add_zero, ne_eq, not_false_eq_true, reduceCtorEq, Nat.reduceAdd, Nat.reduceEqDiff, Nat.succ_ne_self, Yw, Yx, Yy, Yz, Q0, Q1, ↓Q2, Q3, Q4, Q5, Q6, Q7, Q8, Q9, Qa, Qb, Qc, Qd, Qe, Qf, Qg, Qh, Qi, Qj, shr_le (show i ≤ 4 by omega), conv_byte, hidx, hpb, hss]
    exact put_loop k hM hf ho m n (i + 1) _ rfl (by omega) (by omega)
theorem put_run {k : Nat} (hk : 10 ≤ k) {b o cap M v : Nat} (hM : M ≤ 4) {H : Heap} (hf : H.floor ≤ b) {bl : List UInt8} (hb : H.blk b = some (BB bl)) (ho : o + M ≤ bl.length) :
    run Tryz.prog k 100 #[.slice (some ⟨b, o, none⟩) M cap, .int .u32 (v : Int)] H = some (.tuple #[], H.set b (BB (bl.take o ++ leB M v ++ bl.drop (o + M)))) := by
  obtain ⟨k, rfl⟩ : ∃ k', k = k' + 1 := ⟨k - 1, by omega⟩
  have hl : lenSl (.slice (some ⟨b, o, none⟩) M cap) = some (.int .i64 (M : Int)) := rfl
  have := put_loop k (b := b) (o := o) (cap := cap) (M := M) (v := v) hM hf ho M k 0 _ rfl (by omega) (by omega)
  rw [List.take_zero, List.append_nil, Nat.add_zero, List.take_append_drop, set_same hb] at this
  rw [run100, F100]
  simp (disch := first | omega | assumption | (simp only [Yg, Yh, Yi, Yj] <;> omega) | (simp only [Qk, Ql, Qm, Qn, Qo, Qp, Bool.and_self]) | rfl) only [↓Z0, Z1, ↓Z2, ↓Z3, ↓Z4, ↓Z5, ↓Z6, Z7, ↓Z8, ↓Z9, ↓Za, ↓Zb, Zc, ↓Zd, Ze, Zf, decide_true, decide_false, Zg, Zh, Zi, Zj, Zk, Zl, Zm, Zn, Zo, Zp, Zq, Zr, Zs, Zt, Zu, Zv, Zw, Zx, Zy, Zz, Y0, Y1, Y2, Y3, Y4, Y5, Y6, Y7, Y8, Y9, Ya, Yb, Yc, Yd, Ye, Yf, Yg, Yh, Yi, Yj, Yk, Yl, Ym, Yn, Yo, Yp, Yq, Yr, Ys, Yt, Yu, Yv, Nat.zero_add, Nat.add_zero, ne_eq, not_false_eq_true, reduceCtorEq, Nat.reduceAdd, Nat.reduceEqDiff, Nat.succ_ne_self, Yw, Yx, Yy, Yz, Q0, Q1, ↓Q2, Q3, Q4, Q5, Q6, Q7, Q8, Q9, Qa, Qb, Qc, Qd, Qe, Qf, Qg, Qh, Qi, Qj, hl]
  exact this
theorem SlAt.BB {H : Heap} {b o len cap : Nat} {bl : List UInt8} (hb : H.blk b = some (BB bl)) (hlt : b < H.next) (hl : len ≤ cap) (ho : o + len ≤ bl.length) : SlAt H (.slice (some ⟨b, o, none⟩) len cap) 1 byteC ((bl.drop o).take len) := by
  have e : ((bl.drop o).take len).length = len := by rw [List.length_take, List.length_drop]; omega
  refine .inr ⟨b, o, cap, _, _, by rw [e], .inr (by omega), hb, rfl, hlt, ?_⟩
  rw [e, Nat.mul_one, List.toList_toArray, flat1_drop, flat1_take]
theorem BytesAt.of_BB {H : Heap} {b len cap : Nat} {bl : List UInt8} (hb : H.blk b = some (BB bl)) (ho : len ≤ bl.length) : BytesAt H (.slice (some ⟨b, 0, none⟩) len cap) (bl.take len) := by
  have e : (bl.take len).length = len := by rw [List.length_take]; omega
  refine .inr ⟨b, 0, cap, _, _, by rw [e], hb, rfl, fun i hi => ?_⟩
  rw [e] at hi
  simp only [flat_byte, Nat.zero_add, List.getElem?_toArray, List.getElem?_map]
  rw [List.getElem?_eq_getElem (by omega), List.getElem_take]; rfl
/-- An entry's bytes. -/
def head22 (x : Ent) : List UInt8 := 86 :: UInt8.ofNat x.name.length :: (padTo 16 x.name ++ leB 2 x.first ++ leB 2 x.len)
def laidB (x : Ent) : List UInt8 := head22 x ++ leB 4 (crcSum (head22 x)).toNat ++ List.replicate 6 0
theorem head22_len (x : Ent) : (head22 x).length = 22 := by simp [head22, padTo_len, leB_len]
theorem laidB_len (x : Ent) : (laidB x).length = 32 := by simp [laidB, head22_len, leB_len]
theorem conv_u32 (n : Nat) (h : n < 4294967296) : convI .u32 (.int .i64 (n : Int)) = some (.int .u32 (n : Int)) := by
  simp only [convI, wrap_u32 h]
theorem sub_BB {b len cap i j : Nat} (hc : cap < capU) (h : i ≤ j) (hl : j ≤ cap) (hi : i < cap) : sliceSl 1 (.slice (some ⟨b, 0, none⟩) len cap) (some (.int .i64 (i : Int))) (some (.int .i64 (j : Int))) none = some (.slice (some ⟨b, i, none⟩) (j - i) (cap - i)) := by
  have hc' : ¬ (cap = capU) := by omega
  have hci : ¬ (cap = i) := by omega
  have h1 : (0 : Int) ≤ (j : Int) ∧ (j : Int) ≤ (cap : Int) := by omega
  have h2 : (0 : Int) ≤ (i : Int) ∧ (i : Int) ≤ (j : Int) := by omega
  simp only [sliceSl, hc', if_false, sBound, Option.bind_some]
  rw [if_neg (by decide), if_pos h1, Option.bind_some, Int.toNat_natCast, if_pos h2, Option.bind_some, Int.toNat_natCast, if_neg hci]
  simp only [Option.map_some, Addr.add, Nat.mul_one]
  by_cases h0 : i = 0
  · subst h0; rfl
  · simp [h0]
theorem sub_to {b len cap j : Nat} (hc : cap < capU) (hl : j ≤ cap) (h0 : 0 < cap) : sliceSl 1 (.slice (some ⟨b, 0, none⟩) len cap) none (some (.int .i64 (j : Int))) none = some (.slice (some ⟨b, 0, none⟩) j cap) := by
  have hc' : ¬ (cap = capU) := by omega
  have hci : ¬ (cap = 0) := by omega
  have h1 : (0 : Int) ≤ (j : Int) ∧ (j : Int) ≤ (cap : Int) := by omega
  simp only [sliceSl, hc', if_false, sBound, Option.bind_some]
  rw [if_neg (by decide), if_pos h1, Option.bind_some, Int.toNat_natCast, if_neg hci]
  simp [Addr.add]
end Go.PG

namespace Go.PG
open Go.Proofs

theorem laid_bytes1 (l : UInt8) : ((List.replicate 32 (0 : UInt8)).set 0 86).set 1 l = 86 :: l :: List.replicate 30 0 := rfl
theorem laid_bytes2 (l : UInt8) (nm : List UInt8) : (86 :: l :: List.replicate 30 (0 : UInt8)).take 2 ++ nm.take (min nm.length 16) ++ (86 :: l :: List.replicate 30 (0 : UInt8)).drop (2 + min nm.length 16) = 86 :: l :: (padTo 16 nm ++ List.replicate 14 0) := by
  have e : nm.take (min nm.length 16) = nm.take 16 := by
    by_cases h : nm.length ≤ 16
    · rw [List.take_of_length_le (by omega), List.take_of_length_le h]
    · congr 1; omega
  rw [e, show 2 + min nm.length 16 = min nm.length 16 + 2 from by omega]
  simp only [List.take_succ_cons, List.take_zero, List.drop_succ_cons, padTo, List.cons_append, List.nil_append, List.drop_replicate, List.append_assoc, List.replicate_append_replicate]
  congr 5; omega
theorem laid_bytes3 (l : UInt8) (p a : List UInt8) (hp : p.length = 16) (ha : a.length = 2) : (86 :: l :: (p ++ List.replicate 14 (0 : UInt8))).take 18 ++ a ++ (86 :: l :: (p ++ List.replicate 14 (0 : UInt8))).drop 20 = 86 :: l :: (p ++ a ++ List.replicate 12 0) := by
  simp only [List.take_succ_cons, List.drop_succ_cons, List.cons_append]
  rw [List.take_left' hp, show (18 : Nat) = 16 + 2 from rfl, ← List.drop_drop, List.drop_left' hp, List.drop_replicate]
theorem laid_bytes4 (l : UInt8) (p a b : List UInt8) (hp : p.length = 16) (ha : a.length = 2) (hb : b.length = 2) : (86 :: l :: (p ++ a ++ List.replicate 12 (0 : UInt8))).take 20 ++ b ++ (86 :: l :: (p ++ a ++ List.replicate 12 (0 : UInt8))).drop 22 = 86 :: l :: (p ++ a ++ b ++ List.replicate 10 0) := by
  have h : (p ++ a).length = 18 := by rw [List.length_append, hp, ha]
  simp only [List.take_succ_cons, List.drop_succ_cons, List.cons_append]
  rw [List.take_left' h, show (20 : Nat) = 18 + 2 from rfl, ← List.drop_drop, List.drop_left' h, List.drop_replicate]
theorem laid_bytes5 (h s : List UInt8) (hh : h.length = 22) : (h ++ List.replicate 10 (0 : UInt8)).take 22 ++ s ++ (h ++ List.replicate 10 (0 : UInt8)).drop 26 = h ++ s ++ List.replicate 6 0 := by
  rw [List.take_left' hh, show (26 : Nat) = 22 + 4 from rfl, ← List.drop_drop, List.drop_left' hh, List.drop_replicate]
theorem zero_BB (n : Nat) : Blk.cells (Array.replicate n (.int .u8 0)) 5 = BB (List.replicate n 0) := by
  rw [BB, flat_byte, List.map_replicate]
  congr 1
def entV (x : Ent) : Value := .agg #[str x.name, .int .i64 (x.first : Int), .int .i64 (x.len : Int)]
theorem conv_len (n : Nat) : convI .u8 (.int .i64 (n : Int)) = some (.int .u8 ((UInt8.ofNat n).toNat : Int)) := conv_byte n .i64
theorem laid_run {k : Nat} (hk : 40 ≤ k) (x : Ent) (hf : x.first < 4294967296) (hl : x.len < 4294967296) (hn : x.name.length < 1000000) (H : Heap) (hfl : H.floor ≤ H.next) :
    ∃ H', run Tryz.prog k 86 #[entV x] H = some (str (laidB x), H') ∧ Grow H H' := by
  obtain ⟨k, rfl⟩ : ∃ k', k = k' + 1 := ⟨k - 1, by omega⟩
  have hbox : pBox 49 (entV x) H = some (.pointer (some ⟨H.next, 0, none⟩), H.new (.cells #[str x.name, .int .i64 (x.first : Int), .int .i64 (x.len : Int)] 49)) := rfl
  generalize hH1 : H.new (.cells #[str x.name, .int .i64 (x.first : Int), .int .i64 (x.len : Int)] 49) = H1 at hbox
  have hn1 : H1.next = H.next + 1 := by rw [← hH1]; rfl
  have hf1 : H1.floor = H.floor := by rw [← hH1]; rfl
  have hb1 : ∀ l, (H1.new (BB l)).blk H.next = some (.cells #[str x.name, .int .i64 (x.first : Int), .int .i64 (x.len : Int)] 49) := fun l => by
    rw [Yd (by omega), ← hH1, Y9]
  have hb0 : H1.blk H.next = some (.cells #[str x.name, .int .i64 (x.first : Int), .int .i64 (x.len : Int)] 49) := by rw [← hH1, Y9]
  have hlt : ∀ l, (H1.new (BB l)).next = H.next + 2 := fun l => by rw [Yg, hn1]
  have hfl2 : ∀ l, (H1.new (BB l)).floor = H.floor := fun l => by rw [Yh, hf1]
  have hb2 : ∀ l, (H1.new (BB l)).blk (H.next + 1) = some (BB l) := fun l => by rw [← hn1, Y9]
  have hset : ∀ l m, (H1.new (BB l)).set (H.next + 1) (BB m) = H1.new (BB m) := fun l m => by rw [← hn1, set_new]
  have hput : ∀ (o M cap v : Nat) (l : List UInt8), M ≤ 4 → o + M ≤ l.length → run Tryz.prog k 100 #[.slice (some ⟨H.next + 1, o, none⟩) M cap, .int .u32 (v : Int)] (H1.new (BB l)) = some (.tuple #[], H1.new (BB (l.take o ++ leB M v ++ l.drop (o + M)))) := fun o M cap v l hM ho => by
    rw [put_run (by omega) hM (by rw [hfl2]; omega) (hb2 l) ho, hset]
  have h0 := put_byte (H := H1.new (BB (List.replicate 32 0))) (n := H.next + 1) (j := 0) (l := List.replicate 32 0) (x := 86) (by rw [hfl2]; omega) (by simp)
  have h1 := put_byte (H := H1.new (BB ((List.replicate 32 0).set 0 86))) (n := H.next + 1) (j := 1) (l := (List.replicate 32 0).set 0 86) (x := UInt8.ofNat x.name.length) (by rw [hfl2]; omega) (by simp)
  rw [hset] at h0 h1
  rw [laid_bytes1] at h1
  have h2 := copy_BB (b := H.next + 1) (o := 2) (len := 16) (cap := 30) (hb2 (86 :: UInt8.ofNat x.name.length :: List.replicate 30 0)) (by simp) (by rw [hfl2]; omega) (src_str _ x.name)
  rw [hset, laid_bytes2] at h2
  have h3 := hput 18 2 14 x.first (86 :: UInt8.ofNat x.name.length :: (padTo 16 x.name ++ List.replicate 14 0)) (by decide) (by simp [padTo_len])
  rw [laid_bytes3 _ _ _ (padTo_len _ _) (leB_len _ _)] at h3
  have h4 := hput 20 2 12 x.len (86 :: UInt8.ofNat x.name.length :: (padTo 16 x.name ++ leB 2 x.first ++ List.replicate 12 0)) (by decide) (by simp [padTo_len, leB_len])
  rw [laid_bytes4 _ _ _ _ (padTo_len _ _) (leB_len _ _) (leB_len _ _)] at h4
  have h5e : 86 :: UInt8.ofNat x.name.length :: (padTo 16 x.name ++ leB 2 x.first ++ leB 2 x.len ++ List.replicate 10 0) = head22 x ++ List.replicate 10 0 := by simp [head22]
  rw [h5e] at h4
  have hby : BytesAt (H1.new (BB (head22 x ++ List.replicate 10 0))) (.slice (some ⟨H.next + 1, 0, none⟩) 22 32) (head22 x) := by
    have := BytesAt.of_BB (len := 22) (cap := 32) (hb2 (head22 x ++ List.replicate 10 0)) (by simp [head22_len])
    rwa [List.take_left' (head22_len x)] at this
  have h5 : run Tryz.prog k 96 #[.slice (some ⟨H.next + 1, 0, none⟩) 22 32] (H1.new (BB (head22 x ++ List.replicate 10 0))) = some (.int .u32 ((crcSum (head22 x)).toNat : Int), H1.new (BB (head22 x ++ List.replicate 10 0))) := crc_sum (k := k) hby (by rw [head22_len]; decide) (by omega) (by rw [head22_len]; omega)
  have h6 := hput 22 4 10 (crcSum (head22 x)).toNat (head22 x ++ List.replicate 10 0) (by decide) (by simp [head22_len])
  rw [laid_bytes5 _ _ (head22_len x)] at h6
  change _ = some (_, H1.new (BB (laidB x))) at h6
  have h7 : convBS (.slice (some ⟨H.next + 1, 0, none⟩) 32 32) (H1.new (BB (laidB x))) = some (str (laidB x)) := by
    have := (SlAt.BB (len := 32) (cap := 32) (o := 0) (hb2 (laidB x)) (by rw [hlt]; omega) (Nat.le_refl _) (by rw [laidB_len]; decide)).str
    rwa [List.drop_zero, List.take_of_length_le (by rw [laidB_len]; decide)] at this
  have s1 : sliceSl 1 (.slice (some ⟨H.next + 1, 0, none⟩) 32 32) (some (.int .i64 2)) (some (.int .i64 18)) none = some (.slice (some ⟨H.next + 1, 2, none⟩) 16 30) := sub_BB (b := H.next + 1) (len := 32) (cap := 32) (i := 2) (j := 18) (by decide) (by decide) (by decide) (by decide)
  have s2 : sliceSl 1 (.slice (some ⟨H.next + 1, 0, none⟩) 32 32) (some (.int .i64 18)) (some (.int .i64 20)) none = some (.slice (some ⟨H.next + 1, 18, none⟩) 2 14) := sub_BB (b := H.next + 1) (len := 32) (cap := 32) (i := 18) (j := 20) (by decide) (by decide) (by decide) (by decide)
  have s3 : sliceSl 1 (.slice (some ⟨H.next + 1, 0, none⟩) 32 32) (some (.int .i64 20)) (some (.int .i64 22)) none = some (.slice (some ⟨H.next + 1, 20, none⟩) 2 12) := sub_BB (b := H.next + 1) (len := 32) (cap := 32) (i := 20) (j := 22) (by decide) (by decide) (by decide) (by decide)
  have s4 : sliceSl 1 (.slice (some ⟨H.next + 1, 0, none⟩) 32 32) (some (.int .i64 22)) (some (.int .i64 26)) none = some (.slice (some ⟨H.next + 1, 22, none⟩) 4 10) := sub_BB (b := H.next + 1) (len := 32) (cap := 32) (i := 22) (j := 26) (by decide) (by decide) (by decide) (by decide)
  have s5 : sliceSl 1 (.slice (some ⟨H.next + 1, 0, none⟩) 32 32) none (some (.int .i64 22)) none = some (.slice (some ⟨H.next + 1, 0, none⟩) 22 32) := sub_to (b := H.next + 1) (len := 32) (cap := 32) (j := 22) (by decide) (by decide) (by decide)
  have i0 : idxSl 1 (.slice (some ⟨H.next + 1, 0, none⟩) 32 32) (.int .i64 0) = some (.pointer (some ⟨H.next + 1, 0, none⟩)) := Yw (i := 0) (by decide)
  have i1 : idxSl 1 (.slice (some ⟨H.next + 1, 0, none⟩) 32 32) (.int .i64 1) = some (.pointer (some ⟨H.next + 1, 1, none⟩)) := Yw (i := 1) (by decide)
  have hne : H.next ≠ H.next + 1 := by omega
  have c1 := conv_u32 x.first hf
  have c2 := conv_u32 x.len hl
  have c3 := conv_len x.name.length
  have e86 : Value.int .u8 86 = .int .u8 (((86 : UInt8).toNat : Nat) : Int) := rfl
  rw [run86, F86, hbox]
  simp (disch := first | omega | assumption | (simp only [Yg, Yh, Yi, Yj] <;> omega) | (simp only [Qk, Ql, Qm, Qn, Qo, Qp, Bool.and_self]) | rfl) only [↓Z0, Z1, ↓Z2, ↓Z3, ↓Z4, ↓Z5, ↓Z6, Z7, ↓Z8, ↓Z9, ↓Za, ↓Zb, Zc, ↓Zd, Ze, Zf, decide_true, decide_false, Zg, Zh, Zi, Zj, Zk, Zl, Zm, Zn, Zo, Zp, Zq, Zr, Zs, Zt, Zu, Zv, Zw, Zx, Zy, Zz, Y0, Y1, Y2, Y3, Y4, Y5, Y6, Y7, Y8, Y9, Ya, Yb, Yc, Yd, Ye, Yf, Yg, Yh, Yi, Yj, Yk, Yl, Ym, Yn, Yo, Yp, Yq, Yr, Ys, Yt, Yu, Yv, Nat.zero_add, Nat.add_zero, ne_eq, not_false_eq_true, reduceCtorEq, Nat.reduceAdd, Nat.reduceEqDiff, Nat.succ_ne_self, Yw, Yx, Yy, Yz, Q0, Q1, ↓Q2, Q3, Q4, Q5, Q6, Q7, Q8, Q9, Qa, Qb, Qc, Qd, Qe, Qf, Qg, Qh, Qi, Qj, mk32, zero_BB, hn1, hlt, hfl2, hb0, hb1, hb2, c1, c2, c3, i0, i1, e86, h0, h1, h2, h3, h4, h5, h6, h7, s1, s2, s3, s4, s5]
  refine ⟨_, rfl, ?_⟩
  rw [← hH1]; exact ((Grow.refl H).new _).new _
end Go.PG

namespace Go.PG
open Go.Proofs

noncomputable def C11l : Code := sub [.l] (bodyOf Tryz.f11)
noncomputable def C11r : Code := sub [.r] (bodyOf Tryz.f11)
noncomputable def C11rlrll : Code := sub [.r, .l, .r, .l, .l] (bodyOf Tryz.f11)
noncomputable def C11rlrllrrlrl : Code := sub [.r, .l, .r, .l, .l, .r, .r, .l, .r, .l] (bodyOf Tryz.f11)
noncomputable def C11rlrllrrlrr : Code := sub [.r, .l, .r, .l, .l, .r, .r, .l, .r, .r] (bodyOf Tryz.f11)
noncomputable def C11rr : Code := sub [.r, .r] (bodyOf Tryz.f11)
noncomputable def K11_0 (k : Nat) : Ex → Fr → Heap → Option (Value × Heap) := finK Tryz.prog Tryz.f11
noncomputable def K11_1 (k : Nat) : Ex → Fr → Heap → Option (Value × Heap) := seqC (denK Tryz.prog (run Tryz.prog k) k C11rr (K11_0 k)) (K11_0 k)
noncomputable def K11_2 (k : Nat) : Ex → Fr → Heap → Option (Value × Heap) := blkC 0 (K11_1 k)
noncomputable def K11_3 (k : Nat) (nrlrl : Nat) : Ex → Fr → Heap → Option (Value × Heap) := seqC (iterK (denK Tryz.prog (run Tryz.prog k) k C11rlrll) (K11_2 k) nrlrl) (K11_2 k)
noncomputable def K11_4 (k : Nat) (nrlrl : Nat) : Ex → Fr → Heap → Option (Value × Heap) := blkC 1 (K11_3 k nrlrl)
noncomputable def K11_5 (k : Nat) (nrlrl : Nat) : Ex → Fr → Heap → Option (Value × Heap) := seqC (denK Tryz.prog (run Tryz.prog k) k C11rlrllrrlrr (K11_4 k nrlrl)) (K11_4 k nrlrl)
noncomputable def K11_6 (k : Nat) : Ex → Fr → Heap → Option (Value × Heap) := seqC (denK Tryz.prog (run Tryz.prog k) k C11r (K11_0 k)) (K11_0 k)

noncomputable def J11_0 (k : Nat) (nxrlrl : Value → Value → Heap → Option (Value × Heap)) (x0 x6 rA aB : Value) (H : Heap) : Option (Value × Heap) :=
  (pPick rA (.bool true) aB).bind fun y27 =>
  condV y27
  (
    some ((.bool false), H))
  (
    nxrlrl x0 x6 H)
noncomputable def J11_1 (k : Nat) (nxrlrl : Value → Value → Heap → Option (Value × Heap)) (x0 x6 rA uA zA : Value) (H : Heap) : Option (Value × Heap) :=
  condG rA false
  (
    (pPick uA zA (.bool false)).bind fun y26 =>
    J11_0 k nxrlrl x0 x6 rA y26 H)
  (
    J11_0 k nxrlrl x0 x6 rA undef H)
noncomputable def J11_2 (k : Nat) (nxrlrl : Value → Value → Heap → Option (Value × Heap)) (x0 x3 x6 rA uA : Value) (H : Heap) : Option (Value × Heap) :=
  condG uA true
  (
    (sliceStr x0 (some x3) none).bind fun y23 =>
    bindP (run Tryz.prog k 43 #[y23, (.string ⟨#[239,191,189]⟩)] H) fun y24 H_1 =>
    (pUn .not y24).bind fun y25 =>
    J11_1 k nxrlrl x0 x6 rA uA y25 H_1)
  (
    J11_1 k nxrlrl x0 x6 rA uA undef H)
noncomputable def J11_3 (k : Nat) (nxrlrl : Value → Value → Heap → Option (Value × Heap)) (x0 x3 x4 x6 nA pA : Value) (H : Heap) : Option (Value × Heap) :=
  (pPick nA (.bool true) pA).bind fun y16 =>
  condG y16 false
  (
    (binI .eql x4 (.int .i32 65533)).bind fun y19 =>
    J11_2 k nxrlrl x0 x3 x6 y16 y19 H)
  (
    J11_2 k nxrlrl x0 x3 x6 y16 undef H)
noncomputable def L11_4 (k : Nat) : Nat → Value → Value → Heap → Option (Value × Heap)
  | 0, _, _, _ => none
  | n + 1, x0, x6, H =>
    bindP (pNext x6 true H) fun y7 H_1 =>
    (pExtract y7 0).bind fun y8 =>
    condV y8
    (
      (pExtract y7 1).bind fun y9 =>
      (pExtract y7 2).bind fun y10 =>
      (binI .lss y10 (.int .i32 33)).bind fun y12 =>
      condG y12 false
      (
        (binI .eql y10 (.int .i32 127)).bind fun y15 =>
        J11_3 k (L11_4 k n) x0 y9 y10 x6 y12 y15 H_1)
      (
        J11_3 k (L11_4 k n) x0 y9 y10 x6 y12 undef H_1))
    (
      bindM (lenSt x0) H_1 fun y29 H_2 =>
      (binI .geq y29 (.int .i64 1)).bind fun y30 =>
      condG y30 true
      (
        bindM (lenSt x0) H_2 fun y33 H_3 =>
        (binI .leq y33 (.int .i64 16)).bind fun y34 =>
        (pPick y30 y34 (.bool false)).bind fun y35 =>
        some (y35, H_3))
      (
        (pPick y30 undef (.bool false)).bind fun y35_1 =>
        some (y35_1, H_2)))
noncomputable def F11 (k : Nat) (x0 : Value) (H : Heap) : Option (Value × Heap) :=
  bindP (pRange Tryz.prog 9 x0 H) fun y6 H_1 =>
  L11_4 k k x0 y6 H_1

theorem TJ11_0 (k : Nat) (nrlrl : Nat) (nxrlrl : Value → Value → Heap → Option (Value × Heap)) (hrlrl : ∀ (x0 x1 x2 x3 x4 x5 x6 x7 x8 x9 kA lA mA nA oA pA qA rA sA tA uA vA wA xA yA zA aB bB cB dB eB fB gB hB iB jB : Value) (H : Heap), iterK (denK Tryz.prog (run Tryz.prog k) k C11rlrll) (K11_2 k) nrlrl #[x0,x1,x2,x3,x4,x5,x6,x7,x8,x9,kA,lA,mA,nA,oA,pA,qA,rA,sA,tA,uA,vA,wA,xA,yA,zA,aB,bB,cB,dB,eB,fB,gB,hB,iB,jB] H = nxrlrl x0 x6 H) (x0 x1 x2 x3 x4 x5 x6 x7 x8 x9 kA lA mA nA oA pA qA rA sA tA uA vA wA xA yA zA aB bB cB dB eB fB gB hB iB jB : Value) (H : Heap) : grpK Tryz.prog (run Tryz.prog k) (ropsC C11rlrllrrlrl) ((grps (ropsC C11rlrllrrlrl).toList).drop 6) #[x0,x1,x2,x3,x4,x5,x6,x7,x8,x9,kA,lA,mA,nA,oA,pA,qA,rA,sA,tA,uA,vA,wA,xA,yA,zA,aB,bB,cB,dB,eB,fB,gB,hB,iB,jB] H ((K11_5 k nrlrl) .normal) = J11_0 k nxrlrl x0 x6 rA aB H := by
  refine Eq.trans (b :=
    (pPick rA (.bool true) aB).bind fun y27 =>
    condV y27
    (
      some ((.bool false), H))
    (
      iterK (denK Tryz.prog (run Tryz.prog k) k C11rlrll) (K11_2 k) nrlrl #[x0,x1,x2,x3,x4,x5,x6,x7,x8,x9,kA,lA,mA,nA,oA,pA,qA,rA,sA,tA,uA,vA,wA,xA,yA,zA,aB,y27,cB,dB,eB,fB,gB,hB,iB,jB] H)) (by kernel_rfl) ?_
  simp only [hrlrl]
  rfl
theorem TJ11_1 (k : Nat) (nrlrl : Nat) (nxrlrl : Value → Value → Heap → Option (Value × Heap)) (hrlrl : ∀ (x0 x1 x2 x3 x4 x5 x6 x7 x8 x9 kA lA mA nA oA pA qA rA sA tA uA vA wA xA yA zA aB bB cB dB eB fB gB hB iB jB : Value) (H : Heap), iterK (denK Tryz.prog (run Tryz.prog k) k C11rlrll) (K11_2 k) nrlrl #[x0,x1,x2,x3,x4,x5,x6,x7,x8,x9,kA,lA,mA,nA,oA,pA,qA,rA,sA,tA,uA,vA,wA,xA,yA,zA,aB,bB,cB,dB,eB,fB,gB,hB,iB,jB] H = nxrlrl x0 x6 H) (x0 x1 x2 x3 x4 x5 x6 x7 x8 x9 kA lA mA nA oA pA qA rA sA tA uA vA wA xA yA zA aB bB cB dB eB fB gB hB iB jB : Value) (H : Heap) : grpK Tryz.prog (run Tryz.prog k) (ropsC C11rlrllrrlrl) ((grps (ropsC C11rlrllrrlrl).toList).drop 5) #[x0,x1,x2,x3,x4,x5,x6,x7,x8,x9,kA,lA,mA,nA,oA,pA,qA,rA,sA,tA,uA,vA,wA,xA,yA,zA,aB,bB,cB,dB,eB,fB,gB,hB,iB,jB] H ((K11_5 k nrlrl) .normal) = J11_1 k nxrlrl x0 x6 rA uA zA H := by
  refine Eq.trans (b :=
    condG rA false
    (
      (pPick uA zA (.bool false)).bind fun y26 =>
      grpK Tryz.prog (run Tryz.prog k) (ropsC C11rlrllrrlrl) ((grps (ropsC C11rlrllrrlrl).toList).drop 6) #[x0,x1,x2,x3,x4,x5,x6,x7,x8,x9,kA,lA,mA,nA,oA,pA,qA,rA,sA,tA,uA,vA,wA,xA,yA,zA,y26,bB,cB,dB,eB,fB,gB,hB,iB,jB] H ((K11_5 k nrlrl) .normal))
    (
      grpK Tryz.prog (run Tryz.prog k) (ropsC C11rlrllrrlrl) ((grps (ropsC C11rlrllrrlrl).toList).drop 6) #[x0,x1,x2,x3,x4,x5,x6,x7,x8,x9,kA,lA,mA,nA,oA,pA,qA,rA,sA,tA,uA,vA,wA,xA,yA,zA,undef,bB,cB,dB,eB,fB,gB,hB,iB,jB] H ((K11_5 k nrlrl) .normal))) (by kernel_rfl) ?_
  simp only [TJ11_0 k nrlrl nxrlrl hrlrl]
  rfl
theorem TJ11_2 (k : Nat) (nrlrl : Nat) (nxrlrl : Value → Value → Heap → Option (Value × Heap)) (hrlrl : ∀ (x0 x1 x2 x3 x4 x5 x6 x7 x8 x9 kA lA mA nA oA pA qA rA sA tA uA vA wA xA yA zA aB bB cB dB eB fB gB hB iB jB : Value) (H : Heap), iterK (denK Tryz.prog (run Tryz.prog k) k C11rlrll) (K11_2 k) nrlrl #[x0,x1,x2,x3,x4,x5,x6,x7,x8,x9,kA,lA,mA,nA,oA,pA,qA,rA,sA,tA,uA,vA,wA,xA,yA,zA,aB,bB,cB,dB,eB,fB,gB,hB,iB,jB] H = nxrlrl x0 x6 H) (x0 x1 x2 x3 x4 x5 x6 x7 x8 x9 kA lA mA nA oA pA qA rA sA tA uA vA wA xA yA zA aB bB cB dB eB fB gB hB iB jB : Value) (H : Heap) : grpK Tryz.prog (run Tryz.prog k) (ropsC C11rlrllrrlrl) ((grps (ropsC C11rlrllrrlrl).toList).drop 4) #[x0,x1,x2,x3,x4,x5,x6,x7,x8,x9,kA,lA,mA,nA,oA,pA,qA,rA,sA,tA,uA,vA,wA,xA,yA,zA,aB,bB,cB,dB,eB,fB,gB,hB,iB,jB] H ((K11_5 k nrlrl) .normal) = J11_2 k nxrlrl x0 x3 x6 rA uA H := by
  refine Eq.trans (b :=
    condG uA true
    (
      (sliceStr x0 (some x3) none).bind fun y23 =>
      bindP (run Tryz.prog k 43 #[y23, (.string ⟨#[239,191,189]⟩)] H) fun y24 H_1 =>
      (pUn .not y24).bind fun y25 =>
      grpK Tryz.prog (run Tryz.prog k) (ropsC C11rlrllrrlrl) ((grps (ropsC C11rlrllrrlrl).toList).drop 5) #[x0,x1,x2,x3,x4,x5,x6,x7,x8,x9,kA,lA,mA,nA,oA,pA,qA,rA,sA,tA,uA,x0,x3,y23,y24,y25,aB,bB,cB,dB,eB,fB,gB,hB,iB,jB] H_1 ((K11_5 k nrlrl) .normal))
    (
      grpK Tryz.prog (run Tryz.prog k) (ropsC C11rlrllrrlrl) ((grps (ropsC C11rlrllrrlrl).toList).drop 5) #[x0,x1,x2,x3,x4,x5,x6,x7,x8,x9,kA,lA,mA,nA,oA,pA,qA,rA,sA,tA,uA,undef,undef,undef,undef,undef,aB,bB,cB,dB,eB,fB,gB,hB,iB,jB] H ((K11_5 k nrlrl) .normal))) (by kernel_rfl) ?_
  simp only [TJ11_1 k nrlrl nxrlrl hrlrl]
  rfl
theorem TJ11_3 (k : Nat) (nrlrl : Nat) (nxrlrl : Value → Value → Heap → Option (Value × Heap)) (hrlrl : ∀ (x0 x1 x2 x3 x4 x5 x6 x7 x8 x9 kA lA mA nA oA pA qA rA sA tA uA vA wA xA yA zA aB bB cB dB eB fB gB hB iB jB : Value) (H : Heap), iterK (denK Tryz.prog (run Tryz.prog k) k C11rlrll) (K11_2 k) nrlrl #[x0,x1,x2,x3,x4,x5,x6,x7,x8,x9,kA,lA,mA,nA,oA,pA,qA,rA,sA,tA,uA,vA,wA,xA,yA,zA,aB,bB,cB,dB,eB,fB,gB,hB,iB,jB] H = nxrlrl x0 x6 H) (x0 x1 x2 x3 x4 x5 x6 x7 x8 x9 kA lA mA nA oA pA qA rA sA tA uA vA wA xA yA zA aB bB cB dB eB fB gB hB iB jB : Value) (H : Heap) : grpK Tryz.prog (run Tryz.prog k) (ropsC C11rlrllrrlrl) ((grps (ropsC C11rlrllrrlrl).toList).drop 2) #[x0,x1,x2,x3,x4,x5,x6,x7,x8,x9,kA,lA,mA,nA,oA,pA,qA,rA,sA,tA,uA,vA,wA,xA,yA,zA,aB,bB,cB,dB,eB,fB,gB,hB,iB,jB] H ((K11_5 k nrlrl) .normal) = J11_3 k nxrlrl x0 x3 x4 x6 nA pA H := by
  refine Eq.trans (b :=
    (pPick nA (.bool true) pA).bind fun y16 =>
    condG y16 false
    (
      (binI .eql x4 (.int .i32 65533)).bind fun y19 =>
      grpK Tryz.prog (run Tryz.prog k) (ropsC C11rlrllrrlrl) ((grps (ropsC C11rlrllrrlrl).toList).drop 4) #[x0,x1,x2,x3,x4,x5,x6,x7,x8,x9,kA,lA,mA,nA,oA,pA,y16,y16,x4,y19,y19,vA,wA,xA,yA,zA,aB,bB,cB,dB,eB,fB,gB,hB,iB,jB] H ((K11_5 k nrlrl) .normal))
    (
      grpK Tryz.prog (run Tryz.prog k) (ropsC C11rlrllrrlrl) ((grps (ropsC C11rlrllrrlrl).toList).drop 4) #[x0,x1,x2,x3,x4,x5,x6,x7,x8,x9,kA,lA,mA,nA,oA,pA,y16,y16,undef,undef,undef,vA,wA,xA,yA,zA,aB,bB,cB,dB,eB,fB,gB,hB,iB,jB] H ((K11_5 k nrlrl) .normal))) (by kernel_rfl) ?_
  simp only [TJ11_2 k nrlrl nxrlrl hrlrl]
  rfl
theorem TL11_4 (k : Nat) : ∀ (n : Nat) (x0 x1 x2 x3 x4 x5 x6 x7 x8 x9 kA lA mA nA oA pA qA rA sA tA uA vA wA xA yA zA aB bB cB dB eB fB gB hB iB jB : Value) (H : Heap), iterK (denK Tryz.prog (run Tryz.prog k) k C11rlrll) (K11_2 k) n #[x0,x1,x2,x3,x4,x5,x6,x7,x8,x9,kA,lA,mA,nA,oA,pA,qA,rA,sA,tA,uA,vA,wA,xA,yA,zA,aB,bB,cB,dB,eB,fB,gB,hB,iB,jB] H = L11_4 k n x0 x6 H := by
  intro n
  induction n with
  | zero => intros; rfl
  | succ n ih =>
    intro x0 x1 x2 x3 x4 x5 x6 x7 x8 x9 kA lA mA nA oA pA qA rA sA tA uA vA wA xA yA zA aB bB cB dB eB fB gB hB iB jB H
    refine Eq.trans (b :=
    bindP (pNext x6 true H) fun y7 H_1 =>
    (pExtract y7 0).bind fun y8 =>
    condV y8
    (
      (pExtract y7 1).bind fun y9 =>
      (pExtract y7 2).bind fun y10 =>
      (binI .lss y10 (.int .i32 33)).bind fun y12 =>
      condG y12 false
      (
        (binI .eql y10 (.int .i32 127)).bind fun y15 =>
        grpK Tryz.prog (run Tryz.prog k) (ropsC C11rlrllrrlrl) ((grps (ropsC C11rlrllrrlrl).toList).drop 2) #[x0,x1,x2,y9,y10,x5,x6,y7,y8,y9,y10,y10,y12,y12,y10,y15,qA,rA,sA,tA,uA,vA,wA,xA,yA,zA,aB,bB,cB,dB,eB,fB,gB,hB,iB,jB] H_1 ((K11_5 k n) .normal))
      (
        grpK Tryz.prog (run Tryz.prog k) (ropsC C11rlrllrrlrl) ((grps (ropsC C11rlrllrrlrl).toList).drop 2) #[x0,x1,x2,y9,y10,x5,x6,y7,y8,y9,y10,y10,y12,y12,undef,undef,qA,rA,sA,tA,uA,vA,wA,xA,yA,zA,aB,bB,cB,dB,eB,fB,gB,hB,iB,jB] H_1 ((K11_5 k n) .normal)))
    (
      bindM (lenSt x0) H_1 fun y29 H_2 =>
      (binI .geq y29 (.int .i64 1)).bind fun y30 =>
      condG y30 true
      (
        bindM (lenSt x0) H_2 fun y33 H_3 =>
        (binI .leq y33 (.int .i64 16)).bind fun y34 =>
        (pPick y30 y34 (.bool false)).bind fun y35 =>
        some (y35, H_3))
      (
        (pPick y30 undef (.bool false)).bind fun y35_1 =>
        some (y35_1, H_2)))) (by kernel_rfl) ?_
    simp only [TJ11_3 k n (L11_4 k n) ih]
    rfl
theorem TF11 (k : Nat) (x0 x1 x2 x3 x4 x5 x6 x7 x8 x9 kA lA mA nA oA pA qA rA sA tA uA vA wA xA yA zA aB bB cB dB eB fB gB hB iB jB : Value) (H : Heap) : denK Tryz.prog (run Tryz.prog k) k C11l (K11_6 k) #[x0,x1,x2,x3,x4,x5,x6,x7,x8,x9,kA,lA,mA,nA,oA,pA,qA,rA,sA,tA,uA,vA,wA,xA,yA,zA,aB,bB,cB,dB,eB,fB,gB,hB,iB,jB] H = F11 k x0 H := by
  refine Eq.trans (b :=
    bindP (pRange Tryz.prog 9 x0 H) fun y6 H_1 =>
    iterK (denK Tryz.prog (run Tryz.prog k) k C11rlrll) (K11_2 k) k #[x0,x1,(.bool false),x3,x4,x0,y6,x7,x8,x9,kA,lA,mA,nA,oA,pA,qA,rA,sA,tA,uA,vA,wA,xA,yA,zA,aB,bB,cB,dB,eB,fB,gB,hB,iB,jB] H_1) (by kernel_rfl) ?_
  simp only [TL11_4 k]
  rfl
theorem run11 (k : Nat) (x0 : Value) (H : Heap) : run Tryz.prog (k + 1) 11 #[x0] H = F11 k x0 H := by
  refine Eq.trans (b := denK Tryz.prog (run Tryz.prog k) k C11l (K11_6 k) #[x0,undef,undef,undef,undef,undef,undef,undef,undef,undef,undef,undef,undef,undef,undef,undef,undef,undef,undef,undef,undef,undef,undef,undef,undef,undef,undef,undef,undef,undef,undef,undef,undef,undef,undef,undef] H) (by kernel_rfl) ?_
  exact TF11 k x0 undef undef undef undef undef undef undef undef undef undef undef undef undef undef undef undef undef undef undef undef undef undef undef undef undef undef undef undef undef undef undef undef undef undef undef H

end Go.PG

namespace Go.PG
open Go.Proofs

noncomputable def C12l : Code := sub [.l] (bodyOf Tryz.f12)
noncomputable def C12r : Code := sub [.r] (bodyOf Tryz.f12)
noncomputable def C12rrlll : Code := sub [.r, .r, .l, .l, .l] (bodyOf Tryz.f12)
noncomputable def C12rrlllrlrll : Code := sub [.r, .r, .l, .l, .l, .r, .l, .r, .l, .l] (bodyOf Tryz.f12)
noncomputable def C12rrlllrlrlr : Code := sub [.r, .r, .l, .l, .l, .r, .l, .r, .l, .r] (bodyOf Tryz.f12)
noncomputable def C12rrlllrlrr : Code := sub [.r, .r, .l, .l, .l, .r, .l, .r, .r] (bodyOf Tryz.f12)
noncomputable def C12rrr : Code := sub [.r, .r, .r] (bodyOf Tryz.f12)
noncomputable def K12_0 (k : Nat) : Ex → Fr → Heap → Option (Value × Heap) := finK Tryz.prog Tryz.f12
noncomputable def K12_1 (k : Nat) : Ex → Fr → Heap → Option (Value × Heap) := seqC (denK Tryz.prog (run Tryz.prog k) k C12rrr (K12_0 k)) (K12_0 k)
noncomputable def K12_2 (k : Nat) : Ex → Fr → Heap → Option (Value × Heap) := blkC 0 (K12_1 k)
noncomputable def K12_3 (k : Nat) (nrrll : Nat) : Ex → Fr → Heap → Option (Value × Heap) := seqC (iterK (denK Tryz.prog (run Tryz.prog k) k C12rrlll) (K12_2 k) nrrll) (K12_2 k)
noncomputable def K12_4 (k : Nat) (nrrll : Nat) : Ex → Fr → Heap → Option (Value × Heap) := blkC 1 (K12_3 k nrrll)
noncomputable def K12_5 (k : Nat) (nrrll : Nat) : Ex → Fr → Heap → Option (Value × Heap) := seqC (denK Tryz.prog (run Tryz.prog k) k C12rrlllrlrr (K12_4 k nrrll)) (K12_4 k nrrll)
noncomputable def K12_6 (k : Nat) (nrrll : Nat) : Ex → Fr → Heap → Option (Value × Heap) := seqC (denK Tryz.prog (run Tryz.prog k) k C12rrlllrlrlr (K12_5 k nrrll)) (K12_5 k nrrll)
noncomputable def K12_7 (k : Nat) : Ex → Fr → Heap → Option (Value × Heap) := seqC (denK Tryz.prog (run Tryz.prog k) k C12r (K12_0 k)) (K12_0 k)

noncomputable def J12_0 (k : Nat) (nxrrll : Value → Value → Heap → Option (Value × Heap)) (x0 x3 x5 vA xA : Value) (H : Heap) : Option (Value × Heap) :=
  (pPick vA (.bool true) xA).bind fun y24 =>
  condV y24
  (
    some ((.bool false), H))
  (
    (sliceStr x3 (some x5) none).bind fun y27 =>
    nxrrll x0 y27 H)
noncomputable def J12_1 (k : Nat) (nxrrll : Value → Value → Heap → Option (Value × Heap)) (x0 x3 x4 x5 rA tA : Value) (H : Heap) : Option (Value × Heap) :=
  (pPick rA (.bool true) tA).bind fun y20 =>
  condG y20 false
  (
    (binI .eql x4 (.int .i64 127)).bind fun y23 =>
    J12_0 k nxrrll x0 x3 x5 y20 y23 H)
  (
    J12_0 k nxrrll x0 x3 x5 y20 undef H)
noncomputable def L12_2 (k : Nat) : Nat → Value → Value → Heap → Option (Value × Heap)
  | 0, _, _, _ => none
  | n + 1, x0, x3, H =>
    bindM (lenSt x3) H fun y8 H_1 =>
    (binI .gtr y8 (.int .i64 0)).bind fun y9 =>
    condV y9
    (
      bindP (run Tryz.prog k 44 #[x3] H_1) fun y12 H_2 =>
      (pExtract y12 0).bind fun y13 =>
      (pExtract y12 1).bind fun y14 =>
      (binI .eql y14 (.int .i64 0)).bind fun y16 =>
      condG y16 false
      (
        (binI .lss y13 (.int .i64 33)).bind fun y19 =>
        J12_1 k (L12_2 k n) x0 x3 y13 y14 y16 y19 H_2)
      (
        J12_1 k (L12_2 k n) x0 x3 y13 y14 y16 undef H_2))
    (
      bindM (lenSt x0) H_1 fun y29 H_3 =>
      (binI .geq y29 (.int .i64 1)).bind fun y30 =>
      condG y30 true
      (
        bindM (lenSt x0) H_3 fun y33 H_4 =>
        (binI .leq y33 (.int .i64 16)).bind fun y34 =>
        (pPick y30 y34 (.bool false)).bind fun y35 =>
        some (y35, H_4))
      (
        (pPick y30 undef (.bool false)).bind fun y35_1 =>
        some (y35_1, H_3)))
noncomputable def F12 (k : Nat) (x0 : Value) (H : Heap) : Option (Value × Heap) :=
  L12_2 k k x0 x0 H

theorem TJ12_0 (k : Nat) (nrrll : Nat) (nxrrll : Value → Value → Heap → Option (Value × Heap)) (hrrll : ∀ (x0 x1 x2 x3 x4 x5 x6 x7 x8 x9 kA lA mA nA oA pA qA rA sA tA uA vA wA xA yA zA aB bB cB dB eB fB gB hB iB jB : Value) (H : Heap), iterK (denK Tryz.prog (run Tryz.prog k) k C12rrlll) (K12_2 k) nrrll #[x0,x1,x2,x3,x4,x5,x6,x7,x8,x9,kA,lA,mA,nA,oA,pA,qA,rA,sA,tA,uA,vA,wA,xA,yA,zA,aB,bB,cB,dB,eB,fB,gB,hB,iB,jB] H = nxrrll x0 x3 H) (x0 x1 x2 x3 x4 x5 x6 x7 x8 x9 kA lA mA nA oA pA qA rA sA tA uA vA wA xA yA zA aB bB cB dB eB fB gB hB iB jB : Value) (H : Heap) : grpK Tryz.prog (run Tryz.prog k) (ropsC C12rrlllrlrll) ((grps (ropsC C12rrlllrlrll).toList).drop 4) #[x0,x1,x2,x3,x4,x5,x6,x7,x8,x9,kA,lA,mA,nA,oA,pA,qA,rA,sA,tA,uA,vA,wA,xA,yA,zA,aB,bB,cB,dB,eB,fB,gB,hB,iB,jB] H ((K12_6 k nrrll) .normal) = J12_0 k nxrrll x0 x3 x5 vA xA H := by
  refine Eq.trans (b :=
    (pPick vA (.bool true) xA).bind fun y24 =>
    condV y24
    (
      some ((.bool false), H))
    (
      (sliceStr x3 (some x5) none).bind fun y27 =>
      iterK (denK Tryz.prog (run Tryz.prog k) k C12rrlll) (K12_2 k) nrrll #[x0,x1,x2,y27,x4,x5,x6,x7,x8,x9,kA,lA,mA,nA,oA,pA,qA,rA,sA,tA,uA,vA,wA,xA,y24,x3,x5,y27,cB,dB,eB,fB,gB,hB,iB,jB] H)) (by kernel_rfl) ?_
  simp only [hrrll]
  rfl
theorem TJ12_1 (k : Nat) (nrrll : Nat) (nxrrll : Value → Value → Heap → Option (Value × Heap)) (hrrll : ∀ (x0 x1 x2 x3 x4 x5 x6 x7 x8 x9 kA lA mA nA oA pA qA rA sA tA uA vA wA xA yA zA aB bB cB dB eB fB gB hB iB jB : Value) (H : Heap), iterK (denK Tryz.prog (run Tryz.prog k) k C12rrlll) (K12_2 k) nrrll #[x0,x1,x2,x3,x4,x5,x6,x7,x8,x9,kA,lA,mA,nA,oA,pA,qA,rA,sA,tA,uA,vA,wA,xA,yA,zA,aB,bB,cB,dB,eB,fB,gB,hB,iB,jB] H = nxrrll x0 x3 H) (x0 x1 x2 x3 x4 x5 x6 x7 x8 x9 kA lA mA nA oA pA qA rA sA tA uA vA wA xA yA zA aB bB cB dB eB fB gB hB iB jB : Value) (H : Heap) : grpK Tryz.prog (run Tryz.prog k) (ropsC C12rrlllrlrll) ((grps (ropsC C12rrlllrlrll).toList).drop 2) #[x0,x1,x2,x3,x4,x5,x6,x7,x8,x9,kA,lA,mA,nA,oA,pA,qA,rA,sA,tA,uA,vA,wA,xA,yA,zA,aB,bB,cB,dB,eB,fB,gB,hB,iB,jB] H ((K12_6 k nrrll) .normal) = J12_1 k nxrrll x0 x3 x4 x5 rA tA H := by
  refine Eq.trans (b :=
    (pPick rA (.bool true) tA).bind fun y20 =>
    condG y20 false
    (
      (binI .eql x4 (.int .i64 127)).bind fun y23 =>
      grpK Tryz.prog (run Tryz.prog k) (ropsC C12rrlllrlrll) ((grps (ropsC C12rrlllrlrll).toList).drop 4) #[x0,x1,x2,x3,x4,x5,x6,x7,x8,x9,kA,lA,mA,nA,oA,pA,qA,rA,sA,tA,y20,y20,x4,y23,yA,zA,aB,bB,cB,dB,eB,fB,gB,hB,iB,jB] H ((K12_6 k nrrll) .normal))
    (
      grpK Tryz.prog (run Tryz.prog k) (ropsC C12rrlllrlrll) ((grps (ropsC C12rrlllrlrll).toList).drop 4) #[x0,x1,x2,x3,x4,x5,x6,x7,x8,x9,kA,lA,mA,nA,oA,pA,qA,rA,sA,tA,y20,y20,undef,undef,yA,zA,aB,bB,cB,dB,eB,fB,gB,hB,iB,jB] H ((K12_6 k nrrll) .normal))) (by kernel_rfl) ?_
  simp only [TJ12_0 k nrrll nxrrll hrrll]
  rfl
theorem TL12_2 (k : Nat) : ∀ (n : Nat) (x0 x1 x2 x3 x4 x5 x6 x7 x8 x9 kA lA mA nA oA pA qA rA sA tA uA vA wA xA yA zA aB bB cB dB eB fB gB hB iB jB : Value) (H : Heap), iterK (denK Tryz.prog (run Tryz.prog k) k C12rrlll) (K12_2 k) n #[x0,x1,x2,x3,x4,x5,x6,x7,x8,x9,kA,lA,mA,nA,oA,pA,qA,rA,sA,tA,uA,vA,wA,xA,yA,zA,aB,bB,cB,dB,eB,fB,gB,hB,iB,jB] H = L12_2 k n x0 x3 H := by
  intro n
  induction n with
  | zero => intros; rfl
  | succ n ih =>
    intro x0 x1 x2 x3 x4 x5 x6 x7 x8 x9 kA lA mA nA oA pA qA rA sA tA uA vA wA xA yA zA aB bB cB dB eB fB gB hB iB jB H
    refine Eq.trans (b :=
    bindM (lenSt x3) H fun y8 H_1 =>
    (binI .gtr y8 (.int .i64 0)).bind fun y9 =>
    condV y9
    (
      bindP (run Tryz.prog k 44 #[x3] H_1) fun y12 H_2 =>
      (pExtract y12 0).bind fun y13 =>
      (pExtract y12 1).bind fun y14 =>
      (binI .eql y14 (.int .i64 0)).bind fun y16 =>
      condG y16 false
      (
        (binI .lss y13 (.int .i64 33)).bind fun y19 =>
        grpK Tryz.prog (run Tryz.prog k) (ropsC C12rrlllrlrll) ((grps (ropsC C12rrlllrlrll).toList).drop 2) #[x0,x1,x2,x3,y13,y14,x6,x3,y8,y9,y12,x3,y12,y13,y14,y14,y16,y16,y13,y19,uA,vA,wA,xA,yA,zA,aB,bB,cB,dB,eB,fB,gB,hB,iB,jB] H_2 ((K12_6 k n) .normal))
      (
        grpK Tryz.prog (run Tryz.prog k) (ropsC C12rrlllrlrll) ((grps (ropsC C12rrlllrlrll).toList).drop 2) #[x0,x1,x2,x3,y13,y14,x6,x3,y8,y9,y12,x3,y12,y13,y14,y14,y16,y16,undef,undef,uA,vA,wA,xA,yA,zA,aB,bB,cB,dB,eB,fB,gB,hB,iB,jB] H_2 ((K12_6 k n) .normal)))
    (
      bindM (lenSt x0) H_1 fun y29 H_3 =>
      (binI .geq y29 (.int .i64 1)).bind fun y30 =>
      condG y30 true
      (
        bindM (lenSt x0) H_3 fun y33 H_4 =>
        (binI .leq y33 (.int .i64 16)).bind fun y34 =>
        (pPick y30 y34 (.bool false)).bind fun y35 =>
        some (y35, H_4))
      (
        (pPick y30 undef (.bool false)).bind fun y35_1 =>
        some (y35_1, H_3)))) (by kernel_rfl) ?_
    simp only [TJ12_1 k n (L12_2 k n) ih]
    rfl
theorem TF12 (k : Nat) (x0 x1 x2 x3 x4 x5 x6 x7 x8 x9 kA lA mA nA oA pA qA rA sA tA uA vA wA xA yA zA aB bB cB dB eB fB gB hB iB jB : Value) (H : Heap) : denK Tryz.prog (run Tryz.prog k) k C12l (K12_7 k) #[x0,x1,x2,x3,x4,x5,x6,x7,x8,x9,kA,lA,mA,nA,oA,pA,qA,rA,sA,tA,uA,vA,wA,xA,yA,zA,aB,bB,cB,dB,eB,fB,gB,hB,iB,jB] H = F12 k x0 H := by
  refine Eq.trans (b :=
    iterK (denK Tryz.prog (run Tryz.prog k) k C12rrlll) (K12_2 k) k #[x0,x1,(.bool false),x0,x4,x5,x0,x7,x8,x9,kA,lA,mA,nA,oA,pA,qA,rA,sA,tA,uA,vA,wA,xA,yA,zA,aB,bB,cB,dB,eB,fB,gB,hB,iB,jB] H) (by kernel_rfl) ?_
  simp only [TL12_2 k]
  rfl
theorem run12 (k : Nat) (x0 : Value) (H : Heap) : run Tryz.prog (k + 1) 12 #[x0] H = F12 k x0 H := by
  refine Eq.trans (b := denK Tryz.prog (run Tryz.prog k) k C12l (K12_7 k) #[x0,undef,undef,undef,undef,undef,undef,undef,undef,undef,undef,undef,undef,undef,undef,undef,undef,undef,undef,undef,undef,undef,undef,undef,undef,undef,undef,undef,undef,undef,undef,undef,undef,undef,undef,undef] H) (by kernel_rfl) ?_
  exact TF12 k x0 undef undef undef undef undef undef undef undef undef undef undef undef undef undef undef undef undef undef undef undef undef undef undef undef undef undef undef undef undef undef undef undef undef undef undef H

end Go.PG

namespace Go.PG
open Go.Proofs

noncomputable def C43l : Code := sub [.l] (bodyOf Tryz.f43)
noncomputable def C43r : Code := sub [.r] (bodyOf Tryz.f43)
noncomputable def K43_0 (k : Nat) : Ex → Fr → Heap → Option (Value × Heap) := finK Tryz.prog Tryz.f43
noncomputable def K43_1 (k : Nat) : Ex → Fr → Heap → Option (Value × Heap) := seqC (denK Tryz.prog (run Tryz.prog k) k C43r (K43_0 k)) (K43_0 k)

noncomputable def F43 (k : Nat) (x0 x1 : Value) (H : Heap) : Option (Value × Heap) :=
  bindP (run Tryz.prog k 82 #[x0,x1] H) fun y7 H_1 =>
  some (y7, H_1)

theorem TF43 (k : Nat) (x0 x1 x2 x3 x4 x5 x6 x7 : Value) (H : Heap) : denK Tryz.prog (run Tryz.prog k) k C43l (K43_1 k) #[x0,x1,x2,x3,x4,x5,x6,x7] H = F43 k x0 x1 H := by
  kernel_rfl
theorem run43 (k : Nat) (x0 x1 : Value) (H : Heap) : run Tryz.prog (k + 1) 43 #[x0,x1] H = F43 k x0 x1 H := by
  refine Eq.trans (b := denK Tryz.prog (run Tryz.prog k) k C43l (K43_1 k) #[x0,x1,undef,undef,undef,undef,undef,undef] H) (by kernel_rfl) ?_
  exact TF43 k x0 x1 undef undef undef undef undef undef H

end Go.PG

namespace Go.PG
open Go.Proofs

noncomputable def C82l : Code := sub [.l] (bodyOf Tryz.f82)
noncomputable def C82r : Code := sub [.r] (bodyOf Tryz.f82)
noncomputable def K82_0 (k : Nat) : Ex → Fr → Heap → Option (Value × Heap) := finK Tryz.prog Tryz.f82
noncomputable def K82_1 (k : Nat) : Ex → Fr → Heap → Option (Value × Heap) := seqC (denK Tryz.prog (run Tryz.prog k) k C82r (K82_0 k)) (K82_0 k)

noncomputable def F82 (k : Nat) (x0 x1 : Value) (H : Heap) : Option (Value × Heap) :=
  bindM (lenSt x0) H fun y6 H_1 =>
  bindM (lenSt x1) H_1 fun y8 H_2 =>
  (binI .geq y6 y8).bind fun y9 =>
  condG y9 true
  (
    bindM (lenSt x1) H_2 fun y13 H_3 =>
    (sliceStr x0 none (some y13)).bind fun y14 =>
    (binS .eql y14 x1).bind fun y16 =>
    (pPick y9 y16 (.bool false)).bind fun y17 =>
    some (y17, H_3))
  (
    (pPick y9 undef (.bool false)).bind fun y17_1 =>
    some (y17_1, H_2))

theorem TF82 (k : Nat) (x0 x1 x2 x3 x4 x5 x6 x7 x8 x9 kA lA mA nA oA pA qA rA : Value) (H : Heap) : denK Tryz.prog (run Tryz.prog k) k C82l (K82_1 k) #[x0,x1,x2,x3,x4,x5,x6,x7,x8,x9,kA,lA,mA,nA,oA,pA,qA,rA] H = F82 k x0 x1 H := by
  kernel_rfl
theorem run82 (k : Nat) (x0 x1 : Value) (H : Heap) : run Tryz.prog (k + 1) 82 #[x0,x1] H = F82 k x0 x1 H := by
  refine Eq.trans (b := denK Tryz.prog (run Tryz.prog k) k C82l (K82_1 k) #[x0,x1,undef,undef,undef,undef,undef,undef,undef,undef,undef,undef,undef,undef,undef,undef,undef,undef] H) (by kernel_rfl) ?_
  exact TF82 k x0 x1 undef undef undef undef undef undef undef undef undef undef undef undef undef undef undef undef H

end Go.PG

namespace Go.PG
open Go.Proofs

noncomputable def C44l : Code := sub [.l] (bodyOf Tryz.f44)
noncomputable def C44r : Code := sub [.r] (bodyOf Tryz.f44)
noncomputable def C44rrrrrrlll : Code := sub [.r, .r, .r, .r, .r, .r, .l, .l, .l] (bodyOf Tryz.f44)
noncomputable def C44rrrrrrllr : Code := sub [.r, .r, .r, .r, .r, .r, .l, .l, .r] (bodyOf Tryz.f44)
noncomputable def C44rrrrrrllrrl : Code := sub [.r, .r, .r, .r, .r, .r, .l, .l, .r, .r, .l] (bodyOf Tryz.f44)
noncomputable def C44rrrrrrllrrr : Code := sub [.r, .r, .r, .r, .r, .r, .l, .l, .r, .r, .r] (bodyOf Tryz.f44)
noncomputable def C44rrrrrrllrrrrl : Code := sub [.r, .r, .r, .r, .r, .r, .l, .l, .r, .r, .r, .r, .l] (bodyOf Tryz.f44)
noncomputable def C44rrrrrrllrrrrr : Code := sub [.r, .r, .r, .r, .r, .r, .l, .l, .r, .r, .r, .r, .r] (bodyOf Tryz.f44)
noncomputable def C44rrrrrrr : Code := sub [.r, .r, .r, .r, .r, .r, .r] (bodyOf Tryz.f44)
noncomputable def C44rrrrrrrll : Code := sub [.r, .r, .r, .r, .r, .r, .r, .l, .l] (bodyOf Tryz.f44)
noncomputable def C44rrrrrrrlr : Code := sub [.r, .r, .r, .r, .r, .r, .r, .l, .r] (bodyOf Tryz.f44)
noncomputable def C44rrrrrrrr : Code := sub [.r, .r, .r, .r, .r, .r, .r, .r] (bodyOf Tryz.f44)
noncomputable def C44rrrrrrrrlrll : Code := sub [.r, .r, .r, .r, .r, .r, .r, .r, .l, .r, .l, .l] (bodyOf Tryz.f44)
noncomputable def C44rrrrrrrrlrllrllrll : Code := sub [.r, .r, .r, .r, .r, .r, .r, .r, .l, .r, .l, .l, .r, .l, .l, .r, .l, .l] (bodyOf Tryz.f44)
noncomputable def C44rrrrrrrrlrllrllrlr : Code := sub [.r, .r, .r, .r, .r, .r, .r, .r, .l, .r, .l, .l, .r, .l, .l, .r, .l, .r] (bodyOf Tryz.f44)
noncomputable def C44rrrrrrrrlrllrllrr : Code := sub [.r, .r, .r, .r, .r, .r, .r, .r, .l, .r, .l, .l, .r, .l, .l, .r, .r] (bodyOf Tryz.f44)
noncomputable def C44rrrrrrrrlrllrr : Code := sub [.r, .r, .r, .r, .r, .r, .r, .r, .l, .r, .l, .l, .r, .r] (bodyOf Tryz.f44)
noncomputable def C44rrrrrrrrr : Code := sub [.r, .r, .r, .r, .r, .r, .r, .r, .r] (bodyOf Tryz.f44)
noncomputable def C44rrrrrrrrrll : Code := sub [.r, .r, .r, .r, .r, .r, .r, .r, .r, .l, .l] (bodyOf Tryz.f44)
noncomputable def C44rrrrrrrrrlr : Code := sub [.r, .r, .r, .r, .r, .r, .r, .r, .r, .l, .r] (bodyOf Tryz.f44)
noncomputable def C44rrrrrrrrrr : Code := sub [.r, .r, .r, .r, .r, .r, .r, .r, .r, .r] (bodyOf Tryz.f44)
noncomputable def K44_0 (k : Nat) : Ex → Fr → Heap → Option (Value × Heap) := finK Tryz.prog Tryz.f44
noncomputable def K44_1 (k : Nat) : Ex → Fr → Heap → Option (Value × Heap) := seqC (denK Tryz.prog (run Tryz.prog k) k C44rrrrrrrrrr (K44_0 k)) (K44_0 k)
noncomputable def K44_2 (k : Nat) : Ex → Fr → Heap → Option (Value × Heap) := seqC (denK Tryz.prog (run Tryz.prog k) k C44rrrrrrrrrlr (K44_1 k)) (K44_1 k)
noncomputable def K44_3 (k : Nat) : Ex → Fr → Heap → Option (Value × Heap) := seqC (denK Tryz.prog (run Tryz.prog k) k C44rrrrrrrrr (K44_0 k)) (K44_0 k)
noncomputable def K44_4 (k : Nat) : Ex → Fr → Heap → Option (Value × Heap) := blkC 1 (K44_3 k)
noncomputable def K44_5 (k : Nat) (nrrrrrrrrlrl : Nat) : Ex → Fr → Heap → Option (Value × Heap) := seqC (iterK (denK Tryz.prog (run Tryz.prog k) k C44rrrrrrrrlrll) (K44_4 k) nrrrrrrrrlrl) (K44_4 k)
noncomputable def K44_6 (k : Nat) (nrrrrrrrrlrl : Nat) : Ex → Fr → Heap → Option (Value × Heap) := seqC (denK Tryz.prog (run Tryz.prog k) k C44rrrrrrrrlrllrr (K44_5 k nrrrrrrrrlrl)) (K44_5 k nrrrrrrrrlrl)
noncomputable def K44_7 (k : Nat) (nrrrrrrrrlrl : Nat) : Ex → Fr → Heap → Option (Value × Heap) := blkC 2 (K44_6 k nrrrrrrrrlrl)
noncomputable def K44_8 (k : Nat) (nrrrrrrrrlrl : Nat) : Ex → Fr → Heap → Option (Value × Heap) := seqC (denK Tryz.prog (run Tryz.prog k) k C44rrrrrrrrlrllrllrr (K44_7 k nrrrrrrrrlrl)) (K44_7 k nrrrrrrrrlrl)
noncomputable def K44_9 (k : Nat) (nrrrrrrrrlrl : Nat) : Ex → Fr → Heap → Option (Value × Heap) := seqC (denK Tryz.prog (run Tryz.prog k) k C44rrrrrrrrlrllrllrlr (K44_8 k nrrrrrrrrlrl)) (K44_8 k nrrrrrrrrlrl)
noncomputable def K44_10 (k : Nat) : Ex → Fr → Heap → Option (Value × Heap) := seqC (denK Tryz.prog (run Tryz.prog k) k C44rrrrrrrr (K44_0 k)) (K44_0 k)
noncomputable def K44_11 (k : Nat) : Ex → Fr → Heap → Option (Value × Heap) := seqC (denK Tryz.prog (run Tryz.prog k) k C44rrrrrrrlr (K44_10 k)) (K44_10 k)
noncomputable def K44_12 (k : Nat) : Ex → Fr → Heap → Option (Value × Heap) := seqC (denK Tryz.prog (run Tryz.prog k) k C44rrrrrrr (K44_0 k)) (K44_0 k)
noncomputable def K44_13 (k : Nat) : Ex → Fr → Heap → Option (Value × Heap) := blkC 0 (K44_12 k)
noncomputable def K44_14 (k : Nat) : Ex → Fr → Heap → Option (Value × Heap) := seqC (denK Tryz.prog (run Tryz.prog k) k C44rrrrrrllrrrrr (K44_13 k)) (K44_13 k)
noncomputable def K44_15 (k : Nat) : Ex → Fr → Heap → Option (Value × Heap) := seqC (denK Tryz.prog (run Tryz.prog k) k C44rrrrrrllrrr (K44_13 k)) (K44_13 k)
noncomputable def K44_16 (k : Nat) : Ex → Fr → Heap → Option (Value × Heap) := seqC (denK Tryz.prog (run Tryz.prog k) k C44rrrrrrllr (K44_13 k)) (K44_13 k)
noncomputable def K44_17 (k : Nat) : Ex → Fr → Heap → Option (Value × Heap) := seqC (denK Tryz.prog (run Tryz.prog k) k C44r (K44_0 k)) (K44_0 k)

noncomputable def J44_0 (k : Nat) (x5 x6 fD pD : Value) (H : Heap) : Option (Value × Heap) :=
  (pPick fD (.bool true) pD).bind fun y94 =>
  condV y94
  (
    some ((.tuple #[(.int .i64 0),(.int .i64 0)]), H))
  (
    some ((.tuple #[x6,x5]), H))
noncomputable def J44_1 (k : Nat) (x5 x6 fD iD oD : Value) (H : Heap) : Option (Value × Heap) :=
  condG fD false
  (
    (pPick iD oD (.bool false)).bind fun y93 =>
    J44_0 k x5 x6 fD y93 H)
  (
    J44_0 k x5 x6 fD undef H)
noncomputable def J44_2 (k : Nat) (x5 x6 fD iD lD nD : Value) (H : Heap) : Option (Value × Heap) :=
  condG iD true
  (
    (pPick lD (.bool true) nD).bind fun y92 =>
    J44_1 k x5 x6 fD iD y92 H)
  (
    J44_1 k x5 x6 fD iD undef H)
noncomputable def J44_3 (k : Nat) (x5 x6 fD iD lD : Value) (H : Heap) : Option (Value × Heap) :=
  condG lD false
  (
    (binI .gtr x6 (.int .i64 1114111)).bind fun y91 =>
    J44_2 k x5 x6 fD iD lD y91 H)
  (
    J44_2 k x5 x6 fD iD lD undef H)
noncomputable def J44_4 (k : Nat) (x5 x6 fD iD : Value) (H : Heap) : Option (Value × Heap) :=
  condG iD true
  (
    (binI .lss x6 (.int .i64 65536)).bind fun y88 =>
    J44_3 k x5 x6 fD iD y88 H)
  (
    J44_3 k x5 x6 fD iD undef H)
noncomputable def J44_5 (k : Nat) (x5 x6 tC dD : Value) (H : Heap) : Option (Value × Heap) :=
  (pPick tC dD (.bool false)).bind fun y82 =>
  condG y82 false
  (
    (binI .eql x5 (.int .i64 4)).bind fun y85 =>
    J44_4 k x5 x6 y82 y85 H)
  (
    J44_4 k x5 x6 y82 undef H)
noncomputable def J44_6 (k : Nat) (x5 x6 tC wC cD : Value) (H : Heap) : Option (Value × Heap) :=
  condG tC true
  (
    (pPick wC (.bool true) cD).bind fun y81 =>
    J44_5 k x5 x6 tC y81 H)
  (
    J44_5 k x5 x6 tC undef H)
noncomputable def J44_7 (k : Nat) (x5 x6 tC wC zC bD : Value) (H : Heap) : Option (Value × Heap) :=
  condG wC false
  (
    (pPick zC bD (.bool false)).bind fun y80 =>
    J44_6 k x5 x6 tC wC y80 H)
  (
    J44_6 k x5 x6 tC wC undef H)
noncomputable def J44_8 (k : Nat) (x5 x6 tC wC zC : Value) (H : Heap) : Option (Value × Heap) :=
  condG zC true
  (
    (binI .lss x6 (.int .i64 57344)).bind fun y79 =>
    J44_7 k x5 x6 tC wC zC y79 H)
  (
    J44_7 k x5 x6 tC wC zC undef H)
noncomputable def J44_9 (k : Nat) (x5 x6 tC wC : Value) (H : Heap) : Option (Value × Heap) :=
  condG wC false
  (
    (binI .geq x6 (.int .i64 55296)).bind fun y76 =>
    J44_8 k x5 x6 tC wC y76 H)
  (
    J44_8 k x5 x6 tC wC undef H)
noncomputable def J44_10 (k : Nat) (nxrrrrrrrrlrl : Value → Value → Value → Value → Heap → Option (Value × Heap)) (x0 x5 x6 x7 x8 iC kC : Value) (H : Heap) : Option (Value × Heap) :=
  (pPick iC (.bool true) kC).bind fun y63 =>
  condV y63
  (
    some ((.tuple #[(.int .i64 0),(.int .i64 0)]), H))
  (
    (binI .mul (.int .i64 64) x6).bind fun y65 =>
    (binI .add y65 x8).bind fun y67 =>
    (binI .sub y67 (.int .i64 128)).bind fun y68 =>
    (binI .add x7 (.int .i64 1)).bind fun y53 =>
    nxrrrrrrrrlrl x0 x5 y68 y53 H)
noncomputable def L44_11 (k : Nat) : Nat → Value → Value → Value → Value → Heap → Option (Value × Heap)
  | 0, _, _, _, _, _ => none
  | n + 1, x0, x5, x6, x7, H =>
    (binI .lss x7 x5).bind fun y51 =>
    condV y51
    (
      (idxStr x0 x7).bind fun y56 =>
      bindM (convI .i64 y56) H fun y57 H_1 =>
      (binI .lss y57 (.int .i64 128)).bind fun y59 =>
      condG y59 false
      (
        (binI .gtr y57 (.int .i64 191)).bind fun y62 =>
        J44_10 k (L44_11 k n) x0 x5 x6 x7 y57 y59 y62 H_1)
      (
        J44_10 k (L44_11 k n) x0 x5 x6 x7 y57 y59 undef H_1))
    (
      (binI .eql x5 (.int .i64 3)).bind fun y70 =>
      condG y70 true
      (
        (binI .lss x6 (.int .i64 2048)).bind fun y73 =>
        J44_9 k x5 x6 y70 y73 H)
      (
        J44_9 k x5 x6 y70 undef H))
noncomputable def J44_12 (k : Nat) (x0 x5 x6 : Value) (H : Heap) : Option (Value × Heap) :=
  bindM (lenSt x0) H fun y46 H_1 =>
  (binI .lss y46 x5).bind fun y48 =>
  condV y48
  (
    some ((.tuple #[(.int .i64 0),(.int .i64 0)]), H_1))
  (
    L44_11 k k x0 x5 x6 (.int .i64 1) H_1)
noncomputable def J44_13 (k : Nat) (x0 x4 nB pB : Value) (H : Heap) : Option (Value × Heap) :=
  (pPick nB pB (.bool false)).bind fun y42 =>
  condV y42
  (
    (binI .sub x4 (.int .i64 240)).bind fun y44 =>
    J44_12 k x0 (.int .i64 4) y44 H)
  (
    some ((.tuple #[(.int .i64 0),(.int .i64 0)]), H))
noncomputable def J44_14 (k : Nat) (x0 x4 eB gB : Value) (H : Heap) : Option (Value × Heap) :=
  (pPick eB gB (.bool false)).bind fun y33 =>
  condV y33
  (
    (binI .sub x4 (.int .i64 224)).bind fun y35 =>
    J44_12 k x0 (.int .i64 3) y35 H)
  (
    (binI .geq x4 (.int .i64 240)).bind fun y38 =>
    condG y38 true
    (
      (binI .lss x4 (.int .i64 245)).bind fun y41 =>
      J44_13 k x0 x4 y38 y41 H)
    (
      J44_13 k x0 x4 y38 undef H))
noncomputable def J44_15 (k : Nat) (x0 x4 vA xA : Value) (H : Heap) : Option (Value × Heap) :=
  (pPick vA xA (.bool false)).bind fun y24 =>
  condV y24
  (
    (binI .sub x4 (.int .i64 192)).bind fun y26 =>
    J44_12 k x0 (.int .i64 2) y26 H)
  (
    (binI .geq x4 (.int .i64 224)).bind fun y29 =>
    condG y29 true
    (
      (binI .lss x4 (.int .i64 240)).bind fun y32 =>
      J44_14 k x0 x4 y29 y32 H)
    (
      J44_14 k x0 x4 y29 undef H))
noncomputable def F44 (k : Nat) (x0 : Value) (H : Heap) : Option (Value × Heap) :=
  bindM (lenSt x0) H fun y10 H_1 =>
  (binI .eql y10 (.int .i64 0)).bind fun y11 =>
  condV y11
  (
    some ((.tuple #[(.int .i64 0),(.int .i64 0)]), H_1))
  (
    (idxStr x0 (.int .i64 0)).bind fun y13 =>
    bindM (convI .i64 y13) H_1 fun y14 H_2 =>
    (binI .lss y14 (.int .i64 128)).bind fun y16 =>
    condV y16
    (
      some ((.tuple #[y14,(.int .i64 1)]), H_2))
    (
      (binI .geq y14 (.int .i64 194)).bind fun y20 =>
      condG y20 true
      (
        (binI .lss y14 (.int .i64 224)).bind fun y23 =>
        J44_15 k x0 y14 y20 y23 H_2)
      (
        J44_15 k x0 y14 y20 undef H_2)))

theorem TJ44_0 (k : Nat) (x0 x1 x2 x3 x4 x5 x6 x7 x8 x9 kA lA mA nA oA pA qA rA sA tA uA vA wA xA yA zA aB bB cB dB eB fB gB hB iB jB kB lB mB nB oB pB qB rB sB tB uB vB wB xB yB zB aC bC cC dC eC fC gC hC iC jC kC lC mC nC oC pC qC rC sC tC uC vC wC xC yC zC aD bD cD dD eD fD gD hD iD jD kD lD mD nD oD pD qD rD sD : Value) (H : Heap) : grpK Tryz.prog (run Tryz.prog k) (ropsC C44rrrrrrrrrll) ((grps (ropsC C44rrrrrrrrrll).toList).drop 12) #[x0,x1,x2,x3,x4,x5,x6,x7,x8,x9,kA,lA,mA,nA,oA,pA,qA,rA,sA,tA,uA,vA,wA,xA,yA,zA,aB,bB,cB,dB,eB,fB,gB,hB,iB,jB,kB,lB,mB,nB,oB,pB,qB,rB,sB,tB,uB,vB,wB,xB,yB,zB,aC,bC,cC,dC,eC,fC,gC,hC,iC,jC,kC,lC,mC,nC,oC,pC,qC,rC,sC,tC,uC,vC,wC,xC,yC,zC,aD,bD,cD,dD,eD,fD,gD,hD,iD,jD,kD,lD,mD,nD,oD,pD,qD,rD,sD] H ((K44_2 k) .normal) = J44_0 k x5 x6 fD pD H := by
  kernel_rfl
theorem TJ44_1 (k : Nat) (x0 x1 x2 x3 x4 x5 x6 x7 x8 x9 kA lA mA nA oA pA qA rA sA tA uA vA wA xA yA zA aB bB cB dB eB fB gB hB iB jB kB lB mB nB oB pB qB rB sB tB uB vB wB xB yB zB aC bC cC dC eC fC gC hC iC jC kC lC mC nC oC pC qC rC sC tC uC vC wC xC yC zC aD bD cD dD eD fD gD hD iD jD kD lD mD nD oD pD qD rD sD : Value) (H : Heap) : grpK Tryz.prog (run Tryz.prog k) (ropsC C44rrrrrrrrrll) ((grps (ropsC C44rrrrrrrrrll).toList).drop 11) #[x0,x1,x2,x3,x4,x5,x6,x7,x8,x9,kA,lA,mA,nA,oA,pA,qA,rA,sA,tA,uA,vA,wA,xA,yA,zA,aB,bB,cB,dB,eB,fB,gB,hB,iB,jB,kB,lB,mB,nB,oB,pB,qB,rB,sB,tB,uB,vB,wB,xB,yB,zB,aC,bC,cC,dC,eC,fC,gC,hC,iC,jC,kC,lC,mC,nC,oC,pC,qC,rC,sC,tC,uC,vC,wC,xC,yC,zC,aD,bD,cD,dD,eD,fD,gD,hD,iD,jD,kD,lD,mD,nD,oD,pD,qD,rD,sD] H ((K44_2 k) .normal) = J44_1 k x5 x6 fD iD oD H := by
  refine Eq.trans (b :=
    condG fD false
    (
      (pPick iD oD (.bool false)).bind fun y93 =>
      grpK Tryz.prog (run Tryz.prog k) (ropsC C44rrrrrrrrrll) ((grps (ropsC C44rrrrrrrrrll).toList).drop 12) #[x0,x1,x2,x3,x4,x5,x6,x7,x8,x9,kA,lA,mA,nA,oA,pA,qA,rA,sA,tA,uA,vA,wA,xA,yA,zA,aB,bB,cB,dB,eB,fB,gB,hB,iB,jB,kB,lB,mB,nB,oB,pB,qB,rB,sB,tB,uB,vB,wB,xB,yB,zB,aC,bC,cC,dC,eC,fC,gC,hC,iC,jC,kC,lC,mC,nC,oC,pC,qC,rC,sC,tC,uC,vC,wC,xC,yC,zC,aD,bD,cD,dD,eD,fD,gD,hD,iD,jD,kD,lD,mD,nD,oD,y93,qD,rD,sD] H ((K44_2 k) .normal))
    (
      grpK Tryz.prog (run Tryz.prog k) (ropsC C44rrrrrrrrrll) ((grps (ropsC C44rrrrrrrrrll).toList).drop 12) #[x0,x1,x2,x3,x4,x5,x6,x7,x8,x9,kA,lA,mA,nA,oA,pA,qA,rA,sA,tA,uA,vA,wA,xA,yA,zA,aB,bB,cB,dB,eB,fB,gB,hB,iB,jB,kB,lB,mB,nB,oB,pB,qB,rB,sB,tB,uB,vB,wB,xB,yB,zB,aC,bC,cC,dC,eC,fC,gC,hC,iC,jC,kC,lC,mC,nC,oC,pC,qC,rC,sC,tC,uC,vC,wC,xC,yC,zC,aD,bD,cD,dD,eD,fD,gD,hD,iD,jD,kD,lD,mD,nD,oD,undef,qD,rD,sD] H ((K44_2 k) .normal))) (by kernel_rfl) ?_
  simp only [TJ44_0 k]
  rfl
theorem TJ44_2 (k : Nat) (x0 x1 x2 x3 x4 x5 x6 x7 x8 x9 kA lA mA nA oA pA qA rA sA tA uA vA wA xA yA zA aB bB cB dB eB fB gB hB iB jB kB lB mB nB oB pB qB rB sB tB uB vB wB xB yB zB aC bC cC dC eC fC gC hC iC jC kC lC mC nC oC pC qC rC sC tC uC vC wC xC yC zC aD bD cD dD eD fD gD hD iD jD kD lD mD nD oD pD qD rD sD : Value) (H : Heap) : grpK Tryz.prog (run Tryz.prog k) (ropsC C44rrrrrrrrrll) ((grps (ropsC C44rrrrrrrrrll).toList).drop 10) #[x0,x1,x2,x3,x4,x5,x6,x7,x8,x9,kA,lA,mA,nA,oA,pA,qA,rA,sA,tA,uA,vA,wA,xA,yA,zA,aB,bB,cB,dB,eB,fB,gB,hB,iB,jB,kB,lB,mB,nB,oB,pB,qB,rB,sB,tB,uB,vB,wB,xB,yB,zB,aC,bC,cC,dC,eC,fC,gC,hC,iC,jC,kC,lC,mC,nC,oC,pC,qC,rC,sC,tC,uC,vC,wC,xC,yC,zC,aD,bD,cD,dD,eD,fD,gD,hD,iD,jD,kD,lD,mD,nD,oD,pD,qD,rD,sD] H ((K44_2 k) .normal) = J44_2 k x5 x6 fD iD lD nD H := by
  refine Eq.trans (b :=
    condG iD true
    (
      (pPick lD (.bool true) nD).bind fun y92 =>
      grpK Tryz.prog (run Tryz.prog k) (ropsC C44rrrrrrrrrll) ((grps (ropsC C44rrrrrrrrrll).toList).drop 11) #[x0,x1,x2,x3,x4,x5,x6,x7,x8,x9,kA,lA,mA,nA,oA,pA,qA,rA,sA,tA,uA,vA,wA,xA,yA,zA,aB,bB,cB,dB,eB,fB,gB,hB,iB,jB,kB,lB,mB,nB,oB,pB,qB,rB,sB,tB,uB,vB,wB,xB,yB,zB,aC,bC,cC,dC,eC,fC,gC,hC,iC,jC,kC,lC,mC,nC,oC,pC,qC,rC,sC,tC,uC,vC,wC,xC,yC,zC,aD,bD,cD,dD,eD,fD,gD,hD,iD,jD,kD,lD,mD,nD,y92,pD,qD,rD,sD] H ((K44_2 k) .normal))
    (
      grpK Tryz.prog (run Tryz.prog k) (ropsC C44rrrrrrrrrll) ((grps (ropsC C44rrrrrrrrrll).toList).drop 11) #[x0,x1,x2,x3,x4,x5,x6,x7,x8,x9,kA,lA,mA,nA,oA,pA,qA,rA,sA,tA,uA,vA,wA,xA,yA,zA,aB,bB,cB,dB,eB,fB,gB,hB,iB,jB,kB,lB,mB,nB,oB,pB,qB,rB,sB,tB,uB,vB,wB,xB,yB,zB,aC,bC,cC,dC,eC,fC,gC,hC,iC,jC,kC,lC,mC,nC,oC,pC,qC,rC,sC,tC,uC,vC,wC,xC,yC,zC,aD,bD,cD,dD,eD,fD,gD,hD,iD,jD,kD,lD,mD,nD,undef,pD,qD,rD,sD] H ((K44_2 k) .normal))) (by kernel_rfl) ?_
  simp only [TJ44_1 k]
  rfl
theorem TJ44_3 (k : Nat) (x0 x1 x2 x3 x4 x5 x6 x7 x8 x9 kA lA mA nA oA pA qA rA sA tA uA vA wA xA yA zA aB bB cB dB eB fB gB hB iB jB kB lB mB nB oB pB qB rB sB tB uB vB wB xB yB zB aC bC cC dC eC fC gC hC iC jC kC lC mC nC oC pC qC rC sC tC uC vC wC xC yC zC aD bD cD dD eD fD gD hD iD jD kD lD mD nD oD pD qD rD sD : Value) (H : Heap) : grpK Tryz.prog (run Tryz.prog k) (ropsC C44rrrrrrrrrll) ((grps (ropsC C44rrrrrrrrrll).toList).drop 9) #[x0,x1,x2,x3,x4,x5,x6,x7,x8,x9,kA,lA,mA,nA,oA,pA,qA,rA,sA,tA,uA,vA,wA,xA,yA,zA,aB,bB,cB,dB,eB,fB,gB,hB,iB,jB,kB,lB,mB,nB,oB,pB,qB,rB,sB,tB,uB,vB,wB,xB,yB,zB,aC,bC,cC,dC,eC,fC,gC,hC,iC,jC,kC,lC,mC,nC,oC,pC,qC,rC,sC,tC,uC,vC,wC,xC,yC,zC,aD,bD,cD,dD,eD,fD,gD,hD,iD,jD,kD,lD,mD,nD,oD,pD,qD,rD,sD] H ((K44_2 k) .normal) = J44_3 k x5 x6 fD iD lD H := by
  refine Eq.trans (b :=
    condG lD false
    (
      (binI .gtr x6 (.int .i64 1114111)).bind fun y91 =>
      grpK Tryz.prog (run Tryz.prog k) (ropsC C44rrrrrrrrrll) ((grps (ropsC C44rrrrrrrrrll).toList).drop 10) #[x0,x1,x2,x3,x4,x5,x6,x7,x8,x9,kA,lA,mA,nA,oA,pA,qA,rA,sA,tA,uA,vA,wA,xA,yA,zA,aB,bB,cB,dB,eB,fB,gB,hB,iB,jB,kB,lB,mB,nB,oB,pB,qB,rB,sB,tB,uB,vB,wB,xB,yB,zB,aC,bC,cC,dC,eC,fC,gC,hC,iC,jC,kC,lC,mC,nC,oC,pC,qC,rC,sC,tC,uC,vC,wC,xC,yC,zC,aD,bD,cD,dD,eD,fD,gD,hD,iD,jD,kD,lD,x6,y91,oD,pD,qD,rD,sD] H ((K44_2 k) .normal))
    (
      grpK Tryz.prog (run Tryz.prog k) (ropsC C44rrrrrrrrrll) ((grps (ropsC C44rrrrrrrrrll).toList).drop 10) #[x0,x1,x2,x3,x4,x5,x6,x7,x8,x9,kA,lA,mA,nA,oA,pA,qA,rA,sA,tA,uA,vA,wA,xA,yA,zA,aB,bB,cB,dB,eB,fB,gB,hB,iB,jB,kB,lB,mB,nB,oB,pB,qB,rB,sB,tB,uB,vB,wB,xB,yB,zB,aC,bC,cC,dC,eC,fC,gC,hC,iC,jC,kC,lC,mC,nC,oC,pC,qC,rC,sC,tC,uC,vC,wC,xC,yC,zC,aD,bD,cD,dD,eD,fD,gD,hD,iD,jD,kD,lD,undef,undef,oD,pD,qD,rD,sD] H ((K44_2 k) .normal))) (by kernel_rfl) ?_
  simp only [TJ44_2 k]
  rfl
theorem TJ44_4 (k : Nat) (x0 x1 x2 x3 x4 x5 x6 x7 x8 x9 kA lA mA nA oA pA qA rA sA tA uA vA wA xA yA zA aB bB cB dB eB fB gB hB iB jB kB lB mB nB oB pB qB rB sB tB uB vB wB xB yB zB aC bC cC dC eC fC gC hC iC jC kC lC mC nC oC pC qC rC sC tC uC vC wC xC yC zC aD bD cD dD eD fD gD hD iD jD kD lD mD nD oD pD qD rD sD : Value) (H : Heap) : grpK Tryz.prog (run Tryz.prog k) (ropsC C44rrrrrrrrrll) ((grps (ropsC C44rrrrrrrrrll).toList).drop 8) #[x0,x1,x2,x3,x4,x5,x6,x7,x8,x9,kA,lA,mA,nA,oA,pA,qA,rA,sA,tA,uA,vA,wA,xA,yA,zA,aB,bB,cB,dB,eB,fB,gB,hB,iB,jB,kB,lB,mB,nB,oB,pB,qB,rB,sB,tB,uB,vB,wB,xB,yB,zB,aC,bC,cC,dC,eC,fC,gC,hC,iC,jC,kC,lC,mC,nC,oC,pC,qC,rC,sC,tC,uC,vC,wC,xC,yC,zC,aD,bD,cD,dD,eD,fD,gD,hD,iD,jD,kD,lD,mD,nD,oD,pD,qD,rD,sD] H ((K44_2 k) .normal) = J44_4 k x5 x6 fD iD H := by
  refine Eq.trans (b :=
    condG iD true
    (
      (binI .lss x6 (.int .i64 65536)).bind fun y88 =>
      grpK Tryz.prog (run Tryz.prog k) (ropsC C44rrrrrrrrrll) ((grps (ropsC C44rrrrrrrrrll).toList).drop 9) #[x0,x1,x2,x3,x4,x5,x6,x7,x8,x9,kA,lA,mA,nA,oA,pA,qA,rA,sA,tA,uA,vA,wA,xA,yA,zA,aB,bB,cB,dB,eB,fB,gB,hB,iB,jB,kB,lB,mB,nB,oB,pB,qB,rB,sB,tB,uB,vB,wB,xB,yB,zB,aC,bC,cC,dC,eC,fC,gC,hC,iC,jC,kC,lC,mC,nC,oC,pC,qC,rC,sC,tC,uC,vC,wC,xC,yC,zC,aD,bD,cD,dD,eD,fD,gD,hD,iD,x6,y88,y88,mD,nD,oD,pD,qD,rD,sD] H ((K44_2 k) .normal))
    (
      grpK Tryz.prog (run Tryz.prog k) (ropsC C44rrrrrrrrrll) ((grps (ropsC C44rrrrrrrrrll).toList).drop 9) #[x0,x1,x2,x3,x4,x5,x6,x7,x8,x9,kA,lA,mA,nA,oA,pA,qA,rA,sA,tA,uA,vA,wA,xA,yA,zA,aB,bB,cB,dB,eB,fB,gB,hB,iB,jB,kB,lB,mB,nB,oB,pB,qB,rB,sB,tB,uB,vB,wB,xB,yB,zB,aC,bC,cC,dC,eC,fC,gC,hC,iC,jC,kC,lC,mC,nC,oC,pC,qC,rC,sC,tC,uC,vC,wC,xC,yC,zC,aD,bD,cD,dD,eD,fD,gD,hD,iD,undef,undef,undef,mD,nD,oD,pD,qD,rD,sD] H ((K44_2 k) .normal))) (by kernel_rfl) ?_
  simp only [TJ44_3 k]
  rfl
theorem TJ44_5 (k : Nat) (x0 x1 x2 x3 x4 x5 x6 x7 x8 x9 kA lA mA nA oA pA qA rA sA tA uA vA wA xA yA zA aB bB cB dB eB fB gB hB iB jB kB lB mB nB oB pB qB rB sB tB uB vB wB xB yB zB aC bC cC dC eC fC gC hC iC jC kC lC mC nC oC pC qC rC sC tC uC vC wC xC yC zC aD bD cD dD eD fD gD hD iD jD kD lD mD nD oD pD qD rD sD : Value) (H : Heap) : grpK Tryz.prog (run Tryz.prog k) (ropsC C44rrrrrrrrrll) ((grps (ropsC C44rrrrrrrrrll).toList).drop 6) #[x0,x1,x2,x3,x4,x5,x6,x7,x8,x9,kA,lA,mA,nA,oA,pA,qA,rA,sA,tA,uA,vA,wA,xA,yA,zA,aB,bB,cB,dB,eB,fB,gB,hB,iB,jB,kB,lB,mB,nB,oB,pB,qB,rB,sB,tB,uB,vB,wB,xB,yB,zB,aC,bC,cC,dC,eC,fC,gC,hC,iC,jC,kC,lC,mC,nC,oC,pC,qC,rC,sC,tC,uC,vC,wC,xC,yC,zC,aD,bD,cD,dD,eD,fD,gD,hD,iD,jD,kD,lD,mD,nD,oD,pD,qD,rD,sD] H ((K44_2 k) .normal) = J44_5 k x5 x6 tC dD H := by
  refine Eq.trans (b :=
    (pPick tC dD (.bool false)).bind fun y82 =>
    condG y82 false
    (
      (binI .eql x5 (.int .i64 4)).bind fun y85 =>
      grpK Tryz.prog (run Tryz.prog k) (ropsC C44rrrrrrrrrll) ((grps (ropsC C44rrrrrrrrrll).toList).drop 8) #[x0,x1,x2,x3,x4,x5,x6,x7,x8,x9,kA,lA,mA,nA,oA,pA,qA,rA,sA,tA,uA,vA,wA,xA,yA,zA,aB,bB,cB,dB,eB,fB,gB,hB,iB,jB,kB,lB,mB,nB,oB,pB,qB,rB,sB,tB,uB,vB,wB,xB,yB,zB,aC,bC,cC,dC,eC,fC,gC,hC,iC,jC,kC,lC,mC,nC,oC,pC,qC,rC,sC,tC,uC,vC,wC,xC,yC,zC,aD,bD,cD,dD,y82,y82,x5,y85,y85,jD,kD,lD,mD,nD,oD,pD,qD,rD,sD] H ((K44_2 k) .normal))
    (
      grpK Tryz.prog (run Tryz.prog k) (ropsC C44rrrrrrrrrll) ((grps (ropsC C44rrrrrrrrrll).toList).drop 8) #[x0,x1,x2,x3,x4,x5,x6,x7,x8,x9,kA,lA,mA,nA,oA,pA,qA,rA,sA,tA,uA,vA,wA,xA,yA,zA,aB,bB,cB,dB,eB,fB,gB,hB,iB,jB,kB,lB,mB,nB,oB,pB,qB,rB,sB,tB,uB,vB,wB,xB,yB,zB,aC,bC,cC,dC,eC,fC,gC,hC,iC,jC,kC,lC,mC,nC,oC,pC,qC,rC,sC,tC,uC,vC,wC,xC,yC,zC,aD,bD,cD,dD,y82,y82,undef,undef,undef,jD,kD,lD,mD,nD,oD,pD,qD,rD,sD] H ((K44_2 k) .normal))) (by kernel_rfl) ?_
  simp only [TJ44_4 k]
  rfl
theorem TJ44_6 (k : Nat) (x0 x1 x2 x3 x4 x5 x6 x7 x8 x9 kA lA mA nA oA pA qA rA sA tA uA vA wA xA yA zA aB bB cB dB eB fB gB hB iB jB kB lB mB nB oB pB qB rB sB tB uB vB wB xB yB zB aC bC cC dC eC fC gC hC iC jC kC lC mC nC oC pC qC rC sC tC uC vC wC xC yC zC aD bD cD dD eD fD gD hD iD jD kD lD mD nD oD pD qD rD sD : Value) (H : Heap) : grpK Tryz.prog (run Tryz.prog k) (ropsC C44rrrrrrrrrll) ((grps (ropsC C44rrrrrrrrrll).toList).drop 5) #[x0,x1,x2,x3,x4,x5,x6,x7,x8,x9,kA,lA,mA,nA,oA,pA,qA,rA,sA,tA,uA,vA,wA,xA,yA,zA,aB,bB,cB,dB,eB,fB,gB,hB,iB,jB,kB,lB,mB,nB,oB,pB,qB,rB,sB,tB,uB,vB,wB,xB,yB,zB,aC,bC,cC,dC,eC,fC,gC,hC,iC,jC,kC,lC,mC,nC,oC,pC,qC,rC,sC,tC,uC,vC,wC,xC,yC,zC,aD,bD,cD,dD,eD,fD,gD,hD,iD,jD,kD,lD,mD,nD,oD,pD,qD,rD,sD] H ((K44_2 k) .normal) = J44_6 k x5 x6 tC wC cD H := by
  refine Eq.trans (b :=
    condG tC true
    (
      (pPick wC (.bool true) cD).bind fun y81 =>
      grpK Tryz.prog (run Tryz.prog k) (ropsC C44rrrrrrrrrll) ((grps (ropsC C44rrrrrrrrrll).toList).drop 6) #[x0,x1,x2,x3,x4,x5,x6,x7,x8,x9,kA,lA,mA,nA,oA,pA,qA,rA,sA,tA,uA,vA,wA,xA,yA,zA,aB,bB,cB,dB,eB,fB,gB,hB,iB,jB,kB,lB,mB,nB,oB,pB,qB,rB,sB,tB,uB,vB,wB,xB,yB,zB,aC,bC,cC,dC,eC,fC,gC,hC,iC,jC,kC,lC,mC,nC,oC,pC,qC,rC,sC,tC,uC,vC,wC,xC,yC,zC,aD,bD,cD,y81,eD,fD,gD,hD,iD,jD,kD,lD,mD,nD,oD,pD,qD,rD,sD] H ((K44_2 k) .normal))
    (
      grpK Tryz.prog (run Tryz.prog k) (ropsC C44rrrrrrrrrll) ((grps (ropsC C44rrrrrrrrrll).toList).drop 6) #[x0,x1,x2,x3,x4,x5,x6,x7,x8,x9,kA,lA,mA,nA,oA,pA,qA,rA,sA,tA,uA,vA,wA,xA,yA,zA,aB,bB,cB,dB,eB,fB,gB,hB,iB,jB,kB,lB,mB,nB,oB,pB,qB,rB,sB,tB,uB,vB,wB,xB,yB,zB,aC,bC,cC,dC,eC,fC,gC,hC,iC,jC,kC,lC,mC,nC,oC,pC,qC,rC,sC,tC,uC,vC,wC,xC,yC,zC,aD,bD,cD,undef,eD,fD,gD,hD,iD,jD,kD,lD,mD,nD,oD,pD,qD,rD,sD] H ((K44_2 k) .normal))) (by kernel_rfl) ?_
  simp only [TJ44_5 k]
  rfl
theorem TJ44_7 (k : Nat) (x0 x1 x2 x3 x4 x5 x6 x7 x8 x9 kA lA mA nA oA pA qA rA sA tA uA vA wA xA yA zA aB bB cB dB eB fB gB hB iB jB kB lB mB nB oB pB qB rB sB tB uB vB wB xB yB zB aC bC cC dC eC fC gC hC iC jC kC lC mC nC oC pC qC rC sC tC uC vC wC xC yC zC aD bD cD dD eD fD gD hD iD jD kD lD mD nD oD pD qD rD sD : Value) (H : Heap) : grpK Tryz.prog (run Tryz.prog k) (ropsC C44rrrrrrrrrll) ((grps (ropsC C44rrrrrrrrrll).toList).drop 4) #[x0,x1,x2,x3,x4,x5,x6,x7,x8,x9,kA,lA,mA,nA,oA,pA,qA,rA,sA,tA,uA,vA,wA,xA,yA,zA,aB,bB,cB,dB,eB,fB,gB,hB,iB,jB,kB,lB,mB,nB,oB,pB,qB,rB,sB,tB,uB,vB,wB,xB,yB,zB,aC,bC,cC,dC,eC,fC,gC,hC,iC,jC,kC,lC,mC,nC,oC,pC,qC,rC,sC,tC,uC,vC,wC,xC,yC,zC,aD,bD,cD,dD,eD,fD,gD,hD,iD,jD,kD,lD,mD,nD,oD,pD,qD,rD,sD] H ((K44_2 k) .normal) = J44_7 k x5 x6 tC wC zC bD H := by
  refine Eq.trans (b :=
    condG wC false
    (
      (pPick zC bD (.bool false)).bind fun y80 =>
      grpK Tryz.prog (run Tryz.prog k) (ropsC C44rrrrrrrrrll) ((grps (ropsC C44rrrrrrrrrll).toList).drop 5) #[x0,x1,x2,x3,x4,x5,x6,x7,x8,x9,kA,lA,mA,nA,oA,pA,qA,rA,sA,tA,uA,vA,wA,xA,yA,zA,aB,bB,cB,dB,eB,fB,gB,hB,iB,jB,kB,lB,mB,nB,oB,pB,qB,rB,sB,tB,uB,vB,wB,xB,yB,zB,aC,bC,cC,dC,eC,fC,gC,hC,iC,jC,kC,lC,mC,nC,oC,pC,qC,rC,sC,tC,uC,vC,wC,xC,yC,zC,aD,bD,y80,dD,eD,fD,gD,hD,iD,jD,kD,lD,mD,nD,oD,pD,qD,rD,sD] H ((K44_2 k) .normal))
    (
      grpK Tryz.prog (run Tryz.prog k) (ropsC C44rrrrrrrrrll) ((grps (ropsC C44rrrrrrrrrll).toList).drop 5) #[x0,x1,x2,x3,x4,x5,x6,x7,x8,x9,kA,lA,mA,nA,oA,pA,qA,rA,sA,tA,uA,vA,wA,xA,yA,zA,aB,bB,cB,dB,eB,fB,gB,hB,iB,jB,kB,lB,mB,nB,oB,pB,qB,rB,sB,tB,uB,vB,wB,xB,yB,zB,aC,bC,cC,dC,eC,fC,gC,hC,iC,jC,kC,lC,mC,nC,oC,pC,qC,rC,sC,tC,uC,vC,wC,xC,yC,zC,aD,bD,undef,dD,eD,fD,gD,hD,iD,jD,kD,lD,mD,nD,oD,pD,qD,rD,sD] H ((K44_2 k) .normal))) (by kernel_rfl) ?_
  simp only [TJ44_6 k]
  rfl
theorem TJ44_8 (k : Nat) (x0 x1 x2 x3 x4 x5 x6 x7 x8 x9 kA lA mA nA oA pA qA rA sA tA uA vA wA xA yA zA aB bB cB dB eB fB gB hB iB jB kB lB mB nB oB pB qB rB sB tB uB vB wB xB yB zB aC bC cC dC eC fC gC hC iC jC kC lC mC nC oC pC qC rC sC tC uC vC wC xC yC zC aD bD cD dD eD fD gD hD iD jD kD lD mD nD oD pD qD rD sD : Value) (H : Heap) : grpK Tryz.prog (run Tryz.prog k) (ropsC C44rrrrrrrrrll) ((grps (ropsC C44rrrrrrrrrll).toList).drop 3) #[x0,x1,x2,x3,x4,x5,x6,x7,x8,x9,kA,lA,mA,nA,oA,pA,qA,rA,sA,tA,uA,vA,wA,xA,yA,zA,aB,bB,cB,dB,eB,fB,gB,hB,iB,jB,kB,lB,mB,nB,oB,pB,qB,rB,sB,tB,uB,vB,wB,xB,yB,zB,aC,bC,cC,dC,eC,fC,gC,hC,iC,jC,kC,lC,mC,nC,oC,pC,qC,rC,sC,tC,uC,vC,wC,xC,yC,zC,aD,bD,cD,dD,eD,fD,gD,hD,iD,jD,kD,lD,mD,nD,oD,pD,qD,rD,sD] H ((K44_2 k) .normal) = J44_8 k x5 x6 tC wC zC H := by
  refine Eq.trans (b :=
    condG zC true
    (
      (binI .lss x6 (.int .i64 57344)).bind fun y79 =>
      grpK Tryz.prog (run Tryz.prog k) (ropsC C44rrrrrrrrrll) ((grps (ropsC C44rrrrrrrrrll).toList).drop 4) #[x0,x1,x2,x3,x4,x5,x6,x7,x8,x9,kA,lA,mA,nA,oA,pA,qA,rA,sA,tA,uA,vA,wA,xA,yA,zA,aB,bB,cB,dB,eB,fB,gB,hB,iB,jB,kB,lB,mB,nB,oB,pB,qB,rB,sB,tB,uB,vB,wB,xB,yB,zB,aC,bC,cC,dC,eC,fC,gC,hC,iC,jC,kC,lC,mC,nC,oC,pC,qC,rC,sC,tC,uC,vC,wC,xC,yC,zC,x6,y79,cD,dD,eD,fD,gD,hD,iD,jD,kD,lD,mD,nD,oD,pD,qD,rD,sD] H ((K44_2 k) .normal))
    (
      grpK Tryz.prog (run Tryz.prog k) (ropsC C44rrrrrrrrrll) ((grps (ropsC C44rrrrrrrrrll).toList).drop 4) #[x0,x1,x2,x3,x4,x5,x6,x7,x8,x9,kA,lA,mA,nA,oA,pA,qA,rA,sA,tA,uA,vA,wA,xA,yA,zA,aB,bB,cB,dB,eB,fB,gB,hB,iB,jB,kB,lB,mB,nB,oB,pB,qB,rB,sB,tB,uB,vB,wB,xB,yB,zB,aC,bC,cC,dC,eC,fC,gC,hC,iC,jC,kC,lC,mC,nC,oC,pC,qC,rC,sC,tC,uC,vC,wC,xC,yC,zC,undef,undef,cD,dD,eD,fD,gD,hD,iD,jD,kD,lD,mD,nD,oD,pD,qD,rD,sD] H ((K44_2 k) .normal))) (by kernel_rfl) ?_
  simp only [TJ44_7 k]
  rfl
theorem TJ44_9 (k : Nat) (x0 x1 x2 x3 x4 x5 x6 x7 x8 x9 kA lA mA nA oA pA qA rA sA tA uA vA wA xA yA zA aB bB cB dB eB fB gB hB iB jB kB lB mB nB oB pB qB rB sB tB uB vB wB xB yB zB aC bC cC dC eC fC gC hC iC jC kC lC mC nC oC pC qC rC sC tC uC vC wC xC yC zC aD bD cD dD eD fD gD hD iD jD kD lD mD nD oD pD qD rD sD : Value) (H : Heap) : grpK Tryz.prog (run Tryz.prog k) (ropsC C44rrrrrrrrrll) ((grps (ropsC C44rrrrrrrrrll).toList).drop 2) #[x0,x1,x2,x3,x4,x5,x6,x7,x8,x9,kA,lA,mA,nA,oA,pA,qA,rA,sA,tA,uA,vA,wA,xA,yA,zA,aB,bB,cB,dB,eB,fB,gB,hB,iB,jB,kB,lB,mB,nB,oB,pB,qB,rB,sB,tB,uB,vB,wB,xB,yB,zB,aC,bC,cC,dC,eC,fC,gC,hC,iC,jC,kC,lC,mC,nC,oC,pC,qC,rC,sC,tC,uC,vC,wC,xC,yC,zC,aD,bD,cD,dD,eD,fD,gD,hD,iD,jD,kD,lD,mD,nD,oD,pD,qD,rD,sD] H ((K44_2 k) .normal) = J44_9 k x5 x6 tC wC H := by
  refine Eq.trans (b :=
    condG wC false
    (
      (binI .geq x6 (.int .i64 55296)).bind fun y76 =>
      grpK Tryz.prog (run Tryz.prog k) (ropsC C44rrrrrrrrrll) ((grps (ropsC C44rrrrrrrrrll).toList).drop 3) #[x0,x1,x2,x3,x4,x5,x6,x7,x8,x9,kA,lA,mA,nA,oA,pA,qA,rA,sA,tA,uA,vA,wA,xA,yA,zA,aB,bB,cB,dB,eB,fB,gB,hB,iB,jB,kB,lB,mB,nB,oB,pB,qB,rB,sB,tB,uB,vB,wB,xB,yB,zB,aC,bC,cC,dC,eC,fC,gC,hC,iC,jC,kC,lC,mC,nC,oC,pC,qC,rC,sC,tC,uC,vC,wC,x6,y76,y76,aD,bD,cD,dD,eD,fD,gD,hD,iD,jD,kD,lD,mD,nD,oD,pD,qD,rD,sD] H ((K44_2 k) .normal))
    (
      grpK Tryz.prog (run Tryz.prog k) (ropsC C44rrrrrrrrrll) ((grps (ropsC C44rrrrrrrrrll).toList).drop 3) #[x0,x1,x2,x3,x4,x5,x6,x7,x8,x9,kA,lA,mA,nA,oA,pA,qA,rA,sA,tA,uA,vA,wA,xA,yA,zA,aB,bB,cB,dB,eB,fB,gB,hB,iB,jB,kB,lB,mB,nB,oB,pB,qB,rB,sB,tB,uB,vB,wB,xB,yB,zB,aC,bC,cC,dC,eC,fC,gC,hC,iC,jC,kC,lC,mC,nC,oC,pC,qC,rC,sC,tC,uC,vC,wC,undef,undef,undef,aD,bD,cD,dD,eD,fD,gD,hD,iD,jD,kD,lD,mD,nD,oD,pD,qD,rD,sD] H ((K44_2 k) .normal))) (by kernel_rfl) ?_
  simp only [TJ44_8 k]
  rfl
theorem TJ44_10 (k : Nat) (nrrrrrrrrlrl : Nat) (nxrrrrrrrrlrl : Value → Value → Value → Value → Heap → Option (Value × Heap)) (hrrrrrrrrlrl : ∀ (x0 x1 x2 x3 x4 x5 x6 x7 x8 x9 kA lA mA nA oA pA qA rA sA tA uA vA wA xA yA zA aB bB cB dB eB fB gB hB iB jB kB lB mB nB oB pB qB rB sB tB uB vB wB xB yB zB aC bC cC dC eC fC gC hC iC jC kC lC mC nC oC pC qC rC sC tC uC vC wC xC yC zC aD bD cD dD eD fD gD hD iD jD kD lD mD nD oD pD qD rD sD : Value) (H : Heap), iterK (denK Tryz.prog (run Tryz.prog k) k C44rrrrrrrrlrll) (K44_4 k) nrrrrrrrrlrl #[x0,x1,x2,x3,x4,x5,x6,x7,x8,x9,kA,lA,mA,nA,oA,pA,qA,rA,sA,tA,uA,vA,wA,xA,yA,zA,aB,bB,cB,dB,eB,fB,gB,hB,iB,jB,kB,lB,mB,nB,oB,pB,qB,rB,sB,tB,uB,vB,wB,xB,yB,zB,aC,bC,cC,dC,eC,fC,gC,hC,iC,jC,kC,lC,mC,nC,oC,pC,qC,rC,sC,tC,uC,vC,wC,xC,yC,zC,aD,bD,cD,dD,eD,fD,gD,hD,iD,jD,kD,lD,mD,nD,oD,pD,qD,rD,sD] H = nxrrrrrrrrlrl x0 x5 x6 x7 H) (x0 x1 x2 x3 x4 x5 x6 x7 x8 x9 kA lA mA nA oA pA qA rA sA tA uA vA wA xA yA zA aB bB cB dB eB fB gB hB iB jB kB lB mB nB oB pB qB rB sB tB uB vB wB xB yB zB aC bC cC dC eC fC gC hC iC jC kC lC mC nC oC pC qC rC sC tC uC vC wC xC yC zC aD bD cD dD eD fD gD hD iD jD kD lD mD nD oD pD qD rD sD : Value) (H : Heap) : grpK Tryz.prog (run Tryz.prog k) (ropsC C44rrrrrrrrlrllrllrll) ((grps (ropsC C44rrrrrrrrlrllrllrll).toList).drop 2) #[x0,x1,x2,x3,x4,x5,x6,x7,x8,x9,kA,lA,mA,nA,oA,pA,qA,rA,sA,tA,uA,vA,wA,xA,yA,zA,aB,bB,cB,dB,eB,fB,gB,hB,iB,jB,kB,lB,mB,nB,oB,pB,qB,rB,sB,tB,uB,vB,wB,xB,yB,zB,aC,bC,cC,dC,eC,fC,gC,hC,iC,jC,kC,lC,mC,nC,oC,pC,qC,rC,sC,tC,uC,vC,wC,xC,yC,zC,aD,bD,cD,dD,eD,fD,gD,hD,iD,jD,kD,lD,mD,nD,oD,pD,qD,rD,sD] H ((K44_9 k nrrrrrrrrlrl) .normal) = J44_10 k nxrrrrrrrrlrl x0 x5 x6 x7 x8 iC kC H := by
  refine Eq.trans (b :=
    (pPick iC (.bool true) kC).bind fun y63 =>
    condV y63
    (
      some ((.tuple #[(.int .i64 0),(.int .i64 0)]), H))
    (
      (binI .mul (.int .i64 64) x6).bind fun y65 =>
      (binI .add y65 x8).bind fun y67 =>
      (binI .sub y67 (.int .i64 128)).bind fun y68 =>
      (binI .add x7 (.int .i64 1)).bind fun y53 =>
      iterK (denK Tryz.prog (run Tryz.prog k) k C44rrrrrrrrlrll) (K44_4 k) nrrrrrrrrlrl #[x0,x1,x2,x3,x4,x5,y68,y53,x8,x9,kA,lA,mA,nA,oA,pA,qA,rA,sA,tA,uA,vA,wA,xA,yA,zA,aB,bB,cB,dB,eB,fB,gB,hB,iB,jB,kB,lB,mB,nB,oB,pB,qB,rB,sB,tB,uB,vB,wB,xB,yB,zB,x7,y53,cC,dC,eC,fC,gC,hC,iC,jC,kC,y63,x6,y65,x8,y67,y68,rC,sC,tC,uC,vC,wC,xC,yC,zC,aD,bD,cD,dD,eD,fD,gD,hD,iD,jD,kD,lD,mD,nD,oD,pD,qD,rD,sD] H)) (by kernel_rfl) ?_
  simp only [hrrrrrrrrlrl]
  rfl
theorem TL44_11 (k : Nat) : ∀ (n : Nat) (x0 x1 x2 x3 x4 x5 x6 x7 x8 x9 kA lA mA nA oA pA qA rA sA tA uA vA wA xA yA zA aB bB cB dB eB fB gB hB iB jB kB lB mB nB oB pB qB rB sB tB uB vB wB xB yB zB aC bC cC dC eC fC gC hC iC jC kC lC mC nC oC pC qC rC sC tC uC vC wC xC yC zC aD bD cD dD eD fD gD hD iD jD kD lD mD nD oD pD qD rD sD : Value) (H : Heap), iterK (denK Tryz.prog (run Tryz.prog k) k C44rrrrrrrrlrll) (K44_4 k) n #[x0,x1,x2,x3,x4,x5,x6,x7,x8,x9,kA,lA,mA,nA,oA,pA,qA,rA,sA,tA,uA,vA,wA,xA,yA,zA,aB,bB,cB,dB,eB,fB,gB,hB,iB,jB,kB,lB,mB,nB,oB,pB,qB,rB,sB,tB,uB,vB,wB,xB,yB,zB,aC,bC,cC,dC,eC,fC,gC,hC,iC,jC,kC,lC,mC,nC,oC,pC,qC,rC,sC,tC,uC,vC,wC,xC,yC,zC,aD,bD,cD,dD,eD,fD,gD,hD,iD,jD,kD,lD,mD,nD,oD,pD,qD,rD,sD] H = L44_11 k n x0 x5 x6 x7 H := by
  intro n
  induction n with
  | zero => intros; rfl
  | succ n ih =>
    intro x0 x1 x2 x3 x4 x5 x6 x7 x8 x9 kA lA mA nA oA pA qA rA sA tA uA vA wA xA yA zA aB bB cB dB eB fB gB hB iB jB kB lB mB nB oB pB qB rB sB tB uB vB wB xB yB zB aC bC cC dC eC fC gC hC iC jC kC lC mC nC oC pC qC rC sC tC uC vC wC xC yC zC aD bD cD dD eD fD gD hD iD jD kD lD mD nD oD pD qD rD sD H
    refine Eq.trans (b :=
    (binI .lss x7 x5).bind fun y51 =>
    condV y51
    (
      (idxStr x0 x7).bind fun y56 =>
      bindM (convI .i64 y56) H fun y57 H_1 =>
      (binI .lss y57 (.int .i64 128)).bind fun y59 =>
      condG y59 false
      (
        (binI .gtr y57 (.int .i64 191)).bind fun y62 =>
        grpK Tryz.prog (run Tryz.prog k) (ropsC C44rrrrrrrrlrllrllrll) ((grps (ropsC C44rrrrrrrrlrllrllrll).toList).drop 2) #[x0,x1,x2,x3,x4,x5,x6,x7,y57,x9,kA,lA,mA,nA,oA,pA,qA,rA,sA,tA,uA,vA,wA,xA,yA,zA,aB,bB,cB,dB,eB,fB,gB,hB,iB,jB,kB,lB,mB,nB,oB,pB,qB,rB,sB,tB,uB,vB,wB,x7,x5,y51,aC,bC,x0,x7,y56,y57,y57,y59,y59,y57,y62,lC,mC,nC,oC,pC,qC,rC,sC,tC,uC,vC,wC,xC,yC,zC,aD,bD,cD,dD,eD,fD,gD,hD,iD,jD,kD,lD,mD,nD,oD,pD,qD,rD,sD] H_1 ((K44_9 k n) .normal))
      (
        grpK Tryz.prog (run Tryz.prog k) (ropsC C44rrrrrrrrlrllrllrll) ((grps (ropsC C44rrrrrrrrlrllrllrll).toList).drop 2) #[x0,x1,x2,x3,x4,x5,x6,x7,y57,x9,kA,lA,mA,nA,oA,pA,qA,rA,sA,tA,uA,vA,wA,xA,yA,zA,aB,bB,cB,dB,eB,fB,gB,hB,iB,jB,kB,lB,mB,nB,oB,pB,qB,rB,sB,tB,uB,vB,wB,x7,x5,y51,aC,bC,x0,x7,y56,y57,y57,y59,y59,undef,undef,lC,mC,nC,oC,pC,qC,rC,sC,tC,uC,vC,wC,xC,yC,zC,aD,bD,cD,dD,eD,fD,gD,hD,iD,jD,kD,lD,mD,nD,oD,pD,qD,rD,sD] H_1 ((K44_9 k n) .normal)))
    (
      (binI .eql x5 (.int .i64 3)).bind fun y70 =>
      condG y70 true
      (
        (binI .lss x6 (.int .i64 2048)).bind fun y73 =>
        grpK Tryz.prog (run Tryz.prog k) (ropsC C44rrrrrrrrrll) ((grps (ropsC C44rrrrrrrrrll).toList).drop 2) #[x0,x1,x2,x3,x4,x5,x6,x7,x8,x9,kA,lA,mA,nA,oA,pA,qA,rA,sA,tA,uA,vA,wA,xA,yA,zA,aB,bB,cB,dB,eB,fB,gB,hB,iB,jB,kB,lB,mB,nB,oB,pB,qB,rB,sB,tB,uB,vB,wB,x7,x5,y51,aC,bC,cC,dC,eC,fC,gC,hC,iC,jC,kC,lC,mC,nC,oC,pC,qC,x5,y70,y70,x6,y73,y73,xC,yC,zC,aD,bD,cD,dD,eD,fD,gD,hD,iD,jD,kD,lD,mD,nD,oD,pD,qD,rD,sD] H ((K44_2 k) .normal))
      (
        grpK Tryz.prog (run Tryz.prog k) (ropsC C44rrrrrrrrrll) ((grps (ropsC C44rrrrrrrrrll).toList).drop 2) #[x0,x1,x2,x3,x4,x5,x6,x7,x8,x9,kA,lA,mA,nA,oA,pA,qA,rA,sA,tA,uA,vA,wA,xA,yA,zA,aB,bB,cB,dB,eB,fB,gB,hB,iB,jB,kB,lB,mB,nB,oB,pB,qB,rB,sB,tB,uB,vB,wB,x7,x5,y51,aC,bC,cC,dC,eC,fC,gC,hC,iC,jC,kC,lC,mC,nC,oC,pC,qC,x5,y70,y70,undef,undef,undef,xC,yC,zC,aD,bD,cD,dD,eD,fD,gD,hD,iD,jD,kD,lD,mD,nD,oD,pD,qD,rD,sD] H ((K44_2 k) .normal)))) (by kernel_rfl) ?_
    simp only [TJ44_9 k, TJ44_10 k n (L44_11 k n) ih]
    rfl
theorem TJ44_12 (k : Nat) (x0 x1 x2 x3 x4 x5 x6 x7 x8 x9 kA lA mA nA oA pA qA rA sA tA uA vA wA xA yA zA aB bB cB dB eB fB gB hB iB jB kB lB mB nB oB pB qB rB sB tB uB vB wB xB yB zB aC bC cC dC eC fC gC hC iC jC kC lC mC nC oC pC qC rC sC tC uC vC wC xC yC zC aD bD cD dD eD fD gD hD iD jD kD lD mD nD oD pD qD rD sD : Value) (H : Heap) : denK Tryz.prog (run Tryz.prog k) k C44rrrrrrrll (K44_11 k) #[x0,x1,x2,x3,x4,x5,x6,x7,x8,x9,kA,lA,mA,nA,oA,pA,qA,rA,sA,tA,uA,vA,wA,xA,yA,zA,aB,bB,cB,dB,eB,fB,gB,hB,iB,jB,kB,lB,mB,nB,oB,pB,qB,rB,sB,tB,uB,vB,wB,xB,yB,zB,aC,bC,cC,dC,eC,fC,gC,hC,iC,jC,kC,lC,mC,nC,oC,pC,qC,rC,sC,tC,uC,vC,wC,xC,yC,zC,aD,bD,cD,dD,eD,fD,gD,hD,iD,jD,kD,lD,mD,nD,oD,pD,qD,rD,sD] H = J44_12 k x0 x5 x6 H := by
  refine Eq.trans (b :=
    bindM (lenSt x0) H fun y46 H_1 =>
    (binI .lss y46 x5).bind fun y48 =>
    condV y48
    (
      some ((.tuple #[(.int .i64 0),(.int .i64 0)]), H_1))
    (
      iterK (denK Tryz.prog (run Tryz.prog k) k C44rrrrrrrrlrll) (K44_4 k) k #[x0,x1,x2,x3,x4,x5,x6,(.int .i64 1),x8,x9,kA,lA,mA,nA,oA,pA,qA,rA,sA,tA,uA,vA,wA,xA,yA,zA,aB,bB,cB,dB,eB,fB,gB,hB,iB,jB,kB,lB,mB,nB,oB,pB,qB,rB,sB,x0,y46,x5,y48,xB,yB,zB,aC,bC,cC,dC,eC,fC,gC,hC,iC,jC,kC,lC,mC,nC,oC,pC,qC,rC,sC,tC,uC,vC,wC,xC,yC,zC,aD,bD,cD,dD,eD,fD,gD,hD,iD,jD,kD,lD,mD,nD,oD,pD,qD,rD,sD] H_1)) (by kernel_rfl) ?_
  simp only [TL44_11 k]
  rfl
theorem TJ44_13 (k : Nat) (x0 x1 x2 x3 x4 x5 x6 x7 x8 x9 kA lA mA nA oA pA qA rA sA tA uA vA wA xA yA zA aB bB cB dB eB fB gB hB iB jB kB lB mB nB oB pB qB rB sB tB uB vB wB xB yB zB aC bC cC dC eC fC gC hC iC jC kC lC mC nC oC pC qC rC sC tC uC vC wC xC yC zC aD bD cD dD eD fD gD hD iD jD kD lD mD nD oD pD qD rD sD : Value) (H : Heap) : grpK Tryz.prog (run Tryz.prog k) (ropsC C44rrrrrrllrrrrl) ((grps (ropsC C44rrrrrrllrrrrl).toList).drop 2) #[x0,x1,x2,x3,x4,x5,x6,x7,x8,x9,kA,lA,mA,nA,oA,pA,qA,rA,sA,tA,uA,vA,wA,xA,yA,zA,aB,bB,cB,dB,eB,fB,gB,hB,iB,jB,kB,lB,mB,nB,oB,pB,qB,rB,sB,tB,uB,vB,wB,xB,yB,zB,aC,bC,cC,dC,eC,fC,gC,hC,iC,jC,kC,lC,mC,nC,oC,pC,qC,rC,sC,tC,uC,vC,wC,xC,yC,zC,aD,bD,cD,dD,eD,fD,gD,hD,iD,jD,kD,lD,mD,nD,oD,pD,qD,rD,sD] H ((K44_14 k) .normal) = J44_13 k x0 x4 nB pB H := by
  refine Eq.trans (b :=
    (pPick nB pB (.bool false)).bind fun y42 =>
    condV y42
    (
      (binI .sub x4 (.int .i64 240)).bind fun y44 =>
      denK Tryz.prog (run Tryz.prog k) k C44rrrrrrrll (K44_11 k) #[x0,x1,x2,x3,x4,(.int .i64 4),y44,x7,x8,x9,kA,lA,mA,nA,oA,pA,qA,rA,sA,tA,uA,vA,wA,xA,yA,zA,aB,bB,cB,dB,eB,fB,gB,hB,iB,jB,y42,lB,mB,nB,oB,pB,y42,x4,y44,tB,uB,vB,wB,xB,yB,zB,aC,bC,cC,dC,eC,fC,gC,hC,iC,jC,kC,lC,mC,nC,oC,pC,qC,rC,sC,tC,uC,vC,wC,xC,yC,zC,aD,bD,cD,dD,eD,fD,gD,hD,iD,jD,kD,lD,mD,nD,oD,pD,qD,rD,sD] H)
    (
      some ((.tuple #[(.int .i64 0),(.int .i64 0)]), H))) (by kernel_rfl) ?_
  simp only [TJ44_12 k]
  rfl
theorem TJ44_14 (k : Nat) (x0 x1 x2 x3 x4 x5 x6 x7 x8 x9 kA lA mA nA oA pA qA rA sA tA uA vA wA xA yA zA aB bB cB dB eB fB gB hB iB jB kB lB mB nB oB pB qB rB sB tB uB vB wB xB yB zB aC bC cC dC eC fC gC hC iC jC kC lC mC nC oC pC qC rC sC tC uC vC wC xC yC zC aD bD cD dD eD fD gD hD iD jD kD lD mD nD oD pD qD rD sD : Value) (H : Heap) : grpK Tryz.prog (run Tryz.prog k) (ropsC C44rrrrrrllrrl) ((grps (ropsC C44rrrrrrllrrl).toList).drop 2) #[x0,x1,x2,x3,x4,x5,x6,x7,x8,x9,kA,lA,mA,nA,oA,pA,qA,rA,sA,tA,uA,vA,wA,xA,yA,zA,aB,bB,cB,dB,eB,fB,gB,hB,iB,jB,kB,lB,mB,nB,oB,pB,qB,rB,sB,tB,uB,vB,wB,xB,yB,zB,aC,bC,cC,dC,eC,fC,gC,hC,iC,jC,kC,lC,mC,nC,oC,pC,qC,rC,sC,tC,uC,vC,wC,xC,yC,zC,aD,bD,cD,dD,eD,fD,gD,hD,iD,jD,kD,lD,mD,nD,oD,pD,qD,rD,sD] H ((K44_15 k) .normal) = J44_14 k x0 x4 eB gB H := by
  refine Eq.trans (b :=
    (pPick eB gB (.bool false)).bind fun y33 =>
    condV y33
    (
      (binI .sub x4 (.int .i64 224)).bind fun y35 =>
      denK Tryz.prog (run Tryz.prog k) k C44rrrrrrrll (K44_11 k) #[x0,x1,x2,x3,x4,(.int .i64 3),y35,x7,x8,x9,kA,lA,mA,nA,oA,pA,qA,rA,sA,tA,uA,vA,wA,xA,yA,zA,aB,y33,cB,dB,eB,fB,gB,y33,x4,y35,kB,lB,mB,nB,oB,pB,qB,rB,sB,tB,uB,vB,wB,xB,yB,zB,aC,bC,cC,dC,eC,fC,gC,hC,iC,jC,kC,lC,mC,nC,oC,pC,qC,rC,sC,tC,uC,vC,wC,xC,yC,zC,aD,bD,cD,dD,eD,fD,gD,hD,iD,jD,kD,lD,mD,nD,oD,pD,qD,rD,sD] H)
    (
      (binI .geq x4 (.int .i64 240)).bind fun y38 =>
      condG y38 true
      (
        (binI .lss x4 (.int .i64 245)).bind fun y41 =>
        grpK Tryz.prog (run Tryz.prog k) (ropsC C44rrrrrrllrrrrl) ((grps (ropsC C44rrrrrrllrrrrl).toList).drop 2) #[x0,x1,x2,x3,x4,x5,x6,x7,x8,x9,kA,lA,mA,nA,oA,pA,qA,rA,sA,tA,uA,vA,wA,xA,yA,zA,aB,y33,cB,dB,eB,fB,gB,y33,iB,jB,kB,x4,y38,y38,x4,y41,qB,rB,sB,tB,uB,vB,wB,xB,yB,zB,aC,bC,cC,dC,eC,fC,gC,hC,iC,jC,kC,lC,mC,nC,oC,pC,qC,rC,sC,tC,uC,vC,wC,xC,yC,zC,aD,bD,cD,dD,eD,fD,gD,hD,iD,jD,kD,lD,mD,nD,oD,pD,qD,rD,sD] H ((K44_14 k) .normal))
      (
        grpK Tryz.prog (run Tryz.prog k) (ropsC C44rrrrrrllrrrrl) ((grps (ropsC C44rrrrrrllrrrrl).toList).drop 2) #[x0,x1,x2,x3,x4,x5,x6,x7,x8,x9,kA,lA,mA,nA,oA,pA,qA,rA,sA,tA,uA,vA,wA,xA,yA,zA,aB,y33,cB,dB,eB,fB,gB,y33,iB,jB,kB,x4,y38,y38,undef,undef,qB,rB,sB,tB,uB,vB,wB,xB,yB,zB,aC,bC,cC,dC,eC,fC,gC,hC,iC,jC,kC,lC,mC,nC,oC,pC,qC,rC,sC,tC,uC,vC,wC,xC,yC,zC,aD,bD,cD,dD,eD,fD,gD,hD,iD,jD,kD,lD,mD,nD,oD,pD,qD,rD,sD] H ((K44_14 k) .normal)))) (by kernel_rfl) ?_
  simp only [TJ44_13 k, TJ44_12 k]
  rfl
theorem TJ44_15 (k : Nat) (x0 x1 x2 x3 x4 x5 x6 x7 x8 x9 kA lA mA nA oA pA qA rA sA tA uA vA wA xA yA zA aB bB cB dB eB fB gB hB iB jB kB lB mB nB oB pB qB rB sB tB uB vB wB xB yB zB aC bC cC dC eC fC gC hC iC jC kC lC mC nC oC pC qC rC sC tC uC vC wC xC yC zC aD bD cD dD eD fD gD hD iD jD kD lD mD nD oD pD qD rD sD : Value) (H : Heap) : grpK Tryz.prog (run Tryz.prog k) (ropsC C44rrrrrrlll) ((grps (ropsC C44rrrrrrlll).toList).drop 2) #[x0,x1,x2,x3,x4,x5,x6,x7,x8,x9,kA,lA,mA,nA,oA,pA,qA,rA,sA,tA,uA,vA,wA,xA,yA,zA,aB,bB,cB,dB,eB,fB,gB,hB,iB,jB,kB,lB,mB,nB,oB,pB,qB,rB,sB,tB,uB,vB,wB,xB,yB,zB,aC,bC,cC,dC,eC,fC,gC,hC,iC,jC,kC,lC,mC,nC,oC,pC,qC,rC,sC,tC,uC,vC,wC,xC,yC,zC,aD,bD,cD,dD,eD,fD,gD,hD,iD,jD,kD,lD,mD,nD,oD,pD,qD,rD,sD] H ((K44_16 k) .normal) = J44_15 k x0 x4 vA xA H := by
  refine Eq.trans (b :=
    (pPick vA xA (.bool false)).bind fun y24 =>
    condV y24
    (
      (binI .sub x4 (.int .i64 192)).bind fun y26 =>
      denK Tryz.prog (run Tryz.prog k) k C44rrrrrrrll (K44_11 k) #[x0,x1,x2,x3,x4,(.int .i64 2),y26,x7,x8,x9,kA,lA,mA,nA,oA,pA,qA,rA,y24,tA,uA,vA,wA,xA,y24,x4,y26,bB,cB,dB,eB,fB,gB,hB,iB,jB,kB,lB,mB,nB,oB,pB,qB,rB,sB,tB,uB,vB,wB,xB,yB,zB,aC,bC,cC,dC,eC,fC,gC,hC,iC,jC,kC,lC,mC,nC,oC,pC,qC,rC,sC,tC,uC,vC,wC,xC,yC,zC,aD,bD,cD,dD,eD,fD,gD,hD,iD,jD,kD,lD,mD,nD,oD,pD,qD,rD,sD] H)
    (
      (binI .geq x4 (.int .i64 224)).bind fun y29 =>
      condG y29 true
      (
        (binI .lss x4 (.int .i64 240)).bind fun y32 =>
        grpK Tryz.prog (run Tryz.prog k) (ropsC C44rrrrrrllrrl) ((grps (ropsC C44rrrrrrllrrl).toList).drop 2) #[x0,x1,x2,x3,x4,x5,x6,x7,x8,x9,kA,lA,mA,nA,oA,pA,qA,rA,y24,tA,uA,vA,wA,xA,y24,zA,aB,bB,x4,y29,y29,x4,y32,hB,iB,jB,kB,lB,mB,nB,oB,pB,qB,rB,sB,tB,uB,vB,wB,xB,yB,zB,aC,bC,cC,dC,eC,fC,gC,hC,iC,jC,kC,lC,mC,nC,oC,pC,qC,rC,sC,tC,uC,vC,wC,xC,yC,zC,aD,bD,cD,dD,eD,fD,gD,hD,iD,jD,kD,lD,mD,nD,oD,pD,qD,rD,sD] H ((K44_15 k) .normal))
      (
        grpK Tryz.prog (run Tryz.prog k) (ropsC C44rrrrrrllrrl) ((grps (ropsC C44rrrrrrllrrl).toList).drop 2) #[x0,x1,x2,x3,x4,x5,x6,x7,x8,x9,kA,lA,mA,nA,oA,pA,qA,rA,y24,tA,uA,vA,wA,xA,y24,zA,aB,bB,x4,y29,y29,undef,undef,hB,iB,jB,kB,lB,mB,nB,oB,pB,qB,rB,sB,tB,uB,vB,wB,xB,yB,zB,aC,bC,cC,dC,eC,fC,gC,hC,iC,jC,kC,lC,mC,nC,oC,pC,qC,rC,sC,tC,uC,vC,wC,xC,yC,zC,aD,bD,cD,dD,eD,fD,gD,hD,iD,jD,kD,lD,mD,nD,oD,pD,qD,rD,sD] H ((K44_15 k) .normal)))) (by kernel_rfl) ?_
  simp only [TJ44_14 k, TJ44_12 k]
  rfl
theorem TF44 (k : Nat) (x0 x1 x2 x3 x4 x5 x6 x7 x8 x9 kA lA mA nA oA pA qA rA sA tA uA vA wA xA yA zA aB bB cB dB eB fB gB hB iB jB kB lB mB nB oB pB qB rB sB tB uB vB wB xB yB zB aC bC cC dC eC fC gC hC iC jC kC lC mC nC oC pC qC rC sC tC uC vC wC xC yC zC aD bD cD dD eD fD gD hD iD jD kD lD mD nD oD pD qD rD sD : Value) (H : Heap) : denK Tryz.prog (run Tryz.prog k) k C44l (K44_17 k) #[x0,x1,x2,x3,x4,x5,x6,x7,x8,x9,kA,lA,mA,nA,oA,pA,qA,rA,sA,tA,uA,vA,wA,xA,yA,zA,aB,bB,cB,dB,eB,fB,gB,hB,iB,jB,kB,lB,mB,nB,oB,pB,qB,rB,sB,tB,uB,vB,wB,xB,yB,zB,aC,bC,cC,dC,eC,fC,gC,hC,iC,jC,kC,lC,mC,nC,oC,pC,qC,rC,sC,tC,uC,vC,wC,xC,yC,zC,aD,bD,cD,dD,eD,fD,gD,hD,iD,jD,kD,lD,mD,nD,oD,pD,qD,rD,sD] H = F44 k x0 H := by
  refine Eq.trans (b :=
    bindM (lenSt x0) H fun y10 H_1 =>
    (binI .eql y10 (.int .i64 0)).bind fun y11 =>
    condV y11
    (
      some ((.tuple #[(.int .i64 0),(.int .i64 0)]), H_1))
    (
      (idxStr x0 (.int .i64 0)).bind fun y13 =>
      bindM (convI .i64 y13) H_1 fun y14 H_2 =>
      (binI .lss y14 (.int .i64 128)).bind fun y16 =>
      condV y16
      (
        some ((.tuple #[y14,(.int .i64 1)]), H_2))
      (
        (binI .geq y14 (.int .i64 194)).bind fun y20 =>
        condG y20 true
        (
          (binI .lss y14 (.int .i64 224)).bind fun y23 =>
          grpK Tryz.prog (run Tryz.prog k) (ropsC C44rrrrrrlll) ((grps (ropsC C44rrrrrrlll).toList).drop 2) #[x0,x1,(.int .i64 0),(.int .i64 0),y14,(.int .i64 0),(.int .i64 0),x7,x8,x0,y10,y11,x0,y13,y14,y14,y16,rA,sA,y14,y20,y20,y14,y23,yA,zA,aB,bB,cB,dB,eB,fB,gB,hB,iB,jB,kB,lB,mB,nB,oB,pB,qB,rB,sB,tB,uB,vB,wB,xB,yB,zB,aC,bC,cC,dC,eC,fC,gC,hC,iC,jC,kC,lC,mC,nC,oC,pC,qC,rC,sC,tC,uC,vC,wC,xC,yC,zC,aD,bD,cD,dD,eD,fD,gD,hD,iD,jD,kD,lD,mD,nD,oD,pD,qD,rD,sD] H_2 ((K44_16 k) .normal))
        (
          grpK Tryz.prog (run Tryz.prog k) (ropsC C44rrrrrrlll) ((grps (ropsC C44rrrrrrlll).toList).drop 2) #[x0,x1,(.int .i64 0),(.int .i64 0),y14,(.int .i64 0),(.int .i64 0),x7,x8,x0,y10,y11,x0,y13,y14,y14,y16,rA,sA,y14,y20,y20,undef,undef,yA,zA,aB,bB,cB,dB,eB,fB,gB,hB,iB,jB,kB,lB,mB,nB,oB,pB,qB,rB,sB,tB,uB,vB,wB,xB,yB,zB,aC,bC,cC,dC,eC,fC,gC,hC,iC,jC,kC,lC,mC,nC,oC,pC,qC,rC,sC,tC,uC,vC,wC,xC,yC,zC,aD,bD,cD,dD,eD,fD,gD,hD,iD,jD,kD,lD,mD,nD,oD,pD,qD,rD,sD] H_2 ((K44_16 k) .normal))))) (by kernel_rfl) ?_
  simp only [TJ44_15 k]
  rfl
theorem run44 (k : Nat) (x0 : Value) (H : Heap) : run Tryz.prog (k + 1) 44 #[x0] H = F44 k x0 H := by
  refine Eq.trans (b := denK Tryz.prog (run Tryz.prog k) k C44l (K44_17 k) #[x0,undef,undef,undef,undef,undef,undef,undef,undef,undef,undef,undef,undef,undef,undef,undef,undef,undef,undef,undef,undef,undef,undef,undef,undef,undef,undef,undef,undef,undef,undef,undef,undef,undef,undef,undef,undef,undef,undef,undef,undef,undef,undef,undef,undef,undef,undef,undef,undef,undef,undef,undef,undef,undef,undef,undef,undef,undef,undef,undef,undef,undef,undef,undef,undef,undef,undef,undef,undef,undef,undef,undef,undef,undef,undef,undef,undef,undef,undef,undef,undef,undef,undef,undef,undef,undef,undef,undef,undef,undef,undef,undef,undef,undef,undef,undef,undef] H) (by kernel_rfl) ?_
  exact TF44 k x0 undef undef undef undef undef undef undef undef undef undef undef undef undef undef undef undef undef undef undef undef undef undef undef undef undef undef undef undef undef undef undef undef undef undef undef undef undef undef undef undef undef undef undef undef undef undef undef undef undef undef undef undef undef undef undef undef undef undef undef undef undef undef undef undef undef undef undef undef undef undef undef undef undef undef undef undef undef undef undef undef undef undef undef undef undef undef undef undef undef undef undef undef undef undef undef undef H

end Go.PG
