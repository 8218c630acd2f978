/- Part 2 of the lemmas behind RowVolWhole: Pf63, Pf25, Pf26, Pf28, Pf29, Pf61, Pf64, Pf65, Pf48, Pf85, Pf86, Pf100, Pf104, Pf96, PgY, PgYa, PgYb, SpCrc, Pf13, Pf14, Pf22, Pf45, Pf47, Pf83, Pf138, Pf139, PgB, PgC, PgD, PgE, PgF, PgG, PgH. No condition beyond those that each lemma names. -/
import Derived.Test.YtcddeopioaagoaaGreatVw1
import Derived.Test.YtcddeopioaagoaaGreatProg
import Derived.WalkKit

set_option linter.unusedVariables false
set_option linter.unusedSimpArgs false
set_option linter.unusedSectionVars false
namespace Go.PG
open Go.Proofs

noncomputable def C63l : Code := sub [.l] (bodyOf Tryz.f63)
noncomputable def C63r : Code := sub [.r] (bodyOf Tryz.f63)
noncomputable def C63rrlrll : Code := sub [.r, .r, .l, .r, .l, .l] (bodyOf Tryz.f63)
noncomputable def C63rrr : Code := sub [.r, .r, .r] (bodyOf Tryz.f63)
noncomputable def C63rrrl : Code := sub [.r, .r, .r, .l] (bodyOf Tryz.f63)
noncomputable def C63rrrr : Code := sub [.r, .r, .r, .r] (bodyOf Tryz.f63)
noncomputable def C63rrrrlrll : Code := sub [.r, .r, .r, .r, .l, .r, .l, .l] (bodyOf Tryz.f63)
noncomputable def C63rrrrlrllrlrrll : Code := sub [.r, .r, .r, .r, .l, .r, .l, .l, .r, .l, .r, .r, .l, .l] (bodyOf Tryz.f63)
noncomputable def C63rrrrlrllrlrrllrrllrl : Code := sub [.r, .r, .r, .r, .l, .r, .l, .l, .r, .l, .r, .r, .l, .l, .r, .r, .l, .l, .r, .l] (bodyOf Tryz.f63)
noncomputable def C63rrrrlrllrlrrllrrllrr : Code := sub [.r, .r, .r, .r, .l, .r, .l, .l, .r, .l, .r, .r, .l, .l, .r, .r, .l, .l, .r, .r] (bodyOf Tryz.f63)
noncomputable def C63rrrrlrllrlrrllrrr : Code := sub [.r, .r, .r, .r, .l, .r, .l, .l, .r, .l, .r, .r, .l, .l, .r, .r, .r] (bodyOf Tryz.f63)
noncomputable def C63rrrrr : Code := sub [.r, .r, .r, .r, .r] (bodyOf Tryz.f63)
noncomputable def K63_0 (k : Nat) : Ex → Fr → Heap → Option (Value × Heap) := finK Tryz.prog Tryz.f63
noncomputable def K63_1 (k : Nat) : Ex → Fr → Heap → Option (Value × Heap) := seqC (denK Tryz.prog (run Tryz.prog k) k C63rrrrr (K63_0 k)) (K63_0 k)
noncomputable def K63_2 (k : Nat) : Ex → Fr → Heap → Option (Value × Heap) := blkC 2 (K63_1 k)
noncomputable def K63_3 (k : Nat) (nrrrrlrl : Nat) : Ex → Fr → Heap → Option (Value × Heap) := seqC (iterK (denK Tryz.prog (run Tryz.prog k) k C63rrrrlrll) (K63_2 k) nrrrrlrl) (K63_2 k)
noncomputable def K63_4 (k : Nat) (nrrrrlrl : Nat) : Ex → Fr → Heap → Option (Value × Heap) := blkC 3 (K63_3 k nrrrrlrl)
noncomputable def K63_5 (k : Nat) (nrrrrlrl : Nat) : Ex → Fr → Heap → Option (Value × Heap) := blkC 4 (K63_4 k nrrrrlrl)
noncomputable def K63_6 (k : Nat) (nrrrrlrl : Nat) (nrrrrlrllrlrrl : Nat) : Ex → Fr → Heap → Option (Value × Heap) := seqC (iterK (denK Tryz.prog (run Tryz.prog k) k C63rrrrlrllrlrrll) (K63_5 k nrrrrlrl) nrrrrlrllrlrrl) (K63_5 k nrrrrlrl)
noncomputable def K63_7 (k : Nat) (nrrrrlrl : Nat) (nrrrrlrllrlrrl : Nat) : Ex → Fr → Heap → Option (Value × Heap) := seqC (denK Tryz.prog (run Tryz.prog k) k C63rrrrlrllrlrrllrrr (K63_6 k nrrrrlrl nrrrrlrllrlrrl)) (K63_6 k nrrrrlrl nrrrrlrllrlrrl)
noncomputable def K63_8 (k : Nat) (nrrrrlrl : Nat) (nrrrrlrllrlrrl : Nat) : Ex → Fr → Heap → Option (Value × Heap) := blkC 5 (K63_7 k nrrrrlrl nrrrrlrllrlrrl)
noncomputable def K63_9 (k : Nat) (nrrrrlrl : Nat) (nrrrrlrllrlrrl : Nat) : Ex → Fr → Heap → Option (Value × Heap) := seqC (denK Tryz.prog (run Tryz.prog k) k C63rrrrlrllrlrrllrrllrr (K63_8 k nrrrrlrl nrrrrlrllrlrrl)) (K63_8 k nrrrrlrl nrrrrlrllrlrrl)
noncomputable def K63_10 (k : Nat) : Ex → Fr → Heap → Option (Value × Heap) := seqC (denK Tryz.prog (run Tryz.prog k) k C63rrrr (K63_0 k)) (K63_0 k)
noncomputable def K63_11 (k : Nat) : Ex → Fr → Heap → Option (Value × Heap) := seqC (denK Tryz.prog (run Tryz.prog k) k C63rrr (K63_0 k)) (K63_0 k)
noncomputable def K63_12 (k : Nat) : Ex → Fr → Heap → Option (Value × Heap) := blkC 0 (K63_11 k)
noncomputable def K63_13 (k : Nat) : Ex → Fr → Heap → Option (Value × Heap) := seqC (denK Tryz.prog (run Tryz.prog k) k C63r (K63_0 k)) (K63_0 k)

noncomputable def J63_0 (k : Nat) (nxrrrrlrl : Value → Value → Value → Value → Value → Heap → Option (Value × Heap)) (nxrrrrlrllrlrrl : Value → Value → Value → Value → Value → Value → Value → Heap → Option (Value × Heap)) (x0 x1 x4 x5 x9 dB eB : Value) (H : Heap) : Option (Value × Heap) :=
  (binI .add eB (.int .i64 1)).bind fun y58 =>
  nxrrrrlrllrlrrl x0 x1 x4 x5 x9 dB y58 H
noncomputable def J63_1 (k : Nat) (nxrrrrlrl : Value → Value → Value → Value → Value → Heap → Option (Value × Heap)) (nxrrrrlrllrlrrl : Value → Value → Value → Value → Value → Value → Value → Heap → Option (Value × Heap)) (x0 x1 x4 x5 x9 lA dB eB tB zB : Value) (H : Heap) : Option (Value × Heap) :=
  (pPick tB zB (.bool false)).bind fun y52 =>
  condV y52
  (
    (fieldA 1 lA).bind fun y53 =>
    (ldV false 1 y53 H).bind fun y54 =>
    (fieldA 2 lA).bind fun y55 =>
    (ldV false 1 y55 H).bind fun y56 =>
    (binI .add y54 y56).bind fun y57 =>
    J63_0 k nxrrrrlrl nxrrrrlrllrlrrl x0 x1 x4 y57 (.bool true) dB eB H)
  (
    J63_0 k nxrrrrlrl nxrrrrlrllrlrrl x0 x1 x4 x5 x9 dB eB H)
noncomputable def J63_2 (k : Nat) (nxrrrrlrl : Value → Value → Value → Value → Value → Heap → Option (Value × Heap)) (nxrrrrlrllrlrrl : Value → Value → Value → Value → Value → Value → Value → Heap → Option (Value × Heap)) (x0 x1 x4 x5 x9 lA dB eB kB rB : Value) (H : Heap) : Option (Value × Heap) :=
  (pPick kB rB (.bool false)).bind fun y44 =>
  condG y44 true
  (
    (fieldA 1 lA).bind fun y46 =>
    (ldV false 1 y46 H).bind fun y47 =>
    (binI .add x5 x1).bind fun y50 =>
    (binI .lss y47 y50).bind fun y51 =>
    J63_1 k nxrrrrlrl nxrrrrlrllrlrrl x0 x1 x4 x5 x9 lA dB eB y44 y51 H)
  (
    J63_1 k nxrrrrlrl nxrrrrlrllrlrrl x0 x1 x4 x5 x9 lA dB eB y44 undef H)
noncomputable def L63_3 (k : Nat) (nxrrrrlrl : Value → Value → Value → Value → Value → Heap → Option (Value × Heap)) : Nat → Value → Value → Value → Value → Value → Value → Value → Heap → Option (Value × Heap)
  | 0, _, _, _, _, _, _, _, _ => none
  | n + 1, x0, x1, x4, x5, x9, dB, eB, H =>
    (binI .lss eB (.int .i64 8)).bind fun y31 =>
    condV y31
    (
      (idxAgg 8 true 3 dB eB).bind fun y32 =>
      newK H (.cells #[(.string ⟨#[]⟩), (.int .i64 0), (.int .i64 0)] 49) fun y11 H_1 =>
      (stV 3 y11 y32 H_1).bind fun H_2 =>
      (fieldA 2 y11).bind fun y33 =>
      (ldV false 1 y33 H_2).bind fun y34 =>
      (binI .gtr y34 (.int .i64 0)).bind fun y35 =>
      condG y35 true
      (
        (fieldA 1 y11).bind fun y38 =>
        (ldV false 1 y38 H_2).bind fun y39 =>
        (fieldA 2 y11).bind fun y40 =>
        (ldV false 1 y40 H_2).bind fun y41 =>
        (binI .add y39 y41).bind fun y42 =>
        (binI .lss x5 y42).bind fun y43 =>
        J63_2 k nxrrrrlrl (L63_3 k nxrrrrlrl n) x0 x1 x4 x5 x9 y11 dB eB y35 y43 H_2)
      (
        J63_2 k nxrrrrlrl (L63_3 k nxrrrrlrl n) x0 x1 x4 x5 x9 y11 dB eB y35 undef H_2))
    (
      nxrrrrlrl x0 x1 x4 x5 x9 H)
noncomputable def L63_4 (k : Nat) : Nat → Value → Value → Value → Value → Value → Heap → Option (Value × Heap)
  | 0, _, _, _, _, _, _ => none
  | n + 1, x0, x1, x4, x5, x9, H =>
    condV x9
    (
      (pNil x0).bind fun y27 =>
      (fieldA 2 y27).bind fun y28 =>
      (ldV true 24 y28 H).bind fun y29 =>
      L63_3 k (L63_4 k n) k x0 x1 x4 x5 (.bool false) y29 (.int .i64 0) H)
    (
      (binI .geq x4 (.int .i64 0)).bind fun y62 =>
      condG y62 true
      (
        (pNil x0).bind fun y66 =>
        (fieldA 1 y66).bind fun y67 =>
        (ldV false 1 y67 H).bind fun y68 =>
        (binI .sub y68 x1).bind fun y70 =>
        (binI .leq x5 y70).bind fun y71 =>
        (pPick y62 y71 (.bool false)).bind fun y72 =>
        some ((.tuple #[x4,x5,y72]), H))
      (
        (pPick y62 undef (.bool false)).bind fun y72_1 =>
        some ((.tuple #[x4,x5,y72_1]), H)))
noncomputable def J63_5 (k : Nat) (x0 x1 x4 : Value) (H : Heap) : Option (Value × Heap) :=
  L63_4 k k x0 x1 x4 (.int .i64 8) (.bool true) H
noncomputable def L63_6 (k : Nat) : Nat → Value → Value → Value → Value → Value → Heap → Option (Value × Heap)
  | 0, _, _, _, _, _, _ => none
  | n + 1, x0, x1, x4, pA, qA, H =>
    (binI .lss qA (.int .i64 8)).bind fun y17 =>
    condV y17
    (
      (idxAgg 8 true 3 pA qA).bind fun y19 =>
      newK H (.cells #[(.string ⟨#[]⟩), (.int .i64 0), (.int .i64 0)] 49) fun y8 H_1 =>
      (stV 3 y8 y19 H_1).bind fun H_2 =>
      (fieldA 2 y8).bind fun y20 =>
      (ldV false 1 y20 H_2).bind fun y21 =>
      (binI .eql y21 (.int .i64 0)).bind fun y22 =>
      condV y22
      (
        J63_5 k x0 x1 qA H_2)
      (
        (binI .add qA (.int .i64 1)).bind fun y24 =>
        (L63_6 k n) x0 x1 x4 pA y24 H_2))
    (
      J63_5 k x0 x1 x4 H)
noncomputable def F63 (k : Nat) (x0 x1 : Value) (H : Heap) : Option (Value × Heap) :=
  (pNil x0).bind fun y13 =>
  (fieldA 2 y13).bind fun y14 =>
  (ldV true 24 y14 H).bind fun y15 =>
  L63_6 k k x0 x1 (.int .i64 (-1)) y15 (.int .i64 0) H

theorem TJ63_0 (k : Nat) (nrrrrlrl : Nat) (nxrrrrlrl : Value → Value → Value → Value → Value → Heap → Option (Value × Heap)) (hrrrrlrl : ∀ (x0 x1 x2 x3 x4 x5 x6 x7 x8 x9 kA lA mA nA oA pA qA rA sA tA uA vA wA xA yA zA aB bB cB dB eB fB gB hB iB jB kB lB mB nB oB pB qB rB sB tB uB vB wB xB yB zB aC bC cC dC eC fC gC hC iC jC kC lC mC nC oC pC qC rC sC tC uC : Value) (H : Heap), iterK (denK Tryz.prog (run Tryz.prog k) k C63rrrrlrll) (K63_2 k) nrrrrlrl #[x0,x1,x2,x3,x4,x5,x6,x7,x8,x9,kA,lA,mA,nA,oA,pA,qA,rA,sA,tA,uA,vA,wA,xA,yA,zA,aB,bB,cB,dB,eB,fB,gB,hB,iB,jB,kB,lB,mB,nB,oB,pB,qB,rB,sB,tB,uB,vB,wB,xB,yB,zB,aC,bC,cC,dC,eC,fC,gC,hC,iC,jC,kC,lC,mC,nC,oC,pC,qC,rC,sC,tC,uC] H = nxrrrrlrl x0 x1 x4 x5 x9 H) (nrrrrlrllrlrrl : Nat) (nxrrrrlrllrlrrl : Value → Value → Value → Value → Value → Value → Value → Heap → Option (Value × Heap)) (hrrrrlrllrlrrl : ∀ (x0 x1 x2 x3 x4 x5 x6 x7 x8 x9 kA lA mA nA oA pA qA rA sA tA uA vA wA xA yA zA aB bB cB dB eB fB gB hB iB jB kB lB mB nB oB pB qB rB sB tB uB vB wB xB yB zB aC bC cC dC eC fC gC hC iC jC kC lC mC nC oC pC qC rC sC tC uC : Value) (H : Heap), iterK (denK Tryz.prog (run Tryz.prog k) k C63rrrrlrllrlrrll) (K63_5 k nrrrrlrl) nrrrrlrllrlrrl #[x0,x1,x2,x3,x4,x5,x6,x7,x8,x9,kA,lA,mA,nA,oA,pA,qA,rA,sA,tA,uA,vA,wA,xA,yA,zA,aB,bB,cB,dB,eB,fB,gB,hB,iB,jB,kB,lB,mB,nB,oB,pB,qB,rB,sB,tB,uB,vB,wB,xB,yB,zB,aC,bC,cC,dC,eC,fC,gC,hC,iC,jC,kC,lC,mC,nC,oC,pC,qC,rC,sC,tC,uC] H = nxrrrrlrllrlrrl x0 x1 x4 x5 x9 dB eB H) (x0 x1 x2 x3 x4 x5 x6 x7 x8 x9 kA lA mA nA oA pA qA rA sA tA uA vA wA xA yA zA aB bB cB dB eB fB gB hB iB jB kB lB mB nB oB pB qB rB sB tB uB vB wB xB yB zB aC bC cC dC eC fC gC hC iC jC kC lC mC nC oC pC qC rC sC tC uC : Value) (H : Heap) : denK Tryz.prog (run Tryz.prog k) k C63rrrrlrllrlrrllrrr (K63_6 k nrrrrlrl nrrrrlrllrlrrl) #[x0,x1,x2,x3,x4,x5,x6,x7,x8,x9,kA,lA,mA,nA,oA,pA,qA,rA,sA,tA,uA,vA,wA,xA,yA,zA,aB,bB,cB,dB,eB,fB,gB,hB,iB,jB,kB,lB,mB,nB,oB,pB,qB,rB,sB,tB,uB,vB,wB,xB,yB,zB,aC,bC,cC,dC,eC,fC,gC,hC,iC,jC,kC,lC,mC,nC,oC,pC,qC,rC,sC,tC,uC] H = J63_0 k nxrrrrlrl nxrrrrlrllrlrrl x0 x1 x4 x5 x9 dB eB H := by
  refine Eq.trans (b :=
    (binI .add eB (.int .i64 1)).bind fun y58 =>
    iterK (denK Tryz.prog (run Tryz.prog k) k C63rrrrlrllrlrrll) (K63_5 k nrrrrlrl) nrrrrlrllrlrrl #[x0,x1,x2,x3,x4,x5,x6,x7,x8,x9,kA,lA,mA,nA,oA,pA,qA,rA,sA,tA,uA,vA,wA,xA,yA,zA,aB,bB,cB,dB,y58,fB,gB,hB,iB,jB,kB,lB,mB,nB,oB,pB,qB,rB,sB,tB,uB,vB,wB,xB,yB,zB,aC,bC,cC,dC,eC,fC,y58,hC,iC,jC,kC,lC,mC,nC,oC,pC,qC,rC,sC,tC,uC] H) (by kernel_rfl) ?_
  simp only [hrrrrlrllrlrrl]
  rfl
theorem TJ63_1 (k : Nat) (nrrrrlrl : Nat) (nxrrrrlrl : Value → Value → Value → Value → Value → Heap → Option (Value × Heap)) (hrrrrlrl : ∀ (x0 x1 x2 x3 x4 x5 x6 x7 x8 x9 kA lA mA nA oA pA qA rA sA tA uA vA wA xA yA zA aB bB cB dB eB fB gB hB iB jB kB lB mB nB oB pB qB rB sB tB uB vB wB xB yB zB aC bC cC dC eC fC gC hC iC jC kC lC mC nC oC pC qC rC sC tC uC : Value) (H : Heap), iterK (denK Tryz.prog (run Tryz.prog k) k C63rrrrlrll) (K63_2 k) nrrrrlrl #[x0,x1,x2,x3,x4,x5,x6,x7,x8,x9,kA,lA,mA,nA,oA,pA,qA,rA,sA,tA,uA,vA,wA,xA,yA,zA,aB,bB,cB,dB,eB,fB,gB,hB,iB,jB,kB,lB,mB,nB,oB,pB,qB,rB,sB,tB,uB,vB,wB,xB,yB,zB,aC,bC,cC,dC,eC,fC,gC,hC,iC,jC,kC,lC,mC,nC,oC,pC,qC,rC,sC,tC,uC] H = nxrrrrlrl x0 x1 x4 x5 x9 H) (nrrrrlrllrlrrl : Nat) (nxrrrrlrllrlrrl : Value → Value → Value → Value → Value → Value → Value → Heap → Option (Value × Heap)) (hrrrrlrllrlrrl : ∀ (x0 x1 x2 x3 x4 x5 x6 x7 x8 x9 kA lA mA nA oA pA qA rA sA tA uA vA wA xA yA zA aB bB cB dB eB fB gB hB iB jB kB lB mB nB oB pB qB rB sB tB uB vB wB xB yB zB aC bC cC dC eC fC gC hC iC jC kC lC mC nC oC pC qC rC sC tC uC : Value) (H : Heap), iterK (denK Tryz.prog (run Tryz.prog k) k C63rrrrlrllrlrrll) (K63_5 k nrrrrlrl) nrrrrlrllrlrrl #[x0,x1,x2,x3,x4,x5,x6,x7,x8,x9,kA,lA,mA,nA,oA,pA,qA,rA,sA,tA,uA,vA,wA,xA,yA,zA,aB,bB,cB,dB,eB,fB,gB,hB,iB,jB,kB,lB,mB,nB,oB,pB,qB,rB,sB,tB,uB,vB,wB,xB,yB,zB,aC,bC,cC,dC,eC,fC,gC,hC,iC,jC,kC,lC,mC,nC,oC,pC,qC,rC,sC,tC,uC] H = nxrrrrlrllrlrrl x0 x1 x4 x5 x9 dB eB H) (x0 x1 x2 x3 x4 x5 x6 x7 x8 x9 kA lA mA nA oA pA qA rA sA tA uA vA wA xA yA zA aB bB cB dB eB fB gB hB iB jB kB lB mB nB oB pB qB rB sB tB uB vB wB xB yB zB aC bC cC dC eC fC gC hC iC jC kC lC mC nC oC pC qC rC sC tC uC : Value) (H : Heap) : grpK Tryz.prog (run Tryz.prog k) (ropsC C63rrrrlrllrlrrllrrllrl) ((grps (ropsC C63rrrrlrllrlrrllrrllrl).toList).drop 4) #[x0,x1,x2,x3,x4,x5,x6,x7,x8,x9,kA,lA,mA,nA,oA,pA,qA,rA,sA,tA,uA,vA,wA,xA,yA,zA,aB,bB,cB,dB,eB,fB,gB,hB,iB,jB,kB,lB,mB,nB,oB,pB,qB,rB,sB,tB,uB,vB,wB,xB,yB,zB,aC,bC,cC,dC,eC,fC,gC,hC,iC,jC,kC,lC,mC,nC,oC,pC,qC,rC,sC,tC,uC] H ((K63_9 k nrrrrlrl nrrrrlrllrlrrl) .normal) = J63_1 k nxrrrrlrl nxrrrrlrllrlrrl x0 x1 x4 x5 x9 lA dB eB tB zB H := by
  refine Eq.trans (b :=
    (pPick tB zB (.bool false)).bind fun y52 =>
    condV y52
    (
      (fieldA 1 lA).bind fun y53 =>
      (ldV false 1 y53 H).bind fun y54 =>
      (fieldA 2 lA).bind fun y55 =>
      (ldV false 1 y55 H).bind fun y56 =>
      (binI .add y54 y56).bind fun y57 =>
      denK Tryz.prog (run Tryz.prog k) k C63rrrrlrllrlrrllrrr (K63_6 k nrrrrlrl nrrrrlrllrlrrl) #[x0,x1,x2,x3,x4,y57,x6,x7,x8,(.bool true),kA,lA,mA,nA,oA,pA,qA,rA,sA,tA,uA,vA,wA,xA,yA,zA,aB,bB,cB,dB,eB,fB,gB,hB,iB,jB,kB,lB,mB,nB,oB,pB,qB,rB,sB,tB,uB,vB,wB,xB,yB,zB,y52,y53,y54,y55,y56,y57,gC,hC,iC,jC,kC,lC,mC,nC,oC,pC,qC,rC,sC,tC,uC] H)
    (
      denK Tryz.prog (run Tryz.prog k) k C63rrrrlrllrlrrllrrr (K63_6 k nrrrrlrl nrrrrlrllrlrrl) #[x0,x1,x2,x3,x4,x5,x6,x7,x8,x9,kA,lA,mA,nA,oA,pA,qA,rA,sA,tA,uA,vA,wA,xA,yA,zA,aB,bB,cB,dB,eB,fB,gB,hB,iB,jB,kB,lB,mB,nB,oB,pB,qB,rB,sB,tB,uB,vB,wB,xB,yB,zB,y52,bC,cC,dC,eC,fC,gC,hC,iC,jC,kC,lC,mC,nC,oC,pC,qC,rC,sC,tC,uC] H)) (by kernel_rfl) ?_
  simp only [TJ63_0 k nrrrrlrl nxrrrrlrl hrrrrlrl nrrrrlrllrlrrl nxrrrrlrllrlrrl hrrrrlrllrlrrl]
  rfl
theorem TJ63_2 (k : Nat) (nrrrrlrl : Nat) (nxrrrrlrl : Value → Value → Value → Value → Value → Heap → Option (Value × Heap)) (hrrrrlrl : ∀ (x0 x1 x2 x3 x4 x5 x6 x7 x8 x9 kA lA mA nA oA pA qA rA sA tA uA vA wA xA yA zA aB bB cB dB eB fB gB hB iB jB kB lB mB nB oB pB qB rB sB tB uB vB wB xB yB zB aC bC cC dC eC fC gC hC iC jC kC lC mC nC oC pC qC rC sC tC uC : Value) (H : Heap), iterK (denK Tryz.prog (run Tryz.prog k) k C63rrrrlrll) (K63_2 k) nrrrrlrl #[x0,x1,x2,x3,x4,x5,x6,x7,x8,x9,kA,lA,mA,nA,oA,pA,qA,rA,sA,tA,uA,vA,wA,xA,yA,zA,aB,bB,cB,dB,eB,fB,gB,hB,iB,jB,kB,lB,mB,nB,oB,pB,qB,rB,sB,tB,uB,vB,wB,xB,yB,zB,aC,bC,cC,dC,eC,fC,gC,hC,iC,jC,kC,lC,mC,nC,oC,pC,qC,rC,sC,tC,uC] H = nxrrrrlrl x0 x1 x4 x5 x9 H) (nrrrrlrllrlrrl : Nat) (nxrrrrlrllrlrrl : Value → Value → Value → Value → Value → Value → Value → Heap → Option (Value × Heap)) (hrrrrlrllrlrrl : ∀ (x0 x1 x2 x3 x4 x5 x6 x7 x8 x9 kA lA mA nA oA pA qA rA sA tA uA vA wA xA yA zA aB bB cB dB eB fB gB hB iB jB kB lB mB nB oB pB qB rB sB tB uB vB wB xB yB zB aC bC cC dC eC fC gC hC iC jC kC lC mC nC oC pC qC rC sC tC uC : Value) (H : Heap), iterK (denK Tryz.prog (run Tryz.prog k) k C63rrrrlrllrlrrll) (K63_5 k nrrrrlrl) nrrrrlrllrlrrl #[x0,x1,x2,x3,x4,x5,x6,x7,x8,x9,kA,lA,mA,nA,oA,pA,qA,rA,sA,tA,uA,vA,wA,xA,yA,zA,aB,bB,cB,dB,eB,fB,gB,hB,iB,jB,kB,lB,mB,nB,oB,pB,qB,rB,sB,tB,uB,vB,wB,xB,yB,zB,aC,bC,cC,dC,eC,fC,gC,hC,iC,jC,kC,lC,mC,nC,oC,pC,qC,rC,sC,tC,uC] H = nxrrrrlrllrlrrl x0 x1 x4 x5 x9 dB eB H) (x0 x1 x2 x3 x4 x5 x6 x7 x8 x9 kA lA mA nA oA pA qA rA sA tA uA vA wA xA yA zA aB bB cB dB eB fB gB hB iB jB kB lB mB nB oB pB qB rB sB tB uB vB wB xB yB zB aC bC cC dC eC fC gC hC iC jC kC lC mC nC oC pC qC rC sC tC uC : Value) (H : Heap) : grpK Tryz.prog (run Tryz.prog k) (ropsC C63rrrrlrllrlrrllrrllrl) ((grps (ropsC C63rrrrlrllrlrrllrrllrl).toList).drop 2) #[x0,x1,x2,x3,x4,x5,x6,x7,x8,x9,kA,lA,mA,nA,oA,pA,qA,rA,sA,tA,uA,vA,wA,xA,yA,zA,aB,bB,cB,dB,eB,fB,gB,hB,iB,jB,kB,lB,mB,nB,oB,pB,qB,rB,sB,tB,uB,vB,wB,xB,yB,zB,aC,bC,cC,dC,eC,fC,gC,hC,iC,jC,kC,lC,mC,nC,oC,pC,qC,rC,sC,tC,uC] H ((K63_9 k nrrrrlrl nrrrrlrllrlrrl) .normal) = J63_2 k nxrrrrlrl nxrrrrlrllrlrrl x0 x1 x4 x5 x9 lA dB eB kB rB H := by
  refine Eq.trans (b :=
    (pPick kB rB (.bool false)).bind fun y44 =>
    condG y44 true
    (
      (fieldA 1 lA).bind fun y46 =>
      (ldV false 1 y46 H).bind fun y47 =>
      (binI .add x5 x1).bind fun y50 =>
      (binI .lss y47 y50).bind fun y51 =>
      grpK Tryz.prog (run Tryz.prog k) (ropsC C63rrrrlrllrlrrllrrllrl) ((grps (ropsC C63rrrrlrllrlrrllrrllrl).toList).drop 4) #[x0,x1,x2,x3,x4,x5,x6,x7,x8,x9,kA,lA,mA,nA,oA,pA,qA,rA,sA,tA,uA,vA,wA,xA,yA,zA,aB,bB,cB,dB,eB,fB,gB,hB,iB,jB,kB,lB,mB,nB,oB,pB,qB,rB,y44,y44,y46,y47,x5,x1,y50,y51,aC,bC,cC,dC,eC,fC,gC,hC,iC,jC,kC,lC,mC,nC,oC,pC,qC,rC,sC,tC,uC] H ((K63_9 k nrrrrlrl nrrrrlrllrlrrl) .normal))
    (
      grpK Tryz.prog (run Tryz.prog k) (ropsC C63rrrrlrllrlrrllrrllrl) ((grps (ropsC C63rrrrlrllrlrrllrrllrl).toList).drop 4) #[x0,x1,x2,x3,x4,x5,x6,x7,x8,x9,kA,lA,mA,nA,oA,pA,qA,rA,sA,tA,uA,vA,wA,xA,yA,zA,aB,bB,cB,dB,eB,fB,gB,hB,iB,jB,kB,lB,mB,nB,oB,pB,qB,rB,y44,y44,undef,undef,undef,undef,undef,undef,aC,bC,cC,dC,eC,fC,gC,hC,iC,jC,kC,lC,mC,nC,oC,pC,qC,rC,sC,tC,uC] H ((K63_9 k nrrrrlrl nrrrrlrllrlrrl) .normal))) (by kernel_rfl) ?_
  simp only [TJ63_1 k nrrrrlrl nxrrrrlrl hrrrrlrl nrrrrlrllrlrrl nxrrrrlrllrlrrl hrrrrlrllrlrrl]
  rfl
theorem TL63_3 (k : Nat) (nrrrrlrl : Nat) (nxrrrrlrl : Value → Value → Value → Value → Value → Heap → Option (Value × Heap)) (hrrrrlrl : ∀ (x0 x1 x2 x3 x4 x5 x6 x7 x8 x9 kA lA mA nA oA pA qA rA sA tA uA vA wA xA yA zA aB bB cB dB eB fB gB hB iB jB kB lB mB nB oB pB qB rB sB tB uB vB wB xB yB zB aC bC cC dC eC fC gC hC iC jC kC lC mC nC oC pC qC rC sC tC uC : Value) (H : Heap), iterK (denK Tryz.prog (run Tryz.prog k) k C63rrrrlrll) (K63_2 k) nrrrrlrl #[x0,x1,x2,x3,x4,x5,x6,x7,x8,x9,kA,lA,mA,nA,oA,pA,qA,rA,sA,tA,uA,vA,wA,xA,yA,zA,aB,bB,cB,dB,eB,fB,gB,hB,iB,jB,kB,lB,mB,nB,oB,pB,qB,rB,sB,tB,uB,vB,wB,xB,yB,zB,aC,bC,cC,dC,eC,fC,gC,hC,iC,jC,kC,lC,mC,nC,oC,pC,qC,rC,sC,tC,uC] H = nxrrrrlrl x0 x1 x4 x5 x9 H) : ∀ (n : Nat) (x0 x1 x2 x3 x4 x5 x6 x7 x8 x9 kA lA mA nA oA pA qA rA sA tA uA vA wA xA yA zA aB bB cB dB eB fB gB hB iB jB kB lB mB nB oB pB qB rB sB tB uB vB wB xB yB zB aC bC cC dC eC fC gC hC iC jC kC lC mC nC oC pC qC rC sC tC uC : Value) (H : Heap), iterK (denK Tryz.prog (run Tryz.prog k) k C63rrrrlrllrlrrll) (K63_5 k nrrrrlrl) n #[x0,x1,x2,x3,x4,x5,x6,x7,x8,x9,kA,lA,mA,nA,oA,pA,qA,rA,sA,tA,uA,vA,wA,xA,yA,zA,aB,bB,cB,dB,eB,fB,gB,hB,iB,jB,kB,lB,mB,nB,oB,pB,qB,rB,sB,tB,uB,vB,wB,xB,yB,zB,aC,bC,cC,dC,eC,fC,gC,hC,iC,jC,kC,lC,mC,nC,oC,pC,qC,rC,sC,tC,uC] H = L63_3 k nxrrrrlrl n x0 x1 x4 x5 x9 dB eB H := by
  intro n
  induction n with
  | zero => intros; rfl
  | succ n ih =>
    intro x0 x1 x2 x3 x4 x5 x6 x7 x8 x9 kA lA mA nA oA pA qA rA sA tA uA vA wA xA yA zA aB bB cB dB eB fB gB hB iB jB kB lB mB nB oB pB qB rB sB tB uB vB wB xB yB zB aC bC cC dC eC fC gC hC iC jC kC lC mC nC oC pC qC rC sC tC uC H
    refine Eq.trans (b :=
    (binI .lss eB (.int .i64 8)).bind fun y31 =>
    condV y31
    (
      (idxAgg 8 true 3 dB eB).bind fun y32 =>
      newK H (.cells #[(.string ⟨#[]⟩), (.int .i64 0), (.int .i64 0)] 49) fun y11 H_1 =>
      (stV 3 y11 y32 H_1).bind fun H_2 =>
      (fieldA 2 y11).bind fun y33 =>
      (ldV false 1 y33 H_2).bind fun y34 =>
      (binI .gtr y34 (.int .i64 0)).bind fun y35 =>
      condG y35 true
      (
        (fieldA 1 y11).bind fun y38 =>
        (ldV false 1 y38 H_2).bind fun y39 =>
        (fieldA 2 y11).bind fun y40 =>
        (ldV false 1 y40 H_2).bind fun y41 =>
        (binI .add y39 y41).bind fun y42 =>
        (binI .lss x5 y42).bind fun y43 =>
        grpK Tryz.prog (run Tryz.prog k) (ropsC C63rrrrlrllrlrrllrrllrl) ((grps (ropsC C63rrrrlrllrlrrllrrllrl).toList).drop 2) #[x0,x1,x2,x3,x4,x5,x6,x7,x8,x9,kA,y11,mA,nA,oA,pA,qA,rA,sA,tA,uA,vA,wA,xA,yA,zA,aB,bB,cB,dB,eB,y31,y32,y33,y34,y35,y35,x5,y38,y39,y40,y41,y42,y43,sB,tB,uB,vB,wB,xB,yB,zB,aC,bC,cC,dC,eC,fC,gC,hC,iC,jC,kC,lC,mC,nC,oC,pC,qC,rC,sC,tC,uC] H_2 ((K63_9 k nrrrrlrl n) .normal))
      (
        grpK Tryz.prog (run Tryz.prog k) (ropsC C63rrrrlrllrlrrllrrllrl) ((grps (ropsC C63rrrrlrllrlrrllrrllrl).toList).drop 2) #[x0,x1,x2,x3,x4,x5,x6,x7,x8,x9,kA,y11,mA,nA,oA,pA,qA,rA,sA,tA,uA,vA,wA,xA,yA,zA,aB,bB,cB,dB,eB,y31,y32,y33,y34,y35,y35,undef,undef,undef,undef,undef,undef,undef,sB,tB,uB,vB,wB,xB,yB,zB,aC,bC,cC,dC,eC,fC,gC,hC,iC,jC,kC,lC,mC,nC,oC,pC,qC,rC,sC,tC,uC] H_2 ((K63_9 k nrrrrlrl n) .normal)))
    (
      iterK (denK Tryz.prog (run Tryz.prog k) k C63rrrrlrll) (K63_2 k) nrrrrlrl #[x0,x1,x2,x3,x4,x5,x6,x7,x8,x9,kA,lA,mA,nA,oA,pA,qA,rA,sA,tA,uA,vA,wA,xA,yA,zA,aB,bB,cB,dB,eB,y31,gB,hB,iB,jB,kB,lB,mB,nB,oB,pB,qB,rB,sB,tB,uB,vB,wB,xB,yB,zB,aC,bC,cC,dC,eC,fC,gC,hC,iC,jC,kC,lC,mC,nC,oC,pC,qC,rC,sC,tC,uC] H)) (by kernel_rfl) ?_
    simp only [hrrrrlrl, TJ63_2 k nrrrrlrl nxrrrrlrl hrrrrlrl n (L63_3 k nxrrrrlrl n) ih]
    rfl
theorem TL63_4 (k : Nat) : ∀ (n : Nat) (x0 x1 x2 x3 x4 x5 x6 x7 x8 x9 kA lA mA nA oA pA qA rA sA tA uA vA wA xA yA zA aB bB cB dB eB fB gB hB iB jB kB lB mB nB oB pB qB rB sB tB uB vB wB xB yB zB aC bC cC dC eC fC gC hC iC jC kC lC mC nC oC pC qC rC sC tC uC : Value) (H : Heap), iterK (denK Tryz.prog (run Tryz.prog k) k C63rrrrlrll) (K63_2 k) n #[x0,x1,x2,x3,x4,x5,x6,x7,x8,x9,kA,lA,mA,nA,oA,pA,qA,rA,sA,tA,uA,vA,wA,xA,yA,zA,aB,bB,cB,dB,eB,fB,gB,hB,iB,jB,kB,lB,mB,nB,oB,pB,qB,rB,sB,tB,uB,vB,wB,xB,yB,zB,aC,bC,cC,dC,eC,fC,gC,hC,iC,jC,kC,lC,mC,nC,oC,pC,qC,rC,sC,tC,uC] H = L63_4 k n x0 x1 x4 x5 x9 H := by
  intro n
  induction n with
  | zero => intros; rfl
  | succ n ih =>
    intro x0 x1 x2 x3 x4 x5 x6 x7 x8 x9 kA lA mA nA oA pA qA rA sA tA uA vA wA xA yA zA aB bB cB dB eB fB gB hB iB jB kB lB mB nB oB pB qB rB sB tB uB vB wB xB yB zB aC bC cC dC eC fC gC hC iC jC kC lC mC nC oC pC qC rC sC tC uC H
    refine Eq.trans (b :=
    condV x9
    (
      (pNil x0).bind fun y27 =>
      (fieldA 2 y27).bind fun y28 =>
      (ldV true 24 y28 H).bind fun y29 =>
      iterK (denK Tryz.prog (run Tryz.prog k) k C63rrrrlrllrlrrll) (K63_5 k n) k #[x0,x1,x2,x3,x4,x5,x6,x7,x8,(.bool false),kA,lA,mA,nA,oA,pA,qA,rA,sA,tA,uA,vA,wA,xA,yA,x9,x0,y27,y28,y29,(.int .i64 0),fB,gB,hB,iB,jB,kB,lB,mB,nB,oB,pB,qB,rB,sB,tB,uB,vB,wB,xB,yB,zB,aC,bC,cC,dC,eC,fC,gC,hC,iC,jC,kC,lC,mC,nC,oC,pC,qC,rC,sC,tC,uC] H)
    (
      (binI .geq x4 (.int .i64 0)).bind fun y62 =>
      condG y62 true
      (
        (pNil x0).bind fun y66 =>
        (fieldA 1 y66).bind fun y67 =>
        (ldV false 1 y67 H).bind fun y68 =>
        (binI .sub y68 x1).bind fun y70 =>
        (binI .leq x5 y70).bind fun y71 =>
        (pPick y62 y71 (.bool false)).bind fun y72 =>
        some ((.tuple #[x4,x5,y72]), H))
      (
        (pPick y62 undef (.bool false)).bind fun y72_1 =>
        some ((.tuple #[x4,x5,y72_1]), H)))) (by kernel_rfl) ?_
    simp only [TL63_3 k n (L63_4 k n) ih]
    rfl
theorem TJ63_5 (k : Nat) (x0 x1 x2 x3 x4 x5 x6 x7 x8 x9 kA lA mA nA oA pA qA rA sA tA uA vA wA xA yA zA aB bB cB dB eB fB gB hB iB jB kB lB mB nB oB pB qB rB sB tB uB vB wB xB yB zB aC bC cC dC eC fC gC hC iC jC kC lC mC nC oC pC qC rC sC tC uC : Value) (H : Heap) : denK Tryz.prog (run Tryz.prog k) k C63rrrl (K63_10 k) #[x0,x1,x2,x3,x4,x5,x6,x7,x8,x9,kA,lA,mA,nA,oA,pA,qA,rA,sA,tA,uA,vA,wA,xA,yA,zA,aB,bB,cB,dB,eB,fB,gB,hB,iB,jB,kB,lB,mB,nB,oB,pB,qB,rB,sB,tB,uB,vB,wB,xB,yB,zB,aC,bC,cC,dC,eC,fC,gC,hC,iC,jC,kC,lC,mC,nC,oC,pC,qC,rC,sC,tC,uC] H = J63_5 k x0 x1 x4 H := by
  refine Eq.trans (b :=
    iterK (denK Tryz.prog (run Tryz.prog k) k C63rrrrlrll) (K63_2 k) k #[x0,x1,x2,x3,x4,(.int .i64 8),x6,x7,x8,(.bool true),kA,lA,mA,nA,oA,pA,qA,rA,sA,tA,uA,vA,wA,xA,yA,zA,aB,bB,cB,dB,eB,fB,gB,hB,iB,jB,kB,lB,mB,nB,oB,pB,qB,rB,sB,tB,uB,vB,wB,xB,yB,zB,aC,bC,cC,dC,eC,fC,gC,hC,iC,jC,kC,lC,mC,nC,oC,pC,qC,rC,sC,tC,uC] H) (by kernel_rfl) ?_
  simp only [TL63_4 k]
  rfl
theorem TL63_6 (k : Nat) : ∀ (n : Nat) (x0 x1 x2 x3 x4 x5 x6 x7 x8 x9 kA lA mA nA oA pA qA rA sA tA uA vA wA xA yA zA aB bB cB dB eB fB gB hB iB jB kB lB mB nB oB pB qB rB sB tB uB vB wB xB yB zB aC bC cC dC eC fC gC hC iC jC kC lC mC nC oC pC qC rC sC tC uC : Value) (H : Heap), iterK (denK Tryz.prog (run Tryz.prog k) k C63rrlrll) (K63_12 k) n #[x0,x1,x2,x3,x4,x5,x6,x7,x8,x9,kA,lA,mA,nA,oA,pA,qA,rA,sA,tA,uA,vA,wA,xA,yA,zA,aB,bB,cB,dB,eB,fB,gB,hB,iB,jB,kB,lB,mB,nB,oB,pB,qB,rB,sB,tB,uB,vB,wB,xB,yB,zB,aC,bC,cC,dC,eC,fC,gC,hC,iC,jC,kC,lC,mC,nC,oC,pC,qC,rC,sC,tC,uC] H = L63_6 k n x0 x1 x4 pA qA H := by
  intro n
  induction n with
  | zero => intros; rfl
  | succ n ih =>
    intro x0 x1 x2 x3 x4 x5 x6 x7 x8 x9 kA lA mA nA oA pA qA rA sA tA uA vA wA xA yA zA aB bB cB dB eB fB gB hB iB jB kB lB mB nB oB pB qB rB sB tB uB vB wB xB yB zB aC bC cC dC eC fC gC hC iC jC kC lC mC nC oC pC qC rC sC tC uC H
    refine Eq.trans (b :=
    (binI .lss qA (.int .i64 8)).bind fun y17 =>
    condV y17
    (
      (idxAgg 8 true 3 pA qA).bind fun y19 =>
      newK H (.cells #[(.string ⟨#[]⟩), (.int .i64 0), (.int .i64 0)] 49) fun y8 H_1 =>
      (stV 3 y8 y19 H_1).bind fun H_2 =>
      (fieldA 2 y8).bind fun y20 =>
      (ldV false 1 y20 H_2).bind fun y21 =>
      (binI .eql y21 (.int .i64 0)).bind fun y22 =>
      condV y22
      (
        denK Tryz.prog (run Tryz.prog k) k C63rrrl (K63_10 k) #[x0,x1,x2,x3,qA,x5,x6,qA,y8,x9,kA,lA,mA,nA,oA,pA,qA,y17,qA,y19,y20,y21,y22,qA,yA,zA,aB,bB,cB,dB,eB,fB,gB,hB,iB,jB,kB,lB,mB,nB,oB,pB,qB,rB,sB,tB,uB,vB,wB,xB,yB,zB,aC,bC,cC,dC,eC,fC,gC,hC,iC,jC,kC,lC,mC,nC,oC,pC,qC,rC,sC,tC,uC] H_2)
      (
        (binI .add qA (.int .i64 1)).bind fun y24 =>
        iterK (denK Tryz.prog (run Tryz.prog k) k C63rrlrll) (K63_12 k) n #[x0,x1,x2,x3,x4,x5,x6,qA,y8,x9,kA,lA,mA,nA,oA,pA,y24,y17,qA,y19,y20,y21,y22,xA,y24,zA,aB,bB,cB,dB,eB,fB,gB,hB,iB,jB,kB,lB,mB,nB,oB,pB,qB,rB,sB,tB,uB,vB,wB,xB,yB,zB,aC,bC,cC,dC,eC,fC,gC,hC,iC,jC,kC,lC,mC,nC,oC,pC,qC,rC,sC,tC,uC] H_2))
    (
      denK Tryz.prog (run Tryz.prog k) k C63rrrl (K63_10 k) #[x0,x1,x2,x3,x4,x5,x6,x7,x8,x9,kA,lA,mA,nA,oA,pA,qA,y17,sA,tA,uA,vA,wA,xA,yA,zA,aB,bB,cB,dB,eB,fB,gB,hB,iB,jB,kB,lB,mB,nB,oB,pB,qB,rB,sB,tB,uB,vB,wB,xB,yB,zB,aC,bC,cC,dC,eC,fC,gC,hC,iC,jC,kC,lC,mC,nC,oC,pC,qC,rC,sC,tC,uC] H)) (by kernel_rfl) ?_
    simp only [TJ63_5 k, ih]
    rfl
theorem TF63 (k : Nat) (x0 x1 x2 x3 x4 x5 x6 x7 x8 x9 kA lA mA nA oA pA qA rA sA tA uA vA wA xA yA zA aB bB cB dB eB fB gB hB iB jB kB lB mB nB oB pB qB rB sB tB uB vB wB xB yB zB aC bC cC dC eC fC gC hC iC jC kC lC mC nC oC pC qC rC sC tC uC : Value) (H : Heap) : denK Tryz.prog (run Tryz.prog k) k C63l (K63_13 k) #[x0,x1,x2,x3,x4,x5,x6,x7,x8,x9,kA,lA,mA,nA,oA,pA,qA,rA,sA,tA,uA,vA,wA,xA,yA,zA,aB,bB,cB,dB,eB,fB,gB,hB,iB,jB,kB,lB,mB,nB,oB,pB,qB,rB,sB,tB,uB,vB,wB,xB,yB,zB,aC,bC,cC,dC,eC,fC,gC,hC,iC,jC,kC,lC,mC,nC,oC,pC,qC,rC,sC,tC,uC] H = F63 k x0 x1 H := by
  refine Eq.trans (b :=
    (pNil x0).bind fun y13 =>
    (fieldA 2 y13).bind fun y14 =>
    (ldV true 24 y14 H).bind fun y15 =>
    iterK (denK Tryz.prog (run Tryz.prog k) k C63rrlrll) (K63_12 k) k #[x0,x1,x2,x3,(.int .i64 (-1)),(.int .i64 0),(.bool false),x7,x8,x9,kA,lA,x0,y13,y14,y15,(.int .i64 0),rA,sA,tA,uA,vA,wA,xA,yA,zA,aB,bB,cB,dB,eB,fB,gB,hB,iB,jB,kB,lB,mB,nB,oB,pB,qB,rB,sB,tB,uB,vB,wB,xB,yB,zB,aC,bC,cC,dC,eC,fC,gC,hC,iC,jC,kC,lC,mC,nC,oC,pC,qC,rC,sC,tC,uC] H) (by kernel_rfl) ?_
  simp only [TL63_6 k]
  rfl
theorem run63 (k : Nat) (x0 x1 : Value) (H : Heap) : run Tryz.prog (k + 1) 63 #[x0,x1] H = F63 k x0 x1 H := by
  refine Eq.trans (b := denK Tryz.prog (run Tryz.prog k) k C63l (K63_13 k) #[x0,x1,undef,undef,undef,undef,undef,undef,undef,undef,undef,undef,undef,undef,undef,undef,undef,undef,undef,undef,undef,undef,undef,undef,undef,undef,undef,undef,undef,undef,undef,undef,undef,undef,undef,undef,undef,undef,undef,undef,undef,undef,undef,undef,undef,undef,undef,undef,undef,undef,undef,undef,undef,undef,undef,undef,undef,undef,undef,undef,undef,undef,undef,undef,undef,undef,undef,undef,undef,undef,undef,undef,undef] H) (by kernel_rfl) ?_
  exact TF63 k x0 x1 undef undef undef undef undef undef undef undef undef undef undef undef undef undef undef undef undef undef undef undef undef undef undef undef undef undef undef undef undef undef undef undef undef undef undef undef undef undef undef undef undef undef undef undef undef undef undef undef undef undef undef undef undef undef undef undef undef undef undef undef undef undef undef undef undef undef undef undef undef undef undef H

end Go.PG

namespace Go.PG
open Go.Proofs

noncomputable def C25l : Code := sub [.l] (bodyOf Tryz.f25)
noncomputable def C25r : Code := sub [.r] (bodyOf Tryz.f25)
noncomputable def K25_0 (k : Nat) : Ex → Fr → Heap → Option (Value × Heap) := finK Tryz.prog Tryz.f25
noncomputable def K25_1 (k : Nat) : Ex → Fr → Heap → Option (Value × Heap) := seqC (denK Tryz.prog (run Tryz.prog k) k C25r (K25_0 k)) (K25_0 k)

noncomputable def F25 (k : Nat) (x0 x1 x2 x3 : Value) (H : Heap) : Option (Value × Heap) :=
  bindP (run Tryz.prog k 61 #[x0,x1,x2,x3] H) fun y17 H_1 =>
  (pExtract y17 0).bind fun y18 =>
  (pExtract y17 1).bind fun y19 =>
  (binI .neq y19 (.int .i64 0)).bind fun y21 =>
  condV y21
  (
    some ((.tuple #[(.string ⟨#[]⟩), y19]), H_1))
  (
    (pNil x0).bind fun y24 =>
    (fieldA 0 y24).bind fun y25 =>
    (ldV false 1 y25 H_1).bind fun y26 =>
    (pMethod Tryz.prog y26 "Read" [y18, x3]).bind fun fa => bindP (run Tryz.prog k fa.1 fa.2 H_1) fun y29 H_2 =>
    (pExtract y29 0).bind fun y30 =>
    (pExtract y29 1).bind fun y31 =>
    some ((.tuple #[y30,y31]), H_2))

theorem TF25 (k : Nat) (x0 x1 x2 x3 x4 x5 x6 x7 x8 x9 kA lA mA nA oA pA qA rA sA tA uA vA wA xA yA zA aB bB cB dB eB fB : Value) (H : Heap) : denK Tryz.prog (run Tryz.prog k) k C25l (K25_1 k) #[x0,x1,x2,x3,x4,x5,x6,x7,x8,x9,kA,lA,mA,nA,oA,pA,qA,rA,sA,tA,uA,vA,wA,xA,yA,zA,aB,bB,cB,dB,eB,fB] H = F25 k x0 x1 x2 x3 H := by
  kernel_rfl
theorem run25 (k : Nat) (x0 x1 x2 x3 : Value) (H : Heap) : run Tryz.prog (k + 1) 25 #[x0,x1,x2,x3] H = F25 k x0 x1 x2 x3 H := by
  refine Eq.trans (b := denK Tryz.prog (run Tryz.prog k) k C25l (K25_1 k) #[x0,x1,x2,x3,undef,undef,undef,undef,undef,undef,undef,undef,undef,undef,undef,undef,undef,undef,undef,undef,undef,undef,undef,undef,undef,undef,undef,undef,undef,undef,undef,undef] H) (by kernel_rfl) ?_
  exact TF25 k x0 x1 x2 x3 undef undef undef undef undef undef undef undef undef undef undef undef undef undef undef undef undef undef undef undef undef undef undef undef undef undef undef undef H

end Go.PG

namespace Go.PG
open Go.Proofs

noncomputable def C26l : Code := sub [.l] (bodyOf Tryz.f26)
noncomputable def C26r : Code := sub [.r] (bodyOf Tryz.f26)
noncomputable def K26_0 (k : Nat) : Ex → Fr → Heap → Option (Value × Heap) := finK Tryz.prog Tryz.f26
noncomputable def K26_1 (k : Nat) : Ex → Fr → Heap → Option (Value × Heap) := seqC (denK Tryz.prog (run Tryz.prog k) k C26r (K26_0 k)) (K26_0 k)

noncomputable def F26 (k : Nat) (x0 x1 x2 x3 x4 : Value) (H : Heap) : Option (Value × Heap) :=
  bindP (run Tryz.prog k 61 #[x0,x1,x2,x3] H) fun y18 H_1 =>
  (pExtract y18 0).bind fun y19 =>
  (pExtract y18 1).bind fun y20 =>
  (binI .neq y20 (.int .i64 0)).bind fun y22 =>
  condV y22
  (
    some (y20, H_1))
  (
    (pNil x0).bind fun y25 =>
    (fieldA 0 y25).bind fun y26 =>
    (ldV false 1 y26 H_1).bind fun y27 =>
    (pMethod Tryz.prog y27 "Write" [y19, x3, x4]).bind fun fa => bindP (run Tryz.prog k fa.1 fa.2 H_1) fun y31 H_2 =>
    some (y31, H_2))

theorem TF26 (k : Nat) (x0 x1 x2 x3 x4 x5 x6 x7 x8 x9 kA lA mA nA oA pA qA rA sA tA uA vA wA xA yA zA aB bB cB dB eB fB : Value) (H : Heap) : denK Tryz.prog (run Tryz.prog k) k C26l (K26_1 k) #[x0,x1,x2,x3,x4,x5,x6,x7,x8,x9,kA,lA,mA,nA,oA,pA,qA,rA,sA,tA,uA,vA,wA,xA,yA,zA,aB,bB,cB,dB,eB,fB] H = F26 k x0 x1 x2 x3 x4 H := by
  kernel_rfl
theorem run26 (k : Nat) (x0 x1 x2 x3 x4 : Value) (H : Heap) : run Tryz.prog (k + 1) 26 #[x0,x1,x2,x3,x4] H = F26 k x0 x1 x2 x3 x4 H := by
  refine Eq.trans (b := denK Tryz.prog (run Tryz.prog k) k C26l (K26_1 k) #[x0,x1,x2,x3,x4,undef,undef,undef,undef,undef,undef,undef,undef,undef,undef,undef,undef,undef,undef,undef,undef,undef,undef,undef,undef,undef,undef,undef,undef,undef,undef,undef] H) (by kernel_rfl) ?_
  exact TF26 k x0 x1 x2 x3 x4 undef undef undef undef undef undef undef undef undef undef undef undef undef undef undef undef undef undef undef undef undef undef undef undef undef undef undef H

end Go.PG

namespace Go.PG
open Go.Proofs

noncomputable def C28l : Code := sub [.l] (bodyOf Tryz.f28)
noncomputable def C28r : Code := sub [.r] (bodyOf Tryz.f28)
noncomputable def K28_0 (k : Nat) : Ex → Fr → Heap → Option (Value × Heap) := finK Tryz.prog Tryz.f28
noncomputable def K28_1 (k : Nat) : Ex → Fr → Heap → Option (Value × Heap) := seqC (denK Tryz.prog (run Tryz.prog k) k C28r (K28_0 k)) (K28_0 k)

noncomputable def F28 (k : Nat) (x0 x1 x2 : Value) (H : Heap) : Option (Value × Heap) :=
  bindP (run Tryz.prog k 65 #[x0,x1,x2] H) fun y14 H_1 =>
  (pExtract y14 0).bind fun y15 =>
  (pExtract y14 1).bind fun y16 =>
  (binI .neq y16 (.int .i64 0)).bind fun y18 =>
  condV y18
  (
    some (y16, H_1))
  (
    (pNil x0).bind fun y22 =>
    (fieldA 2 y22).bind fun y23 =>
    (idxArr 8 3 y23 y15).bind fun y24 =>
    (ldV true 3 y24 H_1).bind fun y25 =>
    newK H_1 (.cells #[(.string ⟨#[]⟩), (.int .i64 0), (.int .i64 0)] 49) fun y9 H_2 =>
    (stV 3 y9 y25 H_2).bind fun H_3 =>
    (fieldA 0 y9).bind fun y27 =>
    (stV 1 y27 x2 H_3).bind fun H_4 =>
    (ldV true 3 y9 H_4).bind fun y30 =>
    bindP (run Tryz.prog k 64 #[x0,y15,y30] H_4) fun y31 H_5 =>
    some (y31, H_5))

theorem TF28 (k : Nat) (x0 x1 x2 x3 x4 x5 x6 x7 x8 x9 kA lA mA nA oA pA qA rA sA tA uA vA wA xA yA zA aB bB cB dB eB fB : Value) (H : Heap) : denK Tryz.prog (run Tryz.prog k) k C28l (K28_1 k) #[x0,x1,x2,x3,x4,x5,x6,x7,x8,x9,kA,lA,mA,nA,oA,pA,qA,rA,sA,tA,uA,vA,wA,xA,yA,zA,aB,bB,cB,dB,eB,fB] H = F28 k x0 x1 x2 H := by
  kernel_rfl
theorem run28 (k : Nat) (x0 x1 x2 : Value) (H : Heap) : run Tryz.prog (k + 1) 28 #[x0,x1,x2] H = F28 k x0 x1 x2 H := by
  refine Eq.trans (b := denK Tryz.prog (run Tryz.prog k) k C28l (K28_1 k) #[x0,x1,x2,undef,undef,undef,undef,undef,undef,undef,undef,undef,undef,undef,undef,undef,undef,undef,undef,undef,undef,undef,undef,undef,undef,undef,undef,undef,undef,undef,undef,undef] H) (by kernel_rfl) ?_
  exact TF28 k x0 x1 x2 undef undef undef undef undef undef undef undef undef undef undef undef undef undef undef undef undef undef undef undef undef undef undef undef undef undef undef undef undef H

end Go.PG

namespace Go.PG
open Go.Proofs

noncomputable def C29l : Code := sub [.l] (bodyOf Tryz.f29)
noncomputable def C29r : Code := sub [.r] (bodyOf Tryz.f29)
noncomputable def K29_0 (k : Nat) : Ex → Fr → Heap → Option (Value × Heap) := finK Tryz.prog Tryz.f29
noncomputable def K29_1 (k : Nat) : Ex → Fr → Heap → Option (Value × Heap) := seqC (denK Tryz.prog (run Tryz.prog k) k C29r (K29_0 k)) (K29_0 k)

noncomputable def F29 (k : Nat) (x0 x1 : Value) (H : Heap) : Option (Value × Heap) :=
  bindP (run Tryz.prog k 62 #[x0,x1] H) fun y11 H_1 =>
  (pExtract y11 0).bind fun y12 =>
  (pExtract y11 1).bind fun y13 =>
  (pUn .not y13).bind fun y15 =>
  condV y15
  (
    some ((.int .i64 4), H_1))
  (
    (pNil x0).bind fun y17 =>
    (fieldA 0 y17).bind fun y18 =>
    (ldV false 1 y18 H_1).bind fun y19 =>
    (pMethod Tryz.prog y19 "Trim" [y12, (.int .i64 1)]).bind fun fa => bindP (run Tryz.prog k fa.1 fa.2 H_1) fun y21 H_2 =>
    (binI .neq y21 (.int .i64 0)).bind fun y23 =>
    condV y23
    (
      some (y21, H_2))
    (
      (pBuild Tryz.prog 49 []).bind fun y27 =>
      (pNil x0).bind fun y28 =>
      (fieldA 2 y28).bind fun y29 =>
      (idxArr 8 3 y29 y12).bind fun y30 =>
      (stV 3 y30 y27 H_2).bind fun H_3 =>
      some ((.int .i64 0), H_3)))

theorem TF29 (k : Nat) (x0 x1 x2 x3 x4 x5 x6 x7 x8 x9 kA lA mA nA oA pA qA rA sA tA uA vA wA xA yA zA aB bB cB dB eB : Value) (H : Heap) : denK Tryz.prog (run Tryz.prog k) k C29l (K29_1 k) #[x0,x1,x2,x3,x4,x5,x6,x7,x8,x9,kA,lA,mA,nA,oA,pA,qA,rA,sA,tA,uA,vA,wA,xA,yA,zA,aB,bB,cB,dB,eB] H = F29 k x0 x1 H := by
  kernel_rfl
theorem run29 (k : Nat) (x0 x1 : Value) (H : Heap) : run Tryz.prog (k + 1) 29 #[x0,x1] H = F29 k x0 x1 H := by
  refine Eq.trans (b := denK Tryz.prog (run Tryz.prog k) k C29l (K29_1 k) #[x0,x1,undef,undef,undef,undef,undef,undef,undef,undef,undef,undef,undef,undef,undef,undef,undef,undef,undef,undef,undef,undef,undef,undef,undef,undef,undef,undef,undef,undef,undef] H) (by kernel_rfl) ?_
  exact TF29 k x0 x1 undef undef undef undef undef undef undef undef undef undef undef undef undef undef undef undef undef undef undef undef undef undef undef undef undef undef undef undef undef H

end Go.PG

namespace Go.PG
open Go.Proofs

noncomputable def C61l : Code := sub [.l] (bodyOf Tryz.f61)
noncomputable def C61r : Code := sub [.r] (bodyOf Tryz.f61)
noncomputable def C61rrrrll : Code := sub [.r, .r, .r, .r, .l, .l] (bodyOf Tryz.f61)
noncomputable def C61rrrrlr : Code := sub [.r, .r, .r, .r, .l, .r] (bodyOf Tryz.f61)
noncomputable def C61rrrrr : Code := sub [.r, .r, .r, .r, .r] (bodyOf Tryz.f61)
noncomputable def K61_0 (k : Nat) : Ex → Fr → Heap → Option (Value × Heap) := finK Tryz.prog Tryz.f61
noncomputable def K61_1 (k : Nat) : Ex → Fr → Heap → Option (Value × Heap) := seqC (denK Tryz.prog (run Tryz.prog k) k C61rrrrr (K61_0 k)) (K61_0 k)
noncomputable def K61_2 (k : Nat) : Ex → Fr → Heap → Option (Value × Heap) := seqC (denK Tryz.prog (run Tryz.prog k) k C61rrrrlr (K61_1 k)) (K61_1 k)
noncomputable def K61_3 (k : Nat) : Ex → Fr → Heap → Option (Value × Heap) := seqC (denK Tryz.prog (run Tryz.prog k) k C61r (K61_0 k)) (K61_0 k)

noncomputable def J61_0 (k : Nat) (x2 mA nB tB : Value) (H : Heap) : Option (Value × Heap) :=
  (pPick nB (.bool true) tB).bind fun y46 =>
  condV y46
  (
    some ((.tuple #[(.int .i64 0),(.int .i64 1)]), H))
  (
    (fieldA 1 mA).bind fun y47 =>
    (ldV false 1 y47 H).bind fun y48 =>
    (binI .add y48 x2).bind fun y50 =>
    some ((.tuple #[y50,(.int .i64 0)]), H))
noncomputable def J61_1 (k : Nat) (x2 x3 mA jB lB : Value) (H : Heap) : Option (Value × Heap) :=
  (pPick jB (.bool true) lB).bind fun y38 =>
  condG y38 false
  (
    (fieldA 2 mA).bind fun y41 =>
    (ldV false 1 y41 H).bind fun y42 =>
    (binI .sub y42 x3).bind fun y44 =>
    (binI .gtr x2 y44).bind fun y45 =>
    J61_0 k x2 mA y38 y45 H)
  (
    J61_0 k x2 mA y38 undef H)
noncomputable def J61_2 (k : Nat) (x2 x3 mA dB hB : Value) (H : Heap) : Option (Value × Heap) :=
  (pPick dB (.bool true) hB).bind fun y34 =>
  condG y34 false
  (
    (binI .lss x2 (.int .i64 0)).bind fun y37 =>
    J61_1 k x2 x3 mA y34 y37 H)
  (
    J61_1 k x2 x3 mA y34 undef H)
noncomputable def F61 (k : Nat) (x0 x1 x2 x3 : Value) (H : Heap) : Option (Value × Heap) :=
  bindP (run Tryz.prog k 62 #[x0,x1] H) fun y16 H_1 =>
  (pExtract y16 0).bind fun y17 =>
  (pExtract y16 1).bind fun y18 =>
  (pUn .not y18).bind fun y20 =>
  condV y20
  (
    some ((.tuple #[(.int .i64 0),(.int .i64 4)]), H_1))
  (
    (pNil x0).bind fun y23 =>
    (fieldA 2 y23).bind fun y24 =>
    (idxArr 8 3 y24 y17).bind fun y25 =>
    (ldV true 3 y25 H_1).bind fun y26 =>
    newK H_1 (.cells #[(.string ⟨#[]⟩), (.int .i64 0), (.int .i64 0)] 49) fun y12 H_2 =>
    (stV 3 y12 y26 H_2).bind fun H_3 =>
    (binI .lss x3 (.int .i64 1)).bind fun y28 =>
    condG y28 false
    (
      (fieldA 2 y12).bind fun y31 =>
      (ldV false 1 y31 H_3).bind fun y32 =>
      (binI .gtr x3 y32).bind fun y33 =>
      J61_2 k x2 x3 y12 y28 y33 H_3)
    (
      J61_2 k x2 x3 y12 y28 undef H_3))

theorem TJ61_0 (k : Nat) (x0 x1 x2 x3 x4 x5 x6 x7 x8 x9 kA lA mA nA oA pA qA rA sA tA uA vA wA xA yA zA aB bB cB dB eB fB gB hB iB jB kB lB mB nB oB pB qB rB sB tB uB vB wB xB yB : Value) (H : Heap) : grpK Tryz.prog (run Tryz.prog k) (ropsC C61rrrrll) ((grps (ropsC C61rrrrll).toList).drop 6) #[x0,x1,x2,x3,x4,x5,x6,x7,x8,x9,kA,lA,mA,nA,oA,pA,qA,rA,sA,tA,uA,vA,wA,xA,yA,zA,aB,bB,cB,dB,eB,fB,gB,hB,iB,jB,kB,lB,mB,nB,oB,pB,qB,rB,sB,tB,uB,vB,wB,xB,yB] H ((K61_2 k) .normal) = J61_0 k x2 mA nB tB H := by
  kernel_rfl
theorem TJ61_1 (k : Nat) (x0 x1 x2 x3 x4 x5 x6 x7 x8 x9 kA lA mA nA oA pA qA rA sA tA uA vA wA xA yA zA aB bB cB dB eB fB gB hB iB jB kB lB mB nB oB pB qB rB sB tB uB vB wB xB yB : Value) (H : Heap) : grpK Tryz.prog (run Tryz.prog k) (ropsC C61rrrrll) ((grps (ropsC C61rrrrll).toList).drop 4) #[x0,x1,x2,x3,x4,x5,x6,x7,x8,x9,kA,lA,mA,nA,oA,pA,qA,rA,sA,tA,uA,vA,wA,xA,yA,zA,aB,bB,cB,dB,eB,fB,gB,hB,iB,jB,kB,lB,mB,nB,oB,pB,qB,rB,sB,tB,uB,vB,wB,xB,yB] H ((K61_2 k) .normal) = J61_1 k x2 x3 mA jB lB H := by
  refine Eq.trans (b :=
    (pPick jB (.bool true) lB).bind fun y38 =>
    condG y38 false
    (
      (fieldA 2 mA).bind fun y41 =>
      (ldV false 1 y41 H).bind fun y42 =>
      (binI .sub y42 x3).bind fun y44 =>
      (binI .gtr x2 y44).bind fun y45 =>
      grpK Tryz.prog (run Tryz.prog k) (ropsC C61rrrrll) ((grps (ropsC C61rrrrll).toList).drop 6) #[x0,x1,x2,x3,x4,x5,x6,x7,x8,x9,kA,lA,mA,nA,oA,pA,qA,rA,sA,tA,uA,vA,wA,xA,yA,zA,aB,bB,cB,dB,eB,fB,gB,hB,iB,jB,kB,lB,y38,y38,x2,y41,y42,x3,y44,y45,uB,vB,wB,xB,yB] H ((K61_2 k) .normal))
    (
      grpK Tryz.prog (run Tryz.prog k) (ropsC C61rrrrll) ((grps (ropsC C61rrrrll).toList).drop 6) #[x0,x1,x2,x3,x4,x5,x6,x7,x8,x9,kA,lA,mA,nA,oA,pA,qA,rA,sA,tA,uA,vA,wA,xA,yA,zA,aB,bB,cB,dB,eB,fB,gB,hB,iB,jB,kB,lB,y38,y38,undef,undef,undef,undef,undef,undef,uB,vB,wB,xB,yB] H ((K61_2 k) .normal))) (by kernel_rfl) ?_
  simp only [TJ61_0 k]
  rfl
theorem TJ61_2 (k : Nat) (x0 x1 x2 x3 x4 x5 x6 x7 x8 x9 kA lA mA nA oA pA qA rA sA tA uA vA wA xA yA zA aB bB cB dB eB fB gB hB iB jB kB lB mB nB oB pB qB rB sB tB uB vB wB xB yB : Value) (H : Heap) : grpK Tryz.prog (run Tryz.prog k) (ropsC C61rrrrll) ((grps (ropsC C61rrrrll).toList).drop 2) #[x0,x1,x2,x3,x4,x5,x6,x7,x8,x9,kA,lA,mA,nA,oA,pA,qA,rA,sA,tA,uA,vA,wA,xA,yA,zA,aB,bB,cB,dB,eB,fB,gB,hB,iB,jB,kB,lB,mB,nB,oB,pB,qB,rB,sB,tB,uB,vB,wB,xB,yB] H ((K61_2 k) .normal) = J61_2 k x2 x3 mA dB hB H := by
  refine Eq.trans (b :=
    (pPick dB (.bool true) hB).bind fun y34 =>
    condG y34 false
    (
      (binI .lss x2 (.int .i64 0)).bind fun y37 =>
      grpK Tryz.prog (run Tryz.prog k) (ropsC C61rrrrll) ((grps (ropsC C61rrrrll).toList).drop 4) #[x0,x1,x2,x3,x4,x5,x6,x7,x8,x9,kA,lA,mA,nA,oA,pA,qA,rA,sA,tA,uA,vA,wA,xA,yA,zA,aB,bB,cB,dB,eB,fB,gB,hB,y34,y34,x2,y37,mB,nB,oB,pB,qB,rB,sB,tB,uB,vB,wB,xB,yB] H ((K61_2 k) .normal))
    (
      grpK Tryz.prog (run Tryz.prog k) (ropsC C61rrrrll) ((grps (ropsC C61rrrrll).toList).drop 4) #[x0,x1,x2,x3,x4,x5,x6,x7,x8,x9,kA,lA,mA,nA,oA,pA,qA,rA,sA,tA,uA,vA,wA,xA,yA,zA,aB,bB,cB,dB,eB,fB,gB,hB,y34,y34,undef,undef,mB,nB,oB,pB,qB,rB,sB,tB,uB,vB,wB,xB,yB] H ((K61_2 k) .normal))) (by kernel_rfl) ?_
  simp only [TJ61_1 k]
  rfl
theorem TF61 (k : Nat) (x0 x1 x2 x3 x4 x5 x6 x7 x8 x9 kA lA mA nA oA pA qA rA sA tA uA vA wA xA yA zA aB bB cB dB eB fB gB hB iB jB kB lB mB nB oB pB qB rB sB tB uB vB wB xB yB : Value) (H : Heap) : denK Tryz.prog (run Tryz.prog k) k C61l (K61_3 k) #[x0,x1,x2,x3,x4,x5,x6,x7,x8,x9,kA,lA,mA,nA,oA,pA,qA,rA,sA,tA,uA,vA,wA,xA,yA,zA,aB,bB,cB,dB,eB,fB,gB,hB,iB,jB,kB,lB,mB,nB,oB,pB,qB,rB,sB,tB,uB,vB,wB,xB,yB] H = F61 k x0 x1 x2 x3 H := by
  refine Eq.trans (b :=
    bindP (run Tryz.prog k 62 #[x0,x1] H) fun y16 H_1 =>
    (pExtract y16 0).bind fun y17 =>
    (pExtract y16 1).bind fun y18 =>
    (pUn .not y18).bind fun y20 =>
    condV y20
    (
      some ((.tuple #[(.int .i64 0),(.int .i64 4)]), H_1))
    (
      (pNil x0).bind fun y23 =>
      (fieldA 2 y23).bind fun y24 =>
      (idxArr 8 3 y24 y17).bind fun y25 =>
      (ldV true 3 y25 H_1).bind fun y26 =>
      newK H_1 (.cells #[(.string ⟨#[]⟩), (.int .i64 0), (.int .i64 0)] 49) fun y12 H_2 =>
      (stV 3 y12 y26 H_2).bind fun H_3 =>
      (binI .lss x3 (.int .i64 1)).bind fun y28 =>
      condG y28 false
      (
        (fieldA 2 y12).bind fun y31 =>
        (ldV false 1 y31 H_3).bind fun y32 =>
        (binI .gtr x3 y32).bind fun y33 =>
        grpK Tryz.prog (run Tryz.prog k) (ropsC C61rrrrll) ((grps (ropsC C61rrrrll).toList).drop 2) #[x0,x1,x2,x3,x4,x5,x6,x7,(.int .i64 0),(.int .i64 0),y17,y18,y12,y16,x0,x1,y16,y17,y18,y18,y20,x0,y17,y23,y24,y25,y26,x3,y28,y28,x3,y31,y32,y33,iB,jB,kB,lB,mB,nB,oB,pB,qB,rB,sB,tB,uB,vB,wB,xB,yB] H_3 ((K61_2 k) .normal))
      (
        grpK Tryz.prog (run Tryz.prog k) (ropsC C61rrrrll) ((grps (ropsC C61rrrrll).toList).drop 2) #[x0,x1,x2,x3,x4,x5,x6,x7,(.int .i64 0),(.int .i64 0),y17,y18,y12,y16,x0,x1,y16,y17,y18,y18,y20,x0,y17,y23,y24,y25,y26,x3,y28,y28,undef,undef,undef,undef,iB,jB,kB,lB,mB,nB,oB,pB,qB,rB,sB,tB,uB,vB,wB,xB,yB] H_3 ((K61_2 k) .normal)))) (by kernel_rfl) ?_
  simp only [TJ61_2 k]
  rfl
theorem run61 (k : Nat) (x0 x1 x2 x3 : Value) (H : Heap) : run Tryz.prog (k + 1) 61 #[x0,x1,x2,x3] H = F61 k x0 x1 x2 x3 H := by
  refine Eq.trans (b := denK Tryz.prog (run Tryz.prog k) k C61l (K61_3 k) #[x0,x1,x2,x3,undef,undef,undef,undef,undef,undef,undef,undef,undef,undef,undef,undef,undef,undef,undef,undef,undef,undef,undef,undef,undef,undef,undef,undef,undef,undef,undef,undef,undef,undef,undef,undef,undef,undef,undef,undef,undef,undef,undef,undef,undef,undef,undef,undef,undef,undef,undef] H) (by kernel_rfl) ?_
  exact TF61 k x0 x1 x2 x3 undef undef undef undef undef undef undef undef undef undef undef undef undef undef undef undef undef undef undef undef undef undef undef undef undef undef undef undef undef undef undef undef undef undef undef undef undef undef undef undef undef undef undef undef undef undef undef H

end Go.PG

namespace Go.PG
open Go.Proofs

noncomputable def C64l : Code := sub [.l] (bodyOf Tryz.f64)
noncomputable def C64r : Code := sub [.r] (bodyOf Tryz.f64)
noncomputable def K64_0 (k : Nat) : Ex → Fr → Heap → Option (Value × Heap) := finK Tryz.prog Tryz.f64
noncomputable def K64_1 (k : Nat) : Ex → Fr → Heap → Option (Value × Heap) := seqC (denK Tryz.prog (run Tryz.prog k) k C64r (K64_0 k)) (K64_0 k)

noncomputable def F64 (k : Nat) (x0 x1 x2 : Value) (H : Heap) : Option (Value × Heap) :=
  bindP (pBox 49 x2 H) fun y5 H_1 =>
  (pNil x0).bind fun y9 =>
  (fieldA 0 y9).bind fun y10 =>
  (ldV false 1 y10 H_1).bind fun y11 =>
  (ldV true 3 y5 H_1).bind fun y13 =>
  quietK H_1 [] (run Tryz.prog k 86 #[y13] (H_1.atFloor H_1.next)) fun y14 H_2 m =>
  (pNil y11).bind fun y15 =>
  (pMethod Tryz.prog y11 "Write" [x1, (.int .i64 1), y14]).bind fun fa => bindP (run Tryz.prog k fa.1 fa.2 H_2) fun y17 H_3 =>
  (binI .neq y17 (.int .i64 0)).bind fun y19 =>
  condV y19
  (
    some (y17, H_3))
  (
    (ldV true 3 y5 H_3).bind fun y23 =>
    (pNil x0).bind fun y24 =>
    (fieldA 2 y24).bind fun y25 =>
    (idxArr 8 3 y25 x1).bind fun y26 =>
    (stV 3 y26 y23 H_3).bind fun H_4 =>
    some ((.int .i64 0), H_4))

theorem TF64 (k : Nat) (x0 x1 x2 x3 x4 x5 x6 x7 x8 x9 kA lA mA nA oA pA qA rA sA tA uA vA wA xA yA zA aB : Value) (H : Heap) : denK Tryz.prog (run Tryz.prog k) k C64l (K64_1 k) #[x0,x1,x2,x3,x4,x5,x6,x7,x8,x9,kA,lA,mA,nA,oA,pA,qA,rA,sA,tA,uA,vA,wA,xA,yA,zA,aB] H = F64 k x0 x1 x2 H := by
  kernel_rfl
theorem run64 (k : Nat) (x0 x1 x2 : Value) (H : Heap) : run Tryz.prog (k + 1) 64 #[x0,x1,x2] H = F64 k x0 x1 x2 H := by
  refine Eq.trans (b := denK Tryz.prog (run Tryz.prog k) k C64l (K64_1 k) #[x0,x1,x2,undef,undef,undef,undef,undef,undef,undef,undef,undef,undef,undef,undef,undef,undef,undef,undef,undef,undef,undef,undef,undef,undef,undef,undef] H) (by kernel_rfl) ?_
  exact TF64 k x0 x1 x2 undef undef undef undef undef undef undef undef undef undef undef undef undef undef undef undef undef undef undef undef undef undef undef undef H

end Go.PG

namespace Go.PG
open Go.Proofs

noncomputable def C65l : Code := sub [.l] (bodyOf Tryz.f65)
noncomputable def C65r : Code := sub [.r] (bodyOf Tryz.f65)
noncomputable def K65_0 (k : Nat) : Ex → Fr → Heap → Option (Value × Heap) := finK Tryz.prog Tryz.f65
noncomputable def K65_1 (k : Nat) : Ex → Fr → Heap → Option (Value × Heap) := seqC (denK Tryz.prog (run Tryz.prog k) k C65r (K65_0 k)) (K65_0 k)

noncomputable def F65 (k : Nat) (x0 x1 x2 : Value) (H : Heap) : Option (Value × Heap) :=
  bindP (run Tryz.prog k 62 #[x0,x1] H) fun y15 H_1 =>
  (pExtract y15 0).bind fun y16 =>
  (pExtract y15 1).bind fun y17 =>
  (pUn .not y17).bind fun y19 =>
  condV y19
  (
    some ((.tuple #[(.int .i64 0),(.int .i64 4)]), H_1))
  (
    bindP (run Tryz.prog k 11 #[x2] H_1) fun y21 H_2 =>
    (pUn .not y21).bind fun y22 =>
    condV y22
    (
      some ((.tuple #[(.int .i64 0),(.int .i64 1)]), H_2))
    (
      bindP (run Tryz.prog k 62 #[x0,x2] H_2) fun y26 H_3 =>
      (pExtract y26 0).bind fun y27 =>
      (pExtract y26 1).bind fun y28 =>
      condV y28
      (
        some ((.tuple #[(.int .i64 0),(.int .i64 8)]), H_3))
      (
        some ((.tuple #[y16,(.int .i64 0)]), H_3))))

theorem TF65 (k : Nat) (x0 x1 x2 x3 x4 x5 x6 x7 x8 x9 kA lA mA nA oA pA qA rA sA tA uA vA wA xA yA zA aB bB cB dB eB : Value) (H : Heap) : denK Tryz.prog (run Tryz.prog k) k C65l (K65_1 k) #[x0,x1,x2,x3,x4,x5,x6,x7,x8,x9,kA,lA,mA,nA,oA,pA,qA,rA,sA,tA,uA,vA,wA,xA,yA,zA,aB,bB,cB,dB,eB] H = F65 k x0 x1 x2 H := by
  kernel_rfl
theorem run65 (k : Nat) (x0 x1 x2 : Value) (H : Heap) : run Tryz.prog (k + 1) 65 #[x0,x1,x2] H = F65 k x0 x1 x2 H := by
  refine Eq.trans (b := denK Tryz.prog (run Tryz.prog k) k C65l (K65_1 k) #[x0,x1,x2,undef,undef,undef,undef,undef,undef,undef,undef,undef,undef,undef,undef,undef,undef,undef,undef,undef,undef,undef,undef,undef,undef,undef,undef,undef,undef,undef,undef] H) (by kernel_rfl) ?_
  exact TF65 k x0 x1 x2 undef undef undef undef undef undef undef undef undef undef undef undef undef undef undef undef undef undef undef undef undef undef undef undef undef undef undef undef H

end Go.PG

namespace Go.PG
open Go.Proofs

noncomputable def C48l : Code := sub [.l] (bodyOf Tryz.f48)
noncomputable def C48r : Code := sub [.r] (bodyOf Tryz.f48)
noncomputable def C48rrrrll : Code := sub [.r, .r, .r, .r, .l, .l] (bodyOf Tryz.f48)
noncomputable def C48rrrrlr : Code := sub [.r, .r, .r, .r, .l, .r] (bodyOf Tryz.f48)
noncomputable def C48rrrrr : Code := sub [.r, .r, .r, .r, .r] (bodyOf Tryz.f48)
noncomputable def K48_0 (k : Nat) : Ex → Fr → Heap → Option (Value × Heap) := finK Tryz.prog Tryz.f48
noncomputable def K48_1 (k : Nat) : Ex → Fr → Heap → Option (Value × Heap) := seqC (denK Tryz.prog (run Tryz.prog k) k C48rrrrr (K48_0 k)) (K48_0 k)
noncomputable def K48_2 (k : Nat) : Ex → Fr → Heap → Option (Value × Heap) := seqC (denK Tryz.prog (run Tryz.prog k) k C48rrrrlr (K48_1 k)) (K48_1 k)
noncomputable def K48_3 (k : Nat) : Ex → Fr → Heap → Option (Value × Heap) := seqC (denK Tryz.prog (run Tryz.prog k) k C48r (K48_0 k)) (K48_0 k)

noncomputable def J48_0 (k : Nat) (x4 x6 wB dC : Value) (H : Heap) : Option (Value × Heap) :=
  (pPick wB (.bool true) dC).bind fun y56 =>
  condV y56
  (
    (pBuild Tryz.prog 49 []).bind fun y57 =>
    (stV 3 x4 y57 H).bind fun H_1 =>
    ((ldV true 3 x4 H_1).bind fun v => (some []).map (v :: ·)).map fun l => (oneOf l, H_1))
  (
    (ldV true 3 x6 H).bind fun y58 =>
    (stV 3 x4 y58 H).bind fun H_2 =>
    ((ldV true 3 x4 H_2).bind fun v => (some []).map (v :: ·)).map fun l => (oneOf l, H_2))
noncomputable def J48_1 (k : Nat) (x1 x4 x6 rB uB : Value) (H : Heap) : Option (Value × Heap) :=
  (pPick rB (.bool true) uB).bind fun y47 =>
  condG y47 false
  (
    (fieldA 1 x6).bind fun y49 =>
    (ldV false 1 y49 H).bind fun y50 =>
    (fieldA 2 x6).bind fun y52 =>
    (ldV false 1 y52 H).bind fun y53 =>
    (binI .sub x1 y53).bind fun y54 =>
    (binI .gtr y50 y54).bind fun y55 =>
    J48_0 k x4 x6 y47 y55 H)
  (
    J48_0 k x4 x6 y47 undef H)
noncomputable def J48_2 (k : Nat) (x1 x4 x6 mB pB : Value) (H : Heap) : Option (Value × Heap) :=
  (pPick mB (.bool true) pB).bind fun y42 =>
  condG y42 false
  (
    (fieldA 1 x6).bind fun y44 =>
    (ldV false 1 y44 H).bind fun y45 =>
    (binI .lss y45 (.int .i64 8)).bind fun y46 =>
    J48_1 k x1 x4 x6 y42 y46 H)
  (
    J48_1 k x1 x4 x6 y42 undef H)
noncomputable def J48_3 (k : Nat) (x1 x4 x6 gB kB : Value) (H : Heap) : Option (Value × Heap) :=
  (pPick gB (.bool true) kB).bind fun y37 =>
  condG y37 false
  (
    (fieldA 2 x6).bind fun y39 =>
    (ldV false 1 y39 H).bind fun y40 =>
    (binI .lss y40 (.int .i64 1)).bind fun y41 =>
    J48_2 k x1 x4 x6 y37 y41 H)
  (
    J48_2 k x1 x4 x6 y37 undef H)
noncomputable def F48 (k : Nat) (x0 x1 : Value) (H : Heap) : Option (Value × Heap) :=
  newK H (.cells #[(.string ⟨#[]⟩), (.int .i64 0), (.int .i64 0)] 49) fun y4 H_1 =>
  (idxStr x0 (.int .i64 1)).bind fun y8 =>
  bindM (convI .i64 y8) H_1 fun y9 H_2 =>
  (binI .gtr y9 (.int .i64 16)).bind fun y11 =>
  condV y11
  (
    (pBuild Tryz.prog 49 []).bind fun y12 =>
    (stV 3 y4 y12 H_2).bind fun H_3 =>
    ((ldV true 3 y4 H_3).bind fun v => (some []).map (v :: ·)).map fun l => (oneOf l, H_3))
  (
    (binI .add (.int .i64 2) y9).bind fun y15 =>
    (sliceStr x0 (some (.int .i64 2)) (some y15)).bind fun y16 =>
    (sliceStr x0 (some (.int .i64 18)) (some (.int .i64 20))).bind fun y18 =>
    bindP (convSB 5 y18 H_2) fun y19 H_4 =>
    quietK H_4 [] (run Tryz.prog k 85 #[y19] (H_4.atFloor H_4.next)) fun y20 H_5 m =>
    bindM (convI .i64 y20) H_5 fun y21 _ =>
    (sliceStr x0 (some (.int .i64 20)) (some (.int .i64 22))).bind fun y23 =>
    bindP (convSB 5 y23 H_5) fun y24 H_6 =>
    quietK H_6 [] (run Tryz.prog k 85 #[y24] (H_6.atFloor H_6.next)) fun y25 H_7 m_1 =>
    bindM (convI .i64 y25) H_7 fun y26 _ =>
    (pBuild Tryz.prog 49 [(0, y16), (1, y21), (2, y26)]).bind fun y27 =>
    newK H_7 (.cells #[(.string ⟨#[]⟩), (.int .i64 0), (.int .i64 0)] 49) fun y6 H_8 =>
    (stV 3 y6 y27 H_8).bind fun H_9 =>
    (ldV true 3 y6 H_9).bind fun y29 =>
    bindP (run Tryz.prog k 86 #[y29] H_9) fun y30 H_10 =>
    (binS .neq x0 y30).bind fun y31 =>
    condG y31 false
    (
      (fieldA 0 y6).bind fun y33 =>
      (ldV false 1 y33 H_10).bind fun y34 =>
      bindP (run Tryz.prog k 11 #[y34] H_10) fun y35 H_11 =>
      (pUn .not y35).bind fun y36 =>
      J48_3 k x1 y4 y6 y31 y36 H_11)
    (
      J48_3 k x1 y4 y6 y31 undef H_10))

theorem TJ48_0 (k : Nat) (x0 x1 x2 x3 x4 x5 x6 x7 x8 x9 kA lA mA nA oA pA qA rA sA tA uA vA wA xA yA zA aB bB cB dB eB fB gB hB iB jB kB lB mB nB oB pB qB rB sB tB uB vB wB xB yB zB aC bC cC dC eC fC gC : Value) (H : Heap) : grpK Tryz.prog (run Tryz.prog k) (ropsC C48rrrrll) ((grps (ropsC C48rrrrll).toList).drop 8) #[x0,x1,x2,x3,x4,x5,x6,x7,x8,x9,kA,lA,mA,nA,oA,pA,qA,rA,sA,tA,uA,vA,wA,xA,yA,zA,aB,bB,cB,dB,eB,fB,gB,hB,iB,jB,kB,lB,mB,nB,oB,pB,qB,rB,sB,tB,uB,vB,wB,xB,yB,zB,aC,bC,cC,dC,eC,fC,gC] H ((K48_2 k) .normal) = J48_0 k x4 x6 wB dC H := by
  kernel_rfl
theorem TJ48_1 (k : Nat) (x0 x1 x2 x3 x4 x5 x6 x7 x8 x9 kA lA mA nA oA pA qA rA sA tA uA vA wA xA yA zA aB bB cB dB eB fB gB hB iB jB kB lB mB nB oB pB qB rB sB tB uB vB wB xB yB zB aC bC cC dC eC fC gC : Value) (H : Heap) : grpK Tryz.prog (run Tryz.prog k) (ropsC C48rrrrll) ((grps (ropsC C48rrrrll).toList).drop 6) #[x0,x1,x2,x3,x4,x5,x6,x7,x8,x9,kA,lA,mA,nA,oA,pA,qA,rA,sA,tA,uA,vA,wA,xA,yA,zA,aB,bB,cB,dB,eB,fB,gB,hB,iB,jB,kB,lB,mB,nB,oB,pB,qB,rB,sB,tB,uB,vB,wB,xB,yB,zB,aC,bC,cC,dC,eC,fC,gC] H ((K48_2 k) .normal) = J48_1 k x1 x4 x6 rB uB H := by
  refine Eq.trans (b :=
    (pPick rB (.bool true) uB).bind fun y47 =>
    condG y47 false
    (
      (fieldA 1 x6).bind fun y49 =>
      (ldV false 1 y49 H).bind fun y50 =>
      (fieldA 2 x6).bind fun y52 =>
      (ldV false 1 y52 H).bind fun y53 =>
      (binI .sub x1 y53).bind fun y54 =>
      (binI .gtr y50 y54).bind fun y55 =>
      grpK Tryz.prog (run Tryz.prog k) (ropsC C48rrrrll) ((grps (ropsC C48rrrrll).toList).drop 8) #[x0,x1,x2,x3,x4,x5,x6,x7,x8,x9,kA,lA,mA,nA,oA,pA,qA,rA,sA,tA,uA,vA,wA,xA,yA,zA,aB,bB,cB,dB,eB,fB,gB,hB,iB,jB,kB,lB,mB,nB,oB,pB,qB,rB,sB,tB,uB,y47,y47,y49,y50,x1,y52,y53,y54,y55,eC,fC,gC] H ((K48_2 k) .normal))
    (
      grpK Tryz.prog (run Tryz.prog k) (ropsC C48rrrrll) ((grps (ropsC C48rrrrll).toList).drop 8) #[x0,x1,x2,x3,x4,x5,x6,x7,x8,x9,kA,lA,mA,nA,oA,pA,qA,rA,sA,tA,uA,vA,wA,xA,yA,zA,aB,bB,cB,dB,eB,fB,gB,hB,iB,jB,kB,lB,mB,nB,oB,pB,qB,rB,sB,tB,uB,y47,y47,undef,undef,undef,undef,undef,undef,undef,eC,fC,gC] H ((K48_2 k) .normal))) (by kernel_rfl) ?_
  simp only [TJ48_0 k]
  rfl
theorem TJ48_2 (k : Nat) (x0 x1 x2 x3 x4 x5 x6 x7 x8 x9 kA lA mA nA oA pA qA rA sA tA uA vA wA xA yA zA aB bB cB dB eB fB gB hB iB jB kB lB mB nB oB pB qB rB sB tB uB vB wB xB yB zB aC bC cC dC eC fC gC : Value) (H : Heap) : grpK Tryz.prog (run Tryz.prog k) (ropsC C48rrrrll) ((grps (ropsC C48rrrrll).toList).drop 4) #[x0,x1,x2,x3,x4,x5,x6,x7,x8,x9,kA,lA,mA,nA,oA,pA,qA,rA,sA,tA,uA,vA,wA,xA,yA,zA,aB,bB,cB,dB,eB,fB,gB,hB,iB,jB,kB,lB,mB,nB,oB,pB,qB,rB,sB,tB,uB,vB,wB,xB,yB,zB,aC,bC,cC,dC,eC,fC,gC] H ((K48_2 k) .normal) = J48_2 k x1 x4 x6 mB pB H := by
  refine Eq.trans (b :=
    (pPick mB (.bool true) pB).bind fun y42 =>
    condG y42 false
    (
      (fieldA 1 x6).bind fun y44 =>
      (ldV false 1 y44 H).bind fun y45 =>
      (binI .lss y45 (.int .i64 8)).bind fun y46 =>
      grpK Tryz.prog (run Tryz.prog k) (ropsC C48rrrrll) ((grps (ropsC C48rrrrll).toList).drop 6) #[x0,x1,x2,x3,x4,x5,x6,x7,x8,x9,kA,lA,mA,nA,oA,pA,qA,rA,sA,tA,uA,vA,wA,xA,yA,zA,aB,bB,cB,dB,eB,fB,gB,hB,iB,jB,kB,lB,mB,nB,oB,pB,y42,y42,y44,y45,y46,vB,wB,xB,yB,zB,aC,bC,cC,dC,eC,fC,gC] H ((K48_2 k) .normal))
    (
      grpK Tryz.prog (run Tryz.prog k) (ropsC C48rrrrll) ((grps (ropsC C48rrrrll).toList).drop 6) #[x0,x1,x2,x3,x4,x5,x6,x7,x8,x9,kA,lA,mA,nA,oA,pA,qA,rA,sA,tA,uA,vA,wA,xA,yA,zA,aB,bB,cB,dB,eB,fB,gB,hB,iB,jB,kB,lB,mB,nB,oB,pB,y42,y42,undef,undef,undef,vB,wB,xB,yB,zB,aC,bC,cC,dC,eC,fC,gC] H ((K48_2 k) .normal))) (by kernel_rfl) ?_
  simp only [TJ48_1 k]
  rfl
theorem TJ48_3 (k : Nat) (x0 x1 x2 x3 x4 x5 x6 x7 x8 x9 kA lA mA nA oA pA qA rA sA tA uA vA wA xA yA zA aB bB cB dB eB fB gB hB iB jB kB lB mB nB oB pB qB rB sB tB uB vB wB xB yB zB aC bC cC dC eC fC gC : Value) (H : Heap) : grpK Tryz.prog (run Tryz.prog k) (ropsC C48rrrrll) ((grps (ropsC C48rrrrll).toList).drop 2) #[x0,x1,x2,x3,x4,x5,x6,x7,x8,x9,kA,lA,mA,nA,oA,pA,qA,rA,sA,tA,uA,vA,wA,xA,yA,zA,aB,bB,cB,dB,eB,fB,gB,hB,iB,jB,kB,lB,mB,nB,oB,pB,qB,rB,sB,tB,uB,vB,wB,xB,yB,zB,aC,bC,cC,dC,eC,fC,gC] H ((K48_2 k) .normal) = J48_3 k x1 x4 x6 gB kB H := by
  refine Eq.trans (b :=
    (pPick gB (.bool true) kB).bind fun y37 =>
    condG y37 false
    (
      (fieldA 2 x6).bind fun y39 =>
      (ldV false 1 y39 H).bind fun y40 =>
      (binI .lss y40 (.int .i64 1)).bind fun y41 =>
      grpK Tryz.prog (run Tryz.prog k) (ropsC C48rrrrll) ((grps (ropsC C48rrrrll).toList).drop 4) #[x0,x1,x2,x3,x4,x5,x6,x7,x8,x9,kA,lA,mA,nA,oA,pA,qA,rA,sA,tA,uA,vA,wA,xA,yA,zA,aB,bB,cB,dB,eB,fB,gB,hB,iB,jB,kB,y37,y37,y39,y40,y41,qB,rB,sB,tB,uB,vB,wB,xB,yB,zB,aC,bC,cC,dC,eC,fC,gC] H ((K48_2 k) .normal))
    (
      grpK Tryz.prog (run Tryz.prog k) (ropsC C48rrrrll) ((grps (ropsC C48rrrrll).toList).drop 4) #[x0,x1,x2,x3,x4,x5,x6,x7,x8,x9,kA,lA,mA,nA,oA,pA,qA,rA,sA,tA,uA,vA,wA,xA,yA,zA,aB,bB,cB,dB,eB,fB,gB,hB,iB,jB,kB,y37,y37,undef,undef,undef,qB,rB,sB,tB,uB,vB,wB,xB,yB,zB,aC,bC,cC,dC,eC,fC,gC] H ((K48_2 k) .normal))) (by kernel_rfl) ?_
  simp only [TJ48_2 k]
  rfl
theorem TF48 (k : Nat) (x0 x1 x2 x3 x4 x5 x6 x7 x8 x9 kA lA mA nA oA pA qA rA sA tA uA vA wA xA yA zA aB bB cB dB eB fB gB hB iB jB kB lB mB nB oB pB qB rB sB tB uB vB wB xB yB zB aC bC cC dC eC fC gC : Value) (H : Heap) : denK Tryz.prog (run Tryz.prog k) k C48l (K48_3 k) #[x0,x1,x2,x3,x4,x5,x6,x7,x8,x9,kA,lA,mA,nA,oA,pA,qA,rA,sA,tA,uA,vA,wA,xA,yA,zA,aB,bB,cB,dB,eB,fB,gB,hB,iB,jB,kB,lB,mB,nB,oB,pB,qB,rB,sB,tB,uB,vB,wB,xB,yB,zB,aC,bC,cC,dC,eC,fC,gC] H = F48 k x0 x1 H := by
  refine Eq.trans (b :=
    newK H (.cells #[(.string ⟨#[]⟩), (.int .i64 0), (.int .i64 0)] 49) fun y4 H_1 =>
    (idxStr x0 (.int .i64 1)).bind fun y8 =>
    bindM (convI .i64 y8) H_1 fun y9 H_2 =>
    (binI .gtr y9 (.int .i64 16)).bind fun y11 =>
    condV y11
    (
      (pBuild Tryz.prog 49 []).bind fun y12 =>
      (stV 3 y4 y12 H_2).bind fun H_3 =>
      ((ldV true 3 y4 H_3).bind fun v => (some []).map (v :: ·)).map fun l => (oneOf l, H_3))
    (
      (binI .add (.int .i64 2) y9).bind fun y15 =>
      (sliceStr x0 (some (.int .i64 2)) (some y15)).bind fun y16 =>
      (sliceStr x0 (some (.int .i64 18)) (some (.int .i64 20))).bind fun y18 =>
      bindP (convSB 5 y18 H_2) fun y19 H_4 =>
      quietK H_4 [] (run Tryz.prog k 85 #[y19] (H_4.atFloor H_4.next)) fun y20 H_5 m =>
      bindM (convI .i64 y20) H_5 fun y21 _ =>
      (sliceStr x0 (some (.int .i64 20)) (some (.int .i64 22))).bind fun y23 =>
      bindP (convSB 5 y23 H_5) fun y24 H_6 =>
      quietK H_6 [] (run Tryz.prog k 85 #[y24] (H_6.atFloor H_6.next)) fun y25 H_7 m_1 =>
      bindM (convI .i64 y25) H_7 fun y26 _ =>
      (pBuild Tryz.prog 49 [(0, y16), (1, y21), (2, y26)]).bind fun y27 =>
      newK H_7 (.cells #[(.string ⟨#[]⟩), (.int .i64 0), (.int .i64 0)] 49) fun y6 H_8 =>
      (stV 3 y6 y27 H_8).bind fun H_9 =>
      (ldV true 3 y6 H_9).bind fun y29 =>
      bindP (run Tryz.prog k 86 #[y29] H_9) fun y30 H_10 =>
      (binS .neq x0 y30).bind fun y31 =>
      condG y31 false
      (
        (fieldA 0 y6).bind fun y33 =>
        (ldV false 1 y33 H_10).bind fun y34 =>
        bindP (run Tryz.prog k 11 #[y34] H_10) fun y35 H_11 =>
        (pUn .not y35).bind fun y36 =>
        grpK Tryz.prog (run Tryz.prog k) (ropsC C48rrrrll) ((grps (ropsC C48rrrrll).toList).drop 2) #[x0,x1,x2,x3,y4,y9,y6,x0,y8,y9,y9,y11,mA,x0,y9,y15,y16,x0,y18,y19,y20,y21,x0,y23,y24,y25,y26,y27,x0,y29,y30,y31,y31,y33,y34,y35,y36,lB,mB,nB,oB,pB,qB,rB,sB,tB,uB,vB,wB,xB,yB,zB,aC,bC,cC,dC,eC,fC,gC] H_11 ((K48_2 k) .normal))
      (
        grpK Tryz.prog (run Tryz.prog k) (ropsC C48rrrrll) ((grps (ropsC C48rrrrll).toList).drop 2) #[x0,x1,x2,x3,y4,y9,y6,x0,y8,y9,y9,y11,mA,x0,y9,y15,y16,x0,y18,y19,y20,y21,x0,y23,y24,y25,y26,y27,x0,y29,y30,y31,y31,undef,undef,undef,undef,lB,mB,nB,oB,pB,qB,rB,sB,tB,uB,vB,wB,xB,yB,zB,aC,bC,cC,dC,eC,fC,gC] H_10 ((K48_2 k) .normal)))) (by kernel_rfl) ?_
  simp only [TJ48_3 k]
  rfl
theorem run48 (k : Nat) (x0 x1 : Value) (H : Heap) : run Tryz.prog (k + 1) 48 #[x0,x1] H = F48 k x0 x1 H := by
  refine Eq.trans (b := denK Tryz.prog (run Tryz.prog k) k C48l (K48_3 k) #[x0,x1,undef,undef,undef,undef,undef,undef,undef,undef,undef,undef,undef,undef,undef,undef,undef,undef,undef,undef,undef,undef,undef,undef,undef,undef,undef,undef,undef,undef,undef,undef,undef,undef,undef,undef,undef,undef,undef,undef,undef,undef,undef,undef,undef,undef,undef,undef,undef,undef,undef,undef,undef,undef,undef,undef,undef,undef,undef] H) (by kernel_rfl) ?_
  exact TF48 k x0 x1 undef undef undef undef undef undef undef undef undef undef undef undef undef undef undef undef undef undef undef undef undef undef undef undef undef undef undef undef undef undef undef undef undef undef undef undef undef undef undef undef undef undef undef undef undef undef undef undef undef undef undef undef undef undef undef undef undef H

end Go.PG

namespace Go.PG
open Go.Proofs

noncomputable def C85l : Code := sub [.l] (bodyOf Tryz.f85)
noncomputable def C85r : Code := sub [.r] (bodyOf Tryz.f85)
noncomputable def C85rrlrll : Code := sub [.r, .r, .l, .r, .l, .l] (bodyOf Tryz.f85)
noncomputable def C85rrr : Code := sub [.r, .r, .r] (bodyOf Tryz.f85)
noncomputable def K85_0 (k : Nat) : Ex → Fr → Heap → Option (Value × Heap) := finK Tryz.prog Tryz.f85
noncomputable def K85_1 (k : Nat) : Ex → Fr → Heap → Option (Value × Heap) := seqC (denK Tryz.prog (run Tryz.prog k) k C85rrr (K85_0 k)) (K85_0 k)
noncomputable def K85_2 (k : Nat) : Ex → Fr → Heap → Option (Value × Heap) := blkC 0 (K85_1 k)
noncomputable def K85_3 (k : Nat) : Ex → Fr → Heap → Option (Value × Heap) := seqC (denK Tryz.prog (run Tryz.prog k) k C85r (K85_0 k)) (K85_0 k)

noncomputable def L85_0 (k : Nat) : Nat → Value → Value → Value → Value → Heap → Option (Value × Heap)
  | 0, _, _, _, _, _ => none
  | n + 1, x3, x6, x7, x8, H =>
    (binI .lss x8 x7).bind fun y9 =>
    condV y9
    (
      (idxSl 1 x6 x8).bind fun y11 =>
      (ldV false 1 y11 H).bind fun y12 =>
      bindM (convI .u32 y12) H fun y15 H_1 =>
      (binI .mul (.int .i64 8) x8).bind fun y17 =>
      (binI .shl y15 y17).bind fun y18 =>
      (binI .or x3 y18).bind fun y19 =>
      (binI .add x8 (.int .i64 1)).bind fun y20 =>
      (L85_0 k n) y19 x6 x7 y20 H_1)
    (
      some (x3, H))
noncomputable def F85 (k : Nat) (x0 : Value) (H : Heap) : Option (Value × Heap) :=
  bindM (lenSl x0) H fun y7 H_1 =>
  L85_0 k k (.int .u32 0) x0 y7 (.int .i64 0) H_1

theorem TL85_0 (k : Nat) : ∀ (n : Nat) (x0 x1 x2 x3 x4 x5 x6 x7 x8 x9 kA lA mA nA oA pA qA rA sA tA uA vA : Value) (H : Heap), iterK (denK Tryz.prog (run Tryz.prog k) k C85rrlrll) (K85_2 k) n #[x0,x1,x2,x3,x4,x5,x6,x7,x8,x9,kA,lA,mA,nA,oA,pA,qA,rA,sA,tA,uA,vA] H = L85_0 k n x3 x6 x7 x8 H := by
  intro n
  induction n with
  | zero => intros; rfl
  | succ n ih =>
    intro x0 x1 x2 x3 x4 x5 x6 x7 x8 x9 kA lA mA nA oA pA qA rA sA tA uA vA H
    refine Eq.trans (b :=
    (binI .lss x8 x7).bind fun y9 =>
    condV y9
    (
      (idxSl 1 x6 x8).bind fun y11 =>
      (ldV false 1 y11 H).bind fun y12 =>
      bindM (convI .u32 y12) H fun y15 H_1 =>
      (binI .mul (.int .i64 8) x8).bind fun y17 =>
      (binI .shl y15 y17).bind fun y18 =>
      (binI .or x3 y18).bind fun y19 =>
      (binI .add x8 (.int .i64 1)).bind fun y20 =>
      iterK (denK Tryz.prog (run Tryz.prog k) k C85rrlrll) (K85_2 k) n #[x0,x1,x2,y19,x8,y12,x6,x7,y20,y9,x8,y11,y12,x3,y12,y15,x8,y17,y18,y19,y20,vA] H_1)
    (
      some (x3, H))) (by kernel_rfl) ?_
    simp only [ih]
    rfl
theorem TF85 (k : Nat) (x0 x1 x2 x3 x4 x5 x6 x7 x8 x9 kA lA mA nA oA pA qA rA sA tA uA vA : Value) (H : Heap) : denK Tryz.prog (run Tryz.prog k) k C85l (K85_3 k) #[x0,x1,x2,x3,x4,x5,x6,x7,x8,x9,kA,lA,mA,nA,oA,pA,qA,rA,sA,tA,uA,vA] H = F85 k x0 H := by
  refine Eq.trans (b :=
    bindM (lenSl x0) H fun y7 H_1 =>
    iterK (denK Tryz.prog (run Tryz.prog k) k C85rrlrll) (K85_2 k) k #[x0,x1,(.int .u32 0),(.int .u32 0),x4,x5,x0,y7,(.int .i64 0),x9,kA,lA,mA,nA,oA,pA,qA,rA,sA,tA,uA,vA] H_1) (by kernel_rfl) ?_
  simp only [TL85_0 k]
  rfl
theorem run85 (k : Nat) (x0 : Value) (H : Heap) : run Tryz.prog (k + 1) 85 #[x0] H = F85 k x0 H := by
  refine Eq.trans (b := denK Tryz.prog (run Tryz.prog k) k C85l (K85_3 k) #[x0,undef,undef,undef,undef,undef,undef,undef,undef,undef,undef,undef,undef,undef,undef,undef,undef,undef,undef,undef,undef,undef] H) (by kernel_rfl) ?_
  exact TF85 k x0 undef undef undef undef undef undef undef undef undef undef undef undef undef undef undef undef undef undef undef undef undef H

end Go.PG

namespace Go.PG
open Go.Proofs

noncomputable def C86l : Code := sub [.l] (bodyOf Tryz.f86)
noncomputable def C86r : Code := sub [.r] (bodyOf Tryz.f86)
noncomputable def K86_0 (k : Nat) : Ex → Fr → Heap → Option (Value × Heap) := finK Tryz.prog Tryz.f86
noncomputable def K86_1 (k : Nat) : Ex → Fr → Heap → Option (Value × Heap) := seqC (denK Tryz.prog (run Tryz.prog k) k C86r (K86_0 k)) (K86_0 k)

noncomputable def F86 (k : Nat) (x0 : Value) (H : Heap) : Option (Value × Heap) :=
  bindP (pBox 49 x0 H) fun y1 H_1 =>
  bindP (mkSl 1 1 #[(.int .u8 0)] 5 (.int .i64 32) (.int .i64 32) H_1) fun y4 H_2 =>
  (fieldA 0 y1).bind fun y7 =>
  (ldV false 1 y7 H_2).bind fun y8 =>
  bindM (lenSt y8) H_2 fun y9 _ =>
  bindM (convI .u8 y9) H_2 fun y10 _ =>
  (idxSl 1 y4 (.int .i64 0)).bind fun y11 =>
  apartK [y7] y11 ((stV 1 y11 (.int .u8 86) H_2).bind fun H_3 =>
  (idxSl 1 y4 (.int .i64 1)).bind fun y12 =>
  (stV 1 y12 y10 H_3).bind fun H_4 =>
  (sliceSl 1 y4 (some (.int .i64 2)) (some (.int .i64 18)) none).bind fun y14 =>
  (fieldA 0 y1).bind fun y15 =>
  (ldV false 1 y15 H_4).bind fun y16 =>
  bindP (copyV 1 y14 y16 H_4) fun y17 H_5 =>
  (sliceSl 1 y4 (some (.int .i64 18)) (some (.int .i64 20)) none).bind fun y19 =>
  (fieldA 1 y1).bind fun y20 =>
  (ldV false 1 y20 H_5).bind fun y21 =>
  bindM (convI .u32 y21) H_5 fun y22 _ =>
  bindP (run Tryz.prog k 100 #[y19,y22] H_5) fun y23 H_6 =>
  (sliceSl 1 y4 (some (.int .i64 20)) (some (.int .i64 22)) none).bind fun y25 =>
  (fieldA 2 y1).bind fun y26 =>
  (ldV false 1 y26 H_6).bind fun y27 =>
  bindM (convI .u32 y27) H_6 fun y28 _ =>
  bindP (run Tryz.prog k 100 #[y25,y28] H_6) fun y29 H_7 =>
  (sliceSl 1 y4 (some (.int .i64 22)) (some (.int .i64 26)) none).bind fun y31 =>
  (sliceSl 1 y4 none (some (.int .i64 22)) none).bind fun y33 =>
  bindP (run Tryz.prog k 96 #[y33] H_7) fun y34 H_8 =>
  bindP (run Tryz.prog k 100 #[y31,y34] H_8) fun y35 H_9 =>
  bindM (convBS y4 H_9) H_9 fun y37 H_10 =>
  some (y37, H_10))

theorem TF86 (k : Nat) (x0 x1 x2 x3 x4 x5 x6 x7 x8 x9 kA lA mA nA oA pA qA rA sA tA uA vA wA xA yA zA aB bB cB dB eB fB gB hB iB jB kB lB : Value) (H : Heap) : denK Tryz.prog (run Tryz.prog k) k C86l (K86_1 k) #[x0,x1,x2,x3,x4,x5,x6,x7,x8,x9,kA,lA,mA,nA,oA,pA,qA,rA,sA,tA,uA,vA,wA,xA,yA,zA,aB,bB,cB,dB,eB,fB,gB,hB,iB,jB,kB,lB] H = F86 k x0 H := by
  kernel_rfl
theorem run86 (k : Nat) (x0 : Value) (H : Heap) : run Tryz.prog (k + 1) 86 #[x0] H = F86 k x0 H := by
  refine Eq.trans (b := denK Tryz.prog (run Tryz.prog k) k C86l (K86_1 k) #[x0,undef,undef,undef,undef,undef,undef,undef,undef,undef,undef,undef,undef,undef,undef,undef,undef,undef,undef,undef,undef,undef,undef,undef,undef,undef,undef,undef,undef,undef,undef,undef,undef,undef,undef,undef,undef,undef] H) (by kernel_rfl) ?_
  exact TF86 k x0 undef undef undef undef undef undef undef undef undef undef undef undef undef undef undef undef undef undef undef undef undef undef undef undef undef undef undef undef undef undef undef undef undef undef undef undef undef H

end Go.PG

namespace Go.PG
open Go.Proofs

noncomputable def C100l : Code := sub [.l] (bodyOf Tryz.f100)
noncomputable def C100r : Code := sub [.r] (bodyOf Tryz.f100)
noncomputable def C100rll : Code := sub [.r, .l, .l] (bodyOf Tryz.f100)
noncomputable def K100_0 (k : Nat) : Ex → Fr → Heap → Option (Value × Heap) := finK Tryz.prog Tryz.f100
noncomputable def K100_1 (k : Nat) : Ex → Fr → Heap → Option (Value × Heap) := blkC 0 (K100_0 k)
noncomputable def K100_2 (k : Nat) : Ex → Fr → Heap → Option (Value × Heap) := seqC (denK Tryz.prog (run Tryz.prog k) k C100r (K100_0 k)) (K100_0 k)

noncomputable def L100_0 (k : Nat) : Nat → Value → Value → Value → Value → Heap → Option (Value × Heap)
  | 0, _, _, _, _, _ => none
  | n + 1, x0, x1, x6, x7, H =>
    (binI .lss x7 x6).bind fun y8 =>
    condV y8
    (
      (binI .mul (.int .i64 8) x7).bind fun y14 =>
      (binI .shr x1 y14).bind fun y15 =>
      bindM (convI .u8 y15) H fun y16 H_1 =>
      (idxSl 1 x0 x7).bind fun y17 =>
      (stV 1 y17 y16 H_1).bind fun H_2 =>
      (binI .add x7 (.int .i64 1)).bind fun y18 =>
      (L100_0 k n) x0 x1 x6 y18 H_2)
    (
      some ((.tuple #[]), H))
noncomputable def F100 (k : Nat) (x0 x1 : Value) (H : Heap) : Option (Value × Heap) :=
  bindM (lenSl x0) H fun y6 H_1 =>
  L100_0 k k x0 x1 y6 (.int .i64 0) H_1

theorem TL100_0 (k : Nat) : ∀ (n : Nat) (x0 x1 x2 x3 x4 x5 x6 x7 x8 x9 kA lA mA nA oA pA qA rA sA : Value) (H : Heap), iterK (denK Tryz.prog (run Tryz.prog k) k C100rll) (K100_1 k) n #[x0,x1,x2,x3,x4,x5,x6,x7,x8,x9,kA,lA,mA,nA,oA,pA,qA,rA,sA] H = L100_0 k n x0 x1 x6 x7 H := by
  intro n
  induction n with
  | zero => intros; rfl
  | succ n ih =>
    intro x0 x1 x2 x3 x4 x5 x6 x7 x8 x9 kA lA mA nA oA pA qA rA sA H
    refine Eq.trans (b :=
    (binI .lss x7 x6).bind fun y8 =>
    condV y8
    (
      (binI .mul (.int .i64 8) x7).bind fun y14 =>
      (binI .shr x1 y14).bind fun y15 =>
      bindM (convI .u8 y15) H fun y16 H_1 =>
      (idxSl 1 x0 x7).bind fun y17 =>
      (stV 1 y17 y16 H_1).bind fun H_2 =>
      (binI .add x7 (.int .i64 1)).bind fun y18 =>
      iterK (denK Tryz.prog (run Tryz.prog k) k C100rll) (K100_1 k) n #[x0,x1,x2,x3,x7,x5,x6,y18,y8,x7,x0,x7,x1,x7,y14,y15,y16,y17,y18] H_2)
    (
      some ((.tuple #[]), H))) (by kernel_rfl) ?_
    simp only [ih]
    rfl
theorem TF100 (k : Nat) (x0 x1 x2 x3 x4 x5 x6 x7 x8 x9 kA lA mA nA oA pA qA rA sA : Value) (H : Heap) : denK Tryz.prog (run Tryz.prog k) k C100l (K100_2 k) #[x0,x1,x2,x3,x4,x5,x6,x7,x8,x9,kA,lA,mA,nA,oA,pA,qA,rA,sA] H = F100 k x0 x1 H := by
  refine Eq.trans (b :=
    bindM (lenSl x0) H fun y6 H_1 =>
    iterK (denK Tryz.prog (run Tryz.prog k) k C100rll) (K100_1 k) k #[x0,x1,x2,x3,x4,x0,y6,(.int .i64 0),x8,x9,kA,lA,mA,nA,oA,pA,qA,rA,sA] H_1) (by kernel_rfl) ?_
  simp only [TL100_0 k]
  rfl
theorem run100 (k : Nat) (x0 x1 : Value) (H : Heap) : run Tryz.prog (k + 1) 100 #[x0,x1] H = F100 k x0 x1 H := by
  refine Eq.trans (b := denK Tryz.prog (run Tryz.prog k) k C100l (K100_2 k) #[x0,x1,undef,undef,undef,undef,undef,undef,undef,undef,undef,undef,undef,undef,undef,undef,undef,undef,undef] H) (by kernel_rfl) ?_
  exact TF100 k x0 x1 undef undef undef undef undef undef undef undef undef undef undef undef undef undef undef undef undef H

end Go.PG

namespace Go.PG
open Go.Proofs

noncomputable def C104l : Code := sub [.l] (bodyOf Tryz.f104)
noncomputable def C104r : Code := sub [.r] (bodyOf Tryz.f104)
noncomputable def C104rrlrll : Code := sub [.r, .r, .l, .r, .l, .l] (bodyOf Tryz.f104)
noncomputable def C104rrlrllrrllrrrll : Code := sub [.r, .r, .l, .r, .l, .l, .r, .r, .l, .l, .r, .r, .r, .l, .l] (bodyOf Tryz.f104)
noncomputable def C104rrlrllrrllrrrllrrr : Code := sub [.r, .r, .l, .r, .l, .l, .r, .r, .l, .l, .r, .r, .r, .l, .l, .r, .r, .r] (bodyOf Tryz.f104)
noncomputable def C104rrlrllrrr : Code := sub [.r, .r, .l, .r, .l, .l, .r, .r, .r] (bodyOf Tryz.f104)
noncomputable def C104rrr : Code := sub [.r, .r, .r] (bodyOf Tryz.f104)
noncomputable def K104_0 (k : Nat) : Ex → Fr → Heap → Option (Value × Heap) := finK Tryz.prog Tryz.f104
noncomputable def K104_1 (k : Nat) : Ex → Fr → Heap → Option (Value × Heap) := seqC (denK Tryz.prog (run Tryz.prog k) k C104rrr (K104_0 k)) (K104_0 k)
noncomputable def K104_2 (k : Nat) : Ex → Fr → Heap → Option (Value × Heap) := blkC 0 (K104_1 k)
noncomputable def K104_3 (k : Nat) (nrrlrl : Nat) : Ex → Fr → Heap → Option (Value × Heap) := seqC (iterK (denK Tryz.prog (run Tryz.prog k) k C104rrlrll) (K104_2 k) nrrlrl) (K104_2 k)
noncomputable def K104_4 (k : Nat) (nrrlrl : Nat) : Ex → Fr → Heap → Option (Value × Heap) := seqC (denK Tryz.prog (run Tryz.prog k) k C104rrlrllrrr (K104_3 k nrrlrl)) (K104_3 k nrrlrl)
noncomputable def K104_5 (k : Nat) (nrrlrl : Nat) : Ex → Fr → Heap → Option (Value × Heap) := blkC 1 (K104_4 k nrrlrl)
noncomputable def K104_6 (k : Nat) (nrrlrl : Nat) : Ex → Fr → Heap → Option (Value × Heap) := blkC 2 (K104_5 k nrrlrl)
noncomputable def K104_7 (k : Nat) (nrrlrl : Nat) (nrrlrllrrllrrrl : Nat) : Ex → Fr → Heap → Option (Value × Heap) := seqC (iterK (denK Tryz.prog (run Tryz.prog k) k C104rrlrllrrllrrrll) (K104_6 k nrrlrl) nrrlrllrrllrrrl) (K104_6 k nrrlrl)
noncomputable def K104_8 (k : Nat) : Ex → Fr → Heap → Option (Value × Heap) := seqC (denK Tryz.prog (run Tryz.prog k) k C104r (K104_0 k)) (K104_0 k)

noncomputable def J104_0 (k : Nat) (nxrrlrl : Value → Value → Value → Value → Heap → Option (Value × Heap)) (nxrrlrllrrllrrrl : Value → Value → Value → Value → Value → Heap → Option (Value × Heap)) (x5 lA mA nA vA : Value) (H : Heap) : Option (Value × Heap) :=
  (binI .add vA (.int .i64 1)).bind fun y31 =>
  nxrrlrllrrllrrrl x5 lA mA nA y31 H
noncomputable def L104_1 (k : Nat) (nxrrlrl : Value → Value → Value → Value → Heap → Option (Value × Heap)) : Nat → Value → Value → Value → Value → Value → Heap → Option (Value × Heap)
  | 0, _, _, _, _, _, _ => none
  | n + 1, x5, lA, mA, nA, vA, H =>
    (binI .lss vA (.int .i64 8)).bind fun y22 =>
    condV y22
    (
      (binI .and x5 (.int .u32 1)).bind fun y24 =>
      (binI .shr x5 (.int .u64 1)).bind fun y26 =>
      (binI .eql y24 (.int .u32 1)).bind fun y28 =>
      condV y28
      (
        (binI .xor y26 (.int .u32 3988292384)).bind fun y30 =>
        J104_0 k nxrrlrl (L104_1 k nxrrlrl n) y30 lA mA nA vA H)
      (
        J104_0 k nxrrlrl (L104_1 k nxrrlrl n) y26 lA mA nA vA H))
    (
      (binI .add nA (.int .i64 1)).bind fun y32 =>
      nxrrlrl x5 lA mA y32 H)
noncomputable def L104_2 (k : Nat) : Nat → Value → Value → Value → Value → Heap → Option (Value × Heap)
  | 0, _, _, _, _, _ => none
  | n + 1, x5, lA, mA, nA, H =>
    (binI .lss nA mA).bind fun y14 =>
    condV y14
    (
      (idxSl 1 lA nA).bind fun y15 =>
      (ldV false 1 y15 H).bind fun y16 =>
      bindM (convI .u32 y16) H fun y19 H_1 =>
      (binI .xor x5 y19).bind fun y20 =>
      L104_1 k (L104_2 k n) k y20 lA mA nA (.int .i64 0) H_1)
    (
      (pUn .xor x5).bind fun y34 =>
      some (y34, H))
noncomputable def F104 (k : Nat) (x0 x1 : Value) (H : Heap) : Option (Value × Heap) :=
  (pUn .xor x0).bind fun y10 =>
  bindM (lenSl x1) H fun y12 H_1 =>
  L104_2 k k y10 x1 y12 (.int .i64 0) H_1

theorem TJ104_0 (k : Nat) (nrrlrl : Nat) (nxrrlrl : Value → Value → Value → Value → Heap → Option (Value × Heap)) (hrrlrl : ∀ (x0 x1 x2 x3 x4 x5 x6 x7 x8 x9 kA lA mA nA oA pA qA rA sA tA uA vA wA xA yA zA aB bB cB dB eB fB gB hB iB : Value) (H : Heap), iterK (denK Tryz.prog (run Tryz.prog k) k C104rrlrll) (K104_2 k) nrrlrl #[x0,x1,x2,x3,x4,x5,x6,x7,x8,x9,kA,lA,mA,nA,oA,pA,qA,rA,sA,tA,uA,vA,wA,xA,yA,zA,aB,bB,cB,dB,eB,fB,gB,hB,iB] H = nxrrlrl x5 lA mA nA H) (nrrlrllrrllrrrl : Nat) (nxrrlrllrrllrrrl : Value → Value → Value → Value → Value → Heap → Option (Value × Heap)) (hrrlrllrrllrrrl : ∀ (x0 x1 x2 x3 x4 x5 x6 x7 x8 x9 kA lA mA nA oA pA qA rA sA tA uA vA wA xA yA zA aB bB cB dB eB fB gB hB iB : Value) (H : Heap), iterK (denK Tryz.prog (run Tryz.prog k) k C104rrlrllrrllrrrll) (K104_6 k nrrlrl) nrrlrllrrllrrrl #[x0,x1,x2,x3,x4,x5,x6,x7,x8,x9,kA,lA,mA,nA,oA,pA,qA,rA,sA,tA,uA,vA,wA,xA,yA,zA,aB,bB,cB,dB,eB,fB,gB,hB,iB] H = nxrrlrllrrllrrrl x5 lA mA nA vA H) (x0 x1 x2 x3 x4 x5 x6 x7 x8 x9 kA lA mA nA oA pA qA rA sA tA uA vA wA xA yA zA aB bB cB dB eB fB gB hB iB : Value) (H : Heap) : denK Tryz.prog (run Tryz.prog k) k C104rrlrllrrllrrrllrrr (K104_7 k nrrlrl nrrlrllrrllrrrl) #[x0,x1,x2,x3,x4,x5,x6,x7,x8,x9,kA,lA,mA,nA,oA,pA,qA,rA,sA,tA,uA,vA,wA,xA,yA,zA,aB,bB,cB,dB,eB,fB,gB,hB,iB] H = J104_0 k nxrrlrl nxrrlrllrrllrrrl x5 lA mA nA vA H := by
  refine Eq.trans (b :=
    (binI .add vA (.int .i64 1)).bind fun y31 =>
    iterK (denK Tryz.prog (run Tryz.prog k) k C104rrlrllrrllrrrll) (K104_6 k nrrlrl) nrrlrllrrllrrrl #[x0,x1,x2,x3,x4,x5,x6,x7,x8,x9,kA,lA,mA,nA,oA,pA,qA,rA,sA,tA,uA,y31,wA,xA,yA,zA,aB,bB,cB,dB,eB,y31,gB,hB,iB] H) (by kernel_rfl) ?_
  simp only [hrrlrllrrllrrrl]
  rfl
theorem TL104_1 (k : Nat) (nrrlrl : Nat) (nxrrlrl : Value → Value → Value → Value → Heap → Option (Value × Heap)) (hrrlrl : ∀ (x0 x1 x2 x3 x4 x5 x6 x7 x8 x9 kA lA mA nA oA pA qA rA sA tA uA vA wA xA yA zA aB bB cB dB eB fB gB hB iB : Value) (H : Heap), iterK (denK Tryz.prog (run Tryz.prog k) k C104rrlrll) (K104_2 k) nrrlrl #[x0,x1,x2,x3,x4,x5,x6,x7,x8,x9,kA,lA,mA,nA,oA,pA,qA,rA,sA,tA,uA,vA,wA,xA,yA,zA,aB,bB,cB,dB,eB,fB,gB,hB,iB] H = nxrrlrl x5 lA mA nA H) : ∀ (n : Nat) (x0 x1 x2 x3 x4 x5 x6 x7 x8 x9 kA lA mA nA oA pA qA rA sA tA uA vA wA xA yA zA aB bB cB dB eB fB gB hB iB : Value) (H : Heap), iterK (denK Tryz.prog (run Tryz.prog k) k C104rrlrllrrllrrrll) (K104_6 k nrrlrl) n #[x0,x1,x2,x3,x4,x5,x6,x7,x8,x9,kA,lA,mA,nA,oA,pA,qA,rA,sA,tA,uA,vA,wA,xA,yA,zA,aB,bB,cB,dB,eB,fB,gB,hB,iB] H = L104_1 k nxrrlrl n x5 lA mA nA vA H := by
  intro n
  induction n with
  | zero => intros; rfl
  | succ n ih =>
    intro x0 x1 x2 x3 x4 x5 x6 x7 x8 x9 kA lA mA nA oA pA qA rA sA tA uA vA wA xA yA zA aB bB cB dB eB fB gB hB iB H
    refine Eq.trans (b :=
    (binI .lss vA (.int .i64 8)).bind fun y22 =>
    condV y22
    (
      (binI .and x5 (.int .u32 1)).bind fun y24 =>
      (binI .shr x5 (.int .u64 1)).bind fun y26 =>
      (binI .eql y24 (.int .u32 1)).bind fun y28 =>
      condV y28
      (
        (binI .xor y26 (.int .u32 3988292384)).bind fun y30 =>
        denK Tryz.prog (run Tryz.prog k) k C104rrlrllrrllrrrllrrr (K104_7 k nrrlrl n) #[x0,x1,x2,x3,x4,y30,x6,x7,y24,x9,kA,lA,mA,nA,oA,pA,qA,rA,sA,tA,uA,vA,y22,x5,y24,x5,y26,y24,y28,y26,y30,fB,gB,hB,iB] H)
      (
        denK Tryz.prog (run Tryz.prog k) k C104rrlrllrrllrrrllrrr (K104_7 k nrrlrl n) #[x0,x1,x2,x3,x4,y26,x6,x7,y24,x9,kA,lA,mA,nA,oA,pA,qA,rA,sA,tA,uA,vA,y22,x5,y24,x5,y26,y24,y28,dB,eB,fB,gB,hB,iB] H))
    (
      (binI .add nA (.int .i64 1)).bind fun y32 =>
      iterK (denK Tryz.prog (run Tryz.prog k) k C104rrlrll) (K104_2 k) nrrlrl #[x0,x1,x2,x3,x4,x5,x6,x7,x8,x9,kA,lA,mA,y32,oA,pA,qA,rA,sA,tA,uA,vA,y22,xA,yA,zA,aB,bB,cB,dB,eB,fB,y32,hB,iB] H)) (by kernel_rfl) ?_
    simp only [hrrlrl, TJ104_0 k nrrlrl nxrrlrl hrrlrl n (L104_1 k nxrrlrl n) ih]
    rfl
theorem TL104_2 (k : Nat) : ∀ (n : Nat) (x0 x1 x2 x3 x4 x5 x6 x7 x8 x9 kA lA mA nA oA pA qA rA sA tA uA vA wA xA yA zA aB bB cB dB eB fB gB hB iB : Value) (H : Heap), iterK (denK Tryz.prog (run Tryz.prog k) k C104rrlrll) (K104_2 k) n #[x0,x1,x2,x3,x4,x5,x6,x7,x8,x9,kA,lA,mA,nA,oA,pA,qA,rA,sA,tA,uA,vA,wA,xA,yA,zA,aB,bB,cB,dB,eB,fB,gB,hB,iB] H = L104_2 k n x5 lA mA nA H := by
  intro n
  induction n with
  | zero => intros; rfl
  | succ n ih =>
    intro x0 x1 x2 x3 x4 x5 x6 x7 x8 x9 kA lA mA nA oA pA qA rA sA tA uA vA wA xA yA zA aB bB cB dB eB fB gB hB iB H
    refine Eq.trans (b :=
    (binI .lss nA mA).bind fun y14 =>
    condV y14
    (
      (idxSl 1 lA nA).bind fun y15 =>
      (ldV false 1 y15 H).bind fun y16 =>
      bindM (convI .u32 y16) H fun y19 H_1 =>
      (binI .xor x5 y19).bind fun y20 =>
      iterK (denK Tryz.prog (run Tryz.prog k) k C104rrlrllrrllrrrll) (K104_6 k n) k #[x0,x1,x2,x3,x4,y20,x6,y16,x8,x9,kA,lA,mA,nA,y14,y15,y16,x5,y16,y19,y20,(.int .i64 0),wA,xA,yA,zA,aB,bB,cB,dB,eB,fB,gB,hB,iB] H_1)
    (
      (pUn .xor x5).bind fun y34 =>
      some (y34, H))) (by kernel_rfl) ?_
    simp only [TL104_1 k n (L104_2 k n) ih]
    rfl
theorem TF104 (k : Nat) (x0 x1 x2 x3 x4 x5 x6 x7 x8 x9 kA lA mA nA oA pA qA rA sA tA uA vA wA xA yA zA aB bB cB dB eB fB gB hB iB : Value) (H : Heap) : denK Tryz.prog (run Tryz.prog k) k C104l (K104_8 k) #[x0,x1,x2,x3,x4,x5,x6,x7,x8,x9,kA,lA,mA,nA,oA,pA,qA,rA,sA,tA,uA,vA,wA,xA,yA,zA,aB,bB,cB,dB,eB,fB,gB,hB,iB] H = F104 k x0 x1 H := by
  refine Eq.trans (b :=
    (pUn .xor x0).bind fun y10 =>
    bindM (lenSl x1) H fun y12 H_1 =>
    iterK (denK Tryz.prog (run Tryz.prog k) k C104rrlrll) (K104_2 k) k #[x0,x1,x2,x3,(.int .u32 0),y10,x6,x7,x8,x0,y10,x1,y12,(.int .i64 0),oA,pA,qA,rA,sA,tA,uA,vA,wA,xA,yA,zA,aB,bB,cB,dB,eB,fB,gB,hB,iB] H_1) (by kernel_rfl) ?_
  simp only [TL104_2 k]
  rfl
theorem run104 (k : Nat) (x0 x1 : Value) (H : Heap) : run Tryz.prog (k + 1) 104 #[x0,x1] H = F104 k x0 x1 H := by
  refine Eq.trans (b := denK Tryz.prog (run Tryz.prog k) k C104l (K104_8 k) #[x0,x1,undef,undef,undef,undef,undef,undef,undef,undef,undef,undef,undef,undef,undef,undef,undef,undef,undef,undef,undef,undef,undef,undef,undef,undef,undef,undef,undef,undef,undef,undef,undef,undef,undef] H) (by kernel_rfl) ?_
  exact TF104 k x0 x1 undef undef undef undef undef undef undef undef undef undef undef undef undef undef undef undef undef undef undef undef undef undef undef undef undef undef undef undef undef undef undef undef undef H

end Go.PG

namespace Go.PG
open Go.Proofs

noncomputable def C96l : Code := sub [.l] (bodyOf Tryz.f96)
noncomputable def C96r : Code := sub [.r] (bodyOf Tryz.f96)
noncomputable def K96_0 (k : Nat) : Ex → Fr → Heap → Option (Value × Heap) := finK Tryz.prog Tryz.f96
noncomputable def K96_1 (k : Nat) : Ex → Fr → Heap → Option (Value × Heap) := seqC (denK Tryz.prog (run Tryz.prog k) k C96r (K96_0 k)) (K96_0 k)

noncomputable def F96 (k : Nat) (x0 : Value) (H : Heap) : Option (Value × Heap) :=
  bindP (run Tryz.prog k 104 #[(.int .u32 0),x0] H) fun y4 H_1 =>
  some (y4, H_1)

theorem TF96 (k : Nat) (x0 x1 x2 x3 x4 : Value) (H : Heap) : denK Tryz.prog (run Tryz.prog k) k C96l (K96_1 k) #[x0,x1,x2,x3,x4] H = F96 k x0 H := by
  kernel_rfl
theorem run96 (k : Nat) (x0 : Value) (H : Heap) : run Tryz.prog (k + 1) 96 #[x0] H = F96 k x0 H := by
  refine Eq.trans (b := denK Tryz.prog (run Tryz.prog k) k C96l (K96_1 k) #[x0,undef,undef,undef,undef] H) (by kernel_rfl) ?_
  exact TF96 k x0 undef undef undef undef H

end Go.PG

namespace Go.PG

/-- With fuel enough: one answer, of which Q is so. -/
def Ev {α : Type} (F : Nat → Option α) (Q : α → Prop) : Prop := ∃ k0 a, (∀ k, k0 ≤ k → F k = some a) ∧ Q a
theorem Ev.ret {α : Type} {a : α} {Q : α → Prop} (h : Q a) : Ev (fun _ => some a) Q := ⟨0, a, fun _ _ => rfl, h⟩
theorem Ev.mono {α : Type} {F : Nat → Option α} {Q R : α → Prop} (h : Ev F Q) (k : ∀ a, Q a → R a) : Ev F R := by
  obtain ⟨k0, a, h1, h2⟩ := h; exact ⟨k0, a, h1, k a h2⟩
theorem Ev.congr {α : Type} {F G : Nat → Option α} {Q : α → Prop} (h : Ev G Q) (e : ∀ k, F k = G k) : Ev F Q := by
  obtain ⟨k0, a, h1, h2⟩ := h; exact ⟨k0, a, fun k hk => (e k).trans (h1 k hk), h2⟩
theorem Ev.bind {α β : Type} {A : Nat → Option α} {B : Nat → α → Option β} {R : α → Prop} {Q : β → Prop} (h : Ev A R) (k : ∀ a, R a → Ev (fun k => B k a) Q) : Ev (fun k => (A k).bind (B k)) Q := by
  obtain ⟨k0, a, h1, h2⟩ := h
  obtain ⟨k1, b, h3, h4⟩ := k a h2
  exact ⟨max k0 k1, b, fun k hk => (congrArg (fun o => Option.bind o (B k)) (h1 k (by omega))).trans (h3 k (by omega)), h4⟩
theorem Ev.bindP {β : Type} {A : Nat → Option (Value × Heap)} {B : Nat → Value → Heap → Option β} {R : Value × Heap → Prop} {Q : β → Prop} (h : Ev A R) (k : ∀ v H, R (v, H) → Ev (fun k => B k v H) Q) : Ev (fun k => bindP (A k) (B k)) Q :=
  Ev.bind h fun a ha => k a.1 a.2 ha
theorem Ev.succ {α : Type} {F : Nat → Option α} {Q : α → Prop} (h : Ev (fun k => F (k + 1)) Q) : Ev F Q := by
  obtain ⟨k0, a, h1, h2⟩ := h
  exact ⟨k0 + 1, a, fun k hk => by have := h1 (k - 1) (by omega); simp only [show k - 1 + 1 = k from by omega] at this; exact this, h2⟩
/-- A loop's fuel, i times round. -/
theorem Ev.loop {α : Type} {L body : Nat → Nat → Option α} {Q : α → Prop} (e : ∀ k n, L k (n + 1) = body k n) {i : Nat} (h : Ev (fun k => body k (k - (i + 1))) Q) : Ev (fun k => L k (k - i)) Q := by
  obtain ⟨k0, a, h1, h2⟩ := h
  exact ⟨max k0 (i + 1), a, fun k hk => by show L k (k - i) = some a; rw [show k - i = (k - (i + 1)) + 1 from by omega, e]; exact h1 k (by omega), h2⟩
theorem Ev.start {α : Type} {L : Nat → Nat → Option α} {Q : α → Prop} (h : Ev (fun k => L k (k - 0)) Q) : Ev (fun k => L k k) Q := h

/-- A heap with new blocks; all else is as it was. -/
structure Grow (H H' : Heap) : Prop where
  next : H.next ≤ H'.next
  floor : H'.floor = H.floor
  old : ∀ n, n < H.next → H'.blk n = H.blk n
theorem Grow.refl (H : Heap) : Grow H H := ⟨Nat.le_refl _, rfl, fun _ _ => rfl⟩
theorem Grow.trans {A B C : Heap} (h : Grow A B) (k : Grow B C) : Grow A C := ⟨Nat.le_trans h.next k.next, k.floor.trans h.floor, fun n hn => (k.old n (Nat.lt_of_lt_of_le hn h.next)).trans (h.old n hn)⟩
theorem Grow.new {H H' : Heap} (h : Grow H H') (b : Blk) : Grow H (H'.new b) := ⟨by have := h.next; simp [Heap.new]; omega, h.floor, fun n hn => by
  have e : n ≠ H'.next := by have := h.next; omega
  simp [Heap.new, e, h.old n hn]⟩
theorem Grow.set {H H' : Heap} (h : Grow H H') {n : Nat} (hn : H.next ≤ n) (b : Blk) : Grow H (H'.set n b) := ⟨h.next, h.floor, fun m hm => by
  have e : m ≠ n := by omega
  simp [Heap.set, e, h.old m hm]⟩
theorem Grow.del {H H' : Heap} (h : Grow H H') {n : Nat} (hn : H.next ≤ n) : Grow H (H'.del n) := ⟨h.next, h.floor, fun m hm => by
  have e : m ≠ n := by omega
  simp [Heap.del, e, h.old m hm]⟩
end Go.PG

namespace Go.PG

theorem wrap64 {n : Int} (h1 : -9223372036854775808 ≤ n) (h2 : n < 9223372036854775808) : IntKind.i64.wrap n = n := by
  simp only [IntKind.wrap, IntKind.bits, IntKind.signed]
  simp
  omega
theorem condV_dec {α : Type} (p : Prop) [Decidable p] (A B : Option α) : condV (.bool (decide p)) A B = if p then A else B := by
  by_cases h : p <;> simp [h, condV]
theorem condV_bool {α : Type} (b : Bool) (A B : Option α) : condV (.bool b) A B = if b = true then A else B := by cases b <;> rfl
theorem condG_bool {α : Type} (b w : Bool) (A B : Option α) : condG (.bool b) w A B = if b = w then A else B := rfl
theorem Z2 {α : Type} (v : Value) (H : Heap) (f : Value → Heap → Option α) : bindP (some (v, H)) f = f v H := Eq.trans rfl rfl
theorem Z3 {α : Type} (v : Value) (H : Heap) (f : Value → Heap → Option α) : bindM (some v) H f = f v H := Eq.trans rfl rfl
theorem Z4 {α : Type} (H : Heap) (b : Blk) (f : Value → Heap → Option α) : newK H b f = f (.pointer (some ⟨H.next, 0, none⟩)) (H.new b) := Eq.trans rfl rfl
theorem Y4 (a : Addr) : pNil (.pointer (some a)) = some (.pointer (some a)) := Eq.trans rfl rfl
theorem Y5 (off n o : Nat) : fieldA off (.pointer (some ⟨n, o, none⟩)) = some (.pointer (some ⟨n, o + off, none⟩)) := by simp [fieldA, Addr.add]
theorem new_at (H : Heap) (b : Blk) : (H.new b).blk H.next = some b := by simp [Heap.new]
theorem Yd {H : Heap} {b : Blk} {n : Nat} (h : n ≠ H.next) : (H.new b).blk n = H.blk n := by simp [Heap.new, h]
theorem Yg (H : Heap) (b : Blk) : (H.new b).next = H.next + 1 := Eq.trans rfl rfl
theorem Yh (H : Heap) (b : Blk) : (H.new b).floor = H.floor := Eq.trans rfl rfl
theorem set_at (H : Heap) (n : Nat) (b : Blk) : (H.set n b).blk n = some b := by simp [Heap.set]
theorem Yf {H : Heap} {b : Blk} {n m : Nat} (h : m ≠ n) : (H.set n b).blk m = H.blk m := by simp [Heap.set, h]
theorem Yi (H : Heap) (n : Nat) (b : Blk) : (H.set n b).next = H.next := Eq.trans rfl rfl
theorem Yj (H : Heap) (n : Nat) (b : Blk) : (H.set n b).floor = H.floor := Eq.trans rfl rfl
theorem view_row {b : Blk} {c : Array Value} (hr : b.row = some c) : b.view = some (0, c) := by
  cases b <;> simp [Blk.row] at hr <;> simp [Blk.view, hr]
theorem ld1_at {H : Heap} {n o : Nat} {c : Array Value} {b : Blk} (h : H.blk n = some b) (hr : b.row = some c) : H.ld1 ⟨n, o, none⟩ = c[o]? := by
  simp [Heap.ld1, Heap.view, h, view_row hr]
theorem ldN_at {H : Heap} {n o k : Nat} {c : Array Value} {b : Blk} (h : H.blk n = some b) (hr : b.row = some c) (hk : o + k ≤ c.size) : H.ldN ⟨n, o, none⟩ k = some (c.extract o (o + k)) := by
  by_cases h0 : k = 0
  · subst h0; simp [Heap.ldN]; omega
  · simp [Heap.ldN, Heap.view, h, view_row hr, h0, hk]
end Go.PG

namespace Go.PG

def u32 (x : BitVec 32) : Value := .int .u32 (x.toNat : Int)
theorem wrap_u32 {n : Nat} (h : n < 4294967296) : IntKind.u32.wrap (n : Int) = n := by
  simp only [IntKind.wrap, IntKind.bits, IntKind.signed]
  simp
  omega
theorem xor_u32 (x y : BitVec 32) : binI .xor (u32 x) (u32 y) = some (u32 (x ^^^ y)) := by
  simp only [binI, u32, if_true]
  have e : ∀ z : BitVec 32, BitVec.ofInt IntKind.u32.bits (z.toNat : Int) = z := fun z => by
    show BitVec.ofInt 32 (z.toNat : Int) = z
    rw [BitVec.ofInt_natCast, BitVec.ofNat_toNat]; simp
  rw [e x, e y, wrap_u32 (by exact (x ^^^ y).isLt)]
  rfl
theorem and_u32 (x y : BitVec 32) : binI .and (u32 x) (u32 y) = some (u32 (x &&& y)) := by
  simp only [binI, u32, if_true]
  have e : ∀ z : BitVec 32, BitVec.ofInt IntKind.u32.bits (z.toNat : Int) = z := fun z => by
    show BitVec.ofInt 32 (z.toNat : Int) = z
    rw [BitVec.ofInt_natCast, BitVec.ofNat_toNat]; simp
  rw [e x, e y, wrap_u32 (by exact (x &&& y).isLt)]
  rfl
theorem shr_u32 (x : BitVec 32) : binI .shr (u32 x) (.int .u64 1) = some (u32 (x >>> 1)) := by
  simp only [binI, u32]
  rw [if_neg (by decide)]
  have e : (((x.toNat : Int)).fdiv (2 ^ (min (1 : Int).toNat IntKind.u32.bits))) = ((x >>> 1).toNat : Int) := by
    show (x.toNat : Int).fdiv (2 ^ 1) = _
    simp [Int.fdiv_eq_ediv_of_nonneg, BitVec.toNat_ushiftRight, Nat.shiftRight_eq_div_pow]
  rw [e]
theorem eql_u32 (x y : BitVec 32) : binI .eql (u32 x) (u32 y) = some (.bool (x == y)) := by
  simp only [binI, u32, if_true]
  congr 2
  by_cases h : x = y
  · subst h; simp
  · have : x.toNat ≠ y.toNat := fun e => h (BitVec.eq_of_toNat_eq e)
    have h2 : ((x.toNat : Int) == (y.toNat : Int)) = false := by simp; omega
    rw [h2]; simp [h]
end Go.PG

namespace Go.PG
open Go.Proofs

def crcStep (x : BitVec 32) : BitVec 32 := if (x &&& 1#32 == 1#32) = true then (x >>> 1) ^^^ 3988292384#32 else x >>> 1
def crcIter : Nat → BitVec 32 → BitVec 32
  | 0, x => x
  | m + 1, x => crcIter m (crcStep x)
def crcByte (x : BitVec 32) (b : UInt8) : BitVec 32 := crcIter 8 (x ^^^ BitVec.ofNat 32 b.toNat)
def crcAll (x : BitVec 32) (l : List UInt8) : BitVec 32 := l.foldl crcByte x
def crcMore (x : BitVec 32) (l : List UInt8) : BitVec 32 := ~~~ crcAll (~~~ x) l
def crcSum (l : List UInt8) : BitVec 32 := crcMore 0 l

theorem one_u32 : Value.int .u32 1 = u32 1#32 := rfl
theorem poly_u32 : Value.int .u32 3988292384 = u32 3988292384#32 := rfl
theorem crc_bits (k : Nat) (nx : Value → Value → Value → Value → Heap → Option (Value × Heap)) (s l : Value) (j : Int) (H : Heap) : ∀ (m n : Nat) (x : BitVec 32) (i : Nat), i + m = 8 → m < n →
    L104_1 k nx n (u32 x) s l (.int .i64 j) (.int .i64 i) H = nx (u32 (crcIter m x)) s l (.int .i64 (IntKind.i64.wrap (j + 1))) H
  | 0, n, x, i, hi, hn => by
    obtain ⟨n, rfl⟩ : ∃ n', n = n' + 1 := ⟨n - 1, by omega⟩
    have : ¬ ((i : Int) < 8) := by omega
    simp [L104_1, binI, condV, this, crcIter]
  | m + 1, n, x, i, hi, hn => by
    obtain ⟨n, rfl⟩ : ∃ n', n = n' + 1 := ⟨n - 1, by omega⟩
    have h1 : (i : Int) < 8 := by omega
    have hw : IntKind.i64.wrap ((i : Int) + 1) = ((i + 1 : Nat) : Int) := by rw [wrap64] <;> omega
    have e1 : binI .lss (.int .i64 (i : Int)) (.int .i64 8) = some (.bool true) := by simp [binI, h1]
    have e2 : binI .add (.int .i64 (i : Int)) (.int .i64 1) = some (.int .i64 ((i + 1 : Nat) : Int)) := by simp only [binI, if_true, hw]
    have ih := fun x => crc_bits k nx s l j H m n x (i + 1) (by omega) (by omega)
    rw [L104_1, one_u32, poly_u32]
    simp only [e1, Option.bind_some, condV, and_u32, shr_u32, eql_u32, xor_u32, J104_0, e2, ih, crcIter, crcStep]
    cases h : (x &&& 1#32 == 1#32) <;> simp
/-- A slice's bytes. -/
def BytesAt (H : Heap) (v : Value) (l : List UInt8) : Prop :=
  (v = .slice none 0 0 ∧ l = []) ∨ ∃ b o cap c blk, v = .slice (some ⟨b, o, none⟩) l.length cap ∧ H.blk b = some blk ∧ blk.row = some c ∧ ∀ i (h : i < l.length), c[o + i]? = some (.int .u8 (l[i].toNat : Int))
theorem BytesAt.len {H : Heap} {v : Value} {l : List UInt8} (h : BytesAt H v l) : lenSl v = some (.int .i64 l.length) := by
  rcases h with ⟨rfl, rfl⟩ | ⟨b, o, cap, c, blk, rfl, _⟩ <;> rfl
theorem BytesAt.get {H : Heap} {v : Value} {l : List UInt8} (h : BytesAt H v l) {i : Nat} (hi : i < l.length) : ∃ p, idxSl 1 v (.int .i64 (i : Int)) = some p ∧ ldV false 1 p H = some (.int .u8 (l[i].toNat : Int)) := by
  rcases h with ⟨rfl, rfl⟩ | ⟨b, o, cap, c, blk, rfl, hb, hr, hc⟩
  · simp at hi
  · refine ⟨.pointer (some ⟨b, o + i, none⟩), ?_, ?_⟩
    · simp [idxSl, hi, Addr.add]
    · simp [ldV, ld1_at hb hr, hc i hi]
theorem conv_u8 (b : UInt8) : convI .u32 (.int .u8 (b.toNat : Int)) = some (u32 (BitVec.ofNat 32 b.toNat)) := by
  have hb : b.toNat < 256 := b.toNat_lt
  simp only [convI, u32]
  rw [wrap_u32 (by omega), BitVec.toNat_ofNat, Nat.mod_eq_of_lt (by omega)]
theorem not_u32 (x : BitVec 32) : pUn .xor (u32 x) = some (u32 (~~~ x)) := by
  have := xor_u32 (BitVec.allOnes 32) x
  rw [BitVec.allOnes_xor] at this
  simp only [binI, u32, if_true] at this
  simp only [pUn, u32]
  exact this
theorem crc_bytes (k : Nat) (hk : 9 ≤ k) {H : Heap} {v : Value} {l : List UInt8} (hv : BytesAt H v l) (hl : l.length < 2 ^ 62) : ∀ (m n : Nat) (x : BitVec 32) (i : Nat), i + m = l.length → m < n →
    L104_2 k n (u32 x) v (.int .i64 l.length) (.int .i64 i) H = some (u32 (~~~ crcAll x (l.drop i)), H)
  | 0, n, x, i, hi, hn => by
    obtain ⟨n, rfl⟩ : ∃ n', n = n' + 1 := ⟨n - 1, by omega⟩
    have e1 : binI .lss (.int .i64 (i : Int)) (.int .i64 l.length) = some (.bool false) := by simp [binI]; omega
    rw [L104_2]
    simp only [e1, Option.bind_some, condV, not_u32]
    rw [List.drop_eq_nil_of_le (by omega)]; rfl
  | m + 1, n, x, i, hi, hn => by
    obtain ⟨n, rfl⟩ : ∃ n', n = n' + 1 := ⟨n - 1, by omega⟩
    have hil : i < l.length := by omega
    have e1 : binI .lss (.int .i64 (i : Int)) (.int .i64 l.length) = some (.bool true) := by simp [binI]; omega
    obtain ⟨p, e2, e3⟩ := hv.get hil
    have hw : IntKind.i64.wrap ((i : Int) + 1) = ((i + 1 : Nat) : Int) := by rw [wrap64] <;> omega
    rw [L104_2]
    simp only [e1, Option.bind_some, condV, e2, e3, conv_u8, Z3, xor_u32]
    rw [show (Value.int IntKind.i64 0) = .int .i64 ((0 : Nat) : Int) from rfl, crc_bits k _ v _ _ H 8 k _ 0 rfl (by omega), hw, crc_bytes k hk hv hl m n _ (i + 1) (by omega) (by omega)]
    rw [List.drop_eq_getElem_cons hil]; rfl
theorem crc_more {k : Nat} {H : Heap} {v : Value} {l : List UInt8} (hv : BytesAt H v l) (hl : l.length < 2 ^ 62) (hk : 10 ≤ k) (hk2 : l.length + 2 ≤ k) (x : BitVec 32) :
    run Tryz.prog k 104 #[u32 x, v] H = some (u32 (crcMore x l), H) := by
  obtain ⟨k, rfl⟩ : ∃ k', k = k' + 1 := ⟨k - 1, by omega⟩
  rw [run104, F104]
  simp only [not_u32, Option.bind_some, hv.len, Z3]
  rw [show (Value.int IntKind.i64 0) = .int .i64 ((0 : Nat) : Int) from rfl, crc_bytes k (by omega) hv hl l.length k _ 0 (by omega) (by omega)]
  rfl
theorem crc_sum {k : Nat} {H : Heap} {v : Value} {l : List UInt8} (hv : BytesAt H v l) (hl : l.length < 2 ^ 62) (hk : 11 ≤ k) (hk2 : l.length + 3 ≤ k) :
    run Tryz.prog k 96 #[v] H = some (u32 (crcSum l), H) := by
  obtain ⟨k, rfl⟩ : ∃ k', k = k' + 1 := ⟨k - 1, by omega⟩
  rw [run96, F96]
  rw [show (Value.int IntKind.u32 0) = u32 0 from rfl, crc_more hv hl (by omega) (by omega)]
  rfl
end Go.PG

namespace Go.PG
open Go.Proofs

noncomputable def C13l : Code := sub [.l] (bodyOf Tryz.f13)
noncomputable def C13r : Code := sub [.r] (bodyOf Tryz.f13)
noncomputable def C13rll : Code := sub [.r, .l, .l] (bodyOf Tryz.f13)
noncomputable def C13rlr : Code := sub [.r, .l, .r] (bodyOf Tryz.f13)
noncomputable def C13rr : Code := sub [.r, .r] (bodyOf Tryz.f13)
noncomputable def C13rrrlrll : Code := sub [.r, .r, .r, .l, .r, .l, .l] (bodyOf Tryz.f13)
noncomputable def C13rrrr : Code := sub [.r, .r, .r, .r] (bodyOf Tryz.f13)
noncomputable def K13_0 (k : Nat) : Ex → Fr → Heap → Option (Value × Heap) := finK Tryz.prog Tryz.f13
noncomputable def K13_1 (k : Nat) : Ex → Fr → Heap → Option (Value × Heap) := seqC (denK Tryz.prog (run Tryz.prog k) k C13rrrr (K13_0 k)) (K13_0 k)
noncomputable def K13_2 (k : Nat) : Ex → Fr → Heap → Option (Value × Heap) := blkC 0 (K13_1 k)
noncomputable def K13_3 (k : Nat) : Ex → Fr → Heap → Option (Value × Heap) := seqC (denK Tryz.prog (run Tryz.prog k) k C13rr (K13_0 k)) (K13_0 k)
noncomputable def K13_4 (k : Nat) : Ex → Fr → Heap → Option (Value × Heap) := seqC (denK Tryz.prog (run Tryz.prog k) k C13rlr (K13_3 k)) (K13_3 k)
noncomputable def K13_5 (k : Nat) : Ex → Fr → Heap → Option (Value × Heap) := seqC (denK Tryz.prog (run Tryz.prog k) k C13r (K13_0 k)) (K13_0 k)

noncomputable def L13_0 (k : Nat) : Nat → Value → Value → Value → Heap → Option (Value × Heap)
  | 0, _, _, _, _ => none
  | n + 1, x4, nA, oA, H =>
    (binI .lss oA nA).bind fun y15 =>
    condV y15
    (
      (pNil x4).bind fun y18 =>
      (fieldA 0 y18).bind fun y19 =>
      (ldV false 1 y19 H).bind fun y20 =>
      bindP (mkSl 1 1 #[(.int .u8 0)] 5 (.int .i64 32) (.int .i64 32) H) fun y21 H_1 =>
      bindP (pBuildSlice Tryz.prog 84 1 [(0, y21)] H_1) fun y22 H_2 =>
      bindP (appendSl 57 1 24 y20 y22 H_2) fun y23 H_3 =>
      (pNil x4).bind fun y24 =>
      (fieldA 0 y24).bind fun y25 =>
      (stV 1 y25 y23 H_3).bind fun H_4 =>
      (binI .add oA (.int .i64 1)).bind fun y26 =>
      (L13_0 k n) x4 nA y26 H_4)
    (
      some ((.tuple #[x4,(.int .i64 0)]), H))
noncomputable def J13_1 (k : Nat) (x0 x7 x9 : Value) (H : Heap) : Option (Value × Heap) :=
  (pPick x7 (.bool true) x9).bind fun y10 =>
  condV y10
  (
    some ((.tuple #[(.pointer none),(.int .i64 1)]), H))
  (
    (pBuild Tryz.prog 86 []).bind fun y11 =>
    bindP (pBox 86 y11 H) fun y12 H_1 =>
    L13_0 k k y12 x0 (.int .i64 0) H_1)
noncomputable def F13 (k : Nat) (x0 : Value) (H : Heap) : Option (Value × Heap) :=
  (binI .lss x0 (.int .i64 1)).bind fun y6 =>
  condG y6 false
  (
    (binI .gtr x0 (.int .i64 512)).bind fun y9 =>
    J13_1 k x0 y6 y9 H)
  (
    J13_1 k x0 y6 undef H)

theorem TL13_0 (k : Nat) : ∀ (n : Nat) (x0 x1 x2 x3 x4 x5 x6 x7 x8 x9 kA lA mA nA oA pA qA rA sA tA uA vA wA xA yA zA aB bB : Value) (H : Heap), iterK (denK Tryz.prog (run Tryz.prog k) k C13rrrlrll) (K13_2 k) n #[x0,x1,x2,x3,x4,x5,x6,x7,x8,x9,kA,lA,mA,nA,oA,pA,qA,rA,sA,tA,uA,vA,wA,xA,yA,zA,aB,bB] H = L13_0 k n x4 nA oA H := by
  intro n
  induction n with
  | zero => intros; rfl
  | succ n ih =>
    intro x0 x1 x2 x3 x4 x5 x6 x7 x8 x9 kA lA mA nA oA pA qA rA sA tA uA vA wA xA yA zA aB bB H
    refine Eq.trans (b :=
    (binI .lss oA nA).bind fun y15 =>
    condV y15
    (
      (pNil x4).bind fun y18 =>
      (fieldA 0 y18).bind fun y19 =>
      (ldV false 1 y19 H).bind fun y20 =>
      bindP (mkSl 1 1 #[(.int .u8 0)] 5 (.int .i64 32) (.int .i64 32) H) fun y21 H_1 =>
      bindP (pBuildSlice Tryz.prog 84 1 [(0, y21)] H_1) fun y22 H_2 =>
      bindP (appendSl 57 1 24 y20 y22 H_2) fun y23 H_3 =>
      (pNil x4).bind fun y24 =>
      (fieldA 0 y24).bind fun y25 =>
      (stV 1 y25 y23 H_3).bind fun H_4 =>
      (binI .add oA (.int .i64 1)).bind fun y26 =>
      iterK (denK Tryz.prog (run Tryz.prog k) k C13rrrlrll) (K13_2 k) n #[x0,x1,x2,x3,x4,x5,x6,x7,x8,x9,kA,lA,mA,nA,y26,y15,x4,x4,y18,y19,y20,y21,y22,y23,y24,y25,y26,bB] H_4)
    (
      some ((.tuple #[x4,(.int .i64 0)]), H))) (by kernel_rfl) ?_
    simp only [ih]
    rfl
theorem TJ13_1 (k : Nat) (x0 x1 x2 x3 x4 x5 x6 x7 x8 x9 kA lA mA nA oA pA qA rA sA tA uA vA wA xA yA zA aB bB : Value) (H : Heap) : grpK Tryz.prog (run Tryz.prog k) (ropsC C13rll) ((grps (ropsC C13rll).toList).drop 2) #[x0,x1,x2,x3,x4,x5,x6,x7,x8,x9,kA,lA,mA,nA,oA,pA,qA,rA,sA,tA,uA,vA,wA,xA,yA,zA,aB,bB] H ((K13_4 k) .normal) = J13_1 k x0 x7 x9 H := by
  refine Eq.trans (b :=
    (pPick x7 (.bool true) x9).bind fun y10 =>
    condV y10
    (
      some ((.tuple #[(.pointer none),(.int .i64 1)]), H))
    (
      (pBuild Tryz.prog 86 []).bind fun y11 =>
      bindP (pBox 86 y11 H) fun y12 H_1 =>
      iterK (denK Tryz.prog (run Tryz.prog k) k C13rrrlrll) (K13_2 k) k #[x0,x1,x2,x3,y12,x5,x6,x7,x8,x9,y10,y11,y12,x0,(.int .i64 0),pA,qA,rA,sA,tA,uA,vA,wA,xA,yA,zA,aB,bB] H_1)) (by kernel_rfl) ?_
  simp only [TL13_0 k]
  rfl
theorem TF13 (k : Nat) (x0 x1 x2 x3 x4 x5 x6 x7 x8 x9 kA lA mA nA oA pA qA rA sA tA uA vA wA xA yA zA aB bB : Value) (H : Heap) : denK Tryz.prog (run Tryz.prog k) k C13l (K13_5 k) #[x0,x1,x2,x3,x4,x5,x6,x7,x8,x9,kA,lA,mA,nA,oA,pA,qA,rA,sA,tA,uA,vA,wA,xA,yA,zA,aB,bB] H = F13 k x0 H := by
  refine Eq.trans (b :=
    (binI .lss x0 (.int .i64 1)).bind fun y6 =>
    condG y6 false
    (
      (binI .gtr x0 (.int .i64 512)).bind fun y9 =>
      grpK Tryz.prog (run Tryz.prog k) (ropsC C13rll) ((grps (ropsC C13rll).toList).drop 2) #[x0,x1,(.pointer none),(.int .i64 0),x4,x0,y6,y6,x0,y9,kA,lA,mA,nA,oA,pA,qA,rA,sA,tA,uA,vA,wA,xA,yA,zA,aB,bB] H ((K13_4 k) .normal))
    (
      grpK Tryz.prog (run Tryz.prog k) (ropsC C13rll) ((grps (ropsC C13rll).toList).drop 2) #[x0,x1,(.pointer none),(.int .i64 0),x4,x0,y6,y6,undef,undef,kA,lA,mA,nA,oA,pA,qA,rA,sA,tA,uA,vA,wA,xA,yA,zA,aB,bB] H ((K13_4 k) .normal))) (by kernel_rfl) ?_
  simp only [TJ13_1 k]
  rfl
theorem run13 (k : Nat) (x0 : Value) (H : Heap) : run Tryz.prog (k + 1) 13 #[x0] H = F13 k x0 H := by
  refine Eq.trans (b := denK Tryz.prog (run Tryz.prog k) k C13l (K13_5 k) #[x0,undef,undef,undef,undef,undef,undef,undef,undef,undef,undef,undef,undef,undef,undef,undef,undef,undef,undef,undef,undef,undef,undef,undef,undef,undef,undef,undef] H) (by kernel_rfl) ?_
  exact TF13 k x0 undef undef undef undef undef undef undef undef undef undef undef undef undef undef undef undef undef undef undef undef undef undef undef undef undef undef undef H

end Go.PG

namespace Go.PG
open Go.Proofs

noncomputable def C14l : Code := sub [.l] (bodyOf Tryz.f14)
noncomputable def C14r : Code := sub [.r] (bodyOf Tryz.f14)
noncomputable def C14rrlrll : Code := sub [.r, .r, .l, .r, .l, .l] (bodyOf Tryz.f14)
noncomputable def C14rrr : Code := sub [.r, .r, .r] (bodyOf Tryz.f14)
noncomputable def K14_0 (k : Nat) : Ex → Fr → Heap → Option (Value × Heap) := finK Tryz.prog Tryz.f14
noncomputable def K14_1 (k : Nat) : Ex → Fr → Heap → Option (Value × Heap) := seqC (denK Tryz.prog (run Tryz.prog k) k C14rrr (K14_0 k)) (K14_0 k)
noncomputable def K14_2 (k : Nat) : Ex → Fr → Heap → Option (Value × Heap) := blkC 0 (K14_1 k)
noncomputable def K14_3 (k : Nat) : Ex → Fr → Heap → Option (Value × Heap) := seqC (denK Tryz.prog (run Tryz.prog k) k C14r (K14_0 k)) (K14_0 k)

noncomputable def L14_0 (k : Nat) : Nat → Value → Value → Value → Value → Value → Heap → Option (Value × Heap)
  | 0, _, _, _, _, _, _ => none
  | n + 1, x0, x1, x3, qA, rA, H =>
    (binI .lss rA qA).bind fun y18 =>
    condV y18
    (
      bindP (mkSl 1 1 #[(.int .u8 0)] 5 (.int .i64 32) (.int .i64 32) H) fun y20 H_1 =>
      bindP (copyV 1 y20 x3 H_1) fun y24 H_2 =>
      (sliceStr x3 (some y24) none).bind fun y25 =>
      (pNil x0).bind fun y27 =>
      (fieldA 0 y27).bind fun y28 =>
      (ldV false 1 y28 H_2).bind fun y29 =>
      (binI .add x1 rA).bind fun y32 =>
      (idxSl 1 y29 y32).bind fun y34 =>
      (stV 1 y34 y20 H_2).bind fun H_3 =>
      (binI .add rA (.int .i64 1)).bind fun y35 =>
      (L14_0 k n) x0 x1 y25 qA y35 H_3)
    (
      some ((.int .i64 0), H))
noncomputable def F14 (k : Nat) (x0 x1 x2 x3 : Value) (H : Heap) : Option (Value × Heap) :=
  bindP (run Tryz.prog k 45 #[x0,x1,x2] H) fun y14 H_1 =>
  (pUn .not y14).bind fun y15 =>
  condV y15
  (
    some ((.int .i64 1), H_1))
  (
    L14_0 k k x0 x1 x3 x2 (.int .i64 0) H_1)

theorem TL14_0 (k : Nat) : ∀ (n : Nat) (x0 x1 x2 x3 x4 x5 x6 x7 x8 x9 kA lA mA nA oA pA qA rA sA tA uA vA wA xA yA zA aB bB cB dB eB fB gB hB iB jB : Value) (H : Heap), iterK (denK Tryz.prog (run Tryz.prog k) k C14rrlrll) (K14_2 k) n #[x0,x1,x2,x3,x4,x5,x6,x7,x8,x9,kA,lA,mA,nA,oA,pA,qA,rA,sA,tA,uA,vA,wA,xA,yA,zA,aB,bB,cB,dB,eB,fB,gB,hB,iB,jB] H = L14_0 k n x0 x1 x3 qA rA H := by
  intro n
  induction n with
  | zero => intros; rfl
  | succ n ih =>
    intro x0 x1 x2 x3 x4 x5 x6 x7 x8 x9 kA lA mA nA oA pA qA rA sA tA uA vA wA xA yA zA aB bB cB dB eB fB gB hB iB jB H
    refine Eq.trans (b :=
    (binI .lss rA qA).bind fun y18 =>
    condV y18
    (
      bindP (mkSl 1 1 #[(.int .u8 0)] 5 (.int .i64 32) (.int .i64 32) H) fun y20 H_1 =>
      bindP (copyV 1 y20 x3 H_1) fun y24 H_2 =>
      (sliceStr x3 (some y24) none).bind fun y25 =>
      (pNil x0).bind fun y27 =>
      (fieldA 0 y27).bind fun y28 =>
      (ldV false 1 y28 H_2).bind fun y29 =>
      (binI .add x1 rA).bind fun y32 =>
      (idxSl 1 y29 y32).bind fun y34 =>
      (stV 1 y34 y20 H_2).bind fun H_3 =>
      (binI .add rA (.int .i64 1)).bind fun y35 =>
      iterK (denK Tryz.prog (run Tryz.prog k) k C14rrlrll) (K14_2 k) n #[x0,x1,x2,y25,x4,x5,x6,x7,x8,rA,y20,lA,mA,nA,oA,pA,qA,y35,y18,rA,y20,x3,y20,x3,y24,y25,x0,y27,y28,y29,x1,rA,y32,y20,y34,y35] H_3)
    (
      some ((.int .i64 0), H))) (by kernel_rfl) ?_
    simp only [ih]
    rfl
theorem TF14 (k : Nat) (x0 x1 x2 x3 x4 x5 x6 x7 x8 x9 kA lA mA nA oA pA qA rA sA tA uA vA wA xA yA zA aB bB cB dB eB fB gB hB iB jB : Value) (H : Heap) : denK Tryz.prog (run Tryz.prog k) k C14l (K14_3 k) #[x0,x1,x2,x3,x4,x5,x6,x7,x8,x9,kA,lA,mA,nA,oA,pA,qA,rA,sA,tA,uA,vA,wA,xA,yA,zA,aB,bB,cB,dB,eB,fB,gB,hB,iB,jB] H = F14 k x0 x1 x2 x3 H := by
  refine Eq.trans (b :=
    bindP (run Tryz.prog k 45 #[x0,x1,x2] H) fun y14 H_1 =>
    (pUn .not y14).bind fun y15 =>
    condV y15
    (
      some ((.int .i64 1), H_1))
    (
      iterK (denK Tryz.prog (run Tryz.prog k) k C14rrlrll) (K14_2 k) k #[x0,x1,x2,x3,x4,x5,x6,x7,(.int .i64 0),x9,kA,x0,x1,x2,y14,y15,x2,(.int .i64 0),sA,tA,uA,vA,wA,xA,yA,zA,aB,bB,cB,dB,eB,fB,gB,hB,iB,jB] H_1)) (by kernel_rfl) ?_
  simp only [TL14_0 k]
  rfl
theorem run14 (k : Nat) (x0 x1 x2 x3 : Value) (H : Heap) : run Tryz.prog (k + 1) 14 #[x0,x1,x2,x3] H = F14 k x0 x1 x2 x3 H := by
  refine Eq.trans (b := denK Tryz.prog (run Tryz.prog k) k C14l (K14_3 k) #[x0,x1,x2,x3,undef,undef,undef,undef,undef,undef,undef,undef,undef,undef,undef,undef,undef,undef,undef,undef,undef,undef,undef,undef,undef,undef,undef,undef,undef,undef,undef,undef,undef,undef,undef,undef] H) (by kernel_rfl) ?_
  exact TF14 k x0 x1 x2 x3 undef undef undef undef undef undef undef undef undef undef undef undef undef undef undef undef undef undef undef undef undef undef undef undef undef undef undef undef undef undef undef undef H

end Go.PG

namespace Go.PG
open Go.Proofs

noncomputable def C22l : Code := sub [.l] (bodyOf Tryz.f22)
noncomputable def C22r : Code := sub [.r] (bodyOf Tryz.f22)
noncomputable def K22_0 (k : Nat) : Ex → Fr → Heap → Option (Value × Heap) := finK Tryz.prog Tryz.f22
noncomputable def K22_1 (k : Nat) : Ex → Fr → Heap → Option (Value × Heap) := seqC (denK Tryz.prog (run Tryz.prog k) k C22r (K22_0 k)) (K22_0 k)

noncomputable def F22 (k : Nat) (x0 : Value) (H : Heap) : Option (Value × Heap) :=
  (pNil x0).bind fun y4 =>
  (fieldA 0 y4).bind fun y5 =>
  (ldV false 1 y5 H).bind fun y6 =>
  bindP (run Tryz.prog k 60 #[y6,(.slice none 0 0)] H) fun y7 H_1 =>
  bindM (convBS y7 H_1) H_1 fun y8 H_2 =>
  some (y8, H_2)

theorem TF22 (k : Nat) (x0 x1 x2 x3 x4 x5 x6 x7 x8 : Value) (H : Heap) : denK Tryz.prog (run Tryz.prog k) k C22l (K22_1 k) #[x0,x1,x2,x3,x4,x5,x6,x7,x8] H = F22 k x0 H := by
  kernel_rfl
theorem run22 (k : Nat) (x0 : Value) (H : Heap) : run Tryz.prog (k + 1) 22 #[x0] H = F22 k x0 H := by
  refine Eq.trans (b := denK Tryz.prog (run Tryz.prog k) k C22l (K22_1 k) #[x0,undef,undef,undef,undef,undef,undef,undef,undef] H) (by kernel_rfl) ?_
  exact TF22 k x0 undef undef undef undef undef undef undef undef H

end Go.PG

namespace Go.PG
open Go.Proofs

noncomputable def C45l : Code := sub [.l] (bodyOf Tryz.f45)
noncomputable def C45r : Code := sub [.r] (bodyOf Tryz.f45)
noncomputable def C45rl : Code := sub [.r, .l] (bodyOf Tryz.f45)
noncomputable def C45rr : Code := sub [.r, .r] (bodyOf Tryz.f45)
noncomputable def K45_0 (k : Nat) : Ex → Fr → Heap → Option (Value × Heap) := finK Tryz.prog Tryz.f45
noncomputable def K45_1 (k : Nat) : Ex → Fr → Heap → Option (Value × Heap) := seqC (denK Tryz.prog (run Tryz.prog k) k C45rr (K45_0 k)) (K45_0 k)
noncomputable def K45_2 (k : Nat) : Ex → Fr → Heap → Option (Value × Heap) := seqC (denK Tryz.prog (run Tryz.prog k) k C45r (K45_0 k)) (K45_0 k)

noncomputable def J45_0 (k : Nat) (x0 x1 x2 sA uA : Value) (H : Heap) : Option (Value × Heap) :=
  (pPick sA uA (.bool false)).bind fun y21 =>
  condG y21 true
  (
    (pNil x0).bind fun y25 =>
    (fieldA 0 y25).bind fun y26 =>
    (ldV false 1 y26 H).bind fun y27 =>
    bindM (lenSl y27) H fun y28 H_1 =>
    (binI .sub y28 x2).bind fun y30 =>
    (binI .leq x1 y30).bind fun y31 =>
    (pPick y21 y31 (.bool false)).bind fun y32 =>
    some (y32, H_1))
  (
    (pPick y21 undef (.bool false)).bind fun y32_1 =>
    some (y32_1, H))
noncomputable def J45_1 (k : Nat) (x0 x1 x2 x9 qA : Value) (H : Heap) : Option (Value × Heap) :=
  (pPick x9 qA (.bool false)).bind fun y17 =>
  condG y17 true
  (
    (binI .geq x1 (.int .i64 0)).bind fun y20 =>
    J45_0 k x0 x1 x2 y17 y20 H)
  (
    J45_0 k x0 x1 x2 y17 undef H)
noncomputable def F45 (k : Nat) (x0 x1 x2 : Value) (H : Heap) : Option (Value × Heap) :=
  (binI .geq x2 (.int .i64 1)).bind fun y8 =>
  condG y8 true
  (
    (pNil x0).bind fun y12 =>
    (fieldA 0 y12).bind fun y13 =>
    (ldV false 1 y13 H).bind fun y14 =>
    bindM (lenSl y14) H fun y15 H_1 =>
    (binI .leq x2 y15).bind fun y16 =>
    J45_1 k x0 x1 x2 y8 y16 H_1)
  (
    J45_1 k x0 x1 x2 y8 undef H)

theorem TJ45_0 (k : Nat) (x0 x1 x2 x3 x4 x5 x6 x7 x8 x9 kA lA mA nA oA pA qA rA sA tA uA vA wA xA yA zA aB bB cB dB eB fB gB : Value) (H : Heap) : grpK Tryz.prog (run Tryz.prog k) (ropsC C45rl) ((grps (ropsC C45rl).toList).drop 4) #[x0,x1,x2,x3,x4,x5,x6,x7,x8,x9,kA,lA,mA,nA,oA,pA,qA,rA,sA,tA,uA,vA,wA,xA,yA,zA,aB,bB,cB,dB,eB,fB,gB] H ((K45_1 k) .normal) = J45_0 k x0 x1 x2 sA uA H := by
  kernel_rfl
theorem TJ45_1 (k : Nat) (x0 x1 x2 x3 x4 x5 x6 x7 x8 x9 kA lA mA nA oA pA qA rA sA tA uA vA wA xA yA zA aB bB cB dB eB fB gB : Value) (H : Heap) : grpK Tryz.prog (run Tryz.prog k) (ropsC C45rl) ((grps (ropsC C45rl).toList).drop 2) #[x0,x1,x2,x3,x4,x5,x6,x7,x8,x9,kA,lA,mA,nA,oA,pA,qA,rA,sA,tA,uA,vA,wA,xA,yA,zA,aB,bB,cB,dB,eB,fB,gB] H ((K45_1 k) .normal) = J45_1 k x0 x1 x2 x9 qA H := by
  refine Eq.trans (b :=
    (pPick x9 qA (.bool false)).bind fun y17 =>
    condG y17 true
    (
      (binI .geq x1 (.int .i64 0)).bind fun y20 =>
      grpK Tryz.prog (run Tryz.prog k) (ropsC C45rl) ((grps (ropsC C45rl).toList).drop 4) #[x0,x1,x2,x3,x4,x5,x6,x7,x8,x9,kA,lA,mA,nA,oA,pA,qA,y17,y17,x1,y20,vA,wA,xA,yA,zA,aB,bB,cB,dB,eB,fB,gB] H ((K45_1 k) .normal))
    (
      grpK Tryz.prog (run Tryz.prog k) (ropsC C45rl) ((grps (ropsC C45rl).toList).drop 4) #[x0,x1,x2,x3,x4,x5,x6,x7,x8,x9,kA,lA,mA,nA,oA,pA,qA,y17,y17,undef,undef,vA,wA,xA,yA,zA,aB,bB,cB,dB,eB,fB,gB] H ((K45_1 k) .normal))) (by kernel_rfl) ?_
  simp only [TJ45_0 k]
  rfl
theorem TF45 (k : Nat) (x0 x1 x2 x3 x4 x5 x6 x7 x8 x9 kA lA mA nA oA pA qA rA sA tA uA vA wA xA yA zA aB bB cB dB eB fB gB : Value) (H : Heap) : denK Tryz.prog (run Tryz.prog k) k C45l (K45_2 k) #[x0,x1,x2,x3,x4,x5,x6,x7,x8,x9,kA,lA,mA,nA,oA,pA,qA,rA,sA,tA,uA,vA,wA,xA,yA,zA,aB,bB,cB,dB,eB,fB,gB] H = F45 k x0 x1 x2 H := by
  refine Eq.trans (b :=
    (binI .geq x2 (.int .i64 1)).bind fun y8 =>
    condG y8 true
    (
      (pNil x0).bind fun y12 =>
      (fieldA 0 y12).bind fun y13 =>
      (ldV false 1 y13 H).bind fun y14 =>
      bindM (lenSl y14) H fun y15 H_1 =>
      (binI .leq x2 y15).bind fun y16 =>
      grpK Tryz.prog (run Tryz.prog k) (ropsC C45rl) ((grps (ropsC C45rl).toList).drop 2) #[x0,x1,x2,x3,x4,x5,(.bool false),x2,y8,y8,x2,x0,y12,y13,y14,y15,y16,rA,sA,tA,uA,vA,wA,xA,yA,zA,aB,bB,cB,dB,eB,fB,gB] H_1 ((K45_1 k) .normal))
    (
      grpK Tryz.prog (run Tryz.prog k) (ropsC C45rl) ((grps (ropsC C45rl).toList).drop 2) #[x0,x1,x2,x3,x4,x5,(.bool false),x2,y8,y8,undef,undef,undef,undef,undef,undef,undef,rA,sA,tA,uA,vA,wA,xA,yA,zA,aB,bB,cB,dB,eB,fB,gB] H ((K45_1 k) .normal))) (by kernel_rfl) ?_
  simp only [TJ45_1 k]
  rfl
theorem run45 (k : Nat) (x0 x1 x2 : Value) (H : Heap) : run Tryz.prog (k + 1) 45 #[x0,x1,x2] H = F45 k x0 x1 x2 H := by
  refine Eq.trans (b := denK Tryz.prog (run Tryz.prog k) k C45l (K45_2 k) #[x0,x1,x2,undef,undef,undef,undef,undef,undef,undef,undef,undef,undef,undef,undef,undef,undef,undef,undef,undef,undef,undef,undef,undef,undef,undef,undef,undef,undef,undef,undef,undef,undef] H) (by kernel_rfl) ?_
  exact TF45 k x0 x1 x2 undef undef undef undef undef undef undef undef undef undef undef undef undef undef undef undef undef undef undef undef undef undef undef undef undef undef undef undef undef undef H

end Go.PG

namespace Go.PG
open Go.Proofs

noncomputable def C47l : Code := sub [.l] (bodyOf Tryz.f47)
noncomputable def C47r : Code := sub [.r] (bodyOf Tryz.f47)
noncomputable def K47_0 (k : Nat) : Ex → Fr → Heap → Option (Value × Heap) := finK Tryz.prog Tryz.f47
noncomputable def K47_1 (k : Nat) : Ex → Fr → Heap → Option (Value × Heap) := seqC (denK Tryz.prog (run Tryz.prog k) k C47r (K47_0 k)) (K47_0 k)

noncomputable def F47 (k : Nat) (x0 : Value) (H : Heap) : Option (Value × Heap) :=
  bindP (run Tryz.prog k 83 #[x0] H) fun y7 H_1 =>
  (pExtract y7 0).bind fun y8 =>
  (pExtract y7 1).bind fun y9 =>
  condV y9
  (
    bindP (run Tryz.prog k 84 #[y8] H_1) fun y12 H_2 =>
    (fieldV false 1 2 y12).bind fun y13 =>
    some (y13, H_2))
  (
    (pMethod Tryz.prog x0 "Content" []).bind fun fa => bindP (run Tryz.prog k fa.1 fa.2 H_1) fun y15 H_3 =>
    bindM (lenSt y15) H_3 fun y16 H_4 =>
    (binI .quo y16 (.int .i64 32)).bind fun y17 =>
    some (y17, H_4))

theorem TF47 (k : Nat) (x0 x1 x2 x3 x4 x5 x6 x7 x8 x9 kA lA mA nA oA pA qA rA : Value) (H : Heap) : denK Tryz.prog (run Tryz.prog k) k C47l (K47_1 k) #[x0,x1,x2,x3,x4,x5,x6,x7,x8,x9,kA,lA,mA,nA,oA,pA,qA,rA] H = F47 k x0 H := by
  kernel_rfl
theorem run47 (k : Nat) (x0 : Value) (H : Heap) : run Tryz.prog (k + 1) 47 #[x0] H = F47 k x0 H := by
  refine Eq.trans (b := denK Tryz.prog (run Tryz.prog k) k C47l (K47_1 k) #[x0,undef,undef,undef,undef,undef,undef,undef,undef,undef,undef,undef,undef,undef,undef,undef,undef,undef] H) (by kernel_rfl) ?_
  exact TF47 k x0 undef undef undef undef undef undef undef undef undef undef undef undef undef undef undef undef undef H

end Go.PG

namespace Go.PG
open Go.Proofs

noncomputable def C83l : Code := sub [.l] (bodyOf Tryz.f83)
noncomputable def C83r : Code := sub [.r] (bodyOf Tryz.f83)
noncomputable def K83_0 (k : Nat) : Ex → Fr → Heap → Option (Value × Heap) := finK Tryz.prog Tryz.f83
noncomputable def K83_1 (k : Nat) : Ex → Fr → Heap → Option (Value × Heap) := seqC (denK Tryz.prog (run Tryz.prog k) k C83r (K83_0 k)) (K83_0 k)

noncomputable def F83 (k : Nat) (x0 : Value) (H : Heap) : Option (Value × Heap) :=
  (assertC 144 true (.pointer none) x0).bind fun y8 =>
  (pExtract y8 0).bind fun y9 =>
  (pExtract y8 1).bind fun y10 =>
  some ((.tuple #[y9,y10]), H)

theorem TF83 (k : Nat) (x0 x1 x2 x3 x4 x5 x6 x7 x8 x9 kA lA mA : Value) (H : Heap) : denK Tryz.prog (run Tryz.prog k) k C83l (K83_1 k) #[x0,x1,x2,x3,x4,x5,x6,x7,x8,x9,kA,lA,mA] H = F83 k x0 H := by
  kernel_rfl
theorem run83 (k : Nat) (x0 : Value) (H : Heap) : run Tryz.prog (k + 1) 83 #[x0] H = F83 k x0 H := by
  refine Eq.trans (b := denK Tryz.prog (run Tryz.prog k) k C83l (K83_1 k) #[x0,undef,undef,undef,undef,undef,undef,undef,undef,undef,undef,undef,undef] H) (by kernel_rfl) ?_
  exact TF83 k x0 undef undef undef undef undef undef undef undef undef undef undef undef H

end Go.PG

namespace Go.PG
open Go.Proofs

noncomputable def C138l : Code := sub [.l] (bodyOf Tryz.f138)
noncomputable def C138r : Code := sub [.r] (bodyOf Tryz.f138)
noncomputable def K138_0 (k : Nat) : Ex → Fr → Heap → Option (Value × Heap) := finK Tryz.prog Tryz.f138
noncomputable def K138_1 (k : Nat) : Ex → Fr → Heap → Option (Value × Heap) := seqC (denK Tryz.prog (run Tryz.prog k) k C138r (K138_0 k)) (K138_0 k)

noncomputable def F138 (k : Nat) (x0 x1 x2 : Value) (H : Heap) : Option (Value × Heap) :=
  bindP (run Tryz.prog k 45 #[x0,x1,x2] H) fun y11 H_1 =>
  (pUn .not y11).bind fun y12 =>
  condV y12
  (
    some ((.tuple #[(.string ⟨#[]⟩), (.int .i64 1)]), H_1))
  (
    (pNil x0).bind fun y14 =>
    (fieldA 0 y14).bind fun y15 =>
    (ldV false 1 y15 H_1).bind fun y16 =>
    (binI .add x1 x2).bind fun y20 =>
    (sliceSl 1 y16 (some x1) (some y20) none).bind fun y21 =>
    bindP (run Tryz.prog k 60 #[y21,(.slice none 0 0)] H_1) fun y22 H_2 =>
    bindM (convBS y22 H_2) H_2 fun y23 H_3 =>
    some ((.tuple #[y23,(.int .i64 0)]), H_3))

theorem TF138 (k : Nat) (x0 x1 x2 x3 x4 x5 x6 x7 x8 x9 kA lA mA nA oA pA qA rA sA tA uA vA wA xA : Value) (H : Heap) : denK Tryz.prog (run Tryz.prog k) k C138l (K138_1 k) #[x0,x1,x2,x3,x4,x5,x6,x7,x8,x9,kA,lA,mA,nA,oA,pA,qA,rA,sA,tA,uA,vA,wA,xA] H = F138 k x0 x1 x2 H := by
  kernel_rfl
theorem run138 (k : Nat) (x0 x1 x2 : Value) (H : Heap) : run Tryz.prog (k + 1) 138 #[x0,x1,x2] H = F138 k x0 x1 x2 H := by
  refine Eq.trans (b := denK Tryz.prog (run Tryz.prog k) k C138l (K138_1 k) #[x0,x1,x2,undef,undef,undef,undef,undef,undef,undef,undef,undef,undef,undef,undef,undef,undef,undef,undef,undef,undef,undef,undef,undef] H) (by kernel_rfl) ?_
  exact TF138 k x0 x1 x2 undef undef undef undef undef undef undef undef undef undef undef undef undef undef undef undef undef undef undef undef undef H

end Go.PG

namespace Go.PG
open Go.Proofs

noncomputable def C139l : Code := sub [.l] (bodyOf Tryz.f139)
noncomputable def C139r : Code := sub [.r] (bodyOf Tryz.f139)
noncomputable def K139_0 (k : Nat) : Ex → Fr → Heap → Option (Value × Heap) := finK Tryz.prog Tryz.f139
noncomputable def K139_1 (k : Nat) : Ex → Fr → Heap → Option (Value × Heap) := seqC (denK Tryz.prog (run Tryz.prog k) k C139r (K139_0 k)) (K139_0 k)

noncomputable def F139 (k : Nat) (x0 x1 x2 : Value) (H : Heap) : Option (Value × Heap) :=
  bindP (run Tryz.prog k 14 #[x0, x1, x2, (.string ⟨#[]⟩)] H) fun y10 H_1 =>
  some (y10, H_1)

theorem TF139 (k : Nat) (x0 x1 x2 x3 x4 x5 x6 x7 x8 x9 kA : Value) (H : Heap) : denK Tryz.prog (run Tryz.prog k) k C139l (K139_1 k) #[x0,x1,x2,x3,x4,x5,x6,x7,x8,x9,kA] H = F139 k x0 x1 x2 H := by
  kernel_rfl
theorem run139 (k : Nat) (x0 x1 x2 : Value) (H : Heap) : run Tryz.prog (k + 1) 139 #[x0,x1,x2] H = F139 k x0 x1 x2 H := by
  refine Eq.trans (b := denK Tryz.prog (run Tryz.prog k) k C139l (K139_1 k) #[x0,x1,x2,undef,undef,undef,undef,undef,undef,undef,undef] H) (by kernel_rfl) ?_
  exact TF139 k x0 x1 x2 undef undef undef undef undef undef undef undef H

end Go.PG

namespace Go.PG

/-- Each name's block, and how many elements it may bear. -/
abbrev Ren := Nat → Option (Nat × Nat)

inductive VRel (ρ : Ren) : Value → Value → Prop where
  | bool (b : Bool) : VRel ρ (.bool b) (.bool b)
  | int (k : IntKind) (n : Int) : VRel ρ (.int k n) (.int k n)
  | float (k : FloatKind) (n : Nat) : VRel ρ (.float k n) (.float k n)
  | string (s : ByteArray) : VRel ρ (.string s) (.string s)
  | nilPtr : VRel ρ (.pointer none) (.pointer none)
  | nilSlice : VRel ρ (.slice none 0 0) (.slice none 0 0)
  | nilMap : VRel ρ (.map none) (.map none)
  | nilFunc : VRel ρ .nilFunc .nilFunc
  | nilIface : VRel ρ .nilIface .nilIface
  | ptr {n b K : Nat} (off : Nat) (h : ρ n = some (b, K)) : VRel ρ (.pointer (some ⟨n, off, none⟩)) (.pointer (some ⟨b, off, none⟩))
  | slice {n b K : Nat} (off len cap : Nat) (h : ρ n = some (b, K)) (hc : cap < capU) (hl : len ≤ cap) : VRel ρ (.slice (some ⟨n, off, none⟩) len cap) (.slice (some ⟨b, off, none⟩) len cap)
  | sliceU {n b K : Nat} (len : Nat) (h : ρ n = some (b, K)) (hl : len ≤ K) (hu : len < capU) : VRel ρ (.slice (some ⟨n, 0, none⟩) len capU) (.slice (some ⟨b, 0, none⟩) len K)
  | sliceI {n b K : Nat} (off len cap : Nat) (h : ρ n = some (b, K)) (h0 : off ≠ 0) (hl : len ≤ cap) (hu : len < capU) : VRel ρ (.slice (some ⟨n, off, none⟩) len capU) (.slice (some ⟨b, off, none⟩) len cap)
  | sliceE (a b : Addr) (cap : Nat) (h0 : a.off ≠ 0) : VRel ρ (.slice (some a) 0 capU) (.slice (some b) 0 cap)
  | sliceZ (a b : Addr) : VRel ρ (.slice (some a) 0 0) (.slice (some b) 0 0)
  | map {n b K : Nat} (h : ρ n = some (b, K)) : VRel ρ (.map (some n)) (.map (some b))
  | iface {v v' : Value} (t : TypeId) (h : VRel ρ v v') : VRel ρ (.iface t v) (.iface t v')
  | agg {xs ys : Array Value} (hs : xs.size = ys.size) (h : ∀ i, VRel ρ (xs.getD i undef) (ys.getD i undef)) : VRel ρ (.agg xs) (.agg ys)
  | tuple {xs ys : Array Value} (hs : xs.size = ys.size) (h : ∀ i, i < xs.size → VRel ρ (xs.getD i undef) (ys.getD i undef)) : VRel ρ (.tuple xs) (.tuple ys)
  | func {aas aas' bs bs' : Array Value} (fn : Fn) (ha : aas.size = aas'.size) (hb : bs.size = bs'.size) (h : ∀ i, i < aas.size → VRel ρ (aas.getD i undef) (aas'.getD i undef))
      (h' : ∀ i, i < bs.size → VRel ρ (bs.getD i undef) (bs'.getD i undef)) : VRel ρ (.func fn aas bs) (.func fn aas' bs')
  | junk {v : Value} (h : v.oneCell' = true) : VRel ρ junk v

theorem VRel.undef {ρ : Ren} : VRel ρ undef undef := .tuple rfl (fun i h => absurd h (Nat.not_lt_zero i))

theorem VRel.mono {ρ ρ' : Ren} (h : ∀ n x, ρ n = some x → ρ' n = some x) {v v' : Value} (hv : VRel ρ v v') : VRel ρ' v v' := by
  induction hv with
  | bool b => exact .bool b
  | int k n => exact .int k n
  | float k n => exact .float k n
  | string s => exact .string s
  | nilPtr => exact .nilPtr
  | nilSlice => exact .nilSlice
  | nilMap => exact .nilMap
  | nilFunc => exact .nilFunc
  | nilIface => exact .nilIface
  | ptr off hn => exact .ptr off (h _ _ hn)
  | slice off len cap hn hc hl => exact .slice off len cap (h _ _ hn) hc hl
  | sliceU len hn hl hu => exact .sliceU len (h _ _ hn) hl hu
  | sliceI off len cap hn h0 hl hu => exact .sliceI off len cap (h _ _ hn) h0 hl hu
  | sliceE a b cap h0 => exact .sliceE a b cap h0
  | sliceZ a b => exact .sliceZ a b
  | map hn => exact .map (h _ _ hn)
  | iface t _ ih => exact .iface t ih
  | agg hs _ ih => exact .agg hs ih
  | tuple hs _ ih => exact .tuple hs ih
  | func fn ha hb _ _ ih ih' => exact .func fn ha hb ih ih'
  | junk hv => exact .junk hv

/-- Rows of values side by side. -/
def ARel (ρ : Ren) (xs ys : Array Value) : Prop := xs.size = ys.size ∧ ∀ i, VRel ρ (xs.getD i undef) (ys.getD i undef)
theorem ARel.mono {ρ ρ' : Ren} (h : ∀ n x, ρ n = some x → ρ' n = some x) {xs ys : Array Value} (hv : ARel ρ xs ys) : ARel ρ' xs ys := ⟨hv.1, fun i => (hv.2 i).mono h⟩
theorem getD_out {xs : Array Value} {i : Nat} (h : xs.size ≤ i) : xs.getD i undef = undef := by
  simp [Array.getD_eq_getD_getElem?, Array.getElem?_eq_none h]
theorem getD_in {xs : Array Value} {i : Nat} (h : i < xs.size) : xs[i]? = some (xs.getD i undef) := by
  simp [Array.getD_eq_getD_getElem?, Array.getElem?_eq_getElem h]
theorem ARel.of_lt {ρ : Ren} {xs ys : Array Value} (hs : xs.size = ys.size) (h : ∀ i, i < xs.size → VRel ρ (xs.getD i undef) (ys.getD i undef)) : ARel ρ xs ys :=
  ⟨hs, fun i => by
    by_cases hi : i < xs.size
    · exact h i hi
    · rw [getD_out (by omega), getD_out (by omega)]; exact .undef⟩
theorem ARel.get {ρ : Ren} {xs ys : Array Value} (h : ARel ρ xs ys) {i : Nat} {v : Value} (hv : xs[i]? = some v) : ∃ v', ys[i]? = some v' ∧ VRel ρ v v' := by
  have hi : i < xs.size := (Array.getElem?_eq_some_iff.1 hv).1
  refine ⟨ys.getD i undef, getD_in (h.1 ▸ hi), ?_⟩
  have := h.2 i
  rwa [show xs.getD i undef = v from by rw [getD_in hi] at hv; exact Option.some.inj hv] at this
theorem ARel.set {ρ : Ren} {xs ys : Array Value} (h : ARel ρ xs ys) (j : Nat) {v v' : Value} (hv : VRel ρ v v') : ARel ρ (xs.setIfInBounds j v) (ys.setIfInBounds j v') := by
  refine ⟨by simpa using h.1, fun i => ?_⟩
  by_cases e : i = j
  · subst e
    by_cases hi : i < xs.size
    · have hi' : i < ys.size := h.1 ▸ hi
      simpa [Array.getD_eq_getD_getElem?, Array.getElem?_setIfInBounds, hi, hi'] using hv
    · have hi' : ¬ i < ys.size := h.1 ▸ hi
      rw [getD_out (by simpa using hi), getD_out (by simpa using hi')]; exact .undef
  · have := h.2 i
    simpa [Array.getD_eq_getD_getElem?, Array.getElem?_setIfInBounds, Ne.symm e] using this
theorem ARel.extract {ρ : Ren} {xs ys : Array Value} (h : ARel ρ xs ys) (a b : Nat) : ARel ρ (xs.extract a b) (ys.extract a b) := by
  refine ARel.of_lt (by simp [h.1]) fun i hi => ?_
  have := h.2 (a + i)
  have hx : i < min b xs.size - a := by simpa using hi
  have hy : i < min b ys.size - a := h.1 ▸ hx
  have hx2 : a + i < xs.size := by omega
  have hy2 : a + i < ys.size := by omega
  simpa [Array.getD_eq_getD_getElem?, Array.getElem?_extract, hx, hy, hx2, hy2] using this
theorem ARel.append {ρ : Ren} {xs ys aas bs : Array Value} (h : ARel ρ xs ys) (k : ARel ρ aas bs) : ARel ρ (xs ++ aas) (ys ++ bs) := by
  refine ⟨by simp [h.1, k.1], fun i => ?_⟩
  by_cases hi : i < xs.size
  · have hi' : i < ys.size := h.1 ▸ hi
    have := h.2 i
    simpa [Array.getD_eq_getD_getElem?, Array.getElem?_append, hi, hi'] using this
  · have hi' : ¬ i < ys.size := h.1 ▸ hi
    have := k.2 (i - xs.size)
    simpa [Array.getD_eq_getD_getElem?, Array.getElem?_append, hi, hi', h.1] using this

theorem VRel.agg' {ρ : Ren} {xs ys : Array Value} (h : ARel ρ xs ys) : VRel ρ (.agg xs) (.agg ys) := .agg h.1 h.2
theorem VRel.agg_inv {ρ : Ren} {xs : Array Value} {v : Value} (h : VRel ρ (.agg xs) v) : ∃ ys, v = .agg ys ∧ ARel ρ xs ys := by
  cases h with
  | agg hs h => exact ⟨_, rfl, hs, h⟩
theorem VRel.int_inv {ρ : Ren} {k : IntKind} {n : Int} {v : Value} (h : VRel ρ (.int k n) v) : v = .int k n := by cases h; rfl
theorem VRel.bool_inv {ρ : Ren} {b : Bool} {v : Value} (h : VRel ρ (.bool b) v) : v = .bool b := by cases h; rfl
theorem VRel.string_inv {ρ : Ren} {s : ByteArray} {v : Value} (h : VRel ρ (.string s) v) : v = .string s := by cases h; rfl
theorem VRel.ptr_inv {ρ : Ren} {a : Addr} {v : Value} (h : VRel ρ (.pointer (some a)) v) : ∃ b K, ρ a.block = some (b, K) ∧ a.spot = none ∧ v = .pointer (some ⟨b, a.off, none⟩) := by
  cases h with
  | ptr off h => exact ⟨_, _, h, rfl, rfl⟩

/-- Flat values are beside themselves. -/
theorem VRel.flat {ρ : Ren} {v : Value} (h : flat v = true) : VRel ρ v v := by
  cases v with
  | bool b => exact .bool b
  | int k n => exact .int k n
  | string s => exact .string s
  | pointer a => cases a with | none => exact .nilPtr | some a => simp [PG.flat] at h
  | slice a n c =>
    cases a with
    | none =>
      cases n with
      | zero => cases c with | zero => exact .nilSlice | succ c => simp [PG.flat] at h
      | succ n => simp [PG.flat] at h
    | some a => simp [PG.flat] at h
  | map r => cases r with | none => exact .nilMap | some r => simp [PG.flat] at h
  | nilFunc => exact .nilFunc
  | nilIface => exact .nilIface
  | _ => simp [PG.flat] at h
theorem ARel.flat {ρ : Ren} {xs : Array Value} (h : xs.all flat = true) : ARel ρ xs xs :=
  ARel.of_lt rfl fun i hi => by
    have : ∀ (i : Nat) (h : i < xs.size), PG.flat xs[i] = true := by simpa using h
    have h2 := this i hi
    simpa [Array.getD_eq_getD_getElem?, Array.getElem?_eq_getElem hi] using VRel.flat h2

/-- A value that lies in one cell lies in one cell beside. -/
theorem VRel.cells {ρ : Ren} {v v' : Value} (h : VRel ρ v v') (hv : ∀ l, v ≠ .tuple l) : ARel ρ v.cells v'.cells := by
  have one : ∀ {u u' : Value}, VRel ρ u u' → u.cells = #[u] → u'.cells = #[u'] → ARel ρ u.cells u'.cells := fun {u u'} h h1 h2 => by
    rw [h1, h2]
    exact ARel.of_lt rfl fun i hi => by
      have : i = 0 := by simp at hi; exact hi
      subst this; simpa using h
  cases h with
  | agg hs h => exact ⟨hs, h⟩
  | tuple hs h => exact absurd rfl (hv _)
  | junk h =>
    refine one (.junk h) rfl ?_
    cases v' <;> first | rfl | simp [Value.oneCell'] at h
  | _ => exact one (by constructor <;> assumption) rfl rfl

end Go.PG

namespace Go.PG

def frOk (fr : Nat × Nat) (n : Nat) : Prop := ∀ i, i < n → ¬ (fr.1 ≤ i ∧ i < fr.2)
def RelB (P : Program) (base : Nat) (ρ : Ren) (w : World) (n : Nat) : Blk → Prop
  | .cells c _ => ∃ b K c' ty fr, ρ n = some (b, K) ∧ w.heap[b]? = some (.cells c' ty fr) ∧ ARel ρ c c' ∧ (base ≤ n → frOk fr c'.size)
  | .grow c e => ∃ b K c' ty fr i, ρ n = some (b, K) ∧ w.heap[b]? = some (.cells c' ty fr) ∧ P.info? e = some i ∧ c'.size = K * i.size ∧ c.size ≤ c'.size ∧
      (∀ j, j < c.size → VRel ρ (c.getD j undef) (c'.getD j undef)) ∧ (base ≤ n → frOk fr c'.size)
  | .iter s pos => ∃ b K, ρ n = some (b, K) ∧ w.heap[b]? = some (.stringIter s pos)
  | .map _ => False
  | .win o c => ∃ b K c' ty fr, ρ n = some (b, K) ∧ w.heap[b]? = some (.cells c' ty fr) ∧ o + c.size ≤ c'.size ∧ ∀ j, j < c.size → VRel ρ (c.getD j undef) (c'.getD (o + j) undef)

theorem RelB.at_ {P : Program} {base : Nat} {ρ : Ren} {w : World} {n : Nat} {b : Blk} (h : RelB P base ρ w n b) : ∃ k K, ρ n = some (k, K) ∧ k < w.heap.size := by
  have lt : ∀ {k : Nat} {o : Obj}, w.heap[k]? = some o → k < w.heap.size := fun h => (Array.getElem?_eq_some_iff.1 h).1
  cases b with
  | cells c t => obtain ⟨k, K, _, _, _, h1, h2, _⟩ := h; exact ⟨k, K, h1, lt h2⟩
  | grow c t => obtain ⟨k, K, _, _, _, _, h1, h2, _⟩ := h; exact ⟨k, K, h1, lt h2⟩
  | iter s p => obtain ⟨k, K, h1, h2⟩ := h; exact ⟨k, K, h1, lt h2⟩
  | map l => exact h.elim
  | win o c => obtain ⟨k, K, _, _, _, h1, h2, _⟩ := h; exact ⟨k, K, h1, lt h2⟩

/-- The same block, elsewhere unchanged. -/
theorem RelB.keep {P : Program} {base : Nat} {ρ ρ' : Ren} {w w' : World} {n : Nat} {b : Blk} (h : RelB P base ρ w n b)
    (hρ : ∀ n x, ρ n = some x → ρ' n = some x) (hw : ∀ k K, ρ n = some (k, K) → w'.heap[k]? = w.heap[k]?) : RelB P base ρ' w' n b := by
  cases b with
  | cells c t =>
    obtain ⟨k, K, c', ty, fr, h1, h2, h3, h4⟩ := h
    exact ⟨k, K, c', ty, fr, hρ _ _ h1, (hw k K h1).trans h2, h3.mono hρ, h4⟩
  | grow c t =>
    obtain ⟨k, K, c', ty, fr, i, h1, h2, h3, h4, h5, h6, h7⟩ := h
    exact ⟨k, K, c', ty, fr, i, hρ _ _ h1, (hw k K h1).trans h2, h3, h4, h5, fun j hj => (h6 j hj).mono hρ, h7⟩
  | iter s p =>
    obtain ⟨k, K, h1, h2⟩ := h
    exact ⟨k, K, hρ _ _ h1, (hw k K h1).trans h2⟩
  | map l => exact h.elim
  | win o c =>
    obtain ⟨k, K, c', ty, fr, h1, h2, h3, h4⟩ := h
    exact ⟨k, K, c', ty, fr, hρ _ _ h1, (hw k K h1).trans h2, h3, fun j hj => (h4 j hj).mono hρ⟩

structure Rel (P : Program) (base : Nat) (ρ : Ren) (H : Heap) (w : World) : Prop where
  blk : ∀ n b, H.blk n = some b → RelB P base ρ w n b
  inj : ∀ n m b K K', (H.blk n).isSome = true → (H.blk m).isSome = true → base ≤ n → n ≠ m → ρ n = some (b, K) → ρ m = some (b, K') → False
  dom : ∀ n, (H.blk n).isSome = true → n < H.next
  floor : base ≤ H.floor
  fle : H.floor ≤ H.next

/-- The streams are as they were. -/
structure Calm (w w' : World) : Prop where
  tape : w'.tape = w.tape
  os : w'.os = w.os
  output : w'.output = w.output
theorem Calm.refl (w : World) : Calm w w := ⟨rfl, rfl, rfl⟩
theorem Calm.trans {a b c : World} (h : Calm a b) (k : Calm b c) : Calm a c := ⟨k.tape.trans h.tape, k.os.trans h.os, k.output.trans h.output⟩

/-- What a step leaves: the heap is H' for H, the world w' for w. -/
structure Post (P : Program) (base : Nat) (ρ ρ' : Ren) (H H' : Heap) (w w' : World) : Prop where
  ext : ∀ n x, ρ n = some x → ρ' n = some x
  dom : ∀ n x, ρ' n = some x → ρ n = some x ∨ (H.next ≤ n ∧ n < H'.next)
  rel : Rel P base ρ' H' w'
  calm : Calm w w'
  size : w.heap.size ≤ w'.heap.size
  keep : ∀ b, b < w.heap.size → (∀ n K, (H.blk n).isSome = true → H.floor ≤ n → ρ n ≠ some (b, K)) → w'.heap[b]? = w.heap[b]?
  own : ∀ n b K, (H'.blk n).isSome = true → H.floor ≤ n → ρ' n = some (b, K) → (∃ m K', (H.blk m).isSome = true ∧ H.floor ≤ m ∧ ρ m = some (b, K')) ∨ w.heap.size ≤ b
  floor : H'.floor = H.floor
  next : H.next ≤ H'.next
  low : ∀ n, n < H.floor → H'.blk n = H.blk n

theorem Post.refl {P : Program} {base : Nat} {ρ : Ren} {H : Heap} {w : World} (h : Rel P base ρ H w) : Post P base ρ ρ H H w w :=
  ⟨fun _ _ h => h, fun _ _ h => .inl h, h, .refl w, Nat.le_refl _, fun _ _ _ => rfl, fun n _ K h1 h2 h3 => .inl ⟨n, K, h1, h2, h3⟩, rfl, Nat.le_refl _, fun _ _ => rfl⟩
theorem Post.trans {P : Program} {base : Nat} {ρ ρ1 ρ2 : Ren} {H H1 H2 : Heap} {w w1 w2 : World} (h : Post P base ρ ρ1 H H1 w w1) (k : Post P base ρ1 ρ2 H1 H2 w1 w2) : Post P base ρ ρ2 H H2 w w2 where
  ext n x hx := k.ext n x (h.ext n x hx)
  dom n x hx := by
    rcases k.dom n x hx with h1 | h1
    · rcases h.dom n x h1 with h2 | h2
      · exact .inl h2
      · exact .inr ⟨h2.1, Nat.lt_of_lt_of_le h2.2 k.next⟩
    · exact .inr ⟨Nat.le_trans h.next h1.1, h1.2⟩
  rel := k.rel
  calm := h.calm.trans k.calm
  size := Nat.le_trans h.size k.size
  keep b hb hn := by
    rw [k.keep b (Nat.lt_of_lt_of_le hb h.size) ?_, h.keep b hb hn]
    intro n K h1 h2 h3
    rw [h.floor] at h2
    rcases h.own n b K h1 h2 h3 with ⟨m, K', h4, h5, h6⟩ | h4
    · exact hn m K' h4 h5 h6
    · omega
  own n b K h1 h2 h3 := by
    rcases k.own n b K h1 (h.floor ▸ h2) h3 with ⟨m, K', h4, h5, h6⟩ | h4
    · exact h.own m b K' h4 (h.floor ▸ h5) h6
    · exact .inr (Nat.le_trans h.size h4)
  floor := k.floor.trans h.floor
  next := Nat.le_trans h.next k.next
  low n hn := (k.low n (h.floor ▸ hn)).trans (h.low n hn)

/-- A world that differs in its draws alone. -/
theorem Rel.draws {P : Program} {base : Nat} {ρ : Ren} {H : Heap} {w w' : World} (h : Rel P base ρ H w) (hw : w'.heap = w.heap) : Rel P base ρ H w' :=
  ⟨fun n b hb => (h.blk n b hb).keep (fun _ _ h => h) (fun k K _ => by rw [hw]), h.inj, h.dom, h.floor, h.fle⟩
theorem Post.draws {P : Program} {base : Nat} {ρ : Ren} {H : Heap} {w w' : World} (h : Rel P base ρ H w) (hw : w'.heap = w.heap) (hc : Calm w w') : Post P base ρ ρ H H w w' :=
  ⟨fun _ _ h => h, fun _ _ h => .inl h, h.draws hw, hc, by rw [hw]; exact Nat.le_refl _, fun b _ _ => by rw [hw], fun n _ K h1 h2 h3 => .inl ⟨n, K, h1, h2, h3⟩, rfl, Nat.le_refl _, fun _ _ => rfl⟩

/-- A block that the call may write is written. -/
theorem Post.write {P : Program} {base : Nat} {ρ : Ren} {H : Heap} {w w' : World} (h : Rel P base ρ H w) {n b K : Nat} {o o' : Blk} (hn : H.blk n = some o) (hf : H.floor ≤ n) (hr : ρ n = some (b, K))
    (hc : Calm w w') (hs : w'.heap.size = w.heap.size) (ho : ∀ k, k ≠ b → w'.heap[k]? = w.heap[k]?) (hb : RelB P base ρ w' n o') : Post P base ρ ρ H (H.set n o') w w' where
  ext _ _ h := h
  dom _ _ h := .inl h
  rel := {
    blk := fun m x hm => by
      by_cases e : m = n
      · subst e; simp [Heap.set] at hm; exact hm ▸ hb
      · have hm' : H.blk m = some x := by simpa [Heap.set, e] using hm
        refine (h.blk m x hm').keep (fun _ _ h => h) fun k K' hk => ho k ?_
        intro e'; subst e'
        exact h.inj n m _ _ _ (by simp [hn]) (by simp [hm']) (Nat.le_trans h.floor hf) (Ne.symm e) hr hk
    inj := fun m m' k K1 K2 h1 h2 => by
      have g : ∀ m, ((H.set n o').blk m).isSome = true → (H.blk m).isSome = true := fun m hm => by
        by_cases e : m = n
        · subst e; simp [hn]
        · simpa [Heap.set, e] using hm
      exact h.inj m m' k K1 K2 (g m h1) (g m' h2)
    dom := fun m hm => by
      by_cases e : m = n
      · subst e; exact h.dom m (by simp [hn])
      · exact h.dom m (by simpa [Heap.set, e] using hm)
    floor := h.floor
    fle := h.fle }
  calm := hc
  size := by rw [hs]; exact Nat.le_refl _
  keep k hk hno := ho k fun e => hno n K (by simp [hn]) hf (e ▸ hr)
  own m k K' h1 h2 h3 := by
    by_cases e : m = n
    · subst e; exact .inl ⟨m, K', by simp [hn], h2, h3⟩
    · exact .inl ⟨m, K', by simpa [Heap.set, e] using h1, h2, h3⟩
  floor := rfl
  next := Nat.le_refl _
  low m hm := by
    have e : m ≠ n := by omega
    simp [Heap.set, e]

/-- A block that is new. -/
theorem Post.new {P : Program} {base : Nat} {ρ : Ren} {H : Heap} {w w' : World} (h : Rel P base ρ H w) {K : Nat} {o : Blk} (hf : ρ H.next = none)
    (hc : Calm w w') (hs : w.heap.size < w'.heap.size) (ho : ∀ k, k < w.heap.size → w'.heap[k]? = w.heap[k]?)
    (hb : RelB P base (fun n => if n = H.next then some (w.heap.size, K) else ρ n) w' H.next o) : Post P base ρ (fun n => if n = H.next then some (w.heap.size, K) else ρ n) H (H.new o) w w' where
  ext n x hx := by
    have e : n ≠ H.next := fun e => by rw [e, hf] at hx; cases hx
    simp [e, hx]
  dom n x hx := by
    by_cases e : n = H.next
    · exact .inr ⟨by omega, by simp [Heap.new]; omega⟩
    · exact .inl (by simpa [e] using hx)
  rel := {
    blk := fun m x hm => by
      by_cases e : m = H.next
      · subst e; simp [Heap.new] at hm; exact hm ▸ hb
      · have hm' : H.blk m = some x := by simpa [Heap.new, e] using hm
        have hr := h.blk m x hm'
        refine hr.keep (fun n x hx => ?_) fun k K' hk => ?_
        · have e : n ≠ H.next := fun e => by rw [e, hf] at hx; cases hx
          simp [e, hx]
        · obtain ⟨k2, K2, h1, h2⟩ := hr.at_
          rw [h1] at hk; cases hk
          exact ho _ h2
    inj := fun m m' k K1 K2 h1 h2 hb1 hne h3 h4 => by
      have g : ∀ m, ((H.new o).blk m).isSome = true → m ≠ H.next → (H.blk m).isSome = true := fun m hm e => by simpa [Heap.new, e] using hm
      have lt : ∀ m k K, ((H.new o).blk m).isSome = true → m ≠ H.next → ρ m = some (k, K) → k < w.heap.size := fun m k K hm e hk => by
        obtain ⟨x, hx⟩ := Option.isSome_iff_exists.1 (g m hm e)
        obtain ⟨k2, K2, h1, h2⟩ := (h.blk m x hx).at_
        rw [h1] at hk; cases hk; exact h2
      by_cases e : m = H.next
      · have e' : m' ≠ H.next := fun e' => hne (e.trans e'.symm)
        simp only [e, if_true, Option.some.injEq, Prod.mk.injEq] at h3
        simp only [e', if_false] at h4
        have := lt m' k K2 h2 e' h4
        omega
      · by_cases e' : m' = H.next
        · simp only [e', if_true, Option.some.injEq, Prod.mk.injEq] at h4
          simp only [e, if_false] at h3
          have := lt m k K1 h1 e h3
          omega
        · simp only [e, if_false] at h3
          simp only [e', if_false] at h4
          exact h.inj m m' k K1 K2 (g m h1 e) (g m' h2 e') hb1 hne h3 h4
    dom := fun m hm => by
      by_cases e : m = H.next
      · subst e; simp [Heap.new]
      · have := h.dom m (by simpa [Heap.new, e] using hm)
        simp [Heap.new]; omega
    floor := h.floor
    fle := by have := h.fle; simp [Heap.new]; omega }
  calm := hc
  size := by omega
  keep k hk _ := ho k hk
  own m k K' h1 h2 h3 := by
    by_cases e : m = H.next
    · simp only [e, if_true, Option.some.injEq, Prod.mk.injEq] at h3
      exact .inr (by omega)
    · simp only [e, if_false] at h3
      exact .inl ⟨m, K', by simpa [Heap.new, e] using h1, h2, h3⟩
  floor := rfl
  next := by simp [Heap.new]
  low m hm := by
    have e : m ≠ H.next := by have := h.fle; omega
    simp [Heap.new, e]

/-- A block that is known no more. -/
theorem Post.del {P : Program} {base : Nat} {ρ : Ren} {H : Heap} {w : World} (h : Rel P base ρ H w) {n : Nat} (hf : H.floor ≤ n) : Post P base ρ ρ H (H.del n) w w where
  ext _ _ h := h
  dom _ _ h := .inl h
  rel := {
    blk := fun m x hm => by
      by_cases e : m = n
      · subst e; simp [Heap.del] at hm
      · exact h.blk m x (by simpa [Heap.del, e] using hm)
    inj := fun m m' k K1 K2 h1 h2 => by
      have g : ∀ m, ((H.del n).blk m).isSome = true → (H.blk m).isSome = true := fun m hm => by
        by_cases e : m = n
        · subst e; simp [Heap.del] at hm
        · simpa [Heap.del, e] using hm
      exact h.inj m m' k K1 K2 (g m h1) (g m' h2)
    dom := fun m hm => by
      by_cases e : m = n
      · subst e; simp [Heap.del] at hm
      · exact h.dom m (by simpa [Heap.del, e] using hm)
    floor := h.floor
    fle := h.fle }
  calm := .refl w
  size := Nat.le_refl _
  keep _ _ _ := rfl
  own m k K' h1 h2 h3 := by
    by_cases e : m = n
    · subst e; simp [Heap.del] at h1
    · exact .inl ⟨m, K', by simpa [Heap.del, e] using h1, h2, h3⟩
  floor := rfl
  next := Nat.le_refl _
  low m hm := by
    have e : m ≠ n := by omega
    simp [Heap.del, e]

end Go.PG

namespace Go.PG

theorem cell_at {w : World} {b : Nat} {c : Array Value} {ty : TypeId} {fr : Nat × Nat} (h : w.heap[b]? = some (.cells c ty fr)) (i : Nat) : w.cell? ⟨b, i, none⟩ = c[i]? := by
  simp [World.cell?, h]
theorem add_none (b off n : Nat) : (⟨b, off, none⟩ : Addr).add n = ⟨b, off + n, none⟩ := by
  unfold Addr.add; split <;> simp_all
theorem add_block (a : Addr) (n : Nat) : (a.add n).block = a.block := by unfold Addr.add; split <;> rfl
theorem add_off (a : Addr) (n : Nat) : (a.add n).off = a.off + n := by unfold Addr.add; split <;> simp_all
theorem add_spot (a : Addr) (n : Nat) (h : a.spot = none) : (a.add n).spot = none := by unfold Addr.add; split <;> simp_all

theorem run_loadCellsFrom {P : Program} {w : World} {b off : Nat} {c : Array Value} {ty : TypeId} {fr : Nat × Nat} (h : w.heap[b]? = some (.cells c ty fr)) :
    ∀ (n i : Nat) (acc : Array Value), off + i + n ≤ c.size → (loadCellsFrom ⟨b, off, none⟩ i n acc).run P w = .ok (acc ++ c.extract (off + i) (off + i + n)) w := by
  intro n
  induction n with
  | zero => intro i acc _; simp [loadCellsFrom]; omega
  | succ n ih =>
    intro i acc hn
    have hi : off + i < c.size := by omega
    simp only [loadCellsFrom, Sem.run_bind, run_load, add_none, cell_at h, Array.getElem?_eq_getElem hi, Result.andThen_ok]
    rw [ih (i + 1) _ (by omega)]
    congr 1
    apply Array.ext'
    simp only [Array.toList_append, Array.toList_push, Array.toList_extract, List.append_assoc, List.cons_append, List.nil_append]
    congr 1
    have e : List.extract c.toList (off + i) (off + i + (n + 1)) = c.toList[off + i]'(by simpa using hi) :: List.extract c.toList (off + (i + 1)) (off + (i + 1) + n) := by
      simp only [List.extract_eq_take_drop]
      rw [show off + i + (n + 1) - (off + i) = n + 1 from by omega, show off + (i + 1) + n - (off + (i + 1)) = n from by omega]
      rw [List.drop_eq_getElem_cons (by simpa using hi), List.take_succ_cons]
      rfl
    rw [e]; simp
theorem run_loadCells {P : Program} {w : World} {b off n : Nat} {c : Array Value} {ty : TypeId} {fr : Nat × Nat} (h : w.heap[b]? = some (.cells c ty fr)) (hn : off + n ≤ c.size) :
    (loadCells ⟨b, off, none⟩ n).run P w = .ok (c.extract off (off + n)) w := by
  rw [loadCells, run_loadCellsFrom h n 0 #[] (by omega)]; simp
theorem run_loadCells_zero {P : Program} {w : World} (a : Addr) : (loadCells a 0).run P w = .ok #[] w := rfl

theorem setL_size (c : Array Value) (off : Nat) (vs : List Value) : (setL c off vs).size = c.size := by
  induction vs generalizing c off with
  | nil => rfl
  | cons v vs ih => simp [setL, ih]

theorem oneC_one {v : Value} (h : oneC v = true) : v.oneCell' = true := by cases v <;> first | rfl | simp [oneC] at h
theorem VRel.oneC {ρ : Ren} {v v' : Value} (h : VRel ρ v v') (hv : oneC v = true) : PG.oneC v' = true := by
  cases h with
  | agg => simp [PG.oneC] at hv
  | tuple => simp [PG.oneC] at hv
  | junk h => cases v' <;> first | rfl | simp [Value.oneCell'] at h
  | _ => rfl

theorem run_storeCells {P : Program} {b off : Nat} {ty : TypeId} {fr : Nat × Nat} :
    ∀ (vs : List Value) (i : Nat) (w : World) (c : Array Value), w.heap[b]? = some (.cells c ty fr) → off + i + vs.length ≤ c.size → frOk fr c.size → vs.all oneC = true →
      ∃ w', (storeCells ⟨b, off, none⟩ vs i).run P w = .ok () w' ∧ w'.heap[b]? = some (.cells (setL c (off + i) vs) ty fr) ∧ w'.heap.size = w.heap.size ∧ (∀ k, k ≠ b → w'.heap[k]? = w.heap[k]?) ∧ Calm w w' := by
  intro vs
  induction vs with
  | nil => intro i w c h _ _ _; exact ⟨w, rfl, h, rfl, fun _ _ => rfl, .refl w⟩
  | cons v vs ih =>
    intro i w c h hn hf ho
    simp only [List.all_cons, Bool.and_eq_true] at ho
    simp only [List.length_cons] at hn
    have hi : off + i < c.size := by omega
    have hfz : w.frozen? ⟨b, off + i, none⟩ = false := by
      have := hf (off + i) hi
      simp only [World.frozen?, h, Bool.and_eq_false_iff, decide_eq_false_iff_not]
      omega
    have hw1 : (w.setCell ⟨b, off + i, none⟩ v).heap[b]? = some (.cells (c.setIfInBounds (off + i) v) ty fr) := by
      simp [World.setCell, Array.getElem?_modify, h]
    have hws : ∀ k, k ≠ b → (w.setCell ⟨b, off + i, none⟩ v).heap[k]? = w.heap[k]? := fun k hk => by
      simp [World.setCell, Array.getElem?_modify, Ne.symm hk]
    obtain ⟨w', h1, h2, h3, h4, h5⟩ := ih (i + 1) (w.setCell ⟨b, off + i, none⟩ v) (c.setIfInBounds (off + i) v) hw1 (by simp; omega) (by simpa using hf) ho.2
    refine ⟨w', ?_, h2, by rw [h3]; simp [World.setCell], fun k hk => (h4 k hk).trans (hws k hk), (Calm.trans (b := w.setCell ⟨b, off + i, none⟩ v) ⟨rfl, rfl, rfl⟩ h5)⟩
    have hs : (store ⟨b, off + i, none⟩ v).run P w = .ok () (w.setCell ⟨b, off + i, none⟩ v) := by
      rw [run_store P w _ v _ (oneC_one ho.1)]
      simp [cell_at h, Array.getElem?_eq_getElem hi, hfz]
    simp only [storeCells, Sem.run_bind, add_none, hs, Result.andThen_ok, h1]

theorem ARel.setL {ρ : Ren} {xs ys : Array Value} (h : ARel ρ xs ys) (off : Nat) : ∀ {vs vs' : List Value}, List.length vs = List.length vs' → (∀ i, VRel ρ (vs.getD i undef) (vs'.getD i undef)) → ARel ρ (setL xs off vs) (setL ys off vs') := by
  intro vs
  induction vs generalizing xs ys off with
  | nil => intro vs' hl _; cases vs' with | nil => exact h | cons _ _ => simp at hl
  | cons v vs ih =>
    intro vs' hl hv
    cases vs' with
    | nil => simp at hl
    | cons v' vs' => exact ih (h.set off (by simpa using hv 0)) (off + 1) (by simpa using hl) (fun i => by simpa using hv (i + 1))

/-- The laid cells of a row by a heap's row. -/
theorem Rel.row {P : Program} {base : Nat} {ρ : Ren} {H : Heap} {w : World} (h : Rel P base ρ H w) {n : Nat} {c : Array Value} (hr : H.row n = some c) :
    ∃ b K c' ty fr, ρ n = some (b, K) ∧ w.heap[b]? = some (.cells c' ty fr) ∧ c.size ≤ c'.size ∧ (∀ j, j < c.size → VRel ρ (c.getD j undef) (c'.getD j undef)) ∧ (base ≤ n → frOk fr c'.size) := by
  unfold Heap.row at hr
  cases hb : H.blk n with
  | none => simp [hb] at hr
  | some o =>
    have hh := h.blk n o hb
    cases o with
    | cells d t =>
      simp [hb, Blk.row] at hr; subst hr
      obtain ⟨b, K, c', ty, fr, h1, h2, h3, h4⟩ := hh
      exact ⟨b, K, c', ty, fr, h1, h2, by rw [h3.1]; exact Nat.le_refl _, fun j _ => h3.2 j, h4⟩
    | grow d t =>
      simp [hb, Blk.row] at hr; subst hr
      obtain ⟨b, K, c', ty, fr, i, h1, h2, _, _, h5, h6, h7⟩ := hh
      exact ⟨b, K, c', ty, fr, h1, h2, h5, h6, h7⟩
    | iter s p => simp [hb, Blk.row] at hr
    | map l => simp [hb, Blk.row] at hr
    | win o c => simp [hb, Blk.row] at hr

theorem Rel.view {P : Program} {base : Nat} {ρ : Ren} {H : Heap} {w : World} (h : Rel P base ρ H w) {n o : Nat} {c : Array Value} (hr : H.view n = some (o, c)) :
    ∃ b K c' ty fr, ρ n = some (b, K) ∧ w.heap[b]? = some (.cells c' ty fr) ∧ o + c.size ≤ c'.size ∧ ∀ j, j < c.size → VRel ρ (c.getD j undef) (c'.getD (o + j) undef) := by
  unfold Heap.view at hr
  obtain ⟨bk, hb, hr⟩ := Option.bind_eq_some_iff.1 hr
  have hh := h.blk n bk hb
  cases bk with
  | cells d t =>
    simp [Blk.view] at hr; obtain ⟨rfl, rfl⟩ := hr
    obtain ⟨b, K, c', ty, fr, h1, h2, h3, h4⟩ := hh
    exact ⟨b, K, c', ty, fr, h1, h2, by rw [h3.1]; omega, fun j _ => by rw [Nat.zero_add]; exact h3.2 j⟩
  | grow d t =>
    simp [Blk.view] at hr; obtain ⟨rfl, rfl⟩ := hr
    obtain ⟨b, K, c', ty, fr, i, h1, h2, _, _, h5, h6, h7⟩ := hh
    exact ⟨b, K, c', ty, fr, h1, h2, by omega, fun j hj => by rw [Nat.zero_add]; exact h6 j hj⟩
  | iter s p => simp [Blk.view] at hr
  | map l => simp [Blk.view] at hr
  | win o' d =>
    simp [Blk.view] at hr; obtain ⟨rfl, rfl⟩ := hr
    exact hh
/-- A place that a pointer names. -/
theorem Rel.ld1 {P : Program} {base : Nat} {ρ : Ren} {H : Heap} {w : World} (h : Rel P base ρ H w) {a : Addr} {v : Value} (hl : H.ld1 a = some v) {b K : Nat} (hr : ρ a.block = some (b, K)) :
    ∃ v', w.cell? ⟨b, a.off, none⟩ = some v' ∧ VRel ρ v v' := by
  unfold Heap.ld1 at hl
  split at hl
  · cases hl
  · obtain ⟨⟨o, c⟩, hc, hv⟩ := Option.bind_eq_some_iff.1 hl
    simp only at hv
    split at hv
    · rename_i hle
      obtain ⟨b', K', c', ty, fr, h1, h2, h3, h4⟩ := h.view hc
      rw [h1] at hr; cases hr
      have hi : a.off - o < c.size := (Array.getElem?_eq_some_iff.1 hv).1
      have := h4 (a.off - o) hi
      rw [show c.getD (a.off - o) undef = v from by rw [getD_in hi] at hv; exact Option.some.inj hv, show o + (a.off - o) = a.off from by omega] at this
      exact ⟨_, by rw [cell_at h2, getD_in (by omega)], this⟩
    · cases hv
theorem Rel.ldN {P : Program} {base : Nat} {ρ : Ren} {H : Heap} {w : World} (h : Rel P base ρ H w) {a : Addr} {n : Nat} {c : Array Value} (hl : H.ldN a n = some c) {b K : Nat} (hr : ρ a.block = some (b, K)) :
    ∃ c', (loadCells ⟨b, a.off, none⟩ n).run P w = .ok c' w ∧ ARel ρ c c' := by
  unfold Heap.ldN at hl
  split at hl
  · rename_i h0; subst h0
    cases hl
    exact ⟨#[], rfl, .of_lt rfl fun i hi => absurd hi (Nat.not_lt_zero i)⟩
  · split at hl
    · cases hl
    · obtain ⟨⟨o, d⟩, hd, hv⟩ := Option.bind_eq_some_iff.1 hl
      obtain ⟨b', K', c', ty, fr, h1, h2, h3, h4⟩ := h.view hd
      rw [h1] at hr; cases hr
      simp only at hv
      split at hv
      · rename_i hn
        obtain ⟨hn1, hn⟩ := hn
        cases hv
        refine ⟨_, run_loadCells h2 (by omega), ?_⟩
        refine ARel.of_lt (by simp; omega) fun i hi => ?_
        have hi' : i < n := by simp at hi; omega
        have := h4 (a.off - o + i) (by omega)
        rw [show o + (a.off - o + i) = a.off + i from by omega] at this
        have e1 : a.off - o + i < d.size := by omega
        have e2 : a.off + i < c'.size := by omega
        have e3 : i < min (a.off - o + n) d.size - (a.off - o) := by omega
        have e4 : i < min (a.off + n) c'.size - a.off := by omega
        simpa [Array.getD_eq_getD_getElem?, Array.getElem?_extract, e1, e2, e3, e4] using this
      · cases hv

/-- A store to cells. -/
theorem Rel.stN {P : Program} {base : Nat} {ρ : Ren} {H H' : Heap} {w : World} (h : Rel P base ρ H w) {a : Addr} {vs vs' : List Value} (hl : H.stN a vs = some H') {b K : Nat} (hr : ρ a.block = some (b, K))
    (hs : vs.length = vs'.length) (hv : ∀ i, VRel ρ (vs.getD i undef) (vs'.getD i undef)) : ∃ w', (storeCells ⟨b, a.off, none⟩ vs').run P w = .ok () w' ∧ Post P base ρ ρ H H' w w' := by
  unfold Heap.stN at hl
  split at hl
  · rename_i h0
    cases hl
    have : vs' = [] := by
      have : vs = [] := by simpa using h0
      subst this; exact List.length_eq_zero_iff.1 hs.symm
    subst this
    exact ⟨w, rfl, .refl h⟩
  · split at hl
    · cases hl
    · split at hl
      · cases hl
      · rename_i hfl
        obtain ⟨o, ho, hl⟩ := Option.bind_eq_some_iff.1 hl
        obtain ⟨d, hd, hl⟩ := Option.bind_eq_some_iff.1 hl
        split at hl
        · rename_i hn
          cases hl
          have hone : vs'.all oneC = true := by
            rw [List.all_eq_true] at *
            intro x hx
            obtain ⟨i, hi, rfl⟩ := List.getElem_of_mem hx
            have h1 := hv i
            have hi2 : i < vs.length := hs ▸ hi
            simp only [List.getD_eq_getElem?_getD, List.getElem?_eq_getElem hi, List.getElem?_eq_getElem hi2, Option.getD_some] at h1
            exact h1.oneC (hn.2 _ (List.getElem_mem hi2))
          have hrow : H.row a.block = some d := by simp [Heap.row, ho, hd]
          obtain ⟨b', K', c', ty, fr, h1, h2, h3, h4, h5⟩ := h.row hrow
          rw [h1] at hr; cases hr
          have hfz := h5 (Nat.le_trans h.floor (by omega))
          obtain ⟨w', g1, g2, g3, g4, g5⟩ := run_storeCells (P := P) (off := a.off) vs' 0 w c' h2 (by omega) hfz hone
          refine ⟨w', g1, Post.write h ho (by omega) h1 g5 g3 g4 ?_⟩
          simp only [Nat.add_zero] at g2
          cases o with
          | cells d0 t =>
            simp [Blk.row] at hd; subst hd
            have hh := h.blk _ _ ho
            obtain ⟨b2, K2, c2, ty2, fr2, k1, k2, k3, k4⟩ := hh
            rw [h1] at k1; cases k1
            rw [h2] at k2; cases k2
            exact ⟨b, K, _, ty, fr, h1, g2, k3.setL a.off hs hv, fun hb => by rw [setL_size]; exact k4 hb⟩
          | grow d0 t =>
            simp [Blk.row] at hd; subst hd
            have hh := h.blk _ _ ho
            obtain ⟨b2, K2, c2, ty2, fr2, i, k1, k2, k3, k4, k5, k6, k7⟩ := hh
            rw [h1] at k1; cases k1
            rw [h2] at k2; cases k2
            refine ⟨b, K, _, ty, fr, i, h1, g2, k3, by rw [setL_size]; exact k4, by rw [setL_size, setL_size]; exact k5, fun j hj => ?_, fun hb => by rw [setL_size]; exact k7 hb⟩
            rw [setL_size] at hj
            -- the first cells alone
            have hp : ARel ρ d0 (c'.extract 0 d0.size) := ARel.of_lt (by simp; omega) fun j hj => by
              have := k6 j hj
              have e1 : j < min d0.size c'.size := by omega
              have e2 : j < c'.size := by omega
              simpa [Array.getD_eq_getD_getElem?, Array.getElem?_extract, e1, e2] using this
            have hq := (hp.setL a.off hs hv).2 j
            have e : (setL (c'.extract 0 d0.size) a.off vs').getD j undef = (setL c' a.off vs').getD j undef := by
              have gen : ∀ (vs : List Value) (off : Nat) (c e : Array Value), (∀ j, j < d0.size → c.getD j undef = e.getD j undef) → d0.size ≤ c.size → d0.size ≤ e.size → ∀ j, j < d0.size → (setL c off vs).getD j undef = (setL e off vs).getD j undef := by
                intro vs
                induction vs with
                | nil => intro off c e h _ _ j hj; exact h j hj
                | cons v vs ih =>
                  intro off c e h hc he j hj
                  refine ih (off + 1) _ _ (fun j hj => ?_) (by simpa using hc) (by simpa using he) j hj
                  have := h j hj
                  by_cases ej : off = j
                  · subst ej
                    have h1 : off < c.size := by omega
                    have h2 : off < e.size := by omega
                    simp [Array.getD_eq_getD_getElem?, h1, h2]
                  · simpa [Array.getD_eq_getD_getElem?, Array.getElem?_setIfInBounds, ej] using this
              refine gen vs' a.off _ _ (fun j hj => ?_) (by simp; omega) k5 j hj
              have e1 : j < min d0.size c'.size := by omega
              have e2 : j < c'.size := by omega
              simp [Array.getD_eq_getD_getElem?, e1, e2]
            rwa [e] at hq
          | iter s p => simp [Blk.row] at hd
          | map l => simp [Blk.row] at hd
          | win o c => simp [Blk.row] at hd
        · cases hl
end Go.PG

namespace Go.PG

section
variable {P : Program} {base : Nat} {ρ : Ren} {H : Heap} {w : World}

/-- What a step may leave: the value v and the heap H', as a world has them. -/
def Good (P : Program) (base : Nat) (ρ : Ren) (H : Heap) (w : World) (v : Value) (H' : Heap) (v' : Value) (w' : World) : Prop := ∃ ρ', VRel ρ' v v' ∧ Post P base ρ ρ' H H' w w'
theorem Good.same (h : Rel P base ρ H w) {v v' : Value} (hv : VRel ρ v v') : Good P base ρ H w v H v' w := ⟨ρ, hv, .refl h⟩
def RunsTo (P : Program) (s : Sem Value) (w : World) (Q : Value → World → Prop) : Prop := ∃ v' w', s.run P w = .ok v' w' ∧ Q v' w'
theorem RunsTo.ok {s : Sem Value} {Q : Value → World → Prop} {v' : Value} {w' : World} (h : s.run P w = .ok v' w') (hq : Q v' w') : RunsTo P s w Q := ⟨v', w', h, hq⟩

theorem run_und {t : TypeId} {d : TypeDesc} (h : P.underlying t = some d) : (underlying t).run P w = .ok d w := by simp [underlying, h]
theorem run_info {t : TypeId} {i : TypeInfo} (h : P.info? t = some i) : (typeInfo t).run P w = .ok i w := by simp [typeInfo, h]
theorem run_size {t : TypeId} {i : TypeInfo} (h : P.info? t = some i) : (sizeOf t).run P w = .ok i.size w := by simp [sizeOf, run_info h]
theorem zero_spec {t : TypeId} {z : Value} (h : zero? P t = some z) : ∃ i, P.info? t = some i ∧ i.zero = some z ∧ z.cells.all flat = true ∧ z.cells.size = i.size := by
  unfold zero? at h
  obtain ⟨i, hi, h⟩ := Option.bind_eq_some_iff.1 h
  obtain ⟨z', hz, h⟩ := Option.bind_eq_some_iff.1 h
  split at h
  · rename_i hc
    cases h
    simp only [Bool.and_eq_true, beq_iff_eq] at hc
    exact ⟨i, hi, hz, hc.1, hc.2⟩
  · cases h
theorem run_zero {t : TypeId} {z : Value} (h : zero? P t = some z) : (zeroValue t).run P w = .ok z w := by
  obtain ⟨i, hi, hz, _⟩ := zero_spec h
  simp [zeroValue, run_info hi, hz]
theorem lay_spec {t : TypeId} {agg : Bool} {n : Nat} (h : lay P t = some (agg, n)) : (∀ w, (isAgg t).run P w = .ok agg w) ∧ ∃ i, P.info? t = some i ∧ i.size = n := by
  unfold lay at h
  split at h
  · rename_i hd hi; cases h; exact ⟨fun w => by simp [isAgg, run_und hd], _, hi, rfl⟩
  · rename_i hd hi; cases h; exact ⟨fun w => by simp [isAgg, run_und hd], _, hi, rfl⟩
  · rename_i d i h1 h2 hd hi
    cases h
    refine ⟨fun w => ?_, _, hi, rfl⟩
    simp only [isAgg, Sem.run_bind, run_und hd, Result.andThen_ok]
    cases d <;> first | rfl | exact (h1 _ _ hd hi).elim | exact (h2 _ _ _ hd hi).elim
  · cases h

/-! ### New blocks -/
def ext1 (ρ : Ren) (n b K : Nat) : Ren := fun m => if m = n then some (b, K) else ρ m
theorem ext1_ext {n b K : Nat} (h : ρ n = none) : ∀ m x, ρ m = some x → ext1 ρ n b K m = some x := fun m x hx => by
  have e : m ≠ n := fun e => by rw [e, h] at hx; cases hx
  simp [ext1, e, hx]
theorem ext1_at {n b K : Nat} : ext1 ρ n b K n = some (b, K) := by simp [ext1]
/-- The world with one row more. -/
def withRow (w : World) (c : Array Value) (e : TypeId) : World := { w with heap := w.heap.push (.cells c e) }
theorem withRow_at (c : Array Value) (e : TypeId) : (withRow w c e).heap[w.heap.size]? = some (.cells c e (0, 0)) := by simp only [withRow, Array.getElem?_push, if_true]
theorem withRow_old (c : Array Value) (e : TypeId) {k : Nat} (h : k < w.heap.size) : (withRow w c e).heap[k]? = w.heap[k]? := by
  simp only [withRow, Array.getElem?_push]; rw [if_neg (by omega)]
theorem frOk_zero (n : Nat) : frOk (0, 0) n := fun i _ h => by simp at h
theorem run_newRow (c : Array Value) (e : TypeId) : (newRow e c).run P w = .ok ⟨w.heap.size, 0, none⟩ (withRow w c e) := by
  simp [newRow, withRow]
theorem Post.cells (h : Rel P base ρ H w) (hf : ρ H.next = none) {c c' : Array Value} (hc : ARel ρ c c') (t e : TypeId) :
    Post P base ρ (ext1 ρ H.next w.heap.size 0) H (H.new (.cells c t)) w (withRow w c' e) :=
  Post.new h hf ⟨rfl, rfl, rfl⟩ (by simp [withRow]) (fun k hk => withRow_old c' e hk)
    ⟨w.heap.size, 0, c', e, (0, 0), by simp, withRow_at c' e, hc.mono (ext1_ext hf), fun _ => frOk_zero _⟩
theorem Post.grow' (h : Rel P base ρ H w) (hf : ρ H.next = none) {c c' : Array Value} {K : Nat} {e : TypeId} {i : TypeInfo} (hi : P.info? e = some i) (hK : c'.size = K * i.size) (hs : c.size ≤ c'.size)
    (hc : ∀ j, j < c.size → VRel ρ (c.getD j undef) (c'.getD j undef)) {w' : World} (hcalm : Calm w w') (hws : w.heap.size < w'.heap.size) (hold : ∀ k, k < w.heap.size → w'.heap[k]? = w.heap[k]?)
    {fr : Nat × Nat} (hat : w'.heap[w.heap.size]? = some (.cells c' e fr)) (hfr : frOk fr c'.size) :
    Post P base ρ (ext1 ρ H.next w.heap.size K) H (H.new (.grow c e)) w w' :=
  Post.new h hf hcalm hws hold
    ⟨w.heap.size, K, c', e, fr, i, by simp, hat, hi, hK, hs, fun j hj => (hc j hj).mono (ext1_ext hf), fun _ => hfr⟩

/-! ### Loads and stores -/
theorem load_ok (h : Rel P base ρ H w) {t : TypeId} {x x' v : Value} (hx : VRel ρ x x') (hl : pLoad P t x H = some v) : ∃ v', (Instr.loadAt t x').run P w = .ok v' w ∧ VRel ρ v v' := by
  unfold pLoad at hl
  split at hl
  · rename_i agg n hlay
    obtain ⟨ha, i, hi, hn⟩ := lay_spec hlay
    unfold ldV at hl
    split at hl
    · rename_i a
      obtain ⟨b, K, hr, hsp, rfl⟩ := hx.ptr_inv
      cases agg with
      | true =>
        simp only [if_true, Option.map_eq_some_iff] at hl
        obtain ⟨c, hc, rfl⟩ := hl
        obtain ⟨c', hc', hrel⟩ := h.ldN (P := P) hc hr
        refine ⟨.agg c', ?_, .agg' hrel⟩
        simp [Instr.loadAt, Instr.sureAddr, loadVar, ha w, run_size hi, hn, hc']
      | false =>
        simp only [Bool.false_eq_true, if_false] at hl
        obtain ⟨v', hv', hrel⟩ := h.ld1 hl hr
        refine ⟨v', ?_, hrel⟩
        simp [Instr.loadAt, Instr.sureAddr, loadVar, ha w, hv']
    · cases hl
  · cases hl

theorem cells_list {x x' : Value} (h : ARel ρ x.cells x'.cells) : x.cells.toList.length = x'.cells.toList.length ∧ ∀ i, VRel ρ (x.cells.toList.getD i undef) (x'.cells.toList.getD i undef) := by
  refine ⟨by simpa using h.1, fun i => ?_⟩
  have := h.2 i
  simpa [Array.getD_eq_getD_getElem?, List.getD_eq_getElem?_getD] using this

theorem stV_tuple {n : Nat} {x : Value} {l : Array Value} {H H' : Heap} (h : stV n x (.tuple l) H = some H') : False := by
  unfold stV at h
  split at h
  · rename_i a
    split at h
    · unfold Heap.stN at h
      have e : (Value.tuple l).cells.toList = [.tuple l] := rfl
      rw [e, if_neg (show ¬ ([Value.tuple l].isEmpty = true) from by simp)] at h
      split at h
      · cases h
      split at h
      · cases h
      · obtain ⟨o, ho, h⟩ := Option.bind_eq_some_iff.1 h
        obtain ⟨d, hd, h⟩ := Option.bind_eq_some_iff.1 h
        split at h
        · rename_i hh; simp [oneC] at hh
        · cases h
    · cases h
  · cases h

theorem store_ok (h : Rel P base ρ H w) {t : TypeId} {x x' v v' : Value} {H' : Heap} (hx : VRel ρ x x') (hv : VRel ρ v v') (hl : pStore P t x v H = some H') :
    ∃ w', (Instr.storeAt t x' v').run P w = .ok () w' ∧ Post P base ρ ρ H H' w w' := by
  unfold pStore at hl
  split at hl
  · rename_i agg n hlay
    obtain ⟨_, i, hi, hn⟩ := lay_spec hlay
    have hnt : ∀ l, v ≠ .tuple l := fun l e => stV_tuple (e ▸ hl)
    unfold stV at hl
    split at hl
    · rename_i a
      obtain ⟨b, K, hr, hsp, rfl⟩ := hx.ptr_inv
      split at hl
      · rename_i hsz
        have hc := hv.cells hnt
        obtain ⟨h1, h2⟩ := cells_list hc
        obtain ⟨w', g1, g2⟩ := h.stN (P := P) hl hr h1 h2
        refine ⟨w', ?_, g2⟩
        have hs : ¬ v'.cells.size ≠ i.size := by rw [← hc.1, hsz, hn]; simp
        simp only [Instr.storeAt, Instr.sureAddr, Sem.run_bind, Sem.run_pure, Result.andThen_ok, storeVar, run_size hi]
        rw [if_neg hs]
        simpa using g1
      · cases hl
    · cases hl
  · cases hl

/-! ### Numbers, strings, bools -/
theorem binI_ok {op : BinOp} {t : TypeId} {x y v : Value} (xo yo : Operand) (hl : binI op x y = some v) : (do eqGuard op t xo yo x y; binOp op t x y : Sem Value).run P w = .ok v w := by
  unfold binI at hl
  split at hl
  · rename_i k a k' b
    have hg : (eqGuard op t xo yo (.int k a) (.int k' b)).run P w = .ok () w := by
      unfold eqGuard; split <;> rfl
    simp only [Sem.run_bind, hg, Result.andThen_ok]
    cases op <;> simp only at hl <;> (try split at hl) <;> (try (split at hl)) <;> (try cases hl) <;>
      simp_all [binOp, Op.shift, Op.intArith, Op.intDiv, Op.intBits, Op.intCmp] <;> (intro hb; omega)
  · cases hl
theorem binI_flat {op : BinOp} {x y v : Value} (hl : binI op x y = some v) : (∃ k a k' b, x = .int k a ∧ y = .int k' b) ∧ flat v = true := by
  unfold binI at hl
  split at hl
  · rename_i k a k' b
    refine ⟨⟨k, a, k', b, rfl, rfl⟩, ?_⟩
    cases op <;> simp only at hl <;> (try split at hl) <;> (try (split at hl)) <;> (try cases hl) <;> rfl
  · cases hl
theorem binS_ok {op : BinOp} {t : TypeId} {x y v : Value} (xo yo : Operand) (hl : binS op x y = some v) : (do eqGuard op t xo yo x y; binOp op t x y : Sem Value).run P w = .ok v w := by
  unfold binS at hl
  split at hl
  · rename_i a b
    have hg : (eqGuard op t xo yo (.string a) (.string b)).run P w = .ok () w := by
      unfold eqGuard; split <;> rfl
    simp only [Sem.run_bind, hg, Result.andThen_ok]
    cases op <;> simp only at hl <;> (try split at hl) <;> (try cases hl) <;> simp_all [binOp, Op.stringOp]
  · cases hl
theorem binS_flat {op : BinOp} {x y v : Value} (hl : binS op x y = some v) : (∃ a b, x = .string a ∧ y = .string b) ∧ flat v = true := by
  unfold binS at hl
  split at hl
  · rename_i a b
    refine ⟨⟨a, b, rfl, rfl⟩, ?_⟩
    cases op <;> simp only at hl <;> (try split at hl) <;> (try cases hl) <;> rfl
  · cases hl
theorem un_ok {op : UnOp} {x x' v : Value} (hx : VRel ρ x x') (hl : pUn op x = some v) : (Op.unary op x').run P w = .ok v w ∧ flat v = true := by
  unfold pUn at hl
  split at hl
  · cases hl; rw [hx.bool_inv]; exact ⟨rfl, rfl⟩
  · cases hl; rw [hx.int_inv]; exact ⟨rfl, rfl⟩
  · cases hl; rw [hx.int_inv]; exact ⟨rfl, rfl⟩
  · cases hl
theorem nil_ok {x x' v : Value} (hx : VRel ρ x x') (hl : pNil x = some v) : VRel ρ v x' ∧ ((∃ a, x' = .pointer (some a)) ∨ (∃ t y, x' = .iface t y) ∨ ∃ f a b, x' = .func (.func f) a b) := by
  unfold pNil at hl
  split at hl
  · cases hl; obtain ⟨b, K, _, _, rfl⟩ := hx.ptr_inv; exact ⟨hx, .inl ⟨_, rfl⟩⟩
  · cases hl
    refine ⟨hx, ?_⟩
    cases hx with
    | iface t h => exact .inr (.inl ⟨_, _, rfl⟩)
  · cases hl
    refine ⟨hx, ?_⟩
    cases hx with
    | func fn ha hb h h' => exact .inr (.inr ⟨_, _, _, rfl⟩)
  · cases hl

/-! ### Blocks that are made -/
theorem alloc_ok (h : Rel P base ρ H w) (hf : ρ H.next = none) {t : TypeId} {r : Value × Heap} (hl : pAlloc P t H = some r) : RunsTo P (Instr.alloc t true (.tuple #[])) w (Good P base ρ H w r.1 r.2) := by
  unfold pAlloc at hl
  split at hl
  · rename_i z hz
    cases hl
    obtain ⟨i, hi, h1, h2, h3⟩ := zero_spec hz
    refine .ok (v' := .pointer (some ⟨w.heap.size, 0, none⟩)) (w' := withRow w z.cells t) ?_ ⟨_, .ptr 0 ext1_at, Post.cells h hf (.flat h2) t t⟩
    simp [Instr.alloc, run_zero hz, newVar, run_newRow]
  · cases hl
theorem noTup_ne {x : Value} (h : noTup x = true) : ∀ l, x ≠ .tuple l := fun l e => by subst e; cases h
theorem box_ok (h : Rel P base ρ H w) (hf : ρ H.next = none) {t : TypeId} {x x' : Value} {r : Value × Heap} (hx : VRel ρ x x') (hl : pBox t x H = some r) : RunsTo P (Instr.box t x') w (Good P base ρ H w r.1 r.2) := by
  unfold pBox at hl
  split at hl
  case isFalse => cases hl
  case isTrue hnt =>
  cases hl
  replace hnt := noTup_ne hnt
  refine .ok (v' := .pointer (some ⟨w.heap.size, 0, none⟩)) (w' := withRow w x'.cells t) ?_ ⟨_, .ptr 0 ext1_at, Post.cells h hf (hx.cells hnt) t t⟩
  simp [Instr.box, newVar, run_newRow]
end
end Go.PG

namespace Go.PG
section
variable {P : Program} {base : Nat} {ρ : Ren} {H : Heap} {w : World}

/-! ### Structs, arrays and slices that are written out -/
theorem zip_setL (off : Nat) : ∀ (l : List Value) (k : Nat) (c : Array Value), (l.zipIdx k).foldl (fun cs (p : Value × Nat) => cs.setIfInBounds (off + p.2) p.1) c = setL c (off + k) l
  | [], _, _ => rfl
  | v :: l, k, c => by
    simp only [List.zipIdx_cons, List.foldl_cons, setL]
    rw [zip_setL off l (k + 1)]; rfl
theorem fill_fold (off : Nat) (v : Value) (c : Array Value) : (v.cells.zipIdx.foldl (fun cs (x : Value × Nat) => match x with | (c, j) => cs.setIfInBounds (off + j) c) c) = setL c off v.cells.toList := by
  rw [← Array.foldl_toList, Array.toList_zipIdx]
  exact zip_setL off v.cells.toList 0 c
def PRel (ρ : Ren) : List (Nat × Value) → List (Nat × Value) → Prop
  | [], [] => True
  | p :: ps, q :: qs => p.1 = q.1 ∧ VRel ρ p.2 q.2 ∧ PRel ρ ps qs
  | _, _ => False
theorem fill_rel (place : Nat → Option (Nat × Nat)) : ∀ (ps qs : List (Nat × Value)) (c c' r : Array Value), PRel ρ ps qs → (ps.all fun p => noTup p.2) = true → ARel ρ c c' → Instr.fill place c ps = some r →
    ∃ r', Instr.fill place c' qs = some r' ∧ ARel ρ r r'
  | [], [], c, c', r, _, _, h, hf => by cases hf; exact ⟨c', rfl, h⟩
  | (i, v) :: ps, (j, u) :: qs, c, c', r, hp, hn, h, hf => by
    obtain ⟨h1, h2, h3⟩ := hp
    simp only at h1 h2; subst h1
    simp only [List.all_cons, Bool.and_eq_true] at hn
    have hc := h2.cells (noTup_ne hn.1)
    simp only [Instr.fill] at hf ⊢
    cases hpl : place i with
    | none => simp [hpl] at hf
    | some p =>
      obtain ⟨off, size⟩ := p
      simp only [hpl] at hf ⊢
      rw [← hc.1, ← h.1]
      split at hf
      · cases hf
      · rename_i hb
        rw [if_neg hb]
        rw [fill_fold] at hf ⊢
        refine fill_rel place ps qs _ _ r h3 hn.2 (h.setL off ?_ ?_) hf
        · exact (cells_list hc).1
        · exact (cells_list hc).2
  | [], _ :: _, _, _, _, hp, _, _, _ => hp.elim
  | _ :: _, [], _, _, _, hp, _, _, _ => hp.elim

theorem mapM_places : ∀ (fs : List Field) (ps : List (Nat × Nat)), (fs.mapM fun f => (P.info? f.type).map fun i => (f.offset, i.size)) = some ps →
    (fs.mapM fun f => (do pure (f.offset, ← sizeOf f.type) : Sem (Nat × Nat))).run P w = .ok ps w
  | [], ps, h => by simp at h; subst h; simp
  | f :: fs, ps, h => by
    simp only [List.mapM_cons, Option.bind_eq_bind, Option.bind_eq_some_iff, Option.map_eq_some_iff, Option.pure_def, Option.some.injEq] at h
    obtain ⟨_, ⟨i, hi, rfl⟩, qs, hq, rfl⟩ := h
    simp only [List.mapM_cons, Sem.run_bind, run_size hi, Result.andThen_ok, Sem.run_pure, mapM_places fs qs hq]
theorem build_ok {t : TypeId} {ps qs : List (Nat × Value)} {v : Value} (hp : PRel ρ ps qs) (hl : pBuild P t ps = some v) (w : World) : ∃ v', (Instr.build t qs.toArray).run P w = .ok v' w ∧ VRel ρ v v' := by
  unfold pBuild at hl
  split at hl
  · cases hl
  rename_i hn
  have hn' : (ps.all fun p => noTup p.2) = true := by simpa using hn
  split at hl
  · cases hl
  rename_i z hz
  obtain ⟨i0, hi0, _, hfl, _⟩ := zero_spec hz
  split at hl
  · rename_i fs hu
    split at hl
    · rename_i pl hpl
      unfold places at hpl
      simp only [hu] at hpl
      obtain ⟨c, hc, rfl⟩ := Option.map_eq_some_iff.1 hl
      obtain ⟨c', hc', hrel⟩ := fill_rel _ ps qs z.cells z.cells c hp hn' (.flat hfl) hc
      refine ⟨.agg c', ?_, .agg' hrel⟩
      have hm := mapM_places (P := P) (w := w) _ _ hpl
      simp only [Instr.build, Sem.run_bind, run_zero hz, Result.andThen_ok, run_und hu, Array.mapM_eq_mapM_toList, Sem.run_map, hm]
      have e : (fun x : Nat => pl.toArray[x]?) = fun i => pl[i]? := by funext x; simp
      simp only [e, hc']
      rfl
    · cases hl
  · rename_i n e hu
    split at hl
    · rename_i i hi
      obtain ⟨c, hc, rfl⟩ := Option.map_eq_some_iff.1 hl
      obtain ⟨c', hc', hrel⟩ := fill_rel _ ps qs z.cells z.cells c hp hn' (.flat hfl) hc
      refine ⟨.agg c', ?_, .agg' hrel⟩
      simp only [Instr.build, Sem.run_bind, run_zero hz, Result.andThen_ok, run_und hu, run_size hi, hc']
      rfl
    · cases hl
  · cases hl
theorem zrow_flat {z : Array Value} {n : Nat} (hz : z.all flat = true) (h : n = 0 ∨ z.size ≠ 0) : (zrow z n).all flat = true := by
  have hz' : ∀ (i : Nat) (h : i < z.size), flat z[i] = true := by simpa using hz
  simp only [zrow, Array.all_map, Array.all_eq_true]
  intro i hi
  simp at hi
  have h0 : z.size ≠ 0 := h.resolve_left (by omega)
  have hm : i % z.size < z.size := Nat.mod_lt _ (by omega)
  simpa [hm] using hz' _ hm
theorem buildSlice_ok (h : Rel P base ρ H w) (hf : ρ H.next = none) {t : TypeId} {len : Nat} {ps qs : List (Nat × Value)} {r : Value × Heap} (hp : PRel ρ ps qs) (hl : pBuildSlice P t len ps H = some r) :
    RunsTo P (Instr.buildSlice t len qs.toArray) w (Good P base ρ H w r.1 r.2) := by
  unfold pBuildSlice at hl
  split at hl
  · cases hl
  rename_i hn
  have hn' : (ps.all fun p => noTup p.2) = true := by simpa using hn
  split at hl
  · rename_i e hu
    split at hl
    · rename_i i hi
      split at hl
      · cases hl
      rename_i hsz
      split at hl
      · rename_i z hz
        split at hl
        · rename_i c hc
          cases hl
          have hzf : z.all flat = true ∧ (len * i.size = 0 ∨ z.size ≠ 0) ∧ (if len * i.size = 0 then pure #[] else do pure (← zeroValue e).cells : Sem (Array Value)).run P w = .ok z w := by
            split at hz
            · rename_i h0; cases hz; exact ⟨by simp, .inl h0, by simp [h0]⟩
            · rename_i h0
              obtain ⟨z0, hz0, rfl⟩ := Option.map_eq_some_iff.1 hz
              obtain ⟨i2, hi2, _, h2, h3⟩ := zero_spec hz0
              rw [hi] at hi2; cases hi2
              refine ⟨h2, .inr fun h4 => h0 ?_, by rw [if_neg h0]; simp [run_zero hz0]⟩
              rw [h3] at h4; rw [h4, Nat.mul_zero]
          obtain ⟨c', hc', hrel⟩ := fill_rel (ρ := ρ) _ ps qs _ _ c hp hn' (.flat (zrow_flat hzf.1 hzf.2.1)) hc
          refine .ok (v' := .slice (some ⟨w.heap.size, 0, none⟩) len len) (w' := withRow w c' e) ?_ ⟨_, .slice 0 len len ext1_at (by omega) (Nat.le_refl _), Post.cells h hf hrel e e⟩
          simp only [Instr.buildSlice, Sem.run_bind, run_und hu, Result.andThen_ok, run_size hi]
          rw [if_neg (by omega)]
          have fin : ∀ (z1 : Array Value), z1 = z → (do
              let some cells := Instr.fill (fun i_1 => some (i_1 * i.size, i.size)) ((Array.range (len * i.size)).map (z1[· % z1.size]!)) qs | stuck "buildSlice: a part of the wrong size"
              pure (.slice (some (← newRow e cells)) len len) : Sem Value).run P w = .ok (.slice (some ⟨w.heap.size, 0, none⟩) len len) (withRow w c' e) := fun z1 hz1 => by
            subst hz1
            rw [show ((Array.range (len * i.size)).map (z1[· % z1.size]!)) = zrow z1 (len * i.size) from rfl, hc']
            simp only [Sem.run_bind, run_newRow, Result.andThen_ok, Sem.run_pure]
          have hz3 := hzf.2.2
          by_cases h0 : len * i.size = 0
          · rw [if_pos h0] at hz3 ⊢
            simp only [Sem.run_pure, Result.ok.injEq, and_true] at hz3
            exact fin _ hz3
          · rw [if_neg h0] at hz3 ⊢
            simp only [Sem.run_bind] at hz3 ⊢
            cases hzr : (zeroValue e).run P w with
            | ok z0 w0 =>
              rw [hzr] at hz3
              simp only [Result.andThen_ok, Sem.run_pure, Result.ok.injEq] at hz3 ⊢
              obtain ⟨hz4, rfl⟩ := hz3
              exact fin _ hz4
            | halt x w0 => rw [hzr] at hz3; cases hz3
        · cases hl
      · cases hl
    · cases hl
  · cases hl
theorem zrow_one {z : Array Value} (h : z.size = 1) (n : Nat) : zrow z n = Array.replicate n (z.getD 0 undef) := by
  apply Array.ext
  · simp [zrow]
  · intro i h1 h2
    simp [zrow, h, Nat.mod_one, Array.getD_eq_getD_getElem?]
theorem wrap64_small {n : Int} (h0 : 0 ≤ n) (h : n < 2 ^ 62) : IntKind.i64.wrap n = n := by
  have e : n % (2 ^ 64 : Int) = n := Int.emod_eq_of_lt h0 (by omega)
  show (if (true && decide (n % (2 ^ 64 : Int) ≥ (2 ^ 63 : Int))) = true then n % (2 ^ 64 : Int) - (2 ^ 64 : Int) else n % (2 ^ 64 : Int)) = n
  simp only [e]
  rw [if_neg (by simp; omega)]
theorem makeSlice_ok (h : Rel P base ρ H w) (hf : ρ H.next = none) {t : TypeId} {l c l' c' : Value} {r : Value × Heap} (hx : VRel ρ l l') (hy : VRel ρ c c') (hl : pMakeSlice P t l c H = some r) :
    RunsTo P (Instr.makeSlice t l' c') w (Good P base ρ H w r.1 r.2) := by
  unfold pMakeSlice at hl
  split at hl
  · rename_i e hu
    split at hl
    · rename_i i z hi hz
      obtain ⟨i2, hi2, _, h2, h3⟩ := zero_spec hz
      rw [hi] at hi2; cases hi2
      unfold mkSl at hl
      split at hl
      · rename_i k l k' c
        rw [hx.int_inv, hy.int_inv]
        split at hl
        · rename_i hc
          obtain ⟨c0, c1, c2, c3⟩ := hc
          cases hl
          have wl : IntKind.i64.wrap l = l := wrap64_small c0 (by omega)
          have wc : IntKind.i64.wrap c = c := wrap64_small (by omega) c3
          have hrow : (if i.size = 1 then Array.replicate c.toNat (z.cells.getD 0 undef) else zrow z.cells (c.toNat * i.size)) = zrow z.cells (c.toNat * i.size) := by
            split
            · rename_i h1; rw [h1, Nat.mul_one, zrow_one (by omega)]
            · rfl
          rw [hrow]
          have hfl : (zrow z.cells (c.toNat * i.size)).all flat = true := zrow_flat h2 (by
            by_cases e0 : i.size = 0
            · left; rw [e0, Nat.mul_zero]
            · right; rw [h3]; exact e0)
          refine .ok (v' := .slice (some ⟨w.heap.size, 0, none⟩) l.toNat c.toNat) (w' := withRow w (zrow z.cells (c.toNat * i.size)) e) ?_ ⟨_, .slice 0 _ _ ext1_at (by simp only [capU]; omega) (by omega), Post.cells h hf (.flat hfl) e e⟩
          simp only [Instr.makeSlice, Sem.run_bind, run_und hu, Result.andThen_ok, asInt, asIntOf, Sem.run_pure, run_info hi, wl, wc]
          have ht : ¬ ((decide (c < 0) || decide ((i.bytes : Int) * c > 2 ^ 48)) || decide (l < 0) || decide (l > c)) = true := by
            simp only [Bool.or_eq_true, decide_eq_true_eq, not_or]
            exact ⟨⟨⟨by omega, by omega⟩, by omega⟩, by omega⟩
          rw [if_neg ht]
          simp only [Sem.run_bind, run_askRoom, Result.andThen_ok, run_size hi]
          by_cases e0 : c.toNat * i.size = 0
          · rw [if_pos e0]
            have e1 : zrow z.cells (c.toNat * i.size) = #[] := by rw [e0]; simp [zrow]
            rw [e1]
            have e2 : ∀ f : Nat → Value, Array.map f (Array.range 0) = #[] := fun f => by simp [Array.range]
            simp [e0, run_newRow, e2]
          · rw [if_neg e0]
            simp only [Sem.run_bind, run_zero hz, Sem.run_pure, Result.andThen_ok]
            rw [show ((Array.range (c.toNat * i.size)).map (z.cells[· % z.cells.size]!)) = zrow z.cells (c.toNat * i.size) from rfl]
            simp only [run_newRow, Result.andThen_ok]
        · cases hl
      · cases hl
    · cases hl
  · cases hl

/-! ### Parts -/
theorem part_ok {t : TypeId} {agg : Bool} {n off : Nat} {cs cs' : Array Value} {v : Value} (hlay : lay P t = some (agg, n)) (h : ARel ρ cs cs') (hl : partV agg n off cs = some v) (w : World) :
    ∃ v', (part t cs' off).run P w = .ok v' w ∧ VRel ρ v v' := by
  obtain ⟨ha, i, hi, hn⟩ := lay_spec hlay
  unfold partV at hl
  cases agg with
  | true =>
    simp only [if_true, Option.some.injEq] at hl; subst hl
    exact ⟨_, by simp [part, ha w, run_size hi, hn], .agg' (h.extract _ _)⟩
  | false =>
    simp only [Bool.false_eq_true, if_false] at hl
    obtain ⟨v', h1, h2⟩ := h.get hl
    exact ⟨v', by simp [part, ha w, h1], h2⟩
theorem field_ok {t : TypeId} {f : Nat} {x x' v : Value} (hx : VRel ρ x x') (hl : pField P t x f = some v) (w : World) : ∃ v', (Instr.field t x' f).run P w = .ok v' w ∧ VRel ρ v v' := by
  unfold pField at hl
  split at hl
  · rename_i fs hu
    split at hl
    · rename_i f hf
      split at hl
      · rename_i agg n hlay
        unfold fieldV at hl
        split at hl
        · obtain ⟨ys, rfl, hr⟩ := hx.agg_inv
          obtain ⟨v', h1, h2⟩ := part_ok hlay hr hl w
          exact ⟨v', by simp [Instr.field, run_und hu, hf, asAgg, h1], h2⟩
        · cases hl
      · cases hl
    · cases hl
  · cases hl
theorem fieldA_ok {t : TypeId} {fs : Array Field} {k : Nat} {f : Field} {i : TypeInfo} {x x' v : Value} (hu : P.underlying t = some (.struct fs)) (hf : fs[k]? = some f) (hi : P.info? f.type = some i) (h0 : i.size ≠ 0)
    (hx : VRel ρ x x') (hl : fieldA f.offset x = some v) (w : World) : ∃ v', (Instr.fieldAt t x' k).run P w = .ok v' w ∧ VRel ρ v v' := by
  unfold fieldA at hl
  split at hl
  · rename_i a
    split at hl
    · cases hl
    · cases hl
      obtain ⟨b, K, hr, hsp, rfl⟩ := hx.ptr_inv
      refine ⟨.pointer (some ⟨b, a.off + f.offset, none⟩), ?_, ?_⟩
      · simp [Instr.fieldAt, run_und hu, hf, Instr.sureAddr, fieldPlace, run_size hi, h0, add_none]
      · obtain ⟨n, off, sp⟩ := a
        simp only at hsp; subst hsp
        rw [add_none]
        exact .ptr _ hr
  · cases hl

/-! ### Indices -/
theorem VRel.slice_inv {a : Addr} {len cap : Nat} {v : Value} (h : VRel ρ (.slice (some a) len cap) v) : ∃ a' cap', v = .slice (some a') len cap' ∧ len ≤ cap' ∧ (len = 0 ∨ ∃ b K, ρ a.block = some (b, K) ∧ a.spot = none ∧ a' = ⟨b, a.off, none⟩) := by
  cases h with
  | slice off _ _ h hc hl => exact ⟨_, _, rfl, hl, .inr ⟨_, _, h, rfl, rfl⟩⟩
  | sliceU _ h hl hu => exact ⟨_, _, rfl, hl, .inr ⟨_, _, h, rfl, rfl⟩⟩
  | sliceI off _ _ h h0 hl hu => exact ⟨_, _, rfl, hl, .inr ⟨_, _, h, rfl, rfl⟩⟩
  | sliceE _ _ _ h0 => exact ⟨_, _, rfl, Nat.zero_le _, .inl rfl⟩
  | sliceZ _ _ => exact ⟨_, _, rfl, Nat.le_refl _, .inl rfl⟩
theorem ptr_add {a : Addr} {b K : Nat} (hr : ρ a.block = some (b, K)) (hsp : a.spot = none) (n : Nat) : VRel ρ (.pointer (some (a.add n))) (.pointer (some ((⟨b, a.off, none⟩ : Addr).add n))) := by
  obtain ⟨m, off, sp⟩ := a
  simp only at hsp; subst hsp
  rw [add_none, add_none]
  exact .ptr _ hr
theorem indexA_ok {t : TypeId} {x x' i i' v : Value} (hx : VRel ρ x x') (hi : VRel ρ i i') (hl : pIndexA P t x i = some v) (w : World) : ∃ v', (Instr.indexAt t x' i').run P w = .ok v' w ∧ VRel ρ v v' := by
  unfold pIndexA at hl
  split at hl
  · rename_i e hu
    split at hl
    · rename_i k hk
      unfold idxSl at hl
      split at hl
      · rename_i a len cap kk n
        rw [hi.int_inv]
        split at hl
        · rename_i hb
          cases hl
          obtain ⟨a', cap', rfl, _, h0⟩ := hx.slice_inv
          obtain ⟨b, K, hr, hsp, rfl⟩ := h0.resolve_left (by omega)
          refine ⟨_, ?_, ptr_add hr hsp _⟩
          simp [Instr.indexAt, asIntOf, run_und hu, hb, run_size hk]
        · cases hl
      · cases hl
    · cases hl
  · rename_i n e hu
    split at hl
    · rename_i k hk
      unfold idxArr at hl
      split at hl
      · rename_i a kk m
        rw [hi.int_inv]
        split at hl
        · rename_i hb
          cases hl
          obtain ⟨b, K, hr, hsp, rfl⟩ := hx.ptr_inv
          refine ⟨_, ?_, ptr_add hr hsp _⟩
          simp [Instr.indexAt, asIntOf, run_und hu, hb, run_size hk, Instr.sureAddr]
        · cases hl
      · cases hl
    · cases hl
  · cases hl
theorem index_ok {t : TypeId} {x x' i i' v : Value} (hx : VRel ρ x x') (hi : VRel ρ i i') (hl : pIndex P t x i = some v) (w : World) : ∃ v', (Instr.index t x' i').run P w = .ok v' w ∧ VRel ρ v v' := by
  unfold pIndex at hl
  split at hl
  · rename_i hu
    unfold idxStr at hl
    split at hl
    · rename_i s kk n
      rw [hi.int_inv, hx.string_inv]
      split at hl
      · rename_i h0
        obtain ⟨b, hb, rfl⟩ := Option.map_eq_some_iff.1 hl
        exact ⟨_, by simp [Instr.index, asIntOf, run_und hu, h0, hb], .int _ _⟩
      · cases hl
    · cases hl
  · rename_i n e hu
    split at hl
    · rename_i agg k hlay
      unfold idxAgg at hl
      split at hl
      · rename_i cs kk m
        rw [hi.int_inv]
        obtain ⟨ys, rfl, hr⟩ := hx.agg_inv
        split at hl
        · rename_i hb
          obtain ⟨_, j, hj, hjn⟩ := lay_spec hlay
          obtain ⟨v', h1, h2⟩ := part_ok hlay hr hl w
          exact ⟨v', by simp [Instr.index, asIntOf, run_und hu, hb, run_size hj, hjn, h1], h2⟩
        · cases hl
      · cases hl
    · cases hl
  · cases hl
end
end Go.PG

namespace Go.PG
section
variable {P : Program} {base : Nat} {ρ : Ren} {H : Heap} {w : World}

/-! ### Slices -/
def ORel (ρ : Ren) : Option Value → Option Value → Prop
  | none, none => True
  | some x, some y => VRel ρ x y
  | _, _ => False
theorem bound_ok {x x' : Value} {most n d : Nat} (hx : VRel ρ x x') (h : sBound (some x) most d = some n) (code : BoundsCode) (m : Nat) (hm : most ≤ m) (w : World) :
    (Instr.sliceBound x' m code).run P w = .ok n w ∧ n ≤ most := by
  unfold sBound at h
  split at h
  · rename_i h0; cases h0
  · rename_i k i h0
    cases h0
    rw [hx.int_inv]
    split at h
    · rename_i hb
      cases h
      exact ⟨by simp [Instr.sliceBound, asIntOf, show 0 ≤ i ∧ i ≤ (m : Int) from ⟨hb.1, by omega⟩], by omega⟩
    · cases h
  · cases h
theorem bounds2 {isS : Bool} {len cap top : Nat} {lo hi lo' hi' : Option Value} {h l : Nat} (hlo : ORel ρ lo lo') (hhi : ORel ρ hi hi') (h1 : sBound hi top len = some h) (h2 : sBound lo h 0 = some l) (hlen : len ≤ top) (ht : top ≤ cap) (w : World) :
    (Instr.sliceBounds isS len cap lo' hi' none).run P w = .ok (l, h, cap) w ∧ l ≤ h ∧ h ≤ top := by
  cases hi with
  | none =>
    cases hi' with
    | some y => exact hhi.elim
    | none =>
      cases h1
      cases lo with
      | none =>
        cases lo' with
        | some y => exact hlo.elim
        | none => cases h2; exact ⟨rfl, Nat.zero_le _, hlen⟩
      | some x =>
        cases lo' with
        | none => exact hlo.elim
        | some y =>
          have g := fun code => bound_ok (P := P) hlo h2 code len (Nat.le_refl _) w
          refine ⟨?_, (g .index).2, hlen⟩
          simp [Instr.sliceBounds, (g _).1]
  | some x0 =>
    cases hi' with
    | none => exact hhi.elim
    | some y0 =>
      have g0 := fun code => bound_ok (P := P) hhi h1 code cap ht w
      cases lo with
      | none =>
        cases lo' with
        | some y => exact hlo.elim
        | none =>
          cases h2
          refine ⟨?_, Nat.zero_le _, (g0 .index).2⟩
          simp [Instr.sliceBounds, (g0 _).1]
      | some x =>
        cases lo' with
        | none => exact hlo.elim
        | some y =>
          have g := fun code => bound_ok (P := P) hlo h2 code h (Nat.le_refl _) w
          refine ⟨?_, (g .index).2, (g0 .index).2⟩
          simp [Instr.sliceBounds, (g0 _).1, (g _).1]
theorem bounds3 {isS : Bool} {len cap top : Nat} {lo hi lo' hi' : Option Value} {mx mx' : Value} {h l m : Nat} (hlo : ORel ρ lo lo') (hhi : ORel ρ hi hi') (hmx : VRel ρ mx mx') (hs : hi.isNone = false) (h0 : sBound (some mx) top 0 = some m)
    (h1 : sBound hi m 0 = some h) (h2 : sBound lo h 0 = some l) (ht : top ≤ cap) (w : World) :
    (Instr.sliceBounds isS len cap lo' hi' (some mx')).run P w = .ok (l, h, m) w ∧ l ≤ h ∧ h ≤ m ∧ m ≤ top := by
  have gm := fun code => bound_ok (P := P) hmx h0 code cap ht w
  cases hi with
  | none => cases hs
  | some x0 =>
    cases hi' with
    | none => exact hhi.elim
    | some y0 =>
      have g0 := fun code => bound_ok (P := P) hhi h1 code m (Nat.le_refl _) w
      cases lo with
      | none =>
        cases lo' with
        | some y => exact hlo.elim
        | none =>
          cases h2
          refine ⟨?_, Nat.zero_le _, (g0 .index).2, (gm .index).2⟩
          simp [Instr.sliceBounds, (gm _).1, (g0 _).1]
      | some x =>
        cases lo' with
        | none => exact hlo.elim
        | some y =>
          have g := fun code => bound_ok (P := P) hlo h2 code h (Nat.le_refl _) w
          refine ⟨?_, (g .index).2, (g0 .index).2, (gm .index).2⟩
          simp [Instr.sliceBounds, (gm _).1, (g0 _).1, (g _).1]
theorem sliceStr_ok {t : TypeId} {x x' v : Value} {lo hi lo' hi' : Option Value} (hu : P.underlying t = some .string) (hx : VRel ρ x x') (hlo : ORel ρ lo lo') (hhi : ORel ρ hi hi') (hl : sliceStr x lo hi = some v) (w : World) :
    ∃ v', (Instr.slice t x' lo' hi' none).run P w = .ok v' w ∧ VRel ρ v v' := by
  unfold sliceStr at hl
  split at hl
  · rename_i s
    obtain ⟨h, h1, hl⟩ := Option.bind_eq_some_iff.1 hl
    obtain ⟨l, h2, hl⟩ := Option.bind_eq_some_iff.1 hl
    cases hl
    rw [hx.string_inv]
    have hb := (bounds2 (P := P) (isS := false) hlo hhi h1 h2 (Nat.le_refl _) (Nat.le_refl _) w).1
    exact ⟨.string (s.extract l h), by simp [Instr.slice, run_und hu, hb], .string _⟩
  · cases hl
theorem arr_rel {a : Addr} {b K : Nat} (hr : ρ a.block = some (b, K)) (hsp : a.spot = none) {l h m size : Nat} (h1 : l ≤ h) (h2 : h ≤ m) (hm : m < capU) :
    VRel ρ (.slice (some (if m = l then a else a.add (l * size))) (h - l) (m - l)) (.slice (some (if m = l then ⟨b, a.off, none⟩ else (⟨b, a.off, none⟩ : Addr).add (l * size))) (h - l) (m - l)) := by
  obtain ⟨n, off, sp⟩ := a
  simp only at hsp hr; subst hsp
  split
  · exact .slice _ _ _ hr (by omega) (by omega)
  · rw [add_none, add_none]; exact .slice _ _ _ hr (by omega) (by omega)
theorem sliceArr_ok {n e size : Nat} {a' : Addr} {x v : Value} {lo hi mx lo' hi' mx' : Option Value} (hx : VRel ρ x (.pointer (some a'))) (hlo : ORel ρ lo lo') (hhi : ORel ρ hi hi') (hmx : ORel ρ mx mx')
    (hs : (hi.isNone && mx.isSome) = false) (hl : sliceArr n size x lo hi mx = some v) (w : World) :
    ∃ l h m, (Instr.sliceBounds false n n lo' hi' mx').run P w = .ok (l, h, m) w ∧ VRel ρ v (.slice (some (if m = l then a' else a'.add (l * size))) (h - l) (m - l)) := by
  have _ := e
  unfold sliceArr at hl
  split at hl
  · cases hl
  rename_i hn
  split at hl
  · rename_i a
    obtain ⟨b, K, hr, hsp, he⟩ := hx.ptr_inv
    cases he
    split at hl
    · cases mx' with
      | some y => exact hmx.elim
      | none =>
        obtain ⟨h, h1, hl⟩ := Option.bind_eq_some_iff.1 hl
        obtain ⟨l, h2, hl⟩ := Option.bind_eq_some_iff.1 hl
        cases hl
        obtain ⟨g1, g2, g3⟩ := bounds2 (P := P) (isS := false) hlo hhi h1 h2 (Nat.le_refl _) (Nat.le_refl _) w
        exact ⟨l, h, n, g1, arr_rel hr hsp g2 g3 (by omega)⟩
    · rename_i mx
      cases mx' with
      | none => exact hmx.elim
      | some y =>
        obtain ⟨m, h0, hl⟩ := Option.bind_eq_some_iff.1 hl
        obtain ⟨h, h1, hl⟩ := Option.bind_eq_some_iff.1 hl
        obtain ⟨l, h2, hl⟩ := Option.bind_eq_some_iff.1 hl
        cases hl
        obtain ⟨g1, g2, g3, g4⟩ := bounds3 (P := P) (isS := false) hlo hhi hmx (by simpa using hs) h0 h1 h2 (Nat.le_refl _) w
        exact ⟨l, h, m, g1, arr_rel hr hsp g2 g3 (by omega)⟩
  · cases hl
theorem sliceSl_ok {size : Nat} {x x' v : Value} {lo hi mx lo' hi' mx' : Option Value} (hx : VRel ρ x x') (hlo : ORel ρ lo lo') (hhi : ORel ρ hi hi') (hmx : ORel ρ mx mx')
    (hs : (hi.isNone && mx.isSome) = false) (hl : sliceSl size x lo hi mx = some v) (w : World) :
    ∃ a' len cap l h m, x' = .slice a' len cap ∧ (Instr.sliceBounds true len cap lo' hi' mx').run P w = .ok (l, h, m) w ∧ VRel ρ v (.slice (if m = l then a' else a'.map (·.add (l * size))) (h - l) (m - l)) := by
  unfold sliceSl at hl
  split at hl
  · cases hl
  rename_i hsz
  split at hl
  · rename_i a len cap
    cases a with
    | none =>
      -- the nil slice
      cases hx with
      | nilSlice =>
        simp only [show ¬ (0 = capU) from by simp [capU], if_false] at hl
        split at hl
        · cases mx' with
          | some y => exact hmx.elim
          | none =>
            obtain ⟨h, h1, hl⟩ := Option.bind_eq_some_iff.1 hl
            obtain ⟨l, h2, hl⟩ := Option.bind_eq_some_iff.1 hl
            obtain ⟨g1, g2, g3⟩ := bounds2 (P := P) (isS := true) hlo hhi h1 h2 (Nat.le_refl _) (Nat.le_refl _) w
            refine ⟨none, 0, 0, l, h, 0, rfl, g1, ?_⟩
            have : l = 0 := by omega
            have : h = 0 := by omega
            subst_vars
            simp at hl; subst hl
            simpa using VRel.nilSlice
        · rename_i mx
          cases mx' with
          | none => exact hmx.elim
          | some y =>
            obtain ⟨m, h0, hl⟩ := Option.bind_eq_some_iff.1 hl
            obtain ⟨h, h1, hl⟩ := Option.bind_eq_some_iff.1 hl
            obtain ⟨l, h2, hl⟩ := Option.bind_eq_some_iff.1 hl
            obtain ⟨g1, g2, g3, g4⟩ := bounds3 (P := P) (isS := true) (len := 0) hlo hhi hmx (by simpa using hs) h0 h1 h2 (Nat.le_refl _) w
            refine ⟨none, 0, 0, l, h, m, rfl, g1, ?_⟩
            have : l = 0 := by omega
            have : h = 0 := by omega
            have : m = 0 := by omega
            subst_vars
            simp at hl; subst hl
            simpa using VRel.nilSlice
    | some a =>
      by_cases hc : cap = capU
      · subst hc
        simp only [if_true] at hl
        -- what is known of the slice beside
        have facts : ∃ a' cap', x' = .slice (some a') len cap' ∧ len ≤ cap' ∧ (len = 0 ∨ len < capU) ∧
            ((∃ b K, ρ a.block = some (b, K) ∧ a.spot = none ∧ a' = ⟨b, a.off, none⟩ ∧ (a.off = 0 → cap' = K)) ∨ (len = 0 ∧ a.off ≠ 0)) := by
          cases hx with
          | slice off _ _ h hc hl => exact absurd hc (Nat.lt_irrefl _)
          | sliceU _ h hl hu => exact ⟨_, _, rfl, hl, .inr hu, .inl ⟨_, _, h, rfl, rfl, fun _ => rfl⟩⟩
          | sliceI off _ _ h h0 hl hu => exact ⟨_, _, rfl, hl, .inr hu, .inl ⟨_, _, h, rfl, rfl, fun e => absurd e h0⟩⟩
          | sliceE _ _ _ h0 => exact ⟨_, _, rfl, Nat.zero_le _, .inl rfl, .inr ⟨rfl, h0⟩⟩
        obtain ⟨a', cap', rfl, hlc, hlu, hk⟩ := facts
        have hlu' : len < capU := by rcases hlu with h | h <;> simp only [capU] at * <;> omega
        split at hl
        · cases mx' with
          | some y => exact hmx.elim
          | none =>
            obtain ⟨h, h1, hl⟩ := Option.bind_eq_some_iff.1 hl
            obtain ⟨l, h2, hl⟩ := Option.bind_eq_some_iff.1 hl
            simp only [Option.map_some] at hl
            cases hl
            obtain ⟨g1, g2, g3⟩ := bounds2 (P := P) (isS := true) (cap := cap') hlo hhi h1 h2 (Nat.le_refl _) hlc w
            refine ⟨some a', len, cap', l, h, cap', rfl, g1, ?_⟩
            by_cases hl0 : l = 0
            · subst hl0
              simp only [Nat.zero_mul, Option.map_some, Nat.sub_zero]
              have e1 : ∀ z : Addr, z.add 0 = z := fun z => by simp [Addr.add]
              rw [e1, e1]
              simp only [ite_self]
              rcases hk with ⟨b, K, hr, hsp, rfl, hK⟩ | ⟨h0, hoff⟩
              · obtain ⟨n, off, sp⟩ := a
                simp only at hsp hr hK ⊢; subst hsp
                by_cases hoff : off = 0
                · subst hoff
                  have := hK rfl; subst this
                  exact .sliceU _ hr (by omega) (by omega)
                · exact .sliceI _ _ _ hr hoff (by omega) (by omega)
              · have : h = 0 := by omega
                subst this
                exact .sliceE _ _ _ hoff
            · have hlen : len ≠ 0 := by omega
              obtain ⟨b, K, hr, hsp, rfl, hK⟩ := hk.resolve_right (fun e => hlen e.1)
              obtain ⟨n, off, sp⟩ := a
              simp only at hsp hr hK ⊢; subst hsp
              have hoff : off + l * size ≠ 0 := by
                have : 0 < l * size := Nat.mul_pos (by omega) (by omega)
                omega
              by_cases hcl : cap' = l
              · have : h - l = 0 := by omega
                rw [this, add_none]
                simp only [if_pos hcl]
                exact .sliceE _ _ _ hoff
              · simp only [if_neg hcl, Option.map_some, add_none]
                exact .sliceI _ _ _ hr hoff (by omega) (by omega)
        · rename_i mx
          cases mx' with
          | none => exact hmx.elim
          | some y =>
            obtain ⟨m, h0, hl⟩ := Option.bind_eq_some_iff.1 hl
            obtain ⟨h, h1, hl⟩ := Option.bind_eq_some_iff.1 hl
            obtain ⟨l, h2, hl⟩ := Option.bind_eq_some_iff.1 hl
            cases hl
            obtain ⟨g1, g2, g3, g4⟩ := bounds3 (P := P) (isS := true) (len := len) (cap := cap') hlo hhi hmx (by simpa using hs) h0 h1 h2 hlc w
            refine ⟨some a', len, cap', l, h, m, rfl, g1, ?_⟩
            rcases hk with ⟨b, K, hr, hsp, rfl, hK⟩ | ⟨h0, hoff⟩
            · have := arr_rel (size := size) hr hsp g2 g3 (by omega)
              split <;> simp_all
            · have : m = 0 := by omega
              have : l = 0 := by omega
              have : h = 0 := by omega
              subst_vars
              simp only [if_true, Nat.sub_zero]
              exact .sliceZ _ _
      · rw [if_neg hc] at hl
        by_cases hz : len = 0 ∧ cap = 0
        · obtain ⟨rfl, rfl⟩ := hz
          obtain ⟨a', cap', rfl, _, _⟩ := hx.slice_inv
          have : cap' = 0 := by
            cases hx with
            | slice => rfl
            | sliceZ => rfl
          subst this
          split at hl
          · cases mx' with
            | some y => exact hmx.elim
            | none =>
              obtain ⟨h, h1, hl⟩ := Option.bind_eq_some_iff.1 hl
              obtain ⟨l, h2, hl⟩ := Option.bind_eq_some_iff.1 hl
              rw [if_neg hc] at hl
              cases hl
              obtain ⟨g1, g2, g3⟩ := bounds2 (P := P) (isS := true) (cap := 0) hlo hhi h1 h2 (Nat.le_refl _) (Nat.le_refl _) w
              refine ⟨_, 0, 0, l, h, 0, rfl, g1, ?_⟩
              have : l = 0 := by omega
              have : h = 0 := by omega
              subst_vars
              simp only [if_true, Nat.sub_zero]
              exact .sliceZ _ _
          · rename_i mx
            cases mx' with
            | none => exact hmx.elim
            | some y =>
              obtain ⟨m, h0, hl⟩ := Option.bind_eq_some_iff.1 hl
              obtain ⟨h, h1, hl⟩ := Option.bind_eq_some_iff.1 hl
              obtain ⟨l, h2, hl⟩ := Option.bind_eq_some_iff.1 hl
              cases hl
              obtain ⟨g1, g2, g3, g4⟩ := bounds3 (P := P) (isS := true) (len := 0) (cap := 0) hlo hhi hmx (by simpa using hs) h0 h1 h2 (Nat.le_refl _) w
              refine ⟨_, 0, 0, l, h, m, rfl, g1, ?_⟩
              have : l = 0 := by omega
              have : h = 0 := by omega
              have : m = 0 := by omega
              subst_vars
              simp only [if_true, Nat.sub_zero]
              exact .sliceZ _ _
        have facts : ∃ b K, ρ a.block = some (b, K) ∧ a.spot = none ∧ x' = .slice (some ⟨b, a.off, none⟩) len cap ∧ cap < capU ∧ len ≤ cap := by
          cases hx with
          | sliceZ _ _ => exact absurd ⟨rfl, rfl⟩ hz
          | slice off _ _ h hc hl => exact ⟨_, _, h, rfl, rfl, hc, hl⟩
          | sliceU _ h hl hu => exact absurd rfl hc
          | sliceI off _ _ h h0 hl hu => exact absurd rfl hc
          | sliceE _ _ _ h0 => exact absurd rfl hc
        obtain ⟨b, K, hr, hsp, rfl, hcu, hlc⟩ := facts
        split at hl
        · cases mx' with
          | some y => exact hmx.elim
          | none =>
            obtain ⟨h, h1, hl⟩ := Option.bind_eq_some_iff.1 hl
            obtain ⟨l, h2, hl⟩ := Option.bind_eq_some_iff.1 hl
            rw [if_neg hc] at hl
            cases hl
            obtain ⟨g1, g2, g3⟩ := bounds2 (P := P) (isS := true) (cap := cap) hlo hhi h1 h2 hlc (Nat.le_refl _) w
            refine ⟨_, len, cap, l, h, cap, rfl, g1, ?_⟩
            have := arr_rel (size := size) hr hsp g2 g3 hcu
            split <;> simp_all
        · rename_i mx
          cases mx' with
          | none => exact hmx.elim
          | some y =>
            obtain ⟨m, h0, hl⟩ := Option.bind_eq_some_iff.1 hl
            obtain ⟨h, h1, hl⟩ := Option.bind_eq_some_iff.1 hl
            obtain ⟨l, h2, hl⟩ := Option.bind_eq_some_iff.1 hl
            cases hl
            obtain ⟨g1, g2, g3, g4⟩ := bounds3 (P := P) (isS := true) (len := len) (cap := cap) hlo hhi hmx (by simpa using hs) h0 h1 h2 (Nat.le_refl _) w
            refine ⟨_, len, cap, l, h, m, rfl, g1, ?_⟩
            have := arr_rel (size := size) hr hsp g2 g3 (by omega)
            split <;> simp_all
  · cases hl
theorem slice_ok {t : TypeId} {x x' v : Value} {lo hi mx lo' hi' mx' : Option Value} (hx : VRel ρ x x') (hlo : ORel ρ lo lo') (hhi : ORel ρ hi hi') (hmx : ORel ρ mx mx') (hl : pSlice P t x lo hi mx = some v) (w : World) :
    ∃ v', (Instr.sliceAt t x' lo' hi' mx').run P w = .ok v' w ∧ VRel ρ v v' := by
  unfold pSlice at hl
  split at hl
  · rename_i hu
    split at hl
    · cases mx' with
      | some y => exact hmx.elim
      | none =>
        obtain ⟨v', h1, h2⟩ := sliceStr_ok (P := P) hu hx hlo hhi hl w
        exact ⟨v', by simp [Instr.sliceAt, run_und hu, h1], h2⟩
    · cases hl
  · rename_i e hu
    split at hl
    · rename_i i hi'
      split at hl
      · cases hl
      rename_i hs
      obtain ⟨a', len, cap, l, h, m, rfl, h1, h2⟩ := sliceSl_ok (P := P) hx hlo hhi hmx (by simpa using hs) hl w
      exact ⟨_, by simp [Instr.sliceAt, run_und hu, Instr.slice, h1, run_size hi'], h2⟩
    · cases hl
  · rename_i n e hu
    split at hl
    · rename_i i hi'
      split at hl
      · cases hl
      rename_i hs
      have hp : ∃ a, x = .pointer (some a) := by
        unfold sliceArr at hl
        split at hl
        · cases hl
        split at hl
        · exact ⟨_, rfl⟩
        · cases hl
      obtain ⟨a, rfl⟩ := hp
      obtain ⟨b, K, hr, hsp, rfl⟩ := hx.ptr_inv
      obtain ⟨l, h, m, h1, h2⟩ := sliceArr_ok (P := P) (e := e) hx hlo hhi hmx (by simpa using hs) hl w
      exact ⟨_, by simp [Instr.sliceAt, run_und hu, Instr.sureAddr, h1, run_size hi'], h2⟩
    · cases hl
  · rename_i arr hu
    split at hl
    · rename_i n e hu2
      split at hl
      · rename_i i hi'
        split at hl
        · cases hl
        rename_i hs
        have hp : ∃ a, x = .pointer (some a) := by
          unfold sliceArr at hl
          split at hl
          · cases hl
          split at hl
          · exact ⟨_, rfl⟩
          · cases hl
        obtain ⟨a, rfl⟩ := hp
        obtain ⟨b, K, hr, hsp, rfl⟩ := hx.ptr_inv
        obtain ⟨l, h, m, h1, h2⟩ := sliceArr_ok (P := P) (e := e) hx hlo hhi hmx (by simpa using hs) hl w
        exact ⟨_, by simp [Instr.sliceAt, run_und hu, Instr.slice, asAddr, run_und hu2, h1, run_size hi'], h2⟩
      · cases hl
    · cases hl
  · cases hl
end
end Go.PG

namespace Go.PG
section
variable {P : Program} {base : Nat} {ρ : Ren} {H : Heap} {w : World}

/-! ### Conversions -/
theorem bytes_run {B : Value → ByteArray → Sem (ForInStep ByteArray)} (hB : ∀ (n : Int) (s : ByteArray) (w : World), (B (.int .u8 n) s).run P w = .ok (.yield (s.push (UInt8.ofNat n.toNat))) w) (l : List Value) :
    ∀ (bs : List UInt8), rowBytes l = some bs → ∀ (s : ByteArray) (w : World), (forIn l s B).run P w = .ok ⟨s.data ++ bs.toArray⟩ w := by
  induction l with
  | nil => intro bs h s w; cases h; simp
  | cons c l ih =>
    intro bs h s w
    unfold rowBytes at h
    split at h
    · rename_i h0; cases h0
    · rename_i n vs h0
      cases h0
      obtain ⟨bs', hb, rfl⟩ := Option.map_eq_some_iff.1 h
      rw [List.forIn_cons]
      simp only [Sem.run_bind, hB, Result.andThen_ok]
      rw [ih bs' hb]
      congr 2
      apply Array.ext'
      simp [ByteArray.push]
    · cases h
theorem rowBytes_rel {c c' : Array Value} {bs : List UInt8} (h : ARel ρ c c') (hb : rowBytes c.toList = some bs) : c' = c := by
  have key : ∀ (l : List Value) (bs : List UInt8), rowBytes l = some bs → ∀ v, v ∈ l → ∃ n, v = .int .u8 n := by
    intro l
    induction l with
    | nil => intro bs _ v hv; cases hv
    | cons x l ih =>
      intro bs hb v hv
      unfold rowBytes at hb
      split at hb
      · rename_i h0; cases h0
      · rename_i n vs h0
        cases h0
        obtain ⟨bs', hb', _⟩ := Option.map_eq_some_iff.1 hb
        rcases List.mem_cons.1 hv with rfl | hv
        · exact ⟨n, rfl⟩
        · exact ih bs' hb' v hv
      · cases hb
  apply Array.ext h.1.symm
  intro i h1 h2
  have := h.2 i
  simp only [Array.getD_eq_getD_getElem?, Array.getElem?_eq_getElem h1, Array.getElem?_eq_getElem h2, Option.getD_some] at this
  obtain ⟨n, hn⟩ := key _ bs hb c[i] (by simp)
  rw [hn] at this ⊢
  exact this.int_inv
theorem toStr_ok (h : Rel P base ρ H w) {x x' v : Value} (hx : VRel ρ x x') (hl : convBS x H = some v) : (Conv.bytesToString x').run P w = .ok v w ∧ flat v = true := by
  unfold convBS at hl
  split at hl
  · cases hl
    cases hx
    exact ⟨rfl, rfl⟩
  · rename_i a len cap
    obtain ⟨c, hc, hl⟩ := Option.bind_eq_some_iff.1 hl
    obtain ⟨bs, hb, rfl⟩ := Option.map_eq_some_iff.1 hl
    obtain ⟨a', cap', rfl, _, h0⟩ := hx.slice_inv
    have run : (loadCells a' len).run P w = .ok c w := by
      by_cases hz : len = 0
      · subst hz
        have : c = #[] := by simpa [Heap.ldN] using hc.symm
        subst this; rfl
      · obtain ⟨b, K, hr, hsp, rfl⟩ := h0.resolve_left hz
        obtain ⟨c', h1, h2⟩ := h.ldN (P := P) hc hr
        rw [rowBytes_rel h2 hb] at h1; exact h1
    refine ⟨?_, rfl⟩
    simp only [Conv.bytesToString, Sem.run_bind, run, Result.andThen_ok]
    rw [← Array.forIn_toList]
    rw [bytes_run (fun n s w => rfl) c.toList bs hb]
    simp only [Result.andThen_ok, Sem.run_pure]
    congr 2
    show (ByteArray.mk (#[] ++ bs.toArray)) = _
    simp
  · cases hl
theorem byteRow_get (s : ByteArray) (j : Nat) (h : j < s.size) : (byteRow s).getD j undef = .int .u8 (s.data[j]'h).toNat := by
  have hj : j < s.data.size := h
  rw [Array.getD_eq_getD_getElem?, byteRow, Array.getElem?_map, Array.getElem?_eq_getElem hj]; rfl
theorem byteRow_size (s : ByteArray) : (byteRow s).size = s.size := by rw [byteRow, Array.size_map]; rfl
theorem byteRow_flat (s : ByteArray) : (byteRow s).all flat = true := by
  rw [byteRow, Array.all_map, Array.all_eq_true]
  intro i hi; rfl
theorem toBytes_ok (h : Rel P base ρ H w) (hf : ρ H.next = none) {e : TypeId} {i : TypeInfo} (hi : P.info? e = some i) (h1 : i.size = 1) {x x' : Value} {r : Value × Heap} (hx : VRel ρ x x') (hl : convSB e x H = some r) :
    ∃ s, x' = .string s ∧ RunsTo P (Conv.stringToBytes e s) w (Good P base ρ H w r.1 r.2) := by
  unfold convSB at hl
  split at hl
  · rename_i s
    rw [hx.string_inv]
    split at hl
    · rename_i hs
      cases hl
      refine ⟨s, rfl, ?_⟩
      -- the capacity that is drawn
      obtain ⟨cap, hcap⟩ : ∃ cap, cap = Question.cut (.appendCap s.size 0 e) (w.tape w.drawn (.appendCap s.size 0 e)) := ⟨_, rfl⟩
      have hle : s.size ≤ cap := by rw [hcap]; simp only [Question.cut]; omega
      let c' : Array Value := (s.data.map fun b => .int .u8 b.toNat) ++ Array.replicate (cap - s.size) (.int .u8 0)
      have hc' : c'.size = cap := by simp only [c', Array.size_append, Array.size_map, Array.size_replicate]; show s.size + _ = _; omega
      let w1 : World := withRow { w with drawn := w.drawn + 1 } c' e
      let w' : World := w1.freeze ⟨w.heap.size, c'.size, none⟩ 1
      have hat1 : w1.heap[w.heap.size]? = some (.cells c' e (0, 0)) := withRow_at (w := { w with drawn := w.drawn + 1 }) c' e
      have hat : w'.heap[w.heap.size]? = some (.cells c' e (c'.size, c'.size + 1)) := by
        simp [w', World.freeze, Array.getElem?_modify, hat1]
      refine .ok (v' := .slice (some ⟨w.heap.size, 0, none⟩) s.size cap) (w' := w') ?_ ⟨ext1 ρ H.next w.heap.size cap, .sliceU _ ext1_at hle hs, ?_⟩
      · simp only [Conv.stringToBytes, Sem.run_bind, run_choose, Question.forced, Bool.false_eq_true, if_false, Result.andThen_ok, ← hcap, run_newRow]
        have hsh : w1.shape? w.heap.size = some (e, c'.size) := by simp only [World.shape?, hat1]
        simp only [markStringish, Sem.run_bind, run_shape]
        rw [show (withRow { w with drawn := w.drawn + 1 } (Array.map (fun b => Value.int IntKind.u8 ↑b.toNat) s.data ++ Array.replicate (cap - s.size) (Value.int IntKind.u8 0)) e) = w1 from rfl]
        rw [hsh]
        simp only [Result.andThen_ok, run_freeze, Sem.run_pure]
        rfl
      · refine Post.grow' (fr := (c'.size, c'.size + 1)) h hf hi (by rw [h1, hc', Nat.mul_one]) (by rw [byteRow_size]; omega) ?_ ⟨rfl, rfl, rfl⟩ ?_ ?_ hat ?_
        · intro j hj
          rw [byteRow_size] at hj
          have hj2 : j < s.data.size := hj
          rw [byteRow_get s j hj]
          have : c'.getD j undef = .int .u8 (s.data[j]'hj2).toNat := by
            simp only [c']
            rw [Array.getD_eq_getD_getElem?, Array.getElem?_append_left (by simpa using hj2), Array.getElem?_map, Array.getElem?_eq_getElem hj2]; rfl
          rw [this]; exact .int _ _
        · simp [w', w1, World.freeze, withRow]
        · intro k hk
          have : w'.heap[k]? = w1.heap[k]? := by
            simp only [w', World.freeze]
            rw [if_neg (by omega)]
            simp only [Array.getElem?_modify]
            rw [if_neg (by omega)]
          rw [this]
          exact withRow_old (w := { w with drawn := w.drawn + 1 }) c' e hk
        · intro i hi h; simp only at h; omega
    · cases hl
  · cases hl
theorem convert_ok (h : Rel P base ρ H w) {s d : TypeId} {x x' : Value} {r : Value × Heap} (hx : VRel ρ x x') (hinfo : ∀ i, P.underlying (sliceElem P d) = some (.int .u8) → P.info? (sliceElem P d) = some i → i.size = 1)
    (hex : P.underlying (sliceElem P d) = some (.int .u8) → ∃ i, P.info? (sliceElem P d) = some i) (hl : pConvert P s d x H = some r) (hf0 : H.next < r.2.next → ρ H.next = none) : RunsTo P (convert s d x') w (Good P base ρ H w r.1 r.2) := by
  unfold pConvert at hl
  unfold ck at hl
  split at hl <;> (try (rename_i hck; split at hck <;> (try (split at hck)) <;> (try (cases hck; done))))
  all_goals first | (cases hl; done) | skip
  -- 1: int to int
  · rename_i k1 k2 h1 h2
    obtain ⟨v, hv, rfl⟩ := Option.map_eq_some_iff.1 hl
    unfold convI at hv
    split at hv
    · rename_i k n
      cases hv
      rw [hx.int_inv]
      refine .ok (w' := w) ?_ (Good.same h (.int _ _))
      simp [convert, run_und h1, run_und h2, Conv.intToInt, ik, h2]
    · cases hv
  · rename_i h1 h2
    obtain ⟨v, hv, rfl⟩ := Option.map_eq_some_iff.1 hl
    unfold convSS at hv
    split at hv
    · cases hv
      rw [hx.string_inv]
      exact .ok (w' := w) (by simp [convert, run_und h1, run_und h2]) (Good.same h (.string _))
    · cases hv
  · rename_i e h1 h2 _ h3
    have he : sliceElem P d = e := by simp [sliceElem, h2]
    rw [he] at hl hinfo hex
    obtain ⟨i, hi⟩ := hex h3
    have hf : ρ H.next = none := hf0 (by
      unfold convSB at hl
      split at hl
      · split at hl
        · cases hl; simp [Heap.new]
        · cases hl
      · cases hl)
    obtain ⟨s, rfl, v', w', h4, h5⟩ := toBytes_ok h hf hi (hinfo i h3 hi) hx hl
    exact .ok (by simp [convert, run_und h1, run_und h2, run_und h3, h4]) h5
  · rename_i e h1 h2 _ h3
    obtain ⟨v, hv, rfl⟩ := Option.map_eq_some_iff.1 hl
    obtain ⟨h4, h5⟩ := toStr_ok h hx hv
    refine .ok (v' := v) (w' := w) ?_ (Good.same h (.flat h5))
    have hsl : ∃ a n c, x' = .slice a n c := by
      unfold convBS at hv
      split at hv
      · cases hx; exact ⟨_, _, _, rfl⟩
      · obtain ⟨a', cap', rfl, _⟩ := hx.slice_inv; exact ⟨_, _, _, rfl⟩
      · cases hv
    obtain ⟨a, n, c, rfl⟩ := hsl
    simp only [convert, Sem.run_bind, run_und h1, run_und h2, Result.andThen_ok, run_und h3]
    exact h4
  · rename_i k h1 h2
    obtain ⟨v, hv, rfl⟩ := Option.map_eq_some_iff.1 hl
    unfold convIS at hv
    split at hv
    · cases hv
      rw [hx.int_inv]
      exact .ok (w' := w) (by simp [convert, run_und h1, run_und h2, Conv.intToString]) (Good.same h (.string _))
    · cases hv

/-! ### Interfaces, tuples -/
theorem iface_ok {t : TypeId} {x x' v : Value} (hx : VRel ρ x x') (hl : pIface P t x = some v) (w : World) : ∃ v', (Instr.makeInterface t x').run P w = .ok v' w ∧ VRel ρ v v' := by
  unfold pIface at hl
  split at hl
  · cases hl
  · rename_i d hn hd
    cases hl
    refine ⟨.iface t x', ?_, .iface t hx⟩
    simp only [Instr.makeInterface, Sem.run_bind, run_und hd, Result.andThen_ok]
    cases d <;> first | rfl | exact (hn _ hd).elim
  · cases hl
theorem pair_rel {a a' b b' : Value} (h : VRel ρ a a') (k : VRel ρ b b') : VRel ρ (.tuple #[a, b]) (.tuple #[a', b']) :=
  .tuple rfl fun i hi => by
    match i, hi with
    | 0, _ => exact h
    | 1, _ => exact k
theorem assert_ok {xt a : TypeId} {ok : Bool} {x x' v : Value} (hx : VRel ρ x x') (hl : pAssert P x a ok = some v) (w : World) : ∃ v', (Instr.typeAssert x' xt a ok).run P w = .ok v' w ∧ VRel ρ v v' := by
  unfold pAssert at hl
  split at hl
  · rename_i want hu
    split at hl
    · rename_i t u
      split at hl
      · rename_i i hi
        split at hl
        · rename_i hm
          cases hl
          cases hx with
          | iface t hx =>
            rename_i u'
            refine ⟨if ok then .tuple #[.iface t u', .bool true] else .iface t u', ?_, ?_⟩
            · simp only [Instr.typeAssert, Sem.run_bind, run_und hu, Result.andThen_ok, run_info hi, hm]
              cases ok <;> rfl
            · cases ok
              · exact .iface t hx
              · exact pair_rel (.iface t hx) (.bool true)
        · cases hl
      · cases hl
    · cases hl
  · rename_i d hn hu
    split at hl
    · rename_i z hz
      unfold assertC at hl
      obtain ⟨i0, hi0, _, hfl, hsz⟩ := zero_spec hz
      have hzr : VRel ρ z z := by
        by_cases ht : ∃ l, z = .agg l
        · obtain ⟨l, rfl⟩ := ht; exact .agg' (.flat hfl)
        · have : z.cells = #[z] := by cases z <;> first | rfl | exact absurd ⟨_, rfl⟩ ht
          rw [this] at hfl
          exact .flat (by simpa using hfl)
      have nofail : ∀ {T}, d = .interface T → False := fun e => hn _ (by rw [← e])
      split at hl
      · cases hx
        split at hl
        · cases hl
          refine ⟨.tuple #[z, .bool false], ?_, pair_rel hzr (.bool false)⟩
          subst_vars
          simp only [Instr.typeAssert, Sem.run_bind, run_und hu, Result.andThen_ok]
          cases d <;> first | exact (nofail rfl).elim | simp [*, run_zero hz]
        · cases hl
      · rename_i t u
        cases hx with
        | iface t hx =>
          rename_i u'
          split at hl
          · rename_i he; subst he
            cases hl
            refine ⟨if ok then .tuple #[u', .bool true] else u', ?_, ?_⟩
            · simp only [Instr.typeAssert, Sem.run_bind, run_und hu, Result.andThen_ok]
              cases d <;> first | exact (nofail rfl).elim | (cases ok <;> simp)
            · cases ok
              · exact hx
              · exact pair_rel hx (.bool true)
          · rename_i he
            split at hl
            · cases hl
              refine ⟨.tuple #[z, .bool false], ?_, pair_rel hzr (.bool false)⟩
              simp only [Instr.typeAssert, Sem.run_bind, run_und hu, Result.andThen_ok]
              cases d <;> first | exact (nofail rfl).elim | simp [*, run_zero hz]
            · cases hl
      · cases hl
    · cases hl
  · cases hl
theorem extract_ok {x x' v : Value} {i : Nat} (hx : VRel ρ x x') (hl : pExtract x i = some v) (w : World) : ∃ v', (Instr.extract x' i).run P w = .ok v' w ∧ VRel ρ v v' := by
  unfold pExtract at hl
  split at hl
  · cases hx with
    | tuple hs h =>
      rename_i vs ys
      have hi : i < vs.size := (Array.getElem?_eq_some_iff.1 hl).1
      have := h i hi
      rw [show vs.getD i undef = v from by rw [getD_in hi] at hl; exact Option.some.inj hl] at this
      exact ⟨_, by simp only [Instr.extract]; rw [getD_in (hs ▸ hi)]; rfl, this⟩
  · cases hl

/-! ### Ranges over strings -/
theorem range_ok (h : Rel P base ρ H w) (hf : ρ H.next = none) {t : TypeId} {x x' : Value} {r : Value × Heap} (hx : VRel ρ x x') (hl : pRange P t x H = some r) : RunsTo P (Instr.range t x') w (Good P base ρ H w r.1 r.2) := by
  unfold pRange at hl
  split at hl
  · rename_i hu
    split at hl
    · rename_i s
      cases hl
      rw [hx.string_inv]
      refine .ok (v' := .pointer (some ⟨w.heap.size, 0, none⟩)) (w' := { w with heap := w.heap.push (.stringIter s 0) }) ?_ ⟨ext1 ρ H.next w.heap.size 0, .ptr 0 ext1_at, ?_⟩
      · simp [Instr.range, run_und hu]
      · exact Post.new h hf ⟨rfl, rfl, rfl⟩ (by simp) (fun k hk => by simp only [Array.getElem?_push]; rw [if_neg (Nat.ne_of_lt hk)])
          ⟨w.heap.size, 0, by simp, by simp only [Array.getElem?_push, if_true]⟩
    · cases hl
  · cases hl
theorem trip_rel {a a' b b' c c' : Value} (h : VRel ρ a a') (k : VRel ρ b b') (m : VRel ρ c c') : VRel ρ (.tuple #[a, b, c]) (.tuple #[a', b', c']) :=
  .tuple rfl fun i hi => by
    match i, hi with
    | 0, _ => exact h
    | 1, _ => exact k
    | 2, _ => exact m
theorem next_ok (h : Rel P base ρ H w) {x x' : Value} {s : Bool} {ty : TypeId} {r : Value × Heap} (hx : VRel ρ x x') (hl : pNext x s H = some r) : RunsTo P (Instr.next x' s ty) w (Good P base ρ H w r.1 r.2) := by
  unfold pNext at hl
  split at hl
  · rename_i a
    split at hl
    · rename_i hc
      obtain ⟨h0, rfl, hfl⟩ := hc
      split at hl
      · rename_i s pos hb
        obtain ⟨b, K, hr, hsp, rfl⟩ := hx.ptr_inv
        obtain ⟨b', K', h1, h2⟩ := h.blk _ _ hb
        rw [h1] at hr; cases hr
        have hg : (getObj b).run P w = .ok (.stringIter s pos) w := by simp [getObj, Sem.run, h2]
        rw [h0]
        split at hl
        · rename_i hp
          cases hl
          let w' : World := { w with heap := w.heap.setIfInBounds b (.stringIter s (pos + (Utf8.decode s pos).2)) }
          have hbs : b < w.heap.size := (Array.getElem?_eq_some_iff.1 h2).1
          refine .ok (v' := .tuple #[.bool true, .int .i64 pos, .int .i32 (Utf8.decode s pos).1]) (w' := w') ?_ ⟨ρ, trip_rel (.bool _) (.int _ _) (.int _ _), ?_⟩
          · have hset : (setObj b (.stringIter s (pos + (Utf8.decode s pos).2))).run P w = .ok () w' := by simp [setObj, Sem.run, h2, w']
            simp only [Instr.next, Sem.run_bind, hg, Result.andThen_ok]
            rw [if_pos hp]
            simp only [Sem.run_bind, hset, Result.andThen_ok, Sem.run_pure]
            rfl
          · refine Post.write h hb hfl h1 ⟨rfl, rfl, rfl⟩ (by simp [w']) (fun k hk => by simp [w', Ne.symm hk]) ⟨b, K, h1, ?_⟩
            simp [w', hbs]
        · rename_i hp
          cases hl
          refine .ok (w' := w) ?_ (Good.same h (.tuple rfl fun i hi => by
            match i, hi with
            | 0, _ => exact .bool false))
          simp only [Instr.next, Sem.run_bind, hg, Result.andThen_ok]
          rw [if_neg hp]
          rfl
      · cases hl
    · cases hl
  · cases hl
end
end Go.PG
