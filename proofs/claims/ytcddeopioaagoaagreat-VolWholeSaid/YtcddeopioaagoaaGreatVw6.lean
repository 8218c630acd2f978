/- Part 6 of the lemmas behind RowVolWhole: SpStep, PgZ, PgArgs, SpVolP, SpWhole, Pf101, Pf102, SpNums, LawWhole, LawWhole2. No condition beyond those that each lemma names. -/
import Derived.Test.YtcddeopioaagoaaGreatVw5
import Derived.Below
import Derived.Deep.Slices
import Derived.Test.YtcddeopioaagoaaGreatProg

set_option linter.unusedVariables false
set_option linter.unusedSimpArgs false
set_option linter.unusedSectionVars false
namespace Go.PG
open Go.Proofs

def nameT : List (List UInt8) := [[97], [98], [195, 169], [108, 111, 110, 103, 32, 110, 97, 109, 101], [115, 105, 120, 116, 101, 101, 110, 45, 98, 121, 116, 101, 115, 45, 120, 120], [115, 101, 118, 101, 110, 116, 101, 101, 110, 45, 98, 121, 116, 101, 115, 45, 120], [], [99], [100], [101]]
def nameB (n : Int) : List UInt8 := nameT.getD (n.emod 8).toNat []
theorem and7 (n : Int) : binI .and (.int .i64 n) (.int .i64 7) = some (.int .i64 (((n.emod 8).toNat : Nat) : Int)) := by
  have h0 : 0 ≤ n.emod 8 := Int.emod_nonneg _ (by decide)
  have h8 : n.emod 8 < 8 := Int.emod_lt_of_pos _ (by decide)
  simp only [binI, if_true]
  have e1 : (BitVec.ofInt IntKind.i64.bits n &&& BitVec.ofInt IntKind.i64.bits 7).toNat = (n.emod 8).toNat := by
    rw [BitVec.toNat_and]
    have e7 : (BitVec.ofInt IntKind.i64.bits 7).toNat = 2 ^ 3 - 1 := by decide
    rw [e7, Nat.and_two_pow_sub_one_eq_mod, BitVec.toNat_ofInt]
    have : ((n % ((2 ^ IntKind.i64.bits : Nat) : Int)).toNat : Int) % 8 = n % 8 := by
      have hb : ((2 ^ IntKind.i64.bits : Nat) : Int) = 18446744073709551616 := by decide
      rw [hb]
      omega
    have h2 : n.emod 8 = n % 8 := rfl
    rw [h2]
    omega
  rw [e1, wrap64 (by omega) (by omega)]
theorem names_build (H : Heap) : pBuildSlice Tryz.prog 55 10 [(0, str [97]), (1, str [98]), (2, str [195, 169]), (3, str [108, 111, 110, 103, 32, 110, 97, 109, 101]), (4, str [115, 105, 120, 116, 101, 101, 110, 45, 98, 121, 116, 101, 115, 45, 120, 120]), (5, str [115, 101, 118, 101, 110, 116, 101, 101, 110, 45, 98, 121, 116, 101, 115, 45, 120]), (6, str []), (7, str [99]), (8, str [100]), (9, str [101])] H = some (.slice (some ⟨H.next, 0, none⟩) 10 10, H.new (.cells (nameT.map str).toArray 9)) := by kernel_rfl
theorem name_run {k : Nat} (hk : 2 ≤ k) (n : Int) (H : Heap) : run Tryz.prog k 53 #[.int .i64 n] H = some (str (nameB n), H.new (.cells (nameT.map str).toArray 9)) := by
  obtain ⟨k, rfl⟩ : ∃ k', k = k' + 1 := ⟨k - 1, by omega⟩
  have h8 : (n.emod 8).toNat < 8 := by
    have h0 : 0 ≤ n.emod 8 := Int.emod_nonneg _ (by decide)
    have h8 : n.emod 8 < 8 := Int.emod_lt_of_pos _ (by decide)
    omega
  have hg : get1 (0 + (n.emod 8).toNat) (.cells (nameT.map str).toArray 9) = some (str (nameB n)) := by
    rw [get1_row (row_cells _ _), Nat.zero_add]
    simp only [nameB, List.getElem?_toArray, List.getElem?_map]
    rw [List.getD_eq_getElem?_getD]
    have hlt : (n.emod 8).toNat < nameT.length := by have : nameT.length = 10 := rfl; omega
    rw [List.getElem?_eq_getElem hlt]; rfl
  rw [Nat.zero_add] at hg
  rw [run53, F53]
  simp (disch := first | omega | assumption | (simp only [Yg, Yh, Yi, Yj] <;> omega) | (simp only [Qk, Ql, Qm, Qn, Qo, Qp, Bool.and_self]) | rfl) only [↓Z0, Z1, ↓Z2, ↓Z3, ↓Z4, ↓Z5, ↓Z6, Z7, ↓Z8, ↓Z9, ↓Za, ↓Zb, Zc, ↓Zd, Ze, Zf, decide_true, decide_false, Zg, Zh, Zi, Zj, Zk, Zl, Zm, Zn, Zo, Zp, Zq, Zr, Zs, Zt, Zu, Zv, Zw, Zx, Zy, Zz, Y0, Y1, Y2, Y3, Y4, Y5, Y6, Y7, Y8, Y9, Ya, Yb, Yc, Yd, Ye, Yf, Yg, Yh, Yi, Yj, Yk, Yl, Ym, Yn, Yo, Yp, Yq, Yr, Ys, Yt, Yu, Yv, Nat.zero_add, Nat.add_zero, ne_eq, not_false_eq_true, reduceCtorEq, Nat.reduceAdd, Nat.reduceEqDiff, Nat.succ_ne_self, Yw, Yx, Yy, Yz, Q0, Q1, ↓Q2, Q3, Q4, Q5, Q6, Q7, Q8, Q9, Qa, Qb, Qc, Qd, Qe, Qf, Qg, Qh, Qi, Qj, names_build, and7, hg]
theorem nameB_len (n : Int) : (nameB n).length ≤ 17 := by
  have h8 : (n.emod 8).toNat < 8 := by
    have h0 : 0 ≤ n.emod 8 := Int.emod_nonneg _ (by decide)
    have h8 : n.emod 8 < 8 := Int.emod_lt_of_pos _ (by decide)
    omega
  have : ∀ i, i < 8 → (nameT.getD i []).length ≤ 17 := by decide
  exact this _ h8
structure ActP where
  op : Int
  a : Int
  b : Int
  pos : Int
  n : Int
  data : List UInt8
def actC (x : ActP) : List Value := [.int .i64 x.op, .int .i64 x.a, .int .i64 x.b, .int .i64 x.pos, .int .i64 x.n, str x.data]
def actV (x : ActP) : Value := .agg #[.int .i64 x.op, .int .i64 x.a, .int .i64 x.b, .int .i64 x.pos, .int .i64 x.n, str x.data]
/-- What was read, and the error. -/
abbrev Ans := List UInt8 × Int
def ansV (r : Ans) : Value := .tuple #[str r.1, .int .i64 r.2]
def readA (cap : Nat) (es : List Ent) (t nm : List UInt8) (a n : Int) : Ans :=
  if (placeP es nm a n).2 = 0 then (if isRight cap (placeP es nm a n).1 n then (rdB t (placeP es nm a n).1.toNat n.toNat, 0) else ([], 1)) else ([], (placeP es nm a n).2)
theorem readA_eq (cap : Nat) (es : List Ent) (t nm : List UInt8) (a n : Int) : readP cap es t nm a n = ansV (readA cap es t nm a n) := by
  simp only [readP, readA, rdI]
  split
  · split <;> rfl
  · rfl
def writeA (cap : Nat) (es : List Ent) (t nm : List UInt8) (a n : Int) (b : List UInt8) : Int × List UInt8 :=
  if (placeP es nm a n).2 = 0 then ((if isRight cap (placeP es nm a n).1 n then 0 else 1), wrI cap t (placeP es nm a n).1 n b) else ((placeP es nm a n).2, t)
theorem writeA_eq (cap : Nat) (es : List Ent) (t nm : List UInt8) (a n : Int) (b : List UInt8) : writeP cap es t nm a n b = (.int .i64 (writeA cap es t nm a n b).1, (writeA cap es t nm a n b).2) := by
  simp only [writeP, writeA, okI]
  split <;> rfl
def stepP (cap : Nat) (es : List Ent) (t : List UInt8) (x : ActP) : Ans × List Ent × List UInt8 :=
  if x.op = 0 then (([], (createP cap es t (nameB x.a) x.n).1), (createP cap es t (nameB x.a) x.n).2)
  else if x.op = 1 then (([], (deleteP es t (nameB x.a)).1), (deleteP es t (nameB x.a)).2)
  else if x.op = 2 then (([], (renameP es t (nameB x.a) (nameB x.b)).1), (renameP es t (nameB x.a) (nameB x.b)).2)
  else if x.op = 3 then (([], (cloneP cap es t (nameB x.a) (nameB x.b)).1), (cloneP cap es t (nameB x.a) (nameB x.b)).2)
  else if x.op = 4 then (([], (writeA cap es t (nameB x.a) x.pos x.n x.data).1), es, (writeA cap es t (nameB x.a) x.pos x.n x.data).2)
  else if x.op = 5 then (readA cap es t (nameB x.a) x.pos x.n, es, t)
  else (([], 0), es, t)
theorem inv_step {cap : Nat} (hc : cap ≤ 1000) {es : List Ent} (h : InvE cap es) (t : List UInt8) (x : ActP) : InvE cap (stepP cap es t x).2.1 := by
  simp only [stepP]
  repeat' split
  · exact inv_create hc h t _ _
  · exact inv_delete h t _
  · exact inv_rename h t _ _
  · exact inv_clone hc h t _ _
  · exact h
  · exact h
  · exact h
section
variable {K : Nat} {d : Value} {cap : Nat} {D : DiskP} {s : Nat} {es : List Ent} {t : List UInt8} {F : Nat → Prop} {H : Heap}
theorem step_run (hd : DiskOk K d cap D) (hc : 8 < cap) {k : Nat} (hk : K + 1300 ≤ k) (h : Sys d cap D s es t F H) (hi : InvE cap es) (x : ActP) :
    ∃ F' H', run Tryz.prog k 20 #[.pointer (some ⟨s, 0, none⟩), actV x] H = some (ansV (stepP cap es t x).1, H') ∧ Sys d cap D s (stepP cap es t x).2.1 (stepP cap es t x).2.2 F' H' ∧ Foot (orS s F) (orS s F') H H' := by
  obtain ⟨k, rfl⟩ : ∃ k', k = k' + 1 := ⟨k - 1, by omega⟩
  have hw := hi.wf
  have hbox : pBox 38 (actV x) H = some (.pointer (some ⟨H.next, 0, none⟩), H.new (.cells #[.int .i64 x.op, .int .i64 x.a, .int .i64 x.b, .int .i64 x.pos, .int .i64 x.n, str x.data] 38)) := rfl
  generalize hA : H.new (.cells #[.int .i64 x.op, .int .i64 x.a, .int .i64 x.b, .int .i64 x.pos, .int .i64 x.n, str x.data] 38) = A at hbox
  have gA : Grow H A := by rw [← hA]; exact (Grow.refl H).new _
  have nA : A.next = H.next + 1 := by rw [← hA]; rfl
  have bA : A.blk H.next = some (.cells #[.int .i64 x.op, .int .i64 x.a, .int .i64 x.b, .int .i64 x.pos, .int .i64 x.n, str x.data] 38) := by rw [← hA, Y9]
  have sA := h.grow hd gA
  have nm1 : ∀ (n : Int) (B : Heap), run Tryz.prog k 53 #[.int .i64 n] B = some (str (nameB n), B.new (.cells (nameT.map str).toArray 9)) := fun n B => name_run (by omega) n B
  have la := nameB_len x.a
  have lb := nameB_len x.b
  have gB : Grow A (A.new (.cells (nameT.map str).toArray 9)) := (Grow.refl A).new _
  have sB := sA.grow hd gB
  have gC : Grow A ((A.new (.cells (nameT.map str).toArray 9)).new (.cells (nameT.map str).toArray 9)) := gB.new _
  have sC := sA.grow hd gC
  have q : ∀ (b : Blk), (((A.atFloor A.next).new b).atFloor A.floor) = A.new b := fun b => rfl
  rw [run20, F20, hbox]
  simp only [stepP]
  by_cases h0 : x.op = 0
  · obtain ⟨F', H', e, s', f⟩ := create_run hd hc (k := k) (by omega) sB hw (nameB x.a) x.n (by omega) (by omega)
    simp (disch := first | omega | assumption | (simp only [Yg, Yh, Yi, Yj] <;> omega) | (simp only [Qk, Ql, Qm, Qn, Qo, Qp, Bool.and_self]) | rfl) only [↓Z0, Z1, ↓Z2, ↓Z3, ↓Z4, ↓Z5, ↓Z6, Z7, ↓Z8, ↓Z9, ↓Za, ↓Zb, Zc, ↓Zd, Ze, Zf, decide_true, decide_false, Zg, Zh, Zi, Zj, Zk, Zl, Zm, Zn, Zo, Zp, Zq, Zr, Zs, Zt, Zu, Zv, Zw, Zx, Zy, Zz, Y0, Y1, Y2, Y3, Y4, Y5, Y6, Y7, Y8, Y9, Ya, Yb, Yc, Yd, Ye, Yf, Yg, Yh, Yi, Yj, Yk, Yl, Ym, Yn, Yo, Yp, Yq, Yr, Ys, Yt, Yu, Yv, Nat.zero_add, Nat.add_zero, ne_eq, not_false_eq_true, reduceCtorEq, Nat.reduceAdd, Nat.reduceEqDiff, Nat.succ_ne_self, Yw, Yx, Yy, Yz, Q0, Q1, ↓Q2, Q3, Q4, Q5, Q6, Q7, Q8, Q9, Qa, Qb, Qc, Qd, Qe, Qf, Qg, Qh, Qi, Qj, bA, h0, nm1, q, e]
    exact ⟨F', H', rfl, s', (Foot.of_grow (gA.trans gB)).trans f⟩
  · by_cases h1 : x.op = 1
    · obtain ⟨F', H', e, s', f⟩ := delete_run hd hc (k := k) (by omega) sB (nameB x.a)
      simp (disch := first | omega | assumption | (simp only [Yg, Yh, Yi, Yj] <;> omega) | (simp only [Qk, Ql, Qm, Qn, Qo, Qp, Bool.and_self]) | rfl) only [↓Z0, Z1, ↓Z2, ↓Z3, ↓Z4, ↓Z5, ↓Z6, Z7, ↓Z8, ↓Z9, ↓Za, ↓Zb, Zc, ↓Zd, Ze, Zf, decide_true, decide_false, Zg, Zh, Zi, Zj, Zk, Zl, Zm, Zn, Zo, Zp, Zq, Zr, Zs, Zt, Zu, Zv, Zw, Zx, Zy, Zz, Y0, Y1, Y2, Y3, Y4, Y5, Y6, Y7, Y8, Y9, Ya, Yb, Yc, Yd, Ye, Yf, Yg, Yh, Yi, Yj, Yk, Yl, Ym, Yn, Yo, Yp, Yq, Yr, Ys, Yt, Yu, Yv, Nat.zero_add, Nat.add_zero, ne_eq, not_false_eq_true, reduceCtorEq, Nat.reduceAdd, Nat.reduceEqDiff, Nat.succ_ne_self, Yw, Yx, Yy, Yz, Q0, Q1, ↓Q2, Q3, Q4, Q5, Q6, Q7, Q8, Q9, Qa, Qb, Qc, Qd, Qe, Qf, Qg, Qh, Qi, Qj, bA, h1, nm1, q, e]
      exact ⟨F', H', rfl, s', (Foot.of_grow (gA.trans gB)).trans f⟩
    · by_cases h2 : x.op = 2
      · obtain ⟨F', H', e, s', f⟩ := rename_run hd hc (k := k) (by omega) sC hw (nameB x.a) (nameB x.b) (by omega) (by omega)
        simp (disch := first | omega | assumption | (simp only [Yg, Yh, Yi, Yj] <;> omega) | (simp only [Qk, Ql, Qm, Qn, Qo, Qp, Bool.and_self]) | rfl) only [↓Z0, Z1, ↓Z2, ↓Z3, ↓Z4, ↓Z5, ↓Z6, Z7, ↓Z8, ↓Z9, ↓Za, ↓Zb, Zc, ↓Zd, Ze, Zf, decide_true, decide_false, Zg, Zh, Zi, Zj, Zk, Zl, Zm, Zn, Zo, Zp, Zq, Zr, Zs, Zt, Zu, Zv, Zw, Zx, Zy, Zz, Y0, Y1, Y2, Y3, Y4, Y5, Y6, Y7, Y8, Y9, Ya, Yb, Yc, Yd, Ye, Yf, Yg, Yh, Yi, Yj, Yk, Yl, Ym, Yn, Yo, Yp, Yq, Yr, Ys, Yt, Yu, Yv, Nat.zero_add, Nat.add_zero, ne_eq, not_false_eq_true, reduceCtorEq, Nat.reduceAdd, Nat.reduceEqDiff, Nat.succ_ne_self, Yw, Yx, Yy, Yz, Q0, Q1, ↓Q2, Q3, Q4, Q5, Q6, Q7, Q8, Q9, Qa, Qb, Qc, Qd, Qe, Qf, Qg, Qh, Qi, Qj, bA, h2, nm1, q, e]
        exact ⟨F', H', rfl, s', (Foot.of_grow (gA.trans gC)).trans f⟩
      · by_cases h3 : x.op = 3
        · obtain ⟨F', H', e, s', f⟩ := clone_run hd hc (k := k) (by omega) sC hw (nameB x.a) (nameB x.b) (by omega) (by omega)
          simp (disch := first | omega | assumption | (simp only [Yg, Yh, Yi, Yj] <;> omega) | (simp only [Qk, Ql, Qm, Qn, Qo, Qp, Bool.and_self]) | rfl) only [↓Z0, Z1, ↓Z2, ↓Z3, ↓Z4, ↓Z5, ↓Z6, Z7, ↓Z8, ↓Z9, ↓Za, ↓Zb, Zc, ↓Zd, Ze, Zf, decide_true, decide_false, Zg, Zh, Zi, Zj, Zk, Zl, Zm, Zn, Zo, Zp, Zq, Zr, Zs, Zt, Zu, Zv, Zw, Zx, Zy, Zz, Y0, Y1, Y2, Y3, Y4, Y5, Y6, Y7, Y8, Y9, Ya, Yb, Yc, Yd, Ye, Yf, Yg, Yh, Yi, Yj, Yk, Yl, Ym, Yn, Yo, Yp, Yq, Yr, Ys, Yt, Yu, Yv, Nat.zero_add, Nat.add_zero, ne_eq, not_false_eq_true, reduceCtorEq, Nat.reduceAdd, Nat.reduceEqDiff, Nat.succ_ne_self, Yw, Yx, Yy, Yz, Q0, Q1, ↓Q2, Q3, Q4, Q5, Q6, Q7, Q8, Q9, Qa, Qb, Qc, Qd, Qe, Qf, Qg, Qh, Qi, Qj, bA, h3, nm1, q, e]
          exact ⟨F', H', rfl, s', (Foot.of_grow (gA.trans gC)).trans f⟩
        · by_cases h4 : x.op = 4
          · obtain ⟨F', H', e, s', f⟩ := swrite_run hd (k := k) (by omega) sB hw (nameB x.a) x.pos x.n x.data
            rw [writeA_eq] at e s'
            simp (disch := first | omega | assumption | (simp only [Yg, Yh, Yi, Yj] <;> omega) | (simp only [Qk, Ql, Qm, Qn, Qo, Qp, Bool.and_self]) | rfl) only [↓Z0, Z1, ↓Z2, ↓Z3, ↓Z4, ↓Z5, ↓Z6, Z7, ↓Z8, ↓Z9, ↓Za, ↓Zb, Zc, ↓Zd, Ze, Zf, decide_true, decide_false, Zg, Zh, Zi, Zj, Zk, Zl, Zm, Zn, Zo, Zp, Zq, Zr, Zs, Zt, Zu, Zv, Zw, Zx, Zy, Zz, Y0, Y1, Y2, Y3, Y4, Y5, Y6, Y7, Y8, Y9, Ya, Yb, Yc, Yd, Ye, Yf, Yg, Yh, Yi, Yj, Yk, Yl, Ym, Yn, Yo, Yp, Yq, Yr, Ys, Yt, Yu, Yv, Nat.zero_add, Nat.add_zero, ne_eq, not_false_eq_true, reduceCtorEq, Nat.reduceAdd, Nat.reduceEqDiff, Nat.succ_ne_self, Yw, Yx, Yy, Yz, Q0, Q1, ↓Q2, Q3, Q4, Q5, Q6, Q7, Q8, Q9, Qa, Qb, Qc, Qd, Qe, Qf, Qg, Qh, Qi, Qj, bA, h4, nm1, q, e]
            exact ⟨F', H', rfl, s', (Foot.of_grow (gA.trans gB)).trans f⟩
          · by_cases h5 : x.op = 5
            · obtain ⟨F', H', e, s', f⟩ := sread_run hd (k := k) (by omega) sB hw (nameB x.a) x.pos x.n
              rw [readA_eq, ansV] at e
              simp (disch := first | omega | assumption | (simp only [Yg, Yh, Yi, Yj] <;> omega) | (simp only [Qk, Ql, Qm, Qn, Qo, Qp, Bool.and_self]) | rfl) only [↓Z0, Z1, ↓Z2, ↓Z3, ↓Z4, ↓Z5, ↓Z6, Z7, ↓Z8, ↓Z9, ↓Za, ↓Zb, Zc, ↓Zd, Ze, Zf, decide_true, decide_false, Zg, Zh, Zi, Zj, Zk, Zl, Zm, Zn, Zo, Zp, Zq, Zr, Zs, Zt, Zu, Zv, Zw, Zx, Zy, Zz, Y0, Y1, Y2, Y3, Y4, Y5, Y6, Y7, Y8, Y9, Ya, Yb, Yc, Yd, Ye, Yf, Yg, Yh, Yi, Yj, Yk, Yl, Ym, Yn, Yo, Yp, Yq, Yr, Ys, Yt, Yu, Yv, Nat.zero_add, Nat.add_zero, ne_eq, not_false_eq_true, reduceCtorEq, Nat.reduceAdd, Nat.reduceEqDiff, Nat.succ_ne_self, Yw, Yx, Yy, Yz, Q0, Q1, ↓Q2, Q3, Q4, Q5, Q6, Q7, Q8, Q9, Qa, Qb, Qc, Qd, Qe, Qf, Qg, Qh, Qi, Qj, bA, h5, nm1, q, e]
              exact ⟨F', H', rfl, s', (Foot.of_grow (gA.trans gB)).trans f⟩
            · simp (disch := first | omega | assumption | (simp only [Yg, Yh, Yi, Yj] <;> omega) | (simp only [Qk, Ql, Qm, Qn, Qo, Qp, Bool.and_self]) | rfl) only [↓Z0, Z1, ↓Z2, ↓Z3, ↓Z4, ↓Z5, ↓Z6, Z7, ↓Z8, ↓Z9, ↓Za, ↓Zb, Zc, ↓Zd, Ze, Zf, decide_true, decide_false, Zg, Zh, Zi, Zj, Zk, Zl, Zm, Zn, Zo, Zp, Zq, Zr, Zs, Zt, Zu, Zv, Zw, Zx, Zy, Zz, Y0, Y1, Y2, Y3, Y4, Y5, Y6, Y7, Y8, Y9, Ya, Yb, Yc, Yd, Ye, Yf, Yg, Yh, Yi, Yj, Yk, Yl, Ym, Yn, Yo, Yp, Yq, Yr, Ys, Yt, Yu, Yv, Nat.zero_add, Nat.add_zero, ne_eq, not_false_eq_true, reduceCtorEq, Nat.reduceAdd, Nat.reduceEqDiff, Nat.succ_ne_self, Yw, Yx, Yy, Yz, Q0, Q1, ↓Q2, Q3, Q4, Q5, Q6, Q7, Q8, Q9, Qa, Qb, Qc, Qd, Qe, Qf, Qg, Qh, Qi, Qj, bA, h0, h1, h2, h3, h4, h5, if_false]
              exact ⟨F, A, rfl, sA, Foot.of_grow gA⟩
end
end Go.PG

namespace Go.PG
open Go.RowKit
section
variable {P : Program}

theorem calls_of_run {base k : Nat} (hs : CallOk P base (run P k)) {f : FuncId} {fn : Func} {c : Code} (hf : P.funcs[f]? = some fn) (hn : (fn.name == "runtime.NumGoroutine") = false) (hb : fn.body = some c) {args args' : Array Value} {H : Heap} {v : Value} {H' : Heap} {ρ : Ren} {w : World}
    (h : run P k f args H = some (v, H')) (hr : Rel P base ρ H w) (ha : ARel ρ args args') (hfr : ∀ n, H.next ≤ n → ρ n = none) :
    Calls P f args' w fun e w' => ∃ v', e = .returned v' ∧ Good P base ρ H w v H' v' w' := by
  have := hs f args args' H v H' ρ w h hr ha fun n h1 _ => hfr n h1
  have hn' : ¬ fn.name = "runtime.NumGoroutine" := by simpa using hn
  have he : (callFunc f args').run P w = .ok (.enter f args') w := by
    simp [callFunc, hf, hn', hb]
  unfold OpOk at this
  rw [he] at this
  exact this
/-- Nothing that came in may be written: all blocks that were are as they were. -/
theorem Post.below {base : Nat} {ρ ρ' : Ren} {H H' : Heap} {w w' : World} (h : Post P base ρ ρ' H H' w w') (hf : ∀ n, (H.blk n).isSome = true → n < H.floor) : Below w.heap.size w w' :=
  ⟨h.calm.os, h.calm.tape, h.calm.output, h.size, fun k hk => h.keep k hk fun n K hs hle => by have := hf n hs; omega⟩
/-- Nothing that came in lies in the heap. -/
def noHeap : Heap := ⟨fun _ => none, 0, 0⟩
theorem rel_none (w : World) : Rel P 0 (fun _ => none) noHeap w := ⟨fun n b hb => (by cases hb), fun n m b K K' hb => (by cases hb), fun n hn => (by cases hn), Nat.le_refl _, Nat.le_refl _⟩
/-- A law that takes values without blocks and returns true. -/
theorem law_flat {k : Nat} (hs : ∀ k, CallOk P 0 (run P k)) {f : FuncId} {fn : Func} {c : Code} (hf : P.funcs[f]? = some fn) (hn : (fn.name == "runtime.NumGoroutine") = false) (hb : fn.body = some c) {args : Array Value} {H' : Heap} {w : World}
    (h : run P k f args noHeap = some (.bool true, H')) (ha : ARel (fun _ => none) args args) : Calls P f args w fun e w' => e = .returned (.bool true) ∧ Below w.heap.size w w' :=
  (calls_of_run (hs k) hf hn hb h (rel_none w) ha fun _ _ => rfl).mono fun e w' ⟨v', he, ρ', hv, hp⟩ => by
    rw [hv.bool_inv] at he
    exact ⟨he, hp.below fun n hn => by cases hn⟩
end
end Go.PG

namespace Go.PG
open Go.RowKit Go.ChangeShapes Go.WideShapes Go.Deep

/-- A slice of records of the caller's: what may be read of it. -/
def WinAt {α : Type} (H : Heap) (v : Value) (n : Nat) (f : α → List Value) (l : List α) : Prop :=
  lenSl v = some (.int .i64 (l.length : Int)) ∧ ∀ i (hi : i < l.length), ∃ b o, idxSl n v (.int .i64 (i : Int)) = some (.pointer (some ⟨b, o, none⟩)) ∧ b < H.next ∧ (H.blk b).bind (getN n o) = some (.agg (f l[i]).toArray) ∧ ∀ j, j < n → (H.blk b).bind (get1 (o + j)) = (f l[i])[j]?
theorem WinAt.grow {α : Type} {H H' : Heap} {v : Value} {n : Nat} {f : α → List Value} {l : List α} (h : WinAt H v n f l) (g : Grow H H') : WinAt H' v n f l :=
  ⟨h.1, fun i hi => by
    obtain ⟨b, o, h1, h2, h3, h4⟩ := h.2 i hi
    refine ⟨b, o, h1, Nat.lt_of_lt_of_le h2 g.next, ?_, fun j hj => ?_⟩
    · rw [g.old b h2, h3]
    · rw [g.old b h2, h4 j hj]⟩
/-- Cells of a block from a place on. -/
abbrev Wnd := Nat × Array Value × Nat
def WinIn (w : World) (x : Wnd) : Prop := ∃ c' ty fr, w.heap[x.2.2]? = some (.cells c' ty fr) ∧ x.1 + x.2.1.size ≤ c'.size ∧ ∀ j, j < x.2.1.size → x.2.1.getD j undef = c'.getD (x.1 + j) undef ∧ flat (x.2.1.getD j undef) = true
def argHeap (ws : Nat → Option Wnd) (N : Nat) : Heap := ⟨fun n => if n < N then (ws n).map fun x => .win x.1 x.2.1 else none, N, N⟩
def argRen (ws : Nat → Option Wnd) (N : Nat) : Ren := fun n => if n < N then (ws n).map fun x => (x.2.2, 0) else none
theorem rel_args {P : Program} {ws : Nat → Option Wnd} {N : Nat} {w : World} (h : ∀ n x, n < N → ws n = some x → WinIn w x) : Rel P N (argRen ws N) (argHeap ws N) w where
  blk := fun n b hb => by
    simp only [argHeap] at hb
    split at hb
    · rename_i hn
      cases hw : ws n with
      | none => rw [hw] at hb; simp at hb
      | some x =>
        rw [hw] at hb
        simp only [Option.map_some, Option.some.injEq] at hb
        subst hb
        obtain ⟨c', ty, fr, h1, h2, h3⟩ := h n x hn hw
        refine ⟨x.2.2, 0, c', ty, fr, ?_, h1, h2, fun j hj => ?_⟩
        · simp [argRen, hn, hw]
        · obtain ⟨h4, h5⟩ := h3 j hj
          rw [← h4]
          exact VRel.flat h5
    · cases hb
  inj := fun n m b K K' h1 _ hn => by
    exfalso
    simp only [argHeap] at h1
    split at h1
    · omega
    · simp at h1
  dom := fun n hn => by
    simp only [argHeap] at hn ⊢
    split at hn
    · assumption
    · simp at hn
  floor := Nat.le_refl _
  fle := Nat.le_refl _
/-- A law that reads its arguments alone and returns true. -/
theorem law_args {P : Program} {k N : Nat} {ws : Nat → Option Wnd} (hs : ∀ k, CallOk P N (run P k)) {f : FuncId} {fn : Func} {c : Code} (hf : P.funcs[f]? = some fn) (hn : (fn.name == "runtime.NumGoroutine") = false) (hb : fn.body = some c) {args args' : Array Value} {H' : Heap} {w : World}
    (hw : ∀ n x, n < N → ws n = some x → WinIn w x) (h : run P k f args (argHeap ws N) = some (.bool true, H')) (ha : ARel (argRen ws N) args args') : Calls P f args' w fun e w' => e = .returned (.bool true) ∧ Below w.heap.size w w' :=
  (calls_of_run (hs k) hf hn hb h (rel_args hw) ha fun n hn => by simp only [argRen]; rw [if_neg (by simp only [argHeap] at hn; omega)]).mono fun e w' ⟨v', he, ρ', hv, hp⟩ => by
    rw [hv.bool_inv] at he
    refine ⟨he, hp.below fun n hn => ?_⟩
    simp only [argHeap] at hn ⊢
    split at hn
    · assumption
    · simp at hn
theorem winAt_nil {α : Type} (H : Heap) (a : Option Addr) (c n : Nat) (f : α → List Value) : WinAt H (.slice a 0 c) n f [] := ⟨rfl, fun i hi => by simp at hi⟩
theorem get_win {b off : Nat} {c : Array Value} (o : Nat) (h : off ≤ o) : get1 o (.win off c) = c[o - off]? := by
  simp [get1, Blk.view, h]
section
variable {α : Type} {f : α → List Value} {n : Nat}
theorem winAt_win (hf : ∀ x, (f x).length = n) (hn : n ≠ 0) {H : Heap} {q off cap : Nat} {ls : List α} {len : Nat} (hl : len ≤ ls.length) (hb : H.blk q = some (.win off (ls.flatMap f).toArray)) (hq : q < H.next) :
    WinAt H (.slice (some ⟨q, off, none⟩) len cap) n f (ls.take len) := by
  have hll : (ls.take len).length = len := by rw [List.length_take]; omega
  refine ⟨by rw [hll]; rfl, fun i hi => ?_⟩
  rw [hll] at hi
  have hi' : i < ls.length := by omega
  have hin : i * n + n ≤ ls.length * n := by
    have : (i + 1) * n ≤ ls.length * n := Nat.mul_le_mul_right n hi'
    rw [Nat.add_mul] at this; omega
  have hfl := flat_len hf ls
  refine ⟨q, off + i * n, ?_, hq, ?_, fun j hj => ?_⟩
  · have h2 : (i : Int) < (len : Int) := by omega
    by_cases h0 : i * n = 0
    · simp [idxSl, h2, Addr.add, h0]
    · simp [idxSl, h2, Addr.add, h0]
  · rw [hb]
    simp only [Option.bind_some, getN, Blk.view]
    rw [if_pos ⟨by omega, by simp only [List.size_toArray, hfl]; omega⟩]
    congr 2
    apply Array.toList_inj.1
    rw [Array.toList_extract, List.extract_eq_take_drop, List.toList_toArray, show off + i * n - off + n - (off + i * n - off) = n from by omega, show off + i * n - off = i * n from by omega, flat_one hf hi']
    simp
  · rw [hb]
    simp only [Option.bind_some]
    rw [get_win (b := 0) _ (by omega), show off + i * n + j - off = i * n + j from by omega, List.getElem?_toArray, flat_get hf hi' hj]
    simp
/-- A slice of flat records that came in: its window, and what it is called as. -/
theorem slice_arg {H : Type} {enc : TypeId × Value → H} {P : Program} {w : World} {t e : TypeId} {v : Value} {d : DataW H} {ps : List MemPlace} (hf : ∀ x, (f x).length = n) (hn : n ≠ 0) (hfl : ∀ x, (f x).all flat = true) (ht : P.underlying t = some (.slice e)) (ce : P.cellsOf e = n)
    (hel : ∀ m cs y, DataW.trod enc P w 0 (fun _ => true) true m e cs = some y → ∃ x, cs = f x) (h0 : ∃ a len cap, v = .slice a len cap) (h : DataW.Trod enc P w 0 (fun _ => true) true t v d ps) :
    ∃ (l : List α) (ws : Option Wnd) (vf : Nat → Value), (∀ x, ws = some x → WinIn w x) ∧ l.length ≤ maxLen ∧
      (∀ (q : Nat) (G : Heap), G.blk q = ws.map (fun x => .win x.1 x.2.1) → q < G.next → WinAt G (vf q) n f l) ∧
      (∀ (q : Nat) (ρ : Ren), ρ q = ws.map (fun x => (x.2.2, 0)) → VRel ρ (vf q) v) := by
  obtain ⟨a0, len0, cap0, rfl⟩ := h0
  obtain ⟨fuel, hfu⟩ := h
  rcases open_slice ht hfu with ⟨hcs, _⟩ | ⟨a, len, cap, m, k, D, Pl, hcs, hb, hl, hm, hmm, _, hx⟩
  · simp [Value.cells] at hcs
    obtain ⟨rfl, rfl, rfl⟩ := hcs
    exact ⟨[], none, fun _ => .slice none 0 0, fun x hx => (by cases hx), Nat.zero_le _, fun q G _ _ => winAt_nil _ _ _ _ _, fun q ρ _ => .nilSlice⟩
  · simp [Value.cells] at hcs
    obtain ⟨rfl, rfl, rfl⟩ := hcs
    simp only [if_true] at hmm
    subst hmm
    by_cases hc0 : m = 0
    · subst hc0
      have hl0 : len0 = 0 := by omega
      subst hl0
      exact ⟨[], none, fun _ => .slice (some a) 0 0, fun x hx => (by cases hx), Nat.zero_le _, fun q G _ _ => winAt_nil _ _ _ _ _, fun q ρ _ => .sliceZ _ _⟩
    · have each : ∀ i, i < m → ∃ x : α, ∀ j, j < n → w.cell? ((a.add (i * n)).add j) = (f x)[j]? := by
        intro i hi
        obtain ⟨cs, h1, h2⟩ := hx i hi
        rw [ce] at h1
        obtain ⟨_, hlen, hcell⟩ := World.cells?_some h1
        obtain ⟨x, rfl⟩ := hel _ _ _ h2
        exact ⟨x, fun j hj => by rw [hcell j hj]⟩
      obtain ⟨x0, _⟩ := each 0 (by omega)
      have : Inhabited α := ⟨x0⟩
      obtain ⟨g, hg⟩ := choose_lt each
      have hn0 : 0 < n := Nat.pos_of_ne_zero hn
      have hspot : a.spot = none := by
        have h1 := hg 0 (by omega) 0 hn0
        rw [Nat.zero_mul] at h1
        have e1 : (a.add 0).add 0 = a := by simp [Addr.add]
        rw [e1] at h1
        cases hs : a.spot with
        | none => rfl
        | some s =>
          unfold World.cell? at h1
          rw [hs] at h1
          have h2 : (f (g 0))[0]? = none := by
            rw [← h1]
            split <;> simp
          rw [List.getElem?_eq_none_iff, hf] at h2
          omega
      obtain ⟨ab, ao, asp⟩ := a
      simp only at hspot
      subst hspot
      have hadd : ∀ i j, (((⟨ab, ao, none⟩ : Addr).add i).add j) = ⟨ab, ao + i + j, none⟩ := fun i j => by
        by_cases h1 : i = 0 <;> by_cases h2 : j = 0 <;> simp [Addr.add, h1, h2]
      let ls : List α := (List.range m).map g
      have hlsl : ls.length = m := by simp [ls]
      have hflen : (ls.flatMap f).length = m * n := by rw [flat_len hf, hlsl]
      have hcell : ∀ i j, i < m → j < n → w.cell? ⟨ab, ao + i * n + j, none⟩ = (ls.flatMap f)[i * n + j]? := fun i j hi hj => by
        rw [flat_get hf (by rw [hlsl]; exact hi) hj]
        have := hg i hi j hj
        rw [hadd] at this
        rw [this]
        congr 1
        simp [ls]
      have hcell' : ∀ q, q < m * n → w.cell? ⟨ab, ao + q, none⟩ = (ls.flatMap f)[q]? := fun q hq => by
        have h1 : q / n < m := (Nat.div_lt_iff_lt_mul hn0).2 hq
        have h2 := hcell (q / n) (q % n) h1 (Nat.mod_lt _ hn0)
        have e : q / n * n + q % n = q := by rw [Nat.mul_comm]; exact Nat.div_add_mod q n
        rwa [Nat.add_assoc, e] at h2
      have hblk : ∃ c' ty fr, w.heap[ab]? = some (.cells c' ty fr) := by
        have h1 := hcell' 0 (by have := Nat.mul_pos (Nat.pos_of_ne_zero hc0) hn0; omega)
        rw [List.getElem?_eq_getElem (by rw [hflen]; have := Nat.mul_pos (Nat.pos_of_ne_zero hc0) hn0; omega)] at h1
        unfold World.cell? at h1
        split at h1
        · rename_i c e fr hh; exact ⟨c, e, fr, hh⟩
        · cases h1
      obtain ⟨c', ty, fr, hbk⟩ := hblk
      have hcq : ∀ q, q < m * n → c'[ao + q]? = (ls.flatMap f)[q]? := fun q hq => by
        have := hcell' q hq
        unfold World.cell? at this
        rw [hbk] at this
        simpa using this
      have hfa : (ls.flatMap f).all flat = true := by rw [List.all_flatMap]; simp [hfl]
      refine ⟨ls.take len0, some (ao, (ls.flatMap f).toArray, ab), fun q => .slice (some ⟨q, ao, none⟩) len0 m, fun x hx => ?_, ?_, fun q G hG hq => ?_, fun q ρ hρ => ?_⟩
      · simp only [Option.some.injEq] at hx
        subst hx
        refine ⟨c', ty, fr, hbk, ?_, fun j hj => ?_⟩
        · simp only [List.size_toArray, hflen]
          have hpos := Nat.mul_pos (Nat.pos_of_ne_zero hc0) hn0
          have h1 := hcq (m * n - 1) (by omega)
          rw [List.getElem?_eq_getElem (by rw [hflen]; omega)] at h1
          have := (Array.getElem?_eq_some_iff.1 h1).1
          omega
        · simp only [List.size_toArray, hflen] at hj
          have h1 := hcq j hj
          rw [List.getElem?_eq_getElem (by rw [hflen]; exact hj)] at h1
          have h2 : (ls.flatMap f)[j] ∈ ls.flatMap f := List.getElem_mem _
          refine ⟨?_, ?_⟩
          · simp only [Array.getD_eq_getD_getElem?, List.getElem?_toArray, h1]
            rw [List.getElem?_eq_getElem (by rw [hflen]; exact hj)]
          · simp only [Array.getD_eq_getD_getElem?, List.getElem?_toArray]
            rw [List.getElem?_eq_getElem (by rw [hflen]; exact hj)]
            exact List.all_eq_true.1 hfa _ h2
      · rw [List.length_take]; omega
      · exact winAt_win hf hn (by omega) hG hq
      · exact .slice ao len0 m hρ (by unfold maxLen at hm; unfold capU; omega) hl
end
end Go.PG

namespace Go.PG
open Go.Proofs

/-! ### Rows of bools -/
def BL (l : List Bool) : Blk := .cells (l.map Value.bool).toArray 4
theorem mkSl_bools {n : Nat} (h : n < 1000000) (H : Heap) : mkSl 1 1 #[(.bool false)] 4 (.int .i64 (n : Int)) (.int .i64 (n : Int)) H = some (.slice (some ⟨H.next, 0, none⟩) n n, H.new (BL (List.replicate n false))) := by
  simp only [mkSl]
  rw [if_pos (by refine ⟨?_, ?_, ?_, ?_⟩ <;> omega)]
  simp [BL]
theorem get_BL {l : List Bool} {i : Nat} (h : i < l.length) : get1 i (BL l) = some (.bool l[i]) := by
  rw [BL, get1_row (row_cells _ _)]
  simp [h]
theorem put_BL {H : Heap} {n j : Nat} {l : List Bool} {x : Bool} (hf : H.floor ≤ n) (hj : j < l.length) : putN H n j (.bool x) 1 (BL l) = some (H.set n (BL (l.set j x))) := by
  have hc : (Value.bool x).cells = #[.bool x] := rfl
  simp only [putN, BL, row_cells, Option.bind_some, hc]
  rw [if_pos ⟨rfl, by decide, hf, by simp; omega, rfl⟩]
  congr 2
  rw [setL, setL]
  simp only [Blk.put]
  congr 1
  apply Array.toList_inj.1
  simp
/-! ### Volumes, plainly -/
theorem vols_pair {cap : Nat} {es : List Ent} (h : InvE cap es) : (vols es).Pairwise fun x y => ¬ meets x y := by
  have h1 : es.Pairwise fun x y => 0 < x.len → 0 < y.len → ¬ meets x y := by
    rw [List.pairwise_iff_getElem]
    intro i j hi hj hij h1 h2
    exact h.ap i j hi hj (by omega) h1 h2
  have h2 := h1.filter (fun e => decide (0 < e.len))
  rw [List.pairwise_iff_getElem] at h2 ⊢
  intro i j hi hj hij
  have m1 := (mem_vols.1 (List.getElem_mem hi)).2
  have m2 := (mem_vols.1 (List.getElem_mem hj)).2
  exact h2 i j hi hj hij m1 m2
theorem lens_vols (es : List Ent) : lens (vols es) = lens es := by
  induction es with
  | nil => rfl
  | cons e es ih =>
    by_cases h : 0 < e.len
    · rw [vols, List.filter_cons_of_pos (by simpa using h), lens_cons, lens_cons]; rw [vols] at ih; rw [ih]
    · rw [vols, List.filter_cons_of_neg (by simpa using h), lens_cons]; rw [vols] at ih; rw [ih]; omega
theorem find_mem {cap : Nat} {es : List Ent} (h : InvE cap es) {e : Ent} (he : e ∈ vols es) : ∃ i : Nat, findE es e.name = some i ∧ es.getD i Ent.none = e := by
  obtain ⟨h1, h2⟩ := mem_vols.1 he
  obtain ⟨j, hj, rfl⟩ := List.getElem_of_mem h1
  cases hf : findE es es[j].name with
  | none => exact absurd rfl (findE_none hf _ h1 h2)
  | some i =>
    obtain ⟨hi, hil, hl, hn⟩ := findE_lt h.e8 hf
    by_cases hij : i = j
    · subst hij
      exact ⟨i, rfl, by rw [List.getD_eq_getElem?_getD, List.getElem?_eq_getElem hil]; rfl⟩
    · exact absurd (.inl hn) (h.ap i j hil hj hij hl h2)
theorem place_all {cap : Nat} {es : List Ent} (h : InvE cap es) {e : Ent} (he : e ∈ vols es) : placeP es e.name 0 (e.len : Int) = ((e.first : Int), 0) := by
  obtain ⟨i, h1, h2⟩ := find_mem h he
  have := (mem_vols.1 he).2
  simp only [placeP, h1, h2]
  rw [if_pos (by omega), Int.add_zero]
theorem right_all {cap : Nat} {es : List Ent} (h : InvE cap es) {e : Ent} (he : e ∈ vols es) : isRight cap (e.first : Int) (e.len : Int) := by
  obtain ⟨h1, h2⟩ := mem_vols.1 he
  have := (h.wf.ok e h1).1
  exact ⟨by omega, by omega, by omega, by omega⟩
theorem read_all {cap : Nat} {es : List Ent} (h : InvE cap es) {e : Ent} (he : e ∈ vols es) (t : List UInt8) : readA cap es t e.name 0 (e.len : Int) = (rdB t e.first e.len, 0) := by
  simp only [readA, place_all h he, right_all h he, if_true, Int.toNat_natCast]
theorem write_all {cap : Nat} {es : List Ent} (h : InvE cap es) {e : Ent} (he : e ∈ vols es) (t b : List UInt8) : writeA cap es t e.name 0 (e.len : Int) b = (0, wrB t e.first e.len b) := by
  simp only [writeA, place_all h he, right_all h he, if_true, wrI, Int.toNat_natCast]
/-- A list of calls, one behind the other. -/
def stepsP (cap : Nat) : List ActP → List Ent × List UInt8 → List Ent × List UInt8
  | [], p => p
  | x :: l, p => stepsP cap l (stepP cap p.1 p.2 x).2
theorem inv_steps {cap : Nat} (hc : cap ≤ 1000) : ∀ (l : List ActP) (p : List Ent × List UInt8), InvE cap p.1 → InvE cap (stepsP cap l p).1
  | [], p, h => h
  | x :: l, p, h => inv_steps hc l _ (inv_step hc h p.2 x)
section
variable {K : Nat} {d : Value} {cap : Nat} {D : DiskP} {s : Nat} {es : List Ent} {t : List UInt8} {F : Nat → Prop} {H : Heap}
theorem Sys.setO (hd : DiskOk K d cap D) (h : Sys d cap D s es t F H) {u : Nat} (hs : u ≠ s) (hF : ¬ F u) (B : Blk) : Sys d cap D s es t F (H.set u B) where
  sto := ⟨by rw [Yf (Ne.symm hs)]; exact h.sto.blk, h.sto.lt, h.sto.fl, h.sto.e8⟩
  dsk := hd.frame h.dsk ((Chg.refl H).set (S := fun n => n = u) (.inl rfl) _) fun n hn e => by subst e; exact hF hn
  apart := h.apart
theorem free_inv (h : InvE cap es) (hc : cap ≤ 1000) : lens es < 1000000 := by
  have hall : ∀ (l : List Ent), (∀ e ∈ l, e.len ≤ 1000) → lens l ≤ l.length * 1000 := by
    intro l
    induction l with
    | nil => intro _; simp [lens]
    | cons e l ih =>
      intro hl
      have h1 := hl e List.mem_cons_self
      have h2 := ih fun x hx => hl x (List.mem_cons_of_mem _ hx)
      rw [lens_cons, List.length_cons, Nat.add_mul]; omega
  have := hall es fun e he => by have := (h.wf.ok e he).1; omega
  have := h.e8
  omega
theorem lens_append (a b : List Ent) : lens (a ++ b) = lens a + lens b := by simp [lens]
theorem lens_take (ys : List Ent) {i : Nat} (h : i < ys.length) : lens (ys.take (i + 1)) = lens (ys.take i) + ys[i].len := by
  rw [List.take_succ_eq_append_getElem h, lens_append, lens_cons]; rfl
theorem lens_take_le (ys : List Ent) (i : Nat) : lens (ys.take i) ≤ lens ys := by
  have : lens (ys.take i) + lens (ys.drop i) = lens ys := by
    have h := congrArg lens (List.take_append_drop i ys)
    rw [← h, lens_append]
  omega
end
end Go.PG

namespace Go.PG
open Go.Proofs

/-- Volumes in order from a sector on, each behind the last. -/
def Packed : Nat → List Ent → Prop
  | _, [] => True
  | a, e :: es => e.first = a ∧ 0 < e.len ∧ Packed (a + e.len) es
theorem Packed.append {a : Nat} {l : List Ent} {e : Ent} (h : Packed a l) (h1 : e.first = a + lens l) (h2 : 0 < e.len) : Packed a (l ++ [e]) := by
  induction l generalizing a with
  | nil => exact ⟨by simpa [lens] using h1, h2, trivial⟩
  | cons x l ih =>
    obtain ⟨g1, g2, g3⟩ := h
    exact ⟨g1, g2, ih g3 (by rw [lens_cons] at h1; omega)⟩
theorem passR_none (n : Nat) (p : Nat × Bool) (m : Nat) : passR n (List.replicate m Ent.none) p = p := by
  induction m with
  | zero => rfl
  | succ m ih => rw [List.replicate_succ, passR, if_neg (fun h => absurd h.1 (by decide)), ih]
theorem passR_append (n : Nat) (a b : List Ent) (p : Nat × Bool) : passR n (a ++ b) p = passR n b (passR n a p) := by
  induction a generalizing p with
  | nil => rfl
  | cons e a ih => rw [List.cons_append, passR, passR, ih]
theorem passR_packed {n : Nat} (hn : 1 ≤ n) : ∀ (l : List Ent) (a : Nat) (b : Bool), Packed a l → (passR n l (a, b)).1 = a + lens l
  | [], a, b, _ => by simp [passR, lens]
  | e :: l, a, b, h => by
    obtain ⟨g1, g2, g3⟩ := h
    rw [passR, if_pos ⟨g2, by simp only; omega, by simp only; omega⟩, g1, passR_packed hn l _ _ g3, lens_cons]; omega
theorem passR_behind {n : Nat} : ∀ (l : List Ent) (a : Nat) (p : Nat × Bool), Packed a l → a + lens l ≤ p.1 → passR n l p = p
  | [], a, p, _, _ => rfl
  | e :: l, a, p, h, hp => by
    obtain ⟨g1, g2, g3⟩ := h
    rw [lens_cons] at hp
    rw [passR, if_neg (fun hh => by have := hh.2.1; omega)]
    exact passR_behind l _ p g3 (by omega)
theorem roomA_packed {n m : Nat} (hn : 1 ≤ n) {l : List Ent} (h : Packed 8 l) : roomA n (l ++ List.replicate m Ent.none) = 8 + lens l := by
  have h1 : ∀ b, (passR n (l ++ List.replicate m Ent.none) (8, b)).1 = 8 + lens l := fun b => by
    rw [passR_append, passR_none, passR_packed hn l 8 b h]
  have h2 : passR n (l ++ List.replicate m Ent.none) (8 + lens l, false) = (8 + lens l, false) := by
    rw [passR_append, passR_none, passR_behind l 8 _ h (Nat.le_refl _)]
  rw [roomA, roomW]
  cases hp : (passR n (l ++ List.replicate m Ent.none) (8, false)).2 with
  | true =>
    rw [if_pos rfl, h1, roomW, h2, if_neg (by simp)]
  | false =>
    rw [if_neg (by decide)]
    have := (passR_still n _ 8 hp).1
    rw [h1] at this; omega
theorem freeFrom_packed : ∀ (l : List Ent) (i a m : Nat), Packed a l → freeFrom i (l ++ List.replicate (m + 1) Ent.none) = ((i + l.length : Nat) : Int)
  | [], i, a, m, _ => by rw [List.nil_append, List.replicate_succ, freeFrom, if_pos (show Ent.none.len = 0 from rfl)]; rfl
  | e :: l, i, a, m, h => by
    rw [List.cons_append, freeFrom, if_neg (by have := h.2.1; omega), freeFrom_packed l (i + 1) _ m h.2.2, List.length_cons]
    congr 1; omega
theorem set_packed (l : List Ent) (m : Nat) (e : Ent) : (l ++ List.replicate (m + 1) Ent.none).set l.length e = (l ++ [e]) ++ List.replicate m Ent.none := by
  rw [List.set_append_right _ _ (Nat.le_refl _), Nat.sub_self, List.replicate_succ, List.set_cons_zero, List.append_assoc]; rfl
theorem findFrom_at : ∀ (a : List Ent) (q : Nat) (x : Ent) (b : List Ent) (nm : List UInt8), (∀ e ∈ a, 0 < e.len → e.name ≠ nm) → 0 < x.len → x.name = nm → findFrom q nm (a ++ x :: b) = some (q + a.length)
  | [], q, x, b, nm, _, h1, h2 => by rw [List.nil_append, findFrom, if_pos ⟨h1, h2⟩]; rfl
  | e :: a, q, x, b, nm, h, h1, h2 => by
    rw [List.cons_append, findFrom, if_neg (fun hh => h e List.mem_cons_self hh.1 hh.2), findFrom_at a (q + 1) x b nm (fun y hy => h y (List.mem_cons_of_mem _ hy)) h1 h2, List.length_cons]
    congr 1; omega
theorem findFrom_no : ∀ (a : List Ent) (q : Nat) (nm : List UInt8), (∀ e ∈ a, 0 < e.len → e.name ≠ nm) → findFrom q nm a = none
  | [], _, _, _ => rfl
  | e :: a, q, nm, h => by
    rw [findFrom, if_neg (fun hh => h e List.mem_cons_self hh.1 hh.2)]
    exact findFrom_no a (q + 1) nm fun y hy => h y (List.mem_cons_of_mem _ hy)
/-- A volume that was made: its number, its length, where it lies, what it bears. -/
structure Mk where
  i : Nat
  n : Nat
  pos : Nat
  data : List UInt8
def nmV (i : Nat) : List UInt8 := [118, UInt8.ofNat (48 + i)]
def nmW (i : Nat) : List UInt8 := [119, 118, UInt8.ofNat (48 + i)]
def entOV (m : Mk) : Ent := ⟨nmV m.i, m.pos, m.n⟩
def entOW (m : Mk) : Ent := ⟨nmW m.i, m.pos, m.n⟩
theorem nmV_inj {i j : Nat} (hi : i < 10) (hj : j < 10) (h : nmV i = nmV j) : i = j := by
  have : ∀ a, a < 10 → ∀ b, b < 10 → nmV a = nmV b → a = b := by decide
  exact this i hi j hj h
theorem nmW_inj {i j : Nat} (hi : i < 10) (hj : j < 10) (h : nmW i = nmW j) : i = j := by
  have : ∀ a, a < 10 → ∀ b, b < 10 → nmW a = nmW b → a = b := by decide
  exact this i hi j hj h
theorem nmVW (i j : Nat) : nmV i ≠ nmW j := fun h => by simp [nmV, nmW] at h
theorem good_V {i : Nat} (hi : i < 10) : good (nmV i) = true := by
  have : ∀ a, a < 10 → good (nmV a) = true := by decide +kernel
  exact this i hi
theorem good_W {i : Nat} (hi : i < 10) : good (nmW i) = true := by
  have : ∀ a, a < 10 → good (nmW a) = true := by decide +kernel
  exact this i hi
/-- What is so of the volumes that were made: they lie one behind the other, numbers differ, bytes are theirs. -/
structure Ms (cap : Nat) (ms : List Mk) (t : List UInt8) : Prop where
  pk : Packed 8 (ms.map entOV)
  cap : 8 + lens (ms.map entOV) ≤ cap
  lt : ∀ m ∈ ms, m.i < 6
  inj : ms.Pairwise fun x y => x.i ≠ y.i
  rd : ∀ m ∈ ms, rdB t m.pos m.n = m.data
  len : ms.length ≤ 6
theorem packed_mem : ∀ (ms : List Mk) (a : Nat), Packed a (ms.map entOV) → ∀ m ∈ ms, a ≤ m.pos ∧ 0 < m.n ∧ m.pos + m.n ≤ a + lens (ms.map entOV)
  | [], _, _, m, hm => by simp at hm
  | x :: ms, a, h, m, hm => by
    obtain ⟨g1, g2, g3⟩ := h
    rw [List.map_cons, lens_cons]
    simp only [entOV] at g1 g2 ⊢
    rcases List.mem_cons.1 hm with rfl | hm
    · omega
    · have := packed_mem ms _ g3 m hm
      simp only [entOV] at this
      omega
end Go.PG

namespace Go.PG
open Go.Proofs

noncomputable def C101l : Code := sub [.l] (bodyOf Tryz.f101)
noncomputable def C101r : Code := sub [.r] (bodyOf Tryz.f101)
noncomputable def K101_0 (k : Nat) : Ex → Fr → Heap → Option (Value × Heap) := finK Tryz.prog Tryz.f101
noncomputable def K101_1 (k : Nat) : Ex → Fr → Heap → Option (Value × Heap) := seqC (denK Tryz.prog (run Tryz.prog k) k C101r (K101_0 k)) (K101_0 k)

noncomputable def F101 (k : Nat) (x0 : Value) (H : Heap) : Option (Value × Heap) :=
  bindP (mkSl 1 1 #[(.int .u8 0)] 5 x0 x0 H) fun y4 H_1 =>
  bindM (convBS y4 H_1) H_1 fun y5 H_2 =>
  some (y5, H_2)

theorem TF101 (k : Nat) (x0 x1 x2 x3 x4 x5 : Value) (H : Heap) : denK Tryz.prog (run Tryz.prog k) k C101l (K101_1 k) #[x0,x1,x2,x3,x4,x5] H = F101 k x0 H := by
  kernel_rfl
theorem run101 (k : Nat) (x0 : Value) (H : Heap) : run Tryz.prog (k + 1) 101 #[x0] H = F101 k x0 H := by
  refine Eq.trans (b := denK Tryz.prog (run Tryz.prog k) k C101l (K101_1 k) #[x0,undef,undef,undef,undef,undef] H) (by kernel_rfl) ?_
  exact TF101 k x0 undef undef undef undef undef H

end Go.PG

namespace Go.PG
open Go.Proofs

noncomputable def C102l : Code := sub [.l] (bodyOf Tryz.f102)
noncomputable def C102r : Code := sub [.r] (bodyOf Tryz.f102)
noncomputable def K102_0 (k : Nat) : Ex → Fr → Heap → Option (Value × Heap) := finK Tryz.prog Tryz.f102
noncomputable def K102_1 (k : Nat) : Ex → Fr → Heap → Option (Value × Heap) := seqC (denK Tryz.prog (run Tryz.prog k) k C102r (K102_0 k)) (K102_0 k)

noncomputable def F102 (k : Nat) (x0 : Value) (H : Heap) : Option (Value × Heap) :=
  bindM (convI .u8 x0) H fun y4 H_1 =>
  (binI .shr x0 (.int .u64 8)).bind fun y6 =>
  bindM (convI .u8 y6) H_1 fun y7 H_2 =>
  (binI .shr x0 (.int .u64 16)).bind fun y9 =>
  bindM (convI .u8 y9) H_2 fun y10 H_3 =>
  (binI .shr x0 (.int .u64 24)).bind fun y12 =>
  bindM (convI .u8 y12) H_3 fun y13 H_4 =>
  bindP (pBuildSlice Tryz.prog 57 4 [(0, y4), (1, y7), (2, y10), (3, y13)] H_4) fun y14 H_5 =>
  bindM (convBS y14 H_5) H_5 fun y15 H_6 =>
  some (y15, H_6)

theorem TF102 (k : Nat) (x0 x1 x2 x3 x4 x5 x6 x7 x8 x9 kA lA mA nA oA pA : Value) (H : Heap) : denK Tryz.prog (run Tryz.prog k) k C102l (K102_1 k) #[x0,x1,x2,x3,x4,x5,x6,x7,x8,x9,kA,lA,mA,nA,oA,pA] H = F102 k x0 H := by
  kernel_rfl
theorem run102 (k : Nat) (x0 : Value) (H : Heap) : run Tryz.prog (k + 1) 102 #[x0] H = F102 k x0 H := by
  refine Eq.trans (b := denK Tryz.prog (run Tryz.prog k) k C102l (K102_1 k) #[x0,undef,undef,undef,undef,undef,undef,undef,undef,undef,undef,undef,undef,undef,undef,undef] H) (by kernel_rfl) ?_
  exact TF102 k x0 undef undef undef undef undef undef undef undef undef undef undef undef undef undef undef H

end Go.PG

namespace Go.PG
open Go.Proofs

theorem mkSl_bytes {n : Nat} (h : n < 2 ^ 40) (H : Heap) : mkSl 1 1 #[(.int .u8 0)] 5 (.int .i64 (n : Int)) (.int .i64 (n : Int)) H = some (.slice (some ⟨H.next, 0, none⟩) n n, H.new (.cells (Array.replicate n (.int .u8 0)) 5)) := by
  simp only [mkSl]
  rw [if_pos (by refine ⟨?_, ?_, ?_, ?_⟩ <;> omega)]
  simp
theorem convBS_new (H : Heap) (l : List UInt8) (t : TypeId) (cap : Nat) : convBS (.slice (some ⟨H.next, 0, none⟩) l.length cap) (H.new (.cells (l.map fun b => Value.int .u8 (b.toNat : Int)).toArray t)) = some (str l) := by
  simp only [convBS]
  rw [ldN_at (c := (l.map fun b => Value.int .u8 (b.toNat : Int)).toArray) (new_at H _) rfl (by simp)]
  have e : List.take l.length (l.map fun b => Value.int .u8 (b.toNat : Int)) = l.map fun b => Value.int .u8 (b.toNat : Int) := by rw [List.take_of_length_le (by simp)]
  simp [e, rowBytes_ok, str]
theorem noughts_run (k : Nat) {n : Nat} (h : n < 2 ^ 40) (H : Heap) : run Tryz.prog (k + 1) 101 #[.int .i64 (n : Int)] H = some (str (List.replicate n 0), H.new (.cells (Array.replicate n (.int .u8 0)) 5)) := by
  rw [run101, F101]
  have e : Array.replicate n (Value.int .u8 0) = ((List.replicate n (0 : UInt8)).map fun b => Value.int .u8 (b.toNat : Int)).toArray := by simp
  have := convBS_new H (List.replicate n (0 : UInt8)) 5 n
  rw [← e, List.length_replicate] at this
  simp only [mkSl_bytes h, Z2, this, Z3]
end Go.PG

namespace Go.PG
open Go.Proofs

theorem and3 (n : Int) : binI .and (.int .i64 n) (.int .i64 3) = some (.int .i64 (((n.emod 4).toNat : Nat) : Int)) := by
  have h0 : 0 ≤ n.emod 4 := Int.emod_nonneg _ (by decide)
  have h8 : n.emod 4 < 4 := Int.emod_lt_of_pos _ (by decide)
  simp only [binI, if_true]
  have e1 : (BitVec.ofInt IntKind.i64.bits n &&& BitVec.ofInt IntKind.i64.bits 3).toNat = (n.emod 4).toNat := by
    rw [BitVec.toNat_and]
    have e7 : (BitVec.ofInt IntKind.i64.bits 3).toNat = 2 ^ 2 - 1 := by decide
    rw [e7, Nat.and_two_pow_sub_one_eq_mod, BitVec.toNat_ofInt]
    have : ((n % ((2 ^ IntKind.i64.bits : Nat) : Int)).toNat : Int) % 4 = n % 4 := by
      have hb : ((2 ^ IntKind.i64.bits : Nat) : Int) = 18446744073709551616 := by decide
      rw [hb]
      omega
    have h2 : n.emod 4 = n % 4 := rfl
    rw [h2]
    omega
  rw [e1, wrap64 (by omega) (by omega)]
theorem build57_1 (n : Int) (H : Heap) : pBuildSlice Tryz.prog 57 1 [(0, .int .u8 n)] H = some (.slice (some ⟨H.next, 0, none⟩) 1 1, H.new (.cells #[.int .u8 n] 5)) := by kernel_rfl
theorem build54_1 (n : Int) (H : Heap) : pBuildSlice Tryz.prog 54 1 [(0, .int .i64 n)] H = some (.slice (some ⟨H.next, 0, none⟩) 1 1, H.new (.cells #[.int .i64 n] 3)) := by kernel_rfl
theorem conv_one (b : UInt8) (H : Heap) : convBS (.slice (some ⟨H.next, 0, none⟩) 1 1) (H.new (.cells #[.int .u8 (b.toNat : Int)] 5)) = some (str [b]) := by
  have h : (H.new (BB [b])).blk H.next = some (BB [b]) := Y9 _ _
  have := (SlAt.BB (len := 1) (cap := 1) (o := 0) h (by simp [Heap.new]) (Nat.le_refl _) (by simp)).str
  exact this
theorem neq4 (a b : Bool) : binE Tryz.prog .neq 4 false (.bool a) (.bool b) = some (.bool !(a == b)) := by
  cases a <;> cases b <;> kernel_rfl
def intC (n : Nat) : List Value := [.int .i64 (n : Int)]
theorem str_cons (a b : List UInt8) (h : a.length + b.length < 1000000) : binS .add (str a) (str b) = some (str (a ++ b)) := add_str (by omega)
section
variable {K : Nat} {d : Value} {cap : Nat} {D : DiskP} {s : Nat} {es : List Ent} {t : List UInt8} {F : Nat → Prop} {H : Heap}
theorem Sys.chgO (hd : DiskOk K d cap D) (h : Sys d cap D s es t F H) {T : Nat → Prop} {H' : Heap} (g : Chg T H H') (hT : ∀ n, orS s F n → ¬ T n) : Sys d cap D s es t F H' where
  sto := ⟨by rw [g.old s h.sto.lt (hT s (.inr rfl)), h.sto.blk], Nat.lt_of_lt_of_le h.sto.lt g.next, by rw [g.floor]; exact h.sto.fl, h.sto.e8⟩
  dsk := hd.frame h.dsk g fun n hn => hT n (.inl hn)
  apart := h.apart
/-- A slice of the law's own, apart from the disk's blocks. -/
structure OwnF {α : Type} (lo : Nat) (H : Heap) (s : Nat) (F : Nat → Prop) (v : Value) (e : TypeId) (f : α → List Value) (l : List α) : Prop where
  own : OwnAt lo H v e f l
  free : ∀ m, ownB v m → ¬ orS s F m
theorem OwnF.grow {α : Type} {lo : Nat} {v : Value} {e : TypeId} {f : α → List Value} {l : List α} (h : OwnF lo H s F v e f l) {H' : Heap} (g : Grow H H') : OwnF lo H' s F v e f l := ⟨h.own.grow g, h.free⟩
theorem OwnAt.ownB_lt {α : Type} {lo : Nat} {v : Value} {e : TypeId} {f : α → List Value} {l : List α} (h : OwnAt lo H v e f l) {m : Nat} (hm : ownB v m) : m < H.next := by
  obtain ⟨len, rfl⟩ := hm
  rcases h with ⟨h, _⟩ | ⟨b, h, _⟩ | ⟨b, h, _, _, h1⟩
  · cases h
  · simp only [Value.slice.injEq] at h; exact absurd h.2.2 (by unfold capU; omega)
  · simp only [Value.slice.injEq, Option.some.injEq, Addr.mk.injEq] at h; omega
theorem OwnF.foot {α : Type} {lo : Nat} {v : Value} {e : TypeId} {f : α → List Value} {l : List α} (h : OwnF lo H s F v e f l) {F' : Nat → Prop} {H' : Heap} (g : Foot (orS s F) (orS s F') H H') : OwnF lo H' s F' v e f l := by
  refine ⟨?_, fun m hm hf => ?_⟩
  · rcases h.own with h1 | h1 | ⟨b, rfl, hb, h1, h2⟩
    · exact .inl h1
    · exact .inr (.inl h1)
    · exact .inr (.inr ⟨b, rfl, by rw [g.chg.old b h2 (h.free b ⟨_, rfl⟩), hb], h1, Nat.lt_of_lt_of_le h2 g.chg.next⟩)
  · rcases g.new m hf with h1 | h1
    · exact h.free m hm h1
    · have := h.own.ownB_lt hm; omega
end
/-! ### Creating, plainly -/
def es1 (ms : List Mk) : List Ent := ms.map entOV ++ List.replicate (8 - ms.length) Ent.none
theorem es1_len {ms : List Mk} (h : ms.length ≤ 6) : (es1 ms).length = 8 := by simp [es1]; omega
theorem mem_es1 {ms : List Mk} {m : Mk} (h : m ∈ ms) (hn : 0 < m.n) : entOV m ∈ vols (es1 ms) :=
  mem_vols.2 ⟨List.mem_append_left _ (List.mem_map_of_mem h), hn⟩
theorem create_ms {cap : Nat} {ms : List Mk} {t : List UInt8} (h : Ms cap ms t) (h5 : ms.length < 6) {i n : Nat} (hi : i < 6) (hn : 1 ≤ n ∧ n ≤ 4) (hne : ∀ m ∈ ms, m.i ≠ i) :
    createP cap (es1 ms) t (nmV i) (n : Int) = if 8 + lens (ms.map entOV) + n ≤ cap then (0, es1 (ms ++ [⟨i, n, 8 + lens (ms.map entOV), padTo (n * 32) []⟩]), setP ms.length ⟨nmV i, 8 + lens (ms.map entOV), n⟩ (wrB t (8 + lens (ms.map entOV)) n [])) else (5, es1 ms, t) := by
  have e8 : 8 - ms.length = (7 - ms.length) + 1 := by omega
  have hf : findE (es1 ms) (nmV i) = none := by
    refine findFrom_no _ _ _ fun e he hl => ?_
    rcases List.mem_append.1 he with he | he
    · obtain ⟨m, hm, rfl⟩ := List.mem_map.1 he
      exact fun hh => hne m hm (nmV_inj (by have := h.lt m hm; omega) (by omega) hh)
    · rw [List.eq_of_mem_replicate he] at hl; exact absurd hl (by decide)
  have hfree : freeI (es1 ms) = (ms.length : Int) := by
    have := freeFrom_packed (ms.map entOV) 0 8 (7 - ms.length) h.pk
    rw [freeI, es1, e8, this]; simp
  have hroom : roomA n (es1 ms) = 8 + lens (ms.map entOV) := roomA_packed hn.1 h.pk
  have hset : (es1 ms).set ms.length ⟨nmV i, 8 + lens (ms.map entOV), n⟩ = es1 (ms ++ [⟨i, n, 8 + lens (ms.map entOV), padTo (n * 32) []⟩]) := by
    have := set_packed (ms.map entOV) (7 - ms.length) ⟨nmV i, 8 + lens (ms.map entOV), n⟩
    rw [List.length_map] at this
    rw [es1, e8, this, es1, List.map_append]
    have e9 : 8 - (ms ++ [(⟨i, n, 8 + lens (ms.map entOV), padTo (n * 32) []⟩ : Mk)]).length = 7 - ms.length := by rw [List.length_append]; simp only [List.length_cons, List.length_nil]; omega
    rw [e9]; rfl
  simp only [createP]
  rw [if_pos ⟨good_V (by omega), by omega, by omega⟩, hf]
  simp only [Int.toNat_natCast, hroom, hfree, hset]
  by_cases hc : 8 + lens (ms.map entOV) + n ≤ cap
  · rw [if_pos ⟨by omega, hc⟩, if_pos hc]
  · rw [if_neg (fun hh => hc hh.2), if_neg hc]
theorem ms_create {cap : Nat} {ms : List Mk} {t : List UInt8} (h : Ms cap ms t) (ht : t.length = cap * 32) (h9 : 8 < cap) (h5 : ms.length < 6) {i n : Nat} (hi : i < 6) (hn : 1 ≤ n ∧ n ≤ 4) (hne : ∀ m ∈ ms, m.i ≠ i) (hc : 8 + lens (ms.map entOV) + n ≤ cap) :
    Ms cap (ms ++ [⟨i, n, 8 + lens (ms.map entOV), padTo (n * 32) []⟩]) (setP ms.length ⟨nmV i, 8 + lens (ms.map entOV), n⟩ (wrB t (8 + lens (ms.map entOV)) n [])) where
  pk := by rw [List.map_append]; exact h.pk.append rfl (by show 0 < n; omega)
  cap := by rw [List.map_append, lens_append]; simp only [List.map_cons, List.map_nil, lens_cons, entOV]; have : lens [] = 0 := rfl; omega
  lt := fun m hm => by
    rcases List.mem_append.1 hm with hm | hm
    · exact h.lt m hm
    · rw [List.mem_singleton.1 hm]; exact hi
  inj := List.pairwise_append.2 ⟨h.inj, List.pairwise_singleton _ _, fun a ha b hb => by rw [List.mem_singleton.1 hb]; exact hne a ha⟩
  rd := fun m hm => by
    have hl1 : (wrB t (8 + lens (ms.map entOV)) n []).length = cap * 32 := wrB_len ht hc
    rcases List.mem_append.1 hm with hm | hm
    · obtain ⟨p1, p2, p3⟩ := packed_mem ms 8 h.pk m hm
      rw [setP, rdB_other (by omega) (.inr (by omega)), rdB_other (by omega) (.inl p3), h.rd m hm]
    · rw [List.mem_singleton.1 hm]
      simp only
      rw [setP, rdB_other (by omega) (.inr (by omega)), rdB_same (by omega)]
  len := by simp; omega
/-- A write to one of them. -/
theorem ms_write {cap : Nat} {ms : List Mk} {i n p : Nat} {b0 t : List UInt8} (h : Ms cap (ms ++ [⟨i, n, p, b0⟩]) t) (ht : t.length = cap * 32) (b : List UInt8) : Ms cap (ms ++ [⟨i, n, p, padTo (n * 32) b⟩]) (wrB t p n b) := by
  have hm : (ms ++ [(⟨i, n, p, b0⟩ : Mk)]).map entOV = (ms ++ [(⟨i, n, p, padTo (n * 32) b⟩ : Mk)]).map entOV := by simp [entOV]
  have hl : lens ((ms ++ [(⟨i, n, p, b0⟩ : Mk)]).map entOV) = lens (ms.map entOV) + n := by rw [List.map_append, lens_append]; simp [lens, entOV]
  have pp : ∀ (l : List Mk) (a : Nat), Packed a ((l ++ [(⟨i, n, p, b0⟩ : Mk)]).map entOV) → p = a + lens (l.map entOV) := by
    intro l
    induction l with
    | nil => intro a hh; have := hh.1; simp [lens, entOV] at this ⊢; omega
    | cons x l ih =>
      intro a hh
      have := ih _ hh.2.2
      rw [List.map_cons, lens_cons]; omega
  have hp := pp ms 8 h.pk
  have hcap := h.cap
  refine ⟨by rw [← hm]; exact h.pk, by rw [← hm]; exact h.cap, fun m hmm => ?_, ?_, fun m hmm => ?_, by simpa using h.len⟩
  · rcases List.mem_append.1 hmm with hmm | hmm
    · exact h.lt m (List.mem_append_left _ hmm)
    · rw [List.mem_singleton.1 hmm]; exact h.lt ⟨i, n, p, b0⟩ (by simp)
  · have := List.pairwise_append.1 h.inj
    exact List.pairwise_append.2 ⟨this.1, List.pairwise_singleton _ _, fun a ha b hb => by
      rw [List.mem_singleton.1 hb]; exact this.2.2 a ha ⟨i, n, p, b0⟩ (by simp)⟩
  · rcases List.mem_append.1 hmm with hmm | hmm
    · have hpk1 : Packed 8 (ms.map entOV) := by
        have : ∀ (l : List Mk) (a : Nat), Packed a ((l ++ [(⟨i, n, p, b0⟩ : Mk)]).map entOV) → Packed a (l.map entOV) := by
          intro l
          induction l with
          | nil => exact fun _ _ => trivial
          | cons x l ih => exact fun a hh => ⟨hh.1, hh.2.1, ih _ hh.2.2⟩
        exact this ms 8 h.pk
      obtain ⟨_, _, p3⟩ := packed_mem ms 8 hpk1 m hmm
      rw [rdB_other (by omega) (.inl (by omega)), h.rd m (List.mem_append_left _ hmm)]
    · rw [List.mem_singleton.1 hmm]
      simp only
      rw [rdB_same (by omega)]
def intZ (z : Int) : List Value := [.int .i64 z]
def strC (b : List UInt8) : List Value := [str b]
theorem WinAt.one {α : Type} {f : α → List Value} {g : α → Value} (hfg : ∀ x, f x = [g x]) {H : Heap} {v : Value} {l : List α} (h : WinAt H v 1 f l) {i : Nat} (hi : i < l.length) : ∃ b o, idxSl 1 v (.int .i64 (i : Int)) = some (.pointer (some ⟨b, o, none⟩)) ∧ b < H.next ∧ (H.blk b).bind (get1 o) = some (g l[i]) := by
  obtain ⟨b, o, h1, h2, _, h4⟩ := h.2 i hi
  refine ⟨b, o, h1, h2, ?_⟩
  have := h4 0 (by decide)
  rw [hfg] at this
  exact this
/-- What a volume is to bear. -/
def dataOf (ds : List (List UInt8)) (i n : Nat) : List UInt8 := padTo (n * 32) (ds.getD i [])
def lenOf (zs : List Int) (i : Nat) : Nat := 1 + ((zs.getD i 0).emod 4).toNat
structure MsD (zs : List Int) (ds : List (List UInt8)) (ms : List Mk) : Prop where
  n : ∀ m ∈ ms, m.i < zs.length ∧ m.n = lenOf zs m.i ∧ m.data = dataOf ds m.i m.n
theorem MsD.append {zs : List Int} {ds : List (List UInt8)} {ms : List Mk} (h : MsD zs ds ms) {m : Mk} (hm : m.i < zs.length ∧ m.n = lenOf zs m.i ∧ m.data = dataOf ds m.i m.n) : MsD zs ds (ms ++ [m]) := ⟨fun x hx => by
  rcases List.mem_append.1 hx with hx | hx
  · exact h.n x hx
  · rw [List.mem_singleton.1 hx]; exact hm⟩
section
variable {K : Nat} {d : Value} {cap : Nat} {D : DiskP} {s : Nat}
theorem create_loop (hd : DiskOk K d cap D) (hc : 8 < cap) {k : Nat} (hk : K + 1300 ≤ k) {H0 : Heap} {x1 x2 : Value} {zs : List Int} {ds : List (List UInt8)} (h6 : zs.length ≤ 6) (hv1 : WinAt H0 x1 1 intZ zs) (hv2 : WinAt H0 x2 1 strC ds) (hds : ds.length < 9223372036854775808) (hsn : H0.next ≤ s) (hf0 : H0.floor ≤ H0.next) :
    ∀ (m n i : Nat) (z fr : Int) (ms : List Mk) (t : List UInt8) (F : Nat → Prop) (H : Heap) (v : Value), z = i → i + m = zs.length → m < n → Sys d cap D s (es1 ms) t F H → InvE cap (es1 ms) → Ms cap ms t → MsD zs ds ms → (∀ x ∈ ms, x.i < i) → ms.length ≤ i → OwnF H0.next H s F v 3 intC (ms.map Mk.i) → Grow H0 H → Far H0 F → fr = (cap : Int) - 8 - (lens (ms.map entOV) : Int) →
    ∃ (ms' : List Mk) (t' : List UInt8) (F' : Nat → Prop) (H' : Heap) (v' : Value), L6_11 k n (.int .i64 (cap : Int)) x1 x2 (.pointer (some ⟨s, 0, none⟩)) (.int .i64 fr) v (.int .i64 z) H = L6_8 k k (.int .i64 (cap : Int)) x1 x2 (.pointer (some ⟨s, 0, none⟩)) v' (.int .i64 0) H' ∧
      Sys d cap D s (es1 ms') t' F' H' ∧ InvE cap (es1 ms') ∧ Ms cap ms' t' ∧ MsD zs ds ms' ∧ OwnF H0.next H' s F' v' 3 intC (ms'.map Mk.i) ∧ Grow H0 H' ∧ Far H0 F'
  | 0, n, i, z, fr, ms, t, F, H, v, hz, hm, hn, hs, hi, h, hmd, hlt, hle, ho, hg, hF, hfr => by
    subst hz
    obtain ⟨n, rfl⟩ : ∃ n', n = n' + 1 := ⟨n - 1, by omega⟩
    have hbig := hd.big
    have w1 := hv1.grow hg
    obtain ⟨H1, e1, g1⟩ := free_run (k := k) hs.sto (by omega) (free_inv hi hbig) (by omega)
    have hl : lens (es1 ms) = lens (ms.map entOV) := by
      rw [es1, lens_append]
      have : ∀ q, lens (List.replicate q Ent.none) = 0 := by intro q; induction q with | zero => rfl | succ q ih => rw [List.replicate_succ, lens_cons, ih]; rfl
      rw [this]; rfl
    rw [hl, ← hfr] at e1
    rw [L6_11]
    simp (disch := first | omega | assumption | (simp only [Yg, Yh, Yi, Yj] <;> omega) | (simp only [Qk, Ql, Qm, Qn, Qo, Qp, Bool.and_self]) | rfl) only [↓Z0, Z1, ↓Z2, ↓Z3, ↓Z4, ↓Z5, ↓Z6, Z7, ↓Z8, ↓Z9, ↓Za, ↓Zb, Zc, ↓Zd, Ze, Zf, decide_true, decide_false, Zg, Zh, Zi, Zj, Zk, Zl, Zm, Zn, Zo, Zp, Zq, Zr, Zs, Zt, Zu, Zv, Zw, Zx, Zy, Zz, Y0, Y1, Y2, Y3, Y4, Y5, Y6, Y7, Y8, Y9, Ya, Yb, Yc, Yd, Ye, Yf, Yg, Yh, Yi, Yj, Yk, Yl, Ym, Yn, Yo, Yp, Yq, Yr, Ys, Yt, Yu, Yv, Nat.zero_add, Nat.add_zero, ne_eq, not_false_eq_true, reduceCtorEq, Nat.reduceAdd, Nat.reduceEqDiff, Nat.succ_ne_self, Yw, Yx, Yy, Yz, Q0, Q1, ↓Q2, Q3, Q4, Q5, Q6, Q7, Q8, Q9, Qa, Qb, Qc, Qd, Qe, Qf, Qg, Qh, Qi, Qj, w1.1, e1]
    exact ⟨ms, t, F, H1, v, rfl, hs.grow hd g1, hi, h, hmd, ho.grow g1, hg.trans g1, hF⟩
  | m + 1, n, i, z, fr, ms, t, F, H, v, hz, hm, hn, hs, hi, h, hmd, hlt, hle, ho, hg, hF, hfr => by
    subst hz
    obtain ⟨n, rfl⟩ : ∃ n', n = n' + 1 := ⟨n - 1, by omega⟩
    have hbig := hd.big
    have hil : i < zs.length := by omega
    have w1 := hv1.grow hg
    obtain ⟨b1, o1, i1, hb1, l1⟩ := w1.one (g := fun z => .int .i64 z) (fun _ => rfl) hil
    have e48 : (48 : Int) + (i : Int) = ((48 + i : Nat) : Int) := by omega
    have hnl : (1 : Int) + (((zs[i].emod 4).toNat : Nat) : Int) = ((lenOf zs i : Nat) : Int) := by
      have : zs.getD i 0 = zs[i] := by rw [List.getD_eq_getElem?_getD, List.getElem?_eq_getElem hil]; rfl
      rw [lenOf, this]; omega
    have hn4 : 1 ≤ lenOf zs i ∧ lenOf zs i ≤ 4 := by
      have h0 : 0 ≤ (zs.getD i 0).emod 4 := Int.emod_nonneg _ (by decide)
      have h8 : (zs.getD i 0).emod 4 < 4 := Int.emod_lt_of_pos _ (by decide)
      unfold lenOf; omega
    generalize hA : H.new (.cells #[.int .u8 ((UInt8.ofNat (48 + i)).toNat : Int)] 5) = A
    have gA : Grow H A := by rw [← hA]; exact (Grow.refl H).new _
    have sA := hs.grow hd gA
    have cA : convBS (.slice (some ⟨H.next, 0, none⟩) 1 1) A = some (str [UInt8.ofNat (48 + i)]) := by rw [← hA]; exact conv_one _ H
    have sc : binS .add (str [118]) (str [UInt8.ofNat (48 + i)]) = some (str (nmV i)) := str_cons [118] [UInt8.ofNat (48 + i)] (by simp)
    have hne : ∀ x ∈ ms, x.i ≠ i := fun x hx => by have := hlt x hx; omega
    obtain ⟨F1, H1, e1, s1, f1⟩ := create_run hd hc (k := k) (by omega) sA hi.wf (nmV i) (lenOf zs i : Int) (by simp [nmV]; omega) (by simp [nmV])
    have hi1 := inv_create hbig hi t (nmV i) (lenOf zs i : Int)
    rw [create_ms h (by omega) (by omega) hn4 hne] at e1 s1 hi1
    obtain ⟨g1, far1⟩ := f1.far (hg.trans gA) (hF.or hsn)
    have far1' : Far H0 F1 := fun n hn => far1 n (.inl hn)
    have o1' := (ho.grow gA).foot f1
    subst hfr
    have b4f : (false == false) = true := rfl
    have b4t : (true == true) = true := rfl
    by_cases hcc : 8 + lens (ms.map entOV) + lenOf zs i ≤ cap
    · rw [if_pos hcc] at e1 s1 hi1
      have hms := ms_create h (hd.len hs.dsk) hc (by omega) (by omega) hn4 hne hcc
      obtain ⟨v2, H2, e2, o2, c2, fr2⟩ := OwnAt.app10 (bytes := 8) (t := 3) (x := i) (c := #[.int .i64 (i : Int)]) (f := intC) (n := 1) (fun _ => rfl) (by decide) (fun _ => rfl) o1'.own rfl (by simp; omega) (by simp; omega) (by have := g1.floor; omega) g1.next
      have s2 := s1.chgO hd c2 fun n hn hh => o1'.free n hh hn
      have g2 : Grow H0 H2 := g1.keep (Nat.le_refl _) (o1'.own.keep c2)
      have n2 := c2.next
      have hF1 : ∀ n, orS s F1 n → n < H1.next := fun n hn => by
        rcases hn with hn | rfl
        · exact hd.lt s1.dsk _ hn
        · exact s1.sto.lt
      have of2 : OwnF H0.next H2 s F1 v2 3 intC (ms.map Mk.i ++ [i]) := ⟨o2, fun q hq hh => by
        have h1 := hF1 q hh
        rcases fr2 q hq with hqv | hqv
        · exact o1'.free q hqv hh
        · omega⟩
      have hmap : ms.map Mk.i ++ [i] = (ms ++ [(⟨i, lenOf zs i, 8 + lens (ms.map entOV), padTo (lenOf zs i * 32) []⟩ : Mk)]).map Mk.i := by simp
      rw [hmap] at of2
      have w2 := hv2.grow g2
      have hlen2 : 8 + lens ((ms ++ [(⟨i, lenOf zs i, 8 + lens (ms.map entOV), padTo (lenOf zs i * 32) []⟩ : Mk)]).map entOV) ≤ cap := hms.cap
      have hlens : lens ((ms ++ [(⟨i, lenOf zs i, 8 + lens (ms.map entOV), padTo (lenOf zs i * 32) []⟩ : Mk)]).map entOV) = lens (ms.map entOV) + lenOf zs i := by rw [List.map_append, lens_append]; simp [lens, entOV]
      rw [L6_11]
      simp (disch := first | omega | assumption | (simp only [Yg, Yh, Yi, Yj] <;> omega) | (simp only [Qk, Ql, Qm, Qn, Qo, Qp, Bool.and_self]) | rfl) only [↓Z0, Z1, ↓Z2, ↓Z3, ↓Z4, ↓Z5, ↓Z6, Z7, ↓Z8, ↓Z9, ↓Za, ↓Zb, Zc, ↓Zd, Ze, Zf, decide_true, decide_false, Zg, Zh, Zi, Zj, Zk, Zl, Zm, Zn, Zo, Zp, Zq, Zr, Zs, Zt, Zu, Zv, Zw, Zx, Zy, Zz, Y0, Y1, Y2, Y3, Y4, Y5, Y6, Y7, Y8, Y9, Ya, Yb, Yc, Yd, Ye, Yf, Yg, Yh, Yi, Yj, Yk, Yl, Ym, Yn, Yo, Yp, Yq, Yr, Ys, Yt, Yu, Yv, Nat.zero_add, Nat.add_zero, ne_eq, not_false_eq_true, reduceCtorEq, Nat.reduceAdd, Nat.reduceEqDiff, Nat.succ_ne_self, Yw, Yx, Yy, Yz, Q0, Q1, ↓Q2, Q3, Q4, Q5, Q6, Q7, Q8, Q9, Qa, Qb, Qc, Qd, Qe, Qf, Qg, Qh, Qi, Qj, w1.1, i1, l1, and3, hnl, e48, conv_byte, build57_1, hA, cA, sc, e1, neq4, b4f, b4t, build54_1, e2, w2.1]
      by_cases hid : i < ds.length
      · obtain ⟨b2, o2', i2, hb2, l2⟩ := w2.one (g := fun b => str b) (fun _ => rfl) hid
        generalize hA2 : H2.new (.cells #[.int .u8 ((UInt8.ofNat (48 + i)).toNat : Int)] 5) = A2
        have gA2 : Grow H2 A2 := by rw [← hA2]; exact (Grow.refl H2).new _
        have nA2 : A2.next = H2.next + 1 := by rw [← hA2]; rfl
        have cA2 : convBS (.slice (some ⟨H2.next, 0, none⟩) 1 1) A2 = some (str [UInt8.ofNat (48 + i)]) := by rw [← hA2]; exact conv_one _ H2
        have l2' : (A2.blk b2).bind (get1 o2') = some (str ds[i]) := by rw [gA2.old b2 hb2]; exact l2
        have hmem : entOV ⟨i, lenOf zs i, 8 + lens (ms.map entOV), padTo (lenOf zs i * 32) []⟩ ∈ vols (es1 (ms ++ [⟨i, lenOf zs i, 8 + lens (ms.map entOV), padTo (lenOf zs i * 32) []⟩])) := mem_es1 (by simp) hn4.1
        obtain ⟨F3, H3, e3, s3, f3⟩ := swrite_run hd (k := k) (by omega) (s2.grow hd gA2) hi1.wf (nmV i) 0 (lenOf zs i : Int) ds[i]
        have hwa := write_all hi1 hmem (setP ms.length ⟨nmV i, 8 + lens (ms.map entOV), lenOf zs i⟩ (wrB t (8 + lens (ms.map entOV)) (lenOf zs i) [])) ds[i]
        simp only [entOV] at hwa
        rw [writeA_eq, hwa] at e3 s3
        obtain ⟨g3, far3⟩ := f3.far (g2.trans gA2) (far1'.or hsn)
        have hms3 := ms_write hms (hd.len s2.dsk) ds[i]
        have hes : es1 (ms ++ [(⟨i, lenOf zs i, 8 + lens (ms.map entOV), padTo (lenOf zs i * 32) []⟩ : Mk)]) = es1 (ms ++ [(⟨i, lenOf zs i, 8 + lens (ms.map entOV), padTo (lenOf zs i * 32) ds[i]⟩ : Mk)]) := by simp [es1, entOV]
        have hmi : (ms ++ [(⟨i, lenOf zs i, 8 + lens (ms.map entOV), padTo (lenOf zs i * 32) []⟩ : Mk)]).map Mk.i = (ms ++ [(⟨i, lenOf zs i, 8 + lens (ms.map entOV), padTo (lenOf zs i * 32) ds[i]⟩ : Mk)]).map Mk.i := by simp
        have hl3 : lens ((ms ++ [(⟨i, lenOf zs i, 8 + lens (ms.map entOV), padTo (lenOf zs i * 32) ds[i]⟩ : Mk)]).map entOV) = lens (ms.map entOV) + lenOf zs i := by rw [List.map_append, lens_append]; simp [lens, entOV]
        have of3 := (of2.grow gA2).foot f3
        rw [hes] at s3 hi1
        rw [hmi] at of3
        simp (disch := first | omega | assumption | (simp only [Yg, Yh, Yi, Yj] <;> omega) | (simp only [Qk, Ql, Qm, Qn, Qo, Qp, Bool.and_self]) | rfl) only [↓Z0, Z1, ↓Z2, ↓Z3, ↓Z4, ↓Z5, ↓Z6, Z7, ↓Z8, ↓Z9, ↓Za, ↓Zb, Zc, ↓Zd, Ze, Zf, decide_true, decide_false, Zg, Zh, Zi, Zj, Zk, Zl, Zm, Zn, Zo, Zp, Zq, Zr, Zs, Zt, Zu, Zv, Zw, Zx, Zy, Zz, Y0, Y1, Y2, Y3, Y4, Y5, Y6, Y7, Y8, Y9, Ya, Yb, Yc, Yd, Ye, Yf, Yg, Yh, Yi, Yj, Yk, Yl, Ym, Yn, Yo, Yp, Yq, Yr, Ys, Yt, Yu, Yv, Nat.zero_add, Nat.add_zero, ne_eq, not_false_eq_true, reduceCtorEq, Nat.reduceAdd, Nat.reduceEqDiff, Nat.succ_ne_self, Yw, Yx, Yy, Yz, Q0, Q1, ↓Q2, Q3, Q4, Q5, Q6, Q7, Q8, Q9, Qa, Qb, Qc, Qd, Qe, Qf, Qg, Qh, Qi, Qj, cA2, sc, i2, l2', e3, J6_10, J6_9]
        exact create_loop hd hc hk h6 hv1 hv2 hds hsn hf0 m n (i + 1) _ _ _ _ F3 H3 v2 rfl (by omega) (by omega) s3 hi1 hms3 (hmd.append ⟨hil, rfl, by
          simp only [dataOf]
          rw [List.getD_eq_getElem?_getD, List.getElem?_eq_getElem hid]; rfl⟩) (fun x hx => by
          rcases List.mem_append.1 hx with hx | hx
          · have := hlt x hx; omega
          · rw [List.mem_singleton.1 hx]; simp only; omega) (by simp; omega) of3 g3 (fun n hn => far3 n (.inl hn)) (by rw [hl3]; omega)
      · simp (disch := first | omega | assumption | (simp only [Yg, Yh, Yi, Yj] <;> omega) | (simp only [Qk, Ql, Qm, Qn, Qo, Qp, Bool.and_self]) | rfl) only [↓Z0, Z1, ↓Z2, ↓Z3, ↓Z4, ↓Z5, ↓Z6, Z7, ↓Z8, ↓Z9, ↓Za, ↓Zb, Zc, ↓Zd, Ze, Zf, decide_true, decide_false, Zg, Zh, Zi, Zj, Zk, Zl, Zm, Zn, Zo, Zp, Zq, Zr, Zs, Zt, Zu, Zv, Zw, Zx, Zy, Zz, Y0, Y1, Y2, Y3, Y4, Y5, Y6, Y7, Y8, Y9, Ya, Yb, Yc, Yd, Ye, Yf, Yg, Yh, Yi, Yj, Yk, Yl, Ym, Yn, Yo, Yp, Yq, Yr, Ys, Yt, Yu, Yv, Nat.zero_add, Nat.add_zero, ne_eq, not_false_eq_true, reduceCtorEq, Nat.reduceAdd, Nat.reduceEqDiff, Nat.succ_ne_self, Yw, Yx, Yy, Yz, Q0, Q1, ↓Q2, Q3, Q4, Q5, Q6, Q7, Q8, Q9, Qa, Qb, Qc, Qd, Qe, Qf, Qg, Qh, Qi, Qj, J6_10, J6_9]
        exact create_loop hd hc hk h6 hv1 hv2 hds hsn hf0 m n (i + 1) _ _ _ _ F1 H2 v2 rfl (by omega) (by omega) s2 hi1 hms (hmd.append ⟨hil, rfl, by
          simp only [dataOf]
          rw [List.getD_eq_getElem?_getD, List.getElem?_eq_none_iff.2 (by omega)]; rfl⟩) (fun x hx => by
          rcases List.mem_append.1 hx with hx | hx
          · have := hlt x hx; omega
          · rw [List.mem_singleton.1 hx]; simp only; omega) (by simp; omega) of2 g2 far1' (by rw [hlens]; omega)
    · rw [if_neg hcc] at e1 s1 hi1
      rw [L6_11]
      simp (disch := first | omega | assumption | (simp only [Yg, Yh, Yi, Yj] <;> omega) | (simp only [Qk, Ql, Qm, Qn, Qo, Qp, Bool.and_self]) | rfl) only [↓Z0, Z1, ↓Z2, ↓Z3, ↓Z4, ↓Z5, ↓Z6, Z7, ↓Z8, ↓Z9, ↓Za, ↓Zb, Zc, ↓Zd, Ze, Zf, decide_true, decide_false, Zg, Zh, Zi, Zj, Zk, Zl, Zm, Zn, Zo, Zp, Zq, Zr, Zs, Zt, Zu, Zv, Zw, Zx, Zy, Zz, Y0, Y1, Y2, Y3, Y4, Y5, Y6, Y7, Y8, Y9, Ya, Yb, Yc, Yd, Ye, Yf, Yg, Yh, Yi, Yj, Yk, Yl, Ym, Yn, Yo, Yp, Yq, Yr, Ys, Yt, Yu, Yv, Nat.zero_add, Nat.add_zero, ne_eq, not_false_eq_true, reduceCtorEq, Nat.reduceAdd, Nat.reduceEqDiff, Nat.succ_ne_self, Yw, Yx, Yy, Yz, Q0, Q1, ↓Q2, Q3, Q4, Q5, Q6, Q7, Q8, Q9, Qa, Qb, Qc, Qd, Qe, Qf, Qg, Qh, Qi, Qj, w1.1, i1, l1, and3, hnl, e48, conv_byte, build57_1, hA, cA, sc, e1, neq4, b4f, b4t, J6_9]
      exact create_loop hd hc hk h6 hv1 hv2 hds hsn hf0 m n (i + 1) _ _ ms t F1 H1 v rfl (by omega) (by omega) s1 hi1 h hmd (fun x hx => by have := hlt x hx; omega) (by omega) o1' g1 far1' rfl
theorem OwnF.el {lo : Nat} {F : Nat → Prop} {H : Heap} {v : Value} {l : List Nat} (h : OwnF lo H s F v 3 intC l) {q : Nat} (hq : q < l.length) : ∃ b o, idxSl 1 v (.int .i64 (q : Int)) = some (.pointer (some ⟨b, o, none⟩)) ∧ (H.blk b).bind (get1 o) = some (.int .i64 (l[q] : Int)) := by
  obtain ⟨b, o, e1, _, _, e2⟩ := SlAt.get (f := intC) (n := 1) (fun _ => rfl) (by decide) (h.own.sl (fun _ => rfl)) hq
  exact ⟨b, o, e1, by simpa [intC] using e2 0 (by decide)⟩
theorem OwnF.len {lo : Nat} {F : Nat → Prop} {H : Heap} {v : Value} {l : List Nat} (h : OwnF lo H s F v 3 intC l) : lenSl v = some (.int .i64 (l.length : Int)) := (h.own.sl (n := 1) (fun _ => rfl)).len
/-- The loop that copies what a volume is to bear. -/
theorem bytes_loop (k : Nat) (nx : Value → Value → Value → Value → Value → Value → Heap → Option (Value × Heap)) (nx' : Value → Value → Value → Value → Value → Value → Value → Value → Value → Value → Value → Heap → Option (Value × Heap)) {x2 : Value} {ds : List (List UInt8)} {i N u : Nat} (x0 x1 x9 x11 x15 x17 x18 : Value) {H0 : Heap} (hv2 : WinAt H0 x2 1 strC ds) (hu : H0.next ≤ u) (hN : N ≤ 1000) (hids : i < 1000000) :
    ∀ (m n j : Nat) (z : Int) (H : Heap), z = j → j + m = N → m < n → Grow H0 H → H.floor ≤ u → H.blk u = some (BB (padTo N ((ds.getD i []).take j))) → j ≤ (ds.getD i []).length →
    L6_7 k nx n x0 x1 x2 x9 x11 x15 (.int .i64 (i : Int)) x17 x18 (.slice (some ⟨u, 0, none⟩) N N) (.int .i64 z) H = J6_5 k nx nx' x0 x1 x2 x9 x11 x15 (.int .i64 (i : Int)) x17 x18 (.slice (some ⟨u, 0, none⟩) N N) (.int .i64 0) (.bool false) undef (H.set u (BB (padTo N (ds.getD i []))))
  | 0, n, j, z, H, hz, hj, hn, hg, hf, hb, hjl => by
    subst hz
    obtain ⟨n, rfl⟩ : ∃ n', n = n' + 1 := ⟨n - 1, by omega⟩
    have w2 := hv2.grow hg
    have hls : lenSl (.slice (some ⟨u, 0, none⟩) N N) = some (.int .i64 (N : Int)) := rfl
    have e : padTo N ((ds.getD i []).take j) = padTo N (ds.getD i []) := by
      have : N = j := by omega
      subst this
      simp only [padTo, List.take_take, Nat.min_self, List.length_take]
      congr 2; omega
    rw [e] at hb
    rw [set_same hb, L6_7]
    by_cases hi : i < ds.length
    · simp (disch := first | omega | assumption | (simp only [Yg, Yh, Yi, Yj] <;> omega) | (simp only [Qk, Ql, Qm, Qn, Qo, Qp, Bool.and_self]) | rfl) only [↓Z0, Z1, ↓Z2, ↓Z3, ↓Z4, ↓Z5, ↓Z6, Z7, ↓Z8, ↓Z9, ↓Za, ↓Zb, Zc, ↓Zd, Ze, Zf, decide_true, decide_false, Zg, Zh, Zi, Zj, Zk, Zl, Zm, Zn, Zo, Zp, Zq, Zr, Zs, Zt, Zu, Zv, Zw, Zx, Zy, Zz, Y0, Y1, Y2, Y3, Y4, Y5, Y6, Y7, Y8, Y9, Ya, Yb, Yc, Yd, Ye, Yf, Yg, Yh, Yi, Yj, Yk, Yl, Ym, Yn, Yo, Yp, Yq, Yr, Ys, Yt, Yu, Yv, Nat.zero_add, Nat.add_zero, ne_eq, not_false_eq_true, reduceCtorEq, Nat.reduceAdd, Nat.reduceEqDiff, Nat.succ_ne_self, Yw, Yx, Yy, Yz, Q0, Q1, ↓Q2, Q3, Q4, Q5, Q6, Q7, Q8, Q9, Qa, Qb, Qc, Qd, Qe, Qf, Qg, Qh, Qi, Qj, w2.1, hls, J6_6, J6_5]
    · simp (disch := first | omega | assumption | (simp only [Yg, Yh, Yi, Yj] <;> omega) | (simp only [Qk, Ql, Qm, Qn, Qo, Qp, Bool.and_self]) | rfl) only [↓Z0, Z1, ↓Z2, ↓Z3, ↓Z4, ↓Z5, ↓Z6, Z7, ↓Z8, ↓Z9, ↓Za, ↓Zb, Zc, ↓Zd, Ze, Zf, decide_true, decide_false, Zg, Zh, Zi, Zj, Zk, Zl, Zm, Zn, Zo, Zp, Zq, Zr, Zs, Zt, Zu, Zv, Zw, Zx, Zy, Zz, Y0, Y1, Y2, Y3, Y4, Y5, Y6, Y7, Y8, Y9, Ya, Yb, Yc, Yd, Ye, Yf, Yg, Yh, Yi, Yj, Yk, Yl, Ym, Yn, Yo, Yp, Yq, Yr, Ys, Yt, Yu, Yv, Nat.zero_add, Nat.add_zero, ne_eq, not_false_eq_true, reduceCtorEq, Nat.reduceAdd, Nat.reduceEqDiff, Nat.succ_ne_self, Yw, Yx, Yy, Yz, Q0, Q1, ↓Q2, Q3, Q4, Q5, Q6, Q7, Q8, Q9, Qa, Qb, Qc, Qd, Qe, Qf, Qg, Qh, Qi, Qj, w2.1, hls, J6_6, J6_5]
  | m + 1, n, j, z, H, hz, hj, hn, hg, hf, hb, hjl => by
    subst hz
    obtain ⟨n, rfl⟩ : ∃ n', n = n' + 1 := ⟨n - 1, by omega⟩
    have w2 := hv2.grow hg
    have hls : lenSl (.slice (some ⟨u, 0, none⟩) N N) = some (.int .i64 (N : Int)) := rfl
    by_cases hi : i < ds.length
    · obtain ⟨b, o, i1, hb1, l1⟩ := w2.one (g := fun b => str b) (fun _ => rfl) hi
      have hgd : ds.getD i [] = ds[i] := by rw [List.getD_eq_getElem?_getD, List.getElem?_eq_getElem hi]; rfl
      rw [hgd] at hb hjl ⊢
      by_cases hjd : j < ds[i].length
      · have hpl : (padTo N (ds[i].take j)).length = N := padTo_len _ _
        have hpb := put_byte (H := H) (n := u) (j := j) (l := padTo N (ds[i].take j)) (x := ds[i][j]) hf (by omega)
        have hset : (padTo N (ds[i].take j)).set j ds[i][j] = padTo N (ds[i].take (j + 1)) := by
          have h1 : (ds[i].take j).take N = ds[i].take j := List.take_of_length_le (by rw [List.length_take]; omega)
          have h2 : (ds[i].take (j + 1)).take N = ds[i].take (j + 1) := List.take_of_length_le (by rw [List.length_take]; omega)
          have h3 : (ds[i].take j).length = j := by rw [List.length_take]; omega
          have h4 : (ds[i].take (j + 1)).length = j + 1 := by rw [List.length_take]; omega
          simp only [padTo]
          rw [h1, h2, h3, h4, List.set_append_right _ _ (by omega), h3, Nat.sub_self, show N - j = (N - (j + 1)) + 1 from by omega, List.replicate_succ, List.set_cons_zero, List.take_succ_eq_append_getElem hjd, List.append_assoc]; rfl
        rw [hset] at hpb
        have ix : idxSl 1 (.slice (some ⟨u, 0, none⟩) N N) (.int .i64 (j : Int)) = some (.pointer (some ⟨u, j, none⟩)) := by rw [Yw (by omega), Nat.zero_add]
        have hix := Y0 hjd
        rw [L6_7]
        simp (disch := first | omega | assumption | (simp only [Yg, Yh, Yi, Yj] <;> omega) | (simp only [Qk, Ql, Qm, Qn, Qo, Qp, Bool.and_self]) | rfl) only [↓Z0, Z1, ↓Z2, ↓Z3, ↓Z4, ↓Z5, ↓Z6, Z7, ↓Z8, ↓Z9, ↓Za, ↓Zb, Zc, ↓Zd, Ze, Zf, decide_true, decide_false, Zg, Zh, Zi, Zj, Zk, Zl, Zm, Zn, Zo, Zp, Zq, Zr, Zs, Zt, Zu, Zv, Zw, Zx, Zy, Zz, Y0, Y1, Y2, Y3, Y4, Y5, Y6, Y7, Y8, Y9, Ya, Yb, Yc, Yd, Ye, Yf, Yg, Yh, Yi, Yj, Yk, Yl, Ym, Yn, Yo, Yp, Yq, Yr, Ys, Yt, Yu, Yv, Nat.zero_add, Nat.add_zero, ne_eq, not_false_eq_true, reduceCtorEq, Nat.reduceAdd, Nat.reduceEqDiff, Nat.succ_ne_self, Yw, Yx, Yy, Yz, Q0, Q1, ↓Q2, Q3, Q4, Q5, Q6, Q7, Q8, Q9, Qa, Qb, Qc, Qd, Qe, Qf, Qg, Qh, Qi, Qj, w2.1, hls, J6_6]
        have := bytes_loop k nx nx' (i := i) x0 x1 x9 x11 x15 x17 x18 hv2 hu hN hids m n (j + 1) _ (H.set u (BB (padTo N (ds[i].take (j + 1))))) rfl (by omega) (by omega) (hg.set hu _) hf (by rw [hgd]; exact Ye rfl) (by rw [hgd]; omega)
        rw [hgd, set_set] at this
        refine Eq.trans ?_ this
        simp (disch := first | omega | assumption | (simp only [Yg, Yh, Yi, Yj] <;> omega) | (simp only [Qk, Ql, Qm, Qn, Qo, Qp, Bool.and_self]) | rfl) only [↓Z0, Z1, ↓Z2, ↓Z3, ↓Z4, ↓Z5, ↓Z6, Z7, ↓Z8, ↓Z9, ↓Za, ↓Zb, Zc, ↓Zd, Ze, Zf, decide_true, decide_false, Zg, Zh, Zi, Zj, Zk, Zl, Zm, Zn, Zo, Zp, Zq, Zr, Zs, Zt, Zu, Zv, Zw, Zx, Zy, Zz, Y0, Y1, Y2, Y3, Y4, Y5, Y6, Y7, Y8, Y9, Ya, Yb, Yc, Yd, Ye, Yf, Yg, Yh, Yi, Yj, Yk, Yl, Ym, Yn, Yo, Yp, Yq, Yr, Ys, Yt, Yu, Yv, Nat.zero_add, Nat.add_zero, ne_eq, not_false_eq_true, reduceCtorEq, Nat.reduceAdd, Nat.reduceEqDiff, Nat.succ_ne_self, Yw, Yx, Yy, Yz, Q0, Q1, ↓Q2, Q3, Q4, Q5, Q6, Q7, Q8, Q9, Qa, Qb, Qc, Qd, Qe, Qf, Qg, Qh, Qi, Qj, J6_5, i1, l1, hix, ix, hb, hpb]
        rfl
      · have e : padTo N (ds[i].take j) = padTo N ds[i] := by rw [List.take_of_length_le (by omega)]
        rw [e] at hb
        rw [set_same hb, L6_7]
        simp (disch := first | omega | assumption | (simp only [Yg, Yh, Yi, Yj] <;> omega) | (simp only [Qk, Ql, Qm, Qn, Qo, Qp, Bool.and_self]) | rfl) only [↓Z0, Z1, ↓Z2, ↓Z3, ↓Z4, ↓Z5, ↓Z6, Z7, ↓Z8, ↓Z9, ↓Za, ↓Zb, Zc, ↓Zd, Ze, Zf, decide_true, decide_false, Zg, Zh, Zi, Zj, Zk, Zl, Zm, Zn, Zo, Zp, Zq, Zr, Zs, Zt, Zu, Zv, Zw, Zx, Zy, Zz, Y0, Y1, Y2, Y3, Y4, Y5, Y6, Y7, Y8, Y9, Ya, Yb, Yc, Yd, Ye, Yf, Yg, Yh, Yi, Yj, Yk, Yl, Ym, Yn, Yo, Yp, Yq, Yr, Ys, Yt, Yu, Yv, Nat.zero_add, Nat.add_zero, ne_eq, not_false_eq_true, reduceCtorEq, Nat.reduceAdd, Nat.reduceEqDiff, Nat.succ_ne_self, Yw, Yx, Yy, Yz, Q0, Q1, ↓Q2, Q3, Q4, Q5, Q6, Q7, Q8, Q9, Qa, Qb, Qc, Qd, Qe, Qf, Qg, Qh, Qi, Qj, w2.1, hls, J6_6]
        simp (disch := first | omega | assumption | (simp only [Yg, Yh, Yi, Yj] <;> omega) | (simp only [Qk, Ql, Qm, Qn, Qo, Qp, Bool.and_self]) | rfl) only [↓Z0, Z1, ↓Z2, ↓Z3, ↓Z4, ↓Z5, ↓Z6, Z7, ↓Z8, ↓Z9, ↓Za, ↓Zb, Zc, ↓Zd, Ze, Zf, decide_true, decide_false, Zg, Zh, Zi, Zj, Zk, Zl, Zm, Zn, Zo, Zp, Zq, Zr, Zs, Zt, Zu, Zv, Zw, Zx, Zy, Zz, Y0, Y1, Y2, Y3, Y4, Y5, Y6, Y7, Y8, Y9, Ya, Yb, Yc, Yd, Ye, Yf, Yg, Yh, Yi, Yj, Yk, Yl, Ym, Yn, Yo, Yp, Yq, Yr, Ys, Yt, Yu, Yv, Nat.zero_add, Nat.add_zero, ne_eq, not_false_eq_true, reduceCtorEq, Nat.reduceAdd, Nat.reduceEqDiff, Nat.succ_ne_self, Yw, Yx, Yy, Yz, Q0, Q1, ↓Q2, Q3, Q4, Q5, Q6, Q7, Q8, Q9, Qa, Qb, Qc, Qd, Qe, Qf, Qg, Qh, Qi, Qj, i1, l1, J6_5]
    · have hgd : ds.getD i [] = [] := by rw [List.getD_eq_getElem?_getD, List.getElem?_eq_none_iff.2 (by omega)]; rfl
      rw [hgd, List.take_nil] at hb
      rw [hgd, set_same hb, L6_7]
      simp (disch := first | omega | assumption | (simp only [Yg, Yh, Yi, Yj] <;> omega) | (simp only [Qk, Ql, Qm, Qn, Qo, Qp, Bool.and_self]) | rfl) only [↓Z0, Z1, ↓Z2, ↓Z3, ↓Z4, ↓Z5, ↓Z6, Z7, ↓Z8, ↓Z9, ↓Za, ↓Zb, Zc, ↓Zd, Ze, Zf, decide_true, decide_false, Zg, Zh, Zi, Zj, Zk, Zl, Zm, Zn, Zo, Zp, Zq, Zr, Zs, Zt, Zu, Zv, Zw, Zx, Zy, Zz, Y0, Y1, Y2, Y3, Y4, Y5, Y6, Y7, Y8, Y9, Ya, Yb, Yc, Yd, Ye, Yf, Yg, Yh, Yi, Yj, Yk, Yl, Ym, Yn, Yo, Yp, Yq, Yr, Ys, Yt, Yu, Yv, Nat.zero_add, Nat.add_zero, ne_eq, not_false_eq_true, reduceCtorEq, Nat.reduceAdd, Nat.reduceEqDiff, Nat.succ_ne_self, Yw, Yx, Yy, Yz, Q0, Q1, ↓Q2, Q3, Q4, Q5, Q6, Q7, Q8, Q9, Qa, Qb, Qc, Qd, Qe, Qf, Qg, Qh, Qi, Qj, w2.1, hls, J6_6, J6_5]
end
end Go.PG

namespace Go.PG
open Go.Proofs

/-! ### Renaming, plainly -/
def es2 (q : Nat) (ms : List Mk) : List Ent := (ms.take q).map entOW ++ ((ms.drop q).map entOV ++ List.replicate (8 - ms.length) Ent.none)
theorem es2_zero (ms : List Mk) : es2 0 ms = es1 ms := by simp [es2, es1]
theorem es2_at {ms : List Mk} {q : Nat} (h : q < ms.length) : es2 q ms = (ms.take q).map entOW ++ entOV ms[q] :: ((ms.drop (q + 1)).map entOV ++ List.replicate (8 - ms.length) Ent.none) := by
  rw [es2, List.drop_eq_getElem_cons h]; rfl
theorem es2_next {ms : List Mk} {q : Nat} (h : q < ms.length) : es2 (q + 1) ms = (ms.take q).map entOW ++ entOW ms[q] :: ((ms.drop (q + 1)).map entOV ++ List.replicate (8 - ms.length) Ent.none) := by
  rw [es2, List.take_succ_eq_append_getElem h, List.map_append, List.append_assoc]; rfl
theorem none_len {q : Nat} {e : Ent} (h : e ∈ List.replicate q Ent.none) (hl : 0 < e.len) : False := by
  rw [List.eq_of_mem_replicate h] at hl; exact absurd hl (by decide)
section
variable {cap : Nat} {ms : List Mk} {t : List UInt8}
theorem Ms.ne (h : Ms cap ms t) {a b : Nat} (ha : a < ms.length) (hb : b < ms.length) (hab : a ≠ b) : ms[a].i ≠ ms[b].i := by
  rcases Nat.lt_or_gt_of_ne hab with h1 | h1
  · exact List.pairwise_iff_getElem.1 h.inj a b ha hb h1
  · exact fun e => List.pairwise_iff_getElem.1 h.inj b a hb ha h1 e.symm
theorem Ms.lt10 (h : Ms cap ms t) {a : Nat} (ha : a < ms.length) : ms[a].i < 10 := by have := h.lt _ (List.getElem_mem ha); omega
theorem Ms.pos (h : Ms cap ms t) {a : Nat} (ha : a < ms.length) : 8 ≤ ms[a].pos ∧ 0 < ms[a].n ∧ ms[a].pos + ms[a].n ≤ cap := by
  obtain ⟨h1, h2, h3⟩ := packed_mem ms 8 h.pk _ (List.getElem_mem ha)
  have := h.cap
  omega
theorem find_V (h : Ms cap ms t) {q : Nat} (hq : q < ms.length) : findE (es2 q ms) (nmV ms[q].i) = some q := by
  rw [es2_at hq, findE, findFrom_at]
  · simp; omega
  · intro e he _
    obtain ⟨m, hm, rfl⟩ := List.mem_map.1 he
    exact fun hh => nmVW _ _ hh.symm
  · exact (h.pos hq).2.1
  · rfl
theorem find_W (h : Ms cap ms t) {q : Nat} (hq : q < ms.length) : findE (es2 q ms) (nmW ms[q].i) = none := by
  refine findFrom_no _ _ _ fun e he hl => ?_
  rcases List.mem_append.1 he with he | he
  · obtain ⟨m, hm, rfl⟩ := List.mem_map.1 he
    obtain ⟨j, hj, rfl⟩ := List.getElem_of_mem hm
    rw [List.length_take] at hj
    rw [List.getElem_take]
    exact fun hh => h.ne (a := j) (b := q) (by omega) hq (by omega) (nmW_inj (h.lt10 (by omega)) (h.lt10 hq) hh)
  · rcases List.mem_append.1 he with he | he
    · obtain ⟨m, hm, rfl⟩ := List.mem_map.1 he
      exact fun hh => nmVW _ _ hh
    · exact (none_len he hl).elim
theorem mem_V (h : Ms cap ms t) {q : Nat} (hq : q < ms.length) : entOV ms[q] ∈ vols (es2 q ms) :=
  mem_vols.2 ⟨by rw [es2_at hq]; simp, (h.pos hq).2.1⟩
theorem mem_W (h : Ms cap ms t) {q : Nat} (hq : q < ms.length) : entOW ms[q] ∈ vols (es2 (q + 1) ms) :=
  mem_vols.2 ⟨by rw [es2_next hq]; simp, (h.pos hq).2.1⟩
theorem rename_ms (h : Ms cap ms t) {q : Nat} (hq : q < ms.length) : renameP (es2 q ms) t (nmV ms[q].i) (nmW ms[q].i) = (0, es2 (q + 1) ms, setP q (entOW ms[q]) t) := by
  have ho : otherP (es2 q ms) (nmV ms[q].i) (nmW ms[q].i) = ((q : Int), 0) := by
    simp only [otherP, find_V h hq, find_W h hq, good_W (h.lt10 hq), if_true]; rfl
  have hlen : ((ms.take q).map entOW).length = q := by rw [List.length_map, List.length_take]; omega
  have hgd : (es2 q ms).getD q Ent.none = entOV ms[q] := by
    rw [es2_at hq, List.getD_eq_getElem?_getD, List.getElem?_append_right (by omega), hlen, Nat.sub_self]; rfl
  have hset : (es2 q ms).set q (entOW ms[q]) = es2 (q + 1) ms := by
    rw [es2_at hq, es2_next hq, List.set_append_right _ _ (by omega), hlen, Nat.sub_self, List.set_cons_zero]
  simp only [renameP, ho, if_true, Int.toNat_natCast, hgd]
  rw [show ({ entOV ms[q] with name := nmW ms[q].i } : Ent) = entOW ms[q] from rfl, hset]
theorem ms_set (h : Ms cap ms t) (ht : t.length = cap * 32) (hc : 8 < cap) {i : Nat} (hi : i < 8) (x : Ent) : Ms cap ms (setP i x t) := ⟨h.pk, h.cap, h.lt, h.inj, fun m hm => by
  obtain ⟨a, ha, rfl⟩ := List.getElem_of_mem hm
  have := h.pos ha
  rw [setP, rdB_other (by omega) (.inr (by omega)), h.rd _ hm], h.len⟩
/-! ### Deleting, plainly -/
def es3 (q : Nat) (ms : List Mk) : List Ent := List.replicate q Ent.none ++ ((ms.drop q).map entOW ++ List.replicate (8 - ms.length) Ent.none)
theorem es3_zero (ms : List Mk) : es3 0 ms = es2 ms.length ms := by simp [es3, es2]
theorem es3_end (h : ms.length ≤ 6) : es3 ms.length ms = List.replicate 8 Ent.none := by
  simp only [es3, List.drop_length, List.map_nil, List.nil_append, List.replicate_append_replicate]
  congr 1; omega
theorem delete_ms (h : Ms cap ms t) {q : Nat} (hq : q < ms.length) (t' : List UInt8) : deleteP (es3 q ms) t' (nmW ms[q].i) = (0, es3 (q + 1) ms, wrB t' q 1 []) := by
  have e : es3 q ms = List.replicate q Ent.none ++ entOW ms[q] :: ((ms.drop (q + 1)).map entOW ++ List.replicate (8 - ms.length) Ent.none) := by
    rw [es3, List.drop_eq_getElem_cons hq]; rfl
  have hf : findE (es3 q ms) (nmW ms[q].i) = some q := by
    rw [e, findE, findFrom_at]
    · simp
    · exact fun e he hl => (none_len he hl).elim
    · exact (h.pos hq).2.1
    · rfl
  have hset : (es3 q ms).set q Ent.none = es3 (q + 1) ms := by
    rw [e, List.set_append_right _ _ (by simp), List.length_replicate, Nat.sub_self, List.set_cons_zero, es3, List.replicate_succ', List.append_assoc]; rfl
  simp only [deleteP, hf, hset]
end
section
variable {K : Nat} {d : Value} {cap : Nat} {D : DiskP} {s : Nat}
theorem delete_loop (hd : DiskOk K d cap D) (hc : 8 < cap) {k : Nat} (hk : K + 1300 ≤ k) {lo : Nat} {ms : List Mk} {t0 : List UInt8} (hms : Ms cap ms t0) :
    ∀ (m n q : Nat) (z : Int) (t : List UInt8) (F : Nat → Prop) (H : Heap) (v : Value), z = q → q + m = ms.length → m < n → Sys d cap D s (es3 q ms) t F H → OwnF lo H s F v 3 intC (ms.map Mk.i) →
    ∃ H', L6_0 k n (.int .i64 (cap : Int)) (.pointer (some ⟨s, 0, none⟩)) v (.int .i64 z) H = some (.bool true, H')
  | 0, n, q, z, t, F, H, v, hz, hm, hn, hs, ho => by
    subst hz
    obtain ⟨n, rfl⟩ : ∃ n', n = n' + 1 := ⟨n - 1, by omega⟩
    have hbig := hd.big
    have hq : q = ms.length := by omega
    subst hq
    rw [es3_end hms.len] at hs
    obtain ⟨H1, e1, g1⟩ := free_run (k := k) hs.sto (by omega) (by decide) (by omega)
    obtain ⟨w, H2, e2, o2, g2⟩ := vols_run (k := k) (hs.grow hd g1).sto (by omega)
    have hl0 : ((cap : Int) - 8 - (lens (List.replicate 8 Ent.none) : Int)) = (cap : Int) - 8 := by
      have : lens (List.replicate 8 Ent.none) = 0 := by decide
      omega
    rw [hl0] at e1
    have hvl : lenSl w = some (.int .i64 0) := by
      have := (o2.sl entC_len).len
      rw [show (vols (List.replicate 8 Ent.none)).length = 0 from by decide] at this
      exact this
    have hlen := ho.len
    rw [List.length_map] at hlen
    rw [L6_0]
    simp (disch := first | omega | assumption | (simp only [Yg, Yh, Yi, Yj] <;> omega) | (simp only [Qk, Ql, Qm, Qn, Qo, Qp, Bool.and_self]) | rfl) only [↓Z0, Z1, ↓Z2, ↓Z3, ↓Z4, ↓Z5, ↓Z6, Z7, ↓Z8, ↓Z9, ↓Za, ↓Zb, Zc, ↓Zd, Ze, Zf, decide_true, decide_false, Zg, Zh, Zi, Zj, Zk, Zl, Zm, Zn, Zo, Zp, Zq, Zr, Zs, Zt, Zu, Zv, Zw, Zx, Zy, Zz, Y0, Y1, Y2, Y3, Y4, Y5, Y6, Y7, Y8, Y9, Ya, Yb, Yc, Yd, Ye, Yf, Yg, Yh, Yi, Yj, Yk, Yl, Ym, Yn, Yo, Yp, Yq, Yr, Ys, Yt, Yu, Yv, Nat.zero_add, Nat.add_zero, ne_eq, not_false_eq_true, reduceCtorEq, Nat.reduceAdd, Nat.reduceEqDiff, Nat.succ_ne_self, Yw, Yx, Yy, Yz, Q0, Q1, ↓Q2, Q3, Q4, Q5, Q6, Q7, Q8, Q9, Qa, Qb, Qc, Qd, Qe, Qf, Qg, Qh, Qi, Qj, hlen, e1, e2, hvl]
    exact ⟨_, rfl⟩
  | m + 1, n, q, z, t, F, H, v, hz, hm, hn, hs, ho => by
    subst hz
    obtain ⟨n, rfl⟩ : ∃ n', n = n' + 1 := ⟨n - 1, by omega⟩
    have hbig := hd.big
    have hq : q < ms.length := by omega
    have h6 := hms.len
    obtain ⟨b, o, i1, l1⟩ := ho.el (q := q) (by rw [List.length_map]; exact hq)
    rw [List.getElem_map] at l1
    have hi10 := hms.lt10 hq
    have hlen := ho.len
    rw [List.length_map] at hlen
    have e48 : (48 : Int) + (ms[q].i : Int) = ((48 + ms[q].i : Nat) : Int) := by omega
    generalize hA : H.new (.cells #[.int .u8 ((UInt8.ofNat (48 + ms[q].i)).toNat : Int)] 5) = A
    have gA : Grow H A := by rw [← hA]; exact (Grow.refl H).new _
    have cA : convBS (.slice (some ⟨H.next, 0, none⟩) 1 1) A = some (str [UInt8.ofNat (48 + ms[q].i)]) := by rw [← hA]; exact conv_one _ H
    have sc : binS .add (str [119, 118]) (str [UInt8.ofNat (48 + ms[q].i)]) = some (str (nmW ms[q].i)) := str_cons [119, 118] [UInt8.ofNat (48 + ms[q].i)] (by simp)
    obtain ⟨F1, H1, e1, s1, f1⟩ := delete_run hd hc (k := k) (by omega) (hs.grow hd gA) (nmW ms[q].i)
    rw [delete_ms hms hq] at e1 s1
    rw [L6_0]
    simp (disch := first | omega | assumption | (simp only [Yg, Yh, Yi, Yj] <;> omega) | (simp only [Qk, Ql, Qm, Qn, Qo, Qp, Bool.and_self]) | rfl) only [↓Z0, Z1, ↓Z2, ↓Z3, ↓Z4, ↓Z5, ↓Z6, Z7, ↓Z8, ↓Z9, ↓Za, ↓Zb, Zc, ↓Zd, Ze, Zf, decide_true, decide_false, Zg, Zh, Zi, Zj, Zk, Zl, Zm, Zn, Zo, Zp, Zq, Zr, Zs, Zt, Zu, Zv, Zw, Zx, Zy, Zz, Y0, Y1, Y2, Y3, Y4, Y5, Y6, Y7, Y8, Y9, Ya, Yb, Yc, Yd, Ye, Yf, Yg, Yh, Yi, Yj, Yk, Yl, Ym, Yn, Yo, Yp, Yq, Yr, Ys, Yt, Yu, Yv, Nat.zero_add, Nat.add_zero, ne_eq, not_false_eq_true, reduceCtorEq, Nat.reduceAdd, Nat.reduceEqDiff, Nat.succ_ne_self, Yw, Yx, Yy, Yz, Q0, Q1, ↓Q2, Q3, Q4, Q5, Q6, Q7, Q8, Q9, Qa, Qb, Qc, Qd, Qe, Qf, Qg, Qh, Qi, Qj, hlen, i1, l1, e48, conv_byte, build57_1, hA, cA, sc, e1]
    exact delete_loop hd hc hk hms m n (q + 1) _ _ F1 H1 v rfl (by omega) (by omega) s1 ((ho.grow gA).foot f1)
theorem read_loop (hd : DiskOk K d cap D) (hc : 8 < cap) {k : Nat} (hk : K + 1300 ≤ k) {H0 : Heap} {x1 x2 : Value} {zs : List Int} {ds : List (List UInt8)} (hv1 : WinAt H0 x1 1 intZ zs) (hv2 : WinAt H0 x2 1 strC ds) (hds : ds.length < 9223372036854775808) (hsn : H0.next ≤ s) (hf0 : H0.floor ≤ H0.next) {ms : List Mk} (hmd : MsD zs ds ms) :
    ∀ (m n q : Nat) (z : Int) (t : List UInt8) (F : Nat → Prop) (H : Heap) (v : Value), z = q → q + m = ms.length → m < n → Sys d cap D s (es2 q ms) t F H → InvE cap (es2 q ms) → Ms cap ms t → OwnF H0.next H s F v 3 intC (ms.map Mk.i) → Grow H0 H → Far H0 F →
    ∃ H', L6_8 k n (.int .i64 (cap : Int)) x1 x2 (.pointer (some ⟨s, 0, none⟩)) v (.int .i64 z) H = some (.bool true, H')
  | 0, n, q, z, t, F, H, v, hz, hm, hn, hs, hi, h, ho, hg, hF => by
    subst hz
    obtain ⟨n, rfl⟩ : ∃ n', n = n' + 1 := ⟨n - 1, by omega⟩
    have hq : q = ms.length := by omega
    subst hq
    have h6 := h.len
    have hlen := ho.len
    rw [List.length_map] at hlen
    obtain ⟨H', e⟩ := delete_loop hd hc hk h ms.length k 0 _ t F H v rfl (by omega) (by omega) (by rw [es3_zero]; exact hs) ho
    have e : L6_0 k k (.int .i64 (cap : Int)) (.pointer (some ⟨s, 0, none⟩)) v (.int .i64 0) H = _ := e
    rw [L6_8]
    simp (disch := first | omega | assumption | (simp only [Yg, Yh, Yi, Yj] <;> omega) | (simp only [Qk, Ql, Qm, Qn, Qo, Qp, Bool.and_self]) | rfl) only [↓Z0, Z1, ↓Z2, ↓Z3, ↓Z4, ↓Z5, ↓Z6, Z7, ↓Z8, ↓Z9, ↓Za, ↓Zb, Zc, ↓Zd, Ze, Zf, decide_true, decide_false, Zg, Zh, Zi, Zj, Zk, Zl, Zm, Zn, Zo, Zp, Zq, Zr, Zs, Zt, Zu, Zv, Zw, Zx, Zy, Zz, Y0, Y1, Y2, Y3, Y4, Y5, Y6, Y7, Y8, Y9, Ya, Yb, Yc, Yd, Ye, Yf, Yg, Yh, Yi, Yj, Yk, Yl, Ym, Yn, Yo, Yp, Yq, Yr, Ys, Yt, Yu, Yv, Nat.zero_add, Nat.add_zero, ne_eq, not_false_eq_true, reduceCtorEq, Nat.reduceAdd, Nat.reduceEqDiff, Nat.succ_ne_self, Yw, Yx, Yy, Yz, Q0, Q1, ↓Q2, Q3, Q4, Q5, Q6, Q7, Q8, Q9, Qa, Qb, Qc, Qd, Qe, Qf, Qg, Qh, Qi, Qj, hlen, e]
    exact ⟨_, rfl⟩
  | m + 1, n, q, z, t, F, H, v, hz, hm, hn, hs, hi, h, ho, hg, hF => by
    subst hz
    obtain ⟨n, rfl⟩ : ∃ n', n = n' + 1 := ⟨n - 1, by omega⟩
    have hbig := hd.big
    have hq : q < ms.length := by omega
    have h6 := h.len
    obtain ⟨hiz, hmn, hmdat⟩ := hmd.n _ (List.getElem_mem hq)
    have hp := h.pos hq
    have w1 := hv1.grow hg
    obtain ⟨b, o, i1, l1⟩ := ho.el (q := q) (by rw [List.length_map]; exact hq)
    rw [List.getElem_map] at l1
    have hi10 := h.lt10 hq
    have hlen := ho.len
    rw [List.length_map] at hlen
    have e48 : (48 : Int) + (ms[q].i : Int) = ((48 + ms[q].i : Nat) : Int) := by omega
    generalize hA : H.new (.cells #[.int .u8 ((UInt8.ofNat (48 + ms[q].i)).toNat : Int)] 5) = A
    have gA : Grow H A := by rw [← hA]; exact (Grow.refl H).new _
    have nA : A.next = H.next + 1 := by rw [← hA]; rfl
    have cA : convBS (.slice (some ⟨H.next, 0, none⟩) 1 1) A = some (str [UInt8.ofNat (48 + ms[q].i)]) := by rw [← hA]; exact conv_one _ H
    have sc : binS .add (str [118]) (str [UInt8.ofNat (48 + ms[q].i)]) = some (str (nmV ms[q].i)) := str_cons [118] [UInt8.ofNat (48 + ms[q].i)] (by simp)
    have scw : binS .add (str [119]) (str (nmV ms[q].i)) = some (str (nmW ms[q].i)) := str_cons [119] (nmV ms[q].i) (by simp [nmV])
    obtain ⟨b1, o1, i2, hb1, l2⟩ := w1.one (g := fun z => .int .i64 z) (fun _ => rfl) hiz
    have l2' : (A.blk b1).bind (get1 o1) = some (.int .i64 zs[ms[q].i]) := by rw [gA.old b1 hb1]; exact l2
    have hnl : (1 : Int) + (((zs[ms[q].i].emod 4).toNat : Nat) : Int) = (ms[q].n : Int) := by
      have : zs.getD ms[q].i 0 = zs[ms[q].i] := by rw [List.getD_eq_getElem?_getD, List.getElem?_eq_getElem hiz]; rfl
      rw [hmn, lenOf, this]; omega
    have hn4 : ms[q].n ≤ 4 := by
      have h8 : (zs.getD ms[q].i 0).emod 4 < 4 := Int.emod_lt_of_pos _ (by decide)
      have h0 : 0 ≤ (zs.getD ms[q].i 0).emod 4 := Int.emod_nonneg _ (by decide)
      rw [hmn]; unfold lenOf; omega
    have hn32 : (ms[q].n : Int) * 32 = ((ms[q].n * 32 : Nat) : Int) := by omega
    have mk := mkSl_bytes (n := ms[q].n * 32) (by omega) A
    generalize hB : A.new (BB (List.replicate (ms[q].n * 32) 0)) = B
    have gB : Grow A B := by rw [← hB]; exact (Grow.refl A).new _
    have nB : B.next = A.next + 1 := by rw [← hB]; rfl
    have bB : B.blk A.next = some (BB (List.replicate (ms[q].n * 32) 0)) := by rw [← hB, Y9]
    have hgA := hg.trans gA
    have hgB := hgA.trans gB
    have nH := hg.next
    have sB := (hs.grow hd gA).grow hd gB
    rw [zero_BB, hB] at mk
    have bl := bytes_loop k (L6_8 k n) (fun _ _ _ _ _ _ _ _ _ _ _ _ => none) (i := ms[q].i) (N := ms[q].n * 32) (u := A.next) (.int .i64 (cap : Int)) x1 (.pointer (some ⟨s, 0, none⟩)) v (.int .i64 (q : Int)) (str (nmV ms[q].i)) (.int .i64 (ms[q].n : Int)) hv2 (by omega) (by omega) (by omega) (ms[q].n * 32) k 0 _ B rfl (by omega) (by omega) hgB (by have := hgB.floor; omega) (by rw [List.take_zero, show padTo (ms[q].n * 32) [] = List.replicate (ms[q].n * 32) 0 from by simp [padTo]]; exact bB) (Nat.zero_le _)
    have bl : L6_7 k (L6_8 k n) k (.int .i64 (cap : Int)) x1 x2 (.pointer (some ⟨s, 0, none⟩)) v (.int .i64 (q : Int)) (.int .i64 (ms[q].i : Int)) (str (nmV ms[q].i)) (.int .i64 (ms[q].n : Int)) (.slice (some ⟨A.next, 0, none⟩) (ms[q].n * 32) (ms[q].n * 32)) (.int .i64 0) B = _ := bl
    have hdat : padTo (ms[q].n * 32) (ds.getD ms[q].i []) = ms[q].data := by rw [hmdat]; rfl
    rw [hdat] at bl
    generalize hC : B.set A.next (BB ms[q].data) = C at bl
    have gC : Grow A C := by rw [← hC]; exact gB.set (Nat.le_refl _) _
    have nC : C.next = A.next + 1 := by rw [← hC]; exact nB
    have bC : C.blk A.next = some (BB ms[q].data) := by rw [← hC]; exact Ye rfl
    have sC := (hs.grow hd gA).grow hd gC
    have oC := (ho.grow gA).grow gC
    -- Read
    obtain ⟨F1, H1, e1, s1, f1⟩ := sread_run hd (k := k) (by omega) sC hi.wf (nmV ms[q].i) 0 (ms[q].n : Int)
    have r1 := read_all hi (mem_V h hq) t
    simp only [entOV] at r1
    rw [readA_eq, r1, ansV, h.rd _ (List.getElem_mem hq)] at e1
    have aF : ¬ orS s F A.next := fun hh => by
      rcases hh with hh | hh
      · have := hd.lt hs.dsk _ hh; omega
      · have := hs.sto.lt; omega
    have n1 := f1.chg.next
    have b1' := f1.chg.eqBlk bC (by omega) aF
    have aF1 : ¬ orS s F1 A.next := fun hh => by
      rcases f1.new _ hh with hh | hh
      · exact aF hh
      · omega
    -- Rename
    obtain ⟨F2, H2, e2, s2, f2⟩ := rename_run hd hc (k := k) (by omega) s1 hi.wf (nmV ms[q].i) (nmW ms[q].i) (by simp [nmW]; omega) (by simp [nmW])
    have hi2 := inv_rename hi t (nmV ms[q].i) (nmW ms[q].i)
    rw [rename_ms h hq] at e2 s2 hi2
    have n2 := f2.chg.next
    have b2' := f2.chg.eqBlk b1' (by omega) aF1
    have aF2 : ¬ orS s F2 A.next := fun hh => by
      rcases f2.new _ hh with hh | hh
      · exact aF1 hh
      · omega
    have hms2 := ms_set h (hd.len hs.dsk) hc (i := q) (by omega) (entOW ms[q])
    -- Read again
    obtain ⟨F3, H3, e3, s3, f3⟩ := sread_run hd (k := k) (by omega) s2 hi2.wf (nmW ms[q].i) 0 (ms[q].n : Int)
    have r3 := read_all hi2 (mem_W h hq) (setP q (entOW ms[q]) t)
    simp only [entOW] at r3
    have hrd2 := hms2.rd _ (List.getElem_mem hq)
    simp only [entOW] at hrd2
    rw [readA_eq] at e3
    simp only [entOW] at e3
    rw [r3, ansV, hrd2] at e3
    have n3 := f3.chg.next
    have b3' := f3.chg.eqBlk b2' (by omega) aF2
    have hdl : ms[q].data.length = ms[q].n * 32 := by rw [hmdat]; exact padTo_len _ _
    have cB : convBS (.slice (some ⟨A.next, 0, none⟩) (ms[q].n * 32) (ms[q].n * 32)) H3 = some (str ms[q].data) := by
      have := (SlAt.BB (len := ms[q].n * 32) (cap := ms[q].n * 32) (o := 0) b3' (by omega) (Nat.le_refl _) (by omega)).str
      rwa [List.drop_zero, List.take_of_length_le (by omega)] at this
    have f123 := (f1.trans f2).trans f3
    obtain ⟨g3, far3⟩ := f123.far (hgA.trans gC) (hF.or hsn)
    rw [L6_8]
    simp (disch := first | omega | assumption | (simp only [Yg, Yh, Yi, Yj] <;> omega) | (simp only [Qk, Ql, Qm, Qn, Qo, Qp, Bool.and_self]) | rfl) only [↓Z0, Z1, ↓Z2, ↓Z3, ↓Z4, ↓Z5, ↓Z6, Z7, ↓Z8, ↓Z9, ↓Za, ↓Zb, Zc, ↓Zd, Ze, Zf, decide_true, decide_false, Zg, Zh, Zi, Zj, Zk, Zl, Zm, Zn, Zo, Zp, Zq, Zr, Zs, Zt, Zu, Zv, Zw, Zx, Zy, Zz, Y0, Y1, Y2, Y3, Y4, Y5, Y6, Y7, Y8, Y9, Ya, Yb, Yc, Yd, Ye, Yf, Yg, Yh, Yi, Yj, Yk, Yl, Ym, Yn, Yo, Yp, Yq, Yr, Ys, Yt, Yu, Yv, Nat.zero_add, Nat.add_zero, ne_eq, not_false_eq_true, reduceCtorEq, Nat.reduceAdd, Nat.reduceEqDiff, Nat.succ_ne_self, Yw, Yx, Yy, Yz, Q0, Q1, ↓Q2, Q3, Q4, Q5, Q6, Q7, Q8, Q9, Qa, Qb, Qc, Qd, Qe, Qf, Qg, Qh, Qi, Qj, hlen, i1, l1, e48, conv_byte, build57_1, hA, cA, sc, i2, l2', and3, hnl, hn32, mk, bl, J6_5, e1, scw, e2, e3, J6_4, J6_3, J6_2, J6_1, cB]
    exact read_loop hd hc hk hv1 hv2 hds hsn hf0 hmd m n (q + 1) _ _ F3 H3 v rfl (by omega) (by omega) s3 hi2 hms2 (oC.foot f123) g3 (fun n hn => far3 n (.inl hn))
theorem whole_run {c : Int} (hc : -9223372036854775808 ≤ c ∧ c < 9223372036854775808) {x1 x2 : Value} {zs : List Int} {ds : List (List UInt8)} (hzs : zs.length < 9223372036854775808) (hds : ds.length < 9223372036854775808) (H : Heap) (hf : H.floor ≤ H.next) (hv1 : WinAt H x1 1 intZ zs) (hv2 : WinAt H x2 1 strC ds) : ∃ H', run Tryz.prog 5001 6 #[.int .i64 c, x1, x2] H = some (.bool true, H') := by
  obtain ⟨H1, e1, g1⟩ := awake_run (k := 5000) (by omega) H hf
  have n1 := g1.next; have f1 := g1.floor
  rw [run6, F6]
  by_cases hcc : 1 ≤ c ∧ c ≤ 512
  · obtain ⟨c, rfl⟩ : ∃ x : Nat, c = x := ⟨c.toNat, by omega⟩
    obtain ⟨p, F2, H2, e2, d2, g2, far2⟩ := new_run (k := 5000) (by omega) c (by omega) (by omega) H1 (by omega)
    have hd := arr_ok p c (by omega)
    have n2 := g2.next; have f2 := g2.floor
    have w1 := hv1.grow (g1.trans g2)
    by_cases h9 : c < 9
    · simp (disch := first | omega | assumption | (simp only [Yg, Yh, Yi, Yj] <;> omega) | (simp only [Qk, Ql, Qm, Qn, Qo, Qp, Bool.and_self]) | rfl) only [↓Z0, Z1, ↓Z2, ↓Z3, ↓Z4, ↓Z5, ↓Z6, Z7, ↓Z8, ↓Z9, ↓Za, ↓Zb, Zc, ↓Zd, Ze, Zf, decide_true, decide_false, Zg, Zh, Zi, Zj, Zk, Zl, Zm, Zn, Zo, Zp, Zq, Zr, Zs, Zt, Zu, Zv, Zw, Zx, Zy, Zz, Y0, Y1, Y2, Y3, Y4, Y5, Y6, Y7, Y8, Y9, Ya, Yb, Yc, Yd, Ye, Yf, Yg, Yh, Yi, Yj, Yk, Yl, Ym, Yn, Yo, Yp, Yq, Yr, Ys, Yt, Yu, Yv, Nat.zero_add, Nat.add_zero, ne_eq, not_false_eq_true, reduceCtorEq, Nat.reduceAdd, Nat.reduceEqDiff, Nat.succ_ne_self, Yw, Yx, Yy, Yz, Q0, Q1, ↓Q2, Q3, Q4, Q5, Q6, Q7, Q8, Q9, Qa, Qb, Qc, Qd, Qe, Qf, Qg, Qh, Qi, Qj, e1, e2, J6_14, J6_13, J6_12]
      exact ⟨_, rfl⟩
    · by_cases h64 : 64 < c
      · simp (disch := first | omega | assumption | (simp only [Yg, Yh, Yi, Yj] <;> omega) | (simp only [Qk, Ql, Qm, Qn, Qo, Qp, Bool.and_self]) | rfl) only [↓Z0, Z1, ↓Z2, ↓Z3, ↓Z4, ↓Z5, ↓Z6, Z7, ↓Z8, ↓Z9, ↓Za, ↓Zb, Zc, ↓Zd, Ze, Zf, decide_true, decide_false, Zg, Zh, Zi, Zj, Zk, Zl, Zm, Zn, Zo, Zp, Zq, Zr, Zs, Zt, Zu, Zv, Zw, Zx, Zy, Zz, Y0, Y1, Y2, Y3, Y4, Y5, Y6, Y7, Y8, Y9, Ya, Yb, Yc, Yd, Ye, Yf, Yg, Yh, Yi, Yj, Yk, Yl, Ym, Yn, Yo, Yp, Yq, Yr, Ys, Yt, Yu, Yv, Nat.zero_add, Nat.add_zero, ne_eq, not_false_eq_true, reduceCtorEq, Nat.reduceAdd, Nat.reduceEqDiff, Nat.succ_ne_self, Yw, Yx, Yy, Yz, Q0, Q1, ↓Q2, Q3, Q4, Q5, Q6, Q7, Q8, Q9, Qa, Qb, Qc, Qd, Qe, Qf, Qg, Qh, Qi, Qj, e1, e2, J6_14, J6_13, J6_12]
        exact ⟨_, rfl⟩
      · by_cases h6 : 6 < zs.length
        · simp (disch := first | omega | assumption | (simp only [Yg, Yh, Yi, Yj] <;> omega) | (simp only [Qk, Ql, Qm, Qn, Qo, Qp, Bool.and_self]) | rfl) only [↓Z0, Z1, ↓Z2, ↓Z3, ↓Z4, ↓Z5, ↓Z6, Z7, ↓Z8, ↓Z9, ↓Za, ↓Zb, Zc, ↓Zd, Ze, Zf, decide_true, decide_false, Zg, Zh, Zi, Zj, Zk, Zl, Zm, Zn, Zo, Zp, Zq, Zr, Zs, Zt, Zu, Zv, Zw, Zx, Zy, Zz, Y0, Y1, Y2, Y3, Y4, Y5, Y6, Y7, Y8, Y9, Ya, Yb, Yc, Yd, Ye, Yf, Yg, Yh, Yi, Yj, Yk, Yl, Ym, Yn, Yo, Yp, Yq, Yr, Ys, Yt, Yu, Yv, Nat.zero_add, Nat.add_zero, ne_eq, not_false_eq_true, reduceCtorEq, Nat.reduceAdd, Nat.reduceEqDiff, Nat.succ_ne_self, Yw, Yx, Yy, Yz, Q0, Q1, ↓Q2, Q3, Q4, Q5, Q6, Q7, Q8, Q9, Qa, Qb, Qc, Qd, Qe, Qf, Qg, Qh, Qi, Qj, e1, e2, J6_14, J6_13, J6_12, w1.1]
          exact ⟨_, rfl⟩
        · obtain ⟨s, F4, H4, e4, s4, ff4, hs4⟩ := open_run hd (by omega) (k := 5000) (by omega) d2 (by omega)
          rw [openE_zero (by omega)] at s4
          have far1 : Far H F2 := fun n hn => by have := far2 n hn; omega
          obtain ⟨g4, far4⟩ := ff4.far (g1.trans g2) far1
          obtain ⟨ms, t, F5, H5, v, e5, s5, i5, m5, d5, o5, g5, far5⟩ := create_loop hd (by omega) (k := 5000) (by omega) (H0 := H) (by omega) hv1 hv2 hds (by omega) hf zs.length 5000 0 _ ((c : Int) - 8) [] _ F4 H4 (.slice none 0 0) rfl (by omega) (by omega) s4 inv_none ⟨trivial, by simp [lens]; omega, fun m hm => by simp at hm, List.Pairwise.nil, fun m hm => by simp at hm, by simp⟩ ⟨fun m hm => by simp at hm⟩ (fun x hx => by simp at hx) (Nat.zero_le _) ⟨.inl ⟨rfl, rfl⟩, fun m hm => by obtain ⟨_, hm⟩ := hm; cases hm⟩ g4 far4 (by simp [lens])
          have e5 : L6_11 5000 5000 (.int .i64 (c : Int)) x1 x2 (.pointer (some ⟨s, 0, none⟩)) (.int .i64 ((c : Int) - 8)) (.slice none 0 0) (.int .i64 0) H4 = _ := e5
          obtain ⟨H', e6⟩ := read_loop hd (by omega) (k := 5000) (by omega) (H0 := H) hv1 hv2 hds (by omega) hf d5 ms.length 5000 0 _ t F5 H5 v rfl (by omega) (by have := m5.len; omega) (by rw [es2_zero]; exact s5) (by rw [es2_zero]; exact i5) m5 o5 g5 far5
          have e6 : L6_8 5000 5000 (.int .i64 (c : Int)) x1 x2 (.pointer (some ⟨s, 0, none⟩)) v (.int .i64 0) H5 = _ := e6
          simp (disch := first | omega | assumption | (simp only [Yg, Yh, Yi, Yj] <;> omega) | (simp only [Qk, Ql, Qm, Qn, Qo, Qp, Bool.and_self]) | rfl) only [↓Z0, Z1, ↓Z2, ↓Z3, ↓Z4, ↓Z5, ↓Z6, Z7, ↓Z8, ↓Z9, ↓Za, ↓Zb, Zc, ↓Zd, Ze, Zf, decide_true, decide_false, Zg, Zh, Zi, Zj, Zk, Zl, Zm, Zn, Zo, Zp, Zq, Zr, Zs, Zt, Zu, Zv, Zw, Zx, Zy, Zz, Y0, Y1, Y2, Y3, Y4, Y5, Y6, Y7, Y8, Y9, Ya, Yb, Yc, Yd, Ye, Yf, Yg, Yh, Yi, Yj, Yk, Yl, Ym, Yn, Yo, Yp, Yq, Yr, Ys, Yt, Yu, Yv, Nat.zero_add, Nat.add_zero, ne_eq, not_false_eq_true, reduceCtorEq, Nat.reduceAdd, Nat.reduceEqDiff, Nat.succ_ne_self, Yw, Yx, Yy, Yz, Q0, Q1, ↓Q2, Q3, Q4, Q5, Q6, Q7, Q8, Q9, Qa, Qb, Qc, Qd, Qe, Qf, Qg, Qh, Qi, Qj, e1, e2, J6_14, J6_13, J6_12, w1.1, e4, e5, e6]
          exact ⟨H', rfl⟩
  · have e2 := new_bad (k := 4999) c hcc H1
    simp (disch := first | omega | assumption | (simp only [Yg, Yh, Yi, Yj] <;> omega) | (simp only [Qk, Ql, Qm, Qn, Qo, Qp, Bool.and_self]) | rfl) only [↓Z0, Z1, ↓Z2, ↓Z3, ↓Z4, ↓Z5, ↓Z6, Z7, ↓Z8, ↓Z9, ↓Za, ↓Zb, Zc, ↓Zd, Ze, Zf, decide_true, decide_false, Zg, Zh, Zi, Zj, Zk, Zl, Zm, Zn, Zo, Zp, Zq, Zr, Zs, Zt, Zu, Zv, Zw, Zx, Zy, Zz, Y0, Y1, Y2, Y3, Y4, Y5, Y6, Y7, Y8, Y9, Ya, Yb, Yc, Yd, Ye, Yf, Yg, Yh, Yi, Yj, Yk, Yl, Ym, Yn, Yo, Yp, Yq, Yr, Ys, Yt, Yu, Yv, Nat.zero_add, Nat.add_zero, ne_eq, not_false_eq_true, reduceCtorEq, Nat.reduceAdd, Nat.reduceEqDiff, Nat.succ_ne_self, Yw, Yx, Yy, Yz, Q0, Q1, ↓Q2, Q3, Q4, Q5, Q6, Q7, Q8, Q9, Qa, Qb, Qc, Qd, Qe, Qf, Qg, Qh, Qi, Qj, e1, e2, J6_14, J6_13, J6_12]
    exact ⟨_, rfl⟩
end
end Go.PG
