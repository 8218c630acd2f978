/- Part 5 of the lemmas behind RowVolWhole: SpRune, SpUtf, SpGood, SpGood2, SpGood3, SpRead, Pf23, Pf24, SpVols, SpSys, SpRoom, SpCreate, SpOpen, SpNew, SpMem, SpAwake, SpInv. No condition beyond those that each lemma names. -/
import Derived.Test.YtcddeopioaagoaaGreatVw4
import Derived.Test.YtcddeopioaagoaaGreatProg

set_option linter.unusedVariables false
set_option linter.unusedSimpArgs false
set_option linter.unusedSectionVars false
namespace Go.PG
open Go.Proofs

def okRune (n v : Nat) : Bool := !((n == 3 && (decide (v < 2048) || (decide (55296 ≤ v) && decide (v < 57344)))) || (n == 4 && (decide (v < 65536) || decide (1114111 < v))))
theorem rune_end (k : Nat) (n v : Nat) (H : Heap) : ((binI .eql (.int .i64 (n : Int)) (.int .i64 3)).bind fun y70 =>
      condG y70 true ((binI .lss (.int .i64 (v : Int)) (.int .i64 2048)).bind fun y73 => J44_9 k (.int .i64 n) (.int .i64 v) y70 y73 H) (J44_9 k (.int .i64 n) (.int .i64 v) y70 undef H)) =
    some (if okRune n v then .tuple #[.int .i64 v, .int .i64 n] else .tuple #[.int .i64 0, .int .i64 0], H) := by
  by_cases h3 : n = 3
  · subst h3
    have e3 : ((3 : Nat) : Int) = 3 := rfl
    by_cases a : v < 2048
    · simp (disch := first | omega | assumption | (simp only [Yg, Yh, Yi, Yj] <;> omega) | (simp only [Qk, Ql, Qm, Qn, Qo, Qp, Bool.and_self]) | rfl) only [↓Z0, Z1, ↓Z2, ↓Z3, ↓Z4, ↓Z5, ↓Z6, Z7, ↓Z8, ↓Z9, ↓Za, ↓Zb, Zc, ↓Zd, Ze, Zf, decide_true, decide_false, Zg, Zh, Zi, Zj, Zk, Zl, Zm, Zn, Zo, Zp, Zq, Zr, Zs, Zt, Zu, Zv, Zw, Zx, Zy, Zz, Y0, Y1, Y2, Y3, Y4, Y5, Y6, Y7, Y8, Y9, Ya, Yb, Yc, Yd, Ye, Yf, Yg, Yh, Yi, Yj, Yk, Yl, Ym, Yn, Yo, Yp, Yq, Yr, Ys, Yt, Yu, Yv, Nat.zero_add, Nat.add_zero, ne_eq, not_false_eq_true, reduceCtorEq, Nat.reduceAdd, Nat.reduceEqDiff, Nat.succ_ne_self, Yw, Yx, Yy, Yz, Q0, Q1, ↓Q2, Q3, Q4, Q5, Q6, Q7, Q8, Q9, Qa, Qb, Qc, Qd, Qe, Qf, Qg, Qh, Qi, Qj, J44_0, J44_1, J44_2, J44_3, J44_4, J44_5, J44_6, J44_7, J44_8, J44_9]
      rw [if_neg (by simp [okRune, a])]
    · by_cases b : 55296 ≤ v
      · by_cases c : v < 57344
        · simp (disch := first | omega | assumption | (simp only [Yg, Yh, Yi, Yj] <;> omega) | (simp only [Qk, Ql, Qm, Qn, Qo, Qp, Bool.and_self]) | rfl) only [↓Z0, Z1, ↓Z2, ↓Z3, ↓Z4, ↓Z5, ↓Z6, Z7, ↓Z8, ↓Z9, ↓Za, ↓Zb, Zc, ↓Zd, Ze, Zf, decide_true, decide_false, Zg, Zh, Zi, Zj, Zk, Zl, Zm, Zn, Zo, Zp, Zq, Zr, Zs, Zt, Zu, Zv, Zw, Zx, Zy, Zz, Y0, Y1, Y2, Y3, Y4, Y5, Y6, Y7, Y8, Y9, Ya, Yb, Yc, Yd, Ye, Yf, Yg, Yh, Yi, Yj, Yk, Yl, Ym, Yn, Yo, Yp, Yq, Yr, Ys, Yt, Yu, Yv, Nat.zero_add, Nat.add_zero, ne_eq, not_false_eq_true, reduceCtorEq, Nat.reduceAdd, Nat.reduceEqDiff, Nat.succ_ne_self, Yw, Yx, Yy, Yz, Q0, Q1, ↓Q2, Q3, Q4, Q5, Q6, Q7, Q8, Q9, Qa, Qb, Qc, Qd, Qe, Qf, Qg, Qh, Qi, Qj, J44_0, J44_1, J44_2, J44_3, J44_4, J44_5, J44_6, J44_7, J44_8, J44_9]
          rw [if_neg (by simp [okRune, b, c])]
        · simp (disch := first | omega | assumption | (simp only [Yg, Yh, Yi, Yj] <;> omega) | (simp only [Qk, Ql, Qm, Qn, Qo, Qp, Bool.and_self]) | rfl) only [↓Z0, Z1, ↓Z2, ↓Z3, ↓Z4, ↓Z5, ↓Z6, Z7, ↓Z8, ↓Z9, ↓Za, ↓Zb, Zc, ↓Zd, Ze, Zf, decide_true, decide_false, Zg, Zh, Zi, Zj, Zk, Zl, Zm, Zn, Zo, Zp, Zq, Zr, Zs, Zt, Zu, Zv, Zw, Zx, Zy, Zz, Y0, Y1, Y2, Y3, Y4, Y5, Y6, Y7, Y8, Y9, Ya, Yb, Yc, Yd, Ye, Yf, Yg, Yh, Yi, Yj, Yk, Yl, Ym, Yn, Yo, Yp, Yq, Yr, Ys, Yt, Yu, Yv, Nat.zero_add, Nat.add_zero, ne_eq, not_false_eq_true, reduceCtorEq, Nat.reduceAdd, Nat.reduceEqDiff, Nat.succ_ne_self, Yw, Yx, Yy, Yz, Q0, Q1, ↓Q2, Q3, Q4, Q5, Q6, Q7, Q8, Q9, Qa, Qb, Qc, Qd, Qe, Qf, Qg, Qh, Qi, Qj, J44_0, J44_1, J44_2, J44_3, J44_4, J44_5, J44_6, J44_7, J44_8, J44_9]
          rw [if_pos (by simp [okRune]; omega)]
      · simp (disch := first | omega | assumption | (simp only [Yg, Yh, Yi, Yj] <;> omega) | (simp only [Qk, Ql, Qm, Qn, Qo, Qp, Bool.and_self]) | rfl) only [↓Z0, Z1, ↓Z2, ↓Z3, ↓Z4, ↓Z5, ↓Z6, Z7, ↓Z8, ↓Z9, ↓Za, ↓Zb, Zc, ↓Zd, Ze, Zf, decide_true, decide_false, Zg, Zh, Zi, Zj, Zk, Zl, Zm, Zn, Zo, Zp, Zq, Zr, Zs, Zt, Zu, Zv, Zw, Zx, Zy, Zz, Y0, Y1, Y2, Y3, Y4, Y5, Y6, Y7, Y8, Y9, Ya, Yb, Yc, Yd, Ye, Yf, Yg, Yh, Yi, Yj, Yk, Yl, Ym, Yn, Yo, Yp, Yq, Yr, Ys, Yt, Yu, Yv, Nat.zero_add, Nat.add_zero, ne_eq, not_false_eq_true, reduceCtorEq, Nat.reduceAdd, Nat.reduceEqDiff, Nat.succ_ne_self, Yw, Yx, Yy, Yz, Q0, Q1, ↓Q2, Q3, Q4, Q5, Q6, Q7, Q8, Q9, Qa, Qb, Qc, Qd, Qe, Qf, Qg, Qh, Qi, Qj, J44_0, J44_1, J44_2, J44_3, J44_4, J44_5, J44_6, J44_7, J44_8, J44_9]
        rw [if_pos (by simp [okRune]; omega)]
  · by_cases h4 : n = 4
    · subst h4
      by_cases d : v < 65536
      · simp (disch := first | omega | assumption | (simp only [Yg, Yh, Yi, Yj] <;> omega) | (simp only [Qk, Ql, Qm, Qn, Qo, Qp, Bool.and_self]) | rfl) only [↓Z0, Z1, ↓Z2, ↓Z3, ↓Z4, ↓Z5, ↓Z6, Z7, ↓Z8, ↓Z9, ↓Za, ↓Zb, Zc, ↓Zd, Ze, Zf, decide_true, decide_false, Zg, Zh, Zi, Zj, Zk, Zl, Zm, Zn, Zo, Zp, Zq, Zr, Zs, Zt, Zu, Zv, Zw, Zx, Zy, Zz, Y0, Y1, Y2, Y3, Y4, Y5, Y6, Y7, Y8, Y9, Ya, Yb, Yc, Yd, Ye, Yf, Yg, Yh, Yi, Yj, Yk, Yl, Ym, Yn, Yo, Yp, Yq, Yr, Ys, Yt, Yu, Yv, Nat.zero_add, Nat.add_zero, ne_eq, not_false_eq_true, reduceCtorEq, Nat.reduceAdd, Nat.reduceEqDiff, Nat.succ_ne_self, Yw, Yx, Yy, Yz, Q0, Q1, ↓Q2, Q3, Q4, Q5, Q6, Q7, Q8, Q9, Qa, Qb, Qc, Qd, Qe, Qf, Qg, Qh, Qi, Qj, J44_0, J44_1, J44_2, J44_3, J44_4, J44_5, J44_6, J44_7, J44_8, J44_9]
        rw [if_neg (by simp [okRune, d])]
      · by_cases e : 1114111 < v
        · simp (disch := first | omega | assumption | (simp only [Yg, Yh, Yi, Yj] <;> omega) | (simp only [Qk, Ql, Qm, Qn, Qo, Qp, Bool.and_self]) | rfl) only [↓Z0, Z1, ↓Z2, ↓Z3, ↓Z4, ↓Z5, ↓Z6, Z7, ↓Z8, ↓Z9, ↓Za, ↓Zb, Zc, ↓Zd, Ze, Zf, decide_true, decide_false, Zg, Zh, Zi, Zj, Zk, Zl, Zm, Zn, Zo, Zp, Zq, Zr, Zs, Zt, Zu, Zv, Zw, Zx, Zy, Zz, Y0, Y1, Y2, Y3, Y4, Y5, Y6, Y7, Y8, Y9, Ya, Yb, Yc, Yd, Ye, Yf, Yg, Yh, Yi, Yj, Yk, Yl, Ym, Yn, Yo, Yp, Yq, Yr, Ys, Yt, Yu, Yv, Nat.zero_add, Nat.add_zero, ne_eq, not_false_eq_true, reduceCtorEq, Nat.reduceAdd, Nat.reduceEqDiff, Nat.succ_ne_self, Yw, Yx, Yy, Yz, Q0, Q1, ↓Q2, Q3, Q4, Q5, Q6, Q7, Q8, Q9, Qa, Qb, Qc, Qd, Qe, Qf, Qg, Qh, Qi, Qj, J44_0, J44_1, J44_2, J44_3, J44_4, J44_5, J44_6, J44_7, J44_8, J44_9]
          rw [if_neg (by simp [okRune, e])]
        · simp (disch := first | omega | assumption | (simp only [Yg, Yh, Yi, Yj] <;> omega) | (simp only [Qk, Ql, Qm, Qn, Qo, Qp, Bool.and_self]) | rfl) only [↓Z0, Z1, ↓Z2, ↓Z3, ↓Z4, ↓Z5, ↓Z6, Z7, ↓Z8, ↓Z9, ↓Za, ↓Zb, Zc, ↓Zd, Ze, Zf, decide_true, decide_false, Zg, Zh, Zi, Zj, Zk, Zl, Zm, Zn, Zo, Zp, Zq, Zr, Zs, Zt, Zu, Zv, Zw, Zx, Zy, Zz, Y0, Y1, Y2, Y3, Y4, Y5, Y6, Y7, Y8, Y9, Ya, Yb, Yc, Yd, Ye, Yf, Yg, Yh, Yi, Yj, Yk, Yl, Ym, Yn, Yo, Yp, Yq, Yr, Ys, Yt, Yu, Yv, Nat.zero_add, Nat.add_zero, ne_eq, not_false_eq_true, reduceCtorEq, Nat.reduceAdd, Nat.reduceEqDiff, Nat.succ_ne_self, Yw, Yx, Yy, Yz, Q0, Q1, ↓Q2, Q3, Q4, Q5, Q6, Q7, Q8, Q9, Qa, Qb, Qc, Qd, Qe, Qf, Qg, Qh, Qi, Qj, J44_0, J44_1, J44_2, J44_3, J44_4, J44_5, J44_6, J44_7, J44_8, J44_9]
          rw [if_pos (by simp [okRune]; omega)]
    · simp (disch := first | omega | assumption | (simp only [Yg, Yh, Yi, Yj] <;> omega) | (simp only [Qk, Ql, Qm, Qn, Qo, Qp, Bool.and_self]) | rfl) only [↓Z0, Z1, ↓Z2, ↓Z3, ↓Z4, ↓Z5, ↓Z6, Z7, ↓Z8, ↓Z9, ↓Za, ↓Zb, Zc, ↓Zd, Ze, Zf, decide_true, decide_false, Zg, Zh, Zi, Zj, Zk, Zl, Zm, Zn, Zo, Zp, Zq, Zr, Zs, Zt, Zu, Zv, Zw, Zx, Zy, Zz, Y0, Y1, Y2, Y3, Y4, Y5, Y6, Y7, Y8, Y9, Ya, Yb, Yc, Yd, Ye, Yf, Yg, Yh, Yi, Yj, Yk, Yl, Ym, Yn, Yo, Yp, Yq, Yr, Ys, Yt, Yu, Yv, Nat.zero_add, Nat.add_zero, ne_eq, not_false_eq_true, reduceCtorEq, Nat.reduceAdd, Nat.reduceEqDiff, Nat.succ_ne_self, Yw, Yx, Yy, Yz, Q0, Q1, ↓Q2, Q3, Q4, Q5, Q6, Q7, Q8, Q9, Qa, Qb, Qc, Qd, Qe, Qf, Qg, Qh, Qi, Qj, J44_0, J44_1, J44_2, J44_3, J44_4, J44_5, J44_6, J44_7, J44_8, J44_9]
      rw [if_pos (by simp [okRune, h3, h4])]
end Go.PG

namespace Go.PG
open Go.Proofs

def runeLoop : Nat → List UInt8 → Nat → Option Nat
  | 0, _, v => some v
  | _ + 1, [], _ => none
  | m + 1, d :: r, v => if d.toNat < 128 ∨ 191 < d.toNat then none else runeLoop m r (64 * v + d.toNat - 128)
def runeHead (c : Nat) : Nat × Nat := if 194 ≤ c ∧ c < 224 then (2, c - 192) else if 224 ≤ c ∧ c < 240 then (3, c - 224) else if 240 ≤ c ∧ c < 245 then (4, c - 240) else (0, 0)
/-- The reference's rune: value and bytes; (0, 0): none. -/
def refRune : List UInt8 → Nat × Nat
  | [] => (0, 0)
  | b :: r =>
    if b.toNat < 128 then (b.toNat, 1) else
    if (runeHead b.toNat).1 = 0 ∨ r.length + 1 < (runeHead b.toNat).1 then (0, 0) else
    match runeLoop ((runeHead b.toNat).1 - 1) r (runeHead b.toNat).2 with
    | none => (0, 0)
    | some v => if okRune (runeHead b.toNat).1 v then (v, (runeHead b.toNat).1) else (0, 0)
/-- Go's decoding of what a list begins with. -/
def decL : List UInt8 → Nat × Nat
  | [] => (65533, 1)
  | [a] => if a.toNat < 128 then (a.toNat, 1) else (65533, 1)
  | [a, b] =>
    if a.toNat < 128 then (a.toNat, 1) else
    if a.toNat / 32 = 6 ∧ b.toNat / 64 = 2 then
      if 128 ≤ (a.toNat % 32) * 64 + b.toNat % 64 then ((a.toNat % 32) * 64 + b.toNat % 64, 2) else (65533, 1)
    else (65533, 1)
  | [a, b, c] =>
    if a.toNat < 128 then (a.toNat, 1) else
    if a.toNat / 32 = 6 ∧ b.toNat / 64 = 2 then
      if 128 ≤ (a.toNat % 32) * 64 + b.toNat % 64 then ((a.toNat % 32) * 64 + b.toNat % 64, 2) else (65533, 1)
    else if a.toNat / 16 = 14 ∧ b.toNat / 64 = 2 ∧ c.toNat / 64 = 2 then
      if 2048 ≤ (a.toNat % 16) * 4096 + (b.toNat % 64) * 64 + c.toNat % 64 ∧ Utf8.valid ((a.toNat % 16) * 4096 + (b.toNat % 64) * 64 + c.toNat % 64 : Nat) then ((a.toNat % 16) * 4096 + (b.toNat % 64) * 64 + c.toNat % 64, 3) else (65533, 1)
    else (65533, 1)
  | a :: b :: c :: d :: _ =>
    if a.toNat < 128 then (a.toNat, 1) else
    if a.toNat / 32 = 6 ∧ b.toNat / 64 = 2 then
      if 128 ≤ (a.toNat % 32) * 64 + b.toNat % 64 then ((a.toNat % 32) * 64 + b.toNat % 64, 2) else (65533, 1)
    else if a.toNat / 16 = 14 ∧ b.toNat / 64 = 2 ∧ c.toNat / 64 = 2 then
      if 2048 ≤ (a.toNat % 16) * 4096 + (b.toNat % 64) * 64 + c.toNat % 64 ∧ Utf8.valid ((a.toNat % 16) * 4096 + (b.toNat % 64) * 64 + c.toNat % 64 : Nat) then ((a.toNat % 16) * 4096 + (b.toNat % 64) * 64 + c.toNat % 64, 3) else (65533, 1)
    else if a.toNat / 8 = 30 ∧ b.toNat / 64 = 2 ∧ c.toNat / 64 = 2 ∧ d.toNat / 64 = 2 then
      if 65536 ≤ (a.toNat % 8) * 262144 + (b.toNat % 64) * 4096 + (c.toNat % 64) * 64 + d.toNat % 64 ∧ Utf8.valid ((a.toNat % 8) * 262144 + (b.toNat % 64) * 4096 + (c.toNat % 64) * 64 + d.toNat % 64 : Nat) then ((a.toNat % 8) * 262144 + (b.toNat % 64) * 4096 + (c.toNat % 64) * 64 + d.toNat % 64, 4) else (65533, 1)
    else (65533, 1)
theorem get_at (l : List UInt8) (i k : Nat) (x : UInt8) (h : l.drop i ≠ [] ) (hk : (l.drop i)[k]? = some x) : (⟨l.toArray⟩ : ByteArray).get! (i + k) = x ∧ i + k < (⟨l.toArray⟩ : ByteArray).size := by
  rw [List.getElem?_drop] at hk
  obtain ⟨h1, h2⟩ := List.getElem?_eq_some_iff.1 hk
  refine ⟨?_, by simpa [ByteArray.size] using h1⟩
  simp only [ByteArray.get!]
  rw [getElem!_pos _ _ (by simpa using h1)]
  simpa using h2
theorem no_at (l : List UInt8) (i k : Nat) (hk : (l.drop i).length ≤ k) : ¬ i + k < (⟨l.toArray⟩ : ByteArray).size ∨ i + k = i := by
  rw [List.length_drop] at hk
  by_cases h : k = 0
  · right; omega
  · left; simp [ByteArray.size]; omega
theorem decode_list (l : List UInt8) (i : Nat) (h : i < l.length) : Utf8.decode ⟨l.toArray⟩ i = decL (l.drop i) := by
  have hne : l.drop i ≠ [] := by intro e; have := congrArg List.length e; rw [List.length_drop] at this; simp at this; omega
  match hd : l.drop i with
  | [] => exact absurd hd hne
  | [a] =>
    obtain ⟨g0, _⟩ := get_at l i 0 a hne (by rw [hd]; rfl)
    have n1 : ¬ i + 1 < (⟨l.toArray⟩ : ByteArray).size := by rcases no_at l i 1 (by rw [hd]; simp) with h | h; exact h; omega
    simp only [Utf8.decode, g0, n1, decide_false, Bool.false_and, Bool.and_false, Bool.false_eq_true, if_false, decL]
    rfl
  | [a, b] =>
    obtain ⟨g0, _⟩ := get_at l i 0 a hne (by rw [hd]; rfl)
    obtain ⟨g1, s1⟩ := get_at l i 1 b hne (by rw [hd]; rfl)
    have n2 : ¬ i + 2 < (⟨l.toArray⟩ : ByteArray).size := by rcases no_at l i 2 (by rw [hd]; simp) with h | h; exact h; omega
    simp only [Utf8.decode, g0, g1, s1, n2, decide_true, decide_false, Bool.true_and, Bool.false_and, Bool.and_false, Bool.false_eq_true, if_false, decL, Bool.and_eq_true, beq_iff_eq]
    rfl
  | [a, b, c] =>
    obtain ⟨g0, _⟩ := get_at l i 0 a hne (by rw [hd]; rfl)
    obtain ⟨g1, s1⟩ := get_at l i 1 b hne (by rw [hd]; rfl)
    obtain ⟨g2, s2⟩ := get_at l i 2 c hne (by rw [hd]; rfl)
    have n3 : ¬ i + 3 < (⟨l.toArray⟩ : ByteArray).size := by rcases no_at l i 3 (by rw [hd]; simp) with h | h; exact h; omega
    simp only [Utf8.decode, g0, g1, g2, s1, s2, n3, decide_true, decide_false, Bool.true_and, Bool.false_and, Bool.and_false, Bool.false_eq_true, if_false, decL, Bool.and_eq_true, beq_iff_eq, decide_eq_true_eq, and_assoc]
    rfl
  | a :: b :: c :: d :: r =>
    obtain ⟨g0, _⟩ := get_at l i 0 a hne (by rw [hd]; rfl)
    obtain ⟨g1, s1⟩ := get_at l i 1 b hne (by rw [hd]; rfl)
    obtain ⟨g2, s2⟩ := get_at l i 2 c hne (by rw [hd]; rfl)
    obtain ⟨g3, s3⟩ := get_at l i 3 d hne (by rw [hd]; rfl)
    simp only [Utf8.decode, g0, g1, g2, g3, s1, s2, s3, decide_true, Bool.true_and, decL, Bool.and_eq_true, beq_iff_eq, decide_eq_true_eq, and_assoc]
    rfl
end Go.PG

namespace Go.PG
open Go.Proofs

theorem rune_loop (k : Nat) (l : List UInt8) (N : Nat) (hN : N ≤ 4) : ∀ (m n i : Nat) (z : Int) (v : Nat) (H : Heap), z = i → i + m = N → m < n → N ≤ l.length → v < 64 ^ (i + 1) → 1 ≤ i → (∀ w, N ≤ w → w ≤ 5 → True) →
    L44_11 k n (str l) (.int .i64 (N : Int)) (.int .i64 (v : Int)) (.int .i64 z) H = some (match runeLoop m (l.drop i) v with
      | none => .tuple #[.int .i64 0, .int .i64 0]
      | some v => if okRune N v then .tuple #[.int .i64 v, .int .i64 N] else .tuple #[.int .i64 0, .int .i64 0], H)
  | 0, n, i, z, v, H, hz, hi, hn, hl, hv, h1, _ => by
    subst hz
    obtain ⟨n, rfl⟩ : ∃ n', n = n' + 1 := ⟨n - 1, by omega⟩
    rw [L44_11]
    have := rune_end k N v H
    rw [Zo, Z0, Zf (by omega), Z6, this]
    rfl
  | m + 1, n, i, z, v, H, hz, hi, hn, hl, hv, h1, hw => by
    subst hz
    obtain ⟨n, rfl⟩ : ∃ n', n = n' + 1 := ⟨n - 1, by omega⟩
    have hil : i < l.length := by omega
    have hb := (l[i]).toNat_lt
    have hvb : v < 1073741824 := by
      have : 64 ^ (i + 1) ≤ 64 ^ 5 := Nat.pow_le_pow_right (by decide) (by omega)
      have h5 : 64 ^ 5 = 1073741824 := by decide
      omega
    rw [List.drop_eq_getElem_cons hil, runeLoop, L44_11]
    by_cases hd : l[i].toNat < 128
    · simp (disch := first | omega | assumption | (simp only [Yg, Yh, Yi, Yj] <;> omega) | (simp only [Qk, Ql, Qm, Qn, Qo, Qp, Bool.and_self]) | rfl) only [↓Z0, Z1, ↓Z2, ↓Z3, ↓Z4, ↓Z5, ↓Z6, Z7, ↓Z8, ↓Z9, ↓Za, ↓Zb, Zc, ↓Zd, Ze, Zf, decide_true, decide_false, Zg, Zh, Zi, Zj, Zk, Zl, Zm, Zn, Zo, Zp, Zq, Zr, Zs, Zt, Zu, Zv, Zw, Zx, Zy, Zz, Y0, Y1, Y2, Y3, Y4, Y5, Y6, Y7, Y8, Y9, Ya, Yb, Yc, Yd, Ye, Yf, Yg, Yh, Yi, Yj, Yk, Yl, Ym, Yn, Yo, Yp, Yq, Yr, Ys, Yt, Yu, Yv, Nat.zero_add, Nat.add_zero, ne_eq, not_false_eq_true, reduceCtorEq, Nat.reduceAdd, Nat.reduceEqDiff, Nat.succ_ne_self, Yw, Yx, Yy, Yz, Q0, Q1, ↓Q2, Q3, Q4, Q5, Q6, Q7, Q8, Q9, Qa, Qb, Qc, Qd, Qe, Qf, Qg, Qh, Qi, Qj, J44_10]
      rw [if_pos (.inl hd)]
    · by_cases he : 191 < l[i].toNat
      · simp (disch := first | omega | assumption | (simp only [Yg, Yh, Yi, Yj] <;> omega) | (simp only [Qk, Ql, Qm, Qn, Qo, Qp, Bool.and_self]) | rfl) only [↓Z0, Z1, ↓Z2, ↓Z3, ↓Z4, ↓Z5, ↓Z6, Z7, ↓Z8, ↓Z9, ↓Za, ↓Zb, Zc, ↓Zd, Ze, Zf, decide_true, decide_false, Zg, Zh, Zi, Zj, Zk, Zl, Zm, Zn, Zo, Zp, Zq, Zr, Zs, Zt, Zu, Zv, Zw, Zx, Zy, Zz, Y0, Y1, Y2, Y3, Y4, Y5, Y6, Y7, Y8, Y9, Ya, Yb, Yc, Yd, Ye, Yf, Yg, Yh, Yi, Yj, Yk, Yl, Ym, Yn, Yo, Yp, Yq, Yr, Ys, Yt, Yu, Yv, Nat.zero_add, Nat.add_zero, ne_eq, not_false_eq_true, reduceCtorEq, Nat.reduceAdd, Nat.reduceEqDiff, Nat.succ_ne_self, Yw, Yx, Yy, Yz, Q0, Q1, ↓Q2, Q3, Q4, Q5, Q6, Q7, Q8, Q9, Qa, Qb, Qc, Qd, Qe, Qf, Qg, Qh, Qi, Qj, J44_10]
        rw [if_pos (.inr he)]
      · simp (disch := first | omega | assumption | (simp only [Yg, Yh, Yi, Yj] <;> omega) | (simp only [Qk, Ql, Qm, Qn, Qo, Qp, Bool.and_self]) | rfl) only [↓Z0, Z1, ↓Z2, ↓Z3, ↓Z4, ↓Z5, ↓Z6, Z7, ↓Z8, ↓Z9, ↓Za, ↓Zb, Zc, ↓Zd, Ze, Zf, decide_true, decide_false, Zg, Zh, Zi, Zj, Zk, Zl, Zm, Zn, Zo, Zp, Zq, Zr, Zs, Zt, Zu, Zv, Zw, Zx, Zy, Zz, Y0, Y1, Y2, Y3, Y4, Y5, Y6, Y7, Y8, Y9, Ya, Yb, Yc, Yd, Ye, Yf, Yg, Yh, Yi, Yj, Yk, Yl, Ym, Yn, Yo, Yp, Yq, Yr, Ys, Yt, Yu, Yv, Nat.zero_add, Nat.add_zero, ne_eq, not_false_eq_true, reduceCtorEq, Nat.reduceAdd, Nat.reduceEqDiff, Nat.succ_ne_self, Yw, Yx, Yy, Yz, Q0, Q1, ↓Q2, Q3, Q4, Q5, Q6, Q7, Q8, Q9, Qa, Qb, Qc, Qd, Qe, Qf, Qg, Qh, Qi, Qj, J44_10]
        rw [if_neg (by omega)]
        have e : (64 : Int) * (v : Int) + (l[i].toNat : Int) - 128 = ((64 * v + l[i].toNat - 128 : Nat) : Int) := by omega
        rw [e]
        exact rune_loop k l N hN m n (i + 1) _ _ H rfl (by omega) (by omega) hl (by rw [Nat.pow_succ]; omega) (by omega) hw
def runeV (r : Nat × Nat) : Value := .tuple #[.int .i64 (r.1 : Int), .int .i64 (r.2 : Int)]
theorem rune_run {k : Nat} (hk : 10 ≤ k) (l : List UInt8) (hl : l.length < 9223372036854775808) (H : Heap) : run Tryz.prog k 44 #[str l] H = some (runeV (refRune l), H) := by
  obtain ⟨k, rfl⟩ : ∃ k', k = k' + 1 := ⟨k - 1, by omega⟩
  rw [run44, F44]
  match l, hl with
  | [], _ => simp (disch := first | omega | assumption | (simp only [Yg, Yh, Yi, Yj] <;> omega) | (simp only [Qk, Ql, Qm, Qn, Qo, Qp, Bool.and_self]) | rfl) only [↓Z0, Z1, ↓Z2, ↓Z3, ↓Z4, ↓Z5, ↓Z6, Z7, ↓Z8, ↓Z9, ↓Za, ↓Zb, Zc, ↓Zd, Ze, Zf, decide_true, decide_false, Zg, Zh, Zi, Zj, Zk, Zl, Zm, Zn, Zo, Zp, Zq, Zr, Zs, Zt, Zu, Zv, Zw, Zx, Zy, Zz, Y0, Y1, Y2, Y3, Y4, Y5, Y6, Y7, Y8, Y9, Ya, Yb, Yc, Yd, Ye, Yf, Yg, Yh, Yi, Yj, Yk, Yl, Ym, Yn, Yo, Yp, Yq, Yr, Ys, Yt, Yu, Yv, Nat.zero_add, Nat.add_zero, ne_eq, not_false_eq_true, reduceCtorEq, Nat.reduceAdd, Nat.reduceEqDiff, Nat.succ_ne_self, Yw, Yx, Yy, Yz, Q0, Q1, ↓Q2, Q3, Q4, Q5, Q6, Q7, Q8, Q9, Qa, Qb, Qc, Qd, Qe, Qf, Qg, Qh, Qi, Qj, List.length_nil]; rfl
  | b :: r, hl =>
    have hb := b.toNat_lt
    have e0 : idxStr (str (b :: r)) (.int .i64 0) = some (.int .u8 (b.toNat : Int)) := Y0 (l := b :: r) (i := 0) (by simp)
    have hlen : (((b :: r).length : Nat) : Int) = (r.length : Int) + 1 := by simp
    have hm : ∀ (N v : Nat), 1 ≤ N → N ≤ 4 → v < 64 → J44_12 k (str (b :: r)) (.int .i64 (N : Int)) (.int .i64 (v : Int)) H = some (if r.length + 1 < N then .tuple #[.int .i64 0, .int .i64 0] else match runeLoop (N - 1) r v with
      | none => .tuple #[.int .i64 0, .int .i64 0]
      | some v => if okRune N v then .tuple #[.int .i64 v, .int .i64 N] else .tuple #[.int .i64 0, .int .i64 0], H) := by
      intro N v h1 h4 hv
      rw [J44_12]
      by_cases hs : r.length + 1 < N
      · simp (disch := first | omega | assumption | (simp only [Yg, Yh, Yi, Yj] <;> omega) | (simp only [Qk, Ql, Qm, Qn, Qo, Qp, Bool.and_self]) | rfl) only [↓Z0, Z1, ↓Z2, ↓Z3, ↓Z4, ↓Z5, ↓Z6, Z7, ↓Z8, ↓Z9, ↓Za, ↓Zb, Zc, ↓Zd, Ze, Zf, decide_true, decide_false, Zg, Zh, Zi, Zj, Zk, Zl, Zm, Zn, Zo, Zp, Zq, Zr, Zs, Zt, Zu, Zv, Zw, Zx, Zy, Zz, Y0, Y1, Y2, Y3, Y4, Y5, Y6, Y7, Y8, Y9, Ya, Yb, Yc, Yd, Ye, Yf, Yg, Yh, Yi, Yj, Yk, Yl, Ym, Yn, Yo, Yp, Yq, Yr, Ys, Yt, Yu, Yv, Nat.zero_add, Nat.add_zero, ne_eq, not_false_eq_true, reduceCtorEq, Nat.reduceAdd, Nat.reduceEqDiff, Nat.succ_ne_self, Yw, Yx, Yy, Yz, Q0, Q1, ↓Q2, Q3, Q4, Q5, Q6, Q7, Q8, Q9, Qa, Qb, Qc, Qd, Qe, Qf, Qg, Qh, Qi, Qj, hlen]
        rw [if_pos hs]
      · have := rune_loop k (b :: r) N h4 (N - 1) k 1 _ v H rfl (by omega) (by omega) (by simp; omega) (by omega) (by omega) (fun _ _ _ => trivial)
        simp (disch := first | omega | assumption | (simp only [Yg, Yh, Yi, Yj] <;> omega) | (simp only [Qk, Ql, Qm, Qn, Qo, Qp, Bool.and_self]) | rfl) only [↓Z0, Z1, ↓Z2, ↓Z3, ↓Z4, ↓Z5, ↓Z6, Z7, ↓Z8, ↓Z9, ↓Za, ↓Zb, Zc, ↓Zd, Ze, Zf, decide_true, decide_false, Zg, Zh, Zi, Zj, Zk, Zl, Zm, Zn, Zo, Zp, Zq, Zr, Zs, Zt, Zu, Zv, Zw, Zx, Zy, Zz, Y0, Y1, Y2, Y3, Y4, Y5, Y6, Y7, Y8, Y9, Ya, Yb, Yc, Yd, Ye, Yf, Yg, Yh, Yi, Yj, Yk, Yl, Ym, Yn, Yo, Yp, Yq, Yr, Ys, Yt, Yu, Yv, Nat.zero_add, Nat.add_zero, ne_eq, not_false_eq_true, reduceCtorEq, Nat.reduceAdd, Nat.reduceEqDiff, Nat.succ_ne_self, Yw, Yx, Yy, Yz, Q0, Q1, ↓Q2, Q3, Q4, Q5, Q6, Q7, Q8, Q9, Qa, Qb, Qc, Qd, Qe, Qf, Qg, Qh, Qi, Qj, hlen]
        rw [if_neg hs]
        exact this
    have hval : ∀ (N v : Nat), (runeHead b.toNat) = (N, v) → 1 ≤ N → 128 ≤ b.toNat → runeV (refRune (b :: r)) = (if r.length + 1 < N then .tuple #[.int .i64 0, .int .i64 0] else match runeLoop (N - 1) r v with
      | none => .tuple #[.int .i64 0, .int .i64 0]
      | some v => if okRune N v then .tuple #[.int .i64 v, .int .i64 N] else .tuple #[.int .i64 0, .int .i64 0]) := by
      intro N v h h1 h128
      rw [refRune, h, if_neg (by omega)]
      by_cases hs : r.length + 1 < N
      · rw [if_pos (.inr hs), if_pos hs]; rfl
      · rw [if_neg (by simp; omega), if_neg hs]
        simp only
        cases runeLoop (N - 1) r v with
        | none => rfl
        | some v => simp only; split <;> rfl
    by_cases h1 : b.toNat < 128
    · simp (disch := first | omega | assumption | (simp only [Yg, Yh, Yi, Yj] <;> omega) | (simp only [Qk, Ql, Qm, Qn, Qo, Qp, Bool.and_self]) | rfl) only [↓Z0, Z1, ↓Z2, ↓Z3, ↓Z4, ↓Z5, ↓Z6, Z7, ↓Z8, ↓Z9, ↓Za, ↓Zb, Zc, ↓Zd, Ze, Zf, decide_true, decide_false, Zg, Zh, Zi, Zj, Zk, Zl, Zm, Zn, Zo, Zp, Zq, Zr, Zs, Zt, Zu, Zv, Zw, Zx, Zy, Zz, Y0, Y1, Y2, Y3, Y4, Y5, Y6, Y7, Y8, Y9, Ya, Yb, Yc, Yd, Ye, Yf, Yg, Yh, Yi, Yj, Yk, Yl, Ym, Yn, Yo, Yp, Yq, Yr, Ys, Yt, Yu, Yv, Nat.zero_add, Nat.add_zero, ne_eq, not_false_eq_true, reduceCtorEq, Nat.reduceAdd, Nat.reduceEqDiff, Nat.succ_ne_self, Yw, Yx, Yy, Yz, Q0, Q1, ↓Q2, Q3, Q4, Q5, Q6, Q7, Q8, Q9, Qa, Qb, Qc, Qd, Qe, Qf, Qg, Qh, Qi, Qj, hlen, e0]
      rw [refRune, if_pos h1]; rfl
    · by_cases h2 : b.toNat < 194
      · have hh : runeHead b.toNat = (0, 0) := by unfold runeHead; rw [if_neg (by omega), if_neg (by omega), if_neg (by omega)]
        simp (disch := first | omega | assumption | (simp only [Yg, Yh, Yi, Yj] <;> omega) | (simp only [Qk, Ql, Qm, Qn, Qo, Qp, Bool.and_self]) | rfl) only [↓Z0, Z1, ↓Z2, ↓Z3, ↓Z4, ↓Z5, ↓Z6, Z7, ↓Z8, ↓Z9, ↓Za, ↓Zb, Zc, ↓Zd, Ze, Zf, decide_true, decide_false, Zg, Zh, Zi, Zj, Zk, Zl, Zm, Zn, Zo, Zp, Zq, Zr, Zs, Zt, Zu, Zv, Zw, Zx, Zy, Zz, Y0, Y1, Y2, Y3, Y4, Y5, Y6, Y7, Y8, Y9, Ya, Yb, Yc, Yd, Ye, Yf, Yg, Yh, Yi, Yj, Yk, Yl, Ym, Yn, Yo, Yp, Yq, Yr, Ys, Yt, Yu, Yv, Nat.zero_add, Nat.add_zero, ne_eq, not_false_eq_true, reduceCtorEq, Nat.reduceAdd, Nat.reduceEqDiff, Nat.succ_ne_self, Yw, Yx, Yy, Yz, Q0, Q1, ↓Q2, Q3, Q4, Q5, Q6, Q7, Q8, Q9, Qa, Qb, Qc, Qd, Qe, Qf, Qg, Qh, Qi, Qj, hlen, e0, J44_15, J44_14, J44_13]
        rw [refRune, if_neg h1, hh, if_pos (.inl rfl)]; rfl
      · by_cases h3 : b.toNat < 224
        · have hh : runeHead b.toNat = (2, b.toNat - 192) := by unfold runeHead; rw [if_pos (by omega)]
          have e : (b.toNat : Int) - 192 = ((b.toNat - 192 : Nat) : Int) := by omega
          simp (disch := first | omega | assumption | (simp only [Yg, Yh, Yi, Yj] <;> omega) | (simp only [Qk, Ql, Qm, Qn, Qo, Qp, Bool.and_self]) | rfl) only [↓Z0, Z1, ↓Z2, ↓Z3, ↓Z4, ↓Z5, ↓Z6, Z7, ↓Z8, ↓Z9, ↓Za, ↓Zb, Zc, ↓Zd, Ze, Zf, decide_true, decide_false, Zg, Zh, Zi, Zj, Zk, Zl, Zm, Zn, Zo, Zp, Zq, Zr, Zs, Zt, Zu, Zv, Zw, Zx, Zy, Zz, Y0, Y1, Y2, Y3, Y4, Y5, Y6, Y7, Y8, Y9, Ya, Yb, Yc, Yd, Ye, Yf, Yg, Yh, Yi, Yj, Yk, Yl, Ym, Yn, Yo, Yp, Yq, Yr, Ys, Yt, Yu, Yv, Nat.zero_add, Nat.add_zero, ne_eq, not_false_eq_true, reduceCtorEq, Nat.reduceAdd, Nat.reduceEqDiff, Nat.succ_ne_self, Yw, Yx, Yy, Yz, Q0, Q1, ↓Q2, Q3, Q4, Q5, Q6, Q7, Q8, Q9, Qa, Qb, Qc, Qd, Qe, Qf, Qg, Qh, Qi, Qj, hlen, e0, J44_15]
          rw [e]
          exact (hm 2 _ (by omega) (by omega) (by omega)).trans (by rw [hval _ _ hh (by omega) (by omega)])
        · by_cases h4 : b.toNat < 240
          · have hh : runeHead b.toNat = (3, b.toNat - 224) := by unfold runeHead; rw [if_neg (by omega), if_pos (by omega)]
            have e : (b.toNat : Int) - 224 = ((b.toNat - 224 : Nat) : Int) := by omega
            simp (disch := first | omega | assumption | (simp only [Yg, Yh, Yi, Yj] <;> omega) | (simp only [Qk, Ql, Qm, Qn, Qo, Qp, Bool.and_self]) | rfl) only [↓Z0, Z1, ↓Z2, ↓Z3, ↓Z4, ↓Z5, ↓Z6, Z7, ↓Z8, ↓Z9, ↓Za, ↓Zb, Zc, ↓Zd, Ze, Zf, decide_true, decide_false, Zg, Zh, Zi, Zj, Zk, Zl, Zm, Zn, Zo, Zp, Zq, Zr, Zs, Zt, Zu, Zv, Zw, Zx, Zy, Zz, Y0, Y1, Y2, Y3, Y4, Y5, Y6, Y7, Y8, Y9, Ya, Yb, Yc, Yd, Ye, Yf, Yg, Yh, Yi, Yj, Yk, Yl, Ym, Yn, Yo, Yp, Yq, Yr, Ys, Yt, Yu, Yv, Nat.zero_add, Nat.add_zero, ne_eq, not_false_eq_true, reduceCtorEq, Nat.reduceAdd, Nat.reduceEqDiff, Nat.succ_ne_self, Yw, Yx, Yy, Yz, Q0, Q1, ↓Q2, Q3, Q4, Q5, Q6, Q7, Q8, Q9, Qa, Qb, Qc, Qd, Qe, Qf, Qg, Qh, Qi, Qj, hlen, e0, J44_15, J44_14]
            rw [e]
            exact (hm 3 _ (by omega) (by omega) (by omega)).trans (by rw [hval _ _ hh (by omega) (by omega)])
          · by_cases h5 : b.toNat < 245
            · have hh : runeHead b.toNat = (4, b.toNat - 240) := by unfold runeHead; rw [if_neg (by omega), if_neg (by omega), if_pos (by omega)]
              have e : (b.toNat : Int) - 240 = ((b.toNat - 240 : Nat) : Int) := by omega
              simp (disch := first | omega | assumption | (simp only [Yg, Yh, Yi, Yj] <;> omega) | (simp only [Qk, Ql, Qm, Qn, Qo, Qp, Bool.and_self]) | rfl) only [↓Z0, Z1, ↓Z2, ↓Z3, ↓Z4, ↓Z5, ↓Z6, Z7, ↓Z8, ↓Z9, ↓Za, ↓Zb, Zc, ↓Zd, Ze, Zf, decide_true, decide_false, Zg, Zh, Zi, Zj, Zk, Zl, Zm, Zn, Zo, Zp, Zq, Zr, Zs, Zt, Zu, Zv, Zw, Zx, Zy, Zz, Y0, Y1, Y2, Y3, Y4, Y5, Y6, Y7, Y8, Y9, Ya, Yb, Yc, Yd, Ye, Yf, Yg, Yh, Yi, Yj, Yk, Yl, Ym, Yn, Yo, Yp, Yq, Yr, Ys, Yt, Yu, Yv, Nat.zero_add, Nat.add_zero, ne_eq, not_false_eq_true, reduceCtorEq, Nat.reduceAdd, Nat.reduceEqDiff, Nat.succ_ne_self, Yw, Yx, Yy, Yz, Q0, Q1, ↓Q2, Q3, Q4, Q5, Q6, Q7, Q8, Q9, Qa, Qb, Qc, Qd, Qe, Qf, Qg, Qh, Qi, Qj, hlen, e0, J44_15, J44_14, J44_13]
              rw [e]
              exact (hm 4 _ (by omega) (by omega) (by omega)).trans (by rw [hval _ _ hh (by omega) (by omega)])
            · have hh : runeHead b.toNat = (0, 0) := by unfold runeHead; rw [if_neg (by omega), if_neg (by omega), if_neg (by omega)]
              simp (disch := first | omega | assumption | (simp only [Yg, Yh, Yi, Yj] <;> omega) | (simp only [Qk, Ql, Qm, Qn, Qo, Qp, Bool.and_self]) | rfl) only [↓Z0, Z1, ↓Z2, ↓Z3, ↓Z4, ↓Z5, ↓Z6, Z7, ↓Z8, ↓Z9, ↓Za, ↓Zb, Zc, ↓Zd, Ze, Zf, decide_true, decide_false, Zg, Zh, Zi, Zj, Zk, Zl, Zm, Zn, Zo, Zp, Zq, Zr, Zs, Zt, Zu, Zv, Zw, Zx, Zy, Zz, Y0, Y1, Y2, Y3, Y4, Y5, Y6, Y7, Y8, Y9, Ya, Yb, Yc, Yd, Ye, Yf, Yg, Yh, Yi, Yj, Yk, Yl, Ym, Yn, Yo, Yp, Yq, Yr, Ys, Yt, Yu, Yv, Nat.zero_add, Nat.add_zero, ne_eq, not_false_eq_true, reduceCtorEq, Nat.reduceAdd, Nat.reduceEqDiff, Nat.succ_ne_self, Yw, Yx, Yy, Yz, Q0, Q1, ↓Q2, Q3, Q4, Q5, Q6, Q7, Q8, Q9, Qa, Qb, Qc, Qd, Qe, Qf, Qg, Qh, Qi, Qj, hlen, e0, J44_15, J44_14, J44_13]
              rw [refRune, if_neg h1, hh, if_pos (.inl rfl)]; rfl
end Go.PG

namespace Go.PG
open Go.Proofs

theorem ok2 (v : Nat) : okRune 2 v = true := rfl
theorem ok3 (v : Nat) : okRune 3 v = decide (2048 ≤ v ∧ (v < 55296 ∨ 57344 ≤ v)) := by
  simp only [okRune]
  by_cases h1 : v < 2048 <;> by_cases h2 : 55296 ≤ v <;> by_cases h3 : v < 57344 <;> simp [h1, h2, h3] <;> omega
theorem ok4 (v : Nat) : okRune 4 v = decide (65536 ≤ v ∧ v ≤ 1114111) := by
  simp only [okRune]
  by_cases h1 : v < 65536 <;> by_cases h2 : 1114111 < v <;> simp [h1, h2] <;> omega
theorem valid_nat (v : Nat) : Utf8.valid (v : Int) = decide (v < 55296 ∨ 57344 ≤ v ∧ v ≤ 1114111) := by
  simp only [Utf8.valid]
  by_cases h1 : v < 55296 <;> by_cases h2 : 57344 ≤ v <;> by_cases h3 : v ≤ 1114111 <;> simp [h1, h2, h3] <;> omega
def Same (l : List UInt8) : Prop := ((refRune l).2 = 0 ∧ decL l = (65533, 1)) ∨ ((refRune l).2 ≠ 0 ∧ decL l = refRune l)
theorem Same.bad {l : List UInt8} (h1 : refRune l = (0, 0)) (h2 : decL l = (65533, 1)) : Same l := .inl ⟨by rw [h1], h2⟩
theorem Same.ok {l : List UInt8} {v n : Nat} (h1 : refRune l = (v, n)) (h0 : n ≠ 0) (h2 : decL l = (v, n)) : Same l := .inr ⟨by rw [h1]; exact h0, by rw [h1, h2]⟩
theorem same1 (a : UInt8) : Same [a] := by
  have := a.toNat_lt
  by_cases h1 : a.toNat < 128
  · exact Same.ok (v := a.toNat) (n := 1) (by rw [refRune, if_pos h1]) (by decide) (by rw [decL, if_pos h1])
  · refine Same.bad ?_ (by rw [decL, if_neg h1])
    rw [refRune, if_neg h1, if_pos]
    simp only [runeHead]
    repeat' split
    all_goals simp
theorem same2 (a b : UInt8) : Same [a, b] := by
  have := a.toNat_lt
  have := b.toNat_lt
  by_cases h1 : a.toNat < 128
  · exact Same.ok (v := a.toNat) (n := 1) (by rw [refRune, if_pos h1]) (by decide) (by rw [decL, if_pos h1])
  · by_cases h2 : a.toNat < 194
    · refine Same.bad (by simp (disch := omega) only [refRune, runeHead, if_pos, if_neg, true_or, if_true]) ?_
      rw [decL, if_neg h1]
      split
      · rw [if_neg (by omega)]
      · rfl
    · by_cases h3 : a.toNat < 224
      · by_cases h4 : b.toNat < 128 ∨ 191 < b.toNat
        · refine Same.bad ?_ (by simp (disch := omega) only [decL, if_pos, if_neg])
          simp (disch := omega) only [refRune, runeHead, if_pos, if_neg, List.length_cons, List.length_nil, Nat.reduceSub, runeLoop, h4]
          rfl
        · refine Same.ok (v := 64 * (a.toNat - 192) + b.toNat - 128) (n := 2) ?_ (by decide) ?_
          · simp (disch := omega) only [refRune, runeHead, if_pos, if_neg, List.length_cons, List.length_nil, Nat.reduceSub, runeLoop, h4, ok2, if_true, if_false]
          · rw [decL, if_neg (by omega), if_pos (by omega), if_pos (by omega), show (a.toNat % 32) * 64 + b.toNat % 64 = 64 * (a.toNat - 192) + b.toNat - 128 from by omega]
      · refine Same.bad ?_ (by simp (disch := omega) only [decL, if_pos, if_neg])
        rw [refRune, if_neg h1, if_pos]
        simp only [runeHead]
        rw [if_neg (by omega)]
        repeat' split
        all_goals simp
theorem same3 (a b c : UInt8) : Same [a, b, c] := by
  have := a.toNat_lt
  have := b.toNat_lt
  have := c.toNat_lt
  by_cases h3 : a.toNat < 224
  · have e1 : refRune [a, b, c] = refRune [a, b] := by
      by_cases h1 : a.toNat < 128
      · rw [refRune, if_pos h1, refRune, if_pos h1]
      · by_cases h2 : a.toNat < 194
        · simp (disch := omega) only [refRune, runeHead, if_pos, if_neg, true_or, if_true]
        · simp (disch := omega) only [refRune, runeHead, if_pos, if_neg, List.length_cons, List.length_nil, Nat.reduceSub, runeLoop]
    have e2 : decL [a, b, c] = decL [a, b] := by
      rw [decL, decL]
      split
      · rfl
      · split
        · rfl
        · rw [if_neg (by omega)]
    have := same2 a b
    unfold Same at this ⊢
    rw [e1, e2]; exact this
  · by_cases h4 : a.toNat < 240
    · by_cases h5 : b.toNat < 128 ∨ 191 < b.toNat
      · refine Same.bad ?_ (by simp (disch := omega) only [decL, if_pos, if_neg])
        simp (disch := omega) only [refRune, runeHead, if_pos, if_neg, List.length_cons, List.length_nil, Nat.reduceSub, runeLoop, h5]
        rfl
      · by_cases h6 : c.toNat < 128 ∨ 191 < c.toNat
        · refine Same.bad ?_ (by simp (disch := omega) only [decL, if_pos, if_neg])
          simp (disch := omega) only [refRune, runeHead, if_pos, if_neg, List.length_cons, List.length_nil, Nat.reduceSub, runeLoop, h5, h6]
          rfl
        · have ev : (a.toNat % 16) * 4096 + (b.toNat % 64) * 64 + c.toNat % 64 = 64 * (64 * (a.toNat - 224) + b.toNat - 128) + c.toNat - 128 := by omega
          have er : refRune [a, b, c] = if okRune 3 (64 * (64 * (a.toNat - 224) + b.toNat - 128) + c.toNat - 128) then (64 * (64 * (a.toNat - 224) + b.toNat - 128) + c.toNat - 128, 3) else (0, 0) := by
            simp (disch := omega) only [refRune, runeHead, if_pos, if_neg, List.length_cons, List.length_nil, Nat.reduceSub, runeLoop, h5, h6, if_false]
          have ed : decL [a, b, c] = if 2048 ≤ (64 * (64 * (a.toNat - 224) + b.toNat - 128) + c.toNat - 128) ∧ Utf8.valid (64 * (64 * (a.toNat - 224) + b.toNat - 128) + c.toNat - 128 : Nat) then (64 * (64 * (a.toNat - 224) + b.toNat - 128) + c.toNat - 128, 3) else (65533, 1) := by
            rw [decL, if_neg (by omega), if_neg (by omega), if_pos (by omega), ev]
          generalize 64 * (64 * (a.toNat - 224) + b.toNat - 128) + c.toNat - 128 = v at er ed ev
          by_cases hv : 2048 ≤ v ∧ (v < 55296 ∨ 57344 ≤ v)
          · refine Same.ok (v := v) (n := 3) (by rw [er, ok3, if_pos (by simpa using hv)]) (by decide) ?_
            rw [ed, valid_nat, if_pos]
            exact ⟨hv.1, by simp; omega⟩
          · refine Same.bad (by rw [er, ok3, if_neg (by simpa using hv)]) ?_
            rw [ed, valid_nat, if_neg]
            rintro ⟨h1, h2⟩
            simp at h2; omega
    · refine Same.bad ?_ (by simp (disch := omega) only [decL, if_pos, if_neg])
      rw [refRune, if_neg (by omega), if_pos]
      simp only [runeHead]
      rw [if_neg (by omega), if_neg (by omega)]
      repeat' split
      all_goals simp
theorem same4 (a b c d : UInt8) (r : List UInt8) : Same (a :: b :: c :: d :: r) := by
  have := a.toNat_lt
  have := b.toNat_lt
  have := c.toNat_lt
  have := d.toNat_lt
  have hn3 : ¬ (r.length + 1 + 1 + 1 + 1 < 3) := by omega
  have hn2 : ¬ (r.length + 1 + 1 + 1 + 1 < 2) := by omega
  by_cases h3 : a.toNat < 240
  · have e1 : refRune (a :: b :: c :: d :: r) = refRune [a, b, c] := by
      by_cases h1 : a.toNat < 128
      · rw [refRune, if_pos h1, refRune, if_pos h1]
      · by_cases h2 : a.toNat < 194
        · simp (disch := omega) only [refRune, runeHead, if_pos, if_neg, true_or, if_true]
        · by_cases h4 : a.toNat < 224
          · simp (disch := omega) only [refRune, runeHead, if_pos, if_neg, List.length_cons, List.length_nil, Nat.reduceSub, runeLoop]
          · simp (disch := omega) only [refRune, runeHead, if_pos, if_neg, List.length_cons, List.length_nil, Nat.reduceSub, runeLoop]
    have e2 : decL (a :: b :: c :: d :: r) = decL [a, b, c] := by
      rw [decL, decL]
      split
      · rfl
      · split
        · rfl
        · split
          · rfl
          · rw [if_neg (by omega)]
    have := same3 a b c
    unfold Same at this ⊢
    rw [e1, e2]; exact this
  · by_cases h4 : a.toNat < 245
    · by_cases h5 : b.toNat < 128 ∨ 191 < b.toNat
      · refine Same.bad ?_ (by simp (disch := omega) only [decL, if_pos, if_neg])
        simp (disch := omega) only [refRune, runeHead, if_pos, if_neg, List.length_cons, Nat.reduceSub, runeLoop, h5]
        rfl
      · by_cases h6 : c.toNat < 128 ∨ 191 < c.toNat
        · refine Same.bad ?_ (by simp (disch := omega) only [decL, if_pos, if_neg])
          simp (disch := omega) only [refRune, runeHead, if_pos, if_neg, List.length_cons, Nat.reduceSub, runeLoop, h5, h6]
          rfl
        · by_cases h7 : d.toNat < 128 ∨ 191 < d.toNat
          · refine Same.bad ?_ (by simp (disch := omega) only [decL, if_pos, if_neg])
            simp (disch := omega) only [refRune, runeHead, if_pos, if_neg, List.length_cons, Nat.reduceSub, runeLoop, h5, h6, h7]
            rfl
          · have ev : (a.toNat % 8) * 262144 + (b.toNat % 64) * 4096 + (c.toNat % 64) * 64 + d.toNat % 64 = 64 * (64 * (64 * (a.toNat - 240) + b.toNat - 128) + c.toNat - 128) + d.toNat - 128 := by omega
            have er : refRune (a :: b :: c :: d :: r) = if okRune 4 (64 * (64 * (64 * (a.toNat - 240) + b.toNat - 128) + c.toNat - 128) + d.toNat - 128) then (64 * (64 * (64 * (a.toNat - 240) + b.toNat - 128) + c.toNat - 128) + d.toNat - 128, 4) else (0, 0) := by
              simp (disch := omega) only [refRune, runeHead, if_pos, if_neg, List.length_cons, Nat.reduceSub, runeLoop, h5, h6, h7, if_false]
            have ed : decL (a :: b :: c :: d :: r) = if 65536 ≤ (64 * (64 * (64 * (a.toNat - 240) + b.toNat - 128) + c.toNat - 128) + d.toNat - 128) ∧ Utf8.valid (64 * (64 * (64 * (a.toNat - 240) + b.toNat - 128) + c.toNat - 128) + d.toNat - 128 : Nat) then (64 * (64 * (64 * (a.toNat - 240) + b.toNat - 128) + c.toNat - 128) + d.toNat - 128, 4) else (65533, 1) := by
              rw [decL, if_neg (by omega), if_neg (by omega), if_neg (by omega), if_pos (by omega), ev]
            generalize 64 * (64 * (64 * (a.toNat - 240) + b.toNat - 128) + c.toNat - 128) + d.toNat - 128 = v at er ed ev
            by_cases hv : 65536 ≤ v ∧ v ≤ 1114111
            · refine Same.ok (v := v) (n := 4) (by rw [er, ok4, if_pos (by simpa using hv)]) (by decide) ?_
              rw [ed, valid_nat, if_pos]
              exact ⟨hv.1, by simp; omega⟩
            · refine Same.bad (by rw [er, ok4, if_neg (by simpa using hv)]) ?_
              rw [ed, valid_nat, if_neg]
              rintro ⟨h1, h2⟩
              simp at h2; omega
    · refine Same.bad ?_ ?_
      rotate_left
      · rw [decL, if_neg (by omega), if_neg (by omega), if_neg (by omega)]
        split
        · rw [valid_nat, if_neg]
          rintro ⟨_, h2⟩
          simp at h2; omega
        · rfl
      rw [refRune, if_neg (by omega), if_pos]
      left
      simp only [runeHead]
      rw [if_neg (by omega), if_neg (by omega), if_neg (by omega)]
theorem same (l : List UInt8) (h : l ≠ []) : Same l := by
  match l, h with
  | [a], _ => exact same1 a
  | [a, b], _ => exact same2 a b
  | [a, b, c], _ => exact same3 a b c
  | a :: b :: c :: d :: r, _ => exact same4 a b c d r
theorem decL_pos (l : List UInt8) (h : l ≠ []) : 1 ≤ (decL l).2 ∧ (decL l).2 ≤ l.length := by
  match l, h with
  | [a], _ => simp only [decL]; split <;> simp
  | [a, b], _ => simp only [decL]; repeat' split
                 all_goals simp
  | [a, b, c], _ => simp only [decL]; repeat' split
                    all_goals simp
  | a :: b :: c :: d :: r, _ => simp only [decL]; repeat' split
                                all_goals simp
theorem decL_lt (l : List UInt8) : (decL l).1 < 2097152 := by
  match l with
  | [] => simp [decL]
  | [a] => have := a.toNat_lt; simp only [decL]; split <;> simp; omega
  | [a, b] =>
    have := a.toNat_lt
    simp only [decL]; repeat' split
    all_goals simp only; omega
  | [a, b, c] =>
    have := a.toNat_lt
    simp only [decL]; repeat' split
    all_goals simp only; omega
  | a :: b :: c :: d :: r =>
    have := a.toNat_lt
    simp only [decL]; repeat' split
    all_goals simp only; omega
def fffd (l : List UInt8) : Prop := 3 ≤ l.length ∧ l.take 3 = [239, 191, 189]
instance (l : List UInt8) : Decidable (fffd l) := inferInstanceAs (Decidable (_ ∧ _))
theorem fffd_rune (l : List UInt8) (h : fffd l) : refRune l = (65533, 3) := by
  obtain ⟨h1, h2⟩ := h
  match l, h1, h2 with
  | a :: b :: c :: r, _, h2 =>
    simp only [List.take_succ_cons, List.take_zero, List.cons.injEq, and_true] at h2
    obtain ⟨rfl, rfl, rfl⟩ := h2
    simp only [refRune]
    rw [if_neg (by decide), if_neg]
    · rfl
    · simp [runeHead]
theorem rune_fffd (l : List UInt8) (h : (refRune l).1 = 65533) : fffd l := by
  match l, h with
  | a :: r, h =>
    have := a.toNat_lt
    simp only [refRune] at h
    by_cases h1 : a.toNat < 128
    · rw [if_pos h1] at h; simp only at h; omega
    · rw [if_neg h1] at h
      by_cases h2 : (runeHead a.toNat).1 = 0 ∨ r.length + 1 < (runeHead a.toNat).1
      · rw [if_pos h2] at h; simp at h
      · rw [if_neg h2] at h
        have h3 : (runeHead a.toNat).1 = 2 ∧ a.toNat < 224 ∧ 194 ≤ a.toNat ∧ (runeHead a.toNat).2 = a.toNat - 192 ∨ (runeHead a.toNat).1 = 3 ∧ a.toNat < 240 ∧ 224 ≤ a.toNat ∧ (runeHead a.toNat).2 = a.toNat - 224 ∨ (runeHead a.toNat).1 = 4 := by
          simp only [runeHead] at h2 ⊢
          split
          · left; exact ⟨rfl, by omega, by omega, rfl⟩
          · split
            · right; left; exact ⟨rfl, by omega, by omega, rfl⟩
            · split
              · right; right; rfl
              · rename_i x y z
                rw [if_neg x, if_neg y, if_neg z] at h2
                simp at h2
        rcases h3 with ⟨e, e1, e2, e3⟩ | ⟨e, e1, e2, e3⟩ | e
        · rw [e, e3] at h
          rw [e] at h2
          match r, h2, h with
          | b :: r, h2, h =>
            have := b.toNat_lt
            simp only [Nat.reduceSub, runeLoop] at h
            split at h
            · simp at h
            · rename_i v hv
              split at hv
              · simp at hv
              · simp only [Option.some.injEq] at hv
                rw [ok2] at h
                simp only [if_true] at h
                omega
          | [], h2, h => simp at h2
        · rw [e, e3] at h
          rw [e] at h2
          match r, h2, h with
          | [], h2, h => simp at h2
          | [b], h2, h => simp at h2
          | b :: c :: r, h2, h =>
            have := b.toNat_lt
            have := c.toNat_lt
            simp only [Nat.reduceSub, runeLoop] at h
            split at h
            · simp at h
            · rename_i v hv
              split at hv
              · simp at hv
              · split at hv
                · simp at hv
                · simp only [Option.some.injEq] at hv
                  split at h
                  · simp only at h
                    refine ⟨by simp, ?_⟩
                    have q1 : a.toNat = 239 := by omega
                    have q2 : b.toNat = 191 := by omega
                    have q3 : c.toNat = 189 := by omega
                    have p1 : a = 239 := UInt8.toNat_inj.1 q1
                    have p2 : b = 191 := UInt8.toNat_inj.1 q2
                    have p3 : c = 189 := UInt8.toNat_inj.1 q3
                    rw [p1, p2, p3]; rfl
                  · simp at h
        · rw [e] at h
          split at h
          · simp at h
          · rename_i v hv
            rw [ok4] at h
            split at h
            · rename_i hd
              simp at hd h; omega
            · simp at h
/-- Good: the reference's, with a bound on its steps. -/
def goodR : Nat → List UInt8 → Bool
  | 0, _ => true
  | m + 1, l => if l = [] then true else if (refRune l).2 = 0 ∨ (refRune l).1 < 33 ∨ (refRune l).1 = 127 then false else goodR m (l.drop (refRune l).2)
def good (l : List UInt8) : Bool := goodR l.length l && decide (1 ≤ l.length ∧ l.length ≤ 16)
theorem refRune_pos (l : List UInt8) (h : (refRune l).2 ≠ 0) : (refRune l).2 ≤ l.length := by
  by_cases h0 : l = []
  · subst h0; simp [refRune] at h
  · rcases same l h0 with ⟨h1, _⟩ | ⟨h1, h2⟩
    · exact absurd h1 h
    · rw [← h2]; exact (decL_pos l h0).2
end Go.PG

namespace Go.PG
open Go.Proofs

theorem goodR_fuel : ∀ (m n : Nat) (l : List UInt8), l.length ≤ m → l.length ≤ n → goodR m l = goodR n l
  | 0, 0, l, _, _ => rfl
  | 0, n + 1, l, h, _ => by
    have : l = [] := List.length_eq_zero_iff.1 (by omega)
    subst this; simp [goodR]
  | m + 1, 0, l, _, h => by
    have : l = [] := List.length_eq_zero_iff.1 (by omega)
    subst this; simp [goodR]
  | m + 1, n + 1, l, h1, h2 => by
    rw [goodR, goodR]
    by_cases h0 : l = []
    · rw [if_pos h0, if_pos h0]
    · rw [if_neg h0, if_neg h0]
      by_cases hb : (refRune l).2 = 0 ∨ (refRune l).1 < 33 ∨ (refRune l).1 = 127
      · rw [if_pos hb, if_pos hb]
      · rw [if_neg hb, if_neg hb]
        have hp : (refRune l).2 ≠ 0 := fun h => hb (.inl h)
        have hl : 0 < l.length := List.length_pos_iff.2 h0
        exact goodR_fuel m n _ (by rw [List.length_drop]; omega) (by rw [List.length_drop]; omega)
theorem goodR_bad {m : Nat} {l : List UInt8} (h0 : l ≠ []) (hm : l.length ≤ m) (hb : (refRune l).2 = 0 ∨ (refRune l).1 < 33 ∨ (refRune l).1 = 127) : goodR m l = false := by
  have hl : 0 < l.length := List.length_pos_iff.2 h0
  obtain ⟨m, rfl⟩ : ∃ m', m = m' + 1 := ⟨m - 1, by omega⟩
  rw [goodR, if_neg h0, if_pos hb]
theorem goodR_step {m : Nat} {l : List UInt8} (h0 : l ≠ []) (hm : l.length ≤ m) (hb : ¬ ((refRune l).2 = 0 ∨ (refRune l).1 < 33 ∨ (refRune l).1 = 127)) : goodR m l = goodR m (l.drop (refRune l).2) := by
  have hl : 0 < l.length := List.length_pos_iff.2 h0
  have hp : (refRune l).2 ≠ 0 := fun h => hb (.inl h)
  obtain ⟨m, rfl⟩ : ∃ m', m = m' + 1 := ⟨m - 1, by omega⟩
  rw [goodR, if_neg h0, if_neg hb]
  exact goodR_fuel _ _ _ (by rw [List.length_drop]; omega) (by rw [List.length_drop]; omega)
/-! ### The reference's -/
theorem refGood_loop (k : Nat) (hk : 10 ≤ k) (nm : List UInt8) (hnm : nm.length < 9223372036854775808) (H : Heap) : ∀ (n : Nat) (l : List UInt8), l.length < n → l.length ≤ nm.length →
    L12_2 k n (str nm) (str l) H = some (.bool (goodR l.length l && decide (1 ≤ nm.length ∧ nm.length ≤ 16)), H)
  | 0, l, hn, _ => by omega
  | n + 1, l, hn, hl => by
    rw [L12_2]
    by_cases h0 : l = []
    · subst h0
      by_cases h1 : 1 ≤ nm.length
      · simp (disch := first | omega | assumption | (simp only [Yg, Yh, Yi, Yj] <;> omega) | (simp only [Qk, Ql, Qm, Qn, Qo, Qp, Bool.and_self]) | rfl) only [↓Z0, Z1, ↓Z2, ↓Z3, ↓Z4, ↓Z5, ↓Z6, Z7, ↓Z8, ↓Z9, ↓Za, ↓Zb, Zc, ↓Zd, Ze, Zf, decide_true, decide_false, Zg, Zh, Zi, Zj, Zk, Zl, Zm, Zn, Zo, Zp, Zq, Zr, Zs, Zt, Zu, Zv, Zw, Zx, Zy, Zz, Y0, Y1, Y2, Y3, Y4, Y5, Y6, Y7, Y8, Y9, Ya, Yb, Yc, Yd, Ye, Yf, Yg, Yh, Yi, Yj, Yk, Yl, Ym, Yn, Yo, Yp, Yq, Yr, Ys, Yt, Yu, Yv, Nat.zero_add, Nat.add_zero, ne_eq, not_false_eq_true, reduceCtorEq, Nat.reduceAdd, Nat.reduceEqDiff, Nat.succ_ne_self, Yw, Yx, Yy, Yz, Q0, Q1, ↓Q2, Q3, Q4, Q5, Q6, Q7, Q8, Q9, Qa, Qb, Qc, Qd, Qe, Qf, Qg, Qh, Qi, Qj, List.length_nil]
        rw [show goodR 0 [] = true from rfl, Bool.true_and]
        congr 3
        apply decide_eq_decide.2; omega
      · simp (disch := first | omega | assumption | (simp only [Yg, Yh, Yi, Yj] <;> omega) | (simp only [Qk, Ql, Qm, Qn, Qo, Qp, Bool.and_self]) | rfl) only [↓Z0, Z1, ↓Z2, ↓Z3, ↓Z4, ↓Z5, ↓Z6, Z7, ↓Z8, ↓Z9, ↓Za, ↓Zb, Zc, ↓Zd, Ze, Zf, decide_true, decide_false, Zg, Zh, Zi, Zj, Zk, Zl, Zm, Zn, Zo, Zp, Zq, Zr, Zs, Zt, Zu, Zv, Zw, Zx, Zy, Zz, Y0, Y1, Y2, Y3, Y4, Y5, Y6, Y7, Y8, Y9, Ya, Yb, Yc, Yd, Ye, Yf, Yg, Yh, Yi, Yj, Yk, Yl, Ym, Yn, Yo, Yp, Yq, Yr, Ys, Yt, Yu, Yv, Nat.zero_add, Nat.add_zero, ne_eq, not_false_eq_true, reduceCtorEq, Nat.reduceAdd, Nat.reduceEqDiff, Nat.succ_ne_self, Yw, Yx, Yy, Yz, Q0, Q1, ↓Q2, Q3, Q4, Q5, Q6, Q7, Q8, Q9, Qa, Qb, Qc, Qd, Qe, Qf, Qg, Qh, Qi, Qj, List.length_nil]
        rw [show goodR 0 [] = true from rfl, Bool.true_and]
        congr 3
        symm; apply decide_eq_false; omega
    · have hpos : 0 < l.length := List.length_pos_iff.2 h0
      have hr := rune_run hk l (by omega) H
      by_cases h1 : (refRune l).2 = 0
      · rw [goodR_bad h0 (Nat.le_refl _) (.inl h1)]
        simp (disch := first | omega | assumption | (simp only [Yg, Yh, Yi, Yj] <;> omega) | (simp only [Qk, Ql, Qm, Qn, Qo, Qp, Bool.and_self]) | rfl) only [↓Z0, Z1, ↓Z2, ↓Z3, ↓Z4, ↓Z5, ↓Z6, Z7, ↓Z8, ↓Z9, ↓Za, ↓Zb, Zc, ↓Zd, Ze, Zf, decide_true, decide_false, Zg, Zh, Zi, Zj, Zk, Zl, Zm, Zn, Zo, Zp, Zq, Zr, Zs, Zt, Zu, Zv, Zw, Zx, Zy, Zz, Y0, Y1, Y2, Y3, Y4, Y5, Y6, Y7, Y8, Y9, Ya, Yb, Yc, Yd, Ye, Yf, Yg, Yh, Yi, Yj, Yk, Yl, Ym, Yn, Yo, Yp, Yq, Yr, Ys, Yt, Yu, Yv, Nat.zero_add, Nat.add_zero, ne_eq, not_false_eq_true, reduceCtorEq, Nat.reduceAdd, Nat.reduceEqDiff, Nat.succ_ne_self, Yw, Yx, Yy, Yz, Q0, Q1, ↓Q2, Q3, Q4, Q5, Q6, Q7, Q8, Q9, Qa, Qb, Qc, Qd, Qe, Qf, Qg, Qh, Qi, Qj, hr, runeV, J12_0, J12_1]
        rfl
      · by_cases h2 : (refRune l).1 < 33
        · rw [goodR_bad h0 (Nat.le_refl _) (.inr (.inl h2))]
          simp (disch := first | omega | assumption | (simp only [Yg, Yh, Yi, Yj] <;> omega) | (simp only [Qk, Ql, Qm, Qn, Qo, Qp, Bool.and_self]) | rfl) only [↓Z0, Z1, ↓Z2, ↓Z3, ↓Z4, ↓Z5, ↓Z6, Z7, ↓Z8, ↓Z9, ↓Za, ↓Zb, Zc, ↓Zd, Ze, Zf, decide_true, decide_false, Zg, Zh, Zi, Zj, Zk, Zl, Zm, Zn, Zo, Zp, Zq, Zr, Zs, Zt, Zu, Zv, Zw, Zx, Zy, Zz, Y0, Y1, Y2, Y3, Y4, Y5, Y6, Y7, Y8, Y9, Ya, Yb, Yc, Yd, Ye, Yf, Yg, Yh, Yi, Yj, Yk, Yl, Ym, Yn, Yo, Yp, Yq, Yr, Ys, Yt, Yu, Yv, Nat.zero_add, Nat.add_zero, ne_eq, not_false_eq_true, reduceCtorEq, Nat.reduceAdd, Nat.reduceEqDiff, Nat.succ_ne_self, Yw, Yx, Yy, Yz, Q0, Q1, ↓Q2, Q3, Q4, Q5, Q6, Q7, Q8, Q9, Qa, Qb, Qc, Qd, Qe, Qf, Qg, Qh, Qi, Qj, hr, runeV, J12_0, J12_1]
          rfl
        · by_cases h3 : (refRune l).1 = 127
          · rw [goodR_bad h0 (Nat.le_refl _) (.inr (.inr h3))]
            simp (disch := first | omega | assumption | (simp only [Yg, Yh, Yi, Yj] <;> omega) | (simp only [Qk, Ql, Qm, Qn, Qo, Qp, Bool.and_self]) | rfl) only [↓Z0, Z1, ↓Z2, ↓Z3, ↓Z4, ↓Z5, ↓Z6, Z7, ↓Z8, ↓Z9, ↓Za, ↓Zb, Zc, ↓Zd, Ze, Zf, decide_true, decide_false, Zg, Zh, Zi, Zj, Zk, Zl, Zm, Zn, Zo, Zp, Zq, Zr, Zs, Zt, Zu, Zv, Zw, Zx, Zy, Zz, Y0, Y1, Y2, Y3, Y4, Y5, Y6, Y7, Y8, Y9, Ya, Yb, Yc, Yd, Ye, Yf, Yg, Yh, Yi, Yj, Yk, Yl, Ym, Yn, Yo, Yp, Yq, Yr, Ys, Yt, Yu, Yv, Nat.zero_add, Nat.add_zero, ne_eq, not_false_eq_true, reduceCtorEq, Nat.reduceAdd, Nat.reduceEqDiff, Nat.succ_ne_self, Yw, Yx, Yy, Yz, Q0, Q1, ↓Q2, Q3, Q4, Q5, Q6, Q7, Q8, Q9, Qa, Qb, Qc, Qd, Qe, Qf, Qg, Qh, Qi, Qj, hr, runeV, J12_0, J12_1]
            rfl
          · have hp := refRune_pos l h1
            have hs := refGood_loop k hk nm hnm H n (l.drop (refRune l).2) (by rw [List.length_drop]; omega) (by rw [List.length_drop]; omega)
            rw [goodR_step h0 (Nat.le_refl _) (by omega)]
            rw [goodR_fuel _ l.length _ (Nat.le_refl _) (by rw [List.length_drop]; omega)] at hs
            simp (disch := first | omega | assumption | (simp only [Yg, Yh, Yi, Yj] <;> omega) | (simp only [Qk, Ql, Qm, Qn, Qo, Qp, Bool.and_self]) | rfl) only [↓Z0, Z1, ↓Z2, ↓Z3, ↓Z4, ↓Z5, ↓Z6, Z7, ↓Z8, ↓Z9, ↓Za, ↓Zb, Zc, ↓Zd, Ze, Zf, decide_true, decide_false, Zg, Zh, Zi, Zj, Zk, Zl, Zm, Zn, Zo, Zp, Zq, Zr, Zs, Zt, Zu, Zv, Zw, Zx, Zy, Zz, Y0, Y1, Y2, Y3, Y4, Y5, Y6, Y7, Y8, Y9, Ya, Yb, Yc, Yd, Ye, Yf, Yg, Yh, Yi, Yj, Yk, Yl, Ym, Yn, Yo, Yp, Yq, Yr, Ys, Yt, Yu, Yv, Nat.zero_add, Nat.add_zero, ne_eq, not_false_eq_true, reduceCtorEq, Nat.reduceAdd, Nat.reduceEqDiff, Nat.succ_ne_self, Yw, Yx, Yy, Yz, Q0, Q1, ↓Q2, Q3, Q4, Q5, Q6, Q7, Q8, Q9, Qa, Qb, Qc, Qd, Qe, Qf, Qg, Qh, Qi, Qj, hr, runeV, J12_0, J12_1]
            exact hs
theorem refGood_run {k : Nat} (nm : List UInt8) (hnm : nm.length < 9223372036854775808) (hk : nm.length + 12 ≤ k) (H : Heap) : run Tryz.prog k 12 #[str nm] H = some (.bool (good nm), H) := by
  obtain ⟨k, rfl⟩ : ∃ k', k = k' + 1 := ⟨k - 1, by omega⟩
  rw [run12, F12]
  exact refGood_loop k (by omega) nm hnm H k nm (by omega) (Nat.le_refl _)
/-! ### The program's -/
theorem prefix_run {k : Nat} (a b : List UInt8) (ha : a.length < 9223372036854775808) (hb : b.length < 9223372036854775808) (H : Heap) : run Tryz.prog (k + 2) 43 #[str a, str b] H = some (.bool (decide (b.length ≤ a.length ∧ a.take b.length = b)), H) := by
  rw [run43, F43, run82, F82]
  by_cases h1 : b.length ≤ a.length
  · simp (disch := first | omega | assumption | (simp only [Yg, Yh, Yi, Yj] <;> omega) | (simp only [Qk, Ql, Qm, Qn, Qo, Qp, Bool.and_self]) | rfl) only [↓Z0, Z1, ↓Z2, ↓Z3, ↓Z4, ↓Z5, ↓Z6, Z7, ↓Z8, ↓Z9, ↓Za, ↓Zb, Zc, ↓Zd, Ze, Zf, decide_true, decide_false, Zg, Zh, Zi, Zj, Zk, Zl, Zm, Zn, Zo, Zp, Zq, Zr, Zs, Zt, Zu, Zv, Zw, Zx, Zy, Zz, Y0, Y1, Y2, Y3, Y4, Y5, Y6, Y7, Y8, Y9, Ya, Yb, Yc, Yd, Ye, Yf, Yg, Yh, Yi, Yj, Yk, Yl, Ym, Yn, Yo, Yp, Yq, Yr, Ys, Yt, Yu, Yv, Nat.zero_add, Nat.add_zero, ne_eq, not_false_eq_true, reduceCtorEq, Nat.reduceAdd, Nat.reduceEqDiff, Nat.succ_ne_self, Yw, Yx, Yy, Yz, Q0, Q1, ↓Q2, Q3, Q4, Q5, Q6, Q7, Q8, Q9, Qa, Qb, Qc, Qd, Qe, Qf, Qg, Qh, Qi, Qj]
    congr 3
    apply decide_eq_decide.2; simp [h1]
  · simp (disch := first | omega | assumption | (simp only [Yg, Yh, Yi, Yj] <;> omega) | (simp only [Qk, Ql, Qm, Qn, Qo, Qp, Bool.and_self]) | rfl) only [↓Z0, Z1, ↓Z2, ↓Z3, ↓Z4, ↓Z5, ↓Z6, Z7, ↓Z8, ↓Z9, ↓Za, ↓Zb, Zc, ↓Zd, Ze, Zf, decide_true, decide_false, Zg, Zh, Zi, Zj, Zk, Zl, Zm, Zn, Zo, Zp, Zq, Zr, Zs, Zt, Zu, Zv, Zw, Zx, Zy, Zz, Y0, Y1, Y2, Y3, Y4, Y5, Y6, Y7, Y8, Y9, Ya, Yb, Yc, Yd, Ye, Yf, Yg, Yh, Yi, Yj, Yk, Yl, Ym, Yn, Yo, Yp, Yq, Yr, Ys, Yt, Yu, Yv, Nat.zero_add, Nat.add_zero, ne_eq, not_false_eq_true, reduceCtorEq, Nat.reduceAdd, Nat.reduceEqDiff, Nat.succ_ne_self, Yw, Yx, Yy, Yz, Q0, Q1, ↓Q2, Q3, Q4, Q5, Q6, Q7, Q8, Q9, Qa, Qb, Qc, Qd, Qe, Qf, Qg, Qh, Qi, Qj]
theorem next_more {H : Heap} {b i : Nat} {l : List UInt8} (hb : H.blk b = some (.iter ⟨l.toArray⟩ i)) (hf : H.floor ≤ b) (hi : i < l.length) :
    pNext (.pointer (some ⟨b, 0, none⟩)) true H = some (.tuple #[.bool true, .int .i64 (i : Int), .int .i32 ((decL (l.drop i)).1 : Int)], H.set b (.iter ⟨l.toArray⟩ (i + (decL (l.drop i)).2))) := by
  have hs : i < (⟨l.toArray⟩ : ByteArray).size := by simpa [ByteArray.size] using hi
  simp only [pNext, hb, hf, and_self, if_true, decode_list l i hi]
  rw [if_pos hs]
theorem next_end {H : Heap} {b i : Nat} {l : List UInt8} (hb : H.blk b = some (.iter ⟨l.toArray⟩ i)) (hf : H.floor ≤ b) (hi : l.length ≤ i) :
    pNext (.pointer (some ⟨b, 0, none⟩)) true H = some (.tuple #[.bool false], H) := by
  have hs : ¬ i < (⟨l.toArray⟩ : ByteArray).size := by simp [ByteArray.size]; omega
  simp only [pNext, hb, hf, and_self, if_true]
  rw [if_neg hs]
theorem extract_t1_0 (a : Value) : pExtract (.tuple #[a]) 0 = some a := Eq.trans rfl rfl
theorem set_set (H : Heap) (b : Nat) (x y : Blk) : (H.set b x).set b y = H.set b y := by
  simp only [Heap.set, Heap.mk.injEq, and_true]
  funext n; by_cases h : n = b <;> simp [h]
theorem good_loop (k : Nat) (hk : 10 ≤ k) (nm : List UInt8) (hnm : nm.length < 9223372036854775808) {H : Heap} {b : Nat} (hf : H.floor ≤ b) : ∀ (n i : Nat), nm.length - i < n → i ≤ nm.length →
    ∃ i', L11_4 k n (str nm) (.pointer (some ⟨b, 0, none⟩)) (H.set b (.iter ⟨nm.toArray⟩ i)) = some (.bool (goodR nm.length (nm.drop i) && decide (1 ≤ nm.length ∧ nm.length ≤ 16)), H.set b (.iter ⟨nm.toArray⟩ i'))
  | 0, i, hn, _ => by omega
  | n + 1, i, hn, hi => by
    have hb : (H.set b (.iter ⟨nm.toArray⟩ i)).blk b = some (.iter ⟨nm.toArray⟩ i) := Ye rfl
    rw [L11_4]
    by_cases h0 : i = nm.length
    · have hd : nm.drop i = [] := List.drop_eq_nil_of_le (by omega)
      rw [hd]
      refine ⟨i, ?_⟩
      by_cases h1 : 1 ≤ nm.length
      · simp (disch := first | omega | assumption | (simp only [Yg, Yh, Yi, Yj] <;> omega) | (simp only [Qk, Ql, Qm, Qn, Qo, Qp, Bool.and_self]) | rfl) only [↓Z0, Z1, ↓Z2, ↓Z3, ↓Z4, ↓Z5, ↓Z6, Z7, ↓Z8, ↓Z9, ↓Za, ↓Zb, Zc, ↓Zd, Ze, Zf, decide_true, decide_false, Zg, Zh, Zi, Zj, Zk, Zl, Zm, Zn, Zo, Zp, Zq, Zr, Zs, Zt, Zu, Zv, Zw, Zx, Zy, Zz, Y0, Y1, Y2, Y3, Y4, Y5, Y6, Y7, Y8, Y9, Ya, Yb, Yc, Yd, Ye, Yf, Yg, Yh, Yi, Yj, Yk, Yl, Ym, Yn, Yo, Yp, Yq, Yr, Ys, Yt, Yu, Yv, Nat.zero_add, Nat.add_zero, ne_eq, not_false_eq_true, reduceCtorEq, Nat.reduceAdd, Nat.reduceEqDiff, Nat.succ_ne_self, Yw, Yx, Yy, Yz, Q0, Q1, ↓Q2, Q3, Q4, Q5, Q6, Q7, Q8, Q9, Qa, Qb, Qc, Qd, Qe, Qf, Qg, Qh, Qi, Qj, next_end hb hf (by omega), extract_t1_0]
        congr 3
        have : goodR nm.length [] = true := by cases nm.length <;> simp [goodR]
        rw [this, Bool.true_and]
        apply decide_eq_decide.2; omega
      · simp (disch := first | omega | assumption | (simp only [Yg, Yh, Yi, Yj] <;> omega) | (simp only [Qk, Ql, Qm, Qn, Qo, Qp, Bool.and_self]) | rfl) only [↓Z0, Z1, ↓Z2, ↓Z3, ↓Z4, ↓Z5, ↓Z6, Z7, ↓Z8, ↓Z9, ↓Za, ↓Zb, Zc, ↓Zd, Ze, Zf, decide_true, decide_false, Zg, Zh, Zi, Zj, Zk, Zl, Zm, Zn, Zo, Zp, Zq, Zr, Zs, Zt, Zu, Zv, Zw, Zx, Zy, Zz, Y0, Y1, Y2, Y3, Y4, Y5, Y6, Y7, Y8, Y9, Ya, Yb, Yc, Yd, Ye, Yf, Yg, Yh, Yi, Yj, Yk, Yl, Ym, Yn, Yo, Yp, Yq, Yr, Ys, Yt, Yu, Yv, Nat.zero_add, Nat.add_zero, ne_eq, not_false_eq_true, reduceCtorEq, Nat.reduceAdd, Nat.reduceEqDiff, Nat.succ_ne_self, Yw, Yx, Yy, Yz, Q0, Q1, ↓Q2, Q3, Q4, Q5, Q6, Q7, Q8, Q9, Qa, Qb, Qc, Qd, Qe, Qf, Qg, Qh, Qi, Qj, next_end hb hf (by omega), extract_t1_0]
        congr 3
        have : goodR nm.length [] = true := by cases nm.length <;> simp [goodR]
        rw [this, Bool.true_and]
        symm; apply decide_eq_false; omega
    · have hlt : i < nm.length := by omega
      have hne : nm.drop i ≠ [] := by intro e; have := congrArg List.length e; rw [List.length_drop] at this; simp at this; omega
      have hlen : (nm.drop i).length = nm.length - i := List.length_drop
      obtain ⟨hp1, hp2⟩ := decL_pos (nm.drop i) hne
      have hnx := next_more hb hf hlt
      rw [set_set] at hnx
      have hbig := decL_lt (nm.drop i)
      have hsm := same (nm.drop i) hne
      by_cases h1 : (refRune (nm.drop i)).2 = 0
      · rw [goodR_bad hne (by omega) (.inl h1)]
        have hd : decL (nm.drop i) = (65533, 1) := by
          rcases hsm with ⟨_, h⟩ | ⟨h, _⟩
          · exact h
          · exact absurd h1 h
        have hnf : ¬ fffd (nm.drop i) := fun h => by rw [fffd_rune _ h] at h1; simp at h1
        rw [hd] at hnx
        have hpr := prefix_run (k := k - 2) (nm.drop i) [239, 191, 189] (by omega) (by decide) (H.set b (.iter ⟨nm.toArray⟩ (i + 1)))
        rw [show k - 2 + 2 = k from by omega, show decide (([239, 191, 189] : List UInt8).length ≤ (nm.drop i).length ∧ (nm.drop i).take ([239, 191, 189] : List UInt8).length = [239, 191, 189]) = false from decide_eq_false hnf] at hpr
        refine ⟨i + 1, ?_⟩
        simp (disch := first | omega | assumption | (simp only [Yg, Yh, Yi, Yj] <;> omega) | (simp only [Qk, Ql, Qm, Qn, Qo, Qp, Bool.and_self]) | rfl) only [↓Z0, Z1, ↓Z2, ↓Z3, ↓Z4, ↓Z5, ↓Z6, Z7, ↓Z8, ↓Z9, ↓Za, ↓Zb, Zc, ↓Zd, Ze, Zf, decide_true, decide_false, Zg, Zh, Zi, Zj, Zk, Zl, Zm, Zn, Zo, Zp, Zq, Zr, Zs, Zt, Zu, Zv, Zw, Zx, Zy, Zz, Y0, Y1, Y2, Y3, Y4, Y5, Y6, Y7, Y8, Y9, Ya, Yb, Yc, Yd, Ye, Yf, Yg, Yh, Yi, Yj, Yk, Yl, Ym, Yn, Yo, Yp, Yq, Yr, Ys, Yt, Yu, Yv, Nat.zero_add, Nat.add_zero, ne_eq, not_false_eq_true, reduceCtorEq, Nat.reduceAdd, Nat.reduceEqDiff, Nat.succ_ne_self, Yw, Yx, Yy, Yz, Q0, Q1, ↓Q2, Q3, Q4, Q5, Q6, Q7, Q8, Q9, Qa, Qb, Qc, Qd, Qe, Qf, Qg, Qh, Qi, Qj, hnx, J11_0, J11_1, J11_2, J11_3, hpr]
        rfl
      · have hd : decL (nm.drop i) = refRune (nm.drop i) := by
          rcases hsm with ⟨h, _⟩ | ⟨_, h⟩
          · exact absurd h h1
          · exact h
        rw [hd] at hnx hbig
        by_cases h2 : (refRune (nm.drop i)).1 < 33
        · rw [goodR_bad hne (by omega) (.inr (.inl h2))]
          refine ⟨i + (refRune (nm.drop i)).2, ?_⟩
          simp (disch := first | omega | assumption | (simp only [Yg, Yh, Yi, Yj] <;> omega) | (simp only [Qk, Ql, Qm, Qn, Qo, Qp, Bool.and_self]) | rfl) only [↓Z0, Z1, ↓Z2, ↓Z3, ↓Z4, ↓Z5, ↓Z6, Z7, ↓Z8, ↓Z9, ↓Za, ↓Zb, Zc, ↓Zd, Ze, Zf, decide_true, decide_false, Zg, Zh, Zi, Zj, Zk, Zl, Zm, Zn, Zo, Zp, Zq, Zr, Zs, Zt, Zu, Zv, Zw, Zx, Zy, Zz, Y0, Y1, Y2, Y3, Y4, Y5, Y6, Y7, Y8, Y9, Ya, Yb, Yc, Yd, Ye, Yf, Yg, Yh, Yi, Yj, Yk, Yl, Ym, Yn, Yo, Yp, Yq, Yr, Ys, Yt, Yu, Yv, Nat.zero_add, Nat.add_zero, ne_eq, not_false_eq_true, reduceCtorEq, Nat.reduceAdd, Nat.reduceEqDiff, Nat.succ_ne_self, Yw, Yx, Yy, Yz, Q0, Q1, ↓Q2, Q3, Q4, Q5, Q6, Q7, Q8, Q9, Qa, Qb, Qc, Qd, Qe, Qf, Qg, Qh, Qi, Qj, hnx, J11_0, J11_1, J11_2, J11_3]
          rfl
        · by_cases h3 : (refRune (nm.drop i)).1 = 127
          · rw [goodR_bad hne (by omega) (.inr (.inr h3))]
            refine ⟨i + (refRune (nm.drop i)).2, ?_⟩
            simp (disch := first | omega | assumption | (simp only [Yg, Yh, Yi, Yj] <;> omega) | (simp only [Qk, Ql, Qm, Qn, Qo, Qp, Bool.and_self]) | rfl) only [↓Z0, Z1, ↓Z2, ↓Z3, ↓Z4, ↓Z5, ↓Z6, Z7, ↓Z8, ↓Z9, ↓Za, ↓Zb, Zc, ↓Zd, Ze, Zf, decide_true, decide_false, Zg, Zh, Zi, Zj, Zk, Zl, Zm, Zn, Zo, Zp, Zq, Zr, Zs, Zt, Zu, Zv, Zw, Zx, Zy, Zz, Y0, Y1, Y2, Y3, Y4, Y5, Y6, Y7, Y8, Y9, Ya, Yb, Yc, Yd, Ye, Yf, Yg, Yh, Yi, Yj, Yk, Yl, Ym, Yn, Yo, Yp, Yq, Yr, Ys, Yt, Yu, Yv, Nat.zero_add, Nat.add_zero, ne_eq, not_false_eq_true, reduceCtorEq, Nat.reduceAdd, Nat.reduceEqDiff, Nat.succ_ne_self, Yw, Yx, Yy, Yz, Q0, Q1, ↓Q2, Q3, Q4, Q5, Q6, Q7, Q8, Q9, Qa, Qb, Qc, Qd, Qe, Qf, Qg, Qh, Qi, Qj, hnx, J11_0, J11_1, J11_2, J11_3]
            rfl
          · rw [goodR_step hne (by omega) (by omega), List.drop_drop]
            rw [hd] at hp1 hp2
            obtain ⟨i', ih⟩ := good_loop k hk nm hnm hf n (i + (refRune (nm.drop i)).2) (by omega) (by omega)
            refine ⟨i', ?_⟩
            by_cases h4 : (refRune (nm.drop i)).1 = 65533
            · have hpr := prefix_run (k := k - 2) (nm.drop i) [239, 191, 189] (by omega) (by decide) (H.set b (.iter ⟨nm.toArray⟩ (i + (refRune (nm.drop i)).2)))
              rw [show k - 2 + 2 = k from by omega, show decide (([239, 191, 189] : List UInt8).length ≤ (nm.drop i).length ∧ (nm.drop i).take ([239, 191, 189] : List UInt8).length = [239, 191, 189]) = true from decide_eq_true (rune_fffd _ h4)] at hpr
              simp (disch := first | omega | assumption | (simp only [Yg, Yh, Yi, Yj] <;> omega) | (simp only [Qk, Ql, Qm, Qn, Qo, Qp, Bool.and_self]) | rfl) only [↓Z0, Z1, ↓Z2, ↓Z3, ↓Z4, ↓Z5, ↓Z6, Z7, ↓Z8, ↓Z9, ↓Za, ↓Zb, Zc, ↓Zd, Ze, Zf, decide_true, decide_false, Zg, Zh, Zi, Zj, Zk, Zl, Zm, Zn, Zo, Zp, Zq, Zr, Zs, Zt, Zu, Zv, Zw, Zx, Zy, Zz, Y0, Y1, Y2, Y3, Y4, Y5, Y6, Y7, Y8, Y9, Ya, Yb, Yc, Yd, Ye, Yf, Yg, Yh, Yi, Yj, Yk, Yl, Ym, Yn, Yo, Yp, Yq, Yr, Ys, Yt, Yu, Yv, Nat.zero_add, Nat.add_zero, ne_eq, not_false_eq_true, reduceCtorEq, Nat.reduceAdd, Nat.reduceEqDiff, Nat.succ_ne_self, Yw, Yx, Yy, Yz, Q0, Q1, ↓Q2, Q3, Q4, Q5, Q6, Q7, Q8, Q9, Qa, Qb, Qc, Qd, Qe, Qf, Qg, Qh, Qi, Qj, hnx, J11_0, J11_1, J11_2, J11_3, hpr]
              exact ih
            · simp (disch := first | omega | assumption | (simp only [Yg, Yh, Yi, Yj] <;> omega) | (simp only [Qk, Ql, Qm, Qn, Qo, Qp, Bool.and_self]) | rfl) only [↓Z0, Z1, ↓Z2, ↓Z3, ↓Z4, ↓Z5, ↓Z6, Z7, ↓Z8, ↓Z9, ↓Za, ↓Zb, Zc, ↓Zd, Ze, Zf, decide_true, decide_false, Zg, Zh, Zi, Zj, Zk, Zl, Zm, Zn, Zo, Zp, Zq, Zr, Zs, Zt, Zu, Zv, Zw, Zx, Zy, Zz, Y0, Y1, Y2, Y3, Y4, Y5, Y6, Y7, Y8, Y9, Ya, Yb, Yc, Yd, Ye, Yf, Yg, Yh, Yi, Yj, Yk, Yl, Ym, Yn, Yo, Yp, Yq, Yr, Ys, Yt, Yu, Yv, Nat.zero_add, Nat.add_zero, ne_eq, not_false_eq_true, reduceCtorEq, Nat.reduceAdd, Nat.reduceEqDiff, Nat.succ_ne_self, Yw, Yx, Yy, Yz, Q0, Q1, ↓Q2, Q3, Q4, Q5, Q6, Q7, Q8, Q9, Qa, Qb, Qc, Qd, Qe, Qf, Qg, Qh, Qi, Qj, hnx, J11_0, J11_1, J11_2, J11_3]
              exact ih
theorem range9 (l : List UInt8) (H : Heap) : pRange Tryz.prog 9 (str l) H = some (.pointer (some ⟨H.next, 0, none⟩), H.new (.iter ⟨l.toArray⟩ 0)) := by kernel_rfl
theorem good_run {k : Nat} (nm : List UInt8) (hnm : nm.length < 9223372036854775808) (hk : nm.length + 12 ≤ k) (H : Heap) (hf : H.floor ≤ H.next) : ∃ H', run Tryz.prog k 11 #[str nm] H = some (.bool (good nm), H') ∧ Grow H H' := by
  obtain ⟨k, rfl⟩ : ∃ k', k = k' + 1 := ⟨k - 1, by omega⟩
  have hset := set_same (Y9 H (.iter ⟨nm.toArray⟩ 0))
  obtain ⟨i', h⟩ := good_loop k (by omega) nm hnm (H := H.new (.iter ⟨nm.toArray⟩ 0)) (b := H.next) hf k 0 (by omega) (Nat.zero_le _)
  rw [hset, set_new] at h
  rw [run11, F11]
  simp (disch := first | omega | assumption | (simp only [Yg, Yh, Yi, Yj] <;> omega) | (simp only [Qk, Ql, Qm, Qn, Qo, Qp, Bool.and_self]) | rfl) only [↓Z0, Z1, ↓Z2, ↓Z3, ↓Z4, ↓Z5, ↓Z6, Z7, ↓Z8, ↓Z9, ↓Za, ↓Zb, Zc, ↓Zd, Ze, Zf, decide_true, decide_false, Zg, Zh, Zi, Zj, Zk, Zl, Zm, Zn, Zo, Zp, Zq, Zr, Zs, Zt, Zu, Zv, Zw, Zx, Zy, Zz, Y0, Y1, Y2, Y3, Y4, Y5, Y6, Y7, Y8, Y9, Ya, Yb, Yc, Yd, Ye, Yf, Yg, Yh, Yi, Yj, Yk, Yl, Ym, Yn, Yo, Yp, Yq, Yr, Ys, Yt, Yu, Yv, Nat.zero_add, Nat.add_zero, ne_eq, not_false_eq_true, reduceCtorEq, Nat.reduceAdd, Nat.reduceEqDiff, Nat.succ_ne_self, Yw, Yx, Yy, Yz, Q0, Q1, ↓Q2, Q3, Q4, Q5, Q6, Q7, Q8, Q9, Qa, Qb, Qc, Qd, Qe, Qf, Qg, Qh, Qi, Qj, range9]
  exact ⟨_, h, (Grow.refl H).new _⟩
end Go.PG

namespace Go.PG
open Go.Proofs

theorem shl_le {a i : Nat} (ha : a < 256) (hi : i ≤ 3) : binI .shl (.int .u32 (a : Int)) (.int .i64 (8 * (i : Int))) = some (.int .u32 ((a * 256 ^ i : Nat) : Int)) := by
  have h0 : ¬ (8 * (i : Int) < 0) := by omega
  simp only [binI, h0, if_false]
  have e : (min (8 * (i : Int)).toNat IntKind.u32.bits) = 8 * i := by simp [IntKind.bits]; omega
  have e2 : (2 : Int) ^ (8 * i) = ((256 ^ i : Nat) : Int) := by
    obtain rfl | rfl | rfl | rfl : i = 0 ∨ i = 1 ∨ i = 2 ∨ i = 3 := by omega
    all_goals rfl
  have hb : a * 256 ^ i < 4294967296 := by
    obtain rfl | rfl | rfl | rfl : i = 0 ∨ i = 1 ∨ i = 2 ∨ i = 3 := by omega
    all_goals omega
  rw [e, e2, ← Int.natCast_mul, wrap_u32 hb]
theorem or_le {a b : Nat} (ha : a < 4294967296) (hb : b < 4294967296) : binI .or (.int .u32 (a : Int)) (.int .u32 (b : Int)) = some (.int .u32 ((a ||| b : Nat) : Int)) := by
  have e : ∀ z : Nat, z < 4294967296 → (BitVec.ofInt IntKind.u32.bits (z : Int)).toNat = z := fun z hz => by
    show (BitVec.ofInt 32 (z : Int)).toNat = z
    rw [BitVec.ofInt_natCast, BitVec.toNat_ofNat, Nat.mod_eq_of_lt (by omega)]
  have h2 : a ||| b < 2 ^ 32 := Nat.or_lt_two_pow (by omega) (by omega)
  simp only [binI, if_true]
  rw [BitVec.toNat_or, e a ha, e b hb, wrap_u32 (by omega)]
theorem or_add {v b i : Nat} (h : v < 256 ^ i) : v ||| b * 256 ^ i = v + 256 ^ i * b := by
  have e : 256 ^ i = 2 ^ (8 * i) := by rw [Nat.pow_mul]
  rw [e] at h ⊢
  rw [Nat.or_comm, Nat.mul_comm b, ← Nat.two_pow_add_eq_or_of_lt h, Nat.add_comm]
theorem leN_snoc (l : List UInt8) (b : UInt8) : leN (l ++ [b]) = leN l + 256 ^ l.length * b.toNat := by
  induction l with
  | nil => simp [leN]
  | cons a l ih => simp only [List.cons_append, leN, ih, List.length_cons, Nat.pow_succ]; rw [Nat.mul_add, ← Nat.mul_assoc, Nat.mul_comm 256 (256 ^ l.length)]; omega
theorem leN_lt (l : List UInt8) : leN l < 256 ^ l.length := by
  induction l with
  | nil => simp [leN]
  | cons a l ih => have := a.toNat_lt; simp only [leN, List.length_cons, Nat.pow_succ]; omega
theorem get_loop (k : Nat) {H : Heap} {v : Value} {l : List UInt8} (hs : SlAt H v 1 byteC l) (h4 : l.length ≤ 4) : ∀ (m n i : Nat) (z : Int), z = i → i + m = l.length → m < n →
    L85_0 k n (.int .u32 (leN (l.take i) : Int)) v (.int .i64 (l.length : Int)) (.int .i64 z) H = some (.int .u32 (leN l : Int), H)
  | 0, n, i, z, hz, hi, hn => by
    subst hz
    obtain ⟨n, rfl⟩ : ∃ n', n = n' + 1 := ⟨n - 1, by omega⟩
    rw [L85_0]
    simp (disch := first | omega | assumption | (simp only [Yg, Yh, Yi, Yj] <;> omega) | (simp only [Qk, Ql, Qm, Qn, Qo, Qp, Bool.and_self]) | rfl) only [↓Z0, Z1, ↓Z2, ↓Z3, ↓Z4, ↓Z5, ↓Z6, Z7, ↓Z8, ↓Z9, ↓Za, ↓Zb, Zc, ↓Zd, Ze, Zf, decide_true, decide_false, Zg, Zh, Zi, Zj, Zk, Zl, Zm, Zn, Zo, Zp, Zq, Zr, Zs, Zt, Zu, Zv, Zw, Zx, Zy, Zz, Y0, Y1, Y2, Y3, Y4, Y5, Y6, Y7, Y8, Y9, Ya, Yb, Yc, Yd, Ye, Yf, Yg, Yh, Yi, Yj, Yk, Yl, Ym, Yn, Yo, Yp, Yq, Yr, Ys, Yt, Yu, Yv, Nat.zero_add, Nat.add_zero, ne_eq, not_false_eq_true, reduceCtorEq, Nat.reduceAdd, Nat.reduceEqDiff, Nat.succ_ne_self, Yw, Yx, Yy, Yz, Q0, Q1, ↓Q2, Q3, Q4, Q5, Q6, Q7, Q8, Q9, Qa, Qb, Qc, Qd, Qe, Qf, Qg, Qh, Qi, Qj]
    rw [List.take_of_length_le (by omega)]
  | m + 1, n, i, z, hz, hi, hn => by
    subst hz
    obtain ⟨n, rfl⟩ : ∃ n', n = n' + 1 := ⟨n - 1, by omega⟩
    have hil : i < l.length := by omega
    obtain ⟨b1, o1, e1, _, _, e2⟩ := hs.get byteC_len (by decide) hil
    have e2 : (H.blk b1).bind (get1 o1) = some (.int .u8 ((l[i]).toNat : Int)) := by simpa [byteC] using e2 0 (by decide)
    have hb := (l[i]).toNat_lt
    have hlt := leN_lt (l.take i)
    have hlen : (l.take i).length = i := by rw [List.length_take]; omega
    rw [hlen] at hlt
    have hc : convI .u32 (.int .u8 ((l[i]).toNat : Int)) = some (.int .u32 ((l[i]).toNat : Int)) := by simp only [convI, wrap_u32 (show (l[i]).toNat < 4294967296 by omega)]
    have hv : leN (l.take i) < 4294967296 := by
      have : 256 ^ i ≤ 256 ^ 4 := Nat.pow_le_pow_right (by decide) (by omega)
      have h5 : 256 ^ 4 = 4294967296 := by decide
      omega
    have hw : (l[i]).toNat * 256 ^ i < 4294967296 := by
      generalize (l[i]).toNat = w at hb ⊢
      obtain h | h | h | h : i = 0 ∨ i = 1 ∨ i = 2 ∨ i = 3 := by omega
      all_goals (rw [h]; omega)
    have ho : leN (l.take i) ||| (l[i]).toNat * 256 ^ i = leN (l.take (i + 1)) := by
      rw [or_add hlt, List.take_succ_eq_append_getElem hil, leN_snoc, hlen]
    rw [L85_0]
    simp (disch := first | omega | assumption | (simp only [Yg, Yh, Yi, Yj] <;> omega) | (simp only [Qk, Ql, Qm, Qn, Qo, Qp, Bool.and_self]) | rfl) only [↓Z0, Z1, ↓Z2, ↓Z3, ↓Z4, ↓Z5, ↓Z6, Z7, ↓Z8, ↓Z9, ↓Za, ↓Zb, Zc, ↓Zd, Ze, Zf, decide_true, decide_false, Zg, Zh, Zi, Zj, Zk, Zl, Zm, Zn, Zo, Zp, Zq, Zr, Zs, Zt, Zu, Zv, Zw, Zx, Zy, Zz, Y0, Y1, Y2, Y3, Y4, Y5, Y6, Y7, Y8, Y9, Ya, Yb, Yc, Yd, Ye, Yf, Yg, Yh, Yi, Yj, Yk, Yl, Ym, Yn, Yo, Yp, Yq, Yr, Ys, Yt, Yu, Yv, Nat.zero_add, Nat.add_zero, ne_eq, not_false_eq_true, reduceCtorEq, Nat.reduceAdd, Nat.reduceEqDiff, Nat.succ_ne_self, Yw, Yx, Yy, Yz, Q0, Q1, ↓Q2, Q3, Q4, Q5, Q6, Q7, Q8, Q9, Qa, Qb, Qc, Qd, Qe, Qf, Qg, Qh, Qi, Qj, e1, e2, hc, shl_le (show (l[i]).toNat < 256 by omega) (show i ≤ 3 by omega), or_le hv hw, ho]
    exact get_loop k hs h4 m n (i + 1) _ rfl (by omega) (by omega)
theorem get_run {k : Nat} (hk : 10 ≤ k) {H : Heap} {v : Value} {l : List UInt8} (hs : SlAt H v 1 byteC l) (h4 : l.length ≤ 4) : run Tryz.prog k 85 #[v] H = some (.int .u32 (leN l : Int), H) := by
  obtain ⟨k, rfl⟩ : ∃ k', k = k' + 1 := ⟨k - 1, by omega⟩
  rw [run85, F85]
  simp (disch := first | omega | assumption | (simp only [Yg, Yh, Yi, Yj] <;> omega) | (simp only [Qk, Ql, Qm, Qn, Qo, Qp, Bool.and_self]) | rfl) only [↓Z0, Z1, ↓Z2, ↓Z3, ↓Z4, ↓Z5, ↓Z6, Z7, ↓Z8, ↓Z9, ↓Za, ↓Zb, Zc, ↓Zd, Ze, Zf, decide_true, decide_false, Zg, Zh, Zi, Zj, Zk, Zl, Zm, Zn, Zo, Zp, Zq, Zr, Zs, Zt, Zu, Zv, Zw, Zx, Zy, Zz, Y0, Y1, Y2, Y3, Y4, Y5, Y6, Y7, Y8, Y9, Ya, Yb, Yc, Yd, Ye, Yf, Yg, Yh, Yi, Yj, Yk, Yl, Ym, Yn, Yo, Yp, Yq, Yr, Ys, Yt, Yu, Yv, Nat.zero_add, Nat.add_zero, ne_eq, not_false_eq_true, reduceCtorEq, Nat.reduceAdd, Nat.reduceEqDiff, Nat.succ_ne_self, Yw, Yx, Yy, Yz, Q0, Q1, ↓Q2, Q3, Q4, Q5, Q6, Q7, Q8, Q9, Qa, Qb, Qc, Qd, Qe, Qf, Qg, Qh, Qi, Qj, hs.len]
  exact get_loop k hs h4 l.length k 0 _ rfl (by omega) (by omega)
/-! ### Entries -/
theorem build49_0 : pBuild Tryz.prog 49 [] = some (entV Ent.none) := by kernel_rfl
theorem build49 (a : List UInt8) (b c : Int) : pBuild Tryz.prog 49 [(0, str a), (1, .int .i64 b), (2, .int .i64 c)] = some (.agg #[str a, .int .i64 b, .int .i64 c]) := by kernel_rfl
theorem convSB_str (l : List UInt8) (hl : l.length < capU) (H : Heap) : convSB 5 (str l) H = some (.slice (some ⟨H.next, 0, none⟩) l.length capU, H.new (.grow (l.flatMap byteC).toArray 5)) := by
  have : (⟨l.toArray⟩ : ByteArray).size < capU := by simpa [ByteArray.size] using hl
  simp only [convSB, str]
  rw [if_pos this, byteRow_eq]
  congr 3
def entOf (b : List UInt8) : Ent := ⟨(b.drop 2).take (b.getD 1 0).toNat, leN ((b.drop 18).take 2), leN ((b.drop 20).take 2)⟩
def okEnt (b : List UInt8) (n : Nat) : Prop := (b.getD 1 0).toNat ≤ 16 ∧ b = laidB (entOf b) ∧ good (entOf b).name = true ∧ 1 ≤ (entOf b).len ∧ 8 ≤ (entOf b).first ∧ (entOf b).first + (entOf b).len ≤ n
instance (b : List UInt8) (n : Nat) : Decidable (okEnt b n) := inferInstanceAs (Decidable (_ ∧ _))
def readE (b : List UInt8) (n : Nat) : Ent := if okEnt b n then entOf b else Ent.none
/-- The reading's end: the result is set and read. -/
theorem read_end (k : Nat) {H H6 : Heap} {r y : Nat} {nm : List UInt8} {f l : Nat} (x48 x55 : Bool) (hr : H6.blk r = some (.cells #[str [], .int .i64 0, .int .i64 0] 49)) (hy : H6.blk y = some (.cells #[str nm, .int .i64 (f : Int), .int .i64 (l : Int)] 49)) (hf : H6.floor ≤ r) (hry : y ≠ r) :
    ∃ H', J48_0 k (.pointer (some ⟨r, 0, none⟩)) (.pointer (some ⟨y, 0, none⟩)) (.bool x48) (if x48 then undef else .bool x55) H6 = some (if x48 || x55 then entV Ent.none else entV ⟨nm, f, l⟩, H') ∧ ∃ B, H' = H6.set r B := by
  have hn : entV Ent.none = .agg #[str [], .int .i64 ((0 : Nat) : Int), .int .i64 ((0 : Nat) : Int)] := rfl
  rw [J48_0]
  cases x48
  · cases x55
    · simp (disch := first | omega | assumption | (simp only [Yg, Yh, Yi, Yj] <;> omega) | (simp only [Qk, Ql, Qm, Qn, Qo, Qp, Bool.and_self]) | rfl) only [↓Z0, Z1, ↓Z2, ↓Z3, ↓Z4, ↓Z5, ↓Z6, Z7, ↓Z8, ↓Z9, ↓Za, ↓Zb, Zc, ↓Zd, Ze, Zf, decide_true, decide_false, Zg, Zh, Zi, Zj, Zk, Zl, Zm, Zn, Zo, Zp, Zq, Zr, Zs, Zt, Zu, Zv, Zw, Zx, Zy, Zz, Y0, Y1, Y2, Y3, Y4, Y5, Y6, Y7, Y8, Y9, Ya, Yb, Yc, Yd, Ye, Yf, Yg, Yh, Yi, Yj, Yk, Yl, Ym, Yn, Yo, Yp, Yq, Yr, Ys, Yt, Yu, Yv, Nat.zero_add, Nat.add_zero, ne_eq, not_false_eq_true, reduceCtorEq, Nat.reduceAdd, Nat.reduceEqDiff, Nat.succ_ne_self, Yw, Yx, Yy, Yz, Q0, Q1, ↓Q2, Q3, Q4, Q5, Q6, Q7, Q8, Q9, Qa, Qb, Qc, Qd, Qe, Qf, Qg, Qh, Qi, Qj, hr, hy, if_false, Bool.false_or, Bool.false_eq_true]
      exact ⟨_, rfl, _, rfl⟩
    · simp (disch := first | omega | assumption | (simp only [Yg, Yh, Yi, Yj] <;> omega) | (simp only [Qk, Ql, Qm, Qn, Qo, Qp, Bool.and_self]) | rfl) only [↓Z0, Z1, ↓Z2, ↓Z3, ↓Z4, ↓Z5, ↓Z6, Z7, ↓Z8, ↓Z9, ↓Za, ↓Zb, Zc, ↓Zd, Ze, Zf, decide_true, decide_false, Zg, Zh, Zi, Zj, Zk, Zl, Zm, Zn, Zo, Zp, Zq, Zr, Zs, Zt, Zu, Zv, Zw, Zx, Zy, Zz, Y0, Y1, Y2, Y3, Y4, Y5, Y6, Y7, Y8, Y9, Ya, Yb, Yc, Yd, Ye, Yf, Yg, Yh, Yi, Yj, Yk, Yl, Ym, Yn, Yo, Yp, Yq, Yr, Ys, Yt, Yu, Yv, Nat.zero_add, Nat.add_zero, ne_eq, not_false_eq_true, reduceCtorEq, Nat.reduceAdd, Nat.reduceEqDiff, Nat.succ_ne_self, Yw, Yx, Yy, Yz, Q0, Q1, ↓Q2, Q3, Q4, Q5, Q6, Q7, Q8, Q9, Qa, Qb, Qc, Qd, Qe, Qf, Qg, Qh, Qi, Qj, hr, hy, if_false, if_true, Bool.false_or, Bool.false_eq_true, build49_0, hn]
      exact ⟨_, rfl, _, rfl⟩
  · simp (disch := first | omega | assumption | (simp only [Yg, Yh, Yi, Yj] <;> omega) | (simp only [Qk, Ql, Qm, Qn, Qo, Qp, Bool.and_self]) | rfl) only [↓Z0, Z1, ↓Z2, ↓Z3, ↓Z4, ↓Z5, ↓Z6, Z7, ↓Z8, ↓Z9, ↓Za, ↓Zb, Zc, ↓Zd, Ze, Zf, decide_true, decide_false, Zg, Zh, Zi, Zj, Zk, Zl, Zm, Zn, Zo, Zp, Zq, Zr, Zs, Zt, Zu, Zv, Zw, Zx, Zy, Zz, Y0, Y1, Y2, Y3, Y4, Y5, Y6, Y7, Y8, Y9, Ya, Yb, Yc, Yd, Ye, Yf, Yg, Yh, Yi, Yj, Yk, Yl, Ym, Yn, Yo, Yp, Yq, Yr, Ys, Yt, Yu, Yv, Nat.zero_add, Nat.add_zero, ne_eq, not_false_eq_true, reduceCtorEq, Nat.reduceAdd, Nat.reduceEqDiff, Nat.succ_ne_self, Yw, Yx, Yy, Yz, Q0, Q1, ↓Q2, Q3, Q4, Q5, Q6, Q7, Q8, Q9, Qa, Qb, Qc, Qd, Qe, Qf, Qg, Qh, Qi, Qj, hr, hy, if_false, if_true, Bool.true_or, Bool.false_eq_true, build49_0, hn]
    exact ⟨_, rfl, _, rfl⟩
theorem read_run {k : Nat} (hk : 100 ≤ k) (b : List UInt8) (hb : b.length = 32) (n : Nat) (hn : n < 1000000) (H : Heap) (hf : H.floor ≤ H.next) :
    ∃ H', run Tryz.prog k 48 #[str b, .int .i64 (n : Int)] H = some (entV (readE b n), H') ∧ Grow H H' := by
  obtain ⟨k, rfl⟩ : ∃ k', k = k' + 1 := ⟨k - 1, by omega⟩
  have hb1 := (b.getD 1 0).toNat_lt
  have i1 : idxStr (str b) (.int .i64 1) = some (.int .u8 ((b.getD 1 0).toNat : Int)) := by
    have := Y0 (l := b) (i := 1) (by omega)
    rw [List.getD_eq_getElem?_getD, List.getElem?_eq_getElem (by omega)]; exact this
  have hn0 : entV Ent.none = .agg #[str [], .int .i64 ((0 : Nat) : Int), .int .i64 ((0 : Nat) : Int)] := rfl
  rw [run48, F48]
  by_cases h16 : 16 < (b.getD 1 0).toNat
  · simp (disch := first | omega | assumption | (simp only [Yg, Yh, Yi, Yj] <;> omega) | (simp only [Qk, Ql, Qm, Qn, Qo, Qp, Bool.and_self]) | rfl) only [↓Z0, Z1, ↓Z2, ↓Z3, ↓Z4, ↓Z5, ↓Z6, Z7, ↓Z8, ↓Z9, ↓Za, ↓Zb, Zc, ↓Zd, Ze, Zf, decide_true, decide_false, Zg, Zh, Zi, Zj, Zk, Zl, Zm, Zn, Zo, Zp, Zq, Zr, Zs, Zt, Zu, Zv, Zw, Zx, Zy, Zz, Y0, Y1, Y2, Y3, Y4, Y5, Y6, Y7, Y8, Y9, Ya, Yb, Yc, Yd, Ye, Yf, Yg, Yh, Yi, Yj, Yk, Yl, Ym, Yn, Yo, Yp, Yq, Yr, Ys, Yt, Yu, Yv, Nat.zero_add, Nat.add_zero, ne_eq, not_false_eq_true, reduceCtorEq, Nat.reduceAdd, Nat.reduceEqDiff, Nat.succ_ne_self, Yw, Yx, Yy, Yz, Q0, Q1, ↓Q2, Q3, Q4, Q5, Q6, Q7, Q8, Q9, Qa, Qb, Qc, Qd, Qe, Qf, Qg, Qh, Qi, Qj, i1, build49_0, hn0]
    rw [readE, if_neg (fun h => by have := h.1; omega), hn0]
    exact ⟨_, rfl, (Grow.refl H).new _⟩
  · have e0 : (2 : Int) + ((b.getD 1 0).toNat : Int) = ((2 + (b.getD 1 0).toNat : Nat) : Int) := by omega
    have s1 : sliceStr (str b) (some (.int .i64 2)) (some (.int .i64 ((2 + (b.getD 1 0).toNat : Nat) : Int))) = some (str (entOf b).name) := by
      have := Y1 (l := b) (i := 2) (j := 2 + (b.getD 1 0).toNat) (by omega) (by omega)
      rw [Nat.add_sub_cancel_left] at this; exact this
    have s2 : sliceStr (str b) (some (.int .i64 18)) (some (.int .i64 20)) = some (str ((b.drop 18).take 2)) := Y1 (l := b) (i := 18) (j := 20) (by omega) (by omega)
    have s3 : sliceStr (str b) (some (.int .i64 20)) (some (.int .i64 22)) = some (str ((b.drop 20).take 2)) := Y1 (l := b) (i := 20) (j := 22) (by omega) (by omega)
    have l2 : ((b.drop 18).take 2).length = 2 := by rw [List.length_take, List.length_drop]; omega
    have l3 : ((b.drop 20).take 2).length = 2 := by rw [List.length_take, List.length_drop]; omega
    have f2 := leN_lt ((b.drop 18).take 2)
    have f3 := leN_lt ((b.drop 20).take 2)
    rw [l2] at f2
    rw [l3] at f3
    have c2 := fun H => convSB_str ((b.drop 18).take 2) (by rw [l2]; decide) H
    have c3 := fun H => convSB_str ((b.drop 20).take 2) (by rw [l3]; decide) H
    have g2 : ∀ (A : Heap) (a : Nat), run Tryz.prog k 85 #[.slice (some ⟨A.next, 0, none⟩) ((b.drop 18).take 2).length capU] ((A.new (.grow (((b.drop 18).take 2).flatMap byteC).toArray 5)).atFloor a) = some (.int .u32 (leN ((b.drop 18).take 2) : Int), (A.new (.grow (((b.drop 18).take 2).flatMap byteC).toArray 5)).atFloor a) := fun A a =>
      get_run (by omega) (SlAt.floor (.inr ⟨A.next, 0, capU, _, _, rfl, .inl rfl, Y9 _ _, rfl, by simp [Heap.new], by rw [List.toList_toArray, List.drop_zero, List.take_of_length_le (by rw [flat1_len]; omega)]⟩)) (by omega)
    have g3 : ∀ (A : Heap) (a : Nat), run Tryz.prog k 85 #[.slice (some ⟨A.next, 0, none⟩) ((b.drop 20).take 2).length capU] ((A.new (.grow (((b.drop 20).take 2).flatMap byteC).toArray 5)).atFloor a) = some (.int .u32 (leN ((b.drop 20).take 2) : Int), (A.new (.grow (((b.drop 20).take 2).flatMap byteC).toArray 5)).atFloor a) := fun A a =>
      get_run (by omega) (SlAt.floor (.inr ⟨A.next, 0, capU, _, _, rfl, .inl rfl, Y9 _ _, rfl, by simp [Heap.new], by rw [List.toList_toArray, List.drop_zero, List.take_of_length_le (by rw [flat1_len]; omega)]⟩)) (by omega)
    have hnm : (entOf b).name.length ≤ 16 := by simp only [entOf, List.length_take]; omega
    have hff : (entOf b).first = leN ((b.drop 18).take 2) := rfl
    have hll : (entOf b).len = leN ((b.drop 20).take 2) := rfl
    generalize leN ((b.drop 18).take 2) = f at *
    generalize leN ((b.drop 20).take 2) = l at *
    generalize hA1 : H.new (.cells #[str [], .int .i64 0, .int .i64 0] 49) = A1
    have n1 : A1.next = H.next + 1 := by rw [← hA1]; rfl
    have k1 : A1.floor = H.floor := by rw [← hA1]; rfl
    have q1 : Grow H A1 := by rw [← hA1]; exact (Grow.refl H).new _
    have r1 : A1.blk H.next = some (.cells #[str [], .int .i64 0, .int .i64 0] 49) := by rw [← hA1, Y9]
    specialize c2 A1
    specialize g2 A1
    generalize hA2 : A1.new (.grow (((b.drop 18).take 2).flatMap byteC).toArray 5) = A2 at *
    have n2 : A2.next = H.next + 2 := by rw [← hA2, Yg, n1]
    have k2 : A2.floor = H.floor := by rw [← hA2]; exact k1
    have q2 : Grow A1 A2 := by rw [← hA2]; exact (Grow.refl _).new _
    specialize c3 A2
    specialize g3 A2
    generalize hA3 : A2.new (.grow (((b.drop 20).take 2).flatMap byteC).toArray 5) = A3 at *
    have n3 : A3.next = H.next + 3 := by rw [← hA3, Yg, n2]
    have k3 : A3.floor = H.floor := by rw [← hA3]; exact k2
    have q3 : Grow A2 A3 := by rw [← hA3]; exact (Grow.refl _).new _
    obtain ⟨H5, e5, q5⟩ := laid_run (k := k) (by omega) (entOf b) (by omega) (by omega) (by omega) (A3.new (.cells #[str (entOf b).name, .int .i64 (f : Int), .int .i64 (l : Int)] 49)) (by simp only [Yh, Yg]; omega)
    rw [entV, hff, hll] at e5
    have q4 : Grow H (A3.new (.cells #[str (entOf b).name, .int .i64 (f : Int), .int .i64 (l : Int)] 49)) := ((q1.trans q2).trans q3).new _
    have n5 := q5.next
    have k5 := q5.floor
    simp only [Yg, Yh] at n5 k5
    have y5 : H5.blk A3.next = some (.cells #[str (entOf b).name, .int .i64 (f : Int), .int .i64 (l : Int)] 49) := q5.eqBlk (Y9 _ _) (by simp only [Yg]; omega)
    have r5 : H5.blk H.next = some (.cells #[str [], .int .i64 0, .int .i64 0] 49) := q5.eqBlk (((q2.trans q3).new _).eqBlk r1 (by omega)) (by simp only [Yg]; omega)
    obtain ⟨H6, e6, q6⟩ := good_run (k := k) (entOf b).name (by omega) (by omega) H5 (by omega)
    have n6 := q6.next
    have k6 := q6.floor
    have y6 := q6.eqBlk y5 (by omega)
    have r6 := q6.eqBlk r5 (by omega)
    have fin : ∀ (H6 : Heap) (x48 x55 : Bool), Grow H5 H6 → (readE b n = if x48 || x55 then Ent.none else ⟨(entOf b).name, f, l⟩) → ∃ H', J48_0 k (.pointer (some ⟨H.next, 0, none⟩)) (.pointer (some ⟨A3.next, 0, none⟩)) (.bool x48) (if x48 then undef else .bool x55) H6 = some (entV (readE b n), H') ∧ Grow H H' := by
      intro H6 x48 x55 g e
      have := g.next; have := g.floor
      obtain ⟨H', h1, B, h2⟩ := read_end k (f := f) (l := l) (nm := (entOf b).name) (H := H) x48 x55 (g.eqBlk r5 (by omega)) (g.eqBlk y5 (by omega)) (by omega) (by omega)
      refine ⟨H', by rw [h1, e]; cases x48 <;> cases x55 <;> rfl, ?_⟩
      rw [h2]; exact ((q4.trans q5).trans g).set (Nat.le_refl _) _
    by_cases w1 : b = laidB (entOf b)
    · by_cases w2 : good (entOf b).name = true
      · by_cases w3 : l < 1
        · have := fin H6 true true q6 (by rw [readE, if_neg (by rintro ⟨_, _, _, h, _⟩; omega)]; rfl)
          simp (disch := first | omega | assumption | (simp only [Yg, Yh, Yi, Yj] <;> omega) | (simp only [Qk, Ql, Qm, Qn, Qo, Qp, Bool.and_self]) | rfl) only [↓Z0, Z1, ↓Z2, ↓Z3, ↓Z4, ↓Z5, ↓Z6, Z7, ↓Z8, ↓Z9, ↓Za, ↓Zb, Zc, ↓Zd, Ze, Zf, decide_true, decide_false, Zg, Zh, Zi, Zj, Zk, Zl, Zm, Zn, Zo, Zp, Zq, Zr, Zs, Zt, Zu, Zv, Zw, Zx, Zy, Zz, Y0, Y1, Y2, Y3, Y4, Y5, Y6, Y7, Y8, Y9, Ya, Yb, Yc, Yd, Ye, Yf, Yg, Yh, Yi, Yj, Yk, Yl, Ym, Yn, Yo, Yp, Yq, Yr, Ys, Yt, Yu, Yv, Nat.zero_add, Nat.add_zero, ne_eq, not_false_eq_true, reduceCtorEq, Nat.reduceAdd, Nat.reduceEqDiff, Nat.succ_ne_self, Yw, Yx, Yy, Yz, Q0, Q1, ↓Q2, Q3, Q4, Q5, Q6, Q7, Q8, Q9, Qa, Qb, Qc, Qd, Qe, Qf, Qg, Qh, Qi, Qj, i1, e0, s1, s2, s3, hA1, c2, hA2, g2, c3, hA3, g3, build49, e5, ← w1, e6, w2, J48_1, J48_2, J48_3, y5, y6]
          exact this
        · by_cases w4 : f < 8
          · have := fin H6 true true q6 (by rw [readE, if_neg (by rintro ⟨_, _, _, _, h, _⟩; omega)]; rfl)
            simp (disch := first | omega | assumption | (simp only [Yg, Yh, Yi, Yj] <;> omega) | (simp only [Qk, Ql, Qm, Qn, Qo, Qp, Bool.and_self]) | rfl) only [↓Z0, Z1, ↓Z2, ↓Z3, ↓Z4, ↓Z5, ↓Z6, Z7, ↓Z8, ↓Z9, ↓Za, ↓Zb, Zc, ↓Zd, Ze, Zf, decide_true, decide_false, Zg, Zh, Zi, Zj, Zk, Zl, Zm, Zn, Zo, Zp, Zq, Zr, Zs, Zt, Zu, Zv, Zw, Zx, Zy, Zz, Y0, Y1, Y2, Y3, Y4, Y5, Y6, Y7, Y8, Y9, Ya, Yb, Yc, Yd, Ye, Yf, Yg, Yh, Yi, Yj, Yk, Yl, Ym, Yn, Yo, Yp, Yq, Yr, Ys, Yt, Yu, Yv, Nat.zero_add, Nat.add_zero, ne_eq, not_false_eq_true, reduceCtorEq, Nat.reduceAdd, Nat.reduceEqDiff, Nat.succ_ne_self, Yw, Yx, Yy, Yz, Q0, Q1, ↓Q2, Q3, Q4, Q5, Q6, Q7, Q8, Q9, Qa, Qb, Qc, Qd, Qe, Qf, Qg, Qh, Qi, Qj, i1, e0, s1, s2, s3, hA1, c2, hA2, g2, c3, hA3, g3, build49, e5, ← w1, e6, w2, J48_1, J48_2, J48_3, y5, y6]
            exact this
          · by_cases w5 : f + l ≤ n
            · have := fin H6 false false q6 (by rw [readE, if_pos ⟨by omega, w1, w2, by omega, by omega, by omega⟩, ← hff, ← hll]; rfl)
              simp (disch := first | omega | assumption | (simp only [Yg, Yh, Yi, Yj] <;> omega) | (simp only [Qk, Ql, Qm, Qn, Qo, Qp, Bool.and_self]) | rfl) only [↓Z0, Z1, ↓Z2, ↓Z3, ↓Z4, ↓Z5, ↓Z6, Z7, ↓Z8, ↓Z9, ↓Za, ↓Zb, Zc, ↓Zd, Ze, Zf, decide_true, decide_false, Zg, Zh, Zi, Zj, Zk, Zl, Zm, Zn, Zo, Zp, Zq, Zr, Zs, Zt, Zu, Zv, Zw, Zx, Zy, Zz, Y0, Y1, Y2, Y3, Y4, Y5, Y6, Y7, Y8, Y9, Ya, Yb, Yc, Yd, Ye, Yf, Yg, Yh, Yi, Yj, Yk, Yl, Ym, Yn, Yo, Yp, Yq, Yr, Ys, Yt, Yu, Yv, Nat.zero_add, Nat.add_zero, ne_eq, not_false_eq_true, reduceCtorEq, Nat.reduceAdd, Nat.reduceEqDiff, Nat.succ_ne_self, Yw, Yx, Yy, Yz, Q0, Q1, ↓Q2, Q3, Q4, Q5, Q6, Q7, Q8, Q9, Qa, Qb, Qc, Qd, Qe, Qf, Qg, Qh, Qi, Qj, i1, e0, s1, s2, s3, hA1, c2, hA2, g2, c3, hA3, g3, build49, e5, ← w1, e6, w2, J48_1, J48_2, J48_3, y5, y6]
              exact this
            · have := fin H6 false true q6 (by rw [readE, if_neg (by rintro ⟨_, _, _, _, _, h⟩; omega)]; rfl)
              simp (disch := first | omega | assumption | (simp only [Yg, Yh, Yi, Yj] <;> omega) | (simp only [Qk, Ql, Qm, Qn, Qo, Qp, Bool.and_self]) | rfl) only [↓Z0, Z1, ↓Z2, ↓Z3, ↓Z4, ↓Z5, ↓Z6, Z7, ↓Z8, ↓Z9, ↓Za, ↓Zb, Zc, ↓Zd, Ze, Zf, decide_true, decide_false, Zg, Zh, Zi, Zj, Zk, Zl, Zm, Zn, Zo, Zp, Zq, Zr, Zs, Zt, Zu, Zv, Zw, Zx, Zy, Zz, Y0, Y1, Y2, Y3, Y4, Y5, Y6, Y7, Y8, Y9, Ya, Yb, Yc, Yd, Ye, Yf, Yg, Yh, Yi, Yj, Yk, Yl, Ym, Yn, Yo, Yp, Yq, Yr, Ys, Yt, Yu, Yv, Nat.zero_add, Nat.add_zero, ne_eq, not_false_eq_true, reduceCtorEq, Nat.reduceAdd, Nat.reduceEqDiff, Nat.succ_ne_self, Yw, Yx, Yy, Yz, Q0, Q1, ↓Q2, Q3, Q4, Q5, Q6, Q7, Q8, Q9, Qa, Qb, Qc, Qd, Qe, Qf, Qg, Qh, Qi, Qj, i1, e0, s1, s2, s3, hA1, c2, hA2, g2, c3, hA3, g3, build49, e5, ← w1, e6, w2, J48_1, J48_2, J48_3, y5, y6]
              exact this
      · have w2' : good (entOf b).name = false := by simpa using w2
        have := fin H6 true true q6 (by rw [readE, if_neg (by rintro ⟨_, _, h, _⟩; exact w2 h)]; rfl)
        simp (disch := first | omega | assumption | (simp only [Yg, Yh, Yi, Yj] <;> omega) | (simp only [Qk, Ql, Qm, Qn, Qo, Qp, Bool.and_self]) | rfl) only [↓Z0, Z1, ↓Z2, ↓Z3, ↓Z4, ↓Z5, ↓Z6, Z7, ↓Z8, ↓Z9, ↓Za, ↓Zb, Zc, ↓Zd, Ze, Zf, decide_true, decide_false, Zg, Zh, Zi, Zj, Zk, Zl, Zm, Zn, Zo, Zp, Zq, Zr, Zs, Zt, Zu, Zv, Zw, Zx, Zy, Zz, Y0, Y1, Y2, Y3, Y4, Y5, Y6, Y7, Y8, Y9, Ya, Yb, Yc, Yd, Ye, Yf, Yg, Yh, Yi, Yj, Yk, Yl, Ym, Yn, Yo, Yp, Yq, Yr, Ys, Yt, Yu, Yv, Nat.zero_add, Nat.add_zero, ne_eq, not_false_eq_true, reduceCtorEq, Nat.reduceAdd, Nat.reduceEqDiff, Nat.succ_ne_self, Yw, Yx, Yy, Yz, Q0, Q1, ↓Q2, Q3, Q4, Q5, Q6, Q7, Q8, Q9, Qa, Qb, Qc, Qd, Qe, Qf, Qg, Qh, Qi, Qj, i1, e0, s1, s2, s3, hA1, c2, hA2, g2, c3, hA3, g3, build49, e5, ← w1, e6, w2', J48_1, J48_2, J48_3, y5, y6]
        exact this
    · have := fin H5 true true (Grow.refl _) (by rw [readE, if_neg (by rintro ⟨_, h, _⟩; exact w1 h)]; rfl)
      simp (disch := first | omega | assumption | (simp only [Yg, Yh, Yi, Yj] <;> omega) | (simp only [Qk, Ql, Qm, Qn, Qo, Qp, Bool.and_self]) | rfl) only [↓Z0, Z1, ↓Z2, ↓Z3, ↓Z4, ↓Z5, ↓Z6, Z7, ↓Z8, ↓Z9, ↓Za, ↓Zb, Zc, ↓Zd, Ze, Zf, decide_true, decide_false, Zg, Zh, Zi, Zj, Zk, Zl, Zm, Zn, Zo, Zp, Zq, Zr, Zs, Zt, Zu, Zv, Zw, Zx, Zy, Zz, Y0, Y1, Y2, Y3, Y4, Y5, Y6, Y7, Y8, Y9, Ya, Yb, Yc, Yd, Ye, Yf, Yg, Yh, Yi, Yj, Yk, Yl, Ym, Yn, Yo, Yp, Yq, Yr, Ys, Yt, Yu, Yv, Nat.zero_add, Nat.add_zero, ne_eq, not_false_eq_true, reduceCtorEq, Nat.reduceAdd, Nat.reduceEqDiff, Nat.succ_ne_self, Yw, Yx, Yy, Yz, Q0, Q1, ↓Q2, Q3, Q4, Q5, Q6, Q7, Q8, Q9, Qa, Qb, Qc, Qd, Qe, Qf, Qg, Qh, Qi, Qj, i1, e0, s1, s2, s3, hA1, c2, hA2, g2, c3, hA3, g3, build49, e5, w1, J48_1, J48_2, J48_3]
      exact this
end Go.PG

namespace Go.PG
open Go.Proofs

noncomputable def C23l : Code := sub [.l] (bodyOf Tryz.f23)
noncomputable def C23r : Code := sub [.r] (bodyOf Tryz.f23)
noncomputable def C23rrlrll : Code := sub [.r, .r, .l, .r, .l, .l] (bodyOf Tryz.f23)
noncomputable def C23rrlrllrrr : Code := sub [.r, .r, .l, .r, .l, .l, .r, .r, .r] (bodyOf Tryz.f23)
noncomputable def C23rrr : Code := sub [.r, .r, .r] (bodyOf Tryz.f23)
noncomputable def K23_0 (k : Nat) : Ex → Fr → Heap → Option (Value × Heap) := finK Tryz.prog Tryz.f23
noncomputable def K23_1 (k : Nat) : Ex → Fr → Heap → Option (Value × Heap) := seqC (denK Tryz.prog (run Tryz.prog k) k C23rrr (K23_0 k)) (K23_0 k)
noncomputable def K23_2 (k : Nat) : Ex → Fr → Heap → Option (Value × Heap) := blkC 0 (K23_1 k)
noncomputable def K23_3 (k : Nat) (nrrlrl : Nat) : Ex → Fr → Heap → Option (Value × Heap) := seqC (iterK (denK Tryz.prog (run Tryz.prog k) k C23rrlrll) (K23_2 k) nrrlrl) (K23_2 k)
noncomputable def K23_4 (k : Nat) : Ex → Fr → Heap → Option (Value × Heap) := seqC (denK Tryz.prog (run Tryz.prog k) k C23r (K23_0 k)) (K23_0 k)

noncomputable def J23_0 (k : Nat) (nxrrlrl : Value → Value → Value → Heap → Option (Value × Heap)) (x3 x9 kA : Value) (H : Heap) : Option (Value × Heap) :=
  (binI .add kA (.int .i64 1)).bind fun y20 =>
  nxrrlrl x3 x9 y20 H
noncomputable def L23_1 (k : Nat) : Nat → Value → Value → Value → Heap → Option (Value × Heap)
  | 0, _, _, _, _ => none
  | n + 1, x3, x9, kA, H =>
    (binI .lss kA (.int .i64 8)).bind fun y11 =>
    condV y11
    (
      (idxAgg 8 true 3 x9 kA).bind fun y12 =>
      newK H (.cells #[(.string ⟨#[]⟩), (.int .i64 0), (.int .i64 0)] 49) fun y5 H_1 =>
      (stV 3 y5 y12 H_1).bind fun H_2 =>
      (fieldA 2 y5).bind fun y13 =>
      (ldV false 1 y13 H_2).bind fun y14 =>
      (binI .gtr y14 (.int .i64 0)).bind fun y15 =>
      condV y15
      (
        (ldV true 3 y5 H_2).bind fun y17 =>
        bindP (pBuildSlice Tryz.prog 45 1 [(0, y17)] H_2) fun y18 H_3 =>
        bindP (appendSl 49 3 32 x3 y18 H_3) fun y19 H_4 =>
        J23_0 k (L23_1 k n) y19 x9 kA H_4)
      (
        J23_0 k (L23_1 k n) x3 x9 kA H_2))
    (
      some (x3, H))
noncomputable def F23 (k : Nat) (x0 : Value) (H : Heap) : Option (Value × Heap) :=
  (pNil x0).bind fun y7 =>
  (fieldA 2 y7).bind fun y8 =>
  (ldV true 24 y8 H).bind fun y9 =>
  L23_1 k k (.slice none 0 0) y9 (.int .i64 0) H

theorem TJ23_0 (k : Nat) (nrrlrl : Nat) (nxrrlrl : Value → Value → Value → Heap → Option (Value × Heap)) (hrrlrl : ∀ (x0 x1 x2 x3 x4 x5 x6 x7 x8 x9 kA lA mA nA oA pA qA rA sA tA uA vA : Value) (H : Heap), iterK (denK Tryz.prog (run Tryz.prog k) k C23rrlrll) (K23_2 k) nrrlrl #[x0,x1,x2,x3,x4,x5,x6,x7,x8,x9,kA,lA,mA,nA,oA,pA,qA,rA,sA,tA,uA,vA] H = nxrrlrl x3 x9 kA H) (x0 x1 x2 x3 x4 x5 x6 x7 x8 x9 kA lA mA nA oA pA qA rA sA tA uA vA : Value) (H : Heap) : denK Tryz.prog (run Tryz.prog k) k C23rrlrllrrr (K23_3 k nrrlrl) #[x0,x1,x2,x3,x4,x5,x6,x7,x8,x9,kA,lA,mA,nA,oA,pA,qA,rA,sA,tA,uA,vA] H = J23_0 k nxrrlrl x3 x9 kA H := by
  refine Eq.trans (b :=
    (binI .add kA (.int .i64 1)).bind fun y20 =>
    iterK (denK Tryz.prog (run Tryz.prog k) k C23rrlrll) (K23_2 k) nrrlrl #[x0,x1,x2,x3,x4,x5,x6,x7,x8,x9,y20,lA,mA,nA,oA,pA,qA,rA,sA,tA,y20,vA] H) (by kernel_rfl) ?_
  simp only [hrrlrl]
  rfl
theorem TL23_1 (k : Nat) : ∀ (n : Nat) (x0 x1 x2 x3 x4 x5 x6 x7 x8 x9 kA lA mA nA oA pA qA rA sA tA uA vA : Value) (H : Heap), iterK (denK Tryz.prog (run Tryz.prog k) k C23rrlrll) (K23_2 k) n #[x0,x1,x2,x3,x4,x5,x6,x7,x8,x9,kA,lA,mA,nA,oA,pA,qA,rA,sA,tA,uA,vA] H = L23_1 k n x3 x9 kA H := by
  intro n
  induction n with
  | zero => intros; rfl
  | succ n ih =>
    intro x0 x1 x2 x3 x4 x5 x6 x7 x8 x9 kA lA mA nA oA pA qA rA sA tA uA vA H
    refine Eq.trans (b :=
    (binI .lss kA (.int .i64 8)).bind fun y11 =>
    condV y11
    (
      (idxAgg 8 true 3 x9 kA).bind fun y12 =>
      newK H (.cells #[(.string ⟨#[]⟩), (.int .i64 0), (.int .i64 0)] 49) fun y5 H_1 =>
      (stV 3 y5 y12 H_1).bind fun H_2 =>
      (fieldA 2 y5).bind fun y13 =>
      (ldV false 1 y13 H_2).bind fun y14 =>
      (binI .gtr y14 (.int .i64 0)).bind fun y15 =>
      condV y15
      (
        (ldV true 3 y5 H_2).bind fun y17 =>
        bindP (pBuildSlice Tryz.prog 45 1 [(0, y17)] H_2) fun y18 H_3 =>
        bindP (appendSl 49 3 32 x3 y18 H_3) fun y19 H_4 =>
        denK Tryz.prog (run Tryz.prog k) k C23rrlrllrrr (K23_3 k n) #[x0,x1,x2,y19,x4,y5,x6,x7,x8,x9,kA,y11,y12,y13,y14,y15,x3,y17,y18,y19,uA,vA] H_4)
      (
        denK Tryz.prog (run Tryz.prog k) k C23rrlrllrrr (K23_3 k n) #[x0,x1,x2,x3,x4,y5,x6,x7,x8,x9,kA,y11,y12,y13,y14,y15,qA,rA,sA,tA,uA,vA] H_2))
    (
      some (x3, H))) (by kernel_rfl) ?_
    simp only [TJ23_0 k n (L23_1 k n) ih]
    rfl
theorem TF23 (k : Nat) (x0 x1 x2 x3 x4 x5 x6 x7 x8 x9 kA lA mA nA oA pA qA rA sA tA uA vA : Value) (H : Heap) : denK Tryz.prog (run Tryz.prog k) k C23l (K23_4 k) #[x0,x1,x2,x3,x4,x5,x6,x7,x8,x9,kA,lA,mA,nA,oA,pA,qA,rA,sA,tA,uA,vA] H = F23 k x0 H := by
  refine Eq.trans (b :=
    (pNil x0).bind fun y7 =>
    (fieldA 2 y7).bind fun y8 =>
    (ldV true 24 y8 H).bind fun y9 =>
    iterK (denK Tryz.prog (run Tryz.prog k) k C23rrlrll) (K23_2 k) k #[x0,x1,(.slice none 0 0),(.slice none 0 0),x4,x5,x0,y7,y8,y9,(.int .i64 0),lA,mA,nA,oA,pA,qA,rA,sA,tA,uA,vA] H) (by kernel_rfl) ?_
  simp only [TL23_1 k]
  rfl
theorem run23 (k : Nat) (x0 : Value) (H : Heap) : run Tryz.prog (k + 1) 23 #[x0] H = F23 k x0 H := by
  refine Eq.trans (b := denK Tryz.prog (run Tryz.prog k) k C23l (K23_4 k) #[x0,undef,undef,undef,undef,undef,undef,undef,undef,undef,undef,undef,undef,undef,undef,undef,undef,undef,undef,undef,undef,undef] H) (by kernel_rfl) ?_
  exact TF23 k x0 undef undef undef undef undef undef undef undef undef undef undef undef undef undef undef undef undef undef undef undef undef H

end Go.PG

namespace Go.PG
open Go.Proofs

noncomputable def C24l : Code := sub [.l] (bodyOf Tryz.f24)
noncomputable def C24r : Code := sub [.r] (bodyOf Tryz.f24)
noncomputable def C24rrlrll : Code := sub [.r, .r, .l, .r, .l, .l] (bodyOf Tryz.f24)
noncomputable def C24rrr : Code := sub [.r, .r, .r] (bodyOf Tryz.f24)
noncomputable def K24_0 (k : Nat) : Ex → Fr → Heap → Option (Value × Heap) := finK Tryz.prog Tryz.f24
noncomputable def K24_1 (k : Nat) : Ex → Fr → Heap → Option (Value × Heap) := seqC (denK Tryz.prog (run Tryz.prog k) k C24rrr (K24_0 k)) (K24_0 k)
noncomputable def K24_2 (k : Nat) : Ex → Fr → Heap → Option (Value × Heap) := blkC 0 (K24_1 k)
noncomputable def K24_3 (k : Nat) : Ex → Fr → Heap → Option (Value × Heap) := seqC (denK Tryz.prog (run Tryz.prog k) k C24r (K24_0 k)) (K24_0 k)

noncomputable def L24_0 (k : Nat) : Nat → Value → Value → Value → Heap → Option (Value × Heap)
  | 0, _, _, _, _ => none
  | n + 1, x3, oA, pA, H =>
    (binI .lss pA (.int .i64 8)).bind fun y16 =>
    condV y16
    (
      (idxAgg 8 true 3 oA pA).bind fun y17 =>
      newK H (.cells #[(.string ⟨#[]⟩), (.int .i64 0), (.int .i64 0)] 49) fun y5 H_1 =>
      (stV 3 y5 y17 H_1).bind fun H_2 =>
      (fieldA 2 y5).bind fun y19 =>
      (ldV false 1 y19 H_2).bind fun y20 =>
      (binI .sub x3 y20).bind fun y21 =>
      (binI .add pA (.int .i64 1)).bind fun y22 =>
      (L24_0 k n) y21 oA y22 H_2)
    (
      some (x3, H))
noncomputable def F24 (k : Nat) (x0 : Value) (H : Heap) : Option (Value × Heap) :=
  (pNil x0).bind fun y7 =>
  (fieldA 1 y7).bind fun y8 =>
  (ldV false 1 y8 H).bind fun y9 =>
  (binI .sub y9 (.int .i64 8)).bind fun y10 =>
  (pNil x0).bind fun y12 =>
  (fieldA 2 y12).bind fun y13 =>
  (ldV true 24 y13 H).bind fun y14 =>
  L24_0 k k y10 y14 (.int .i64 0) H

theorem TL24_0 (k : Nat) : ∀ (n : Nat) (x0 x1 x2 x3 x4 x5 x6 x7 x8 x9 kA lA mA nA oA pA qA rA sA tA uA vA wA xA : Value) (H : Heap), iterK (denK Tryz.prog (run Tryz.prog k) k C24rrlrll) (K24_2 k) n #[x0,x1,x2,x3,x4,x5,x6,x7,x8,x9,kA,lA,mA,nA,oA,pA,qA,rA,sA,tA,uA,vA,wA,xA] H = L24_0 k n x3 oA pA H := by
  intro n
  induction n with
  | zero => intros; rfl
  | succ n ih =>
    intro x0 x1 x2 x3 x4 x5 x6 x7 x8 x9 kA lA mA nA oA pA qA rA sA tA uA vA wA xA H
    refine Eq.trans (b :=
    (binI .lss pA (.int .i64 8)).bind fun y16 =>
    condV y16
    (
      (idxAgg 8 true 3 oA pA).bind fun y17 =>
      newK H (.cells #[(.string ⟨#[]⟩), (.int .i64 0), (.int .i64 0)] 49) fun y5 H_1 =>
      (stV 3 y5 y17 H_1).bind fun H_2 =>
      (fieldA 2 y5).bind fun y19 =>
      (ldV false 1 y19 H_2).bind fun y20 =>
      (binI .sub x3 y20).bind fun y21 =>
      (binI .add pA (.int .i64 1)).bind fun y22 =>
      iterK (denK Tryz.prog (run Tryz.prog k) k C24rrlrll) (K24_2 k) n #[x0,x1,x2,y21,x4,y5,x6,x7,x8,x9,kA,lA,mA,nA,oA,y22,y16,y17,x3,y19,y20,y21,y22,xA] H_2)
    (
      some (x3, H))) (by kernel_rfl) ?_
    simp only [ih]
    rfl
theorem TF24 (k : Nat) (x0 x1 x2 x3 x4 x5 x6 x7 x8 x9 kA lA mA nA oA pA qA rA sA tA uA vA wA xA : Value) (H : Heap) : denK Tryz.prog (run Tryz.prog k) k C24l (K24_3 k) #[x0,x1,x2,x3,x4,x5,x6,x7,x8,x9,kA,lA,mA,nA,oA,pA,qA,rA,sA,tA,uA,vA,wA,xA] H = F24 k x0 H := by
  refine Eq.trans (b :=
    (pNil x0).bind fun y7 =>
    (fieldA 1 y7).bind fun y8 =>
    (ldV false 1 y8 H).bind fun y9 =>
    (binI .sub y9 (.int .i64 8)).bind fun y10 =>
    (pNil x0).bind fun y12 =>
    (fieldA 2 y12).bind fun y13 =>
    (ldV true 24 y13 H).bind fun y14 =>
    iterK (denK Tryz.prog (run Tryz.prog k) k C24rrlrll) (K24_2 k) k #[x0,x1,(.int .i64 0),y10,x4,x5,x0,y7,y8,y9,y10,x0,y12,y13,y14,(.int .i64 0),qA,rA,sA,tA,uA,vA,wA,xA] H) (by kernel_rfl) ?_
  simp only [TL24_0 k]
  rfl
theorem run24 (k : Nat) (x0 : Value) (H : Heap) : run Tryz.prog (k + 1) 24 #[x0] H = F24 k x0 H := by
  refine Eq.trans (b := denK Tryz.prog (run Tryz.prog k) k C24l (K24_3 k) #[x0,undef,undef,undef,undef,undef,undef,undef,undef,undef,undef,undef,undef,undef,undef,undef,undef,undef,undef,undef,undef,undef,undef,undef] H) (by kernel_rfl) ?_
  exact TF24 k x0 undef undef undef undef undef undef undef undef undef undef undef undef undef undef undef undef undef undef undef undef undef undef undef H

end Go.PG

namespace Go.PG
open Go.Proofs

theorem build45 (a b c : Value) (H : Heap) : pBuildSlice Tryz.prog 45 1 [(0, .agg #[a, b, c])] H = some (.slice (some ⟨H.next, 0, none⟩) 1 1, H.new (.cells #[a, b, c] 49)) := by kernel_rfl
def vols (es : List Ent) : List Ent := es.filter fun e => decide (0 < e.len)
theorem vols_loop (k lo : Nat) {es : List Ent} (h8 : es.length = 8) : ∀ (m n i : Nat) (z : Int) (v : Value) (acc : List Ent) (H : Heap), z = i → i + m = 8 → m < n → H.floor ≤ lo → lo ≤ H.next → acc.length ≤ i → OwnAt lo H v 49 entC acc →
    ∃ v' H', L23_1 k n v (.agg (es.flatMap entC).toArray) (.int .i64 z) H = some (v', H') ∧ OwnAt lo H' v' 49 entC (acc ++ vols (es.drop i)) ∧ Keep lo H H'
  | 0, n, i, z, v, acc, H, hz, hi, hn, hf, hlo, ha, hv => by
    subst hz
    obtain ⟨n, rfl⟩ : ∃ n', n = n' + 1 := ⟨n - 1, by omega⟩
    rw [L23_1]
    simp (disch := first | omega | assumption | (simp only [Yg, Yh, Yi, Yj] <;> omega) | (simp only [Qk, Ql, Qm, Qn, Qo, Qp, Bool.and_self]) | rfl) only [↓Z0, Z1, ↓Z2, ↓Z3, ↓Z4, ↓Z5, ↓Z6, Z7, ↓Z8, ↓Z9, ↓Za, ↓Zb, Zc, ↓Zd, Ze, Zf, decide_true, decide_false, Zg, Zh, Zi, Zj, Zk, Zl, Zm, Zn, Zo, Zp, Zq, Zr, Zs, Zt, Zu, Zv, Zw, Zx, Zy, Zz, Y0, Y1, Y2, Y3, Y4, Y5, Y6, Y7, Y8, Y9, Ya, Yb, Yc, Yd, Ye, Yf, Yg, Yh, Yi, Yj, Yk, Yl, Ym, Yn, Yo, Yp, Yq, Yr, Ys, Yt, Yu, Yv, Nat.zero_add, Nat.add_zero, ne_eq, not_false_eq_true, reduceCtorEq, Nat.reduceAdd, Nat.reduceEqDiff, Nat.succ_ne_self, Yw, Yx, Yy, Yz, Q0, Q1, ↓Q2, Q3, Q4, Q5, Q6, Q7, Q8, Q9, Qa, Qb, Qc, Qd, Qe, Qf, Qg, Qh, Qi, Qj]
    rw [List.drop_eq_nil_of_le (by omega)]
    exact ⟨_, _, rfl, by simpa [vols] using hv, Keep.of_grow (Grow.refl _)⟩
  | m + 1, n, i, z, v, acc, H, hz, hi, hn, hf, hlo, ha, hv => by
    subst hz
    obtain ⟨n, rfl⟩ : ∃ n', n = n' + 1 := ⟨n - 1, by omega⟩
    rw [L23_1]
    simp (disch := first | omega | assumption | (simp only [Yg, Yh, Yi, Yj] <;> omega) | (simp only [Qk, Ql, Qm, Qn, Qo, Qp, Bool.and_self]) | rfl) only [↓Z0, Z1, ↓Z2, ↓Z3, ↓Z4, ↓Z5, ↓Z6, Z7, ↓Z8, ↓Z9, ↓Za, ↓Zb, Zc, ↓Zd, Ze, Zf, decide_true, decide_false, Zg, Zh, Zi, Zj, Zk, Zl, Zm, Zn, Zo, Zp, Zq, Zr, Zs, Zt, Zu, Zv, Zw, Zx, Zy, Zz, Y0, Y1, Y2, Y3, Y4, Y5, Y6, Y7, Y8, Y9, Ya, Yb, Yc, Yd, Ye, Yf, Yg, Yh, Yi, Yj, Yk, Yl, Ym, Yn, Yo, Yp, Yq, Yr, Ys, Yt, Yu, Yv, Nat.zero_add, Nat.add_zero, ne_eq, not_false_eq_true, reduceCtorEq, Nat.reduceAdd, Nat.reduceEqDiff, Nat.succ_ne_self, Yw, Yx, Yy, Yz, Q0, Q1, ↓Q2, Q3, Q4, Q5, Q6, Q7, Q8, Q9, Qa, Qb, Qc, Qd, Qe, Qf, Qg, Qh, Qi, Qj, idx_ent h8]
    have hil : i < es.length := by omega
    rw [List.drop_eq_getElem_cons hil]
    have g1 : Grow H (H.new (.cells #[str es[i].name, .int .i64 (es[i].first : Int), .int .i64 (es[i].len : Int)] 49)) := (Grow.refl _).new _
    by_cases h1 : 0 < es[i].len
    · simp (disch := first | omega | assumption | (simp only [Yg, Yh, Yi, Yj] <;> omega) | (simp only [Qk, Ql, Qm, Qn, Qo, Qp, Bool.and_self]) | rfl) only [↓Z0, Z1, ↓Z2, ↓Z3, ↓Z4, ↓Z5, ↓Z6, Z7, ↓Z8, ↓Z9, ↓Za, ↓Zb, Zc, ↓Zd, Ze, Zf, decide_true, decide_false, Zg, Zh, Zi, Zj, Zk, Zl, Zm, Zn, Zo, Zp, Zq, Zr, Zs, Zt, Zu, Zv, Zw, Zx, Zy, Zz, Y0, Y1, Y2, Y3, Y4, Y5, Y6, Y7, Y8, Y9, Ya, Yb, Yc, Yd, Ye, Yf, Yg, Yh, Yi, Yj, Yk, Yl, Ym, Yn, Yo, Yp, Yq, Yr, Ys, Yt, Yu, Yv, Nat.zero_add, Nat.add_zero, ne_eq, not_false_eq_true, reduceCtorEq, Nat.reduceAdd, Nat.reduceEqDiff, Nat.succ_ne_self, Yw, Yx, Yy, Yz, Q0, Q1, ↓Q2, Q3, Q4, Q5, Q6, Q7, Q8, Q9, Qa, Qb, Qc, Qd, Qe, Qf, Qg, Qh, Qi, Qj, build45, h1]
      obtain ⟨v1, H1, e1, o1, k1⟩ := OwnAt.app1 (bytes := 32) (t := 49) (x := es[i]) (c := #[str es[i].name, .int .i64 (es[i].first : Int), .int .i64 (es[i].len : Int)]) entC_len (by decide) entC_one (hv.grow g1) rfl (by omega) (by omega) (by simp only [Yh]; omega) (by simp only [Yg]; omega)
      have hk := k1.next; have hk2 := k1.floor
      simp only [Yg, Yh] at hk hk2 e1
      rw [e1]
      simp (disch := first | omega | assumption | (simp only [Yg, Yh, Yi, Yj] <;> omega) | (simp only [Qk, Ql, Qm, Qn, Qo, Qp, Bool.and_self]) | rfl) only [↓Z0, Z1, ↓Z2, ↓Z3, ↓Z4, ↓Z5, ↓Z6, Z7, ↓Z8, ↓Z9, ↓Za, ↓Zb, Zc, ↓Zd, Ze, Zf, decide_true, decide_false, Zg, Zh, Zi, Zj, Zk, Zl, Zm, Zn, Zo, Zp, Zq, Zr, Zs, Zt, Zu, Zv, Zw, Zx, Zy, Zz, Y0, Y1, Y2, Y3, Y4, Y5, Y6, Y7, Y8, Y9, Ya, Yb, Yc, Yd, Ye, Yf, Yg, Yh, Yi, Yj, Yk, Yl, Ym, Yn, Yo, Yp, Yq, Yr, Ys, Yt, Yu, Yv, Nat.zero_add, Nat.add_zero, ne_eq, not_false_eq_true, reduceCtorEq, Nat.reduceAdd, Nat.reduceEqDiff, Nat.succ_ne_self, Yw, Yx, Yy, Yz, Q0, Q1, ↓Q2, Q3, Q4, Q5, Q6, Q7, Q8, Q9, Qa, Qb, Qc, Qd, Qe, Qf, Qg, Qh, Qi, Qj, J23_0]
      obtain ⟨v2, H2, e2, o2, k2⟩ := vols_loop k lo h8 m n (i + 1) _ v1 (acc ++ [es[i]]) H1 rfl (by omega) (by omega) (by omega) (by omega) (by simp; omega) o1
      refine ⟨v2, H2, e2, ?_, (Keep.of_grow g1).trans (k1.trans k2)⟩
      have : vols (es[i] :: es.drop (i + 1)) = es[i] :: vols (es.drop (i + 1)) := by rw [vols, List.filter_cons_of_pos (by simpa using h1)]; rfl
      rw [this]
      simpa using o2
    · simp (disch := first | omega | assumption | (simp only [Yg, Yh, Yi, Yj] <;> omega) | (simp only [Qk, Ql, Qm, Qn, Qo, Qp, Bool.and_self]) | rfl) only [↓Z0, Z1, ↓Z2, ↓Z3, ↓Z4, ↓Z5, ↓Z6, Z7, ↓Z8, ↓Z9, ↓Za, ↓Zb, Zc, ↓Zd, Ze, Zf, decide_true, decide_false, Zg, Zh, Zi, Zj, Zk, Zl, Zm, Zn, Zo, Zp, Zq, Zr, Zs, Zt, Zu, Zv, Zw, Zx, Zy, Zz, Y0, Y1, Y2, Y3, Y4, Y5, Y6, Y7, Y8, Y9, Ya, Yb, Yc, Yd, Ye, Yf, Yg, Yh, Yi, Yj, Yk, Yl, Ym, Yn, Yo, Yp, Yq, Yr, Ys, Yt, Yu, Yv, Nat.zero_add, Nat.add_zero, ne_eq, not_false_eq_true, reduceCtorEq, Nat.reduceAdd, Nat.reduceEqDiff, Nat.succ_ne_self, Yw, Yx, Yy, Yz, Q0, Q1, ↓Q2, Q3, Q4, Q5, Q6, Q7, Q8, Q9, Qa, Qb, Qc, Qd, Qe, Qf, Qg, Qh, Qi, Qj, J23_0, h1]
      obtain ⟨v2, H2, e2, o2, k2⟩ := vols_loop k lo h8 m n (i + 1) _ v acc _ rfl (by omega) (by omega) (by simp only [Yh]; omega) (by simp only [Yg]; omega) (by omega) (hv.grow g1)
      refine ⟨v2, H2, e2, ?_, (Keep.of_grow g1).trans k2⟩
      have : vols (es[i] :: es.drop (i + 1)) = vols (es.drop (i + 1)) := by rw [vols, List.filter_cons_of_neg (by simpa using h1)]; rfl
      rw [this]; exact o2
theorem vols_run {k : Nat} {H : Heap} {s : Nat} {d : Value} {n : Nat} {es : List Ent} (h : StoAt H s d n es) (hk : 20 ≤ k) :
    ∃ v H', run Tryz.prog k 23 #[.pointer (some ⟨s, 0, none⟩)] H = some (v, H') ∧ OwnAt H.next H' v 49 entC (vols es) ∧ Grow H H' := by
  obtain ⟨k, rfl⟩ : ∃ k', k = k' + 1 := ⟨k - 1, by omega⟩
  have := h.lt; have := h.fl
  rw [run23, F23]
  simp (disch := first | omega | assumption | (simp only [Yg, Yh, Yi, Yj] <;> omega) | (simp only [Qk, Ql, Qm, Qn, Qo, Qp, Bool.and_self]) | rfl) only [↓Z0, Z1, ↓Z2, ↓Z3, ↓Z4, ↓Z5, ↓Z6, Z7, ↓Z8, ↓Z9, ↓Za, ↓Zb, Zc, ↓Zd, Ze, Zf, decide_true, decide_false, Zg, Zh, Zi, Zj, Zk, Zl, Zm, Zn, Zo, Zp, Zq, Zr, Zs, Zt, Zu, Zv, Zw, Zx, Zy, Zz, Y0, Y1, Y2, Y3, Y4, Y5, Y6, Y7, Y8, Y9, Ya, Yb, Yc, Yd, Ye, Yf, Yg, Yh, Yi, Yj, Yk, Yl, Ym, Yn, Yo, Yp, Yq, Yr, Ys, Yt, Yu, Yv, Nat.zero_add, Nat.add_zero, ne_eq, not_false_eq_true, reduceCtorEq, Nat.reduceAdd, Nat.reduceEqDiff, Nat.succ_ne_self, Yw, Yx, Yy, Yz, Q0, Q1, ↓Q2, Q3, Q4, Q5, Q6, Q7, Q8, Q9, Qa, Qb, Qc, Qd, Qe, Qf, Qg, Qh, Qi, Qj, h.blk, get_ents h.e8]
  obtain ⟨v', H', e1, o1, k1⟩ := vols_loop k H.next h.e8 8 k 0 _ (.slice none 0 0) [] H rfl rfl (by omega) (by omega) (Nat.le_refl _) (by simp) (.inl ⟨rfl, rfl⟩)
  exact ⟨v', H', e1, by simpa using o1, k1.grow (Nat.le_refl _)⟩
/-- Sectors of the entries. -/
def lens (es : List Ent) : Nat := (es.map Ent.len).sum
theorem lens_cons (e : Ent) (es : List Ent) : lens (e :: es) = e.len + lens es := by simp [lens]
theorem free_loop (k : Nat) {es : List Ent} (h8 : es.length = 8) (lo hi : Int) (hlo : -9000000000000000000 ≤ lo) (hhi : hi ≤ 9000000000000000000) : ∀ (m n i : Nat) (z r : Int) (H : Heap), z = i → i + m = 8 → m < n → H.floor ≤ H.next → r ≤ hi → lo ≤ r - (lens (es.drop i) : Int) →
    ∃ H', L24_0 k n (.int .i64 r) (.agg (es.flatMap entC).toArray) (.int .i64 z) H = some (.int .i64 (r - (lens (es.drop i) : Int)), H') ∧ Grow H H'
  | 0, n, i, z, r, H, hz, hj, hn, hf, hr, hr2 => by
    subst hz
    obtain ⟨n, rfl⟩ : ∃ n', n = n' + 1 := ⟨n - 1, by omega⟩
    rw [L24_0]
    simp (disch := first | omega | assumption | (simp only [Yg, Yh, Yi, Yj] <;> omega) | (simp only [Qk, Ql, Qm, Qn, Qo, Qp, Bool.and_self]) | rfl) only [↓Z0, Z1, ↓Z2, ↓Z3, ↓Z4, ↓Z5, ↓Z6, Z7, ↓Z8, ↓Z9, ↓Za, ↓Zb, Zc, ↓Zd, Ze, Zf, decide_true, decide_false, Zg, Zh, Zi, Zj, Zk, Zl, Zm, Zn, Zo, Zp, Zq, Zr, Zs, Zt, Zu, Zv, Zw, Zx, Zy, Zz, Y0, Y1, Y2, Y3, Y4, Y5, Y6, Y7, Y8, Y9, Ya, Yb, Yc, Yd, Ye, Yf, Yg, Yh, Yi, Yj, Yk, Yl, Ym, Yn, Yo, Yp, Yq, Yr, Ys, Yt, Yu, Yv, Nat.zero_add, Nat.add_zero, ne_eq, not_false_eq_true, reduceCtorEq, Nat.reduceAdd, Nat.reduceEqDiff, Nat.succ_ne_self, Yw, Yx, Yy, Yz, Q0, Q1, ↓Q2, Q3, Q4, Q5, Q6, Q7, Q8, Q9, Qa, Qb, Qc, Qd, Qe, Qf, Qg, Qh, Qi, Qj]
    rw [List.drop_eq_nil_of_le (by omega)]
    refine ⟨H, ?_, Grow.refl _⟩
    simp [lens]
  | m + 1, n, i, z, r, H, hz, hj, hn, hf, hr, hr2 => by
    subst hz
    obtain ⟨n, rfl⟩ : ∃ n', n = n' + 1 := ⟨n - 1, by omega⟩
    have hil : i < es.length := by omega
    rw [List.drop_eq_getElem_cons hil, lens_cons] at hr2 ⊢
    rw [L24_0]
    simp (disch := first | omega | assumption | (simp only [Yg, Yh, Yi, Yj] <;> omega) | (simp only [Qk, Ql, Qm, Qn, Qo, Qp, Bool.and_self]) | rfl) only [↓Z0, Z1, ↓Z2, ↓Z3, ↓Z4, ↓Z5, ↓Z6, Z7, ↓Z8, ↓Z9, ↓Za, ↓Zb, Zc, ↓Zd, Ze, Zf, decide_true, decide_false, Zg, Zh, Zi, Zj, Zk, Zl, Zm, Zn, Zo, Zp, Zq, Zr, Zs, Zt, Zu, Zv, Zw, Zx, Zy, Zz, Y0, Y1, Y2, Y3, Y4, Y5, Y6, Y7, Y8, Y9, Ya, Yb, Yc, Yd, Ye, Yf, Yg, Yh, Yi, Yj, Yk, Yl, Ym, Yn, Yo, Yp, Yq, Yr, Ys, Yt, Yu, Yv, Nat.zero_add, Nat.add_zero, ne_eq, not_false_eq_true, reduceCtorEq, Nat.reduceAdd, Nat.reduceEqDiff, Nat.succ_ne_self, Yw, Yx, Yy, Yz, Q0, Q1, ↓Q2, Q3, Q4, Q5, Q6, Q7, Q8, Q9, Qa, Qb, Qc, Qd, Qe, Qf, Qg, Qh, Qi, Qj, idx_ent h8]
    obtain ⟨H', e, g⟩ := free_loop k h8 lo hi hlo hhi m n (i + 1) _ (r - (es[i].len : Int)) (H.new (.cells #[str es[i].name, .int .i64 (es[i].first : Int), .int .i64 (es[i].len : Int)] 49)) rfl (by omega) (by omega) (by simp only [Yh, Yg]; omega) (by omega) (by omega)
    refine ⟨H', e.trans ?_, ((Grow.refl _).new _).trans g⟩
    congr 3; omega
theorem free_run {k : Nat} {H : Heap} {s : Nat} {d : Value} {n : Nat} {es : List Ent} (h : StoAt H s d n es) (hn : n < 1000000) (hl : lens es < 1000000) (hk : 20 ≤ k) :
    ∃ H', run Tryz.prog k 24 #[.pointer (some ⟨s, 0, none⟩)] H = some (.int .i64 ((n : Int) - 8 - (lens es : Int)), H') ∧ Grow H H' := by
  obtain ⟨k, rfl⟩ : ∃ k', k = k' + 1 := ⟨k - 1, by omega⟩
  have := h.lt; have := h.fl
  rw [run24, F24]
  have e1 : get1 1 (.cells (StoreRow d n es) 93) = some (.int .i64 (n : Int)) := rfl
  simp (disch := first | omega | assumption | (simp only [Yg, Yh, Yi, Yj] <;> omega) | (simp only [Qk, Ql, Qm, Qn, Qo, Qp, Bool.and_self]) | rfl) only [↓Z0, Z1, ↓Z2, ↓Z3, ↓Z4, ↓Z5, ↓Z6, Z7, ↓Z8, ↓Z9, ↓Za, ↓Zb, Zc, ↓Zd, Ze, Zf, decide_true, decide_false, Zg, Zh, Zi, Zj, Zk, Zl, Zm, Zn, Zo, Zp, Zq, Zr, Zs, Zt, Zu, Zv, Zw, Zx, Zy, Zz, Y0, Y1, Y2, Y3, Y4, Y5, Y6, Y7, Y8, Y9, Ya, Yb, Yc, Yd, Ye, Yf, Yg, Yh, Yi, Yj, Yk, Yl, Ym, Yn, Yo, Yp, Yq, Yr, Ys, Yt, Yu, Yv, Nat.zero_add, Nat.add_zero, ne_eq, not_false_eq_true, reduceCtorEq, Nat.reduceAdd, Nat.reduceEqDiff, Nat.succ_ne_self, Yw, Yx, Yy, Yz, Q0, Q1, ↓Q2, Q3, Q4, Q5, Q6, Q7, Q8, Q9, Qa, Qb, Qc, Qd, Qe, Qf, Qg, Qh, Qi, Qj, h.blk, get_ents h.e8, e1]
  exact free_loop k h.e8 (-2000000) 2000000 (by omega) (by omega) 8 k 0 _ _ H rfl rfl (by omega) (by omega) (by omega) (by rw [List.drop_zero]; omega)
end Go.PG

namespace Go.PG
open Go.Proofs

structure Sys (d : Value) (cap : Nat) (D : DiskP) (s : Nat) (es : List Ent) (t : List UInt8) (F : Nat → Prop) (H : Heap) : Prop where
  sto : StoAt H s d cap es
  dsk : D t F H
  apart : ¬ F s
abbrev orS (s : Nat) (F : Nat → Prop) : Nat → Prop := fun n => F n ∨ n = s
section
variable {K : Nat} {d : Value} {cap : Nat} {D : DiskP} {s : Nat} {es : List Ent} {t : List UInt8} {F : Nat → Prop} {H : Heap}
theorem Sys.fl (h : Sys d cap D s es t F H) : H.floor ≤ H.next := by have := h.sto.lt; have := h.sto.fl; omega
theorem Sys.grow (hd : DiskOk K d cap D) (h : Sys d cap D s es t F H) {H' : Heap} (g : Grow H H') : Sys d cap D s es t F H' := ⟨h.sto.grow g, hd.grow h.dsk g, h.apart⟩
theorem Sys.disk (h : Sys d cap D s es t F H) {t' : List UInt8} {F' : Nat → Prop} {H' : Heap} (hd : D t' F' H') (f : Foot F F' H H') : Sys d cap D s es t' F' H' where
  sto := ⟨by rw [f.chg.old s h.sto.lt h.apart, h.sto.blk], Nat.lt_of_lt_of_le h.sto.lt f.chg.next, by rw [f.chg.floor]; exact h.sto.fl, h.sto.e8⟩
  dsk := hd
  apart := fun hs => by rcases f.new s hs with h1 | h1; exact h.apart h1; have := h.sto.lt; omega
theorem Sys.foot {F' : Nat → Prop} {H' : Heap} (s : Nat) (f : Foot F F' H H') : Foot (orS s F) (orS s F') H H' := ⟨f.chg.mono fun _ h => .inl h, fun n hn => by
  rcases hn with hn | hn
  · rcases f.new n hn with h | h
    · exact .inl (.inl h)
    · exact .inr h
  · exact .inl (.inr hn)⟩
theorem put_ent {x : Ent} {i : Nat} (hi : i < 8) (h8 : es.length = 8) (hf : H.floor ≤ s) : putN H s (2 + i * 3) (entV x) 3 (.cells (StoreRow d cap es) 93) = some (H.set s (.cells (StoreRow d cap (es.set i x)) 93)) := by
  have hl := flat_len entC_len es
  have hsz : (StoreRow d cap es).size = 26 := by simp only [StoreRow, List.size_toArray, List.length_cons, hl]; omega
  have hc : (entV x).cells = #[str x.name, .int .i64 (x.first : Int), .int .i64 (x.len : Int)] := rfl
  simp only [putN, row_cells, Option.bind_some, hc]
  rw [if_pos ⟨rfl, by decide, hf, by omega, rfl⟩]
  congr 2
  simp only [Blk.put]
  congr 1
  rw [setL_list _ _ _ (by simp only [List.length_cons, List.length_nil, hsz]; omega)]
  have e : [str x.name, .int .i64 (x.first : Int), .int .i64 (x.len : Int)] = entC x := rfl
  rw [e, entC_len, StoreRow, List.toList_toArray, StoreRow, flat_set entC_len (by omega)]
  congr 1
  rw [show 2 + i * 3 = i * 3 + 2 from by omega, show i * 3 + 2 + 3 = i * 3 + 3 + 2 from by omega]
  simp only [List.take_succ_cons, List.drop_succ_cons, List.cons_append]
theorem Sys.setE (hd : DiskOk K d cap D) (h : Sys d cap D s es t F H) (i : Nat) (x : Ent) : Sys d cap D s (es.set i x) t F (H.set s (.cells (StoreRow d cap (es.set i x)) 93)) where
  sto := ⟨Ye rfl, h.sto.lt, h.sto.fl, by rw [List.length_set]; exact h.sto.e8⟩
  dsk := hd.frame h.dsk ((Chg.refl H).set (S := fun n => n = s) (.inl rfl) _) fun n hn e => by subst e; exact h.apart hn
  apart := h.apart
theorem idx8 {i : Nat} (hi : i < 8) : idxArr 8 3 (.pointer (some ⟨s, 2, none⟩)) (.int .i64 (i : Int)) = some (.pointer (some ⟨s, 2 + i * 3, none⟩)) := by
  have h2 : (i : Int) < (8 : Nat) := by omega
  simp only [idxArr]
  rw [if_pos ⟨by omega, h2⟩, Int.toNat_natCast]
  by_cases h0 : i = 0
  · subst h0; simp [Addr.add]
  · simp [Addr.add]; omega
theorem get_d (t : TypeId) : get1 0 (.cells (StoreRow d cap es) t) = some d := rfl
theorem get_n (t : TypeId) : get1 1 (.cells (StoreRow d cap es) t) = some (.int .i64 (cap : Int)) := rfl
theorem get_e {i : Nat} (hi : i < 8) (h8 : es.length = 8) (t : TypeId) : getN 3 (2 + i * 3) (.cells (StoreRow d cap es) t) = some (entV (es[i]'(by omega))) := by
  have hl := flat_len entC_len es
  have e := flat_one entC_len (l := es) (i := i) (by omega)
  rw [getN_row (row_cells _ _)]
  rw [if_pos (by simp only [StoreRow, List.size_toArray, List.length_cons, hl]; omega)]
  congr 1
  rw [entV]
  congr 1
  apply Array.toList_inj.1
  rw [Array.toList_extract, List.extract_eq_take_drop, StoreRow, List.toList_toArray, show 2 + i * 3 + 3 - (2 + i * 3) = 3 from by omega, show 2 + i * 3 = i * 3 + 2 from by omega]
  simp only [List.drop_succ_cons, e]
  rfl
theorem nil_iface (hd : DiskOk K d cap D) : pNil d = some d := by
  obtain ⟨t, a, rfl⟩ := hd.iface; rfl
/-- Entries that a store may have. -/
structure WfE (cap : Nat) (es : List Ent) : Prop where
  ok : ∀ e ∈ es, e.first + e.len ≤ cap ∧ e.name.length ≤ 16 ∧ (0 < e.len → 8 ≤ e.first)
theorem WfE.set (h : WfE cap es) {i : Nat} {x : Ent} (hx : x.first + x.len ≤ cap ∧ x.name.length ≤ 16 ∧ (0 < x.len → 8 ≤ x.first)) : WfE cap (es.set i x) := ⟨fun e he => by
  rcases List.mem_or_eq_of_mem_set he with h1 | h1
  · exact h.ok e h1
  · subst h1; exact hx⟩
theorem right_one {i : Nat} (hi : i < 8) (hc : 8 < cap) : isRight cap (i : Int) 1 := ⟨by omega, by omega, by omega, by omega⟩
def setP (i : Nat) (x : Ent) (t : List UInt8) : List UInt8 := wrB t i 1 (laidB x)
theorem note_run (hd : DiskOk K d cap D) (hc : 8 < cap) {k : Nat} (hk : K + 100 ≤ k) (h : Sys d cap D s es t F H) {i : Nat} (hi : i < 8) (x : Ent) (hx : x.first + x.len ≤ cap) (hnm : x.name.length ≤ 16) :
    ∃ F' H', run Tryz.prog k 64 #[.pointer (some ⟨s, 0, none⟩), .int .i64 (i : Int), entV x] H = some (.int .i64 0, H') ∧ Sys d cap D s (es.set i x) (setP i x t) F' H' ∧ Foot (orS s F) (orS s F') H H' := by
  obtain ⟨k, rfl⟩ : ∃ k', k = k' + 1 := ⟨k - 1, by omega⟩
  have hbig := hd.big
  have hfl := h.fl
  have hbox : pBox 49 (entV x) H = some (.pointer (some ⟨H.next, 0, none⟩), H.new (.cells #[str x.name, .int .i64 (x.first : Int), .int .i64 (x.len : Int)] 49)) := rfl
  generalize hA : H.new (.cells #[str x.name, .int .i64 (x.first : Int), .int .i64 (x.len : Int)] 49) = A at hbox
  have gA : Grow H A := by rw [← hA]; exact (Grow.refl H).new _
  have nA : A.next = H.next + 1 := by rw [← hA]; rfl
  have fA : A.floor = H.floor := by rw [← hA]; rfl
  have bA : A.blk H.next = some (.cells #[str x.name, .int .i64 (x.first : Int), .int .i64 (x.len : Int)] 49) := by rw [← hA, Y9]
  have sA := h.grow hd gA
  obtain ⟨L, e1, gL⟩ := laid_run (k := k) (by omega) x (by omega) (by omega) (by omega) (A.atFloor A.next) (by rw [Q6, Q5]; exact Nat.le_refl _)
  rw [nA] at e1
  have gL := gL.quiet
  generalize hB : L.atFloor A.floor = B at gL
  have nB := gL.next
  have fB := gL.floor
  have sB := sA.grow hd gL
  have bB := gL.eqBlk bA (by omega)
  obtain ⟨fa, F', C, e2, e3, dC, fC⟩ := hd.write (k := k) (i : Int) 1 (laidB x) (by omega) sB.dsk sB.fl
  rw [okI, if_pos (right_one hi hc)] at e3
  rw [wrI, if_pos (right_one hi hc), Int.toNat_natCast] at dC
  have sC := sB.disk dC fC
  have nC := fC.chg.next
  have lF : ¬ F H.next := fun hh => by have := hd.lt h.dsk _ hh; omega
  have bC := fC.chg.eqBlk bB (by omega) lF
  rw [run64, F64]
  simp (disch := first | omega | assumption | (simp only [Yg, Yh, Yi, Yj] <;> omega) | (simp only [Qk, Ql, Qm, Qn, Qo, Qp, Bool.and_self]) | rfl) only [↓Z0, Z1, ↓Z2, ↓Z3, ↓Z4, ↓Z5, ↓Z6, Z7, ↓Z8, ↓Z9, ↓Za, ↓Zb, Zc, ↓Zd, Ze, Zf, decide_true, decide_false, Zg, Zh, Zi, Zj, Zk, Zl, Zm, Zn, Zo, Zp, Zq, Zr, Zs, Zt, Zu, Zv, Zw, Zx, Zy, Zz, Y0, Y1, Y2, Y3, Y4, Y5, Y6, Y7, Y8, Y9, Ya, Yb, Yc, Yd, Ye, Yf, Yg, Yh, Yi, Yj, Yk, Yl, Ym, Yn, Yo, Yp, Yq, Yr, Ys, Yt, Yu, Yv, Nat.zero_add, Nat.add_zero, ne_eq, not_false_eq_true, reduceCtorEq, Nat.reduceAdd, Nat.reduceEqDiff, Nat.succ_ne_self, Yw, Yx, Yy, Yz, Q0, Q1, ↓Q2, Q3, Q4, Q5, Q6, Q7, Q8, Q9, Qa, Qb, Qc, Qd, Qe, Qf, Qg, Qh, Qi, Qj, hbox, sA.sto.blk, get_d, bA]
  rw [show Value.agg #[str x.name, .int .i64 (x.first : Int), .int .i64 (x.len : Int)] = entV x from rfl]
  simp (disch := first | omega | assumption | (simp only [Yg, Yh, Yi, Yj] <;> omega) | (simp only [Qk, Ql, Qm, Qn, Qo, Qp, Bool.and_self]) | rfl) only [↓Z0, Z1, ↓Z2, ↓Z3, ↓Z4, ↓Z5, ↓Z6, Z7, ↓Z8, ↓Z9, ↓Za, ↓Zb, Zc, ↓Zd, Ze, Zf, decide_true, decide_false, Zg, Zh, Zi, Zj, Zk, Zl, Zm, Zn, Zo, Zp, Zq, Zr, Zs, Zt, Zu, Zv, Zw, Zx, Zy, Zz, Y0, Y1, Y2, Y3, Y4, Y5, Y6, Y7, Y8, Y9, Ya, Yb, Yc, Yd, Ye, Yf, Yg, Yh, Yi, Yj, Yk, Yl, Ym, Yn, Yo, Yp, Yq, Yr, Ys, Yt, Yu, Yv, Nat.zero_add, Nat.add_zero, ne_eq, not_false_eq_true, reduceCtorEq, Nat.reduceAdd, Nat.reduceEqDiff, Nat.succ_ne_self, Yw, Yx, Yy, Yz, Q0, Q1, ↓Q2, Q3, Q4, Q5, Q6, Q7, Q8, Q9, Qa, Qb, Qc, Qd, Qe, Qf, Qg, Qh, Qi, Qj, nA, e1, hB, nil_iface hd, e2, e3, bC, sC.sto.blk, idx8 hi]
  rw [show Value.agg #[str x.name, .int .i64 (x.first : Int), .int .i64 (x.len : Int)] = entV x from rfl, put_ent hi sC.sto.e8 sC.sto.fl]
  simp (disch := first | omega | assumption | (simp only [Yg, Yh, Yi, Yj] <;> omega) | (simp only [Qk, Ql, Qm, Qn, Qo, Qp, Bool.and_self]) | rfl) only [↓Z0, Z1, ↓Z2, ↓Z3, ↓Z4, ↓Z5, ↓Z6, Z7, ↓Z8, ↓Z9, ↓Za, ↓Zb, Zc, ↓Zd, Ze, Zf, decide_true, decide_false, Zg, Zh, Zi, Zj, Zk, Zl, Zm, Zn, Zo, Zp, Zq, Zr, Zs, Zt, Zu, Zv, Zw, Zx, Zy, Zz, Y0, Y1, Y2, Y3, Y4, Y5, Y6, Y7, Y8, Y9, Ya, Yb, Yc, Yd, Ye, Yf, Yg, Yh, Yi, Yj, Yk, Yl, Ym, Yn, Yo, Yp, Yq, Yr, Ys, Yt, Yu, Yv, Nat.zero_add, Nat.add_zero, ne_eq, not_false_eq_true, reduceCtorEq, Nat.reduceAdd, Nat.reduceEqDiff, Nat.succ_ne_self, Yw, Yx, Yy, Yz, Q0, Q1, ↓Q2, Q3, Q4, Q5, Q6, Q7, Q8, Q9, Qa, Qb, Qc, Qd, Qe, Qf, Qg, Qh, Qi, Qj]
  refine ⟨F', _, rfl, sC.setE hd i x, ?_⟩
  have f1 : Foot (orS s F) (orS s F) H B := Foot.of_grow (gA.trans gL)
  have f2 : Foot (orS s F) (orS s F') H C := f1.trans (Sys.foot s fC)
  exact f2.trans ⟨(Chg.refl C).set (.inl (.inr rfl)) _, fun _ hn => .inl hn⟩
def placeP (es : List Ent) (nm : List UInt8) (a n : Int) : Int × Int :=
  match findE es nm with
  | none => (0, 4)
  | some i => if 1 ≤ n ∧ n ≤ ((es.getD i Ent.none).len : Int) ∧ 0 ≤ a ∧ a + n ≤ ((es.getD i Ent.none).len : Int) then (((es.getD i Ent.none).first : Int) + a, 0) else (0, 1)
theorem findFrom_lt : ∀ (es : List Ent) (i : Nat) (nm : List UInt8) (j : Nat), findFrom i nm es = some j → i ≤ j ∧ j < i + es.length ∧ ∃ h : j - i < es.length, 0 < (es[j - i]).len ∧ (es[j - i]).name = nm
  | [], i, nm, j, h => by simp [findFrom] at h
  | e :: es, i, nm, j, h => by
    rw [findFrom] at h
    by_cases hc : 0 < e.len ∧ e.name = nm
    · rw [if_pos hc] at h
      simp only [Option.some.injEq] at h
      subst h
      refine ⟨Nat.le_refl _, by simp, by simp, ?_⟩
      simp only [Nat.sub_self, List.getElem_cons_zero]
      exact hc
    · rw [if_neg hc] at h
      obtain ⟨h1, h2, h3, h4⟩ := findFrom_lt es (i + 1) nm j h
      refine ⟨by omega, by simp; omega, by simp; omega, ?_⟩
      have e1 : j - i = (j - (i + 1)) + 1 := by omega
      simp only [e1, List.getElem_cons_succ]
      exact h4
theorem findE_lt (h8 : es.length = 8) {nm : List UInt8} {i : Nat} (h : findE es nm = some i) : i < 8 ∧ ∃ hi : i < es.length, 0 < (es[i]).len ∧ (es[i]).name = nm := by
  obtain ⟨_, h2, h3, h4⟩ := findFrom_lt es 0 nm i h
  simp only [Nat.sub_zero, Nat.zero_add] at h2 h3 h4
  exact ⟨by omega, by omega, h4⟩
theorem place_run (hd : DiskOk K d cap D) {k : Nat} (hk : 100 ≤ k) (h : Sys d cap D s es t F H) (hw : WfE cap es) (nm : List UInt8) (a n : Int) (ha : a < 9223372036854775808 ∧ -1000000000000 < a ∨ True) :
    ∃ H', run Tryz.prog k 61 #[.pointer (some ⟨s, 0, none⟩), str nm, .int .i64 a, .int .i64 n] H = some (.tuple #[.int .i64 (placeP es nm a n).1, .int .i64 (placeP es nm a n).2], H') ∧ Grow H H' := by
  obtain ⟨k, rfl⟩ : ∃ k', k = k' + 1 := ⟨k - 1, by omega⟩
  have hbig := hd.big
  have hfl := h.fl
  obtain ⟨H1, e1, g1⟩ := find_run (k := k) h.sto nm (by omega)
  have s1 := h.grow hd g1
  have n1 := g1.next
  have f1 := g1.floor
  rw [run61, F61]
  cases hf : findE es nm with
  | none =>
    rw [hf] at e1
    simp (disch := first | omega | assumption | (simp only [Yg, Yh, Yi, Yj] <;> omega) | (simp only [Qk, Ql, Qm, Qn, Qo, Qp, Bool.and_self]) | rfl) only [↓Z0, Z1, ↓Z2, ↓Z3, ↓Z4, ↓Z5, ↓Z6, Z7, ↓Z8, ↓Z9, ↓Za, ↓Zb, Zc, ↓Zd, Ze, Zf, decide_true, decide_false, Zg, Zh, Zi, Zj, Zk, Zl, Zm, Zn, Zo, Zp, Zq, Zr, Zs, Zt, Zu, Zv, Zw, Zx, Zy, Zz, Y0, Y1, Y2, Y3, Y4, Y5, Y6, Y7, Y8, Y9, Ya, Yb, Yc, Yd, Ye, Yf, Yg, Yh, Yi, Yj, Yk, Yl, Ym, Yn, Yo, Yp, Yq, Yr, Ys, Yt, Yu, Yv, Nat.zero_add, Nat.add_zero, ne_eq, not_false_eq_true, reduceCtorEq, Nat.reduceAdd, Nat.reduceEqDiff, Nat.succ_ne_self, Yw, Yx, Yy, Yz, Q0, Q1, ↓Q2, Q3, Q4, Q5, Q6, Q7, Q8, Q9, Qa, Qb, Qc, Qd, Qe, Qf, Qg, Qh, Qi, Qj, e1, findV]
    exact ⟨H1, by simp only [placeP, hf], g1⟩
  | some i =>
    rw [hf] at e1
    obtain ⟨hi, hil, hlen, _⟩ := findE_lt h.sto.e8 hf
    have hw1 := hw.ok es[i] (List.getElem_mem hil)
    have hge := get_e (d := d) (cap := cap) hi h.sto.e8 93
    have hgd : es.getD i Ent.none = es[i] := by rw [List.getD_eq_getElem?_getD, List.getElem?_eq_getElem hil]; rfl
    simp only [placeP, hf, hgd]
    have g2 : ∀ B, Grow H (H1.new B) := fun B => g1.new B
    by_cases c1 : n < 1
    · simp (disch := first | omega | assumption | (simp only [Yg, Yh, Yi, Yj] <;> omega) | (simp only [Qk, Ql, Qm, Qn, Qo, Qp, Bool.and_self]) | rfl) only [↓Z0, Z1, ↓Z2, ↓Z3, ↓Z4, ↓Z5, ↓Z6, Z7, ↓Z8, ↓Z9, ↓Za, ↓Zb, Zc, ↓Zd, Ze, Zf, decide_true, decide_false, Zg, Zh, Zi, Zj, Zk, Zl, Zm, Zn, Zo, Zp, Zq, Zr, Zs, Zt, Zu, Zv, Zw, Zx, Zy, Zz, Y0, Y1, Y2, Y3, Y4, Y5, Y6, Y7, Y8, Y9, Ya, Yb, Yc, Yd, Ye, Yf, Yg, Yh, Yi, Yj, Yk, Yl, Ym, Yn, Yo, Yp, Yq, Yr, Ys, Yt, Yu, Yv, Nat.zero_add, Nat.add_zero, ne_eq, not_false_eq_true, reduceCtorEq, Nat.reduceAdd, Nat.reduceEqDiff, Nat.succ_ne_self, Yw, Yx, Yy, Yz, Q0, Q1, ↓Q2, Q3, Q4, Q5, Q6, Q7, Q8, Q9, Qa, Qb, Qc, Qd, Qe, Qf, Qg, Qh, Qi, Qj, e1, findV, s1.sto.blk, idx8 hi, hge, entV, J61_0, J61_1, J61_2]
      rw [if_neg (by omega)]
      exact ⟨_, rfl, g2 _⟩
    · by_cases c2 : (es[i].len : Int) < n
      · simp (disch := first | omega | assumption | (simp only [Yg, Yh, Yi, Yj] <;> omega) | (simp only [Qk, Ql, Qm, Qn, Qo, Qp, Bool.and_self]) | rfl) only [↓Z0, Z1, ↓Z2, ↓Z3, ↓Z4, ↓Z5, ↓Z6, Z7, ↓Z8, ↓Z9, ↓Za, ↓Zb, Zc, ↓Zd, Ze, Zf, decide_true, decide_false, Zg, Zh, Zi, Zj, Zk, Zl, Zm, Zn, Zo, Zp, Zq, Zr, Zs, Zt, Zu, Zv, Zw, Zx, Zy, Zz, Y0, Y1, Y2, Y3, Y4, Y5, Y6, Y7, Y8, Y9, Ya, Yb, Yc, Yd, Ye, Yf, Yg, Yh, Yi, Yj, Yk, Yl, Ym, Yn, Yo, Yp, Yq, Yr, Ys, Yt, Yu, Yv, Nat.zero_add, Nat.add_zero, ne_eq, not_false_eq_true, reduceCtorEq, Nat.reduceAdd, Nat.reduceEqDiff, Nat.succ_ne_self, Yw, Yx, Yy, Yz, Q0, Q1, ↓Q2, Q3, Q4, Q5, Q6, Q7, Q8, Q9, Qa, Qb, Qc, Qd, Qe, Qf, Qg, Qh, Qi, Qj, e1, findV, s1.sto.blk, idx8 hi, hge, entV, J61_0, J61_1, J61_2]
        rw [if_neg (by omega)]
        exact ⟨_, rfl, g2 _⟩
      · by_cases c3 : a < 0
        · simp (disch := first | omega | assumption | (simp only [Yg, Yh, Yi, Yj] <;> omega) | (simp only [Qk, Ql, Qm, Qn, Qo, Qp, Bool.and_self]) | rfl) only [↓Z0, Z1, ↓Z2, ↓Z3, ↓Z4, ↓Z5, ↓Z6, Z7, ↓Z8, ↓Z9, ↓Za, ↓Zb, Zc, ↓Zd, Ze, Zf, decide_true, decide_false, Zg, Zh, Zi, Zj, Zk, Zl, Zm, Zn, Zo, Zp, Zq, Zr, Zs, Zt, Zu, Zv, Zw, Zx, Zy, Zz, Y0, Y1, Y2, Y3, Y4, Y5, Y6, Y7, Y8, Y9, Ya, Yb, Yc, Yd, Ye, Yf, Yg, Yh, Yi, Yj, Yk, Yl, Ym, Yn, Yo, Yp, Yq, Yr, Ys, Yt, Yu, Yv, Nat.zero_add, Nat.add_zero, ne_eq, not_false_eq_true, reduceCtorEq, Nat.reduceAdd, Nat.reduceEqDiff, Nat.succ_ne_self, Yw, Yx, Yy, Yz, Q0, Q1, ↓Q2, Q3, Q4, Q5, Q6, Q7, Q8, Q9, Qa, Qb, Qc, Qd, Qe, Qf, Qg, Qh, Qi, Qj, e1, findV, s1.sto.blk, idx8 hi, hge, entV, J61_0, J61_1, J61_2]
          rw [if_neg (by omega)]
          exact ⟨_, rfl, g2 _⟩
        · by_cases c4 : (es[i].len : Int) - n < a
          · simp (disch := first | omega | assumption | (simp only [Yg, Yh, Yi, Yj] <;> omega) | (simp only [Qk, Ql, Qm, Qn, Qo, Qp, Bool.and_self]) | rfl) only [↓Z0, Z1, ↓Z2, ↓Z3, ↓Z4, ↓Z5, ↓Z6, Z7, ↓Z8, ↓Z9, ↓Za, ↓Zb, Zc, ↓Zd, Ze, Zf, decide_true, decide_false, Zg, Zh, Zi, Zj, Zk, Zl, Zm, Zn, Zo, Zp, Zq, Zr, Zs, Zt, Zu, Zv, Zw, Zx, Zy, Zz, Y0, Y1, Y2, Y3, Y4, Y5, Y6, Y7, Y8, Y9, Ya, Yb, Yc, Yd, Ye, Yf, Yg, Yh, Yi, Yj, Yk, Yl, Ym, Yn, Yo, Yp, Yq, Yr, Ys, Yt, Yu, Yv, Nat.zero_add, Nat.add_zero, ne_eq, not_false_eq_true, reduceCtorEq, Nat.reduceAdd, Nat.reduceEqDiff, Nat.succ_ne_self, Yw, Yx, Yy, Yz, Q0, Q1, ↓Q2, Q3, Q4, Q5, Q6, Q7, Q8, Q9, Qa, Qb, Qc, Qd, Qe, Qf, Qg, Qh, Qi, Qj, e1, findV, s1.sto.blk, idx8 hi, hge, entV, J61_0, J61_1, J61_2]
            rw [if_neg (by omega)]
            exact ⟨_, rfl, g2 _⟩
          · simp (disch := first | omega | assumption | (simp only [Yg, Yh, Yi, Yj] <;> omega) | (simp only [Qk, Ql, Qm, Qn, Qo, Qp, Bool.and_self]) | rfl) only [↓Z0, Z1, ↓Z2, ↓Z3, ↓Z4, ↓Z5, ↓Z6, Z7, ↓Z8, ↓Z9, ↓Za, ↓Zb, Zc, ↓Zd, Ze, Zf, decide_true, decide_false, Zg, Zh, Zi, Zj, Zk, Zl, Zm, Zn, Zo, Zp, Zq, Zr, Zs, Zt, Zu, Zv, Zw, Zx, Zy, Zz, Y0, Y1, Y2, Y3, Y4, Y5, Y6, Y7, Y8, Y9, Ya, Yb, Yc, Yd, Ye, Yf, Yg, Yh, Yi, Yj, Yk, Yl, Ym, Yn, Yo, Yp, Yq, Yr, Ys, Yt, Yu, Yv, Nat.zero_add, Nat.add_zero, ne_eq, not_false_eq_true, reduceCtorEq, Nat.reduceAdd, Nat.reduceEqDiff, Nat.succ_ne_self, Yw, Yx, Yy, Yz, Q0, Q1, ↓Q2, Q3, Q4, Q5, Q6, Q7, Q8, Q9, Qa, Qb, Qc, Qd, Qe, Qf, Qg, Qh, Qi, Qj, e1, findV, s1.sto.blk, idx8 hi, hge, entV, J61_0, J61_1, J61_2]
            rw [if_pos (by omega)]
            exact ⟨_, rfl, g2 _⟩
def readP (cap : Nat) (es : List Ent) (t : List UInt8) (nm : List UInt8) (a n : Int) : Value :=
  if (placeP es nm a n).2 = 0 then rdI cap t (placeP es nm a n).1 n else .tuple #[str [], .int .i64 (placeP es nm a n).2]
theorem sread_run (hd : DiskOk K d cap D) {k : Nat} (hk : K + 110 ≤ k) (h : Sys d cap D s es t F H) (hw : WfE cap es) (nm : List UInt8) (a n : Int) :
    ∃ F' H', run Tryz.prog k 25 #[.pointer (some ⟨s, 0, none⟩), str nm, .int .i64 a, .int .i64 n] H = some (readP cap es t nm a n, H') ∧ Sys d cap D s es t F' H' ∧ Foot (orS s F) (orS s F') H H' := by
  obtain ⟨k, rfl⟩ : ∃ k', k = k' + 1 := ⟨k - 1, by omega⟩
  obtain ⟨H1, e1, g1⟩ := place_run (k := k) hd (by omega) h hw nm a n (.inr trivial)
  have s1 := h.grow hd g1
  rw [run25, F25]
  by_cases c : (placeP es nm a n).2 = 0
  · obtain ⟨fa, F', H2, e2, e3, d2, f2⟩ := hd.read (k := k) (placeP es nm a n).1 n (by omega) s1.dsk s1.fl
    have hrd : ∃ x e, rdI cap t (placeP es nm a n).1 n = .tuple #[x, e] := by unfold rdI; split <;> exact ⟨_, _, rfl⟩
    obtain ⟨x, e, hrd⟩ := hrd
    rw [hrd] at e3
    simp (disch := first | omega | assumption | (simp only [Yg, Yh, Yi, Yj] <;> omega) | (simp only [Qk, Ql, Qm, Qn, Qo, Qp, Bool.and_self]) | rfl) only [↓Z0, Z1, ↓Z2, ↓Z3, ↓Z4, ↓Z5, ↓Z6, Z7, ↓Z8, ↓Z9, ↓Za, ↓Zb, Zc, ↓Zd, Ze, Zf, decide_true, decide_false, Zg, Zh, Zi, Zj, Zk, Zl, Zm, Zn, Zo, Zp, Zq, Zr, Zs, Zt, Zu, Zv, Zw, Zx, Zy, Zz, Y0, Y1, Y2, Y3, Y4, Y5, Y6, Y7, Y8, Y9, Ya, Yb, Yc, Yd, Ye, Yf, Yg, Yh, Yi, Yj, Yk, Yl, Ym, Yn, Yo, Yp, Yq, Yr, Ys, Yt, Yu, Yv, Nat.zero_add, Nat.add_zero, ne_eq, not_false_eq_true, reduceCtorEq, Nat.reduceAdd, Nat.reduceEqDiff, Nat.succ_ne_self, Yw, Yx, Yy, Yz, Q0, Q1, ↓Q2, Q3, Q4, Q5, Q6, Q7, Q8, Q9, Qa, Qb, Qc, Qd, Qe, Qf, Qg, Qh, Qi, Qj, e1, c, s1.sto.blk, get_d, nil_iface hd, e2, e3]
    exact ⟨F', H2, by rw [readP, if_pos c, hrd], s1.disk d2 f2, (Foot.of_grow g1).trans (Sys.foot s f2)⟩
  · simp (disch := first | omega | assumption | (simp only [Yg, Yh, Yi, Yj] <;> omega) | (simp only [Qk, Ql, Qm, Qn, Qo, Qp, Bool.and_self]) | rfl) only [↓Z0, Z1, ↓Z2, ↓Z3, ↓Z4, ↓Z5, ↓Z6, Z7, ↓Z8, ↓Z9, ↓Za, ↓Zb, Zc, ↓Zd, Ze, Zf, decide_true, decide_false, Zg, Zh, Zi, Zj, Zk, Zl, Zm, Zn, Zo, Zp, Zq, Zr, Zs, Zt, Zu, Zv, Zw, Zx, Zy, Zz, Y0, Y1, Y2, Y3, Y4, Y5, Y6, Y7, Y8, Y9, Ya, Yb, Yc, Yd, Ye, Yf, Yg, Yh, Yi, Yj, Yk, Yl, Ym, Yn, Yo, Yp, Yq, Yr, Ys, Yt, Yu, Yv, Nat.zero_add, Nat.add_zero, ne_eq, not_false_eq_true, reduceCtorEq, Nat.reduceAdd, Nat.reduceEqDiff, Nat.succ_ne_self, Yw, Yx, Yy, Yz, Q0, Q1, ↓Q2, Q3, Q4, Q5, Q6, Q7, Q8, Q9, Qa, Qb, Qc, Qd, Qe, Qf, Qg, Qh, Qi, Qj, e1, c]
    exact ⟨F, H1, by rw [readP, if_neg c], s1, Foot.of_grow g1⟩
def writeP (cap : Nat) (es : List Ent) (t : List UInt8) (nm : List UInt8) (a n : Int) (b : List UInt8) : Value × List UInt8 :=
  if (placeP es nm a n).2 = 0 then (okI cap (placeP es nm a n).1 n, wrI cap t (placeP es nm a n).1 n b) else (.int .i64 (placeP es nm a n).2, t)
theorem swrite_run (hd : DiskOk K d cap D) {k : Nat} (hk : K + 110 ≤ k) (h : Sys d cap D s es t F H) (hw : WfE cap es) (nm : List UInt8) (a n : Int) (b : List UInt8) :
    ∃ F' H', run Tryz.prog k 26 #[.pointer (some ⟨s, 0, none⟩), str nm, .int .i64 a, .int .i64 n, str b] H = some ((writeP cap es t nm a n b).1, H') ∧ Sys d cap D s es (writeP cap es t nm a n b).2 F' H' ∧ Foot (orS s F) (orS s F') H H' := by
  obtain ⟨k, rfl⟩ : ∃ k', k = k' + 1 := ⟨k - 1, by omega⟩
  obtain ⟨H1, e1, g1⟩ := place_run (k := k) hd (by omega) h hw nm a n (.inr trivial)
  have s1 := h.grow hd g1
  rw [run26, F26]
  by_cases c : (placeP es nm a n).2 = 0
  · obtain ⟨fa, F', H2, e2, e3, d2, f2⟩ := hd.write (k := k) (placeP es nm a n).1 n b (by omega) s1.dsk s1.fl
    simp (disch := first | omega | assumption | (simp only [Yg, Yh, Yi, Yj] <;> omega) | (simp only [Qk, Ql, Qm, Qn, Qo, Qp, Bool.and_self]) | rfl) only [↓Z0, Z1, ↓Z2, ↓Z3, ↓Z4, ↓Z5, ↓Z6, Z7, ↓Z8, ↓Z9, ↓Za, ↓Zb, Zc, ↓Zd, Ze, Zf, decide_true, decide_false, Zg, Zh, Zi, Zj, Zk, Zl, Zm, Zn, Zo, Zp, Zq, Zr, Zs, Zt, Zu, Zv, Zw, Zx, Zy, Zz, Y0, Y1, Y2, Y3, Y4, Y5, Y6, Y7, Y8, Y9, Ya, Yb, Yc, Yd, Ye, Yf, Yg, Yh, Yi, Yj, Yk, Yl, Ym, Yn, Yo, Yp, Yq, Yr, Ys, Yt, Yu, Yv, Nat.zero_add, Nat.add_zero, ne_eq, not_false_eq_true, reduceCtorEq, Nat.reduceAdd, Nat.reduceEqDiff, Nat.succ_ne_self, Yw, Yx, Yy, Yz, Q0, Q1, ↓Q2, Q3, Q4, Q5, Q6, Q7, Q8, Q9, Qa, Qb, Qc, Qd, Qe, Qf, Qg, Qh, Qi, Qj, e1, c, s1.sto.blk, get_d, nil_iface hd, e2, e3]
    exact ⟨F', H2, by rw [writeP, if_pos c], by rw [writeP, if_pos c]; exact s1.disk d2 f2, (Foot.of_grow g1).trans (Sys.foot s f2)⟩
  · simp (disch := first | omega | assumption | (simp only [Yg, Yh, Yi, Yj] <;> omega) | (simp only [Qk, Ql, Qm, Qn, Qo, Qp, Bool.and_self]) | rfl) only [↓Z0, Z1, ↓Z2, ↓Z3, ↓Z4, ↓Z5, ↓Z6, Z7, ↓Z8, ↓Z9, ↓Za, ↓Zb, Zc, ↓Zd, Ze, Zf, decide_true, decide_false, Zg, Zh, Zi, Zj, Zk, Zl, Zm, Zn, Zo, Zp, Zq, Zr, Zs, Zt, Zu, Zv, Zw, Zx, Zy, Zz, Y0, Y1, Y2, Y3, Y4, Y5, Y6, Y7, Y8, Y9, Ya, Yb, Yc, Yd, Ye, Yf, Yg, Yh, Yi, Yj, Yk, Yl, Ym, Yn, Yo, Yp, Yq, Yr, Ys, Yt, Yu, Yv, Nat.zero_add, Nat.add_zero, ne_eq, not_false_eq_true, reduceCtorEq, Nat.reduceAdd, Nat.reduceEqDiff, Nat.succ_ne_self, Yw, Yx, Yy, Yz, Q0, Q1, ↓Q2, Q3, Q4, Q5, Q6, Q7, Q8, Q9, Qa, Qb, Qc, Qd, Qe, Qf, Qg, Qh, Qi, Qj, e1, c]
    exact ⟨F, H1, by rw [writeP, if_neg c], by rw [writeP, if_neg c]; exact s1, Foot.of_grow g1⟩
def otherP (es : List Ent) (nm to : List UInt8) : Int × Int :=
  match findE es nm with
  | none => (0, 4)
  | some i => if good to then (if (findE es to).isSome then (0, 8) else (i, 0)) else (0, 1)
theorem other_run (hd : DiskOk K d cap D) {k : Nat} (hk : 100 ≤ k) (h : Sys d cap D s es t F H) (nm to : List UInt8) (hto : to.length + 20 ≤ k) (hto2 : to.length < 9223372036854775808) :
    ∃ H', run Tryz.prog k 65 #[.pointer (some ⟨s, 0, none⟩), str nm, str to] H = some (.tuple #[.int .i64 (otherP es nm to).1, .int .i64 (otherP es nm to).2], H') ∧ Grow H H' := by
  obtain ⟨k, rfl⟩ : ∃ k', k = k' + 1 := ⟨k - 1, by omega⟩
  obtain ⟨H1, e1, g1⟩ := find_run (k := k) h.sto nm (by omega)
  have s1 := h.grow hd g1
  obtain ⟨H2, e2, g2⟩ := good_run (k := k) to hto2 (by omega) H1 s1.fl
  have s2 := s1.grow hd g2
  obtain ⟨H3, e3, g3⟩ := find_run (k := k) s2.sto to (by omega)
  rw [run65, F65]
  simp only [otherP]
  cases hf : findE es nm with
  | none =>
    rw [hf] at e1
    simp (disch := first | omega | assumption | (simp only [Yg, Yh, Yi, Yj] <;> omega) | (simp only [Qk, Ql, Qm, Qn, Qo, Qp, Bool.and_self]) | rfl) only [↓Z0, Z1, ↓Z2, ↓Z3, ↓Z4, ↓Z5, ↓Z6, Z7, ↓Z8, ↓Z9, ↓Za, ↓Zb, Zc, ↓Zd, Ze, Zf, decide_true, decide_false, Zg, Zh, Zi, Zj, Zk, Zl, Zm, Zn, Zo, Zp, Zq, Zr, Zs, Zt, Zu, Zv, Zw, Zx, Zy, Zz, Y0, Y1, Y2, Y3, Y4, Y5, Y6, Y7, Y8, Y9, Ya, Yb, Yc, Yd, Ye, Yf, Yg, Yh, Yi, Yj, Yk, Yl, Ym, Yn, Yo, Yp, Yq, Yr, Ys, Yt, Yu, Yv, Nat.zero_add, Nat.add_zero, ne_eq, not_false_eq_true, reduceCtorEq, Nat.reduceAdd, Nat.reduceEqDiff, Nat.succ_ne_self, Yw, Yx, Yy, Yz, Q0, Q1, ↓Q2, Q3, Q4, Q5, Q6, Q7, Q8, Q9, Qa, Qb, Qc, Qd, Qe, Qf, Qg, Qh, Qi, Qj, e1, findV]
    exact ⟨H1, rfl, g1⟩
  | some i =>
    rw [hf] at e1
    by_cases hg : good to = true
    · rw [hg] at e2
      cases hf2 : findE es to with
      | none =>
        rw [hf2] at e3
        simp (disch := first | omega | assumption | (simp only [Yg, Yh, Yi, Yj] <;> omega) | (simp only [Qk, Ql, Qm, Qn, Qo, Qp, Bool.and_self]) | rfl) only [↓Z0, Z1, ↓Z2, ↓Z3, ↓Z4, ↓Z5, ↓Z6, Z7, ↓Z8, ↓Z9, ↓Za, ↓Zb, Zc, ↓Zd, Ze, Zf, decide_true, decide_false, Zg, Zh, Zi, Zj, Zk, Zl, Zm, Zn, Zo, Zp, Zq, Zr, Zs, Zt, Zu, Zv, Zw, Zx, Zy, Zz, Y0, Y1, Y2, Y3, Y4, Y5, Y6, Y7, Y8, Y9, Ya, Yb, Yc, Yd, Ye, Yf, Yg, Yh, Yi, Yj, Yk, Yl, Ym, Yn, Yo, Yp, Yq, Yr, Ys, Yt, Yu, Yv, Nat.zero_add, Nat.add_zero, ne_eq, not_false_eq_true, reduceCtorEq, Nat.reduceAdd, Nat.reduceEqDiff, Nat.succ_ne_self, Yw, Yx, Yy, Yz, Q0, Q1, ↓Q2, Q3, Q4, Q5, Q6, Q7, Q8, Q9, Qa, Qb, Qc, Qd, Qe, Qf, Qg, Qh, Qi, Qj, e1, findV, e2, e3, hg, Option.isSome_none, Bool.false_eq_true, if_true, if_false]
        exact ⟨H3, rfl, (g1.trans g2).trans g3⟩
      | some j =>
        rw [hf2] at e3
        simp (disch := first | omega | assumption | (simp only [Yg, Yh, Yi, Yj] <;> omega) | (simp only [Qk, Ql, Qm, Qn, Qo, Qp, Bool.and_self]) | rfl) only [↓Z0, Z1, ↓Z2, ↓Z3, ↓Z4, ↓Z5, ↓Z6, Z7, ↓Z8, ↓Z9, ↓Za, ↓Zb, Zc, ↓Zd, Ze, Zf, decide_true, decide_false, Zg, Zh, Zi, Zj, Zk, Zl, Zm, Zn, Zo, Zp, Zq, Zr, Zs, Zt, Zu, Zv, Zw, Zx, Zy, Zz, Y0, Y1, Y2, Y3, Y4, Y5, Y6, Y7, Y8, Y9, Ya, Yb, Yc, Yd, Ye, Yf, Yg, Yh, Yi, Yj, Yk, Yl, Ym, Yn, Yo, Yp, Yq, Yr, Ys, Yt, Yu, Yv, Nat.zero_add, Nat.add_zero, ne_eq, not_false_eq_true, reduceCtorEq, Nat.reduceAdd, Nat.reduceEqDiff, Nat.succ_ne_self, Yw, Yx, Yy, Yz, Q0, Q1, ↓Q2, Q3, Q4, Q5, Q6, Q7, Q8, Q9, Qa, Qb, Qc, Qd, Qe, Qf, Qg, Qh, Qi, Qj, e1, findV, e2, e3, hg, Option.isSome_some, if_true]
        exact ⟨H3, rfl, (g1.trans g2).trans g3⟩
    · have hg' : good to = false := by simpa using hg
      rw [hg'] at e2
      simp (disch := first | omega | assumption | (simp only [Yg, Yh, Yi, Yj] <;> omega) | (simp only [Qk, Ql, Qm, Qn, Qo, Qp, Bool.and_self]) | rfl) only [↓Z0, Z1, ↓Z2, ↓Z3, ↓Z4, ↓Z5, ↓Z6, Z7, ↓Z8, ↓Z9, ↓Za, ↓Zb, Zc, ↓Zd, Ze, Zf, decide_true, decide_false, Zg, Zh, Zi, Zj, Zk, Zl, Zm, Zn, Zo, Zp, Zq, Zr, Zs, Zt, Zu, Zv, Zw, Zx, Zy, Zz, Y0, Y1, Y2, Y3, Y4, Y5, Y6, Y7, Y8, Y9, Ya, Yb, Yc, Yd, Ye, Yf, Yg, Yh, Yi, Yj, Yk, Yl, Ym, Yn, Yo, Yp, Yq, Yr, Ys, Yt, Yu, Yv, Nat.zero_add, Nat.add_zero, ne_eq, not_false_eq_true, reduceCtorEq, Nat.reduceAdd, Nat.reduceEqDiff, Nat.succ_ne_self, Yw, Yx, Yy, Yz, Q0, Q1, ↓Q2, Q3, Q4, Q5, Q6, Q7, Q8, Q9, Qa, Qb, Qc, Qd, Qe, Qf, Qg, Qh, Qi, Qj, e1, findV, e2, hg', Bool.false_eq_true, if_false]
      exact ⟨H2, rfl, g1.trans g2⟩
theorem good_len {l : List UInt8} (h : good l = true) : 1 ≤ l.length ∧ l.length ≤ 16 := by
  simp only [good, Bool.and_eq_true, decide_eq_true_eq] at h
  exact h.2
/-- A call's answer, and what the store and the disk are behind it. -/
abbrev Res := Int × List Ent × List UInt8
def deleteP (es : List Ent) (t : List UInt8) (nm : List UInt8) : Res :=
  match findE es nm with
  | none => (4, es, t)
  | some i => (0, es.set i Ent.none, wrB t i 1 [])
theorem delete_run (hd : DiskOk K d cap D) (hc : 8 < cap) {k : Nat} (hk : K + 110 ≤ k) (h : Sys d cap D s es t F H) (nm : List UInt8) :
    ∃ F' H', run Tryz.prog k 29 #[.pointer (some ⟨s, 0, none⟩), str nm] H = some (.int .i64 (deleteP es t nm).1, H') ∧ Sys d cap D s (deleteP es t nm).2.1 (deleteP es t nm).2.2 F' H' ∧ Foot (orS s F) (orS s F') H H' := by
  obtain ⟨k, rfl⟩ : ∃ k', k = k' + 1 := ⟨k - 1, by omega⟩
  obtain ⟨H1, e1, g1⟩ := find_run (k := k) h.sto nm (by omega)
  have s1 := h.grow hd g1
  rw [run29, F29]
  simp only [deleteP]
  cases hf : findE es nm with
  | none =>
    rw [hf] at e1
    simp (disch := first | omega | assumption | (simp only [Yg, Yh, Yi, Yj] <;> omega) | (simp only [Qk, Ql, Qm, Qn, Qo, Qp, Bool.and_self]) | rfl) only [↓Z0, Z1, ↓Z2, ↓Z3, ↓Z4, ↓Z5, ↓Z6, Z7, ↓Z8, ↓Z9, ↓Za, ↓Zb, Zc, ↓Zd, Ze, Zf, decide_true, decide_false, Zg, Zh, Zi, Zj, Zk, Zl, Zm, Zn, Zo, Zp, Zq, Zr, Zs, Zt, Zu, Zv, Zw, Zx, Zy, Zz, Y0, Y1, Y2, Y3, Y4, Y5, Y6, Y7, Y8, Y9, Ya, Yb, Yc, Yd, Ye, Yf, Yg, Yh, Yi, Yj, Yk, Yl, Ym, Yn, Yo, Yp, Yq, Yr, Ys, Yt, Yu, Yv, Nat.zero_add, Nat.add_zero, ne_eq, not_false_eq_true, reduceCtorEq, Nat.reduceAdd, Nat.reduceEqDiff, Nat.succ_ne_self, Yw, Yx, Yy, Yz, Q0, Q1, ↓Q2, Q3, Q4, Q5, Q6, Q7, Q8, Q9, Qa, Qb, Qc, Qd, Qe, Qf, Qg, Qh, Qi, Qj, e1, findV]
    exact ⟨F, H1, rfl, s1, Foot.of_grow g1⟩
  | some i =>
    rw [hf] at e1
    obtain ⟨hi, hil, hlen, _⟩ := findE_lt h.sto.e8 hf
    obtain ⟨fa, F', C, e2, e3, dC, fC⟩ := hd.trim (k := k) (i : Int) 1 (by omega) s1.dsk s1.fl
    rw [okI, if_pos (right_one hi hc)] at e3
    rw [wrI, if_pos (right_one hi hc), Int.toNat_natCast] at dC
    have sC := s1.disk dC fC
    simp (disch := first | omega | assumption | (simp only [Yg, Yh, Yi, Yj] <;> omega) | (simp only [Qk, Ql, Qm, Qn, Qo, Qp, Bool.and_self]) | rfl) only [↓Z0, Z1, ↓Z2, ↓Z3, ↓Z4, ↓Z5, ↓Z6, Z7, ↓Z8, ↓Z9, ↓Za, ↓Zb, Zc, ↓Zd, Ze, Zf, decide_true, decide_false, Zg, Zh, Zi, Zj, Zk, Zl, Zm, Zn, Zo, Zp, Zq, Zr, Zs, Zt, Zu, Zv, Zw, Zx, Zy, Zz, Y0, Y1, Y2, Y3, Y4, Y5, Y6, Y7, Y8, Y9, Ya, Yb, Yc, Yd, Ye, Yf, Yg, Yh, Yi, Yj, Yk, Yl, Ym, Yn, Yo, Yp, Yq, Yr, Ys, Yt, Yu, Yv, Nat.zero_add, Nat.add_zero, ne_eq, not_false_eq_true, reduceCtorEq, Nat.reduceAdd, Nat.reduceEqDiff, Nat.succ_ne_self, Yw, Yx, Yy, Yz, Q0, Q1, ↓Q2, Q3, Q4, Q5, Q6, Q7, Q8, Q9, Qa, Qb, Qc, Qd, Qe, Qf, Qg, Qh, Qi, Qj, e1, findV, s1.sto.blk, get_d, nil_iface hd, e2, e3, build49_0, sC.sto.blk, idx8 hi, put_ent hi sC.sto.e8 sC.sto.fl]
    refine ⟨F', _, rfl, sC.setE hd i Ent.none, ?_⟩
    have f2 : Foot (orS s F) (orS s F') H C := (Foot.of_grow g1).trans (Sys.foot s fC)
    exact f2.trans ⟨(Chg.refl C).set (.inl (.inr rfl)) _, fun _ hn => .inl hn⟩
def renameP (es : List Ent) (t : List UInt8) (nm to : List UInt8) : Res :=
  if (otherP es nm to).2 = 0 then
    (0, es.set (otherP es nm to).1.toNat { es.getD (otherP es nm to).1.toNat Ent.none with name := to }, setP (otherP es nm to).1.toNat { es.getD (otherP es nm to).1.toNat Ent.none with name := to } t)
  else ((otherP es nm to).2, es, t)
theorem otherP_ok (h8 : es.length = 8) {nm to : List UInt8} (h : (otherP es nm to).2 = 0) : ∃ i : Nat, otherP es nm to = ((i : Int), 0) ∧ findE es nm = some i ∧ good to = true ∧ findE es to = none := by
  simp only [otherP] at h ⊢
  cases hf : findE es nm with
  | none => rw [hf] at h; simp at h
  | some i =>
    rw [hf] at h
    by_cases hg : good to = true
    · by_cases h2 : (findE es to).isSome = true
      · simp [hg, h2] at h
      · have h2' : findE es to = none := by simpa using h2
        exact ⟨i, by simp [hg, h2'], rfl, hg, h2'⟩
    · simp [hg] at h
theorem rename_run (hd : DiskOk K d cap D) (hc : 8 < cap) {k : Nat} (hk : K + 120 ≤ k) (h : Sys d cap D s es t F H) (hw : WfE cap es) (nm to : List UInt8) (hto : to.length + 30 ≤ k) (hto2 : to.length < 9223372036854775808) :
    ∃ F' H', run Tryz.prog k 28 #[.pointer (some ⟨s, 0, none⟩), str nm, str to] H = some (.int .i64 (renameP es t nm to).1, H') ∧ Sys d cap D s (renameP es t nm to).2.1 (renameP es t nm to).2.2 F' H' ∧ Foot (orS s F) (orS s F') H H' := by
  obtain ⟨k, rfl⟩ : ∃ k', k = k' + 1 := ⟨k - 1, by omega⟩
  obtain ⟨H1, e1, g1⟩ := other_run (k := k) hd (by omega) h nm to (by omega) hto2
  have s1 := h.grow hd g1
  have hbig := hd.big
  have hfl1 := s1.fl
  rw [run28, F28]
  by_cases c : (otherP es nm to).2 = 0
  · obtain ⟨i, ho, hf, hg, _⟩ := otherP_ok h.sto.e8 c
    obtain ⟨hi, hil, hlen, _⟩ := findE_lt h.sto.e8 hf
    have hw1 := hw.ok es[i] (List.getElem_mem hil)
    have hge := get_e (d := d) (cap := cap) hi h.sto.e8 93
    have hgd : es.getD i Ent.none = es[i] := by rw [List.getD_eq_getElem?_getD, List.getElem?_eq_getElem hil]; rfl
    have hgl := good_len hg
    simp only [renameP, ho, if_true, Int.toNat_natCast, hgd]
    rw [ho] at e1
    obtain ⟨F', H2, e2, s2, f2⟩ := note_run hd hc (k := k) (by omega) (s1.grow hd ((Grow.refl H1).new (.cells #[str to, .int .i64 (es[i].first : Int), .int .i64 (es[i].len : Int)] 49))) hi { es[i] with name := to } hw1.1 hgl.2
    have p1 : ∀ A : Heap, A.floor ≤ H1.next → putN A H1.next 0 (str to) 1 (.cells #[str es[i].name, .int .i64 (es[i].first : Int), .int .i64 (es[i].len : Int)] 49) = some (A.set H1.next (.cells #[str to, .int .i64 (es[i].first : Int), .int .i64 (es[i].len : Int)] 49)) := fun A hA => by
      have hc : (str to).cells = #[str to] := rfl
      simp [putN, row_cells, hc, hA, setL, Blk.put, Qk]
    simp only [entV] at e2
    simp (disch := first | omega | assumption | (simp only [Yg, Yh, Yi, Yj] <;> omega) | (simp only [Qk, Ql, Qm, Qn, Qo, Qp, Bool.and_self]) | rfl) only [↓Z0, Z1, ↓Z2, ↓Z3, ↓Z4, ↓Z5, ↓Z6, Z7, ↓Z8, ↓Z9, ↓Za, ↓Zb, Zc, ↓Zd, Ze, Zf, decide_true, decide_false, Zg, Zh, Zi, Zj, Zk, Zl, Zm, Zn, Zo, Zp, Zq, Zr, Zs, Zt, Zu, Zv, Zw, Zx, Zy, Zz, Y0, Y1, Y2, Y3, Y4, Y5, Y6, Y7, Y8, Y9, Ya, Yb, Yc, Yd, Ye, Yf, Yg, Yh, Yi, Yj, Yk, Yl, Ym, Yn, Yo, Yp, Yq, Yr, Ys, Yt, Yu, Yv, Nat.zero_add, Nat.add_zero, ne_eq, not_false_eq_true, reduceCtorEq, Nat.reduceAdd, Nat.reduceEqDiff, Nat.succ_ne_self, Yw, Yx, Yy, Yz, Q0, Q1, ↓Q2, Q3, Q4, Q5, Q6, Q7, Q8, Q9, Qa, Qb, Qc, Qd, Qe, Qf, Qg, Qh, Qi, Qj, e1, s1.sto.blk, idx8 hi, hge, entV, p1, e2]
    exact ⟨F', H2, rfl, s2, (Foot.of_grow (g1.new _)).trans f2⟩
  · simp only [renameP, c, if_false]
    simp (disch := first | omega | assumption | (simp only [Yg, Yh, Yi, Yj] <;> omega) | (simp only [Qk, Ql, Qm, Qn, Qo, Qp, Bool.and_self]) | rfl) only [↓Z0, Z1, ↓Z2, ↓Z3, ↓Z4, ↓Z5, ↓Z6, Z7, ↓Z8, ↓Z9, ↓Za, ↓Zb, Zc, ↓Zd, Ze, Zf, decide_true, decide_false, Zg, Zh, Zi, Zj, Zk, Zl, Zm, Zn, Zo, Zp, Zq, Zr, Zs, Zt, Zu, Zv, Zw, Zx, Zy, Zz, Y0, Y1, Y2, Y3, Y4, Y5, Y6, Y7, Y8, Y9, Ya, Yb, Yc, Yd, Ye, Yf, Yg, Yh, Yi, Yj, Yk, Yl, Ym, Yn, Yo, Yp, Yq, Yr, Ys, Yt, Yu, Yv, Nat.zero_add, Nat.add_zero, ne_eq, not_false_eq_true, reduceCtorEq, Nat.reduceAdd, Nat.reduceEqDiff, Nat.succ_ne_self, Yw, Yx, Yy, Yz, Q0, Q1, ↓Q2, Q3, Q4, Q5, Q6, Q7, Q8, Q9, Qa, Qb, Qc, Qd, Qe, Qf, Qg, Qh, Qi, Qj, e1, c]
    exact ⟨F, H1, rfl, s1, Foot.of_grow g1⟩
end
end Go.PG

namespace Go.PG
open Go.Proofs

def hitR (n a : Nat) (e : Ent) : Prop := 0 < e.len ∧ a < e.first + e.len ∧ e.first < a + n
instance (n a : Nat) (e : Ent) : Decidable (hitR n a e) := inferInstanceAs (Decidable (_ ∧ _))
def passR (n : Nat) : List Ent → Nat × Bool → Nat × Bool
  | [], p => p
  | e :: es, p => passR n es (if hitR n p.1 e then (e.first + e.len, true) else p)
def roomW (n : Nat) (es : List Ent) : Nat → Nat → Nat
  | 0, a => a
  | m + 1, a => if (passR n es (a, false)).2 then roomW n es m (passR n es (a, false)).1 else a
def freeFrom : Nat → List Ent → Int
  | _, [] => -1
  | i, e :: es => if e.len = 0 then (i : Int) else freeFrom (i + 1) es
def freeI (es : List Ent) : Int := freeFrom 0 es
section
variable {K : Nat} {d : Value} {cap : Nat} {D : DiskP} {s : Nat} {es : List Ent} {t : List UInt8} {F : Nat → Prop} {H : Heap}
theorem pass_loop (k : Nat) (h8 : es.length = 8) (hw : ∀ e ∈ es, e.first + e.len ≤ 1000) (nN : Nat) (hN : nN ≤ 1000) (x0 x4 : Value) (nx : Value → Value → Value → Value → Value → Heap → Option (Value × Heap)) : ∀ (m n i : Nat) (z : Int) (a : Nat) (mv : Bool) (H : Heap), z = i → i + m = 8 → m < n → H.floor ≤ H.next → a ≤ 1000 →
    ∃ H', L63_3 k nx n x0 (.int .i64 (nN : Int)) x4 (.int .i64 (a : Int)) (.bool mv) (.agg (es.flatMap entC).toArray) (.int .i64 z) H = nx x0 (.int .i64 (nN : Int)) x4 (.int .i64 ((passR nN (es.drop i) (a, mv)).1 : Int)) (.bool (passR nN (es.drop i) (a, mv)).2) H' ∧ Grow H H'
  | 0, n, i, z, a, mv, H, hz, hi, hn, hf, ha => by
    subst hz
    obtain ⟨n, rfl⟩ : ∃ n', n = n' + 1 := ⟨n - 1, by omega⟩
    rw [L63_3]
    simp (disch := first | omega | assumption | (simp only [Yg, Yh, Yi, Yj] <;> omega) | (simp only [Qk, Ql, Qm, Qn, Qo, Qp, Bool.and_self]) | rfl) only [↓Z0, Z1, ↓Z2, ↓Z3, ↓Z4, ↓Z5, ↓Z6, Z7, ↓Z8, ↓Z9, ↓Za, ↓Zb, Zc, ↓Zd, Ze, Zf, decide_true, decide_false, Zg, Zh, Zi, Zj, Zk, Zl, Zm, Zn, Zo, Zp, Zq, Zr, Zs, Zt, Zu, Zv, Zw, Zx, Zy, Zz, Y0, Y1, Y2, Y3, Y4, Y5, Y6, Y7, Y8, Y9, Ya, Yb, Yc, Yd, Ye, Yf, Yg, Yh, Yi, Yj, Yk, Yl, Ym, Yn, Yo, Yp, Yq, Yr, Ys, Yt, Yu, Yv, Nat.zero_add, Nat.add_zero, ne_eq, not_false_eq_true, reduceCtorEq, Nat.reduceAdd, Nat.reduceEqDiff, Nat.succ_ne_self, Yw, Yx, Yy, Yz, Q0, Q1, ↓Q2, Q3, Q4, Q5, Q6, Q7, Q8, Q9, Qa, Qb, Qc, Qd, Qe, Qf, Qg, Qh, Qi, Qj]
    rw [List.drop_eq_nil_of_le (by omega)]
    exact ⟨H, rfl, Grow.refl H⟩
  | m + 1, n, i, z, a, mv, H, hz, hi, hn, hf, ha => by
    subst hz
    obtain ⟨n, rfl⟩ : ∃ n', n = n' + 1 := ⟨n - 1, by omega⟩
    have hil : i < es.length := by omega
    have hb := hw es[i] (List.getElem_mem hil)
    have g1 : Grow H (H.new (.cells #[str es[i].name, .int .i64 (es[i].first : Int), .int .i64 (es[i].len : Int)] 49)) := (Grow.refl _).new _
    rw [List.drop_eq_getElem_cons hil, passR, L63_3]
    by_cases h1 : 0 < es[i].len
    · by_cases h2 : a < es[i].first + es[i].len
      · by_cases h3 : es[i].first < a + nN
        · simp (disch := first | omega | assumption | (simp only [Yg, Yh, Yi, Yj] <;> omega) | (simp only [Qk, Ql, Qm, Qn, Qo, Qp, Bool.and_self]) | rfl) only [↓Z0, Z1, ↓Z2, ↓Z3, ↓Z4, ↓Z5, ↓Z6, Z7, ↓Z8, ↓Z9, ↓Za, ↓Zb, Zc, ↓Zd, Ze, Zf, decide_true, decide_false, Zg, Zh, Zi, Zj, Zk, Zl, Zm, Zn, Zo, Zp, Zq, Zr, Zs, Zt, Zu, Zv, Zw, Zx, Zy, Zz, Y0, Y1, Y2, Y3, Y4, Y5, Y6, Y7, Y8, Y9, Ya, Yb, Yc, Yd, Ye, Yf, Yg, Yh, Yi, Yj, Yk, Yl, Ym, Yn, Yo, Yp, Yq, Yr, Ys, Yt, Yu, Yv, Nat.zero_add, Nat.add_zero, ne_eq, not_false_eq_true, reduceCtorEq, Nat.reduceAdd, Nat.reduceEqDiff, Nat.succ_ne_self, Yw, Yx, Yy, Yz, Q0, Q1, ↓Q2, Q3, Q4, Q5, Q6, Q7, Q8, Q9, Qa, Qb, Qc, Qd, Qe, Qf, Qg, Qh, Qi, Qj, idx_ent h8, J63_0, J63_1, J63_2]
          rw [if_pos ⟨h1, h2, h3⟩]
          obtain ⟨H', e, g⟩ := pass_loop k h8 hw nN hN x0 x4 nx m n (i + 1) _ (es[i].first + es[i].len) true _ rfl (by omega) (by omega) (show (H.new (.cells #[str es[i].name, .int .i64 (es[i].first : Int), .int .i64 (es[i].len : Int)] 49)).floor ≤ (H.new (.cells #[str es[i].name, .int .i64 (es[i].first : Int), .int .i64 (es[i].len : Int)] 49)).next by simp only [Yh, Yg]; omega) hb
          exact ⟨H', e, g1.trans g⟩
        · simp (disch := first | omega | assumption | (simp only [Yg, Yh, Yi, Yj] <;> omega) | (simp only [Qk, Ql, Qm, Qn, Qo, Qp, Bool.and_self]) | rfl) only [↓Z0, Z1, ↓Z2, ↓Z3, ↓Z4, ↓Z5, ↓Z6, Z7, ↓Z8, ↓Z9, ↓Za, ↓Zb, Zc, ↓Zd, Ze, Zf, decide_true, decide_false, Zg, Zh, Zi, Zj, Zk, Zl, Zm, Zn, Zo, Zp, Zq, Zr, Zs, Zt, Zu, Zv, Zw, Zx, Zy, Zz, Y0, Y1, Y2, Y3, Y4, Y5, Y6, Y7, Y8, Y9, Ya, Yb, Yc, Yd, Ye, Yf, Yg, Yh, Yi, Yj, Yk, Yl, Ym, Yn, Yo, Yp, Yq, Yr, Ys, Yt, Yu, Yv, Nat.zero_add, Nat.add_zero, ne_eq, not_false_eq_true, reduceCtorEq, Nat.reduceAdd, Nat.reduceEqDiff, Nat.succ_ne_self, Yw, Yx, Yy, Yz, Q0, Q1, ↓Q2, Q3, Q4, Q5, Q6, Q7, Q8, Q9, Qa, Qb, Qc, Qd, Qe, Qf, Qg, Qh, Qi, Qj, idx_ent h8, J63_0, J63_1, J63_2]
          rw [if_neg (fun h => h3 h.2.2)]
          obtain ⟨H', e, g⟩ := pass_loop k h8 hw nN hN x0 x4 nx m n (i + 1) _ a mv _ rfl (by omega) (by omega) (show (H.new (.cells #[str es[i].name, .int .i64 (es[i].first : Int), .int .i64 (es[i].len : Int)] 49)).floor ≤ (H.new (.cells #[str es[i].name, .int .i64 (es[i].first : Int), .int .i64 (es[i].len : Int)] 49)).next by simp only [Yh, Yg]; omega) ha
          exact ⟨H', e, g1.trans g⟩
      · simp (disch := first | omega | assumption | (simp only [Yg, Yh, Yi, Yj] <;> omega) | (simp only [Qk, Ql, Qm, Qn, Qo, Qp, Bool.and_self]) | rfl) only [↓Z0, Z1, ↓Z2, ↓Z3, ↓Z4, ↓Z5, ↓Z6, Z7, ↓Z8, ↓Z9, ↓Za, ↓Zb, Zc, ↓Zd, Ze, Zf, decide_true, decide_false, Zg, Zh, Zi, Zj, Zk, Zl, Zm, Zn, Zo, Zp, Zq, Zr, Zs, Zt, Zu, Zv, Zw, Zx, Zy, Zz, Y0, Y1, Y2, Y3, Y4, Y5, Y6, Y7, Y8, Y9, Ya, Yb, Yc, Yd, Ye, Yf, Yg, Yh, Yi, Yj, Yk, Yl, Ym, Yn, Yo, Yp, Yq, Yr, Ys, Yt, Yu, Yv, Nat.zero_add, Nat.add_zero, ne_eq, not_false_eq_true, reduceCtorEq, Nat.reduceAdd, Nat.reduceEqDiff, Nat.succ_ne_self, Yw, Yx, Yy, Yz, Q0, Q1, ↓Q2, Q3, Q4, Q5, Q6, Q7, Q8, Q9, Qa, Qb, Qc, Qd, Qe, Qf, Qg, Qh, Qi, Qj, idx_ent h8, J63_0, J63_1, J63_2]
        rw [if_neg (fun h => h2 h.2.1)]
        obtain ⟨H', e, g⟩ := pass_loop k h8 hw nN hN x0 x4 nx m n (i + 1) _ a mv _ rfl (by omega) (by omega) (show (H.new (.cells #[str es[i].name, .int .i64 (es[i].first : Int), .int .i64 (es[i].len : Int)] 49)).floor ≤ (H.new (.cells #[str es[i].name, .int .i64 (es[i].first : Int), .int .i64 (es[i].len : Int)] 49)).next by simp only [Yh, Yg]; omega) ha
        exact ⟨H', e, g1.trans g⟩
    · simp (disch := first | omega | assumption | (simp only [Yg, Yh, Yi, Yj] <;> omega) | (simp only [Qk, Ql, Qm, Qn, Qo, Qp, Bool.and_self]) | rfl) only [↓Z0, Z1, ↓Z2, ↓Z3, ↓Z4, ↓Z5, ↓Z6, Z7, ↓Z8, ↓Z9, ↓Za, ↓Zb, Zc, ↓Zd, Ze, Zf, decide_true, decide_false, Zg, Zh, Zi, Zj, Zk, Zl, Zm, Zn, Zo, Zp, Zq, Zr, Zs, Zt, Zu, Zv, Zw, Zx, Zy, Zz, Y0, Y1, Y2, Y3, Y4, Y5, Y6, Y7, Y8, Y9, Ya, Yb, Yc, Yd, Ye, Yf, Yg, Yh, Yi, Yj, Yk, Yl, Ym, Yn, Yo, Yp, Yq, Yr, Ys, Yt, Yu, Yv, Nat.zero_add, Nat.add_zero, ne_eq, not_false_eq_true, reduceCtorEq, Nat.reduceAdd, Nat.reduceEqDiff, Nat.succ_ne_self, Yw, Yx, Yy, Yz, Q0, Q1, ↓Q2, Q3, Q4, Q5, Q6, Q7, Q8, Q9, Qa, Qb, Qc, Qd, Qe, Qf, Qg, Qh, Qi, Qj, idx_ent h8, J63_0, J63_1, J63_2]
      rw [if_neg (fun h => h1 h.1)]
      obtain ⟨H', e, g⟩ := pass_loop k h8 hw nN hN x0 x4 nx m n (i + 1) _ a mv _ rfl (by omega) (by omega) (show (H.new (.cells #[str es[i].name, .int .i64 (es[i].first : Int), .int .i64 (es[i].len : Int)] 49)).floor ≤ (H.new (.cells #[str es[i].name, .int .i64 (es[i].first : Int), .int .i64 (es[i].len : Int)] 49)).next by simp only [Yh, Yg]; omega) ha
      exact ⟨H', e, g1.trans g⟩
theorem passR_le (n : Nat) : ∀ (es : List Ent) (p : Nat × Bool), p.1 ≤ (passR n es p).1
  | [], p => Nat.le_refl _
  | e :: es, p => by
    rw [passR]
    refine Nat.le_trans ?_ (passR_le n es _)
    split
    · rename_i h; have := h.2.1; simp only; omega
    · exact Nat.le_refl _
theorem passR_cap (n cap : Nat) : ∀ (es : List Ent) (p : Nat × Bool), (∀ e ∈ es, e.first + e.len ≤ cap) → p.1 ≤ cap → (passR n es p).1 ≤ cap
  | [], p, _, h => h
  | e :: es, p, hw, h => by
    rw [passR]
    refine passR_cap n cap es _ (fun x hx => hw x (List.mem_cons_of_mem _ hx)) ?_
    split
    · exact hw e List.mem_cons_self
    · exact h
theorem passR_mono (n : Nat) : ∀ (es : List Ent) (p : Nat × Bool), p.2 = true → (passR n es p).2 = true
  | [], p, h => h
  | e :: es, p, h => by
    rw [passR]
    refine passR_mono n es _ ?_
    split
    · rfl
    · exact h
theorem passR_moved (n : Nat) : ∀ (es : List Ent) (a : Nat), (passR n es (a, false)).2 = true → a < (passR n es (a, false)).1
  | [], a, h => by simp [passR] at h
  | e :: es, a, h => by
    rw [passR] at h ⊢
    by_cases hh : hitR n a e
    · rw [if_pos hh] at h ⊢
      have h1 : e.first + e.len ≤ (passR n es (e.first + e.len, true)).1 := passR_le n es (e.first + e.len, true)
      have := hh.2.1
      omega
    · rw [if_neg hh] at h ⊢
      exact passR_moved n es a h
theorem passR_still (n : Nat) : ∀ (es : List Ent) (a : Nat), (passR n es (a, false)).2 = false → (passR n es (a, false)).1 = a ∧ ∀ e ∈ es, ¬ hitR n a e
  | [], a, h => ⟨rfl, fun e he => by simp at he⟩
  | e :: es, a, h => by
    rw [passR] at h ⊢
    by_cases hh : hitR n a e
    · rw [if_pos hh] at h
      rw [passR_mono n es _ rfl] at h; cases h
    · rw [if_neg hh] at h ⊢
      obtain ⟨h1, h2⟩ := passR_still n es a h
      refine ⟨h1, fun x hx => ?_⟩
      rcases List.mem_cons.1 hx with rfl | hx
      · exact hh
      · exact h2 x hx
def roomV (cap n : Nat) (es : List Ent) (i : Int) (a : Nat) : Value := .tuple #[.int .i64 i, .int .i64 (a : Int), .bool (decide (0 ≤ i ∧ a + n ≤ cap))]
theorem room_loop (k : Nat) (hk : 20 ≤ k) (hw : ∀ e ∈ es, e.first + e.len ≤ 1000) (hcap : cap ≤ 1000) (nN : Nat) (hN : nN ≤ 1000) (fi : Int) (hfi : -1 ≤ fi ∧ fi < 8) : ∀ (m n : Nat) (a : Nat) (H : Heap), 1001 - a ≤ m → m + 1 < n → a ≤ 1000 → StoAt H s d cap es →
    ∃ H', L63_4 k n (.pointer (some ⟨s, 0, none⟩)) (.int .i64 (nN : Int)) (.int .i64 fi) (.int .i64 (a : Int)) (.bool true) H = some (roomV cap nN es fi (roomW nN es m a), H') ∧ Grow H H'
  | 0, n, a, H, hm, hn, ha, hs => by omega
  | m + 1, n, a, H, hm, hn, ha, hs => by
    obtain ⟨n, rfl⟩ : ∃ n', n = n' + 2 := ⟨n - 2, by omega⟩
    have h1 := hs.lt; have h2 := hs.fl
    rw [L63_4]
    simp (disch := first | omega | assumption | (simp only [Yg, Yh, Yi, Yj] <;> omega) | (simp only [Qk, Ql, Qm, Qn, Qo, Qp, Bool.and_self]) | rfl) only [↓Z0, Z1, ↓Z2, ↓Z3, ↓Z4, ↓Z5, ↓Z6, Z7, ↓Z8, ↓Z9, ↓Za, ↓Zb, Zc, ↓Zd, Ze, Zf, decide_true, decide_false, Zg, Zh, Zi, Zj, Zk, Zl, Zm, Zn, Zo, Zp, Zq, Zr, Zs, Zt, Zu, Zv, Zw, Zx, Zy, Zz, Y0, Y1, Y2, Y3, Y4, Y5, Y6, Y7, Y8, Y9, Ya, Yb, Yc, Yd, Ye, Yf, Yg, Yh, Yi, Yj, Yk, Yl, Ym, Yn, Yo, Yp, Yq, Yr, Ys, Yt, Yu, Yv, Nat.zero_add, Nat.add_zero, ne_eq, not_false_eq_true, reduceCtorEq, Nat.reduceAdd, Nat.reduceEqDiff, Nat.succ_ne_self, Yw, Yx, Yy, Yz, Q0, Q1, ↓Q2, Q3, Q4, Q5, Q6, Q7, Q8, Q9, Qa, Qb, Qc, Qd, Qe, Qf, Qg, Qh, Qi, Qj, hs.blk, get_ents hs.e8]
    obtain ⟨H1, e1, g1⟩ := pass_loop k hs.e8 hw nN hN (.pointer (some ⟨s, 0, none⟩)) (.int .i64 fi) (L63_4 k (n + 1)) 8 k 0 _ a false H rfl rfl (by omega) (by omega) ha
    have e1 : L63_3 k (L63_4 k (n + 1)) k (.pointer (some ⟨s, 0, none⟩)) (.int .i64 (nN : Int)) (.int .i64 fi) (.int .i64 (a : Int)) (.bool false) (.agg (es.flatMap entC).toArray) (.int .i64 0) H = _ := e1
    rw [e1, List.drop_zero]
    have hs1 := hs.grow g1
    cases hp : (passR nN es (a, false)).2 with
    | true =>
      have hlt := passR_moved nN es a hp
      have hle := passR_cap nN 1000 es (a, false) hw ha
      obtain ⟨H2, e2, g2⟩ := room_loop k hk hw hcap nN hN fi hfi m (n + 1) (passR nN es (a, false)).1 H1 (by omega) (by omega) hle hs1
      refine ⟨H2, ?_, g1.trans g2⟩
      rw [e2, roomW, if_pos hp]
    | false =>
      obtain ⟨hst, _⟩ := passR_still nN es a hp
      have hr : roomW nN es (m + 1) a = a := by rw [roomW, if_neg (by rw [hp]; decide)]
      rw [hst, hr, L63_4]
      by_cases h0 : 0 ≤ fi
      · simp (disch := first | omega | assumption | (simp only [Yg, Yh, Yi, Yj] <;> omega) | (simp only [Qk, Ql, Qm, Qn, Qo, Qp, Bool.and_self]) | rfl) only [↓Z0, Z1, ↓Z2, ↓Z3, ↓Z4, ↓Z5, ↓Z6, Z7, ↓Z8, ↓Z9, ↓Za, ↓Zb, Zc, ↓Zd, Ze, Zf, decide_true, decide_false, Zg, Zh, Zi, Zj, Zk, Zl, Zm, Zn, Zo, Zp, Zq, Zr, Zs, Zt, Zu, Zv, Zw, Zx, Zy, Zz, Y0, Y1, Y2, Y3, Y4, Y5, Y6, Y7, Y8, Y9, Ya, Yb, Yc, Yd, Ye, Yf, Yg, Yh, Yi, Yj, Yk, Yl, Ym, Yn, Yo, Yp, Yq, Yr, Ys, Yt, Yu, Yv, Nat.zero_add, Nat.add_zero, ne_eq, not_false_eq_true, reduceCtorEq, Nat.reduceAdd, Nat.reduceEqDiff, Nat.succ_ne_self, Yw, Yx, Yy, Yz, Q0, Q1, ↓Q2, Q3, Q4, Q5, Q6, Q7, Q8, Q9, Qa, Qb, Qc, Qd, Qe, Qf, Qg, Qh, Qi, Qj, hs1.blk, get_n]
        refine ⟨H1, ?_, g1⟩
        rw [roomV]
        congr 4
        rw [show decide ((a : Int) ≤ (cap : Int) - (nN : Int)) = decide (0 ≤ fi ∧ a + nN ≤ cap) from decide_eq_decide.2 (by omega)]
      · simp (disch := first | omega | assumption | (simp only [Yg, Yh, Yi, Yj] <;> omega) | (simp only [Qk, Ql, Qm, Qn, Qo, Qp, Bool.and_self]) | rfl) only [↓Z0, Z1, ↓Z2, ↓Z3, ↓Z4, ↓Z5, ↓Z6, Z7, ↓Z8, ↓Z9, ↓Za, ↓Zb, Zc, ↓Zd, Ze, Zf, decide_true, decide_false, Zg, Zh, Zi, Zj, Zk, Zl, Zm, Zn, Zo, Zp, Zq, Zr, Zs, Zt, Zu, Zv, Zw, Zx, Zy, Zz, Y0, Y1, Y2, Y3, Y4, Y5, Y6, Y7, Y8, Y9, Ya, Yb, Yc, Yd, Ye, Yf, Yg, Yh, Yi, Yj, Yk, Yl, Ym, Yn, Yo, Yp, Yq, Yr, Ys, Yt, Yu, Yv, Nat.zero_add, Nat.add_zero, ne_eq, not_false_eq_true, reduceCtorEq, Nat.reduceAdd, Nat.reduceEqDiff, Nat.succ_ne_self, Yw, Yx, Yy, Yz, Q0, Q1, ↓Q2, Q3, Q4, Q5, Q6, Q7, Q8, Q9, Qa, Qb, Qc, Qd, Qe, Qf, Qg, Qh, Qi, Qj]
        refine ⟨H1, ?_, g1⟩
        rw [roomV, decide_eq_false (by omega)]
theorem free_scan (k : Nat) (nN : Value) (x0 x4 : Value) (h8 : es.length = 8) : ∀ (m n i : Nat) (z : Int) (H : Heap), z = i → i + m = 8 → m < n → H.floor ≤ H.next →
    ∃ H', L63_6 k n x0 nN (.int .i64 (-1)) (.agg (es.flatMap entC).toArray) (.int .i64 z) H = J63_5 k x0 nN (.int .i64 (freeFrom i (es.drop i))) H' ∧ Grow H H'
  | 0, n, i, z, H, hz, hi, hn, hf => by
    subst hz
    obtain ⟨n, rfl⟩ : ∃ n', n = n' + 1 := ⟨n - 1, by omega⟩
    rw [L63_6]
    simp (disch := first | omega | assumption | (simp only [Yg, Yh, Yi, Yj] <;> omega) | (simp only [Qk, Ql, Qm, Qn, Qo, Qp, Bool.and_self]) | rfl) only [↓Z0, Z1, ↓Z2, ↓Z3, ↓Z4, ↓Z5, ↓Z6, Z7, ↓Z8, ↓Z9, ↓Za, ↓Zb, Zc, ↓Zd, Ze, Zf, decide_true, decide_false, Zg, Zh, Zi, Zj, Zk, Zl, Zm, Zn, Zo, Zp, Zq, Zr, Zs, Zt, Zu, Zv, Zw, Zx, Zy, Zz, Y0, Y1, Y2, Y3, Y4, Y5, Y6, Y7, Y8, Y9, Ya, Yb, Yc, Yd, Ye, Yf, Yg, Yh, Yi, Yj, Yk, Yl, Ym, Yn, Yo, Yp, Yq, Yr, Ys, Yt, Yu, Yv, Nat.zero_add, Nat.add_zero, ne_eq, not_false_eq_true, reduceCtorEq, Nat.reduceAdd, Nat.reduceEqDiff, Nat.succ_ne_self, Yw, Yx, Yy, Yz, Q0, Q1, ↓Q2, Q3, Q4, Q5, Q6, Q7, Q8, Q9, Qa, Qb, Qc, Qd, Qe, Qf, Qg, Qh, Qi, Qj]
    rw [List.drop_eq_nil_of_le (by omega)]
    exact ⟨H, rfl, Grow.refl H⟩
  | m + 1, n, i, z, H, hz, hi, hn, hf => by
    subst hz
    obtain ⟨n, rfl⟩ : ∃ n', n = n' + 1 := ⟨n - 1, by omega⟩
    have hil : i < es.length := by omega
    rw [List.drop_eq_getElem_cons hil, freeFrom, L63_6]
    by_cases h1 : es[i].len = 0
    · simp (disch := first | omega | assumption | (simp only [Yg, Yh, Yi, Yj] <;> omega) | (simp only [Qk, Ql, Qm, Qn, Qo, Qp, Bool.and_self]) | rfl) only [↓Z0, Z1, ↓Z2, ↓Z3, ↓Z4, ↓Z5, ↓Z6, Z7, ↓Z8, ↓Z9, ↓Za, ↓Zb, Zc, ↓Zd, Ze, Zf, decide_true, decide_false, Zg, Zh, Zi, Zj, Zk, Zl, Zm, Zn, Zo, Zp, Zq, Zr, Zs, Zt, Zu, Zv, Zw, Zx, Zy, Zz, Y0, Y1, Y2, Y3, Y4, Y5, Y6, Y7, Y8, Y9, Ya, Yb, Yc, Yd, Ye, Yf, Yg, Yh, Yi, Yj, Yk, Yl, Ym, Yn, Yo, Yp, Yq, Yr, Ys, Yt, Yu, Yv, Nat.zero_add, Nat.add_zero, ne_eq, not_false_eq_true, reduceCtorEq, Nat.reduceAdd, Nat.reduceEqDiff, Nat.succ_ne_self, Yw, Yx, Yy, Yz, Q0, Q1, ↓Q2, Q3, Q4, Q5, Q6, Q7, Q8, Q9, Qa, Qb, Qc, Qd, Qe, Qf, Qg, Qh, Qi, Qj, idx_ent h8]
      rw [if_pos h1]
      exact ⟨_, rfl, (Grow.refl H).new _⟩
    · simp (disch := first | omega | assumption | (simp only [Yg, Yh, Yi, Yj] <;> omega) | (simp only [Qk, Ql, Qm, Qn, Qo, Qp, Bool.and_self]) | rfl) only [↓Z0, Z1, ↓Z2, ↓Z3, ↓Z4, ↓Z5, ↓Z6, Z7, ↓Z8, ↓Z9, ↓Za, ↓Zb, Zc, ↓Zd, Ze, Zf, decide_true, decide_false, Zg, Zh, Zi, Zj, Zk, Zl, Zm, Zn, Zo, Zp, Zq, Zr, Zs, Zt, Zu, Zv, Zw, Zx, Zy, Zz, Y0, Y1, Y2, Y3, Y4, Y5, Y6, Y7, Y8, Y9, Ya, Yb, Yc, Yd, Ye, Yf, Yg, Yh, Yi, Yj, Yk, Yl, Ym, Yn, Yo, Yp, Yq, Yr, Ys, Yt, Yu, Yv, Nat.zero_add, Nat.add_zero, ne_eq, not_false_eq_true, reduceCtorEq, Nat.reduceAdd, Nat.reduceEqDiff, Nat.succ_ne_self, Yw, Yx, Yy, Yz, Q0, Q1, ↓Q2, Q3, Q4, Q5, Q6, Q7, Q8, Q9, Qa, Qb, Qc, Qd, Qe, Qf, Qg, Qh, Qi, Qj, idx_ent h8]
      rw [if_neg h1]
      obtain ⟨H', e, g⟩ := free_scan k nN x0 x4 h8 m n (i + 1) _ (H.new (.cells #[str es[i].name, .int .i64 (es[i].first : Int), .int .i64 (es[i].len : Int)] 49)) rfl (by omega) (by omega) (by simp only [Yh, Yg]; omega)
      exact ⟨H', e, ((Grow.refl H).new _).trans g⟩
theorem freeFrom_lt : ∀ (es : List Ent) (i : Nat), -1 ≤ freeFrom i es ∧ freeFrom i es < ((i + es.length : Nat) : Int)
  | [], i => by simp [freeFrom]; omega
  | e :: es, i => by
    rw [freeFrom]
    split
    · simp; omega
    · have := freeFrom_lt es (i + 1)
      simp only [List.length_cons]; omega
def roomA (n : Nat) (es : List Ent) : Nat := roomW n es 1000 8
theorem room_run {k : Nat} (hk : 1100 ≤ k) (hs : StoAt H s d cap es) (hw : ∀ e ∈ es, e.first + e.len ≤ 1000) (hcap : cap ≤ 1000) (n : Nat) (hN : n ≤ 1000) :
    ∃ H', run Tryz.prog k 63 #[.pointer (some ⟨s, 0, none⟩), .int .i64 (n : Int)] H = some (roomV cap n es (freeI es) (roomA n es), H') ∧ Grow H H' := by
  obtain ⟨k, rfl⟩ : ∃ k', k = k' + 1 := ⟨k - 1, by omega⟩
  have h1 := hs.lt; have h2 := hs.fl
  obtain ⟨H1, e1, g1⟩ := free_scan k (.int .i64 (n : Int)) (.pointer (some ⟨s, 0, none⟩)) (.int .i64 (-1)) hs.e8 8 k 0 _ H rfl rfl (by omega) (by omega)
  have hl := freeFrom_lt es 0
  have h8 := hs.e8
  obtain ⟨H2, e2, g2⟩ := room_loop k (by omega) hw hcap n hN (freeI es) (by unfold freeI; omega) 1000 k 8 H1 (by omega) (by omega) (by omega) (hs.grow g1)
  rw [run63, F63]
  simp (disch := first | omega | assumption | (simp only [Yg, Yh, Yi, Yj] <;> omega) | (simp only [Qk, Ql, Qm, Qn, Qo, Qp, Bool.and_self]) | rfl) only [↓Z0, Z1, ↓Z2, ↓Z3, ↓Z4, ↓Z5, ↓Z6, Z7, ↓Z8, ↓Z9, ↓Za, ↓Zb, Zc, ↓Zd, Ze, Zf, decide_true, decide_false, Zg, Zh, Zi, Zj, Zk, Zl, Zm, Zn, Zo, Zp, Zq, Zr, Zs, Zt, Zu, Zv, Zw, Zx, Zy, Zz, Y0, Y1, Y2, Y3, Y4, Y5, Y6, Y7, Y8, Y9, Ya, Yb, Yc, Yd, Ye, Yf, Yg, Yh, Yi, Yj, Yk, Yl, Ym, Yn, Yo, Yp, Yq, Yr, Ys, Yt, Yu, Yv, Nat.zero_add, Nat.add_zero, ne_eq, not_false_eq_true, reduceCtorEq, Nat.reduceAdd, Nat.reduceEqDiff, Nat.succ_ne_self, Yw, Yx, Yy, Yz, Q0, Q1, ↓Q2, Q3, Q4, Q5, Q6, Q7, Q8, Q9, Qa, Qb, Qc, Qd, Qe, Qf, Qg, Qh, Qi, Qj, hs.blk, get_ents hs.e8]
  refine ⟨H2, ?_, g1.trans g2⟩
  have e1 : L63_6 k k (.pointer (some ⟨s, 0, none⟩)) (.int .i64 (n : Int)) (.int .i64 (-1)) (.agg (es.flatMap entC).toArray) (.int .i64 0) H = _ := e1
  rw [e1, List.drop_zero, J63_5]
  exact e2
end
end Go.PG

namespace Go.PG
open Go.Proofs

section
variable {K : Nat} {d : Value} {cap : Nat} {D : DiskP} {s : Nat} {es : List Ent} {t : List UInt8} {F : Nat → Prop} {H : Heap}
def createP (cap : Nat) (es : List Ent) (t : List UInt8) (nm : List UInt8) (n : Int) : Res :=
  if good nm = true ∧ 1 ≤ n ∧ n ≤ 512 then
    match findE es nm with
    | some _ => (8, es, t)
    | none =>
      if 0 ≤ freeI es ∧ roomA n.toNat es + n.toNat ≤ cap then
        (0, es.set (freeI es).toNat ⟨nm, roomA n.toNat es, n.toNat⟩, setP (freeI es).toNat ⟨nm, roomA n.toNat es, n.toNat⟩ (wrB t (roomA n.toNat es) n.toNat []))
      else (5, es, t)
  else (1, es, t)
theorem WfE.le (hw : WfE cap es) (hd : DiskOk K d cap D) : ∀ e ∈ es, e.first + e.len ≤ 1000 := fun e he => by
  have := (hw.ok e he).1; have := hd.big; omega
theorem freeI_lt (h8 : es.length = 8) (h : 0 ≤ freeI es) : ∃ i : Nat, freeI es = (i : Int) ∧ i < 8 := by
  have := (freeFrom_lt es 0).2
  refine ⟨(freeI es).toNat, by omega, ?_⟩
  unfold freeI at *; omega
theorem create_run (hd : DiskOk K d cap D) (hc : 8 < cap) {k : Nat} (hk : K + 1200 ≤ k) (h : Sys d cap D s es t F H) (hw : WfE cap es) (nm : List UInt8) (n : Int) (hnm : nm.length + 30 ≤ k) (hnm2 : nm.length < 9223372036854775808) :
    ∃ F' H', run Tryz.prog k 27 #[.pointer (some ⟨s, 0, none⟩), str nm, .int .i64 n] H = some (.int .i64 (createP cap es t nm n).1, H') ∧ Sys d cap D s (createP cap es t nm n).2.1 (createP cap es t nm n).2.2 F' H' ∧ Foot (orS s F) (orS s F') H H' := by
  obtain ⟨k, rfl⟩ : ∃ k', k = k' + 1 := ⟨k - 1, by omega⟩
  have hbig := hd.big
  obtain ⟨H1, e1, g1⟩ := good_run (k := k) nm hnm2 (by omega) H h.fl
  have s1 := h.grow hd g1
  rw [run27, F27]
  simp only [createP]
  by_cases hg : good nm = true
  · rw [hg] at e1
    by_cases c1 : 1 ≤ n
    · by_cases c2 : n ≤ 512
      · rw [if_pos ⟨hg, c1, c2⟩]
        obtain ⟨H2, e2, g2⟩ := find_run (k := k) s1.sto nm (by omega)
        have s2 := s1.grow hd g2
        cases hf : findE es nm with
        | some i =>
          rw [hf] at e2
          simp (disch := first | omega | assumption | (simp only [Yg, Yh, Yi, Yj] <;> omega) | (simp only [Qk, Ql, Qm, Qn, Qo, Qp, Bool.and_self]) | rfl) only [↓Z0, Z1, ↓Z2, ↓Z3, ↓Z4, ↓Z5, ↓Z6, Z7, ↓Z8, ↓Z9, ↓Za, ↓Zb, Zc, ↓Zd, Ze, Zf, decide_true, decide_false, Zg, Zh, Zi, Zj, Zk, Zl, Zm, Zn, Zo, Zp, Zq, Zr, Zs, Zt, Zu, Zv, Zw, Zx, Zy, Zz, Y0, Y1, Y2, Y3, Y4, Y5, Y6, Y7, Y8, Y9, Ya, Yb, Yc, Yd, Ye, Yf, Yg, Yh, Yi, Yj, Yk, Yl, Ym, Yn, Yo, Yp, Yq, Yr, Ys, Yt, Yu, Yv, Nat.zero_add, Nat.add_zero, ne_eq, not_false_eq_true, reduceCtorEq, Nat.reduceAdd, Nat.reduceEqDiff, Nat.succ_ne_self, Yw, Yx, Yy, Yz, Q0, Q1, ↓Q2, Q3, Q4, Q5, Q6, Q7, Q8, Q9, Qa, Qb, Qc, Qd, Qe, Qf, Qg, Qh, Qi, Qj, e1, J27_0, J27_1, e2, findV]
          exact ⟨F, H2, rfl, s2, Foot.of_grow (g1.trans g2)⟩
        | none =>
          rw [hf] at e2
          obtain ⟨n, rfl⟩ : ∃ x : Nat, n = x := ⟨n.toNat, by omega⟩
          obtain ⟨H3, e3, g3⟩ := room_run (k := k) (by omega) s2.sto (hw.le hd) hbig n (by omega)
          have s3 := s2.grow hd g3
          simp only [Int.toNat_natCast]
          by_cases hr : 0 ≤ freeI es ∧ roomA n es + n ≤ cap
          · rw [if_pos hr]
            rw [roomV, decide_eq_true hr] at e3
            have hri : isRight cap (roomA n es : Int) (n : Int) := ⟨by omega, by omega, by omega, by omega⟩
            obtain ⟨fa, F4, H4, e4, e5, d4, f4⟩ := hd.trim (k := k) (roomA n es : Int) (n : Int) (by omega) s3.dsk s3.fl
            rw [okI, if_pos hri] at e5
            rw [wrI, if_pos hri, Int.toNat_natCast, Int.toNat_natCast] at d4
            have s4 := s3.disk d4 f4
            obtain ⟨i, hi, hi8⟩ := freeI_lt h.sto.e8 hr.1
            have hgl := good_len hg
            obtain ⟨F5, H5, e6, s5, f5⟩ := note_run hd hc (k := k) (by omega) s4 hi8 ⟨nm, roomA n es, n⟩ hr.2 hgl.2
            simp only [entV] at e6
            rw [hi] at e3 ⊢
            simp (disch := first | omega | assumption | (simp only [Yg, Yh, Yi, Yj] <;> omega) | (simp only [Qk, Ql, Qm, Qn, Qo, Qp, Bool.and_self]) | rfl) only [↓Z0, Z1, ↓Z2, ↓Z3, ↓Z4, ↓Z5, ↓Z6, Z7, ↓Z8, ↓Z9, ↓Za, ↓Zb, Zc, ↓Zd, Ze, Zf, decide_true, decide_false, Zg, Zh, Zi, Zj, Zk, Zl, Zm, Zn, Zo, Zp, Zq, Zr, Zs, Zt, Zu, Zv, Zw, Zx, Zy, Zz, Y0, Y1, Y2, Y3, Y4, Y5, Y6, Y7, Y8, Y9, Ya, Yb, Yc, Yd, Ye, Yf, Yg, Yh, Yi, Yj, Yk, Yl, Ym, Yn, Yo, Yp, Yq, Yr, Ys, Yt, Yu, Yv, Nat.zero_add, Nat.add_zero, ne_eq, not_false_eq_true, reduceCtorEq, Nat.reduceAdd, Nat.reduceEqDiff, Nat.succ_ne_self, Yw, Yx, Yy, Yz, Q0, Q1, ↓Q2, Q3, Q4, Q5, Q6, Q7, Q8, Q9, Qa, Qb, Qc, Qd, Qe, Qf, Qg, Qh, Qi, Qj, e1, J27_0, J27_1, e2, findV, e3, s3.sto.blk, get_d, nil_iface hd, e4, e5, build49, e6]
            exact ⟨F5, H5, rfl, by rw [Int.toNat_natCast]; exact s5, (Foot.of_grow ((g1.trans g2).trans g3)).trans ((Sys.foot s f4).trans f5)⟩
          · rw [if_neg hr]
            rw [roomV, decide_eq_false hr] at e3
            simp (disch := first | omega | assumption | (simp only [Yg, Yh, Yi, Yj] <;> omega) | (simp only [Qk, Ql, Qm, Qn, Qo, Qp, Bool.and_self]) | rfl) only [↓Z0, Z1, ↓Z2, ↓Z3, ↓Z4, ↓Z5, ↓Z6, Z7, ↓Z8, ↓Z9, ↓Za, ↓Zb, Zc, ↓Zd, Ze, Zf, decide_true, decide_false, Zg, Zh, Zi, Zj, Zk, Zl, Zm, Zn, Zo, Zp, Zq, Zr, Zs, Zt, Zu, Zv, Zw, Zx, Zy, Zz, Y0, Y1, Y2, Y3, Y4, Y5, Y6, Y7, Y8, Y9, Ya, Yb, Yc, Yd, Ye, Yf, Yg, Yh, Yi, Yj, Yk, Yl, Ym, Yn, Yo, Yp, Yq, Yr, Ys, Yt, Yu, Yv, Nat.zero_add, Nat.add_zero, ne_eq, not_false_eq_true, reduceCtorEq, Nat.reduceAdd, Nat.reduceEqDiff, Nat.succ_ne_self, Yw, Yx, Yy, Yz, Q0, Q1, ↓Q2, Q3, Q4, Q5, Q6, Q7, Q8, Q9, Qa, Qb, Qc, Qd, Qe, Qf, Qg, Qh, Qi, Qj, e1, J27_0, J27_1, e2, findV, e3]
            exact ⟨F, H3, rfl, s3, Foot.of_grow ((g1.trans g2).trans g3)⟩
      · rw [if_neg (fun h => c2 h.2.2)]
        simp (disch := first | omega | assumption | (simp only [Yg, Yh, Yi, Yj] <;> omega) | (simp only [Qk, Ql, Qm, Qn, Qo, Qp, Bool.and_self]) | rfl) only [↓Z0, Z1, ↓Z2, ↓Z3, ↓Z4, ↓Z5, ↓Z6, Z7, ↓Z8, ↓Z9, ↓Za, ↓Zb, Zc, ↓Zd, Ze, Zf, decide_true, decide_false, Zg, Zh, Zi, Zj, Zk, Zl, Zm, Zn, Zo, Zp, Zq, Zr, Zs, Zt, Zu, Zv, Zw, Zx, Zy, Zz, Y0, Y1, Y2, Y3, Y4, Y5, Y6, Y7, Y8, Y9, Ya, Yb, Yc, Yd, Ye, Yf, Yg, Yh, Yi, Yj, Yk, Yl, Ym, Yn, Yo, Yp, Yq, Yr, Ys, Yt, Yu, Yv, Nat.zero_add, Nat.add_zero, ne_eq, not_false_eq_true, reduceCtorEq, Nat.reduceAdd, Nat.reduceEqDiff, Nat.succ_ne_self, Yw, Yx, Yy, Yz, Q0, Q1, ↓Q2, Q3, Q4, Q5, Q6, Q7, Q8, Q9, Qa, Qb, Qc, Qd, Qe, Qf, Qg, Qh, Qi, Qj, e1, J27_0, J27_1]
        exact ⟨F, H1, rfl, s1, Foot.of_grow g1⟩
    · rw [if_neg (fun h => c1 h.2.1)]
      simp (disch := first | omega | assumption | (simp only [Yg, Yh, Yi, Yj] <;> omega) | (simp only [Qk, Ql, Qm, Qn, Qo, Qp, Bool.and_self]) | rfl) only [↓Z0, Z1, ↓Z2, ↓Z3, ↓Z4, ↓Z5, ↓Z6, Z7, ↓Z8, ↓Z9, ↓Za, ↓Zb, Zc, ↓Zd, Ze, Zf, decide_true, decide_false, Zg, Zh, Zi, Zj, Zk, Zl, Zm, Zn, Zo, Zp, Zq, Zr, Zs, Zt, Zu, Zv, Zw, Zx, Zy, Zz, Y0, Y1, Y2, Y3, Y4, Y5, Y6, Y7, Y8, Y9, Ya, Yb, Yc, Yd, Ye, Yf, Yg, Yh, Yi, Yj, Yk, Yl, Ym, Yn, Yo, Yp, Yq, Yr, Ys, Yt, Yu, Yv, Nat.zero_add, Nat.add_zero, ne_eq, not_false_eq_true, reduceCtorEq, Nat.reduceAdd, Nat.reduceEqDiff, Nat.succ_ne_self, Yw, Yx, Yy, Yz, Q0, Q1, ↓Q2, Q3, Q4, Q5, Q6, Q7, Q8, Q9, Qa, Qb, Qc, Qd, Qe, Qf, Qg, Qh, Qi, Qj, e1, J27_0, J27_1]
      exact ⟨F, H1, rfl, s1, Foot.of_grow g1⟩
  · have hg' : good nm = false := by simpa using hg
    rw [hg'] at e1
    rw [if_neg (fun h => hg h.1)]
    simp (disch := first | omega | assumption | (simp only [Yg, Yh, Yi, Yj] <;> omega) | (simp only [Qk, Ql, Qm, Qn, Qo, Qp, Bool.and_self]) | rfl) only [↓Z0, Z1, ↓Z2, ↓Z3, ↓Z4, ↓Z5, ↓Z6, Z7, ↓Z8, ↓Z9, ↓Za, ↓Zb, Zc, ↓Zd, Ze, Zf, decide_true, decide_false, Zg, Zh, Zi, Zj, Zk, Zl, Zm, Zn, Zo, Zp, Zq, Zr, Zs, Zt, Zu, Zv, Zw, Zx, Zy, Zz, Y0, Y1, Y2, Y3, Y4, Y5, Y6, Y7, Y8, Y9, Ya, Yb, Yc, Yd, Ye, Yf, Yg, Yh, Yi, Yj, Yk, Yl, Ym, Yn, Yo, Yp, Yq, Yr, Ys, Yt, Yu, Yv, Nat.zero_add, Nat.add_zero, ne_eq, not_false_eq_true, reduceCtorEq, Nat.reduceAdd, Nat.reduceEqDiff, Nat.succ_ne_self, Yw, Yx, Yy, Yz, Q0, Q1, ↓Q2, Q3, Q4, Q5, Q6, Q7, Q8, Q9, Qa, Qb, Qc, Qd, Qe, Qf, Qg, Qh, Qi, Qj, e1, J27_0, J27_1]
    exact ⟨F, H1, rfl, s1, Foot.of_grow g1⟩
theorem copy_run (hd : DiskOk K d cap D) {k : Nat} (hk : K + 10 ≤ k) (h : Sys d cap D s es t F H) {a b n : Nat} (ha : isRight cap a n) (hb : isRight cap b n) :
    ∃ F' H', run Tryz.prog k 81 #[d, d, .int .i64 (a : Int), .int .i64 (n : Int), .int .i64 (b : Int)] H = some (.int .i64 0, H') ∧ Sys d cap D s es (wrB t b n (rdB t a n)) F' H' ∧ Foot (orS s F) (orS s F') H H' := by
  obtain ⟨k, rfl⟩ : ∃ k', k = k' + 1 := ⟨k - 1, by omega⟩
  obtain ⟨fa, F1, H1, e1, e2, d1, f1⟩ := hd.read (k := k) (a : Int) (n : Int) (by omega) h.dsk h.fl
  rw [rdI, if_pos ha, Int.toNat_natCast, Int.toNat_natCast] at e2
  have s1 := h.disk d1 f1
  obtain ⟨fb, F2, H2, e3, e4, d2, f2⟩ := hd.write (k := k) (b : Int) (n : Int) (rdB t a n) (by omega) s1.dsk s1.fl
  rw [okI, if_pos hb] at e4
  rw [wrI, if_pos hb, Int.toNat_natCast, Int.toNat_natCast] at d2
  have s2 := s1.disk d2 f2
  rw [run81, F81]
  simp (disch := first | omega | assumption | (simp only [Yg, Yh, Yi, Yj] <;> omega) | (simp only [Qk, Ql, Qm, Qn, Qo, Qp, Bool.and_self]) | rfl) only [↓Z0, Z1, ↓Z2, ↓Z3, ↓Z4, ↓Z5, ↓Z6, Z7, ↓Z8, ↓Z9, ↓Za, ↓Zb, Zc, ↓Zd, Ze, Zf, decide_true, decide_false, Zg, Zh, Zi, Zj, Zk, Zl, Zm, Zn, Zo, Zp, Zq, Zr, Zs, Zt, Zu, Zv, Zw, Zx, Zy, Zz, Y0, Y1, Y2, Y3, Y4, Y5, Y6, Y7, Y8, Y9, Ya, Yb, Yc, Yd, Ye, Yf, Yg, Yh, Yi, Yj, Yk, Yl, Ym, Yn, Yo, Yp, Yq, Yr, Ys, Yt, Yu, Yv, Nat.zero_add, Nat.add_zero, ne_eq, not_false_eq_true, reduceCtorEq, Nat.reduceAdd, Nat.reduceEqDiff, Nat.succ_ne_self, Yw, Yx, Yy, Yz, Q0, Q1, ↓Q2, Q3, Q4, Q5, Q6, Q7, Q8, Q9, Qa, Qb, Qc, Qd, Qe, Qf, Qg, Qh, Qi, Qj, e1, e2, e3, e4]
  exact ⟨F2, H2, rfl, s2, (Sys.foot s f1).trans (Sys.foot s f2)⟩
def cloneP (cap : Nat) (es : List Ent) (t : List UInt8) (nm to : List UInt8) : Res :=
  if (otherP es nm to).2 = 0 then
    let x := es.getD (otherP es nm to).1.toNat Ent.none
    if 0 ≤ freeI es ∧ roomA x.len es + x.len ≤ cap then
      (0, es.set (freeI es).toNat ⟨to, roomA x.len es, x.len⟩, setP (freeI es).toNat ⟨to, roomA x.len es, x.len⟩ (wrB t (roomA x.len es) x.len (rdB t x.first x.len)))
    else (5, es, t)
  else ((otherP es nm to).2, es, t)
theorem clone_run (hd : DiskOk K d cap D) (hc : 8 < cap) {k : Nat} (hk : K + 1200 ≤ k) (h : Sys d cap D s es t F H) (hw : WfE cap es) (nm to : List UInt8) (hto : to.length + 30 ≤ k) (hto2 : to.length < 9223372036854775808) :
    ∃ F' H', run Tryz.prog k 42 #[.pointer (some ⟨s, 0, none⟩), str nm, str to] H = some (.int .i64 (cloneP cap es t nm to).1, H') ∧ Sys d cap D s (cloneP cap es t nm to).2.1 (cloneP cap es t nm to).2.2 F' H' ∧ Foot (orS s F) (orS s F') H H' := by
  obtain ⟨k, rfl⟩ : ∃ k', k = k' + 1 := ⟨k - 1, by omega⟩
  have hbig := hd.big
  obtain ⟨H1, e1, g1⟩ := other_run (k := k) hd (by omega) h nm to (by omega) hto2
  have s1 := h.grow hd g1
  have hfl1 := s1.fl
  rw [run42, F42]
  by_cases c : (otherP es nm to).2 = 0
  · obtain ⟨i, ho, hf, hg, _⟩ := otherP_ok h.sto.e8 c
    obtain ⟨hi, hil, hlen, _⟩ := findE_lt h.sto.e8 hf
    have hw1 := hw.ok es[i] (List.getElem_mem hil)
    have hge := get_e (d := d) (cap := cap) hi h.sto.e8 93
    have hgd : es.getD i Ent.none = es[i] := by rw [List.getD_eq_getElem?_getD, List.getElem?_eq_getElem hil]; rfl
    have hgl := good_len hg
    simp only [cloneP, ho, if_true, Int.toNat_natCast, hgd]
    rw [ho] at e1
    generalize hA : H1.new (.cells #[str es[i].name, .int .i64 (es[i].first : Int), .int .i64 (es[i].len : Int)] 49) = A
    have gA : Grow H1 A := by rw [← hA]; exact (Grow.refl H1).new _
    have nA : A.next = H1.next + 1 := by rw [← hA]; rfl
    have bA : A.blk H1.next = some (.cells #[str es[i].name, .int .i64 (es[i].first : Int), .int .i64 (es[i].len : Int)] 49) := by rw [← hA, Y9]
    have sA := s1.grow hd gA
    obtain ⟨H3, e3, g3⟩ := room_run (k := k) (by omega) sA.sto (hw.le hd) hbig es[i].len (by omega)
    have s3 := sA.grow hd g3
    have b3 := g3.eqBlk bA (by omega)
    have n3 := g3.next
    by_cases hr : 0 ≤ freeI es ∧ roomA es[i].len es + es[i].len ≤ cap
    · rw [if_pos hr]
      rw [roomV, decide_eq_true hr] at e3
      have hra : isRight cap (es[i].first : Int) (es[i].len : Int) := ⟨by omega, by omega, by omega, by omega⟩
      have hrb : isRight cap (roomA es[i].len es : Int) (es[i].len : Int) := ⟨by omega, by omega, by omega, by omega⟩
      obtain ⟨F4, H4, e4, s4, f4⟩ := copy_run (k := k) hd (by omega) s3 hra hrb
      have l1 : ¬ orS s F H1.next := fun hh => by
        rcases hh with hh | hh
        · have := hd.lt s1.dsk _ hh; omega
        · have := s1.sto.lt; omega
      have b4 := f4.chg.eqBlk b3 (by omega) l1
      obtain ⟨j, hj, hj8⟩ := freeI_lt h.sto.e8 hr.1
      obtain ⟨F5, H5, e6, s5, f5⟩ := note_run hd hc (k := k) (by omega) s4 hj8 ⟨to, roomA es[i].len es, es[i].len⟩ hr.2 hgl.2
      simp only [entV] at e6
      rw [hj] at e3 ⊢
      simp (disch := first | omega | assumption | (simp only [Yg, Yh, Yi, Yj] <;> omega) | (simp only [Qk, Ql, Qm, Qn, Qo, Qp, Bool.and_self]) | rfl) only [↓Z0, Z1, ↓Z2, ↓Z3, ↓Z4, ↓Z5, ↓Z6, Z7, ↓Z8, ↓Z9, ↓Za, ↓Zb, Zc, ↓Zd, Ze, Zf, decide_true, decide_false, Zg, Zh, Zi, Zj, Zk, Zl, Zm, Zn, Zo, Zp, Zq, Zr, Zs, Zt, Zu, Zv, Zw, Zx, Zy, Zz, Y0, Y1, Y2, Y3, Y4, Y5, Y6, Y7, Y8, Y9, Ya, Yb, Yc, Yd, Ye, Yf, Yg, Yh, Yi, Yj, Yk, Yl, Ym, Yn, Yo, Yp, Yq, Yr, Ys, Yt, Yu, Yv, Nat.zero_add, Nat.add_zero, ne_eq, not_false_eq_true, reduceCtorEq, Nat.reduceAdd, Nat.reduceEqDiff, Nat.succ_ne_self, Yw, Yx, Yy, Yz, Q0, Q1, ↓Q2, Q3, Q4, Q5, Q6, Q7, Q8, Q9, Qa, Qb, Qc, Qd, Qe, Qf, Qg, Qh, Qi, Qj, e1, s1.sto.blk, idx8 hi, hge, entV, hA, bA, e3, s3.sto.blk, get_d, b3, e4, b4, build49, e6]
      exact ⟨F5, H5, rfl, by rw [Int.toNat_natCast]; exact s5, (Foot.of_grow ((g1.trans gA).trans g3)).trans (f4.trans f5)⟩
    · rw [if_neg hr]
      rw [roomV, decide_eq_false hr] at e3
      simp (disch := first | omega | assumption | (simp only [Yg, Yh, Yi, Yj] <;> omega) | (simp only [Qk, Ql, Qm, Qn, Qo, Qp, Bool.and_self]) | rfl) only [↓Z0, Z1, ↓Z2, ↓Z3, ↓Z4, ↓Z5, ↓Z6, Z7, ↓Z8, ↓Z9, ↓Za, ↓Zb, Zc, ↓Zd, Ze, Zf, decide_true, decide_false, Zg, Zh, Zi, Zj, Zk, Zl, Zm, Zn, Zo, Zp, Zq, Zr, Zs, Zt, Zu, Zv, Zw, Zx, Zy, Zz, Y0, Y1, Y2, Y3, Y4, Y5, Y6, Y7, Y8, Y9, Ya, Yb, Yc, Yd, Ye, Yf, Yg, Yh, Yi, Yj, Yk, Yl, Ym, Yn, Yo, Yp, Yq, Yr, Ys, Yt, Yu, Yv, Nat.zero_add, Nat.add_zero, ne_eq, not_false_eq_true, reduceCtorEq, Nat.reduceAdd, Nat.reduceEqDiff, Nat.succ_ne_self, Yw, Yx, Yy, Yz, Q0, Q1, ↓Q2, Q3, Q4, Q5, Q6, Q7, Q8, Q9, Qa, Qb, Qc, Qd, Qe, Qf, Qg, Qh, Qi, Qj, e1, s1.sto.blk, idx8 hi, hge, entV, hA, bA, e3]
      exact ⟨F, H3, rfl, s3, Foot.of_grow ((g1.trans gA).trans g3)⟩
  · simp only [cloneP, c, if_false]
    simp (disch := first | omega | assumption | (simp only [Yg, Yh, Yi, Yj] <;> omega) | (simp only [Qk, Ql, Qm, Qn, Qo, Qp, Bool.and_self]) | rfl) only [↓Z0, Z1, ↓Z2, ↓Z3, ↓Z4, ↓Z5, ↓Z6, Z7, ↓Z8, ↓Z9, ↓Za, ↓Zb, Zc, ↓Zd, Ze, Zf, decide_true, decide_false, Zg, Zh, Zi, Zj, Zk, Zl, Zm, Zn, Zo, Zp, Zq, Zr, Zs, Zt, Zu, Zv, Zw, Zx, Zy, Zz, Y0, Y1, Y2, Y3, Y4, Y5, Y6, Y7, Y8, Y9, Ya, Yb, Yc, Yd, Ye, Yf, Yg, Yh, Yi, Yj, Yk, Yl, Ym, Yn, Yo, Yp, Yq, Yr, Ys, Yt, Yu, Yv, Nat.zero_add, Nat.add_zero, ne_eq, not_false_eq_true, reduceCtorEq, Nat.reduceAdd, Nat.reduceEqDiff, Nat.succ_ne_self, Yw, Yx, Yy, Yz, Q0, Q1, ↓Q2, Q3, Q4, Q5, Q6, Q7, Q8, Q9, Qa, Qb, Qc, Qd, Qe, Qf, Qg, Qh, Qi, Qj, e1, c]
    exact ⟨F, H1, rfl, s1, Foot.of_grow g1⟩
end
end Go.PG

namespace Go.PG
open Go.Proofs

def meets (x y : Ent) : Prop := x.name = y.name ∨ (x.first < y.first + y.len ∧ y.first < x.first + x.len)
instance (x y : Ent) : Decidable (meets x y) := inferInstanceAs (Decidable (_ ∨ _))
theorem meets_run {k : Nat} (hk : 5 ≤ k) (x y : Ent) (hx : x.first + x.len < 1000000) (hy : y.first + y.len < 1000000) (H : Heap) :
    ∃ H', run Tryz.prog k 49 #[entV x, entV y] H = some (.bool (decide (meets x y)), H') ∧ Grow H H' := by
  obtain ⟨k, rfl⟩ : ∃ k', k = k' + 1 := ⟨k - 1, by omega⟩
  have hbox : ∀ (z : Ent) (A : Heap), pBox 49 (entV z) A = some (.pointer (some ⟨A.next, 0, none⟩), A.new (.cells #[str z.name, .int .i64 (z.first : Int), .int .i64 (z.len : Int)] 49)) := fun _ _ => rfl
  have gg : Grow H ((H.new (.cells #[str x.name, .int .i64 (x.first : Int), .int .i64 (x.len : Int)] 49)).new (.cells #[str y.name, .int .i64 (y.first : Int), .int .i64 (y.len : Int)] 49)) := ((Grow.refl H).new _).new _
  rw [run49, F49]
  by_cases h1 : x.name = y.name
  · simp (disch := first | omega | assumption | (simp only [Yg, Yh, Yi, Yj] <;> omega) | (simp only [Qk, Ql, Qm, Qn, Qo, Qp, Bool.and_self]) | rfl) only [↓Z0, Z1, ↓Z2, ↓Z3, ↓Z4, ↓Z5, ↓Z6, Z7, ↓Z8, ↓Z9, ↓Za, ↓Zb, Zc, ↓Zd, Ze, Zf, decide_true, decide_false, Zg, Zh, Zi, Zj, Zk, Zl, Zm, Zn, Zo, Zp, Zq, Zr, Zs, Zt, Zu, Zv, Zw, Zx, Zy, Zz, Y0, Y1, Y2, Y3, Y4, Y5, Y6, Y7, Y8, Y9, Ya, Yb, Yc, Yd, Ye, Yf, Yg, Yh, Yi, Yj, Yk, Yl, Ym, Yn, Yo, Yp, Yq, Yr, Ys, Yt, Yu, Yv, Nat.zero_add, Nat.add_zero, ne_eq, not_false_eq_true, reduceCtorEq, Nat.reduceAdd, Nat.reduceEqDiff, Nat.succ_ne_self, Yw, Yx, Yy, Yz, Q0, Q1, ↓Q2, Q3, Q4, Q5, Q6, Q7, Q8, Q9, Qa, Qb, Qc, Qd, Qe, Qf, Qg, Qh, Qi, Qj, hbox, h1, J49_0, J49_1]
    rw [decide_eq_true (show meets x y from .inl h1)]
    refine ⟨_, rfl, ?_⟩
    exact ((Grow.refl H).new _).new _
  · by_cases h2 : x.first < y.first + y.len
    · by_cases h3 : y.first < x.first + x.len
      · simp (disch := first | omega | assumption | (simp only [Yg, Yh, Yi, Yj] <;> omega) | (simp only [Qk, Ql, Qm, Qn, Qo, Qp, Bool.and_self]) | rfl) only [↓Z0, Z1, ↓Z2, ↓Z3, ↓Z4, ↓Z5, ↓Z6, Z7, ↓Z8, ↓Z9, ↓Za, ↓Zb, Zc, ↓Zd, Ze, Zf, decide_true, decide_false, Zg, Zh, Zi, Zj, Zk, Zl, Zm, Zn, Zo, Zp, Zq, Zr, Zs, Zt, Zu, Zv, Zw, Zx, Zy, Zz, Y0, Y1, Y2, Y3, Y4, Y5, Y6, Y7, Y8, Y9, Ya, Yb, Yc, Yd, Ye, Yf, Yg, Yh, Yi, Yj, Yk, Yl, Ym, Yn, Yo, Yp, Yq, Yr, Ys, Yt, Yu, Yv, Nat.zero_add, Nat.add_zero, ne_eq, not_false_eq_true, reduceCtorEq, Nat.reduceAdd, Nat.reduceEqDiff, Nat.succ_ne_self, Yw, Yx, Yy, Yz, Q0, Q1, ↓Q2, Q3, Q4, Q5, Q6, Q7, Q8, Q9, Qa, Qb, Qc, Qd, Qe, Qf, Qg, Qh, Qi, Qj, hbox, h1, J49_0, J49_1]
        rw [decide_eq_true (show meets x y from .inr ⟨h2, h3⟩)]
        exact ⟨_, rfl, gg⟩
      · simp (disch := first | omega | assumption | (simp only [Yg, Yh, Yi, Yj] <;> omega) | (simp only [Qk, Ql, Qm, Qn, Qo, Qp, Bool.and_self]) | rfl) only [↓Z0, Z1, ↓Z2, ↓Z3, ↓Z4, ↓Z5, ↓Z6, Z7, ↓Z8, ↓Z9, ↓Za, ↓Zb, Zc, ↓Zd, Ze, Zf, decide_true, decide_false, Zg, Zh, Zi, Zj, Zk, Zl, Zm, Zn, Zo, Zp, Zq, Zr, Zs, Zt, Zu, Zv, Zw, Zx, Zy, Zz, Y0, Y1, Y2, Y3, Y4, Y5, Y6, Y7, Y8, Y9, Ya, Yb, Yc, Yd, Ye, Yf, Yg, Yh, Yi, Yj, Yk, Yl, Ym, Yn, Yo, Yp, Yq, Yr, Ys, Yt, Yu, Yv, Nat.zero_add, Nat.add_zero, ne_eq, not_false_eq_true, reduceCtorEq, Nat.reduceAdd, Nat.reduceEqDiff, Nat.succ_ne_self, Yw, Yx, Yy, Yz, Q0, Q1, ↓Q2, Q3, Q4, Q5, Q6, Q7, Q8, Q9, Qa, Qb, Qc, Qd, Qe, Qf, Qg, Qh, Qi, Qj, hbox, h1, J49_0, J49_1]
        rw [decide_eq_false (show ¬ meets x y from fun h => by rcases h with h | h; exact h1 h; exact h3 h.2)]
        exact ⟨_, rfl, gg⟩
    · simp (disch := first | omega | assumption | (simp only [Yg, Yh, Yi, Yj] <;> omega) | (simp only [Qk, Ql, Qm, Qn, Qo, Qp, Bool.and_self]) | rfl) only [↓Z0, Z1, ↓Z2, ↓Z3, ↓Z4, ↓Z5, ↓Z6, Z7, ↓Z8, ↓Z9, ↓Za, ↓Zb, Zc, ↓Zd, Ze, Zf, decide_true, decide_false, Zg, Zh, Zi, Zj, Zk, Zl, Zm, Zn, Zo, Zp, Zq, Zr, Zs, Zt, Zu, Zv, Zw, Zx, Zy, Zz, Y0, Y1, Y2, Y3, Y4, Y5, Y6, Y7, Y8, Y9, Ya, Yb, Yc, Yd, Ye, Yf, Yg, Yh, Yi, Yj, Yk, Yl, Ym, Yn, Yo, Yp, Yq, Yr, Ys, Yt, Yu, Yv, Nat.zero_add, Nat.add_zero, ne_eq, not_false_eq_true, reduceCtorEq, Nat.reduceAdd, Nat.reduceEqDiff, Nat.succ_ne_self, Yw, Yx, Yy, Yz, Q0, Q1, ↓Q2, Q3, Q4, Q5, Q6, Q7, Q8, Q9, Qa, Qb, Qc, Qd, Qe, Qf, Qg, Qh, Qi, Qj, hbox, h1, J49_0, J49_1]
      rw [decide_eq_false (show ¬ meets x y from fun h => by rcases h with h | h; exact h1 h; exact h2 h.1)]
      exact ⟨_, rfl, gg⟩
/-- What a sector of the entries says, whoever else is there. -/
def addE (cap : Nat) (t : List UInt8) (es : List Ent) (i : Nat) : List Ent :=
  if (readE (secB t i) cap).len ≠ 0 ∧ ∀ y ∈ vols es, ¬ meets (readE (secB t i) cap) y then es.set i (readE (secB t i) cap) else es
def openE (cap : Nat) (t : List UInt8) : List Ent := (List.range 8).foldl (addE cap t) (List.replicate 8 Ent.none)
section
variable {K : Nat} {d : Value} {cap : Nat} {D : DiskP} {s : Nat} {es : List Ent} {t : List UInt8} {F : Nat → Prop} {H : Heap}
theorem readE_ok (b : List UInt8) (n : Nat) : (readE b n).first + (readE b n).len ≤ n ∧ (readE b n).name.length ≤ 16 ∧ (0 < (readE b n).len → 8 ≤ (readE b n).first) := by
  rw [readE]
  split
  · rename_i h
    exact ⟨h.2.2.2.2.2, (good_len h.2.2.1).2, fun _ => h.2.2.2.2.1⟩
  · refine ⟨by simp [Ent.none], by simp [Ent.none], by simp [Ent.none]⟩
theorem addE_wf (h : WfE cap es) (i : Nat) : WfE cap (addE cap t es i) := by
  rw [addE]
  split
  · exact h.set (readE_ok _ _)
  · exact h
theorem addE_len (es : List Ent) (i : Nat) : (addE cap t es i).length = es.length := by
  rw [addE]; split <;> simp
theorem none_wf : WfE cap (List.replicate 8 Ent.none) := ⟨fun e he => by
  rw [List.eq_of_mem_replicate he]; simp [Ent.none]⟩
theorem foldl_wf (l : List Nat) : ∀ es, WfE cap es → es.length = 8 → WfE cap (l.foldl (addE cap t) es) ∧ (l.foldl (addE cap t) es).length = 8 := by
  induction l with
  | nil => exact fun es h h8 => ⟨h, h8⟩
  | cons a l ih => exact fun es h h8 => ih _ (addE_wf h a) (by rw [addE_len]; exact h8)
theorem openE_wf : WfE cap (openE cap t) ∧ (openE cap t).length = 8 := foldl_wf _ _ none_wf rfl
/-- The loop over the volumes that are. -/
theorem meet_loop (k : Nat) (hk : 10 ≤ k) (hc : cap ≤ 1000) {x : Ent} (hx : x.first + x.len ≤ 1000) {i : Nat} (hi : i < 8) (nx : Value → Value → Value → Heap → Option (Value × Heap)) {vs : Value} {ys : List Ent} (hy : ∀ y ∈ ys, y.first + y.len ≤ 1000) {x5 : Value} {px : Nat} (hys : ys.length < 100) : ∀ (m n j : Nat) (z : Int) (H : Heap), z = j → j + m = ys.length → m < n → StoAt H s d cap es → SlAt H vs 3 entC ys → H.blk px = some (.cells #[str x.name, .int .i64 (x.first : Int), .int .i64 (x.len : Int)] 49) → px < H.next → px ≠ s →
    ∃ H' es', L17_1 k nx n (.pointer (some ⟨s, 0, none⟩)) x5 (.int .i64 (i : Int)) (.pointer (some ⟨px, 0, none⟩)) (.int .i64 (i : Int)) vs (.int .i64 (ys.length : Int)) (.int .i64 z) H = J17_0 k nx (.pointer (some ⟨s, 0, none⟩)) x5 (.int .i64 (i : Int)) H' ∧
      es' = (if ∀ y ∈ ys.drop j, ¬ meets x y then es.set i x else es) ∧ (H' = H ∧ False ∨ ∃ G, Grow H G ∧ (H' = G ∧ es' = es ∨ H' = G.set s (.cells (StoreRow d cap es') 93) ∧ es' = es.set i x))
  | 0, n, j, z, H, hz, hj, hn, hs, hv, hb, hl, hne => by
    subst hz
    obtain ⟨n, rfl⟩ : ∃ n', n = n' + 1 := ⟨n - 1, by omega⟩
    rw [L17_1]
    simp (disch := first | omega | assumption | (simp only [Yg, Yh, Yi, Yj] <;> omega) | (simp only [Qk, Ql, Qm, Qn, Qo, Qp, Bool.and_self]) | rfl) only [↓Z0, Z1, ↓Z2, ↓Z3, ↓Z4, ↓Z5, ↓Z6, Z7, ↓Z8, ↓Z9, ↓Za, ↓Zb, Zc, ↓Zd, Ze, Zf, decide_true, decide_false, Zg, Zh, Zi, Zj, Zk, Zl, Zm, Zn, Zo, Zp, Zq, Zr, Zs, Zt, Zu, Zv, Zw, Zx, Zy, Zz, Y0, Y1, Y2, Y3, Y4, Y5, Y6, Y7, Y8, Y9, Ya, Yb, Yc, Yd, Ye, Yf, Yg, Yh, Yi, Yj, Yk, Yl, Ym, Yn, Yo, Yp, Yq, Yr, Ys, Yt, Yu, Yv, Nat.zero_add, Nat.add_zero, ne_eq, not_false_eq_true, reduceCtorEq, Nat.reduceAdd, Nat.reduceEqDiff, Nat.succ_ne_self, Yw, Yx, Yy, Yz, Q0, Q1, ↓Q2, Q3, Q4, Q5, Q6, Q7, Q8, Q9, Qa, Qb, Qc, Qd, Qe, Qf, Qg, Qh, Qi, Qj, hb, hs.blk, idx8 hi]
    rw [show Value.agg #[str x.name, .int .i64 (x.first : Int), .int .i64 (x.len : Int)] = entV x from rfl, put_ent hi hs.e8 hs.fl]
    simp (disch := first | omega | assumption | (simp only [Yg, Yh, Yi, Yj] <;> omega) | (simp only [Qk, Ql, Qm, Qn, Qo, Qp, Bool.and_self]) | rfl) only [↓Z0, Z1, ↓Z2, ↓Z3, ↓Z4, ↓Z5, ↓Z6, Z7, ↓Z8, ↓Z9, ↓Za, ↓Zb, Zc, ↓Zd, Ze, Zf, decide_true, decide_false, Zg, Zh, Zi, Zj, Zk, Zl, Zm, Zn, Zo, Zp, Zq, Zr, Zs, Zt, Zu, Zv, Zw, Zx, Zy, Zz, Y0, Y1, Y2, Y3, Y4, Y5, Y6, Y7, Y8, Y9, Ya, Yb, Yc, Yd, Ye, Yf, Yg, Yh, Yi, Yj, Yk, Yl, Ym, Yn, Yo, Yp, Yq, Yr, Ys, Yt, Yu, Yv, Nat.zero_add, Nat.add_zero, ne_eq, not_false_eq_true, reduceCtorEq, Nat.reduceAdd, Nat.reduceEqDiff, Nat.succ_ne_self, Yw, Yx, Yy, Yz, Q0, Q1, ↓Q2, Q3, Q4, Q5, Q6, Q7, Q8, Q9, Qa, Qb, Qc, Qd, Qe, Qf, Qg, Qh, Qi, Qj]
    rw [List.drop_eq_nil_of_le (by omega), if_pos (fun y hy => by simp at hy)]
    exact ⟨_, _, rfl, rfl, .inr ⟨H, Grow.refl H, .inr ⟨rfl, rfl⟩⟩⟩
  | m + 1, n, j, z, H, hz, hj, hn, hs, hv, hb, hl, hne => by
    subst hz
    obtain ⟨n, rfl⟩ : ∃ n', n = n' + 1 := ⟨n - 1, by omega⟩
    have hjl : j < ys.length := by omega
    have h1 := hs.lt; have h2 := hs.fl
    have hyj := hy ys[j] (List.getElem_mem hjl)
    obtain ⟨b, o, e1, e2, e3, _⟩ := hv.get entC_len (by decide) hjl
    have e3 : (H.blk b).bind (getN 3 o) = some (.agg #[str ys[j].name, .int .i64 (ys[j].first : Int), .int .i64 (ys[j].len : Int)]) := e3
    generalize hA : H.new (.cells #[str ys[j].name, .int .i64 (ys[j].first : Int), .int .i64 (ys[j].len : Int)] 49) = A
    have gA : Grow H A := by rw [← hA]; exact (Grow.refl H).new _
    have nA : A.next = H.next + 1 := by rw [← hA]; rfl
    have bA : A.blk H.next = some (.cells #[str ys[j].name, .int .i64 (ys[j].first : Int), .int .i64 (ys[j].len : Int)] 49) := by rw [← hA, Y9]
    have bx := gA.eqBlk hb hl
    obtain ⟨B, e4, gB⟩ := meets_run (k := k) (by omega) x ys[j] (by omega) (by omega) A
    simp only [entV] at e4
    have nB := gB.next
    have gHB := gA.trans gB
    rw [List.drop_eq_getElem_cons hjl, L17_1]
    by_cases hm : meets x ys[j]
    · rw [decide_eq_true hm] at e4
      simp (disch := first | omega | assumption | (simp only [Yg, Yh, Yi, Yj] <;> omega) | (simp only [Qk, Ql, Qm, Qn, Qo, Qp, Bool.and_self]) | rfl) only [↓Z0, Z1, ↓Z2, ↓Z3, ↓Z4, ↓Z5, ↓Z6, Z7, ↓Z8, ↓Z9, ↓Za, ↓Zb, Zc, ↓Zd, Ze, Zf, decide_true, decide_false, Zg, Zh, Zi, Zj, Zk, Zl, Zm, Zn, Zo, Zp, Zq, Zr, Zs, Zt, Zu, Zv, Zw, Zx, Zy, Zz, Y0, Y1, Y2, Y3, Y4, Y5, Y6, Y7, Y8, Y9, Ya, Yb, Yc, Yd, Ye, Yf, Yg, Yh, Yi, Yj, Yk, Yl, Ym, Yn, Yo, Yp, Yq, Yr, Ys, Yt, Yu, Yv, Nat.zero_add, Nat.add_zero, ne_eq, not_false_eq_true, reduceCtorEq, Nat.reduceAdd, Nat.reduceEqDiff, Nat.succ_ne_self, Yw, Yx, Yy, Yz, Q0, Q1, ↓Q2, Q3, Q4, Q5, Q6, Q7, Q8, Q9, Qa, Qb, Qc, Qd, Qe, Qf, Qg, Qh, Qi, Qj, e1, e3, hA, bx, bA, e4]
      rw [if_neg (fun h => h _ List.mem_cons_self hm)]
      exact ⟨B, es, rfl, rfl, .inr ⟨B, gHB, .inl ⟨rfl, rfl⟩⟩⟩
    · rw [decide_eq_false hm] at e4
      simp (disch := first | omega | assumption | (simp only [Yg, Yh, Yi, Yj] <;> omega) | (simp only [Qk, Ql, Qm, Qn, Qo, Qp, Bool.and_self]) | rfl) only [↓Z0, Z1, ↓Z2, ↓Z3, ↓Z4, ↓Z5, ↓Z6, Z7, ↓Z8, ↓Z9, ↓Za, ↓Zb, Zc, ↓Zd, Ze, Zf, decide_true, decide_false, Zg, Zh, Zi, Zj, Zk, Zl, Zm, Zn, Zo, Zp, Zq, Zr, Zs, Zt, Zu, Zv, Zw, Zx, Zy, Zz, Y0, Y1, Y2, Y3, Y4, Y5, Y6, Y7, Y8, Y9, Ya, Yb, Yc, Yd, Ye, Yf, Yg, Yh, Yi, Yj, Yk, Yl, Ym, Yn, Yo, Yp, Yq, Yr, Ys, Yt, Yu, Yv, Nat.zero_add, Nat.add_zero, ne_eq, not_false_eq_true, reduceCtorEq, Nat.reduceAdd, Nat.reduceEqDiff, Nat.succ_ne_self, Yw, Yx, Yy, Yz, Q0, Q1, ↓Q2, Q3, Q4, Q5, Q6, Q7, Q8, Q9, Qa, Qb, Qc, Qd, Qe, Qf, Qg, Qh, Qi, Qj, e1, e3, hA, bx, bA, e4]
      obtain ⟨H', es', f1, f2, f3⟩ := meet_loop k hk hc hx hi nx hy hys m n (j + 1) _ B rfl (by omega) (by omega) (hs.grow gHB) (hv.grow gHB) (gB.eqBlk bx (by omega)) (by omega) hne
      refine ⟨H', es', f1, ?_, ?_⟩
      · rw [f2]
        have : (∀ y ∈ ys[j] :: ys.drop (j + 1), ¬ meets x y) ↔ (∀ y ∈ ys.drop (j + 1), ¬ meets x y) := by
          constructor
          · exact fun h y hy => h y (List.mem_cons_of_mem _ hy)
          · intro h y hy
            rcases List.mem_cons.1 hy with rfl | hy
            · exact hm
            · exact h y hy
        simp only [this]
      · rcases f3 with f3 | ⟨G, g, f3⟩
        · exact absurd f3.2 id
        · exact .inr ⟨G, gHB.trans g, f3⟩
theorem vols_mem {x : Ent} (h : x ∈ vols es) : x ∈ es := (List.mem_filter.1 h).1
theorem vols_len (es : List Ent) : (vols es).length ≤ es.length := List.length_filter_le _ _
/-- The loop over the entries. -/
theorem open_loop (hd : DiskOk K d cap D) (k : Nat) (hk : 200 ≤ k) (hc : 8 < cap) {t0 : List UInt8} (ht : t0.length = cap * 32) {lo : Heap} (hlo : lo.next ≤ s) : ∀ (m n i : Nat) (z : Int) (es : List Ent) (H : Heap), z = i → i + m = 8 → m < n → Sys d cap D s es t F H → WfE cap es → Grow lo H →
    ∃ H', L17_2 k n (.pointer (some ⟨s, 0, none⟩)) (str (rdB t0 0 8)) (.int .i64 z) H = some (.tuple #[.pointer (some ⟨s, 0, none⟩), .int .i64 0], H') ∧ Sys d cap D s ((List.range' i m).foldl (addE cap t0) es) t F H' ∧ Grow lo H'
  | 0, n, i, z, es, H, hz, hi, hn, hs, hw, hg => by
    subst hz
    obtain ⟨n, rfl⟩ : ∃ n', n = n' + 1 := ⟨n - 1, by omega⟩
    rw [L17_2]
    simp (disch := first | omega | assumption | (simp only [Yg, Yh, Yi, Yj] <;> omega) | (simp only [Qk, Ql, Qm, Qn, Qo, Qp, Bool.and_self]) | rfl) only [↓Z0, Z1, ↓Z2, ↓Z3, ↓Z4, ↓Z5, ↓Z6, Z7, ↓Z8, ↓Z9, ↓Za, ↓Zb, Zc, ↓Zd, Ze, Zf, decide_true, decide_false, Zg, Zh, Zi, Zj, Zk, Zl, Zm, Zn, Zo, Zp, Zq, Zr, Zs, Zt, Zu, Zv, Zw, Zx, Zy, Zz, Y0, Y1, Y2, Y3, Y4, Y5, Y6, Y7, Y8, Y9, Ya, Yb, Yc, Yd, Ye, Yf, Yg, Yh, Yi, Yj, Yk, Yl, Ym, Yn, Yo, Yp, Yq, Yr, Ys, Yt, Yu, Yv, Nat.zero_add, Nat.add_zero, ne_eq, not_false_eq_true, reduceCtorEq, Nat.reduceAdd, Nat.reduceEqDiff, Nat.succ_ne_self, Yw, Yx, Yy, Yz, Q0, Q1, ↓Q2, Q3, Q4, Q5, Q6, Q7, Q8, Q9, Qa, Qb, Qc, Qd, Qe, Qf, Qg, Qh, Qi, Qj]
    exact ⟨H, rfl, hs, hg⟩
  | m + 1, n, i, z, es, H, hz, hi, hn, hs, hw, hg => by
    subst hz
    obtain ⟨n, rfl⟩ : ∃ n', n = n' + 1 := ⟨n - 1, by omega⟩
    have hbig := hd.big
    have hfl := hs.fl
    have hrl : (rdB t0 0 8).length = 256 := by simp only [rdB, List.length_take, List.length_drop]; omega
    have e1 : sliceStr (str (rdB t0 0 8)) (some (.int .i64 ((i : Int) * 32))) (some (.int .i64 (((i : Int) + 1) * 32))) = some (str (secB t0 i)) := by
      have := Y1 (l := rdB t0 0 8) (i := i * 32) (j := (i + 1) * 32) (by omega) (by omega)
      rw [show ((i * 32 : Nat) : Int) = (i : Int) * 32 from by omega, show (((i + 1) * 32 : Nat) : Int) = ((i : Int) + 1) * 32 from by omega] at this
      rw [this]
      congr 2
      simp only [rdB, secB, Nat.zero_mul, List.drop_zero]
      rw [List.drop_take, List.take_take]
      congr 1; omega
    have hsl : (secB t0 i).length = 32 := secB_len ht (by omega)
    obtain ⟨L, e2, gL⟩ := read_run (k := k) (by omega) (secB t0 i) hsl cap (by omega) (H.atFloor H.next) (by rw [Q6, Q5]; exact Nat.le_refl _)
    have gL := gL.quiet
    obtain ⟨r1, r2, r3⟩ := readE_ok (secB t0 i) cap
    generalize hx : readE (secB t0 i) cap = x at e2 r1 r2 r3
    generalize hB : L.atFloor H.floor = B at gL
    have sB := hs.grow hd gL
    have nB := gL.next
    have fB := gL.floor
    have gBA : Grow B (B.new (.cells #[str x.name, .int .i64 (x.first : Int), .int .i64 (x.len : Int)] 49)) := (Grow.refl B).new _
    have sA := sB.grow hd gBA
    have ew : entV x = .agg #[str x.name, .int .i64 (x.first : Int), .int .i64 (x.len : Int)] := rfl
    rw [ew] at e2
    have hfold : (List.range' i (m + 1)).foldl (addE cap t0) es = (List.range' (i + 1) m).foldl (addE cap t0) (addE cap t0 es i) := by
      rw [List.range'_succ]; rfl
    rw [hfold, L17_2]
    by_cases h0 : x.len = 0
    · simp (disch := first | omega | assumption | (simp only [Yg, Yh, Yi, Yj] <;> omega) | (simp only [Qk, Ql, Qm, Qn, Qo, Qp, Bool.and_self]) | rfl) only [↓Z0, Z1, ↓Z2, ↓Z3, ↓Z4, ↓Z5, ↓Z6, Z7, ↓Z8, ↓Z9, ↓Za, ↓Zb, Zc, ↓Zd, Ze, Zf, decide_true, decide_false, Zg, Zh, Zi, Zj, Zk, Zl, Zm, Zn, Zo, Zp, Zq, Zr, Zs, Zt, Zu, Zv, Zw, Zx, Zy, Zz, Y0, Y1, Y2, Y3, Y4, Y5, Y6, Y7, Y8, Y9, Ya, Yb, Yc, Yd, Ye, Yf, Yg, Yh, Yi, Yj, Yk, Yl, Ym, Yn, Yo, Yp, Yq, Yr, Ys, Yt, Yu, Yv, Nat.zero_add, Nat.add_zero, ne_eq, not_false_eq_true, reduceCtorEq, Nat.reduceAdd, Nat.reduceEqDiff, Nat.succ_ne_self, Yw, Yx, Yy, Yz, Q0, Q1, ↓Q2, Q3, Q4, Q5, Q6, Q7, Q8, Q9, Qa, Qb, Qc, Qd, Qe, Qf, Qg, Qh, Qi, Qj, e1, hs.sto.blk, get_n, e2, hB, J17_0]
      have hadd : addE cap t0 es i = es := by rw [addE, hx, if_neg (fun h => h.1 h0)]
      obtain ⟨H', f1, f2, f3⟩ := open_loop hd k hk hc ht hlo m n (i + 1) _ es (B.new (.cells #[str x.name, .int .i64 (x.first : Int), .int .i64 (x.len : Int)] 49)) rfl (by omega) (by omega) sA hw ((hg.trans gL).trans gBA)
      rw [hadd]
      exact ⟨H', f1, f2, f3⟩
    · obtain ⟨v, C, e3, o3, gC⟩ := vols_run (k := k) sA.sto (by omega)
      have sC := sA.grow hd gC
      have bx := gC.eqBlk (Y9 B (.cells #[str x.name, .int .i64 (x.first : Int), .int .i64 (x.len : Int)] 49)) (by simp only [Yg]; omega)
      have nC := gC.next
      simp only [Yg] at nC
      have hvl := vols_len es
      have h8 := hs.sto.e8
      have sl := o3.sl entC_len
      obtain ⟨H', es', f1, f2, f3⟩ := meet_loop k (by omega) hbig (x := x) (by omega) (show i < 8 by omega) (L17_2 k n) (ys := vols es) (fun y hy => hw.le hd y (vols_mem hy)) (x5 := str (rdB t0 0 8)) (px := B.next) (by omega) (vols es).length k 0 _ C rfl (by omega) (by omega) sC.sto sl bx (by omega) (by have := sB.sto.lt; omega)
      have hadd : es' = addE cap t0 es i := by
        rw [f2, addE, hx, List.drop_zero]
        simp [h0]
      simp (disch := first | omega | assumption | (simp only [Yg, Yh, Yi, Yj] <;> omega) | (simp only [Qk, Ql, Qm, Qn, Qo, Qp, Bool.and_self]) | rfl) only [↓Z0, Z1, ↓Z2, ↓Z3, ↓Z4, ↓Z5, ↓Z6, Z7, ↓Z8, ↓Z9, ↓Za, ↓Zb, Zc, ↓Zd, Ze, Zf, decide_true, decide_false, Zg, Zh, Zi, Zj, Zk, Zl, Zm, Zn, Zo, Zp, Zq, Zr, Zs, Zt, Zu, Zv, Zw, Zx, Zy, Zz, Y0, Y1, Y2, Y3, Y4, Y5, Y6, Y7, Y8, Y9, Ya, Yb, Yc, Yd, Ye, Yf, Yg, Yh, Yi, Yj, Yk, Yl, Ym, Yn, Yo, Yp, Yq, Yr, Ys, Yt, Yu, Yv, Nat.zero_add, Nat.add_zero, ne_eq, not_false_eq_true, reduceCtorEq, Nat.reduceAdd, Nat.reduceEqDiff, Nat.succ_ne_self, Yw, Yx, Yy, Yz, Q0, Q1, ↓Q2, Q3, Q4, Q5, Q6, Q7, Q8, Q9, Qa, Qb, Qc, Qd, Qe, Qf, Qg, Qh, Qi, Qj, e1, hs.sto.blk, get_n, e2, hB, e3, sl.len]
      have f1 : L17_1 k (L17_2 k n) k (.pointer (some ⟨s, 0, none⟩)) (str (rdB t0 0 8)) (.int .i64 (i : Int)) (.pointer (some ⟨B.next, 0, none⟩)) (.int .i64 (i : Int)) v (.int .i64 ((vols es).length : Int)) (.int .i64 0) C = _ := f1
      rw [f1, J17_0]
      simp (disch := first | omega | assumption | (simp only [Yg, Yh, Yi, Yj] <;> omega) | (simp only [Qk, Ql, Qm, Qn, Qo, Qp, Bool.and_self]) | rfl) only [↓Z0, Z1, ↓Z2, ↓Z3, ↓Z4, ↓Z5, ↓Z6, Z7, ↓Z8, ↓Z9, ↓Za, ↓Zb, Zc, ↓Zd, Ze, Zf, decide_true, decide_false, Zg, Zh, Zi, Zj, Zk, Zl, Zm, Zn, Zo, Zp, Zq, Zr, Zs, Zt, Zu, Zv, Zw, Zx, Zy, Zz, Y0, Y1, Y2, Y3, Y4, Y5, Y6, Y7, Y8, Y9, Ya, Yb, Yc, Yd, Ye, Yf, Yg, Yh, Yi, Yj, Yk, Yl, Ym, Yn, Yo, Yp, Yq, Yr, Ys, Yt, Yu, Yv, Nat.zero_add, Nat.add_zero, ne_eq, not_false_eq_true, reduceCtorEq, Nat.reduceAdd, Nat.reduceEqDiff, Nat.succ_ne_self, Yw, Yx, Yy, Yz, Q0, Q1, ↓Q2, Q3, Q4, Q5, Q6, Q7, Q8, Q9, Qa, Qb, Qc, Qd, Qe, Qf, Qg, Qh, Qi, Qj]
      have hs' : Sys d cap D s es' t F H' ∧ Grow lo H' := by
        rcases f3 with f3 | ⟨G, g, f3 | f3⟩
        · exact absurd f3.2 id
        · obtain ⟨rfl, rfl⟩ := f3
          exact ⟨sC.grow hd g, ((hg.trans gL).trans gBA).trans (gC.trans g)⟩
        · obtain ⟨rfl, rfl⟩ := f3
          exact ⟨(sC.grow hd g).setE hd i x, (((hg.trans gL).trans gBA).trans (gC.trans g)).set hlo _⟩
      rw [hadd] at hs'
      obtain ⟨H2, q1, q2, q3⟩ := open_loop hd k hk hc ht hlo m n (i + 1) _ (addE cap t0 es i) H' rfl (by omega) (by omega) hs'.1 (addE_wf hw i) hs'.2
      exact ⟨H2, q1, q2, q3⟩
theorem build93 (ty : TypeId) (a : Option Addr) (n : Int) : pBuild Tryz.prog 93 [(0, .iface ty (.pointer a)), (1, .int .i64 n)] = some (.agg (.iface ty (.pointer a) :: .int .i64 n :: (List.replicate 8 Ent.none).flatMap entC).toArray) := by kernel_rfl
theorem open_run (hd : DiskOk K d cap D) (hc : 8 < cap) {k : Nat} (hk : K + 300 ≤ k) (hD : D t F H) (hfl : H.floor ≤ H.next) :
    ∃ s F' H', run Tryz.prog k 17 #[d] H = some (.tuple #[.pointer (some ⟨s, 0, none⟩), .int .i64 0], H') ∧ Sys d cap D s (openE cap t) t F' H' ∧ Foot F F' H H' ∧ H.next ≤ s := by
  obtain ⟨k, rfl⟩ : ∃ k', k = k' + 1 := ⟨k - 1, by omega⟩
  have hbig := hd.big
  obtain ⟨F1, H1, e1, d1, f1⟩ := hd.sectors (k := k) (by omega) hD hfl
  have n1 := f1.chg.next; have k1 := f1.chg.floor
  have g2 : Grow H1 (H1.new (.cells (StoreRow d cap (List.replicate 8 Ent.none)) 93)) := (Grow.refl H1).new _
  have lF : ¬ F1 H1.next := fun hh => by have := hd.lt d1 _ hh; omega
  have s2 : Sys d cap D H1.next (List.replicate 8 Ent.none) t F1 (H1.new (.cells (StoreRow d cap (List.replicate 8 Ent.none)) 93)) :=
    ⟨⟨Y9 _ _, by simp only [Yg]; omega, by simp only [Yh]; omega, rfl⟩, hd.grow d1 g2, lF⟩
  obtain ⟨fa, F3, H3, e3, e4, d3, f3⟩ := hd.read (k := k) 0 8 (by omega) s2.dsk s2.fl
  have hr : isRight cap 0 8 := ⟨by omega, by omega, by omega, by omega⟩
  rw [rdI, if_pos hr] at e4
  have s3 := s2.disk d3 f3
  have n3 := f3.chg.next
  simp only [Yg] at n3
  obtain ⟨H4, e5, s5, g5⟩ := open_loop hd k (by omega) hc (hd.len hD) (lo := ⟨H3.blk, H1.next, H3.floor⟩) (s := H1.next) (Nat.le_refl _) 8 k 0 _ (List.replicate 8 Ent.none) H3 rfl rfl (by omega) s3 none_wf ⟨by simp only; omega, rfl, fun _ _ => rfl⟩
  have hb : pBuild Tryz.prog 93 [(0, d), (1, .int .i64 (cap : Int))] = some (.agg (StoreRow d cap (List.replicate 8 Ent.none))) := by
    obtain ⟨ty, a, rfl⟩ := hd.iface
    exact build93 ty (some a) cap
  have hbox : pBox 93 (.agg (StoreRow d cap (List.replicate 8 Ent.none))) H1 = some (.pointer (some ⟨H1.next, 0, none⟩), H1.new (.cells (StoreRow d cap (List.replicate 8 Ent.none)) 93)) := rfl
  rw [run17, F17]
  simp (disch := first | omega | assumption | (simp only [Yg, Yh, Yi, Yj] <;> omega) | (simp only [Qk, Ql, Qm, Qn, Qo, Qp, Bool.and_self]) | rfl) only [↓Z0, Z1, ↓Z2, ↓Z3, ↓Z4, ↓Z5, ↓Z6, Z7, ↓Z8, ↓Z9, ↓Za, ↓Zb, Zc, ↓Zd, Ze, Zf, decide_true, decide_false, Zg, Zh, Zi, Zj, Zk, Zl, Zm, Zn, Zo, Zp, Zq, Zr, Zs, Zt, Zu, Zv, Zw, Zx, Zy, Zz, Y0, Y1, Y2, Y3, Y4, Y5, Y6, Y7, Y8, Y9, Ya, Yb, Yc, Yd, Ye, Yf, Yg, Yh, Yi, Yj, Yk, Yl, Ym, Yn, Yo, Yp, Yq, Yr, Ys, Yt, Yu, Yv, Nat.zero_add, Nat.add_zero, ne_eq, not_false_eq_true, reduceCtorEq, Nat.reduceAdd, Nat.reduceEqDiff, Nat.succ_ne_self, Yw, Yx, Yy, Yz, Q0, Q1, ↓Q2, Q3, Q4, Q5, Q6, Q7, Q8, Q9, Qa, Qb, Qc, Qd, Qe, Qf, Qg, Qh, Qi, Qj, e1, hb, hbox, get_n, e3, e4]
  refine ⟨H1.next, F3, H4, e5, ?_, ?_, n1⟩
  · rw [show List.range' 0 8 = List.range 8 from rfl] at s5
    exact s5
  · have ff := (f1.trans (Foot.of_grow g2)).trans f3
    have n4 := g5.next
    simp only at n4
    refine ⟨⟨Nat.le_trans n1 n4, g5.floor.trans ff.chg.floor, fun n hn hs => ?_⟩, ff.new⟩
    exact (g5.old n (by simp only; omega)).trans (ff.chg.old n hn hs)
end
end Go.PG

namespace Go.PG
open Go.Proofs

theorem build84s (a : Option Addr) (n c : Nat) (H : Heap) : pBuildSlice Tryz.prog 84 1 [(0, .slice a n c)] H = some (.slice (some ⟨H.next, 0, none⟩) 1 1, H.new (.cells #[.slice a n c] 57)) := by kernel_rfl
theorem build86 : pBuild Tryz.prog 86 [] = some (.agg #[.slice none 0 0]) := by kernel_rfl
def secC (s : Nat) : List Value := [secV s]
theorem secC_flat (ss : List Nat) : ss.flatMap secC = ss.map secV := by
  induction ss with
  | nil => rfl
  | cons a l ih => rw [List.flatMap_cons, ih]; rfl
def zeroRow : Array Value := Array.replicate 32 (.int .u8 0)
theorem put_one {H : Heap} {n : Nat} {v x : Value} {t : TypeId} (hf : H.floor ≤ n) (h1 : oneC v = true) (h2 : v.cells = #[v]) : putN H n 0 v 1 (.cells #[x] t) = some (H.set n (.cells #[v] t)) := by
  simp [putN, row_cells, h2, hf, h1, setL, Blk.put]
theorem new_loop (k : Nat) {p c : Nat} (hc : c ≤ 512) {H0 : Heap} (hp : H0.next ≤ p) (hf0 : H0.floor ≤ H0.next) : ∀ (m n i : Nat) (z : Int) (v : Value) (ss : List Nat) (H : Heap), z = i → i + m = c → m < n → Grow H0 H → p < H.next → H.blk p = some (.cells #[v] 86) → OwnAt (p + 1) H v 57 secC ss → ss.length = i →
    (∀ s ∈ ss, p < s ∧ s < H.next ∧ H.blk s = some (.cells zeroRow 5)) →
    ∃ v' ss' H', L13_0 k n (.pointer (some ⟨p, 0, none⟩)) (.int .i64 (c : Int)) (.int .i64 z) H = some (.tuple #[.pointer (some ⟨p, 0, none⟩), .int .i64 0], H') ∧ Grow H0 H' ∧ p < H'.next ∧ H'.blk p = some (.cells #[v'] 86) ∧ OwnAt (p + 1) H' v' 57 secC ss' ∧ ss'.length = c ∧
      (∀ s ∈ ss', p < s ∧ s < H'.next ∧ H'.blk s = some (.cells zeroRow 5))
  | 0, n, i, z, v, ss, H, hz, hi, hn, hg, hpl, hb, hv, hl, hs => by
    subst hz
    obtain ⟨n, rfl⟩ : ∃ n', n = n' + 1 := ⟨n - 1, by omega⟩
    rw [L13_0]
    simp (disch := first | omega | assumption | (simp only [Yg, Yh, Yi, Yj] <;> omega) | (simp only [Qk, Ql, Qm, Qn, Qo, Qp, Bool.and_self]) | rfl) only [↓Z0, Z1, ↓Z2, ↓Z3, ↓Z4, ↓Z5, ↓Z6, Z7, ↓Z8, ↓Z9, ↓Za, ↓Zb, Zc, ↓Zd, Ze, Zf, decide_true, decide_false, Zg, Zh, Zi, Zj, Zk, Zl, Zm, Zn, Zo, Zp, Zq, Zr, Zs, Zt, Zu, Zv, Zw, Zx, Zy, Zz, Y0, Y1, Y2, Y3, Y4, Y5, Y6, Y7, Y8, Y9, Ya, Yb, Yc, Yd, Ye, Yf, Yg, Yh, Yi, Yj, Yk, Yl, Ym, Yn, Yo, Yp, Yq, Yr, Ys, Yt, Yu, Yv, Nat.zero_add, Nat.add_zero, ne_eq, not_false_eq_true, reduceCtorEq, Nat.reduceAdd, Nat.reduceEqDiff, Nat.succ_ne_self, Yw, Yx, Yy, Yz, Q0, Q1, ↓Q2, Q3, Q4, Q5, Q6, Q7, Q8, Q9, Qa, Qb, Qc, Qd, Qe, Qf, Qg, Qh, Qi, Qj]
    exact ⟨v, ss, H, rfl, hg, hpl, hb, hv, by omega, hs⟩
  | m + 1, n, i, z, v, ss, H, hz, hi, hn, hg, hpl, hb, hv, hl, hs => by
    subst hz
    obtain ⟨n, rfl⟩ : ∃ n', n = n' + 1 := ⟨n - 1, by omega⟩
    have hfl := hg.floor
    have g1 : Grow H (H.new (.cells zeroRow 5)) := (Grow.refl _).new _
    obtain ⟨v1, H1, e1, o1, c1, _⟩ := OwnAt.app10 (bytes := 24) (t := 57) (x := H.next) (c := #[secV H.next]) (f := secC) (n := 1) (fun _ => rfl) (by decide) (fun _ => rfl) (hv.grow g1) rfl (by omega) (by omega) (by simp only [Yh]; omega) (by simp only [Yg]; omega)
    have hk := c1.next; have hk2 := c1.floor
    simp only [Yg, Yh] at hk hk2 e1
    have hpn : ¬ ownB v p := fun h => by have := hv.ownB_ge h; omega
    have hcells : ∀ s, (H.new (.cells zeroRow 5)).blk s = some (.cells zeroRow 5) → ¬ ownB v s := fun s h hm => by
      obtain ⟨len, rfl⟩ := hm
      rcases hv.grow g1 with ⟨h2, _⟩ | ⟨b, h2, _⟩ | ⟨b, h2, h3, _⟩
      · cases h2
      · simp only [Value.slice.injEq] at h2; exact absurd h2.2.2 (by unfold capU; omega)
      · simp only [Value.slice.injEq, Option.some.injEq, Addr.mk.injEq] at h2
        rw [← h2.1.1, h] at h3; cases h3
    have hbp : H1.blk p = some (.cells #[v] 86) := by rw [c1.old p (by simp only [Yg]; omega) hpn, Yd (by omega), hb]
    have h1v : oneC v1 = true ∧ v1.cells = #[v1] := by
      rcases o1 with ⟨rfl, _⟩ | ⟨b, rfl, _⟩ | ⟨b, rfl, _⟩ <;> exact ⟨rfl, rfl⟩
    have pr := put_one (H := H1) (n := p) (v := v1) (x := v) (t := 86) (by omega) h1v.1 h1v.2
    rw [L13_0]
    simp (disch := first | omega | assumption | (simp only [Yg, Yh, Yi, Yj] <;> omega) | (simp only [Qk, Ql, Qm, Qn, Qo, Qp, Bool.and_self]) | rfl) only [↓Z0, Z1, ↓Z2, ↓Z3, ↓Z4, ↓Z5, ↓Z6, Z7, ↓Z8, ↓Z9, ↓Za, ↓Zb, Zc, ↓Zd, Ze, Zf, decide_true, decide_false, Zg, Zh, Zi, Zj, Zk, Zl, Zm, Zn, Zo, Zp, Zq, Zr, Zs, Zt, Zu, Zv, Zw, Zx, Zy, Zz, Y0, Y1, Y2, Y3, Y4, Y5, Y6, Y7, Y8, Y9, Ya, Yb, Yc, Yd, Ye, Yf, Yg, Yh, Yi, Yj, Yk, Yl, Ym, Yn, Yo, Yp, Yq, Yr, Ys, Yt, Yu, Yv, Nat.zero_add, Nat.add_zero, ne_eq, not_false_eq_true, reduceCtorEq, Nat.reduceAdd, Nat.reduceEqDiff, Nat.succ_ne_self, Yw, Yx, Yy, Yz, Q0, Q1, ↓Q2, Q3, Q4, Q5, Q6, Q7, Q8, Q9, Qa, Qb, Qc, Qd, Qe, Qf, Qg, Qh, Qi, Qj, hb, mk32, build84s]
    rw [show Value.slice (some ⟨H.next, 0, none⟩) 32 32 = secV H.next from rfl, show Array.replicate 32 (Value.int .u8 0) = zeroRow from rfl, e1]
    simp (disch := first | omega | assumption | (simp only [Yg, Yh, Yi, Yj] <;> omega) | (simp only [Qk, Ql, Qm, Qn, Qo, Qp, Bool.and_self]) | rfl) only [↓Z0, Z1, ↓Z2, ↓Z3, ↓Z4, ↓Z5, ↓Z6, Z7, ↓Z8, ↓Z9, ↓Za, ↓Zb, Zc, ↓Zd, Ze, Zf, decide_true, decide_false, Zg, Zh, Zi, Zj, Zk, Zl, Zm, Zn, Zo, Zp, Zq, Zr, Zs, Zt, Zu, Zv, Zw, Zx, Zy, Zz, Y0, Y1, Y2, Y3, Y4, Y5, Y6, Y7, Y8, Y9, Ya, Yb, Yc, Yd, Ye, Yf, Yg, Yh, Yi, Yj, Yk, Yl, Ym, Yn, Yo, Yp, Yq, Yr, Ys, Yt, Yu, Yv, Nat.zero_add, Nat.add_zero, ne_eq, not_false_eq_true, reduceCtorEq, Nat.reduceAdd, Nat.reduceEqDiff, Nat.succ_ne_self, Yw, Yx, Yy, Yz, Q0, Q1, ↓Q2, Q3, Q4, Q5, Q6, Q7, Q8, Q9, Qa, Qb, Qc, Qd, Qe, Qf, Qg, Qh, Qi, Qj, hbp, pr]
    have hss : ∀ s ∈ ss ++ [H.next], p < s ∧ s < (H1.set p (.cells #[v1] 86)).next ∧ (H1.set p (.cells #[v1] 86)).blk s = some (.cells zeroRow 5) := by
      intro s hm
      rcases List.mem_append.1 hm with hm | hm
      · obtain ⟨a1, a2, a3⟩ := hs s hm
        have h4 : (H.new (.cells zeroRow 5)).blk s = some (.cells zeroRow 5) := by rw [Yd (by omega), a3]
        refine ⟨a1, by simp only [Yi]; omega, ?_⟩
        rw [Yf (by omega), c1.old s (by simp only [Yg]; omega) (hcells s h4), h4]
      · have : s = H.next := by simpa using hm
        subst this
        refine ⟨by omega, by simp only [Yi]; omega, ?_⟩
        rw [Yf (by omega), c1.old _ (by simp only [Yg]; omega) (hcells _ (Y9 _ _)), Y9]
    have hg1 : Grow H0 H1 := (hg.trans g1).keep (lo := p + 1) (by omega) ((hv.grow g1).keep c1)
    have ho : OwnAt (p + 1) (H1.set p (.cells #[v1] 86)) v1 57 secC (ss ++ [H.next]) := by
      rcases o1 with h | h | ⟨b, h1, h2, h3, h4⟩
      · exact .inl h
      · exact .inr (.inl h)
      · exact .inr (.inr ⟨b, h1, by rw [Yf (by omega), h2], h3, h4⟩)
    exact new_loop k hc hp hf0 m n (i + 1) _ v1 (ss ++ [H.next]) _ rfl (by omega) (by omega) (hg1.set hp _) (by simp only [Yi]; omega) (Ye rfl) ho (by simp [hl]) hss
theorem new_bad {k : Nat} (c : Int) (h : ¬ (1 ≤ c ∧ c ≤ 512)) (H : Heap) : run Tryz.prog (k + 1) 13 #[.int .i64 c] H = some (.tuple #[.pointer none, .int .i64 1], H) := by
  rw [run13, F13]
  by_cases h1 : c < 1
  · simp (disch := first | omega | assumption | (simp only [Yg, Yh, Yi, Yj] <;> omega) | (simp only [Qk, Ql, Qm, Qn, Qo, Qp, Bool.and_self]) | rfl) only [↓Z0, Z1, ↓Z2, ↓Z3, ↓Z4, ↓Z5, ↓Z6, Z7, ↓Z8, ↓Z9, ↓Za, ↓Zb, Zc, ↓Zd, Ze, Zf, decide_true, decide_false, Zg, Zh, Zi, Zj, Zk, Zl, Zm, Zn, Zo, Zp, Zq, Zr, Zs, Zt, Zu, Zv, Zw, Zx, Zy, Zz, Y0, Y1, Y2, Y3, Y4, Y5, Y6, Y7, Y8, Y9, Ya, Yb, Yc, Yd, Ye, Yf, Yg, Yh, Yi, Yj, Yk, Yl, Ym, Yn, Yo, Yp, Yq, Yr, Ys, Yt, Yu, Yv, Nat.zero_add, Nat.add_zero, ne_eq, not_false_eq_true, reduceCtorEq, Nat.reduceAdd, Nat.reduceEqDiff, Nat.succ_ne_self, Yw, Yx, Yy, Yz, Q0, Q1, ↓Q2, Q3, Q4, Q5, Q6, Q7, Q8, Q9, Qa, Qb, Qc, Qd, Qe, Qf, Qg, Qh, Qi, Qj, J13_1, h1]
  · simp (disch := first | omega | assumption | (simp only [Yg, Yh, Yi, Yj] <;> omega) | (simp only [Qk, Ql, Qm, Qn, Qo, Qp, Bool.and_self]) | rfl) only [↓Z0, Z1, ↓Z2, ↓Z3, ↓Z4, ↓Z5, ↓Z6, Z7, ↓Z8, ↓Z9, ↓Za, ↓Zb, Zc, ↓Zd, Ze, Zf, decide_true, decide_false, Zg, Zh, Zi, Zj, Zk, Zl, Zm, Zn, Zo, Zp, Zq, Zr, Zs, Zt, Zu, Zv, Zw, Zx, Zy, Zz, Y0, Y1, Y2, Y3, Y4, Y5, Y6, Y7, Y8, Y9, Ya, Yb, Yc, Yd, Ye, Yf, Yg, Yh, Yi, Yj, Yk, Yl, Ym, Yn, Yo, Yp, Yq, Yr, Ys, Yt, Yu, Yv, Nat.zero_add, Nat.add_zero, ne_eq, not_false_eq_true, reduceCtorEq, Nat.reduceAdd, Nat.reduceEqDiff, Nat.succ_ne_self, Yw, Yx, Yy, Yz, Q0, Q1, ↓Q2, Q3, Q4, Q5, Q6, Q7, Q8, Q9, Qa, Qb, Qc, Qd, Qe, Qf, Qg, Qh, Qi, Qj, J13_1, h1]
theorem zero_sec {c i : Nat} (h : i < c) : (secB (List.replicate (c * 32) 0) i).flatMap byteC = zeroRow.toList := by
  rw [secB, List.drop_replicate, List.take_replicate, Nat.min_eq_left (by omega), flat_byte]
  simp [zeroRow]
theorem new_run {k : Nat} (hk : 600 ≤ k) (c : Nat) (h1 : 1 ≤ c) (h2 : c ≤ 512) (H : Heap) (hf : H.floor ≤ H.next) :
    ∃ p F H', run Tryz.prog k 13 #[.int .i64 (c : Int)] H = some (.tuple #[.pointer (some ⟨p, 0, none⟩), .int .i64 0], H') ∧ ArrD p c (List.replicate (c * 32) 0) F H' ∧ Grow H H' ∧ ∀ n, F n → H.next ≤ n := by
  obtain ⟨k, rfl⟩ : ∃ k', k = k' + 1 := ⟨k - 1, by omega⟩
  obtain ⟨v', ss', H', e, g, hp, hb, ho, hl, hs⟩ := new_loop k (p := H.next) h2 (H0 := H) (Nat.le_refl _) hf c k 0 _ (.slice none 0 0) [] (H.new (.cells #[.slice none 0 0] 86)) rfl (by omega) (by omega) ((Grow.refl _).new _) (by simp only [Yg]; omega) (Y9 _ _) (.inl ⟨rfl, rfl⟩) rfl (fun s h => absurd h (by simp))
  have e2 : pBox 86 (.agg #[.slice none 0 0]) H = some (.pointer (some ⟨H.next, 0, none⟩), H.new (.cells #[.slice none 0 0] 86)) := rfl
  rw [run13, F13]
  simp (disch := first | omega | assumption | (simp only [Yg, Yh, Yi, Yj] <;> omega) | (simp only [Qk, Ql, Qm, Qn, Qo, Qp, Bool.and_self]) | rfl) only [↓Z0, Z1, ↓Z2, ↓Z3, ↓Z4, ↓Z5, ↓Z6, Z7, ↓Z8, ↓Z9, ↓Za, ↓Zb, Zc, ↓Zd, Ze, Zf, decide_true, decide_false, Zg, Zh, Zi, Zj, Zk, Zl, Zm, Zn, Zo, Zp, Zq, Zr, Zs, Zt, Zu, Zv, Zw, Zx, Zy, Zz, Y0, Y1, Y2, Y3, Y4, Y5, Y6, Y7, Y8, Y9, Ya, Yb, Yc, Yd, Ye, Yf, Yg, Yh, Yi, Yj, Yk, Yl, Ym, Yn, Yo, Yp, Yq, Yr, Ys, Yt, Yu, Yv, Nat.zero_add, Nat.add_zero, ne_eq, not_false_eq_true, reduceCtorEq, Nat.reduceAdd, Nat.reduceEqDiff, Nat.succ_ne_self, Yw, Yx, Yy, Yz, Q0, Q1, ↓Q2, Q3, Q4, Q5, Q6, Q7, Q8, Q9, Qa, Qb, Qc, Qd, Qe, Qf, Qg, Qh, Qi, Qj, J13_1, build86, e2]
  rcases ho with ⟨_, rfl⟩ | ⟨b, _, rfl⟩ | ⟨q, rfl, hq, hq1, hq2⟩
  · simp at hl; omega
  · simp at hl; omega
  · rw [secC_flat] at hq
    refine ⟨H.next, fun n => n = H.next ∨ n = q ∨ n ∈ ss', H', e, ⟨q, ss', ⟨hb, hq, hp, hq2, by have := g.floor; omega, fun i hi => ?_, by rw [hl]; simp, fun n => Iff.rfl⟩, hl⟩, g, fun n hn => ?_⟩
    · obtain ⟨a1, a2, a3⟩ := hs ss'[i] (List.getElem_mem hi)
      refine ⟨a2, ?_⟩
      rw [a3, zero_sec (by omega), Array.toArray_toList]
    · rcases hn with rfl | rfl | hn
      · exact Nat.le_refl _
      · omega
      · have := (hs n hn).1; omega
end Go.PG

namespace Go.PG
open Go.Proofs

theorem rdB_same {t : List UInt8} {a n : Nat} (h : (a + n) * 32 ≤ t.length) (d : List UInt8) : rdB (wrB t a n d) a n = padTo (n * 32) d := by
  have h1 : (t.take (a * 32)).length = a * 32 := by rw [List.length_take]; omega
  rw [rdB, wrB, List.append_assoc, List.drop_left' h1, List.take_left' (padTo_len _ _)]
theorem rdB_other {t : List UInt8} {a n b m : Nat} (h : (a + n) * 32 ≤ t.length) (hd : b + m ≤ a ∨ a + n ≤ b) (d : List UInt8) : rdB (wrB t a n d) b m = rdB t b m := by
  have h1 : (t.take (a * 32)).length = a * 32 := by rw [List.length_take]; omega
  have h2 : (t.take (a * 32) ++ padTo (n * 32) d).length = (a + n) * 32 := by rw [List.length_append, h1, padTo_len]; omega
  rcases hd with hd | hd
  · rw [rdB, wrB, List.append_assoc, List.drop_append_of_le_length (by omega), List.take_append_of_le_length (by rw [List.length_drop]; omega), List.drop_take, List.take_take, Nat.min_eq_left (by omega)]; rfl
  · rw [rdB, wrB, show b * 32 = (a + n) * 32 + (b - (a + n)) * 32 from by omega, ← List.drop_drop, List.drop_left' h2, List.drop_drop]
    rw [rdB]
    congr 2; omega
theorem rdB_sec (t : List UInt8) (i : Nat) : rdB t i 1 = secB t i := by rw [rdB, secB, Nat.one_mul]
theorem secB_other {t : List UInt8} {a n i : Nat} (h : (a + n) * 32 ≤ t.length) (hd : i < a ∨ a + n ≤ i) (d : List UInt8) : secB (wrB t a n d) i = secB t i := by
  rw [← rdB_sec, rdB_other h (by omega), rdB_sec]
theorem wr_len {t : List UInt8} {a n : Nat} (h : (a + n) * 32 ≤ t.length) (d : List UInt8) : (wrB t a n d).length = t.length := by
  simp only [wrB, List.length_append, List.length_take, List.length_drop, padTo_len]; omega
/-! ### What lies behind a heap -/
def Far (H : Heap) (F : Nat → Prop) : Prop := ∀ n, F n → H.next ≤ n
theorem Foot.far {H A B : Heap} {F F' : Nat → Prop} (f : Foot F F' A B) (g : Grow H A) (h : Far H F) : Grow H B ∧ Far H F' :=
  ⟨⟨Nat.le_trans g.next f.chg.next, f.chg.floor.trans g.floor, fun n hn => (f.chg.old n (Nat.lt_of_lt_of_le hn g.next) fun hf => by have := h n hf; omega).trans (g.old n hn)⟩,
   fun n hf => by
    rcases f.new n hf with h1 | h1
    · exact h n h1
    · exact Nat.le_trans g.next h1⟩
theorem Far.or {H : Heap} {F : Nat → Prop} (h : Far H F) {s : Nat} (hs : H.next ≤ s) : Far H (orS s F) := fun n hn => by
  rcases hn with hn | rfl
  · exact h n hn
  · exact hs
/-! ### An empty disk has no entries -/
theorem laidB_head (x : Ent) : ∃ l, laidB x = 86 :: l := ⟨_, rfl⟩
theorem readE_zero (n : Nat) : readE (List.replicate 32 0) n = Ent.none := by
  rw [readE, if_neg]
  rintro ⟨_, h, _⟩
  obtain ⟨l, hl⟩ := laidB_head (entOf (List.replicate 32 0))
  rw [hl] at h
  exact absurd (List.cons.inj h).1 (by decide)
theorem secB_zero {c i : Nat} (h : i < c) : secB (List.replicate (c * 32) 0) i = List.replicate 32 0 := by
  rw [secB, List.drop_replicate, List.take_replicate, Nat.min_eq_left (by omega)]
theorem openE_zero {cap : Nat} (h : 8 < cap) : openE cap (List.replicate (cap * 32) 0) = List.replicate 8 Ent.none := by
  have : ∀ (l : List Nat) (es : List Ent), (∀ i ∈ l, i < 8) → l.foldl (addE cap (List.replicate (cap * 32) 0)) es = es := by
    intro l
    induction l with
    | nil => intros; rfl
    | cons a l ih =>
      intro es ha
      rw [List.foldl_cons]
      have e : addE cap (List.replicate (cap * 32) 0) es a = es := by
        rw [addE, secB_zero (by have := ha a List.mem_cons_self; omega), readE_zero, if_neg (fun h => h.1 rfl)]
      rw [e]
      exact ih es fun i hi => ha i (List.mem_cons_of_mem _ hi)
  exact this _ _ fun i hi => List.mem_range.1 hi
end Go.PG

namespace Go.PG
open Go.Proofs

def nmA : List UInt8 := [97]
def nmB : List UInt8 := [98]
def nmE : List UInt8 := [195, 169]
def aw0 : List UInt8 := List.replicate (20 * 32) 0
def awE0 : List Ent := List.replicate 8 Ent.none
def aw1 : Res := createP 20 awE0 aw0 nmA 4
def aw2 : Res := createP 20 aw1.2.1 aw1.2.2 nmB 6
def aw3 : Value × List UInt8 := writeP 20 aw2.2.1 aw2.2.2 nmA 0 1 [104, 105]
def aw4 : Res := deleteP aw2.2.1 aw3.2 nmB
def aw5 : Res := cloneP 20 aw4.2.1 aw4.2.2 nmA nmE
def aw6 : Value := readP 20 aw5.2.1 aw5.2.2 nmE 0 1
def aw7 : Res := renameP aw5.2.1 aw5.2.2 nmA nmB
theorem aw1a : aw1.1 = 0 := by decide +kernel
theorem aw1b : aw1.2.1 = [⟨nmA, 8, 4⟩] ++ List.replicate 7 Ent.none := by decide +kernel
theorem aw2a : aw2.1 = 0 := by decide +kernel
theorem aw2b : aw2.2.1 = [⟨nmA, 8, 4⟩, ⟨nmB, 12, 6⟩] ++ List.replicate 6 Ent.none := by decide +kernel
theorem aw3a : aw3.1 = .int .i64 0 := by
  unfold aw3 writeP
  rw [aw2b, if_pos (by decide +kernel), okI, if_pos (by decide +kernel)]
theorem aw4a : aw4.1 = 0 := by decide +kernel
theorem aw4b : aw4.2.1 = [⟨nmA, 8, 4⟩] ++ List.replicate 7 Ent.none := by decide +kernel
theorem aw5a : aw5.1 = 0 := by decide +kernel
theorem aw5b : aw5.2.1 = [⟨nmA, 8, 4⟩, ⟨nmE, 12, 4⟩] ++ List.replicate 6 Ent.none := by decide +kernel
theorem aw7a : aw7.1 = 0 := by decide +kernel
theorem aw6r : rdB aw5.2.2 12 1 = padTo 32 [104, 105] := by decide +kernel
theorem aw6a : aw6 = .tuple #[str (padTo 32 [104, 105]), .int .i64 0] := by
  unfold aw6 readP
  have e : placeP aw5.2.1 nmE 0 1 = (12, 0) := by decide +kernel
  rw [e, if_pos rfl, rdI, if_pos (by decide +kernel)]
  show Value.tuple #[str (rdB aw5.2.2 12 1), .int .i64 0] = _
  rw [aw6r]
theorem eq25 (a : Addr) : binE Tryz.prog .eql 25 true (.pointer (some a)) (.pointer none) = some (.bool false) := by kernel_rfl
theorem eq33 (a : Addr) : binE Tryz.prog .eql 33 true (.pointer (some a)) (.pointer none) = some (.bool false) := by kernel_rfl
theorem eq49b : binE Tryz.prog .eql 49 false (.agg #[str nmB, .int .i64 12, .int .i64 6]) (.agg #[str nmB, .int .i64 12, .int .i64 6]) = some (.bool true) := by kernel_rfl
theorem createP_wf {cap : Nat} {es : List Ent} {t : List UInt8} (hw : WfE cap es) (nm : List UInt8) (n : Int) (hwt : ∀ a, 8 ≤ roomA a es) : WfE cap (createP cap es t nm n).2.1 := by
  simp only [createP]
  split
  · rename_i hg
    split
    · exact hw
    · split
      · rename_i h
        exact hw.set ⟨h.2, (good_len hg.1).2, fun _ => hwt _⟩
      · exact hw
  · exact hw
theorem roomW_ge (n : Nat) (es : List Ent) : ∀ (m a : Nat), a ≤ roomW n es m a
  | 0, a => Nat.le_refl _
  | m + 1, a => by
    rw [roomW]
    split
    · exact Nat.le_trans (passR_le n es (a, false)) (roomW_ge n es m _)
    · exact Nat.le_refl _
theorem roomA_ge (n : Nat) (es : List Ent) : 8 ≤ roomA n es := roomW_ge n es 1000 8
theorem setP_len {cap : Nat} {t : List UInt8} (h : t.length = cap * 32) (hc : 8 < cap) {i : Nat} (hi : i < 8) (x : Ent) : (setP i x t).length = cap * 32 := wrB_len h (by omega)
theorem awake_run {k : Nat} (hk : 4000 ≤ k) (H : Heap) (hf : H.floor ≤ H.next) : ∃ H', run Tryz.prog k 10 #[] H = some (.bool true, H') ∧ Grow H H' := by
  obtain ⟨k, rfl⟩ : ∃ k', k = k' + 1 := ⟨k - 1, by omega⟩
  obtain ⟨p, F0, H1, e1, d1, g1, far1⟩ := new_run (k := k) (by omega) 20 (by decide) (by decide) H hf
  have hd := arr_ok p 20 (by decide)
  generalize hdv : Value.iface 25 (.pointer (some ⟨p, 0, none⟩)) = d at hd
  have f1 := g1.floor; have n1 := g1.next
  obtain ⟨s, F1, H2, e2, s2, ff2, hs⟩ := open_run hd (by decide) (k := k) (by omega) d1 (by omega)
  rw [openE_zero (by decide)] at s2
  obtain ⟨g2, far2⟩ := ff2.far g1 far1
  have n2 := g2.next; have fl2 := g2.floor
  have hsH : H.next ≤ s := by omega
  have hw0 : WfE 20 awE0 := none_wf
  -- Create a
  obtain ⟨F3, H3, e3, s3, ff3⟩ := create_run hd (by decide) (k := k) (by omega) s2 hw0 nmA 4 (by simp [nmA]; omega) (by decide)
  obtain ⟨g3, far3⟩ := ff3.far g2 (far2.or hsH)
  have hw1 : WfE 20 aw1.2.1 := createP_wf hw0 _ _ fun a => roomA_ge _ _
  -- Create b
  obtain ⟨F4, H4, e4, s4, ff4⟩ := create_run hd (by decide) (k := k) (by omega) s3 hw1 nmB 6 (by simp [nmB]; omega) (by decide)
  obtain ⟨g4, far4⟩ := ff4.far g3 far3
  have hw2 : WfE 20 aw2.2.1 := createP_wf hw1 _ _ fun a => roomA_ge _ _
  change Sys d 20 (ArrD p 20) s aw2.2.1 aw2.2.2 F4 H4 at s4
  change _ = some (Value.int .i64 aw1.1, H3) at e3
  change _ = some (Value.int .i64 aw2.1, H4) at e4
  rw [aw1a] at e3
  rw [aw2a] at e4
  -- Volumes
  obtain ⟨v, H5, e5, o5, gr5⟩ := vols_run (k := k) s4.sto (by omega)
  have s5 := s4.grow hd gr5
  -- Free
  obtain ⟨H6, e6, gr6⟩ := free_run (k := k) s5.sto (by omega) (by rw [aw2b]; decide) (by omega)
  have s6 := s5.grow hd gr6
  rw [aw2b] at e6
  -- Write
  obtain ⟨F7, H7, e7, s7, ff7⟩ := swrite_run hd (k := k) (by omega) s6 hw2 nmA 0 1 [104, 105]
  change _ = some (aw3.1, H7) at e7
  change Sys d 20 (ArrD p 20) s aw2.2.1 aw3.2 F7 H7 at s7
  rw [aw3a] at e7
  -- Delete
  obtain ⟨F8, H8, e8, s8, ff8⟩ := delete_run hd (by decide) (k := k) (by omega) s7 nmB
  change _ = some (Value.int .i64 aw4.1, H8) at e8
  change Sys d 20 (ArrD p 20) s aw4.2.1 aw4.2.2 F8 H8 at s8
  rw [aw4a] at e8
  have hw4 : WfE 20 aw4.2.1 := by
    rw [aw4b]
    refine ⟨fun e he => ?_⟩
    rcases List.mem_append.1 he with he | he
    · rw [List.mem_singleton.1 he]; decide
    · rw [List.eq_of_mem_replicate he]; decide
  -- Clone
  obtain ⟨F9, H9, e9, s9, ff9⟩ := clone_run hd (by decide) (k := k) (by omega) s8 hw4 nmA nmE (by simp [nmE]; omega) (by decide)
  change _ = some (Value.int .i64 aw5.1, H9) at e9
  change Sys d 20 (ArrD p 20) s aw5.2.1 aw5.2.2 F9 H9 at s9
  rw [aw5a] at e9
  have hw5 : WfE 20 aw5.2.1 := by
    rw [aw5b]
    refine ⟨fun e he => ?_⟩
    rcases List.mem_append.1 he with he | he
    · simp only [List.mem_cons, List.not_mem_nil, or_false] at he
      rcases he with rfl | rfl <;> decide
    · rw [List.eq_of_mem_replicate he]; decide
  -- Read
  obtain ⟨F10, H10, e10, s10, ff10⟩ := sread_run hd (k := k) (by omega) s9 hw5 nmE 0 1
  change _ = some (aw6, H10) at e10
  rw [aw6a] at e10
  -- Rename
  obtain ⟨F11, H11, e11, s11, ff11⟩ := rename_run hd (by decide) (k := k) (by omega) s10 hw5 nmA nmB (by simp [nmB]; omega) (by decide)
  change _ = some (Value.int .i64 aw7.1, H11) at e11
  rw [aw7a] at e11
  -- the list of volumes is as it was
  have hfoot := (((((Foot.of_grow (F := orS s F4) gr6).trans ff7).trans ff8).trans ff9).trans ff10).trans ff11
  have sl := o5.sl entC_len
  have sl11 : SlAt H11 v 3 entC (vols aw2.2.1) := sl.chg hfoot.chg fun b o c hv hb => by
    have hnx : H4.next ≤ b := by
      rcases o5 with ⟨h, _⟩ | ⟨b', h, hnil⟩ | ⟨b', h, _, h1, _⟩
      · rw [hv] at h; cases h
      · rw [hv] at h; simp only [Value.slice.injEq] at h
        rw [aw2b] at h; exact absurd h.2.1 (by decide)
      · rw [hv] at h
        simp only [Value.slice.injEq, Option.some.injEq, Addr.mk.injEq] at h
        omega
    rcases hb with hb | hb
    · have := hd.lt s4.dsk _ hb; omega
    · have := s4.sto.lt; omega
  have hvl : vols aw2.2.1 = [⟨nmA, 8, 4⟩, ⟨nmB, 12, 6⟩] := by rw [aw2b]; decide
  rw [hvl] at sl11
  obtain ⟨b1, o1, i1, _, l1, _⟩ := sl11.get entC_len (by decide) (i := 1) (by decide)
  have i1 : idxSl 3 v (.int .i64 1) = some (.pointer (some ⟨b1, o1, none⟩)) := i1
  have l1 : (H11.blk b1).bind (getN 3 o1) = some (.agg #[str nmB, .int .i64 12, .int .i64 6]) := l1
  have g11 : Grow H H11 := (hfoot.far (g4.trans gr5) far4).1
  obtain ⟨H12, e12, g12⟩ := good_run (k := k) [120] (by decide) (by simp; omega) H11 s11.fl
  have fl12 := g12.floor; have n12 := g12.next; have fl11 := s11.fl
  obtain ⟨H13, e13, g13⟩ := good_run (k := k) [] (by decide) (by simp; omega) H12 (by omega)
  rw [show good [120] = true from by decide +kernel] at e12
  rw [show good [] = false from by decide +kernel] at e13
  have hll := sl11.len
  have e1 : run Tryz.prog k 13 #[.int .i64 20] H = _ := e1
  have cut : sliceStr (str (padTo 32 [104, 105])) none (some (.int .i64 3)) = some (str [104, 105, 0]) := by
    have := Y3 (l := padTo 32 [104, 105]) (j := 3) (by decide)
    exact this
  have hA : Value.string ⟨#[97]⟩ = str nmA := rfl
  have hB : Value.string ⟨#[98]⟩ = str nmB := rfl
  have hE : Value.string ⟨#[195, 169]⟩ = str nmE := rfl
  have h12 : Value.string ⟨#[120]⟩ = str [120] := rfl
  have hhi : Value.string ⟨#[104, 105]⟩ = str [104, 105] := rfl
  have hhi0 : Value.string ⟨#[104, 105, 0]⟩ = str [104, 105, 0] := rfl
  have b49 : pBuild Tryz.prog 49 [(0, str nmB), (1, .int .i64 12), (2, .int .i64 6)] = some (.agg #[str nmB, .int .i64 12, .int .i64 6]) := build49 _ _ _
  have hfree : (((20 : Nat) : Int) - 8 - (lens ([⟨nmA, 8, 4⟩, ⟨nmB, 12, 6⟩] ++ List.replicate 6 Ent.none) : Int)) = 2 := by decide
  rw [hfree] at e6
  rw [run10, Go.PG.F10]
  simp (disch := first | omega | assumption | (simp only [Yg, Yh, Yi, Yj] <;> omega) | (simp only [Qk, Ql, Qm, Qn, Qo, Qp, Bool.and_self]) | rfl) only [↓Z0, Z1, ↓Z2, ↓Z3, ↓Z4, ↓Z5, ↓Z6, Z7, ↓Z8, ↓Z9, ↓Za, ↓Zb, Zc, ↓Zd, Ze, Zf, decide_true, decide_false, Zg, Zh, Zi, Zj, Zk, Zl, Zm, Zn, Zo, Zp, Zq, Zr, Zs, Zt, Zu, Zv, Zw, Zx, Zy, Zz, Y0, Y1, Y2, Y3, Y4, Y5, Y6, Y7, Y8, Y9, Ya, Yb, Yc, Yd, Ye, Yf, Yg, Yh, Yi, Yj, Yk, Yl, Ym, Yn, Yo, Yp, Yq, Yr, Ys, Yt, Yu, Yv, Nat.zero_add, Nat.add_zero, ne_eq, not_false_eq_true, reduceCtorEq, Nat.reduceAdd, Nat.reduceEqDiff, Nat.succ_ne_self, Yw, Yx, Yy, Yz, Q0, Q1, ↓Q2, Q3, Q4, Q5, Q6, Q7, Q8, Q9, Qa, Qb, Qc, Qd, Qe, Qf, Qg, Qh, Qi, Qj, e1, eq25, J10_13, hdv, e2, eq33, J10_12, hA, hB, hE, hhi, e3, e4, e5, e6, e7, e8, e9, e10, e11]
  simp (disch := first | omega | assumption | (simp only [Yg, Yh, Yi, Yj] <;> omega) | (simp only [Qk, Ql, Qm, Qn, Qo, Qp, Bool.and_self]) | rfl) only [↓Z0, Z1, ↓Z2, ↓Z3, ↓Z4, ↓Z5, ↓Z6, Z7, ↓Z8, ↓Z9, ↓Za, ↓Zb, Zc, ↓Zd, Ze, Zf, decide_true, decide_false, Zg, Zh, Zi, Zj, Zk, Zl, Zm, Zn, Zo, Zp, Zq, Zr, Zs, Zt, Zu, Zv, Zw, Zx, Zy, Zz, Y0, Y1, Y2, Y3, Y4, Y5, Y6, Y7, Y8, Y9, Ya, Yb, Yc, Yd, Ye, Yf, Yg, Yh, Yi, Yj, Yk, Yl, Ym, Yn, Yo, Yp, Yq, Yr, Ys, Yt, Yu, Yv, Nat.zero_add, Nat.add_zero, ne_eq, not_false_eq_true, reduceCtorEq, Nat.reduceAdd, Nat.reduceEqDiff, Nat.succ_ne_self, Yw, Yx, Yy, Yz, Q0, Q1, ↓Q2, Q3, Q4, Q5, Q6, Q7, Q8, Q9, Qa, Qb, Qc, Qd, Qe, Qf, Qg, Qh, Qi, Qj, J10_11, J10_10, J10_9, J10_8, J10_7, J10_6, J10_5, J10_4, J10_3, J10_2, J10_1, J10_0, hll, List.length_cons, List.length_nil, i1, l1, hB, b49, eq49b, padTo_len, cut, hhi0, h12, e12, e13]
  exact ⟨_, rfl, (g11.trans g12).trans g13⟩
end Go.PG

namespace Go.PG
open Go.Proofs

/-- Entries of a store: each lies on the disk, names are good, no two meet. -/
structure InvE (cap : Nat) (es : List Ent) : Prop where
  wf : WfE cap es
  e8 : es.length = 8
  nm : ∀ e ∈ es, 0 < e.len → good e.name = true
  ap : ∀ i j (hi : i < es.length) (hj : j < es.length), i ≠ j → 0 < es[i].len → 0 < es[j].len → ¬ meets es[i] es[j]
theorem meets_symm {x y : Ent} (h : meets x y) : meets y x := by
  rcases h with h | ⟨h1, h2⟩
  · exact .inl h.symm
  · exact .inr ⟨h2, h1⟩
theorem InvE.set {cap : Nat} {es : List Ent} (h : InvE cap es) {i : Nat} {x : Ent} (hx : x.first + x.len ≤ cap ∧ x.name.length ≤ 16 ∧ (0 < x.len → 8 ≤ x.first)) (hg : 0 < x.len → good x.name = true)
    (hm : ∀ j (hj : j < es.length), j ≠ i → 0 < x.len → 0 < es[j].len → ¬ meets x es[j]) : InvE cap (es.set i x) where
  wf := h.wf.set hx
  e8 := by rw [List.length_set]; exact h.e8
  nm := fun e he hl => by
    rcases List.mem_or_eq_of_mem_set he with h1 | h1
    · exact h.nm e h1 hl
    · subst h1; exact hg hl
  ap := fun a b ha hb hne h1 h2 => by
    rw [List.length_set] at ha hb
    rw [List.getElem_set] at h1 h2 ⊢
    rw [List.getElem_set]
    by_cases ea : i = a
    · by_cases eb : i = b
      · omega
      · rw [if_pos ea] at h1 ⊢
        rw [if_neg eb] at h2 ⊢
        exact hm b hb (by omega) h1 h2
    · by_cases eb : i = b
      · rw [if_neg ea] at h1 ⊢
        rw [if_pos eb] at h2 ⊢
        exact fun hh => hm a ha (by omega) h2 h1 (meets_symm hh)
      · rw [if_neg ea] at h1 ⊢
        rw [if_neg eb] at h2 ⊢
        exact h.ap a b ha hb hne h1 h2
theorem inv_none {cap : Nat} : InvE cap (List.replicate 8 Ent.none) where
  wf := none_wf
  e8 := rfl
  nm := fun e he hl => by rw [List.eq_of_mem_replicate he] at hl; simp [Ent.none] at hl
  ap := fun i j hi hj hne h1 h2 => by rw [List.getElem_replicate] at h1; exact absurd h1 (by decide)
theorem mem_vols {es : List Ent} {e : Ent} : e ∈ vols es ↔ e ∈ es ∧ 0 < e.len := by simp [vols]
theorem inv_add {cap : Nat} {t : List UInt8} {es : List Ent} (h : InvE cap es) (i : Nat) : InvE cap (addE cap t es i) := by
  rw [addE]
  split
  · rename_i hc
    refine h.set (readE_ok _ _) (fun hl => ?_) (fun j hj hne h1 h2 => hc.2 _ (mem_vols.2 ⟨List.getElem_mem hj, h2⟩))
    rw [readE] at hl ⊢
    split
    · rename_i ho; exact ho.2.2.1
    · rename_i ho; rw [if_neg ho] at hl; simp [Ent.none] at hl
  · exact h
theorem inv_open {cap : Nat} {t : List UInt8} : InvE cap (openE cap t) := by
  have : ∀ (l : List Nat) (es : List Ent), InvE cap es → InvE cap (l.foldl (addE cap t) es) := by
    intro l
    induction l with
    | nil => exact fun es h => h
    | cons a l ih => exact fun es h => ih _ (inv_add h a)
  exact this _ _ inv_none
/-! ### Room -/
theorem roomW_free {cap n : Nat} {es : List Ent} (hw : ∀ e ∈ es, e.first + e.len ≤ 1000) : ∀ (m a : Nat), 1001 - a ≤ m → a ≤ 1000 → ∀ e ∈ es, ¬ hitR n (roomW n es m a) e
  | 0, a, h, ha => by omega
  | m + 1, a, h, ha => by
    rw [roomW]
    cases hp : (passR n es (a, false)).2 with
    | true =>
      rw [if_pos rfl]
      have := passR_moved n es a hp
      exact roomW_free (cap := cap) hw m _ (by omega) (passR_cap n 1000 es (a, false) hw ha)
    | false =>
      rw [if_neg (by decide)]
      exact (passR_still n es a hp).2
theorem room_free {cap : Nat} (hc : cap ≤ 1000) {es : List Ent} (h : InvE cap es) (n : Nat) : ∀ e ∈ es, ¬ hitR n (roomA n es) e :=
  roomW_free (cap := cap) (fun e he => by have := (h.wf.ok e he).1; omega) 1000 8 (by omega) (by omega)
/-! ### Finding -/
theorem findFrom_none : ∀ (es : List Ent) (i : Nat) (nm : List UInt8), findFrom i nm es = none → ∀ e ∈ es, 0 < e.len → e.name ≠ nm
  | [], i, nm, h, e, he, _ => by simp at he
  | x :: es, i, nm, h, e, he, hl => by
    rw [findFrom] at h
    split at h
    · cases h
    · rename_i hc
      rcases List.mem_cons.1 he with rfl | he
      · exact fun hh => hc ⟨hl, hh⟩
      · exact findFrom_none es (i + 1) nm h e he hl
theorem findE_none {es : List Ent} {nm : List UInt8} (h : findE es nm = none) : ∀ e ∈ es, 0 < e.len → e.name ≠ nm := findFrom_none es 0 nm h
theorem hit_meets {x e : Ent} {n a : Nat} (hx : x.first = a ∧ x.len = n) (hne : x.name ≠ e.name) (hl : 0 < e.len) (h : ¬ hitR n a e) : ¬ meets x e := fun hm => by
  rcases hm with hm | hm
  · exact hne hm
  · exact h ⟨hl, by omega, by omega⟩
theorem inv_create {cap : Nat} (hc : cap ≤ 1000) {es : List Ent} (h : InvE cap es) (t nm : List UInt8) (n : Int) : InvE cap (createP cap es t nm n).2.1 := by
  simp only [createP]
  split
  · rename_i hg
    cases hf : findE es nm with
    | some i => exact h
    | none =>
      simp only
      split
      · rename_i hr
        refine h.set ⟨hr.2, (good_len hg.1).2, fun _ => roomA_ge _ _⟩ (fun _ => hg.1) (fun j hj hne h1 h2 => ?_)
        exact hit_meets ⟨rfl, rfl⟩ (fun e => findE_none hf _ (List.getElem_mem hj) h2 e.symm) h2 (room_free hc h _ _ (List.getElem_mem hj))
      · exact h
  · exact h
theorem inv_delete {cap : Nat} {es : List Ent} (h : InvE cap es) (t nm : List UInt8) : InvE cap (deleteP es t nm).2.1 := by
  simp only [deleteP]
  cases hf : findE es nm with
  | none => exact h
  | some i => exact h.set (by simp [Ent.none]) (by simp [Ent.none]) (fun j hj hne h1 => by simp [Ent.none] at h1)
theorem inv_rename {cap : Nat} {es : List Ent} (h : InvE cap es) (t nm to : List UInt8) : InvE cap (renameP es t nm to).2.1 := by
  simp only [renameP]
  split
  · rename_i hc
    obtain ⟨i, ho, hf, hg, hn⟩ := otherP_ok h.e8 hc
    obtain ⟨hi, hil, hlen, _⟩ := findE_lt h.e8 hf
    have hgd : es.getD i Ent.none = es[i] := by rw [List.getD_eq_getElem?_getD, List.getElem?_eq_getElem hil]; rfl
    have hw := h.wf.ok es[i] (List.getElem_mem hil)
    rw [ho]
    simp only [Int.toNat_natCast, hgd]
    refine h.set ⟨hw.1, (good_len hg).2, hw.2.2⟩ (fun _ => hg) (fun j hj hne h1 h2 hm => ?_)
    rcases hm with hm | hm
    · exact findE_none hn _ (List.getElem_mem hj) h2 hm.symm
    · exact h.ap i j hil hj (by omega) hlen h2 (.inr hm)
  · exact h
theorem inv_clone {cap : Nat} (hc : cap ≤ 1000) {es : List Ent} (h : InvE cap es) (t nm to : List UInt8) : InvE cap (cloneP cap es t nm to).2.1 := by
  simp only [cloneP]
  split
  · rename_i hcc
    obtain ⟨i, ho, hf, hg, hn⟩ := otherP_ok h.e8 hcc
    split
    · rename_i hr
      refine h.set ⟨hr.2, (good_len hg).2, fun _ => roomA_ge _ _⟩ (fun _ => hg) (fun j hj hne h1 h2 => ?_)
      exact hit_meets ⟨rfl, rfl⟩ (fun e => findE_none hn _ (List.getElem_mem hj) h2 e.symm) h2 (room_free hc h _ _ (List.getElem_mem hj))
    · exact h
  · exact h
end Go.PG
