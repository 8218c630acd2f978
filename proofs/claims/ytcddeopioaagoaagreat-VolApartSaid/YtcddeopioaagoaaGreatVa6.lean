/- Part 6 of the lemmas behind RowVolApart: SpSys, SpRoom, SpCreate, SpOpen, SpNew, SpMem, SpAwake, SpInv, SpStep, PgZ, PgArgs. No condition beyond those that each lemma names. -/
import Derived.Test.YtcddeopioaagoaaGreatVa5
import Derived.Below
import Derived.Deep.Slices

set_option linter.unusedVariables false
set_option linter.unusedSimpArgs false
set_option linter.unusedSectionVars false
namespace Go.PG
open Go.Proofs

structure Sys (d : Value) (cap : Nat) (D : DiskP) (s : Nat) (es : List Ent) (t : List UInt8) (F : Nat → Prop) (H : Heap) : Prop where
  sto : StoAt H s d cap es
  dsk : D t F H
  apart : ¬ F s
abbrev orS (s : Nat) (F : Nat → Prop) : Nat → Prop := fun n => F n ∨ n = s
section
variable {K : Nat} {d : Value} {cap : Nat} {D : DiskP} {s : Nat} {es : List Ent} {t : List UInt8} {F : Nat → Prop} {H : Heap}
theorem Sys.fl (h : Sys d cap D s es t F H) : H.floor ≤ H.next := by have := h.sto.lt; have := h.sto.fl; omega
theorem Sys.grow (hd : DiskOk K d cap D) (h : Sys d cap D s es t F H) {H' : Heap} (g : Grow H H') : Sys d cap D s es t F H' := ⟨h.sto.grow g, hd.grow h.dsk g, h.apart⟩
theorem Sys.disk (h : Sys d cap D s es t F H) {t' : List UInt8} {F' : Nat → Prop} {H' : Heap} (hd : D t' F' H') (f : Foot F F' H H') : Sys d cap D s es t' F' H' where
  sto := ⟨by rw [f.chg.old s h.sto.lt h.apart, h.sto.blk], Nat.lt_of_lt_of_le h.sto.lt f.chg.next, by rw [f.chg.floor]; exact h.sto.fl, h.sto.e8⟩
  dsk := hd
  apart := fun hs => by rcases f.new s hs with h1 | h1; exact h.apart h1; have := h.sto.lt; omega
theorem Sys.foot {F' : Nat → Prop} {H' : Heap} (s : Nat) (f : Foot F F' H H') : Foot (orS s F) (orS s F') H H' := ⟨f.chg.mono fun _ h => .inl h, fun n hn => by
  rcases hn with hn | hn
  · rcases f.new n hn with h | h
    · exact .inl (.inl h)
    · exact .inr h
  · exact .inl (.inr hn)⟩
theorem put_ent {x : Ent} {i : Nat} (hi : i < 8) (h8 : es.length = 8) (hf : H.floor ≤ s) : putN H s (2 + i * 3) (entV x) 3 (.cells (StoreRow d cap es) 93) = some (H.set s (.cells (StoreRow d cap (es.set i x)) 93)) := by
  have hl := flat_len entC_len es
  have hsz : (StoreRow d cap es).size = 26 := by simp only [StoreRow, List.size_toArray, List.length_cons, hl]; omega
  have hc : (entV x).cells = #[str x.name, .int .i64 (x.first : Int), .int .i64 (x.len : Int)] := rfl
  simp only [putN, row_cells, Option.bind_some, hc]
  rw [if_pos ⟨rfl, by decide, hf, by omega, rfl⟩]
  congr 2
  simp only [Blk.put]
  congr 1
  rw [setL_list _ _ _ (by simp only [List.length_cons, List.length_nil, hsz]; omega)]
  have e : [str x.name, .int .i64 (x.first : Int), .int .i64 (x.len : Int)] = entC x := rfl
  rw [e, entC_len, StoreRow, List.toList_toArray, StoreRow, flat_set entC_len (by omega)]
  congr 1
  rw [show 2 + i * 3 = i * 3 + 2 from by omega, show i * 3 + 2 + 3 = i * 3 + 3 + 2 from by omega]
  simp only [List.take_succ_cons, List.drop_succ_cons, List.cons_append]
theorem Sys.setE (hd : DiskOk K d cap D) (h : Sys d cap D s es t F H) (i : Nat) (x : Ent) : Sys d cap D s (es.set i x) t F (H.set s (.cells (StoreRow d cap (es.set i x)) 93)) where
  sto := ⟨blk_set_at rfl, h.sto.lt, h.sto.fl, by rw [List.length_set]; exact h.sto.e8⟩
  dsk := hd.frame h.dsk ((Chg.refl H).set (S := fun n => n = s) (.inl rfl) _) fun n hn e => by subst e; exact h.apart hn
  apart := h.apart
theorem idx8 {i : Nat} (hi : i < 8) : idxArr 8 3 (.pointer (some ⟨s, 2, none⟩)) (.int .i64 (i : Int)) = some (.pointer (some ⟨s, 2 + i * 3, none⟩)) := by
  have h2 : (i : Int) < (8 : Nat) := by omega
  simp only [idxArr]
  rw [if_pos ⟨by omega, h2⟩, Int.toNat_natCast]
  by_cases h0 : i = 0
  · subst h0; simp [Addr.add]
  · simp [Addr.add]; omega
theorem get_d (t : TypeId) : get1 0 (.cells (StoreRow d cap es) t) = some d := rfl
theorem get_n (t : TypeId) : get1 1 (.cells (StoreRow d cap es) t) = some (.int .i64 (cap : Int)) := rfl
theorem get_e {i : Nat} (hi : i < 8) (h8 : es.length = 8) (t : TypeId) : getN 3 (2 + i * 3) (.cells (StoreRow d cap es) t) = some (entV (es[i]'(by omega))) := by
  have hl := flat_len entC_len es
  have e := flat_one entC_len (l := es) (i := i) (by omega)
  rw [getN_row (row_cells _ _)]
  rw [if_pos (by simp only [StoreRow, List.size_toArray, List.length_cons, hl]; omega)]
  congr 1
  rw [entV]
  congr 1
  apply Array.toList_inj.1
  rw [Array.toList_extract, List.extract_eq_take_drop, StoreRow, List.toList_toArray, show 2 + i * 3 + 3 - (2 + i * 3) = 3 from by omega, show 2 + i * 3 = i * 3 + 2 from by omega]
  simp only [List.drop_succ_cons, e]
  rfl
theorem nil_iface (hd : DiskOk K d cap D) : pNil d = some d := by
  obtain ⟨t, a, rfl⟩ := hd.iface; rfl
/-- Entries that a store may have. -/
structure WfE (cap : Nat) (es : List Ent) : Prop where
  ok : ∀ e ∈ es, e.first + e.len ≤ cap ∧ e.name.length ≤ 16 ∧ (0 < e.len → 8 ≤ e.first)
theorem WfE.set (h : WfE cap es) {i : Nat} {x : Ent} (hx : x.first + x.len ≤ cap ∧ x.name.length ≤ 16 ∧ (0 < x.len → 8 ≤ x.first)) : WfE cap (es.set i x) := ⟨fun e he => by
  rcases List.mem_or_eq_of_mem_set he with h1 | h1
  · exact h.ok e h1
  · subst h1; exact hx⟩
theorem right_one {i : Nat} (hi : i < 8) (hc : 8 < cap) : isRight cap (i : Int) 1 := ⟨by omega, by omega, by omega, by omega⟩
def setP (i : Nat) (x : Ent) (t : List UInt8) : List UInt8 := wrB t i 1 (laidB x)
theorem note_run (hd : DiskOk K d cap D) (hc : 8 < cap) {k : Nat} (hk : K + 100 ≤ k) (h : Sys d cap D s es t F H) {i : Nat} (hi : i < 8) (x : Ent) (hx : x.first + x.len ≤ cap) (hnm : x.name.length ≤ 16) :
    ∃ F' H', run Tryz.prog k 64 #[.pointer (some ⟨s, 0, none⟩), .int .i64 (i : Int), entV x] H = some (.int .i64 0, H') ∧ Sys d cap D s (es.set i x) (setP i x t) F' H' ∧ Foot (orS s F) (orS s F') H H' := by
  obtain ⟨k, rfl⟩ : ∃ k', k = k' + 1 := ⟨k - 1, by omega⟩
  have hbig := hd.big
  have hfl := h.fl
  have hbox : pBox 49 (entV x) H = some (.pointer (some ⟨H.next, 0, none⟩), H.new (.cells #[str x.name, .int .i64 (x.first : Int), .int .i64 (x.len : Int)] 49)) := rfl
  generalize hA : H.new (.cells #[str x.name, .int .i64 (x.first : Int), .int .i64 (x.len : Int)] 49) = A at hbox
  have gA : Grow H A := by rw [← hA]; exact (Grow.refl H).new _
  have nA : A.next = H.next + 1 := by rw [← hA]; rfl
  have fA : A.floor = H.floor := by rw [← hA]; rfl
  have bA : A.blk H.next = some (.cells #[str x.name, .int .i64 (x.first : Int), .int .i64 (x.len : Int)] 49) := by rw [← hA, blk_new]
  have sA := h.grow hd gA
  obtain ⟨L, e1, gL⟩ := laid_run (k := k) (by omega) x (by omega) (by omega) (by omega) (A.atFloor A.next) (by rw [atFloor_floor, atFloor_next]; exact Nat.le_refl _)
  rw [nA] at e1
  have gL := gL.quiet
  generalize hB : L.atFloor A.floor = B at gL
  have nB := gL.next
  have fB := gL.floor
  have sB := sA.grow hd gL
  have bB := gL.eqBlk bA (by omega)
  obtain ⟨fa, F', C, e2, e3, dC, fC⟩ := hd.write (k := k) (i : Int) 1 (laidB x) (by omega) sB.dsk sB.fl
  rw [okI, if_pos (right_one hi hc)] at e3
  rw [wrI, if_pos (right_one hi hc), Int.toNat_natCast] at dC
  have sC := sB.disk dC fC
  have nC := fC.chg.next
  have lF : ¬ F H.next := fun hh => by have := hd.lt h.dsk _ hh; omega
  have bC := fC.chg.eqBlk bB (by omega) lF
  rw [run64, F64]
  simp (disch := first | omega | assumption | (simp only [new_next, new_floor, set_next, set_floor] <;> omega) | (simp only [oneC_str, oneC_int, oneC_bool, oneC_slice, oneC_ptr, oneC_iface, Bool.and_self]) | rfl) only [↓bsome, msome, ↓bindP_some, ↓bindM_some, ↓newK_eq, ↓condV_true, ↓condV_false, condV_not, ↓condG_tt, ↓condG_ff, ↓condG_tf, ↓condG_ft, condG_not, ↓condG_undef, dec_t, dec_f, decide_true, decide_false, pick_t, pick_f, un_not, bnot_t, bnot_f, add64, sub64, mul64, lss64, leq64, gtr64, geq64, eql64, neq64, convU8, conv64, str_lit, len_str, eql_str, neq_str, idx_str, slice_hi, slice_lo, slice_to, pNil_ptr, fieldA_ptr, ldV1, ldVn, stVn, blk_new, blk_new_at, set_new_at, apart1, new_old, blk_set_at, set_old, new_next, new_floor, set_next, set_floor, get1_0, get3_0, get3_1, get3_2, get3_n, put3, get4_0, get4_1, get4_2, get4_3, get4_n, put4, Nat.zero_add, Nat.add_zero, ne_eq, not_false_eq_true, reduceCtorEq, Nat.reduceAdd, Nat.reduceEqDiff, Nat.succ_ne_self, idxSl_1, extract_t2_0, extract_t2_1, extract_t3_0, extract_t3_1, extract_t3_2, ↓quiet_some, atFloor_back, oneOf_one, atFloor_next, atFloor_floor, atFloor_blk, get6_0, get6_1, get6_2, get6_3, get6_4, get6_5, hide_blk, hide2_blk, hid_nil, hid_next, hid_floor, hid2_next, hbox, sA.sto.blk, get_d, bA]
  rw [show Value.agg #[str x.name, .int .i64 (x.first : Int), .int .i64 (x.len : Int)] = entV x from rfl]
  simp (disch := first | omega | assumption | (simp only [new_next, new_floor, set_next, set_floor] <;> omega) | (simp only [oneC_str, oneC_int, oneC_bool, oneC_slice, oneC_ptr, oneC_iface, Bool.and_self]) | rfl) only [↓bsome, msome, ↓bindP_some, ↓bindM_some, ↓newK_eq, ↓condV_true, ↓condV_false, condV_not, ↓condG_tt, ↓condG_ff, ↓condG_tf, ↓condG_ft, condG_not, ↓condG_undef, dec_t, dec_f, decide_true, decide_false, pick_t, pick_f, un_not, bnot_t, bnot_f, add64, sub64, mul64, lss64, leq64, gtr64, geq64, eql64, neq64, convU8, conv64, str_lit, len_str, eql_str, neq_str, idx_str, slice_hi, slice_lo, slice_to, pNil_ptr, fieldA_ptr, ldV1, ldVn, stVn, blk_new, blk_new_at, set_new_at, apart1, new_old, blk_set_at, set_old, new_next, new_floor, set_next, set_floor, get1_0, get3_0, get3_1, get3_2, get3_n, put3, get4_0, get4_1, get4_2, get4_3, get4_n, put4, Nat.zero_add, Nat.add_zero, ne_eq, not_false_eq_true, reduceCtorEq, Nat.reduceAdd, Nat.reduceEqDiff, Nat.succ_ne_self, idxSl_1, extract_t2_0, extract_t2_1, extract_t3_0, extract_t3_1, extract_t3_2, ↓quiet_some, atFloor_back, oneOf_one, atFloor_next, atFloor_floor, atFloor_blk, get6_0, get6_1, get6_2, get6_3, get6_4, get6_5, hide_blk, hide2_blk, hid_nil, hid_next, hid_floor, hid2_next, nA, e1, hB, nil_iface hd, e2, e3, bC, sC.sto.blk, idx8 hi]
  rw [show Value.agg #[str x.name, .int .i64 (x.first : Int), .int .i64 (x.len : Int)] = entV x from rfl, put_ent hi sC.sto.e8 sC.sto.fl]
  simp (disch := first | omega | assumption | (simp only [new_next, new_floor, set_next, set_floor] <;> omega) | (simp only [oneC_str, oneC_int, oneC_bool, oneC_slice, oneC_ptr, oneC_iface, Bool.and_self]) | rfl) only [↓bsome, msome, ↓bindP_some, ↓bindM_some, ↓newK_eq, ↓condV_true, ↓condV_false, condV_not, ↓condG_tt, ↓condG_ff, ↓condG_tf, ↓condG_ft, condG_not, ↓condG_undef, dec_t, dec_f, decide_true, decide_false, pick_t, pick_f, un_not, bnot_t, bnot_f, add64, sub64, mul64, lss64, leq64, gtr64, geq64, eql64, neq64, convU8, conv64, str_lit, len_str, eql_str, neq_str, idx_str, slice_hi, slice_lo, slice_to, pNil_ptr, fieldA_ptr, ldV1, ldVn, stVn, blk_new, blk_new_at, set_new_at, apart1, new_old, blk_set_at, set_old, new_next, new_floor, set_next, set_floor, get1_0, get3_0, get3_1, get3_2, get3_n, put3, get4_0, get4_1, get4_2, get4_3, get4_n, put4, Nat.zero_add, Nat.add_zero, ne_eq, not_false_eq_true, reduceCtorEq, Nat.reduceAdd, Nat.reduceEqDiff, Nat.succ_ne_self, idxSl_1, extract_t2_0, extract_t2_1, extract_t3_0, extract_t3_1, extract_t3_2, ↓quiet_some, atFloor_back, oneOf_one, atFloor_next, atFloor_floor, atFloor_blk, get6_0, get6_1, get6_2, get6_3, get6_4, get6_5, hide_blk, hide2_blk, hid_nil, hid_next, hid_floor, hid2_next]
  refine ⟨F', _, rfl, sC.setE hd i x, ?_⟩
  have f1 : Foot (orS s F) (orS s F) H B := Foot.of_grow (gA.trans gL)
  have f2 : Foot (orS s F) (orS s F') H C := f1.trans (Sys.foot s fC)
  exact f2.trans ⟨(Chg.refl C).set (.inl (.inr rfl)) _, fun _ hn => .inl hn⟩
def placeP (es : List Ent) (nm : List UInt8) (a n : Int) : Int × Int :=
  match findE es nm with
  | none => (0, 4)
  | some i => if 1 ≤ n ∧ n ≤ ((es.getD i Ent.none).len : Int) ∧ 0 ≤ a ∧ a + n ≤ ((es.getD i Ent.none).len : Int) then (((es.getD i Ent.none).first : Int) + a, 0) else (0, 1)
theorem findFrom_lt : ∀ (es : List Ent) (i : Nat) (nm : List UInt8) (j : Nat), findFrom i nm es = some j → i ≤ j ∧ j < i + es.length ∧ ∃ h : j - i < es.length, 0 < (es[j - i]).len ∧ (es[j - i]).name = nm
  | [], i, nm, j, h => by simp [findFrom] at h
  | e :: es, i, nm, j, h => by
    rw [findFrom] at h
    by_cases hc : 0 < e.len ∧ e.name = nm
    · rw [if_pos hc] at h
      simp only [Option.some.injEq] at h
      subst h
      refine ⟨Nat.le_refl _, by simp, by simp, ?_⟩
      simp only [Nat.sub_self, List.getElem_cons_zero]
      exact hc
    · rw [if_neg hc] at h
      obtain ⟨h1, h2, h3, h4⟩ := findFrom_lt es (i + 1) nm j h
      refine ⟨by omega, by simp; omega, by simp; omega, ?_⟩
      have e1 : j - i = (j - (i + 1)) + 1 := by omega
      simp only [e1, List.getElem_cons_succ]
      exact h4
theorem findE_lt (h8 : es.length = 8) {nm : List UInt8} {i : Nat} (h : findE es nm = some i) : i < 8 ∧ ∃ hi : i < es.length, 0 < (es[i]).len ∧ (es[i]).name = nm := by
  obtain ⟨_, h2, h3, h4⟩ := findFrom_lt es 0 nm i h
  simp only [Nat.sub_zero, Nat.zero_add] at h2 h3 h4
  exact ⟨by omega, by omega, h4⟩
theorem place_run (hd : DiskOk K d cap D) {k : Nat} (hk : 100 ≤ k) (h : Sys d cap D s es t F H) (hw : WfE cap es) (nm : List UInt8) (a n : Int) (ha : a < 9223372036854775808 ∧ -1000000000000 < a ∨ True) :
    ∃ H', run Tryz.prog k 61 #[.pointer (some ⟨s, 0, none⟩), str nm, .int .i64 a, .int .i64 n] H = some (.tuple #[.int .i64 (placeP es nm a n).1, .int .i64 (placeP es nm a n).2], H') ∧ Grow H H' := by
  obtain ⟨k, rfl⟩ : ∃ k', k = k' + 1 := ⟨k - 1, by omega⟩
  have hbig := hd.big
  have hfl := h.fl
  obtain ⟨H1, e1, g1⟩ := find_run (k := k) h.sto nm (by omega)
  have s1 := h.grow hd g1
  have n1 := g1.next
  have f1 := g1.floor
  rw [run61, F61]
  cases hf : findE es nm with
  | none =>
    rw [hf] at e1
    simp (disch := first | omega | assumption | (simp only [new_next, new_floor, set_next, set_floor] <;> omega) | (simp only [oneC_str, oneC_int, oneC_bool, oneC_slice, oneC_ptr, oneC_iface, Bool.and_self]) | rfl) only [↓bsome, msome, ↓bindP_some, ↓bindM_some, ↓newK_eq, ↓condV_true, ↓condV_false, condV_not, ↓condG_tt, ↓condG_ff, ↓condG_tf, ↓condG_ft, condG_not, ↓condG_undef, dec_t, dec_f, decide_true, decide_false, pick_t, pick_f, un_not, bnot_t, bnot_f, add64, sub64, mul64, lss64, leq64, gtr64, geq64, eql64, neq64, convU8, conv64, str_lit, len_str, eql_str, neq_str, idx_str, slice_hi, slice_lo, slice_to, pNil_ptr, fieldA_ptr, ldV1, ldVn, stVn, blk_new, blk_new_at, set_new_at, apart1, new_old, blk_set_at, set_old, new_next, new_floor, set_next, set_floor, get1_0, get3_0, get3_1, get3_2, get3_n, put3, get4_0, get4_1, get4_2, get4_3, get4_n, put4, Nat.zero_add, Nat.add_zero, ne_eq, not_false_eq_true, reduceCtorEq, Nat.reduceAdd, Nat.reduceEqDiff, Nat.succ_ne_self, idxSl_1, extract_t2_0, extract_t2_1, extract_t3_0, extract_t3_1, extract_t3_2, ↓quiet_some, atFloor_back, oneOf_one, atFloor_next, atFloor_floor, atFloor_blk, get6_0, get6_1, get6_2, get6_3, get6_4, get6_5, hide_blk, hide2_blk, hid_nil, hid_next, hid_floor, hid2_next, e1, findV]
    exact ⟨H1, by simp only [placeP, hf], g1⟩
  | some i =>
    rw [hf] at e1
    obtain ⟨hi, hil, hlen, _⟩ := findE_lt h.sto.e8 hf
    have hw1 := hw.ok es[i] (List.getElem_mem hil)
    have hge := get_e (d := d) (cap := cap) hi h.sto.e8 93
    have hgd : es.getD i Ent.none = es[i] := by rw [List.getD_eq_getElem?_getD, List.getElem?_eq_getElem hil]; rfl
    simp only [placeP, hf, hgd]
    have g2 : ∀ B, Grow H (H1.new B) := fun B => g1.new B
    by_cases c1 : n < 1
    · simp (disch := first | omega | assumption | (simp only [new_next, new_floor, set_next, set_floor] <;> omega) | (simp only [oneC_str, oneC_int, oneC_bool, oneC_slice, oneC_ptr, oneC_iface, Bool.and_self]) | rfl) only [↓bsome, msome, ↓bindP_some, ↓bindM_some, ↓newK_eq, ↓condV_true, ↓condV_false, condV_not, ↓condG_tt, ↓condG_ff, ↓condG_tf, ↓condG_ft, condG_not, ↓condG_undef, dec_t, dec_f, decide_true, decide_false, pick_t, pick_f, un_not, bnot_t, bnot_f, add64, sub64, mul64, lss64, leq64, gtr64, geq64, eql64, neq64, convU8, conv64, str_lit, len_str, eql_str, neq_str, idx_str, slice_hi, slice_lo, slice_to, pNil_ptr, fieldA_ptr, ldV1, ldVn, stVn, blk_new, blk_new_at, set_new_at, apart1, new_old, blk_set_at, set_old, new_next, new_floor, set_next, set_floor, get1_0, get3_0, get3_1, get3_2, get3_n, put3, get4_0, get4_1, get4_2, get4_3, get4_n, put4, Nat.zero_add, Nat.add_zero, ne_eq, not_false_eq_true, reduceCtorEq, Nat.reduceAdd, Nat.reduceEqDiff, Nat.succ_ne_self, idxSl_1, extract_t2_0, extract_t2_1, extract_t3_0, extract_t3_1, extract_t3_2, ↓quiet_some, atFloor_back, oneOf_one, atFloor_next, atFloor_floor, atFloor_blk, get6_0, get6_1, get6_2, get6_3, get6_4, get6_5, hide_blk, hide2_blk, hid_nil, hid_next, hid_floor, hid2_next, e1, findV, s1.sto.blk, idx8 hi, hge, entV, J61_0, J61_1, J61_2]
      rw [if_neg (by omega)]
      exact ⟨_, rfl, g2 _⟩
    · by_cases c2 : (es[i].len : Int) < n
      · simp (disch := first | omega | assumption | (simp only [new_next, new_floor, set_next, set_floor] <;> omega) | (simp only [oneC_str, oneC_int, oneC_bool, oneC_slice, oneC_ptr, oneC_iface, Bool.and_self]) | rfl) only [↓bsome, msome, ↓bindP_some, ↓bindM_some, ↓newK_eq, ↓condV_true, ↓condV_false, condV_not, ↓condG_tt, ↓condG_ff, ↓condG_tf, ↓condG_ft, condG_not, ↓condG_undef, dec_t, dec_f, decide_true, decide_false, pick_t, pick_f, un_not, bnot_t, bnot_f, add64, sub64, mul64, lss64, leq64, gtr64, geq64, eql64, neq64, convU8, conv64, str_lit, len_str, eql_str, neq_str, idx_str, slice_hi, slice_lo, slice_to, pNil_ptr, fieldA_ptr, ldV1, ldVn, stVn, blk_new, blk_new_at, set_new_at, apart1, new_old, blk_set_at, set_old, new_next, new_floor, set_next, set_floor, get1_0, get3_0, get3_1, get3_2, get3_n, put3, get4_0, get4_1, get4_2, get4_3, get4_n, put4, Nat.zero_add, Nat.add_zero, ne_eq, not_false_eq_true, reduceCtorEq, Nat.reduceAdd, Nat.reduceEqDiff, Nat.succ_ne_self, idxSl_1, extract_t2_0, extract_t2_1, extract_t3_0, extract_t3_1, extract_t3_2, ↓quiet_some, atFloor_back, oneOf_one, atFloor_next, atFloor_floor, atFloor_blk, get6_0, get6_1, get6_2, get6_3, get6_4, get6_5, hide_blk, hide2_blk, hid_nil, hid_next, hid_floor, hid2_next, e1, findV, s1.sto.blk, idx8 hi, hge, entV, J61_0, J61_1, J61_2]
        rw [if_neg (by omega)]
        exact ⟨_, rfl, g2 _⟩
      · by_cases c3 : a < 0
        · simp (disch := first | omega | assumption | (simp only [new_next, new_floor, set_next, set_floor] <;> omega) | (simp only [oneC_str, oneC_int, oneC_bool, oneC_slice, oneC_ptr, oneC_iface, Bool.and_self]) | rfl) only [↓bsome, msome, ↓bindP_some, ↓bindM_some, ↓newK_eq, ↓condV_true, ↓condV_false, condV_not, ↓condG_tt, ↓condG_ff, ↓condG_tf, ↓condG_ft, condG_not, ↓condG_undef, dec_t, dec_f, decide_true, decide_false, pick_t, pick_f, un_not, bnot_t, bnot_f, add64, sub64, mul64, lss64, leq64, gtr64, geq64, eql64, neq64, convU8, conv64, str_lit, len_str, eql_str, neq_str, idx_str, slice_hi, slice_lo, slice_to, pNil_ptr, fieldA_ptr, ldV1, ldVn, stVn, blk_new, blk_new_at, set_new_at, apart1, new_old, blk_set_at, set_old, new_next, new_floor, set_next, set_floor, get1_0, get3_0, get3_1, get3_2, get3_n, put3, get4_0, get4_1, get4_2, get4_3, get4_n, put4, Nat.zero_add, Nat.add_zero, ne_eq, not_false_eq_true, reduceCtorEq, Nat.reduceAdd, Nat.reduceEqDiff, Nat.succ_ne_self, idxSl_1, extract_t2_0, extract_t2_1, extract_t3_0, extract_t3_1, extract_t3_2, ↓quiet_some, atFloor_back, oneOf_one, atFloor_next, atFloor_floor, atFloor_blk, get6_0, get6_1, get6_2, get6_3, get6_4, get6_5, hide_blk, hide2_blk, hid_nil, hid_next, hid_floor, hid2_next, e1, findV, s1.sto.blk, idx8 hi, hge, entV, J61_0, J61_1, J61_2]
          rw [if_neg (by omega)]
          exact ⟨_, rfl, g2 _⟩
        · by_cases c4 : (es[i].len : Int) - n < a
          · simp (disch := first | omega | assumption | (simp only [new_next, new_floor, set_next, set_floor] <;> omega) | (simp only [oneC_str, oneC_int, oneC_bool, oneC_slice, oneC_ptr, oneC_iface, Bool.and_self]) | rfl) only [↓bsome, msome, ↓bindP_some, ↓bindM_some, ↓newK_eq, ↓condV_true, ↓condV_false, condV_not, ↓condG_tt, ↓condG_ff, ↓condG_tf, ↓condG_ft, condG_not, ↓condG_undef, dec_t, dec_f, decide_true, decide_false, pick_t, pick_f, un_not, bnot_t, bnot_f, add64, sub64, mul64, lss64, leq64, gtr64, geq64, eql64, neq64, convU8, conv64, str_lit, len_str, eql_str, neq_str, idx_str, slice_hi, slice_lo, slice_to, pNil_ptr, fieldA_ptr, ldV1, ldVn, stVn, blk_new, blk_new_at, set_new_at, apart1, new_old, blk_set_at, set_old, new_next, new_floor, set_next, set_floor, get1_0, get3_0, get3_1, get3_2, get3_n, put3, get4_0, get4_1, get4_2, get4_3, get4_n, put4, Nat.zero_add, Nat.add_zero, ne_eq, not_false_eq_true, reduceCtorEq, Nat.reduceAdd, Nat.reduceEqDiff, Nat.succ_ne_self, idxSl_1, extract_t2_0, extract_t2_1, extract_t3_0, extract_t3_1, extract_t3_2, ↓quiet_some, atFloor_back, oneOf_one, atFloor_next, atFloor_floor, atFloor_blk, get6_0, get6_1, get6_2, get6_3, get6_4, get6_5, hide_blk, hide2_blk, hid_nil, hid_next, hid_floor, hid2_next, e1, findV, s1.sto.blk, idx8 hi, hge, entV, J61_0, J61_1, J61_2]
            rw [if_neg (by omega)]
            exact ⟨_, rfl, g2 _⟩
          · simp (disch := first | omega | assumption | (simp only [new_next, new_floor, set_next, set_floor] <;> omega) | (simp only [oneC_str, oneC_int, oneC_bool, oneC_slice, oneC_ptr, oneC_iface, Bool.and_self]) | rfl) only [↓bsome, msome, ↓bindP_some, ↓bindM_some, ↓newK_eq, ↓condV_true, ↓condV_false, condV_not, ↓condG_tt, ↓condG_ff, ↓condG_tf, ↓condG_ft, condG_not, ↓condG_undef, dec_t, dec_f, decide_true, decide_false, pick_t, pick_f, un_not, bnot_t, bnot_f, add64, sub64, mul64, lss64, leq64, gtr64, geq64, eql64, neq64, convU8, conv64, str_lit, len_str, eql_str, neq_str, idx_str, slice_hi, slice_lo, slice_to, pNil_ptr, fieldA_ptr, ldV1, ldVn, stVn, blk_new, blk_new_at, set_new_at, apart1, new_old, blk_set_at, set_old, new_next, new_floor, set_next, set_floor, get1_0, get3_0, get3_1, get3_2, get3_n, put3, get4_0, get4_1, get4_2, get4_3, get4_n, put4, Nat.zero_add, Nat.add_zero, ne_eq, not_false_eq_true, reduceCtorEq, Nat.reduceAdd, Nat.reduceEqDiff, Nat.succ_ne_self, idxSl_1, extract_t2_0, extract_t2_1, extract_t3_0, extract_t3_1, extract_t3_2, ↓quiet_some, atFloor_back, oneOf_one, atFloor_next, atFloor_floor, atFloor_blk, get6_0, get6_1, get6_2, get6_3, get6_4, get6_5, hide_blk, hide2_blk, hid_nil, hid_next, hid_floor, hid2_next, e1, findV, s1.sto.blk, idx8 hi, hge, entV, J61_0, J61_1, J61_2]
            rw [if_pos (by omega)]
            exact ⟨_, rfl, g2 _⟩
def readP (cap : Nat) (es : List Ent) (t : List UInt8) (nm : List UInt8) (a n : Int) : Value :=
  if (placeP es nm a n).2 = 0 then rdI cap t (placeP es nm a n).1 n else .tuple #[str [], .int .i64 (placeP es nm a n).2]
theorem sread_run (hd : DiskOk K d cap D) {k : Nat} (hk : K + 110 ≤ k) (h : Sys d cap D s es t F H) (hw : WfE cap es) (nm : List UInt8) (a n : Int) :
    ∃ F' H', run Tryz.prog k 25 #[.pointer (some ⟨s, 0, none⟩), str nm, .int .i64 a, .int .i64 n] H = some (readP cap es t nm a n, H') ∧ Sys d cap D s es t F' H' ∧ Foot (orS s F) (orS s F') H H' := by
  obtain ⟨k, rfl⟩ : ∃ k', k = k' + 1 := ⟨k - 1, by omega⟩
  obtain ⟨H1, e1, g1⟩ := place_run (k := k) hd (by omega) h hw nm a n (.inr trivial)
  have s1 := h.grow hd g1
  rw [run25, F25]
  by_cases c : (placeP es nm a n).2 = 0
  · obtain ⟨fa, F', H2, e2, e3, d2, f2⟩ := hd.read (k := k) (placeP es nm a n).1 n (by omega) s1.dsk s1.fl
    have hrd : ∃ x e, rdI cap t (placeP es nm a n).1 n = .tuple #[x, e] := by unfold rdI; split <;> exact ⟨_, _, rfl⟩
    obtain ⟨x, e, hrd⟩ := hrd
    rw [hrd] at e3
    simp (disch := first | omega | assumption | (simp only [new_next, new_floor, set_next, set_floor] <;> omega) | (simp only [oneC_str, oneC_int, oneC_bool, oneC_slice, oneC_ptr, oneC_iface, Bool.and_self]) | rfl) only [↓bsome, msome, ↓bindP_some, ↓bindM_some, ↓newK_eq, ↓condV_true, ↓condV_false, condV_not, ↓condG_tt, ↓condG_ff, ↓condG_tf, ↓condG_ft, condG_not, ↓condG_undef, dec_t, dec_f, decide_true, decide_false, pick_t, pick_f, un_not, bnot_t, bnot_f, add64, sub64, mul64, lss64, leq64, gtr64, geq64, eql64, neq64, convU8, conv64, str_lit, len_str, eql_str, neq_str, idx_str, slice_hi, slice_lo, slice_to, pNil_ptr, fieldA_ptr, ldV1, ldVn, stVn, blk_new, blk_new_at, set_new_at, apart1, new_old, blk_set_at, set_old, new_next, new_floor, set_next, set_floor, get1_0, get3_0, get3_1, get3_2, get3_n, put3, get4_0, get4_1, get4_2, get4_3, get4_n, put4, Nat.zero_add, Nat.add_zero, ne_eq, not_false_eq_true, reduceCtorEq, Nat.reduceAdd, Nat.reduceEqDiff, Nat.succ_ne_self, idxSl_1, extract_t2_0, extract_t2_1, extract_t3_0, extract_t3_1, extract_t3_2, ↓quiet_some, atFloor_back, oneOf_one, atFloor_next, atFloor_floor, atFloor_blk, get6_0, get6_1, get6_2, get6_3, get6_4, get6_5, hide_blk, hide2_blk, hid_nil, hid_next, hid_floor, hid2_next, e1, c, s1.sto.blk, get_d, nil_iface hd, e2, e3]
    exact ⟨F', H2, by rw [readP, if_pos c, hrd], s1.disk d2 f2, (Foot.of_grow g1).trans (Sys.foot s f2)⟩
  · simp (disch := first | omega | assumption | (simp only [new_next, new_floor, set_next, set_floor] <;> omega) | (simp only [oneC_str, oneC_int, oneC_bool, oneC_slice, oneC_ptr, oneC_iface, Bool.and_self]) | rfl) only [↓bsome, msome, ↓bindP_some, ↓bindM_some, ↓newK_eq, ↓condV_true, ↓condV_false, condV_not, ↓condG_tt, ↓condG_ff, ↓condG_tf, ↓condG_ft, condG_not, ↓condG_undef, dec_t, dec_f, decide_true, decide_false, pick_t, pick_f, un_not, bnot_t, bnot_f, add64, sub64, mul64, lss64, leq64, gtr64, geq64, eql64, neq64, convU8, conv64, str_lit, len_str, eql_str, neq_str, idx_str, slice_hi, slice_lo, slice_to, pNil_ptr, fieldA_ptr, ldV1, ldVn, stVn, blk_new, blk_new_at, set_new_at, apart1, new_old, blk_set_at, set_old, new_next, new_floor, set_next, set_floor, get1_0, get3_0, get3_1, get3_2, get3_n, put3, get4_0, get4_1, get4_2, get4_3, get4_n, put4, Nat.zero_add, Nat.add_zero, ne_eq, not_false_eq_true, reduceCtorEq, Nat.reduceAdd, Nat.reduceEqDiff, Nat.succ_ne_self, idxSl_1, extract_t2_0, extract_t2_1, extract_t3_0, extract_t3_1, extract_t3_2, ↓quiet_some, atFloor_back, oneOf_one, atFloor_next, atFloor_floor, atFloor_blk, get6_0, get6_1, get6_2, get6_3, get6_4, get6_5, hide_blk, hide2_blk, hid_nil, hid_next, hid_floor, hid2_next, e1, c]
    exact ⟨F, H1, by rw [readP, if_neg c], s1, Foot.of_grow g1⟩
def writeP (cap : Nat) (es : List Ent) (t : List UInt8) (nm : List UInt8) (a n : Int) (b : List UInt8) : Value × List UInt8 :=
  if (placeP es nm a n).2 = 0 then (okI cap (placeP es nm a n).1 n, wrI cap t (placeP es nm a n).1 n b) else (.int .i64 (placeP es nm a n).2, t)
theorem swrite_run (hd : DiskOk K d cap D) {k : Nat} (hk : K + 110 ≤ k) (h : Sys d cap D s es t F H) (hw : WfE cap es) (nm : List UInt8) (a n : Int) (b : List UInt8) :
    ∃ F' H', run Tryz.prog k 26 #[.pointer (some ⟨s, 0, none⟩), str nm, .int .i64 a, .int .i64 n, str b] H = some ((writeP cap es t nm a n b).1, H') ∧ Sys d cap D s es (writeP cap es t nm a n b).2 F' H' ∧ Foot (orS s F) (orS s F') H H' := by
  obtain ⟨k, rfl⟩ : ∃ k', k = k' + 1 := ⟨k - 1, by omega⟩
  obtain ⟨H1, e1, g1⟩ := place_run (k := k) hd (by omega) h hw nm a n (.inr trivial)
  have s1 := h.grow hd g1
  rw [run26, F26]
  by_cases c : (placeP es nm a n).2 = 0
  · obtain ⟨fa, F', H2, e2, e3, d2, f2⟩ := hd.write (k := k) (placeP es nm a n).1 n b (by omega) s1.dsk s1.fl
    simp (disch := first | omega | assumption | (simp only [new_next, new_floor, set_next, set_floor] <;> omega) | (simp only [oneC_str, oneC_int, oneC_bool, oneC_slice, oneC_ptr, oneC_iface, Bool.and_self]) | rfl) only [↓bsome, msome, ↓bindP_some, ↓bindM_some, ↓newK_eq, ↓condV_true, ↓condV_false, condV_not, ↓condG_tt, ↓condG_ff, ↓condG_tf, ↓condG_ft, condG_not, ↓condG_undef, dec_t, dec_f, decide_true, decide_false, pick_t, pick_f, un_not, bnot_t, bnot_f, add64, sub64, mul64, lss64, leq64, gtr64, geq64, eql64, neq64, convU8, conv64, str_lit, len_str, eql_str, neq_str, idx_str, slice_hi, slice_lo, slice_to, pNil_ptr, fieldA_ptr, ldV1, ldVn, stVn, blk_new, blk_new_at, set_new_at, apart1, new_old, blk_set_at, set_old, new_next, new_floor, set_next, set_floor, get1_0, get3_0, get3_1, get3_2, get3_n, put3, get4_0, get4_1, get4_2, get4_3, get4_n, put4, Nat.zero_add, Nat.add_zero, ne_eq, not_false_eq_true, reduceCtorEq, Nat.reduceAdd, Nat.reduceEqDiff, Nat.succ_ne_self, idxSl_1, extract_t2_0, extract_t2_1, extract_t3_0, extract_t3_1, extract_t3_2, ↓quiet_some, atFloor_back, oneOf_one, atFloor_next, atFloor_floor, atFloor_blk, get6_0, get6_1, get6_2, get6_3, get6_4, get6_5, hide_blk, hide2_blk, hid_nil, hid_next, hid_floor, hid2_next, e1, c, s1.sto.blk, get_d, nil_iface hd, e2, e3]
    exact ⟨F', H2, by rw [writeP, if_pos c], by rw [writeP, if_pos c]; exact s1.disk d2 f2, (Foot.of_grow g1).trans (Sys.foot s f2)⟩
  · simp (disch := first | omega | assumption | (simp only [new_next, new_floor, set_next, set_floor] <;> omega) | (simp only [oneC_str, oneC_int, oneC_bool, oneC_slice, oneC_ptr, oneC_iface, Bool.and_self]) | rfl) only [↓bsome, msome, ↓bindP_some, ↓bindM_some, ↓newK_eq, ↓condV_true, ↓condV_false, condV_not, ↓condG_tt, ↓condG_ff, ↓condG_tf, ↓condG_ft, condG_not, ↓condG_undef, dec_t, dec_f, decide_true, decide_false, pick_t, pick_f, un_not, bnot_t, bnot_f, add64, sub64, mul64, lss64, leq64, gtr64, geq64, eql64, neq64, convU8, conv64, str_lit, len_str, eql_str, neq_str, idx_str, slice_hi, slice_lo, slice_to, pNil_ptr, fieldA_ptr, ldV1, ldVn, stVn, blk_new, blk_new_at, set_new_at, apart1, new_old, blk_set_at, set_old, new_next, new_floor, set_next, set_floor, get1_0, get3_0, get3_1, get3_2, get3_n, put3, get4_0, get4_1, get4_2, get4_3, get4_n, put4, Nat.zero_add, Nat.add_zero, ne_eq, not_false_eq_true, reduceCtorEq, Nat.reduceAdd, Nat.reduceEqDiff, Nat.succ_ne_self, idxSl_1, extract_t2_0, extract_t2_1, extract_t3_0, extract_t3_1, extract_t3_2, ↓quiet_some, atFloor_back, oneOf_one, atFloor_next, atFloor_floor, atFloor_blk, get6_0, get6_1, get6_2, get6_3, get6_4, get6_5, hide_blk, hide2_blk, hid_nil, hid_next, hid_floor, hid2_next, e1, c]
    exact ⟨F, H1, by rw [writeP, if_neg c], by rw [writeP, if_neg c]; exact s1, Foot.of_grow g1⟩
def otherP (es : List Ent) (nm to : List UInt8) : Int × Int :=
  match findE es nm with
  | none => (0, 4)
  | some i => if good to then (if (findE es to).isSome then (0, 8) else (i, 0)) else (0, 1)
theorem other_run (hd : DiskOk K d cap D) {k : Nat} (hk : 100 ≤ k) (h : Sys d cap D s es t F H) (nm to : List UInt8) (hto : to.length + 20 ≤ k) (hto2 : to.length < 9223372036854775808) :
    ∃ H', run Tryz.prog k 65 #[.pointer (some ⟨s, 0, none⟩), str nm, str to] H = some (.tuple #[.int .i64 (otherP es nm to).1, .int .i64 (otherP es nm to).2], H') ∧ Grow H H' := by
  obtain ⟨k, rfl⟩ : ∃ k', k = k' + 1 := ⟨k - 1, by omega⟩
  obtain ⟨H1, e1, g1⟩ := find_run (k := k) h.sto nm (by omega)
  have s1 := h.grow hd g1
  obtain ⟨H2, e2, g2⟩ := good_run (k := k) to hto2 (by omega) H1 s1.fl
  have s2 := s1.grow hd g2
  obtain ⟨H3, e3, g3⟩ := find_run (k := k) s2.sto to (by omega)
  rw [run65, F65]
  simp only [otherP]
  cases hf : findE es nm with
  | none =>
    rw [hf] at e1
    simp (disch := first | omega | assumption | (simp only [new_next, new_floor, set_next, set_floor] <;> omega) | (simp only [oneC_str, oneC_int, oneC_bool, oneC_slice, oneC_ptr, oneC_iface, Bool.and_self]) | rfl) only [↓bsome, msome, ↓bindP_some, ↓bindM_some, ↓newK_eq, ↓condV_true, ↓condV_false, condV_not, ↓condG_tt, ↓condG_ff, ↓condG_tf, ↓condG_ft, condG_not, ↓condG_undef, dec_t, dec_f, decide_true, decide_false, pick_t, pick_f, un_not, bnot_t, bnot_f, add64, sub64, mul64, lss64, leq64, gtr64, geq64, eql64, neq64, convU8, conv64, str_lit, len_str, eql_str, neq_str, idx_str, slice_hi, slice_lo, slice_to, pNil_ptr, fieldA_ptr, ldV1, ldVn, stVn, blk_new, blk_new_at, set_new_at, apart1, new_old, blk_set_at, set_old, new_next, new_floor, set_next, set_floor, get1_0, get3_0, get3_1, get3_2, get3_n, put3, get4_0, get4_1, get4_2, get4_3, get4_n, put4, Nat.zero_add, Nat.add_zero, ne_eq, not_false_eq_true, reduceCtorEq, Nat.reduceAdd, Nat.reduceEqDiff, Nat.succ_ne_self, idxSl_1, extract_t2_0, extract_t2_1, extract_t3_0, extract_t3_1, extract_t3_2, ↓quiet_some, atFloor_back, oneOf_one, atFloor_next, atFloor_floor, atFloor_blk, get6_0, get6_1, get6_2, get6_3, get6_4, get6_5, hide_blk, hide2_blk, hid_nil, hid_next, hid_floor, hid2_next, e1, findV]
    exact ⟨H1, rfl, g1⟩
  | some i =>
    rw [hf] at e1
    by_cases hg : good to = true
    · rw [hg] at e2
      cases hf2 : findE es to with
      | none =>
        rw [hf2] at e3
        simp (disch := first | omega | assumption | (simp only [new_next, new_floor, set_next, set_floor] <;> omega) | (simp only [oneC_str, oneC_int, oneC_bool, oneC_slice, oneC_ptr, oneC_iface, Bool.and_self]) | rfl) only [↓bsome, msome, ↓bindP_some, ↓bindM_some, ↓newK_eq, ↓condV_true, ↓condV_false, condV_not, ↓condG_tt, ↓condG_ff, ↓condG_tf, ↓condG_ft, condG_not, ↓condG_undef, dec_t, dec_f, decide_true, decide_false, pick_t, pick_f, un_not, bnot_t, bnot_f, add64, sub64, mul64, lss64, leq64, gtr64, geq64, eql64, neq64, convU8, conv64, str_lit, len_str, eql_str, neq_str, idx_str, slice_hi, slice_lo, slice_to, pNil_ptr, fieldA_ptr, ldV1, ldVn, stVn, blk_new, blk_new_at, set_new_at, apart1, new_old, blk_set_at, set_old, new_next, new_floor, set_next, set_floor, get1_0, get3_0, get3_1, get3_2, get3_n, put3, get4_0, get4_1, get4_2, get4_3, get4_n, put4, Nat.zero_add, Nat.add_zero, ne_eq, not_false_eq_true, reduceCtorEq, Nat.reduceAdd, Nat.reduceEqDiff, Nat.succ_ne_self, idxSl_1, extract_t2_0, extract_t2_1, extract_t3_0, extract_t3_1, extract_t3_2, ↓quiet_some, atFloor_back, oneOf_one, atFloor_next, atFloor_floor, atFloor_blk, get6_0, get6_1, get6_2, get6_3, get6_4, get6_5, hide_blk, hide2_blk, hid_nil, hid_next, hid_floor, hid2_next, e1, findV, e2, e3, hg, Option.isSome_none, Bool.false_eq_true, if_true, if_false]
        exact ⟨H3, rfl, (g1.trans g2).trans g3⟩
      | some j =>
        rw [hf2] at e3
        simp (disch := first | omega | assumption | (simp only [new_next, new_floor, set_next, set_floor] <;> omega) | (simp only [oneC_str, oneC_int, oneC_bool, oneC_slice, oneC_ptr, oneC_iface, Bool.and_self]) | rfl) only [↓bsome, msome, ↓bindP_some, ↓bindM_some, ↓newK_eq, ↓condV_true, ↓condV_false, condV_not, ↓condG_tt, ↓condG_ff, ↓condG_tf, ↓condG_ft, condG_not, ↓condG_undef, dec_t, dec_f, decide_true, decide_false, pick_t, pick_f, un_not, bnot_t, bnot_f, add64, sub64, mul64, lss64, leq64, gtr64, geq64, eql64, neq64, convU8, conv64, str_lit, len_str, eql_str, neq_str, idx_str, slice_hi, slice_lo, slice_to, pNil_ptr, fieldA_ptr, ldV1, ldVn, stVn, blk_new, blk_new_at, set_new_at, apart1, new_old, blk_set_at, set_old, new_next, new_floor, set_next, set_floor, get1_0, get3_0, get3_1, get3_2, get3_n, put3, get4_0, get4_1, get4_2, get4_3, get4_n, put4, Nat.zero_add, Nat.add_zero, ne_eq, not_false_eq_true, reduceCtorEq, Nat.reduceAdd, Nat.reduceEqDiff, Nat.succ_ne_self, idxSl_1, extract_t2_0, extract_t2_1, extract_t3_0, extract_t3_1, extract_t3_2, ↓quiet_some, atFloor_back, oneOf_one, atFloor_next, atFloor_floor, atFloor_blk, get6_0, get6_1, get6_2, get6_3, get6_4, get6_5, hide_blk, hide2_blk, hid_nil, hid_next, hid_floor, hid2_next, e1, findV, e2, e3, hg, Option.isSome_some, if_true]
        exact ⟨H3, rfl, (g1.trans g2).trans g3⟩
    · have hg' : good to = false := by simpa using hg
      rw [hg'] at e2
      simp (disch := first | omega | assumption | (simp only [new_next, new_floor, set_next, set_floor] <;> omega) | (simp only [oneC_str, oneC_int, oneC_bool, oneC_slice, oneC_ptr, oneC_iface, Bool.and_self]) | rfl) only [↓bsome, msome, ↓bindP_some, ↓bindM_some, ↓newK_eq, ↓condV_true, ↓condV_false, condV_not, ↓condG_tt, ↓condG_ff, ↓condG_tf, ↓condG_ft, condG_not, ↓condG_undef, dec_t, dec_f, decide_true, decide_false, pick_t, pick_f, un_not, bnot_t, bnot_f, add64, sub64, mul64, lss64, leq64, gtr64, geq64, eql64, neq64, convU8, conv64, str_lit, len_str, eql_str, neq_str, idx_str, slice_hi, slice_lo, slice_to, pNil_ptr, fieldA_ptr, ldV1, ldVn, stVn, blk_new, blk_new_at, set_new_at, apart1, new_old, blk_set_at, set_old, new_next, new_floor, set_next, set_floor, get1_0, get3_0, get3_1, get3_2, get3_n, put3, get4_0, get4_1, get4_2, get4_3, get4_n, put4, Nat.zero_add, Nat.add_zero, ne_eq, not_false_eq_true, reduceCtorEq, Nat.reduceAdd, Nat.reduceEqDiff, Nat.succ_ne_self, idxSl_1, extract_t2_0, extract_t2_1, extract_t3_0, extract_t3_1, extract_t3_2, ↓quiet_some, atFloor_back, oneOf_one, atFloor_next, atFloor_floor, atFloor_blk, get6_0, get6_1, get6_2, get6_3, get6_4, get6_5, hide_blk, hide2_blk, hid_nil, hid_next, hid_floor, hid2_next, e1, findV, e2, hg', Bool.false_eq_true, if_false]
      exact ⟨H2, rfl, g1.trans g2⟩
theorem good_len {l : List UInt8} (h : good l = true) : 1 ≤ l.length ∧ l.length ≤ 16 := by
  simp only [good, Bool.and_eq_true, decide_eq_true_eq] at h
  exact h.2
/-- A call's answer, and what the store and the disk are behind it. -/
abbrev Res := Int × List Ent × List UInt8
def deleteP (es : List Ent) (t : List UInt8) (nm : List UInt8) : Res :=
  match findE es nm with
  | none => (4, es, t)
  | some i => (0, es.set i Ent.none, wrB t i 1 [])
theorem delete_run (hd : DiskOk K d cap D) (hc : 8 < cap) {k : Nat} (hk : K + 110 ≤ k) (h : Sys d cap D s es t F H) (nm : List UInt8) :
    ∃ F' H', run Tryz.prog k 29 #[.pointer (some ⟨s, 0, none⟩), str nm] H = some (.int .i64 (deleteP es t nm).1, H') ∧ Sys d cap D s (deleteP es t nm).2.1 (deleteP es t nm).2.2 F' H' ∧ Foot (orS s F) (orS s F') H H' := by
  obtain ⟨k, rfl⟩ : ∃ k', k = k' + 1 := ⟨k - 1, by omega⟩
  obtain ⟨H1, e1, g1⟩ := find_run (k := k) h.sto nm (by omega)
  have s1 := h.grow hd g1
  rw [run29, F29]
  simp only [deleteP]
  cases hf : findE es nm with
  | none =>
    rw [hf] at e1
    simp (disch := first | omega | assumption | (simp only [new_next, new_floor, set_next, set_floor] <;> omega) | (simp only [oneC_str, oneC_int, oneC_bool, oneC_slice, oneC_ptr, oneC_iface, Bool.and_self]) | rfl) only [↓bsome, msome, ↓bindP_some, ↓bindM_some, ↓newK_eq, ↓condV_true, ↓condV_false, condV_not, ↓condG_tt, ↓condG_ff, ↓condG_tf, ↓condG_ft, condG_not, ↓condG_undef, dec_t, dec_f, decide_true, decide_false, pick_t, pick_f, un_not, bnot_t, bnot_f, add64, sub64, mul64, lss64, leq64, gtr64, geq64, eql64, neq64, convU8, conv64, str_lit, len_str, eql_str, neq_str, idx_str, slice_hi, slice_lo, slice_to, pNil_ptr, fieldA_ptr, ldV1, ldVn, stVn, blk_new, blk_new_at, set_new_at, apart1, new_old, blk_set_at, set_old, new_next, new_floor, set_next, set_floor, get1_0, get3_0, get3_1, get3_2, get3_n, put3, get4_0, get4_1, get4_2, get4_3, get4_n, put4, Nat.zero_add, Nat.add_zero, ne_eq, not_false_eq_true, reduceCtorEq, Nat.reduceAdd, Nat.reduceEqDiff, Nat.succ_ne_self, idxSl_1, extract_t2_0, extract_t2_1, extract_t3_0, extract_t3_1, extract_t3_2, ↓quiet_some, atFloor_back, oneOf_one, atFloor_next, atFloor_floor, atFloor_blk, get6_0, get6_1, get6_2, get6_3, get6_4, get6_5, hide_blk, hide2_blk, hid_nil, hid_next, hid_floor, hid2_next, e1, findV]
    exact ⟨F, H1, rfl, s1, Foot.of_grow g1⟩
  | some i =>
    rw [hf] at e1
    obtain ⟨hi, hil, hlen, _⟩ := findE_lt h.sto.e8 hf
    obtain ⟨fa, F', C, e2, e3, dC, fC⟩ := hd.trim (k := k) (i : Int) 1 (by omega) s1.dsk s1.fl
    rw [okI, if_pos (right_one hi hc)] at e3
    rw [wrI, if_pos (right_one hi hc), Int.toNat_natCast] at dC
    have sC := s1.disk dC fC
    simp (disch := first | omega | assumption | (simp only [new_next, new_floor, set_next, set_floor] <;> omega) | (simp only [oneC_str, oneC_int, oneC_bool, oneC_slice, oneC_ptr, oneC_iface, Bool.and_self]) | rfl) only [↓bsome, msome, ↓bindP_some, ↓bindM_some, ↓newK_eq, ↓condV_true, ↓condV_false, condV_not, ↓condG_tt, ↓condG_ff, ↓condG_tf, ↓condG_ft, condG_not, ↓condG_undef, dec_t, dec_f, decide_true, decide_false, pick_t, pick_f, un_not, bnot_t, bnot_f, add64, sub64, mul64, lss64, leq64, gtr64, geq64, eql64, neq64, convU8, conv64, str_lit, len_str, eql_str, neq_str, idx_str, slice_hi, slice_lo, slice_to, pNil_ptr, fieldA_ptr, ldV1, ldVn, stVn, blk_new, blk_new_at, set_new_at, apart1, new_old, blk_set_at, set_old, new_next, new_floor, set_next, set_floor, get1_0, get3_0, get3_1, get3_2, get3_n, put3, get4_0, get4_1, get4_2, get4_3, get4_n, put4, Nat.zero_add, Nat.add_zero, ne_eq, not_false_eq_true, reduceCtorEq, Nat.reduceAdd, Nat.reduceEqDiff, Nat.succ_ne_self, idxSl_1, extract_t2_0, extract_t2_1, extract_t3_0, extract_t3_1, extract_t3_2, ↓quiet_some, atFloor_back, oneOf_one, atFloor_next, atFloor_floor, atFloor_blk, get6_0, get6_1, get6_2, get6_3, get6_4, get6_5, hide_blk, hide2_blk, hid_nil, hid_next, hid_floor, hid2_next, e1, findV, s1.sto.blk, get_d, nil_iface hd, e2, e3, build49_0, sC.sto.blk, idx8 hi, put_ent hi sC.sto.e8 sC.sto.fl]
    refine ⟨F', _, rfl, sC.setE hd i Ent.none, ?_⟩
    have f2 : Foot (orS s F) (orS s F') H C := (Foot.of_grow g1).trans (Sys.foot s fC)
    exact f2.trans ⟨(Chg.refl C).set (.inl (.inr rfl)) _, fun _ hn => .inl hn⟩
def renameP (es : List Ent) (t : List UInt8) (nm to : List UInt8) : Res :=
  if (otherP es nm to).2 = 0 then
    (0, es.set (otherP es nm to).1.toNat { es.getD (otherP es nm to).1.toNat Ent.none with name := to }, setP (otherP es nm to).1.toNat { es.getD (otherP es nm to).1.toNat Ent.none with name := to } t)
  else ((otherP es nm to).2, es, t)
theorem otherP_ok (h8 : es.length = 8) {nm to : List UInt8} (h : (otherP es nm to).2 = 0) : ∃ i : Nat, otherP es nm to = ((i : Int), 0) ∧ findE es nm = some i ∧ good to = true ∧ findE es to = none := by
  simp only [otherP] at h ⊢
  cases hf : findE es nm with
  | none => rw [hf] at h; simp at h
  | some i =>
    rw [hf] at h
    by_cases hg : good to = true
    · by_cases h2 : (findE es to).isSome = true
      · simp [hg, h2] at h
      · have h2' : findE es to = none := by simpa using h2
        exact ⟨i, by simp [hg, h2'], rfl, hg, h2'⟩
    · simp [hg] at h
theorem rename_run (hd : DiskOk K d cap D) (hc : 8 < cap) {k : Nat} (hk : K + 120 ≤ k) (h : Sys d cap D s es t F H) (hw : WfE cap es) (nm to : List UInt8) (hto : to.length + 30 ≤ k) (hto2 : to.length < 9223372036854775808) :
    ∃ F' H', run Tryz.prog k 28 #[.pointer (some ⟨s, 0, none⟩), str nm, str to] H = some (.int .i64 (renameP es t nm to).1, H') ∧ Sys d cap D s (renameP es t nm to).2.1 (renameP es t nm to).2.2 F' H' ∧ Foot (orS s F) (orS s F') H H' := by
  obtain ⟨k, rfl⟩ : ∃ k', k = k' + 1 := ⟨k - 1, by omega⟩
  obtain ⟨H1, e1, g1⟩ := other_run (k := k) hd (by omega) h nm to (by omega) hto2
  have s1 := h.grow hd g1
  have hbig := hd.big
  have hfl1 := s1.fl
  rw [run28, F28]
  by_cases c : (otherP es nm to).2 = 0
  · obtain ⟨i, ho, hf, hg, _⟩ := otherP_ok h.sto.e8 c
    obtain ⟨hi, hil, hlen, _⟩ := findE_lt h.sto.e8 hf
    have hw1 := hw.ok es[i] (List.getElem_mem hil)
    have hge := get_e (d := d) (cap := cap) hi h.sto.e8 93
    have hgd : es.getD i Ent.none = es[i] := by rw [List.getD_eq_getElem?_getD, List.getElem?_eq_getElem hil]; rfl
    have hgl := good_len hg
    simp only [renameP, ho, if_true, Int.toNat_natCast, hgd]
    rw [ho] at e1
    obtain ⟨F', H2, e2, s2, f2⟩ := note_run hd hc (k := k) (by omega) (s1.grow hd ((Grow.refl H1).new (.cells #[str to, .int .i64 (es[i].first : Int), .int .i64 (es[i].len : Int)] 49))) hi { es[i] with name := to } hw1.1 hgl.2
    have p1 : ∀ A : Heap, A.floor ≤ H1.next → putN A H1.next 0 (str to) 1 (.cells #[str es[i].name, .int .i64 (es[i].first : Int), .int .i64 (es[i].len : Int)] 49) = some (A.set H1.next (.cells #[str to, .int .i64 (es[i].first : Int), .int .i64 (es[i].len : Int)] 49)) := fun A hA => by
      have hc : (str to).cells = #[str to] := rfl
      simp [putN, row_cells, hc, hA, setL, Blk.put, oneC_str]
    simp only [entV] at e2
    simp (disch := first | omega | assumption | (simp only [new_next, new_floor, set_next, set_floor] <;> omega) | (simp only [oneC_str, oneC_int, oneC_bool, oneC_slice, oneC_ptr, oneC_iface, Bool.and_self]) | rfl) only [↓bsome, msome, ↓bindP_some, ↓bindM_some, ↓newK_eq, ↓condV_true, ↓condV_false, condV_not, ↓condG_tt, ↓condG_ff, ↓condG_tf, ↓condG_ft, condG_not, ↓condG_undef, dec_t, dec_f, decide_true, decide_false, pick_t, pick_f, un_not, bnot_t, bnot_f, add64, sub64, mul64, lss64, leq64, gtr64, geq64, eql64, neq64, convU8, conv64, str_lit, len_str, eql_str, neq_str, idx_str, slice_hi, slice_lo, slice_to, pNil_ptr, fieldA_ptr, ldV1, ldVn, stVn, blk_new, blk_new_at, set_new_at, apart1, new_old, blk_set_at, set_old, new_next, new_floor, set_next, set_floor, get1_0, get3_0, get3_1, get3_2, get3_n, put3, get4_0, get4_1, get4_2, get4_3, get4_n, put4, Nat.zero_add, Nat.add_zero, ne_eq, not_false_eq_true, reduceCtorEq, Nat.reduceAdd, Nat.reduceEqDiff, Nat.succ_ne_self, idxSl_1, extract_t2_0, extract_t2_1, extract_t3_0, extract_t3_1, extract_t3_2, ↓quiet_some, atFloor_back, oneOf_one, atFloor_next, atFloor_floor, atFloor_blk, get6_0, get6_1, get6_2, get6_3, get6_4, get6_5, hide_blk, hide2_blk, hid_nil, hid_next, hid_floor, hid2_next, e1, s1.sto.blk, idx8 hi, hge, entV, p1, e2]
    exact ⟨F', H2, rfl, s2, (Foot.of_grow (g1.new _)).trans f2⟩
  · simp only [renameP, c, if_false]
    simp (disch := first | omega | assumption | (simp only [new_next, new_floor, set_next, set_floor] <;> omega) | (simp only [oneC_str, oneC_int, oneC_bool, oneC_slice, oneC_ptr, oneC_iface, Bool.and_self]) | rfl) only [↓bsome, msome, ↓bindP_some, ↓bindM_some, ↓newK_eq, ↓condV_true, ↓condV_false, condV_not, ↓condG_tt, ↓condG_ff, ↓condG_tf, ↓condG_ft, condG_not, ↓condG_undef, dec_t, dec_f, decide_true, decide_false, pick_t, pick_f, un_not, bnot_t, bnot_f, add64, sub64, mul64, lss64, leq64, gtr64, geq64, eql64, neq64, convU8, conv64, str_lit, len_str, eql_str, neq_str, idx_str, slice_hi, slice_lo, slice_to, pNil_ptr, fieldA_ptr, ldV1, ldVn, stVn, blk_new, blk_new_at, set_new_at, apart1, new_old, blk_set_at, set_old, new_next, new_floor, set_next, set_floor, get1_0, get3_0, get3_1, get3_2, get3_n, put3, get4_0, get4_1, get4_2, get4_3, get4_n, put4, Nat.zero_add, Nat.add_zero, ne_eq, not_false_eq_true, reduceCtorEq, Nat.reduceAdd, Nat.reduceEqDiff, Nat.succ_ne_self, idxSl_1, extract_t2_0, extract_t2_1, extract_t3_0, extract_t3_1, extract_t3_2, ↓quiet_some, atFloor_back, oneOf_one, atFloor_next, atFloor_floor, atFloor_blk, get6_0, get6_1, get6_2, get6_3, get6_4, get6_5, hide_blk, hide2_blk, hid_nil, hid_next, hid_floor, hid2_next, e1, c]
    exact ⟨F, H1, rfl, s1, Foot.of_grow g1⟩
end
end Go.PG

namespace Go.PG
open Go.Proofs

def hitR (n a : Nat) (e : Ent) : Prop := 0 < e.len ∧ a < e.first + e.len ∧ e.first < a + n
instance (n a : Nat) (e : Ent) : Decidable (hitR n a e) := inferInstanceAs (Decidable (_ ∧ _))
def passR (n : Nat) : List Ent → Nat × Bool → Nat × Bool
  | [], p => p
  | e :: es, p => passR n es (if hitR n p.1 e then (e.first + e.len, true) else p)
def roomW (n : Nat) (es : List Ent) : Nat → Nat → Nat
  | 0, a => a
  | m + 1, a => if (passR n es (a, false)).2 then roomW n es m (passR n es (a, false)).1 else a
def freeFrom : Nat → List Ent → Int
  | _, [] => -1
  | i, e :: es => if e.len = 0 then (i : Int) else freeFrom (i + 1) es
def freeI (es : List Ent) : Int := freeFrom 0 es
section
variable {K : Nat} {d : Value} {cap : Nat} {D : DiskP} {s : Nat} {es : List Ent} {t : List UInt8} {F : Nat → Prop} {H : Heap}
theorem pass_loop (k : Nat) (h8 : es.length = 8) (hw : ∀ e ∈ es, e.first + e.len ≤ 1000) (nN : Nat) (hN : nN ≤ 1000) (x0 x4 : Value) (nx : Value → Value → Value → Value → Value → Heap → Option (Value × Heap)) : ∀ (m n i : Nat) (z : Int) (a : Nat) (mv : Bool) (H : Heap), z = i → i + m = 8 → m < n → H.floor ≤ H.next → a ≤ 1000 →
    ∃ H', L63_3 k nx n x0 (.int .i64 (nN : Int)) x4 (.int .i64 (a : Int)) (.bool mv) (.agg (es.flatMap entC).toArray) (.int .i64 z) H = nx x0 (.int .i64 (nN : Int)) x4 (.int .i64 ((passR nN (es.drop i) (a, mv)).1 : Int)) (.bool (passR nN (es.drop i) (a, mv)).2) H' ∧ Grow H H'
  | 0, n, i, z, a, mv, H, hz, hi, hn, hf, ha => by
    subst hz
    obtain ⟨n, rfl⟩ : ∃ n', n = n' + 1 := ⟨n - 1, by omega⟩
    rw [L63_3]
    simp (disch := first | omega | assumption | (simp only [new_next, new_floor, set_next, set_floor] <;> omega) | (simp only [oneC_str, oneC_int, oneC_bool, oneC_slice, oneC_ptr, oneC_iface, Bool.and_self]) | rfl) only [↓bsome, msome, ↓bindP_some, ↓bindM_some, ↓newK_eq, ↓condV_true, ↓condV_false, condV_not, ↓condG_tt, ↓condG_ff, ↓condG_tf, ↓condG_ft, condG_not, ↓condG_undef, dec_t, dec_f, decide_true, decide_false, pick_t, pick_f, un_not, bnot_t, bnot_f, add64, sub64, mul64, lss64, leq64, gtr64, geq64, eql64, neq64, convU8, conv64, str_lit, len_str, eql_str, neq_str, idx_str, slice_hi, slice_lo, slice_to, pNil_ptr, fieldA_ptr, ldV1, ldVn, stVn, blk_new, blk_new_at, set_new_at, apart1, new_old, blk_set_at, set_old, new_next, new_floor, set_next, set_floor, get1_0, get3_0, get3_1, get3_2, get3_n, put3, get4_0, get4_1, get4_2, get4_3, get4_n, put4, Nat.zero_add, Nat.add_zero, ne_eq, not_false_eq_true, reduceCtorEq, Nat.reduceAdd, Nat.reduceEqDiff, Nat.succ_ne_self, idxSl_1, extract_t2_0, extract_t2_1, extract_t3_0, extract_t3_1, extract_t3_2, ↓quiet_some, atFloor_back, oneOf_one, atFloor_next, atFloor_floor, atFloor_blk, get6_0, get6_1, get6_2, get6_3, get6_4, get6_5, hide_blk, hide2_blk, hid_nil, hid_next, hid_floor, hid2_next]
    rw [List.drop_eq_nil_of_le (by omega)]
    exact ⟨H, rfl, Grow.refl H⟩
  | m + 1, n, i, z, a, mv, H, hz, hi, hn, hf, ha => by
    subst hz
    obtain ⟨n, rfl⟩ : ∃ n', n = n' + 1 := ⟨n - 1, by omega⟩
    have hil : i < es.length := by omega
    have hb := hw es[i] (List.getElem_mem hil)
    have g1 : Grow H (H.new (.cells #[str es[i].name, .int .i64 (es[i].first : Int), .int .i64 (es[i].len : Int)] 49)) := (Grow.refl _).new _
    rw [List.drop_eq_getElem_cons hil, passR, L63_3]
    by_cases h1 : 0 < es[i].len
    · by_cases h2 : a < es[i].first + es[i].len
      · by_cases h3 : es[i].first < a + nN
        · simp (disch := first | omega | assumption | (simp only [new_next, new_floor, set_next, set_floor] <;> omega) | (simp only [oneC_str, oneC_int, oneC_bool, oneC_slice, oneC_ptr, oneC_iface, Bool.and_self]) | rfl) only [↓bsome, msome, ↓bindP_some, ↓bindM_some, ↓newK_eq, ↓condV_true, ↓condV_false, condV_not, ↓condG_tt, ↓condG_ff, ↓condG_tf, ↓condG_ft, condG_not, ↓condG_undef, dec_t, dec_f, decide_true, decide_false, pick_t, pick_f, un_not, bnot_t, bnot_f, add64, sub64, mul64, lss64, leq64, gtr64, geq64, eql64, neq64, convU8, conv64, str_lit, len_str, eql_str, neq_str, idx_str, slice_hi, slice_lo, slice_to, pNil_ptr, fieldA_ptr, ldV1, ldVn, stVn, blk_new, blk_new_at, set_new_at, apart1, new_old, blk_set_at, set_old, new_next, new_floor, set_next, set_floor, get1_0, get3_0, get3_1, get3_2, get3_n, put3, get4_0, get4_1, get4_2, get4_3, get4_n, put4, Nat.zero_add, Nat.add_zero, ne_eq, not_false_eq_true, reduceCtorEq, Nat.reduceAdd, Nat.reduceEqDiff, Nat.succ_ne_self, idxSl_1, extract_t2_0, extract_t2_1, extract_t3_0, extract_t3_1, extract_t3_2, ↓quiet_some, atFloor_back, oneOf_one, atFloor_next, atFloor_floor, atFloor_blk, get6_0, get6_1, get6_2, get6_3, get6_4, get6_5, hide_blk, hide2_blk, hid_nil, hid_next, hid_floor, hid2_next, idx_ent h8, J63_0, J63_1, J63_2]
          rw [if_pos ⟨h1, h2, h3⟩]
          obtain ⟨H', e, g⟩ := pass_loop k h8 hw nN hN x0 x4 nx m n (i + 1) _ (es[i].first + es[i].len) true _ rfl (by omega) (by omega) (show (H.new (.cells #[str es[i].name, .int .i64 (es[i].first : Int), .int .i64 (es[i].len : Int)] 49)).floor ≤ (H.new (.cells #[str es[i].name, .int .i64 (es[i].first : Int), .int .i64 (es[i].len : Int)] 49)).next by simp only [new_floor, new_next]; omega) hb
          exact ⟨H', e, g1.trans g⟩
        · simp (disch := first | omega | assumption | (simp only [new_next, new_floor, set_next, set_floor] <;> omega) | (simp only [oneC_str, oneC_int, oneC_bool, oneC_slice, oneC_ptr, oneC_iface, Bool.and_self]) | rfl) only [↓bsome, msome, ↓bindP_some, ↓bindM_some, ↓newK_eq, ↓condV_true, ↓condV_false, condV_not, ↓condG_tt, ↓condG_ff, ↓condG_tf, ↓condG_ft, condG_not, ↓condG_undef, dec_t, dec_f, decide_true, decide_false, pick_t, pick_f, un_not, bnot_t, bnot_f, add64, sub64, mul64, lss64, leq64, gtr64, geq64, eql64, neq64, convU8, conv64, str_lit, len_str, eql_str, neq_str, idx_str, slice_hi, slice_lo, slice_to, pNil_ptr, fieldA_ptr, ldV1, ldVn, stVn, blk_new, blk_new_at, set_new_at, apart1, new_old, blk_set_at, set_old, new_next, new_floor, set_next, set_floor, get1_0, get3_0, get3_1, get3_2, get3_n, put3, get4_0, get4_1, get4_2, get4_3, get4_n, put4, Nat.zero_add, Nat.add_zero, ne_eq, not_false_eq_true, reduceCtorEq, Nat.reduceAdd, Nat.reduceEqDiff, Nat.succ_ne_self, idxSl_1, extract_t2_0, extract_t2_1, extract_t3_0, extract_t3_1, extract_t3_2, ↓quiet_some, atFloor_back, oneOf_one, atFloor_next, atFloor_floor, atFloor_blk, get6_0, get6_1, get6_2, get6_3, get6_4, get6_5, hide_blk, hide2_blk, hid_nil, hid_next, hid_floor, hid2_next, idx_ent h8, J63_0, J63_1, J63_2]
          rw [if_neg (fun h => h3 h.2.2)]
          obtain ⟨H', e, g⟩ := pass_loop k h8 hw nN hN x0 x4 nx m n (i + 1) _ a mv _ rfl (by omega) (by omega) (show (H.new (.cells #[str es[i].name, .int .i64 (es[i].first : Int), .int .i64 (es[i].len : Int)] 49)).floor ≤ (H.new (.cells #[str es[i].name, .int .i64 (es[i].first : Int), .int .i64 (es[i].len : Int)] 49)).next by simp only [new_floor, new_next]; omega) ha
          exact ⟨H', e, g1.trans g⟩
      · simp (disch := first | omega | assumption | (simp only [new_next, new_floor, set_next, set_floor] <;> omega) | (simp only [oneC_str, oneC_int, oneC_bool, oneC_slice, oneC_ptr, oneC_iface, Bool.and_self]) | rfl) only [↓bsome, msome, ↓bindP_some, ↓bindM_some, ↓newK_eq, ↓condV_true, ↓condV_false, condV_not, ↓condG_tt, ↓condG_ff, ↓condG_tf, ↓condG_ft, condG_not, ↓condG_undef, dec_t, dec_f, decide_true, decide_false, pick_t, pick_f, un_not, bnot_t, bnot_f, add64, sub64, mul64, lss64, leq64, gtr64, geq64, eql64, neq64, convU8, conv64, str_lit, len_str, eql_str, neq_str, idx_str, slice_hi, slice_lo, slice_to, pNil_ptr, fieldA_ptr, ldV1, ldVn, stVn, blk_new, blk_new_at, set_new_at, apart1, new_old, blk_set_at, set_old, new_next, new_floor, set_next, set_floor, get1_0, get3_0, get3_1, get3_2, get3_n, put3, get4_0, get4_1, get4_2, get4_3, get4_n, put4, Nat.zero_add, Nat.add_zero, ne_eq, not_false_eq_true, reduceCtorEq, Nat.reduceAdd, Nat.reduceEqDiff, Nat.succ_ne_self, idxSl_1, extract_t2_0, extract_t2_1, extract_t3_0, extract_t3_1, extract_t3_2, ↓quiet_some, atFloor_back, oneOf_one, atFloor_next, atFloor_floor, atFloor_blk, get6_0, get6_1, get6_2, get6_3, get6_4, get6_5, hide_blk, hide2_blk, hid_nil, hid_next, hid_floor, hid2_next, idx_ent h8, J63_0, J63_1, J63_2]
        rw [if_neg (fun h => h2 h.2.1)]
        obtain ⟨H', e, g⟩ := pass_loop k h8 hw nN hN x0 x4 nx m n (i + 1) _ a mv _ rfl (by omega) (by omega) (show (H.new (.cells #[str es[i].name, .int .i64 (es[i].first : Int), .int .i64 (es[i].len : Int)] 49)).floor ≤ (H.new (.cells #[str es[i].name, .int .i64 (es[i].first : Int), .int .i64 (es[i].len : Int)] 49)).next by simp only [new_floor, new_next]; omega) ha
        exact ⟨H', e, g1.trans g⟩
    · simp (disch := first | omega | assumption | (simp only [new_next, new_floor, set_next, set_floor] <;> omega) | (simp only [oneC_str, oneC_int, oneC_bool, oneC_slice, oneC_ptr, oneC_iface, Bool.and_self]) | rfl) only [↓bsome, msome, ↓bindP_some, ↓bindM_some, ↓newK_eq, ↓condV_true, ↓condV_false, condV_not, ↓condG_tt, ↓condG_ff, ↓condG_tf, ↓condG_ft, condG_not, ↓condG_undef, dec_t, dec_f, decide_true, decide_false, pick_t, pick_f, un_not, bnot_t, bnot_f, add64, sub64, mul64, lss64, leq64, gtr64, geq64, eql64, neq64, convU8, conv64, str_lit, len_str, eql_str, neq_str, idx_str, slice_hi, slice_lo, slice_to, pNil_ptr, fieldA_ptr, ldV1, ldVn, stVn, blk_new, blk_new_at, set_new_at, apart1, new_old, blk_set_at, set_old, new_next, new_floor, set_next, set_floor, get1_0, get3_0, get3_1, get3_2, get3_n, put3, get4_0, get4_1, get4_2, get4_3, get4_n, put4, Nat.zero_add, Nat.add_zero, ne_eq, not_false_eq_true, reduceCtorEq, Nat.reduceAdd, Nat.reduceEqDiff, Nat.succ_ne_self, idxSl_1, extract_t2_0, extract_t2_1, extract_t3_0, extract_t3_1, extract_t3_2, ↓quiet_some, atFloor_back, oneOf_one, atFloor_next, atFloor_floor, atFloor_blk, get6_0, get6_1, get6_2, get6_3, get6_4, get6_5, hide_blk, hide2_blk, hid_nil, hid_next, hid_floor, hid2_next, idx_ent h8, J63_0, J63_1, J63_2]
      rw [if_neg (fun h => h1 h.1)]
      obtain ⟨H', e, g⟩ := pass_loop k h8 hw nN hN x0 x4 nx m n (i + 1) _ a mv _ rfl (by omega) (by omega) (show (H.new (.cells #[str es[i].name, .int .i64 (es[i].first : Int), .int .i64 (es[i].len : Int)] 49)).floor ≤ (H.new (.cells #[str es[i].name, .int .i64 (es[i].first : Int), .int .i64 (es[i].len : Int)] 49)).next by simp only [new_floor, new_next]; omega) ha
      exact ⟨H', e, g1.trans g⟩
theorem passR_le (n : Nat) : ∀ (es : List Ent) (p : Nat × Bool), p.1 ≤ (passR n es p).1
  | [], p => Nat.le_refl _
  | e :: es, p => by
    rw [passR]
    refine Nat.le_trans ?_ (passR_le n es _)
    split
    · rename_i h; have := h.2.1; simp only; omega
    · exact Nat.le_refl _
theorem passR_cap (n cap : Nat) : ∀ (es : List Ent) (p : Nat × Bool), (∀ e ∈ es, e.first + e.len ≤ cap) → p.1 ≤ cap → (passR n es p).1 ≤ cap
  | [], p, _, h => h
  | e :: es, p, hw, h => by
    rw [passR]
    refine passR_cap n cap es _ (fun x hx => hw x (List.mem_cons_of_mem _ hx)) ?_
    split
    · exact hw e List.mem_cons_self
    · exact h
theorem passR_mono (n : Nat) : ∀ (es : List Ent) (p : Nat × Bool), p.2 = true → (passR n es p).2 = true
  | [], p, h => h
  | e :: es, p, h => by
    rw [passR]
    refine passR_mono n es _ ?_
    split
    · rfl
    · exact h
theorem passR_moved (n : Nat) : ∀ (es : List Ent) (a : Nat), (passR n es (a, false)).2 = true → a < (passR n es (a, false)).1
  | [], a, h => by simp [passR] at h
  | e :: es, a, h => by
    rw [passR] at h ⊢
    by_cases hh : hitR n a e
    · rw [if_pos hh] at h ⊢
      have h1 : e.first + e.len ≤ (passR n es (e.first + e.len, true)).1 := passR_le n es (e.first + e.len, true)
      have := hh.2.1
      omega
    · rw [if_neg hh] at h ⊢
      exact passR_moved n es a h
theorem passR_still (n : Nat) : ∀ (es : List Ent) (a : Nat), (passR n es (a, false)).2 = false → (passR n es (a, false)).1 = a ∧ ∀ e ∈ es, ¬ hitR n a e
  | [], a, h => ⟨rfl, fun e he => by simp at he⟩
  | e :: es, a, h => by
    rw [passR] at h ⊢
    by_cases hh : hitR n a e
    · rw [if_pos hh] at h
      rw [passR_mono n es _ rfl] at h; cases h
    · rw [if_neg hh] at h ⊢
      obtain ⟨h1, h2⟩ := passR_still n es a h
      refine ⟨h1, fun x hx => ?_⟩
      rcases List.mem_cons.1 hx with rfl | hx
      · exact hh
      · exact h2 x hx
def roomV (cap n : Nat) (es : List Ent) (i : Int) (a : Nat) : Value := .tuple #[.int .i64 i, .int .i64 (a : Int), .bool (decide (0 ≤ i ∧ a + n ≤ cap))]
theorem room_loop (k : Nat) (hk : 20 ≤ k) (hw : ∀ e ∈ es, e.first + e.len ≤ 1000) (hcap : cap ≤ 1000) (nN : Nat) (hN : nN ≤ 1000) (fi : Int) (hfi : -1 ≤ fi ∧ fi < 8) : ∀ (m n : Nat) (a : Nat) (H : Heap), 1001 - a ≤ m → m + 1 < n → a ≤ 1000 → StoAt H s d cap es →
    ∃ H', L63_4 k n (.pointer (some ⟨s, 0, none⟩)) (.int .i64 (nN : Int)) (.int .i64 fi) (.int .i64 (a : Int)) (.bool true) H = some (roomV cap nN es fi (roomW nN es m a), H') ∧ Grow H H'
  | 0, n, a, H, hm, hn, ha, hs => by omega
  | m + 1, n, a, H, hm, hn, ha, hs => by
    obtain ⟨n, rfl⟩ : ∃ n', n = n' + 2 := ⟨n - 2, by omega⟩
    have h1 := hs.lt; have h2 := hs.fl
    rw [L63_4]
    simp (disch := first | omega | assumption | (simp only [new_next, new_floor, set_next, set_floor] <;> omega) | (simp only [oneC_str, oneC_int, oneC_bool, oneC_slice, oneC_ptr, oneC_iface, Bool.and_self]) | rfl) only [↓bsome, msome, ↓bindP_some, ↓bindM_some, ↓newK_eq, ↓condV_true, ↓condV_false, condV_not, ↓condG_tt, ↓condG_ff, ↓condG_tf, ↓condG_ft, condG_not, ↓condG_undef, dec_t, dec_f, decide_true, decide_false, pick_t, pick_f, un_not, bnot_t, bnot_f, add64, sub64, mul64, lss64, leq64, gtr64, geq64, eql64, neq64, convU8, conv64, str_lit, len_str, eql_str, neq_str, idx_str, slice_hi, slice_lo, slice_to, pNil_ptr, fieldA_ptr, ldV1, ldVn, stVn, blk_new, blk_new_at, set_new_at, apart1, new_old, blk_set_at, set_old, new_next, new_floor, set_next, set_floor, get1_0, get3_0, get3_1, get3_2, get3_n, put3, get4_0, get4_1, get4_2, get4_3, get4_n, put4, Nat.zero_add, Nat.add_zero, ne_eq, not_false_eq_true, reduceCtorEq, Nat.reduceAdd, Nat.reduceEqDiff, Nat.succ_ne_self, idxSl_1, extract_t2_0, extract_t2_1, extract_t3_0, extract_t3_1, extract_t3_2, ↓quiet_some, atFloor_back, oneOf_one, atFloor_next, atFloor_floor, atFloor_blk, get6_0, get6_1, get6_2, get6_3, get6_4, get6_5, hide_blk, hide2_blk, hid_nil, hid_next, hid_floor, hid2_next, hs.blk, get_ents hs.e8]
    obtain ⟨H1, e1, g1⟩ := pass_loop k hs.e8 hw nN hN (.pointer (some ⟨s, 0, none⟩)) (.int .i64 fi) (L63_4 k (n + 1)) 8 k 0 _ a false H rfl rfl (by omega) (by omega) ha
    have e1 : L63_3 k (L63_4 k (n + 1)) k (.pointer (some ⟨s, 0, none⟩)) (.int .i64 (nN : Int)) (.int .i64 fi) (.int .i64 (a : Int)) (.bool false) (.agg (es.flatMap entC).toArray) (.int .i64 0) H = _ := e1
    rw [e1, List.drop_zero]
    have hs1 := hs.grow g1
    cases hp : (passR nN es (a, false)).2 with
    | true =>
      have hlt := passR_moved nN es a hp
      have hle := passR_cap nN 1000 es (a, false) hw ha
      obtain ⟨H2, e2, g2⟩ := room_loop k hk hw hcap nN hN fi hfi m (n + 1) (passR nN es (a, false)).1 H1 (by omega) (by omega) hle hs1
      refine ⟨H2, ?_, g1.trans g2⟩
      rw [e2, roomW, if_pos hp]
    | false =>
      obtain ⟨hst, _⟩ := passR_still nN es a hp
      have hr : roomW nN es (m + 1) a = a := by rw [roomW, if_neg (by rw [hp]; decide)]
      rw [hst, hr, L63_4]
      by_cases h0 : 0 ≤ fi
      · simp (disch := first | omega | assumption | (simp only [new_next, new_floor, set_next, set_floor] <;> omega) | (simp only [oneC_str, oneC_int, oneC_bool, oneC_slice, oneC_ptr, oneC_iface, Bool.and_self]) | rfl) only [↓bsome, msome, ↓bindP_some, ↓bindM_some, ↓newK_eq, ↓condV_true, ↓condV_false, condV_not, ↓condG_tt, ↓condG_ff, ↓condG_tf, ↓condG_ft, condG_not, ↓condG_undef, dec_t, dec_f, decide_true, decide_false, pick_t, pick_f, un_not, bnot_t, bnot_f, add64, sub64, mul64, lss64, leq64, gtr64, geq64, eql64, neq64, convU8, conv64, str_lit, len_str, eql_str, neq_str, idx_str, slice_hi, slice_lo, slice_to, pNil_ptr, fieldA_ptr, ldV1, ldVn, stVn, blk_new, blk_new_at, set_new_at, apart1, new_old, blk_set_at, set_old, new_next, new_floor, set_next, set_floor, get1_0, get3_0, get3_1, get3_2, get3_n, put3, get4_0, get4_1, get4_2, get4_3, get4_n, put4, Nat.zero_add, Nat.add_zero, ne_eq, not_false_eq_true, reduceCtorEq, Nat.reduceAdd, Nat.reduceEqDiff, Nat.succ_ne_self, idxSl_1, extract_t2_0, extract_t2_1, extract_t3_0, extract_t3_1, extract_t3_2, ↓quiet_some, atFloor_back, oneOf_one, atFloor_next, atFloor_floor, atFloor_blk, get6_0, get6_1, get6_2, get6_3, get6_4, get6_5, hide_blk, hide2_blk, hid_nil, hid_next, hid_floor, hid2_next, hs1.blk, get_n]
        refine ⟨H1, ?_, g1⟩
        rw [roomV]
        congr 4
        rw [show decide ((a : Int) ≤ (cap : Int) - (nN : Int)) = decide (0 ≤ fi ∧ a + nN ≤ cap) from decide_eq_decide.2 (by omega)]
      · simp (disch := first | omega | assumption | (simp only [new_next, new_floor, set_next, set_floor] <;> omega) | (simp only [oneC_str, oneC_int, oneC_bool, oneC_slice, oneC_ptr, oneC_iface, Bool.and_self]) | rfl) only [↓bsome, msome, ↓bindP_some, ↓bindM_some, ↓newK_eq, ↓condV_true, ↓condV_false, condV_not, ↓condG_tt, ↓condG_ff, ↓condG_tf, ↓condG_ft, condG_not, ↓condG_undef, dec_t, dec_f, decide_true, decide_false, pick_t, pick_f, un_not, bnot_t, bnot_f, add64, sub64, mul64, lss64, leq64, gtr64, geq64, eql64, neq64, convU8, conv64, str_lit, len_str, eql_str, neq_str, idx_str, slice_hi, slice_lo, slice_to, pNil_ptr, fieldA_ptr, ldV1, ldVn, stVn, blk_new, blk_new_at, set_new_at, apart1, new_old, blk_set_at, set_old, new_next, new_floor, set_next, set_floor, get1_0, get3_0, get3_1, get3_2, get3_n, put3, get4_0, get4_1, get4_2, get4_3, get4_n, put4, Nat.zero_add, Nat.add_zero, ne_eq, not_false_eq_true, reduceCtorEq, Nat.reduceAdd, Nat.reduceEqDiff, Nat.succ_ne_self, idxSl_1, extract_t2_0, extract_t2_1, extract_t3_0, extract_t3_1, extract_t3_2, ↓quiet_some, atFloor_back, oneOf_one, atFloor_next, atFloor_floor, atFloor_blk, get6_0, get6_1, get6_2, get6_3, get6_4, get6_5, hide_blk, hide2_blk, hid_nil, hid_next, hid_floor, hid2_next]
        refine ⟨H1, ?_, g1⟩
        rw [roomV, decide_eq_false (by omega)]
theorem free_scan (k : Nat) (nN : Value) (x0 x4 : Value) (h8 : es.length = 8) : ∀ (m n i : Nat) (z : Int) (H : Heap), z = i → i + m = 8 → m < n → H.floor ≤ H.next →
    ∃ H', L63_6 k n x0 nN (.int .i64 (-1)) (.agg (es.flatMap entC).toArray) (.int .i64 z) H = J63_5 k x0 nN (.int .i64 (freeFrom i (es.drop i))) H' ∧ Grow H H'
  | 0, n, i, z, H, hz, hi, hn, hf => by
    subst hz
    obtain ⟨n, rfl⟩ : ∃ n', n = n' + 1 := ⟨n - 1, by omega⟩
    rw [L63_6]
    simp (disch := first | omega | assumption | (simp only [new_next, new_floor, set_next, set_floor] <;> omega) | (simp only [oneC_str, oneC_int, oneC_bool, oneC_slice, oneC_ptr, oneC_iface, Bool.and_self]) | rfl) only [↓bsome, msome, ↓bindP_some, ↓bindM_some, ↓newK_eq, ↓condV_true, ↓condV_false, condV_not, ↓condG_tt, ↓condG_ff, ↓condG_tf, ↓condG_ft, condG_not, ↓condG_undef, dec_t, dec_f, decide_true, decide_false, pick_t, pick_f, un_not, bnot_t, bnot_f, add64, sub64, mul64, lss64, leq64, gtr64, geq64, eql64, neq64, convU8, conv64, str_lit, len_str, eql_str, neq_str, idx_str, slice_hi, slice_lo, slice_to, pNil_ptr, fieldA_ptr, ldV1, ldVn, stVn, blk_new, blk_new_at, set_new_at, apart1, new_old, blk_set_at, set_old, new_next, new_floor, set_next, set_floor, get1_0, get3_0, get3_1, get3_2, get3_n, put3, get4_0, get4_1, get4_2, get4_3, get4_n, put4, Nat.zero_add, Nat.add_zero, ne_eq, not_false_eq_true, reduceCtorEq, Nat.reduceAdd, Nat.reduceEqDiff, Nat.succ_ne_self, idxSl_1, extract_t2_0, extract_t2_1, extract_t3_0, extract_t3_1, extract_t3_2, ↓quiet_some, atFloor_back, oneOf_one, atFloor_next, atFloor_floor, atFloor_blk, get6_0, get6_1, get6_2, get6_3, get6_4, get6_5, hide_blk, hide2_blk, hid_nil, hid_next, hid_floor, hid2_next]
    rw [List.drop_eq_nil_of_le (by omega)]
    exact ⟨H, rfl, Grow.refl H⟩
  | m + 1, n, i, z, H, hz, hi, hn, hf => by
    subst hz
    obtain ⟨n, rfl⟩ : ∃ n', n = n' + 1 := ⟨n - 1, by omega⟩
    have hil : i < es.length := by omega
    rw [List.drop_eq_getElem_cons hil, freeFrom, L63_6]
    by_cases h1 : es[i].len = 0
    · simp (disch := first | omega | assumption | (simp only [new_next, new_floor, set_next, set_floor] <;> omega) | (simp only [oneC_str, oneC_int, oneC_bool, oneC_slice, oneC_ptr, oneC_iface, Bool.and_self]) | rfl) only [↓bsome, msome, ↓bindP_some, ↓bindM_some, ↓newK_eq, ↓condV_true, ↓condV_false, condV_not, ↓condG_tt, ↓condG_ff, ↓condG_tf, ↓condG_ft, condG_not, ↓condG_undef, dec_t, dec_f, decide_true, decide_false, pick_t, pick_f, un_not, bnot_t, bnot_f, add64, sub64, mul64, lss64, leq64, gtr64, geq64, eql64, neq64, convU8, conv64, str_lit, len_str, eql_str, neq_str, idx_str, slice_hi, slice_lo, slice_to, pNil_ptr, fieldA_ptr, ldV1, ldVn, stVn, blk_new, blk_new_at, set_new_at, apart1, new_old, blk_set_at, set_old, new_next, new_floor, set_next, set_floor, get1_0, get3_0, get3_1, get3_2, get3_n, put3, get4_0, get4_1, get4_2, get4_3, get4_n, put4, Nat.zero_add, Nat.add_zero, ne_eq, not_false_eq_true, reduceCtorEq, Nat.reduceAdd, Nat.reduceEqDiff, Nat.succ_ne_self, idxSl_1, extract_t2_0, extract_t2_1, extract_t3_0, extract_t3_1, extract_t3_2, ↓quiet_some, atFloor_back, oneOf_one, atFloor_next, atFloor_floor, atFloor_blk, get6_0, get6_1, get6_2, get6_3, get6_4, get6_5, hide_blk, hide2_blk, hid_nil, hid_next, hid_floor, hid2_next, idx_ent h8]
      rw [if_pos h1]
      exact ⟨_, rfl, (Grow.refl H).new _⟩
    · simp (disch := first | omega | assumption | (simp only [new_next, new_floor, set_next, set_floor] <;> omega) | (simp only [oneC_str, oneC_int, oneC_bool, oneC_slice, oneC_ptr, oneC_iface, Bool.and_self]) | rfl) only [↓bsome, msome, ↓bindP_some, ↓bindM_some, ↓newK_eq, ↓condV_true, ↓condV_false, condV_not, ↓condG_tt, ↓condG_ff, ↓condG_tf, ↓condG_ft, condG_not, ↓condG_undef, dec_t, dec_f, decide_true, decide_false, pick_t, pick_f, un_not, bnot_t, bnot_f, add64, sub64, mul64, lss64, leq64, gtr64, geq64, eql64, neq64, convU8, conv64, str_lit, len_str, eql_str, neq_str, idx_str, slice_hi, slice_lo, slice_to, pNil_ptr, fieldA_ptr, ldV1, ldVn, stVn, blk_new, blk_new_at, set_new_at, apart1, new_old, blk_set_at, set_old, new_next, new_floor, set_next, set_floor, get1_0, get3_0, get3_1, get3_2, get3_n, put3, get4_0, get4_1, get4_2, get4_3, get4_n, put4, Nat.zero_add, Nat.add_zero, ne_eq, not_false_eq_true, reduceCtorEq, Nat.reduceAdd, Nat.reduceEqDiff, Nat.succ_ne_self, idxSl_1, extract_t2_0, extract_t2_1, extract_t3_0, extract_t3_1, extract_t3_2, ↓quiet_some, atFloor_back, oneOf_one, atFloor_next, atFloor_floor, atFloor_blk, get6_0, get6_1, get6_2, get6_3, get6_4, get6_5, hide_blk, hide2_blk, hid_nil, hid_next, hid_floor, hid2_next, idx_ent h8]
      rw [if_neg h1]
      obtain ⟨H', e, g⟩ := free_scan k nN x0 x4 h8 m n (i + 1) _ (H.new (.cells #[str es[i].name, .int .i64 (es[i].first : Int), .int .i64 (es[i].len : Int)] 49)) rfl (by omega) (by omega) (by simp only [new_floor, new_next]; omega)
      exact ⟨H', e, ((Grow.refl H).new _).trans g⟩
theorem freeFrom_lt : ∀ (es : List Ent) (i : Nat), -1 ≤ freeFrom i es ∧ freeFrom i es < ((i + es.length : Nat) : Int)
  | [], i => by simp [freeFrom]; omega
  | e :: es, i => by
    rw [freeFrom]
    split
    · simp; omega
    · have := freeFrom_lt es (i + 1)
      simp only [List.length_cons]; omega
def roomA (n : Nat) (es : List Ent) : Nat := roomW n es 1000 8
theorem room_run {k : Nat} (hk : 1100 ≤ k) (hs : StoAt H s d cap es) (hw : ∀ e ∈ es, e.first + e.len ≤ 1000) (hcap : cap ≤ 1000) (n : Nat) (hN : n ≤ 1000) :
    ∃ H', run Tryz.prog k 63 #[.pointer (some ⟨s, 0, none⟩), .int .i64 (n : Int)] H = some (roomV cap n es (freeI es) (roomA n es), H') ∧ Grow H H' := by
  obtain ⟨k, rfl⟩ : ∃ k', k = k' + 1 := ⟨k - 1, by omega⟩
  have h1 := hs.lt; have h2 := hs.fl
  obtain ⟨H1, e1, g1⟩ := free_scan k (.int .i64 (n : Int)) (.pointer (some ⟨s, 0, none⟩)) (.int .i64 (-1)) hs.e8 8 k 0 _ H rfl rfl (by omega) (by omega)
  have hl := freeFrom_lt es 0
  have h8 := hs.e8
  obtain ⟨H2, e2, g2⟩ := room_loop k (by omega) hw hcap n hN (freeI es) (by unfold freeI; omega) 1000 k 8 H1 (by omega) (by omega) (by omega) (hs.grow g1)
  rw [run63, F63]
  simp (disch := first | omega | assumption | (simp only [new_next, new_floor, set_next, set_floor] <;> omega) | (simp only [oneC_str, oneC_int, oneC_bool, oneC_slice, oneC_ptr, oneC_iface, Bool.and_self]) | rfl) only [↓bsome, msome, ↓bindP_some, ↓bindM_some, ↓newK_eq, ↓condV_true, ↓condV_false, condV_not, ↓condG_tt, ↓condG_ff, ↓condG_tf, ↓condG_ft, condG_not, ↓condG_undef, dec_t, dec_f, decide_true, decide_false, pick_t, pick_f, un_not, bnot_t, bnot_f, add64, sub64, mul64, lss64, leq64, gtr64, geq64, eql64, neq64, convU8, conv64, str_lit, len_str, eql_str, neq_str, idx_str, slice_hi, slice_lo, slice_to, pNil_ptr, fieldA_ptr, ldV1, ldVn, stVn, blk_new, blk_new_at, set_new_at, apart1, new_old, blk_set_at, set_old, new_next, new_floor, set_next, set_floor, get1_0, get3_0, get3_1, get3_2, get3_n, put3, get4_0, get4_1, get4_2, get4_3, get4_n, put4, Nat.zero_add, Nat.add_zero, ne_eq, not_false_eq_true, reduceCtorEq, Nat.reduceAdd, Nat.reduceEqDiff, Nat.succ_ne_self, idxSl_1, extract_t2_0, extract_t2_1, extract_t3_0, extract_t3_1, extract_t3_2, ↓quiet_some, atFloor_back, oneOf_one, atFloor_next, atFloor_floor, atFloor_blk, get6_0, get6_1, get6_2, get6_3, get6_4, get6_5, hide_blk, hide2_blk, hid_nil, hid_next, hid_floor, hid2_next, hs.blk, get_ents hs.e8]
  refine ⟨H2, ?_, g1.trans g2⟩
  have e1 : L63_6 k k (.pointer (some ⟨s, 0, none⟩)) (.int .i64 (n : Int)) (.int .i64 (-1)) (.agg (es.flatMap entC).toArray) (.int .i64 0) H = _ := e1
  rw [e1, List.drop_zero, J63_5]
  exact e2
end
end Go.PG

namespace Go.PG
open Go.Proofs

section
variable {K : Nat} {d : Value} {cap : Nat} {D : DiskP} {s : Nat} {es : List Ent} {t : List UInt8} {F : Nat → Prop} {H : Heap}
def createP (cap : Nat) (es : List Ent) (t : List UInt8) (nm : List UInt8) (n : Int) : Res :=
  if good nm = true ∧ 1 ≤ n ∧ n ≤ 512 then
    match findE es nm with
    | some _ => (8, es, t)
    | none =>
      if 0 ≤ freeI es ∧ roomA n.toNat es + n.toNat ≤ cap then
        (0, es.set (freeI es).toNat ⟨nm, roomA n.toNat es, n.toNat⟩, setP (freeI es).toNat ⟨nm, roomA n.toNat es, n.toNat⟩ (wrB t (roomA n.toNat es) n.toNat []))
      else (5, es, t)
  else (1, es, t)
theorem WfE.le (hw : WfE cap es) (hd : DiskOk K d cap D) : ∀ e ∈ es, e.first + e.len ≤ 1000 := fun e he => by
  have := (hw.ok e he).1; have := hd.big; omega
theorem freeI_lt (h8 : es.length = 8) (h : 0 ≤ freeI es) : ∃ i : Nat, freeI es = (i : Int) ∧ i < 8 := by
  have := (freeFrom_lt es 0).2
  refine ⟨(freeI es).toNat, by omega, ?_⟩
  unfold freeI at *; omega
theorem create_run (hd : DiskOk K d cap D) (hc : 8 < cap) {k : Nat} (hk : K + 1200 ≤ k) (h : Sys d cap D s es t F H) (hw : WfE cap es) (nm : List UInt8) (n : Int) (hnm : nm.length + 30 ≤ k) (hnm2 : nm.length < 9223372036854775808) :
    ∃ F' H', run Tryz.prog k 27 #[.pointer (some ⟨s, 0, none⟩), str nm, .int .i64 n] H = some (.int .i64 (createP cap es t nm n).1, H') ∧ Sys d cap D s (createP cap es t nm n).2.1 (createP cap es t nm n).2.2 F' H' ∧ Foot (orS s F) (orS s F') H H' := by
  obtain ⟨k, rfl⟩ : ∃ k', k = k' + 1 := ⟨k - 1, by omega⟩
  have hbig := hd.big
  obtain ⟨H1, e1, g1⟩ := good_run (k := k) nm hnm2 (by omega) H h.fl
  have s1 := h.grow hd g1
  rw [run27, F27]
  simp only [createP]
  by_cases hg : good nm = true
  · rw [hg] at e1
    by_cases c1 : 1 ≤ n
    · by_cases c2 : n ≤ 512
      · rw [if_pos ⟨hg, c1, c2⟩]
        obtain ⟨H2, e2, g2⟩ := find_run (k := k) s1.sto nm (by omega)
        have s2 := s1.grow hd g2
        cases hf : findE es nm with
        | some i =>
          rw [hf] at e2
          simp (disch := first | omega | assumption | (simp only [new_next, new_floor, set_next, set_floor] <;> omega) | (simp only [oneC_str, oneC_int, oneC_bool, oneC_slice, oneC_ptr, oneC_iface, Bool.and_self]) | rfl) only [↓bsome, msome, ↓bindP_some, ↓bindM_some, ↓newK_eq, ↓condV_true, ↓condV_false, condV_not, ↓condG_tt, ↓condG_ff, ↓condG_tf, ↓condG_ft, condG_not, ↓condG_undef, dec_t, dec_f, decide_true, decide_false, pick_t, pick_f, un_not, bnot_t, bnot_f, add64, sub64, mul64, lss64, leq64, gtr64, geq64, eql64, neq64, convU8, conv64, str_lit, len_str, eql_str, neq_str, idx_str, slice_hi, slice_lo, slice_to, pNil_ptr, fieldA_ptr, ldV1, ldVn, stVn, blk_new, blk_new_at, set_new_at, apart1, new_old, blk_set_at, set_old, new_next, new_floor, set_next, set_floor, get1_0, get3_0, get3_1, get3_2, get3_n, put3, get4_0, get4_1, get4_2, get4_3, get4_n, put4, Nat.zero_add, Nat.add_zero, ne_eq, not_false_eq_true, reduceCtorEq, Nat.reduceAdd, Nat.reduceEqDiff, Nat.succ_ne_self, idxSl_1, extract_t2_0, extract_t2_1, extract_t3_0, extract_t3_1, extract_t3_2, ↓quiet_some, atFloor_back, oneOf_one, atFloor_next, atFloor_floor, atFloor_blk, get6_0, get6_1, get6_2, get6_3, get6_4, get6_5, hide_blk, hide2_blk, hid_nil, hid_next, hid_floor, hid2_next, e1, J27_0, J27_1, e2, findV]
          exact ⟨F, H2, rfl, s2, Foot.of_grow (g1.trans g2)⟩
        | none =>
          rw [hf] at e2
          obtain ⟨n, rfl⟩ : ∃ x : Nat, n = x := ⟨n.toNat, by omega⟩
          obtain ⟨H3, e3, g3⟩ := room_run (k := k) (by omega) s2.sto (hw.le hd) hbig n (by omega)
          have s3 := s2.grow hd g3
          simp only [Int.toNat_natCast]
          by_cases hr : 0 ≤ freeI es ∧ roomA n es + n ≤ cap
          · rw [if_pos hr]
            rw [roomV, decide_eq_true hr] at e3
            have hri : isRight cap (roomA n es : Int) (n : Int) := ⟨by omega, by omega, by omega, by omega⟩
            obtain ⟨fa, F4, H4, e4, e5, d4, f4⟩ := hd.trim (k := k) (roomA n es : Int) (n : Int) (by omega) s3.dsk s3.fl
            rw [okI, if_pos hri] at e5
            rw [wrI, if_pos hri, Int.toNat_natCast, Int.toNat_natCast] at d4
            have s4 := s3.disk d4 f4
            obtain ⟨i, hi, hi8⟩ := freeI_lt h.sto.e8 hr.1
            have hgl := good_len hg
            obtain ⟨F5, H5, e6, s5, f5⟩ := note_run hd hc (k := k) (by omega) s4 hi8 ⟨nm, roomA n es, n⟩ hr.2 hgl.2
            simp only [entV] at e6
            rw [hi] at e3 ⊢
            simp (disch := first | omega | assumption | (simp only [new_next, new_floor, set_next, set_floor] <;> omega) | (simp only [oneC_str, oneC_int, oneC_bool, oneC_slice, oneC_ptr, oneC_iface, Bool.and_self]) | rfl) only [↓bsome, msome, ↓bindP_some, ↓bindM_some, ↓newK_eq, ↓condV_true, ↓condV_false, condV_not, ↓condG_tt, ↓condG_ff, ↓condG_tf, ↓condG_ft, condG_not, ↓condG_undef, dec_t, dec_f, decide_true, decide_false, pick_t, pick_f, un_not, bnot_t, bnot_f, add64, sub64, mul64, lss64, leq64, gtr64, geq64, eql64, neq64, convU8, conv64, str_lit, len_str, eql_str, neq_str, idx_str, slice_hi, slice_lo, slice_to, pNil_ptr, fieldA_ptr, ldV1, ldVn, stVn, blk_new, blk_new_at, set_new_at, apart1, new_old, blk_set_at, set_old, new_next, new_floor, set_next, set_floor, get1_0, get3_0, get3_1, get3_2, get3_n, put3, get4_0, get4_1, get4_2, get4_3, get4_n, put4, Nat.zero_add, Nat.add_zero, ne_eq, not_false_eq_true, reduceCtorEq, Nat.reduceAdd, Nat.reduceEqDiff, Nat.succ_ne_self, idxSl_1, extract_t2_0, extract_t2_1, extract_t3_0, extract_t3_1, extract_t3_2, ↓quiet_some, atFloor_back, oneOf_one, atFloor_next, atFloor_floor, atFloor_blk, get6_0, get6_1, get6_2, get6_3, get6_4, get6_5, hide_blk, hide2_blk, hid_nil, hid_next, hid_floor, hid2_next, e1, J27_0, J27_1, e2, findV, e3, s3.sto.blk, get_d, nil_iface hd, e4, e5, build49, e6]
            exact ⟨F5, H5, rfl, by rw [Int.toNat_natCast]; exact s5, (Foot.of_grow ((g1.trans g2).trans g3)).trans ((Sys.foot s f4).trans f5)⟩
          · rw [if_neg hr]
            rw [roomV, decide_eq_false hr] at e3
            simp (disch := first | omega | assumption | (simp only [new_next, new_floor, set_next, set_floor] <;> omega) | (simp only [oneC_str, oneC_int, oneC_bool, oneC_slice, oneC_ptr, oneC_iface, Bool.and_self]) | rfl) only [↓bsome, msome, ↓bindP_some, ↓bindM_some, ↓newK_eq, ↓condV_true, ↓condV_false, condV_not, ↓condG_tt, ↓condG_ff, ↓condG_tf, ↓condG_ft, condG_not, ↓condG_undef, dec_t, dec_f, decide_true, decide_false, pick_t, pick_f, un_not, bnot_t, bnot_f, add64, sub64, mul64, lss64, leq64, gtr64, geq64, eql64, neq64, convU8, conv64, str_lit, len_str, eql_str, neq_str, idx_str, slice_hi, slice_lo, slice_to, pNil_ptr, fieldA_ptr, ldV1, ldVn, stVn, blk_new, blk_new_at, set_new_at, apart1, new_old, blk_set_at, set_old, new_next, new_floor, set_next, set_floor, get1_0, get3_0, get3_1, get3_2, get3_n, put3, get4_0, get4_1, get4_2, get4_3, get4_n, put4, Nat.zero_add, Nat.add_zero, ne_eq, not_false_eq_true, reduceCtorEq, Nat.reduceAdd, Nat.reduceEqDiff, Nat.succ_ne_self, idxSl_1, extract_t2_0, extract_t2_1, extract_t3_0, extract_t3_1, extract_t3_2, ↓quiet_some, atFloor_back, oneOf_one, atFloor_next, atFloor_floor, atFloor_blk, get6_0, get6_1, get6_2, get6_3, get6_4, get6_5, hide_blk, hide2_blk, hid_nil, hid_next, hid_floor, hid2_next, e1, J27_0, J27_1, e2, findV, e3]
            exact ⟨F, H3, rfl, s3, Foot.of_grow ((g1.trans g2).trans g3)⟩
      · rw [if_neg (fun h => c2 h.2.2)]
        simp (disch := first | omega | assumption | (simp only [new_next, new_floor, set_next, set_floor] <;> omega) | (simp only [oneC_str, oneC_int, oneC_bool, oneC_slice, oneC_ptr, oneC_iface, Bool.and_self]) | rfl) only [↓bsome, msome, ↓bindP_some, ↓bindM_some, ↓newK_eq, ↓condV_true, ↓condV_false, condV_not, ↓condG_tt, ↓condG_ff, ↓condG_tf, ↓condG_ft, condG_not, ↓condG_undef, dec_t, dec_f, decide_true, decide_false, pick_t, pick_f, un_not, bnot_t, bnot_f, add64, sub64, mul64, lss64, leq64, gtr64, geq64, eql64, neq64, convU8, conv64, str_lit, len_str, eql_str, neq_str, idx_str, slice_hi, slice_lo, slice_to, pNil_ptr, fieldA_ptr, ldV1, ldVn, stVn, blk_new, blk_new_at, set_new_at, apart1, new_old, blk_set_at, set_old, new_next, new_floor, set_next, set_floor, get1_0, get3_0, get3_1, get3_2, get3_n, put3, get4_0, get4_1, get4_2, get4_3, get4_n, put4, Nat.zero_add, Nat.add_zero, ne_eq, not_false_eq_true, reduceCtorEq, Nat.reduceAdd, Nat.reduceEqDiff, Nat.succ_ne_self, idxSl_1, extract_t2_0, extract_t2_1, extract_t3_0, extract_t3_1, extract_t3_2, ↓quiet_some, atFloor_back, oneOf_one, atFloor_next, atFloor_floor, atFloor_blk, get6_0, get6_1, get6_2, get6_3, get6_4, get6_5, hide_blk, hide2_blk, hid_nil, hid_next, hid_floor, hid2_next, e1, J27_0, J27_1]
        exact ⟨F, H1, rfl, s1, Foot.of_grow g1⟩
    · rw [if_neg (fun h => c1 h.2.1)]
      simp (disch := first | omega | assumption | (simp only [new_next, new_floor, set_next, set_floor] <;> omega) | (simp only [oneC_str, oneC_int, oneC_bool, oneC_slice, oneC_ptr, oneC_iface, Bool.and_self]) | rfl) only [↓bsome, msome, ↓bindP_some, ↓bindM_some, ↓newK_eq, ↓condV_true, ↓condV_false, condV_not, ↓condG_tt, ↓condG_ff, ↓condG_tf, ↓condG_ft, condG_not, ↓condG_undef, dec_t, dec_f, decide_true, decide_false, pick_t, pick_f, un_not, bnot_t, bnot_f, add64, sub64, mul64, lss64, leq64, gtr64, geq64, eql64, neq64, convU8, conv64, str_lit, len_str, eql_str, neq_str, idx_str, slice_hi, slice_lo, slice_to, pNil_ptr, fieldA_ptr, ldV1, ldVn, stVn, blk_new, blk_new_at, set_new_at, apart1, new_old, blk_set_at, set_old, new_next, new_floor, set_next, set_floor, get1_0, get3_0, get3_1, get3_2, get3_n, put3, get4_0, get4_1, get4_2, get4_3, get4_n, put4, Nat.zero_add, Nat.add_zero, ne_eq, not_false_eq_true, reduceCtorEq, Nat.reduceAdd, Nat.reduceEqDiff, Nat.succ_ne_self, idxSl_1, extract_t2_0, extract_t2_1, extract_t3_0, extract_t3_1, extract_t3_2, ↓quiet_some, atFloor_back, oneOf_one, atFloor_next, atFloor_floor, atFloor_blk, get6_0, get6_1, get6_2, get6_3, get6_4, get6_5, hide_blk, hide2_blk, hid_nil, hid_next, hid_floor, hid2_next, e1, J27_0, J27_1]
      exact ⟨F, H1, rfl, s1, Foot.of_grow g1⟩
  · have hg' : good nm = false := by simpa using hg
    rw [hg'] at e1
    rw [if_neg (fun h => hg h.1)]
    simp (disch := first | omega | assumption | (simp only [new_next, new_floor, set_next, set_floor] <;> omega) | (simp only [oneC_str, oneC_int, oneC_bool, oneC_slice, oneC_ptr, oneC_iface, Bool.and_self]) | rfl) only [↓bsome, msome, ↓bindP_some, ↓bindM_some, ↓newK_eq, ↓condV_true, ↓condV_false, condV_not, ↓condG_tt, ↓condG_ff, ↓condG_tf, ↓condG_ft, condG_not, ↓condG_undef, dec_t, dec_f, decide_true, decide_false, pick_t, pick_f, un_not, bnot_t, bnot_f, add64, sub64, mul64, lss64, leq64, gtr64, geq64, eql64, neq64, convU8, conv64, str_lit, len_str, eql_str, neq_str, idx_str, slice_hi, slice_lo, slice_to, pNil_ptr, fieldA_ptr, ldV1, ldVn, stVn, blk_new, blk_new_at, set_new_at, apart1, new_old, blk_set_at, set_old, new_next, new_floor, set_next, set_floor, get1_0, get3_0, get3_1, get3_2, get3_n, put3, get4_0, get4_1, get4_2, get4_3, get4_n, put4, Nat.zero_add, Nat.add_zero, ne_eq, not_false_eq_true, reduceCtorEq, Nat.reduceAdd, Nat.reduceEqDiff, Nat.succ_ne_self, idxSl_1, extract_t2_0, extract_t2_1, extract_t3_0, extract_t3_1, extract_t3_2, ↓quiet_some, atFloor_back, oneOf_one, atFloor_next, atFloor_floor, atFloor_blk, get6_0, get6_1, get6_2, get6_3, get6_4, get6_5, hide_blk, hide2_blk, hid_nil, hid_next, hid_floor, hid2_next, e1, J27_0, J27_1]
    exact ⟨F, H1, rfl, s1, Foot.of_grow g1⟩
theorem copy_run (hd : DiskOk K d cap D) {k : Nat} (hk : K + 10 ≤ k) (h : Sys d cap D s es t F H) {a b n : Nat} (ha : isRight cap a n) (hb : isRight cap b n) :
    ∃ F' H', run Tryz.prog k 81 #[d, d, .int .i64 (a : Int), .int .i64 (n : Int), .int .i64 (b : Int)] H = some (.int .i64 0, H') ∧ Sys d cap D s es (wrB t b n (rdB t a n)) F' H' ∧ Foot (orS s F) (orS s F') H H' := by
  obtain ⟨k, rfl⟩ : ∃ k', k = k' + 1 := ⟨k - 1, by omega⟩
  obtain ⟨fa, F1, H1, e1, e2, d1, f1⟩ := hd.read (k := k) (a : Int) (n : Int) (by omega) h.dsk h.fl
  rw [rdI, if_pos ha, Int.toNat_natCast, Int.toNat_natCast] at e2
  have s1 := h.disk d1 f1
  obtain ⟨fb, F2, H2, e3, e4, d2, f2⟩ := hd.write (k := k) (b : Int) (n : Int) (rdB t a n) (by omega) s1.dsk s1.fl
  rw [okI, if_pos hb] at e4
  rw [wrI, if_pos hb, Int.toNat_natCast, Int.toNat_natCast] at d2
  have s2 := s1.disk d2 f2
  rw [run81, F81]
  simp (disch := first | omega | assumption | (simp only [new_next, new_floor, set_next, set_floor] <;> omega) | (simp only [oneC_str, oneC_int, oneC_bool, oneC_slice, oneC_ptr, oneC_iface, Bool.and_self]) | rfl) only [↓bsome, msome, ↓bindP_some, ↓bindM_some, ↓newK_eq, ↓condV_true, ↓condV_false, condV_not, ↓condG_tt, ↓condG_ff, ↓condG_tf, ↓condG_ft, condG_not, ↓condG_undef, dec_t, dec_f, decide_true, decide_false, pick_t, pick_f, un_not, bnot_t, bnot_f, add64, sub64, mul64, lss64, leq64, gtr64, geq64, eql64, neq64, convU8, conv64, str_lit, len_str, eql_str, neq_str, idx_str, slice_hi, slice_lo, slice_to, pNil_ptr, fieldA_ptr, ldV1, ldVn, stVn, blk_new, blk_new_at, set_new_at, apart1, new_old, blk_set_at, set_old, new_next, new_floor, set_next, set_floor, get1_0, get3_0, get3_1, get3_2, get3_n, put3, get4_0, get4_1, get4_2, get4_3, get4_n, put4, Nat.zero_add, Nat.add_zero, ne_eq, not_false_eq_true, reduceCtorEq, Nat.reduceAdd, Nat.reduceEqDiff, Nat.succ_ne_self, idxSl_1, extract_t2_0, extract_t2_1, extract_t3_0, extract_t3_1, extract_t3_2, ↓quiet_some, atFloor_back, oneOf_one, atFloor_next, atFloor_floor, atFloor_blk, get6_0, get6_1, get6_2, get6_3, get6_4, get6_5, hide_blk, hide2_blk, hid_nil, hid_next, hid_floor, hid2_next, e1, e2, e3, e4]
  exact ⟨F2, H2, rfl, s2, (Sys.foot s f1).trans (Sys.foot s f2)⟩
def cloneP (cap : Nat) (es : List Ent) (t : List UInt8) (nm to : List UInt8) : Res :=
  if (otherP es nm to).2 = 0 then
    let x := es.getD (otherP es nm to).1.toNat Ent.none
    if 0 ≤ freeI es ∧ roomA x.len es + x.len ≤ cap then
      (0, es.set (freeI es).toNat ⟨to, roomA x.len es, x.len⟩, setP (freeI es).toNat ⟨to, roomA x.len es, x.len⟩ (wrB t (roomA x.len es) x.len (rdB t x.first x.len)))
    else (5, es, t)
  else ((otherP es nm to).2, es, t)
theorem clone_run (hd : DiskOk K d cap D) (hc : 8 < cap) {k : Nat} (hk : K + 1200 ≤ k) (h : Sys d cap D s es t F H) (hw : WfE cap es) (nm to : List UInt8) (hto : to.length + 30 ≤ k) (hto2 : to.length < 9223372036854775808) :
    ∃ F' H', run Tryz.prog k 42 #[.pointer (some ⟨s, 0, none⟩), str nm, str to] H = some (.int .i64 (cloneP cap es t nm to).1, H') ∧ Sys d cap D s (cloneP cap es t nm to).2.1 (cloneP cap es t nm to).2.2 F' H' ∧ Foot (orS s F) (orS s F') H H' := by
  obtain ⟨k, rfl⟩ : ∃ k', k = k' + 1 := ⟨k - 1, by omega⟩
  have hbig := hd.big
  obtain ⟨H1, e1, g1⟩ := other_run (k := k) hd (by omega) h nm to (by omega) hto2
  have s1 := h.grow hd g1
  have hfl1 := s1.fl
  rw [run42, F42]
  by_cases c : (otherP es nm to).2 = 0
  · obtain ⟨i, ho, hf, hg, _⟩ := otherP_ok h.sto.e8 c
    obtain ⟨hi, hil, hlen, _⟩ := findE_lt h.sto.e8 hf
    have hw1 := hw.ok es[i] (List.getElem_mem hil)
    have hge := get_e (d := d) (cap := cap) hi h.sto.e8 93
    have hgd : es.getD i Ent.none = es[i] := by rw [List.getD_eq_getElem?_getD, List.getElem?_eq_getElem hil]; rfl
    have hgl := good_len hg
    simp only [cloneP, ho, if_true, Int.toNat_natCast, hgd]
    rw [ho] at e1
    generalize hA : H1.new (.cells #[str es[i].name, .int .i64 (es[i].first : Int), .int .i64 (es[i].len : Int)] 49) = A
    have gA : Grow H1 A := by rw [← hA]; exact (Grow.refl H1).new _
    have nA : A.next = H1.next + 1 := by rw [← hA]; rfl
    have bA : A.blk H1.next = some (.cells #[str es[i].name, .int .i64 (es[i].first : Int), .int .i64 (es[i].len : Int)] 49) := by rw [← hA, blk_new]
    have sA := s1.grow hd gA
    obtain ⟨H3, e3, g3⟩ := room_run (k := k) (by omega) sA.sto (hw.le hd) hbig es[i].len (by omega)
    have s3 := sA.grow hd g3
    have b3 := g3.eqBlk bA (by omega)
    have n3 := g3.next
    by_cases hr : 0 ≤ freeI es ∧ roomA es[i].len es + es[i].len ≤ cap
    · rw [if_pos hr]
      rw [roomV, decide_eq_true hr] at e3
      have hra : isRight cap (es[i].first : Int) (es[i].len : Int) := ⟨by omega, by omega, by omega, by omega⟩
      have hrb : isRight cap (roomA es[i].len es : Int) (es[i].len : Int) := ⟨by omega, by omega, by omega, by omega⟩
      obtain ⟨F4, H4, e4, s4, f4⟩ := copy_run (k := k) hd (by omega) s3 hra hrb
      have l1 : ¬ orS s F H1.next := fun hh => by
        rcases hh with hh | hh
        · have := hd.lt s1.dsk _ hh; omega
        · have := s1.sto.lt; omega
      have b4 := f4.chg.eqBlk b3 (by omega) l1
      obtain ⟨j, hj, hj8⟩ := freeI_lt h.sto.e8 hr.1
      obtain ⟨F5, H5, e6, s5, f5⟩ := note_run hd hc (k := k) (by omega) s4 hj8 ⟨to, roomA es[i].len es, es[i].len⟩ hr.2 hgl.2
      simp only [entV] at e6
      rw [hj] at e3 ⊢
      simp (disch := first | omega | assumption | (simp only [new_next, new_floor, set_next, set_floor] <;> omega) | (simp only [oneC_str, oneC_int, oneC_bool, oneC_slice, oneC_ptr, oneC_iface, Bool.and_self]) | rfl) only [↓bsome, msome, ↓bindP_some, ↓bindM_some, ↓newK_eq, ↓condV_true, ↓condV_false, condV_not, ↓condG_tt, ↓condG_ff, ↓condG_tf, ↓condG_ft, condG_not, ↓condG_undef, dec_t, dec_f, decide_true, decide_false, pick_t, pick_f, un_not, bnot_t, bnot_f, add64, sub64, mul64, lss64, leq64, gtr64, geq64, eql64, neq64, convU8, conv64, str_lit, len_str, eql_str, neq_str, idx_str, slice_hi, slice_lo, slice_to, pNil_ptr, fieldA_ptr, ldV1, ldVn, stVn, blk_new, blk_new_at, set_new_at, apart1, new_old, blk_set_at, set_old, new_next, new_floor, set_next, set_floor, get1_0, get3_0, get3_1, get3_2, get3_n, put3, get4_0, get4_1, get4_2, get4_3, get4_n, put4, Nat.zero_add, Nat.add_zero, ne_eq, not_false_eq_true, reduceCtorEq, Nat.reduceAdd, Nat.reduceEqDiff, Nat.succ_ne_self, idxSl_1, extract_t2_0, extract_t2_1, extract_t3_0, extract_t3_1, extract_t3_2, ↓quiet_some, atFloor_back, oneOf_one, atFloor_next, atFloor_floor, atFloor_blk, get6_0, get6_1, get6_2, get6_3, get6_4, get6_5, hide_blk, hide2_blk, hid_nil, hid_next, hid_floor, hid2_next, e1, s1.sto.blk, idx8 hi, hge, entV, hA, bA, e3, s3.sto.blk, get_d, b3, e4, b4, build49, e6]
      exact ⟨F5, H5, rfl, by rw [Int.toNat_natCast]; exact s5, (Foot.of_grow ((g1.trans gA).trans g3)).trans (f4.trans f5)⟩
    · rw [if_neg hr]
      rw [roomV, decide_eq_false hr] at e3
      simp (disch := first | omega | assumption | (simp only [new_next, new_floor, set_next, set_floor] <;> omega) | (simp only [oneC_str, oneC_int, oneC_bool, oneC_slice, oneC_ptr, oneC_iface, Bool.and_self]) | rfl) only [↓bsome, msome, ↓bindP_some, ↓bindM_some, ↓newK_eq, ↓condV_true, ↓condV_false, condV_not, ↓condG_tt, ↓condG_ff, ↓condG_tf, ↓condG_ft, condG_not, ↓condG_undef, dec_t, dec_f, decide_true, decide_false, pick_t, pick_f, un_not, bnot_t, bnot_f, add64, sub64, mul64, lss64, leq64, gtr64, geq64, eql64, neq64, convU8, conv64, str_lit, len_str, eql_str, neq_str, idx_str, slice_hi, slice_lo, slice_to, pNil_ptr, fieldA_ptr, ldV1, ldVn, stVn, blk_new, blk_new_at, set_new_at, apart1, new_old, blk_set_at, set_old, new_next, new_floor, set_next, set_floor, get1_0, get3_0, get3_1, get3_2, get3_n, put3, get4_0, get4_1, get4_2, get4_3, get4_n, put4, Nat.zero_add, Nat.add_zero, ne_eq, not_false_eq_true, reduceCtorEq, Nat.reduceAdd, Nat.reduceEqDiff, Nat.succ_ne_self, idxSl_1, extract_t2_0, extract_t2_1, extract_t3_0, extract_t3_1, extract_t3_2, ↓quiet_some, atFloor_back, oneOf_one, atFloor_next, atFloor_floor, atFloor_blk, get6_0, get6_1, get6_2, get6_3, get6_4, get6_5, hide_blk, hide2_blk, hid_nil, hid_next, hid_floor, hid2_next, e1, s1.sto.blk, idx8 hi, hge, entV, hA, bA, e3]
      exact ⟨F, H3, rfl, s3, Foot.of_grow ((g1.trans gA).trans g3)⟩
  · simp only [cloneP, c, if_false]
    simp (disch := first | omega | assumption | (simp only [new_next, new_floor, set_next, set_floor] <;> omega) | (simp only [oneC_str, oneC_int, oneC_bool, oneC_slice, oneC_ptr, oneC_iface, Bool.and_self]) | rfl) only [↓bsome, msome, ↓bindP_some, ↓bindM_some, ↓newK_eq, ↓condV_true, ↓condV_false, condV_not, ↓condG_tt, ↓condG_ff, ↓condG_tf, ↓condG_ft, condG_not, ↓condG_undef, dec_t, dec_f, decide_true, decide_false, pick_t, pick_f, un_not, bnot_t, bnot_f, add64, sub64, mul64, lss64, leq64, gtr64, geq64, eql64, neq64, convU8, conv64, str_lit, len_str, eql_str, neq_str, idx_str, slice_hi, slice_lo, slice_to, pNil_ptr, fieldA_ptr, ldV1, ldVn, stVn, blk_new, blk_new_at, set_new_at, apart1, new_old, blk_set_at, set_old, new_next, new_floor, set_next, set_floor, get1_0, get3_0, get3_1, get3_2, get3_n, put3, get4_0, get4_1, get4_2, get4_3, get4_n, put4, Nat.zero_add, Nat.add_zero, ne_eq, not_false_eq_true, reduceCtorEq, Nat.reduceAdd, Nat.reduceEqDiff, Nat.succ_ne_self, idxSl_1, extract_t2_0, extract_t2_1, extract_t3_0, extract_t3_1, extract_t3_2, ↓quiet_some, atFloor_back, oneOf_one, atFloor_next, atFloor_floor, atFloor_blk, get6_0, get6_1, get6_2, get6_3, get6_4, get6_5, hide_blk, hide2_blk, hid_nil, hid_next, hid_floor, hid2_next, e1, c]
    exact ⟨F, H1, rfl, s1, Foot.of_grow g1⟩
end
end Go.PG

namespace Go.PG
open Go.Proofs

def meets (x y : Ent) : Prop := x.name = y.name ∨ (x.first < y.first + y.len ∧ y.first < x.first + x.len)
instance (x y : Ent) : Decidable (meets x y) := inferInstanceAs (Decidable (_ ∨ _))
theorem meets_run {k : Nat} (hk : 5 ≤ k) (x y : Ent) (hx : x.first + x.len < 1000000) (hy : y.first + y.len < 1000000) (H : Heap) :
    ∃ H', run Tryz.prog k 49 #[entV x, entV y] H = some (.bool (decide (meets x y)), H') ∧ Grow H H' := by
  obtain ⟨k, rfl⟩ : ∃ k', k = k' + 1 := ⟨k - 1, by omega⟩
  have hbox : ∀ (z : Ent) (A : Heap), pBox 49 (entV z) A = some (.pointer (some ⟨A.next, 0, none⟩), A.new (.cells #[str z.name, .int .i64 (z.first : Int), .int .i64 (z.len : Int)] 49)) := fun _ _ => rfl
  have gg : Grow H ((H.new (.cells #[str x.name, .int .i64 (x.first : Int), .int .i64 (x.len : Int)] 49)).new (.cells #[str y.name, .int .i64 (y.first : Int), .int .i64 (y.len : Int)] 49)) := ((Grow.refl H).new _).new _
  rw [run49, F49]
  by_cases h1 : x.name = y.name
  · simp (disch := first | omega | assumption | (simp only [new_next, new_floor, set_next, set_floor] <;> omega) | (simp only [oneC_str, oneC_int, oneC_bool, oneC_slice, oneC_ptr, oneC_iface, Bool.and_self]) | rfl) only [↓bsome, msome, ↓bindP_some, ↓bindM_some, ↓newK_eq, ↓condV_true, ↓condV_false, condV_not, ↓condG_tt, ↓condG_ff, ↓condG_tf, ↓condG_ft, condG_not, ↓condG_undef, dec_t, dec_f, decide_true, decide_false, pick_t, pick_f, un_not, bnot_t, bnot_f, add64, sub64, mul64, lss64, leq64, gtr64, geq64, eql64, neq64, convU8, conv64, str_lit, len_str, eql_str, neq_str, idx_str, slice_hi, slice_lo, slice_to, pNil_ptr, fieldA_ptr, ldV1, ldVn, stVn, blk_new, blk_new_at, set_new_at, apart1, new_old, blk_set_at, set_old, new_next, new_floor, set_next, set_floor, get1_0, get3_0, get3_1, get3_2, get3_n, put3, get4_0, get4_1, get4_2, get4_3, get4_n, put4, Nat.zero_add, Nat.add_zero, ne_eq, not_false_eq_true, reduceCtorEq, Nat.reduceAdd, Nat.reduceEqDiff, Nat.succ_ne_self, idxSl_1, extract_t2_0, extract_t2_1, extract_t3_0, extract_t3_1, extract_t3_2, ↓quiet_some, atFloor_back, oneOf_one, atFloor_next, atFloor_floor, atFloor_blk, get6_0, get6_1, get6_2, get6_3, get6_4, get6_5, hide_blk, hide2_blk, hid_nil, hid_next, hid_floor, hid2_next, hbox, h1, J49_0, J49_1]
    rw [decide_eq_true (show meets x y from .inl h1)]
    refine ⟨_, rfl, ?_⟩
    exact ((Grow.refl H).new _).new _
  · by_cases h2 : x.first < y.first + y.len
    · by_cases h3 : y.first < x.first + x.len
      · simp (disch := first | omega | assumption | (simp only [new_next, new_floor, set_next, set_floor] <;> omega) | (simp only [oneC_str, oneC_int, oneC_bool, oneC_slice, oneC_ptr, oneC_iface, Bool.and_self]) | rfl) only [↓bsome, msome, ↓bindP_some, ↓bindM_some, ↓newK_eq, ↓condV_true, ↓condV_false, condV_not, ↓condG_tt, ↓condG_ff, ↓condG_tf, ↓condG_ft, condG_not, ↓condG_undef, dec_t, dec_f, decide_true, decide_false, pick_t, pick_f, un_not, bnot_t, bnot_f, add64, sub64, mul64, lss64, leq64, gtr64, geq64, eql64, neq64, convU8, conv64, str_lit, len_str, eql_str, neq_str, idx_str, slice_hi, slice_lo, slice_to, pNil_ptr, fieldA_ptr, ldV1, ldVn, stVn, blk_new, blk_new_at, set_new_at, apart1, new_old, blk_set_at, set_old, new_next, new_floor, set_next, set_floor, get1_0, get3_0, get3_1, get3_2, get3_n, put3, get4_0, get4_1, get4_2, get4_3, get4_n, put4, Nat.zero_add, Nat.add_zero, ne_eq, not_false_eq_true, reduceCtorEq, Nat.reduceAdd, Nat.reduceEqDiff, Nat.succ_ne_self, idxSl_1, extract_t2_0, extract_t2_1, extract_t3_0, extract_t3_1, extract_t3_2, ↓quiet_some, atFloor_back, oneOf_one, atFloor_next, atFloor_floor, atFloor_blk, get6_0, get6_1, get6_2, get6_3, get6_4, get6_5, hide_blk, hide2_blk, hid_nil, hid_next, hid_floor, hid2_next, hbox, h1, J49_0, J49_1]
        rw [decide_eq_true (show meets x y from .inr ⟨h2, h3⟩)]
        exact ⟨_, rfl, gg⟩
      · simp (disch := first | omega | assumption | (simp only [new_next, new_floor, set_next, set_floor] <;> omega) | (simp only [oneC_str, oneC_int, oneC_bool, oneC_slice, oneC_ptr, oneC_iface, Bool.and_self]) | rfl) only [↓bsome, msome, ↓bindP_some, ↓bindM_some, ↓newK_eq, ↓condV_true, ↓condV_false, condV_not, ↓condG_tt, ↓condG_ff, ↓condG_tf, ↓condG_ft, condG_not, ↓condG_undef, dec_t, dec_f, decide_true, decide_false, pick_t, pick_f, un_not, bnot_t, bnot_f, add64, sub64, mul64, lss64, leq64, gtr64, geq64, eql64, neq64, convU8, conv64, str_lit, len_str, eql_str, neq_str, idx_str, slice_hi, slice_lo, slice_to, pNil_ptr, fieldA_ptr, ldV1, ldVn, stVn, blk_new, blk_new_at, set_new_at, apart1, new_old, blk_set_at, set_old, new_next, new_floor, set_next, set_floor, get1_0, get3_0, get3_1, get3_2, get3_n, put3, get4_0, get4_1, get4_2, get4_3, get4_n, put4, Nat.zero_add, Nat.add_zero, ne_eq, not_false_eq_true, reduceCtorEq, Nat.reduceAdd, Nat.reduceEqDiff, Nat.succ_ne_self, idxSl_1, extract_t2_0, extract_t2_1, extract_t3_0, extract_t3_1, extract_t3_2, ↓quiet_some, atFloor_back, oneOf_one, atFloor_next, atFloor_floor, atFloor_blk, get6_0, get6_1, get6_2, get6_3, get6_4, get6_5, hide_blk, hide2_blk, hid_nil, hid_next, hid_floor, hid2_next, hbox, h1, J49_0, J49_1]
        rw [decide_eq_false (show ¬ meets x y from fun h => by rcases h with h | h; exact h1 h; exact h3 h.2)]
        exact ⟨_, rfl, gg⟩
    · simp (disch := first | omega | assumption | (simp only [new_next, new_floor, set_next, set_floor] <;> omega) | (simp only [oneC_str, oneC_int, oneC_bool, oneC_slice, oneC_ptr, oneC_iface, Bool.and_self]) | rfl) only [↓bsome, msome, ↓bindP_some, ↓bindM_some, ↓newK_eq, ↓condV_true, ↓condV_false, condV_not, ↓condG_tt, ↓condG_ff, ↓condG_tf, ↓condG_ft, condG_not, ↓condG_undef, dec_t, dec_f, decide_true, decide_false, pick_t, pick_f, un_not, bnot_t, bnot_f, add64, sub64, mul64, lss64, leq64, gtr64, geq64, eql64, neq64, convU8, conv64, str_lit, len_str, eql_str, neq_str, idx_str, slice_hi, slice_lo, slice_to, pNil_ptr, fieldA_ptr, ldV1, ldVn, stVn, blk_new, blk_new_at, set_new_at, apart1, new_old, blk_set_at, set_old, new_next, new_floor, set_next, set_floor, get1_0, get3_0, get3_1, get3_2, get3_n, put3, get4_0, get4_1, get4_2, get4_3, get4_n, put4, Nat.zero_add, Nat.add_zero, ne_eq, not_false_eq_true, reduceCtorEq, Nat.reduceAdd, Nat.reduceEqDiff, Nat.succ_ne_self, idxSl_1, extract_t2_0, extract_t2_1, extract_t3_0, extract_t3_1, extract_t3_2, ↓quiet_some, atFloor_back, oneOf_one, atFloor_next, atFloor_floor, atFloor_blk, get6_0, get6_1, get6_2, get6_3, get6_4, get6_5, hide_blk, hide2_blk, hid_nil, hid_next, hid_floor, hid2_next, hbox, h1, J49_0, J49_1]
      rw [decide_eq_false (show ¬ meets x y from fun h => by rcases h with h | h; exact h1 h; exact h2 h.1)]
      exact ⟨_, rfl, gg⟩
/-- What a sector of the entries says, whoever else is there. -/
def addE (cap : Nat) (t : List UInt8) (es : List Ent) (i : Nat) : List Ent :=
  if (readE (secB t i) cap).len ≠ 0 ∧ ∀ y ∈ vols es, ¬ meets (readE (secB t i) cap) y then es.set i (readE (secB t i) cap) else es
def openE (cap : Nat) (t : List UInt8) : List Ent := (List.range 8).foldl (addE cap t) (List.replicate 8 Ent.none)
section
variable {K : Nat} {d : Value} {cap : Nat} {D : DiskP} {s : Nat} {es : List Ent} {t : List UInt8} {F : Nat → Prop} {H : Heap}
theorem readE_ok (b : List UInt8) (n : Nat) : (readE b n).first + (readE b n).len ≤ n ∧ (readE b n).name.length ≤ 16 ∧ (0 < (readE b n).len → 8 ≤ (readE b n).first) := by
  rw [readE]
  split
  · rename_i h
    exact ⟨h.2.2.2.2.2, (good_len h.2.2.1).2, fun _ => h.2.2.2.2.1⟩
  · refine ⟨by simp [Ent.none], by simp [Ent.none], by simp [Ent.none]⟩
theorem addE_wf (h : WfE cap es) (i : Nat) : WfE cap (addE cap t es i) := by
  rw [addE]
  split
  · exact h.set (readE_ok _ _)
  · exact h
theorem addE_len (es : List Ent) (i : Nat) : (addE cap t es i).length = es.length := by
  rw [addE]; split <;> simp
theorem none_wf : WfE cap (List.replicate 8 Ent.none) := ⟨fun e he => by
  rw [List.eq_of_mem_replicate he]; simp [Ent.none]⟩
theorem foldl_wf (l : List Nat) : ∀ es, WfE cap es → es.length = 8 → WfE cap (l.foldl (addE cap t) es) ∧ (l.foldl (addE cap t) es).length = 8 := by
  induction l with
  | nil => exact fun es h h8 => ⟨h, h8⟩
  | cons a l ih => exact fun es h h8 => ih _ (addE_wf h a) (by rw [addE_len]; exact h8)
theorem openE_wf : WfE cap (openE cap t) ∧ (openE cap t).length = 8 := foldl_wf _ _ none_wf rfl
/-- The loop over the volumes that are. -/
theorem meet_loop (k : Nat) (hk : 10 ≤ k) (hc : cap ≤ 1000) {x : Ent} (hx : x.first + x.len ≤ 1000) {i : Nat} (hi : i < 8) (nx : Value → Value → Value → Heap → Option (Value × Heap)) {vs : Value} {ys : List Ent} (hy : ∀ y ∈ ys, y.first + y.len ≤ 1000) {x5 : Value} {px : Nat} (hys : ys.length < 100) : ∀ (m n j : Nat) (z : Int) (H : Heap), z = j → j + m = ys.length → m < n → StoAt H s d cap es → SlAt H vs 3 entC ys → H.blk px = some (.cells #[str x.name, .int .i64 (x.first : Int), .int .i64 (x.len : Int)] 49) → px < H.next → px ≠ s →
    ∃ H' es', L17_1 k nx n (.pointer (some ⟨s, 0, none⟩)) x5 (.int .i64 (i : Int)) (.pointer (some ⟨px, 0, none⟩)) (.int .i64 (i : Int)) vs (.int .i64 (ys.length : Int)) (.int .i64 z) H = J17_0 k nx (.pointer (some ⟨s, 0, none⟩)) x5 (.int .i64 (i : Int)) H' ∧
      es' = (if ∀ y ∈ ys.drop j, ¬ meets x y then es.set i x else es) ∧ (H' = H ∧ False ∨ ∃ G, Grow H G ∧ (H' = G ∧ es' = es ∨ H' = G.set s (.cells (StoreRow d cap es') 93) ∧ es' = es.set i x))
  | 0, n, j, z, H, hz, hj, hn, hs, hv, hb, hl, hne => by
    subst hz
    obtain ⟨n, rfl⟩ : ∃ n', n = n' + 1 := ⟨n - 1, by omega⟩
    rw [L17_1]
    simp (disch := first | omega | assumption | (simp only [new_next, new_floor, set_next, set_floor] <;> omega) | (simp only [oneC_str, oneC_int, oneC_bool, oneC_slice, oneC_ptr, oneC_iface, Bool.and_self]) | rfl) only [↓bsome, msome, ↓bindP_some, ↓bindM_some, ↓newK_eq, ↓condV_true, ↓condV_false, condV_not, ↓condG_tt, ↓condG_ff, ↓condG_tf, ↓condG_ft, condG_not, ↓condG_undef, dec_t, dec_f, decide_true, decide_false, pick_t, pick_f, un_not, bnot_t, bnot_f, add64, sub64, mul64, lss64, leq64, gtr64, geq64, eql64, neq64, convU8, conv64, str_lit, len_str, eql_str, neq_str, idx_str, slice_hi, slice_lo, slice_to, pNil_ptr, fieldA_ptr, ldV1, ldVn, stVn, blk_new, blk_new_at, set_new_at, apart1, new_old, blk_set_at, set_old, new_next, new_floor, set_next, set_floor, get1_0, get3_0, get3_1, get3_2, get3_n, put3, get4_0, get4_1, get4_2, get4_3, get4_n, put4, Nat.zero_add, Nat.add_zero, ne_eq, not_false_eq_true, reduceCtorEq, Nat.reduceAdd, Nat.reduceEqDiff, Nat.succ_ne_self, idxSl_1, extract_t2_0, extract_t2_1, extract_t3_0, extract_t3_1, extract_t3_2, ↓quiet_some, atFloor_back, oneOf_one, atFloor_next, atFloor_floor, atFloor_blk, get6_0, get6_1, get6_2, get6_3, get6_4, get6_5, hide_blk, hide2_blk, hid_nil, hid_next, hid_floor, hid2_next, hb, hs.blk, idx8 hi]
    rw [show Value.agg #[str x.name, .int .i64 (x.first : Int), .int .i64 (x.len : Int)] = entV x from rfl, put_ent hi hs.e8 hs.fl]
    simp (disch := first | omega | assumption | (simp only [new_next, new_floor, set_next, set_floor] <;> omega) | (simp only [oneC_str, oneC_int, oneC_bool, oneC_slice, oneC_ptr, oneC_iface, Bool.and_self]) | rfl) only [↓bsome, msome, ↓bindP_some, ↓bindM_some, ↓newK_eq, ↓condV_true, ↓condV_false, condV_not, ↓condG_tt, ↓condG_ff, ↓condG_tf, ↓condG_ft, condG_not, ↓condG_undef, dec_t, dec_f, decide_true, decide_false, pick_t, pick_f, un_not, bnot_t, bnot_f, add64, sub64, mul64, lss64, leq64, gtr64, geq64, eql64, neq64, convU8, conv64, str_lit, len_str, eql_str, neq_str, idx_str, slice_hi, slice_lo, slice_to, pNil_ptr, fieldA_ptr, ldV1, ldVn, stVn, blk_new, blk_new_at, set_new_at, apart1, new_old, blk_set_at, set_old, new_next, new_floor, set_next, set_floor, get1_0, get3_0, get3_1, get3_2, get3_n, put3, get4_0, get4_1, get4_2, get4_3, get4_n, put4, Nat.zero_add, Nat.add_zero, ne_eq, not_false_eq_true, reduceCtorEq, Nat.reduceAdd, Nat.reduceEqDiff, Nat.succ_ne_self, idxSl_1, extract_t2_0, extract_t2_1, extract_t3_0, extract_t3_1, extract_t3_2, ↓quiet_some, atFloor_back, oneOf_one, atFloor_next, atFloor_floor, atFloor_blk, get6_0, get6_1, get6_2, get6_3, get6_4, get6_5, hide_blk, hide2_blk, hid_nil, hid_next, hid_floor, hid2_next]
    rw [List.drop_eq_nil_of_le (by omega), if_pos (fun y hy => by simp at hy)]
    exact ⟨_, _, rfl, rfl, .inr ⟨H, Grow.refl H, .inr ⟨rfl, rfl⟩⟩⟩
  | m + 1, n, j, z, H, hz, hj, hn, hs, hv, hb, hl, hne => by
    subst hz
    obtain ⟨n, rfl⟩ : ∃ n', n = n' + 1 := ⟨n - 1, by omega⟩
    have hjl : j < ys.length := by omega
    have h1 := hs.lt; have h2 := hs.fl
    have hyj := hy ys[j] (List.getElem_mem hjl)
    obtain ⟨b, o, e1, e2, e3, _⟩ := hv.get entC_len (by decide) hjl
    have e3 : (H.blk b).bind (getN 3 o) = some (.agg #[str ys[j].name, .int .i64 (ys[j].first : Int), .int .i64 (ys[j].len : Int)]) := e3
    generalize hA : H.new (.cells #[str ys[j].name, .int .i64 (ys[j].first : Int), .int .i64 (ys[j].len : Int)] 49) = A
    have gA : Grow H A := by rw [← hA]; exact (Grow.refl H).new _
    have nA : A.next = H.next + 1 := by rw [← hA]; rfl
    have bA : A.blk H.next = some (.cells #[str ys[j].name, .int .i64 (ys[j].first : Int), .int .i64 (ys[j].len : Int)] 49) := by rw [← hA, blk_new]
    have bx := gA.eqBlk hb hl
    obtain ⟨B, e4, gB⟩ := meets_run (k := k) (by omega) x ys[j] (by omega) (by omega) A
    simp only [entV] at e4
    have nB := gB.next
    have gHB := gA.trans gB
    rw [List.drop_eq_getElem_cons hjl, L17_1]
    by_cases hm : meets x ys[j]
    · rw [decide_eq_true hm] at e4
      simp (disch := first | omega | assumption | (simp only [new_next, new_floor, set_next, set_floor] <;> omega) | (simp only [oneC_str, oneC_int, oneC_bool, oneC_slice, oneC_ptr, oneC_iface, Bool.and_self]) | rfl) only [↓bsome, msome, ↓bindP_some, ↓bindM_some, ↓newK_eq, ↓condV_true, ↓condV_false, condV_not, ↓condG_tt, ↓condG_ff, ↓condG_tf, ↓condG_ft, condG_not, ↓condG_undef, dec_t, dec_f, decide_true, decide_false, pick_t, pick_f, un_not, bnot_t, bnot_f, add64, sub64, mul64, lss64, leq64, gtr64, geq64, eql64, neq64, convU8, conv64, str_lit, len_str, eql_str, neq_str, idx_str, slice_hi, slice_lo, slice_to, pNil_ptr, fieldA_ptr, ldV1, ldVn, stVn, blk_new, blk_new_at, set_new_at, apart1, new_old, blk_set_at, set_old, new_next, new_floor, set_next, set_floor, get1_0, get3_0, get3_1, get3_2, get3_n, put3, get4_0, get4_1, get4_2, get4_3, get4_n, put4, Nat.zero_add, Nat.add_zero, ne_eq, not_false_eq_true, reduceCtorEq, Nat.reduceAdd, Nat.reduceEqDiff, Nat.succ_ne_self, idxSl_1, extract_t2_0, extract_t2_1, extract_t3_0, extract_t3_1, extract_t3_2, ↓quiet_some, atFloor_back, oneOf_one, atFloor_next, atFloor_floor, atFloor_blk, get6_0, get6_1, get6_2, get6_3, get6_4, get6_5, hide_blk, hide2_blk, hid_nil, hid_next, hid_floor, hid2_next, e1, e3, hA, bx, bA, e4]
      rw [if_neg (fun h => h _ List.mem_cons_self hm)]
      exact ⟨B, es, rfl, rfl, .inr ⟨B, gHB, .inl ⟨rfl, rfl⟩⟩⟩
    · rw [decide_eq_false hm] at e4
      simp (disch := first | omega | assumption | (simp only [new_next, new_floor, set_next, set_floor] <;> omega) | (simp only [oneC_str, oneC_int, oneC_bool, oneC_slice, oneC_ptr, oneC_iface, Bool.and_self]) | rfl) only [↓bsome, msome, ↓bindP_some, ↓bindM_some, ↓newK_eq, ↓condV_true, ↓condV_false, condV_not, ↓condG_tt, ↓condG_ff, ↓condG_tf, ↓condG_ft, condG_not, ↓condG_undef, dec_t, dec_f, decide_true, decide_false, pick_t, pick_f, un_not, bnot_t, bnot_f, add64, sub64, mul64, lss64, leq64, gtr64, geq64, eql64, neq64, convU8, conv64, str_lit, len_str, eql_str, neq_str, idx_str, slice_hi, slice_lo, slice_to, pNil_ptr, fieldA_ptr, ldV1, ldVn, stVn, blk_new, blk_new_at, set_new_at, apart1, new_old, blk_set_at, set_old, new_next, new_floor, set_next, set_floor, get1_0, get3_0, get3_1, get3_2, get3_n, put3, get4_0, get4_1, get4_2, get4_3, get4_n, put4, Nat.zero_add, Nat.add_zero, ne_eq, not_false_eq_true, reduceCtorEq, Nat.reduceAdd, Nat.reduceEqDiff, Nat.succ_ne_self, idxSl_1, extract_t2_0, extract_t2_1, extract_t3_0, extract_t3_1, extract_t3_2, ↓quiet_some, atFloor_back, oneOf_one, atFloor_next, atFloor_floor, atFloor_blk, get6_0, get6_1, get6_2, get6_3, get6_4, get6_5, hide_blk, hide2_blk, hid_nil, hid_next, hid_floor, hid2_next, e1, e3, hA, bx, bA, e4]
      obtain ⟨H', es', f1, f2, f3⟩ := meet_loop k hk hc hx hi nx hy hys m n (j + 1) _ B rfl (by omega) (by omega) (hs.grow gHB) (hv.grow gHB) (gB.eqBlk bx (by omega)) (by omega) hne
      refine ⟨H', es', f1, ?_, ?_⟩
      · rw [f2]
        have : (∀ y ∈ ys[j] :: ys.drop (j + 1), ¬ meets x y) ↔ (∀ y ∈ ys.drop (j + 1), ¬ meets x y) := by
          constructor
          · exact fun h y hy => h y (List.mem_cons_of_mem _ hy)
          · intro h y hy
            rcases List.mem_cons.1 hy with rfl | hy
            · exact hm
            · exact h y hy
        simp only [this]
      · rcases f3 with f3 | ⟨G, g, f3⟩
        · exact absurd f3.2 id
        · exact .inr ⟨G, gHB.trans g, f3⟩
theorem vols_mem {x : Ent} (h : x ∈ vols es) : x ∈ es := (List.mem_filter.1 h).1
theorem vols_len (es : List Ent) : (vols es).length ≤ es.length := List.length_filter_le _ _
/-- The loop over the entries. -/
theorem open_loop (hd : DiskOk K d cap D) (k : Nat) (hk : 200 ≤ k) (hc : 8 < cap) {t0 : List UInt8} (ht : t0.length = cap * 32) {lo : Heap} (hlo : lo.next ≤ s) : ∀ (m n i : Nat) (z : Int) (es : List Ent) (H : Heap), z = i → i + m = 8 → m < n → Sys d cap D s es t F H → WfE cap es → Grow lo H →
    ∃ H', L17_2 k n (.pointer (some ⟨s, 0, none⟩)) (str (rdB t0 0 8)) (.int .i64 z) H = some (.tuple #[.pointer (some ⟨s, 0, none⟩), .int .i64 0], H') ∧ Sys d cap D s ((List.range' i m).foldl (addE cap t0) es) t F H' ∧ Grow lo H'
  | 0, n, i, z, es, H, hz, hi, hn, hs, hw, hg => by
    subst hz
    obtain ⟨n, rfl⟩ : ∃ n', n = n' + 1 := ⟨n - 1, by omega⟩
    rw [L17_2]
    simp (disch := first | omega | assumption | (simp only [new_next, new_floor, set_next, set_floor] <;> omega) | (simp only [oneC_str, oneC_int, oneC_bool, oneC_slice, oneC_ptr, oneC_iface, Bool.and_self]) | rfl) only [↓bsome, msome, ↓bindP_some, ↓bindM_some, ↓newK_eq, ↓condV_true, ↓condV_false, condV_not, ↓condG_tt, ↓condG_ff, ↓condG_tf, ↓condG_ft, condG_not, ↓condG_undef, dec_t, dec_f, decide_true, decide_false, pick_t, pick_f, un_not, bnot_t, bnot_f, add64, sub64, mul64, lss64, leq64, gtr64, geq64, eql64, neq64, convU8, conv64, str_lit, len_str, eql_str, neq_str, idx_str, slice_hi, slice_lo, slice_to, pNil_ptr, fieldA_ptr, ldV1, ldVn, stVn, blk_new, blk_new_at, set_new_at, apart1, new_old, blk_set_at, set_old, new_next, new_floor, set_next, set_floor, get1_0, get3_0, get3_1, get3_2, get3_n, put3, get4_0, get4_1, get4_2, get4_3, get4_n, put4, Nat.zero_add, Nat.add_zero, ne_eq, not_false_eq_true, reduceCtorEq, Nat.reduceAdd, Nat.reduceEqDiff, Nat.succ_ne_self, idxSl_1, extract_t2_0, extract_t2_1, extract_t3_0, extract_t3_1, extract_t3_2, ↓quiet_some, atFloor_back, oneOf_one, atFloor_next, atFloor_floor, atFloor_blk, get6_0, get6_1, get6_2, get6_3, get6_4, get6_5, hide_blk, hide2_blk, hid_nil, hid_next, hid_floor, hid2_next]
    exact ⟨H, rfl, hs, hg⟩
  | m + 1, n, i, z, es, H, hz, hi, hn, hs, hw, hg => by
    subst hz
    obtain ⟨n, rfl⟩ : ∃ n', n = n' + 1 := ⟨n - 1, by omega⟩
    have hbig := hd.big
    have hfl := hs.fl
    have hrl : (rdB t0 0 8).length = 256 := by simp only [rdB, List.length_take, List.length_drop]; omega
    have e1 : sliceStr (str (rdB t0 0 8)) (some (.int .i64 ((i : Int) * 32))) (some (.int .i64 (((i : Int) + 1) * 32))) = some (str (secB t0 i)) := by
      have := slice_hi (l := rdB t0 0 8) (i := i * 32) (j := (i + 1) * 32) (by omega) (by omega)
      rw [show ((i * 32 : Nat) : Int) = (i : Int) * 32 from by omega, show (((i + 1) * 32 : Nat) : Int) = ((i : Int) + 1) * 32 from by omega] at this
      rw [this]
      congr 2
      simp only [rdB, secB, Nat.zero_mul, List.drop_zero]
      rw [List.drop_take, List.take_take]
      congr 1; omega
    have hsl : (secB t0 i).length = 32 := secB_len ht (by omega)
    obtain ⟨L, e2, gL⟩ := read_run (k := k) (by omega) (secB t0 i) hsl cap (by omega) (H.atFloor H.next) (by rw [atFloor_floor, atFloor_next]; exact Nat.le_refl _)
    have gL := gL.quiet
    obtain ⟨r1, r2, r3⟩ := readE_ok (secB t0 i) cap
    generalize hx : readE (secB t0 i) cap = x at e2 r1 r2 r3
    generalize hB : L.atFloor H.floor = B at gL
    have sB := hs.grow hd gL
    have nB := gL.next
    have fB := gL.floor
    have gBA : Grow B (B.new (.cells #[str x.name, .int .i64 (x.first : Int), .int .i64 (x.len : Int)] 49)) := (Grow.refl B).new _
    have sA := sB.grow hd gBA
    have ew : entV x = .agg #[str x.name, .int .i64 (x.first : Int), .int .i64 (x.len : Int)] := rfl
    rw [ew] at e2
    have hfold : (List.range' i (m + 1)).foldl (addE cap t0) es = (List.range' (i + 1) m).foldl (addE cap t0) (addE cap t0 es i) := by
      rw [List.range'_succ]; rfl
    rw [hfold, L17_2]
    by_cases h0 : x.len = 0
    · simp (disch := first | omega | assumption | (simp only [new_next, new_floor, set_next, set_floor] <;> omega) | (simp only [oneC_str, oneC_int, oneC_bool, oneC_slice, oneC_ptr, oneC_iface, Bool.and_self]) | rfl) only [↓bsome, msome, ↓bindP_some, ↓bindM_some, ↓newK_eq, ↓condV_true, ↓condV_false, condV_not, ↓condG_tt, ↓condG_ff, ↓condG_tf, ↓condG_ft, condG_not, ↓condG_undef, dec_t, dec_f, decide_true, decide_false, pick_t, pick_f, un_not, bnot_t, bnot_f, add64, sub64, mul64, lss64, leq64, gtr64, geq64, eql64, neq64, convU8, conv64, str_lit, len_str, eql_str, neq_str, idx_str, slice_hi, slice_lo, slice_to, pNil_ptr, fieldA_ptr, ldV1, ldVn, stVn, blk_new, blk_new_at, set_new_at, apart1, new_old, blk_set_at, set_old, new_next, new_floor, set_next, set_floor, get1_0, get3_0, get3_1, get3_2, get3_n, put3, get4_0, get4_1, get4_2, get4_3, get4_n, put4, Nat.zero_add, Nat.add_zero, ne_eq, not_false_eq_true, reduceCtorEq, Nat.reduceAdd, Nat.reduceEqDiff, Nat.succ_ne_self, idxSl_1, extract_t2_0, extract_t2_1, extract_t3_0, extract_t3_1, extract_t3_2, ↓quiet_some, atFloor_back, oneOf_one, atFloor_next, atFloor_floor, atFloor_blk, get6_0, get6_1, get6_2, get6_3, get6_4, get6_5, hide_blk, hide2_blk, hid_nil, hid_next, hid_floor, hid2_next, e1, hs.sto.blk, get_n, e2, hB, J17_0]
      have hadd : addE cap t0 es i = es := by rw [addE, hx, if_neg (fun h => h.1 h0)]
      obtain ⟨H', f1, f2, f3⟩ := open_loop hd k hk hc ht hlo m n (i + 1) _ es (B.new (.cells #[str x.name, .int .i64 (x.first : Int), .int .i64 (x.len : Int)] 49)) rfl (by omega) (by omega) sA hw ((hg.trans gL).trans gBA)
      rw [hadd]
      exact ⟨H', f1, f2, f3⟩
    · obtain ⟨v, C, e3, o3, gC⟩ := vols_run (k := k) sA.sto (by omega)
      have sC := sA.grow hd gC
      have bx := gC.eqBlk (blk_new B (.cells #[str x.name, .int .i64 (x.first : Int), .int .i64 (x.len : Int)] 49)) (by simp only [new_next]; omega)
      have nC := gC.next
      simp only [new_next] at nC
      have hvl := vols_len es
      have h8 := hs.sto.e8
      have sl := o3.sl entC_len
      obtain ⟨H', es', f1, f2, f3⟩ := meet_loop k (by omega) hbig (x := x) (by omega) (show i < 8 by omega) (L17_2 k n) (ys := vols es) (fun y hy => hw.le hd y (vols_mem hy)) (x5 := str (rdB t0 0 8)) (px := B.next) (by omega) (vols es).length k 0 _ C rfl (by omega) (by omega) sC.sto sl bx (by omega) (by have := sB.sto.lt; omega)
      have hadd : es' = addE cap t0 es i := by
        rw [f2, addE, hx, List.drop_zero]
        simp [h0]
      simp (disch := first | omega | assumption | (simp only [new_next, new_floor, set_next, set_floor] <;> omega) | (simp only [oneC_str, oneC_int, oneC_bool, oneC_slice, oneC_ptr, oneC_iface, Bool.and_self]) | rfl) only [↓bsome, msome, ↓bindP_some, ↓bindM_some, ↓newK_eq, ↓condV_true, ↓condV_false, condV_not, ↓condG_tt, ↓condG_ff, ↓condG_tf, ↓condG_ft, condG_not, ↓condG_undef, dec_t, dec_f, decide_true, decide_false, pick_t, pick_f, un_not, bnot_t, bnot_f, add64, sub64, mul64, lss64, leq64, gtr64, geq64, eql64, neq64, convU8, conv64, str_lit, len_str, eql_str, neq_str, idx_str, slice_hi, slice_lo, slice_to, pNil_ptr, fieldA_ptr, ldV1, ldVn, stVn, blk_new, blk_new_at, set_new_at, apart1, new_old, blk_set_at, set_old, new_next, new_floor, set_next, set_floor, get1_0, get3_0, get3_1, get3_2, get3_n, put3, get4_0, get4_1, get4_2, get4_3, get4_n, put4, Nat.zero_add, Nat.add_zero, ne_eq, not_false_eq_true, reduceCtorEq, Nat.reduceAdd, Nat.reduceEqDiff, Nat.succ_ne_self, idxSl_1, extract_t2_0, extract_t2_1, extract_t3_0, extract_t3_1, extract_t3_2, ↓quiet_some, atFloor_back, oneOf_one, atFloor_next, atFloor_floor, atFloor_blk, get6_0, get6_1, get6_2, get6_3, get6_4, get6_5, hide_blk, hide2_blk, hid_nil, hid_next, hid_floor, hid2_next, e1, hs.sto.blk, get_n, e2, hB, e3, sl.len]
      have f1 : L17_1 k (L17_2 k n) k (.pointer (some ⟨s, 0, none⟩)) (str (rdB t0 0 8)) (.int .i64 (i : Int)) (.pointer (some ⟨B.next, 0, none⟩)) (.int .i64 (i : Int)) v (.int .i64 ((vols es).length : Int)) (.int .i64 0) C = _ := f1
      rw [f1, J17_0]
      simp (disch := first | omega | assumption | (simp only [new_next, new_floor, set_next, set_floor] <;> omega) | (simp only [oneC_str, oneC_int, oneC_bool, oneC_slice, oneC_ptr, oneC_iface, Bool.and_self]) | rfl) only [↓bsome, msome, ↓bindP_some, ↓bindM_some, ↓newK_eq, ↓condV_true, ↓condV_false, condV_not, ↓condG_tt, ↓condG_ff, ↓condG_tf, ↓condG_ft, condG_not, ↓condG_undef, dec_t, dec_f, decide_true, decide_false, pick_t, pick_f, un_not, bnot_t, bnot_f, add64, sub64, mul64, lss64, leq64, gtr64, geq64, eql64, neq64, convU8, conv64, str_lit, len_str, eql_str, neq_str, idx_str, slice_hi, slice_lo, slice_to, pNil_ptr, fieldA_ptr, ldV1, ldVn, stVn, blk_new, blk_new_at, set_new_at, apart1, new_old, blk_set_at, set_old, new_next, new_floor, set_next, set_floor, get1_0, get3_0, get3_1, get3_2, get3_n, put3, get4_0, get4_1, get4_2, get4_3, get4_n, put4, Nat.zero_add, Nat.add_zero, ne_eq, not_false_eq_true, reduceCtorEq, Nat.reduceAdd, Nat.reduceEqDiff, Nat.succ_ne_self, idxSl_1, extract_t2_0, extract_t2_1, extract_t3_0, extract_t3_1, extract_t3_2, ↓quiet_some, atFloor_back, oneOf_one, atFloor_next, atFloor_floor, atFloor_blk, get6_0, get6_1, get6_2, get6_3, get6_4, get6_5, hide_blk, hide2_blk, hid_nil, hid_next, hid_floor, hid2_next]
      have hs' : Sys d cap D s es' t F H' ∧ Grow lo H' := by
        rcases f3 with f3 | ⟨G, g, f3 | f3⟩
        · exact absurd f3.2 id
        · obtain ⟨rfl, rfl⟩ := f3
          exact ⟨sC.grow hd g, ((hg.trans gL).trans gBA).trans (gC.trans g)⟩
        · obtain ⟨rfl, rfl⟩ := f3
          exact ⟨(sC.grow hd g).setE hd i x, (((hg.trans gL).trans gBA).trans (gC.trans g)).set hlo _⟩
      rw [hadd] at hs'
      obtain ⟨H2, q1, q2, q3⟩ := open_loop hd k hk hc ht hlo m n (i + 1) _ (addE cap t0 es i) H' rfl (by omega) (by omega) hs'.1 (addE_wf hw i) hs'.2
      exact ⟨H2, q1, q2, q3⟩
theorem build93 (ty : TypeId) (a : Option Addr) (n : Int) : pBuild Tryz.prog 93 [(0, .iface ty (.pointer a)), (1, .int .i64 n)] = some (.agg (.iface ty (.pointer a) :: .int .i64 n :: (List.replicate 8 Ent.none).flatMap entC).toArray) := by kernel_rfl
theorem open_run (hd : DiskOk K d cap D) (hc : 8 < cap) {k : Nat} (hk : K + 300 ≤ k) (hD : D t F H) (hfl : H.floor ≤ H.next) :
    ∃ s F' H', run Tryz.prog k 17 #[d] H = some (.tuple #[.pointer (some ⟨s, 0, none⟩), .int .i64 0], H') ∧ Sys d cap D s (openE cap t) t F' H' ∧ Foot F F' H H' ∧ H.next ≤ s := by
  obtain ⟨k, rfl⟩ : ∃ k', k = k' + 1 := ⟨k - 1, by omega⟩
  have hbig := hd.big
  obtain ⟨F1, H1, e1, d1, f1⟩ := hd.sectors (k := k) (by omega) hD hfl
  have n1 := f1.chg.next; have k1 := f1.chg.floor
  have g2 : Grow H1 (H1.new (.cells (StoreRow d cap (List.replicate 8 Ent.none)) 93)) := (Grow.refl H1).new _
  have lF : ¬ F1 H1.next := fun hh => by have := hd.lt d1 _ hh; omega
  have s2 : Sys d cap D H1.next (List.replicate 8 Ent.none) t F1 (H1.new (.cells (StoreRow d cap (List.replicate 8 Ent.none)) 93)) :=
    ⟨⟨blk_new _ _, by simp only [new_next]; omega, by simp only [new_floor]; omega, rfl⟩, hd.grow d1 g2, lF⟩
  obtain ⟨fa, F3, H3, e3, e4, d3, f3⟩ := hd.read (k := k) 0 8 (by omega) s2.dsk s2.fl
  have hr : isRight cap 0 8 := ⟨by omega, by omega, by omega, by omega⟩
  rw [rdI, if_pos hr] at e4
  have s3 := s2.disk d3 f3
  have n3 := f3.chg.next
  simp only [new_next] at n3
  obtain ⟨H4, e5, s5, g5⟩ := open_loop hd k (by omega) hc (hd.len hD) (lo := ⟨H3.blk, H1.next, H3.floor⟩) (s := H1.next) (Nat.le_refl _) 8 k 0 _ (List.replicate 8 Ent.none) H3 rfl rfl (by omega) s3 none_wf ⟨by simp only; omega, rfl, fun _ _ => rfl⟩
  have hb : pBuild Tryz.prog 93 [(0, d), (1, .int .i64 (cap : Int))] = some (.agg (StoreRow d cap (List.replicate 8 Ent.none))) := by
    obtain ⟨ty, a, rfl⟩ := hd.iface
    exact build93 ty (some a) cap
  have hbox : pBox 93 (.agg (StoreRow d cap (List.replicate 8 Ent.none))) H1 = some (.pointer (some ⟨H1.next, 0, none⟩), H1.new (.cells (StoreRow d cap (List.replicate 8 Ent.none)) 93)) := rfl
  rw [run17, F17]
  simp (disch := first | omega | assumption | (simp only [new_next, new_floor, set_next, set_floor] <;> omega) | (simp only [oneC_str, oneC_int, oneC_bool, oneC_slice, oneC_ptr, oneC_iface, Bool.and_self]) | rfl) only [↓bsome, msome, ↓bindP_some, ↓bindM_some, ↓newK_eq, ↓condV_true, ↓condV_false, condV_not, ↓condG_tt, ↓condG_ff, ↓condG_tf, ↓condG_ft, condG_not, ↓condG_undef, dec_t, dec_f, decide_true, decide_false, pick_t, pick_f, un_not, bnot_t, bnot_f, add64, sub64, mul64, lss64, leq64, gtr64, geq64, eql64, neq64, convU8, conv64, str_lit, len_str, eql_str, neq_str, idx_str, slice_hi, slice_lo, slice_to, pNil_ptr, fieldA_ptr, ldV1, ldVn, stVn, blk_new, blk_new_at, set_new_at, apart1, new_old, blk_set_at, set_old, new_next, new_floor, set_next, set_floor, get1_0, get3_0, get3_1, get3_2, get3_n, put3, get4_0, get4_1, get4_2, get4_3, get4_n, put4, Nat.zero_add, Nat.add_zero, ne_eq, not_false_eq_true, reduceCtorEq, Nat.reduceAdd, Nat.reduceEqDiff, Nat.succ_ne_self, idxSl_1, extract_t2_0, extract_t2_1, extract_t3_0, extract_t3_1, extract_t3_2, ↓quiet_some, atFloor_back, oneOf_one, atFloor_next, atFloor_floor, atFloor_blk, get6_0, get6_1, get6_2, get6_3, get6_4, get6_5, hide_blk, hide2_blk, hid_nil, hid_next, hid_floor, hid2_next, e1, hb, hbox, get_n, e3, e4]
  refine ⟨H1.next, F3, H4, e5, ?_, ?_, n1⟩
  · rw [show List.range' 0 8 = List.range 8 from rfl] at s5
    exact s5
  · have ff := (f1.trans (Foot.of_grow g2)).trans f3
    have n4 := g5.next
    simp only at n4
    refine ⟨⟨Nat.le_trans n1 n4, g5.floor.trans ff.chg.floor, fun n hn hs => ?_⟩, ff.new⟩
    exact (g5.old n (by simp only; omega)).trans (ff.chg.old n hn hs)
end
end Go.PG

namespace Go.PG
open Go.Proofs

theorem build84s (a : Option Addr) (n c : Nat) (H : Heap) : pBuildSlice Tryz.prog 84 1 [(0, .slice a n c)] H = some (.slice (some ⟨H.next, 0, none⟩) 1 1, H.new (.cells #[.slice a n c] 57)) := by kernel_rfl
theorem build86 : pBuild Tryz.prog 86 [] = some (.agg #[.slice none 0 0]) := by kernel_rfl
def secC (s : Nat) : List Value := [secV s]
theorem secC_flat (ss : List Nat) : ss.flatMap secC = ss.map secV := by
  induction ss with
  | nil => rfl
  | cons a l ih => rw [List.flatMap_cons, ih]; rfl
def zeroRow : Array Value := Array.replicate 32 (.int .u8 0)
theorem put_one {H : Heap} {n : Nat} {v x : Value} {t : TypeId} (hf : H.floor ≤ n) (h1 : oneC v = true) (h2 : v.cells = #[v]) : putN H n 0 v 1 (.cells #[x] t) = some (H.set n (.cells #[v] t)) := by
  simp [putN, row_cells, h2, hf, h1, setL, Blk.put]
theorem new_loop (k : Nat) {p c : Nat} (hc : c ≤ 512) {H0 : Heap} (hp : H0.next ≤ p) (hf0 : H0.floor ≤ H0.next) : ∀ (m n i : Nat) (z : Int) (v : Value) (ss : List Nat) (H : Heap), z = i → i + m = c → m < n → Grow H0 H → p < H.next → H.blk p = some (.cells #[v] 86) → OwnAt (p + 1) H v 57 secC ss → ss.length = i →
    (∀ s ∈ ss, p < s ∧ s < H.next ∧ H.blk s = some (.cells zeroRow 5)) →
    ∃ v' ss' H', L13_0 k n (.pointer (some ⟨p, 0, none⟩)) (.int .i64 (c : Int)) (.int .i64 z) H = some (.tuple #[.pointer (some ⟨p, 0, none⟩), .int .i64 0], H') ∧ Grow H0 H' ∧ p < H'.next ∧ H'.blk p = some (.cells #[v'] 86) ∧ OwnAt (p + 1) H' v' 57 secC ss' ∧ ss'.length = c ∧
      (∀ s ∈ ss', p < s ∧ s < H'.next ∧ H'.blk s = some (.cells zeroRow 5))
  | 0, n, i, z, v, ss, H, hz, hi, hn, hg, hpl, hb, hv, hl, hs => by
    subst hz
    obtain ⟨n, rfl⟩ : ∃ n', n = n' + 1 := ⟨n - 1, by omega⟩
    rw [L13_0]
    simp (disch := first | omega | assumption | (simp only [new_next, new_floor, set_next, set_floor] <;> omega) | (simp only [oneC_str, oneC_int, oneC_bool, oneC_slice, oneC_ptr, oneC_iface, Bool.and_self]) | rfl) only [↓bsome, msome, ↓bindP_some, ↓bindM_some, ↓newK_eq, ↓condV_true, ↓condV_false, condV_not, ↓condG_tt, ↓condG_ff, ↓condG_tf, ↓condG_ft, condG_not, ↓condG_undef, dec_t, dec_f, decide_true, decide_false, pick_t, pick_f, un_not, bnot_t, bnot_f, add64, sub64, mul64, lss64, leq64, gtr64, geq64, eql64, neq64, convU8, conv64, str_lit, len_str, eql_str, neq_str, idx_str, slice_hi, slice_lo, slice_to, pNil_ptr, fieldA_ptr, ldV1, ldVn, stVn, blk_new, blk_new_at, set_new_at, apart1, new_old, blk_set_at, set_old, new_next, new_floor, set_next, set_floor, get1_0, get3_0, get3_1, get3_2, get3_n, put3, get4_0, get4_1, get4_2, get4_3, get4_n, put4, Nat.zero_add, Nat.add_zero, ne_eq, not_false_eq_true, reduceCtorEq, Nat.reduceAdd, Nat.reduceEqDiff, Nat.succ_ne_self, idxSl_1, extract_t2_0, extract_t2_1, extract_t3_0, extract_t3_1, extract_t3_2, ↓quiet_some, atFloor_back, oneOf_one, atFloor_next, atFloor_floor, atFloor_blk, get6_0, get6_1, get6_2, get6_3, get6_4, get6_5, hide_blk, hide2_blk, hid_nil, hid_next, hid_floor, hid2_next]
    exact ⟨v, ss, H, rfl, hg, hpl, hb, hv, by omega, hs⟩
  | m + 1, n, i, z, v, ss, H, hz, hi, hn, hg, hpl, hb, hv, hl, hs => by
    subst hz
    obtain ⟨n, rfl⟩ : ∃ n', n = n' + 1 := ⟨n - 1, by omega⟩
    have hfl := hg.floor
    have g1 : Grow H (H.new (.cells zeroRow 5)) := (Grow.refl _).new _
    obtain ⟨v1, H1, e1, o1, c1⟩ := OwnAt.app10 (bytes := 24) (t := 57) (x := H.next) (c := #[secV H.next]) (f := secC) (n := 1) (fun _ => rfl) (by decide) (fun _ => rfl) (hv.grow g1) rfl (by omega) (by omega) (by simp only [new_floor]; omega) (by simp only [new_next]; omega)
    have hk := c1.next; have hk2 := c1.floor
    simp only [new_next, new_floor] at hk hk2 e1
    have hpn : ¬ ownB v p := fun h => by have := hv.ownB_ge h; omega
    have hcells : ∀ s, (H.new (.cells zeroRow 5)).blk s = some (.cells zeroRow 5) → ¬ ownB v s := fun s h hm => by
      obtain ⟨len, rfl⟩ := hm
      rcases hv.grow g1 with ⟨h2, _⟩ | ⟨b, h2, _⟩ | ⟨b, h2, h3, _⟩
      · cases h2
      · simp only [Value.slice.injEq] at h2; exact absurd h2.2.2 (by unfold capU; omega)
      · simp only [Value.slice.injEq, Option.some.injEq, Addr.mk.injEq] at h2
        rw [← h2.1.1, h] at h3; cases h3
    have hbp : H1.blk p = some (.cells #[v] 86) := by rw [c1.old p (by simp only [new_next]; omega) hpn, new_old (by omega), hb]
    have h1v : oneC v1 = true ∧ v1.cells = #[v1] := by
      rcases o1 with ⟨rfl, _⟩ | ⟨b, rfl, _⟩ | ⟨b, rfl, _⟩ <;> exact ⟨rfl, rfl⟩
    have pr := put_one (H := H1) (n := p) (v := v1) (x := v) (t := 86) (by omega) h1v.1 h1v.2
    rw [L13_0]
    simp (disch := first | omega | assumption | (simp only [new_next, new_floor, set_next, set_floor] <;> omega) | (simp only [oneC_str, oneC_int, oneC_bool, oneC_slice, oneC_ptr, oneC_iface, Bool.and_self]) | rfl) only [↓bsome, msome, ↓bindP_some, ↓bindM_some, ↓newK_eq, ↓condV_true, ↓condV_false, condV_not, ↓condG_tt, ↓condG_ff, ↓condG_tf, ↓condG_ft, condG_not, ↓condG_undef, dec_t, dec_f, decide_true, decide_false, pick_t, pick_f, un_not, bnot_t, bnot_f, add64, sub64, mul64, lss64, leq64, gtr64, geq64, eql64, neq64, convU8, conv64, str_lit, len_str, eql_str, neq_str, idx_str, slice_hi, slice_lo, slice_to, pNil_ptr, fieldA_ptr, ldV1, ldVn, stVn, blk_new, blk_new_at, set_new_at, apart1, new_old, blk_set_at, set_old, new_next, new_floor, set_next, set_floor, get1_0, get3_0, get3_1, get3_2, get3_n, put3, get4_0, get4_1, get4_2, get4_3, get4_n, put4, Nat.zero_add, Nat.add_zero, ne_eq, not_false_eq_true, reduceCtorEq, Nat.reduceAdd, Nat.reduceEqDiff, Nat.succ_ne_self, idxSl_1, extract_t2_0, extract_t2_1, extract_t3_0, extract_t3_1, extract_t3_2, ↓quiet_some, atFloor_back, oneOf_one, atFloor_next, atFloor_floor, atFloor_blk, get6_0, get6_1, get6_2, get6_3, get6_4, get6_5, hide_blk, hide2_blk, hid_nil, hid_next, hid_floor, hid2_next, hb, mk32, build84s]
    rw [show Value.slice (some ⟨H.next, 0, none⟩) 32 32 = secV H.next from rfl, show Array.replicate 32 (Value.int .u8 0) = zeroRow from rfl, e1]
    simp (disch := first | omega | assumption | (simp only [new_next, new_floor, set_next, set_floor] <;> omega) | (simp only [oneC_str, oneC_int, oneC_bool, oneC_slice, oneC_ptr, oneC_iface, Bool.and_self]) | rfl) only [↓bsome, msome, ↓bindP_some, ↓bindM_some, ↓newK_eq, ↓condV_true, ↓condV_false, condV_not, ↓condG_tt, ↓condG_ff, ↓condG_tf, ↓condG_ft, condG_not, ↓condG_undef, dec_t, dec_f, decide_true, decide_false, pick_t, pick_f, un_not, bnot_t, bnot_f, add64, sub64, mul64, lss64, leq64, gtr64, geq64, eql64, neq64, convU8, conv64, str_lit, len_str, eql_str, neq_str, idx_str, slice_hi, slice_lo, slice_to, pNil_ptr, fieldA_ptr, ldV1, ldVn, stVn, blk_new, blk_new_at, set_new_at, apart1, new_old, blk_set_at, set_old, new_next, new_floor, set_next, set_floor, get1_0, get3_0, get3_1, get3_2, get3_n, put3, get4_0, get4_1, get4_2, get4_3, get4_n, put4, Nat.zero_add, Nat.add_zero, ne_eq, not_false_eq_true, reduceCtorEq, Nat.reduceAdd, Nat.reduceEqDiff, Nat.succ_ne_self, idxSl_1, extract_t2_0, extract_t2_1, extract_t3_0, extract_t3_1, extract_t3_2, ↓quiet_some, atFloor_back, oneOf_one, atFloor_next, atFloor_floor, atFloor_blk, get6_0, get6_1, get6_2, get6_3, get6_4, get6_5, hide_blk, hide2_blk, hid_nil, hid_next, hid_floor, hid2_next, hbp, pr]
    have hss : ∀ s ∈ ss ++ [H.next], p < s ∧ s < (H1.set p (.cells #[v1] 86)).next ∧ (H1.set p (.cells #[v1] 86)).blk s = some (.cells zeroRow 5) := by
      intro s hm
      rcases List.mem_append.1 hm with hm | hm
      · obtain ⟨a1, a2, a3⟩ := hs s hm
        have h4 : (H.new (.cells zeroRow 5)).blk s = some (.cells zeroRow 5) := by rw [new_old (by omega), a3]
        refine ⟨a1, by simp only [set_next]; omega, ?_⟩
        rw [set_old (by omega), c1.old s (by simp only [new_next]; omega) (hcells s h4), h4]
      · have : s = H.next := by simpa using hm
        subst this
        refine ⟨by omega, by simp only [set_next]; omega, ?_⟩
        rw [set_old (by omega), c1.old _ (by simp only [new_next]; omega) (hcells _ (blk_new _ _)), blk_new]
    have hg1 : Grow H0 H1 := (hg.trans g1).keep (lo := p + 1) (by omega) ((hv.grow g1).keep c1)
    have ho : OwnAt (p + 1) (H1.set p (.cells #[v1] 86)) v1 57 secC (ss ++ [H.next]) := by
      rcases o1 with h | h | ⟨b, h1, h2, h3, h4⟩
      · exact .inl h
      · exact .inr (.inl h)
      · exact .inr (.inr ⟨b, h1, by rw [set_old (by omega), h2], h3, h4⟩)
    exact new_loop k hc hp hf0 m n (i + 1) _ v1 (ss ++ [H.next]) _ rfl (by omega) (by omega) (hg1.set hp _) (by simp only [set_next]; omega) (blk_set_at rfl) ho (by simp [hl]) hss
theorem new_bad {k : Nat} (c : Int) (h : ¬ (1 ≤ c ∧ c ≤ 512)) (H : Heap) : run Tryz.prog (k + 1) 13 #[.int .i64 c] H = some (.tuple #[.pointer none, .int .i64 1], H) := by
  rw [run13, F13]
  by_cases h1 : c < 1
  · simp (disch := first | omega | assumption | (simp only [new_next, new_floor, set_next, set_floor] <;> omega) | (simp only [oneC_str, oneC_int, oneC_bool, oneC_slice, oneC_ptr, oneC_iface, Bool.and_self]) | rfl) only [↓bsome, msome, ↓bindP_some, ↓bindM_some, ↓newK_eq, ↓condV_true, ↓condV_false, condV_not, ↓condG_tt, ↓condG_ff, ↓condG_tf, ↓condG_ft, condG_not, ↓condG_undef, dec_t, dec_f, decide_true, decide_false, pick_t, pick_f, un_not, bnot_t, bnot_f, add64, sub64, mul64, lss64, leq64, gtr64, geq64, eql64, neq64, convU8, conv64, str_lit, len_str, eql_str, neq_str, idx_str, slice_hi, slice_lo, slice_to, pNil_ptr, fieldA_ptr, ldV1, ldVn, stVn, blk_new, blk_new_at, set_new_at, apart1, new_old, blk_set_at, set_old, new_next, new_floor, set_next, set_floor, get1_0, get3_0, get3_1, get3_2, get3_n, put3, get4_0, get4_1, get4_2, get4_3, get4_n, put4, Nat.zero_add, Nat.add_zero, ne_eq, not_false_eq_true, reduceCtorEq, Nat.reduceAdd, Nat.reduceEqDiff, Nat.succ_ne_self, idxSl_1, extract_t2_0, extract_t2_1, extract_t3_0, extract_t3_1, extract_t3_2, ↓quiet_some, atFloor_back, oneOf_one, atFloor_next, atFloor_floor, atFloor_blk, get6_0, get6_1, get6_2, get6_3, get6_4, get6_5, hide_blk, hide2_blk, hid_nil, hid_next, hid_floor, hid2_next, J13_1, h1]
  · simp (disch := first | omega | assumption | (simp only [new_next, new_floor, set_next, set_floor] <;> omega) | (simp only [oneC_str, oneC_int, oneC_bool, oneC_slice, oneC_ptr, oneC_iface, Bool.and_self]) | rfl) only [↓bsome, msome, ↓bindP_some, ↓bindM_some, ↓newK_eq, ↓condV_true, ↓condV_false, condV_not, ↓condG_tt, ↓condG_ff, ↓condG_tf, ↓condG_ft, condG_not, ↓condG_undef, dec_t, dec_f, decide_true, decide_false, pick_t, pick_f, un_not, bnot_t, bnot_f, add64, sub64, mul64, lss64, leq64, gtr64, geq64, eql64, neq64, convU8, conv64, str_lit, len_str, eql_str, neq_str, idx_str, slice_hi, slice_lo, slice_to, pNil_ptr, fieldA_ptr, ldV1, ldVn, stVn, blk_new, blk_new_at, set_new_at, apart1, new_old, blk_set_at, set_old, new_next, new_floor, set_next, set_floor, get1_0, get3_0, get3_1, get3_2, get3_n, put3, get4_0, get4_1, get4_2, get4_3, get4_n, put4, Nat.zero_add, Nat.add_zero, ne_eq, not_false_eq_true, reduceCtorEq, Nat.reduceAdd, Nat.reduceEqDiff, Nat.succ_ne_self, idxSl_1, extract_t2_0, extract_t2_1, extract_t3_0, extract_t3_1, extract_t3_2, ↓quiet_some, atFloor_back, oneOf_one, atFloor_next, atFloor_floor, atFloor_blk, get6_0, get6_1, get6_2, get6_3, get6_4, get6_5, hide_blk, hide2_blk, hid_nil, hid_next, hid_floor, hid2_next, J13_1, h1]
theorem zero_sec {c i : Nat} (h : i < c) : (secB (List.replicate (c * 32) 0) i).flatMap byteC = zeroRow.toList := by
  rw [secB, List.drop_replicate, List.take_replicate, Nat.min_eq_left (by omega), flat_byte]
  simp [zeroRow]
theorem new_run {k : Nat} (hk : 600 ≤ k) (c : Nat) (h1 : 1 ≤ c) (h2 : c ≤ 512) (H : Heap) (hf : H.floor ≤ H.next) :
    ∃ p F H', run Tryz.prog k 13 #[.int .i64 (c : Int)] H = some (.tuple #[.pointer (some ⟨p, 0, none⟩), .int .i64 0], H') ∧ ArrD p c (List.replicate (c * 32) 0) F H' ∧ Grow H H' ∧ ∀ n, F n → H.next ≤ n := by
  obtain ⟨k, rfl⟩ : ∃ k', k = k' + 1 := ⟨k - 1, by omega⟩
  obtain ⟨v', ss', H', e, g, hp, hb, ho, hl, hs⟩ := new_loop k (p := H.next) h2 (H0 := H) (Nat.le_refl _) hf c k 0 _ (.slice none 0 0) [] (H.new (.cells #[.slice none 0 0] 86)) rfl (by omega) (by omega) ((Grow.refl _).new _) (by simp only [new_next]; omega) (blk_new _ _) (.inl ⟨rfl, rfl⟩) rfl (fun s h => absurd h (by simp))
  have e2 : pBox 86 (.agg #[.slice none 0 0]) H = some (.pointer (some ⟨H.next, 0, none⟩), H.new (.cells #[.slice none 0 0] 86)) := rfl
  rw [run13, F13]
  simp (disch := first | omega | assumption | (simp only [new_next, new_floor, set_next, set_floor] <;> omega) | (simp only [oneC_str, oneC_int, oneC_bool, oneC_slice, oneC_ptr, oneC_iface, Bool.and_self]) | rfl) only [↓bsome, msome, ↓bindP_some, ↓bindM_some, ↓newK_eq, ↓condV_true, ↓condV_false, condV_not, ↓condG_tt, ↓condG_ff, ↓condG_tf, ↓condG_ft, condG_not, ↓condG_undef, dec_t, dec_f, decide_true, decide_false, pick_t, pick_f, un_not, bnot_t, bnot_f, add64, sub64, mul64, lss64, leq64, gtr64, geq64, eql64, neq64, convU8, conv64, str_lit, len_str, eql_str, neq_str, idx_str, slice_hi, slice_lo, slice_to, pNil_ptr, fieldA_ptr, ldV1, ldVn, stVn, blk_new, blk_new_at, set_new_at, apart1, new_old, blk_set_at, set_old, new_next, new_floor, set_next, set_floor, get1_0, get3_0, get3_1, get3_2, get3_n, put3, get4_0, get4_1, get4_2, get4_3, get4_n, put4, Nat.zero_add, Nat.add_zero, ne_eq, not_false_eq_true, reduceCtorEq, Nat.reduceAdd, Nat.reduceEqDiff, Nat.succ_ne_self, idxSl_1, extract_t2_0, extract_t2_1, extract_t3_0, extract_t3_1, extract_t3_2, ↓quiet_some, atFloor_back, oneOf_one, atFloor_next, atFloor_floor, atFloor_blk, get6_0, get6_1, get6_2, get6_3, get6_4, get6_5, hide_blk, hide2_blk, hid_nil, hid_next, hid_floor, hid2_next, J13_1, build86, e2]
  rcases ho with ⟨_, rfl⟩ | ⟨b, _, rfl⟩ | ⟨q, rfl, hq, hq1, hq2⟩
  · simp at hl; omega
  · simp at hl; omega
  · rw [secC_flat] at hq
    refine ⟨H.next, fun n => n = H.next ∨ n = q ∨ n ∈ ss', H', e, ⟨q, ss', ⟨hb, hq, hp, hq2, by have := g.floor; omega, fun i hi => ?_, by rw [hl]; simp, fun n => Iff.rfl⟩, hl⟩, g, fun n hn => ?_⟩
    · obtain ⟨a1, a2, a3⟩ := hs ss'[i] (List.getElem_mem hi)
      refine ⟨a2, ?_⟩
      rw [a3, zero_sec (by omega), Array.toArray_toList]
    · rcases hn with rfl | rfl | hn
      · exact Nat.le_refl _
      · omega
      · have := (hs n hn).1; omega
end Go.PG

namespace Go.PG
open Go.Proofs

theorem rdB_same {t : List UInt8} {a n : Nat} (h : (a + n) * 32 ≤ t.length) (d : List UInt8) : rdB (wrB t a n d) a n = padTo (n * 32) d := by
  have h1 : (t.take (a * 32)).length = a * 32 := by rw [List.length_take]; omega
  rw [rdB, wrB, List.append_assoc, List.drop_left' h1, List.take_left' (padTo_len _ _)]
theorem rdB_other {t : List UInt8} {a n b m : Nat} (h : (a + n) * 32 ≤ t.length) (hd : b + m ≤ a ∨ a + n ≤ b) (d : List UInt8) : rdB (wrB t a n d) b m = rdB t b m := by
  have h1 : (t.take (a * 32)).length = a * 32 := by rw [List.length_take]; omega
  have h2 : (t.take (a * 32) ++ padTo (n * 32) d).length = (a + n) * 32 := by rw [List.length_append, h1, padTo_len]; omega
  rcases hd with hd | hd
  · rw [rdB, wrB, List.append_assoc, List.drop_append_of_le_length (by omega), List.take_append_of_le_length (by rw [List.length_drop]; omega), List.drop_take, List.take_take, Nat.min_eq_left (by omega)]; rfl
  · rw [rdB, wrB, show b * 32 = (a + n) * 32 + (b - (a + n)) * 32 from by omega, ← List.drop_drop, List.drop_left' h2, List.drop_drop]
    rw [rdB]
    congr 2; omega
theorem rdB_sec (t : List UInt8) (i : Nat) : rdB t i 1 = secB t i := by rw [rdB, secB, Nat.one_mul]
theorem secB_other {t : List UInt8} {a n i : Nat} (h : (a + n) * 32 ≤ t.length) (hd : i < a ∨ a + n ≤ i) (d : List UInt8) : secB (wrB t a n d) i = secB t i := by
  rw [← rdB_sec, rdB_other h (by omega), rdB_sec]
theorem wr_len {t : List UInt8} {a n : Nat} (h : (a + n) * 32 ≤ t.length) (d : List UInt8) : (wrB t a n d).length = t.length := by
  simp only [wrB, List.length_append, List.length_take, List.length_drop, padTo_len]; omega
/-! ### What lies behind a heap -/
def Far (H : Heap) (F : Nat → Prop) : Prop := ∀ n, F n → H.next ≤ n
theorem Foot.far {H A B : Heap} {F F' : Nat → Prop} (f : Foot F F' A B) (g : Grow H A) (h : Far H F) : Grow H B ∧ Far H F' :=
  ⟨⟨Nat.le_trans g.next f.chg.next, f.chg.floor.trans g.floor, fun n hn => (f.chg.old n (Nat.lt_of_lt_of_le hn g.next) fun hf => by have := h n hf; omega).trans (g.old n hn)⟩,
   fun n hf => by
    rcases f.new n hf with h1 | h1
    · exact h n h1
    · exact Nat.le_trans g.next h1⟩
theorem Far.or {H : Heap} {F : Nat → Prop} (h : Far H F) {s : Nat} (hs : H.next ≤ s) : Far H (orS s F) := fun n hn => by
  rcases hn with hn | rfl
  · exact h n hn
  · exact hs
/-! ### An empty disk has no entries -/
theorem laidB_head (x : Ent) : ∃ l, laidB x = 86 :: l := ⟨_, rfl⟩
theorem readE_zero (n : Nat) : readE (List.replicate 32 0) n = Ent.none := by
  rw [readE, if_neg]
  rintro ⟨_, h, _⟩
  obtain ⟨l, hl⟩ := laidB_head (entOf (List.replicate 32 0))
  rw [hl] at h
  exact absurd (List.cons.inj h).1 (by decide)
theorem secB_zero {c i : Nat} (h : i < c) : secB (List.replicate (c * 32) 0) i = List.replicate 32 0 := by
  rw [secB, List.drop_replicate, List.take_replicate, Nat.min_eq_left (by omega)]
theorem openE_zero {cap : Nat} (h : 8 < cap) : openE cap (List.replicate (cap * 32) 0) = List.replicate 8 Ent.none := by
  have : ∀ (l : List Nat) (es : List Ent), (∀ i ∈ l, i < 8) → l.foldl (addE cap (List.replicate (cap * 32) 0)) es = es := by
    intro l
    induction l with
    | nil => intros; rfl
    | cons a l ih =>
      intro es ha
      rw [List.foldl_cons]
      have e : addE cap (List.replicate (cap * 32) 0) es a = es := by
        rw [addE, secB_zero (by have := ha a List.mem_cons_self; omega), readE_zero, if_neg (fun h => h.1 rfl)]
      rw [e]
      exact ih es fun i hi => ha i (List.mem_cons_of_mem _ hi)
  exact this _ _ fun i hi => List.mem_range.1 hi
end Go.PG

namespace Go.PG
open Go.Proofs

def nmA : List UInt8 := [97]
def nmB : List UInt8 := [98]
def nmE : List UInt8 := [195, 169]
def aw0 : List UInt8 := List.replicate (20 * 32) 0
def awE0 : List Ent := List.replicate 8 Ent.none
def aw1 : Res := createP 20 awE0 aw0 nmA 4
def aw2 : Res := createP 20 aw1.2.1 aw1.2.2 nmB 6
def aw3 : Value × List UInt8 := writeP 20 aw2.2.1 aw2.2.2 nmA 0 1 [104, 105]
def aw4 : Res := deleteP aw2.2.1 aw3.2 nmB
def aw5 : Res := cloneP 20 aw4.2.1 aw4.2.2 nmA nmE
def aw6 : Value := readP 20 aw5.2.1 aw5.2.2 nmE 0 1
def aw7 : Res := renameP aw5.2.1 aw5.2.2 nmA nmB
theorem aw1a : aw1.1 = 0 := by decide +kernel
theorem aw1b : aw1.2.1 = [⟨nmA, 8, 4⟩] ++ List.replicate 7 Ent.none := by decide +kernel
theorem aw2a : aw2.1 = 0 := by decide +kernel
theorem aw2b : aw2.2.1 = [⟨nmA, 8, 4⟩, ⟨nmB, 12, 6⟩] ++ List.replicate 6 Ent.none := by decide +kernel
theorem aw3a : aw3.1 = .int .i64 0 := by
  unfold aw3 writeP
  rw [aw2b, if_pos (by decide +kernel), okI, if_pos (by decide +kernel)]
theorem aw4a : aw4.1 = 0 := by decide +kernel
theorem aw4b : aw4.2.1 = [⟨nmA, 8, 4⟩] ++ List.replicate 7 Ent.none := by decide +kernel
theorem aw5a : aw5.1 = 0 := by decide +kernel
theorem aw5b : aw5.2.1 = [⟨nmA, 8, 4⟩, ⟨nmE, 12, 4⟩] ++ List.replicate 6 Ent.none := by decide +kernel
theorem aw7a : aw7.1 = 0 := by decide +kernel
theorem aw6r : rdB aw5.2.2 12 1 = padTo 32 [104, 105] := by decide +kernel
theorem aw6a : aw6 = .tuple #[str (padTo 32 [104, 105]), .int .i64 0] := by
  unfold aw6 readP
  have e : placeP aw5.2.1 nmE 0 1 = (12, 0) := by decide +kernel
  rw [e, if_pos rfl, rdI, if_pos (by decide +kernel)]
  show Value.tuple #[str (rdB aw5.2.2 12 1), .int .i64 0] = _
  rw [aw6r]
theorem eq25 (a : Addr) : binE Tryz.prog .eql 25 true (.pointer (some a)) (.pointer none) = some (.bool false) := by kernel_rfl
theorem eq33 (a : Addr) : binE Tryz.prog .eql 33 true (.pointer (some a)) (.pointer none) = some (.bool false) := by kernel_rfl
theorem eq49b : binE Tryz.prog .eql 49 false (.agg #[str nmB, .int .i64 12, .int .i64 6]) (.agg #[str nmB, .int .i64 12, .int .i64 6]) = some (.bool true) := by kernel_rfl
theorem createP_wf {cap : Nat} {es : List Ent} {t : List UInt8} (hw : WfE cap es) (nm : List UInt8) (n : Int) (hwt : ∀ a, 8 ≤ roomA a es) : WfE cap (createP cap es t nm n).2.1 := by
  simp only [createP]
  split
  · rename_i hg
    split
    · exact hw
    · split
      · rename_i h
        exact hw.set ⟨h.2, (good_len hg.1).2, fun _ => hwt _⟩
      · exact hw
  · exact hw
theorem roomW_ge (n : Nat) (es : List Ent) : ∀ (m a : Nat), a ≤ roomW n es m a
  | 0, a => Nat.le_refl _
  | m + 1, a => by
    rw [roomW]
    split
    · exact Nat.le_trans (passR_le n es (a, false)) (roomW_ge n es m _)
    · exact Nat.le_refl _
theorem roomA_ge (n : Nat) (es : List Ent) : 8 ≤ roomA n es := roomW_ge n es 1000 8
theorem setP_len {cap : Nat} {t : List UInt8} (h : t.length = cap * 32) (hc : 8 < cap) {i : Nat} (hi : i < 8) (x : Ent) : (setP i x t).length = cap * 32 := wrB_len h (by omega)
theorem awake_run {k : Nat} (hk : 4000 ≤ k) (H : Heap) (hf : H.floor ≤ H.next) : ∃ H', run Tryz.prog k 10 #[] H = some (.bool true, H') ∧ Grow H H' := by
  obtain ⟨k, rfl⟩ : ∃ k', k = k' + 1 := ⟨k - 1, by omega⟩
  obtain ⟨p, F0, H1, e1, d1, g1, far1⟩ := new_run (k := k) (by omega) 20 (by decide) (by decide) H hf
  have hd := arr_ok p 20 (by decide)
  generalize hdv : Value.iface 25 (.pointer (some ⟨p, 0, none⟩)) = d at hd
  have f1 := g1.floor; have n1 := g1.next
  obtain ⟨s, F1, H2, e2, s2, ff2, hs⟩ := open_run hd (by decide) (k := k) (by omega) d1 (by omega)
  rw [openE_zero (by decide)] at s2
  obtain ⟨g2, far2⟩ := ff2.far g1 far1
  have n2 := g2.next; have fl2 := g2.floor
  have hsH : H.next ≤ s := by omega
  have hw0 : WfE 20 awE0 := none_wf
  -- Create a
  obtain ⟨F3, H3, e3, s3, ff3⟩ := create_run hd (by decide) (k := k) (by omega) s2 hw0 nmA 4 (by simp [nmA]; omega) (by decide)
  obtain ⟨g3, far3⟩ := ff3.far g2 (far2.or hsH)
  have hw1 : WfE 20 aw1.2.1 := createP_wf hw0 _ _ fun a => roomA_ge _ _
  -- Create b
  obtain ⟨F4, H4, e4, s4, ff4⟩ := create_run hd (by decide) (k := k) (by omega) s3 hw1 nmB 6 (by simp [nmB]; omega) (by decide)
  obtain ⟨g4, far4⟩ := ff4.far g3 far3
  have hw2 : WfE 20 aw2.2.1 := createP_wf hw1 _ _ fun a => roomA_ge _ _
  change Sys d 20 (ArrD p 20) s aw2.2.1 aw2.2.2 F4 H4 at s4
  change _ = some (Value.int .i64 aw1.1, H3) at e3
  change _ = some (Value.int .i64 aw2.1, H4) at e4
  rw [aw1a] at e3
  rw [aw2a] at e4
  -- Volumes
  obtain ⟨v, H5, e5, o5, gr5⟩ := vols_run (k := k) s4.sto (by omega)
  have s5 := s4.grow hd gr5
  -- Free
  obtain ⟨H6, e6, gr6⟩ := free_run (k := k) s5.sto (by omega) (by rw [aw2b]; decide) (by omega)
  have s6 := s5.grow hd gr6
  rw [aw2b] at e6
  -- Write
  obtain ⟨F7, H7, e7, s7, ff7⟩ := swrite_run hd (k := k) (by omega) s6 hw2 nmA 0 1 [104, 105]
  change _ = some (aw3.1, H7) at e7
  change Sys d 20 (ArrD p 20) s aw2.2.1 aw3.2 F7 H7 at s7
  rw [aw3a] at e7
  -- Delete
  obtain ⟨F8, H8, e8, s8, ff8⟩ := delete_run hd (by decide) (k := k) (by omega) s7 nmB
  change _ = some (Value.int .i64 aw4.1, H8) at e8
  change Sys d 20 (ArrD p 20) s aw4.2.1 aw4.2.2 F8 H8 at s8
  rw [aw4a] at e8
  have hw4 : WfE 20 aw4.2.1 := by
    rw [aw4b]
    refine ⟨fun e he => ?_⟩
    rcases List.mem_append.1 he with he | he
    · rw [List.mem_singleton.1 he]; decide
    · rw [List.eq_of_mem_replicate he]; decide
  -- Clone
  obtain ⟨F9, H9, e9, s9, ff9⟩ := clone_run hd (by decide) (k := k) (by omega) s8 hw4 nmA nmE (by simp [nmE]; omega) (by decide)
  change _ = some (Value.int .i64 aw5.1, H9) at e9
  change Sys d 20 (ArrD p 20) s aw5.2.1 aw5.2.2 F9 H9 at s9
  rw [aw5a] at e9
  have hw5 : WfE 20 aw5.2.1 := by
    rw [aw5b]
    refine ⟨fun e he => ?_⟩
    rcases List.mem_append.1 he with he | he
    · simp only [List.mem_cons, List.not_mem_nil, or_false] at he
      rcases he with rfl | rfl <;> decide
    · rw [List.eq_of_mem_replicate he]; decide
  -- Read
  obtain ⟨F10, H10, e10, s10, ff10⟩ := sread_run hd (k := k) (by omega) s9 hw5 nmE 0 1
  change _ = some (aw6, H10) at e10
  rw [aw6a] at e10
  -- Rename
  obtain ⟨F11, H11, e11, s11, ff11⟩ := rename_run hd (by decide) (k := k) (by omega) s10 hw5 nmA nmB (by simp [nmB]; omega) (by decide)
  change _ = some (Value.int .i64 aw7.1, H11) at e11
  rw [aw7a] at e11
  -- the list of volumes is as it was
  have hfoot := (((((Foot.of_grow (F := orS s F4) gr6).trans ff7).trans ff8).trans ff9).trans ff10).trans ff11
  have sl := o5.sl entC_len
  have sl11 : SlAt H11 v 3 entC (vols aw2.2.1) := sl.chg hfoot.chg fun b o c hv hb => by
    have hnx : H4.next ≤ b := by
      rcases o5 with ⟨h, _⟩ | ⟨b', h, hnil⟩ | ⟨b', h, _, h1, _⟩
      · rw [hv] at h; cases h
      · rw [hv] at h; simp only [Value.slice.injEq] at h
        rw [aw2b] at h; exact absurd h.2.1 (by decide)
      · rw [hv] at h
        simp only [Value.slice.injEq, Option.some.injEq, Addr.mk.injEq] at h
        omega
    rcases hb with hb | hb
    · have := hd.lt s4.dsk _ hb; omega
    · have := s4.sto.lt; omega
  have hvl : vols aw2.2.1 = [⟨nmA, 8, 4⟩, ⟨nmB, 12, 6⟩] := by rw [aw2b]; decide
  rw [hvl] at sl11
  obtain ⟨b1, o1, i1, _, l1, _⟩ := sl11.get entC_len (by decide) (i := 1) (by decide)
  have i1 : idxSl 3 v (.int .i64 1) = some (.pointer (some ⟨b1, o1, none⟩)) := i1
  have l1 : (H11.blk b1).bind (getN 3 o1) = some (.agg #[str nmB, .int .i64 12, .int .i64 6]) := l1
  have g11 : Grow H H11 := (hfoot.far (g4.trans gr5) far4).1
  obtain ⟨H12, e12, g12⟩ := good_run (k := k) [120] (by decide) (by simp; omega) H11 s11.fl
  have fl12 := g12.floor; have n12 := g12.next; have fl11 := s11.fl
  obtain ⟨H13, e13, g13⟩ := good_run (k := k) [] (by decide) (by simp; omega) H12 (by omega)
  rw [show good [120] = true from by decide +kernel] at e12
  rw [show good [] = false from by decide +kernel] at e13
  have hll := sl11.len
  have e1 : run Tryz.prog k 13 #[.int .i64 20] H = _ := e1
  have cut : sliceStr (str (padTo 32 [104, 105])) none (some (.int .i64 3)) = some (str [104, 105, 0]) := by
    have := slice_to (l := padTo 32 [104, 105]) (j := 3) (by decide)
    exact this
  have hA : Value.string ⟨#[97]⟩ = str nmA := rfl
  have hB : Value.string ⟨#[98]⟩ = str nmB := rfl
  have hE : Value.string ⟨#[195, 169]⟩ = str nmE := rfl
  have h12 : Value.string ⟨#[120]⟩ = str [120] := rfl
  have hhi : Value.string ⟨#[104, 105]⟩ = str [104, 105] := rfl
  have hhi0 : Value.string ⟨#[104, 105, 0]⟩ = str [104, 105, 0] := rfl
  have b49 : pBuild Tryz.prog 49 [(0, str nmB), (1, .int .i64 12), (2, .int .i64 6)] = some (.agg #[str nmB, .int .i64 12, .int .i64 6]) := build49 _ _ _
  have hfree : (((20 : Nat) : Int) - 8 - (lens ([⟨nmA, 8, 4⟩, ⟨nmB, 12, 6⟩] ++ List.replicate 6 Ent.none) : Int)) = 2 := by decide
  rw [hfree] at e6
  rw [run10, Go.PG.F10]
  simp (disch := first | omega | assumption | (simp only [new_next, new_floor, set_next, set_floor] <;> omega) | (simp only [oneC_str, oneC_int, oneC_bool, oneC_slice, oneC_ptr, oneC_iface, Bool.and_self]) | rfl) only [↓bsome, msome, ↓bindP_some, ↓bindM_some, ↓newK_eq, ↓condV_true, ↓condV_false, condV_not, ↓condG_tt, ↓condG_ff, ↓condG_tf, ↓condG_ft, condG_not, ↓condG_undef, dec_t, dec_f, decide_true, decide_false, pick_t, pick_f, un_not, bnot_t, bnot_f, add64, sub64, mul64, lss64, leq64, gtr64, geq64, eql64, neq64, convU8, conv64, str_lit, len_str, eql_str, neq_str, idx_str, slice_hi, slice_lo, slice_to, pNil_ptr, fieldA_ptr, ldV1, ldVn, stVn, blk_new, blk_new_at, set_new_at, apart1, new_old, blk_set_at, set_old, new_next, new_floor, set_next, set_floor, get1_0, get3_0, get3_1, get3_2, get3_n, put3, get4_0, get4_1, get4_2, get4_3, get4_n, put4, Nat.zero_add, Nat.add_zero, ne_eq, not_false_eq_true, reduceCtorEq, Nat.reduceAdd, Nat.reduceEqDiff, Nat.succ_ne_self, idxSl_1, extract_t2_0, extract_t2_1, extract_t3_0, extract_t3_1, extract_t3_2, ↓quiet_some, atFloor_back, oneOf_one, atFloor_next, atFloor_floor, atFloor_blk, get6_0, get6_1, get6_2, get6_3, get6_4, get6_5, hide_blk, hide2_blk, hid_nil, hid_next, hid_floor, hid2_next, e1, eq25, J10_13, hdv, e2, eq33, J10_12, hA, hB, hE, hhi, e3, e4, e5, e6, e7, e8, e9, e10, e11]
  simp (disch := first | omega | assumption | (simp only [new_next, new_floor, set_next, set_floor] <;> omega) | (simp only [oneC_str, oneC_int, oneC_bool, oneC_slice, oneC_ptr, oneC_iface, Bool.and_self]) | rfl) only [↓bsome, msome, ↓bindP_some, ↓bindM_some, ↓newK_eq, ↓condV_true, ↓condV_false, condV_not, ↓condG_tt, ↓condG_ff, ↓condG_tf, ↓condG_ft, condG_not, ↓condG_undef, dec_t, dec_f, decide_true, decide_false, pick_t, pick_f, un_not, bnot_t, bnot_f, add64, sub64, mul64, lss64, leq64, gtr64, geq64, eql64, neq64, convU8, conv64, str_lit, len_str, eql_str, neq_str, idx_str, slice_hi, slice_lo, slice_to, pNil_ptr, fieldA_ptr, ldV1, ldVn, stVn, blk_new, blk_new_at, set_new_at, apart1, new_old, blk_set_at, set_old, new_next, new_floor, set_next, set_floor, get1_0, get3_0, get3_1, get3_2, get3_n, put3, get4_0, get4_1, get4_2, get4_3, get4_n, put4, Nat.zero_add, Nat.add_zero, ne_eq, not_false_eq_true, reduceCtorEq, Nat.reduceAdd, Nat.reduceEqDiff, Nat.succ_ne_self, idxSl_1, extract_t2_0, extract_t2_1, extract_t3_0, extract_t3_1, extract_t3_2, ↓quiet_some, atFloor_back, oneOf_one, atFloor_next, atFloor_floor, atFloor_blk, get6_0, get6_1, get6_2, get6_3, get6_4, get6_5, hide_blk, hide2_blk, hid_nil, hid_next, hid_floor, hid2_next, J10_11, J10_10, J10_9, J10_8, J10_7, J10_6, J10_5, J10_4, J10_3, J10_2, J10_1, J10_0, hll, List.length_cons, List.length_nil, i1, l1, hB, b49, eq49b, padTo_len, cut, hhi0, h12, e12, e13]
  exact ⟨_, rfl, (g11.trans g12).trans g13⟩
end Go.PG

namespace Go.PG
open Go.Proofs

/-- Entries of a store: each lies on the disk, names are good, no two meet. -/
structure InvE (cap : Nat) (es : List Ent) : Prop where
  wf : WfE cap es
  e8 : es.length = 8
  nm : ∀ e ∈ es, 0 < e.len → good e.name = true
  ap : ∀ i j (hi : i < es.length) (hj : j < es.length), i ≠ j → 0 < es[i].len → 0 < es[j].len → ¬ meets es[i] es[j]
theorem meets_symm {x y : Ent} (h : meets x y) : meets y x := by
  rcases h with h | ⟨h1, h2⟩
  · exact .inl h.symm
  · exact .inr ⟨h2, h1⟩
theorem InvE.set {cap : Nat} {es : List Ent} (h : InvE cap es) {i : Nat} {x : Ent} (hx : x.first + x.len ≤ cap ∧ x.name.length ≤ 16 ∧ (0 < x.len → 8 ≤ x.first)) (hg : 0 < x.len → good x.name = true)
    (hm : ∀ j (hj : j < es.length), j ≠ i → 0 < x.len → 0 < es[j].len → ¬ meets x es[j]) : InvE cap (es.set i x) where
  wf := h.wf.set hx
  e8 := by rw [List.length_set]; exact h.e8
  nm := fun e he hl => by
    rcases List.mem_or_eq_of_mem_set he with h1 | h1
    · exact h.nm e h1 hl
    · subst h1; exact hg hl
  ap := fun a b ha hb hne h1 h2 => by
    rw [List.length_set] at ha hb
    rw [List.getElem_set] at h1 h2 ⊢
    rw [List.getElem_set]
    by_cases ea : i = a
    · by_cases eb : i = b
      · omega
      · rw [if_pos ea] at h1 ⊢
        rw [if_neg eb] at h2 ⊢
        exact hm b hb (by omega) h1 h2
    · by_cases eb : i = b
      · rw [if_neg ea] at h1 ⊢
        rw [if_pos eb] at h2 ⊢
        exact fun hh => hm a ha (by omega) h2 h1 (meets_symm hh)
      · rw [if_neg ea] at h1 ⊢
        rw [if_neg eb] at h2 ⊢
        exact h.ap a b ha hb hne h1 h2
theorem inv_none {cap : Nat} : InvE cap (List.replicate 8 Ent.none) where
  wf := none_wf
  e8 := rfl
  nm := fun e he hl => by rw [List.eq_of_mem_replicate he] at hl; simp [Ent.none] at hl
  ap := fun i j hi hj hne h1 h2 => by rw [List.getElem_replicate] at h1; exact absurd h1 (by decide)
theorem mem_vols {es : List Ent} {e : Ent} : e ∈ vols es ↔ e ∈ es ∧ 0 < e.len := by simp [vols]
theorem inv_add {cap : Nat} {t : List UInt8} {es : List Ent} (h : InvE cap es) (i : Nat) : InvE cap (addE cap t es i) := by
  rw [addE]
  split
  · rename_i hc
    refine h.set (readE_ok _ _) (fun hl => ?_) (fun j hj hne h1 h2 => hc.2 _ (mem_vols.2 ⟨List.getElem_mem hj, h2⟩))
    rw [readE] at hl ⊢
    split
    · rename_i ho; exact ho.2.2.1
    · rename_i ho; rw [if_neg ho] at hl; simp [Ent.none] at hl
  · exact h
theorem inv_open {cap : Nat} {t : List UInt8} : InvE cap (openE cap t) := by
  have : ∀ (l : List Nat) (es : List Ent), InvE cap es → InvE cap (l.foldl (addE cap t) es) := by
    intro l
    induction l with
    | nil => exact fun es h => h
    | cons a l ih => exact fun es h => ih _ (inv_add h a)
  exact this _ _ inv_none
/-! ### Room -/
theorem roomW_free {cap n : Nat} {es : List Ent} (hw : ∀ e ∈ es, e.first + e.len ≤ 1000) : ∀ (m a : Nat), 1001 - a ≤ m → a ≤ 1000 → ∀ e ∈ es, ¬ hitR n (roomW n es m a) e
  | 0, a, h, ha => by omega
  | m + 1, a, h, ha => by
    rw [roomW]
    cases hp : (passR n es (a, false)).2 with
    | true =>
      rw [if_pos rfl]
      have := passR_moved n es a hp
      exact roomW_free (cap := cap) hw m _ (by omega) (passR_cap n 1000 es (a, false) hw ha)
    | false =>
      rw [if_neg (by decide)]
      exact (passR_still n es a hp).2
theorem room_free {cap : Nat} (hc : cap ≤ 1000) {es : List Ent} (h : InvE cap es) (n : Nat) : ∀ e ∈ es, ¬ hitR n (roomA n es) e :=
  roomW_free (cap := cap) (fun e he => by have := (h.wf.ok e he).1; omega) 1000 8 (by omega) (by omega)
/-! ### Finding -/
theorem findFrom_none : ∀ (es : List Ent) (i : Nat) (nm : List UInt8), findFrom i nm es = none → ∀ e ∈ es, 0 < e.len → e.name ≠ nm
  | [], i, nm, h, e, he, _ => by simp at he
  | x :: es, i, nm, h, e, he, hl => by
    rw [findFrom] at h
    split at h
    · cases h
    · rename_i hc
      rcases List.mem_cons.1 he with rfl | he
      · exact fun hh => hc ⟨hl, hh⟩
      · exact findFrom_none es (i + 1) nm h e he hl
theorem findE_none {es : List Ent} {nm : List UInt8} (h : findE es nm = none) : ∀ e ∈ es, 0 < e.len → e.name ≠ nm := findFrom_none es 0 nm h
theorem hit_meets {x e : Ent} {n a : Nat} (hx : x.first = a ∧ x.len = n) (hne : x.name ≠ e.name) (hl : 0 < e.len) (h : ¬ hitR n a e) : ¬ meets x e := fun hm => by
  rcases hm with hm | hm
  · exact hne hm
  · exact h ⟨hl, by omega, by omega⟩
theorem inv_create {cap : Nat} (hc : cap ≤ 1000) {es : List Ent} (h : InvE cap es) (t nm : List UInt8) (n : Int) : InvE cap (createP cap es t nm n).2.1 := by
  simp only [createP]
  split
  · rename_i hg
    cases hf : findE es nm with
    | some i => exact h
    | none =>
      simp only
      split
      · rename_i hr
        refine h.set ⟨hr.2, (good_len hg.1).2, fun _ => roomA_ge _ _⟩ (fun _ => hg.1) (fun j hj hne h1 h2 => ?_)
        exact hit_meets ⟨rfl, rfl⟩ (fun e => findE_none hf _ (List.getElem_mem hj) h2 e.symm) h2 (room_free hc h _ _ (List.getElem_mem hj))
      · exact h
  · exact h
theorem inv_delete {cap : Nat} {es : List Ent} (h : InvE cap es) (t nm : List UInt8) : InvE cap (deleteP es t nm).2.1 := by
  simp only [deleteP]
  cases hf : findE es nm with
  | none => exact h
  | some i => exact h.set (by simp [Ent.none]) (by simp [Ent.none]) (fun j hj hne h1 => by simp [Ent.none] at h1)
theorem inv_rename {cap : Nat} {es : List Ent} (h : InvE cap es) (t nm to : List UInt8) : InvE cap (renameP es t nm to).2.1 := by
  simp only [renameP]
  split
  · rename_i hc
    obtain ⟨i, ho, hf, hg, hn⟩ := otherP_ok h.e8 hc
    obtain ⟨hi, hil, hlen, _⟩ := findE_lt h.e8 hf
    have hgd : es.getD i Ent.none = es[i] := by rw [List.getD_eq_getElem?_getD, List.getElem?_eq_getElem hil]; rfl
    have hw := h.wf.ok es[i] (List.getElem_mem hil)
    rw [ho]
    simp only [Int.toNat_natCast, hgd]
    refine h.set ⟨hw.1, (good_len hg).2, hw.2.2⟩ (fun _ => hg) (fun j hj hne h1 h2 hm => ?_)
    rcases hm with hm | hm
    · exact findE_none hn _ (List.getElem_mem hj) h2 hm.symm
    · exact h.ap i j hil hj (by omega) hlen h2 (.inr hm)
  · exact h
theorem inv_clone {cap : Nat} (hc : cap ≤ 1000) {es : List Ent} (h : InvE cap es) (t nm to : List UInt8) : InvE cap (cloneP cap es t nm to).2.1 := by
  simp only [cloneP]
  split
  · rename_i hcc
    obtain ⟨i, ho, hf, hg, hn⟩ := otherP_ok h.e8 hcc
    split
    · rename_i hr
      refine h.set ⟨hr.2, (good_len hg).2, fun _ => roomA_ge _ _⟩ (fun _ => hg) (fun j hj hne h1 h2 => ?_)
      exact hit_meets ⟨rfl, rfl⟩ (fun e => findE_none hn _ (List.getElem_mem hj) h2 e.symm) h2 (room_free hc h _ _ (List.getElem_mem hj))
    · exact h
  · exact h
end Go.PG

namespace Go.PG
open Go.Proofs

def nameT : List (List UInt8) := [[97], [98], [195, 169], [108, 111, 110, 103, 32, 110, 97, 109, 101], [115, 105, 120, 116, 101, 101, 110, 45, 98, 121, 116, 101, 115, 45, 120, 120], [115, 101, 118, 101, 110, 116, 101, 101, 110, 45, 98, 121, 116, 101, 115, 45, 120], [], [99], [100], [101]]
def nameB (n : Int) : List UInt8 := nameT.getD (n.emod 8).toNat []
theorem and7 (n : Int) : binI .and (.int .i64 n) (.int .i64 7) = some (.int .i64 (((n.emod 8).toNat : Nat) : Int)) := by
  have h0 : 0 ≤ n.emod 8 := Int.emod_nonneg _ (by decide)
  have h8 : n.emod 8 < 8 := Int.emod_lt_of_pos _ (by decide)
  simp only [binI, if_true]
  have e1 : (BitVec.ofInt IntKind.i64.bits n &&& BitVec.ofInt IntKind.i64.bits 7).toNat = (n.emod 8).toNat := by
    rw [BitVec.toNat_and]
    have e7 : (BitVec.ofInt IntKind.i64.bits 7).toNat = 2 ^ 3 - 1 := by decide
    rw [e7, Nat.and_two_pow_sub_one_eq_mod, BitVec.toNat_ofInt]
    have : ((n % ((2 ^ IntKind.i64.bits : Nat) : Int)).toNat : Int) % 8 = n % 8 := by
      have hb : ((2 ^ IntKind.i64.bits : Nat) : Int) = 18446744073709551616 := by decide
      rw [hb]
      omega
    have h2 : n.emod 8 = n % 8 := rfl
    rw [h2]
    omega
  rw [e1, wrap64 (by omega) (by omega)]
theorem names_build (H : Heap) : pBuildSlice Tryz.prog 55 10 [(0, str [97]), (1, str [98]), (2, str [195, 169]), (3, str [108, 111, 110, 103, 32, 110, 97, 109, 101]), (4, str [115, 105, 120, 116, 101, 101, 110, 45, 98, 121, 116, 101, 115, 45, 120, 120]), (5, str [115, 101, 118, 101, 110, 116, 101, 101, 110, 45, 98, 121, 116, 101, 115, 45, 120]), (6, str []), (7, str [99]), (8, str [100]), (9, str [101])] H = some (.slice (some ⟨H.next, 0, none⟩) 10 10, H.new (.cells (nameT.map str).toArray 9)) := by kernel_rfl
theorem name_run {k : Nat} (hk : 2 ≤ k) (n : Int) (H : Heap) : run Tryz.prog k 53 #[.int .i64 n] H = some (str (nameB n), H.new (.cells (nameT.map str).toArray 9)) := by
  obtain ⟨k, rfl⟩ : ∃ k', k = k' + 1 := ⟨k - 1, by omega⟩
  have h8 : (n.emod 8).toNat < 8 := by
    have h0 : 0 ≤ n.emod 8 := Int.emod_nonneg _ (by decide)
    have h8 : n.emod 8 < 8 := Int.emod_lt_of_pos _ (by decide)
    omega
  have hg : get1 (0 + (n.emod 8).toNat) (.cells (nameT.map str).toArray 9) = some (str (nameB n)) := by
    rw [get1_row (row_cells _ _), Nat.zero_add]
    simp only [nameB, List.getElem?_toArray, List.getElem?_map]
    rw [List.getD_eq_getElem?_getD]
    have hlt : (n.emod 8).toNat < nameT.length := by have : nameT.length = 10 := rfl; omega
    rw [List.getElem?_eq_getElem hlt]; rfl
  rw [Nat.zero_add] at hg
  rw [run53, F53]
  simp (disch := first | omega | assumption | (simp only [new_next, new_floor, set_next, set_floor] <;> omega) | (simp only [oneC_str, oneC_int, oneC_bool, oneC_slice, oneC_ptr, oneC_iface, Bool.and_self]) | rfl) only [↓bsome, msome, ↓bindP_some, ↓bindM_some, ↓newK_eq, ↓condV_true, ↓condV_false, condV_not, ↓condG_tt, ↓condG_ff, ↓condG_tf, ↓condG_ft, condG_not, ↓condG_undef, dec_t, dec_f, decide_true, decide_false, pick_t, pick_f, un_not, bnot_t, bnot_f, add64, sub64, mul64, lss64, leq64, gtr64, geq64, eql64, neq64, convU8, conv64, str_lit, len_str, eql_str, neq_str, idx_str, slice_hi, slice_lo, slice_to, pNil_ptr, fieldA_ptr, ldV1, ldVn, stVn, blk_new, blk_new_at, set_new_at, apart1, new_old, blk_set_at, set_old, new_next, new_floor, set_next, set_floor, get1_0, get3_0, get3_1, get3_2, get3_n, put3, get4_0, get4_1, get4_2, get4_3, get4_n, put4, Nat.zero_add, Nat.add_zero, ne_eq, not_false_eq_true, reduceCtorEq, Nat.reduceAdd, Nat.reduceEqDiff, Nat.succ_ne_self, idxSl_1, extract_t2_0, extract_t2_1, extract_t3_0, extract_t3_1, extract_t3_2, ↓quiet_some, atFloor_back, oneOf_one, atFloor_next, atFloor_floor, atFloor_blk, get6_0, get6_1, get6_2, get6_3, get6_4, get6_5, hide_blk, hide2_blk, hid_nil, hid_next, hid_floor, hid2_next, names_build, and7, hg]
theorem nameB_len (n : Int) : (nameB n).length ≤ 17 := by
  have h8 : (n.emod 8).toNat < 8 := by
    have h0 : 0 ≤ n.emod 8 := Int.emod_nonneg _ (by decide)
    have h8 : n.emod 8 < 8 := Int.emod_lt_of_pos _ (by decide)
    omega
  have : ∀ i, i < 8 → (nameT.getD i []).length ≤ 17 := by decide
  exact this _ h8
structure ActP where
  op : Int
  a : Int
  b : Int
  pos : Int
  n : Int
  data : List UInt8
def actC (x : ActP) : List Value := [.int .i64 x.op, .int .i64 x.a, .int .i64 x.b, .int .i64 x.pos, .int .i64 x.n, str x.data]
def actV (x : ActP) : Value := .agg #[.int .i64 x.op, .int .i64 x.a, .int .i64 x.b, .int .i64 x.pos, .int .i64 x.n, str x.data]
/-- What was read, and the error. -/
abbrev Ans := List UInt8 × Int
def ansV (r : Ans) : Value := .tuple #[str r.1, .int .i64 r.2]
def readA (cap : Nat) (es : List Ent) (t nm : List UInt8) (a n : Int) : Ans :=
  if (placeP es nm a n).2 = 0 then (if isRight cap (placeP es nm a n).1 n then (rdB t (placeP es nm a n).1.toNat n.toNat, 0) else ([], 1)) else ([], (placeP es nm a n).2)
theorem readA_eq (cap : Nat) (es : List Ent) (t nm : List UInt8) (a n : Int) : readP cap es t nm a n = ansV (readA cap es t nm a n) := by
  simp only [readP, readA, rdI]
  split
  · split <;> rfl
  · rfl
def writeA (cap : Nat) (es : List Ent) (t nm : List UInt8) (a n : Int) (b : List UInt8) : Int × List UInt8 :=
  if (placeP es nm a n).2 = 0 then ((if isRight cap (placeP es nm a n).1 n then 0 else 1), wrI cap t (placeP es nm a n).1 n b) else ((placeP es nm a n).2, t)
theorem writeA_eq (cap : Nat) (es : List Ent) (t nm : List UInt8) (a n : Int) (b : List UInt8) : writeP cap es t nm a n b = (.int .i64 (writeA cap es t nm a n b).1, (writeA cap es t nm a n b).2) := by
  simp only [writeP, writeA, okI]
  split <;> rfl
def stepP (cap : Nat) (es : List Ent) (t : List UInt8) (x : ActP) : Ans × List Ent × List UInt8 :=
  if x.op = 0 then (([], (createP cap es t (nameB x.a) x.n).1), (createP cap es t (nameB x.a) x.n).2)
  else if x.op = 1 then (([], (deleteP es t (nameB x.a)).1), (deleteP es t (nameB x.a)).2)
  else if x.op = 2 then (([], (renameP es t (nameB x.a) (nameB x.b)).1), (renameP es t (nameB x.a) (nameB x.b)).2)
  else if x.op = 3 then (([], (cloneP cap es t (nameB x.a) (nameB x.b)).1), (cloneP cap es t (nameB x.a) (nameB x.b)).2)
  else if x.op = 4 then (([], (writeA cap es t (nameB x.a) x.pos x.n x.data).1), es, (writeA cap es t (nameB x.a) x.pos x.n x.data).2)
  else if x.op = 5 then (readA cap es t (nameB x.a) x.pos x.n, es, t)
  else (([], 0), es, t)
theorem inv_step {cap : Nat} (hc : cap ≤ 1000) {es : List Ent} (h : InvE cap es) (t : List UInt8) (x : ActP) : InvE cap (stepP cap es t x).2.1 := by
  simp only [stepP]
  repeat' split
  · exact inv_create hc h t _ _
  · exact inv_delete h t _
  · exact inv_rename h t _ _
  · exact inv_clone hc h t _ _
  · exact h
  · exact h
  · exact h
section
variable {K : Nat} {d : Value} {cap : Nat} {D : DiskP} {s : Nat} {es : List Ent} {t : List UInt8} {F : Nat → Prop} {H : Heap}
theorem step_run (hd : DiskOk K d cap D) (hc : 8 < cap) {k : Nat} (hk : K + 1300 ≤ k) (h : Sys d cap D s es t F H) (hi : InvE cap es) (x : ActP) :
    ∃ F' H', run Tryz.prog k 20 #[.pointer (some ⟨s, 0, none⟩), actV x] H = some (ansV (stepP cap es t x).1, H') ∧ Sys d cap D s (stepP cap es t x).2.1 (stepP cap es t x).2.2 F' H' ∧ Foot (orS s F) (orS s F') H H' := by
  obtain ⟨k, rfl⟩ : ∃ k', k = k' + 1 := ⟨k - 1, by omega⟩
  have hw := hi.wf
  have hbox : pBox 38 (actV x) H = some (.pointer (some ⟨H.next, 0, none⟩), H.new (.cells #[.int .i64 x.op, .int .i64 x.a, .int .i64 x.b, .int .i64 x.pos, .int .i64 x.n, str x.data] 38)) := rfl
  generalize hA : H.new (.cells #[.int .i64 x.op, .int .i64 x.a, .int .i64 x.b, .int .i64 x.pos, .int .i64 x.n, str x.data] 38) = A at hbox
  have gA : Grow H A := by rw [← hA]; exact (Grow.refl H).new _
  have nA : A.next = H.next + 1 := by rw [← hA]; rfl
  have bA : A.blk H.next = some (.cells #[.int .i64 x.op, .int .i64 x.a, .int .i64 x.b, .int .i64 x.pos, .int .i64 x.n, str x.data] 38) := by rw [← hA, blk_new]
  have sA := h.grow hd gA
  have nm1 : ∀ (n : Int) (B : Heap), run Tryz.prog k 53 #[.int .i64 n] B = some (str (nameB n), B.new (.cells (nameT.map str).toArray 9)) := fun n B => name_run (by omega) n B
  have la := nameB_len x.a
  have lb := nameB_len x.b
  have gB : Grow A (A.new (.cells (nameT.map str).toArray 9)) := (Grow.refl A).new _
  have sB := sA.grow hd gB
  have gC : Grow A ((A.new (.cells (nameT.map str).toArray 9)).new (.cells (nameT.map str).toArray 9)) := gB.new _
  have sC := sA.grow hd gC
  have q : ∀ (b : Blk), (((A.atFloor A.next).new b).atFloor A.floor) = A.new b := fun b => rfl
  rw [run20, F20, hbox]
  simp only [stepP]
  by_cases h0 : x.op = 0
  · obtain ⟨F', H', e, s', f⟩ := create_run hd hc (k := k) (by omega) sB hw (nameB x.a) x.n (by omega) (by omega)
    simp (disch := first | omega | assumption | (simp only [new_next, new_floor, set_next, set_floor] <;> omega) | (simp only [oneC_str, oneC_int, oneC_bool, oneC_slice, oneC_ptr, oneC_iface, Bool.and_self]) | rfl) only [↓bsome, msome, ↓bindP_some, ↓bindM_some, ↓newK_eq, ↓condV_true, ↓condV_false, condV_not, ↓condG_tt, ↓condG_ff, ↓condG_tf, ↓condG_ft, condG_not, ↓condG_undef, dec_t, dec_f, decide_true, decide_false, pick_t, pick_f, un_not, bnot_t, bnot_f, add64, sub64, mul64, lss64, leq64, gtr64, geq64, eql64, neq64, convU8, conv64, str_lit, len_str, eql_str, neq_str, idx_str, slice_hi, slice_lo, slice_to, pNil_ptr, fieldA_ptr, ldV1, ldVn, stVn, blk_new, blk_new_at, set_new_at, apart1, new_old, blk_set_at, set_old, new_next, new_floor, set_next, set_floor, get1_0, get3_0, get3_1, get3_2, get3_n, put3, get4_0, get4_1, get4_2, get4_3, get4_n, put4, Nat.zero_add, Nat.add_zero, ne_eq, not_false_eq_true, reduceCtorEq, Nat.reduceAdd, Nat.reduceEqDiff, Nat.succ_ne_self, idxSl_1, extract_t2_0, extract_t2_1, extract_t3_0, extract_t3_1, extract_t3_2, ↓quiet_some, atFloor_back, oneOf_one, atFloor_next, atFloor_floor, atFloor_blk, get6_0, get6_1, get6_2, get6_3, get6_4, get6_5, hide_blk, hide2_blk, hid_nil, hid_next, hid_floor, hid2_next, bA, h0, nm1, q, e]
    exact ⟨F', H', rfl, s', (Foot.of_grow (gA.trans gB)).trans f⟩
  · by_cases h1 : x.op = 1
    · obtain ⟨F', H', e, s', f⟩ := delete_run hd hc (k := k) (by omega) sB (nameB x.a)
      simp (disch := first | omega | assumption | (simp only [new_next, new_floor, set_next, set_floor] <;> omega) | (simp only [oneC_str, oneC_int, oneC_bool, oneC_slice, oneC_ptr, oneC_iface, Bool.and_self]) | rfl) only [↓bsome, msome, ↓bindP_some, ↓bindM_some, ↓newK_eq, ↓condV_true, ↓condV_false, condV_not, ↓condG_tt, ↓condG_ff, ↓condG_tf, ↓condG_ft, condG_not, ↓condG_undef, dec_t, dec_f, decide_true, decide_false, pick_t, pick_f, un_not, bnot_t, bnot_f, add64, sub64, mul64, lss64, leq64, gtr64, geq64, eql64, neq64, convU8, conv64, str_lit, len_str, eql_str, neq_str, idx_str, slice_hi, slice_lo, slice_to, pNil_ptr, fieldA_ptr, ldV1, ldVn, stVn, blk_new, blk_new_at, set_new_at, apart1, new_old, blk_set_at, set_old, new_next, new_floor, set_next, set_floor, get1_0, get3_0, get3_1, get3_2, get3_n, put3, get4_0, get4_1, get4_2, get4_3, get4_n, put4, Nat.zero_add, Nat.add_zero, ne_eq, not_false_eq_true, reduceCtorEq, Nat.reduceAdd, Nat.reduceEqDiff, Nat.succ_ne_self, idxSl_1, extract_t2_0, extract_t2_1, extract_t3_0, extract_t3_1, extract_t3_2, ↓quiet_some, atFloor_back, oneOf_one, atFloor_next, atFloor_floor, atFloor_blk, get6_0, get6_1, get6_2, get6_3, get6_4, get6_5, hide_blk, hide2_blk, hid_nil, hid_next, hid_floor, hid2_next, bA, h1, nm1, q, e]
      exact ⟨F', H', rfl, s', (Foot.of_grow (gA.trans gB)).trans f⟩
    · by_cases h2 : x.op = 2
      · obtain ⟨F', H', e, s', f⟩ := rename_run hd hc (k := k) (by omega) sC hw (nameB x.a) (nameB x.b) (by omega) (by omega)
        simp (disch := first | omega | assumption | (simp only [new_next, new_floor, set_next, set_floor] <;> omega) | (simp only [oneC_str, oneC_int, oneC_bool, oneC_slice, oneC_ptr, oneC_iface, Bool.and_self]) | rfl) only [↓bsome, msome, ↓bindP_some, ↓bindM_some, ↓newK_eq, ↓condV_true, ↓condV_false, condV_not, ↓condG_tt, ↓condG_ff, ↓condG_tf, ↓condG_ft, condG_not, ↓condG_undef, dec_t, dec_f, decide_true, decide_false, pick_t, pick_f, un_not, bnot_t, bnot_f, add64, sub64, mul64, lss64, leq64, gtr64, geq64, eql64, neq64, convU8, conv64, str_lit, len_str, eql_str, neq_str, idx_str, slice_hi, slice_lo, slice_to, pNil_ptr, fieldA_ptr, ldV1, ldVn, stVn, blk_new, blk_new_at, set_new_at, apart1, new_old, blk_set_at, set_old, new_next, new_floor, set_next, set_floor, get1_0, get3_0, get3_1, get3_2, get3_n, put3, get4_0, get4_1, get4_2, get4_3, get4_n, put4, Nat.zero_add, Nat.add_zero, ne_eq, not_false_eq_true, reduceCtorEq, Nat.reduceAdd, Nat.reduceEqDiff, Nat.succ_ne_self, idxSl_1, extract_t2_0, extract_t2_1, extract_t3_0, extract_t3_1, extract_t3_2, ↓quiet_some, atFloor_back, oneOf_one, atFloor_next, atFloor_floor, atFloor_blk, get6_0, get6_1, get6_2, get6_3, get6_4, get6_5, hide_blk, hide2_blk, hid_nil, hid_next, hid_floor, hid2_next, bA, h2, nm1, q, e]
        exact ⟨F', H', rfl, s', (Foot.of_grow (gA.trans gC)).trans f⟩
      · by_cases h3 : x.op = 3
        · obtain ⟨F', H', e, s', f⟩ := clone_run hd hc (k := k) (by omega) sC hw (nameB x.a) (nameB x.b) (by omega) (by omega)
          simp (disch := first | omega | assumption | (simp only [new_next, new_floor, set_next, set_floor] <;> omega) | (simp only [oneC_str, oneC_int, oneC_bool, oneC_slice, oneC_ptr, oneC_iface, Bool.and_self]) | rfl) only [↓bsome, msome, ↓bindP_some, ↓bindM_some, ↓newK_eq, ↓condV_true, ↓condV_false, condV_not, ↓condG_tt, ↓condG_ff, ↓condG_tf, ↓condG_ft, condG_not, ↓condG_undef, dec_t, dec_f, decide_true, decide_false, pick_t, pick_f, un_not, bnot_t, bnot_f, add64, sub64, mul64, lss64, leq64, gtr64, geq64, eql64, neq64, convU8, conv64, str_lit, len_str, eql_str, neq_str, idx_str, slice_hi, slice_lo, slice_to, pNil_ptr, fieldA_ptr, ldV1, ldVn, stVn, blk_new, blk_new_at, set_new_at, apart1, new_old, blk_set_at, set_old, new_next, new_floor, set_next, set_floor, get1_0, get3_0, get3_1, get3_2, get3_n, put3, get4_0, get4_1, get4_2, get4_3, get4_n, put4, Nat.zero_add, Nat.add_zero, ne_eq, not_false_eq_true, reduceCtorEq, Nat.reduceAdd, Nat.reduceEqDiff, Nat.succ_ne_self, idxSl_1, extract_t2_0, extract_t2_1, extract_t3_0, extract_t3_1, extract_t3_2, ↓quiet_some, atFloor_back, oneOf_one, atFloor_next, atFloor_floor, atFloor_blk, get6_0, get6_1, get6_2, get6_3, get6_4, get6_5, hide_blk, hide2_blk, hid_nil, hid_next, hid_floor, hid2_next, bA, h3, nm1, q, e]
          exact ⟨F', H', rfl, s', (Foot.of_grow (gA.trans gC)).trans f⟩
        · by_cases h4 : x.op = 4
          · obtain ⟨F', H', e, s', f⟩ := swrite_run hd (k := k) (by omega) sB hw (nameB x.a) x.pos x.n x.data
            rw [writeA_eq] at e s'
            simp (disch := first | omega | assumption | (simp only [new_next, new_floor, set_next, set_floor] <;> omega) | (simp only [oneC_str, oneC_int, oneC_bool, oneC_slice, oneC_ptr, oneC_iface, Bool.and_self]) | rfl) only [↓bsome, msome, ↓bindP_some, ↓bindM_some, ↓newK_eq, ↓condV_true, ↓condV_false, condV_not, ↓condG_tt, ↓condG_ff, ↓condG_tf, ↓condG_ft, condG_not, ↓condG_undef, dec_t, dec_f, decide_true, decide_false, pick_t, pick_f, un_not, bnot_t, bnot_f, add64, sub64, mul64, lss64, leq64, gtr64, geq64, eql64, neq64, convU8, conv64, str_lit, len_str, eql_str, neq_str, idx_str, slice_hi, slice_lo, slice_to, pNil_ptr, fieldA_ptr, ldV1, ldVn, stVn, blk_new, blk_new_at, set_new_at, apart1, new_old, blk_set_at, set_old, new_next, new_floor, set_next, set_floor, get1_0, get3_0, get3_1, get3_2, get3_n, put3, get4_0, get4_1, get4_2, get4_3, get4_n, put4, Nat.zero_add, Nat.add_zero, ne_eq, not_false_eq_true, reduceCtorEq, Nat.reduceAdd, Nat.reduceEqDiff, Nat.succ_ne_self, idxSl_1, extract_t2_0, extract_t2_1, extract_t3_0, extract_t3_1, extract_t3_2, ↓quiet_some, atFloor_back, oneOf_one, atFloor_next, atFloor_floor, atFloor_blk, get6_0, get6_1, get6_2, get6_3, get6_4, get6_5, hide_blk, hide2_blk, hid_nil, hid_next, hid_floor, hid2_next, bA, h4, nm1, q, e]
            exact ⟨F', H', rfl, s', (Foot.of_grow (gA.trans gB)).trans f⟩
          · by_cases h5 : x.op = 5
            · obtain ⟨F', H', e, s', f⟩ := sread_run hd (k := k) (by omega) sB hw (nameB x.a) x.pos x.n
              rw [readA_eq, ansV] at e
              simp (disch := first | omega | assumption | (simp only [new_next, new_floor, set_next, set_floor] <;> omega) | (simp only [oneC_str, oneC_int, oneC_bool, oneC_slice, oneC_ptr, oneC_iface, Bool.and_self]) | rfl) only [↓bsome, msome, ↓bindP_some, ↓bindM_some, ↓newK_eq, ↓condV_true, ↓condV_false, condV_not, ↓condG_tt, ↓condG_ff, ↓condG_tf, ↓condG_ft, condG_not, ↓condG_undef, dec_t, dec_f, decide_true, decide_false, pick_t, pick_f, un_not, bnot_t, bnot_f, add64, sub64, mul64, lss64, leq64, gtr64, geq64, eql64, neq64, convU8, conv64, str_lit, len_str, eql_str, neq_str, idx_str, slice_hi, slice_lo, slice_to, pNil_ptr, fieldA_ptr, ldV1, ldVn, stVn, blk_new, blk_new_at, set_new_at, apart1, new_old, blk_set_at, set_old, new_next, new_floor, set_next, set_floor, get1_0, get3_0, get3_1, get3_2, get3_n, put3, get4_0, get4_1, get4_2, get4_3, get4_n, put4, Nat.zero_add, Nat.add_zero, ne_eq, not_false_eq_true, reduceCtorEq, Nat.reduceAdd, Nat.reduceEqDiff, Nat.succ_ne_self, idxSl_1, extract_t2_0, extract_t2_1, extract_t3_0, extract_t3_1, extract_t3_2, ↓quiet_some, atFloor_back, oneOf_one, atFloor_next, atFloor_floor, atFloor_blk, get6_0, get6_1, get6_2, get6_3, get6_4, get6_5, hide_blk, hide2_blk, hid_nil, hid_next, hid_floor, hid2_next, bA, h5, nm1, q, e]
              exact ⟨F', H', rfl, s', (Foot.of_grow (gA.trans gB)).trans f⟩
            · simp (disch := first | omega | assumption | (simp only [new_next, new_floor, set_next, set_floor] <;> omega) | (simp only [oneC_str, oneC_int, oneC_bool, oneC_slice, oneC_ptr, oneC_iface, Bool.and_self]) | rfl) only [↓bsome, msome, ↓bindP_some, ↓bindM_some, ↓newK_eq, ↓condV_true, ↓condV_false, condV_not, ↓condG_tt, ↓condG_ff, ↓condG_tf, ↓condG_ft, condG_not, ↓condG_undef, dec_t, dec_f, decide_true, decide_false, pick_t, pick_f, un_not, bnot_t, bnot_f, add64, sub64, mul64, lss64, leq64, gtr64, geq64, eql64, neq64, convU8, conv64, str_lit, len_str, eql_str, neq_str, idx_str, slice_hi, slice_lo, slice_to, pNil_ptr, fieldA_ptr, ldV1, ldVn, stVn, blk_new, blk_new_at, set_new_at, apart1, new_old, blk_set_at, set_old, new_next, new_floor, set_next, set_floor, get1_0, get3_0, get3_1, get3_2, get3_n, put3, get4_0, get4_1, get4_2, get4_3, get4_n, put4, Nat.zero_add, Nat.add_zero, ne_eq, not_false_eq_true, reduceCtorEq, Nat.reduceAdd, Nat.reduceEqDiff, Nat.succ_ne_self, idxSl_1, extract_t2_0, extract_t2_1, extract_t3_0, extract_t3_1, extract_t3_2, ↓quiet_some, atFloor_back, oneOf_one, atFloor_next, atFloor_floor, atFloor_blk, get6_0, get6_1, get6_2, get6_3, get6_4, get6_5, hide_blk, hide2_blk, hid_nil, hid_next, hid_floor, hid2_next, bA, h0, h1, h2, h3, h4, h5, if_false]
              exact ⟨F, A, rfl, sA, Foot.of_grow gA⟩
end
end Go.PG

namespace Go.PG
open Go.RowKit
section
variable {P : Program}

theorem calls_of_run {base k : Nat} (hs : CallOk P base (run P k)) {f : FuncId} {fn : Func} {c : Code} (hf : P.funcs[f]? = some fn) (hn : (fn.name == "runtime.NumGoroutine") = false) (hb : fn.body = some c) {args args' : Array Value} {H : Heap} {v : Value} {H' : Heap} {ρ : Ren} {w : World}
    (h : run P k f args H = some (v, H')) (hr : Rel P base ρ H w) (ha : ARel ρ args args') (hfr : ∀ n, H.next ≤ n → ρ n = none) :
    Calls P f args' w fun e w' => ∃ v', e = .returned v' ∧ Good P base ρ H w v H' v' w' := by
  have := hs f args args' H v H' ρ w h hr ha fun n h1 _ => hfr n h1
  have hn' : ¬ fn.name = "runtime.NumGoroutine" := by simpa using hn
  have he : (callFunc f args').run P w = .ok (.enter f args') w := by
    simp [callFunc, hf, hn', hb]
  unfold OpOk at this
  rw [he] at this
  exact this
/-- Nothing that came in may be written: all blocks that were are as they were. -/
theorem Post.below {base : Nat} {ρ ρ' : Ren} {H H' : Heap} {w w' : World} (h : Post P base ρ ρ' H H' w w') (hf : ∀ n, (H.blk n).isSome = true → n < H.floor) : Below w.heap.size w w' :=
  ⟨h.calm.os, h.calm.tape, h.calm.output, h.size, fun k hk => h.keep k hk fun n K hs hle => by have := hf n hs; omega⟩
/-- Nothing that came in lies in the heap. -/
def noHeap : Heap := ⟨fun _ => none, 0, 0⟩
theorem rel_none (w : World) : Rel P 0 (fun _ => none) noHeap w := ⟨fun n b hb => (by cases hb), fun n m b K K' hb => (by cases hb), fun n hn => (by cases hn), Nat.le_refl _, Nat.le_refl _⟩
/-- A law that takes values without blocks and returns true. -/
theorem law_flat {k : Nat} (hs : ∀ k, CallOk P 0 (run P k)) {f : FuncId} {fn : Func} {c : Code} (hf : P.funcs[f]? = some fn) (hn : (fn.name == "runtime.NumGoroutine") = false) (hb : fn.body = some c) {args : Array Value} {H' : Heap} {w : World}
    (h : run P k f args noHeap = some (.bool true, H')) (ha : ARel (fun _ => none) args args) : Calls P f args w fun e w' => e = .returned (.bool true) ∧ Below w.heap.size w w' :=
  (calls_of_run (hs k) hf hn hb h (rel_none w) ha fun _ _ => rfl).mono fun e w' ⟨v', he, ρ', hv, hp⟩ => by
    rw [hv.bool_inv] at he
    exact ⟨he, hp.below fun n hn => by cases hn⟩
end
end Go.PG

namespace Go.PG
open Go.RowKit Go.ChangeShapes Go.WideShapes Go.Deep

/-- A slice of records of the caller's: what may be read of it. -/
def WinAt {α : Type} (H : Heap) (v : Value) (n : Nat) (f : α → List Value) (l : List α) : Prop :=
  lenSl v = some (.int .i64 (l.length : Int)) ∧ ∀ i (hi : i < l.length), ∃ b o, idxSl n v (.int .i64 (i : Int)) = some (.pointer (some ⟨b, o, none⟩)) ∧ b < H.next ∧ (H.blk b).bind (getN n o) = some (.agg (f l[i]).toArray) ∧ ∀ j, j < n → (H.blk b).bind (get1 (o + j)) = (f l[i])[j]?
theorem WinAt.grow {α : Type} {H H' : Heap} {v : Value} {n : Nat} {f : α → List Value} {l : List α} (h : WinAt H v n f l) (g : Grow H H') : WinAt H' v n f l :=
  ⟨h.1, fun i hi => by
    obtain ⟨b, o, h1, h2, h3, h4⟩ := h.2 i hi
    refine ⟨b, o, h1, Nat.lt_of_lt_of_le h2 g.next, ?_, fun j hj => ?_⟩
    · rw [g.old b h2, h3]
    · rw [g.old b h2, h4 j hj]⟩
/-- Cells of a block from a place on. -/
abbrev Wnd := Nat × Array Value × Nat
def WinIn (w : World) (x : Wnd) : Prop := ∃ c' ty fr, w.heap[x.2.2]? = some (.cells c' ty fr) ∧ x.1 + x.2.1.size ≤ c'.size ∧ ∀ j, j < x.2.1.size → x.2.1.getD j undef = c'.getD (x.1 + j) undef ∧ flat (x.2.1.getD j undef) = true
def argHeap (ws : Nat → Option Wnd) (N : Nat) : Heap := ⟨fun n => if n < N then (ws n).map fun x => .win x.1 x.2.1 else none, N, N⟩
def argRen (ws : Nat → Option Wnd) (N : Nat) : Ren := fun n => if n < N then (ws n).map fun x => (x.2.2, 0) else none
theorem rel_args {P : Program} {ws : Nat → Option Wnd} {N : Nat} {w : World} (h : ∀ n x, n < N → ws n = some x → WinIn w x) : Rel P N (argRen ws N) (argHeap ws N) w where
  blk := fun n b hb => by
    simp only [argHeap] at hb
    split at hb
    · rename_i hn
      cases hw : ws n with
      | none => rw [hw] at hb; simp at hb
      | some x =>
        rw [hw] at hb
        simp only [Option.map_some, Option.some.injEq] at hb
        subst hb
        obtain ⟨c', ty, fr, h1, h2, h3⟩ := h n x hn hw
        refine ⟨x.2.2, 0, c', ty, fr, ?_, h1, h2, fun j hj => ?_⟩
        · simp [argRen, hn, hw]
        · obtain ⟨h4, h5⟩ := h3 j hj
          rw [← h4]
          exact VRel.flat h5
    · cases hb
  inj := fun n m b K K' h1 _ hn => by
    exfalso
    simp only [argHeap] at h1
    split at h1
    · omega
    · simp at h1
  dom := fun n hn => by
    simp only [argHeap] at hn ⊢
    split at hn
    · assumption
    · simp at hn
  floor := Nat.le_refl _
  fle := Nat.le_refl _
/-- A law that reads its arguments alone and returns true. -/
theorem law_args {P : Program} {k N : Nat} {ws : Nat → Option Wnd} (hs : ∀ k, CallOk P N (run P k)) {f : FuncId} {fn : Func} {c : Code} (hf : P.funcs[f]? = some fn) (hn : (fn.name == "runtime.NumGoroutine") = false) (hb : fn.body = some c) {args args' : Array Value} {H' : Heap} {w : World}
    (hw : ∀ n x, n < N → ws n = some x → WinIn w x) (h : run P k f args (argHeap ws N) = some (.bool true, H')) (ha : ARel (argRen ws N) args args') : Calls P f args' w fun e w' => e = .returned (.bool true) ∧ Below w.heap.size w w' :=
  (calls_of_run (hs k) hf hn hb h (rel_args hw) ha fun n hn => by simp only [argRen]; rw [if_neg (by simp only [argHeap] at hn; omega)]).mono fun e w' ⟨v', he, ρ', hv, hp⟩ => by
    rw [hv.bool_inv] at he
    refine ⟨he, hp.below fun n hn => ?_⟩
    simp only [argHeap] at hn ⊢
    split at hn
    · assumption
    · simp at hn
theorem winAt_nil {α : Type} (H : Heap) (a : Option Addr) (c n : Nat) (f : α → List Value) : WinAt H (.slice a 0 c) n f [] := ⟨rfl, fun i hi => by simp at hi⟩
theorem get_win {b off : Nat} {c : Array Value} (o : Nat) (h : off ≤ o) : get1 o (.win off c) = c[o - off]? := by
  simp [get1, Blk.view, h]
section
variable {α : Type} {f : α → List Value} {n : Nat}
theorem winAt_win (hf : ∀ x, (f x).length = n) (hn : n ≠ 0) {H : Heap} {q off cap : Nat} {ls : List α} {len : Nat} (hl : len ≤ ls.length) (hb : H.blk q = some (.win off (ls.flatMap f).toArray)) (hq : q < H.next) :
    WinAt H (.slice (some ⟨q, off, none⟩) len cap) n f (ls.take len) := by
  have hll : (ls.take len).length = len := by rw [List.length_take]; omega
  refine ⟨by rw [hll]; rfl, fun i hi => ?_⟩
  rw [hll] at hi
  have hi' : i < ls.length := by omega
  have hin : i * n + n ≤ ls.length * n := by
    have : (i + 1) * n ≤ ls.length * n := Nat.mul_le_mul_right n hi'
    rw [Nat.add_mul] at this; omega
  have hfl := flat_len hf ls
  refine ⟨q, off + i * n, ?_, hq, ?_, fun j hj => ?_⟩
  · have h2 : (i : Int) < (len : Int) := by omega
    by_cases h0 : i * n = 0
    · simp [idxSl, h2, Addr.add, h0]
    · simp [idxSl, h2, Addr.add, h0]
  · rw [hb]
    simp only [Option.bind_some, getN, Blk.view]
    rw [if_pos ⟨by omega, by simp only [List.size_toArray, hfl]; omega⟩]
    congr 2
    apply Array.toList_inj.1
    rw [Array.toList_extract, List.extract_eq_take_drop, List.toList_toArray, show off + i * n - off + n - (off + i * n - off) = n from by omega, show off + i * n - off = i * n from by omega, flat_one hf hi']
    simp
  · rw [hb]
    simp only [Option.bind_some]
    rw [get_win (b := 0) _ (by omega), show off + i * n + j - off = i * n + j from by omega, List.getElem?_toArray, flat_get hf hi' hj]
    simp
/-- A slice of flat records that came in: its window, and what it is called as. -/
theorem slice_arg {H : Type} {enc : TypeId × Value → H} {P : Program} {w : World} {t e : TypeId} {v : Value} {d : DataW H} {ps : List MemPlace} (hf : ∀ x, (f x).length = n) (hn : n ≠ 0) (hfl : ∀ x, (f x).all flat = true) (ht : P.underlying t = some (.slice e)) (ce : P.cellsOf e = n)
    (hel : ∀ m cs y, DataW.trod enc P w 0 (fun _ => true) true m e cs = some y → ∃ x, cs = f x) (h0 : ∃ a len cap, v = .slice a len cap) (h : DataW.Trod enc P w 0 (fun _ => true) true t v d ps) :
    ∃ (l : List α) (ws : Option Wnd) (vf : Nat → Value), (∀ x, ws = some x → WinIn w x) ∧ l.length ≤ maxLen ∧
      (∀ (q : Nat) (G : Heap), G.blk q = ws.map (fun x => .win x.1 x.2.1) → q < G.next → WinAt G (vf q) n f l) ∧
      (∀ (q : Nat) (ρ : Ren), ρ q = ws.map (fun x => (x.2.2, 0)) → VRel ρ (vf q) v) := by
  obtain ⟨a0, len0, cap0, rfl⟩ := h0
  obtain ⟨fuel, hfu⟩ := h
  rcases open_slice ht hfu with ⟨hcs, _⟩ | ⟨a, len, cap, m, k, D, Pl, hcs, hb, hl, hm, hmm, _, hx⟩
  · simp [Value.cells] at hcs
    obtain ⟨rfl, rfl, rfl⟩ := hcs
    exact ⟨[], none, fun _ => .slice none 0 0, fun x hx => (by cases hx), Nat.zero_le _, fun q G _ _ => winAt_nil _ _ _ _ _, fun q ρ _ => .nilSlice⟩
  · simp [Value.cells] at hcs
    obtain ⟨rfl, rfl, rfl⟩ := hcs
    simp only [if_true] at hmm
    subst hmm
    by_cases hc0 : m = 0
    · subst hc0
      have hl0 : len0 = 0 := by omega
      subst hl0
      exact ⟨[], none, fun _ => .slice (some a) 0 0, fun x hx => (by cases hx), Nat.zero_le _, fun q G _ _ => winAt_nil _ _ _ _ _, fun q ρ _ => .sliceZ _ _⟩
    · have each : ∀ i, i < m → ∃ x : α, ∀ j, j < n → w.cell? ((a.add (i * n)).add j) = (f x)[j]? := by
        intro i hi
        obtain ⟨cs, h1, h2⟩ := hx i hi
        rw [ce] at h1
        obtain ⟨_, hlen, hcell⟩ := World.cells?_some h1
        obtain ⟨x, rfl⟩ := hel _ _ _ h2
        exact ⟨x, fun j hj => by rw [hcell j hj]⟩
      obtain ⟨x0, _⟩ := each 0 (by omega)
      have : Inhabited α := ⟨x0⟩
      obtain ⟨g, hg⟩ := choose_lt each
      have hn0 : 0 < n := Nat.pos_of_ne_zero hn
      have hspot : a.spot = none := by
        have h1 := hg 0 (by omega) 0 hn0
        rw [Nat.zero_mul] at h1
        have e1 : (a.add 0).add 0 = a := by simp [Addr.add]
        rw [e1] at h1
        cases hs : a.spot with
        | none => rfl
        | some s =>
          unfold World.cell? at h1
          rw [hs] at h1
          have h2 : (f (g 0))[0]? = none := by
            rw [← h1]
            split <;> simp
          rw [List.getElem?_eq_none_iff, hf] at h2
          omega
      obtain ⟨ab, ao, asp⟩ := a
      simp only at hspot
      subst hspot
      have hadd : ∀ i j, (((⟨ab, ao, none⟩ : Addr).add i).add j) = ⟨ab, ao + i + j, none⟩ := fun i j => by
        by_cases h1 : i = 0 <;> by_cases h2 : j = 0 <;> simp [Addr.add, h1, h2]
      let ls : List α := (List.range m).map g
      have hlsl : ls.length = m := by simp [ls]
      have hflen : (ls.flatMap f).length = m * n := by rw [flat_len hf, hlsl]
      have hcell : ∀ i j, i < m → j < n → w.cell? ⟨ab, ao + i * n + j, none⟩ = (ls.flatMap f)[i * n + j]? := fun i j hi hj => by
        rw [flat_get hf (by rw [hlsl]; exact hi) hj]
        have := hg i hi j hj
        rw [hadd] at this
        rw [this]
        congr 1
        simp [ls]
      have hcell' : ∀ q, q < m * n → w.cell? ⟨ab, ao + q, none⟩ = (ls.flatMap f)[q]? := fun q hq => by
        have h1 : q / n < m := (Nat.div_lt_iff_lt_mul hn0).2 hq
        have h2 := hcell (q / n) (q % n) h1 (Nat.mod_lt _ hn0)
        have e : q / n * n + q % n = q := by rw [Nat.mul_comm]; exact Nat.div_add_mod q n
        rwa [Nat.add_assoc, e] at h2
      have hblk : ∃ c' ty fr, w.heap[ab]? = some (.cells c' ty fr) := by
        have h1 := hcell' 0 (by have := Nat.mul_pos (Nat.pos_of_ne_zero hc0) hn0; omega)
        rw [List.getElem?_eq_getElem (by rw [hflen]; have := Nat.mul_pos (Nat.pos_of_ne_zero hc0) hn0; omega)] at h1
        unfold World.cell? at h1
        split at h1
        · rename_i c e fr hh; exact ⟨c, e, fr, hh⟩
        · cases h1
      obtain ⟨c', ty, fr, hbk⟩ := hblk
      have hcq : ∀ q, q < m * n → c'[ao + q]? = (ls.flatMap f)[q]? := fun q hq => by
        have := hcell' q hq
        unfold World.cell? at this
        rw [hbk] at this
        simpa using this
      have hfa : (ls.flatMap f).all flat = true := by rw [List.all_flatMap]; simp [hfl]
      refine ⟨ls.take len0, some (ao, (ls.flatMap f).toArray, ab), fun q => .slice (some ⟨q, ao, none⟩) len0 m, fun x hx => ?_, ?_, fun q G hG hq => ?_, fun q ρ hρ => ?_⟩
      · simp only [Option.some.injEq] at hx
        subst hx
        refine ⟨c', ty, fr, hbk, ?_, fun j hj => ?_⟩
        · simp only [List.size_toArray, hflen]
          have hpos := Nat.mul_pos (Nat.pos_of_ne_zero hc0) hn0
          have h1 := hcq (m * n - 1) (by omega)
          rw [List.getElem?_eq_getElem (by rw [hflen]; omega)] at h1
          have := (Array.getElem?_eq_some_iff.1 h1).1
          omega
        · simp only [List.size_toArray, hflen] at hj
          have h1 := hcq j hj
          rw [List.getElem?_eq_getElem (by rw [hflen]; exact hj)] at h1
          have h2 : (ls.flatMap f)[j] ∈ ls.flatMap f := List.getElem_mem _
          refine ⟨?_, ?_⟩
          · simp only [Array.getD_eq_getD_getElem?, List.getElem?_toArray, h1]
            rw [List.getElem?_eq_getElem (by rw [hflen]; exact hj)]
          · simp only [Array.getD_eq_getD_getElem?, List.getElem?_toArray]
            rw [List.getElem?_eq_getElem (by rw [hflen]; exact hj)]
            exact List.all_eq_true.1 hfa _ h2
      · rw [List.length_take]; omega
      · exact winAt_win hf hn (by omega) hG hq
      · exact .slice ao len0 m hρ (by unfold maxLen at hm; unfold capU; omega) hl
end
end Go.PG
