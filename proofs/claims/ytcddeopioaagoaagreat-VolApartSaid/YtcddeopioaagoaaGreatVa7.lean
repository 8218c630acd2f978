/- Part 7 of the lemmas behind RowVolApart: LawApart, SpActs. No condition beyond those that each lemma names. -/
import Derived.Test.YtcddeopioaagoaaGreatVa6

set_option linter.unusedVariables false
set_option linter.unusedSimpArgs false
set_option linter.unusedSectionVars false
namespace Go.PG
open Go.Proofs

/-! ### Rows of bools -/
def BL (l : List Bool) : Blk := .cells (l.map Value.bool).toArray 4
theorem mkSl_bools {n : Nat} (h : n < 1000000) (H : Heap) : mkSl 1 1 #[(.bool false)] 4 (.int .i64 (n : Int)) (.int .i64 (n : Int)) H = some (.slice (some ⟨H.next, 0, none⟩) n n, H.new (BL (List.replicate n false))) := by
  simp only [mkSl]
  rw [if_pos (by refine ⟨?_, ?_, ?_, ?_⟩ <;> omega)]
  simp [BL]
theorem get_BL {l : List Bool} {i : Nat} (h : i < l.length) : get1 i (BL l) = some (.bool l[i]) := by
  rw [BL, get1_row (row_cells _ _)]
  simp [h]
theorem put_BL {H : Heap} {n j : Nat} {l : List Bool} {x : Bool} (hf : H.floor ≤ n) (hj : j < l.length) : putN H n j (.bool x) 1 (BL l) = some (H.set n (BL (l.set j x))) := by
  have hc : (Value.bool x).cells = #[.bool x] := rfl
  simp only [putN, BL, row_cells, Option.bind_some, hc]
  rw [if_pos ⟨rfl, by decide, hf, by simp; omega, rfl⟩]
  congr 2
  rw [setL, setL]
  simp only [Blk.put]
  congr 1
  apply Array.toList_inj.1
  simp
/-! ### Volumes, plainly -/
theorem vols_pair {cap : Nat} {es : List Ent} (h : InvE cap es) : (vols es).Pairwise fun x y => ¬ meets x y := by
  have h1 : es.Pairwise fun x y => 0 < x.len → 0 < y.len → ¬ meets x y := by
    rw [List.pairwise_iff_getElem]
    intro i j hi hj hij h1 h2
    exact h.ap i j hi hj (by omega) h1 h2
  have h2 := h1.filter (fun e => decide (0 < e.len))
  rw [List.pairwise_iff_getElem] at h2 ⊢
  intro i j hi hj hij
  have m1 := (mem_vols.1 (List.getElem_mem hi)).2
  have m2 := (mem_vols.1 (List.getElem_mem hj)).2
  exact h2 i j hi hj hij m1 m2
theorem lens_vols (es : List Ent) : lens (vols es) = lens es := by
  induction es with
  | nil => rfl
  | cons e es ih =>
    by_cases h : 0 < e.len
    · rw [vols, List.filter_cons_of_pos (by simpa using h), lens_cons, lens_cons]; rw [vols] at ih; rw [ih]
    · rw [vols, List.filter_cons_of_neg (by simpa using h), lens_cons]; rw [vols] at ih; rw [ih]; omega
theorem find_mem {cap : Nat} {es : List Ent} (h : InvE cap es) {e : Ent} (he : e ∈ vols es) : ∃ i : Nat, findE es e.name = some i ∧ es.getD i Ent.none = e := by
  obtain ⟨h1, h2⟩ := mem_vols.1 he
  obtain ⟨j, hj, rfl⟩ := List.getElem_of_mem h1
  cases hf : findE es es[j].name with
  | none => exact absurd rfl (findE_none hf _ h1 h2)
  | some i =>
    obtain ⟨hi, hil, hl, hn⟩ := findE_lt h.e8 hf
    by_cases hij : i = j
    · subst hij
      exact ⟨i, rfl, by rw [List.getD_eq_getElem?_getD, List.getElem?_eq_getElem hil]; rfl⟩
    · exact absurd (.inl hn) (h.ap i j hil hj hij hl h2)
theorem place_all {cap : Nat} {es : List Ent} (h : InvE cap es) {e : Ent} (he : e ∈ vols es) : placeP es e.name 0 (e.len : Int) = ((e.first : Int), 0) := by
  obtain ⟨i, h1, h2⟩ := find_mem h he
  have := (mem_vols.1 he).2
  simp only [placeP, h1, h2]
  rw [if_pos (by omega), Int.add_zero]
theorem right_all {cap : Nat} {es : List Ent} (h : InvE cap es) {e : Ent} (he : e ∈ vols es) : isRight cap (e.first : Int) (e.len : Int) := by
  obtain ⟨h1, h2⟩ := mem_vols.1 he
  have := (h.wf.ok e h1).1
  exact ⟨by omega, by omega, by omega, by omega⟩
theorem read_all {cap : Nat} {es : List Ent} (h : InvE cap es) {e : Ent} (he : e ∈ vols es) (t : List UInt8) : readA cap es t e.name 0 (e.len : Int) = (rdB t e.first e.len, 0) := by
  simp only [readA, place_all h he, right_all h he, if_true, Int.toNat_natCast]
theorem write_all {cap : Nat} {es : List Ent} (h : InvE cap es) {e : Ent} (he : e ∈ vols es) (t b : List UInt8) : writeA cap es t e.name 0 (e.len : Int) b = (0, wrB t e.first e.len b) := by
  simp only [writeA, place_all h he, right_all h he, if_true, wrI, Int.toNat_natCast]
/-- A list of calls, one behind the other. -/
def stepsP (cap : Nat) : List ActP → List Ent × List UInt8 → List Ent × List UInt8
  | [], p => p
  | x :: l, p => stepsP cap l (stepP cap p.1 p.2 x).2
theorem inv_steps {cap : Nat} (hc : cap ≤ 1000) : ∀ (l : List ActP) (p : List Ent × List UInt8), InvE cap p.1 → InvE cap (stepsP cap l p).1
  | [], p, h => h
  | x :: l, p, h => inv_steps hc l _ (inv_step hc h p.2 x)
/-! ### The law's loops -/
def VL (ys : List Ent) : Blk := .grow (ys.flatMap entC).toArray 49
theorem VL_0 {ys : List Ent} {i : Nat} (h : i < ys.length) : get1 (i * 3) (VL ys) = some (str ys[i].name) := by
  have := flat_get entC_len (l := ys) (i := i) (j := 0) h (by decide)
  rw [VL, get1_row (row_grow _ _), List.getElem?_toArray]; exact this
theorem VL_1 {ys : List Ent} {i : Nat} (h : i < ys.length) : get1 (i * 3 + 1) (VL ys) = some (.int .i64 (ys[i].first : Int)) := by
  have := flat_get entC_len (l := ys) (i := i) (j := 1) h (by decide)
  rw [VL, get1_row (row_grow _ _), List.getElem?_toArray]; exact this
theorem VL_2 {ys : List Ent} {i : Nat} (h : i < ys.length) : get1 (i * 3 + 2) (VL ys) = some (.int .i64 (ys[i].len : Int)) := by
  have := flat_get entC_len (l := ys) (i := i) (j := 2) h (by decide)
  rw [VL, get1_row (row_grow _ _), List.getElem?_toArray]; exact this
theorem idxSl_3 {b len cap i : Nat} (h : i < len) : idxSl 3 (.slice (some ⟨b, 0, none⟩) len cap) (.int .i64 (i : Int)) = some (.pointer (some ⟨b, i * 3, none⟩)) := by
  have h2 : (i : Int) < (len : Int) := by omega
  by_cases h0 : i = 0
  · subst h0; simp [idxSl, Addr.add]; omega
  · simp [idxSl, h2, Addr.add]; omega
section
variable {ys : List Ent} {b u cap : Nat} {x3 x11 x15 : Value}
theorem names_loop (k : Nat) (nx : Value → Value → Value → Value → Value → Value → Value → Heap → Option (Value × Heap)) {i : Nat} (hi : i < ys.length) (hp : ys.Pairwise fun x y => ¬ meets x y) (hlen : ys.length < 1000) {H : Heap} (hb : H.blk b = some (VL ys)) (x0 x14 : Value) : ∀ (m n j : Nat) (z : Int), z = j → j + m = i → m < n →
    L5_4 k nx n x0 x3 x11 (.slice (some ⟨b, 0, none⟩) ys.length capU) x14 x15 (.int .i64 (i : Int)) (.int .i64 z) H = nx x0 x3 x11 (.slice (some ⟨b, 0, none⟩) ys.length capU) x14 x15 (.int .i64 ((i + 1 : Nat) : Int)) H
  | 0, n, j, z, hz, hj, hn => by
    subst hz
    obtain ⟨n, rfl⟩ : ∃ n', n = n' + 1 := ⟨n - 1, by omega⟩
    rw [L5_4]
    simp (disch := first | omega | assumption | (simp only [new_next, new_floor, set_next, set_floor] <;> omega) | (simp only [oneC_str, oneC_int, oneC_bool, oneC_slice, oneC_ptr, oneC_iface, Bool.and_self]) | rfl) only [↓bsome, msome, ↓bindP_some, ↓bindM_some, ↓newK_eq, ↓condV_true, ↓condV_false, condV_not, ↓condG_tt, ↓condG_ff, ↓condG_tf, ↓condG_ft, condG_not, ↓condG_undef, dec_t, dec_f, decide_true, decide_false, pick_t, pick_f, un_not, bnot_t, bnot_f, add64, sub64, mul64, lss64, leq64, gtr64, geq64, eql64, neq64, convU8, conv64, str_lit, len_str, eql_str, neq_str, idx_str, slice_hi, slice_lo, slice_to, pNil_ptr, fieldA_ptr, ldV1, ldVn, stVn, blk_new, blk_new_at, set_new_at, apart1, new_old, blk_set_at, set_old, new_next, new_floor, set_next, set_floor, get1_0, get3_0, get3_1, get3_2, get3_n, put3, get4_0, get4_1, get4_2, get4_3, get4_n, put4, Nat.zero_add, Nat.add_zero, ne_eq, not_false_eq_true, reduceCtorEq, Nat.reduceAdd, Nat.reduceEqDiff, Nat.succ_ne_self, idxSl_1, extract_t2_0, extract_t2_1, extract_t3_0, extract_t3_1, extract_t3_2, ↓quiet_some, atFloor_back, oneOf_one, atFloor_next, atFloor_floor, atFloor_blk, get6_0, get6_1, get6_2, get6_3, get6_4, get6_5, hide_blk, hide2_blk, hid_nil, hid_next, hid_floor, hid2_next]
    rfl
  | m + 1, n, j, z, hz, hj, hn => by
    subst hz
    obtain ⟨n, rfl⟩ : ∃ n', n = n' + 1 := ⟨n - 1, by omega⟩
    have hjl : j < ys.length := by omega
    have hne : ys[j].name ≠ ys[i].name := fun e => (List.pairwise_iff_getElem.1 hp j i hjl hi (by omega)) (.inl e)
    rw [L5_4]
    simp (disch := first | omega | assumption | (simp only [new_next, new_floor, set_next, set_floor] <;> omega) | (simp only [oneC_str, oneC_int, oneC_bool, oneC_slice, oneC_ptr, oneC_iface, Bool.and_self]) | rfl) only [↓bsome, msome, ↓bindP_some, ↓bindM_some, ↓newK_eq, ↓condV_true, ↓condV_false, condV_not, ↓condG_tt, ↓condG_ff, ↓condG_tf, ↓condG_ft, condG_not, ↓condG_undef, dec_t, dec_f, decide_true, decide_false, pick_t, pick_f, un_not, bnot_t, bnot_f, add64, sub64, mul64, lss64, leq64, gtr64, geq64, eql64, neq64, convU8, conv64, str_lit, len_str, eql_str, neq_str, idx_str, slice_hi, slice_lo, slice_to, pNil_ptr, fieldA_ptr, ldV1, ldVn, stVn, blk_new, blk_new_at, set_new_at, apart1, new_old, blk_set_at, set_old, new_next, new_floor, set_next, set_floor, get1_0, get3_0, get3_1, get3_2, get3_n, put3, get4_0, get4_1, get4_2, get4_3, get4_n, put4, Nat.zero_add, Nat.add_zero, ne_eq, not_false_eq_true, reduceCtorEq, Nat.reduceAdd, Nat.reduceEqDiff, Nat.succ_ne_self, idxSl_1, extract_t2_0, extract_t2_1, extract_t3_0, extract_t3_1, extract_t3_2, ↓quiet_some, atFloor_back, oneOf_one, atFloor_next, atFloor_floor, atFloor_blk, get6_0, get6_1, get6_2, get6_3, get6_4, get6_5, hide_blk, hide2_blk, hid_nil, hid_next, hid_floor, hid2_next, idxSl_3 hjl, idxSl_3 hi, hb, VL_0 hjl, VL_0 hi, hne]
    exact names_loop k nx hi hp hlen hb x0 x14 m n (j + 1) _ rfl (by omega) (by omega)
/-- What the first i volumes cover. -/
def cover (ys : List Ent) (i x : Nat) : Prop := ∃ j, ∃ h : j < ys.length, j < i ∧ ys[j].first ≤ x ∧ x < ys[j].first + ys[j].len
theorem mark_loop (k : Nat) (hk : ys.length + 2 ≤ k) (nx : Value → Value → Value → Value → Value → Value → Value → Heap → Option (Value × Heap)) {i : Nat} (hi : i < ys.length) (hp : ys.Pairwise fun x y => ¬ meets x y) (hlen : ys.length < 1000)
    (hw : ys[i].first + ys[i].len ≤ cap) (hcap : cap ≤ 1000) (hbu : b ≠ u) (x0 : Value) : ∀ (m n j : Nat) (z : Int) (ul : List Bool) (H : Heap), z = j → j + m = ys[i].len → m < n → H.blk b = some (VL ys) → H.blk u = some (BL ul) → H.floor ≤ u → ul.length = cap →
    (∀ x (h : x < ul.length), ul[x] = true ↔ (cover ys i x ∨ (ys[i].first ≤ x ∧ x < ys[i].first + j))) →
    ∃ ul', L5_5 k nx n x0 x3 x11 (.slice (some ⟨b, 0, none⟩) ys.length capU) (.slice (some ⟨u, 0, none⟩) cap cap) x15 (.int .i64 (i : Int)) (.int .i64 z) H = nx x0 x3 x11 (.slice (some ⟨b, 0, none⟩) ys.length capU) (.slice (some ⟨u, 0, none⟩) cap cap) x15 (.int .i64 ((i + 1 : Nat) : Int)) (H.set u (BL ul')) ∧ ul'.length = cap ∧
      (∀ x (h : x < ul'.length), ul'[x] = true ↔ cover ys (i + 1) x)
  | 0, n, j, z, ul, H, hz, hj, hn, hb, hu, hf, hul, hcov => by
    subst hz
    obtain ⟨n, rfl⟩ : ∃ n', n = n' + 1 := ⟨n - 1, by omega⟩
    refine ⟨ul, ?_, hul, fun x h => ?_⟩
    · rw [L5_5]
      simp (disch := first | omega | assumption | (simp only [new_next, new_floor, set_next, set_floor] <;> omega) | (simp only [oneC_str, oneC_int, oneC_bool, oneC_slice, oneC_ptr, oneC_iface, Bool.and_self]) | rfl) only [↓bsome, msome, ↓bindP_some, ↓bindM_some, ↓newK_eq, ↓condV_true, ↓condV_false, condV_not, ↓condG_tt, ↓condG_ff, ↓condG_tf, ↓condG_ft, condG_not, ↓condG_undef, dec_t, dec_f, decide_true, decide_false, pick_t, pick_f, un_not, bnot_t, bnot_f, add64, sub64, mul64, lss64, leq64, gtr64, geq64, eql64, neq64, convU8, conv64, str_lit, len_str, eql_str, neq_str, idx_str, slice_hi, slice_lo, slice_to, pNil_ptr, fieldA_ptr, ldV1, ldVn, stVn, blk_new, blk_new_at, set_new_at, apart1, new_old, blk_set_at, set_old, new_next, new_floor, set_next, set_floor, get1_0, get3_0, get3_1, get3_2, get3_n, put3, get4_0, get4_1, get4_2, get4_3, get4_n, put4, Nat.zero_add, Nat.add_zero, ne_eq, not_false_eq_true, reduceCtorEq, Nat.reduceAdd, Nat.reduceEqDiff, Nat.succ_ne_self, idxSl_1, extract_t2_0, extract_t2_1, extract_t3_0, extract_t3_1, extract_t3_2, ↓quiet_some, atFloor_back, oneOf_one, atFloor_next, atFloor_floor, atFloor_blk, get6_0, get6_1, get6_2, get6_3, get6_4, get6_5, hide_blk, hide2_blk, hid_nil, hid_next, hid_floor, hid2_next, idxSl_3 hi, hb, VL_2 hi]
      rw [set_same hu]
      exact names_loop k nx hi hp hlen hb x0 _ i k 0 _ rfl (by omega) (by omega)
    · rw [hcov x h]
      constructor
      · rintro (⟨q, hq, h1, h2⟩ | h1)
        · exact ⟨q, hq, by omega, h2⟩
        · exact ⟨i, hi, by omega, h1.1, by omega⟩
      · rintro ⟨q, hq, h1, h2⟩
        by_cases hqi : q < i
        · exact .inl ⟨q, hq, hqi, h2⟩
        · have : q = i := by omega
          subst this
          exact .inr ⟨h2.1, by omega⟩
  | m + 1, n, j, z, ul, H, hz, hj, hn, hb, hu, hf, hul, hcov => by
    subst hz
    obtain ⟨n, rfl⟩ : ∃ n', n = n' + 1 := ⟨n - 1, by omega⟩
    have hx : ys[i].first + j < ul.length := by omega
    have hfree : ul[ys[i].first + j] = false := by
      have := hcov (ys[i].first + j) hx
      cases h : ul[ys[i].first + j] with
      | false => rfl
      | true =>
        rw [h] at this
        rcases this.1 rfl with ⟨q, hq, h1, h2, h3⟩ | h1
        · exact absurd (.inr ⟨by omega, by omega⟩) (List.pairwise_iff_getElem.1 hp q i hq hi h1)
        · omega
    have e0 : (ys[i].first : Int) + (j : Int) = ((ys[i].first + j : Nat) : Int) := by omega
    have ix : idxSl 1 (.slice (some ⟨u, 0, none⟩) cap cap) (.int .i64 ((ys[i].first + j : Nat) : Int)) = some (.pointer (some ⟨u, ys[i].first + j, none⟩)) := by
      rw [idxSl_1 (by omega), Nat.zero_add]
    rw [L5_5]
    simp (disch := first | omega | assumption | (simp only [new_next, new_floor, set_next, set_floor] <;> omega) | (simp only [oneC_str, oneC_int, oneC_bool, oneC_slice, oneC_ptr, oneC_iface, Bool.and_self]) | rfl) only [↓bsome, msome, ↓bindP_some, ↓bindM_some, ↓newK_eq, ↓condV_true, ↓condV_false, condV_not, ↓condG_tt, ↓condG_ff, ↓condG_tf, ↓condG_ft, condG_not, ↓condG_undef, dec_t, dec_f, decide_true, decide_false, pick_t, pick_f, un_not, bnot_t, bnot_f, add64, sub64, mul64, lss64, leq64, gtr64, geq64, eql64, neq64, convU8, conv64, str_lit, len_str, eql_str, neq_str, idx_str, slice_hi, slice_lo, slice_to, pNil_ptr, fieldA_ptr, ldV1, ldVn, stVn, blk_new, blk_new_at, set_new_at, apart1, new_old, blk_set_at, set_old, new_next, new_floor, set_next, set_floor, get1_0, get3_0, get3_1, get3_2, get3_n, put3, get4_0, get4_1, get4_2, get4_3, get4_n, put4, Nat.zero_add, Nat.add_zero, ne_eq, not_false_eq_true, reduceCtorEq, Nat.reduceAdd, Nat.reduceEqDiff, Nat.succ_ne_self, idxSl_1, extract_t2_0, extract_t2_1, extract_t3_0, extract_t3_1, extract_t3_2, ↓quiet_some, atFloor_back, oneOf_one, atFloor_next, atFloor_floor, atFloor_blk, get6_0, get6_1, get6_2, get6_3, get6_4, get6_5, hide_blk, hide2_blk, hid_nil, hid_next, hid_floor, hid2_next, idxSl_3 hi, hb, VL_2 hi, VL_1 hi, e0, ix, hu, get_BL hx, hfree, put_BL hf hx]
    obtain ⟨ul', f1, f2, f3⟩ := mark_loop k hk nx hi hp hlen hw hcap hbu x0 m n (j + 1) _ (ul.set (ys[i].first + j) true) (H.set u (BL (ul.set (ys[i].first + j) true))) rfl (by omega) (by omega) (by rw [set_old hbu, hb]) (blk_set_at rfl) hf (by rw [List.length_set]; exact hul) (fun x h => by
      rw [List.length_set] at h
      rw [List.getElem_set]
      by_cases hxx : ys[i].first + j = x
      · rw [if_pos hxx]
        exact ⟨fun _ => .inr ⟨by omega, by omega⟩, fun _ => rfl⟩
      · rw [if_neg hxx, hcov x h]
        constructor
        · rintro (h1 | h1)
          · exact .inl h1
          · exact .inr ⟨h1.1, by omega⟩
        · rintro (h1 | h1)
          · exact .inl h1
          · exact .inr ⟨h1.1, by omega⟩)
    rw [set_set] at f1
    exact ⟨ul', f1, f2, f3⟩
end
section
variable {K : Nat} {d : Value} {cap : Nat} {D : DiskP} {s : Nat} {es : List Ent} {t : List UInt8} {F : Nat → Prop} {H : Heap}
theorem Sys.setO (hd : DiskOk K d cap D) (h : Sys d cap D s es t F H) {u : Nat} (hs : u ≠ s) (hF : ¬ F u) (B : Blk) : Sys d cap D s es t F (H.set u B) where
  sto := ⟨by rw [set_old (Ne.symm hs)]; exact h.sto.blk, h.sto.lt, h.sto.fl, h.sto.e8⟩
  dsk := hd.frame h.dsk ((Chg.refl H).set (S := fun n => n = u) (.inl rfl) _) fun n hn e => by subst e; exact hF hn
  apart := h.apart
theorem free_inv (h : InvE cap es) (hc : cap ≤ 1000) : lens es < 1000000 := by
  have hall : ∀ (l : List Ent), (∀ e ∈ l, e.len ≤ 1000) → lens l ≤ l.length * 1000 := by
    intro l
    induction l with
    | nil => intro _; simp [lens]
    | cons e l ih =>
      intro hl
      have h1 := hl e List.mem_cons_self
      have h2 := ih fun x hx => hl x (List.mem_cons_of_mem _ hx)
      rw [lens_cons, List.length_cons, Nat.add_mul]; omega
  have := hall es fun e he => by have := (h.wf.ok e he).1; omega
  have := h.e8
  omega
/-- Behind the checks: what is written to one changes no other. -/
theorem apart_end (hd : DiskOk K d cap D) (hc : 8 < cap) {k : Nat} (hk : K + 1300 ≤ k) (h : Sys d cap D s es t F H) (hi : InvE cap es) {b : Nat} (hb : H.blk b = some (VL (vols es))) (hbl : b < H.next) (hbF : ¬ F b) (hbs : b ≠ s) (h2 : 2 ≤ (vols es).length) (data : List UInt8) (x15 : Value) :
    ∃ H', J5_3 k (str data) (.pointer (some ⟨s, 0, none⟩)) (.slice (some ⟨b, 0, none⟩) (vols es).length capU) x15 (.bool false) (.bool false) H = some (.bool true, H') := by
  have hbig := hd.big
  have m0 : (vols es)[0] ∈ vols es := List.getElem_mem (by omega)
  have m1 : (vols es)[1] ∈ vols es := List.getElem_mem (by omega)
  have hlt := hd.len h.dsk
  have hvl := vols_len es
  have h8 := hi.e8
  have hw1 := hi.wf
  obtain ⟨F1, H1, e1, s1, f1⟩ := sread_run hd (k := k) (by omega) h hw1 (vols es)[1].name 0 ((vols es)[1].len : Int)
  rw [readA_eq, read_all hi m1, ansV] at e1
  have n1 := f1.chg.next
  have nb : ∀ {G : Nat → Prop} {A : Heap}, ¬ G b → b < A.next → ¬ orS s G b := fun hg _ hh => by
    rcases hh with hh | hh
    · exact hg hh
    · exact hbs hh
  have b1 := f1.chg.eqBlk hb hbl (nb (A := H) hbF hbl)
  have nF1 : ¬ orS s F1 b := fun hh => by
    rcases f1.new b hh with hh | hh
    · exact nb (A := H) hbF hbl hh
    · omega
  obtain ⟨F2, H2, e2, s2, f2⟩ := swrite_run hd (k := k) (by omega) s1 hw1 (vols es)[0].name 0 ((vols es)[0].len : Int) data
  rw [writeA_eq, write_all hi m0] at e2 s2
  have n2 := f2.chg.next
  have b2 := f2.chg.eqBlk b1 (by omega) nF1
  have nF2 : ¬ orS s F2 b := fun hh => by
    rcases f2.new b hh with hh | hh
    · exact nF1 hh
    · omega
  obtain ⟨F3, H3, e3, s3, f3⟩ := sread_run hd (k := k) (by omega) s2 hw1 (vols es)[1].name 0 ((vols es)[1].len : Int)
  rw [readA_eq, read_all hi m1, ansV] at e3
  have r0 := right_all hi m0
  have hno := List.pairwise_iff_getElem.1 (vols_pair hi) 0 1 (by omega) (by omega) (by omega)
  have hl0 := (mem_vols.1 m0).2
  have hl1 := (mem_vols.1 m1).2
  have hdis : (vols es)[1].first + (vols es)[1].len ≤ (vols es)[0].first ∨ (vols es)[0].first + (vols es)[0].len ≤ (vols es)[1].first := by
    by_cases hh : (vols es)[1].first + (vols es)[1].len ≤ (vols es)[0].first
    · exact .inl hh
    · by_cases hh2 : (vols es)[0].first + (vols es)[0].len ≤ (vols es)[1].first
      · exact .inr hh2
      · exact absurd (.inr ⟨by omega, by omega⟩) hno
  have hr0 := r0.2.2.2
  rw [rdB_other (by omega) hdis] at e3
  obtain ⟨v, H4, e4, o4, g4⟩ := vols_run (k := k) s3.sto (by omega)
  have sl4 := (o4.sl entC_len).len
  have i0 : idxSl 3 (.slice (some ⟨b, 0, none⟩) (vols es).length capU) (.int .i64 0) = some (.pointer (some ⟨b, 0 * 3, none⟩)) := idxSl_3 (i := 0) (by omega)
  have i1 : idxSl 3 (.slice (some ⟨b, 0, none⟩) (vols es).length capU) (.int .i64 1) = some (.pointer (some ⟨b, 1 * 3, none⟩)) := idxSl_3 (i := 1) (by omega)
  have a0 := VL_0 (ys := vols es) (i := 0) (by omega)
  have a2 := VL_2 (ys := vols es) (i := 0) (by omega)
  have c0 := VL_0 (ys := vols es) (i := 1) (by omega)
  have c2 := VL_2 (ys := vols es) (i := 1) (by omega)
  have e5 : get1 (0 * 3) (VL (vols es)) = some (str (vols es)[0].name) := a0
  have hls : lenSl (.slice (some ⟨b, 0, none⟩) (vols es).length capU) = some (.int .i64 ((vols es).length : Int)) := rfl
  rw [J5_3]
  simp only [Nat.zero_mul, Nat.one_mul, Nat.zero_add] at i0 i1 a0 a2 c0 c2
  simp (disch := first | omega | assumption | (simp only [new_next, new_floor, set_next, set_floor] <;> omega) | (simp only [oneC_str, oneC_int, oneC_bool, oneC_slice, oneC_ptr, oneC_iface, Bool.and_self]) | rfl) only [↓bsome, msome, ↓bindP_some, ↓bindM_some, ↓newK_eq, ↓condV_true, ↓condV_false, condV_not, ↓condG_tt, ↓condG_ff, ↓condG_tf, ↓condG_ft, condG_not, ↓condG_undef, dec_t, dec_f, decide_true, decide_false, pick_t, pick_f, un_not, bnot_t, bnot_f, add64, sub64, mul64, lss64, leq64, gtr64, geq64, eql64, neq64, convU8, conv64, str_lit, len_str, eql_str, neq_str, idx_str, slice_hi, slice_lo, slice_to, pNil_ptr, fieldA_ptr, ldV1, ldVn, stVn, blk_new, blk_new_at, set_new_at, apart1, new_old, blk_set_at, set_old, new_next, new_floor, set_next, set_floor, get1_0, get3_0, get3_1, get3_2, get3_n, put3, get4_0, get4_1, get4_2, get4_3, get4_n, put4, Nat.zero_add, Nat.add_zero, ne_eq, not_false_eq_true, reduceCtorEq, Nat.reduceAdd, Nat.reduceEqDiff, Nat.succ_ne_self, idxSl_1, extract_t2_0, extract_t2_1, extract_t3_0, extract_t3_1, extract_t3_2, ↓quiet_some, atFloor_back, oneOf_one, atFloor_next, atFloor_floor, atFloor_blk, get6_0, get6_1, get6_2, get6_3, get6_4, get6_5, hide_blk, hide2_blk, hid_nil, hid_next, hid_floor, hid2_next, i0, i1, hb, b1, b2, a0, a2, c0, c2, e1, e2, e3, J5_2, J5_1, J5_0, e4, sl4, hls]
  exact ⟨_, rfl⟩
theorem lens_append (a b : List Ent) : lens (a ++ b) = lens a + lens b := by simp [lens]
theorem lens_take (ys : List Ent) {i : Nat} (h : i < ys.length) : lens (ys.take (i + 1)) = lens (ys.take i) + ys[i].len := by
  rw [List.take_succ_eq_append_getElem h, lens_append, lens_cons]; rfl
theorem lens_take_le (ys : List Ent) (i : Nat) : lens (ys.take i) ≤ lens ys := by
  have : lens (ys.take i) + lens (ys.drop i) = lens ys := by
    have h := congrArg lens (List.take_append_drop i ys)
    rw [← h, lens_append]
  omega
theorem check_loop (hd : DiskOk K d cap D) (hc : 8 < cap) {k : Nat} (hk : K + 1300 ≤ k) (hi : InvE cap es) {b u : Nat} (hbu : b ≠ u) (data : List UInt8) : ∀ (m n i : Nat) (z fr : Int) (ul : List Bool) (H : Heap), z = i → i + m = (vols es).length → m < n → Sys d cap D s es t F H → H.blk b = some (VL (vols es)) → b < H.next → ¬ F b → b ≠ s → H.blk u = some (BL ul) → u < H.next → ¬ F u → u ≠ s → H.floor ≤ u → ul.length = cap →
    (∀ x (h : x < ul.length), ul[x] = true ↔ cover (vols es) i x) → fr = (cap : Int) - 8 - (lens ((vols es).take i) : Int) →
    ∃ H', L5_9 k n (.int .i64 (cap : Int)) (str data) (.pointer (some ⟨s, 0, none⟩)) (.slice (some ⟨b, 0, none⟩) (vols es).length capU) (.slice (some ⟨u, 0, none⟩) cap cap) (.int .i64 fr) (.int .i64 z) H = some (.bool true, H')
  | 0, n, i, z, fr, ul, H, hz, hm, hn, hs, hb, hbl, hbF, hbs, hu, hul, huF, hus, huf, hl, hcov, hfr => by
    subst hz
    obtain ⟨n, rfl⟩ : ∃ n', n = n' + 1 := ⟨n - 1, by omega⟩
    have hbig := hd.big
    have hvl := vols_len es
    have h8 := hi.e8
    have hle := free_inv hi hbig
    obtain ⟨H1, e1, g1⟩ := free_run (k := k) hs.sto (by omega) hle (by omega)
    have hft : fr = (cap : Int) - 8 - (lens es : Int) := by rw [hfr, List.take_of_length_le (by omega), lens_vols]
    have s1 := hs.grow hd g1
    have n1 := g1.next
    have b1 := g1.eqBlk hb hbl
    have hls : lenSl (.slice (some ⟨b, 0, none⟩) (vols es).length capU) = some (.int .i64 ((vols es).length : Int)) := rfl
    rw [← hft] at e1
    rw [L5_9]
    by_cases h2 : (vols es).length < 2
    · obtain ⟨H2, e2, g2⟩ := free_run (k := k) s1.sto (by omega) hle (by omega)
      rw [← hft] at e2
      simp (disch := first | omega | assumption | (simp only [new_next, new_floor, set_next, set_floor] <;> omega) | (simp only [oneC_str, oneC_int, oneC_bool, oneC_slice, oneC_ptr, oneC_iface, Bool.and_self]) | rfl) only [↓bsome, msome, ↓bindP_some, ↓bindM_some, ↓newK_eq, ↓condV_true, ↓condV_false, condV_not, ↓condG_tt, ↓condG_ff, ↓condG_tf, ↓condG_ft, condG_not, ↓condG_undef, dec_t, dec_f, decide_true, decide_false, pick_t, pick_f, un_not, bnot_t, bnot_f, add64, sub64, mul64, lss64, leq64, gtr64, geq64, eql64, neq64, convU8, conv64, str_lit, len_str, eql_str, neq_str, idx_str, slice_hi, slice_lo, slice_to, pNil_ptr, fieldA_ptr, ldV1, ldVn, stVn, blk_new, blk_new_at, set_new_at, apart1, new_old, blk_set_at, set_old, new_next, new_floor, set_next, set_floor, get1_0, get3_0, get3_1, get3_2, get3_n, put3, get4_0, get4_1, get4_2, get4_3, get4_n, put4, Nat.zero_add, Nat.add_zero, ne_eq, not_false_eq_true, reduceCtorEq, Nat.reduceAdd, Nat.reduceEqDiff, Nat.succ_ne_self, idxSl_1, extract_t2_0, extract_t2_1, extract_t3_0, extract_t3_1, extract_t3_2, ↓quiet_some, atFloor_back, oneOf_one, atFloor_next, atFloor_floor, atFloor_blk, get6_0, get6_1, get6_2, get6_3, get6_4, get6_5, hide_blk, hide2_blk, hid_nil, hid_next, hid_floor, hid2_next, hls, e1, J5_3, e2]
      exact ⟨_, rfl⟩
    · obtain ⟨H', e⟩ := apart_end hd hc (k := k) hk s1 hi b1 (by omega) hbF hbs (by omega) data (.int .i64 fr)
      simp (disch := first | omega | assumption | (simp only [new_next, new_floor, set_next, set_floor] <;> omega) | (simp only [oneC_str, oneC_int, oneC_bool, oneC_slice, oneC_ptr, oneC_iface, Bool.and_self]) | rfl) only [↓bsome, msome, ↓bindP_some, ↓bindM_some, ↓newK_eq, ↓condV_true, ↓condV_false, condV_not, ↓condG_tt, ↓condG_ff, ↓condG_tf, ↓condG_ft, condG_not, ↓condG_undef, dec_t, dec_f, decide_true, decide_false, pick_t, pick_f, un_not, bnot_t, bnot_f, add64, sub64, mul64, lss64, leq64, gtr64, geq64, eql64, neq64, convU8, conv64, str_lit, len_str, eql_str, neq_str, idx_str, slice_hi, slice_lo, slice_to, pNil_ptr, fieldA_ptr, ldV1, ldVn, stVn, blk_new, blk_new_at, set_new_at, apart1, new_old, blk_set_at, set_old, new_next, new_floor, set_next, set_floor, get1_0, get3_0, get3_1, get3_2, get3_n, put3, get4_0, get4_1, get4_2, get4_3, get4_n, put4, Nat.zero_add, Nat.add_zero, ne_eq, not_false_eq_true, reduceCtorEq, Nat.reduceAdd, Nat.reduceEqDiff, Nat.succ_ne_self, idxSl_1, extract_t2_0, extract_t2_1, extract_t3_0, extract_t3_1, extract_t3_2, ↓quiet_some, atFloor_back, oneOf_one, atFloor_next, atFloor_floor, atFloor_blk, get6_0, get6_1, get6_2, get6_3, get6_4, get6_5, hide_blk, hide2_blk, hid_nil, hid_next, hid_floor, hid2_next, hls, e1]
      exact ⟨H', e⟩
  | m + 1, n, i, z, fr, ul, H, hz, hm, hn, hs, hb, hbl, hbF, hbs, hu, hul, huF, hus, huf, hl, hcov, hfr => by
    subst hz
    obtain ⟨n, rfl⟩ : ∃ n', n = n' + 1 := ⟨n - 1, by omega⟩
    have hbig := hd.big
    have hvl := vols_len es
    have h8 := hi.e8
    have hil : i < (vols es).length := by omega
    have hmem : (vols es)[i] ∈ vols es := List.getElem_mem hil
    obtain ⟨hme, hlen⟩ := mem_vols.1 hmem
    have hgood := hi.nm _ hme hlen
    have hgl := good_len hgood
    obtain ⟨w1, w2, w3⟩ := hi.wf.ok _ hme
    have w3 := w3 hlen
    obtain ⟨H1, e1, g1⟩ := good_run (k := k) (vols es)[i].name (by omega) (by omega) H hs.fl
    rw [hgood] at e1
    have s1 := hs.grow hd g1
    have n1 := g1.next
    have f1 := g1.floor
    have b1 := g1.eqBlk hb hbl
    have u1 := g1.eqBlk hu hul
    have hls : lenSl (.slice (some ⟨b, 0, none⟩) (vols es).length capU) = some (.int .i64 ((vols es).length : Int)) := rfl
    have ht := lens_take (vols es) hil
    have htl := lens_take_le (vols es) (i + 1)
    have hle := free_inv hi hbig
    rw [lens_vols] at htl
    obtain ⟨ul', m1, m2, m3⟩ := mark_loop (x3 := str data) (x11 := .pointer (some ⟨s, 0, none⟩)) (x15 := .int .i64 ((cap : Int) - 8 - (lens ((vols es).take i) : Int) - ((vols es)[i].len : Int))) k (by omega) (L5_9 k n) hil (vols_pair hi) (by omega) w1 hbig hbu (.int .i64 (cap : Int)) (vols es)[i].len k 0 _ ul H1 rfl (by omega) (by omega) b1 u1 (by omega) hl (fun x h => by
      rw [hcov x h]
      constructor
      · exact .inl
      · rintro (h1 | h1)
        · exact h1
        · omega)
    have m1 : L5_5 k (L5_9 k n) k (.int .i64 (cap : Int)) (str data) (.pointer (some ⟨s, 0, none⟩)) (.slice (some ⟨b, 0, none⟩) (vols es).length capU) (.slice (some ⟨u, 0, none⟩) cap cap) (.int .i64 ((cap : Int) - 8 - (lens ((vols es).take i) : Int) - ((vols es)[i].len : Int))) (.int .i64 (i : Int)) (.int .i64 0) H1 = _ := m1
    subst hfr
    rw [L5_9]
    simp (disch := first | omega | assumption | (simp only [new_next, new_floor, set_next, set_floor] <;> omega) | (simp only [oneC_str, oneC_int, oneC_bool, oneC_slice, oneC_ptr, oneC_iface, Bool.and_self]) | rfl) only [↓bsome, msome, ↓bindP_some, ↓bindM_some, ↓newK_eq, ↓condV_true, ↓condV_false, condV_not, ↓condG_tt, ↓condG_ff, ↓condG_tf, ↓condG_ft, condG_not, ↓condG_undef, dec_t, dec_f, decide_true, decide_false, pick_t, pick_f, un_not, bnot_t, bnot_f, add64, sub64, mul64, lss64, leq64, gtr64, geq64, eql64, neq64, convU8, conv64, str_lit, len_str, eql_str, neq_str, idx_str, slice_hi, slice_lo, slice_to, pNil_ptr, fieldA_ptr, ldV1, ldVn, stVn, blk_new, blk_new_at, set_new_at, apart1, new_old, blk_set_at, set_old, new_next, new_floor, set_next, set_floor, get1_0, get3_0, get3_1, get3_2, get3_n, put3, get4_0, get4_1, get4_2, get4_3, get4_n, put4, Nat.zero_add, Nat.add_zero, ne_eq, not_false_eq_true, reduceCtorEq, Nat.reduceAdd, Nat.reduceEqDiff, Nat.succ_ne_self, idxSl_1, extract_t2_0, extract_t2_1, extract_t3_0, extract_t3_1, extract_t3_2, ↓quiet_some, atFloor_back, oneOf_one, atFloor_next, atFloor_floor, atFloor_blk, get6_0, get6_1, get6_2, get6_3, get6_4, get6_5, hide_blk, hide2_blk, hid_nil, hid_next, hid_floor, hid2_next, hls, idxSl_3 hil, hb, b1, VL_0 hil, VL_1 hil, VL_2 hil, e1, J5_8, J5_7, J5_6, m1]
    exact check_loop hd hc hk hi hbu data m n (i + 1) _ _ ul' (H1.set u (BL ul')) rfl (by omega) (by omega) (s1.setO hd hus huF _) (by rw [set_old hbu, b1]) (by simp only [set_next]; omega) hbF hbs (blk_set_at rfl) (by simp only [set_next]; omega) huF hus (by simp only [set_floor]; omega) m2 m3 (by rw [ht]; omega)
theorem calls_loop (hd : DiskOk K d cap D) (hc : 8 < cap) {k : Nat} (hk : K + 1300 ≤ k) {H0 : Heap} {v : Value} {l : List ActP} (hl25 : l.length ≤ 25) (data : List UInt8) (hsn : H0.next ≤ s) (hv0 : WinAt H0 v 6 actC l) : ∀ (m n i : Nat) (z : Int) (es : List Ent) (t : List UInt8) (F : Nat → Prop) (H : Heap), z = i → i + m = l.length → m < n → Sys d cap D s es t F H → InvE cap es → Grow H0 H → Far H0 F →
    ∃ H', L5_10 k n (.int .i64 (cap : Int)) v (str data) (.pointer (some ⟨s, 0, none⟩)) (.int .i64 z) H = some (.bool true, H')
  | 0, n, i, z, es, t, F, H, hz, hm, hn, hs, hi, hg, hF => by
    subst hz
    have hv := hv0.grow hg
    obtain ⟨n, rfl⟩ : ∃ n', n = n' + 1 := ⟨n - 1, by omega⟩
    have hbig := hd.big
    have hvl := vols_len es
    have h8 := hi.e8
    obtain ⟨w, H1, e1, o1, g1⟩ := vols_run (k := k) hs.sto (by omega)
    have s1 := hs.grow hd g1
    have n1 := g1.next
    have f1 := g1.floor
    have hfl := hs.fl
    have hlt := hs.sto.lt
    have mk := mkSl_bools (n := cap) (by omega) H1
    have s2 := s1.grow hd ((Grow.refl H1).new (BL (List.replicate cap false)))
    have hF1 : ∀ n, F n → n < H.next := hd.lt hs.dsk
    rw [L5_10]
    simp (disch := first | omega | assumption | (simp only [new_next, new_floor, set_next, set_floor] <;> omega) | (simp only [oneC_str, oneC_int, oneC_bool, oneC_slice, oneC_ptr, oneC_iface, Bool.and_self]) | rfl) only [↓bsome, msome, ↓bindP_some, ↓bindM_some, ↓newK_eq, ↓condV_true, ↓condV_false, condV_not, ↓condG_tt, ↓condG_ff, ↓condG_tf, ↓condG_ft, condG_not, ↓condG_undef, dec_t, dec_f, decide_true, decide_false, pick_t, pick_f, un_not, bnot_t, bnot_f, add64, sub64, mul64, lss64, leq64, gtr64, geq64, eql64, neq64, convU8, conv64, str_lit, len_str, eql_str, neq_str, idx_str, slice_hi, slice_lo, slice_to, pNil_ptr, fieldA_ptr, ldV1, ldVn, stVn, blk_new, blk_new_at, set_new_at, apart1, new_old, blk_set_at, set_old, new_next, new_floor, set_next, set_floor, get1_0, get3_0, get3_1, get3_2, get3_n, put3, get4_0, get4_1, get4_2, get4_3, get4_n, put4, Nat.zero_add, Nat.add_zero, ne_eq, not_false_eq_true, reduceCtorEq, Nat.reduceAdd, Nat.reduceEqDiff, Nat.succ_ne_self, idxSl_1, extract_t2_0, extract_t2_1, extract_t3_0, extract_t3_1, extract_t3_2, ↓quiet_some, atFloor_back, oneOf_one, atFloor_next, atFloor_floor, atFloor_blk, get6_0, get6_1, get6_2, get6_3, get6_4, get6_5, hide_blk, hide2_blk, hid_nil, hid_next, hid_floor, hid2_next, hv.1, e1, mk]
    by_cases h0 : (vols es).length = 0
    · have hnil : vols es = [] := List.length_eq_zero_iff.1 h0
      have hll : lenSl w = some (.int .i64 0) := by
        rw [(o1.sl entC_len).len, hnil]; rfl
      obtain ⟨H3, e3, g3⟩ := free_run (k := k) s2.sto (by omega) (free_inv hi hbig) (by omega)
      have s3 := s2.grow hd g3
      obtain ⟨H4, e4, g4⟩ := free_run (k := k) s3.sto (by omega) (free_inv hi hbig) (by omega)
      have hl0 : lens es = 0 := by rw [← lens_vols, hnil]; rfl
      rw [hl0] at e3 e4
      obtain ⟨k', rfl⟩ : ∃ k', k = k' + 1 := ⟨k - 1, by omega⟩
      rw [L5_9]
      simp (disch := first | omega | assumption | (simp only [new_next, new_floor, set_next, set_floor] <;> omega) | (simp only [oneC_str, oneC_int, oneC_bool, oneC_slice, oneC_ptr, oneC_iface, Bool.and_self]) | rfl) only [↓bsome, msome, ↓bindP_some, ↓bindM_some, ↓newK_eq, ↓condV_true, ↓condV_false, condV_not, ↓condG_tt, ↓condG_ff, ↓condG_tf, ↓condG_ft, condG_not, ↓condG_undef, dec_t, dec_f, decide_true, decide_false, pick_t, pick_f, un_not, bnot_t, bnot_f, add64, sub64, mul64, lss64, leq64, gtr64, geq64, eql64, neq64, convU8, conv64, str_lit, len_str, eql_str, neq_str, idx_str, slice_hi, slice_lo, slice_to, pNil_ptr, fieldA_ptr, ldV1, ldVn, stVn, blk_new, blk_new_at, set_new_at, apart1, new_old, blk_set_at, set_old, new_next, new_floor, set_next, set_floor, get1_0, get3_0, get3_1, get3_2, get3_n, put3, get4_0, get4_1, get4_2, get4_3, get4_n, put4, Nat.zero_add, Nat.add_zero, ne_eq, not_false_eq_true, reduceCtorEq, Nat.reduceAdd, Nat.reduceEqDiff, Nat.succ_ne_self, idxSl_1, extract_t2_0, extract_t2_1, extract_t3_0, extract_t3_1, extract_t3_2, ↓quiet_some, atFloor_back, oneOf_one, atFloor_next, atFloor_floor, atFloor_blk, get6_0, get6_1, get6_2, get6_3, get6_4, get6_5, hide_blk, hide2_blk, hid_nil, hid_next, hid_floor, hid2_next, hll, e3]
      have e3' : ((cap : Int) - 8 - ((0 : Nat) : Int)) = (cap : Int) - 8 := by omega
      rw [e3'] at e4 ⊢
      simp (disch := first | omega | assumption | (simp only [new_next, new_floor, set_next, set_floor] <;> omega) | (simp only [oneC_str, oneC_int, oneC_bool, oneC_slice, oneC_ptr, oneC_iface, Bool.and_self]) | rfl) only [↓bsome, msome, ↓bindP_some, ↓bindM_some, ↓newK_eq, ↓condV_true, ↓condV_false, condV_not, ↓condG_tt, ↓condG_ff, ↓condG_tf, ↓condG_ft, condG_not, ↓condG_undef, dec_t, dec_f, decide_true, decide_false, pick_t, pick_f, un_not, bnot_t, bnot_f, add64, sub64, mul64, lss64, leq64, gtr64, geq64, eql64, neq64, convU8, conv64, str_lit, len_str, eql_str, neq_str, idx_str, slice_hi, slice_lo, slice_to, pNil_ptr, fieldA_ptr, ldV1, ldVn, stVn, blk_new, blk_new_at, set_new_at, apart1, new_old, blk_set_at, set_old, new_next, new_floor, set_next, set_floor, get1_0, get3_0, get3_1, get3_2, get3_n, put3, get4_0, get4_1, get4_2, get4_3, get4_n, put4, Nat.zero_add, Nat.add_zero, ne_eq, not_false_eq_true, reduceCtorEq, Nat.reduceAdd, Nat.reduceEqDiff, Nat.succ_ne_self, idxSl_1, extract_t2_0, extract_t2_1, extract_t3_0, extract_t3_1, extract_t3_2, ↓quiet_some, atFloor_back, oneOf_one, atFloor_next, atFloor_floor, atFloor_blk, get6_0, get6_1, get6_2, get6_3, get6_4, get6_5, hide_blk, hide2_blk, hid_nil, hid_next, hid_floor, hid2_next, hll, J5_3, e4]
      exact ⟨_, rfl⟩
    · rcases o1 with ⟨_, h⟩ | ⟨_, _, h⟩ | ⟨b, rfl, hb, hb1, hb2⟩
      · rw [h] at h0; exact absurd rfl h0
      · rw [h] at h0; exact absurd rfl h0
      · have hbn : H1.blk b = some (VL (vols es)) := hb
        obtain ⟨H', e⟩ := check_loop hd hc hk hi (b := b) (u := H1.next) (by omega) data (vols es).length k 0 _ ((cap : Int) - 8) (List.replicate cap false) (H1.new (BL (List.replicate cap false))) rfl (by omega) (by omega) s2 (by rw [new_old (by omega), hbn]) (by simp only [new_next]; omega) (fun h => by have := hF1 b h; omega) (by omega) (blk_new _ _) (by simp only [new_next]; omega) (fun h => by have := hF1 _ h; omega) (by omega) (by simp only [new_floor]; omega) (by simp)
          (fun x h => by
            rw [List.getElem_replicate]
            constructor
            · exact fun h => absurd h (by decide)
            · rintro ⟨_, _, h, _⟩; omega) (by simp [lens])
        exact ⟨H', e⟩
  | m + 1, n, i, z, es, t, F, H, hz, hm, hn, hs, hi, hg, hF => by
    subst hz
    have hv := hv0.grow hg
    obtain ⟨n, rfl⟩ : ∃ n', n = n' + 1 := ⟨n - 1, by omega⟩
    have hbig := hd.big
    have hil : i < l.length := by omega
    obtain ⟨b, o, i1, _, i2, _⟩ := hv.2 i hil
    have i2 : (H.blk b).bind (getN 6 o) = some (actV l[i]) := i2
    obtain ⟨F1, H1, e1, s1, f1⟩ := step_run hd hc (k := k) (by omega) hs hi l[i]
    obtain ⟨g1, far1⟩ := f1.far hg (hF.or hsn)
    rw [L5_10]
    simp (disch := first | omega | assumption | (simp only [new_next, new_floor, set_next, set_floor] <;> omega) | (simp only [oneC_str, oneC_int, oneC_bool, oneC_slice, oneC_ptr, oneC_iface, Bool.and_self]) | rfl) only [↓bsome, msome, ↓bindP_some, ↓bindM_some, ↓newK_eq, ↓condV_true, ↓condV_false, condV_not, ↓condG_tt, ↓condG_ff, ↓condG_tf, ↓condG_ft, condG_not, ↓condG_undef, dec_t, dec_f, decide_true, decide_false, pick_t, pick_f, un_not, bnot_t, bnot_f, add64, sub64, mul64, lss64, leq64, gtr64, geq64, eql64, neq64, convU8, conv64, str_lit, len_str, eql_str, neq_str, idx_str, slice_hi, slice_lo, slice_to, pNil_ptr, fieldA_ptr, ldV1, ldVn, stVn, blk_new, blk_new_at, set_new_at, apart1, new_old, blk_set_at, set_old, new_next, new_floor, set_next, set_floor, get1_0, get3_0, get3_1, get3_2, get3_n, put3, get4_0, get4_1, get4_2, get4_3, get4_n, put4, Nat.zero_add, Nat.add_zero, ne_eq, not_false_eq_true, reduceCtorEq, Nat.reduceAdd, Nat.reduceEqDiff, Nat.succ_ne_self, idxSl_1, extract_t2_0, extract_t2_1, extract_t3_0, extract_t3_1, extract_t3_2, ↓quiet_some, atFloor_back, oneOf_one, atFloor_next, atFloor_floor, atFloor_blk, get6_0, get6_1, get6_2, get6_3, get6_4, get6_5, hide_blk, hide2_blk, hid_nil, hid_next, hid_floor, hid2_next, hv.1, i1, i2, e1]
    exact calls_loop hd hc hk hl25 data hsn hv0 m n (i + 1) _ _ _ F1 H1 rfl (by omega) (by omega) s1 (inv_step hbig hi t _) g1 (fun n hn => far1 n (.inl hn))
theorem apart_run {c : Int} (first : List UInt8) (hc : -9223372036854775808 ≤ c ∧ c < 9223372036854775808) {v : Value} {l : List ActP} (hll : l.length < 9223372036854775808) (data : List UInt8) (H : Heap) (hf : H.floor ≤ H.next) (hv : WinAt H v 6 actC l) : ∃ H', run Tryz.prog 5001 5 #[.int .i64 c, str first, v, str data] H = some (.bool true, H') := by
  obtain ⟨H1, e1, g1⟩ := awake_run (k := 5000) (by omega) H hf
  have n1 := g1.next; have f1 := g1.floor
  rw [run5, F5]
  by_cases hcc : 1 ≤ c ∧ c ≤ 512
  · obtain ⟨c, rfl⟩ : ∃ x : Nat, c = x := ⟨c.toNat, by omega⟩
    obtain ⟨p, F2, H2, e2, d2, g2, far2⟩ := new_run (k := 5000) (by omega) c (by omega) (by omega) H1 (by omega)
    have hd := arr_ok p c (by omega)
    have n2 := g2.next; have f2 := g2.floor
    have hv2 := hv.grow (g1.trans g2)
    by_cases h9 : c < 9
    · simp (disch := first | omega | assumption | (simp only [new_next, new_floor, set_next, set_floor] <;> omega) | (simp only [oneC_str, oneC_int, oneC_bool, oneC_slice, oneC_ptr, oneC_iface, Bool.and_self]) | rfl) only [↓bsome, msome, ↓bindP_some, ↓bindM_some, ↓newK_eq, ↓condV_true, ↓condV_false, condV_not, ↓condG_tt, ↓condG_ff, ↓condG_tf, ↓condG_ft, condG_not, ↓condG_undef, dec_t, dec_f, decide_true, decide_false, pick_t, pick_f, un_not, bnot_t, bnot_f, add64, sub64, mul64, lss64, leq64, gtr64, geq64, eql64, neq64, convU8, conv64, str_lit, len_str, eql_str, neq_str, idx_str, slice_hi, slice_lo, slice_to, pNil_ptr, fieldA_ptr, ldV1, ldVn, stVn, blk_new, blk_new_at, set_new_at, apart1, new_old, blk_set_at, set_old, new_next, new_floor, set_next, set_floor, get1_0, get3_0, get3_1, get3_2, get3_n, put3, get4_0, get4_1, get4_2, get4_3, get4_n, put4, Nat.zero_add, Nat.add_zero, ne_eq, not_false_eq_true, reduceCtorEq, Nat.reduceAdd, Nat.reduceEqDiff, Nat.succ_ne_self, idxSl_1, extract_t2_0, extract_t2_1, extract_t3_0, extract_t3_1, extract_t3_2, ↓quiet_some, atFloor_back, oneOf_one, atFloor_next, atFloor_floor, atFloor_blk, get6_0, get6_1, get6_2, get6_3, get6_4, get6_5, hide_blk, hide2_blk, hid_nil, hid_next, hid_floor, hid2_next, e1, e2, J5_13, J5_12, J5_11]
      exact ⟨_, rfl⟩
    · by_cases h64 : 64 < c
      · simp (disch := first | omega | assumption | (simp only [new_next, new_floor, set_next, set_floor] <;> omega) | (simp only [oneC_str, oneC_int, oneC_bool, oneC_slice, oneC_ptr, oneC_iface, Bool.and_self]) | rfl) only [↓bsome, msome, ↓bindP_some, ↓bindM_some, ↓newK_eq, ↓condV_true, ↓condV_false, condV_not, ↓condG_tt, ↓condG_ff, ↓condG_tf, ↓condG_ft, condG_not, ↓condG_undef, dec_t, dec_f, decide_true, decide_false, pick_t, pick_f, un_not, bnot_t, bnot_f, add64, sub64, mul64, lss64, leq64, gtr64, geq64, eql64, neq64, convU8, conv64, str_lit, len_str, eql_str, neq_str, idx_str, slice_hi, slice_lo, slice_to, pNil_ptr, fieldA_ptr, ldV1, ldVn, stVn, blk_new, blk_new_at, set_new_at, apart1, new_old, blk_set_at, set_old, new_next, new_floor, set_next, set_floor, get1_0, get3_0, get3_1, get3_2, get3_n, put3, get4_0, get4_1, get4_2, get4_3, get4_n, put4, Nat.zero_add, Nat.add_zero, ne_eq, not_false_eq_true, reduceCtorEq, Nat.reduceAdd, Nat.reduceEqDiff, Nat.succ_ne_self, idxSl_1, extract_t2_0, extract_t2_1, extract_t3_0, extract_t3_1, extract_t3_2, ↓quiet_some, atFloor_back, oneOf_one, atFloor_next, atFloor_floor, atFloor_blk, get6_0, get6_1, get6_2, get6_3, get6_4, get6_5, hide_blk, hide2_blk, hid_nil, hid_next, hid_floor, hid2_next, e1, e2, J5_13, J5_12, J5_11]
        exact ⟨_, rfl⟩
      · by_cases h25 : 25 < l.length
        · simp (disch := first | omega | assumption | (simp only [new_next, new_floor, set_next, set_floor] <;> omega) | (simp only [oneC_str, oneC_int, oneC_bool, oneC_slice, oneC_ptr, oneC_iface, Bool.and_self]) | rfl) only [↓bsome, msome, ↓bindP_some, ↓bindM_some, ↓newK_eq, ↓condV_true, ↓condV_false, condV_not, ↓condG_tt, ↓condG_ff, ↓condG_tf, ↓condG_ft, condG_not, ↓condG_undef, dec_t, dec_f, decide_true, decide_false, pick_t, pick_f, un_not, bnot_t, bnot_f, add64, sub64, mul64, lss64, leq64, gtr64, geq64, eql64, neq64, convU8, conv64, str_lit, len_str, eql_str, neq_str, idx_str, slice_hi, slice_lo, slice_to, pNil_ptr, fieldA_ptr, ldV1, ldVn, stVn, blk_new, blk_new_at, set_new_at, apart1, new_old, blk_set_at, set_old, new_next, new_floor, set_next, set_floor, get1_0, get3_0, get3_1, get3_2, get3_n, put3, get4_0, get4_1, get4_2, get4_3, get4_n, put4, Nat.zero_add, Nat.add_zero, ne_eq, not_false_eq_true, reduceCtorEq, Nat.reduceAdd, Nat.reduceEqDiff, Nat.succ_ne_self, idxSl_1, extract_t2_0, extract_t2_1, extract_t3_0, extract_t3_1, extract_t3_2, ↓quiet_some, atFloor_back, oneOf_one, atFloor_next, atFloor_floor, atFloor_blk, get6_0, get6_1, get6_2, get6_3, get6_4, get6_5, hide_blk, hide2_blk, hid_nil, hid_next, hid_floor, hid2_next, e1, e2, J5_13, J5_12, J5_11, hv2.1]
          exact ⟨_, rfl⟩
        · obtain ⟨q, ss, ha, hs⟩ := d2
          obtain ⟨ss', F3, H3, e3, a3, ff3, hs3⟩ := arr_write (k := 5000) (by omega) ha (by omega) (by omega) 0 (c : Int) first
          have d3 : ArrD p c (wrI ss.length (List.replicate (c * 32) 0) 0 (c : Int) first) F3 H3 := ⟨q, ss', a3, by omega⟩
          have ok3 : okI ss.length 0 (c : Int) = .int .i64 0 := by rw [okI, if_pos ⟨by omega, by omega, by omega, by omega⟩]
          have far1 : Far H F2 := fun n hn => by have := far2 n hn; omega
          obtain ⟨g3, far3⟩ := ff3.far (g1.trans g2) far1
          have n3 := g3.next; have fl3 := g3.floor
          obtain ⟨s, F4, H4, e4, s4, ff4, hs4⟩ := open_run hd (by omega) (k := 5000) (by omega) d3 (by omega)
          obtain ⟨g4, far4⟩ := ff4.far g3 far3
          obtain ⟨H', e5⟩ := calls_loop hd (by omega) (k := 5000) (by omega) (H0 := H) (by omega) data (by omega) hv l.length 5000 0 _ _ _ F4 H4 rfl (by omega) (by omega) s4 inv_open g4 far4
          have e5 : L5_10 5000 5000 (.int .i64 (c : Int)) v (str data) (.pointer (some ⟨s, 0, none⟩)) (.int .i64 0) H4 = _ := e5
          simp (disch := first | omega | assumption | (simp only [new_next, new_floor, set_next, set_floor] <;> omega) | (simp only [oneC_str, oneC_int, oneC_bool, oneC_slice, oneC_ptr, oneC_iface, Bool.and_self]) | rfl) only [↓bsome, msome, ↓bindP_some, ↓bindM_some, ↓newK_eq, ↓condV_true, ↓condV_false, condV_not, ↓condG_tt, ↓condG_ff, ↓condG_tf, ↓condG_ft, condG_not, ↓condG_undef, dec_t, dec_f, decide_true, decide_false, pick_t, pick_f, un_not, bnot_t, bnot_f, add64, sub64, mul64, lss64, leq64, gtr64, geq64, eql64, neq64, convU8, conv64, str_lit, len_str, eql_str, neq_str, idx_str, slice_hi, slice_lo, slice_to, pNil_ptr, fieldA_ptr, ldV1, ldVn, stVn, blk_new, blk_new_at, set_new_at, apart1, new_old, blk_set_at, set_old, new_next, new_floor, set_next, set_floor, get1_0, get3_0, get3_1, get3_2, get3_n, put3, get4_0, get4_1, get4_2, get4_3, get4_n, put4, Nat.zero_add, Nat.add_zero, ne_eq, not_false_eq_true, reduceCtorEq, Nat.reduceAdd, Nat.reduceEqDiff, Nat.succ_ne_self, idxSl_1, extract_t2_0, extract_t2_1, extract_t3_0, extract_t3_1, extract_t3_2, ↓quiet_some, atFloor_back, oneOf_one, atFloor_next, atFloor_floor, atFloor_blk, get6_0, get6_1, get6_2, get6_3, get6_4, get6_5, hide_blk, hide2_blk, hid_nil, hid_next, hid_floor, hid2_next, e1, e2, J5_13, J5_12, J5_11, hv2.1, e3, e4]
          exact ⟨H', e5⟩
  · have e2 := new_bad (k := 4999) c hcc H1
    simp (disch := first | omega | assumption | (simp only [new_next, new_floor, set_next, set_floor] <;> omega) | (simp only [oneC_str, oneC_int, oneC_bool, oneC_slice, oneC_ptr, oneC_iface, Bool.and_self]) | rfl) only [↓bsome, msome, ↓bindP_some, ↓bindM_some, ↓newK_eq, ↓condV_true, ↓condV_false, condV_not, ↓condG_tt, ↓condG_ff, ↓condG_tf, ↓condG_ft, condG_not, ↓condG_undef, dec_t, dec_f, decide_true, decide_false, pick_t, pick_f, un_not, bnot_t, bnot_f, add64, sub64, mul64, lss64, leq64, gtr64, geq64, eql64, neq64, convU8, conv64, str_lit, len_str, eql_str, neq_str, idx_str, slice_hi, slice_lo, slice_to, pNil_ptr, fieldA_ptr, ldV1, ldVn, stVn, blk_new, blk_new_at, set_new_at, apart1, new_old, blk_set_at, set_old, new_next, new_floor, set_next, set_floor, get1_0, get3_0, get3_1, get3_2, get3_n, put3, get4_0, get4_1, get4_2, get4_3, get4_n, put4, Nat.zero_add, Nat.add_zero, ne_eq, not_false_eq_true, reduceCtorEq, Nat.reduceAdd, Nat.reduceEqDiff, Nat.succ_ne_self, idxSl_1, extract_t2_0, extract_t2_1, extract_t3_0, extract_t3_1, extract_t3_2, ↓quiet_some, atFloor_back, oneOf_one, atFloor_next, atFloor_floor, atFloor_blk, get6_0, get6_1, get6_2, get6_3, get6_4, get6_5, hide_blk, hide2_blk, hid_nil, hid_next, hid_floor, hid2_next, e1, e2, J5_13, J5_12, J5_11]
    exact ⟨_, rfl⟩
end
end Go.PG

namespace Go.PG
open Go.Proofs Go.ChangeShapes Go.WideShapes

def actFields : Array Field := #[{ name := "Op", type := 3, offset := 0, embedded := false, tag := "", pkgPath := "", byteOffset := 0 }, { name := "A", type := 3, offset := 1, embedded := false, tag := "", pkgPath := "", byteOffset := 8 }, { name := "B", type := 3, offset := 2, embedded := false, tag := "", pkgPath := "", byteOffset := 16 }, { name := "At", type := 3, offset := 3, embedded := false, tag := "", pkgPath := "", byteOffset := 24 }, { name := "N", type := 3, offset := 4, embedded := false, tag := "", pkgPath := "", byteOffset := 32 }, { name := "Data", type := 9, offset := 5, embedded := false, tag := "", pkgPath := "", byteOffset := 40 }]
theorem und38 : Tryz.prog.underlying 38 = some (.struct actFields) := by kernel_rfl
theorem cells38 : Tryz.prog.cellsOf 38 = 6 := by kernel_rfl
theorem cells3 : Tryz.prog.cellsOf 3 = 1 := by kernel_rfl
theorem cells9 : Tryz.prog.cellsOf 9 = 1 := by kernel_rfl
set_option maxRecDepth 100000 in
theorem act_read {H : Type} {enc : TypeId × Value → H} {w : World} {base m : Nat} {sp : Nat → Bool} {hd : Bool} {cs : List Value} {y : DataW H × List MemPlace} (h : DataW.trod enc Tryz.prog w base sp hd m 38 cs = some y) : ∃ x : ActP, cs = actC x := by
  obtain ⟨xs, k, _, _, hlen, hxl, hf⟩ := DataW.trod_struct und38 h
  rw [cells38] at hlen
  have hx6 : xs.length = 6 := hxl
  match cs, hlen with
  | [c0, c1, c2, c3, c4, c5], _ =>
    have g : ∀ (i : Nat) (f : Field), actFields[i]? = some f → i < 6 → ∃ z, DataW.trod enc Tryz.prog w base sp hd k f.type (([c0, c1, c2, c3, c4, c5].drop f.offset).take (Tryz.prog.cellsOf f.type)) = some z := fun i f hfi hi => by
      have := hf i f hfi
      rw [List.getElem?_eq_getElem (by omega)] at this
      exact ⟨_, this⟩
    obtain ⟨z0, h0⟩ : ∃ z, DataW.trod enc Tryz.prog w base sp hd k 3 (([c0, c1, c2, c3, c4, c5].drop 0).take (Tryz.prog.cellsOf 3)) = some z := g 0 _ rfl (by decide)
    obtain ⟨z1, h1⟩ : ∃ z, DataW.trod enc Tryz.prog w base sp hd k 3 (([c0, c1, c2, c3, c4, c5].drop 1).take (Tryz.prog.cellsOf 3)) = some z := g 1 _ rfl (by decide)
    obtain ⟨z2, h2⟩ : ∃ z, DataW.trod enc Tryz.prog w base sp hd k 3 (([c0, c1, c2, c3, c4, c5].drop 2).take (Tryz.prog.cellsOf 3)) = some z := g 2 _ rfl (by decide)
    obtain ⟨z3, h3⟩ : ∃ z, DataW.trod enc Tryz.prog w base sp hd k 3 (([c0, c1, c2, c3, c4, c5].drop 3).take (Tryz.prog.cellsOf 3)) = some z := g 3 _ rfl (by decide)
    obtain ⟨z4, h4⟩ : ∃ z, DataW.trod enc Tryz.prog w base sp hd k 3 (([c0, c1, c2, c3, c4, c5].drop 4).take (Tryz.prog.cellsOf 3)) = some z := g 4 _ rfl (by decide)
    obtain ⟨z5, h5⟩ : ∃ z, DataW.trod enc Tryz.prog w base sp hd k 9 (([c0, c1, c2, c3, c4, c5].drop 5).take (Tryz.prog.cellsOf 9)) = some z := g 5 _ rfl (by decide)
    have int : ∀ {l : List Value} {z : DataW H × List MemPlace}, DataW.trod enc Tryz.prog w base sp hd k 3 (l.take (Tryz.prog.cellsOf 3)) = some z → ∃ n, l.take 1 = [.int .i64 n] := fun hh => by
      obtain ⟨n, e, _⟩ := DataW.trod_int Tryz.underlying3 hh
      rw [cells3] at e
      exact ⟨n, e⟩
    obtain ⟨n0, e0⟩ := int h0
    obtain ⟨n1, e1⟩ := int h1
    obtain ⟨n2, e2⟩ := int h2
    obtain ⟨n3, e3⟩ := int h3
    obtain ⟨n4, e4⟩ := int h4
    obtain ⟨s, e5, _, _⟩ := DataW.trod_string Tryz.underlying9 h5
    rw [cells9] at e5
    refine ⟨⟨n0, n1, n2, n3, n4, s.data.toList⟩, ?_⟩
    simp at e0 e1 e2 e3 e4 e5
    rw [e0, e1, e2, e3, e4, e5]
    rfl
end Go.PG
