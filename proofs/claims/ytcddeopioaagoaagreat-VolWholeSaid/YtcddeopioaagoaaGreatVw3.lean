/- Part 3 of the lemmas behind RowVolWhole: PgI, PgJ, PgK, PgL, PgM, PgO, PgN, PgP, PgQ, PgR, PgS, PgT, PgU, PgW, PgX. No condition beyond those that each lemma names. -/
import Derived.Test.YtcddeopioaagoaaGreatVw2
import Derived.Scope
import Derived.Orders
import Derived.Room.MakeNoZero
import Derived.KernelRfl
import Derived.Test.YtcddeopioaagoaaGreatProg

set_option linter.unusedVariables false
set_option linter.unusedSimpArgs false
set_option linter.unusedSectionVars false
namespace Go.PG
section
variable {P : Program} {base : Nat} {ρ : Ren} {H : Heap} {w : World}

/-- The old row is known no more, its block bears a new name. -/
theorem Post.reuse (h : Rel P base ρ H w) {w' : World} {n b K K0 : Nat} {o o' : Blk} (hn : H.blk n = some o) (hfl : H.floor ≤ n) (hr : ρ n = some (b, K0)) (hf : ρ H.next = none) (hc : Calm w w')
    (hs : w'.heap.size = w.heap.size) (ho : ∀ k, k ≠ b → w'.heap[k]? = w.heap[k]?) (hb : RelB P base (ext1 ρ H.next b K) w' H.next o') :
    Post P base ρ (ext1 ρ H.next b K) H ((H.del n).new o') w w' := by
  have hnn : n < H.next := h.dom n (by simp [hn])
  have old : ∀ m, (((H.del n).new o').blk m).isSome = true → m ≠ H.next → m ≠ n ∧ (H.blk m).isSome = true ∧ ((H.del n).new o').blk m = H.blk m := fun m hm e => by
    have e1 : m ≠ (H.del n).next := e
    by_cases e2 : m = n
    · subst e2; simp [Heap.new, e1] at hm; simp [Heap.del] at hm
    · have : ((H.del n).new o').blk m = H.blk m := by simp only [Heap.new, if_false, Heap.del, e2, show ¬ m = H.next from e]
      exact ⟨e2, by rw [← this]; exact hm, this⟩
  exact {
    ext := ext1_ext hf
    dom := fun m x hx => by
      by_cases e : m = H.next
      · exact .inr ⟨by omega, by simp [Heap.new, Heap.del]; omega⟩
      · exact .inl (by simpa [ext1, e] using hx)
    rel := {
      blk := fun m x hm => by
        by_cases e : m = H.next
        · subst e
          have : ((H.del n).new o').blk H.next = some o' := by simp [Heap.new, Heap.del]
          rw [this] at hm; cases hm; exact hb
        · obtain ⟨e2, h1, h2⟩ := old m (by rw [hm]; rfl) e
          rw [h2] at hm
          refine (h.blk m x hm).keep (ext1_ext hf) fun k K' hk => ho k fun e3 => ?_
          subst e3
          exact h.inj n m _ _ _ (by simp [hn]) h1 (Nat.le_trans h.floor hfl) (Ne.symm e2) hr hk
      inj := fun m m' k K1 K2 h1 h2 hbm hne h3 h4 => by
        by_cases e : m = H.next
        · have e' : m' ≠ H.next := fun e' => hne (e.trans e'.symm)
          obtain ⟨g1, g2, _⟩ := old m' h2 e'
          simp only [ext1, e, if_true, Option.some.injEq, Prod.mk.injEq] at h3
          simp only [ext1, e', if_false] at h4
          rw [← h3.1] at h4
          exact h.inj n m' _ _ _ (by simp [hn]) g2 (Nat.le_trans h.floor hfl) (Ne.symm g1) hr h4
        · obtain ⟨g1, g2, _⟩ := old m h1 e
          simp only [ext1, e, if_false] at h3
          by_cases e' : m' = H.next
          · simp only [ext1, e', if_true, Option.some.injEq, Prod.mk.injEq] at h4
            rw [← h4.1] at h3
            exact h.inj n m _ _ _ (by simp [hn]) g2 (Nat.le_trans h.floor hfl) (Ne.symm g1) hr h3
          · obtain ⟨g3, g4, _⟩ := old m' h2 e'
            simp only [ext1, e', if_false] at h4
            exact h.inj m m' _ _ _ g2 g4 hbm hne h3 h4
      dom := fun m hm => by
        by_cases e : m = H.next
        · subst e; simp [Heap.new, Heap.del]
        · have := h.dom m (old m hm e).2.1
          simp [Heap.new, Heap.del]; omega
      floor := h.floor
      fle := by have := h.fle; simp [Heap.new, Heap.del]; omega }
    calm := hc
    size := by rw [hs]; exact Nat.le_refl _
    keep := fun k hk hno => ho k fun e => hno n K0 (by simp [hn]) hfl (e ▸ hr)
    own := fun m k K' h1 h2 h3 => by
      by_cases e : m = H.next
      · simp only [ext1, e, if_true, Option.some.injEq, Prod.mk.injEq] at h3
        exact .inl ⟨n, K0, by simp [hn], hfl, by rw [← h3.1]; exact hr⟩
      · simp only [ext1, e, if_false] at h3
        exact .inl ⟨m, K', (old m h1 e).2.1, h2, h3⟩
    floor := rfl
    next := by simp [Heap.new, Heap.del]
    low := fun m hm => by
      have e1 : ¬ m = H.next := by have := h.fle; omega
      have e2 : ¬ m = n := by omega
      simp only [Heap.new, e1, if_false, Heap.del, e2] }

theorem srcLen_ok {x x' : Value} {n : Nat} (hx : VRel ρ x x') (h : srcLen x = some n) (w : World) : (Builtin.lenOf x').run P w = .ok n w := by
  unfold srcLen at h
  split at h
  · rename_i a n c
    cases h
    cases a with
    | none => cases hx; rfl
    | some a => obtain ⟨a', c', rfl, _⟩ := hx.slice_inv; rfl
  · cases h; rw [hx.string_inv]; rfl
  · cases h
theorem srcCells_ok (h : Rel P base ρ H w) {x x' : Value} {size n m : Nat} {c : Array Value} (hx : VRel ρ x x') (hm : srcLen x = some m) (hn : n ≤ m) (hl : srcCells size n x H = some c) :
    ∃ c', (Builtin.firstCells size n x').run P w = .ok c' w ∧ ARel ρ c c' := by
  unfold srcCells at hl
  split at hl
  · cases hl
    cases hx
    exact ⟨#[], rfl, .of_lt rfl fun i hi => absurd hi (Nat.not_lt_zero i)⟩
  · rename_i a len cap
    obtain ⟨a', cap', rfl, _, h0⟩ := hx.slice_inv
    simp only [srcLen, Option.some.injEq] at hm; subst hm
    by_cases hz : len = 0
    · have : n = 0 := by omega
      subst this
      have : c = #[] := by simpa [Heap.ldN] using hl.symm
      subst this
      exact ⟨#[], by simp only [Builtin.firstCells, Nat.zero_mul]; rfl, .of_lt rfl fun i hi => absurd hi (Nat.not_lt_zero i)⟩
    · obtain ⟨b, K, hr, hsp, rfl⟩ := h0.resolve_left hz
      obtain ⟨c', h1, h2⟩ := h.ldN (P := P) hl hr
      exact ⟨c', h1, h2⟩
  · rename_i s
    cases hl
    rw [hx.string_inv]
    exact ⟨_, rfl, .flat (byteRow_flat _)⟩
  · cases hl
theorem srcCells_size {x : Value} {size n m : Nat} {c : Array Value} (hm : srcLen x = some m) (hn : n ≤ m) (hs : size = 1 ∨ ∀ s, x ≠ .string s) (hne : ∀ k cp, x ≠ .slice none k cp) (hl : srcCells size n x H = some c) : c.size = n * size := by
  unfold srcCells at hl
  split at hl
  · exact absurd rfl (hne _ _)
  · unfold Heap.ldN at hl
    split at hl
    · rename_i h0; cases hl; rw [h0]; rfl
    · split at hl
      · cases hl
      · obtain ⟨d, hd, hl⟩ := Option.bind_eq_some_iff.1 hl
        split at hl
        · cases hl; simp; omega
        · cases hl
  · rename_i s
    cases hl
    simp only [srcLen, Option.some.injEq] at hm; subst hm
    rw [byteRow_size]
    rcases hs with h | h
    · rw [h, Nat.mul_one]; simp [ByteArray.size_extract]; omega
    · exact absurd rfl (h s)
  · cases hl
theorem growBy_le {need : Nat} : ∀ (r c : Nat), 256 ≤ c → c ≤ 2 * need → Builtin.growBy need r c ≤ 2 * need
  | 0, c, _, h => h
  | r + 1, c, h1, h2 => by
    unfold Builtin.growBy
    split
    · exact h2
    · exact growBy_le r _ (by omega) (by omega)
theorem nextcap_le {need cap : Nat} (h : cap < need) : Builtin.nextslicecap need cap ≤ 2 * need := by
  unfold Builtin.nextslicecap
  split
  · omega
  · split
    · omega
    · exact growBy_le 4 cap (by omega) (by omega)
theorem zeroCells_size (z : Array Value) (n : Nat) : (Builtin.zeroCells z n).size = n * z.size := by simp [Builtin.zeroCells]

/-- The list of an array beside another. -/
theorem ARel.list {xs ys : Array Value} (h : ARel ρ xs ys) : xs.toList.length = ys.toList.length ∧ ∀ i, VRel ρ (xs.toList.getD i undef) (ys.toList.getD i undef) := by
  refine ⟨by simpa using h.1, fun i => ?_⟩
  have := h.2 i
  simpa [Array.getD_eq_getD_getElem?, List.getD_eq_getElem?_getD] using this

def grownTo (w : World) (need cap : Nat) (e : TypeId) : Nat := Question.cut (.appendCap need cap e) (w.tape w.drawn (.appendCap need cap e))
def drew1 (w : World) : World := { w with drawn := w.drawn + 1 }
theorem append_room_run {st xt t e : TypeId} {ts : Array TypeId} {xd : TypeDesc} {i : TypeInfo} {bs' : Option Addr} {len cap' n : Nat} {x' : Value} {new' : Array Value} {w' : World}
    (hts : ts[0]? = some st ∧ ts[1]? = some xt) (hu : P.underlying st = some (.slice e)) (hxd : P.underlying xt = some xd) (hk : (∃ e', xd = .slice e') ∨ xd = .string) (hi : P.info? e = some i)
    (hlen : (Builtin.lenOf x').run P w = .ok n w) (hroom : len + n ≤ cap') (hfc : (Builtin.firstCells i.size n x').run P w = .ok new' w)
    (hst : match bs' with | none => w' = w | some a => (storeCells (a.add (len * i.size)) new'.toList).run P w = .ok () w') :
    (Builtin.append_ ts t #[.slice bs' len cap', x']).run P w = .ok (.slice bs' (len + n) cap') w' := by
  cases bs' with
  | none =>
    simp only at hst; subst hst
    rcases hk with ⟨e', rfl⟩ | rfl <;> simp [Builtin.append_, hts.1, hts.2, run_und hu, run_und hxd, run_size hi, hlen, hroom, hfc]
  | some a =>
    rcases hk with ⟨e', rfl⟩ | rfl <;> simp [Builtin.append_, hts.1, hts.2, run_und hu, run_und hxd, run_size hi, hlen, hroom, hfc, hst]
theorem append_grow_run {st xt t e : TypeId} {ts : Array TypeId} {xd : TypeDesc} {i : TypeInfo} {z : Value} {bs' : Option Addr} {len cap' n : Nat} {x' : Value} {old' new' : Array Value}
    (hts : ts[0]? = some st ∧ ts[1]? = some xt) (hu : P.underlying st = some (.slice e)) (hxd : P.underlying xt = some xd) (hk : (∃ e', xd = .slice e') ∨ xd = .string) (hi : P.info? e = some i) (hz : zero? P e = some z)
    (hlen : (Builtin.lenOf x').run P w = .ok n w) (hroom : cap' < len + n) (h63 : len + n ≤ 2 ^ 47) (h48 : (len + n) * i.bytes ≤ 2 ^ 47)
    (hold : (Builtin.firstCells i.size len (.slice bs' len cap')).run P (drew1 w) = .ok old' (drew1 w)) (hfc : (Builtin.firstCells i.size n x').run P (drew1 w) = .ok new' (drew1 w)) :
    (Builtin.append_ ts t #[.slice bs' len cap', x']).run P w = .ok (.slice (some ⟨w.heap.size, 0, none⟩) (len + n) (grownTo w (len + n) cap' e))
      (withRow (drew1 w) (old' ++ new' ++ Builtin.zeroCells z.cells (grownTo w (len + n) cap' e - (len + n))) e) := by
  have hr : ¬ (len + n ≤ cap') := by omega
  have h1' : ¬ (9223372036854775807 < (len : Int) + (n : Int) ∧ i.bytes = 0) := by
    intro h; omega
  have h2 : ¬ (281474976710656 < Builtin.nextslicecap (len + n) cap' * i.bytes) := by
    have := Nat.mul_le_mul_right i.bytes (nextcap_le hroom)
    rw [Nat.mul_assoc] at this; omega
  have hzr : ∀ w, (zeroValue e).run P w = .ok z w := fun w => run_zero hz
  have hd : ({ heap := w.heap, tape := w.tape, drawn := w.drawn + 1, os := w.os, output := w.output } : World) = drew1 w := rfl
  have hd2 : w.drew = drew1 w := rfl
  rcases hk with ⟨e', rfl⟩ | rfl <;>
    simp [Builtin.append_, hts.1, hts.2, run_und hu, run_und hxd, run_size hi, run_info hi, hlen, hr, h1', h2, Question.forced, hd2, hold, hfc, hzr, run_newRow] <;> exact ⟨⟨rfl, rfl⟩, rfl⟩

theorem append_ok (h : Rel P base ρ H w) {st xt t e : TypeId} {ts : Array TypeId} {xd : TypeDesc} {i : TypeInfo} {z : Value} {s x s' x' : Value} {r : Value × Heap}
    (hts : ts[0]? = some st ∧ ts[1]? = some xt) (hu : P.underlying st = some (.slice e)) (hxd : P.underlying xt = some xd) (hk : (∃ e', xd = .slice e') ∨ xd = .string) (hi : P.info? e = some i) (hz : zero? P e = some z)
    (hsz : i.size = 1 ∨ ∀ y, x ≠ .string y) (hs : VRel ρ s s') (hx : VRel ρ x x') (hl : appendV e i.size i.bytes s x H = some r) (hf0 : H.next < r.2.next → ρ H.next = none) :
    RunsTo P (Builtin.append_ ts t #[s', x']) w (Good P base ρ H w r.1 r.2) := by
  obtain ⟨i2, hi2, _, _, hzs⟩ := zero_spec hz
  rw [hi] at hi2; cases hi2
  have hrel1 : Rel P base ρ H (drew1 w) := h.draws rfl
  unfold appendV at hl
  split at hl
  · rename_i bs len cap
    rw [Option.bind_eq_some_iff] at hl; obtain ⟨n, hn, hl⟩ := hl
    rw [Option.bind_eq_some_iff] at hl; obtain ⟨new, hnew, hl⟩ := hl
    have hlen := fun w => srcLen_ok (P := P) hx hn w
    -- the slice beside
    have hsl : ∃ bs' cap', s' = .slice bs' len cap' ∧ len ≤ cap' := by
      cases bs with
      | none => cases hs; exact ⟨_, _, rfl, Nat.le_refl _⟩
      | some a => obtain ⟨a', c', rfl, h1, _⟩ := hs.slice_inv; exact ⟨_, _, rfl, h1⟩
    obtain ⟨bs', cap', rfl, hlc⟩ := hsl
    split at hl
    · rename_i h0; subst h0
      cases hl
      obtain ⟨new', hnew', hrel⟩ := srcCells_ok (P := P) h hx hn (Nat.le_refl _) hnew
      have hnil : new' = #[] := by
        have : new.size = 0 := by
          unfold srcCells at hnew
          split at hnew
          · cases hnew; rfl
          · simp [Heap.ldN] at hnew; rw [hnew]; rfl
          · cases hnew; rw [byteRow_size]; simp [ByteArray.size_extract]
          · cases hnew
        exact Array.eq_empty_of_size_eq_zero (by rw [← hrel.1]; exact this)
      subst hnil
      refine .ok (append_room_run (w' := w) hts hu hxd hk hi (hlen w) (by omega) hnew' ?_) (Good.same h (by simpa using hs))
      cases bs' with
      | none => rfl
      | some a => rfl
    · rename_i hn0
      split at hl
      · rename_i hcond
        obtain ⟨hb, h47, hone⟩ := hcond
        split at hl
        · -- the nil slice
          split at hl
          · rename_i hz0
            obtain ⟨rfl, rfl⟩ := hz0
            cases hl
            have hf : ρ H.next = none := hf0 (by simp [Heap.new])
            cases hs
            obtain ⟨new', hnew', hrel⟩ := srcCells_ok (P := P) hrel1 hx hn (Nat.le_refl _) hnew
            have hns : new.size = n * i.size := by
              refine srcCells_size hn (Nat.le_refl _) hsz ?_ hnew
              intro k cp e1; subst e1
              cases hx; simp [srcLen] at hn; omega
            have hrun := append_grow_run (P := P) (w := w) (t := t) (bs' := none) (cap' := 0) (old' := #[]) hts hu hxd hk hi hz (hlen w) (by omega) h47 hb rfl hnew'
            simp only [Nat.zero_add] at hrun hb h47
            have hge : n ≤ grownTo w n 0 e := by simp only [grownTo, Question.cut]; omega
            refine .ok hrun ⟨ext1 ρ H.next w.heap.size (grownTo w n 0 e), .sliceU _ ext1_at hge (by simp only [capU]; omega), ?_⟩
            refine Post.grow' (fr := (0, 0)) h hf hi ?_ ?_ ?_ ⟨rfl, rfl, rfl⟩ (by simp [withRow, drew1]) (fun k hk => withRow_old (w := drew1 w) _ _ hk) (withRow_at (w := drew1 w) _ _) (frOk_zero _)
            · simp only [Array.size_append, zeroCells_size, hzs, ← hrel.1, hns]
              simp only [Array.size_empty, Nat.zero_add, ← Nat.add_mul]
              congr 1; omega
            · simp only [Array.size_append, ← hrel.1]; omega
            · intro j hj
              have e1 : (#[] ++ new' ++ Builtin.zeroCells z.cells (grownTo w n 0 e - n)).getD j undef = new'.getD j undef := by
                have hj' : j < new'.size := hrel.1 ▸ hj
                simp [Array.getD_eq_getD_getElem?, Array.getElem?_append, hj']
              rw [e1]; exact hrel.2 j
          · cases hl
        · rename_i a
          have hns : new.size = n * i.size := by
            refine srcCells_size hn (Nat.le_refl _) hsz ?_ hnew
            intro k cp e1; subst e1
            cases hx; simp [srcLen] at hn; omega
          split at hl
          · rename_i hcU; subst hcU
            split at hl
            · rename_i hoff
              obtain ⟨hoff, hfl⟩ := hoff
              rw [Option.bind_eq_some_iff] at hl; obtain ⟨old, hold, hl⟩ := hl
              split at hl
              · rename_i c0 e1 hblk
                split at hl
                · cases hl
                rename_i he; simp only [ne_eq, Decidable.not_not] at he; subst he
                cases hl
                have hf : ρ H.next = none := hf0 (by simp [Heap.new, Heap.del])
                -- the block beside
                have hsU : ∃ b K, ρ a.block = some (b, K) ∧ a.spot = none ∧ bs' = some ⟨b, 0, none⟩ ∧ cap' = K ∧ len ≤ K := by
                  cases hs with
                  | slice _ _ _ _ hc _ => exact absurd hc (Nat.lt_irrefl _)
                  | sliceU _ h1 h2 _ => exact ⟨_, _, h1, rfl, rfl, rfl, h2⟩
                  | sliceI _ _ _ _ h0 _ _ => exact absurd hoff h0
                  | sliceE _ _ _ h0 => exact absurd hoff h0
                obtain ⟨b, K, hr, hsp, rfl, rfl, hlK⟩ := hsU
                obtain ⟨b2, K2, c', ty, fr, i3, g1, g2, g3, g4, g5, g6, g7⟩ := h.blk _ _ hblk
                rw [hr] at g1; cases g1
                rw [hi] at g3; cases g3
                have holdsz : old.size = len * i.size := by
                  unfold Heap.ldN at hold
                  split at hold
                  · rename_i h0; cases hold; rw [h0]; rfl
                  · split at hold
                    · cases hold
                    · rw [Option.bind_eq_some_iff] at hold; obtain ⟨d, hd, hold⟩ := hold
                      split at hold
                      · cases hold; simp; omega
                      · cases hold
                have hfz := g7 (Nat.le_trans h.floor hfl)
                by_cases hroom : len + n ≤ cap'
                · -- there is room
                  obtain ⟨new', hnew', hrel⟩ := srcCells_ok (P := P) h hx hn (Nat.le_refl _) hnew
                  have hone' : new'.toList.all oneC = true := by
                    rw [List.all_eq_true] at *
                    intro x hx
                    obtain ⟨k, hk, rfl⟩ := List.getElem_of_mem hx
                    have hk' : k < new'.size := by simpa using hk
                    have hk2 : k < new.size := hrel.1 ▸ hk'
                    have h3 := hrel.2 k
                    simp only [Array.getD_eq_getD_getElem?, Array.getElem?_eq_getElem hk', Array.getElem?_eq_getElem hk2, Option.getD_some] at h3
                    simpa using h3.oneC (hone _ (by simp))
                  have hfit : 0 + len * i.size + 0 + new'.toList.length ≤ c'.size := by
                    rw [g4]; simp only [Array.length_toList, ← hrel.1, hns]
                    have := Nat.mul_le_mul_right i.size hroom
                    rw [Nat.add_mul] at this; omega
                  obtain ⟨w', k1, k2, k3, k4, k5⟩ := run_storeCells (P := P) (off := 0 + len * i.size) new'.toList 0 w c' g2 hfit hfz hone'
                  have hst : (storeCells ((⟨b, 0, none⟩ : Addr).add (len * i.size)) new'.toList).run P w = .ok () w' := by rw [add_none]; exact k1
                  refine .ok (append_room_run hts hu hxd hk hi (hlen w) hroom hnew' hst) ⟨ext1 ρ H.next b cap', .sliceU _ ext1_at hroom (by simp only [capU]; omega), ?_⟩
                  refine Post.reuse h hblk hfl hr hf k5 k3 k4 ?_
                  simp only [Nat.zero_add, Nat.add_zero] at k2
                  refine ⟨b, cap', _, ty, fr, i, ext1_at, k2, hi, by rw [setL_size]; exact g4, ?_, ?_, fun _ => by rw [setL_size]; exact hfz⟩
                  · rw [setL_size, Array.size_append, holdsz, hns, ← Nat.add_mul, g4]
                    exact Nat.mul_le_mul_right _ hroom
                  · intro j hj
                    have hval : ∀ (vs : List Value) (c : Array Value) (off j : Nat), (setL c off vs).getD j undef = if off ≤ j ∧ j < off + vs.length ∧ j < c.size then vs.getD (j - off) undef else c.getD j undef := by
                      intro vs
                      induction vs with
                      | nil => intro c off j; simp [setL]; intro h1 h2; omega
                      | cons v vs ih =>
                        intro c off j
                        rw [setL, ih]
                        simp only [Array.size_setIfInBounds, List.length_cons]
                        by_cases e1 : off = j
                        · subst e1
                          rw [if_neg (by omega)]
                          by_cases e2 : off < c.size
                          · rw [if_pos ⟨Nat.le_refl _, by omega, e2⟩]
                            simp [Array.getD_eq_getD_getElem?, e2]
                          · rw [if_neg (by omega)]
                            simp [Array.getD_eq_getD_getElem?, e2]
                        · by_cases e2 : off + 1 ≤ j ∧ j < off + 1 + vs.length ∧ j < c.size
                          · rw [if_pos e2, if_pos ⟨by omega, by omega, e2.2.2⟩]
                            rw [show j - off = (j - (off + 1)) + 1 from by omega]; simp
                          · rw [if_neg e2, if_neg (by omega)]
                            simp [Array.getD_eq_getD_getElem?, e1]
                    rw [hval]
                    rw [Array.size_append] at hj
                    by_cases hjl : j < len * i.size
                    · rw [if_neg (by omega)]
                      have hin : j < old.size := by omega
                      have e1 : (old ++ new).getD j undef = old.getD j undef := by simp [Array.getD_eq_getD_getElem?, Array.getElem?_append, hin]
                      rw [e1]
                      have hlen0 : len * i.size ≠ 0 := by omega
                      -- the old cells are the block's first
                      have hc0 : old.getD j undef = c0.getD j undef ∧ j < c0.size := by
                        unfold Heap.ldN at hold
                        rw [if_neg hlen0] at hold
                        split at hold
                        · cases hold
                        · rw [Option.bind_eq_some_iff] at hold; obtain ⟨d, hd, hold⟩ := hold
                          have : d = (0, c0) := by simpa [Heap.view, hblk, Blk.view] using hd.symm
                          subst this
                          split at hold
                          · rename_i hle
                            cases hold
                            rw [hoff] at hle ⊢
                            have hle2 : 0 - 0 + len * i.size ≤ c0.size := hle.2
                            have e3 : j < min (len * i.size) c0.size := by omega
                            have e4 : j < c0.size := by omega
                            exact ⟨by simp [Array.getD_eq_getD_getElem?, Array.getElem?_extract, e3, e4], e4⟩
                          · cases hold
                      rw [hc0.1]
                      exact (g6 j hc0.2).mono (ext1_ext hf)
                    · have hjn : j - len * i.size < new.size := by omega
                      have hsz2 : j < c'.size := by
                        rw [g4]
                        have := Nat.mul_le_mul_right i.size hroom
                        rw [Nat.add_mul] at this; omega
                      rw [if_pos ⟨by omega, by simp only [Array.length_toList, ← hrel.1]; omega, hsz2⟩]
                      have hin : ¬ j < old.size := by omega
                      have e1 : (old ++ new).getD j undef = new.getD (j - len * i.size) undef := by
                        simp [Array.getD_eq_getD_getElem?, Array.getElem?_append, holdsz, hjl]
                      rw [e1]
                      have := (hrel.2 (j - len * i.size)).mono (ext1_ext (b := b) (K := cap') hf)
                      simpa [Array.getD_eq_getD_getElem?, List.getD_eq_getElem?_getD] using this
                · -- a new row
                  obtain ⟨new', hnew', hrel⟩ := srcCells_ok (P := P) hrel1 hx hn (Nat.le_refl _) hnew
                  obtain ⟨old', hold', hrelo⟩ := hrel1.ldN (P := P) hold hr
                  rw [hoff] at hold'
                  have hrun := append_grow_run (P := P) (w := w) (t := t) (bs' := some ⟨b, 0, none⟩) (cap' := cap') hts hu hxd hk hi hz (hlen w) (by omega) h47 hb hold' hnew'
                  have hge : len + n ≤ grownTo w (len + n) cap' e1 := by simp only [grownTo, Question.cut]; omega
                  -- the old row goes, then the new one comes
                  have hdel := Post.del h hfl
                  refine .ok hrun ⟨ext1 ρ H.next w.heap.size (grownTo w (len + n) cap' e1), .sliceU _ ext1_at hge (by simp only [capU]; omega), hdel.trans ?_⟩
                  have hall := hrelo.append hrel
                  refine Post.grow' (H := H.del a.block) (fr := (0, 0)) hdel.rel hf hi ?_ ?_ ?_ ⟨rfl, rfl, rfl⟩ (by simp [withRow, drew1]) (fun k hk => withRow_old (w := drew1 w) _ _ hk) (withRow_at (w := drew1 w) _ _) (frOk_zero _)
                  · simp only [Array.size_append, zeroCells_size, hzs, ← hrel.1, ← hrelo.1, hns, holdsz, ← Nat.add_mul]
                    congr 1; omega
                  · rw [Array.size_append (xs := old' ++ new'), ← hall.1]; omega
                  · intro j hj
                    have e1 : (old' ++ new' ++ Builtin.zeroCells z.cells (grownTo w (len + n) cap' e1 - (len + n))).getD j undef = (old' ++ new').getD j undef := by
                      have hj' : j < (old' ++ new').size := hall.1 ▸ hj
                      rw [Array.getD_eq_getD_getElem?, Array.getElem?_append_left hj', Array.getD_eq_getD_getElem?]
                    rw [e1]; exact hall.2 j
              · cases hl
            · cases hl
          · rename_i hcU
            by_cases hroom : len + n ≤ cap
            · rw [if_pos hroom] at hl
              obtain ⟨H', hst, rfl⟩ := Option.map_eq_some_iff.1 hl
              have hsX : ∃ b K, ρ a.block = some (b, K) ∧ a.spot = none ∧ bs' = some ⟨b, a.off, none⟩ ∧ cap' = cap ∧ cap < capU := by
                cases hs with
                | slice _ _ _ h1 hc _ => exact ⟨_, _, h1, rfl, rfl, rfl, hc⟩
                | sliceU => exact absurd rfl hcU
                | sliceI => exact absurd rfl hcU
                | sliceE => exact absurd rfl hcU
                | sliceZ => omega
              obtain ⟨b, K, hr, hsp, rfl, rfl, hcu⟩ := hsX
              obtain ⟨new', hnew', hrel⟩ := srcCells_ok (P := P) h hx hn (Nat.le_refl _) hnew
              obtain ⟨g1, g2⟩ := hrel.list
              obtain ⟨w', k1, k2⟩ := h.stN (P := P) hst (by rw [add_block]; exact hr) g1 g2
              rw [add_off] at k1
              have hst' : (storeCells ((⟨b, a.off, none⟩ : Addr).add (len * i.size)) new'.toList).run P w = .ok () w' := by rw [add_none]; exact k1
              refine .ok (append_room_run hts hu hxd hk hi (hlen w) hroom hnew' hst') ⟨ρ, ?_, k2⟩
              obtain ⟨m, off, sp⟩ := a
              simp only at hsp hr; subst hsp
              exact .slice _ _ _ hr hcu hroom
            · rw [if_neg hroom] at hl
              rw [Option.map_eq_some_iff] at hl; obtain ⟨old, hold, rfl⟩ := hl
              have hf : ρ H.next = none := hf0 (by simp [Heap.new])
              have hsX : cap' = cap ∧ ∃ old', (Builtin.firstCells i.size len (.slice bs' len cap')).run P (drew1 w) = .ok old' (drew1 w) ∧ ARel ρ old old' ∧ old.size = len * i.size := by
                have holdsz : old.size = len * i.size := by
                  unfold Heap.ldN at hold
                  split at hold
                  · rename_i h0; cases hold; rw [h0]; rfl
                  · split at hold
                    · cases hold
                    · rw [Option.bind_eq_some_iff] at hold; obtain ⟨d, hd, hold⟩ := hold
                      split at hold
                      · cases hold; simp; omega
                      · cases hold
                cases hs with
                | slice _ _ _ h1 hc _ =>
                  obtain ⟨old', k1, k2⟩ := hrel1.ldN (P := P) hold h1
                  exact ⟨rfl, old', k1, k2, holdsz⟩
                | sliceU => exact absurd rfl hcU
                | sliceI => exact absurd rfl hcU
                | sliceE => exact absurd rfl hcU
                | sliceZ =>
                  have : old = #[] := by simpa [Heap.ldN] using hold.symm
                  subst this
                  exact ⟨rfl, #[], by simp only [Builtin.firstCells, Nat.zero_mul]; rfl, .of_lt rfl fun i hi => absurd hi (Nat.not_lt_zero i), holdsz⟩
              obtain ⟨rfl, old', hold', hrelo, holdsz⟩ := hsX
              obtain ⟨new', hnew', hrel⟩ := srcCells_ok (P := P) hrel1 hx hn (Nat.le_refl _) hnew
              have hrun := append_grow_run (P := P) (w := w) (t := t) hts hu hxd hk hi hz (hlen w) (by omega) h47 hb hold' hnew'
              have hge : len + n ≤ grownTo w (len + n) cap' e := by simp only [grownTo, Question.cut]; omega
              refine .ok hrun ⟨ext1 ρ H.next w.heap.size (grownTo w (len + n) cap' e), .sliceU _ ext1_at hge (by simp only [capU]; omega), ?_⟩
              have hall := hrelo.append hrel
              refine Post.grow' (fr := (0, 0)) h hf hi ?_ ?_ ?_ ⟨rfl, rfl, rfl⟩ (by simp [withRow, drew1]) (fun k hk => withRow_old (w := drew1 w) _ _ hk) (withRow_at (w := drew1 w) _ _) (frOk_zero _)
              · simp only [Array.size_append, zeroCells_size, hzs, ← hrel.1, ← hrelo.1, hns, holdsz, ← Nat.add_mul]
                congr 1; omega
              · rw [Array.size_append (xs := old' ++ new'), ← hall.1]; omega
              · intro j hj
                have e1 : (old' ++ new' ++ Builtin.zeroCells z.cells (grownTo w (len + n) cap' e - (len + n))).getD j undef = (old' ++ new').getD j undef := by
                  have hj' : j < (old' ++ new').size := hall.1 ▸ hj
                  rw [Array.getD_eq_getD_getElem?, Array.getElem?_append_left hj', Array.getD_eq_getD_getElem?]
                rw [e1]; exact hall.2 j
      · cases hl
  · cases hl
end
end Go.PG

namespace Go.PG
section
variable {P : Program} {base : Nat} {ρ : Ren} {H : Heap} {w : World}

theorem copy_ok (h : Rel P base ρ H w) {dt t e : TypeId} {ts : Array TypeId} {i : TypeInfo} {d x d' x' : Value} {r : Value × Heap} (hts : ts[0]? = some dt) (hu : P.underlying dt = some (.slice e)) (hi : P.info? e = some i)
    (hd : VRel ρ d d') (hx : VRel ρ x x') (hl : copyV i.size d x H = some r) : RunsTo P (Builtin.copy_ ts t #[d', x']) w (Good P base ρ H w r.1 r.2) := by
  unfold copyV at hl
  split at hl
  · rename_i bs len cap
    rw [Option.bind_eq_some_iff] at hl; obtain ⟨m, hm, hl⟩ := hl
    rw [Option.bind_eq_some_iff] at hl; obtain ⟨c, hc, hl⟩ := hl
    have hlen := srcLen_ok (P := P) hx hm w
    obtain ⟨c', hc', hrel⟩ := srcCells_ok (P := P) h hx hm (Nat.min_le_left _ _) hc
    cases bs with
    | none =>
      simp only [Option.some.injEq] at hl; subst hl
      cases hd
      have hc2 : (Builtin.firstCells i.size 0 x').run P w = .ok c' w := by simpa using hc'
      exact .ok (w' := w) (by simp [Builtin.copy_, hts, run_und hu, hlen, run_size hi, hc2, goInt]) (Good.same h (.int _ _))
    | some a =>
      rw [Option.map_eq_some_iff] at hl; obtain ⟨H', hst, rfl⟩ := hl
      obtain ⟨a', cap', rfl, _, h0⟩ := hd.slice_inv
      obtain ⟨g1, g2⟩ := hrel.list
      have hst' : ∃ w', (storeCells a' c'.toList).run P w = .ok () w' ∧ Post P base ρ ρ H H' w w' := by
        by_cases hz : len = 0
        · have hc0 : c.toList = [] := by
            subst hz
            have : c.size = 0 := by
              unfold srcCells at hc
              split at hc
              · cases hc; rfl
              · simp [Heap.ldN] at hc; rw [hc]; rfl
              · cases hc; rw [byteRow_size]; simp
              · cases hc
            rw [Array.eq_empty_of_size_eq_zero this]
          have hc0' : c'.toList = [] := by rw [hc0] at g1; exact List.length_eq_zero_iff.1 g1.symm
          rw [hc0] at hst
          have : H' = H := by simpa [Heap.stN] using hst.symm
          subst this
          rw [hc0']
          exact ⟨w, rfl, .refl h⟩
        · obtain ⟨b, K, hr, hsp, rfl⟩ := h0.resolve_left hz
          exact h.stN (P := P) hst hr g1 g2
      obtain ⟨w', k1, k2⟩ := hst'
      exact .ok (w' := w') (by simp [Builtin.copy_, hts, run_und hu, hlen, run_size hi, hc', goInt, k1]) ⟨ρ, .int _ _, k2⟩
  · cases hl
theorem len_ok {t : TypeId} {ty : TypeId} {x x' v : Value} (hx : VRel ρ x x') (hl : pLen P t x = some v) (w : World) : (Builtin.len_ #[t] ty #[x']).run P w = .ok v w ∧ flat v = true := by
  unfold pLen at hl
  split at hl
  · rename_i hu
    unfold lenSt at hl
    split at hl
    · cases hl; rw [hx.string_inv]; exact ⟨by simp [Builtin.len_, run_und hu, goInt], rfl⟩
    · cases hl
  · rename_i e hu
    unfold lenSl at hl
    split at hl
    · rename_i a n c
      cases hl
      cases a with
      | none => cases hx; exact ⟨by simp [Builtin.len_, run_und hu, goInt], rfl⟩
      | some a => obtain ⟨a', c', rfl, _⟩ := hx.slice_inv; exact ⟨by simp [Builtin.len_, run_und hu, goInt], rfl⟩
    · cases hl
  · rename_i n e hu
    cases hl
    exact ⟨by simp [Builtin.len_, run_und hu, goInt], rfl⟩
  · cases hl
/-- Values side by side in lists. -/
def LRel (ρ : Ren) : List Value → List Value → Prop
  | [], [] => True
  | x :: xs, y :: ys => VRel ρ x y ∧ LRel ρ xs ys
  | _, _ => False
theorem fold_ok {f : Value → Value → Option Value} {g : Value → Value → Sem Value} (hfg : ∀ x x' y y' v w, VRel ρ x x' → VRel ρ y y' → f x y = some v → (g x' y').run P w = .ok v w ∧ flat v = true) :
    ∀ (l l' : List Value) (x x' v : Value), LRel ρ l l' → VRel ρ x x' → l.foldlM f x = some v → ∃ v', (l'.foldlM g x').run P w = .ok v' w ∧ VRel ρ v v'
  | [], [], x, x', v, _, hx, h => by
    simp at h; subst h; exact ⟨x', rfl, hx⟩
  | y :: l, y' :: l', x, x', v, hl, hx, h => by
    simp only [List.foldlM_cons, Option.bind_eq_bind, Option.bind_eq_some_iff] at h
    obtain ⟨u, hu, h⟩ := h
    obtain ⟨h1, h2⟩ := hfg _ _ _ _ _ w hx hl.1 hu
    obtain ⟨v', h3, h4⟩ := fold_ok hfg l l' u u v hl.2 (.flat h2) h
    exact ⟨v', by simp [List.foldlM_cons, h1, h3], h4⟩
  | [], _ :: _, _, _, _, hl, _, _ => hl.elim
  | _ :: _, [], _, _, _, hl, _, _ => hl.elim
theorem max_ok {l l' : List Value} {v : Value} {ts : Array TypeId} {t : TypeId} (hl : LRel ρ l l') (h : fold1 maxI l = some v) (w : World) : ∃ v', (Builtin.max_ ts t l'.toArray).run P w = .ok v' w ∧ VRel ρ v v' := by
  cases l with
  | nil => cases h
  | cons x l =>
    cases l' with
    | nil => exact hl.elim
    | cons x' l' =>
      obtain ⟨v', h1, h2⟩ := fold_ok (P := P) (w := w) (g := Builtin.max2) (fun x x' y y' v w hx hy h => by
        unfold maxI at h
        split at h
        · cases h; rw [hx.int_inv, hy.int_inv]; exact ⟨rfl, rfl⟩
        · cases h) l l' x x' v hl.2 hl.1 h
      exact ⟨v', by simpa [Builtin.max_] using h1, h2⟩
theorem min_ok {l l' : List Value} {v : Value} {ts : Array TypeId} {t : TypeId} (hl : LRel ρ l l') (h : fold1 minI l = some v) (w : World) : ∃ v', (Builtin.min_ ts t l'.toArray).run P w = .ok v' w ∧ VRel ρ v v' := by
  cases l with
  | nil => cases h
  | cons x l =>
    cases l' with
    | nil => exact hl.elim
    | cons x' l' =>
      obtain ⟨v', h1, h2⟩ := fold_ok (P := P) (w := w) (g := Builtin.min2) (fun x x' y y' v w hx hy h => by
        unfold minI at h
        split at h
        · cases h; rw [hx.int_inv, hy.int_inv]; exact ⟨rfl, rfl⟩
        · cases h) l l' x x' v hl.2 hl.1 h
      exact ⟨v', by simpa [Builtin.min_] using h1, h2⟩

/-! ### Equality -/
theorem eq_sound : ∀ d : Nat,
    (∀ (t : TypeId) (x y : Value) (b : Bool) (x' y' : Value) (D : Nat) (w : World), d ≤ D → eqV P d t x y = some b → VRel ρ x x' → VRel ρ y y' → (Op.equalIn D t x' y').run P w = .ok b w) ∧
    (∀ (fs : List Field) (xs ys : Array Value) (b : Bool) (xs' ys' : Array Value) (D : Nat) (w : World), d ≤ D + 1 → eqFs P d fs xs ys = some b → ARel ρ xs xs' → ARel ρ ys ys' → (Op.eqFields D xs' ys' fs).run P w = .ok b w) := by
  intro d
  induction d with
  | zero => exact ⟨fun t x y b x' y' D w _ h => by simp [eqV] at h, fun fs xs ys b xs' ys' D w _ h => by simp [eqFs] at h⟩
  | succ d ih =>
    constructor
    · intro t x y b x' y' D w hD h hx hy
      obtain ⟨D, rfl⟩ : ∃ E, D = E + 1 := ⟨D - 1, by omega⟩
      unfold eqV at h
      split at h
      · rename_i hu; cases h; rw [hx.bool_inv, hy.bool_inv]; simp [Op.equalIn, run_und hu]
      · rename_i k0 k a k' c hu
        rw [hx.int_inv, hy.int_inv]
        split at h
        · rename_i e; subst e; cases h; simp [Op.equalIn, run_und hu]
        · cases h
      · rename_i hu; cases h; rw [hx.string_inv, hy.string_inv]; simp [Op.equalIn, run_und hu]
      · rename_i c hu
        cases h
        cases hx
        cases c with
        | none => cases hy; simp [Op.equalIn, run_und hu]
        | some c => obtain ⟨b2, K, _, _, rfl⟩ := hy.ptr_inv; simp [Op.equalIn, run_und hu]
      · rename_i hu
        cases h
        obtain ⟨b2, K, _, _, rfl⟩ := hx.ptr_inv
        cases hy
        simp [Op.equalIn, run_und hu]
      · rename_i hu; cases h; cases hx; cases hy; simp [Op.equalIn, run_und hu]
      · rename_i hu; cases h; cases hx; cases hy; simp [Op.equalIn, run_und hu]
      · rename_i hu; cases h; cases hx; cases hy; simp [Op.equalIn, run_und hu]
      · rename_i ms tx vx ty vy hu
        cases hx with
        | iface t hx =>
        cases hy with
        | iface t2 hy =>
        split at h
        · rename_i hne
          cases h
          simp only [Op.equalIn, Sem.run_bind, run_und hu, Result.andThen_ok]
          rw [if_pos hne]; rfl
        · rename_i he
          simp only [ne_eq, Decidable.not_not] at he; subst he
          split at h
          · rename_i i hi
            split at h
            · rename_i hc
              have := ih.1 _ _ _ _ _ _ D w (by omega) h hx hy
              simp only [Op.equalIn, Sem.run_bind, run_und hu, Result.andThen_ok, ne_eq, not_true_eq_false, if_false, run_info hi, hc, Bool.not_true, Bool.false_eq_true]
              exact this
            · cases h
          · cases h
      · rename_i fs xs ys hu
        split at h
        · cases h
        rename_i hst
        obtain ⟨xs', rfl, hx'⟩ := hx.agg_inv
        obtain ⟨ys', rfl, hy'⟩ := hy.agg_inv
        have hfo : P.fieldsOf t = fs := by simp [Program.fieldsOf, hu]
        rw [run_equalIn_struct w D t xs' ys' (by rw [hfo]; exact hu) (by simpa using hst), hfo]
        exact ih.2 _ _ _ _ _ _ D w (by omega) h hx' hy'
      · rename_i n0 c0 c n cp hu
        cases h
        cases hx
        cases c with
        | none => cases hy; simp [Op.equalIn, run_und hu]
        | some c => obtain ⟨a', c', rfl, _⟩ := hy.slice_inv; simp [Op.equalIn, run_und hu]
      · rename_i hu
        cases h
        obtain ⟨a', c', rfl, _⟩ := hx.slice_inv
        cases hy
        simp [Op.equalIn, run_und hu]
      · rename_i k0 e0 c hu
        cases h
        cases hx
        cases c with
        | none => cases hy; simp [Op.equalIn, run_und hu]
        | some c => cases hy; simp [Op.equalIn, run_und hu]
      · rename_i hu
        cases h
        cases hx; cases hy
        simp [Op.equalIn, run_und hu]
      · rename_i hu; cases h; cases hx; cases hy; simp [Op.equalIn, run_und hu]
      · rename_i hu; cases h; cases hx; cases hy; simp [Op.equalIn, run_und hu]
      · rename_i hu; cases h; cases hx; cases hy; simp [Op.equalIn, run_und hu]
      · cases h
    · intro fs xs ys b xs' ys' D w hD h hx hy
      cases fs with
      | nil => simp only [eqFs, Option.some.injEq] at h; subst h; rfl
      | cons f fs =>
        simp only [eqFs] at h
        simp only [Op.eqFields]
        by_cases hn : f.name = "_"
        · rw [if_pos hn] at h
          rw [if_neg (by simpa using hn)]
          exact ih.2 _ _ _ _ _ _ D w (by omega) h hx hy
        · rw [if_neg hn] at h
          rw [if_pos (by simpa using hn)]
          split at h
          · rename_i n hlay
            obtain ⟨xa, hxa, hxr⟩ := part_ok (P := P) (v := .agg (xs.extract f.offset (f.offset + n))) (off := f.offset) hlay hx (by simp [partV]) w
            obtain ⟨ya, hya, hyr⟩ := part_ok (P := P) (v := .agg (ys.extract f.offset (f.offset + n))) (off := f.offset) hlay hy (by simp [partV]) w
            split at h
            · rename_i heq
              have := ih.1 _ _ _ _ _ _ D w (by omega) heq hxr hyr
              simp only [Sem.run_bind, hxa, hya, Result.andThen_ok, this, Bool.not_true, Bool.false_eq_true, if_false]
              exact ih.2 _ _ _ _ _ _ D w (by omega) h hx hy
            · rename_i r hne
              cases b with
              | true => exact absurd h hne
              | false =>
                have := ih.1 _ _ _ _ _ _ D w (by omega) h hxr hyr
                simp only [Sem.run_bind, hxa, hya, Result.andThen_ok, this, Bool.not_false, if_true]; rfl
          · rename_i n hlay
            split at h
            · rename_i a c ha hc
              obtain ⟨xa, hxa, hxr⟩ := part_ok (P := P) (v := a) (off := f.offset) hlay hx (by simp [partV, ha]) w
              obtain ⟨ya, hya, hyr⟩ := part_ok (P := P) (v := c) (off := f.offset) hlay hy (by simp [partV, hc]) w
              split at h
              · rename_i heq
                have := ih.1 _ _ _ _ _ _ D w (by omega) heq hxr hyr
                simp only [Sem.run_bind, hxa, hya, Result.andThen_ok, this, Bool.not_true, Bool.false_eq_true, if_false]
                exact ih.2 _ _ _ _ _ _ D w (by omega) h hx hy
              · rename_i r hne
                cases b with
                | true => exact absurd h hne
                | false =>
                  have := ih.1 _ _ _ _ _ _ D w (by omega) h hxr hyr
                  simp only [Sem.run_bind, hxa, hya, Result.andThen_ok, this, Bool.not_false, if_true]; rfl
            · cases h
          · cases h

theorem VRel.nilIface_of {x : Value} (h : VRel ρ x .nilIface) (hj : x ≠ PG.junk) : x = .nilIface := by
  cases h with
  | nilIface => rfl
  | junk => exact absurd rfl hj
theorem VRel.agg_of {x : Value} {ys : Array Value} (h : VRel ρ x (.agg ys)) : ∃ xs, x = .agg xs := by
  cases h with
  | agg => exact ⟨_, rfl⟩
  | junk h => simp [Value.oneCell'] at h
theorem eqV_junk {d : Nat} {t : TypeId} {x y : Value} {b : Bool} (h : eqV P d t x y = some b) : x ≠ junk ∧ y ≠ junk := by
  cases d with
  | zero => simp [eqV] at h
  | succ d =>
    constructor
    · rintro rfl
      unfold eqV junk at h
      split at h <;> first | (cases h; done) | (rename_i h2 _ _; cases h2; done) | (rename_i h2 _; cases h2; done) | skip
      all_goals simp_all
    · rintro rfl
      unfold eqV junk at h
      split at h <;> first | (cases h; done) | skip
      all_goals simp_all
theorem eqGuard_ok {op : BinOp} {t : TypeId} {xo yo : Operand} {x y x' y' : Value} (hx : VRel ρ x x') (hy : VRel ρ y y') (jx : x ≠ junk) (jy : y ≠ junk) (h : eqOk P t (isConst xo || isConst yo) x y = true) (w : World) :
    (eqGuard op t xo yo x' y').run P w = .ok () w := by
  by_cases hn : x' = .nilIface ∧ y' = .nilIface
  · obtain ⟨rfl, rfl⟩ := hn
    have ex := hx.nilIface_of jx
    have ey := hy.nilIface_of jy
    subst ex; subst ey
    simp only [eqOk] at h
    have last : (isConst xo || isConst yo) = false → (Op.eqGuardIn Op.maxDepth t .nilIface .nilIface).run P w = .ok false w := fun hc' => by
      rw [hc', Bool.false_or] at h
      split at h
      · rename_i ms hu
        have e : ∀ d, (Op.eqGuardIn (d + 1) t .nilIface .nilIface).run P w = .ok false w := fun d => by
          simp only [Op.eqGuardIn, Sem.run_bind, run_und hu, Result.andThen_ok, Sem.run_pure, h, Bool.not_true]
        exact e 9999
      · cases h
    cases op <;> first | rfl | (cases xo <;> cases yo <;> first | rfl | (have l := last rfl; simp only [eqGuard]; simp [l]; done))
  · by_cases ha : ∃ a b, x' = .agg a ∧ y' = .agg b
    · obtain ⟨a, b, rfl, rfl⟩ := ha
      obtain ⟨xs, rfl⟩ := hx.agg_of
      obtain ⟨ys, rfl⟩ := hy.agg_of
      simp only [eqOk] at h
      have h' : P.eqGuardType P.depth t = false := by simpa using h
      cases op <;> first | rfl | (simp [eqGuard, h']; done)
    · cases op <;> first | rfl | (
        simp only [eqGuard]
        rw [if_neg (by simp)]
        split
        · exact absurd ⟨rfl, rfl⟩ hn
        · exact absurd ⟨_, _, rfl, rfl⟩ ha
        · rfl)
/-- Values that are compared at a type that is no number's and no string's. -/
theorem eqV_kind {d : Nat} {t : TypeId} {x y : Value} {b : Bool} (h : eqV P d t x y = some b) (htk : tk P t = 3) :
    (∀ k n, x ≠ .int k n) ∧ (∀ s, x ≠ .string s) ∧ (∀ k n, y ≠ .int k n) := by
  cases d with
  | zero => simp [eqV] at h
  | succ d =>
    unfold tk at htk
    refine ⟨fun k n e => ?_, fun s e => ?_, fun k n e => ?_⟩ <;> subst e <;> unfold eqV at h <;> (split at h <;> first | (cases h; done) | (rename_i hu; simp [hu] at htk; done) | (simp_all; done))
theorem binOp_eq {t : TypeId} {x y : Value} (h1 : ∀ k n, x ≠ .int k n) (h2 : ∀ s, x ≠ .string s) (h3 : ∀ k n, y ≠ .int k n) (h4 : ∀ k n, x ≠ .float k n) (h5 : ∀ k a b, x ≠ .complex k a b) :
    binOp .eql t x y = (do pure (.bool (← Op.equal t x y))) ∧ binOp .neq t x y = (do pure (.bool (!(← Op.equal t x y)))) := by
  cases x <;> first | exact absurd rfl (h1 _ _) | exact absurd rfl (h2 _) | exact absurd rfl (h4 _ _) | exact absurd rfl (h5 _ _ _) | skip
  all_goals cases y <;> first | exact absurd rfl (h3 _ _) | exact ⟨rfl, rfl⟩
theorem VRel.kinds {x x' : Value} (h : VRel ρ x x') (j : x ≠ PG.junk) (h1 : ∀ k n, x ≠ .int k n) (h2 : ∀ s, x ≠ .string s) : (∀ k n, x' ≠ .int k n) ∧ (∀ s, x' ≠ .string s) := by
  cases h <;> first | exact absurd rfl j | exact absurd rfl (h1 _ _) | exact absurd rfl (h2 _) | exact ⟨fun _ _ => by simp, fun _ => by simp⟩
theorem eqV_float {d : Nat} {t : TypeId} {x y : Value} {b : Bool} (h : eqV P d t x y = some b) : (∀ k n, x ≠ .float k n) := by
  cases d with
  | zero => simp [eqV] at h
  | succ d => intro k n e; subst e; unfold eqV at h; split at h <;> first | (cases h; done) | simp_all
theorem VRel.floats {x x' : Value} (h : VRel ρ x x') (j : x ≠ PG.junk) (h1 : ∀ k n, x ≠ .float k n) : (∀ k n, x' ≠ .float k n) ∧ (∀ k a b, x' ≠ .complex k a b) := by
  cases h <;> first | exact absurd rfl j | exact absurd rfl (h1 _ _) | exact ⟨fun _ _ => by simp, fun _ _ _ => by simp⟩
theorem binE_ok {op : BinOp} {t : TypeId} {xo yo : Operand} {x y x' y' v : Value} (hx : VRel ρ x x') (hy : VRel ρ y y') (h : binE P op t (isConst xo || isConst yo) x y = some v) (htk : tk P t = 3) (w : World) :
    (do eqGuard op t xo yo x' y'; binOp op t x' y' : Sem Value).run P w = .ok v w ∧ flat v = true := by
  unfold binE at h
  have go : ∀ b, eqOk P t (isConst xo || isConst yo) x y = true → eqV P 100 t x y = some b →
      (∀ op, (eqGuard op t xo yo x' y').run P w = .ok () w) ∧ (Op.equal t x' y').run P w = .ok b w ∧ binOp .eql t x' y' = (do pure (.bool (← Op.equal t x' y'))) ∧ binOp .neq t x' y' = (do pure (.bool (!(← Op.equal t x' y')))) := by
    intro b hok hb
    obtain ⟨jx, jy⟩ := eqV_junk hb
    obtain ⟨k1, k2, k3⟩ := eqV_kind hb htk
    have f1 := eqV_float hb
    obtain ⟨g1, g2⟩ := hx.kinds jx k1 k2
    obtain ⟨g3, g4⟩ := hx.floats jx f1
    have g5 : ∀ k n, y' ≠ .int k n := by
      cases hy <;> first | exact absurd rfl jy | exact absurd rfl (k3 _ _) | exact fun _ _ => by simp
    exact ⟨fun op => eqGuard_ok hx hy jx jy hok w, (eq_sound 100).1 t x y b x' y' Op.maxDepth w (by simp [Op.maxDepth]) hb hx hy, binOp_eq g1 g2 g5 g3 g4⟩
  split at h
  · split at h
    · rename_i hok
      obtain ⟨b, hb, rfl⟩ := Option.map_eq_some_iff.1 h
      obtain ⟨h1, h2, h3, _⟩ := go b hok hb
      exact ⟨by simp [h1, h3, h2], rfl⟩
    · cases h
  · split at h
    · rename_i hok
      obtain ⟨b, hb, rfl⟩ := Option.map_eq_some_iff.1 h
      obtain ⟨h1, h2, _, h4⟩ := go b hok hb
      exact ⟨by simp [h1, h4, h2], rfl⟩
    · cases h
  · cases h
theorem bin_ok {op : BinOp} {t : TypeId} {xo yo : Operand} {x y x' y' v : Value} (hx : VRel ρ x x') (hy : VRel ρ y y') (h : pBin P op t (isConst xo || isConst yo) x y = some v) (w : World) :
    (do eqGuard op t xo yo x' y'; binOp op t x' y' : Sem Value).run P w = .ok v w ∧ flat v = true := by
  unfold pBin at h
  split at h
  · obtain ⟨⟨k, a, k', b, rfl, rfl⟩, hf⟩ := binI_flat h
    rw [hx.int_inv, hy.int_inv]
    exact ⟨binI_ok xo yo h, hf⟩
  · obtain ⟨⟨a, b, rfl, rfl⟩, hf⟩ := binS_flat h
    rw [hx.string_inv, hy.string_inv]
    exact ⟨binS_ok xo yo h, hf⟩
  · rename_i htk
    exact binE_ok hx hy h htk w
  · cases h
end
end Go.PG

namespace Go.PG
section
variable {P : Program} {base : Nat} {ρ : Ren} {H : Heap} {w : World}

def OpOk (P : Program) (s : Sem Next) (w : World) (Q : Value → World → Prop) : Prop :=
  match s.run P w with
  | .ok (.value v) w' => Q v w'
  | .ok .skip w' => Q undef w'
  | .ok (.enter f aas) w' => Calls P f aas w' fun e w'' => ∃ v, e = .returned v ∧ Q v w''
  | _ => False
theorem OpOk.val {s : Sem Value} {Q : Value → World → Prop} (h : RunsTo P s w Q) : OpOk P (do pure (.value (← s))) w Q := by
  obtain ⟨v, w', h1, h2⟩ := h
  simp only [OpOk, Sem.run_bind, h1, Result.andThen_ok, Sem.run_pure]; exact h2
theorem OpOk.val' {s : Sem Value} {Q : Value → World → Prop} {v : Value} {w' : World} (h : s.run P w = .ok v w') (hq : Q v w') : OpOk P (do pure (.value (← s))) w Q := .val ⟨v, w', h, hq⟩
theorem OpOk.pure {Q : Value → World → Prop} {v : Value} (hq : Q v w) : OpOk P (Pure.pure (.value v)) w Q := hq
theorem OpOk.mono {s : Sem Next} {Q Q' : Value → World → Prop} (h : OpOk P s w Q) (k : ∀ v w', Q v w' → Q' v w') : OpOk P s w Q' := by
  unfold OpOk at *
  split <;> simp_all
  all_goals first | exact k _ _ h | exact h.mono fun e w'' ⟨v, he, hq⟩ => ⟨v, he, k _ _ hq⟩

/-- What is asked of the function that says what a call comes to. -/
def CallOk (P : Program) (base : Nat) (call : CallF) : Prop :=
  ∀ (f : FuncId) (args args' : Array Value) (H : Heap) (v : Value) (H' : Heap) (ρ : Ren) (w : World), call f args H = some (v, H') → Rel P base ρ H w → ARel ρ args args' →
    (∀ n, H.next ≤ n → n < H'.next → ρ n = none) → OpOk P (callFunc f args') w (Good P base ρ H w v H')
/-- What is asked of a program's tables: bytes lie in one cell each. -/
def BytesOk (P : Program) : Prop := ∀ t, P.underlying t = some (.int .u8) → ∃ i, P.info? t = some i ∧ i.size = 1

theorem LRel.of_map {α : Type} {l : List α} {f g : α → Value} (h : ∀ x, x ∈ l → VRel ρ (f x) (g x)) : LRel ρ (l.map f) (l.map g) := by
  induction l with
  | nil => trivial
  | cons x l ih => exact ⟨h x (by simp), ih fun y hy => h y (by simp [hy])⟩
theorem LRel.get {l l' : List Value} (h : LRel ρ l l') : l.length = l'.length ∧ ∀ i, VRel ρ (l.getD i undef) (l'.getD i undef) := by
  induction l generalizing l' with
  | nil => cases l' with
    | nil => exact ⟨rfl, fun i => by simpa using VRel.undef⟩
    | cons _ _ => exact h.elim
  | cons x l ih => cases l' with
    | nil => exact h.elim
    | cons y l' =>
      obtain ⟨h1, h2⟩ := ih h.2
      refine ⟨by simp [h1], fun i => ?_⟩
      cases i with
      | zero => simpa using h.1
      | succ i => simpa using h2 i
theorem LRel.arr {l l' : List Value} (h : LRel ρ l l') : ARel ρ ⟨l⟩ ⟨l'⟩ := by
  obtain ⟨h1, h2⟩ := h.get
  refine ⟨h1, fun i => ?_⟩
  have := h2 i
  simpa [Array.getD_eq_getD_getElem?, List.getD_eq_getElem?_getD] using this
theorem LRel.append {l l' k k' : List Value} (h : LRel ρ l l') (g : LRel ρ k k') : LRel ρ (l ++ k) (l' ++ k') := by
  induction l generalizing l' with
  | nil => cases l' with
    | nil => exact g
    | cons _ _ => exact h.elim
  | cons x l ih => cases l' with
    | nil => exact h.elim
    | cons y l' => exact ⟨h.1, ih h.2⟩
theorem LRel.of_arr {xs ys : Array Value} (hs : xs.size = ys.size) (h : ∀ i, i < xs.size → VRel ρ (xs.getD i undef) (ys.getD i undef)) : LRel ρ xs.toList ys.toList := by
  have key : ∀ (l l' : List Value), l.length = l'.length → (∀ i, i < l.length → VRel ρ (l.getD i undef) (l'.getD i undef)) → LRel ρ l l' := by
    intro l
    induction l with
    | nil => intro l' hl _; cases l' with | nil => trivial | cons _ _ => simp at hl
    | cons x l ih =>
      intro l' hl h
      cases l' with
      | nil => simp at hl
      | cons y l' => exact ⟨by simpa using h 0 (by simp), ih l' (by simpa using hl) fun i hi => by simpa using h (i + 1) (by simpa using hi)⟩
  refine key _ _ (by simpa using hs) fun i hi => ?_
  have := h i (by simpa using hi)
  simpa [Array.getD_eq_getD_getElem?, List.getD_eq_getElem?_getD] using this
theorem PRel.of_map {l : List (Nat × Operand)} {f g : Operand → Value} (h : ∀ x, x ∈ l.map (·.2) → VRel ρ (f x) (g x)) : PRel ρ (l.map fun p => (p.1, f p.2)) (l.map fun p => (p.1, g p.2)) := by
  induction l with
  | nil => trivial
  | cons x l ih => exact ⟨rfl, h x.2 (by simp), ih fun y hy => h y (by
      simp only [List.map_cons, List.mem_cons]; exact .inr hy)⟩
theorem ORel.of_map {x : Option Operand} {f g : Operand → Value} (h : ∀ y, y ∈ x.toArray.toList → VRel ρ (f y) (g y)) : ORel ρ (x.map f) (x.map g) := by
  cases x with
  | none => trivial
  | some y => exact h y (by simp)

theorem fn_ok {call : CallF} (hcall : CallOk P base call) (h : Rel P base ρ H w) {f f' : Value} {l l' : List Value} {g : FuncId} {aas : Array Value} {v : Value} {H1 : Heap} (hf : VRel ρ f f') (hl : LRel ρ l l')
    (hp : pFn f l = some (g, aas)) (hc : call g aas H = some (v, H1)) (hfr : ∀ n, H.next ≤ n → n < H1.next → ρ n = none) :
    OpOk P (do let d ← Deferred.ofValue f' l'.toArray; invoke d.target d.args) w (Good P base ρ H w v H1) := by
  unfold pFn at hp
  split at hp
  · rename_i g0 first captured
    cases hp
    cases hf with
    | func fn ha hb h1 h2 =>
      rename_i aas' bs'
      have hargs : ARel ρ ⟨first.toList ++ (l ++ captured.toList)⟩ ((aas' ++ l'.toArray) ++ bs') := by
        have := ((LRel.of_arr ha h1).append (hl.append (LRel.of_arr hb h2))).arr
        have e : (aas' ++ l'.toArray) ++ bs' = ⟨aas'.toList ++ (l' ++ bs'.toList)⟩ := by
          apply Array.ext'; simp
        rw [e]; exact this
      have := hcall _ _ _ H v H1 ρ w hc h hargs hfr
      exact this
  · cases hp
theorem method_ok {call : CallF} (hcall : CallOk P base call) (h : Rel P base ρ H w) {x x' : Value} {name : String} {l l' : List Value} {g : FuncId} {aas : Array Value} {v : Value} {H1 : Heap} (hx : VRel ρ x x') (hl : LRel ρ l l')
    (hp : pMethod P x name l = some (g, aas)) (hc : call g aas H = some (v, H1)) (hfr : ∀ n, H.next ≤ n → n < H1.next → ρ n = none) :
    OpOk P (callMethod x' name l'.toArray) w (Good P base ρ H w v H1) := by
  unfold pMethod at hp
  split at hp
  · rename_i t u
    cases hx with
    | iface t hx =>
      rename_i u'
      split at hp
      · cases hp
      · rename_i i hi
        split at hp
        · cases hp
        · rename_i m hm
          split at hp
          · rename_i hpath
            have hfind : i.methods.find? (·.name == name) = some m := by rw [← Array.find?_toList]; exact hm
            have hpl : m.path.toList = [] := by simpa using hpath
            have step : ∀ (f : FuncId) (b : Bool) (d : TypeDesc), m.func = some (f, b) → P.underlying t = some d → (b = true → ∃ e, d = .pointer e) → (b = false → ∀ e, d ≠ .pointer e) →
                (method (P.types.size + Made.depth) t u' name).run P w = .ok (f, u') w := by
              intro f b d hmf hu h1 h2
              obtain ⟨n, hn⟩ : ∃ n, P.types.size + Made.depth = n + 1 := ⟨P.types.size + 99, rfl⟩
              rw [hn]
              simp only [method, Sem.run_bind, run_info hi, Result.andThen_ok, hfind, hpl, follow, Sem.run_pure, hmf]
              cases b with
              | true =>
                obtain ⟨e, rfl⟩ := h1 rfl
                simp [receiverAt, run_und hu, Place.get]
              | false =>
                have hne := h2 rfl
                simp only [receiverAt, Sem.run_bind, run_und hu, Result.andThen_ok]
                cases d <;> first | exact absurd rfl (hne _) | rfl
            have fin : ∀ (f : FuncId), (method (P.types.size + Made.depth) t u' name).run P w = .ok (f, u') w → f = g → aas = ⟨u :: l⟩ → OpOk P (callMethod (.iface t u') name l'.toArray) w (Good P base ρ H w v H1) := by
              intro f hrun hfg has
              subst hfg; subst has
              have hargs : ARel ρ ⟨u :: l⟩ (#[u'] ++ l'.toArray) := by
                have : LRel ρ (u :: l) (u' :: l') := ⟨hx, hl⟩
                have e : #[u'] ++ l'.toArray = ⟨u' :: l'⟩ := by apply Array.ext'; simp
                rw [e]; exact this.arr
              have := hcall _ _ _ H v H1 ρ w hc h hargs hfr
              unfold OpOk at this ⊢
              simp only [callMethod, Sem.run_bind, run_program, Result.andThen_ok, hrun]
              exact this
            split at hp
            · rename_i f e hmf hu
              cases hp
              exact fin _ (step _ _ _ hmf hu (fun _ => ⟨_, rfl⟩) (fun h => by cases h)) rfl rfl
            · cases hp
            · rename_i f d hne hmf hu
              cases hp
              exact fin _ (step _ _ _ hmf hu (fun h => by cases h) (fun _ e he => hne e he)) rfl rfl
            · cases hp
          · cases hp
  · cases hp

theorem builtin_ok (h : Rel P base ρ H w) {b : Builtin} {ts : Array TypeId} {t : TypeId} {cs : Array Bool} {l l' : List Value} {r : Value × Heap} (hl : LRel ρ l l') (hp : pBuiltin P b ts.toList l H = some r) (hf : H.next < r.2.next → ρ H.next = none) :
    OpOk P (builtin b ts t cs l'.toArray) w (Good P base ρ H w r.1 r.2) := by
  unfold pBuiltin at hp
  split at hp
  · split at hp
    · rename_i t0 x hts
      obtain ⟨v, hv, rfl⟩ := Option.map_eq_some_iff.1 hp
      match l', hl with
      | [x'], hl =>
        have hts' : ts = #[t0] := by apply Array.ext'; simpa using hts
        subst hts'
        obtain ⟨h1, h2⟩ := len_ok (ty := t) hl.1 hv w
        exact OpOk.val' h1 (Good.same h (.flat h2))
    · cases hp
  · split at hp
    · rename_i t0 u0 s x hts
      match l', hl with
      | [s', x'], hl =>
        have hts' : ts[0]? = some t0 ∧ ts[1]? = some u0 := by
          have : ts = #[t0, u0] := by apply Array.ext'; simpa using hts
          subst this; exact ⟨rfl, rfl⟩
        split at hp
        · rename_i e e' hu hu'
          split at hp
          · rename_i i z hi hz
            unfold appendSl at hp
            split at hp
            · exact OpOk.val (append_ok h hts' hu hu' (.inl ⟨_, rfl⟩) hi hz (.inr (fun y => by simp)) hl.1 hl.2.1 hp hf)
            · cases hp
          · cases hp
        · rename_i e hu hu'
          split at hp
          · rename_i i z hi hz
            split at hp
            · rename_i h1
              exact OpOk.val (append_ok h hts' hu hu' (.inr rfl) hi hz (.inl h1) hl.1 hl.2.1 hp hf)
            · cases hp
          · cases hp
        · cases hp
    · cases hp
  · split at hp
    · rename_i t0 tl d x hts
      match l', hl with
      | [d', x'], hl =>
        have hts' : ts[0]? = some t0 := by
          have : ts = ⟨t0 :: tl⟩ := by apply Array.ext'; simpa using hts
          subst this; rfl
        split at hp
        · rename_i e hu
          split at hp
          · rename_i i hi
            exact OpOk.val (copy_ok h hts' hu hi hl.1 hl.2.1 hp)
          · cases hp
        · cases hp
    · cases hp
  · obtain ⟨v, hv, rfl⟩ := Option.map_eq_some_iff.1 hp
    obtain ⟨v', h1, h2⟩ := max_ok (P := P) (ts := ts) (t := t) hl hv w
    exact OpOk.val' h1 (Good.same h h2)
  · obtain ⟨v, hv, rfl⟩ := Option.map_eq_some_iff.1 hp
    obtain ⟨v', h1, h2⟩ := min_ok (P := P) (ts := ts) (t := t) hl hv w
    exact OpOk.val' h1 (Good.same h h2)
  · cases hp

theorem op_sound {call : CallF} (hcall : CallOk P base call) (hb : BytesOk P) (h : Rel P base ρ H w) {o : Oper} {ev ev' : Operand → Value} (hev : ∀ x, x ∈ o.op.operands.toList → VRel ρ (ev x) (ev' x)) {v : Value} {H1 : Heap}
    (hl : opK P call o ev H (fun v H' => some (v, H')) = some (v, H1)) (hfr : ∀ n, H.next ≤ n → n < H1.next → ρ n = none) : OpOk P (execOp ev' o) w (Good P base ρ H w v H1) := by
  have one : ∀ {x : Operand}, o.op.operands = #[x] → VRel ρ (ev x) (ev' x) := fun hx => hev _ (by rw [hx]; simp)
  have pureV : ∀ {s : Sem Value} {ov : Option Value}, (ov.bind fun v => some (v, H)) = some (v, H1) → (∀ v, ov = some v → ∃ v', s.run P w = .ok v' w ∧ VRel ρ v v') → OpOk P (do pure (.value (← s))) w (Good P base ρ H w v H1) := fun hb hk => by
    obtain ⟨u, hu, hb⟩ := Option.bind_eq_some_iff.1 hb
    cases hb
    obtain ⟨v', h1, h2⟩ := hk _ hu
    exact OpOk.val' h1 (Good.same h h2)
  have new : ∀ {s : Sem Value} {ov : Option (Value × Heap)}, (ov.bind fun r => some (r.1, r.2)) = some (v, H1) → (∀ r, ov = some r → r.2 = H1 → RunsTo P s w (Good P base ρ H w r.1 r.2)) → OpOk P (do pure (.value (← s))) w (Good P base ρ H w v H1) := fun hb hk => by
    obtain ⟨u, hu, hb⟩ := Option.bind_eq_some_iff.1 hb
    cases hb
    exact OpOk.val (hk _ hu rfl)
  have fresh : H.next < H1.next → ρ H.next = none := fun hlt => hfr _ (Nat.le_refl _) hlt
  unfold opK at hl
  unfold execOp
  obtain ⟨dst, op, ty, ps, af, gd⟩ := o
  simp only at hl hev one ⊢
  cases op <;> simp only at hl ⊢
  case move x => cases hl; exact OpOk.pure (Good.same h (one rfl))
  case assign x => cases hl; exact OpOk.pure (Good.same h (one rfl))
  case pick c a b =>
    obtain ⟨u, hu, hl⟩ := Option.bind_eq_some_iff.1 hl
    cases hl
    have hc := hev c (by simp [Op.operands])
    have ha := hev a (by simp [Op.operands])
    have hb' := hev b (by simp [Op.operands])
    unfold pPick at hu
    split at hu
    · rename_i hcv; cases hu; rw [hcv] at hc; rw [hc.bool_inv]; exact Good.same h ha
    · rename_i hcv; cases hu; rw [hcv] at hc; rw [hc.bool_inv]; exact Good.same h hb'
    · cases hu
  case alloc t =>
    refine new hl fun r hr he => alloc_ok h (fresh ?_) hr
    subst he
    unfold pAlloc at hr; split at hr
    · cases hr; simp [Heap.new]
    · cases hr
  case box t x =>
    refine new hl fun r hr he => box_ok h (fresh ?_) (one rfl) hr
    subst he
    unfold pBox at hr; split at hr
    · cases hr; simp [Heap.new]
    · cases hr
  case build t parts =>
    refine pureV hl fun v hv => ?_
    have hp : PRel ρ (parts.toList.map fun p => (p.1, ev p.2)) (parts.toList.map fun p => (p.1, ev' p.2)) := PRel.of_map fun x hx => hev x (by simpa [Op.operands] using hx)
    have := build_ok hp hv w
    have e : (parts.map fun x => match x with | (i, x) => (i, ev' x)) = (parts.toList.map fun p => (p.1, ev' p.2)).toArray := by apply Array.ext'; simp
    rw [e]; exact this
  case buildSlice t n parts =>
    have hp : PRel ρ (parts.toList.map fun p => (p.1, ev p.2)) (parts.toList.map fun p => (p.1, ev' p.2)) := PRel.of_map fun x hx => hev x (by simpa [Op.operands] using hx)
    have e : (parts.map fun x => match x with | (i, x) => (i, ev' x)) = (parts.toList.map fun p => (p.1, ev' p.2)).toArray := by apply Array.ext'; simp
    rw [e]
    refine new hl fun r hr he => buildSlice_ok h (fresh ?_) hp hr
    subst he
    unfold pBuildSlice at hr
    repeat' split at hr
    all_goals first | (cases hr; done) | (cases hr; simp [Heap.new])
  case load t a => exact pureV hl fun v hv => load_ok h (one rfl) hv
  case store t a x =>
    obtain ⟨H', hu, hl⟩ := Option.bind_eq_some_iff.1 hl
    cases hl
    obtain ⟨w', h1, h2⟩ := store_ok (P := P) h (hev a (by simp [Op.operands])) (hev x (by simp [Op.operands])) hu
    simp only [OpOk, Sem.run_bind, h1, Result.andThen_ok, Sem.run_pure]
    exact ⟨ρ, .undef, h2⟩
  case nilCheck x =>
    obtain ⟨u, hu, hl⟩ := Option.bind_eq_some_iff.1 hl
    cases hl
    obtain ⟨h1, h2⟩ := nil_ok (one rfl) hu
    rcases h2 with ⟨a, ha⟩ | ⟨t, y, ha⟩ | ⟨f, a, b, ha⟩ <;> (rw [ha] at h1 ⊢; exact Good.same h h1)
  case binOp op t x y yt =>
    exact pureV hl fun v hv => by
      obtain ⟨h1, h2⟩ := bin_ok (hev x (by simp [Op.operands])) (hev y (by simp [Op.operands])) hv w
      exact ⟨v, h1, .flat h2⟩
  case unOp op t x =>
    exact pureV hl fun v hv => by
      obtain ⟨h1, h2⟩ := un_ok (P := P) (w := w) (one rfl) hv
      exact ⟨v, h1, .flat h2⟩
  case convert s d x =>
    refine new hl fun r hr he => convert_ok h (one rfl) (fun i hu hi => ?_) (fun hu => ?_) hr (by rw [he]; exact fresh)
    · obtain ⟨j, hj, h1⟩ := hb _ hu; rw [hi] at hj; cases hj; exact h1
    · obtain ⟨j, hj, _⟩ := hb _ hu; exact ⟨j, hj⟩
  case makeInterface t x => exact pureV hl fun v hv => iface_ok (one rfl) hv w
  case makeFunc fn a b =>
    cases hl
    refine OpOk.val' (v := .func fn (a.map ev') (b.map ev')) (w' := w) rfl (Good.same h ?_)
    have ha : LRel ρ (a.toList.map ev) (a.toList.map ev') := .of_map fun x hx => hev x (by simp [Op.operands]; exact .inl (by simpa using hx))
    have hbb : LRel ρ (b.toList.map ev) (b.toList.map ev') := .of_map fun x hx => hev x (by simp [Op.operands]; exact .inr (by simpa using hx))
    have e1 : a.map ev' = ⟨a.toList.map ev'⟩ := by apply Array.ext'; simp
    have e2 : b.map ev' = ⟨b.toList.map ev'⟩ := by apply Array.ext'; simp
    rw [e1, e2]
    exact .func fn ha.arr.1 hbb.arr.1 (fun i _ => ha.arr.2 i) (fun i _ => hbb.arr.2 i)
  case makeSlice t l c =>
    refine new hl fun r hr he => makeSlice_ok h (fresh ?_) (hev l (by simp [Op.operands])) (hev c (by simp [Op.operands])) hr
    subst he
    unfold pMakeSlice at hr
    split at hr
    · split at hr
      · unfold mkSl at hr
        split at hr
        · split at hr
          · cases hr; simp [Heap.new]
          · cases hr
        · cases hr
      · cases hr
    · cases hr
  case slice t x lo hi mx =>
    exact pureV hl fun v hv => slice_ok (hev x (by simp [Op.operands])) (.of_map fun y hy => hev y (by simp [Op.operands] at hy ⊢; simp [hy])) (.of_map fun y hy => hev y (by simp [Op.operands] at hy ⊢; simp [hy]))
      (.of_map fun y hy => hev y (by simp [Op.operands] at hy ⊢; simp [hy])) hv w
  case fieldAddr t x f =>
    split at hl
    · rename_i off hoff
      unfold fieldOff at hoff
      split at hoff
      · rename_i fs hu
        split at hoff
        · rename_i fd hfd
          split at hoff
          · rename_i i hi
            split at hoff
            · cases hoff
            · rename_i h0
              cases hoff
              exact pureV hl fun v hv => fieldA_ok hu hfd hi h0 (one rfl) hv w
          · cases hoff
        · cases hoff
      · cases hoff
    · cases hl
  case field t x f => exact pureV hl fun v hv => field_ok (one rfl) hv w
  case indexAddr t x i => exact pureV hl fun v hv => indexA_ok (hev x (by simp [Op.operands])) (hev i (by simp [Op.operands])) hv w
  case index t x i => exact pureV hl fun v hv => index_ok (hev x (by simp [Op.operands])) (hev i (by simp [Op.operands])) hv w
  case typeAssert x xt a ok => exact pureV hl fun v hv => assert_ok (one rfl) hv w
  case extract x i => exact pureV hl fun v hv => extract_ok (one rfl) hv w
  case range t x =>
    refine new hl fun r hr he => range_ok h (fresh ?_) (one rfl) hr
    subst he
    unfold pRange at hr
    split at hr
    · split at hr
      · cases hr; simp [Heap.new]
      · cases hr
    · cases hr
  case next x s => exact new hl fun r hr he => next_ok h (one rfl) hr
  case call c =>
    obtain ⟨callee, args, ats⟩ := c
    simp only at hl
    have hargs : LRel ρ (args.toList.map ev) (args.toList.map ev') := .of_map fun x hx => hev x (by simp [Op.operands, Call.operands]; exact .inr (by simpa using hx))
    have earr : args.map ev' = (args.toList.map ev').toArray := by apply Array.ext'; simp
    cases callee with
    | builtin b =>
      simp only at hl
      obtain ⟨r, hr, hl⟩ := Option.bind_eq_some_iff.1 hl
      cases hl
      have := builtin_ok (t := ty) (cs := args.map fun | .const _ => true | _ => false) h hargs hr fresh
      simp only [resolve, OpOk, Sem.run_bind, Sem.run_pure, Result.andThen_ok, invoke]
      rw [earr]; exact this
    | value f =>
      simp only at hl
      obtain ⟨fa, hfa, hl⟩ := Option.bind_eq_some_iff.1 hl
      obtain ⟨r, hr, hl⟩ := Option.bind_eq_some_iff.1 hl
      cases hl
      have hf := hev f (by simp [Op.operands, Call.operands])
      have := fn_ok hcall h hf hargs hfa hr hfr
      simp only [resolve]
      rw [earr]; exact this
    | invoke x m =>
      simp only at hl
      obtain ⟨fa, hfa, hl⟩ := Option.bind_eq_some_iff.1 hl
      obtain ⟨r, hr, hl⟩ := Option.bind_eq_some_iff.1 hl
      cases hl
      have hx := hev x (by simp [Op.operands, Call.operands])
      have := method_ok hcall h hx hargs hfa hr hfr
      have e : (#[ev' x] ++ args.map ev').extract 1 (#[ev' x] ++ args.map ev').size = (args.toList.map ev').toArray := by
        apply Array.ext'
        rw [Array.toList_extract, List.extract_eq_take_drop]
        have e1 : (#[ev' x] ++ args.map ev').toList = ev' x :: args.toList.map ev' := by simp
        have e2 : (#[ev' x] ++ args.map ev').size = (args.toList.map ev').length + 1 := by simp; omega
        rw [e1, e2, List.drop_succ_cons, List.drop_zero, Nat.add_sub_cancel, List.take_length]
      have e0 : (#[ev' x] ++ args.map ev')[0]? = some (ev' x) := by rw [Array.getElem?_append_left (by simp)]; rfl
      unfold OpOk at this ⊢
      have e3 : (do let d ← resolve ev' { callee := .invoke x m, args := args, argTypes := ats } ty; invoke d.target d.args : Sem Next).run P w = (callMethod (ev' x) m (args.toList.map ev').toArray).run P w := by
        simp only [resolve, Sem.run_bind, Sem.run_pure, Result.andThen_ok]
        unfold invoke
        simp only []
        rw [e0]
        simp only []
        rw [e]
      rw [e3]; exact this
  all_goals cases hl
end
end Go.PG

namespace Go.PG
section
variable {P : Program} {call : CallF} {R : Type}

theorem opK_bind (o : Oper) (ev : Operand → Value) (H : Heap) (K : Value → Heap → Option R) : opK P call o ev H K = (opK P call o ev H fun v H' => some (v, H')).bind fun r => K r.1 r.2 := by
  obtain ⟨dst, op, ty, ps, af, gd⟩ := o
  cases op <;> simp only [opK, Option.bind_assoc, Option.bind_some, Option.bind_none]
  case fieldAddr t x f => split <;> simp [Option.bind_assoc]
  case call c =>
    obtain ⟨callee, args, ats⟩ := c
    cases callee <;> simp [Option.bind_assoc]
theorem runAll_bind : ∀ (os : List Oper) (fr : Fr) (H : Heap) (K : Fr → Heap → Option R), runAll P call os fr H K = (runAll P call os fr H fun fr H => some (fr, H)).bind fun r => K r.1 r.2
  | [], _, _, _ => rfl
  | o :: os, fr, H, K => by
    simp only [runAll]
    rw [opK_bind, opK_bind (K := fun v H' => runAll P call os (putD fr o.dst v) H' fun fr H => some (fr, H)), Option.bind_assoc]
    congr 1; funext r; exact runAll_bind os _ _ _
theorem condG_bind {α : Type} (v : Value) (w : Bool) (A B : Option α) (f : α → Option R) : (condG v w A B).bind f = condG v w (A.bind f) (B.bind f) := by
  unfold condG; split <;> first | rfl | (split <;> rfl)
theorem condV_bind {α : Type} (v : Value) (A B : Option α) (f : α → Option R) : (condV v A B).bind f = condV v (A.bind f) (B.bind f) := by
  unfold condV; split <;> rfl
theorem grpK_bind (ops : Array Oper) : ∀ (gs : List (Option (Nat × Bool) × List Oper)) (fr : Fr) (H : Heap) (K : Fr → Heap → Option R), grpK P call ops gs fr H K = (grpK P call ops gs fr H fun fr H => some (fr, H)).bind fun r => K r.1 r.2
  | [], _, _, _ => rfl
  | (none, os) :: gs, fr, H, K => by
    simp only [grpK]
    rw [runAll_bind, runAll_bind (K := fun fr H => grpK P call ops gs fr H fun fr H => some (fr, H)), Option.bind_assoc]
    congr 1; funext r; exact grpK_bind ops gs _ _ _
  | (some (j, w), os) :: gs, fr, H, K => by
    simp only [grpK]
    split
    · rw [condG_bind]
      congr 1
      · rw [runAll_bind, runAll_bind (K := fun fr H => grpK P call ops gs fr H fun fr H => some (fr, H)), Option.bind_assoc]
        congr 1; funext r; exact grpK_bind ops gs _ _ _
      · exact grpK_bind ops gs _ _ _
    · rfl
theorem opD_bind (b : List Nat) (os : List (Nat × Oper)) (i : Nat) (o : Oper) (fr : Fr) (H : Heap) (hist : List (Nat × Nat × Nat)) (K : Value → Heap → List (Nat × Nat × Nat) → Option R) :
    opD P call b os i o fr H hist K = (opD P call b os i o fr H hist fun v H hist => some (v, H, hist)).bind fun r => K r.1 r.2.1 r.2.2 := by
  unfold opD
  split <;> (try split) <;> first | rfl | (rw [opK_bind]; rw [opK_bind (R := Value × Heap × List (Nat × Nat × Nat)), Option.bind_assoc]; rfl)
theorem runAllD_bind (b : List Nat) (all : List (Nat × Oper)) : ∀ (os : List (Nat × Oper)) (fr : Fr) (H : Heap) (hist : List (Nat × Nat × Nat)) (K : Fr → Heap → List (Nat × Nat × Nat) → Option R),
    runAllD P call b all os fr H hist K = (runAllD P call b all os fr H hist fun fr H hist => some (fr, H, hist)).bind fun r => K r.1 r.2.1 r.2.2
  | [], _, _, _, _ => rfl
  | (i, o) :: os, fr, H, hist, K => by
    simp only [runAllD]
    rw [opD_bind, opD_bind (K := fun v H' hist' => runAllD P call b all os (putD fr o.dst v) H' hist' fun fr H hist => some (fr, H, hist)), Option.bind_assoc]
    congr 1; funext r; exact runAllD_bind b all os _ _ _ _
theorem grpKD_bind (ops : Array Oper) (b : List Nat) (all : List (Nat × Oper)) : ∀ (gs : List (Option (Nat × Bool) × List (Nat × Oper))) (fr : Fr) (H : Heap) (hist : List (Nat × Nat × Nat)) (K : Fr → Heap → Option R),
    grpKD P call ops b all gs fr H hist K = (grpKD P call ops b all gs fr H hist fun fr H => some (fr, H)).bind fun r => K r.1 r.2
  | [], _, _, _, _ => rfl
  | (none, os) :: gs, fr, H, hist, K => by
    simp only [grpKD]
    rw [runAllD_bind, runAllD_bind (K := fun fr H hist => grpKD P call ops b all gs fr H hist fun fr H => some (fr, H)), Option.bind_assoc]
    congr 1; funext r; exact grpKD_bind ops b all gs _ _ _ _
  | (some (j, w), os) :: gs, fr, H, hist, K => by
    simp only [grpKD]
    split
    · rw [condG_bind]
      congr 1
      · rw [runAllD_bind, runAllD_bind (K := fun fr H hist => grpKD P call ops b all gs fr H hist fun fr H => some (fr, H)), Option.bind_assoc]
        congr 1; funext r; exact grpKD_bind ops b all gs _ _ _ _
      · exact grpKD_bind ops b all gs _ _ _ _
    · rfl
theorem regK_bind (ops : Array Oper) (draw : Bool) (fr : Fr) (H : Heap) (K : Fr → Heap → Option R) : regK P call ops draw fr H K = (regK P call ops draw fr H fun fr H => some (fr, H)).bind fun r => K r.1 r.2 := by
  unfold regK
  split
  · split
    · exact grpKD_bind _ _ _ _ _ _ _ _
    · rfl
  · exact grpK_bind _ _ _ _ _
abbrev Out := Ex × Fr × Heap
def ret : Ex → Fr → Heap → Option Out := fun e fr H => some (e, fr, H)
theorem seqC_bind (A : Fr → Heap → Option Out) (K : Ex → Fr → Heap → Option R) (e : Ex) (fr : Fr) (H : Heap) : seqC (fun fr H => (A fr H).bind fun r => K r.1 r.2.1 r.2.2) K e fr H = (seqC A ret e fr H).bind fun r => K r.1 r.2.1 r.2.2 := by
  cases e <;> rfl
theorem iterK_bind {body : (Ex → Fr → Heap → Option R) → Fr → Heap → Option R} {body' : (Ex → Fr → Heap → Option Out) → Fr → Heap → Option Out} (hb : ∀ K fr H, body K fr H = (body' ret fr H).bind fun r => K r.1 r.2.1 r.2.2)
    (hb' : ∀ K fr H, body' K fr H = (body' ret fr H).bind fun r => K r.1 r.2.1 r.2.2) (K : Ex → Fr → Heap → Option R) : ∀ (k : Nat) (fr : Fr) (H : Heap), iterK body K k fr H = (iterK body' ret k fr H).bind fun r => K r.1 r.2.1 r.2.2
  | 0, _, _ => rfl
  | k + 1, fr, H => by
    simp only [iterK]
    rw [hb, hb' (seqC (iterK body' ret k) ret), Option.bind_assoc]
    congr 1; funext r
    obtain ⟨e, fr', H'⟩ := r
    cases e
    · exact iterK_bind hb hb' K k fr' H'
    · rfl
    · rfl
theorem denK_bind (k : Nat) (c : Code) : ∀ (K : Ex → Fr → Heap → Option R) (fr : Fr) (H : Heap), denK P call k c K fr H = (denK P call k c ret fr H).bind fun r => K r.1 r.2.1 r.2.2 := by
  have main : ∀ (R : Type) (K : Ex → Fr → Heap → Option R) (fr : Fr) (H : Heap), denK P call k c K fr H = (denK P call k c ret fr H).bind fun r => K r.1 r.2.1 r.2.2 := by
    induction c with
    | skip => intro R K fr H; rfl
    | label l => intro R K fr H; rfl
    | region id ops draw =>
      intro R K fr H
      simp only [denK]
      rw [regK_bind, regK_bind (K := ret .normal), Option.bind_assoc]
      rfl
    | seq a b iha ihb =>
      intro R K fr H
      simp only [denK]
      rw [iha R, iha Out (seqC (denK P call k b ret) ret), Option.bind_assoc]
      congr 1; funext r
      obtain ⟨e, fr', H'⟩ := r
      cases e
      · exact ihb R K fr' H'
      · rfl
      · rfl
    | cond x a b iha ihb =>
      intro R K fr H
      simp only [denK]
      rw [condV_bind, ← iha R, ← ihb R]
    | block id c ih =>
      intro R K fr H
      simp only [denK]
      rw [ih R, ih Out (blkC id ret), Option.bind_assoc]
      congr 1; funext r
      obtain ⟨e, fr', H'⟩ := r
      cases e
      · rfl
      · simp only [blkC]; split <;> rfl
      · rfl
    | loop c ih =>
      intro R K fr H
      simp only [denK]
      exact iterK_bind (fun K fr H => ih R K fr H) (fun K fr H => ih Out K fr H) K k fr H
    | exit id => intro R K fr H; rfl
    | ret => intro R K fr H; rfl
    | scope c ih => intro R K fr H; simp only [denK]; exact ih R K fr H
    | goto l => intro R K fr H; rfl
    | refuse s => intro R K fr H; rfl
    | rangeFunc f p a b _ _ => intro R K fr H; rfl
  exact main R

/-! ### Names only grow -/
def DomOk (H : Heap) : Prop := ∀ k, (H.blk k).isSome = true → k < H.next
structure Mono (H H' : Heap) : Prop where
  next : H.next ≤ H'.next
  floor : H'.floor = H.floor
  low : ∀ k, k < H.floor → k < H.next → H'.blk k = H.blk k
  dom : DomOk H → DomOk H'
def CallMono (call : CallF) : Prop := ∀ f args H v H', call f args H = some (v, H') → Mono H H'
theorem Mono.refl (H : Heap) : Mono H H := ⟨Nat.le_refl _, rfl, fun _ _ _ => rfl, id⟩
theorem Mono.trans {A B C : Heap} (h : Mono A B) (k : Mono B C) : Mono A C :=
  ⟨Nat.le_trans h.next k.next, k.floor.trans h.floor, fun n h1 h2 => (k.low n (h.floor ▸ h1) (Nat.lt_of_lt_of_le h2 h.next)).trans (h.low n h1 h2), fun hd => k.dom (h.dom hd)⟩
theorem Mono.new (H : Heap) (b : Blk) : Mono H (H.new b) :=
  ⟨by simp [Heap.new], rfl, fun n _ h2 => by
    have e : n ≠ H.next := by omega
    simp [Heap.new, e], fun hd n hn => by
    by_cases e : n = H.next
    · subst e; simp [Heap.new]
    · have := hd n (by simpa [Heap.new, e] using hn)
      simp [Heap.new]; omega⟩
theorem Mono.set {H : Heap} {n : Nat} {b : Blk} (hf : H.floor ≤ n) (hs : (H.blk n).isSome = true) : Mono H (H.set n b) :=
  ⟨Nat.le_refl _, rfl, fun m h1 _ => by
    have e : m ≠ n := by omega
    simp [Heap.set, e], fun hd m hm => by
    by_cases e : m = n
    · subst e; exact hd m hs
    · exact hd m (by simpa [Heap.set, e] using hm)⟩
theorem Mono.del {H : Heap} {n : Nat} (hf : H.floor ≤ n) : Mono H (H.del n) :=
  ⟨Nat.le_refl _, rfl, fun m h1 _ => by
    have e : m ≠ n := by omega
    simp [Heap.del, e], fun hd m hm => by
    by_cases e : m = n
    · subst e; simp [Heap.del] at hm
    · exact hd m (by simpa [Heap.del, e] using hm)⟩
theorem stN_mono {H H' : Heap} {a : Addr} {vs : List Value} (h : H.stN a vs = some H') : Mono H H' := by
  unfold Heap.stN at h
  split at h
  · cases h; exact .refl _
  · split at h
    · cases h
    · split at h
      · cases h
      · rename_i hfl
        obtain ⟨o, ho, h⟩ := Option.bind_eq_some_iff.1 h
        obtain ⟨d, hd, h⟩ := Option.bind_eq_some_iff.1 h
        split at h
        · cases h; exact .set (by omega) (by simp [ho])
        · cases h
theorem appendV_mono {e : TypeId} {size bytes : Nat} {s x : Value} {H : Heap} {r : Value × Heap} (h : appendV e size bytes s x H = some r) : Mono H r.2 := by
  unfold appendV at h
  split at h
  · obtain ⟨n, hn, h⟩ := Option.bind_eq_some_iff.1 h
    obtain ⟨new, hnew, h⟩ := Option.bind_eq_some_iff.1 h
    split at h
    · cases h; exact .refl _
    · split at h
      · split at h
        · split at h
          · cases h; exact .new _ _
          · cases h
        · split at h
          · split at h
            · rename_i hfl
              obtain ⟨old, hold, h⟩ := Option.bind_eq_some_iff.1 h
              split at h
              · split at h
                · cases h
                · cases h; exact (Mono.del hfl.2).trans (.new _ _)
              · cases h
            · cases h
          · split at h
            · obtain ⟨H', hs, rfl⟩ := Option.map_eq_some_iff.1 h; exact stN_mono hs
            · obtain ⟨old, hs, rfl⟩ := Option.map_eq_some_iff.1 h; exact .new _ _
      · cases h
  · cases h
theorem builtin_mono {b : Builtin} {ts : List TypeId} {args : List Value} {H : Heap} {r : Value × Heap} (h : pBuiltin P b ts args H = some r) : Mono H r.2 := by
  unfold pBuiltin at h
  split at h
  · split at h
    · obtain ⟨v, _, rfl⟩ := Option.map_eq_some_iff.1 h; exact .refl _
    · cases h
  · split at h
    · split at h
      · split at h
        · unfold appendSl at h
          split at h
          · exact appendV_mono h
          · cases h
        · cases h
      · split at h
        · split at h
          · exact appendV_mono h
          · cases h
        · cases h
      · cases h
    · cases h
  · split at h
    · split at h
      · split at h
        · unfold copyV at h
          split at h
          · obtain ⟨m, _, h⟩ := Option.bind_eq_some_iff.1 h
            obtain ⟨c, _, h⟩ := Option.bind_eq_some_iff.1 h
            split at h
            · cases h; exact .refl _
            · obtain ⟨H', hs, rfl⟩ := Option.map_eq_some_iff.1 h; exact stN_mono hs
          · cases h
        · cases h
      · cases h
    · cases h
  · obtain ⟨v, _, rfl⟩ := Option.map_eq_some_iff.1 h; exact .refl _
  · obtain ⟨v, _, rfl⟩ := Option.map_eq_some_iff.1 h; exact .refl _
  · cases h
theorem op_mono (hcall : CallMono call) {o : Oper} {ev : Operand → Value} {H H1 : Heap} {v : Value} (hl : opK P call o ev H (fun v H' => some (v, H')) = some (v, H1)) : Mono H H1 := by
  have pureV : ∀ {ov : Option Value}, (ov.bind fun v => some (v, H)) = some (v, H1) → Mono H H1 := fun hb => by
    obtain ⟨u, hu, hb⟩ := Option.bind_eq_some_iff.1 hb; cases hb; exact .refl _
  have new : ∀ {ov : Option (Value × Heap)}, (ov.bind fun r => some (r.1, r.2)) = some (v, H1) → (∀ r, ov = some r → Mono H r.2) → Mono H H1 := fun hb hk => by
    obtain ⟨u, hu, hb⟩ := Option.bind_eq_some_iff.1 hb; cases hb; exact hk _ hu
  unfold opK at hl
  obtain ⟨dst, op, ty, ps, af, gd⟩ := o
  cases op <;> simp only at hl
  case move x => cases hl; exact .refl _
  case assign x => cases hl; exact .refl _
  case makeFunc fn a b => cases hl; exact .refl _
  case alloc t =>
    refine new hl fun r hr => ?_
    unfold pAlloc at hr; split at hr
    · cases hr; exact .new _ _
    · cases hr
  case box t x =>
    refine new hl fun r hr => ?_
    unfold pBox at hr; split at hr
    · cases hr; exact .new _ _
    · cases hr
  case buildSlice t n parts =>
    refine new hl fun r hr => ?_
    unfold pBuildSlice at hr
    repeat' split at hr
    all_goals first | (cases hr; done) | (cases hr; exact .new _ _)
  case store t a x =>
    obtain ⟨H', hu, hl⟩ := Option.bind_eq_some_iff.1 hl
    cases hl
    unfold pStore at hu
    split at hu
    · unfold stV at hu
      split at hu
      · split at hu
        · exact stN_mono hu
        · cases hu
      · cases hu
    · cases hu
  case convert s d x =>
    refine new hl fun r hr => ?_
    unfold pConvert at hr
    split at hr
    · obtain ⟨v, _, rfl⟩ := Option.map_eq_some_iff.1 hr; exact .refl _
    · obtain ⟨v, _, rfl⟩ := Option.map_eq_some_iff.1 hr; exact .refl _
    · unfold convSB at hr
      split at hr
      · split at hr
        · cases hr; exact .new _ _
        · cases hr
      · cases hr
    · obtain ⟨v, _, rfl⟩ := Option.map_eq_some_iff.1 hr; exact .refl _
    · obtain ⟨v, _, rfl⟩ := Option.map_eq_some_iff.1 hr; exact .refl _
    · cases hr
  case makeSlice t l c =>
    refine new hl fun r hr => ?_
    unfold pMakeSlice at hr
    split at hr
    · split at hr
      · unfold mkSl at hr
        split at hr
        · split at hr
          · cases hr; exact .new _ _
          · cases hr
        · cases hr
      · cases hr
    · cases hr
  case fieldAddr t x f =>
    split at hl
    · exact pureV hl
    · cases hl
  case range t x =>
    refine new hl fun r hr => ?_
    unfold pRange at hr
    split at hr
    · split at hr
      · cases hr; exact .new _ _
      · cases hr
    · cases hr
  case next x s =>
    refine new hl fun r hr => ?_
    unfold pNext at hr
    split at hr
    · split at hr
      · rename_i hfl
        split at hr
        · rename_i hb
          split at hr
          · cases hr; exact .set hfl.2.2 (by simp [hb])
          · cases hr; exact .refl _
        · cases hr
      · cases hr
    · cases hr
  case call c =>
    obtain ⟨callee, args, ats⟩ := c
    cases callee with
    | builtin b => exact new hl fun r hr => builtin_mono hr
    | value f =>
      simp only at hl
      obtain ⟨fa, hfa, hl⟩ := Option.bind_eq_some_iff.1 hl
      obtain ⟨r, hr, hl⟩ := Option.bind_eq_some_iff.1 hl
      cases hl; exact hcall _ _ _ _ _ hr
    | invoke x m =>
      simp only at hl
      obtain ⟨fa, hfa, hl⟩ := Option.bind_eq_some_iff.1 hl
      obtain ⟨r, hr, hl⟩ := Option.bind_eq_some_iff.1 hl
      cases hl; exact hcall _ _ _ _ _ hr
  all_goals first | exact pureV hl | cases hl
end
end Go.PG

namespace Go.PG
section
variable {P : Program} {base : Nat}

theorem eval_evF (a : Act) : a.eval = evF a.tmps := by
  funext x; cases x <;> rfl
theorem wp_of_op {o : Oper} {a : Act} {w : World} {Qv : Value → World → Prop} {K : Act → World → Prop} {Q : Exit → Act → World → Prop} (h : OpOk P (execOp a.eval o) w Qv) (hk : ∀ v w', Qv v w' → K (a.put o.dst v) w') : o.wp P a w K Q := by
  unfold Oper.wp
  unfold OpOk at h
  generalize (execOp a.eval o).run P w = r at h
  cases r with
  | ok n w' =>
    cases n <;> simp only [Oper.upon] at h ⊢ <;> first
      | exact hk _ _ h
      | exact h.mono fun e w'' ⟨v, he, hq⟩ => by subst he; exact hk _ _ hq
      | exact h.elim
  | halt x w' => simp at h

def okOps (os : List Oper) : Bool := os.all fun o => o.op.operands.toList.all flatO
theorem flatC_rel {ρ : Ren} {v : Value} (h : flatC v = true) : VRel ρ v v := by
  unfold flatC at h
  split at h
  · rename_i cs
    exact .agg' (.flat (by rw [← Array.all_toList]; exact h))
  · exact .float _ _
  · exact .flat h
theorem ev_rel {ρ : Ren} {fr tmps : Array Value} (h : ARel ρ fr tmps) {x : Operand} (hx : flatO x = true) : VRel ρ (evF fr x) (evF tmps x) := by
  cases x with
  | tmp t => exact h.2 t
  | const v => exact flatC_rel hx
  | global g => cases hx
  | func f => exact .func _ rfl rfl (fun i hi => absurd hi (Nat.not_lt_zero i)) (fun i hi => absurd hi (Nat.not_lt_zero i))
def Fresh (ρ : Ren) (H : Heap) (top : Nat) : Prop := ∀ n, H.next ≤ n → n < top → ρ n = none
theorem Fresh.step {ρ ρ' : Ren} {H H' : Heap} {w w' : World} {top : Nat} (h : Fresh ρ H top) (k : Post P base ρ ρ' H H' w w') : Fresh ρ' H' top := fun n h1 h2 => by
  cases hx : ρ' n with
  | none => rfl
  | some x =>
    rcases k.dom n x hx with h3 | h3
    · rw [h n (Nat.le_trans k.next h1) h2] at h3; cases h3
    · omega
theorem put_tmps (a : Act) (d : Option Tmp) (v : Value) : (a.put d v).tmps = putD a.tmps d v := by cases d <;> rfl
theorem put_defers (a : Act) (d : Option Tmp) (v : Value) : (a.put d v).defers = a.defers := by cases d <;> rfl
theorem putD_rel {ρ : Ren} {fr tmps : Array Value} (h : ARel ρ fr tmps) (d : Option Tmp) {v v' : Value} (hv : VRel ρ v v') : ARel ρ (putD fr d v) (putD tmps d v') := by
  cases d with
  | none => exact h
  | some d => exact h.set d hv

/-- A guard says yes. -/
def Gd (ops : Array Oper) (gd : Option (Nat × Bool)) (tmps : Array Value) : Prop :=
  match gd with
  | none => True
  | some (j, w) => yielded ops tmps j = some w
/-- No operation of these writes the guard's slot. -/
def Gs (ops : Array Oper) (gd : Option (Nat × Bool)) (os : List Oper) : Prop :=
  match gd with
  | none => True
  | some (j, _) => ∀ d, (ops[j]?).bind (·.dst) = some d → ∀ o, o ∈ os → o.dst ≠ some d
theorem yielded_put {ops : Array Oper} {j : Nat} {tmps : Array Value} {d : Option Tmp} {v : Value} (h : ∀ e, (ops[j]?).bind (·.dst) = some e → d ≠ some e) : yielded ops (putD tmps d v) j = yielded ops tmps j := by
  unfold yielded
  cases he : (ops[j]?).bind (·.dst) with
  | none => rfl
  | some e =>
    cases d with
    | none => rfl
    | some d =>
      have hne : d ≠ e := fun e' => h e he (by rw [e'])
      simp only [Option.bind_some, putD]
      rw [Array.getElem?_setIfInBounds_ne hne]
theorem wanted_of {ops : Array Oper} {gd : Option (Nat × Bool)} {tmps : Array Value} {o : Oper} (hg : o.guard = gd) (h : Gd ops gd tmps) : Region.wanted o (yielded ops tmps) = true := by
  unfold Region.wanted
  rw [hg]
  cases gd with
  | none => rfl
  | some p => simp only [Gd] at h; simp [h]

structure Ctx (P : Program) (base : Nat) (call : CallF) : Prop where
  ok : CallOk P base call
  mono : CallMono call
  bytes : BytesOk P

theorem op_wp {call : CallF} (cx : Ctx P base call) {ρ : Ren} {H H1 : Heap} {fr : Fr} {v : Value} {a : Act} {w : World} {o : Oper} {top : Nat} (hl : opK P call o (evF fr) H (fun v H' => some (v, H')) = some (v, H1))
    (hok : (o.op.operands.toList.all flatO) = true) (h : Rel P base ρ H w) (hfr : ARel ρ fr a.tmps) (hf : Fresh ρ H top) (ht : H1.next ≤ top) {K : Act → World → Prop} {Q : Exit → Act → World → Prop}
    (hk : ∀ ρ' v' w', VRel ρ' v v' → Post P base ρ ρ' H H1 w w' → ARel ρ' (putD fr o.dst v) (a.put o.dst v').tmps → K (a.put o.dst v') w') : o.wp P a w K Q := by
  refine wp_of_op (Qv := Good P base ρ H w v H1) ?_ fun v' w' ⟨ρ', hv, hp⟩ => hk ρ' v' w' hv hp ?_
  · rw [eval_evF]
    exact op_sound cx.ok cx.bytes h (fun x hx => ev_rel hfr (List.all_eq_true.1 hok x hx)) hl fun n h1 h2 => hf n h1 (Nat.lt_of_lt_of_le h2 ht)
  · rw [put_tmps]; exact putD_rel (hfr.mono hp.ext) _ hv

theorem runAll_mono {call : CallF} (cx : CallMono call) : ∀ (os : List Oper) (fr : Fr) (H : Heap) (fr' : Fr) (H' : Heap), runAll P call os fr H (fun fr H => some (fr, H)) = some (fr', H') → Mono H H'
  | [], fr, H, fr', H', h => by cases h; exact .refl _
  | o :: os, fr, H, fr', H', h => by
    simp only [runAll] at h
    rw [opK_bind, Option.bind_eq_some_iff] at h
    obtain ⟨⟨v, H1⟩, h1, h2⟩ := h
    exact (op_mono cx h1).trans (runAll_mono cx os _ _ _ _ h2)
theorem grpK_mono {call : CallF} (cx : CallMono call) (ops : Array Oper) : ∀ (gs : List (Option (Nat × Bool) × List Oper)) (fr : Fr) (H : Heap) (fr' : Fr) (H' : Heap), grpK P call ops gs fr H (fun fr H => some (fr, H)) = some (fr', H') → Mono H H'
  | [], fr, H, fr', H', h => by cases h; exact .refl _
  | (none, os) :: gs, fr, H, fr', H', h => by
    simp only [grpK] at h
    rw [runAll_bind, Option.bind_eq_some_iff] at h
    obtain ⟨⟨fr1, H1⟩, h1, h2⟩ := h
    exact (runAll_mono cx _ _ _ _ _ h1).trans (grpK_mono cx ops gs _ _ _ _ h2)
  | (some (j, w), os) :: gs, fr, H, fr', H', h => by
    simp only [grpK] at h
    split at h
    · unfold condG at h
      split at h
      · split at h
        · rw [runAll_bind, Option.bind_eq_some_iff] at h
          obtain ⟨⟨fr1, H1⟩, h1, h2⟩ := h
          exact (runAll_mono cx _ _ _ _ _ h1).trans (grpK_mono cx ops gs _ _ _ _ h2)
        · exact grpK_mono cx ops gs _ _ _ _ h
      · exact grpK_mono cx ops gs _ _ _ _ h
      · cases h
    · cases h

theorem runAll_wp {call : CallF} (cx : Ctx P base call) {ops : Array Oper} {gd : Option (Nat × Bool)} {Q : Exit → Act → World → Prop} {rest : List Oper} {top : Nat} :
    ∀ (os : List Oper) (fr : Fr) (H : Heap) (fr' : Fr) (H' : Heap) (ρ : Ren) (a : Act) (w : World), runAll P call os fr H (fun fr H => some (fr, H)) = some (fr', H') → okOps os = true → (∀ o, o ∈ os → o.guard = gd) → Gd ops gd a.tmps → Gs ops gd os →
      Rel P base ρ H w → ARel ρ fr a.tmps → Fresh ρ H top → H'.next ≤ top →
      (∀ ρ' a' w', Post P base ρ ρ' H H' w w' → ARel ρ' fr' a'.tmps → a'.defers = a.defers → wpList P ops Q rest a' w') → wpList P ops Q (os ++ rest) a w
  | [], fr, H, fr', H', ρ, a, w, h, _, _, _, _, hr, hfr, _, _, hk => by
    cases h
    exact hk ρ a w (.refl hr) hfr rfl
  | o :: os, fr, H, fr', H', ρ, a, w, h, hok, hg, hgd, hgs, hr, hfr, hf, ht, hk => by
    simp only [runAll] at h
    rw [opK_bind, Option.bind_eq_some_iff] at h
    obtain ⟨⟨v, H1⟩, h1, h2⟩ := h
    simp only [okOps, List.all_cons, Bool.and_eq_true] at hok
    have hm := runAll_mono cx.mono os _ _ _ _ h2
    rw [List.cons_append]
    unfold wpList
    rw [if_pos (wanted_of (hg o (by simp)) hgd)]
    refine .inl (op_wp cx h1 hok.1 hr hfr hf (Nat.le_trans hm.next ht) fun ρ1 v1 w1 hv hp hfr1 => ?_)
    refine runAll_wp cx os _ H1 fr' H' ρ1 _ w1 h2 hok.2 (fun o ho => hg o (by simp [ho])) ?_ ?_ hp.rel hfr1 (hf.step hp) ht fun ρ2 a2 w2 hp2 hfr2 hd => hk ρ2 a2 w2 (hp.trans hp2) hfr2 (by rw [hd, put_defers])
    · cases gd with
      | none => trivial
      | some p =>
        obtain ⟨j, b⟩ := p
        simp only [Gd] at hgd ⊢
        rw [put_tmps, yielded_put (fun e he => hgs e he o (by simp))]
        exact hgd
    · cases gd with
      | none => trivial
      | some p => exact fun d hd o ho => hgs d hd o (by simp [ho])

theorem skip_wp {ops : Array Oper} {j : Nat} {b : Bool} {Q : Exit → Act → World → Prop} {rest : List Oper} {ρ : Ren} {w : World} :
    ∀ (os : List Oper) (fr : Fr) (a : Act), (∀ o, o ∈ os → o.guard = some (j, b)) → yielded ops a.tmps j ≠ some b → Gs ops (some (j, b)) os → ARel ρ fr a.tmps →
      (∀ a', ARel ρ (skipAll os fr) a'.tmps → a'.defers = a.defers → wpList P ops Q rest a' w) → wpList P ops Q (os ++ rest) a w
  | [], fr, a, _, _, _, hfr, hk => hk a hfr rfl
  | o :: os, fr, a, hg, hy, hgs, hfr, hk => by
    rw [List.cons_append]
    unfold wpList
    have hw : ¬ Region.wanted o (yielded ops a.tmps) = true := by
      unfold Region.wanted
      rw [hg o (by simp)]
      simpa using hy
    rw [if_neg hw]
    refine skip_wp os (putD fr o.dst undef) _ (fun o ho => hg o (by simp [ho])) ?_ (fun d hd o ho => hgs d hd o (by simp [ho])) ?_ fun a' h1 h2 => hk a' h1 (by rw [h2, put_defers])
    · rw [put_tmps, yielded_put (fun e he => hgs e he o (by simp))]; exact hy
    · rw [put_tmps]; exact putD_rel hfr _ .undef

theorem gOk_spec {ops : Array Oper} {j : Nat} {b : Bool} {os : List Oper} (h : gOk ops j os = true) : Gs ops (some (j, b)) os := by
  unfold gOk at h
  intro d hd o ho
  simp only [hd, List.all_eq_true, bne_iff_ne] at h
  exact h o ho
theorem slot_yield {ρ : Ren} {ops : Array Oper} {fr tmps : Array Value} (h : ARel ρ fr tmps) (j : Nat) :
    (∀ b, slotV ops fr j = .bool b → yielded ops tmps j = some b) ∧ (∀ l, slotV ops fr j = .tuple l → yielded ops tmps j = none) := by
  unfold slotV yielded
  cases he : (ops[j]?).bind (·.dst) with
  | none => exact ⟨(fun b hb => by cases hb), fun l _ => rfl⟩
  | some d =>
    simp only [Option.bind_some]
    have hd := h.2 d
    constructor
    · intro b hb
      rw [hb] at hd
      have := hd.bool_inv
      have hin : d < tmps.size := by
        rcases Nat.lt_or_ge d tmps.size with h1 | h1
        · exact h1
        · rw [getD_out h1] at this; cases this
      rw [getD_in hin, this]
    · intro l hl
      rw [hl] at hd
      cases ht : tmps[d]? with
      | none => rfl
      | some u =>
        have : tmps.getD d undef = u := by
          rw [Array.getD_eq_getD_getElem?, ht]; rfl
        rw [this] at hd
        cases hd; rfl

theorem grpK_wp {call : CallF} (cx : Ctx P base call) {ops : Array Oper} {Q : Exit → Act → World → Prop} {top : Nat} :
    ∀ (gs : List (Option (Nat × Bool) × List Oper)) (fr : Fr) (H : Heap) (fr' : Fr) (H' : Heap) (ρ : Ren) (a : Act) (w : World), grpK P call ops gs fr H (fun fr H => some (fr, H)) = some (fr', H') →
      (∀ g os, (g, os) ∈ gs → okOps os = true ∧ ∀ o, o ∈ os → o.guard = g) → Rel P base ρ H w → ARel ρ fr a.tmps → Fresh ρ H top → H'.next ≤ top →
      (∀ ρ' a' w', Post P base ρ ρ' H H' w w' → ARel ρ' fr' a'.tmps → a'.defers = a.defers → Q .normal a' w') → wpList P ops Q (gs.flatMap (·.2)) a w
  | [], fr, H, fr', H', ρ, a, w, h, _, hr, hfr, _, _, hk => by
    cases h
    exact hk ρ a w (.refl hr) hfr rfl
  | (none, os) :: gs, fr, H, fr', H', ρ, a, w, h, hg, hr, hfr, hf, ht, hk => by
    simp only [grpK] at h
    rw [runAll_bind, Option.bind_eq_some_iff] at h
    obtain ⟨⟨fr1, H1⟩, h1, h2⟩ := h
    have hm := grpK_mono cx.mono ops gs _ _ _ _ h2
    obtain ⟨g1, g2⟩ := hg none os (by simp)
    rw [List.flatMap_cons]
    exact runAll_wp cx os fr H fr1 H1 ρ a w h1 g1 g2 trivial trivial hr hfr hf (Nat.le_trans hm.next ht) fun ρ1 a1 w1 hp hfr1 hd =>
      grpK_wp cx gs fr1 H1 fr' H' ρ1 a1 w1 h2 (fun g os ho => hg g os (by simp [ho])) hp.rel hfr1 (hf.step hp) ht fun ρ2 a2 w2 hp2 hfr2 hd2 => hk ρ2 a2 w2 (hp.trans hp2) hfr2 (hd2.trans hd)
  | (some (j, b), os) :: gs, fr, H, fr', H', ρ, a, w, h, hg, hr, hfr, hf, ht, hk => by
    simp only [grpK] at h
    obtain ⟨g1, g2⟩ := hg (some (j, b)) os (by simp)
    rw [List.flatMap_cons]
    split at h
    · rename_i hok
      have hgs := gOk_spec (b := b) hok
      have hsk : ∀ (hy : yielded ops a.tmps j ≠ some b), grpK P call ops gs (skipAll os fr) H (fun fr H => some (fr, H)) = some (fr', H') → wpList P ops Q (os ++ gs.flatMap (·.2)) a w := fun hy h =>
        skip_wp os fr a g2 hy hgs hfr fun a1 hfr1 hd => grpK_wp cx gs _ H fr' H' ρ a1 w h (fun g os ho => hg g os (by simp [ho])) hr hfr1 hf ht fun ρ2 a2 w2 hp2 hfr2 hd2 => hk ρ2 a2 w2 hp2 hfr2 (hd2.trans hd)
      unfold condG at h
      split at h
      · rename_i b' hb
        have hy := (slot_yield hfr j).1 b' hb
        split at h
        · rename_i he; subst he
          rw [runAll_bind, Option.bind_eq_some_iff] at h
          obtain ⟨⟨fr1, H1⟩, h1, h2⟩ := h
          have hm := grpK_mono cx.mono ops gs _ _ _ _ h2
          exact runAll_wp cx os fr H fr1 H1 ρ a w h1 g1 g2 hy hgs hr hfr hf (Nat.le_trans hm.next ht) fun ρ1 a1 w1 hp hfr1 hd =>
            grpK_wp cx gs fr1 H1 fr' H' ρ1 a1 w1 h2 (fun g os ho => hg g os (by simp [ho])) hp.rel hfr1 (hf.step hp) ht fun ρ2 a2 w2 hp2 hfr2 hd2 => hk ρ2 a2 w2 (hp.trans hp2) hfr2 (hd2.trans hd)
        · rename_i hne
          exact hsk (by rw [hy]; simpa using hne) h
      · rename_i l hl
        exact hsk (by rw [(slot_yield hfr j).2 l hl]; simp) h
      · cases h
    · cases h
theorem grps_spec : ∀ (l : List Oper), (grps l).flatMap (·.2) = l ∧ ∀ g os, (g, os) ∈ grps l → ∀ o, o ∈ os → o.guard = g ∧ o ∈ l
  | [] => ⟨rfl, fun g os h => by cases h⟩
  | o :: l => by
    obtain ⟨h1, h2⟩ := grps_spec l
    unfold grps
    split
    · rename_i g os rest hg
      rw [hg] at h1 h2
      simp only [List.flatMap_cons] at h1
      split
      · rename_i he
        refine ⟨by simp only [List.flatMap_cons, List.cons_append]; rw [h1], fun g' os' hm o' ho' => ?_⟩
        rcases List.mem_cons.1 hm with e | hm
        · cases e
          rcases List.mem_cons.1 ho' with e | ho'
          · subst e; exact ⟨he.symm, by simp⟩
          · obtain ⟨k1, k2⟩ := h2 g os (by simp) o' ho'; exact ⟨k1, by simp [k2]⟩
        · obtain ⟨k1, k2⟩ := h2 g' os' (by simp [hm]) o' ho'; exact ⟨k1, by simp [k2]⟩
      · refine ⟨by simp only [List.flatMap_cons, List.cons_append, List.nil_append]; rw [h1], fun g' os' hm o' ho' => ?_⟩
        rcases List.mem_cons.1 hm with e | hm
        · cases e
          simp at ho'; subst ho'; exact ⟨rfl, by simp⟩
        · obtain ⟨k1, k2⟩ := h2 g' os' hm o' ho'; exact ⟨k1, by simp [k2]⟩
    · rename_i hg
      rw [hg] at h1
      simp at h1; subst h1
      refine ⟨rfl, fun g' os' hm o' ho' => ?_⟩
      simp at hm
      obtain ⟨rfl, rfl⟩ := hm
      simp at ho'; subst ho'; exact ⟨rfl, by simp⟩
/-- What is asked of a region's step in general. -/
def RegGoal (P : Program) (base : Nat) (call : CallF) (ops : Array Oper) (draw : Bool) : Prop :=
  ∀ (id : Nat) (fr : Fr) (H : Heap) (fr' : Fr) (H' : Heap) (ρ : Ren) (a : Act) (w : World) (top : Nat) (Q : Exit → Act → World → Prop), regK P call ops draw fr H (fun fr H => some (fr, H)) = some (fr', H') → okOps ops.toList = true →
    Rel P base ρ H w → ARel ρ fr a.tmps → Fresh ρ H top → H'.next ≤ top →
    (∀ ρ' a' w', Post P base ρ ρ' H H' w w' → ARel ρ' fr' a'.tmps → a'.defers = a.defers → Q .normal a' w') → (Code.region id ops draw).wp P Q a w
theorem region_seq {call : CallF} (cx : Ctx P base call) (ops : Array Oper) : RegGoal P base call ops false := by
  intro id fr H fr' H' ρ a w top Q h hok hr hfr hf ht hk
  simp only [regK, Bool.false_eq_true, if_false] at h
  obtain ⟨g1, g2⟩ := grps_spec ops.toList
  refine wp_region_list ?_
  rw [← g1]
  refine grpK_wp cx _ fr H fr' H' ρ a w h (fun g os ho => ⟨?_, fun o h => (g2 g os ho o h).1⟩) hr hfr hf ht hk
  simp only [okOps, List.all_eq_true] at hok ⊢
  exact fun o h => hok o (g2 g os ho o h).2
end
end Go.PG

namespace Go.PG
section
variable {P : Program} {base : Nat}

def exOf : Ex → Exit
  | .normal => .normal
  | .exit id => .exit id
  | .ret => .ret
/-- From the loop's head on. -/
def LoopQ (P : Program) (c : Code) (Q : Exit → Act → World → Prop) (a : Act) (w : World) : Prop :=
  ∀ (b : Frame) (k : List Item) (cs : List Frame), ∃ e a' w', Q e a' w' ∧ Arrives P (lone (b.at a (.code c :: .inLoop c :: k)) cs w) b k cs e a' w'
theorem LoopQ.step {c : Code} {Q : Exit → Act → World → Prop} {a : Act} {w : World} (h : c.wp P (Exit.then (LoopQ P c Q) Q) a w) : LoopQ P c Q a w := by
  intro b k cs
  obtain ⟨e, a₁, w₁, hq, harr⟩ := h b (.inLoop c :: k) cs
  cases e with
  | normal =>
    obtain ⟨e₂, a₂, w₂, hq₂, harr₂⟩ := hq b k cs
    exact ⟨e₂, a₂, w₂, hq₂, .of_steps (Steps.trans harr (.one step_inLoop)) harr₂⟩
  | exit id => exact ⟨_, a₁, w₁, hq, .pass (x := .inLoop c) rfl (fun _ _ => .inl (by simp)) harr⟩
  | goto l => exact ⟨_, a₁, w₁, hq, .pass (x := .inLoop c) rfl (fun _ _ => .inl (by simp)) harr⟩
  | ret => exact ⟨_, a₁, w₁, hq, .pass (x := .inLoop c) rfl (fun _ _ => .inl (by simp)) harr⟩
  | panic ch => exact ⟨_, a₁, w₁, hq, .pass (x := .inLoop c) rfl (fun _ _ => .inl (by simp)) harr⟩
  | outgrown => exact ⟨_, a₁, w₁, hq, .pass (x := .inLoop c) rfl (fun _ _ => .inl (by simp)) harr⟩
theorem LoopQ.loop {c : Code} {Q : Exit → Act → World → Prop} {a : Act} {w : World} (h : LoopQ P c Q a w) : (Code.loop c).wp P Q a w := by
  intro b k cs
  obtain ⟨e, a', w', hq, harr⟩ := h b k cs
  exact ⟨e, a', w', hq, .of_steps (.one step_loop) harr⟩

theorem regK_mono {call : CallF} (cx : CallMono call) (ops : Array Oper) (fr : Fr) (H : Heap) (fr' : Fr) (H' : Heap) (h : regK P call ops false fr H (fun fr H => some (fr, H)) = some (fr', H')) : Mono H H' := by
  simp only [regK, Bool.false_eq_true, if_false] at h
  exact grpK_mono cx ops _ _ _ _ _ h
/-- What is asked of the regions that draw. -/
structure Draws (P : Program) (base : Nat) (call : CallF) : Prop where
  ok : ∀ ops, RegGoal P base call ops true
  mono : ∀ ops fr H fr' H', regK P call ops true fr H (fun fr H => some (fr, H)) = some (fr', H') → Mono H H'

theorem iterK_mono {body : (Ex → Fr → Heap → Option Out) → Fr → Heap → Option Out} (hb' : ∀ K fr H, body K fr H = (body ret fr H).bind fun r => K r.1 r.2.1 r.2.2)
    (hm : ∀ fr H e fr' H', body ret fr H = some (e, fr', H') → Mono H H') : ∀ (k : Nat) (fr : Fr) (H : Heap) (e : Ex) (fr' : Fr) (H' : Heap), iterK body ret k fr H = some (e, fr', H') → Mono H H'
  | 0, _, _, _, _, _, h => by cases h
  | k + 1, fr, H, e, fr', H', h => by
    simp only [iterK] at h
    rw [hb', Option.bind_eq_some_iff] at h
    obtain ⟨⟨e1, fr1, H1⟩, h1, h2⟩ := h
    have m1 := hm _ _ _ _ _ h1
    cases e1 with
    | normal => exact m1.trans (iterK_mono hb' hm k _ _ _ _ _ h2)
    | exit j => cases h2; exact m1
    | ret => cases h2; exact m1
theorem denK_mono {call : CallF} (cx : CallMono call) (dr : ∀ ops fr H fr' H', regK P call ops true fr H (fun fr H => some (fr, H)) = some (fr', H') → Mono H H') (k : Nat) (c : Code) :
    ∀ (fr : Fr) (H : Heap) (e : Ex) (fr' : Fr) (H' : Heap), denK P call k c ret fr H = some (e, fr', H') → Mono H H' := by
  induction c with
  | skip => intro fr H e fr' H' h; cases h; exact .refl _
  | label l => intro fr H e fr' H' h; cases h; exact .refl _
  | region id ops draw =>
    intro fr H e fr' H' h
    simp only [denK] at h
    rw [regK_bind, Option.bind_eq_some_iff] at h
    obtain ⟨⟨fr1, H1⟩, h1, h2⟩ := h
    cases h2
    cases draw with
    | true => exact dr _ _ _ _ _ h1
    | false => exact regK_mono cx _ _ _ _ _ h1
  | seq a b iha ihb =>
    intro fr H e fr' H' h
    simp only [denK] at h
    rw [denK_bind, Option.bind_eq_some_iff] at h
    obtain ⟨⟨e1, fr1, H1⟩, h1, h2⟩ := h
    have m1 := iha _ _ _ _ _ h1
    cases e1 with
    | normal => exact m1.trans (ihb _ _ _ _ _ h2)
    | exit j => cases h2; exact m1
    | ret => cases h2; exact m1
  | cond x a b iha ihb =>
    intro fr H e fr' H' h
    simp only [denK, condV] at h
    split at h
    · exact iha _ _ _ _ _ h
    · exact ihb _ _ _ _ _ h
    · cases h
  | block id c ih =>
    intro fr H e fr' H' h
    simp only [denK] at h
    rw [denK_bind, Option.bind_eq_some_iff] at h
    obtain ⟨⟨e1, fr1, H1⟩, h1, h2⟩ := h
    have m1 := ih _ _ _ _ _ h1
    cases e1 with
    | normal => cases h2; exact m1
    | exit j =>
      simp only [blkC] at h2
      split at h2 <;> (cases h2; exact m1)
    | ret => cases h2; exact m1
  | loop c ih =>
    intro fr H e fr' H' h
    simp only [denK] at h
    exact iterK_mono (fun K fr H => denK_bind k c K fr H) (fun fr H e fr' H' h => ih fr H e fr' H' h) k _ _ _ _ _ h
  | exit id => intro fr H e fr' H' h; cases h; exact .refl _
  | ret => intro fr H e fr' H' h; cases h; exact .refl _
  | scope c ih => intro fr H e fr' H' h; simp only [denK] at h; exact ih _ _ _ _ _ h
  | goto l => intro fr H e fr' H' h; cases h
  | refuse s => intro fr H e fr' H' h; cases h
  | rangeFunc f p a b _ _ => intro fr H e fr' H' h; cases h

theorem iter_wp {call : CallF} (cm : CallMono call) (dm : ∀ ops fr H fr' H', regK P call ops true fr H (fun fr H => some (fr, H)) = some (fr', H') → Mono H H') (k0 : Nat) (c : Code)
    (ih : ∀ (fr : Fr) (H : Heap) (e : Ex) (fr' : Fr) (H' : Heap) (ρ : Ren) (a : Act) (w : World) (top : Nat) (Q : Exit → Act → World → Prop), denK P call k0 c ret fr H = some (e, fr', H') → Rel P base ρ H w → ARel ρ fr a.tmps → Fresh ρ H top → H'.next ≤ top →
      (∀ ρ' a' w', Post P base ρ ρ' H H' w w' → ARel ρ' fr' a'.tmps → a'.defers = a.defers → Q (exOf e) a' w') → c.wp P Q a w) :
    ∀ (k : Nat) (fr : Fr) (H : Heap) (e : Ex) (fr' : Fr) (H' : Heap) (ρ : Ren) (a : Act) (w : World) (top : Nat) (Q : Exit → Act → World → Prop), iterK (denK P call k0 c) ret k fr H = some (e, fr', H') → Rel P base ρ H w → ARel ρ fr a.tmps → Fresh ρ H top → H'.next ≤ top →
      (∀ ρ' a' w', Post P base ρ ρ' H H' w w' → ARel ρ' fr' a'.tmps → a'.defers = a.defers → Q (exOf e) a' w') → LoopQ P c Q a w
  | 0, _, _, _, _, _, _, _, _, _, _, h, _, _, _, _, _ => by cases h
  | k + 1, fr, H, e, fr', H', ρ, a, w, top, Q, h, hr, hfr, hf, ht, hk => by
    simp only [iterK] at h
    rw [denK_bind, Option.bind_eq_some_iff] at h
    obtain ⟨⟨e1, fr1, H1⟩, h1, h2⟩ := h
    refine LoopQ.step ?_
    cases e1 with
    | normal =>
      have m2 := iterK_mono (fun K fr H => denK_bind k0 c K fr H) (fun fr H e fr' H' h => denK_mono cm dm k0 c fr H e fr' H' h) k _ _ _ _ _ h2
      refine ih fr H .normal fr1 H1 ρ a w top _ h1 hr hfr hf (Nat.le_trans m2.next ht) fun ρ1 a1 w1 hp hfr1 hd => ?_
      exact iter_wp cm dm k0 c ih k fr1 H1 e fr' H' ρ1 a1 w1 top Q h2 hp.rel hfr1 (hf.step hp) ht fun ρ2 a2 w2 hp2 hfr2 hd2 => hk ρ2 a2 w2 (hp.trans hp2) hfr2 (hd2.trans hd)
    | exit j =>
      cases h2
      exact ih fr H (.exit j) fr1 H1 ρ a w top _ h1 hr hfr hf ht fun ρ1 a1 w1 hp hfr1 hd => hk ρ1 a1 w1 hp hfr1 hd
    | ret =>
      cases h2
      exact ih fr H .ret fr1 H1 ρ a w top _ h1 hr hfr hf ht fun ρ1 a1 w1 hp hfr1 hd => hk ρ1 a1 w1 hp hfr1 hd
theorem code_sound {call : CallF} (cx : Ctx P base call) (dr : Draws P base call) (k : Nat) (c : Code) : ∀ (fr : Fr) (H : Heap) (e : Ex) (fr' : Fr) (H' : Heap) (ρ : Ren) (a : Act) (w : World) (top : Nat) (Q : Exit → Act → World → Prop),
    okCode c = true → denK P call k c ret fr H = some (e, fr', H') → Rel P base ρ H w → ARel ρ fr a.tmps → Fresh ρ H top → H'.next ≤ top →
    (∀ ρ' a' w', Post P base ρ ρ' H H' w w' → ARel ρ' fr' a'.tmps → a'.defers = a.defers → Q (exOf e) a' w') → c.wp P Q a w := by
  induction c with
  | skip => intro fr H e fr' H' ρ a w top Q _ h hr hfr hf ht hk; cases h; exact wp_skip (hk ρ a w (.refl hr) hfr rfl)
  | label l => intro fr H e fr' H' ρ a w top Q _ h hr hfr hf ht hk; cases h; exact wp_label (hk ρ a w (.refl hr) hfr rfl)
  | region id ops draw =>
    intro fr H e fr' H' ρ a w top Q hok h hr hfr hf ht hk
    simp only [denK] at h
    rw [regK_bind, Option.bind_eq_some_iff] at h
    obtain ⟨⟨fr1, H1⟩, h1, h2⟩ := h
    cases h2
    cases draw with
    | true => exact dr.ok ops id fr H fr1 H1 ρ a w top Q h1 hok hr hfr hf ht hk
    | false => exact region_seq cx ops id fr H fr1 H1 ρ a w top Q h1 hok hr hfr hf ht hk
  | seq x y iha ihb =>
    intro fr H e fr' H' ρ a w top Q hok h hr hfr hf ht hk
    simp only [okCode, Bool.and_eq_true] at hok
    simp only [denK] at h
    rw [denK_bind, Option.bind_eq_some_iff] at h
    obtain ⟨⟨e1, fr1, H1⟩, h1, h2⟩ := h
    refine wp_seq ?_
    cases e1 with
    | normal =>
      have m2 := denK_mono cx.mono dr.mono k y _ _ _ _ _ h2
      exact iha fr H .normal fr1 H1 ρ a w top _ hok.1 h1 hr hfr hf (Nat.le_trans m2.next ht) fun ρ1 a1 w1 hp hfr1 hd =>
        ihb fr1 H1 e fr' H' ρ1 a1 w1 top Q hok.2 h2 hp.rel hfr1 (hf.step hp) ht fun ρ2 a2 w2 hp2 hfr2 hd2 => hk ρ2 a2 w2 (hp.trans hp2) hfr2 (hd2.trans hd)
    | exit j => cases h2; exact iha fr H (.exit j) fr1 H1 ρ a w top _ hok.1 h1 hr hfr hf ht fun ρ1 a1 w1 hp hfr1 hd => hk ρ1 a1 w1 hp hfr1 hd
    | ret => cases h2; exact iha fr H .ret fr1 H1 ρ a w top _ hok.1 h1 hr hfr hf ht fun ρ1 a1 w1 hp hfr1 hd => hk ρ1 a1 w1 hp hfr1 hd
  | cond x c1 c2 iha ihb =>
    intro fr H e fr' H' ρ a w top Q hok h hr hfr hf ht hk
    simp only [okCode, Bool.and_eq_true] at hok
    simp only [denK, condV] at h
    have hx := ev_rel hfr hok.1.1
    split at h
    · rename_i hb
      rw [hb] at hx
      exact wp_cond_true (by rw [eval_evF]; exact hx.bool_inv) (iha fr H e fr' H' ρ a w top Q hok.1.2 h hr hfr hf ht hk)
    · rename_i hb
      rw [hb] at hx
      exact wp_cond_false (by rw [eval_evF]; exact hx.bool_inv) (ihb fr H e fr' H' ρ a w top Q hok.2 h hr hfr hf ht hk)
    · cases h
  | block id c ih =>
    intro fr H e fr' H' ρ a w top Q hok h hr hfr hf ht hk
    simp only [denK] at h
    rw [denK_bind, Option.bind_eq_some_iff] at h
    obtain ⟨⟨e1, fr1, H1⟩, h1, h2⟩ := h
    refine wp_block ?_
    cases e1 with
    | normal => cases h2; exact ih fr H .normal fr1 H1 ρ a w top _ hok h1 hr hfr hf ht fun ρ1 a1 w1 hp hfr1 hd => hk ρ1 a1 w1 hp hfr1 hd
    | exit j =>
      simp only [blkC] at h2
      split at h2
      · rename_i he; subst he
        cases h2
        exact ih fr H (.exit j) _ _ ρ a w top _ hok h1 hr hfr hf ht fun ρ1 a1 w1 hp hfr1 hd => by
          simp only [exOf, Exit.inBlock, if_true]; exact hk ρ1 a1 w1 hp hfr1 hd
      · rename_i he
        cases h2
        exact ih fr H (.exit j) _ _ ρ a w top _ hok h1 hr hfr hf ht fun ρ1 a1 w1 hp hfr1 hd => by
          simp only [exOf, Exit.inBlock, he, if_false]; exact hk ρ1 a1 w1 hp hfr1 hd
    | ret => cases h2; exact ih fr H .ret fr1 H1 ρ a w top _ hok h1 hr hfr hf ht fun ρ1 a1 w1 hp hfr1 hd => hk ρ1 a1 w1 hp hfr1 hd
  | loop c ih =>
    intro fr H e fr' H' ρ a w top Q hok h hr hfr hf ht hk
    simp only [denK] at h
    exact (iter_wp cx.mono dr.mono k c (fun fr H e fr' H' ρ a w top Q h => ih fr H e fr' H' ρ a w top Q hok h) k fr H e fr' H' ρ a w top Q h hr hfr hf ht hk).loop
  | exit id => intro fr H e fr' H' ρ a w top Q _ h hr hfr hf ht hk; cases h; exact wp_exit (hk ρ a w (.refl hr) hfr rfl)
  | ret => intro fr H e fr' H' ρ a w top Q _ h hr hfr hf ht hk; cases h; exact wp_ret (hk ρ a w (.refl hr) hfr rfl)
  | scope c ih =>
    intro fr H e fr' H' ρ a w top Q hok h hr hfr hf ht hk
    simp only [denK] at h
    refine wp_scope_straight (ih fr H e fr' H' ρ a w top _ hok h hr hfr hf ht fun ρ1 a1 w1 hp hfr1 hd => ?_)
    have := hk ρ1 a1 w1 hp hfr1 hd
    cases e <;> exact this
  | goto l => intro fr H e fr' H' ρ a w top Q _ h; cases h
  | refuse s => intro fr H e fr' H' ρ a w top Q _ h; cases h
  | rangeFunc f p a b _ _ => intro fr H e fr' H' ρ a w top Q _ h; cases h

/-! ### Functions -/
def resOne (tmps : Array Value) : ResultVar → Sem Value
  | .tmp t => pure (tmps.getD t undef)
  | .cell a t => do loadVar t (← asAddr (tmps.getD a undef))
theorem resL_run {ρ : Ren} {H : Heap} {w : World} {fr tmps : Array Value} (h : Rel P base ρ H w) (hfr : ARel ρ fr tmps) : ∀ (rs : List ResultVar) (l : List Value), resL P fr H rs = some l →
    ∃ l', (rs.mapM (resOne tmps)).run P w = .ok l' w ∧ LRel ρ l l'
  | [], l, hl => by cases hl; exact ⟨[], rfl, trivial⟩
  | .tmp t :: rs, l, hl => by
    simp only [resL] at hl
    obtain ⟨l1, h1, rfl⟩ := Option.map_eq_some_iff.1 hl
    obtain ⟨l', h2, h3⟩ := resL_run h hfr rs l1 h1
    exact ⟨tmps.getD t undef :: l', by simp only [List.mapM_cons, resOne, Sem.run_bind, Sem.run_pure, Result.andThen_ok, h2], hfr.2 t, h3⟩
  | .cell a t :: rs, l, hl => by
    simp only [resL] at hl
    obtain ⟨v, hv, hl⟩ := Option.bind_eq_some_iff.1 hl
    obtain ⟨l1, h1, rfl⟩ := Option.map_eq_some_iff.1 hl
    obtain ⟨l', h2, h3⟩ := resL_run h hfr rs l1 h1
    obtain ⟨v', hv', hrel⟩ := load_ok (P := P) h (hfr.2 a) hv
    have hp : ∃ ad, tmps.getD a undef = .pointer (some ad) := by
      unfold pLoad at hv
      split at hv
      · unfold ldV at hv
        split at hv
        · rename_i ad he
          have := hfr.2 a
          rw [he] at this
          obtain ⟨b, K, _, _, e⟩ := this.ptr_inv
          exact ⟨_, e⟩
        · cases hv
      · cases hv
    obtain ⟨ad, had⟩ := hp
    rw [had] at hv'
    have hl : (loadVar t ad).run P w = .ok v' w := by simpa [Instr.loadAt, Instr.sureAddr] using hv'
    exact ⟨v' :: l', by simp only [List.mapM_cons, resOne, Sem.run_bind, had, asAddr, Sem.run_pure, Result.andThen_ok, hl, h2], hrel, h3⟩
theorem results_ok {ρ : Ren} {H : Heap} {w : World} {fr tmps : Array Value} {fn : Func} {l : List Value} (h : Rel P base ρ H w) (hfr : ARel ρ fr tmps) (hl : resL P fr H fn.results.toList = some l) :
    ∃ v', (results fn tmps).run P w = .ok v' w ∧ VRel ρ (oneOf l) v' := by
  obtain ⟨l', h1, h2⟩ := resL_run h hfr _ _ hl
  have hm : (fn.results.mapM (resOne tmps)).run P w = .ok l'.toArray w := by
    rw [Array.mapM_eq_mapM_toList, Sem.run_map, h1]; rfl
  simp only [results, Sem.run_bind]
  refine ⟨if h : l'.toArray.size = 1 then l'.toArray[0] else .tuple l'.toArray, ?_, ?_⟩
  · change ((fn.results.mapM (resOne tmps)).run P w).andThen _ = _
    rw [hm]; rfl
  · match l, l', h2 with
    | [], [], _ => exact .tuple rfl fun i hi => absurd hi (Nat.not_lt_zero i)
    | [v], [v'], h2 => exact h2.1
    | x :: y :: l, x' :: y' :: l', h2 =>
      have : ¬ ((x' :: y' :: l').toArray.size = 1) := by simp
      rw [dif_neg this]
      have := h2.arr
      exact .tuple this.1 fun i _ => this.2 i

/-- What is asked of functions without a body. -/
def ExtOk (P : Program) (base : Nat) : Prop :=
  ∀ (f : FuncId) (fn : Func) (args args' : Array Value) (H : Heap) (v : Value) (H' : Heap) (ρ : Ren) (w : World), P.funcs[f]? = some fn → fn.body = none → ext P fn args H = some (v, H') → Rel P base ρ H w → ARel ρ args args' →
    (∀ n, H.next ≤ n → n < H'.next → ρ n = none) → OpOk P (callFunc f args') w (Good P base ρ H w v H')
theorem run_mono (dr : ∀ call, CallMono call → ∀ ops fr H fr' H', regK P call ops true fr H (fun fr H => some (fr, H)) = some (fr', H') → Mono H H') : ∀ k, CallMono (run P k)
  | 0 => fun _ _ _ _ _ h => by cases h
  | k + 1 => fun f args H v H' h => by
    have ih := run_mono dr k
    simp only [run] at h
    split at h
    · cases h
    · rename_i fn hfn
      split at h
      · cases h
      · split at h
        · unfold ext at h
          split at h
          · split at h
            · split at h
              · cases h; exact Mono.new _ _
              · cases h
            · cases h
          · cases h
        · rename_i c hc
          split at h
          · rw [denK_bind, Option.bind_eq_some_iff] at h
            obtain ⟨⟨e, fr1, H1⟩, h1, h2⟩ := h
            have m := denK_mono ih (dr _ ih) k c _ _ _ _ _ h1
            cases e with
            | exit j => cases h2
            | normal =>
              obtain ⟨l, _, h3⟩ := Option.map_eq_some_iff.1 h2
              cases h3; exact m
            | ret =>
              obtain ⟨l, _, h3⟩ := Option.map_eq_some_iff.1 h2
              cases h3; exact m
          · cases h
theorem entry_rel {ρ : Ren} {fn : Func} {args args' : Array Value} (h : ARel ρ args args') : ARel ρ (entry fn args) (args' ++ Array.replicate (fn.ntmps - args'.size) undef) := by
  have e : entry fn args = args ++ Array.replicate (fn.ntmps - args.size) undef := by apply Array.ext'; simp [entry]
  rw [e, h.1]
  refine h.append (.of_lt rfl fun i hi => ?_)
  have : (Array.replicate (fn.ntmps - args'.size) undef).getD i undef = undef := by
    simp at hi
    simp [Array.getD_eq_getD_getElem?, hi]
  rw [this]; exact .undef
theorem run_sound (hP : BytesOk P) (hE : ExtOk P base) (dr : ∀ call, Ctx P base call → Draws P base call) (dm : ∀ call, CallMono call → ∀ ops fr H fr' H', regK P call ops true fr H (fun fr H => some (fr, H)) = some (fr', H') → Mono H H') : ∀ k, CallOk P base (run P k)
  | 0 => fun _ _ _ _ _ _ _ _ h => by cases h
  | k + 1 => fun f args args' H v H' ρ w h hr ha hf => by
    have ih := run_sound hP hE dr dm k
    have cx : Ctx P base (run P k) := ⟨ih, run_mono dm k, hP⟩
    simp only [run] at h
    split at h
    · cases h
    · rename_i fn hfn
      split at h
      · cases h
      · rename_i hn
        have hn' : ¬ fn.name = "runtime.NumGoroutine" := by simpa using hn
        split at h
        · rename_i hb
          exact hE f fn args args' H v H' ρ w hfn hb h hr ha hf
        · rename_i c hc
          split at h
          · rename_i hcond
            obtain ⟨hsz, hok⟩ := hcond
            rw [denK_bind, Option.bind_eq_some_iff] at h
            obtain ⟨⟨e, fr1, H1⟩, h1, h2⟩ := h
            have hent : (callFunc f args').run P w = .ok (.enter f args') w := by
              simp [callFunc, hfn, hn', hc]
            simp only [OpOk, hent]
            have fin : ∀ l, resL P fr1 H1 fn.results.toList = some l → v = oneOf l → H' = H1 → (e = .normal ∨ e = .ret) → Calls P f args' w fun e w'' => ∃ u, e = .returned u ∧ Good P base ρ H w v H' u w'' := by
              intro l hl hv hH he
              subst hv; subst hH
              refine calls_of_wp hfn hc ?_
              refine code_sound cx (dr _ cx) k c (entry fn args) H e fr1 H' ρ _ w H'.next _ hok h1 hr (entry_rel ha) hf (Nat.le_refl _) fun ρ1 a1 w1 hp hfr1 hd => ?_
              obtain ⟨v', hv', hrel⟩ := results_ok (P := P) (fn := fn) hp.rel hfr1 hl
              have hgood : Good P base ρ H w (oneOf l) H' v' w1 := ⟨ρ1, hrel, hp⟩
              rcases he with rfl | rfl
              · exact ⟨hd, v', hv', v', rfl, hgood⟩
              · exact ⟨hd, v', hv', v', rfl, hgood⟩
            cases e with
            | exit j => cases h2
            | normal =>
              obtain ⟨l, hl, h3⟩ := Option.map_eq_some_iff.1 h2
              cases h3
              exact fin l hl rfl rfl (.inl rfl)
            | ret =>
              obtain ⟨l, hl, h3⟩ := Option.map_eq_some_iff.1 h2
              cases h3
              exact fin l hl rfl rfl (.inr rfl)
          · cases h
end
end Go.PG

namespace Go.PG
section
variable {P : Program} {base : Nat} {call : CallF}

/-! ### Operations that leave the heap alone, that read it, that make a block -/
theorem silent_any {o : Oper} {ev : Operand → Value} {H H1 : Heap} {v : Value} (hk : hk P o.op = 0) (h : opK P call o ev H (fun v H => some (v, H)) = some (v, H1)) : ∀ H' : Heap, opK P call o ev H' (fun v H => some (v, H)) = some (v, H') := by
  intro H'
  obtain ⟨dst, op, ty, ps, af, gd⟩ := o
  have pureV : ∀ {ov : Option Value}, (ov.bind fun v => some (v, H)) = some (v, H1) → (ov.bind fun v => some (v, H')) = some (v, H') := fun hb => by
    obtain ⟨u, hu, hb⟩ := Option.bind_eq_some_iff.1 hb; cases hb; rw [hu]; rfl
  cases op <;> simp only [PG.hk] at hk <;> simp only [opK] at h ⊢
  case move x => cases h; rfl
  case assign x => cases h; rfl
  case makeFunc fn a b => cases h; rfl
  case fieldAddr t x f =>
    split at h
    · exact pureV h
    · cases h
  case convert s d x =>
    unfold pConvert at h ⊢
    split at h
    · obtain ⟨r, hr, h⟩ := Option.bind_eq_some_iff.1 h
      obtain ⟨u, hu, rfl⟩ := Option.map_eq_some_iff.1 hr
      cases h; rename_i hck; simp [hck, hu]
    · obtain ⟨r, hr, h⟩ := Option.bind_eq_some_iff.1 h
      obtain ⟨u, hu, rfl⟩ := Option.map_eq_some_iff.1 hr
      cases h; rename_i hck; simp [hck, hu]
    · rename_i hck; simp [hck] at hk
    · rename_i hck; simp [hck] at hk
    · obtain ⟨r, hr, h⟩ := Option.bind_eq_some_iff.1 h
      obtain ⟨u, hu, rfl⟩ := Option.map_eq_some_iff.1 hr
      cases h; rename_i hck; simp [hck, hu]
    · cases h
  case call c =>
    obtain ⟨callee, args, ats⟩ := c
    cases callee with
    | builtin b =>
      cases b <;> simp only at hk <;> simp only [pBuiltin] at h ⊢
      case len =>
        split at h
        · obtain ⟨r, hr, h⟩ := Option.bind_eq_some_iff.1 h
          obtain ⟨u, hu, rfl⟩ := Option.map_eq_some_iff.1 hr
          cases h; simp [hu]
        · cases h
      case max =>
        obtain ⟨r, hr, h⟩ := Option.bind_eq_some_iff.1 h
        obtain ⟨u, hu, rfl⟩ := Option.map_eq_some_iff.1 hr
        cases h; simp [hu]
      case min =>
        obtain ⟨r, hr, h⟩ := Option.bind_eq_some_iff.1 h
        obtain ⟨u, hu, rfl⟩ := Option.map_eq_some_iff.1 hr
        cases h; simp [hu]
      all_goals cases hk
    | value f => cases hk
    | invoke x m => cases hk
  all_goals first | exact pureV h | (cases hk; done) | (cases h; done)

def Sub (H H' : Heap) : Prop := ∀ k b, H.blk k = some b → H'.blk k = some b
theorem Sub.row {H H' : Heap} (h : Sub H H') {n : Nat} {c : Array Value} (hr : H.row n = some c) : H'.row n = some c := by
  unfold Heap.row at *
  obtain ⟨b, hb, hr⟩ := Option.bind_eq_some_iff.1 hr
  rw [h n b hb]; exact hr
theorem Sub.view {H H' : Heap} (h : Sub H H') {n : Nat} {c : Nat × Array Value} (hr : H.view n = some c) : H'.view n = some c := by
  unfold Heap.view at *
  obtain ⟨b, hb, hr⟩ := Option.bind_eq_some_iff.1 hr
  rw [h n b hb]; exact hr
theorem Sub.ld1 {H H' : Heap} (h : Sub H H') {a : Addr} {v : Value} (hl : H.ld1 a = some v) : H'.ld1 a = some v := by
  unfold Heap.ld1 at *
  split at hl
  · cases hl
  · rename_i hs
    rw [if_neg hs]
    obtain ⟨c, hc, hl⟩ := Option.bind_eq_some_iff.1 hl
    rw [h.view hc]; exact hl
theorem Sub.ldN {H H' : Heap} (h : Sub H H') {a : Addr} {n : Nat} {c : Array Value} (hl : H.ldN a n = some c) : H'.ldN a n = some c := by
  unfold Heap.ldN at *
  split at hl
  · rename_i h0; rw [if_pos h0]; exact hl
  · rename_i h0
    rw [if_neg h0]
    split at hl
    · cases hl
    · rename_i hs
      rw [if_neg hs]
      obtain ⟨c, hc, hl⟩ := Option.bind_eq_some_iff.1 hl
      rw [h.view hc]; exact hl
theorem read_any {o : Oper} {ev : Operand → Value} {H H1 : Heap} {v : Value} (hk : hk P o.op = 1) (h : opK P call o ev H (fun v H => some (v, H)) = some (v, H1)) {H' : Heap} (hs : Sub H H') : opK P call o ev H' (fun v H => some (v, H)) = some (v, H') := by
  obtain ⟨dst, op, ty, ps, af, gd⟩ := o
  cases op <;> simp only [PG.hk] at hk <;> simp only [opK] at h ⊢
  case load t a =>
    obtain ⟨u, hu, h⟩ := Option.bind_eq_some_iff.1 h
    cases h
    have : pLoad P t (ev a) H' = some v := by
      unfold pLoad at hu ⊢
      split at hu
      · rename_i agg n hl
        unfold ldV at hu ⊢
        split at hu
        · split at hu
          · rename_i ha
            obtain ⟨c, hc, rfl⟩ := Option.map_eq_some_iff.1 hu
            simp [ha, hs.ldN hc]
          · rename_i ha
            simp [ha, hs.ld1 hu]
        · cases hu
      · cases hu
    rw [this]; rfl
  case convert s d x =>
    unfold pConvert at h ⊢
    split at h
    · rename_i hck; simp [hck] at hk
    · rename_i hck; simp [hck] at hk
    · rename_i hck; simp [hck] at hk
    · obtain ⟨r, hr, h⟩ := Option.bind_eq_some_iff.1 h
      obtain ⟨u, hu, rfl⟩ := Option.map_eq_some_iff.1 hr
      cases h
      have : convBS (ev x) H' = some u := by
        unfold convBS at hu ⊢
        split at hu
        · exact hu
        · obtain ⟨c, hc, hu⟩ := Option.bind_eq_some_iff.1 hu
          simp only [hs.ldN hc, Option.bind_some]; exact hu
        · cases hu
      rename_i hck; simp [hck, this]
    · rename_i hck; simp [hck] at hk
    · cases h
  case call c =>
    obtain ⟨callee, args, ats⟩ := c
    cases callee with
    | builtin b => cases b <;> cases hk
    | value f => cases hk
    | invoke x m => cases hk
  all_goals first | (cases hk; done) | (cases h; done)
theorem alloc_any {o : Oper} {ev : Operand → Value} {H H1 : Heap} {v : Value} (hk : hk P o.op = 2) (h : opK P call o ev H (fun v H => some (v, H)) = some (v, H1)) :
    ∃ b, H1 = H.new b ∧ ∀ H' : Heap, H'.next = H.next → opK P call o ev H' (fun v H => some (v, H)) = some (v, H'.new b) := by
  obtain ⟨dst, op, ty, ps, af, gd⟩ := o
  cases op <;> simp only [PG.hk] at hk <;> simp only [opK] at h ⊢
  case alloc t =>
    obtain ⟨r, hr, h⟩ := Option.bind_eq_some_iff.1 h
    cases h
    unfold pAlloc at hr ⊢
    split at hr
    · rename_i z hz
      cases hr
      exact ⟨_, rfl, fun H' hn => by simp [hn]⟩
    · cases hr
  case box t x =>
    obtain ⟨r, hr, h⟩ := Option.bind_eq_some_iff.1 h
    cases h
    unfold pBox at hr ⊢
    split at hr
    · rename_i hn
      cases hr
      exact ⟨_, rfl, fun H' hn' => by simp [hn, hn']⟩
    · cases hr
  case buildSlice t n parts =>
    obtain ⟨r, hr, h⟩ := Option.bind_eq_some_iff.1 h
    cases h
    have key : ∃ b, r.2 = H.new b ∧ ∀ H' : Heap, H'.next = H.next → pBuildSlice P t n (parts.toList.map fun p => (p.1, ev p.2)) H' = some (r.1, H'.new b) := by
      unfold pBuildSlice at hr ⊢
      split at hr
      · cases hr
      rename_i h0
      simp only [h0]
      split at hr
      · rename_i e hu
        split at hr
        · rename_i i hi
          split at hr
          · cases hr
          rename_i h1
          split at hr
          · rename_i z hz
            split at hr
            · rename_i c hc
              cases hr
              refine ⟨_, rfl, fun H' hn => ?_⟩
              simp only [Bool.false_eq_true, if_false, h1, hz, hc, hn]
            · cases hr
          · cases hr
        · cases hr
      · cases hr
    obtain ⟨b, h1, h2⟩ := key
    exact ⟨b, h1, fun H' hn => by rw [h2 H' hn]; rfl⟩
  case convert s d x =>
    obtain ⟨r, hr, h⟩ := Option.bind_eq_some_iff.1 h
    cases h
    unfold pConvert at hr ⊢
    split at hr
    · rename_i hck; simp [hck] at hk
    · rename_i hck; simp [hck] at hk
    · rename_i hck
      unfold convSB at hr
      split at hr
      · rename_i s0 hx
        split at hr
        · rename_i hlt
          cases hr
          exact ⟨_, rfl, fun H' hn => by simp [convSB, hx, hlt, hn]⟩
        · cases hr
      · cases hr
    · rename_i hck; simp [hck] at hk
    · rename_i hck; simp [hck] at hk
    · cases hr
  case makeSlice t l c =>
    obtain ⟨r, hr, h⟩ := Option.bind_eq_some_iff.1 h
    cases h
    unfold pMakeSlice at hr ⊢
    split at hr
    · rename_i e hu
      split at hr
      · rename_i i z hi hz
        unfold mkSl at hr
        split at hr
        · rename_i k1 l1 k2 c1 hl hc
          split at hr
          · rename_i hcond
            cases hr
            exact ⟨_, rfl, fun H' hn => by simp only [mkSl, hl, hc, hn]; rw [if_pos hcond]; rfl⟩
          · cases hr
        · cases hr
      · cases hr
    · cases hr
  case range t x =>
    obtain ⟨r, hr, h⟩ := Option.bind_eq_some_iff.1 h
    cases h
    unfold pRange at hr ⊢
    split at hr
    · split at hr
      · rename_i s hx
        cases hr
        exact ⟨_, rfl, fun H' hn => by simp [hx, hn]⟩
      · cases hr
    · cases hr
  case call c =>
    obtain ⟨callee, args, ats⟩ := c
    cases callee with
    | builtin b => cases b <;> cases hk
    | value f => cases hk
    | invoke x m => cases hk
  all_goals first | (cases hk; done) | (cases h; done)
end
end Go.PG

namespace Go.PG
section
variable {P : Program} {base : Nat} {call : CallF}

abbrev Hist := List (Nat × Nat × Nat)
def GuardT (ops : Array Oper) (o : Oper) (fr : Fr) : Prop :=
  match o.guard with
  | none => True
  | some (j, w) => slotV ops fr j = .bool w
def GuardF (ops : Array Oper) (o : Oper) (fr : Fr) : Prop :=
  match o.guard with
  | none => False
  | some (j, w) => (∃ b, slotV ops fr j = .bool b ∧ b ≠ w) ∨ ∃ l, slotV ops fr j = .tuple l
def StepD (P : Program) (call : CallF) (ops : Array Oper) (b : List Nat) (all : List (Nat × Oper)) (i : Nat) (o : Oper) (fr : Fr) (H : Heap) (X : Hist) (v : Value) (H1 : Heap) (X1 : Hist) : Prop :=
  (GuardF ops o fr ∧ v = undef ∧ H1 = H ∧ X1 = X) ∨ (GuardT ops o fr ∧ opD P call b all i o fr H X (fun v H X => some (v, H, X)) = some (v, H1, X1))
def Tr (P : Program) (call : CallF) (ops : Array Oper) (b : List Nat) (all : List (Nat × Oper)) : Nat → List Oper → Fr → Heap → Hist → Fr → Heap → Prop
  | _, [], fr, H, _, fr', H' => fr = fr' ∧ H = H'
  | i, o :: os, fr, H, X, fr', H' => ∃ v H1 X1, StepD P call ops b all i o fr H X v H1 X1 ∧ Tr P call ops b all (i + 1) os (putD fr o.dst v) H1 X1 fr' H'
def idxsF : Nat → List Oper → List (Nat × Oper)
  | _, [] => []
  | i, o :: os => (i, o) :: idxsF (i + 1) os
theorem idxs_eq (os : List Oper) : idxs os = idxsF 0 os := by
  have key : ∀ (os : List Oper) (i : Nat), (List.range' i os.length).zip os = idxsF i os := by
    intro os
    induction os with
    | nil => intro i; rfl
    | cons o os ih => intro i; simp only [List.length_cons, List.range'_succ, List.zip_cons_cons, idxsF, ih]
  rw [idxs, List.range_eq_range', key]
theorem idxsF_append : ∀ (os1 : List Oper) (i : Nat) (os2 : List Oper), idxsF i (os1 ++ os2) = idxsF i os1 ++ idxsF (i + os1.length) os2
  | [], i, os2 => rfl
  | o :: os1, i, os2 => by
    simp only [List.cons_append, idxsF, idxsF_append os1, List.length_cons]
    rw [show i + 1 + os1.length = i + (os1.length + 1) from by omega]
theorem idxsF_map (i : Nat) (os : List Oper) : (idxsF i os).map (·.2) = os := by
  induction os generalizing i with
  | nil => rfl
  | cons o os ih => simp [idxsF, ih]
theorem idxsF_length (i : Nat) (os : List Oper) : (idxsF i os).length = os.length := by
  induction os generalizing i with
  | nil => rfl
  | cons o os ih => simp [idxsF, ih]
theorem idxsF_mem : ∀ (os : List Oper) (i k : Nat) (o : Oper), os[k]? = some o → (i + k, o) ∈ idxsF i os
  | [], _, _, _, h => by simp at h
  | o :: os, i, k, o', h => by
    cases k with
    | zero => simp at h; subst h; simp [idxsF]
    | succ k =>
      have := idxsF_mem os (i + 1) k o' (by simpa using h)
      simp only [idxsF, List.mem_cons]
      exact .inr (by rw [show i + (k + 1) = i + 1 + k from by omega]; exact this)
theorem mem_idxsF : ∀ (os : List Oper) (i : Nat) (p : Nat × Oper), p ∈ idxsF i os → ∃ k, p.1 = i + k ∧ os[k]? = some p.2
  | [], _, _, h => by cases h
  | o :: os, i, p, h => by
    simp only [idxsF, List.mem_cons] at h
    rcases h with rfl | h
    · exact ⟨0, rfl, rfl⟩
    · obtain ⟨k, h1, h2⟩ := mem_idxsF os (i + 1) p h
      exact ⟨k + 1, by omega, by simpa using h2⟩

theorem slotV_put {ops : Array Oper} {j : Nat} {fr : Fr} {d : Option Tmp} {v : Value} (h : ∀ e, (ops[j]?).bind (·.dst) = some e → d ≠ some e) : slotV ops (putD fr d v) j = slotV ops fr j := by
  unfold slotV
  cases he : (ops[j]?).bind (·.dst) with
  | none => rfl
  | some e =>
    cases d with
    | none => rfl
    | some d =>
      have hne : d ≠ e := fun e' => h e he (by rw [e'])
      simp only [putD, Array.getD_eq_getD_getElem?]
      rw [Array.getElem?_setIfInBounds_ne hne]
theorem runAllD_tr {ops : Array Oper} {b : List Nat} {all : List (Nat × Oper)} {g : Option (Nat × Bool)} {os2 : List Oper} {fr' : Fr} {H' : Heap} :
    ∀ (os1 : List Oper) (i : Nat) (fr : Fr) (H : Heap) (X : Hist) (fr1 : Fr) (H1 : Heap) (X1 : Hist), runAllD P call b all (idxsF i os1) fr H X (fun fr H X => some (fr, H, X)) = some (fr1, H1, X1) →
      (∀ o, o ∈ os1 → o.guard = g) → Gs ops g os1 → (match g with | none => True | some (j, w) => slotV ops fr j = .bool w) → Tr P call ops b all (i + os1.length) os2 fr1 H1 X1 fr' H' → Tr P call ops b all i (os1 ++ os2) fr H X fr' H'
  | [], i, fr, H, X, fr1, H1, X1, h, _, _, _, ht => by cases h; exact ht
  | o :: os1, i, fr, H, X, fr1, H1, X1, h, hg, hs, hv, ht => by
    simp only [idxsF, runAllD] at h
    rw [opD_bind, Option.bind_eq_some_iff] at h
    obtain ⟨⟨v, H2, X2⟩, h1, h2⟩ := h
    refine ⟨v, H2, X2, .inr ⟨?_, h1⟩, runAllD_tr os1 (i + 1) _ H2 X2 fr1 H1 X1 h2 (fun o ho => hg o (by simp [ho])) ?_ ?_ ?_⟩
    · unfold GuardT; rw [hg o (by simp)]; exact hv
    · cases g with
      | none => trivial
      | some p => exact fun d hd o ho => hs d hd o (by simp [ho])
    · cases g with
      | none => trivial
      | some p =>
        obtain ⟨j, w⟩ := p
        simp only at hv ⊢
        rw [slotV_put (fun e he => hs e he o (by simp))]; exact hv
    · rw [show i + 1 + os1.length = i + (os1.length + 1) from by omega]; exact ht
theorem skip_tr {ops : Array Oper} {b : List Nat} {all : List (Nat × Oper)} {j : Nat} {w : Bool} {os2 : List Oper} {fr' : Fr} {H' : Heap} :
    ∀ (os1 : List Oper) (i : Nat) (fr : Fr) (H : Heap) (X : Hist), (∀ o, o ∈ os1 → o.guard = some (j, w)) → Gs ops (some (j, w)) os1 → ((∃ b, slotV ops fr j = .bool b ∧ b ≠ w) ∨ ∃ l, slotV ops fr j = .tuple l) →
      Tr P call ops b all (i + os1.length) os2 (skipAll os1 fr) H X fr' H' → Tr P call ops b all i (os1 ++ os2) fr H X fr' H'
  | [], i, fr, H, X, _, _, _, ht => ht
  | o :: os1, i, fr, H, X, hg, hs, hv, ht => by
    refine ⟨undef, H, X, .inl ⟨?_, rfl, rfl, rfl⟩, skip_tr os1 (i + 1) _ H X (fun o ho => hg o (by simp [ho])) (fun d hd o ho => hs d hd o (by simp [ho])) ?_ ?_⟩
    · unfold GuardF; rw [hg o (by simp)]; exact hv
    · rw [slotV_put (fun e he => hs e he o (by simp))]; exact hv
    · rw [show i + 1 + os1.length = i + (os1.length + 1) from by omega]; exact ht
theorem grpKD_tr {ops : Array Oper} {b : List Nat} {all : List (Nat × Oper)} {fr' : Fr} {H' : Heap} :
    ∀ (gs : List (Option (Nat × Bool) × List (Nat × Oper))) (i : Nat) (os : List Oper) (fr : Fr) (H : Heap) (X : Hist), gs.flatMap (·.2) = idxsF i os → (∀ g l, (g, l) ∈ gs → ∀ p, p ∈ l → p.2.guard = g) →
      grpKD P call ops b all gs fr H X (fun fr H => some (fr, H)) = some (fr', H') → Tr P call ops b all i os fr H X fr' H'
  | [], i, os, fr, H, X, hf, _, h => by
    cases os with
    | nil => cases h; exact ⟨rfl, rfl⟩
    | cons o os => simp [idxsF] at hf
  | (g, l) :: gs, i, os, fr, H, X, hf, hg, h => by
    -- the group is the first part of the list
    have hsplit : ∃ os1 os2, os = os1 ++ os2 ∧ l = idxsF i os1 ∧ gs.flatMap (·.2) = idxsF (i + os1.length) os2 := by
      simp only [List.flatMap_cons] at hf
      have key : ∀ (l r : List (Nat × Oper)) (i : Nat) (os : List Oper), l ++ r = idxsF i os → ∃ os1 os2, os = os1 ++ os2 ∧ l = idxsF i os1 ∧ r = idxsF (i + os1.length) os2 := by
        intro l
        induction l with
        | nil => intro r i os h; exact ⟨[], os, rfl, rfl, h⟩
        | cons p l ih =>
          intro r i os h
          cases os with
          | nil => simp [idxsF] at h
          | cons o os =>
            simp only [List.cons_append, idxsF, List.cons.injEq] at h
            obtain ⟨h1, h2⟩ := h
            obtain ⟨os1, os2, k1, k2, k3⟩ := ih r (i + 1) os h2
            exact ⟨o :: os1, os2, by rw [k1]; rfl, by simp only [idxsF]; rw [h1, ← k2], by rw [k3]; simp only [List.length_cons]; rw [show i + 1 + os1.length = i + (os1.length + 1) from by omega]⟩
      exact key _ _ _ _ hf
    obtain ⟨os1, os2, rfl, rfl, hf2⟩ := hsplit
    have hg1 : ∀ o, o ∈ os1 → o.guard = g := fun o ho => by
      obtain ⟨k, hk⟩ := List.getElem?_of_mem ho
      exact hg g _ (by simp) (i + k, o) (idxsF_mem os1 i k o hk)
    have hg2 : ∀ g l, (g, l) ∈ gs → ∀ p, p ∈ l → p.2.guard = g := fun g l hl => hg g l (by simp [hl])
    cases g with
    | none =>
      simp only [grpKD] at h
      rw [runAllD_bind, Option.bind_eq_some_iff] at h
      obtain ⟨⟨fr1, H1, X1⟩, h1, h2⟩ := h
      exact runAllD_tr os1 i fr H X fr1 H1 X1 h1 hg1 trivial trivial (grpKD_tr gs _ os2 fr1 H1 X1 hf2 hg2 h2)
    | some p =>
      obtain ⟨j, w⟩ := p
      simp only [grpKD] at h
      rw [idxsF_map] at h
      split at h
      · rename_i hok
        have hs := gOk_spec (b := w) hok
        unfold condG at h
        split at h
        · rename_i b' hb
          split at h
          · rename_i he; subst he
            rw [runAllD_bind, Option.bind_eq_some_iff] at h
            obtain ⟨⟨fr1, H1, X1⟩, h1, h2⟩ := h
            exact runAllD_tr os1 i fr H X fr1 H1 X1 h1 hg1 hs hb (grpKD_tr gs _ os2 fr1 H1 X1 hf2 hg2 h2)
          · rename_i hne
            exact skip_tr os1 i fr H X hg1 hs (.inl ⟨b', hb, hne⟩) (grpKD_tr gs _ os2 _ H X hf2 hg2 h)
        · rename_i l hl
          exact skip_tr os1 i fr H X hg1 hs (.inr ⟨l, hl⟩) (grpKD_tr gs _ os2 _ H X hf2 hg2 h)
        · cases h
      · cases h
theorem grpsD_spec : ∀ (l : List (Nat × Oper)), (grpsD l).flatMap (·.2) = l ∧ ∀ g os, (g, os) ∈ grpsD l → ∀ p, p ∈ os → p.2.guard = g
  | [] => ⟨rfl, fun g os h => by cases h⟩
  | o :: l => by
    obtain ⟨h1, h2⟩ := grpsD_spec l
    unfold grpsD
    split
    · rename_i g os rest hg
      rw [hg] at h1 h2
      simp only [List.flatMap_cons] at h1
      split
      · rename_i he
        refine ⟨by simp only [List.flatMap_cons, List.cons_append]; rw [h1], fun g' os' hm o' ho' => ?_⟩
        rcases List.mem_cons.1 hm with e | hm
        · cases e
          rcases List.mem_cons.1 ho' with e | ho'
          · subst e; exact he.symm
          · exact h2 g os (by simp) o' ho'
        · exact h2 g' os' (by simp [hm]) o' ho'
      · refine ⟨by simp only [List.flatMap_cons, List.cons_append, List.nil_append]; rw [h1], fun g' os' hm o' ho' => ?_⟩
        rcases List.mem_cons.1 hm with e | hm
        · cases e
          simp at ho'; subst ho'; rfl
        · exact h2 g' os' hm o' ho'
    · rename_i hg
      rw [hg] at h1
      simp at h1; subst h1
      refine ⟨rfl, fun g' os' hm o' ho' => ?_⟩
      simp at hm
      obtain ⟨rfl, rfl⟩ := hm
      simp at ho'; subst ho'; rfl

/-- The trace, place by place. -/
structure Trace (P : Program) (call : CallF) (ops : Array Oper) (b : List Nat) (all : List (Nat × Oper)) (fr : Fr) (H : Heap) (fr' : Fr) (H' : Heap) where
  F : Nat → Fr
  G : Nat → Heap
  X : Nat → Hist
  V : Nat → Value
  f0 : F 0 = fr
  g0 : G 0 = H
  x0 : X 0 = []
  fn : F ops.size = fr'
  gn : G ops.size = H'
  put : ∀ i o, ops[i]? = some o → F (i + 1) = putD (F i) o.dst (V i)
  step : ∀ i o, ops[i]? = some o → StepD P call ops b all i o (F i) (G i) (X i) (V i) (G (i + 1)) (X (i + 1))
theorem Tr.seq {ops : Array Oper} {b : List Nat} {all : List (Nat × Oper)} {fr' : Fr} {H' : Heap} : ∀ (os : List Oper) (i : Nat) (fr : Fr) (H : Heap) (X : Hist), Tr P call ops b all i os fr H X fr' H' →
    ∃ (F : Nat → Fr) (G : Nat → Heap) (Y : Nat → Hist) (V : Nat → Value), F i = fr ∧ G i = H ∧ Y i = X ∧ F (i + os.length) = fr' ∧ G (i + os.length) = H' ∧
      ∀ k o, os[k]? = some o → F (i + k + 1) = putD (F (i + k)) o.dst (V (i + k)) ∧ StepD P call ops b all (i + k) o (F (i + k)) (G (i + k)) (Y (i + k)) (V (i + k)) (G (i + k + 1)) (Y (i + k + 1))
  | [], i, fr, H, X, h => ⟨fun _ => fr, fun _ => H, fun _ => X, fun _ => undef, rfl, rfl, rfl, h.1, h.2, fun k o hk => by simp at hk⟩
  | o :: os, i, fr, H, X, h => by
    obtain ⟨v, H1, X1, h1, h2⟩ := h
    obtain ⟨F, G, Y, V, f0, g0, y0, fn, gn, st⟩ := Tr.seq os (i + 1) _ H1 X1 h2
    refine ⟨fun k => if k = i then fr else F k, fun k => if k = i then H else G k, fun k => if k = i then X else Y k, fun k => if k = i then v else V k, by simp, by simp, by simp, ?_, ?_, fun k o' hk => ?_⟩
    · have e : i + (o :: os).length ≠ i := by simp
      simp only [e, if_false]
      rw [show i + (o :: os).length = i + 1 + os.length from by simp; omega]; exact fn
    · have e : i + (o :: os).length ≠ i := by simp
      simp only [e, if_false]
      rw [show i + (o :: os).length = i + 1 + os.length from by simp; omega]; exact gn
    · cases k with
      | zero =>
        simp at hk; subst hk
        simp only [Nat.add_zero, if_true, Nat.add_eq_left, Nat.one_ne_zero, if_false]
        rw [f0, g0, y0]
        exact ⟨rfl, h1⟩
      | succ k =>
        have e1 : i + (k + 1) ≠ i := by omega
        have e2 : i + (k + 1) + 1 ≠ i := by omega
        simp only [e1, e2, if_false]
        have := st k o' (by simpa using hk)
        rw [show i + (k + 1) = i + 1 + k from by omega]
        exact this
theorem trace_of {ops : Array Oper} {fr : Fr} {H : Heap} {fr' : Fr} {H' : Heap} (h : regK P call ops true fr H (fun fr H => some (fr, H)) = some (fr', H')) :
    drawOk P ops (befores ops.toList []) (idxs ops.toList) = true ∧ Nonempty (Trace P call ops (befores ops.toList []) (idxs ops.toList) fr H fr' H') := by
  simp only [regK, if_true] at h
  split at h
  · rename_i hd
    refine ⟨hd, ?_⟩
    obtain ⟨g1, g2⟩ := grpsD_spec (idxs ops.toList)
    have tr := grpKD_tr _ 0 ops.toList fr H [] (by rw [g1, idxs_eq]) g2 h
    obtain ⟨F, G, Y, V, f0, g0, y0, fn, gn, st⟩ := Tr.seq _ _ _ _ _ tr
    have hl : ops.toList.length = ops.size := by simp
    exact ⟨⟨F, G, Y, V, f0, g0, y0, by rw [← fn, hl, Nat.zero_add], by rw [← gn, hl, Nat.zero_add], fun i o ho => by have := (st i o (by simpa using ho)).1; simpa using this, fun i o ho => by have := (st i o (by simpa using ho)).2; simpa using this⟩⟩
  · cases h

/-! ### What stands before what -/
def bits (acc : List Nat) (o : Oper) : Nat := o.after.toList.foldl (fun s e => if Region.binds .any e then s ||| (2 ^ e.on ||| acc.getD e.on 0) else s) 0
theorem fold_bit (A : Nat → Nat) (j : Nat) : ∀ (l : List Edge) (s0 : Nat), (l.foldl (fun s e => if Region.binds .any e then s ||| (2 ^ e.on ||| A e.on) else s) s0).testBit j = true →
    s0.testBit j = true ∨ ∃ e, e ∈ l ∧ Region.binds .any e = true ∧ (e.on = j ∨ (A e.on).testBit j = true)
  | [], s0, h => .inl h
  | e :: l, s0, h => by
    simp only [List.foldl_cons] at h
    rcases fold_bit A j l _ h with h | ⟨e', h1, h2, h3⟩
    · split at h
      · rename_i hb
        simp only [Nat.testBit_or, Bool.or_eq_true, Nat.testBit_two_pow, decide_eq_true_eq] at h
        rcases h with h | h | h
        · exact .inl h
        · exact .inr ⟨e, by simp, hb, .inl h⟩
        · exact .inr ⟨e, by simp, hb, .inr h⟩
      · exact .inl h
    · exact .inr ⟨e', by simp [h1], h2, h3⟩
theorem bef_old : ∀ (os : List Oper) (acc : List Nat) (i : Nat), i < acc.length → (befores os acc).getD i 0 = acc.getD i 0
  | [], acc, i, h => rfl
  | o :: os, acc, i, h => by
    simp only [befores]
    rw [bef_old os _ i (by simp; omega)]
    simp [List.getD_eq_getElem?_getD, List.getElem?_append, h]
theorem bef_at : ∀ (os : List Oper) (acc : List Nat) (k : Nat) (o : Oper), os[k]? = some o → ∃ pre : List Nat, (befores os acc).getD (acc.length + k) 0 = bits pre o ∧ ∀ x, pre.getD x 0 = (befores os acc).getD x 0 ∨ pre.getD x 0 = 0
  | [], acc, k, o, h => by simp at h
  | o' :: os, acc, k, o, h => by
    cases k with
    | zero =>
      simp at h; subst h
      refine ⟨acc, ?_, fun x => ?_⟩
      · simp only [befores, Nat.add_zero]
        rw [bef_old os _ acc.length (by simp)]
        simp [List.getD_eq_getElem?_getD, bits]
      · by_cases hx : x < acc.length
        · left
          simp only [befores]
          rw [bef_old os _ x (by simp; omega)]
          simp [List.getD_eq_getElem?_getD, List.getElem?_append, hx]
        · right
          simp [List.getD_eq_getElem?_getD, List.getElem?_eq_none (Nat.le_of_not_lt hx)]
    | succ k =>
      obtain ⟨pre, h1, h2⟩ := bef_at os (acc ++ [bits acc o']) k o (by simpa using h)
      refine ⟨pre, ?_, fun x => ?_⟩
      · simp only [befores]
        rw [← h1]; simp only [List.length_append, List.length_cons, List.length_nil]
        rw [show acc.length + (k + 1) = acc.length + (0 + 1) + k from by omega]; rfl
      · simp only [befores]; exact h2 x
theorem anc_dir {ops : Array Oper} {i j : Nat} {o : Oper} (ho : ops[i]? = some o) (h : anc (befores ops.toList []) i j = true) :
    ∃ e, e ∈ o.after.toList ∧ Region.binds .any e = true ∧ (e.on = j ∨ anc (befores ops.toList []) e.on j = true) := by
  obtain ⟨pre, h1, h2⟩ := bef_at ops.toList [] i o (by simpa using ho)
  simp only [List.length_nil, Nat.zero_add] at h1
  unfold anc at h ⊢
  rw [h1] at h
  rcases fold_bit (fun x => pre.getD x 0) j _ _ h with h | ⟨e, k1, k2, k3⟩
  · simp at h
  · refine ⟨e, k1, k2, k3.imp id fun k => ?_⟩
    rcases h2 e.on with h3 | h3
    · rw [← h3]; exact k
    · rw [h3] at k; simp at k
/-- What is asked of a region that draws, place by place. -/
structure DrawSpec (P : Program) (ops : Array Oper) : Prop where
  edge : ∀ i o, ops[i]? = some o → ∀ e, e ∈ o.after.toList → Region.binds .any e = true → e.on < i
  eff : ∀ i o, ops[i]? = some o → hk P o.op = 4 → fullS P (befores ops.toList []) (idxs ops.toList) i = true
  apart : ∀ i j oi oj, ops[i]? = some oi → ops[j]? = some oj → i ≠ j → anc (befores ops.toList []) i j = true ∨ anc (befores ops.toList []) j i = true ∨ apartL ops oi oj = true
theorem drawOk_spec {ops : Array Oper} (h : drawOk P ops (befores ops.toList []) (idxs ops.toList) = true) : DrawSpec P ops := by
  have mem : ∀ i o, ops[i]? = some o → (i, o) ∈ idxs ops.toList := fun i o ho => by
    rw [idxs_eq]; have := idxsF_mem ops.toList 0 i o (by simpa using ho); simpa using this
  simp only [drawOk, List.all_eq_true, Bool.and_eq_true] at h
  refine ⟨fun i o ho e he hb => ?_, fun i o ho h4 => ?_, fun i j oi oj hi hj hne => ?_⟩
  · have := (h _ (mem i o ho)).1.1 e he
    simpa [hb] using this
  · have := (h _ (mem i o ho)).1.2
    simpa [h4] using this
  · have := (h _ (mem i oi hi)).2 _ (mem j oj hj)
    simp only [Bool.or_eq_true, beq_iff_eq] at this
    rcases this with ((h1 | h1) | h1) | h1
    · exact absurd h1 hne
    · exact .inl h1
    · exact .inr (.inl h1)
    · exact .inr (.inr h1)
theorem full_spec {ops : Array Oper} {i : Nat} (h : fullAt P (befores ops.toList []) (idxs ops.toList) i = true) {j : Nat} {o : Oper} (ho : ops[j]? = some o) (hne : j ≠ i) (hk0 : hk P o.op ≠ 0) :
    anc (befores ops.toList []) i j = true ∨ anc (befores ops.toList []) j i = true := by
  simp only [fullAt, List.all_eq_true] at h
  have mem : (j, o) ∈ idxs ops.toList := by rw [idxs_eq]; have := idxsF_mem ops.toList 0 j o (by simpa using ho); simpa using this
  have := h _ mem
  simp only [Bool.or_eq_true, beq_iff_eq] at this
  rcases this with ((h1 | h1) | h1) | h1
  · exact absurd h1 hne
  · exact absurd h1 hk0
  · exact .inl h1
  · exact .inr h1
theorem fullS_spec {ops : Array Oper} {i : Nat} (h : fullS P (befores ops.toList []) (idxs ops.toList) i = true) {j : Nat} {o : Oper} (ho : ops[j]? = some o) (hne : j ≠ i) (hk0 : hk P o.op ≠ 0) :
    anc (befores ops.toList []) i j = true ∨ anc (befores ops.toList []) j i = true ∨ ∃ a, floatOf (befores ops.toList []) (idxs ops.toList) i (j, o) = some a := by
  simp only [fullS, List.all_eq_true] at h
  have mem : (j, o) ∈ idxs ops.toList := by rw [idxs_eq]; have := idxsF_mem ops.toList 0 j o (by simpa using ho); simpa using this
  have := h _ mem
  simp only [Bool.or_eq_true, beq_iff_eq] at this
  rcases this with (((h1 | h1) | h1) | h1) | h1
  · exact absurd h1 hne
  · exact absurd h1 hk0
  · exact .inl h1
  · exact .inr (.inl h1)
  · exact .inr (.inr (Option.isSome_iff_exists.1 h1))
theorem floatOf_spec {ops : Array Oper} {i j : Nat} {o : Oper} {a : Operand} (h : floatOf (befores ops.toList []) (idxs ops.toList) i (j, o) = some a) :
    (∃ t, o.op = .load t a) ∧ o.guard = none ∧ j < i ∧ ∀ q oq, ops[q]? = some oq → j ≤ q → q < i → isTmp a oq.dst = false := by
  unfold floatOf at h
  split at h
  · rename_i t a' ho
    split at h
    · rename_i hc
      cases h
      simp only [Bool.and_eq_true, decide_eq_true_eq, Option.isNone_iff_eq_none, List.all_eq_true] at hc
      refine ⟨⟨t, ho⟩, hc.1.1.2, hc.1.1.1, fun q oq hq h1 h2 => ?_⟩
      have mem : (q, oq) ∈ idxs ops.toList := by rw [idxs_eq]; have := idxsF_mem ops.toList 0 q oq (by simpa using hq); simpa using this
      have := hc.2 _ mem
      simpa [h1, h2] using this
    · cases h
  · cases h
theorem mem_floats {ops : Array Oper} {i j : Nat} {o : Oper} {a : Operand} (ho : ops[j]? = some o) (h : floatOf (befores ops.toList []) (idxs ops.toList) i (j, o) = some a) : a ∈ floats (befores ops.toList []) (idxs ops.toList) i := by
  have mem : (j, o) ∈ idxs ops.toList := by rw [idxs_eq]; have := idxsF_mem ops.toList 0 j o (by simpa using ho); simpa using this
  exact List.mem_filterMap.2 ⟨_, mem, h⟩
theorem anc_lt {ops : Array Oper} (d : DrawSpec P ops) : ∀ (i j : Nat), i < ops.size → anc (befores ops.toList []) i j = true → j < i := by
  intro i
  induction i using Nat.strongRecOn with
  | _ i ih =>
    intro j hi h
    have ho : ops[i]? = some ops[i] := by simp [hi]
    obtain ⟨e, h1, h2, h3⟩ := anc_dir ho h
    have h4 := d.edge i _ ho e h1 h2
    rcases h3 with rfl | h3
    · exact h4
    · exact Nat.lt_trans (ih e.on h4 j (by omega) h3) h4
end
end Go.PG

namespace Go.PG
section
variable {P : Program} {base : Nat} {call : CallF}

def inU (U : List (Nat × Nat)) (k : Nat) : Prop := ∃ u, u ∈ U ∧ u.1 ≤ k ∧ k < u.2
theorem hides_at : ∀ (U : List (Nat × Nat)) (H : Heap) (k : Nat), (inU U k → (hides H U).blk k = none) ∧ (¬ inU U k → (hides H U).blk k = H.blk k)
  | [], H, k => ⟨(fun ⟨_, h, _⟩ => by cases h), fun _ => rfl⟩
  | u :: U, H, k => by
    obtain ⟨h1, h2⟩ := hides_at U (H.hide u.1 u.2) k
    have e : hides H (u :: U) = hides (H.hide u.1 u.2) U := rfl
    rw [e]
    constructor
    · rintro ⟨x, hx, hl⟩
      rcases List.mem_cons.1 hx with rfl | hx
      · by_cases hU : inU U k
        · exact h1 hU
        · rw [h2 hU]; simp [Heap.hide, hl.1, hl.2]
      · exact h1 ⟨x, hx, hl⟩
    · intro hn
      have hU : ¬ inU U k := fun ⟨x, hx, hl⟩ => hn ⟨x, by simp [hx], hl⟩
      have hu : ¬ (u.1 ≤ k ∧ k < u.2) := fun hl => hn ⟨u, by simp, hl⟩
      rw [h2 hU]; simp [Heap.hide, hu]
theorem hides_next : ∀ (U : List (Nat × Nat)) (H : Heap), (hides H U).next = H.next ∧ (hides H U).floor = H.floor
  | [], _ => ⟨rfl, rfl⟩
  | u :: U, H => hides_next U (H.hide u.1 u.2)
theorem unhides_at : ∀ (U : List (Nat × Nat)) (H G : Heap) (k : Nat), (inU U k → (unhides H G U).blk k = G.blk k) ∧ (¬ inU U k → (unhides H G U).blk k = H.blk k)
  | [], H, G, k => ⟨(fun ⟨_, h, _⟩ => by cases h), fun _ => rfl⟩
  | u :: U, H, G, k => by
    obtain ⟨h1, h2⟩ := unhides_at U (H.unhide G u.1 u.2) G k
    have e : unhides H G (u :: U) = unhides (H.unhide G u.1 u.2) G U := rfl
    rw [e]
    constructor
    · rintro ⟨x, hx, hl⟩
      rcases List.mem_cons.1 hx with rfl | hx
      · by_cases hU : inU U k
        · exact h1 hU
        · rw [h2 hU]; simp [Heap.unhide, hl.1, hl.2]
      · exact h1 ⟨x, hx, hl⟩
    · intro hn
      have hU : ¬ inU U k := fun ⟨x, hx, hl⟩ => hn ⟨x, by simp [hx], hl⟩
      have hu : ¬ (u.1 ≤ k ∧ k < u.2) := fun hl => hn ⟨u, by simp, hl⟩
      rw [h2 hU]; simp [Heap.unhide, hu]
theorem unhides_next : ∀ (U : List (Nat × Nat)) (H G : Heap), (unhides H G U).next = H.next ∧ (unhides H G U).floor = H.floor
  | [], _, _ => ⟨rfl, rfl⟩
  | u :: U, H, G => unhides_next U (H.unhide G u.1 u.2) G
theorem mem_hidden {b : List Nat} {i j lo hi : Nat} : ∀ {X : Hist}, (j, lo, hi) ∈ X → anc b i j = true ∨ (lo, hi) ∈ hidden b i X
  | (j', lo', hi') :: X, h => by
    unfold hidden
    rcases List.mem_cons.1 h with e | h
    · cases e
      split
      · exact .inl (by assumption)
      · exact .inr (by simp)
    · rcases mem_hidden h with h | h
      · exact .inl h
      · split
        · exact .inr h
        · exact .inr (by simp [h])
theorem hidden_mem {b : List Nat} {i : Nat} {u : Nat × Nat} : ∀ {X : Hist}, u ∈ hidden b i X → ∃ j, (j, u.1, u.2) ∈ X
  | (j', lo', hi') :: X, h => by
    unfold hidden at h
    split at h
    · obtain ⟨j, hj⟩ := hidden_mem h; exact ⟨j, by simp [hj]⟩
    · rcases List.mem_cons.1 h with e | h
      · subst e; exact ⟨j', by simp⟩
      · obtain ⟨j, hj⟩ := hidden_mem h; exact ⟨j, by simp [hj]⟩

/-- An operation that all others know their side of. -/
def Full (P : Program) (ops : Array Oper) (i : Nat) (o : Oper) : Prop := hk P o.op = 4 ∨ (hk P o.op = 3 ∧ fullAt P (befores ops.toList []) (idxs ops.toList) i = true)
theorem hk_le (o : Op) : hk P o ≤ 4 := by
  unfold hk; repeat' split
  all_goals omega

/-- What a step that is not full does. -/
structure Quiet (P : Program) (call : CallF) (ops : Array Oper) (i : Nat) (o : Oper) (fr : Fr) (H : Heap) (X : Hist) (v : Value) (H1 : Heap) (X1 : Hist) : Prop where
  low : ∀ k, k < H.next → H1.blk k = H.blk k
  next : H.next ≤ H1.next
  floor : H1.floor = H.floor
  hist : (X1 = X ∧ H1.next = H.next) ∨ X1 = (i, H.next, H1.next) :: X
  hist0 : hk P o.op ≤ 1 ∨ GuardF ops o fr → X1 = X ∧ H1.next = H.next
  dom : DomOk H → DomOk H1
  /-- The heap that it sees, and leaves. -/
  sees : DomOk H → GuardF ops o fr ∨ ∃ Hq Hq' : Heap, GuardT ops o fr ∧ Hq.next = H.next ∧ Hq.floor = H.next ∧ Hq'.next = H1.next ∧ (∀ k b, Hq.blk k = some b → H.blk k = some b ∧ ¬ inU (hidden (befores ops.toList []) i X) k) ∧
    (∀ k b, H.next ≤ k → H1.blk k = some b → Hq'.blk k = some b) ∧ opK P call o (evF fr) Hq (fun v H => some (v, H)) = some (v, Hq')
theorem step_quiet (cm : CallMono call) {ops : Array Oper} {i : Nat} {o : Oper} {fr : Fr} {H : Heap} {X : Hist} {v : Value} {H1 : Heap} {X1 : Hist} (h : StepD P call ops (befores ops.toList []) (idxs ops.toList) i o fr H X v H1 X1)
    (hn : ¬ Full P ops i o) (hX : ∀ j lo hi, (j, lo, hi) ∈ X → hi ≤ H.next) : Quiet P call ops i o fr H X v H1 X1 ∧ (GuardF ops o fr → v = undef) := by
  rcases h with ⟨hg, rfl, rfl, rfl⟩ | ⟨hg, h⟩
  · exact ⟨⟨fun _ _ => rfl, Nat.le_refl _, rfl, .inl ⟨rfl, rfl⟩, fun _ => ⟨rfl, rfl⟩, id, fun _ => .inl hg⟩, fun _ => rfl⟩
  have nogf : ¬ GuardF ops o fr := by
    unfold GuardF GuardT at *
    split at hg
    · exact id
    · rintro (⟨b, h1, h2⟩ | ⟨l, h1⟩)
      · rw [hg] at h1; cases h1; exact h2 rfl
      · rw [hg] at h1; cases h1
  refine ⟨?_, fun h => absurd h nogf⟩
  unfold opD at h
  split at h
  · rename_i hk0
    rw [opK_bind, Option.bind_eq_some_iff] at h
    obtain ⟨⟨v1, H2⟩, h1, h2⟩ := h
    cases h2
    refine ⟨fun _ _ => rfl, Nat.le_refl _, rfl, .inl ⟨rfl, rfl⟩, fun _ => ⟨rfl, rfl⟩, id, fun hd => .inr ?_⟩
    refine ⟨⟨fun _ => none, H.next, H.next⟩, ⟨fun _ => none, H.next, H.next⟩, hg, rfl, rfl, rfl, fun k b hb => (by cases hb), fun k b hk hb => ?_, silent_any hk0 h1 _⟩
    have := hd k (by simp [hb]); omega
  · rename_i hk1
    rw [opK_bind, Option.bind_eq_some_iff] at h
    obtain ⟨⟨v1, H2⟩, h1, h2⟩ := h
    cases h2
    refine ⟨fun _ _ => rfl, Nat.le_refl _, rfl, .inl ⟨rfl, rfl⟩, fun _ => ⟨rfl, rfl⟩, id, fun hd => .inr ?_⟩
    let U := hidden (befores ops.toList []) i X
    refine ⟨(hides H U).atFloor H.next, (hides H U).atFloor H.next, hg, (hides_next U H).1, rfl, (hides_next U H).1, fun k b hb => ?_, fun k b hk hb => ?_, read_any hk1 h1 fun k b hb => hb⟩
    · have hU : ¬ inU U k := fun hU => by have := (hides_at U H k).1 hU; rw [show ((hides H U).atFloor H.next).blk k = (hides H U).blk k from rfl, this] at hb; cases hb
      exact ⟨by rw [← (hides_at U H k).2 hU]; exact hb, hU⟩
    · have := hd k (by simp [hb]); omega
  · rename_i hk2
    rw [opK_bind, Option.bind_eq_some_iff] at h
    obtain ⟨⟨v1, H2⟩, h1, h2⟩ := h
    cases h2
    have hm := op_mono cm h1
    obtain ⟨b, rfl, hany⟩ := alloc_any hk2 h1
    refine ⟨fun k hk => ?_, hm.next, rfl, .inr rfl, fun h0 => ?_, hm.dom, fun hd => .inr ?_⟩
    · have e : k ≠ H.next := by omega
      simp [Heap.new, e]
    · rcases h0 with h0 | h0
      · omega
      · exact absurd h0 nogf
    · refine ⟨⟨fun _ => none, H.next, H.next⟩, Heap.new ⟨fun _ => none, H.next, H.next⟩ b, hg, rfl, rfl, rfl, fun k b' hb => (by cases hb), fun k b' hk hb => ?_, hany ⟨fun _ => none, H.next, H.next⟩ rfl⟩
      by_cases e : k = H.next
      · simpa [Heap.new, e] using hb
      · have := hd k (by simpa [Heap.new, e] using (Option.isSome_iff_exists.2 ⟨_, hb⟩)); omega
  · rename_i hk3
    split at h
    · rename_i hf; exact absurd (.inr ⟨hk3, hf⟩) hn
    · rw [opK_bind, Option.bind_eq_some_iff] at h
      obtain ⟨⟨v1, H2⟩, h1, h2⟩ := h
      cases h2
      let U := hidden (befores ops.toList []) i X
      let Hq := (hides H U).atFloor H.next
      have hqn : Hq.next = H.next := (hides_next U H).1
      have hm : Mono Hq H2 := op_mono cm h1
      have hq : ∀ k b, Hq.blk k = some b → H.blk k = some b ∧ ¬ inU U k := fun k b hb => by
        have hU : ¬ inU U k := fun hU => by have := (hides_at U H k).1 hU; rw [show Hq.blk k = (hides H U).blk k from rfl, this] at hb; cases hb
        exact ⟨by rw [← (hides_at U H k).2 hU]; exact hb, hU⟩
      have hdq : DomOk H → DomOk Hq := fun hd k hk => by
        obtain ⟨b, hb⟩ := Option.isSome_iff_exists.1 hk
        rw [hqn]; exact hd k (by simp [(hq k b hb).1])
      have hnx : (unhides (H2.atFloor H.floor) H U).next = H2.next := (unhides_next U _ H).1
      have hU : ∀ k, inU U k → k < H.next := fun k ⟨u, hu, _, h2⟩ => by
        obtain ⟨j, hj⟩ := hidden_mem hu
        exact Nat.lt_of_lt_of_le h2 (hX j _ _ hj)
      refine ⟨fun k hk => ?_, ?_, (unhides_next U _ H).2, .inr ?_, fun h0 => ?_, fun hd k hk => ?_, fun hd => .inr ⟨Hq, H2, hg, hqn, rfl, hnx.symm, hq, fun k b hk hb => ?_, h1⟩⟩
      · by_cases h : inU U k
        · exact (unhides_at U _ H k).1 h
        · rw [(unhides_at U _ H k).2 h]
          show H2.blk k = H.blk k
          rw [hm.low k hk (by rw [hqn]; exact hk)]
          exact (hides_at U H k).2 h
      · have := hm.next; rw [hqn] at this; exact hnx ▸ this
      · exact congrArg (fun n => (i, H.next, n) :: X) hnx.symm
      · rcases h0 with h0 | h0
        · omega
        · exact absurd h0 nogf
      · have hnx' : (unhides (H2.atFloor H.floor) H (hidden (befores ops.toList []) i X)).next = H2.next := hnx
        rw [hnx']
        by_cases h : inU U k
        · have := hU k h; have := hm.next; rw [hqn] at this; omega
        · exact hm.dom (hdq hd) k (by rw [show (unhides (H2.atFloor H.floor) H (hidden (befores ops.toList []) i X)).blk k = _ from (unhides_at U _ H k).2 h] at hk; exact hk)
      · have h : ¬ inU U k := fun h => by have := hU k h; omega
        rw [(unhides_at U _ H k).2 h] at hb; exact hb
  · rename_i h0 h1 h2 h3
    have := hk_le (P := P) o.op
    have a0 : hk P o.op ≠ 0 := h0
    have a1 : hk P o.op ≠ 1 := h1
    have a2 : hk P o.op ≠ 2 := h2
    have a3 : hk P o.op ≠ 3 := h3
    have a4 : hk P o.op = 4 := by omega
    exact absurd (.inl a4) hn
/-- What a full step does. -/
theorem step_full {ops : Array Oper} {i : Nat} {o : Oper} {fr : Fr} {H : Heap} {X : Hist} {v : Value} {H1 : Heap} {X1 : Hist} (h : StepD P call ops (befores ops.toList []) (idxs ops.toList) i o fr H X v H1 X1)
    (hn : Full P ops i o) : (GuardF ops o fr ∧ v = undef ∧ H1 = H ∧ X1 = X) ∨ (GuardT ops o fr ∧ X1 = [] ∧ opK P call o (evF fr) H (fun v H => some (v, H)) = some (v, H1) ∧ (hk P o.op = 4 → isApart (evF fr) (floats (befores ops.toList []) (idxs ops.toList) i) o.op = true)) := by
  rcases h with h | ⟨hg, h⟩
  · exact .inl h
  refine .inr ⟨hg, ?_⟩
  unfold opD at h
  rcases hn with h4 | ⟨h3, hf⟩
  · rw [h4] at h
    simp only at h
    split at h
    · rename_i hap
      rw [opK_bind, Option.bind_eq_some_iff] at h
      obtain ⟨⟨v1, H2⟩, h1, h2⟩ := h
      cases h2; exact ⟨rfl, h1, fun _ => hap⟩
    · cases h
  · rw [h3] at h
    simp only [hf, if_true] at h
    rw [opK_bind, Option.bind_eq_some_iff] at h
    obtain ⟨⟨v1, H2⟩, h1, h2⟩ := h
    cases h2; exact ⟨rfl, h1, fun h4 => by omega⟩

/-! ### The trace's heaps -/
section
variable {ops : Array Oper} {fr : Fr} {H : Heap} {fr' : Fr} {H' : Heap} (T : Trace P call ops (befores ops.toList []) (idxs ops.toList) fr H fr' H') (cm : CallMono call)
include cm
theorem Trace.basic : ∀ i, i ≤ ops.size → (DomOk H → DomOk (T.G i)) ∧ (∀ j lo hi, (j, lo, hi) ∈ T.X i → hi ≤ (T.G i).next)
  | 0, _ => by rw [T.g0, T.x0]; exact ⟨id, fun _ _ _ h => by cases h⟩
  | i + 1, hi => by
    obtain ⟨h1, h2⟩ := Trace.basic i (by omega)
    have ho : ops[i]? = some ops[i] := by simp
    have st := T.step i _ ho
    by_cases hf : Full P ops i ops[i]
    · rcases step_full st hf with ⟨_, _, e1, e2⟩ | ⟨_, e2, e1, _⟩
      · rw [e1, e2]; exact ⟨h1, h2⟩
      · rw [e2]; exact ⟨fun h => (op_mono cm e1).dom (h1 h), fun _ _ _ h => by cases h⟩
    · have q := (step_quiet cm st hf h2).1
      refine ⟨fun h => q.dom (h1 h), fun j lo hi' hm => ?_⟩
      rcases q.hist with ⟨e, e2⟩ | e
      · rw [e] at hm; rw [e2]; exact h2 _ _ _ hm
      · rw [e] at hm
        rcases List.mem_cons.1 hm with e | hm
        · cases e; exact Nat.le_refl _
        · exact Nat.le_trans (h2 _ _ _ hm) q.next
theorem Trace.quiet {i : Nat} (hi : i < ops.size) (hf : ¬ Full P ops i ops[i]) : Quiet P call ops i ops[i] (T.F i) (T.G i) (T.X i) (T.V i) (T.G (i + 1)) (T.X (i + 1)) ∧ (GuardF ops ops[i] (T.F i) → T.V i = undef) := by
  obtain ⟨_, h2⟩ := T.basic cm i (by omega)
  exact step_quiet cm (T.step i _ (by simp)) hf h2
theorem Trace.stepMono {i : Nat} (hi : i < ops.size) : Mono (T.G i) (T.G (i + 1)) := by
  by_cases hf : Full P ops i ops[i]
  · rcases step_full (T.step i _ (by simp : ops[i]? = some ops[i])) hf with ⟨_, _, e1, _⟩ | ⟨_, _, e1, _⟩
    · rw [e1]; exact .refl _
    · exact op_mono cm e1
  · have q := (T.quiet cm hi hf).1
    exact ⟨q.next, q.floor, fun k _ h => q.low k h, q.dom⟩
theorem Trace.mono : ∀ i, i ≤ ops.size → Mono H (T.G i)
  | 0, _ => by rw [T.g0]; exact .refl _
  | i + 1, hi => (Trace.mono i (by omega)).trans (T.stepMono cm (by omega))
theorem Trace.next_le {i : Nat} : ∀ j, i ≤ j → j ≤ ops.size → (T.G i).next ≤ (T.G j).next := by
  intro j
  induction j with
  | zero => intro h _; have : i = 0 := by omega
            subst this; exact Nat.le_refl _
  | succ j ih =>
    intro h1 h2
    by_cases e : i = j + 1
    · subst e; exact Nat.le_refl _
    · exact Nat.le_trans (ih (by omega) (by omega)) (T.stepMono cm (by omega)).next
/-- A stretch without a full step. -/
def NoFull (P : Program) (ops : Array Oper) (s m : Nat) : Prop := ∀ j o, s ≤ j → j < m → ops[j]? = some o → ¬ Full P ops j o
theorem Trace.seg_low {s m : Nat} (hq : NoFull P ops s m) (hm : m ≤ ops.size) {i : Nat} (hs : s ≤ i) : ∀ j, i ≤ j → j ≤ m → ∀ k, k < (T.G i).next → (T.G j).blk k = (T.G i).blk k := by
  intro j
  induction j with
  | zero => intro h _ k _; have : i = 0 := by omega
            subst this; rfl
  | succ j ih =>
    intro h1 h2 k hk
    by_cases e : i = j + 1
    · subst e; rfl
    · have hj : j < ops.size := by omega
      have q := (T.quiet cm hj (hq j ops[j] (by omega) (by omega) (by simp))).1
      rw [q.low k (Nat.lt_of_lt_of_le hk (T.next_le cm j (by omega) (by omega)))]
      exact ih (by omega) (by omega) k hk
/-- The stretch's history is whole. -/
theorem Trace.seg_hist {s m : Nat} (hq : NoFull P ops s m) (hm : m ≤ ops.size) {i : Nat} (hs : s ≤ i) : ∀ j, i < j → j ≤ m → (T.G i).next = (T.G (i + 1)).next ∨ (i, (T.G i).next, (T.G (i + 1)).next) ∈ T.X j := by
  intro j
  induction j with
  | zero => intro h; omega
  | succ j ih =>
    intro h1 h2
    have hj : j < ops.size := by omega
    have q := (T.quiet cm hj (hq j ops[j] (by omega) (by omega) (by simp))).1
    by_cases e : i = j
    · subst e
      rcases q.hist with ⟨_, e⟩ | e
      · exact .inl e.symm
      · right; rw [e]; simp
    · rcases ih (by omega) (by omega) with h | h
      · exact .inl h
      · right
        rcases q.hist with ⟨e, _⟩ | e
        · rw [e]; exact h
        · rw [e]; simp [h]
omit cm in
theorem Trace.owner {s : Nat} : ∀ m', s ≤ m' → ∀ k, (T.G s).next ≤ k → k < (T.G m').next → ∃ j, s ≤ j ∧ j < m' ∧ (T.G j).next ≤ k ∧ k < (T.G (j + 1)).next := by
  intro m'
  induction m' with
  | zero => intro h k h1 h2; have : s = 0 := by omega
            subst this; omega
  | succ m' ih =>
    intro h1 k h3 h4
    by_cases e : s = m' + 1
    · subst e; omega
    · by_cases hk : k < (T.G m').next
      · obtain ⟨j, g1, g2, g3⟩ := ih (by omega) k h3 hk
        exact ⟨j, g1, by omega, g3⟩
      · exact ⟨m', by omega, by omega, by omega, h4⟩
end
theorem draw_mono (cm : CallMono call) (ops : Array Oper) (fr : Fr) (H : Heap) (fr' : Fr) (H' : Heap) (h : regK P call ops true fr H (fun fr H => some (fr, H)) = some (fr', H')) : Mono H H' := by
  obtain ⟨_, ⟨T⟩⟩ := trace_of h
  rw [← T.gn]; exact T.mono cm _ (Nat.le_refl _)
end
end Go.PG

namespace Go.PG
section
variable {P : Program} {base : Nat} {call : CallF}

theorem op_wpP (cx : Ctx P base call) {ρ : Ren} {H H1 : Heap} {fr : Fr} {v : Value} {a : Act} {w : World} {o : Oper} (hl : opK P call o (evF fr) H (fun v H' => some (v, H')) = some (v, H1))
    (hx : ∀ x, x ∈ o.op.operands.toList → VRel ρ (evF fr x) (evF a.tmps x)) (h : Rel P base ρ H w) (hf : ∀ n, H.next ≤ n → n < H1.next → ρ n = none) {K : Act → World → Prop} {Q : Exit → Act → World → Prop}
    (hk : ∀ ρ' v' w', VRel ρ' v v' → Post P base ρ ρ' H H1 w w' → K (a.put o.dst v') w') : o.wp P a w K Q := by
  refine wp_of_op (Qv := Good P base ρ H w v H1) ?_ fun v' w' ⟨ρ', hv, hp⟩ => hk ρ' v' w' hv hp
  rw [eval_evF]
  exact op_sound cx.ok cx.bytes h hx hl hf
theorem yield_of {ρ : Ren} {ops : Array Oper} {fr tmps : Array Value} {j : Nat} (h : ∀ d, (ops[j]?).bind (·.dst) = some d → VRel ρ (fr.getD d undef) (tmps.getD d undef)) :
    (∀ b, slotV ops fr j = .bool b → yielded ops tmps j = some b) ∧ (∀ l, slotV ops fr j = .tuple l → yielded ops tmps j = none) := by
  unfold slotV yielded
  cases he : (ops[j]?).bind (·.dst) with
  | none => exact ⟨(fun b hb => by cases hb), fun l _ => rfl⟩
  | some d =>
    simp only [Option.bind_some]
    have hd := h d he
    constructor
    · intro b hb
      rw [hb] at hd
      have := hd.bool_inv
      have hin : d < tmps.size := by
        rcases Nat.lt_or_ge d tmps.size with h1 | h1
        · exact h1
        · rw [getD_out h1] at this; cases this
      rw [getD_in hin, this]
    · intro l hl
      rw [hl] at hd
      cases ht : tmps[d]? with
      | none => rfl
      | some u =>
        have : tmps.getD d undef = u := by
          rw [Array.getD_eq_getD_getElem?, ht]; rfl
        rw [this] at hd
        cases hd; rfl
theorem guard_looks {ops : Array Oper} {o : Oper} {j : Nat} {w : Bool} (hg : o.guard = some (j, w)) {d : Nat} (hd : (ops[j]?).bind (·.dst) = some d) : d ∈ looksAt ops o := by
  unfold looksAt; rw [hg]; simp [hd]
theorem wantT {ρ : Ren} {ops : Array Oper} {fr tmps : Array Value} {o : Oper} (h : ∀ d, d ∈ looksAt ops o → VRel ρ (fr.getD d undef) (tmps.getD d undef)) (hg : GuardT ops o fr) : Region.wanted o (yielded ops tmps) = true := by
  unfold GuardT at hg
  unfold Region.wanted
  cases e : o.guard with
  | none => rfl
  | some p =>
    obtain ⟨j, w⟩ := p
    rw [e] at hg
    have := (yield_of (ρ := ρ) (tmps := tmps) fun d hd => h d (guard_looks e hd)).1 w hg
    simp [this]
theorem wantF {ρ : Ren} {ops : Array Oper} {fr tmps : Array Value} {o : Oper} (h : ∀ d, d ∈ looksAt ops o → VRel ρ (fr.getD d undef) (tmps.getD d undef)) (hg : GuardF ops o fr) : Region.wanted o (yielded ops tmps) = false := by
  unfold GuardF at hg
  unfold Region.wanted
  cases e : o.guard with
  | none => rw [e] at hg; exact hg.elim
  | some p =>
    obtain ⟨j, w⟩ := p
    rw [e] at hg
    have y := yield_of (ρ := ρ) (tmps := tmps) fun d hd => h d (guard_looks e hd)
    rcases hg with ⟨b, hb, hne⟩ | ⟨l, hl⟩
    · simp [y.1 b hb, hne]
    · simp [y.2 l hl]

/-- The same heap, of which more names are known. -/
theorem Post.shape {ρ ρ' : Ren} {H A B : Heap} {w w' : World} (h : Post P base ρ ρ' H A w w') (hb : ∀ k, B.blk k = A.blk k) (hf : B.floor = A.floor) (hd : ∀ n x, ρ' n = some x → ρ n = some x ∨ (H.next ≤ n ∧ n < B.next))
    (hn : H.next ≤ B.next) (hdom : DomOk B) (hfl : A.floor ≤ B.next) : Post P base ρ ρ' H B w w' where
  ext := h.ext
  dom := hd
  rel := ⟨fun n b hn => h.rel.blk n b (by rw [← hb]; exact hn), fun n m b K K' h1 h2 => h.rel.inj n m b K K' (by rw [← hb]; exact h1) (by rw [← hb]; exact h2), hdom, hf ▸ h.rel.floor, by rw [hf]; exact hfl⟩
  calm := h.calm
  size := h.size
  keep := h.keep
  own n b K h1 := h.own n b K (by rw [← hb]; exact h1)
  floor := hf.trans h.floor
  next := hn
  low n hn := (hb n).trans (h.low n hn)

/-- The names known, of a heap's. -/
def known (ρ : Ren) (G : Heap) (next floor : Nat) : Heap := ⟨fun k => if (ρ k).isSome then G.blk k else none, next, floor⟩
theorem known_some {ρ : Ren} {G : Heap} {next floor k : Nat} {b : Blk} (h : (known ρ G next floor).blk k = some b) : (ρ k).isSome = true ∧ G.blk k = some b := by
  simp only [known] at h
  split at h
  · exact ⟨by assumption, h⟩
  · cases h
/-- A step that saw a part of the heap and wrote none of it. -/
theorem Post.widen {ρ0 ρ ρ' : Ren} {H G Hq Hq' : Heap} {next : Nat} {w0 w w' : World} (h : Post P base ρ0 ρ H (known ρ G next H.floor) w0 w) (k : Post P base ρ ρ' Hq Hq' w w') (hq : DomOk Hq) (hf : Hq.floor = Hq.next)
    (h1 : H.next ≤ Hq.next) (h2 : Hq'.next ≤ next) (h3 : ∀ n b, Hq.next ≤ n → n < Hq'.next → G.blk n = some b → Hq'.blk n = some b) (hfn : H.floor ≤ H.next) : Post P base ρ0 ρ' H (known ρ' G next H.floor) w0 w' := by
  have nofl : ∀ n, (Hq.blk n).isSome = true → Hq.floor ≤ n → False := fun n hs hle => by
    have := hq n hs; omega
  have stay : ∀ b, b < w.heap.size → w'.heap[b]? = w.heap[b]? := fun b hb => k.keep b hb fun n K hs hle => (nofl n hs hle).elim
  have old : ∀ n b, (known ρ' G next H.floor).blk n = some b → (ρ n).isSome = true → (known ρ G next H.floor).blk n = some b := fun n b hb hs => by
    have := (known_some hb).2
    simp [known, hs, this]
  have new : ∀ n b, (known ρ' G next H.floor).blk n = some b → ρ n = none → Hq.next ≤ n ∧ Hq'.blk n = some b := fun n b hb hs => by
    obtain ⟨g1, g2⟩ := known_some hb
    obtain ⟨x, hx⟩ := Option.isSome_iff_exists.1 g1
    rcases k.dom n x hx with h | ⟨h, h'⟩
    · rw [hs] at h; cases h
    · exact ⟨h, h3 n b h h' g2⟩
  have oldAt : ∀ n b c K, (known ρ' G next H.floor).blk n = some b → (ρ n).isSome = true → ρ' n = some (c, K) → ρ n = some (c, K) ∧ c < w.heap.size := fun n b c K hb hs hx => by
    obtain ⟨c2, K2, e1, e2⟩ := (h.rel.blk n b (old n b hb hs)).at_
    have := k.ext _ _ e1
    rw [this] at hx; cases hx; exact ⟨e1, e2⟩
  have newAt : ∀ n b c K, (known ρ' G next H.floor).blk n = some b → ρ n = none → ρ' n = some (c, K) → w.heap.size ≤ c := fun n b c K hb hs hx => by
    obtain ⟨g1, g2⟩ := new n b hb hs
    rcases k.own n c K (by simp [g2]) (by omega) hx with ⟨m, K', e1, e2, _⟩ | e
    · exact (nofl m e1 e2).elim
    · exact e
  exact {
    ext := fun n x hx => k.ext n x (h.ext n x hx)
    dom := fun n x hx => by
      rcases k.dom n x hx with g | g
      · exact h.dom n x g
      · exact .inr ⟨by omega, by simp only [known]; omega⟩
    rel := {
      blk := fun n b hb => by
        cases hr : ρ n with
        | some x => exact (h.rel.blk n b (old n b hb (by simp [hr]))).keep k.ext fun c K hc => stay c (by
            obtain ⟨c2, K2, e1, e2⟩ := (h.rel.blk n b (old n b hb (by simp [hr]))).at_
            rw [e1] at hc; cases hc; exact e2)
        | none => exact k.rel.blk n b (new n b hb hr).2
      inj := fun n m b K K' hn hm hbase hne hxn hxm => by
        obtain ⟨x, hx⟩ := Option.isSome_iff_exists.1 hn
        obtain ⟨y, hy⟩ := Option.isSome_iff_exists.1 hm
        cases hr : ρ n with
        | some u =>
          obtain ⟨a1, a2⟩ := oldAt n x b K hx (by simp [hr]) hxn
          cases hs : ρ m with
          | some u' =>
            obtain ⟨b1, b2⟩ := oldAt m y b K' hy (by simp [hs]) hxm
            exact h.rel.inj n m b K K' (by simp [old n x hx (by simp [hr])]) (by simp [old m y hy (by simp [hs])]) hbase hne a1 b1
          | none =>
            have := newAt m y b K' hy hs hxm
            omega
        | none =>
          have a2 := newAt n x b K hx hr hxn
          cases hs : ρ m with
          | some u' =>
            obtain ⟨b1, b2⟩ := oldAt m y b K' hy (by simp [hs]) hxm
            omega
          | none => exact k.rel.inj n m b K K' (by simp [(new n x hx hr).2]) (by simp [(new m y hy hs).2]) hbase hne hxn hxm
      dom := fun n hn => by
        obtain ⟨x, hx⟩ := Option.isSome_iff_exists.1 hn
        cases hr : ρ n with
        | some u => exact h.rel.dom n (by simp [old n x hx (by simp [hr])])
        | none => exact Nat.lt_of_lt_of_le (k.rel.dom n (by simp [(new n x hx hr).2])) h2
      floor := h.rel.floor
      fle := h.rel.fle }
    calm := h.calm.trans k.calm
    size := Nat.le_trans h.size k.size
    keep := fun b hb hn => (stay b (Nat.lt_of_lt_of_le hb h.size)).trans (h.keep b hb hn)
    own := fun n b K hn hle hx => by
      obtain ⟨y, hy⟩ := Option.isSome_iff_exists.1 hn
      cases hr : ρ n with
      | some u => exact h.own n b K (by simp [old n y hy (by simp [hr])]) hle (oldAt n y b K hy (by simp [hr]) hx).1
      | none => exact .inr (Nat.le_trans h.size (newAt n y b K hy hr hx))
    floor := rfl
    next := h.next
    low := fun n hn => by
      have e := h.low n hn
      cases hr : ρ n with
      | some u =>
        cases hr' : ρ' n with
        | some u' => rw [← e]; simp [known, hr, hr']
        | none => have := k.ext n u hr; rw [hr'] at this; cases this
      | none =>
        have e0 : H.blk n = none := by rw [← e]; simp [known, hr]
        rw [e0]
        cases hb : (known ρ' G next H.floor).blk n with
        | none => rfl
        | some b =>
          obtain ⟨g1, _⟩ := new n b hb hr
          omega }
end
end Go.PG

namespace Go.PG
section
variable {P : Program} {base : Nat} {call : CallF}

theorem put_getD {fr : Array Value} {d : Option Tmp} {v : Value} {t : Nat} : (putD fr d v).getD t undef = if d = some t ∧ t < fr.size then v else fr.getD t undef := by
  cases d with
  | none => simp [putD]
  | some e =>
    simp only [putD, Option.some.injEq, Array.getD_eq_getD_getElem?]
    by_cases h : e = t
    · subst h
      by_cases hs : e < fr.size
      · simp [hs]
      · simp [hs]
    · rw [Array.getElem?_setIfInBounds_ne h]; simp [h]
theorem put_size {fr : Array Value} {d : Option Tmp} {v : Value} : (putD fr d v).size = fr.size := by cases d <;> simp [putD]
theorem anc_all {ops : Array Oper} (d : DrawSpec P ops) {L : Nat → Prop} (hc : ∀ j o, ops[j]? = some o → L j → ∀ e, e ∈ o.after.toList → Region.binds .any e = true → L e.on) :
    ∀ (i x : Nat), i < ops.size → L i → anc (befores ops.toList []) i x = true → L x := by
  intro i
  induction i using Nat.strongRecOn with
  | _ i ih =>
    intro x hi hL h
    have ho : ops[i]? = some ops[i] := by simp [hi]
    obtain ⟨e, h1, h2, h3⟩ := anc_dir ho h
    have h4 := d.edge i _ ho e h1 h2
    have h5 := hc i _ ho hL e h1 h2
    rcases h3 with rfl | h3
    · exact h5
    · exact ih e.on h4 x (by omega) h5 h3
theorem next_full (P : Program) (ops : Array Oper) : ∀ (d s : Nat), ops.size - s = d → s ≤ ops.size → ∃ m, s ≤ m ∧ m ≤ ops.size ∧ NoFull P ops s m ∧ ∀ o, ops[m]? = some o → Full P ops m o
  | 0, s, hd, hs => ⟨s, Nat.le_refl _, hs, fun j o h1 h2 => by omega, fun o ho => by have := (Array.getElem?_eq_some_iff.1 ho).1; omega⟩
  | d + 1, s, hd, hs => by
    have hlt : s < ops.size := by omega
    by_cases h : Full P ops s ops[s]
    · exact ⟨s, Nat.le_refl _, hs, fun j o h1 h2 => by omega, fun o ho => by
        have e : ops[s]? = some ops[s] := by simp
        rw [e] at ho; cases ho; exact h⟩
    · obtain ⟨m, h1, h2, h3, h4⟩ := next_full P ops d (s + 1) (by omega) (by omega)
      refine ⟨m, by omega, h2, fun j o g1 g2 ho => ?_, h4⟩
      by_cases e : j = s
      · subst e
        have e : ops[j]? = some ops[j] := by simp [hlt]
        rw [e] at ho; cases ho; exact h
      · exact h3 j o (by omega) g2 ho

section
variable {ops : Array Oper} {fr : Fr} {H : Heap} {fr' : Fr} {H' : Heap} (T : Trace P call ops (befores ops.toList []) (idxs ops.toList) fr H fr' H')
theorem Trace.size : ∀ i, i ≤ ops.size → (T.F i).size = fr.size
  | 0, _ => by rw [T.f0]
  | i + 1, hi => by rw [T.put i ops[i] (by simp), put_size]; exact Trace.size i (by omega)
theorem Trace.same {t x : Nat} : ∀ y, x ≤ y → y ≤ ops.size → (∀ j o, x ≤ j → j < y → ops[j]? = some o → o.dst ≠ some t) → (T.F y).getD t undef = (T.F x).getD t undef := by
  intro y
  induction y with
  | zero => intro h _ _; have : x = 0 := by omega
            subst this; rfl
  | succ y ih =>
    intro h1 h2 h3
    by_cases e : x = y + 1
    · subst e; rfl
    · rw [T.put y ops[y] (by simp), put_getD, if_neg (fun h => h3 y _ (by omega) (by omega) (by simp) h.1)]
      exact ih (by omega) (by omega) fun j o g1 g2 => h3 j o g1 (by omega)

/-- A load that no full step behind it has touched. -/
def Floats (s j : Nat) (o : Oper) : Prop :=
  ∃ t a ad, o.op = .load t a ∧ o.guard = none ∧ evF (T.F j) a = .pointer (some ad) ∧ ∀ b, (T.G j).blk ad.block = some b → (T.G s).blk ad.block = some b
/-- What holds when the operations of L are done. -/
structure Inv (base top : Nat) (ρ0 : Ren) (w0 : World) (D0 : List Deferred) (L : Nat → Prop) (s m : Nat) (ρ : Ren) (a : Act) (w : World) : Prop where
  hs : s ≤ m
  hm : m ≤ ops.size
  nofull : NoFull P ops s m
  full : ∀ o, ops[m]? = some o → Full P ops m o
  done : ∀ j o, ops[j]? = some o → j < s → hk P o.op ≠ 0 → L j ∨ Floats T s j o
  undone : ∀ j o, ops[j]? = some o → m ≤ j → hk P o.op ≠ 0 → ¬ L j
  closed : ∀ j o, ops[j]? = some o → L j → ∀ e, e ∈ o.after.toList → Region.binds .any e = true → L e.on
  has0 : ∀ k, k < (T.G s).next → ((T.G s).blk k).isSome = true → (ρ k).isSome = true
  has1 : ∀ j, L j → s ≤ j → j < m → ∀ k, (T.G j).next ≤ k → k < (T.G (j + 1)).next → ((T.G (j + 1)).blk k).isSome = true → (ρ k).isSome = true
  own : ∀ k, (ρ k).isSome = true → k < (T.G s).next ∨ (∃ j, L j ∧ s ≤ j ∧ j < m ∧ (T.G j).next ≤ k ∧ k < (T.G (j + 1)).next) ∨ top ≤ k
  post : Post P base ρ0 ρ H (known ρ (T.G m) H'.next H.floor) w0 w
  size : fr.size = a.tmps.size
  frame : ∀ m' t, m' ≤ ops.size → (∀ j o, ops[j]? = some o → o.dst = some t → (L j ↔ j < m')) → VRel ρ ((T.F m').getD t undef) (a.tmps.getD t undef)
  defers : a.defers = D0

variable (cm : CallMono call) (hd : DomOk H) (hfn : H.floor ≤ H.next) {top : Nat} (ht : H'.next ≤ top) {ρ0 : Ren} {w0 : World} {D0 : List Deferred}
include cm
omit cm in
theorem silent_next (cm : CallMono call) {j : Nat} (hj : j < ops.size) (h : hk P ops[j].op ≤ 1) : (T.G (j + 1)).next = (T.G j).next := by
  have nf : ¬ Full P ops j ops[j] := by rintro (h4 | ⟨h3, _⟩) <;> omega
  exact ((T.quiet cm hj nf).1.hist0 (.inl h)).2
include hd ht hfn
/-- All that stands before the next full step is done: its heap is known whole. -/
theorem Inv.whole {L : Nat → Prop} {s m : Nat} {ρ : Ren} {a : Act} {w : World} (v : Inv T base top ρ0 w0 D0 L s m ρ a w) (hall : ∀ j o, ops[j]? = some o → s ≤ j → j < m → ¬ hk P o.op ≤ 1 → L j) : Post P base ρ0 ρ H (T.G m) w0 w := by
  have hmm := T.mono cm m v.hm
  have htop : (T.G m).next ≤ H'.next := by have h1 := T.next_le cm ops.size v.hm (Nat.le_refl _); have h2 : (T.G ops.size).next = H'.next := congrArg Heap.next T.gn; omega
  have hdm : DomOk (T.G m) := hmm.dom hd
  have key : ∀ k, ((T.G m).blk k).isSome = true → (ρ k).isSome = true := fun k hks => by
    have hlt := hdm k hks
    by_cases h : k < (T.G s).next
    · exact v.has0 k h (by rw [← T.seg_low cm v.nofull v.hm (Nat.le_refl _) m v.hs (Nat.le_refl _) k h]; exact hks)
    · obtain ⟨j, g1, g2, g3, g4⟩ := T.owner m v.hs k (by omega) hlt
      have hj : j < ops.size := by have := v.hm; omega
      have hk0 : ¬ hk P ops[j].op ≤ 1 := fun h0 => by have := silent_next T cm hj h0; omega
      have hL := hall j _ (show ops[j]? = some ops[j] by simp) g1 g2 hk0
      exact v.has1 j hL g1 g2 k g3 g4 (by rw [← T.seg_low cm v.nofull v.hm (i := j + 1) (by omega) m (by omega) (Nat.le_refl _) k g4]; exact hks)
  refine v.post.shape (fun k => ?_) hmm.floor (fun n x hx => ?_) hmm.next hdm (Nat.le_trans hfn hmm.next)
  · simp only [known]
    split
    · rfl
    · rename_i hn
      cases hb : (T.G m).blk k with
      | none => rfl
      | some b => exact absurd (key k (by simp [hb])) hn
  · rcases v.post.dom n x hx with h | ⟨h1, h2⟩
    · exact .inl h
    · refine .inr ⟨h1, ?_⟩
      rcases v.own n (by simp [hx]) with h | ⟨j, _, g1, g2, g3, g4⟩ | h
      · exact Nat.lt_of_lt_of_le h (T.next_le cm _ v.hs v.hm)
      · exact Nat.lt_of_lt_of_le g4 (T.next_le cm _ g2 v.hm)
      · have : (known ρ (T.G m) H'.next H.floor).next = H'.next := rfl
        omega
end
section
variable {ops : Array Oper} {fr : Fr} {H : Heap} {fr' : Fr} {H' : Heap} (T : Trace P call ops (befores ops.toList []) (idxs ops.toList) fr H fr' H')
theorem float_hk {b : List Nat} {os : List (Nat × Oper)} {i : Nat} {p : Nat × Oper} {a : Operand} (h : floatOf b os i p = some a) : hk P p.2.op ≤ 1 := by
  unfold floatOf at h
  split at h
  · rename_i t a' ho; rw [ho]; exact Nat.le_refl _
  · cases h
/-- A store writes its own block alone. -/
theorem store_keeps {o : Oper} {ev : Operand → Value} {H H1 : Heap} {v : Value} {w : Operand} (hw : wrOf o.op = some w) (h : opK P call o ev H (fun v H => some (v, H)) = some (v, H1)) {k : Nat} (hk : ∀ ad, ev w = .pointer (some ad) → k ≠ ad.block) : H1.blk k = H.blk k := by
  obtain ⟨dst, op, ty, ps, af, gd⟩ := o
  cases op <;> simp only [wrOf] at hw <;> try cases hw
  rename_i t x
  simp only [opK] at h
  obtain ⟨H2, h1, h2⟩ := Option.bind_eq_some_iff.1 h
  cases h2
  unfold pStore at h1
  split at h1
  · unfold stV at h1
    split at h1
    · rename_i ad he
      have hne := hk ad he
      split at h1
      · unfold Heap.stN at h1
        split at h1
        · cases h1; rfl
        split at h1
        · cases h1
        split at h1
        · cases h1
        obtain ⟨o, ho, h1⟩ := Option.bind_eq_some_iff.1 h1
        obtain ⟨d, hd, h1⟩ := Option.bind_eq_some_iff.1 h1
        split at h1
        · cases h1; simp [Heap.set, hne]
        · cases h1
      · cases h1
    · cases h1
  · cases h1
/-- A load reads its own block alone. -/
theorem load_one {o : Oper} {ev : Operand → Value} {H H1 : Heap} {v : Value} {t : TypeId} {x : Operand} (ho : o.op = .load t x) (h : opK P call o ev H (fun v H => some (v, H)) = some (v, H1)) :
    ∃ ad, ev x = .pointer (some ad) ∧ ∀ H' : Heap, (∀ b, H.blk ad.block = some b → H'.blk ad.block = some b) → opK P call o ev H' (fun v H => some (v, H)) = some (v, H') := by
  obtain ⟨dst, op, ty, ps, af, gd⟩ := o
  simp only at ho; subst ho
  simp only [opK] at h ⊢
  obtain ⟨u, hu, h⟩ := Option.bind_eq_some_iff.1 h
  cases h
  unfold pLoad at hu
  split at hu
  · rename_i agg n hl
    unfold ldV at hu
    split at hu
    · rename_i ad he
      refine ⟨ad, he, fun H' hs => ?_⟩
      have row : ∀ c, H.view ad.block = some c → H'.view ad.block = some c := fun c hc => by
        unfold Heap.view at hc ⊢
        obtain ⟨b, hb, hc⟩ := Option.bind_eq_some_iff.1 hc
        rw [hs b hb]; exact hc
      have : pLoad P t (ev x) H' = some v := by
        unfold pLoad
        rw [hl, he]
        simp only [ldV]
        split at hu
        · rename_i ha
          obtain ⟨c, hc, rfl⟩ := Option.map_eq_some_iff.1 hu
          rw [if_pos ha]
          have : H'.ldN ad n = some c := by
            unfold Heap.ldN at hc ⊢
            split at hc
            · rename_i h0; rw [if_pos h0]; exact hc
            · rename_i h0
              rw [if_neg h0]
              split at hc
              · cases hc
              · rename_i hs'
                rw [if_neg hs']
                obtain ⟨c', hc', hl'⟩ := Option.bind_eq_some_iff.1 hc
                rw [row c' hc']; exact hl'
          rw [this]; rfl
        · rename_i ha
          rw [if_neg ha]
          unfold Heap.ld1 at hu ⊢
          split at hu
          · cases hu
          · rename_i hs'
            rw [if_neg hs']
            obtain ⟨c', hc', hl'⟩ := Option.bind_eq_some_iff.1 hu
            rw [row c' hc']; exact hl'
      rw [this]; rfl
    · cases hu
  · cases hu
/-- A load's own step, and where it read. -/
theorem load_step (cm : CallMono call) {j : Nat} {o : Oper} (ho : ops[j]? = some o) (hd : DomOk H) {t : TypeId} {x : Operand} (hl : o.op = .load t x) (hg : o.guard = none) :
    ∃ ad, evF (T.F j) x = .pointer (some ad) ∧ ∀ H' : Heap, (∀ b, (T.G j).blk ad.block = some b → H'.blk ad.block = some b) → opK P call o (evF (T.F j)) H' (fun v H => some (v, H)) = some (T.V j, H') := by
  have hjs := (Array.getElem?_eq_some_iff.1 ho).1
  have ho' : o = ops[j] := by have : ops[j]? = some ops[j] := by simp
                              rw [this] at ho; cases ho; rfl
  have hk1 : hk P ops[j].op = 1 := by rw [← ho', hl]; rfl
  have hf : ¬ Full P ops j ops[j] := by rintro (h | ⟨h, _⟩) <;> omega
  have q := (T.quiet cm hjs hf).1
  rcases q.sees ((T.mono cm j (Nat.le_of_lt hjs)).dom hd) with hgf | ⟨Hq, Hq', _, _, _, _, hsub, _, hop⟩
  · rw [← ho'] at hgf; unfold GuardF at hgf; rw [hg] at hgf; exact hgf.elim
  · rw [← ho'] at hop
    obtain ⟨ad, h1, h2⟩ := load_one hl hop
    exact ⟨ad, h1, fun H' hs => h2 H' fun b hb => hs b (hsub _ b hb).1⟩

end
end
end Go.PG

namespace Go.PG
section
variable {P : Program} {base : Nat} {call : CallF}
variable {ops : Array Oper} {fr : Fr} {H : Heap} {fr' : Fr} {H' : Heap} (T : Trace P call ops (befores ops.toList []) (idxs ops.toList) fr H fr' H') (ds : DrawSpec P ops)
variable {top : Nat} {ρ0 : Ren} {w0 : World} {D0 : List Deferred} {L : Nat → Prop} {s m : Nat} {ρ : Ren} {a : Act} {w : World}

/-- An operation that may run now. -/
structure May (ops : Array Oper) (L : Nat → Prop) (i : Nat) : Prop where
  lt : i < ops.size
  new : ¬ L i
  edges : ∀ o, ops[i]? = some o → ∀ e, e ∈ o.after.toList → Region.binds .any e = true → L e.on
include ds
theorem May.anc (v : Inv T base top ρ0 w0 D0 L s m ρ a w) {i : Nat} (hi : May ops L i) {x : Nat} (h : anc (befores ops.toList []) i x = true) : L x := by
  have hlt := hi.lt
  obtain ⟨e, h1, h2, h3⟩ := anc_dir (show ops[i]? = some ops[i] from by simp) h
  have h4 := ds.edge i _ (show ops[i]? = some ops[i] from by simp) e h1 h2
  have h5 := hi.edges _ (show ops[i]? = some ops[i] from by simp) e h1 h2
  rcases h3 with rfl | h3
  · exact h5
  · exact anc_all ds v.closed e.on x (by omega) h5 h3
theorem May.not (v : Inv T base top ρ0 w0 D0 L s m ρ a w) {i : Nat} (hi : May ops L i) {j : Nat} (hj : j < ops.size) (h : PG.anc (befores ops.toList []) j i = true) : ¬ L j := fun hL => hi.new (anc_all ds v.closed j i hj hL h)
theorem May.sees (v : Inv T base top ρ0 w0 D0 L s m ρ a w) {i : Nat} (hi : May ops L i) {o : Oper} (ho : ops[i]? = some o) {t : Nat} (ht : t ∈ looksAt ops o) : VRel ρ ((T.F i).getD t undef) (a.tmps.getD t undef) := by
  refine v.frame i t (Nat.le_of_lt hi.lt) fun j oj hj hd => ?_
  by_cases e : j = i
  · subst e; exact ⟨fun h => absurd h hi.new, fun h => by omega⟩
  · have hjs := (Array.getElem?_eq_some_iff.1 hj).1
    rcases ds.apart i j o oj ho hj (Ne.symm e) with h | h | h
    · exact ⟨fun _ => anc_lt ds i j hi.lt h, fun _ => May.anc T ds v hi h⟩
    · have := anc_lt ds j i hjs h
      exact ⟨fun hL => absurd hL (May.not T ds v hi hjs h), fun h => by omega⟩
    · unfold apartL at h
      simp only [hd, Bool.and_eq_true] at h
      have := h.2
      simp [ht] at this
theorem May.frame (v : Inv T base top ρ0 w0 D0 L s m ρ a w) {i : Nat} (hi : May ops L i) {o : Oper} (ho : ops[i]? = some o) {ρ' : Ren} (hext : ∀ n x, ρ n = some x → ρ' n = some x) {v' : Value} (hv : VRel ρ' (T.V i) v') :
    ∀ m' t, m' ≤ ops.size → (∀ j oj, ops[j]? = some oj → oj.dst = some t → ((L j ∨ j = i) ↔ j < m')) → VRel ρ' ((T.F m').getD t undef) ((a.put o.dst v').tmps.getD t undef) := by
  intro m' t hm' hw
  rw [put_tmps, put_getD]
  by_cases hd : o.dst = some t
  · have him := (hw i o ho hd).1 (.inr rfl)
    have hlast : ∀ j oj, i + 1 ≤ j → j < m' → ops[j]? = some oj → oj.dst ≠ some t := fun j oj g1 g2 hj hdj => by
      have hjs := (Array.getElem?_eq_some_iff.1 hj).1
      have hL : L j := ((hw j oj hj hdj).2 g2).resolve_right (by omega)
      rcases ds.apart i j o oj ho hj (by omega) with h | h | h
      · have := anc_lt ds i j hi.lt h; omega
      · exact May.not T ds v hi hjs h hL
      · unfold apartL at h
        simp [hd, hdj] at h
    rw [T.same m' (by omega) hm' hlast, T.put i o ho, put_getD]
    have es : (T.F i).size = a.tmps.size := (T.size i (Nat.le_of_lt hi.lt)).trans v.size
    by_cases hl : t < a.tmps.size
    · rw [if_pos ⟨hd, by omega⟩, if_pos ⟨hd, hl⟩]; exact hv
    · rw [if_neg (fun h => hl (by omega)), if_neg (fun h => hl h.2), getD_out (by omega), getD_out (by omega)]; exact .undef
  · rw [if_neg (fun h => hd h.1)]
    refine (v.frame m' t hm' fun j oj hj hdj => ?_).mono hext
    have hji : j ≠ i := fun e => by subst e; rw [ho] at hj; cases hj; exact hd hdj
    exact ⟨fun h => (hw j oj hj hdj).1 (.inl h), fun h => ((hw j oj hj hdj).2 h).resolve_right hji⟩
theorem May.closed (v : Inv T base top ρ0 w0 D0 L s m ρ a w) {i : Nat} (hi : May ops L i) : ∀ j o, ops[j]? = some o → (L j ∨ j = i) → ∀ e, e ∈ o.after.toList → Region.binds .any e = true → (L e.on ∨ e.on = i) := by
  have _ := ds
  intro j o ho hL e he hb
  rcases hL with hL | rfl
  · exact .inl (v.closed j o ho hL e he hb)
  · exact .inl (hi.edges o ho e he hb)
theorem full_at {i : Nat} {o : Oper} (ho : ops[i]? = some o) (h : Full P ops i o) {j : Nat} {oj : Oper} (hj : ops[j]? = some oj) (hne : j ≠ i) (hk0 : hk P oj.op ≠ 0) :
    anc (befores ops.toList []) i j = true ∨ anc (befores ops.toList []) j i = true ∨ (hk P o.op = 4 ∧ ∃ a, floatOf (befores ops.toList []) (idxs ops.toList) i (j, oj) = some a) := by
  rcases h with h | ⟨_, h2⟩
  · rcases fullS_spec (ds.eff i o ho h) hj hne hk0 with g | g | g
    · exact .inl g
    · exact .inr (.inl g)
    · exact .inr (.inr ⟨h, g⟩)
  · rcases full_spec h2 hj hne hk0 with g | g
    · exact .inl g
    · exact .inr (.inl g)
theorem May.place (v : Inv T base top ρ0 w0 D0 L s m ρ a w) {i : Nat} (hi : May ops L i) {o : Oper} (ho : ops[i]? = some o) (h0 : hk P o.op ≠ 0) : (s ≤ i ∧ i ≤ m) ∨ (i < s ∧ Floats T s i o) := by
  rcases Nat.lt_or_ge i s with h | h
  · rcases v.done i o ho h h0 with g | g
    · exact absurd g hi.new
    · exact .inr ⟨h, g⟩
  · refine .inl ⟨h, ?_⟩
    rcases Nat.lt_or_ge m i with h | h
    · have hms : m < ops.size := by have := hi.lt; omega
      have hom : ops[m]? = some ops[m] := by simp
      have hf := v.full _ hom
      rcases full_at ds hom hf ho (by omega) h0 with g | g | ⟨_, a, g⟩
      · have := anc_lt ds m i hms g; omega
      · exact absurd (May.anc T ds v hi g) (v.undone m _ hom (Nat.le_refl _) (by rcases hf with h | ⟨h, _⟩ <;> omega))
      · have := (floatOf_spec g).2.2.1; omega
    · exact h
/-- Before a full step all others are done, but for loads that it touches not. -/
theorem May.full (v : Inv T base top ρ0 w0 D0 L s m ρ a w) {i : Nat} (hi : May ops L i) {o : Oper} (ho : ops[i]? = some o) (hf : Full P ops i o) :
    i = m ∧ ∀ j oj, ops[j]? = some oj → j < i → hk P oj.op ≠ 0 → L j ∨ (hk P o.op = 4 ∧ ∃ a, floatOf (befores ops.toList []) (idxs ops.toList) i (j, oj) = some a) := by
  have k0 : hk P o.op ≠ 0 ∧ hk P o.op ≠ 1 := by rcases hf with h | ⟨h, _⟩ <;> omega
  refine ⟨?_, fun j oj hj hlt hj0 => ?_⟩
  · rcases May.place T ds v hi ho k0.1 with ⟨g1, g2⟩ | ⟨_, t, a, ad, g, _⟩
    · rcases Nat.lt_or_ge i m with h | h
      · exact absurd hf (v.nofull i o g1 h ho)
      · omega
    · rw [g] at k0; exact absurd rfl k0.2
  · rcases full_at ds ho hf hj (by omega) hj0 with g | g | g
    · exact .inl (May.anc T ds v hi g)
    · have := anc_lt ds j i (Array.getElem?_eq_some_iff.1 hj).1 g; omega
    · exact .inr g
variable (cm : CallMono call) (hd : DomOk H) (hfn : H.floor ≤ H.next) (ht : H'.next ≤ top)
include cm hd hfn ht

/-- A full step is done. -/
theorem Inv.fullStep (v : Inv T base top ρ0 w0 D0 L s m ρ a w) {i : Nat} (hi : May ops L i) {o : Oper} (ho : ops[i]? = some o) (hf : Full P ops i o) {ρ' : Ren} {v' : Value} {w' : World} (hv : VRel ρ' (T.V i) v') (hp : Post P base ρ ρ' (T.G i) (T.G (i + 1)) w w')
    (hap : T.G (i + 1) = T.G i ∨ (opK P call o (evF (T.F i)) (T.G i) (fun v H => some (v, H)) = some (T.V i, T.G (i + 1)) ∧ (hk P o.op = 4 → isApart (evF (T.F i)) (floats (befores ops.toList []) (idxs ops.toList) i) o.op = true))) :
    ∃ m', Inv T base top ρ0 w0 D0 (fun j => L j ∨ j = i) (i + 1) m' ρ' (a.put o.dst v') w' := by
  obtain ⟨rfl, hall⟩ := May.full T ds v hi ho hf
  have hlt := hi.lt
  obtain ⟨m', g1, g2, g3, g4⟩ := next_full P ops _ (i + 1) rfl (by omega)
  have small : ∀ j oj, ops[j]? = some oj → j < i → ¬ hk P oj.op ≤ 1 → L j := fun j oj hj h2 h3 => (hall j oj hj h2 (by omega)).resolve_right fun ⟨_, a, g⟩ => h3 (float_hk g)
  have hp0 := v.whole T cm hd hfn ht fun j oj hj _ h2 h3 => small j oj hj h2 h3
  have hpp := hp0.trans hp
  have hm1 := T.mono cm (i + 1) (by omega)
  have hm' := T.mono cm m' g2
  have known1 : ∀ k, ((T.G (i + 1)).blk k).isSome = true → (ρ' k).isSome = true := fun k hk => by
    obtain ⟨b, hb⟩ := Option.isSome_iff_exists.1 hk
    obtain ⟨c, K, e, _⟩ := (hp.rel.blk k b hb).at_
    simp [e]
  have own1 : ∀ k, (ρ' k).isSome = true → k < (T.G (i + 1)).next ∨ top ≤ k := fun k hk => by
    obtain ⟨x, hx⟩ := Option.isSome_iff_exists.1 hk
    rcases hp.dom k x hx with h | ⟨h1, h2⟩
    · rcases v.own k (by simp [h]) with h | ⟨j, _, h1, h2, _, h3⟩ | h
      · exact .inl (Nat.lt_of_lt_of_le h (T.next_le cm _ (by have := v.hs; omega) (by omega)))
      · exact .inl (Nat.lt_of_lt_of_le h3 (T.next_le cm _ (by omega) (by omega)))
      · exact .inr h
    · exact .inl h2
  have hGn : (T.G ops.size).next = H'.next := congrArg Heap.next T.gn
  have hle' : (T.G m').next ≤ H'.next := by rw [← hGn]; exact T.next_le cm _ g2 (Nat.le_refl _)
  have hle1 : (T.G (i + 1)).next ≤ H'.next := by rw [← hGn]; exact T.next_le cm _ (by omega) (Nat.le_refl _)
  refine ⟨m', ?_⟩
  exact {
    hs := g1
    hm := g2
    nofull := g3
    full := g4
    done := fun j oj hj hlt' h0 => by
      by_cases e : j = i
      · exact .inl (.inr e)
      · by_cases hL : L j
        · exact .inl (.inl hL)
        · refine .inr ?_
          have hji : j < i := by omega
          obtain ⟨h4, ax, gx⟩ := (hall j oj hj hji h0).resolve_left hL
          obtain ⟨⟨t, ht'⟩, hgn, _, hnw⟩ := floatOf_spec gx
          obtain ⟨ad, he, _⟩ := load_step T cm hj hd ht' hgn
          refine ⟨t, ax, ad, ht', hgn, he, fun b hb => ?_⟩
          have hbi : (T.G i).blk ad.block = some b := by
            by_cases hjs : j < s
            · obtain ⟨t2, a2, ad2, e1, _, e3, e4⟩ := (v.done j oj hj hjs h0).resolve_left hL
              rw [ht'] at e1; cases e1
              rw [he] at e3; cases e3
              have hs := e4 b hb
              rw [T.seg_low cm v.nofull v.hm (Nat.le_refl _) i v.hs (Nat.le_refl _) ad.block ((T.mono cm s (by have := v.hs; omega)).dom hd _ (by simp [hs]))]
              exact hs
            · rw [T.seg_low cm v.nofull v.hm (by omega) i (by omega) (Nat.le_refl _) ad.block ((T.mono cm j (by omega)).dom hd _ (by simp [hb]))]
              exact hb
          rcases hap with e | ⟨hop, hck⟩
          · rw [e]; exact hbi
          · have hc := hck h4
            unfold isApart at hc
            have := List.all_eq_true.1 hc _ (mem_floats hj gx)
            split at this
            · rename_i wo hwo
              rw [store_keeps hwo hop, hbi]
              intro ad' he' hne
              have e2 : evF (T.F i) ax = evF (T.F j) ax := by
                cases ax with
                | tmp t =>
                  exact T.same i (by omega) (Nat.le_of_lt hlt) fun q oq h1 h2 hq hdq => by
                    have := hnw q oq hq h1 h2
                    simp [isTmp, hdq] at this
                | const c => rfl
                | global g => rfl
                | func f => rfl
              rw [e2, he, he'] at this
              simp [neB, hne] at this
            · cases this
    undone := fun j oj hj hle h0 hL => by
      rcases hL with hL | rfl
      · exact v.undone j oj hj (by omega) h0 hL
      · omega
    closed := May.closed T ds v hi
    has0 := fun k _ hk => known1 k hk
    has1 := fun j hL h1 h2 k h3 h4 _ => by
      exfalso
      have hjs : j < ops.size := by omega
      by_cases h0 : hk P ops[j].op ≤ 1
      · have := silent_next T cm hjs h0; omega
      · rcases hL with hL | rfl
        · exact v.undone j _ (show ops[j]? = some ops[j] by simp) (by omega) (by omega) hL
        · omega
    own := fun k hk => (own1 k hk).elim .inl fun h => .inr (.inr h)
    post := by
      refine hpp.shape (fun k => ?_) hm1.floor.symm (fun n x hx => ?_) ?_ (fun k hk => ?_) ?_
      · simp only [known]
        by_cases hlt' : k < (T.G (i + 1)).next
        · have e := T.seg_low cm g3 g2 (Nat.le_refl _) m' g1 (Nat.le_refl _) k hlt'
          rw [e]
          split
          · rfl
          · rename_i hn
            cases hb : (T.G (i + 1)).blk k with
            | none => rfl
            | some b => exact absurd (known1 k (by simp [hb])) hn
        · have e1 : (T.G (i + 1)).blk k = none := by
            cases hb : (T.G (i + 1)).blk k with
            | none => rfl
            | some b => have := hm1.dom hd k (by simp [hb]); omega
          rw [e1]
          split
          · rename_i hs
            rcases own1 k hs with h | h
            · omega
            · cases hb : (T.G m').blk k with
              | none => rfl
              | some b => have := hm'.dom hd k (by simp [hb]); omega
          · rfl
      · rcases hpp.dom n x hx with h | ⟨h1, h2⟩
        · exact .inl h
        · exact .inr ⟨h1, Nat.lt_of_lt_of_le h2 hle1⟩
      · exact Nat.le_trans hpp.next hle1
      · obtain ⟨b, hb⟩ := Option.isSome_iff_exists.1 hk
        have := hm'.dom hd k (by simp [(known_some hb).2])
        exact Nat.lt_of_lt_of_le this hle'
      · rw [hm1.floor]; exact Nat.le_trans hfn (Nat.le_trans hpp.next hle1)
    size := by rw [put_tmps, put_size]; exact v.size
    frame := May.frame T ds v hi ho hp.ext hv
    defers := by rw [put_defers]; exact v.defers }

/-- Another step is done: what it saw, and what it made. -/
theorem Inv.quietStep (v : Inv T base top ρ0 w0 D0 L s m ρ a w) {i : Nat} (hi : May ops L i) {o : Oper} (ho : ops[i]? = some o) (hf : ¬ Full P ops i o) {ρ' : Ren} {v' : Value} {w' : World} (hv : VRel ρ' (T.V i) v') (hext : ∀ n x, ρ n = some x → ρ' n = some x)
    (hpost : Post P base ρ0 ρ' H (known ρ' (T.G m) H'.next H.floor) w0 w') (hdom : ∀ n x, ρ' n = some x → ρ n = some x ∨ (s ≤ i ∧ i < m ∧ (T.G i).next ≤ n ∧ n < (T.G (i + 1)).next))
    (hnew : s ≤ i → i < m → ∀ k, (T.G i).next ≤ k → k < (T.G (i + 1)).next → ((T.G (i + 1)).blk k).isSome = true → (ρ' k).isSome = true) :
    Inv T base top ρ0 w0 D0 (fun j => L j ∨ j = i) s m ρ' (a.put o.dst v') w' := by
  have _ := cm
  have _ := hd
  have _ := hfn
  have _ := ht
  have up : ∀ k, (ρ k).isSome = true → (ρ' k).isSome = true := fun k hk => by
    obtain ⟨x, hx⟩ := Option.isSome_iff_exists.1 hk
    simp [hext k x hx]
  exact {
    hs := v.hs
    hm := v.hm
    nofull := v.nofull
    full := v.full
    done := fun j oj hj hlt h0 => (v.done j oj hj hlt h0).imp .inl id
    undone := fun j oj hj hle h0 hL => by
      rcases hL with hL | rfl
      · exact v.undone j oj hj hle h0 hL
      · rw [ho] at hj; cases hj
        have e : j = m := by have := v.hs; rcases May.place T ds v hi ho h0 with h | h <;> omega
        subst e
        exact hf (v.full o ho)
    closed := May.closed T ds v hi
    has0 := fun k h1 h2 => up k (v.has0 k h1 h2)
    has1 := fun j hL h1 h2 k h3 h4 h5 => by
      rcases hL with hL | rfl
      · exact up k (v.has1 j hL h1 h2 k h3 h4 h5)
      · exact hnew h1 h2 k h3 h4 h5
    own := fun k hk => by
      obtain ⟨x, hx⟩ := Option.isSome_iff_exists.1 hk
      rcases hdom k x hx with h | ⟨h1, h2, h3, h4⟩
      · rcases v.own k (by simp [h]) with h | ⟨j, g1, g2⟩ | h
        · exact .inl h
        · exact .inr (.inl ⟨j, .inl g1, g2⟩)
        · exact .inr (.inr h)
      · exact .inr (.inl ⟨i, .inr rfl, h1, h2, h3, h4⟩)
    post := hpost
    size := by rw [put_tmps, put_size]; exact v.size
    frame := May.frame T ds v hi ho hext hv
    defers := by rw [put_defers]; exact v.defers }

theorem Inv.doStep (cx : Ctx P base call) (v : Inv T base top ρ0 w0 D0 L s m ρ a w) {i : Nat} (hi : May ops L i) {o : Oper} (ho : ops[i]? = some o) (hok : (o.op.operands.toList.all flatO) = true) {K : Act → World → Prop} {Q : Exit → Act → World → Prop}
    (hk : ∀ s' m' ρ' a' w', Inv T base top ρ0 w0 D0 (fun j => L j ∨ j = i) s' m' ρ' a' w' → K a' w') : wpOp P ops Q i K a w := by
  have hlt := hi.lt
  have looks : ∀ t, t ∈ looksAt ops o → VRel ρ ((T.F i).getD t undef) (a.tmps.getD t undef) := fun t h => May.sees T ds v hi ho h
  have args : ∀ x, x ∈ o.op.operands.toList → VRel ρ (evF (T.F i) x) (evF a.tmps x) := fun x hx => by
    have hfx := List.all_eq_true.1 hok x hx
    cases x with
    | tmp t => exact looks t (by unfold looksAt; exact List.mem_append_left _ (List.mem_filterMap.2 ⟨.tmp t, hx, rfl⟩))
    | const c => exact flatC_rel hfx
    | global g => cases hfx
    | func f => exact .func _ rfl rfl (fun i hi => absurd hi (Nat.not_lt_zero i)) (fun i hi => absurd hi (Nat.not_lt_zero i))
  have st := T.step i o ho
  have hmi := T.mono cm i (Nat.le_of_lt hlt)
  have hmi1 := T.mono cm (i + 1) hlt
  have hst := T.stepMono cm hlt
  have hGn : (T.G ops.size).next = H'.next := congrArg Heap.next T.gn
  have hle1 : (T.G (i + 1)).next ≤ H'.next := by rw [← hGn]; exact T.next_le cm _ hlt (Nat.le_refl _)
  have hup : H.next ≤ H'.next := by rw [← hGn]; exact (T.mono cm _ (Nat.le_refl _)).next
  have fresh : s ≤ i → i ≤ m → ∀ n, (T.G i).next ≤ n → n < (T.G (i + 1)).next → ρ n = none := fun h1 h2 n h3 h4 => by
    cases hx : ρ n with
    | none => rfl
    | some x =>
      exfalso
      rcases v.own n (by simp [hx]) with h | ⟨j, g1, g2, g3, g4, g5⟩ | h
      · have := T.next_le cm i h1 (Nat.le_of_lt hlt); omega
      · by_cases e : j < i
        · have := T.next_le cm (i := j + 1) i e (Nat.le_of_lt hlt); omega
        · by_cases e2 : j = i
          · subst e2; exact hi.new g1
          · have := T.next_le cm (i := i + 1) j (by omega) (by have := v.hm; omega); omega
      · omega
  unfold wpOp
  simp only [ho]
  by_cases hf : Full P ops i o
  · obtain ⟨rfl, hall⟩ := May.full T ds v hi ho hf
    have hp0 := v.whole T cm hd hfn ht fun j oj hj _ h2 h3 => (hall j oj hj h2 (by omega)).resolve_right fun ⟨_, a, g⟩ => h3 (float_hk g)
    rcases step_full st hf with ⟨hg, hv, hG, _⟩ | ⟨hg, _, hop, hck⟩
    · rw [if_neg (by rw [wantF looks hg]; simp)]
      have hp : Post P base ρ ρ (T.G i) (T.G (i + 1)) w w := by rw [hG]; exact .refl hp0.rel
      obtain ⟨m', h⟩ := Inv.fullStep T ds cm hd hfn ht v hi ho hf (v' := undef) (by rw [hv]; exact .undef) hp (.inl hG)
      exact hk _ _ _ _ _ h
    · rw [if_pos (wantT looks hg)]
      refine .inl (op_wpP cx hop args hp0.rel (fresh v.hs (Nat.le_refl _)) fun ρ' v' w' hv hp => ?_)
      obtain ⟨m', h⟩ := Inv.fullStep T ds cm hd hfn ht v hi ho hf hv hp (.inr ⟨hop, hck⟩)
      exact hk _ _ _ _ _ h
  · have ho' : o = ops[i] := by have : ops[i]? = some ops[i] := by simp
                                rw [this] at ho; cases ho; rfl
    have hf' : ¬ Full P ops i ops[i] := ho' ▸ hf
    obtain ⟨q, qv⟩ := T.quiet cm hlt hf'
    rw [← ho'] at q qv
    have skip : GuardF ops o (T.F i) → (if Region.wanted o (yielded ops a.tmps) = true then o.wp P a w K Q ∨ (o.asks P a w ∧ LetsOut Q) else K (a.put o.dst undef) w) := fun hg => by
      rw [if_neg (by rw [wantF looks hg]; simp)]
      have hn := (q.hist0 (.inr hg)).2
      refine hk s m ρ _ w (Inv.quietStep T ds cm hd hfn ht v hi ho hf (v' := undef) (by rw [qv hg]; exact .undef) (fun _ _ h => h) v.post (fun n x h => .inl h) fun _ _ k h1 h2 => ?_)
      omega
    have hds := hmi.dom hd
    have hb0 : base ≤ H.floor := v.post.rel.floor
    rcases q.sees hds with hg | ⟨Hq, Hq', hg, e1, e2, e3, hsub, hnew, hop⟩
    · exact skip hg
    rw [if_pos (wantT looks hg)]
    refine .inl ?_
    by_cases h0 : PG.hk P o.op = 0
    · let Hs : Heap := ⟨fun _ => none, H'.next, H'.next⟩
      have hrel : Rel P base ρ Hs w := ⟨fun n b hb => (by cases hb), fun n m b K K' hb => (by cases hb), fun n hn => (by cases hn), (by show base ≤ H'.next; omega), Nat.le_refl _⟩
      refine op_wpP cx (silent_any h0 hop Hs) args hrel (fun n h1 h2 => by omega) fun ρ' v' w' hv hp => ?_
      have hw := v.post.widen hp (fun n hn => by cases hn) rfl hup (Nat.le_refl _) (fun n b h1 h2 => by omega) hfn
      have hn := (q.hist0 (.inl (by omega))).2
      refine hk s m ρ' _ w' (Inv.quietStep T ds cm hd hfn ht v hi ho hf hv hp.ext hw (fun n x hx => ?_) fun _ _ k h1 h2 => by omega)
      rcases hp.dom n x hx with h | ⟨h1, h2⟩
      · exact .inl h
      · omega
    · rcases May.place T ds v hi ho h0 with ⟨hsi, him⟩ | ⟨his, t, x, ad, e1', hgn, he, hkeep⟩
      case inr =>
        obtain ⟨ad', he', hl⟩ := load_step T cm ho hd e1' hgn
        rw [he] at he'; cases he'
        let Hs : Heap := ⟨fun k => if k = ad.block then (T.G i).blk k else none, H'.next, H'.next⟩
        have hsb : ∀ n b, Hs.blk n = some b → (known ρ (T.G m) H'.next H.floor).blk n = some b := fun n b hb => by
          have hn : n = ad.block ∧ (T.G i).blk n = some b := by
            simp only [Hs] at hb
            split at hb
            · rename_i e; exact ⟨e, hb⟩
            · cases hb
          obtain ⟨rfl, hb⟩ := hn
          have h1 := hkeep b hb
          have hlt' := (T.mono cm s (by have := v.hs; have := v.hm; omega)).dom hd _ (show ((T.G s).blk ad.block).isSome = true by simp [h1])
          have hρ := v.has0 _ hlt' (by simp [h1])
          have em := T.seg_low cm v.nofull v.hm (Nat.le_refl _) m v.hs (Nat.le_refl _) ad.block hlt'
          simp only [known, hρ, if_true, em, h1]
        have hds' : DomOk Hs := fun n hn => by
          obtain ⟨b, hb⟩ := Option.isSome_iff_exists.1 hn
          exact v.post.rel.dom n (by rw [hsb n b hb]; rfl)
        have hrel : Rel P base ρ Hs w := by
          refine ⟨fun n b hb => v.post.rel.blk n b (hsb n b hb), fun n m b K K' hn hm => ?_, hds', (by show base ≤ H'.next; omega), Nat.le_refl _⟩
          obtain ⟨x, hx⟩ := Option.isSome_iff_exists.1 hn
          obtain ⟨y, hy⟩ := Option.isSome_iff_exists.1 hm
          exact v.post.rel.inj n m b K K' (by simp [hsb n x hx]) (by simp [hsb m y hy])
        refine op_wpP cx (hl Hs fun b hb => by simp [Hs, hb]) args hrel (fun n h1 h2 => by omega) fun ρ' v' w' hv hp => ?_
        have hw := v.post.widen hp hds' rfl hup (Nat.le_refl _) (fun n b h1 h2 => by omega) hfn
        refine hk s m ρ' _ w' (Inv.quietStep T ds cm hd hfn ht v hi ho hf hv hp.ext hw (fun n x hx => ?_) fun h _ => by omega)
        rcases hp.dom n x hx with h | ⟨h1, h2⟩
        · exact .inl h
        · omega
      have him' : i < m := by
        rcases Nat.lt_or_ge i m with h | h
        · exact h
        · have e : i = m := by omega
          subst e
          exact absurd (v.full o ho) hf
      have vis : ∀ n b, Hq.blk n = some b → (known ρ (T.G m) H'.next H.floor).blk n = some b := fun n b hb => by
        obtain ⟨g1, g2⟩ := hsub n b hb
        have hlt' := hds n (by simp [g1])
        have em := T.seg_low cm v.nofull v.hm hsi m him (Nat.le_refl _) n hlt'
        have hρ : (ρ n).isSome = true := by
          by_cases h : n < (T.G s).next
          · exact v.has0 n h (by rw [← T.seg_low cm v.nofull v.hm (Nat.le_refl _) i hsi him n h, g1]; rfl)
          · obtain ⟨j, k1, k2, k3, k4⟩ := T.owner i hsi n (by omega) hlt'
            have hjL : L j := by
              rcases T.seg_hist cm v.nofull v.hm k1 i k2 him with h | h
              · omega
              · rcases mem_hidden h (b := befores ops.toList []) (i := i) with h | h
                · exact May.anc T ds v hi h
                · exact absurd ⟨_, h, k3, k4⟩ g2
            exact v.has1 j hjL k1 (by omega) n k3 k4 (by rw [← T.seg_low cm v.nofull v.hm (i := j + 1) (by omega) i k2 him n k4, g1]; rfl)
        simp only [known, hρ, if_true, em, g1]
      have hdq : DomOk Hq := fun n hn => by
        obtain ⟨b, hb⟩ := Option.isSome_iff_exists.1 hn
        rw [e1]; exact hds n (by simp [(hsub n b hb).1])
      have hrel : Rel P base ρ Hq w := by
        refine ⟨fun n b hb => v.post.rel.blk n b (vis n b hb), fun n m b K K' hn hm => ?_, hdq, ?_, by omega⟩
        · obtain ⟨x, hx⟩ := Option.isSome_iff_exists.1 hn
          obtain ⟨y, hy⟩ := Option.isSome_iff_exists.1 hm
          exact v.post.rel.inj n m b K K' (by simp [vis n x hx]) (by simp [vis m y hy])
        · have := hmi.next; omega
      have hmi' := hmi.next
      refine op_wpP cx hop args hrel (fun n h1 h2 => fresh hsi him n (by omega) (by omega)) fun ρ' v' w' hv hp => ?_
      have later : ∀ n, n < (T.G (i + 1)).next → (T.G m).blk n = (T.G (i + 1)).blk n := fun n h => T.seg_low cm v.nofull v.hm (by omega) m him' (Nat.le_refl _) n h
      have hw := v.post.widen (G := T.G m) hp hdq (by omega) (by omega) (by omega) (fun n b h1 h2 hb => hnew n b (by omega) (by rw [← later n (by omega)]; exact hb)) hfn
      refine hk s m ρ' _ w' (Inv.quietStep T ds cm hd hfn ht v hi ho hf hv hp.ext hw (fun n x hx => ?_) fun _ _ k h1 h2 h3 => ?_)
      · rcases hp.dom n x hx with h | ⟨h1, h2⟩
        · exact .inl h
        · exact .inr ⟨hsi, him', by omega, by omega⟩
      · obtain ⟨b, hb⟩ := Option.isSome_iff_exists.1 h3
        obtain ⟨c, K, e, _⟩ := (hp.rel.blk k b (hnew k b (by omega) hb)).at_
        simp [e]
end
end Go.PG

namespace Go.PG
section
variable {P : Program} {base : Nat} {call : CallF}
section
variable {ops : Array Oper} {fr : Fr} {H : Heap} {fr' : Fr} {H' : Heap} (T : Trace P call ops (befores ops.toList []) (idxs ops.toList) fr H fr' H') (ds : DrawSpec P ops)
variable {top : Nat} {ρ0 : Ren} {w0 : World} {D0 : List Deferred}

theorem Inv.start (cm : CallMono call) {a : Act} {w : World} (h : Rel P base ρ0 H w) (hfr : ARel ρ0 fr a.tmps) (hf : Fresh ρ0 H top) (ht : H'.next ≤ top) : ∃ m, Inv T base top ρ0 w a.defers (fun _ => False) 0 m ρ0 a w := by
  have hdm : DomOk H := h.dom
  obtain ⟨m, g1, g2, g3, g4⟩ := next_full P ops _ 0 rfl (by omega)
  have hGn : (T.G ops.size).next = H'.next := congrArg Heap.next T.gn
  have hle : (T.G m).next ≤ H'.next := by rw [← hGn]; exact T.next_le cm _ g2 (Nat.le_refl _)
  have hmm := T.mono cm m g2
  have h0 : ∀ k, (H.blk k).isSome = true → (ρ0 k).isSome = true := fun k hk => by
    obtain ⟨b, hb⟩ := Option.isSome_iff_exists.1 hk
    obtain ⟨c, K, e, _⟩ := (h.blk k b hb).at_
    simp [e]
  have own0 : ∀ k, (ρ0 k).isSome = true → k < H.next ∨ top ≤ k := fun k hk => by
    rcases Nat.lt_or_ge k H.next with g | g
    · exact .inl g
    · rcases Nat.lt_or_ge k top with g' | g'
      · rw [hf k g g'] at hk; cases hk
      · exact .inr g'
  have eG0 : T.G 0 = H := T.g0
  refine ⟨m, {
    hs := g1
    hm := g2
    nofull := g3
    full := g4
    done := fun j o _ hj => by omega
    undone := fun _ _ _ _ _ h => h
    closed := fun _ _ _ h => h.elim
    has0 := fun k _ hk => h0 k (by rw [eG0] at hk; exact hk)
    has1 := fun _ h => h.elim
    own := fun k hk => by rw [eG0]; exact (own0 k hk).elim .inl fun h => .inr (.inr h)
    post := by
      refine (Post.refl h).shape (fun k => ?_) rfl (fun n x hx => .inl hx) (Nat.le_trans hmm.next hle) (fun k hk => ?_) (Nat.le_trans h.fle (Nat.le_trans hmm.next hle))
      · have low : k < H.next → (T.G m).blk k = H.blk k := fun hk => by
          have := T.seg_low cm g3 g2 (Nat.le_refl _) m g1 (Nat.le_refl _) k (by rw [eG0]; exact hk)
          rw [this, eG0]
        simp only [known]
        by_cases hk : k < H.next
        · rw [low hk]
          split
          · rfl
          · rename_i hn
            cases hb : H.blk k with
            | none => rfl
            | some b => exact absurd (h0 k (by simp [hb])) hn
        · have e1 : H.blk k = none := by
            cases hb : H.blk k with
            | none => rfl
            | some b => exact absurd (hdm k (by simp [hb])) hk
          rw [e1]
          split
          · rename_i hs
            rcases own0 k hs with g | g
            · exact absurd g hk
            · cases hb : (T.G m).blk k with
              | none => rfl
              | some b => have := hmm.dom hdm k (by simp [hb]); omega
          · rfl
      · obtain ⟨b, hb⟩ := Option.isSome_iff_exists.1 hk
        have := hmm.dom hdm k (by simp [(known_some hb).2])
        exact Nat.lt_of_lt_of_le this hle
    size := hfr.1
    frame := fun m' t hm' hw => by
      rw [T.same m' (Nat.zero_le _) hm' fun j o _ hj ho hd => (hw j o ho hd).2 hj, T.f0]
      exact hfr.2 t
    defers := rfl }⟩
theorem Inv.finish (cm : CallMono call) {L : Nat → Prop} {s m : Nat} {ρ : Ren} {a : Act} {w : World} (hd : DomOk H) (hfn : H.floor ≤ H.next) (ht : H'.next ≤ top) (v : Inv T base top ρ0 w0 D0 L s m ρ a w) (hall : ∀ j, j < ops.size → L j) :
    Post P base ρ0 ρ H H' w0 w ∧ ARel ρ fr' a.tmps ∧ a.defers = D0 := by
  have hm : m = ops.size := by
    rcases Nat.lt_or_ge m ops.size with h | h
    · have ho : ops[m]? = some ops[m] := by simp
      have hf := v.full _ ho
      exact absurd (hall m h) (v.undone m _ ho (Nat.le_refl _) (by rcases hf with h | ⟨h, _⟩ <;> omega))
    · have := v.hm; omega
  subst hm
  refine ⟨?_, ⟨?_, fun t => ?_⟩, v.defers⟩
  · have := v.whole T cm hd hfn ht fun j oj hj _ _ _ => hall j (Array.getElem?_eq_some_iff.1 hj).1
    have e : T.G ops.size = H' := T.gn
    rw [e] at this; exact this
  · have := T.size ops.size (Nat.le_refl _)
    have e : T.F ops.size = fr' := T.fn
    rw [e] at this
    exact this.trans v.size
  · have := v.frame ops.size t (Nat.le_refl _) fun j o ho _ => by
      have hjs := (Array.getElem?_eq_some_iff.1 ho).1
      exact ⟨fun _ => hjs, fun _ => hall j hjs⟩
    have e : T.F ops.size = fr' := T.fn
    rw [e] at this; exact this
/-- Which are still to be done. -/
def left (listed : Array Bool) : Nat := listed.countP (fun b => !b)
theorem left_set {listed : Array Bool} {i : Nat} (hi : i < listed.size) (h : listed[i] = false) : left (listed.setIfInBounds i true) + 1 = left listed := by
  have e : listed.setIfInBounds i true = listed.set i true hi := by simp [Array.setIfInBounds, hi]
  unfold left
  have hpos : 0 < listed.countP (fun b => !b) := by
    rw [Array.countP_pos_iff]
    exact ⟨listed[i], Array.getElem_mem hi, by simp [h]⟩
  rw [e, Array.countP_set]
  simp [h]
  omega
include ds
theorem Inv.all (cx : Ctx P base call) {Q : Exit → Act → World → Prop} (hok : okOps ops.toList = true) (hd : DomOk H) (hfn : H.floor ≤ H.next) (ht : H'.next ≤ top)
    (hk : ∀ ρ' a' w', Post P base ρ0 ρ' H H' w0 w' → ARel ρ' fr' a'.tmps → a'.defers = D0 → Q .normal a' w') :
    ∀ (fuel : Nat) (listed : Array Bool) (s m : Nat) (ρ : Ren) (a : Act) (w : World), listed.size = ops.size → left listed ≤ fuel → Inv T base top ρ0 w0 D0 (fun j => listed.getD j false = true) s m ρ a w →
      wpAny P .any ops Q fuel listed a w := by
  have fin : ∀ (listed : Array Bool) (s m : Nat) (ρ : Ren) (a : Act) (w : World), listed.size = ops.size → Region.ready .any ops listed = [] → Inv T base top ρ0 w0 D0 (fun j => listed.getD j false = true) s m ρ a w → Q .normal a w := by
    intro listed s m ρ a w hs hr v
    have hall : ∀ j, j < ops.size → listed.getD j false = true := by
      intro j
      induction j using Nat.strongRecOn with
      | _ j ih =>
        intro hj
        cases hb : listed.getD j false with
        | true => rfl
        | false =>
          exfalso
          have : j ∈ Region.ready .any ops listed := by
            rw [mem_ready]
            refine ⟨by have hj' : j < listed.size := by omega
                       simp [hj'] at hb ⊢; exact hb, ops[j], by simp, fun e he hbd => ?_⟩
            have := ds.edge j ops[j] (by simp) e (by simpa using he) hbd
            exact ih e.on this (by omega)
          rw [hr] at this; cases this
    obtain ⟨h1, h2, h3⟩ := Inv.finish T cx.mono hd hfn ht v hall
    exact hk ρ a w h1 h2 h3
  intro fuel
  induction fuel with
  | zero =>
    intro listed s m ρ a w hs hl v
    have hr : Region.ready .any ops listed = [] := by
      cases hr : Region.ready .any ops listed with
      | nil => rfl
      | cons j l =>
        exfalso
        have hj : j ∈ Region.ready .any ops listed := by rw [hr]; simp
        obtain ⟨h0, o, ho, _⟩ := mem_ready.1 hj
        have hjs : j < listed.size := by have := (Array.getElem?_eq_some_iff.1 ho).1; omega
        have := left_set hjs (by simpa [hjs] using h0)
        omega
    exact ⟨hr, fin listed s m ρ a w hs hr v⟩
  | succ fuel ih =>
    intro listed s m ρ a w hs hl v
    refine ⟨fun hr => fin listed s m ρ a w hs hr v, fun i hi => ?_⟩
    obtain ⟨h0, o, ho, he⟩ := mem_ready.1 hi
    have his := (Array.getElem?_eq_some_iff.1 ho).1
    have hil : i < listed.size := by omega
    have may : May ops (fun j => listed.getD j false = true) i := ⟨his, by simpa [hil] using h0, fun o' ho' e h1 h2 => by
      rw [ho] at ho'; cases ho'
      exact he e (by simpa using h1) h2⟩
    have hok' : (o.op.operands.toList.all flatO) = true := by
      simp only [okOps, List.all_eq_true] at hok
      have := hok o (by
        obtain ⟨h, e⟩ := Array.getElem?_eq_some_iff.1 ho; rw [← e]; simp)
      exact List.all_eq_true.2 this
    refine Inv.doStep T ds cx.mono hd hfn ht cx v may ho hok' fun s' m' ρ' a' w' v' => ?_
    refine ih _ s' m' ρ' a' w' (by simp [hs]) (by have := left_set hil (by simpa [hil] using h0); omega) ?_
    have e : (fun j => listed.getD j false = true ∨ j = i) = (fun j => (listed.setIfInBounds i true).getD j false = true) := by
      funext j
      by_cases hj : i = j
      · subst hj; simp [hil]
      · rw [getD_set_ne false hj]; simp [Ne.symm hj]
    rw [← e]; exact v'
end
theorem region_draw (hm : P.follows .mixedOrders = true) (cx : Ctx P base call) (ops : Array Oper) : RegGoal P base call ops true := by
  intro id fr H fr' H' ρ a w top Q h hok hr hfr hf ht hk
  obtain ⟨hd, ⟨T⟩⟩ := trace_of h
  have ds := drawOk_spec hd
  refine wp_region_any hm ?_
  have hr' : Rel P base ρ H { w with drawn := w.drawn + 1 } := hr.draws rfl
  obtain ⟨m, v⟩ := Inv.start T cx.mono hr' hfr hf ht
  have hp0 : Post P base ρ ρ H H w { w with drawn := w.drawn + 1 } := .draws hr rfl ⟨rfl, rfl, rfl⟩
  refine Inv.all T ds (ρ0 := ρ) (D0 := a.defers) (w0 := { w with drawn := w.drawn + 1 }) cx hok hr.dom hr.fle ht (fun ρ' a' w' hp hfr' hd' => hk ρ' a' w' (hp0.trans hp) hfr' hd') ops.size _ 0 m ρ a _ (by simp) ?_ ?_
  · unfold left
    exact Nat.le_trans Array.countP_le_size (by simp)
  · have e : (fun j => (Array.replicate ops.size false).getD j false = true) = fun _ => False := by
      funext j
      by_cases hj : j < ops.size <;> simp [Array.getElem?_replicate, hj]
    rw [e]; exact v
theorem draws_ok (hm : P.follows .mixedOrders = true) (cx : Ctx P base call) : Draws P base call := ⟨region_draw hm cx, draw_mono cx.mono⟩
/-- The interpreter, sound. -/
theorem run_ok (hm : P.follows .mixedOrders = true) (hP : BytesOk P) (hE : ExtOk P base) (k : Nat) : CallOk P base (run P k) :=
  run_sound hP hE (fun _ cx => draws_ok hm cx) (fun _ cm => draw_mono cm) k
end
end Go.PG

namespace Go.PG
section
variable {P : Program} {base : Nat}

theorem digits_cell : ∀ (n t : Nat) (acc : Array Value), (∀ v, v ∈ acc → v.oneCell' = true) → ∀ v, v ∈ Extern.BytealgMakeNoZero.digits n t acc → v.oneCell' = true
  | 0, _, _, h => h
  | n + 1, t, acc, h => digits_cell n (t / 256) _ fun v hv => by
    rcases Array.mem_push.1 hv with hv | rfl
    · exact h v hv
    · rfl
theorem run_noZero (w : World) (ps : Array TypeId) (t e : TypeId) (ht : P.underlying t = some (.slice e)) (n : Nat) (hn : n ≤ 281474976710656) :
    ∃ cs : Array Value, (Extern.BytealgMakeNoZero.makeNoZero ps #[t] #[.int .i64 n]).run P w = .ok (.slice (some ⟨w.heap.size, 0, none⟩) n cs.size) (w.drew.drew.alloc (.cells cs e)) ∧ n ≤ cs.size ∧ ∀ v, v ∈ cs → v.oneCell' = true := by
  have hdef : Extern.BytealgMakeNoZero.makeNoZero ps #[t] #[.int .i64 n] =
      (do
        let .slice elem ← underlying t | stuck "bytealg.MakeNoZero: slice type expected"
        if (n : Int) < 0 || (n : Int) > 2 ^ 48 then runtimePanic (.error "makeslice: len out of range")
        let cap ← choose (.appendCap (n : Int).toNat 0 elem)
        askRoom cap
        let bytes ← choose (.extern "internal/bytealg.MakeNoZero.bytes" 0)
        let a ← newRow elem (Extern.BytealgMakeNoZero.digits cap bytes #[])
        pure (.slice (some a) (n : Int).toNat cap)) := rfl
  refine ⟨Extern.BytealgMakeNoZero.digits (grownCap w n 0 e) ((Question.extern "internal/bytealg.MakeNoZero.bytes" 0).cut (w.tape (w.drawn + 1) (.extern "internal/bytealg.MakeNoZero.bytes" 0))) #[], ?_, ?_, digits_cell _ _ _ fun v hv => by simp at hv⟩
  · rw [hdef]
    have h1 : ¬ (n : Int) < 0 := by omega
    have h2 : ¬ (281474976710656 : Int) < (n : Int) := by omega
    simp [run_underlying ht, h1, h2, Question.forced, newRow, Lib.size_digits, grownCap]
  · rw [Lib.size_digits]
    simpa using grownCap_ge w n 0 e

/-- The table's row. -/
def ExtRow (P : Program) : Prop :=
  ∀ (f : FuncId) (fn : Func), P.funcs[f]? = some fn → fn.body = none → (fn.name == "internal/bytealg.MakeNoZero") = true →
    (fn.name == "runtime.NumGoroutine") = false ∧ Extern.findNext fn = none ∧ ∃ ps t e i, Extern.find fn = some (Extern.BytealgMakeNoZero.makeNoZero ps #[t]) ∧ fn.resultTypes.toList.getD 0 0 = t ∧ P.underlying t = some (.slice e) ∧ P.info? e = some i ∧ i.size = 1
theorem ext_ok (hx : ExtRow P) : ExtOk P base := by
  intro f fn args args' H v H' ρ w hf hb h hr ha hfr
  unfold ext at h
  split at h
  · rename_i hn
    obtain ⟨h0, h1, ps, t, e, i, h2, h3, h4, h5, h6⟩ := hx f fn hf hb hn
    split at h
    · rename_i n hl
      split at h
      · rename_i hnn
        cases h
        obtain ⟨m, rfl⟩ := Int.eq_ofNat_of_zero_le hnn.1
        simp only [Int.toNat_natCast] at hfr ⊢
        have hsz : args'.size = 1 := by rw [← ha.1, ← Array.length_toList, hl]; rfl
        have hv : args'.getD 0 undef = .int .i64 (m : Int) := by
          have h7 := ha.2 0
          have e0 : args.getD 0 undef = .int .i64 (m : Int) := by
            rw [show args = ⟨[.int .i64 (m : Int)]⟩ from by rw [← hl]]; rfl
          rw [e0] at h7
          exact h7.int_inv
        have hargs : args' = #[.int .i64 (m : Int)] := by
          apply Array.ext
          · simpa using hsz
          · intro j hj1 hj2
            have : j = 0 := by omega
            subst this
            have hv' : args'[0] = .int .i64 (m : Int) := by
              rw [← hv]; simp [hj1]
            rw [hv']
            rfl
        obtain ⟨cs, g1, g2, g3⟩ := run_noZero (P := P) w ps t e h4 m (by omega)
        have hrun : (callFunc f args').run P w = .ok (.value (.slice (some ⟨w.heap.size, 0, none⟩) m cs.size)) (w.drew.drew.alloc (.cells cs e)) := by
          have h0' : ¬ fn.name = "runtime.NumGoroutine" := by simpa using h0
          simp [callFunc, hf, h0', hb, h1, h2, hargs, g1]
        have he : sliceElem P (fn.resultTypes.toList.getD 0 0) = e := by rw [h3]; simp [sliceElem, h4]
        unfold OpOk
        rw [hrun]
        have hold : ∀ k, k < w.heap.size → (w.drew.drew.alloc (.cells cs e)).heap[k]? = w.heap[k]? := fun k hk => by
          show (w.heap.push _)[k]? = _
          rw [Array.getElem?_push, if_neg (by omega)]
        have hpost := Post.grow' (P := P) (c := Array.replicate m junk) (c' := cs) (K := cs.size) hr (hfr H.next (Nat.le_refl _) (by simp [Heap.new])) h5 (by rw [h6]; simp) (by simpa using g2)
          (fun j hj => by
            have hj' : j < m := by simpa using hj
            have hjc : j < cs.size := by omega
            have e1 : (Array.replicate m junk).getD j undef = junk := by simp [hj']
            rw [e1]
            refine .junk (g3 _ ?_)
            simp [hjc])
          (w' := w.drew.drew.alloc (.cells cs e)) ⟨rfl, rfl, rfl⟩ (by show w.heap.size < (w.heap.push _).size; simp) hold (fr := (0, 0)) (by show (w.heap.push _)[w.heap.size]? = _; simp) (frOk_zero _)
        rw [he]
        exact ⟨_,   .sliceU m ext1_at g2 (by unfold capU; omega), hpost⟩
      · cases h
    · cases h
  · cases h
def bytesB (P : Program) : Bool :=
  (List.range P.types.size).all fun t => match P.underlying t with
    | some (.int .u8) => match P.info? t with | some i => i.size == 1 | none => false
    | _ => true
theorem bytes_ok (h : bytesB P = true) (hlt : ∀ t, P.types.size ≤ t → P.underlying t ≠ some (.int .u8)) : BytesOk P := by
  intro t ht
  have hs : t < P.types.size := by
    rcases Nat.lt_or_ge t P.types.size with g | g
    · exact g
    · exact absurd ht (hlt t g)
  have := List.all_eq_true.1 h t (List.mem_range.2 hs)
  rw [ht] at this
  simp only at this
  split at this
  · rename_i i hi; exact ⟨i, hi, by simpa using this⟩
  · cases this
end
end Go.PG

namespace Go.PG
open Go.Proofs

def onlyAt (P : Program) (name : String) (n : Nat) : Bool := (List.range P.funcs.size).all fun f => match P.funcs[f]? with | some fn => !(fn.name == name) || f == n | none => true
theorem onlyAt_spec {P : Program} {name : String} {n : Nat} (h : onlyAt P name n = true) {f : Nat} {fn : Func} (hf : P.funcs[f]? = some fn) (hn : (fn.name == name) = true) : f = n := by
  have := List.all_eq_true.1 h f (List.mem_range.2 (Array.getElem?_eq_some_iff.1 hf).1)
  rw [hf] at this
  simpa [hn] using this
theorem only91 : onlyAt Tryz.prog "internal/bytealg.MakeNoZero" 91 = true := by kernel_rfl
theorem func91 : Tryz.prog.funcs[91]? = some Tryz.f91 := by kernel_rfl
theorem next91 : Extern.findNext Tryz.f91 = none := by kernel_rfl
theorem find91 : Extern.find Tryz.f91 = some (Extern.BytealgMakeNoZero.makeNoZero #[3] #[57]) := by kernel_rfl
theorem extRow : ExtRow Tryz.prog := by
  intro f fn hf hb hn
  have := onlyAt_spec only91 hf hn
  subst this
  rw [func91] at hf
  cases hf
  exact ⟨by kernel_rfl, next91, #[3], 57, 5, Tryz.t5, find91, by kernel_rfl, by kernel_rfl, by kernel_rfl, by kernel_rfl⟩
theorem bytesT : bytesB Tryz.prog = true := by kernel_rfl
theorem follows_mixed : Tryz.prog.follows .mixedOrders = true := by kernel_rfl
theorem reckonS {info : TypeId → Option TypeInfo} {fs : Array Field} {i : TypeInfo} (h : Made.reckonStruct info fs = some i) : ∃ out, i.desc = .struct out := by
  unfold Made.reckonStruct at h
  simp only [bind, Option.bind_eq_some_iff, pure] at h
  obtain ⟨r, _, h⟩ := h
  split at h <;> (cases h; exact ⟨_, rfl⟩)
def composite : TypeDesc → Bool
  | .int _ | .named _ _ => false
  | _ => true
theorem reckonC {info : TypeId → Option TypeInfo} {d : TypeDesc} {i : TypeInfo} (h : Made.reckon info d = some i) : composite i.desc = true := by
  cases d with
  | pointer e =>
    obtain ⟨j, _, h⟩ := Option.bind_eq_some_iff.1 h
    split at h
    · cases h
    · split at h
      · cases h
      · obtain ⟨_, _, h⟩ := Option.bind_eq_some_iff.1 h; cases h; rfl
    · obtain ⟨_, _, h⟩ := Option.bind_eq_some_iff.1 h; cases h; rfl
  | slice e =>
    obtain ⟨_, _, h⟩ := Option.bind_eq_some_iff.1 h
    obtain ⟨_, _, h⟩ := Option.bind_eq_some_iff.1 h
    cases h; rfl
  | map k e =>
    obtain ⟨_, _, h⟩ := Option.bind_eq_some_iff.1 h
    obtain ⟨_, _, h⟩ := Option.bind_eq_some_iff.1 h
    obtain ⟨_, _, h⟩ := Option.bind_eq_some_iff.1 h
    obtain ⟨_, _, h⟩ := Option.bind_eq_some_iff.1 h
    cases h; rfl
  | chan dir e =>
    obtain ⟨_, _, h⟩ := Option.bind_eq_some_iff.1 h
    obtain ⟨_, _, h⟩ := Option.bind_eq_some_iff.1 h
    cases h; rfl
  | func ps rs v =>
    obtain ⟨_, _, h⟩ := Option.bind_eq_some_iff.1 h
    cases h; rfl
  | array n e =>
    obtain ⟨_, _, h⟩ := Option.bind_eq_some_iff.1 h
    obtain ⟨_, _, h⟩ := Option.bind_eq_some_iff.1 h
    cases h; rfl
  | struct fs => obtain ⟨o, e⟩ := reckonS h; rw [e]; rfl
  | _ => cases h
theorem und_none {P : Program} (t : TypeId) (h : P.types.size ≤ t) : P.underlying t ≠ some (.int .u8) := by
  intro hu
  unfold Program.underlying at hu
  have key : ∀ i, P.info? t = some i → composite i.desc = true := fun i hi => by
    unfold Tables.info? at hi
    rw [if_neg (Nat.not_lt.2 h)] at hi
    change Made.infoAt P.toTables (99 + 1) t = some i at hi
    rw [Made.infoAt, if_neg (Nat.not_lt.2 h)] at hi
    obtain ⟨d, _, hi⟩ := Option.bind_eq_some_iff.1 hi
    exact reckonC hi
  split at hu
  · rename_i hi; have := key _ hi; cases this
  · rename_i i _ hi
    have := key _ hi
    rw [Option.some.inj hu] at this; cases this
  · cases hu
set_option maxRecDepth 100000 in
theorem bytesOk : BytesOk Tryz.prog := bytes_ok (P := Tryz.prog) bytesT (und_none (P := Tryz.prog))
set_option maxRecDepth 100000 in
theorem extOk (base : Nat) : ExtOk Tryz.prog base := ext_ok (P := Tryz.prog) extRow
set_option maxRecDepth 100000 in
theorem sound (base k : Nat) : CallOk Tryz.prog base (run Tryz.prog k) := run_ok (P := Tryz.prog) follows_mixed bytesOk (extOk base) k
end Go.PG
