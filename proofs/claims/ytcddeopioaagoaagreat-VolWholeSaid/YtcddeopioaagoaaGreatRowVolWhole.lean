/- The given statement VolWhole: whichever capacity, numbers and data come in, the law returns true, and they read as they did. Its conditions: none. -/
import Derived.Test.YtcddeopioaagoaaGreatVw6
import Derived.Test.YtcddeopioaagoaaGreatRows
import Derived.WalkKit
import Derived.ProofKit
import Derived.OpenShut
import Derived.ShutString
import Derived.ChangeOld
import Derived.Below
import Derived.Carry

namespace Go.Proofs.YtcddeopioaagoaaGreat.volWhole
open Go.ChangeShapes Go.WideShapes Go.ChangeAt Go.RowKit Go.PG
open Go.ChangeMaps (open_string shut_string)
set_option linter.unusedVariables false

theorem own : ownKnob Tryz.prog.godebug = none := by kernel_rfl
theorem laidOut : laidOutB Tryz.prog = true := by kernel_rfl
theorem name6 : (Tryz.f6.name == "runtime.NumGoroutine") = false := by kernel_rfl
theorem body6 : Tryz.f6.body.isSome = true := by kernel_rfl
theorem cells3 : Tryz.prog.cellsOf 3 = 1 := by kernel_rfl
theorem cells9 : Tryz.prog.cellsOf 9 = 1 := by kernel_rfl
theorem str_data (s : ByteArray) : str s.data.toList = .string s := rfl
set_option maxRecDepth 100000 in
theorem walk {H : Type} {enc : TypeId × Value → H} (a0 : Int) (w0 : (Lit.int .i64 a0).wf = true) (v1 v2 : Value) (d1 d2 : DataW H) (p1 p2 : List MemPlace) (w : World)
    (h1 : ∃ a len cap, v1 = .slice a len cap) (k1 : DataW.Trod enc Tryz.prog w 0 (fun _ => true) true 54 v1 d1 p1) (h2 : ∃ a len cap, v2 = .slice a len cap) (k2 : DataW.Trod enc Tryz.prog w 0 (fun _ => true) true 55 v2 d2 p2) :
    Calls Tryz.prog 6 #[.int .i64 a0, v1, v2] w fun e w' => e = .returned (.bool true) ∧ Below w.heap.size w w' := by
  obtain ⟨c, hc⟩ := Option.isSome_iff_exists.1 body6
  obtain ⟨l1, ws1, vf1, hw1, hll1, hwin1, hrel1⟩ := slice_arg (f := intZ) (n := 1) (fun _ => rfl) (by decide) (fun _ => rfl) (by kernel_rfl : Tryz.prog.underlying 54 = some (.slice 3)) cells3 (fun m cs y h => by
    obtain ⟨n, e, _⟩ := DataW.trod_int Tryz.underlying3 h
    exact ⟨n, e⟩) h1 k1
  obtain ⟨l2, ws2, vf2, hw2, hll2, hwin2, hrel2⟩ := slice_arg (f := strC) (n := 1) (fun _ => rfl) (by decide) (fun _ => rfl) (by kernel_rfl : Tryz.prog.underlying 55 = some (.slice 9)) cells9 (fun m cs y h => by
    obtain ⟨s, e, _⟩ := DataW.trod_string Tryz.underlying9 h
    exact ⟨s.data.toList, by rw [strC, str_data]; exact e⟩) h2 k2
  have hrange : -9223372036854775808 ≤ a0 ∧ a0 < 9223372036854775808 := by
    simp only [Lit.wf, Bool.and_eq_true, decide_eq_true_eq] at w0
    have e1 : IntKind.min .i64 = -9223372036854775808 := rfl
    have e2 : IntKind.max .i64 = 9223372036854775807 := rfl
    omega
  let ws : Nat → Option Wnd := fun n => if n = 0 then ws1 else ws2
  obtain ⟨H', e⟩ := whole_run hrange (x1 := vf1 0) (x2 := vf2 1) (zs := l1) (ds := l2) (by unfold maxLen at hll1; omega) (by unfold maxLen at hll2; omega) (argHeap ws 2) (Nat.le_refl _) (hwin1 0 _ (by simp [argHeap, ws]) (by simp [argHeap])) (hwin2 1 _ (by simp [argHeap, ws]) (by simp [argHeap]))
  have ha : ARel (argRen ws 2) #[Value.int .i64 a0, vf1 0, vf2 1] #[Value.int .i64 a0, v1, v2] := by
    refine ARel.of_lt rfl fun i hi => ?_
    have hi3 : i < 3 := hi
    match i, hi3 with
    | 0, _ => exact .int _ _
    | 1, _ => exact hrel1 0 _ (by simp [argRen, ws])
    | 2, _ => exact hrel2 1 _ (by simp [argRen, ws])
  exact law_args (P := Tryz.prog) (k := 5001) (N := 2) (ws := ws) (fun k => sound 2 k) Tryz.func6 name6 hc (fun n x _ hx => by
    by_cases h0 : n = 0
    · simp only [ws, h0, if_true] at hx; exact hw1 x hx
    · simp only [ws, h0, if_false] at hx; exact hw2 x hx) e ha

set_option maxRecDepth 100000 in
theorem lifted (os : Os) (started : os.Started) (H : Type) (enc : TypeId × Value → H) :
    ReturnsInHanded {} Tryz.checked os 6 .any (Rows.volWholeSpec.pre6 enc Tryz.prog Tryz.f6 Rows.volWholeRow.domain false) (Rows.volWholeSpec.post enc Tryz.prog Tryz.f6 false true false false) := by
  refine returnsInHanded_of_change (C := Tryz.checked) own started (by kernel_rfl) Tryz.func6
    (ChangeSpec.witness6 (enc := enc) (C := Tryz.checked) false ⟨#[], #[.int .i64 0, .slice none 0 0, .slice none 0 0], []⟩ 8 (by kernel_rfl) (by kernel_rfl) (by kernel_rfl) (by kernel_rfl)) ?_
  intro W base args ds gs before hval0 hW hcnd _
  have hval : ∀ (j : Nat) t v, Tryz.f6.params[j]? = some t → args[j]? = some v → Value.okWide Tryz.prog W .any base t v := hval0
  have hW' := hW
  obtain ⟨p, q, hA0, hV, rfl, hfz, hnd⟩ := hW
  have hA : DataW.TrodAll enc Tryz.prog W 0 (fun _ => true) true Tryz.f6.params.toList args.toList ds p := hA0
  rw [Tryz.params6] at hA hval
  obtain ⟨v0, vs0, d0, ds0, p0, q0, hargs, rfl, rfl, h0, r0⟩ := trodAll_cons hA
  obtain ⟨v1, vs1, d1, ds1, p1, q1, rfl, rfl, rfl, h1, r1⟩ := trodAll_cons r0
  obtain ⟨v2, vs2, d2, ds2, p2, q2, rfl, rfl, rfl, h2, r2⟩ := trodAll_cons r1
  obtain ⟨rfl, rfl, rfl⟩ := trodAll_nil r2
  obtain rfl : args = #[v0, v1, v2] := by cases args; simp_all
  obtain ⟨rfl, rfl⟩ := trodVars_none hV
  obtain ⟨a0, rfl, rfl, rfl, w0⟩ := open_int Tryz.underlying3 (hval 0 3 v0 rfl rfl) h0
  have s1 := okWide_slice (by kernel_rfl : Tryz.prog.underlying 54 = some (.slice 3)) (hval 1 54 v1 rfl rfl)
  have k1 := h1
  have lt1 : ∀ x ∈ p1, x.block < W.heap.size := by obtain ⟨m, hm⟩ := k1; exact DataW.trod_lt m _ _ _ hm
  have s2 := okWide_slice (by kernel_rfl : Tryz.prog.underlying 55 = some (.slice 9)) (hval 2 55 v2 rfl rfl)
  have k2 := h2
  have lt2 : ∀ x ∈ p2, x.block < W.heap.size := by obtain ⟨m, hm⟩ := k2; exact DataW.trod_lt m _ _ _ hm
  clear hA0 hval0
  refine (walk a0 w0 v1 v2 d1 d2 p1 p2 W s1 k1 s2 k2).mono fun e W' ⟨he, bel⟩ => ?_
  subst he
  exact ⟨_, rfl, _, _, _, [], _, [], hW', trodAll_mk1 (shut_bool Tryz.underlying4 _), (trodAll_cons_mk (shut_int Tryz.underlying3 w0) (trodAll_cons_mk (Below.trod laidOut (by kernel_rfl) (of_decide_eq_true (by kernel_rfl)) k1 bel lt1) (trodAll_cons_mk (Below.trod laidOut (by kernel_rfl) (of_decide_eq_true (by kernel_rfl)) k2 bel lt2) trodAll_mk0))), rfl, bel.frame _, fun h => by cases h⟩

theorem over : Rows.volWholeRow.holds Tryz.pinned (OpenSpec.ofChange Rows.volWholeSpec) :=
  OpenClaim.holds_of_wide 6 Tryz.f6 rfl rfl rfl rfl rfl rfl rfl ⟨rfl, rfl, rfl, rfl, rfl⟩ rfl rfl rfl rfl rfl (by kernel_rfl) Tryz.func6 (by kernel_rfl)
    (of_decide_eq_true (by kernel_rfl)) (by unfold Func.isWrapper; first | (rw [if_pos (by decide +kernel)]; kernel_rfl) | (rw [if_neg (by decide +kernel)]; exact ⟨rfl, rfl⟩))
    (fun os started H enc _ => lifted os started H enc)

/-- The statement. -/
theorem proved : Rows.VolWholeSaid := over
#print axioms proved
end Go.Proofs.YtcddeopioaagoaaGreat.volWhole
