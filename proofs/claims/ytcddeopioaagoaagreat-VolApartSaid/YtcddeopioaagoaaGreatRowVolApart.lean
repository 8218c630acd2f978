/- The given statement VolApart: whichever capacity, bytes, calls and data come in, the law returns true, and they read as they did. Its conditions: none. -/
import Derived.Test.YtcddeopioaagoaaGreatVa7
import Derived.Test.YtcddeopioaagoaaGreatRows
import Derived.WalkKit
import Derived.ProofKit
import Derived.OpenShut
import Derived.ShutString
import Derived.ChangeOld
import Derived.Below
import Derived.Carry

namespace Go.Proofs.YtcddeopioaagoaaGreat.volApart
open Go.ChangeShapes Go.WideShapes Go.ChangeAt Go.RowKit Go.PG
open Go.ChangeMaps (open_string shut_string)
set_option linter.unusedVariables false

theorem own : ownKnob Tryz.prog.godebug = none := by kernel_rfl
theorem laidOut : laidOutB Tryz.prog = true := by kernel_rfl
theorem name5 : (Tryz.f5.name == "runtime.NumGoroutine") = false := by kernel_rfl
theorem body5 : Tryz.f5.body.isSome = true := by kernel_rfl
set_option maxRecDepth 100000 in
theorem walk {H : Type} {enc : TypeId × Value → H} (a0 : Int) (w0 : (Lit.int .i64 a0).wf = true) (a1 : ByteArray) (v2 : Value) (d2 : DataW H) (p2 : List MemPlace) (a3 : ByteArray) (w : World)
    (h2 : ∃ a len cap, v2 = .slice a len cap) (k2 : DataW.Trod enc Tryz.prog w 0 (fun _ => true) true 24 v2 d2 p2) :
    Calls Tryz.prog 5 #[.int .i64 a0, .string a1, v2, .string a3] w fun e w' => e = .returned (.bool true) ∧ Below w.heap.size w w' := by
  obtain ⟨c, hc⟩ := Option.isSome_iff_exists.1 body5
  obtain ⟨l, ws, vf, hw, hll, hwin, hrel⟩ := slice_arg (f := actC) (n := 6) (fun _ => rfl) (by decide) (fun _ => rfl) (by kernel_rfl : Tryz.prog.underlying 24 = some (.slice 38)) cells38 (fun m cs y h => act_read h) h2 k2
  have hrange : -9223372036854775808 ≤ a0 ∧ a0 < 9223372036854775808 := by
    simp only [Lit.wf, Bool.and_eq_true, decide_eq_true_eq] at w0
    have e1 : IntKind.min .i64 = -9223372036854775808 := rfl
    have e2 : IntKind.max .i64 = 9223372036854775807 := rfl
    omega
  obtain ⟨H', e⟩ := apart_run a1.data.toList hrange (v := vf 0) (l := l) (by unfold maxLen at hll; omega) a3.data.toList (argHeap (fun _ => ws) 1) (Nat.le_refl _) (hwin 0 _ (by simp [argHeap]) (by simp [argHeap]))
  have hs1 : str a1.data.toList = .string a1 := rfl
  have hs3 : str a3.data.toList = .string a3 := rfl
  rw [hs1, hs3] at e
  have ha : ARel (argRen (fun _ => ws) 1) #[Value.int .i64 a0, .string a1, vf 0, .string a3] #[Value.int .i64 a0, .string a1, v2, .string a3] := by
    refine ARel.of_lt rfl fun i hi => ?_
    have hi4 : i < 4 := hi
    match i, hi4 with
    | 0, _ => exact .int _ _
    | 1, _ => exact .string _
    | 2, _ => exact hrel 0 _ (by simp [argRen])
    | 3, _ => exact .string _
  exact law_args (P := Tryz.prog) (k := 5001) (N := 1) (ws := fun _ => ws) (fun k => sound 1 k) Tryz.func5 name5 hc (fun n x _ hx => hw x hx) e ha

set_option maxRecDepth 100000 in
theorem lifted (os : Os) (started : os.Started) (H : Type) (enc : TypeId × Value → H) :
    ReturnsInHanded {} Tryz.checked os 5 .any (Rows.volApartSpec.pre6 enc Tryz.prog Tryz.f5 Rows.volApartRow.domain false) (Rows.volApartSpec.post enc Tryz.prog Tryz.f5 false true false false) := by
  refine returnsInHanded_of_change (C := Tryz.checked) own started (by kernel_rfl) Tryz.func5
    (ChangeSpec.witness6 (enc := enc) (C := Tryz.checked) false ⟨#[], #[.int .i64 0, .string ByteArray.empty, .slice none 0 0, .string ByteArray.empty], []⟩ 8 (by kernel_rfl) (by kernel_rfl) (by kernel_rfl) (by kernel_rfl)) ?_
  intro W base args ds gs before hval0 hW hcnd _
  have hval : ∀ (j : Nat) t v, Tryz.f5.params[j]? = some t → args[j]? = some v → Value.okWide Tryz.prog W .any base t v := hval0
  have hW' := hW
  obtain ⟨p, q, hA0, hV, rfl, hfz, hnd⟩ := hW
  have hA : DataW.TrodAll enc Tryz.prog W 0 (fun _ => true) true Tryz.f5.params.toList args.toList ds p := hA0
  rw [Tryz.params5] at hA hval
  obtain ⟨v0, vs0, d0, ds0, p0, q0, hargs, rfl, rfl, h0, r0⟩ := trodAll_cons hA
  obtain ⟨v1, vs1, d1, ds1, p1, q1, rfl, rfl, rfl, h1, r1⟩ := trodAll_cons r0
  obtain ⟨v2, vs2, d2, ds2, p2, q2, rfl, rfl, rfl, h2, r2⟩ := trodAll_cons r1
  obtain ⟨v3, vs3, d3, ds3, p3, q3, rfl, rfl, rfl, h3, r3⟩ := trodAll_cons r2
  obtain ⟨rfl, rfl, rfl⟩ := trodAll_nil r3
  obtain rfl : args = #[v0, v1, v2, v3] := by cases args; simp_all
  obtain ⟨rfl, rfl⟩ := trodVars_none hV
  obtain ⟨a0, rfl, rfl, rfl, w0⟩ := open_int Tryz.underlying3 (hval 0 3 v0 rfl rfl) h0
  obtain ⟨a1, rfl, rfl, rfl, w1⟩ := open_string Tryz.underlying9 (hval 1 9 v1 rfl rfl) h1
  have s2 := okWide_slice (by kernel_rfl : Tryz.prog.underlying 24 = some (.slice 38)) (hval 2 24 v2 rfl rfl)
  have k2 := h2
  have lt2 : ∀ x ∈ p2, x.block < W.heap.size := by obtain ⟨m, hm⟩ := k2; exact DataW.trod_lt m _ _ _ hm
  obtain ⟨a3, rfl, rfl, rfl, w3⟩ := open_string Tryz.underlying9 (hval 3 9 v3 rfl rfl) h3
  clear hA0 hval0
  refine (walk a0 w0 a1 v2 d2 p2 a3 W s2 k2).mono fun e W' ⟨he, bel⟩ => ?_
  subst he
  exact ⟨_, rfl, _, _, _, [], _, [], hW', trodAll_mk1 (shut_bool Tryz.underlying4 _), (trodAll_cons_mk (shut_int Tryz.underlying3 w0) (trodAll_cons_mk (shut_string Tryz.underlying9 w1) (trodAll_cons_mk (Below.trod laidOut (by kernel_rfl) (of_decide_eq_true (by kernel_rfl)) k2 bel lt2) (trodAll_cons_mk (shut_string Tryz.underlying9 w3) trodAll_mk0)))), rfl, bel.frame _, fun h => by cases h⟩

theorem over : Rows.volApartRow.holds Tryz.pinned (OpenSpec.ofChange Rows.volApartSpec) :=
  OpenClaim.holds_of_wide 5 Tryz.f5 rfl rfl rfl rfl rfl rfl rfl ⟨rfl, rfl, rfl, rfl, rfl⟩ rfl rfl rfl rfl rfl (by kernel_rfl) Tryz.func5 (by kernel_rfl)
    (of_decide_eq_true (by kernel_rfl)) (by unfold Func.isWrapper; first | (rw [if_pos (by decide +kernel)]; kernel_rfl) | (rw [if_neg (by decide +kernel)]; exact ⟨rfl, rfl⟩))
    (fun os started H enc _ => lifted os started H enc)

/-- The statement. -/
theorem proved : Rows.VolApartSaid := over
#print axioms proved
end Go.Proofs.YtcddeopioaagoaaGreat.volApart
