/- The row of the law FnExactPaceLate: for every input that can be read the call returns true, and the input reads as it did. No conditions. -/
import Derived.Test.YtgfaamcihlojdaaRows
import Derived.Test.YtgfaamcihlojdaaOpens
import Derived.Test.YtgfaamcihlojdaaGFnExactPaceLate
import Derived.Test.YtgfaamcihlojdaaPureFnExactPaceLate
import Derived.WalkKit
import Derived.ProofKit
import Derived.OpenShut
import Derived.ShutString
import Derived.ChangeOld
import Derived.Below
import Derived.Carry
import Derived.SizedLaws
namespace Go.Proofs.Ytgfaamcihlojdaa.fnExactPaceLate
open Go.ChangeShapes Go.WideShapes Go.ChangeAt Go.RowKit Go.Proofs.YtgfaamcihlojdaaO Go.Proofs.Ytgfaamcihlojdaa.PFnExactPaceLate Go.Proofs.Ytgfaamcihlojdaa.GFnExactPaceLate Go.Proofs.YtgfaamcihlojdaaW.PrintWords
set_option linter.unusedVariables false
theorem own : ownKnob Try.prog.godebug = none := by kernel_rfl
theorem laid : laidOutB Try.prog = true := by kernel_rfl
theorem op3 : Opens Try.prog 3 (Kd.int .i64) (fun n : Int => (Lit.int .i64 n).wf = true) := opens_int Try.underlying3 (by kernel_rfl)
theorem op32t : Opens Try.prog 32 (Kd.pair (Kd.int .i64) (Kd.pair (Kd.int .i64) (Kd.int .i64))) (fun x : Int × Int × Int => (fun n : Int => (Lit.int .i64 n).wf = true) x.1 ∧ ((fun n : Int => (Lit.int .i64 n).wf = true) x.2.1 ∧ ((fun n : Int => (Lit.int .i64 n).wf = true) x.2.2))) := opens_struct Try.underlying32 (by kernel_rfl) (fields_more (good := (fun n : Int => (Lit.int .i64 n).wf = true)) (good' := (fun x : Int × Int => (fun n : Int => (Lit.int .i64 n).wf = true) x.1 ∧ ((fun n : Int => (Lit.int .i64 n).wf = true) x.2))) rfl op3 (fields_more (good := (fun n : Int => (Lit.int .i64 n).wf = true)) (good' := (fun n : Int => (Lit.int .i64 n).wf = true)) rfl op3 (fields_one (good := (fun n : Int => (Lit.int .i64 n).wf = true)) rfl op3)))
set_option maxRecDepth 100000 in
set_option maxHeartbeats 1000000 in
theorem lifted (os : Os) (started : os.Started) (H : Type) (enc : TypeId × Value → H) :
    ReturnsInHanded {} Try.checked os 4 .any (Rows.fnExactPaceLateSpec.pre6 enc Try.prog Try.f4 Rows.fnExactPaceLateRow.domain false) (Rows.fnExactPaceLateSpec.post enc Try.prog Try.f4 false true false false) := by
  refine returnsInHanded_of_change_sized (C := Try.checked) own started (by kernel_rfl) Try.func4
    (ChangeSpec.witness6 (enc := enc) (C := Try.checked) false ⟨#[], #[.agg #[.int .i64 0, .int .i64 0, .int .i64 0]], []⟩ 8 (by kernel_rfl) (by kernel_rfl) (by kernel_rfl) (by kernel_rfl)) ?_
  intro W base args ds gs before hval0 hW hcnd hsz0 _
  have hval : ∀ (j : Nat) t v, Try.f4.params[j]? = some t → args[j]? = some v → Value.okWide Try.prog W .any base t v := hval0
  have hW' := hW
  obtain ⟨p, q, hA0, hV, rfl, hfz, hnd⟩ := hW
  have hA : DataW.TrodAll enc Try.prog W 0 (fun _ => true) true Try.f4.params.toList args.toList ds p := hA0
  rw [Try.params4] at hA hval
  obtain ⟨v0, vs0, d0, ds0, p0, q0, hargs, rfl, rfl, h0, r0⟩ := trodAll_cons hA
  obtain ⟨rfl, rfl, rfl⟩ := trodAll_nil r0
  obtain rfl : args = #[v0] := by cases args; simp_all
  obtain ⟨rfl, rfl⟩ := trodVars_none hV
  have k0 := h0
  have lt0 : ∀ x ∈ p0, x.block < W.heap.size := by obtain ⟨m, hm⟩ := k0; exact DataW.trod_lt m _ _ _ hm
  obtain ⟨cs0, rfl, sz0⟩ := okWide_struct Try.underlying32 (hval 0 32 v0 rfl rfl)
  obtain ⟨cs0⟩ := cs0
  obtain ⟨x0, y0, g0⟩ : ∃ x, (Kd.pair (Kd.int .i64) (Kd.pair (Kd.int .i64) (Kd.int .i64))).K W x cs0 ∧ (fun x : Int × Int × Int => (fun n : Int => (Lit.int .i64 n).wf = true) x.1 ∧ ((fun n : Int => (Lit.int .i64 n).wf = true) x.2.1 ∧ ((fun n : Int => (Lit.int .i64 n).wf = true) x.2.2))) x := by obtain ⟨fuel, hf⟩ := h0; exact op32t.out hf
  obtain ⟨_, _, rfl, rfl, ⟨_, _, rfl, rfl, rfl⟩⟩ := y0
  clear hA0 hval0 hsz0
  have hk := Pure.FnExactPaceLate x0.1 x0.2.1 x0.2.2 g0.1 g0.2.1 g0.2.2
  refine (laws_FnExactPaceLate.calls (a0_0 := x0.1) (a0_1 := x0.2.1) (a0_2 := x0.2.2) (r := true) (w := W) (h := hk)).mono fun e W' ⟨he, bel⟩ => ?_
  subst he
  exact ⟨_, rfl, _, _, _, [], _, [], hW', trodAll_mk1 (shut_bool Try.underlying4 _), (trodAll_cons_mk (Below.trod laid (by kernel_rfl) (of_decide_eq_true (by kernel_rfl)) k0 bel lt0) trodAll_mk0), rfl, bel.frame _, fun h => by cases h⟩
theorem over : Rows.fnExactPaceLateRow.holds Try.pinned (OpenSpec.ofChange Rows.fnExactPaceLateSpec) :=
  OpenClaim.holds_of_wide 4 Try.f4 rfl rfl rfl rfl rfl rfl rfl ⟨rfl, rfl, rfl, rfl, rfl⟩ rfl rfl rfl rfl rfl (by kernel_rfl) Try.func4 (by kernel_rfl)
    (of_decide_eq_true (by kernel_rfl)) (by unfold Func.isWrapper; first | (rw [if_pos (by decide +kernel)]; kernel_rfl) | (rw [if_neg (by decide +kernel)]; exact ⟨rfl, rfl⟩))
    (fun os started H enc _ => lifted os started H enc)
theorem proved : Rows.FnExactPaceLateSaid := over
end Go.Proofs.Ytgfaamcihlojdaa.fnExactPaceLate
namespace Go.Proofs.Ytgfaamcihlojdaa
/-- The row, under a short name, for the claim. -/
theorem fnExactPaceLate_holds : Rows.FnExactPaceLateSaid := fnExactPaceLate.proved
#print axioms fnExactPaceLate_holds
end Go.Proofs.Ytgfaamcihlojdaa
