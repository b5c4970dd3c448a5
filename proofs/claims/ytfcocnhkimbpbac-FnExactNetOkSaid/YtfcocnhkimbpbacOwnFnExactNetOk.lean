/- The row of the law FnExactNetOk: for every input that can be read the call returns true, and the input reads as it did. No conditions. -/
import Derived.Test.YtfcocnhkimbpbacRows
import Derived.Test.YtfcocnhkimbpbacVOpens
import Derived.Test.YtfcocnhkimbpbacGFnExactNetOk
import Derived.Test.YtfcocnhkimbpbacPureFnExactNetOk
import Derived.WalkKit
import Derived.ProofKit
import Derived.OpenShut
import Derived.ShutString
import Derived.ChangeOld
import Derived.Below
import Derived.Carry
import Derived.SizedLaws
namespace Go.Proofs.Ytfcocnhkimbpbac.fnExactNetOk
open Go.ChangeShapes Go.WideShapes Go.ChangeAt Go.RowKit Go.Proofs.YtfcocnhkimbpbacVO Go.Proofs.Ytfcocnhkimbpbac.MFnExactNetOk Go.Proofs.Ytfcocnhkimbpbac.GFnExactNetOk Go.Proofs.YtfcocnhkimbpbacV.PrintWords
set_option linter.unusedVariables false
theorem own : ownKnob Try.prog.godebug = none := by kernel_rfl
theorem laid : laidOutB Try.prog = true := by kernel_rfl
theorem op3 : Opens Try.prog 3 (Kd.int .i64) (fun n : Int => (Lit.int .i64 n).wf = true) := opens_int Try.underlying3 (by kernel_rfl)
theorem op138t : Opens Try.prog 138 (Kd.pair (Kd.int .i64) (Kd.pair (Kd.int .i64) (Kd.pair (Kd.int .i64) (Kd.int .i64)))) (fun x : Int × Int × Int × Int => (fun n : Int => (Lit.int .i64 n).wf = true) x.1 ∧ ((fun n : Int => (Lit.int .i64 n).wf = true) x.2.1 ∧ ((fun n : Int => (Lit.int .i64 n).wf = true) x.2.2.1 ∧ ((fun n : Int => (Lit.int .i64 n).wf = true) x.2.2.2)))) := opens_struct Try.underlying138 (by kernel_rfl) (fields_more (good := (fun n : Int => (Lit.int .i64 n).wf = true)) (good' := (fun x : Int × Int × Int => (fun n : Int => (Lit.int .i64 n).wf = true) x.1 ∧ ((fun n : Int => (Lit.int .i64 n).wf = true) x.2.1 ∧ ((fun n : Int => (Lit.int .i64 n).wf = true) x.2.2)))) rfl op3 (fields_more (good := (fun n : Int => (Lit.int .i64 n).wf = true)) (good' := (fun x : Int × Int => (fun n : Int => (Lit.int .i64 n).wf = true) x.1 ∧ ((fun n : Int => (Lit.int .i64 n).wf = true) x.2))) rfl op3 (fields_more (good := (fun n : Int => (Lit.int .i64 n).wf = true)) (good' := (fun n : Int => (Lit.int .i64 n).wf = true)) rfl op3 (fields_one (good := (fun n : Int => (Lit.int .i64 n).wf = true)) rfl op3))))
theorem op138 : Opens Try.prog 138 k138 G138 := opens_iso _ (fun x => ⟨x.1, x.2.1, x.2.2.1, x.2.2.2⟩) (fun _ => rfl) (fun x h => h) op138t
theorem op73 : Opens Try.prog 73 (Kd.slice 138 k138) (fun xs : List S138 => xs.length ≤ maxLen ∧ ∀ x ∈ xs, G138 x) := opens_slice 138 Try.underlying73 (by kernel_rfl) op138
theorem op75t : Opens Try.prog 75 (Kd.pair (Kd.int .i64) (Kd.slice 138 k138)) (fun x : Int × (List S138) => (fun n : Int => (Lit.int .i64 n).wf = true) x.1 ∧ ((fun xs : List S138 => xs.length ≤ maxLen ∧ ∀ x ∈ xs, G138 x) x.2)) := opens_struct Try.underlying75 (by kernel_rfl) (fields_more (good := (fun n : Int => (Lit.int .i64 n).wf = true)) (good' := (fun xs : List S138 => xs.length ≤ maxLen ∧ ∀ x ∈ xs, G138 x)) rfl op3 (fields_one (good := (fun xs : List S138 => xs.length ≤ maxLen ∧ ∀ x ∈ xs, G138 x)) rfl op73))
theorem op75 : Opens Try.prog 75 k75 G75 := opens_iso _ (fun x => ⟨x.1, x.2⟩) (fun _ => rfl) (fun x h => h) op75t
theorem op33 : Opens Try.prog 33 (Kd.slice 75 k75) (fun xs : List S75 => xs.length ≤ maxLen ∧ ∀ x ∈ xs, G75 x) := opens_slice 75 Try.underlying33 (by kernel_rfl) op75
set_option maxRecDepth 100000 in
set_option maxHeartbeats 1000000 in
theorem lifted (os : Os) (started : os.Started) (H : Type) (enc : TypeId × Value → H) :
    ReturnsInHanded {} Try.checked os 5 .any (Rows.fnExactNetOkSpec.pre6 enc Try.prog Try.f5 Rows.fnExactNetOkRow.domain false) (Rows.fnExactNetOkSpec.post enc Try.prog Try.f5 false true false false) := by
  refine returnsInHanded_of_change_sized (C := Try.checked) own started (by kernel_rfl) Try.func5
    (ChangeSpec.witness6 (enc := enc) (C := Try.checked) false ⟨#[], #[.slice none 0 0], []⟩ 8 (by kernel_rfl) (by kernel_rfl) (by kernel_rfl) (by kernel_rfl)) ?_
  intro W base args ds gs before hval0 hW hcnd hsz0 _
  have hval : ∀ (j : Nat) t v, Try.f5.params[j]? = some t → args[j]? = some v → Value.okWide Try.prog W .any base t v := hval0
  have hW' := hW
  obtain ⟨p, q, hA0, hV, rfl, hfz, hnd⟩ := hW
  have hA : DataW.TrodAll enc Try.prog W 0 (fun _ => true) true Try.f5.params.toList args.toList ds p := hA0
  rw [Try.params5] at hA hval
  obtain ⟨v0, vs0, d0, ds0, p0, q0, hargs, rfl, rfl, h0, r0⟩ := trodAll_cons hA
  obtain ⟨rfl, rfl, rfl⟩ := trodAll_nil r0
  obtain rfl : args = #[v0] := by cases args; simp_all
  obtain ⟨rfl, rfl⟩ := trodVars_none hV
  have k0 := h0
  have lt0 : ∀ x ∈ p0, x.block < W.heap.size := by obtain ⟨m, hm⟩ := k0; exact DataW.trod_lt m _ _ _ hm
  obtain ⟨A0, n0, c0, rfl⟩ := okWide_slice Try.underlying33 (hval 0 33 v0 rfl rfl)
  obtain ⟨l0, x0, g0⟩ : ∃ l, ((Kd.slice 75 k75)).K W l [.slice A0 n0 c0] ∧ (fun xs : List S75 => xs.length ≤ maxLen ∧ ∀ x ∈ xs, G75 x) l := by obtain ⟨fuel, hf⟩ := h0; exact op33.out hf
  obtain ⟨A0', c0', e0, b0, y0⟩ := x0
  injection e0 with e0 _
  injection e0 with e0a e0b e0c
  subst e0a e0b e0c
  clear hA0 hval0 hsz0
  obtain ⟨k, hk⟩ := Pure.FnExactNetOk l0 g0
  refine (laws_FnExactNetOk.calls (k := k) (A0 := A0) (c0 := c0) (l0 := l0) (hr0 := y0) (hc0 := b0) (r := true) (w := W) (h := hk)).mono fun e W' ⟨he, bel⟩ => ?_
  subst he
  exact ⟨_, rfl, _, _, _, [], _, [], hW', trodAll_mk1 (shut_bool Try.underlying4 _), (trodAll_cons_mk (Below.trod laid (by kernel_rfl) (of_decide_eq_true (by kernel_rfl)) k0 bel lt0) trodAll_mk0), rfl, bel.frame _, fun h => by cases h⟩
theorem over : Rows.fnExactNetOkRow.holds Try.pinned (OpenSpec.ofChange Rows.fnExactNetOkSpec) :=
  OpenClaim.holds_of_wide 5 Try.f5 rfl rfl rfl rfl rfl rfl rfl ⟨rfl, rfl, rfl, rfl, rfl⟩ rfl rfl rfl rfl rfl (by kernel_rfl) Try.func5 (by kernel_rfl)
    (of_decide_eq_true (by kernel_rfl)) (by unfold Func.isWrapper; first | (rw [if_pos (by decide +kernel)]; kernel_rfl) | (rw [if_neg (by decide +kernel)]; exact ⟨rfl, rfl⟩))
    (fun os started H enc _ => lifted os started H enc)
theorem proved : Rows.FnExactNetOkSaid := over
end Go.Proofs.Ytfcocnhkimbpbac.fnExactNetOk
namespace Go.Proofs.Ytfcocnhkimbpbac
/-- The row, under a short name, for the claim. -/
theorem fnExactNetOk_holds : Rows.FnExactNetOkSaid := fnExactNetOk.proved
#print axioms fnExactNetOk_holds
end Go.Proofs.Ytfcocnhkimbpbac
