/- The row of the law FnExactMailBytes: for every input that can be read the call returns true, and the input reads as it did. No conditions. -/
import Derived.Test.YtfcocnhkimbpbaaRows
import Derived.Test.YtfcocnhkimbpbaaVOpens
import Derived.Test.YtfcocnhkimbpbaaGFnExactMailBytes
import Derived.Test.YtfcocnhkimbpbaaPureFnExactMailBytes
import Derived.WalkKit
import Derived.ProofKit
import Derived.OpenShut
import Derived.ShutString
import Derived.ChangeOld
import Derived.Below
import Derived.Carry
import Derived.SizedLaws
namespace Go.Proofs.Ytfcocnhkimbpbaa.fnExactMailBytes
open Go.ChangeShapes Go.WideShapes Go.ChangeAt Go.RowKit Go.Proofs.YtfcocnhkimbpbaaVO Go.Proofs.Ytfcocnhkimbpbaa.MFnExactMailBytes Go.Proofs.Ytfcocnhkimbpbaa.GFnExactMailBytes Go.Proofs.YtfcocnhkimbpbaaV.PrintWords
set_option linter.unusedVariables false
theorem own : ownKnob Try.prog.godebug = none := by kernel_rfl
theorem laid : laidOutB Try.prog = true := by kernel_rfl
theorem op3 : Opens Try.prog 3 (Kd.int .i64) (fun n : Int => (Lit.int .i64 n).wf = true) := opens_int Try.underlying3 (by kernel_rfl)
theorem op5 : Opens Try.prog 5 (Kd.int .u8) (fun n : Int => (Lit.int .u8 n).wf = true) := opens_int Try.underlying5 (by kernel_rfl)
theorem op22 : Opens Try.prog 22 (Kd.slice 5 (Kd.int .u8)) (fun xs : List Int => xs.length ≤ maxLen ∧ ∀ x ∈ xs, (fun n : Int => (Lit.int .u8 n).wf = true) x) := opens_slice 5 Try.underlying22 (by kernel_rfl) op5
theorem op24t : Opens Try.prog 24 (Kd.pair (Kd.int .i64) (Kd.pair (Kd.int .i64) (Kd.pair (Kd.int .i64) (Kd.slice 5 (Kd.int .u8))))) (fun x : Int × Int × Int × (List Int) => (fun n : Int => (Lit.int .i64 n).wf = true) x.1 ∧ ((fun n : Int => (Lit.int .i64 n).wf = true) x.2.1 ∧ ((fun n : Int => (Lit.int .i64 n).wf = true) x.2.2.1 ∧ ((fun xs : List Int => xs.length ≤ maxLen ∧ ∀ x ∈ xs, (fun n : Int => (Lit.int .u8 n).wf = true) x) x.2.2.2)))) := opens_struct Try.underlying24 (by kernel_rfl) (fields_more (good := (fun n : Int => (Lit.int .i64 n).wf = true)) (good' := (fun x : Int × Int × (List Int) => (fun n : Int => (Lit.int .i64 n).wf = true) x.1 ∧ ((fun n : Int => (Lit.int .i64 n).wf = true) x.2.1 ∧ ((fun xs : List Int => xs.length ≤ maxLen ∧ ∀ x ∈ xs, (fun n : Int => (Lit.int .u8 n).wf = true) x) x.2.2)))) rfl op3 (fields_more (good := (fun n : Int => (Lit.int .i64 n).wf = true)) (good' := (fun x : Int × (List Int) => (fun n : Int => (Lit.int .i64 n).wf = true) x.1 ∧ ((fun xs : List Int => xs.length ≤ maxLen ∧ ∀ x ∈ xs, (fun n : Int => (Lit.int .u8 n).wf = true) x) x.2))) rfl op3 (fields_more (good := (fun n : Int => (Lit.int .i64 n).wf = true)) (good' := (fun xs : List Int => xs.length ≤ maxLen ∧ ∀ x ∈ xs, (fun n : Int => (Lit.int .u8 n).wf = true) x)) rfl op3 (fields_one (good := (fun xs : List Int => xs.length ≤ maxLen ∧ ∀ x ∈ xs, (fun n : Int => (Lit.int .u8 n).wf = true) x)) rfl op22))))
set_option maxRecDepth 100000 in
set_option maxHeartbeats 1000000 in
theorem lifted (os : Os) (started : os.Started) (H : Type) (enc : TypeId × Value → H) :
    ReturnsInHanded {} Try.checked os 3 .any (Rows.fnExactMailBytesSpec.pre6 enc Try.prog Try.f3 Rows.fnExactMailBytesRow.domain false) (Rows.fnExactMailBytesSpec.post enc Try.prog Try.f3 false true false false) := by
  refine returnsInHanded_of_change_sized (C := Try.checked) own started (by kernel_rfl) Try.func3
    (ChangeSpec.witness6 (enc := enc) (C := Try.checked) false ⟨#[], #[.agg #[.int .i64 0, .int .i64 0, .int .i64 0, .slice none 0 0], .int .i64 0], []⟩ 8 (by kernel_rfl) (by kernel_rfl) (by kernel_rfl) (by kernel_rfl)) ?_
  intro W base args ds gs before hval0 hW hcnd hsz0 _
  have hval : ∀ (j : Nat) t v, Try.f3.params[j]? = some t → args[j]? = some v → Value.okWide Try.prog W .any base t v := hval0
  have hW' := hW
  obtain ⟨p, q, hA0, hV, rfl, hfz, hnd⟩ := hW
  have hA : DataW.TrodAll enc Try.prog W 0 (fun _ => true) true Try.f3.params.toList args.toList ds p := hA0
  rw [Try.params3] at hA hval
  obtain ⟨v0, vs0, d0, ds0, p0, q0, hargs, rfl, rfl, h0, r0⟩ := trodAll_cons hA
  obtain ⟨v1, vs1, d1, ds1, p1, q1, rfl, rfl, rfl, h1, r1⟩ := trodAll_cons r0
  obtain ⟨rfl, rfl, rfl⟩ := trodAll_nil r1
  obtain rfl : args = #[v0, v1] := by cases args; simp_all
  obtain ⟨rfl, rfl⟩ := trodVars_none hV
  have k0 := h0
  have lt0 : ∀ x ∈ p0, x.block < W.heap.size := by obtain ⟨m, hm⟩ := k0; exact DataW.trod_lt m _ _ _ hm
  obtain ⟨cs0, rfl, sz0⟩ := okWide_struct Try.underlying24 (hval 0 24 v0 rfl rfl)
  obtain ⟨cs0⟩ := cs0
  obtain ⟨x0, y0, g0⟩ : ∃ x, (Kd.pair (Kd.int .i64) (Kd.pair (Kd.int .i64) (Kd.pair (Kd.int .i64) (Kd.slice 5 (Kd.int .u8))))).K W x cs0 ∧ (fun x : Int × Int × Int × (List Int) => (fun n : Int => (Lit.int .i64 n).wf = true) x.1 ∧ ((fun n : Int => (Lit.int .i64 n).wf = true) x.2.1 ∧ ((fun n : Int => (Lit.int .i64 n).wf = true) x.2.2.1 ∧ ((fun xs : List Int => xs.length ≤ maxLen ∧ ∀ x ∈ xs, (fun n : Int => (Lit.int .u8 n).wf = true) x) x.2.2.2)))) x := by obtain ⟨fuel, hf⟩ := h0; exact op24t.out hf
  obtain ⟨_, _, rfl, rfl, ⟨_, _, rfl, rfl, ⟨_, _, rfl, rfl, ⟨A0_3, c0_3, rfl, b0_3, y0_3⟩⟩⟩⟩ := y0
  obtain ⟨a1, rfl, rfl, rfl, g1⟩ := open_int Try.underlying3 (hval 1 3 v1 rfl rfl) h1
  clear hA0 hval0 hsz0
  obtain ⟨k, hk⟩ := Pure.FnExactMailBytes x0.1 x0.2.1 x0.2.2.1 x0.2.2.2 a1 g0.1 g0.2.1 g0.2.2.1 g0.2.2.2 g1
  refine (laws_FnExactMailBytes.calls (k := k) (a0_0 := x0.1) (a0_1 := x0.2.1) (a0_2 := x0.2.2.1) (A0_3 := A0_3) (c0_3 := c0_3) (l0_3 := x0.2.2.2) (hr0_3 := y0_3) (hc0_3 := b0_3) (a1 := a1) (r := true) (w := W) (h := hk)).mono fun e W' ⟨he, bel⟩ => ?_
  subst he
  exact ⟨_, rfl, _, _, _, [], _, [], hW', trodAll_mk1 (shut_bool Try.underlying4 _), (trodAll_cons_mk (Below.trod laid (by kernel_rfl) (of_decide_eq_true (by kernel_rfl)) k0 bel lt0) (trodAll_cons_mk (shut_int Try.underlying3 g1) trodAll_mk0)), rfl, bel.frame _, fun h => by cases h⟩
theorem over : Rows.fnExactMailBytesRow.holds Try.pinned (OpenSpec.ofChange Rows.fnExactMailBytesSpec) :=
  OpenClaim.holds_of_wide 3 Try.f3 rfl rfl rfl rfl rfl rfl rfl ⟨rfl, rfl, rfl, rfl, rfl⟩ rfl rfl rfl rfl rfl (by kernel_rfl) Try.func3 (by kernel_rfl)
    (of_decide_eq_true (by kernel_rfl)) (by unfold Func.isWrapper; first | (rw [if_pos (by decide +kernel)]; kernel_rfl) | (rw [if_neg (by decide +kernel)]; exact ⟨rfl, rfl⟩))
    (fun os started H enc _ => lifted os started H enc)
theorem proved : Rows.FnExactMailBytesSaid := over
end Go.Proofs.Ytfcocnhkimbpbaa.fnExactMailBytes
namespace Go.Proofs.Ytfcocnhkimbpbaa
/-- The row, under a short name, for the claim. -/
theorem fnExactMailBytes_holds : Rows.FnExactMailBytesSaid := fnExactMailBytes.proved
#print axioms fnExactMailBytes_holds
end Go.Proofs.Ytfcocnhkimbpbaa
