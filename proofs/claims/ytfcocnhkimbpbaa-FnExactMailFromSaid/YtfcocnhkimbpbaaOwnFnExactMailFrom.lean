/- The row of the law FnExactMailFrom: for every input that can be read the call returns true, and the input reads as it did. No conditions. -/
import Derived.Test.YtfcocnhkimbpbaaRows
import Derived.Test.YtfcocnhkimbpbaaVOpens
import Derived.Test.YtfcocnhkimbpbaaGFnExactMailFrom
import Derived.Test.YtfcocnhkimbpbaaPureFnExactMailFrom
import Derived.WalkKit
import Derived.ProofKit
import Derived.OpenShut
import Derived.ShutString
import Derived.ChangeOld
import Derived.Below
import Derived.Carry
import Derived.SizedLaws
namespace Go.Proofs.Ytfcocnhkimbpbaa.fnExactMailFrom
open Go.ChangeShapes Go.WideShapes Go.ChangeAt Go.RowKit Go.Proofs.YtfcocnhkimbpbaaVO Go.Proofs.Ytfcocnhkimbpbaa.MFnExactMailFrom Go.Proofs.Ytfcocnhkimbpbaa.GFnExactMailFrom Go.Proofs.YtfcocnhkimbpbaaV.PrintWords
set_option linter.unusedVariables false
theorem own : ownKnob Try.prog.godebug = none := by kernel_rfl
theorem laid : laidOutB Try.prog = true := by kernel_rfl
theorem op3 : Opens Try.prog 3 (Kd.int .i64) (fun n : Int => (Lit.int .i64 n).wf = true) := opens_int Try.underlying3 (by kernel_rfl)
theorem op5 : Opens Try.prog 5 (Kd.int .u8) (fun n : Int => (Lit.int .u8 n).wf = true) := opens_int Try.underlying5 (by kernel_rfl)
theorem op22 : Opens Try.prog 22 (Kd.slice 5 (Kd.int .u8)) (fun xs : List Int => xs.length ≤ maxLen ∧ ∀ x ∈ xs, (fun n : Int => (Lit.int .u8 n).wf = true) x) := opens_slice 5 Try.underlying22 (by kernel_rfl) op5
set_option maxRecDepth 100000 in
set_option maxHeartbeats 1000000 in
theorem lifted (os : Os) (started : os.Started) (H : Type) (enc : TypeId × Value → H) :
    ReturnsInHanded {} Try.checked os 5 .any (Rows.fnExactMailFromSpec.pre6 enc Try.prog Try.f5 Rows.fnExactMailFromRow.domain false) (Rows.fnExactMailFromSpec.post enc Try.prog Try.f5 false true false false) := by
  refine returnsInHanded_of_change_sized (C := Try.checked) own started (by kernel_rfl) Try.func5
    (ChangeSpec.witness6 (enc := enc) (C := Try.checked) false ⟨#[], #[.int .i64 0, .int .i64 0, .slice none 0 0], []⟩ 8 (by kernel_rfl) (by kernel_rfl) (by kernel_rfl) (by kernel_rfl)) ?_
  intro W base args ds gs before hval0 hW hcnd hsz0 _
  have hval : ∀ (j : Nat) t v, Try.f5.params[j]? = some t → args[j]? = some v → Value.okWide Try.prog W .any base t v := hval0
  have hW' := hW
  obtain ⟨p, q, hA0, hV, rfl, hfz, hnd⟩ := hW
  have hA : DataW.TrodAll enc Try.prog W 0 (fun _ => true) true Try.f5.params.toList args.toList ds p := hA0
  rw [Try.params5] at hA hval
  obtain ⟨v0, vs0, d0, ds0, p0, q0, hargs, rfl, rfl, h0, r0⟩ := trodAll_cons hA
  obtain ⟨v1, vs1, d1, ds1, p1, q1, rfl, rfl, rfl, h1, r1⟩ := trodAll_cons r0
  obtain ⟨v2, vs2, d2, ds2, p2, q2, rfl, rfl, rfl, h2, r2⟩ := trodAll_cons r1
  obtain ⟨rfl, rfl, rfl⟩ := trodAll_nil r2
  obtain rfl : args = #[v0, v1, v2] := by cases args; simp_all
  obtain ⟨rfl, rfl⟩ := trodVars_none hV
  obtain ⟨a0, rfl, rfl, rfl, g0⟩ := open_int Try.underlying3 (hval 0 3 v0 rfl rfl) h0
  obtain ⟨a1, rfl, rfl, rfl, g1⟩ := open_int Try.underlying3 (hval 1 3 v1 rfl rfl) h1
  have k2 := h2
  have lt2 : ∀ x ∈ p2, x.block < W.heap.size := by obtain ⟨m, hm⟩ := k2; exact DataW.trod_lt m _ _ _ hm
  obtain ⟨A2, n2, c2, rfl⟩ := okWide_slice Try.underlying22 (hval 2 22 v2 rfl rfl)
  obtain ⟨l2, x2, g2⟩ : ∃ l, ((Kd.slice 5 (Kd.int .u8))).K W l [.slice A2 n2 c2] ∧ (fun xs : List Int => xs.length ≤ maxLen ∧ ∀ x ∈ xs, (fun n : Int => (Lit.int .u8 n).wf = true) x) l := by obtain ⟨fuel, hf⟩ := h2; exact op22.out hf
  obtain ⟨A2', c2', e2, b2, y2⟩ := x2
  injection e2 with e2 _
  injection e2 with e2a e2b e2c
  subst e2a e2b e2c
  clear hA0 hval0 hsz0
  obtain ⟨k, hk⟩ := Pure.FnExactMailFrom a0 a1 l2 g0 g1 g2
  refine (laws_FnExactMailFrom.calls (k := k) (a0 := a0) (a1 := a1) (A2 := A2) (c2 := c2) (l2 := l2) (hr2 := y2) (hc2 := b2) (r := true) (w := W) (h := hk)).mono fun e W' ⟨he, bel⟩ => ?_
  subst he
  exact ⟨_, rfl, _, _, _, [], _, [], hW', trodAll_mk1 (shut_bool Try.underlying4 _), (trodAll_cons_mk (shut_int Try.underlying3 g0) (trodAll_cons_mk (shut_int Try.underlying3 g1) (trodAll_cons_mk (Below.trod laid (by kernel_rfl) (of_decide_eq_true (by kernel_rfl)) k2 bel lt2) trodAll_mk0))), rfl, bel.frame _, fun h => by cases h⟩
theorem over : Rows.fnExactMailFromRow.holds Try.pinned (OpenSpec.ofChange Rows.fnExactMailFromSpec) :=
  OpenClaim.holds_of_wide 5 Try.f5 rfl rfl rfl rfl rfl rfl rfl ⟨rfl, rfl, rfl, rfl, rfl⟩ rfl rfl rfl rfl rfl (by kernel_rfl) Try.func5 (by kernel_rfl)
    (of_decide_eq_true (by kernel_rfl)) (by unfold Func.isWrapper; first | (rw [if_pos (by decide +kernel)]; kernel_rfl) | (rw [if_neg (by decide +kernel)]; exact ⟨rfl, rfl⟩))
    (fun os started H enc _ => lifted os started H enc)
theorem proved : Rows.FnExactMailFromSaid := over
end Go.Proofs.Ytfcocnhkimbpbaa.fnExactMailFrom
namespace Go.Proofs.Ytfcocnhkimbpbaa
/-- The row, under a short name, for the claim. -/
theorem fnExactMailFrom_holds : Rows.FnExactMailFromSaid := fnExactMailFrom.proved
#print axioms fnExactMailFrom_holds
end Go.Proofs.Ytfcocnhkimbpbaa
