/- The row of the law FnRouteDrop: for every input that can be read the call returns true, and the input reads as it did. No conditions. -/
import Derived.Test.YtkkibccnpkbbjabRows
import Derived.Test.YtkkibccnpkbbjabVOpens
import Derived.Test.YtkkibccnpkbbjabGFnRouteDrop
import Derived.Test.YtkkibccnpkbbjabPureFnRouteDrop
import Derived.WalkKit
import Derived.ProofKit
import Derived.OpenShut
import Derived.ShutString
import Derived.ChangeOld
import Derived.Below
import Derived.Carry
import Derived.SizedLaws
namespace Go.Proofs.Ytkkibccnpkbbjab.fnRouteDrop
open Go.ChangeShapes Go.WideShapes Go.ChangeAt Go.RowKit Go.Proofs.YtkkibccnpkbbjabVO Go.Proofs.Ytkkibccnpkbbjab.MFnRouteDrop Go.Proofs.Ytkkibccnpkbbjab.GFnRouteDrop Go.Proofs.YtkkibccnpkbbjabV.PrintWords
set_option linter.unusedVariables false
theorem own : ownKnob Try.prog.godebug = none := by kernel_rfl
theorem laid : laidOutB Try.prog = true := by kernel_rfl
theorem op5 : Opens Try.prog 5 (Kd.int .u8) (fun n : Int => (Lit.int .u8 n).wf = true) := opens_int Try.underlying5 (by kernel_rfl)
theorem op22 : Opens Try.prog 22 (Kd.slice 5 (Kd.int .u8)) (fun xs : List Int => xs.length ≤ maxLen ∧ ∀ x ∈ xs, (fun n : Int => (Lit.int .u8 n).wf = true) x) := opens_slice 5 Try.underlying22 (by kernel_rfl) op5
set_option maxRecDepth 100000 in
set_option maxHeartbeats 1000000 in
theorem lifted (os : Os) (started : os.Started) (H : Type) (enc : TypeId × Value → H) :
    ReturnsInHanded {} Try.checked os 9 .any (Rows.fnRouteDropSpec.pre6 enc Try.prog Try.f9 Rows.fnRouteDropRow.domain false) (Rows.fnRouteDropSpec.post enc Try.prog Try.f9 false true false false) := by
  refine returnsInHanded_of_change_sized (C := Try.checked) own started (by kernel_rfl) Try.func9
    (ChangeSpec.witness6 (enc := enc) (C := Try.checked) false ⟨#[], #[.slice none 0 0], []⟩ 8 (by kernel_rfl) (by kernel_rfl) (by kernel_rfl) (by kernel_rfl)) ?_
  intro W base args ds gs before hval0 hW hcnd hsz0 _
  have hval : ∀ (j : Nat) t v, Try.f9.params[j]? = some t → args[j]? = some v → Value.okWide Try.prog W .any base t v := hval0
  have hW' := hW
  obtain ⟨p, q, hA0, hV, rfl, hfz, hnd⟩ := hW
  have hA : DataW.TrodAll enc Try.prog W 0 (fun _ => true) true Try.f9.params.toList args.toList ds p := hA0
  rw [Try.params9] at hA hval
  obtain ⟨v0, vs0, d0, ds0, p0, q0, hargs, rfl, rfl, h0, r0⟩ := trodAll_cons hA
  obtain ⟨rfl, rfl, rfl⟩ := trodAll_nil r0
  obtain rfl : args = #[v0] := by cases args; simp_all
  obtain ⟨rfl, rfl⟩ := trodVars_none hV
  have k0 := h0
  have lt0 : ∀ x ∈ p0, x.block < W.heap.size := by obtain ⟨m, hm⟩ := k0; exact DataW.trod_lt m _ _ _ hm
  obtain ⟨A0, n0, c0, rfl⟩ := okWide_slice Try.underlying22 (hval 0 22 v0 rfl rfl)
  obtain ⟨l0, x0, g0⟩ : ∃ l, ((Kd.slice 5 (Kd.int .u8))).K W l [.slice A0 n0 c0] ∧ (fun xs : List Int => xs.length ≤ maxLen ∧ ∀ x ∈ xs, (fun n : Int => (Lit.int .u8 n).wf = true) x) l := by obtain ⟨fuel, hf⟩ := h0; exact op22.out hf
  obtain ⟨A0', c0', e0, b0, y0⟩ := x0
  injection e0 with e0 _
  injection e0 with e0a e0b e0c
  subst e0a e0b e0c
  clear hA0 hval0 hsz0
  obtain ⟨k, hk⟩ := Pure.FnRouteDrop l0 g0
  refine (laws_FnRouteDrop.calls (k := k) (A0 := A0) (c0 := c0) (l0 := l0) (hr0 := y0) (hc0 := b0) (r := true) (w := W) (h := ⟨hk, rfl⟩)).mono fun e W' ⟨he, bel⟩ => ?_
  subst he
  exact ⟨_, rfl, _, _, _, [], _, [], hW', trodAll_mk1 (shut_bool Try.underlying4 _), (trodAll_cons_mk (Below.trod laid (by kernel_rfl) (of_decide_eq_true (by kernel_rfl)) k0 bel lt0) trodAll_mk0), rfl, bel.frame _, fun h => by cases h⟩
theorem over : Rows.fnRouteDropRow.holds Try.pinned (OpenSpec.ofChange Rows.fnRouteDropSpec) :=
  OpenClaim.holds_of_wide 9 Try.f9 rfl rfl rfl rfl rfl rfl rfl ⟨rfl, rfl, rfl, rfl, rfl⟩ rfl rfl rfl rfl rfl (by kernel_rfl) Try.func9 (by kernel_rfl)
    (of_decide_eq_true (by kernel_rfl)) (by unfold Func.isWrapper; first | (rw [if_pos (by decide +kernel)]; kernel_rfl) | (rw [if_neg (by decide +kernel)]; exact ⟨rfl, rfl⟩))
    (fun os started H enc _ => lifted os started H enc)
theorem proved : Rows.FnRouteDropSaid := over
end Go.Proofs.Ytkkibccnpkbbjab.fnRouteDrop
namespace Go.Proofs.Ytkkibccnpkbbjab
/-- The row, under a short name, for the claim. -/
theorem fnRouteDrop_holds : Rows.FnRouteDropSaid := fnRouteDrop.proved
#print axioms fnRouteDrop_holds
end Go.Proofs.Ytkkibccnpkbbjab
