/- The row of the law FnExactEarRanges: for every input that can be read the call returns true, and the input reads as it did. No conditions. -/
import Derived.Test.YtgfaamcihlojdafRows
import Derived.Test.YtgfaamcihlojdafVOpens
import Derived.Test.YtgfaamcihlojdafGFnExactEarRanges
import Derived.Test.YtgfaamcihlojdafPureFnExactEarRanges
import Derived.WalkKit
import Derived.ProofKit
import Derived.OpenShut
import Derived.ShutString
import Derived.ChangeOld
import Derived.Below
import Derived.Carry
import Derived.SizedLaws
namespace Go.Proofs.Ytgfaamcihlojdaf.fnExactEarRanges
open Go.ChangeShapes Go.WideShapes Go.ChangeAt Go.RowKit Go.Proofs.YtgfaamcihlojdafVO Go.Proofs.Ytgfaamcihlojdaf.MFnExactEarRanges Go.Proofs.Ytgfaamcihlojdaf.GFnExactEarRanges Go.Proofs.YtgfaamcihlojdafV.PrintWords
set_option linter.unusedVariables false
theorem own : ownKnob Try.prog.godebug = none := by kernel_rfl
theorem laid : laidOutB Try.prog = true := by kernel_rfl
theorem op3 : Opens Try.prog 3 (Kd.int .i64) (fun n : Int => (Lit.int .i64 n).wf = true) := opens_int Try.underlying3 (by kernel_rfl)
theorem op5 : Opens Try.prog 5 (Kd.int .u8) (fun n : Int => (Lit.int .u8 n).wf = true) := opens_int Try.underlying5 (by kernel_rfl)
theorem op29 : Opens Try.prog 29 (Kd.slice 5 (Kd.int .u8)) (fun xs : List Int => xs.length ≤ maxLen ∧ ∀ x ∈ xs, (fun n : Int => (Lit.int .u8 n).wf = true) x) := opens_slice 5 Try.underlying29 (by kernel_rfl) op5
theorem op125t : Opens Try.prog 125 (Kd.pair (Kd.int .i64) (Kd.int .u8)) (fun x : Int × Int => (fun n : Int => (Lit.int .i64 n).wf = true) x.1 ∧ ((fun n : Int => (Lit.int .u8 n).wf = true) x.2)) := opens_struct Try.underlying125 (by kernel_rfl) (fields_more (good := (fun n : Int => (Lit.int .i64 n).wf = true)) (good' := (fun n : Int => (Lit.int .u8 n).wf = true)) rfl op3 (fields_one (good := (fun n : Int => (Lit.int .u8 n).wf = true)) rfl op5))
theorem op125 : Opens Try.prog 125 k125 G125 := opens_iso _ (fun x => ⟨x.1, x.2⟩) (fun _ => rfl) (fun x h => h) op125t
theorem op60 : Opens Try.prog 60 (Kd.slice 125 k125) (fun xs : List S125 => xs.length ≤ maxLen ∧ ∀ x ∈ xs, G125 x) := opens_slice 125 Try.underlying60 (by kernel_rfl) op125
theorem op62t : Opens Try.prog 62 (Kd.pair (Kd.int .i64) (Kd.pair (Kd.int .i64) (Kd.pair (Kd.slice 5 (Kd.int .u8)) (Kd.slice 125 k125)))) (fun x : Int × Int × (List Int) × (List S125) => (fun n : Int => (Lit.int .i64 n).wf = true) x.1 ∧ ((fun n : Int => (Lit.int .i64 n).wf = true) x.2.1 ∧ ((fun xs : List Int => xs.length ≤ maxLen ∧ ∀ x ∈ xs, (fun n : Int => (Lit.int .u8 n).wf = true) x) x.2.2.1 ∧ ((fun xs : List S125 => xs.length ≤ maxLen ∧ ∀ x ∈ xs, G125 x) x.2.2.2)))) := opens_struct Try.underlying62 (by kernel_rfl) (fields_more (good := (fun n : Int => (Lit.int .i64 n).wf = true)) (good' := (fun x : Int × (List Int) × (List S125) => (fun n : Int => (Lit.int .i64 n).wf = true) x.1 ∧ ((fun xs : List Int => xs.length ≤ maxLen ∧ ∀ x ∈ xs, (fun n : Int => (Lit.int .u8 n).wf = true) x) x.2.1 ∧ ((fun xs : List S125 => xs.length ≤ maxLen ∧ ∀ x ∈ xs, G125 x) x.2.2)))) rfl op3 (fields_more (good := (fun n : Int => (Lit.int .i64 n).wf = true)) (good' := (fun x : (List Int) × (List S125) => (fun xs : List Int => xs.length ≤ maxLen ∧ ∀ x ∈ xs, (fun n : Int => (Lit.int .u8 n).wf = true) x) x.1 ∧ ((fun xs : List S125 => xs.length ≤ maxLen ∧ ∀ x ∈ xs, G125 x) x.2))) rfl op3 (fields_more (good := (fun xs : List Int => xs.length ≤ maxLen ∧ ∀ x ∈ xs, (fun n : Int => (Lit.int .u8 n).wf = true) x)) (good' := (fun xs : List S125 => xs.length ≤ maxLen ∧ ∀ x ∈ xs, G125 x)) rfl op29 (fields_one (good := (fun xs : List S125 => xs.length ≤ maxLen ∧ ∀ x ∈ xs, G125 x)) rfl op60))))
set_option maxRecDepth 100000 in
set_option maxHeartbeats 1000000 in
theorem lifted (os : Os) (started : os.Started) (H : Type) (enc : TypeId × Value → H) :
    ReturnsInHanded {} Try.checked os 7 .any (Rows.fnExactEarRangesSpec.pre6 enc Try.prog Try.f7 Rows.fnExactEarRangesRow.domain false) (Rows.fnExactEarRangesSpec.post enc Try.prog Try.f7 false true false false) := by
  refine returnsInHanded_of_change_sized (C := Try.checked) own started (by kernel_rfl) Try.func7
    (ChangeSpec.witness6 (enc := enc) (C := Try.checked) false ⟨#[], #[.agg #[.int .i64 0, .int .i64 0, .slice none 0 0, .slice none 0 0]], []⟩ 8 (by kernel_rfl) (by kernel_rfl) (by kernel_rfl) (by kernel_rfl)) ?_
  intro W base args ds gs before hval0 hW hcnd hsz0 _
  have hval : ∀ (j : Nat) t v, Try.f7.params[j]? = some t → args[j]? = some v → Value.okWide Try.prog W .any base t v := hval0
  have hW' := hW
  obtain ⟨p, q, hA0, hV, rfl, hfz, hnd⟩ := hW
  have hA : DataW.TrodAll enc Try.prog W 0 (fun _ => true) true Try.f7.params.toList args.toList ds p := hA0
  rw [Try.params7] at hA hval
  obtain ⟨v0, vs0, d0, ds0, p0, q0, hargs, rfl, rfl, h0, r0⟩ := trodAll_cons hA
  obtain ⟨rfl, rfl, rfl⟩ := trodAll_nil r0
  obtain rfl : args = #[v0] := by cases args; simp_all
  obtain ⟨rfl, rfl⟩ := trodVars_none hV
  have k0 := h0
  have lt0 : ∀ x ∈ p0, x.block < W.heap.size := by obtain ⟨m, hm⟩ := k0; exact DataW.trod_lt m _ _ _ hm
  obtain ⟨cs0, rfl, sz0⟩ := okWide_struct Try.underlying62 (hval 0 62 v0 rfl rfl)
  obtain ⟨cs0⟩ := cs0
  obtain ⟨x0, y0, g0⟩ : ∃ x, (Kd.pair (Kd.int .i64) (Kd.pair (Kd.int .i64) (Kd.pair (Kd.slice 5 (Kd.int .u8)) (Kd.slice 125 k125)))).K W x cs0 ∧ (fun x : Int × Int × (List Int) × (List S125) => (fun n : Int => (Lit.int .i64 n).wf = true) x.1 ∧ ((fun n : Int => (Lit.int .i64 n).wf = true) x.2.1 ∧ ((fun xs : List Int => xs.length ≤ maxLen ∧ ∀ x ∈ xs, (fun n : Int => (Lit.int .u8 n).wf = true) x) x.2.2.1 ∧ ((fun xs : List S125 => xs.length ≤ maxLen ∧ ∀ x ∈ xs, G125 x) x.2.2.2)))) x := by obtain ⟨fuel, hf⟩ := h0; exact op62t.out hf
  obtain ⟨_, _, rfl, rfl, ⟨_, _, rfl, rfl, ⟨_, _, rfl, ⟨A0_2, c0_2, rfl, b0_2, y0_2⟩, ⟨A0_3, c0_3, rfl, b0_3, y0_3⟩⟩⟩⟩ := y0
  clear hA0 hval0 hsz0
  obtain ⟨k, hk⟩ := Pure.FnExactEarRanges x0.1 x0.2.1 x0.2.2.1 x0.2.2.2 g0.1 g0.2.1 g0.2.2.1 g0.2.2.2
  refine (laws_FnExactEarRanges.calls (k := k) (a0_0 := x0.1) (a0_1 := x0.2.1) (A0_2 := A0_2) (c0_2 := c0_2) (l0_2 := x0.2.2.1) (hr0_2 := y0_2) (hc0_2 := b0_2) (A0_3 := A0_3) (c0_3 := c0_3) (l0_3 := x0.2.2.2) (hr0_3 := y0_3) (hc0_3 := b0_3) (r := true) (w := W) (h := hk)).mono fun e W' ⟨he, bel⟩ => ?_
  subst he
  exact ⟨_, rfl, _, _, _, [], _, [], hW', trodAll_mk1 (shut_bool Try.underlying4 _), (trodAll_cons_mk (Below.trod laid (by kernel_rfl) (of_decide_eq_true (by kernel_rfl)) k0 bel lt0) trodAll_mk0), rfl, bel.frame _, fun h => by cases h⟩
theorem over : Rows.fnExactEarRangesRow.holds Try.pinned (OpenSpec.ofChange Rows.fnExactEarRangesSpec) :=
  OpenClaim.holds_of_wide 7 Try.f7 rfl rfl rfl rfl rfl rfl rfl ⟨rfl, rfl, rfl, rfl, rfl⟩ rfl rfl rfl rfl rfl (by kernel_rfl) Try.func7 (by kernel_rfl)
    (of_decide_eq_true (by kernel_rfl)) (by unfold Func.isWrapper; first | (rw [if_pos (by decide +kernel)]; kernel_rfl) | (rw [if_neg (by decide +kernel)]; exact ⟨rfl, rfl⟩))
    (fun os started H enc _ => lifted os started H enc)
theorem proved : Rows.FnExactEarRangesSaid := over
end Go.Proofs.Ytgfaamcihlojdaf.fnExactEarRanges
namespace Go.Proofs.Ytgfaamcihlojdaf
/-- The row, under a short name, for the claim. -/
theorem fnExactEarRanges_holds : Rows.FnExactEarRangesSaid := fnExactEarRanges.proved
#print axioms fnExactEarRanges_holds
end Go.Proofs.Ytgfaamcihlojdaf
