/- The row of the law FnExactNoteAbout: for every input that can be read the call returns true, and the input reads as it did. No conditions. -/
import Derived.Test.YtkkibccnpkbbjabRows
import Derived.Test.YtkkibccnpkbbjabVOpens
import Derived.Test.YtkkibccnpkbbjabGFnExactNoteAbout
import Derived.Test.YtkkibccnpkbbjabPureFnExactNoteAbout
import Derived.WalkKit
import Derived.ProofKit
import Derived.OpenShut
import Derived.ShutString
import Derived.ChangeOld
import Derived.Below
import Derived.Carry
import Derived.SizedLaws
namespace Go.Proofs.Ytkkibccnpkbbjab.fnExactNoteAbout
open Go.ChangeShapes Go.WideShapes Go.ChangeAt Go.RowKit Go.Proofs.YtkkibccnpkbbjabVO Go.Proofs.Ytkkibccnpkbbjab.MFnExactNoteAbout Go.Proofs.Ytkkibccnpkbbjab.GFnExactNoteAbout Go.Proofs.YtkkibccnpkbbjabV.PrintWords
set_option linter.unusedVariables false
theorem own : ownKnob Try.prog.godebug = none := by kernel_rfl
theorem laid : laidOutB Try.prog = true := by kernel_rfl
theorem op3 : Opens Try.prog 3 (Kd.int .i64) (fun n : Int => (Lit.int .i64 n).wf = true) := opens_int Try.underlying3 (by kernel_rfl)
theorem op4 : Opens Try.prog 4 Kd.bool (fun _ : Bool => True) := opens_bool Try.underlying4 (by kernel_rfl)
theorem op5 : Opens Try.prog 5 (Kd.int .u8) (fun n : Int => (Lit.int .u8 n).wf = true) := opens_int Try.underlying5 (by kernel_rfl)
theorem op22 : Opens Try.prog 22 (Kd.slice 5 (Kd.int .u8)) (fun xs : List Int => xs.length ≤ maxLen ∧ ∀ x ∈ xs, (fun n : Int => (Lit.int .u8 n).wf = true) x) := opens_slice 5 Try.underlying22 (by kernel_rfl) op5
theorem op52t : Opens Try.prog 52 (Kd.pair (Kd.int .i64) (Kd.pair (Kd.int .i64) (Kd.pair (Kd.int .i64) (Kd.pair (Kd.int .i64) (Kd.pair (Kd.int .i64) (Kd.pair (Kd.int .i64) (Kd.pair Kd.bool (Kd.pair Kd.bool (Kd.slice 5 (Kd.int .u8)))))))))) (fun x : Int × Int × Int × Int × Int × Int × Bool × Bool × (List Int) => (fun n : Int => (Lit.int .i64 n).wf = true) x.1 ∧ ((fun n : Int => (Lit.int .i64 n).wf = true) x.2.1 ∧ ((fun n : Int => (Lit.int .i64 n).wf = true) x.2.2.1 ∧ ((fun n : Int => (Lit.int .i64 n).wf = true) x.2.2.2.1 ∧ ((fun n : Int => (Lit.int .i64 n).wf = true) x.2.2.2.2.1 ∧ ((fun n : Int => (Lit.int .i64 n).wf = true) x.2.2.2.2.2.1 ∧ ((fun _ : Bool => True) x.2.2.2.2.2.2.1 ∧ ((fun _ : Bool => True) x.2.2.2.2.2.2.2.1 ∧ ((fun xs : List Int => xs.length ≤ maxLen ∧ ∀ x ∈ xs, (fun n : Int => (Lit.int .u8 n).wf = true) x) x.2.2.2.2.2.2.2.2))))))))) := opens_struct Try.underlying52 (by kernel_rfl) (fields_more (good := (fun n : Int => (Lit.int .i64 n).wf = true)) (good' := (fun x : Int × Int × Int × Int × Int × Bool × Bool × (List Int) => (fun n : Int => (Lit.int .i64 n).wf = true) x.1 ∧ ((fun n : Int => (Lit.int .i64 n).wf = true) x.2.1 ∧ ((fun n : Int => (Lit.int .i64 n).wf = true) x.2.2.1 ∧ ((fun n : Int => (Lit.int .i64 n).wf = true) x.2.2.2.1 ∧ ((fun n : Int => (Lit.int .i64 n).wf = true) x.2.2.2.2.1 ∧ ((fun _ : Bool => True) x.2.2.2.2.2.1 ∧ ((fun _ : Bool => True) x.2.2.2.2.2.2.1 ∧ ((fun xs : List Int => xs.length ≤ maxLen ∧ ∀ x ∈ xs, (fun n : Int => (Lit.int .u8 n).wf = true) x) x.2.2.2.2.2.2.2))))))))) rfl op3 (fields_more (good := (fun n : Int => (Lit.int .i64 n).wf = true)) (good' := (fun x : Int × Int × Int × Int × Bool × Bool × (List Int) => (fun n : Int => (Lit.int .i64 n).wf = true) x.1 ∧ ((fun n : Int => (Lit.int .i64 n).wf = true) x.2.1 ∧ ((fun n : Int => (Lit.int .i64 n).wf = true) x.2.2.1 ∧ ((fun n : Int => (Lit.int .i64 n).wf = true) x.2.2.2.1 ∧ ((fun _ : Bool => True) x.2.2.2.2.1 ∧ ((fun _ : Bool => True) x.2.2.2.2.2.1 ∧ ((fun xs : List Int => xs.length ≤ maxLen ∧ ∀ x ∈ xs, (fun n : Int => (Lit.int .u8 n).wf = true) x) x.2.2.2.2.2.2)))))))) rfl op3 (fields_more (good := (fun n : Int => (Lit.int .i64 n).wf = true)) (good' := (fun x : Int × Int × Int × Bool × Bool × (List Int) => (fun n : Int => (Lit.int .i64 n).wf = true) x.1 ∧ ((fun n : Int => (Lit.int .i64 n).wf = true) x.2.1 ∧ ((fun n : Int => (Lit.int .i64 n).wf = true) x.2.2.1 ∧ ((fun _ : Bool => True) x.2.2.2.1 ∧ ((fun _ : Bool => True) x.2.2.2.2.1 ∧ ((fun xs : List Int => xs.length ≤ maxLen ∧ ∀ x ∈ xs, (fun n : Int => (Lit.int .u8 n).wf = true) x) x.2.2.2.2.2))))))) rfl op3 (fields_more (good := (fun n : Int => (Lit.int .i64 n).wf = true)) (good' := (fun x : Int × Int × Bool × Bool × (List Int) => (fun n : Int => (Lit.int .i64 n).wf = true) x.1 ∧ ((fun n : Int => (Lit.int .i64 n).wf = true) x.2.1 ∧ ((fun _ : Bool => True) x.2.2.1 ∧ ((fun _ : Bool => True) x.2.2.2.1 ∧ ((fun xs : List Int => xs.length ≤ maxLen ∧ ∀ x ∈ xs, (fun n : Int => (Lit.int .u8 n).wf = true) x) x.2.2.2.2)))))) rfl op3 (fields_more (good := (fun n : Int => (Lit.int .i64 n).wf = true)) (good' := (fun x : Int × Bool × Bool × (List Int) => (fun n : Int => (Lit.int .i64 n).wf = true) x.1 ∧ ((fun _ : Bool => True) x.2.1 ∧ ((fun _ : Bool => True) x.2.2.1 ∧ ((fun xs : List Int => xs.length ≤ maxLen ∧ ∀ x ∈ xs, (fun n : Int => (Lit.int .u8 n).wf = true) x) x.2.2.2))))) rfl op3 (fields_more (good := (fun n : Int => (Lit.int .i64 n).wf = true)) (good' := (fun x : Bool × Bool × (List Int) => (fun _ : Bool => True) x.1 ∧ ((fun _ : Bool => True) x.2.1 ∧ ((fun xs : List Int => xs.length ≤ maxLen ∧ ∀ x ∈ xs, (fun n : Int => (Lit.int .u8 n).wf = true) x) x.2.2)))) rfl op3 (fields_more (good := (fun _ : Bool => True)) (good' := (fun x : Bool × (List Int) => (fun _ : Bool => True) x.1 ∧ ((fun xs : List Int => xs.length ≤ maxLen ∧ ∀ x ∈ xs, (fun n : Int => (Lit.int .u8 n).wf = true) x) x.2))) rfl op4 (fields_more (good := (fun _ : Bool => True)) (good' := (fun xs : List Int => xs.length ≤ maxLen ∧ ∀ x ∈ xs, (fun n : Int => (Lit.int .u8 n).wf = true) x)) rfl op4 (fields_one (good := (fun xs : List Int => xs.length ≤ maxLen ∧ ∀ x ∈ xs, (fun n : Int => (Lit.int .u8 n).wf = true) x)) rfl op22)))))))))
set_option maxRecDepth 100000 in
set_option maxHeartbeats 1000000 in
theorem lifted (os : Os) (started : os.Started) (H : Type) (enc : TypeId × Value → H) :
    ReturnsInHanded {} Try.checked os 6 .any (Rows.fnExactNoteAboutSpec.pre6 enc Try.prog Try.f6 Rows.fnExactNoteAboutRow.domain false) (Rows.fnExactNoteAboutSpec.post enc Try.prog Try.f6 false true false false) := by
  refine returnsInHanded_of_change_sized (C := Try.checked) own started (by kernel_rfl) Try.func6
    (ChangeSpec.witness6 (enc := enc) (C := Try.checked) false ⟨#[], #[.agg #[.int .i64 0, .int .i64 0, .int .i64 0, .int .i64 0, .int .i64 0, .int .i64 0, .bool false, .bool false, .slice none 0 0], .int .i64 0, .int .i64 0, .int .i64 0], []⟩ 8 (by kernel_rfl) (by kernel_rfl) (by kernel_rfl) (by kernel_rfl)) ?_
  intro W base args ds gs before hval0 hW hcnd hsz0 _
  have hval : ∀ (j : Nat) t v, Try.f6.params[j]? = some t → args[j]? = some v → Value.okWide Try.prog W .any base t v := hval0
  have hW' := hW
  obtain ⟨p, q, hA0, hV, rfl, hfz, hnd⟩ := hW
  have hA : DataW.TrodAll enc Try.prog W 0 (fun _ => true) true Try.f6.params.toList args.toList ds p := hA0
  rw [Try.params6] at hA hval
  obtain ⟨v0, vs0, d0, ds0, p0, q0, hargs, rfl, rfl, h0, r0⟩ := trodAll_cons hA
  obtain ⟨v1, vs1, d1, ds1, p1, q1, rfl, rfl, rfl, h1, r1⟩ := trodAll_cons r0
  obtain ⟨v2, vs2, d2, ds2, p2, q2, rfl, rfl, rfl, h2, r2⟩ := trodAll_cons r1
  obtain ⟨v3, vs3, d3, ds3, p3, q3, rfl, rfl, rfl, h3, r3⟩ := trodAll_cons r2
  obtain ⟨rfl, rfl, rfl⟩ := trodAll_nil r3
  obtain rfl : args = #[v0, v1, v2, v3] := by cases args; simp_all
  obtain ⟨rfl, rfl⟩ := trodVars_none hV
  have k0 := h0
  have lt0 : ∀ x ∈ p0, x.block < W.heap.size := by obtain ⟨m, hm⟩ := k0; exact DataW.trod_lt m _ _ _ hm
  obtain ⟨cs0, rfl, sz0⟩ := okWide_struct Try.underlying52 (hval 0 52 v0 rfl rfl)
  obtain ⟨cs0⟩ := cs0
  obtain ⟨x0, y0, g0⟩ : ∃ x, (Kd.pair (Kd.int .i64) (Kd.pair (Kd.int .i64) (Kd.pair (Kd.int .i64) (Kd.pair (Kd.int .i64) (Kd.pair (Kd.int .i64) (Kd.pair (Kd.int .i64) (Kd.pair Kd.bool (Kd.pair Kd.bool (Kd.slice 5 (Kd.int .u8)))))))))).K W x cs0 ∧ (fun x : Int × Int × Int × Int × Int × Int × Bool × Bool × (List Int) => (fun n : Int => (Lit.int .i64 n).wf = true) x.1 ∧ ((fun n : Int => (Lit.int .i64 n).wf = true) x.2.1 ∧ ((fun n : Int => (Lit.int .i64 n).wf = true) x.2.2.1 ∧ ((fun n : Int => (Lit.int .i64 n).wf = true) x.2.2.2.1 ∧ ((fun n : Int => (Lit.int .i64 n).wf = true) x.2.2.2.2.1 ∧ ((fun n : Int => (Lit.int .i64 n).wf = true) x.2.2.2.2.2.1 ∧ ((fun _ : Bool => True) x.2.2.2.2.2.2.1 ∧ ((fun _ : Bool => True) x.2.2.2.2.2.2.2.1 ∧ ((fun xs : List Int => xs.length ≤ maxLen ∧ ∀ x ∈ xs, (fun n : Int => (Lit.int .u8 n).wf = true) x) x.2.2.2.2.2.2.2.2))))))))) x := by obtain ⟨fuel, hf⟩ := h0; exact op52t.out hf
  obtain ⟨_, _, rfl, rfl, ⟨_, _, rfl, rfl, ⟨_, _, rfl, rfl, ⟨_, _, rfl, rfl, ⟨_, _, rfl, rfl, ⟨_, _, rfl, rfl, ⟨_, _, rfl, rfl, ⟨_, _, rfl, rfl, ⟨A0_8, c0_8, rfl, b0_8, y0_8⟩⟩⟩⟩⟩⟩⟩⟩⟩ := y0
  obtain ⟨a1, rfl, rfl, rfl, g1⟩ := open_int Try.underlying3 (hval 1 3 v1 rfl rfl) h1
  obtain ⟨a2, rfl, rfl, rfl, g2⟩ := open_int Try.underlying3 (hval 2 3 v2 rfl rfl) h2
  obtain ⟨a3, rfl, rfl, rfl, g3⟩ := open_int Try.underlying3 (hval 3 3 v3 rfl rfl) h3
  clear hA0 hval0 hsz0
  obtain ⟨k, hk⟩ := Pure.FnExactNoteAbout x0.1 x0.2.1 x0.2.2.1 x0.2.2.2.1 x0.2.2.2.2.1 x0.2.2.2.2.2.1 x0.2.2.2.2.2.2.1 x0.2.2.2.2.2.2.2.1 x0.2.2.2.2.2.2.2.2 a1 a2 a3 g0.1 g0.2.1 g0.2.2.1 g0.2.2.2.1 g0.2.2.2.2.1 g0.2.2.2.2.2.1 g0.2.2.2.2.2.2.2.2 g1 g2 g3
  refine (laws_FnExactNoteAbout.calls (k := k) (a0_0 := x0.1) (a0_1 := x0.2.1) (a0_2 := x0.2.2.1) (a0_3 := x0.2.2.2.1) (a0_4 := x0.2.2.2.2.1) (a0_5 := x0.2.2.2.2.2.1) (a0_6 := x0.2.2.2.2.2.2.1) (a0_7 := x0.2.2.2.2.2.2.2.1) (A0_8 := A0_8) (c0_8 := c0_8) (l0_8 := x0.2.2.2.2.2.2.2.2) (hr0_8 := y0_8) (hc0_8 := b0_8) (a1 := a1) (a2 := a2) (a3 := a3) (r := true) (w := W) (h := hk)).mono fun e W' ⟨he, bel⟩ => ?_
  subst he
  exact ⟨_, rfl, _, _, _, [], _, [], hW', trodAll_mk1 (shut_bool Try.underlying4 _), (trodAll_cons_mk (Below.trod laid (by kernel_rfl) (of_decide_eq_true (by kernel_rfl)) k0 bel lt0) (trodAll_cons_mk (shut_int Try.underlying3 g1) (trodAll_cons_mk (shut_int Try.underlying3 g2) (trodAll_cons_mk (shut_int Try.underlying3 g3) trodAll_mk0)))), rfl, bel.frame _, fun h => by cases h⟩
theorem over : Rows.fnExactNoteAboutRow.holds Try.pinned (OpenSpec.ofChange Rows.fnExactNoteAboutSpec) :=
  OpenClaim.holds_of_wide 6 Try.f6 rfl rfl rfl rfl rfl rfl rfl ⟨rfl, rfl, rfl, rfl, rfl⟩ rfl rfl rfl rfl rfl (by kernel_rfl) Try.func6 (by kernel_rfl)
    (of_decide_eq_true (by kernel_rfl)) (by unfold Func.isWrapper; first | (rw [if_pos (by decide +kernel)]; kernel_rfl) | (rw [if_neg (by decide +kernel)]; exact ⟨rfl, rfl⟩))
    (fun os started H enc _ => lifted os started H enc)
theorem proved : Rows.FnExactNoteAboutSaid := over
end Go.Proofs.Ytkkibccnpkbbjab.fnExactNoteAbout
namespace Go.Proofs.Ytkkibccnpkbbjab
/-- The row, under a short name, for the claim. -/
theorem fnExactNoteAbout_holds : Rows.FnExactNoteAboutSaid := fnExactNoteAbout.proved
#print axioms fnExactNoteAbout_holds
end Go.Proofs.Ytkkibccnpkbbjab
