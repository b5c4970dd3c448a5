/- The row of the law FnExactPortHear: for every input that can be read the call returns true, and the input reads as it did. No conditions. -/
import Derived.Test.YtkkibccnpkbbjaaRows
import Derived.Test.YtkkibccnpkbbjaaVOpens
import Derived.Test.YtkkibccnpkbbjaaGFnExactPortHear
import Derived.Test.YtkkibccnpkbbjaaPureFnExactPortHear
import Derived.WalkKit
import Derived.ProofKit
import Derived.OpenShut
import Derived.ShutString
import Derived.ChangeOld
import Derived.Below
import Derived.Carry
import Derived.SizedLaws
namespace Go.Proofs.Ytkkibccnpkbbjaa.fnExactPortHear
open Go.ChangeShapes Go.WideShapes Go.ChangeAt Go.RowKit Go.Proofs.YtkkibccnpkbbjaaVO Go.Proofs.Ytkkibccnpkbbjaa.MFnExactPortHear Go.Proofs.Ytkkibccnpkbbjaa.GFnExactPortHear Go.Proofs.YtkkibccnpkbbjaaV.PrintWords
set_option linter.unusedVariables false
theorem own : ownKnob Try.prog.godebug = none := by kernel_rfl
theorem laid : laidOutB Try.prog = true := by kernel_rfl
theorem op3 : Opens Try.prog 3 (Kd.int .i64) (fun n : Int => (Lit.int .i64 n).wf = true) := opens_int Try.underlying3 (by kernel_rfl)
theorem op5 : Opens Try.prog 5 (Kd.int .u8) (fun n : Int => (Lit.int .u8 n).wf = true) := opens_int Try.underlying5 (by kernel_rfl)
theorem op29 : Opens Try.prog 29 (Kd.slice 5 (Kd.int .u8)) (fun xs : List Int => xs.length ≤ maxLen ∧ ∀ x ∈ xs, (fun n : Int => (Lit.int .u8 n).wf = true) x) := opens_slice 5 Try.underlying29 (by kernel_rfl) op5
theorem op105t : Opens Try.prog 105 (Kd.pair (Kd.int .i64) (Kd.pair (Kd.int .i64) (Kd.pair (Kd.int .i64) (Kd.slice 5 (Kd.int .u8))))) (fun x : Int × Int × Int × (List Int) => (fun n : Int => (Lit.int .i64 n).wf = true) x.1 ∧ ((fun n : Int => (Lit.int .i64 n).wf = true) x.2.1 ∧ ((fun n : Int => (Lit.int .i64 n).wf = true) x.2.2.1 ∧ ((fun xs : List Int => xs.length ≤ maxLen ∧ ∀ x ∈ xs, (fun n : Int => (Lit.int .u8 n).wf = true) x) x.2.2.2)))) := opens_struct Try.underlying105 (by kernel_rfl) (fields_more (good := (fun n : Int => (Lit.int .i64 n).wf = true)) (good' := (fun x : Int × Int × (List Int) => (fun n : Int => (Lit.int .i64 n).wf = true) x.1 ∧ ((fun n : Int => (Lit.int .i64 n).wf = true) x.2.1 ∧ ((fun xs : List Int => xs.length ≤ maxLen ∧ ∀ x ∈ xs, (fun n : Int => (Lit.int .u8 n).wf = true) x) x.2.2)))) rfl op3 (fields_more (good := (fun n : Int => (Lit.int .i64 n).wf = true)) (good' := (fun x : Int × (List Int) => (fun n : Int => (Lit.int .i64 n).wf = true) x.1 ∧ ((fun xs : List Int => xs.length ≤ maxLen ∧ ∀ x ∈ xs, (fun n : Int => (Lit.int .u8 n).wf = true) x) x.2))) rfl op3 (fields_more (good := (fun n : Int => (Lit.int .i64 n).wf = true)) (good' := (fun xs : List Int => xs.length ≤ maxLen ∧ ∀ x ∈ xs, (fun n : Int => (Lit.int .u8 n).wf = true) x)) rfl op3 (fields_one (good := (fun xs : List Int => xs.length ≤ maxLen ∧ ∀ x ∈ xs, (fun n : Int => (Lit.int .u8 n).wf = true) x)) rfl op29))))
theorem op105 : Opens Try.prog 105 k105 G105 := opens_iso _ (fun x => ⟨x.1, x.2.1, x.2.2.1, x.2.2.2⟩) (fun _ => rfl) (fun x h => h) op105t
theorem op62 : Opens Try.prog 62 (Kd.slice 105 k105) (fun xs : List S105 => xs.length ≤ maxLen ∧ ∀ x ∈ xs, G105 x) := opens_slice 105 Try.underlying62 (by kernel_rfl) op105
theorem op64t : Opens Try.prog 64 (Kd.pair (Kd.int .i64) (Kd.slice 105 k105)) (fun x : Int × (List S105) => (fun n : Int => (Lit.int .i64 n).wf = true) x.1 ∧ ((fun xs : List S105 => xs.length ≤ maxLen ∧ ∀ x ∈ xs, G105 x) x.2)) := opens_struct Try.underlying64 (by kernel_rfl) (fields_more (good := (fun n : Int => (Lit.int .i64 n).wf = true)) (good' := (fun xs : List S105 => xs.length ≤ maxLen ∧ ∀ x ∈ xs, G105 x)) rfl op3 (fields_one (good := (fun xs : List S105 => xs.length ≤ maxLen ∧ ∀ x ∈ xs, G105 x)) rfl op62))
theorem op64 : Opens Try.prog 64 k64 G64 := opens_iso _ (fun x => ⟨x.1, x.2⟩) (fun _ => rfl) (fun x h => h) op64t
theorem op22 : Opens Try.prog 22 (Kd.slice 64 k64) (fun xs : List S64 => xs.length ≤ maxLen ∧ ∀ x ∈ xs, G64 x) := opens_slice 64 Try.underlying22 (by kernel_rfl) op64
theorem op4 : Opens Try.prog 4 Kd.bool (fun _ : Bool => True) := opens_bool Try.underlying4 (by kernel_rfl)
theorem op49t : Opens Try.prog 49 (Kd.pair (Kd.int .i64) (Kd.pair (Kd.int .i64) (Kd.pair (Kd.int .i64) (Kd.pair (Kd.int .i64) (Kd.pair (Kd.int .i64) (Kd.pair (Kd.int .i64) (Kd.pair Kd.bool (Kd.pair Kd.bool (Kd.slice 5 (Kd.int .u8)))))))))) (fun x : Int × Int × Int × Int × Int × Int × Bool × Bool × (List Int) => (fun n : Int => (Lit.int .i64 n).wf = true) x.1 ∧ ((fun n : Int => (Lit.int .i64 n).wf = true) x.2.1 ∧ ((fun n : Int => (Lit.int .i64 n).wf = true) x.2.2.1 ∧ ((fun n : Int => (Lit.int .i64 n).wf = true) x.2.2.2.1 ∧ ((fun n : Int => (Lit.int .i64 n).wf = true) x.2.2.2.2.1 ∧ ((fun n : Int => (Lit.int .i64 n).wf = true) x.2.2.2.2.2.1 ∧ ((fun _ : Bool => True) x.2.2.2.2.2.2.1 ∧ ((fun _ : Bool => True) x.2.2.2.2.2.2.2.1 ∧ ((fun xs : List Int => xs.length ≤ maxLen ∧ ∀ x ∈ xs, (fun n : Int => (Lit.int .u8 n).wf = true) x) x.2.2.2.2.2.2.2.2))))))))) := opens_struct Try.underlying49 (by kernel_rfl) (fields_more (good := (fun n : Int => (Lit.int .i64 n).wf = true)) (good' := (fun x : Int × Int × Int × Int × Int × Bool × Bool × (List Int) => (fun n : Int => (Lit.int .i64 n).wf = true) x.1 ∧ ((fun n : Int => (Lit.int .i64 n).wf = true) x.2.1 ∧ ((fun n : Int => (Lit.int .i64 n).wf = true) x.2.2.1 ∧ ((fun n : Int => (Lit.int .i64 n).wf = true) x.2.2.2.1 ∧ ((fun n : Int => (Lit.int .i64 n).wf = true) x.2.2.2.2.1 ∧ ((fun _ : Bool => True) x.2.2.2.2.2.1 ∧ ((fun _ : Bool => True) x.2.2.2.2.2.2.1 ∧ ((fun xs : List Int => xs.length ≤ maxLen ∧ ∀ x ∈ xs, (fun n : Int => (Lit.int .u8 n).wf = true) x) x.2.2.2.2.2.2.2))))))))) rfl op3 (fields_more (good := (fun n : Int => (Lit.int .i64 n).wf = true)) (good' := (fun x : Int × Int × Int × Int × Bool × Bool × (List Int) => (fun n : Int => (Lit.int .i64 n).wf = true) x.1 ∧ ((fun n : Int => (Lit.int .i64 n).wf = true) x.2.1 ∧ ((fun n : Int => (Lit.int .i64 n).wf = true) x.2.2.1 ∧ ((fun n : Int => (Lit.int .i64 n).wf = true) x.2.2.2.1 ∧ ((fun _ : Bool => True) x.2.2.2.2.1 ∧ ((fun _ : Bool => True) x.2.2.2.2.2.1 ∧ ((fun xs : List Int => xs.length ≤ maxLen ∧ ∀ x ∈ xs, (fun n : Int => (Lit.int .u8 n).wf = true) x) x.2.2.2.2.2.2)))))))) rfl op3 (fields_more (good := (fun n : Int => (Lit.int .i64 n).wf = true)) (good' := (fun x : Int × Int × Int × Bool × Bool × (List Int) => (fun n : Int => (Lit.int .i64 n).wf = true) x.1 ∧ ((fun n : Int => (Lit.int .i64 n).wf = true) x.2.1 ∧ ((fun n : Int => (Lit.int .i64 n).wf = true) x.2.2.1 ∧ ((fun _ : Bool => True) x.2.2.2.1 ∧ ((fun _ : Bool => True) x.2.2.2.2.1 ∧ ((fun xs : List Int => xs.length ≤ maxLen ∧ ∀ x ∈ xs, (fun n : Int => (Lit.int .u8 n).wf = true) x) x.2.2.2.2.2))))))) rfl op3 (fields_more (good := (fun n : Int => (Lit.int .i64 n).wf = true)) (good' := (fun x : Int × Int × Bool × Bool × (List Int) => (fun n : Int => (Lit.int .i64 n).wf = true) x.1 ∧ ((fun n : Int => (Lit.int .i64 n).wf = true) x.2.1 ∧ ((fun _ : Bool => True) x.2.2.1 ∧ ((fun _ : Bool => True) x.2.2.2.1 ∧ ((fun xs : List Int => xs.length ≤ maxLen ∧ ∀ x ∈ xs, (fun n : Int => (Lit.int .u8 n).wf = true) x) x.2.2.2.2)))))) rfl op3 (fields_more (good := (fun n : Int => (Lit.int .i64 n).wf = true)) (good' := (fun x : Int × Bool × Bool × (List Int) => (fun n : Int => (Lit.int .i64 n).wf = true) x.1 ∧ ((fun _ : Bool => True) x.2.1 ∧ ((fun _ : Bool => True) x.2.2.1 ∧ ((fun xs : List Int => xs.length ≤ maxLen ∧ ∀ x ∈ xs, (fun n : Int => (Lit.int .u8 n).wf = true) x) x.2.2.2))))) rfl op3 (fields_more (good := (fun n : Int => (Lit.int .i64 n).wf = true)) (good' := (fun x : Bool × Bool × (List Int) => (fun _ : Bool => True) x.1 ∧ ((fun _ : Bool => True) x.2.1 ∧ ((fun xs : List Int => xs.length ≤ maxLen ∧ ∀ x ∈ xs, (fun n : Int => (Lit.int .u8 n).wf = true) x) x.2.2)))) rfl op3 (fields_more (good := (fun _ : Bool => True)) (good' := (fun x : Bool × (List Int) => (fun _ : Bool => True) x.1 ∧ ((fun xs : List Int => xs.length ≤ maxLen ∧ ∀ x ∈ xs, (fun n : Int => (Lit.int .u8 n).wf = true) x) x.2))) rfl op4 (fields_more (good := (fun _ : Bool => True)) (good' := (fun xs : List Int => xs.length ≤ maxLen ∧ ∀ x ∈ xs, (fun n : Int => (Lit.int .u8 n).wf = true) x)) rfl op4 (fields_one (good := (fun xs : List Int => xs.length ≤ maxLen ∧ ∀ x ∈ xs, (fun n : Int => (Lit.int .u8 n).wf = true) x)) rfl op29)))))))))
set_option maxRecDepth 100000 in
set_option maxHeartbeats 1000000 in
theorem lifted (os : Os) (started : os.Started) (H : Type) (enc : TypeId × Value → H) :
    ReturnsInHanded {} Try.checked os 9 .any (Rows.fnExactPortHearSpec.pre6 enc Try.prog Try.f9 Rows.fnExactPortHearRow.domain false) (Rows.fnExactPortHearSpec.post enc Try.prog Try.f9 false true false false) := by
  refine returnsInHanded_of_change_sized (C := Try.checked) own started (by kernel_rfl) Try.func9
    (ChangeSpec.witness6 (enc := enc) (C := Try.checked) false ⟨#[], #[.slice none 0 0, .int .i64 0, .agg #[.int .i64 0, .int .i64 0, .int .i64 0, .int .i64 0, .int .i64 0, .int .i64 0, .bool false, .bool false, .slice none 0 0]], []⟩ 8 (by kernel_rfl) (by kernel_rfl) (by kernel_rfl) (by kernel_rfl)) ?_
  intro W base args ds gs before hval0 hW hcnd hsz0 _
  have hval : ∀ (j : Nat) t v, Try.f9.params[j]? = some t → args[j]? = some v → Value.okWide Try.prog W .any base t v := hval0
  have hW' := hW
  obtain ⟨p, q, hA0, hV, rfl, hfz, hnd⟩ := hW
  have hA : DataW.TrodAll enc Try.prog W 0 (fun _ => true) true Try.f9.params.toList args.toList ds p := hA0
  rw [Try.params9] at hA hval
  obtain ⟨v0, vs0, d0, ds0, p0, q0, hargs, rfl, rfl, h0, r0⟩ := trodAll_cons hA
  obtain ⟨v1, vs1, d1, ds1, p1, q1, rfl, rfl, rfl, h1, r1⟩ := trodAll_cons r0
  obtain ⟨v2, vs2, d2, ds2, p2, q2, rfl, rfl, rfl, h2, r2⟩ := trodAll_cons r1
  obtain ⟨rfl, rfl, rfl⟩ := trodAll_nil r2
  obtain rfl : args = #[v0, v1, v2] := by cases args; simp_all
  obtain ⟨rfl, rfl⟩ := trodVars_none hV
  have k0 := h0
  have lt0 : ∀ x ∈ p0, x.block < W.heap.size := by obtain ⟨m, hm⟩ := k0; exact DataW.trod_lt m _ _ _ hm
  obtain ⟨A0, n0, c0, rfl⟩ := okWide_slice Try.underlying22 (hval 0 22 v0 rfl rfl)
  obtain ⟨l0, x0, g0⟩ : ∃ l, ((Kd.slice 64 k64)).K W l [.slice A0 n0 c0] ∧ (fun xs : List S64 => xs.length ≤ maxLen ∧ ∀ x ∈ xs, G64 x) l := by obtain ⟨fuel, hf⟩ := h0; exact op22.out hf
  obtain ⟨A0', c0', e0, b0, y0⟩ := x0
  injection e0 with e0 _
  injection e0 with e0a e0b e0c
  subst e0a e0b e0c
  obtain ⟨a1, rfl, rfl, rfl, g1⟩ := open_int Try.underlying3 (hval 1 3 v1 rfl rfl) h1
  have k2 := h2
  have lt2 : ∀ x ∈ p2, x.block < W.heap.size := by obtain ⟨m, hm⟩ := k2; exact DataW.trod_lt m _ _ _ hm
  obtain ⟨cs2, rfl, sz2⟩ := okWide_struct Try.underlying49 (hval 2 49 v2 rfl rfl)
  obtain ⟨cs2⟩ := cs2
  obtain ⟨x2, y2, g2⟩ : ∃ x, (Kd.pair (Kd.int .i64) (Kd.pair (Kd.int .i64) (Kd.pair (Kd.int .i64) (Kd.pair (Kd.int .i64) (Kd.pair (Kd.int .i64) (Kd.pair (Kd.int .i64) (Kd.pair Kd.bool (Kd.pair Kd.bool (Kd.slice 5 (Kd.int .u8)))))))))).K W x cs2 ∧ (fun x : Int × Int × Int × Int × Int × Int × Bool × Bool × (List Int) => (fun n : Int => (Lit.int .i64 n).wf = true) x.1 ∧ ((fun n : Int => (Lit.int .i64 n).wf = true) x.2.1 ∧ ((fun n : Int => (Lit.int .i64 n).wf = true) x.2.2.1 ∧ ((fun n : Int => (Lit.int .i64 n).wf = true) x.2.2.2.1 ∧ ((fun n : Int => (Lit.int .i64 n).wf = true) x.2.2.2.2.1 ∧ ((fun n : Int => (Lit.int .i64 n).wf = true) x.2.2.2.2.2.1 ∧ ((fun _ : Bool => True) x.2.2.2.2.2.2.1 ∧ ((fun _ : Bool => True) x.2.2.2.2.2.2.2.1 ∧ ((fun xs : List Int => xs.length ≤ maxLen ∧ ∀ x ∈ xs, (fun n : Int => (Lit.int .u8 n).wf = true) x) x.2.2.2.2.2.2.2.2))))))))) x := by obtain ⟨fuel, hf⟩ := h2; exact op49t.out hf
  obtain ⟨_, _, rfl, rfl, ⟨_, _, rfl, rfl, ⟨_, _, rfl, rfl, ⟨_, _, rfl, rfl, ⟨_, _, rfl, rfl, ⟨_, _, rfl, rfl, ⟨_, _, rfl, rfl, ⟨_, _, rfl, rfl, ⟨A2_8, c2_8, rfl, b2_8, y2_8⟩⟩⟩⟩⟩⟩⟩⟩⟩ := y2
  clear hA0 hval0 hsz0
  obtain ⟨k, hk⟩ := Pure.FnExactPortHear l0 a1 x2.1 x2.2.1 x2.2.2.1 x2.2.2.2.1 x2.2.2.2.2.1 x2.2.2.2.2.2.1 x2.2.2.2.2.2.2.1 x2.2.2.2.2.2.2.2.1 x2.2.2.2.2.2.2.2.2 g0 g1 g2.1 g2.2.1 g2.2.2.1 g2.2.2.2.1 g2.2.2.2.2.1 g2.2.2.2.2.2.1 g2.2.2.2.2.2.2.2.2
  refine (laws_FnExactPortHear.calls (k := k) (A0 := A0) (c0 := c0) (l0 := l0) (hr0 := y0) (hc0 := b0) (a1 := a1) (a2_0 := x2.1) (a2_1 := x2.2.1) (a2_2 := x2.2.2.1) (a2_3 := x2.2.2.2.1) (a2_4 := x2.2.2.2.2.1) (a2_5 := x2.2.2.2.2.2.1) (a2_6 := x2.2.2.2.2.2.2.1) (a2_7 := x2.2.2.2.2.2.2.2.1) (A2_8 := A2_8) (c2_8 := c2_8) (l2_8 := x2.2.2.2.2.2.2.2.2) (hr2_8 := y2_8) (hc2_8 := b2_8) (r := true) (w := W) (h := ⟨hk, rfl⟩)).mono fun e W' ⟨he, bel⟩ => ?_
  subst he
  exact ⟨_, rfl, _, _, _, [], _, [], hW', trodAll_mk1 (shut_bool Try.underlying4 _), (trodAll_cons_mk (Below.trod laid (by kernel_rfl) (of_decide_eq_true (by kernel_rfl)) k0 bel lt0) (trodAll_cons_mk (shut_int Try.underlying3 g1) (trodAll_cons_mk (Below.trod laid (by kernel_rfl) (of_decide_eq_true (by kernel_rfl)) k2 bel lt2) trodAll_mk0))), rfl, bel.frame _, fun h => by cases h⟩
theorem over : Rows.fnExactPortHearRow.holds Try.pinned (OpenSpec.ofChange Rows.fnExactPortHearSpec) :=
  OpenClaim.holds_of_wide 9 Try.f9 rfl rfl rfl rfl rfl rfl rfl ⟨rfl, rfl, rfl, rfl, rfl⟩ rfl rfl rfl rfl rfl (by kernel_rfl) Try.func9 (by kernel_rfl)
    (of_decide_eq_true (by kernel_rfl)) (by unfold Func.isWrapper; first | (rw [if_pos (by decide +kernel)]; kernel_rfl) | (rw [if_neg (by decide +kernel)]; exact ⟨rfl, rfl⟩))
    (fun os started H enc _ => lifted os started H enc)
theorem proved : Rows.FnExactPortHearSaid := over
end Go.Proofs.Ytkkibccnpkbbjaa.fnExactPortHear
namespace Go.Proofs.Ytkkibccnpkbbjaa
/-- The row, under a short name, for the claim. -/
theorem fnExactPortHear_holds : Rows.FnExactPortHearSaid := fnExactPortHear.proved
#print axioms fnExactPortHear_holds
end Go.Proofs.Ytkkibccnpkbbjaa
