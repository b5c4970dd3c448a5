/- The row of the law FnExactPathRoom: for every input that can be read the call returns true, and the input reads as it did. No conditions. -/
import Derived.Test.YtdclgfdkomoedaaRows
import Derived.Test.YtdclgfdkomoedaaVOpens
import Derived.Test.YtdclgfdkomoedaaGFnExactPathRoom
import Derived.Test.YtdclgfdkomoedaaPureFnExactPathRoom
import Derived.WalkKit
import Derived.ProofKit
import Derived.OpenShut
import Derived.ShutString
import Derived.ChangeOld
import Derived.Below
import Derived.Carry
import Derived.SizedLaws
namespace Go.Proofs.Ytdclgfdkomoedaa.fnExactPathRoom
open Go.ChangeShapes Go.WideShapes Go.ChangeAt Go.RowKit Go.Proofs.YtdclgfdkomoedaaVO Go.Proofs.Ytdclgfdkomoedaa.MFnExactPathRoom Go.Proofs.Ytdclgfdkomoedaa.GFnExactPathRoom Go.Proofs.YtdclgfdkomoedaaV.PrintWords
set_option linter.unusedVariables false
theorem own : ownKnob Try.prog.godebug = none := by kernel_rfl
theorem laid : laidOutB Try.prog = true := by kernel_rfl
theorem op3 : Opens Try.prog 3 (Kd.int .i64) (fun n : Int => (Lit.int .i64 n).wf = true) := opens_int Try.underlying3 (by kernel_rfl)
theorem op161t : Opens Try.prog 161 (Kd.pair (Kd.int .i64) (Kd.pair (Kd.int .i64) (Kd.pair (Kd.int .i64) (Kd.int .i64)))) (fun x : Int × Int × Int × Int => (fun n : Int => (Lit.int .i64 n).wf = true) x.1 ∧ ((fun n : Int => (Lit.int .i64 n).wf = true) x.2.1 ∧ ((fun n : Int => (Lit.int .i64 n).wf = true) x.2.2.1 ∧ ((fun n : Int => (Lit.int .i64 n).wf = true) x.2.2.2)))) := opens_struct Try.underlying161 (by kernel_rfl) (fields_more (good := (fun n : Int => (Lit.int .i64 n).wf = true)) (good' := (fun x : Int × Int × Int => (fun n : Int => (Lit.int .i64 n).wf = true) x.1 ∧ ((fun n : Int => (Lit.int .i64 n).wf = true) x.2.1 ∧ ((fun n : Int => (Lit.int .i64 n).wf = true) x.2.2)))) rfl op3 (fields_more (good := (fun n : Int => (Lit.int .i64 n).wf = true)) (good' := (fun x : Int × Int => (fun n : Int => (Lit.int .i64 n).wf = true) x.1 ∧ ((fun n : Int => (Lit.int .i64 n).wf = true) x.2))) rfl op3 (fields_more (good := (fun n : Int => (Lit.int .i64 n).wf = true)) (good' := (fun n : Int => (Lit.int .i64 n).wf = true)) rfl op3 (fields_one (good := (fun n : Int => (Lit.int .i64 n).wf = true)) rfl op3))))
theorem op161 : Opens Try.prog 161 k161 G161 := opens_iso _ (fun x => ⟨x.1, x.2.1, x.2.2.1, x.2.2.2⟩) (fun _ => rfl) (fun x h => h) op161t
theorem op87 : Opens Try.prog 87 (Kd.slice 161 k161) (fun xs : List S161 => xs.length ≤ maxLen ∧ ∀ x ∈ xs, G161 x) := opens_slice 161 Try.underlying87 (by kernel_rfl) op161
theorem op89t : Opens Try.prog 89 (Kd.pair (Kd.int .i64) (Kd.slice 161 k161)) (fun x : Int × (List S161) => (fun n : Int => (Lit.int .i64 n).wf = true) x.1 ∧ ((fun xs : List S161 => xs.length ≤ maxLen ∧ ∀ x ∈ xs, G161 x) x.2)) := opens_struct Try.underlying89 (by kernel_rfl) (fields_more (good := (fun n : Int => (Lit.int .i64 n).wf = true)) (good' := (fun xs : List S161 => xs.length ≤ maxLen ∧ ∀ x ∈ xs, G161 x)) rfl op3 (fields_one (good := (fun xs : List S161 => xs.length ≤ maxLen ∧ ∀ x ∈ xs, G161 x)) rfl op87))
theorem op89 : Opens Try.prog 89 k89 G89 := opens_iso _ (fun x => ⟨x.1, x.2⟩) (fun _ => rfl) (fun x h => h) op89t
theorem op41 : Opens Try.prog 41 (Kd.slice 89 k89) (fun xs : List S89 => xs.length ≤ maxLen ∧ ∀ x ∈ xs, G89 x) := opens_slice 89 Try.underlying41 (by kernel_rfl) op89
set_option maxRecDepth 100000 in
set_option maxHeartbeats 1000000 in
theorem lifted (os : Os) (started : os.Started) (H : Type) (enc : TypeId × Value → H) :
    ReturnsInHanded {} Try.checked os 5 .any (Rows.fnExactPathRoomSpec.pre6 enc Try.prog Try.f5 Rows.fnExactPathRoomRow.domain false) (Rows.fnExactPathRoomSpec.post enc Try.prog Try.f5 false true false false) := by
  refine returnsInHanded_of_change_sized (C := Try.checked) own started (by kernel_rfl) Try.func5
    (ChangeSpec.witness6 (enc := enc) (C := Try.checked) false ⟨#[], #[.slice none 0 0, .int .i64 0, .int .i64 0], []⟩ 8 (by kernel_rfl) (by kernel_rfl) (by kernel_rfl) (by kernel_rfl)) ?_
  intro W base args ds gs before hval0 hW hcnd hsz0 _
  have hval : ∀ (j : Nat) t v, Try.f5.params[j]? = some t → args[j]? = some v → Value.okWide Try.prog W .any base t v := hval0
  have hW' := hW
  obtain ⟨p, q, hA0, hV, rfl, hfz, hnd⟩ := hW
  have hA : DataW.TrodAll enc Try.prog W 0 (fun _ => true) true Try.f5.params.toList args.toList ds p := hA0
  rw [Try.params5] at hA hval
  obtain ⟨v0, vs0, d0, ds0, p0, q0, hargs, rfl, rfl, h0, r0⟩ := trodAll_cons hA
  obtain ⟨v1, vs1, d1, ds1, p1, q1, rfl, rfl, rfl, h1, r1⟩ := trodAll_cons r0
  obtain ⟨v2, vs2, d2, ds2, p2, q2, rfl, rfl, rfl, h2, r2⟩ := trodAll_cons r1
  obtain ⟨rfl, rfl, rfl⟩ := trodAll_nil r2
  obtain rfl : args = #[v0, v1, v2] := by cases args; simp_all
  obtain ⟨rfl, rfl⟩ := trodVars_none hV
  have k0 := h0
  have lt0 : ∀ x ∈ p0, x.block < W.heap.size := by obtain ⟨m, hm⟩ := k0; exact DataW.trod_lt m _ _ _ hm
  obtain ⟨A0, n0, c0, rfl⟩ := okWide_slice Try.underlying41 (hval 0 41 v0 rfl rfl)
  obtain ⟨l0, x0, g0⟩ : ∃ l, ((Kd.slice 89 k89)).K W l [.slice A0 n0 c0] ∧ (fun xs : List S89 => xs.length ≤ maxLen ∧ ∀ x ∈ xs, G89 x) l := by obtain ⟨fuel, hf⟩ := h0; exact op41.out hf
  obtain ⟨A0', c0', e0, b0, y0⟩ := x0
  injection e0 with e0 _
  injection e0 with e0a e0b e0c
  subst e0a e0b e0c
  obtain ⟨a1, rfl, rfl, rfl, g1⟩ := open_int Try.underlying3 (hval 1 3 v1 rfl rfl) h1
  obtain ⟨a2, rfl, rfl, rfl, g2⟩ := open_int Try.underlying3 (hval 2 3 v2 rfl rfl) h2
  clear hA0 hval0 hsz0
  obtain ⟨k, hk⟩ := Pure.FnExactPathRoom l0 a1 a2 g0 g1 g2
  refine (laws_FnExactPathRoom.calls (k := k) (A0 := A0) (c0 := c0) (l0 := l0) (hr0 := y0) (hc0 := b0) (a1 := a1) (a2 := a2) (r := true) (w := W) (h := hk)).mono fun e W' ⟨he, bel⟩ => ?_
  subst he
  exact ⟨_, rfl, _, _, _, [], _, [], hW', trodAll_mk1 (shut_bool Try.underlying4 _), (trodAll_cons_mk (Below.trod laid (by kernel_rfl) (of_decide_eq_true (by kernel_rfl)) k0 bel lt0) (trodAll_cons_mk (shut_int Try.underlying3 g1) (trodAll_cons_mk (shut_int Try.underlying3 g2) trodAll_mk0))), rfl, bel.frame _, fun h => by cases h⟩
theorem over : Rows.fnExactPathRoomRow.holds Try.pinned (OpenSpec.ofChange Rows.fnExactPathRoomSpec) :=
  OpenClaim.holds_of_wide 5 Try.f5 rfl rfl rfl rfl rfl rfl rfl ⟨rfl, rfl, rfl, rfl, rfl⟩ rfl rfl rfl rfl rfl (by kernel_rfl) Try.func5 (by kernel_rfl)
    (of_decide_eq_true (by kernel_rfl)) (by unfold Func.isWrapper; first | (rw [if_pos (by decide +kernel)]; kernel_rfl) | (rw [if_neg (by decide +kernel)]; exact ⟨rfl, rfl⟩))
    (fun os started H enc _ => lifted os started H enc)
theorem proved : Rows.FnExactPathRoomSaid := over
end Go.Proofs.Ytdclgfdkomoedaa.fnExactPathRoom
namespace Go.Proofs.Ytdclgfdkomoedaa
/-- The row, under a short name, for the claim. -/
theorem fnExactPathRoom_holds : Rows.FnExactPathRoomSaid := fnExactPathRoom.proved
#print axioms fnExactPathRoom_holds
end Go.Proofs.Ytdclgfdkomoedaa
