/- FnExactClockOk: for every clock or pace the program's answer is the reference's. No conditions. -/
import Derived.Test.YtnnjccecfcppbaaRows
import Derived.Test.YtnnjccecfcppbaaPFnExactClockOkx1
import Derived.WalkKit
import Derived.ProofKit
import Derived.OpenShut
import Derived.ShutString
import Derived.ChangeOld
import Derived.Below
import Derived.Carry
import Derived.SizedLaws
import Derived.Lib.SmallJoins
namespace Go.Proofs.Ytnnjccecfcppbaa.fnExactClockOk
open Go.ChangeShapes Go.WideShapes Go.ChangeAt Go.RowKit Go.Joins Go.Proofs.Ytnnjccecfcppbaa.PFnExactClockOk
set_option linter.unusedVariables false
theorem in_same (a b c : Int) : impl_in.f a b c = spec_l1In.f a b c := rfl
theorem pure (a b c : Int) : laws_FnExactClockOk.f a b c = some true := by
  have hb : ∀ x y z : Int, ∃ t, spec_l1In.f x y z = some t := by
    intro x y z; unfold spec_l1In.f; split <;> exact ⟨_, rfl⟩
  have hs : impl_ClockOk.f a b c = spec_ClockOk.f a b c := rfl
  have he : ∃ t, spec_ClockOk.f a b c = some t := by
    unfold spec_ClockOk.f
    obtain ⟨t0, h0⟩ := hb a 0 80000
    obtain ⟨t1, h1⟩ := hb b 0 80000
    obtain ⟨t2, h2⟩ := hb c 4 200
    rw [h0, h1, h2]
    cases t0 <;> cases t1 <;> exact ⟨_, rfl⟩
  obtain ⟨t, ht⟩ := he
  simp [laws_FnExactClockOk.f, laws_toClock.f, hs, ht]
theorem own : ownKnob Try.prog.godebug = none := by kernel_rfl
theorem laid : laidOutB Try.prog = true := by kernel_rfl
theorem cells29 : Try.prog.cellsOf 29 = 3 := by kernel_rfl
set_option maxRecDepth 100000 in
theorem lifted (os : Os) (started : os.Started) (H : Type) (enc : TypeId × Value → H) :
    ReturnsInHanded {} Try.checked os 6 .any (Rows.fnExactClockOkSpec.pre6 enc Try.prog Try.f6 Rows.fnExactClockOkRow.domain false) (Rows.fnExactClockOkSpec.post enc Try.prog Try.f6 false true false false) := by
  refine returnsInHanded_of_change_sized (C := Try.checked) own started (by kernel_rfl) Try.func6
    (ChangeSpec.witness6 (enc := enc) (C := Try.checked) false ⟨#[], #[.agg #[.int .i64 0, .int .i64 0, .int .i64 0]], []⟩ 8 (by kernel_rfl) (by kernel_rfl) (by kernel_rfl) (by kernel_rfl)) ?_
  intro W base args ds gs before hval0 hW hcnd hsz0 _
  have hval : ∀ (j : Nat) t v, Try.f6.params[j]? = some t → args[j]? = some v → Value.okWide Try.prog W .any base t v := hval0
  have hW' := hW
  obtain ⟨p, q, hA0, hV, rfl, hfz, hnd⟩ := hW
  have hA : DataW.TrodAll enc Try.prog W 0 (fun _ => true) true Try.f6.params.toList args.toList ds p := hA0
  rw [Try.params6] at hA hval
  obtain ⟨v0, vs0, d0, ds0, p0, q0, hargs, rfl, rfl, h0, r0⟩ := trodAll_cons hA
  obtain ⟨rfl, rfl, rfl⟩ := trodAll_nil r0
  obtain rfl : args = #[v0] := by cases args; simp_all
  obtain ⟨rfl, rfl⟩ := trodVars_none hV
  have hlt : ∀ x ∈ p0, x.block < W.heap.size := fun x hx => by simpa using hW'.lt x (by simp [hx])
  have h0k := h0
  obtain ⟨c0, c1, c2, y0, y1, y2, m, hv0, hd0, hp0, hy0, hy1, hy2⟩ := open_agg3 Try.underlying29 (by kernel_rfl) cells29 (hval 0 29 v0 rfl rfl) h0
  obtain ⟨a0, e0, _, w0⟩ := DataW.trod_int Try.underlying3 hy0
  obtain ⟨a1, e1, _, w1⟩ := DataW.trod_int Try.underlying3 hy1
  obtain ⟨a2, e2, _, w2⟩ := DataW.trod_int Try.underlying3 hy2
  simp at e0 e1 e2
  subst e0 e1 e2 hv0
  clear hA0 hval0 hsz0 hd0 hp0 hy0 hy1 hy2 h0
  refine (laws_FnExactClockOk.calls a0 a1 a2 true W (pure a0 a1 a2)).mono fun e W' ⟨he, bel⟩ => ?_
  subst he
  exact ⟨_, rfl, _, _, _, [], _, [], hW', trodAll_mk1 (shut_bool Try.underlying4 _), (trodAll_cons_mk (Below.trod laid (by kernel_rfl) (of_decide_eq_true (by kernel_rfl)) h0k bel hlt) trodAll_mk0), rfl, bel.frame _, fun h => by cases h⟩
theorem over : Rows.fnExactClockOkRow.holds Try.pinned (OpenSpec.ofChange Rows.fnExactClockOkSpec) :=
  OpenClaim.holds_of_wide 6 Try.f6 rfl rfl rfl rfl rfl rfl rfl ⟨rfl, rfl, rfl, rfl, rfl⟩ rfl rfl rfl rfl rfl (by kernel_rfl) Try.func6 (by kernel_rfl)
    (of_decide_eq_true (by kernel_rfl)) (by unfold Func.isWrapper; first | (rw [if_pos (by decide +kernel)]; kernel_rfl) | (rw [if_neg (by decide +kernel)]; exact ⟨rfl, rfl⟩))
    (fun os started H enc _ => lifted os started H enc)
end Go.Proofs.Ytnnjccecfcppbaa.fnExactClockOk
namespace Go.Proofs.Ytnnjccecfcppbaa
/-- The row, under a short name, for the claim. -/
theorem fnExactClockOk_holds : Rows.FnExactClockOkSaid := fnExactClockOk.over
#print axioms fnExactClockOk_holds
end Go.Proofs.Ytnnjccecfcppbaa
