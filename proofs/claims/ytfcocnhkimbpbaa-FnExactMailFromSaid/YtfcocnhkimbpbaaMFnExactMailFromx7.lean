/- Functions that the law FnExactMailFrom reaches, each with the proof that the machine's call comes to just its answer; no conditions but those that each theorem states. Printed by a program of this session over the kit's print. -/
import Derived.Test.YtfcocnhkimbpbaaMFnExactMailFromx0
import Derived.Test.YtfcocnhkimbpbaaMFnExactMailFromx1
import Derived.Test.YtfcocnhkimbpbaaMFnExactMailFromx3
import Derived.Test.YtfcocnhkimbpbaaMFnExactMailFromx5
import Derived.Test.YtfcocnhkimbpbaaMFnExactMailFromx6
namespace Go.Proofs.Ytfcocnhkimbpbaa.MFnExactMailFrom
open Go.RowKit Go.Proofs.YtfcocnhkimbpbaaV.PrintWords Go.Proofs.YtfcocnhkimbpbaaV.PrintLast Go.Proofs.YtfcocnhkimbpbaaV.PrintMore
attribute [local go_sem] max2_int min2_int max_two min_two max_three min_three max_four min_four   -- for this text's walks alone
set_option linter.unusedVariables false
set_option linter.unusedSimpArgs false

/-! ### laws_FnExactMailFrom: function 5 -/
mutual
def laws_FnExactMailFrom.j0 : Nat → Int → Int → List Int → Bool → List Int → Bool → Bool → Int → Int → Int → List Int → Int → Int → Int → List Int → Option (Bool)
 | 0, _, _, _, _, _, _, _, _, _, _, _, _, _, _, _ => none
 | k + 1, x0, x1, x2, x8, x9, x11, x45, x246000, x246001, x246002, x246003, x257000, x257001, x257002, x257003 => if x45 = true then (some false) else ((laws_toByteS.f k x2).bind fun t258 => ((laws_eqByteS.f k x9 t258).bind fun t261 => (if t261 = true then ((laws_markByteS.f k x9 1).bind fun bt262 => (if bt262.1 < 0 then (laws_FnExactMailFrom.j1 k x0 x1 x2 x8 true x246000 x246001 x246002 x246003 x257000 x257001 x257002 x257003) else ((laws_eqMail.f k x257000 x257001 x257002 x257003 x246000 x246001 x246002 x246003).bind fun t264 => (if t264 = true then (laws_FnExactMailFrom.j1 k x0 x1 x2 x8 (x11 != x8) x246000 x246001 x246002 x246003 x257000 x257001 x257002 x257003) else (laws_FnExactMailFrom.j1 k x0 x1 x2 x8 true x246000 x246001 x246002 x246003 x257000 x257001 x257002 x257003))))) else (some false))))
def laws_FnExactMailFrom.j1 : Nat → Int → Int → List Int → Bool → Bool → Int → Int → Int → List Int → Int → Int → Int → List Int → Option (Bool)
 | 0, _, _, _, _, _, _, _, _, _, _, _, _, _ => none
 | k + 1, x0, x1, x2, x8, x66, x246000, x246001, x246002, x246003, x257000, x257001, x257002, x257003 => if x66 = true then (some false) else ((laws_markMail.f k x257000 x257001 x257002 x257003 1).bind fun bt265 => ((laws_heldMail.f k x257000 x257001 x257002 bt265.2 1).bind fun t267 => (if t267 < 0 then (some false) else (if t267 = bt265.1 then ((laws_toByteS.f k x2).bind fun t268 => ((impl_MailFrom.f k x0 x1 t268).bind fun bt271 => ((laws_eqMail.f k bt271.1 bt271.2.1 bt271.2.2.1 bt271.2.2.2.1 x246000 x246001 x246002 x246003).bind fun t279 => (if t279 = true then (laws_FnExactMailFrom.j2 k bt265.1 (bt271.2.2.2.2 != x8) x257000 x257001 x257002 bt265.2) else (laws_FnExactMailFrom.j2 k bt265.1 true x257000 x257001 x257002 bt265.2))))) else (some false)))))
def laws_FnExactMailFrom.j2 : Nat → Int → Bool → Int → Int → Int → List Int → Option (Bool)
 | 0, _, _, _, _, _, _ => none
 | k + 1, x13, x94, x257000, x257001, x257002, x257003 => if x94 = true then (some false) else ((laws_heldMail.f k x257000 x257001 x257002 x257003 1).bind fun t280 => (if t280 < 0 then (some false) else (if t280 = x13 then (some true) else (some false))))
end
def laws_FnExactMailFrom.f (k : Nat) (a0 : Int) (a1 : Int) (l2 : List Int) : Option (Bool) := if (l2.length : Int) > 1048576 then (some true) else ((laws_toByteS.f k l2).bind fun t235 => ((spec_MailFrom.f k a0 a1 t235).bind fun bt238 => ((laws_toByteS.f k l2).bind fun t246 => ((impl_MailFrom.f k a0 a1 t246).bind fun bt249 => ((laws_eqMail.f k bt249.1 bt249.2.1 bt249.2.2.1 bt249.2.2.2.1 bt238.1 bt238.2.1 bt238.2.2.1 bt238.2.2.2.1).bind fun t257 => (if t257 = true then (laws_FnExactMailFrom.j0 k a0 a1 l2 bt238.2.2.2.2 t246 bt249.2.2.2.2 (bt249.2.2.2.2 != bt238.2.2.2.2) bt238.1 bt238.2.1 bt238.2.2.1 bt238.2.2.2.1 bt249.1 bt249.2.1 bt249.2.2.1 bt249.2.2.2.1) else (laws_FnExactMailFrom.j0 k a0 a1 l2 bt238.2.2.2.2 t246 bt249.2.2.2.2 true bt238.1 bt238.2.1 bt238.2.2.1 bt238.2.2.2.1 bt249.1 bt249.2.1 bt249.2.2.1 bt249.2.2.2.1)))))))
theorem laws_FnExactMailFrom.mono_l : ∀ k, (∀ y0 y1 y2 y3 y4 y5 y6 y7 y8 y9 y10 y11 y12 y13 y14, LeO (laws_FnExactMailFrom.j0 k y0 y1 y2 y3 y4 y5 y6 y7 y8 y9 y10 y11 y12 y13 y14) (laws_FnExactMailFrom.j0 (k + 1) y0 y1 y2 y3 y4 y5 y6 y7 y8 y9 y10 y11 y12 y13 y14)) ∧ (∀ y0 y1 y2 y3 y4 y5 y6 y7 y8 y9 y10 y11 y12, LeO (laws_FnExactMailFrom.j1 k y0 y1 y2 y3 y4 y5 y6 y7 y8 y9 y10 y11 y12) (laws_FnExactMailFrom.j1 (k + 1) y0 y1 y2 y3 y4 y5 y6 y7 y8 y9 y10 y11 y12)) ∧ (∀ y0 y1 y2 y3 y4 y5, LeO (laws_FnExactMailFrom.j2 k y0 y1 y2 y3 y4 y5) (laws_FnExactMailFrom.j2 (k + 1) y0 y1 y2 y3 y4 y5))
 | 0 => ⟨fun _ _ _ _ _ _ _ _ _ _ _ _ _ _ _ r h => by simp [laws_FnExactMailFrom.j0] at h, fun _ _ _ _ _ _ _ _ _ _ _ _ _ r h => by simp [laws_FnExactMailFrom.j1] at h, fun _ _ _ _ _ _ r h => by simp [laws_FnExactMailFrom.j2] at h⟩
 | k + 1 => by
  obtain ⟨ih0, ih1, ih2⟩ := laws_FnExactMailFrom.mono_l k
  refine ⟨?_, ?_, ?_⟩
  ·intro y0 y1 y2 y3 y4 y5 y6 y7 y8 y9 y10 y11 y12 y13 y14
   unfold laws_FnExactMailFrom.j0
   repeat' first
   | (with_reducible exact ih0 _ _ _ _ _ _ _ _ _ _ _ _ _ _ _)
   | (with_reducible exact ih1 _ _ _ _ _ _ _ _ _ _ _ _ _)
   | (with_reducible exact ih2 _ _ _ _ _ _)
   | (with_reducible exact impl_MailFrom.mono _ _ _ _)
   | (with_reducible exact laws_eqByteS.mono _ _ _)
   | (with_reducible exact laws_eqMail.mono _ _ _ _ _ _ _ _ _)
   | (with_reducible exact laws_heldMail.mono _ _ _ _ _ _)
   | (with_reducible exact laws_markByteS.mono _ _ _)
   | (with_reducible exact laws_markMail.mono _ _ _ _ _ _)
   | (with_reducible exact laws_toByteS.mono _ _)
   | (with_reducible exact spec_MailFrom.mono _ _ _ _)
   | (with_reducible exact LeO.refl _)
   | (with_reducible exact LeO.none _)
   | (with_reducible refine LeO.ite ?_ ?_)
   | (with_reducible refine LeO.bind ?_ (fun _ => ?_))
   | exact ih0 _ _ _ _ _ _ _ _ _ _ _ _ _ _ _
   | exact ih1 _ _ _ _ _ _ _ _ _ _ _ _ _
   | exact ih2 _ _ _ _ _ _
   | exact impl_MailFrom.mono _ _ _ _
   | exact laws_eqByteS.mono _ _ _
   | exact laws_eqMail.mono _ _ _ _ _ _ _ _ _
   | exact laws_heldMail.mono _ _ _ _ _ _
   | exact laws_markByteS.mono _ _ _
   | exact laws_markMail.mono _ _ _ _ _ _
   | exact laws_toByteS.mono _ _
   | exact spec_MailFrom.mono _ _ _ _
   | exact LeO.none _
   | refine LeO.ite ?_ ?_
   | refine LeO.bind ?_ (fun _ => ?_)
  ·intro y0 y1 y2 y3 y4 y5 y6 y7 y8 y9 y10 y11 y12
   unfold laws_FnExactMailFrom.j1
   repeat' first
   | (with_reducible exact ih0 _ _ _ _ _ _ _ _ _ _ _ _ _ _ _)
   | (with_reducible exact ih1 _ _ _ _ _ _ _ _ _ _ _ _ _)
   | (with_reducible exact ih2 _ _ _ _ _ _)
   | (with_reducible exact impl_MailFrom.mono _ _ _ _)
   | (with_reducible exact laws_eqByteS.mono _ _ _)
   | (with_reducible exact laws_eqMail.mono _ _ _ _ _ _ _ _ _)
   | (with_reducible exact laws_heldMail.mono _ _ _ _ _ _)
   | (with_reducible exact laws_markByteS.mono _ _ _)
   | (with_reducible exact laws_markMail.mono _ _ _ _ _ _)
   | (with_reducible exact laws_toByteS.mono _ _)
   | (with_reducible exact spec_MailFrom.mono _ _ _ _)
   | (with_reducible exact LeO.refl _)
   | (with_reducible exact LeO.none _)
   | (with_reducible refine LeO.ite ?_ ?_)
   | (with_reducible refine LeO.bind ?_ (fun _ => ?_))
   | exact ih0 _ _ _ _ _ _ _ _ _ _ _ _ _ _ _
   | exact ih1 _ _ _ _ _ _ _ _ _ _ _ _ _
   | exact ih2 _ _ _ _ _ _
   | exact impl_MailFrom.mono _ _ _ _
   | exact laws_eqByteS.mono _ _ _
   | exact laws_eqMail.mono _ _ _ _ _ _ _ _ _
   | exact laws_heldMail.mono _ _ _ _ _ _
   | exact laws_markByteS.mono _ _ _
   | exact laws_markMail.mono _ _ _ _ _ _
   | exact laws_toByteS.mono _ _
   | exact spec_MailFrom.mono _ _ _ _
   | exact LeO.none _
   | refine LeO.ite ?_ ?_
   | refine LeO.bind ?_ (fun _ => ?_)
  ·intro y0 y1 y2 y3 y4 y5
   unfold laws_FnExactMailFrom.j2
   repeat' first
   | (with_reducible exact ih0 _ _ _ _ _ _ _ _ _ _ _ _ _ _ _)
   | (with_reducible exact ih1 _ _ _ _ _ _ _ _ _ _ _ _ _)
   | (with_reducible exact ih2 _ _ _ _ _ _)
   | (with_reducible exact impl_MailFrom.mono _ _ _ _)
   | (with_reducible exact laws_eqByteS.mono _ _ _)
   | (with_reducible exact laws_eqMail.mono _ _ _ _ _ _ _ _ _)
   | (with_reducible exact laws_heldMail.mono _ _ _ _ _ _)
   | (with_reducible exact laws_markByteS.mono _ _ _)
   | (with_reducible exact laws_markMail.mono _ _ _ _ _ _)
   | (with_reducible exact laws_toByteS.mono _ _)
   | (with_reducible exact spec_MailFrom.mono _ _ _ _)
   | (with_reducible exact LeO.refl _)
   | (with_reducible exact LeO.none _)
   | (with_reducible refine LeO.ite ?_ ?_)
   | (with_reducible refine LeO.bind ?_ (fun _ => ?_))
   | exact ih0 _ _ _ _ _ _ _ _ _ _ _ _ _ _ _
   | exact ih1 _ _ _ _ _ _ _ _ _ _ _ _ _
   | exact ih2 _ _ _ _ _ _
   | exact impl_MailFrom.mono _ _ _ _
   | exact laws_eqByteS.mono _ _ _
   | exact laws_eqMail.mono _ _ _ _ _ _ _ _ _
   | exact laws_heldMail.mono _ _ _ _ _ _
   | exact laws_markByteS.mono _ _ _
   | exact laws_markMail.mono _ _ _ _ _ _
   | exact laws_toByteS.mono _ _
   | exact spec_MailFrom.mono _ _ _ _
   | exact LeO.none _
   | refine LeO.ite ?_ ?_
   | refine LeO.bind ?_ (fun _ => ?_)
theorem laws_FnExactMailFrom.mono : ∀ a0 a1 a2 k, LeO (laws_FnExactMailFrom.f k a0 a1 a2) (laws_FnExactMailFrom.f (k + 1) a0 a1 a2) := by
 intro a0 a1 a2 k
 obtain ⟨ih0, ih1, ih2⟩ := laws_FnExactMailFrom.mono_l k
 unfold laws_FnExactMailFrom.f
 repeat' first
   | (with_reducible exact ih0 _ _ _ _ _ _ _ _ _ _ _ _ _ _ _)
   | (with_reducible exact ih1 _ _ _ _ _ _ _ _ _ _ _ _ _)
   | (with_reducible exact ih2 _ _ _ _ _ _)
   | (with_reducible exact impl_MailFrom.mono _ _ _ _)
   | (with_reducible exact laws_eqByteS.mono _ _ _)
   | (with_reducible exact laws_eqMail.mono _ _ _ _ _ _ _ _ _)
   | (with_reducible exact laws_heldMail.mono _ _ _ _ _ _)
   | (with_reducible exact laws_markByteS.mono _ _ _)
   | (with_reducible exact laws_markMail.mono _ _ _ _ _ _)
   | (with_reducible exact laws_toByteS.mono _ _)
   | (with_reducible exact spec_MailFrom.mono _ _ _ _)
   | (with_reducible exact LeO.refl _)
   | (with_reducible exact LeO.none _)
   | (with_reducible refine LeO.ite ?_ ?_)
   | (with_reducible refine LeO.bind ?_ (fun _ => ?_))
   | exact ih0 _ _ _ _ _ _ _ _ _ _ _ _ _ _ _
   | exact ih1 _ _ _ _ _ _ _ _ _ _ _ _ _
   | exact ih2 _ _ _ _ _ _
   | exact impl_MailFrom.mono _ _ _ _
   | exact laws_eqByteS.mono _ _ _
   | exact laws_eqMail.mono _ _ _ _ _ _ _ _ _
   | exact laws_heldMail.mono _ _ _ _ _ _
   | exact laws_markByteS.mono _ _ _
   | exact laws_markMail.mono _ _ _ _ _ _
   | exact laws_toByteS.mono _ _
   | exact spec_MailFrom.mono _ _ _ _
   | exact LeO.none _
   | refine LeO.ite ?_ ?_
   | refine LeO.bind ?_ (fun _ => ?_)
set_option maxHeartbeats 8000000 in
set_option maxRecDepth 100000 in
theorem laws_FnExactMailFrom.calls (k : Nat) (a0 : Int) (a1 : Int) (A2 : Option Addr) (c2 : Nat) (l2 : List Int) (r : Bool) (w : World) (hr2 : Kd.C (Kd.int .u8) w A2 l2.length l2) (hc2 : l2.length ≤ c2) (h : laws_FnExactMailFrom.f k a0 a1 l2 = some r) :
  Calls Try.prog 5 #[.int .i64 a0, .int .i64 a1, .slice A2 l2.length c2] w fun e w' => e = .returned (.bool r) ∧ Below w.heap.size w w' := by
 have hu27 := Try.underlying27
 have HR2 := mk_ hr2
 have HC2 := mk_ hc2
 clear hr2 hc2
 have HB := mk_ (Below.refl w.heap.size w)
 have H : (if (l2.length : Int) > 1048576 then (some true) else ((laws_toByteS.f k l2).bind fun t235 => ((spec_MailFrom.f k a0 a1 t235).bind fun bt238 => ((laws_toByteS.f k l2).bind fun t246 => ((impl_MailFrom.f k a0 a1 t246).bind fun bt249 => ((laws_eqMail.f k bt249.1 bt249.2.1 bt249.2.2.1 bt249.2.2.2.1 bt238.1 bt238.2.1 bt238.2.2.1 bt238.2.2.2.1).bind fun t257 => (if t257 = true then (laws_FnExactMailFrom.j0 k a0 a1 l2 bt238.2.2.2.2 t246 bt249.2.2.2.2 (bt249.2.2.2.2 != bt238.2.2.2.2) bt238.1 bt238.2.1 bt238.2.2.1 bt238.2.2.2.1 bt249.1 bt249.2.1 bt249.2.2.1 bt249.2.2.2.1) else (laws_FnExactMailFrom.j0 k a0 a1 l2 bt238.2.2.2.2 t246 bt249.2.2.2.2 true bt238.1 bt238.2.1 bt238.2.2.1 bt238.2.2.2.1 bt249.1 bt249.2.1 bt249.2.2.1 bt249.2.2.2.1)))))))) = some r := h
 clear h
 by_cases c4 : (l2.length : Int) > 1048576
 ·rw [if_pos c4] at H
  have c4b0 : decide (1048576 < (l2.length : Int)) = true := decide_eq_true c4
  have c4b1 : decide (1048576 < l2.length) = true := decide_eq_true (by omega)
  clear c4
  obtain rfl := Option.some.inj H
  go_enter Try.func5, Try.ntmps5
  go_wp2
  go_ret
  exact ⟨by first | rfl | (simp [errW_none, errW_some] <;> rfl) | (simp [*, errW_none, errW_some] <;> rfl), by repeat (first | (with_reducible first | exact HB.out | apply na_ | apply nn_ | apply nw_) | exact HB.out)⟩
 rw [if_neg c4] at H
 have c4b0 : decide (1048576 < (l2.length : Int)) = false := decide_eq_false c4
 have c4b1 : decide (1048576 < l2.length) = false := decide_eq_false (by omega)
 clear c4
 replace H := Option.bind_eq_some_iff.mp H
 obtain ⟨t235, A50, H⟩ := H
 replace H : ((spec_MailFrom.f k a0 a1 t235).bind fun bt238 => ((laws_toByteS.f k l2).bind fun t246 => ((impl_MailFrom.f k a0 a1 t246).bind fun bt249 => ((laws_eqMail.f k bt249.1 bt249.2.1 bt249.2.2.1 bt249.2.2.2.1 bt238.1 bt238.2.1 bt238.2.2.1 bt238.2.2.2.1).bind fun t257 => (if t257 = true then (laws_FnExactMailFrom.j0 k a0 a1 l2 bt238.2.2.2.2 t246 bt249.2.2.2.2 (bt249.2.2.2.2 != bt238.2.2.2.2) bt238.1 bt238.2.1 bt238.2.2.1 bt238.2.2.2.1 bt249.1 bt249.2.1 bt249.2.2.1 bt249.2.2.2.1) else (laws_FnExactMailFrom.j0 k a0 a1 l2 bt238.2.2.2.2 t246 bt249.2.2.2.2 true bt238.1 bt238.2.1 bt238.2.2.1 bt238.2.2.2.1 bt249.1 bt249.2.1 bt249.2.2.1 bt249.2.2.2.1)))))) = some r := H
 have A5 := mk_ A50
 clear A50
 replace H := Option.bind_eq_some_iff.mp H
 obtain ⟨⟨t238, t239, t240, t241, t244⟩, A60, H⟩ := H
 replace H : ((laws_toByteS.f k l2).bind fun t246 => ((impl_MailFrom.f k a0 a1 t246).bind fun bt249 => ((laws_eqMail.f k bt249.1 bt249.2.1 bt249.2.2.1 bt249.2.2.2.1 t238 t239 t240 t241).bind fun t257 => (if t257 = true then (laws_FnExactMailFrom.j0 k a0 a1 l2 t244 t246 bt249.2.2.2.2 (bt249.2.2.2.2 != t244) t238 t239 t240 t241 bt249.1 bt249.2.1 bt249.2.2.1 bt249.2.2.2.1) else (laws_FnExactMailFrom.j0 k a0 a1 l2 t244 t246 bt249.2.2.2.2 true t238 t239 t240 t241 bt249.1 bt249.2.1 bt249.2.2.1 bt249.2.2.2.1))))) = some r := H
 have A6 := mk_ A60
 clear A60
 replace H := Option.bind_eq_some_iff.mp H
 obtain ⟨t246, A70, H⟩ := H
 replace H : ((impl_MailFrom.f k a0 a1 t246).bind fun bt249 => ((laws_eqMail.f k bt249.1 bt249.2.1 bt249.2.2.1 bt249.2.2.2.1 t238 t239 t240 t241).bind fun t257 => (if t257 = true then (laws_FnExactMailFrom.j0 k a0 a1 l2 t244 t246 bt249.2.2.2.2 (bt249.2.2.2.2 != t244) t238 t239 t240 t241 bt249.1 bt249.2.1 bt249.2.2.1 bt249.2.2.2.1) else (laws_FnExactMailFrom.j0 k a0 a1 l2 t244 t246 bt249.2.2.2.2 true t238 t239 t240 t241 bt249.1 bt249.2.1 bt249.2.2.1 bt249.2.2.2.1)))) = some r := H
 have A7 := mk_ A70
 clear A70
 replace H := Option.bind_eq_some_iff.mp H
 obtain ⟨⟨t249, t250, t251, t252, t255⟩, A80, H⟩ := H
 replace H : ((laws_eqMail.f k t249 t250 t251 t252 t238 t239 t240 t241).bind fun t257 => (if t257 = true then (laws_FnExactMailFrom.j0 k a0 a1 l2 t244 t246 t255 (t255 != t244) t238 t239 t240 t241 t249 t250 t251 t252) else (laws_FnExactMailFrom.j0 k a0 a1 l2 t244 t246 t255 true t238 t239 t240 t241 t249 t250 t251 t252))) = some r := H
 have A8 := mk_ A80
 clear A80
 have HC9 := mk_ H
 clear H
 go_enter Try.func5, Try.ntmps5
 go_upto_region 6 with (first | ((with_reducible refine gate_callee (f := 24) rfl ?_); have hA_ := A5.out; refine goesL_ (some 24) rfl rfl Try.func24 (by kernel_rfl) rfl #[.slice A2 l2.length c2] rfl (by (try simp only [lm_, lo_, ln_]); first | done | rfl | (simp only [List.length_drop, List.length_take]; rfl)) ?_; (with_reducible refine (laws_toByteS.calls k _ _ l2 t235 _ ?side1 ?side2 A5.out).mono ?_); (case side1 => repeat (first | exact HR2.out | (with_reducible refine Kd.C_alloc ?_ _) | (with_reducible refine Kd.C_drewN ?_ _) | (with_reducible refine Kd.C_drew ?_))); (case side2 => exact HC2.out); rintro e w10 ⟨v236, rfl, ho0, hb⟩; refine ⟨_, rfl, ?_⟩; have n0_ := mk_ (Kd.R_lower ho0 (below_size (ub_ HB.out))); have n1_ := mk_ (below_step (ub_ HB.out) hb); clear HB; have HO237 := n0_; have HB := n1_; clear n0_ n1_; (try clear hb); (try clear hb2); (try clear hk); (try clear hi); (try clear ho0); obtain ⟨Ao11, co11, eo11⟩ := Kd.R_slice HO237.out; subst eo11; clear hA_ A5) | ((with_reducible refine gate_callee (f := 23) rfl ?_); refine goesL_ (some 25) rfl rfl Try.func23 (by kernel_rfl) rfl #[.int .i64 a0, .int .i64 a1, .slice Ao11 t235.length co11] rfl (by (try simp only [lm_, lo_, ln_]); first | done | rfl | (simp only [List.length_drop, List.length_take]; rfl)) ?_; (with_reducible refine (spec_MailFrom.calls k a0 a1 _ _ t235 t238 t239 t240 t241 t244 _ ?side1 ?side2 A6.out).mono ?_); (case side1 => repeat (first | exact (Kd.R_reads' HO237.out).2.2 | (with_reducible refine Kd.C_alloc ?_ _) | (with_reducible refine Kd.C_drewN ?_ _) | (with_reducible refine Kd.C_drew ?_))); (case side2 => exact (Kd.R_reads' HO237.out).2.1); rintro e w12 ⟨v242, rfl, ho0, hb⟩; refine ⟨_, rfl, ?_⟩; have n0_ := mk_ (Kd.R_elder' (Kd.ur_ HO237.out) (Kd.R_base ho0) hb); have n1_ := mk_ (Kd.R_lower (Kd.R_new' ho0 (Kd.R_lt (Kd.ur_ HO237.out))) (below_size (ub_ HB.out))); have n2_ := mk_ (below_step (ub_ HB.out) hb); clear HO237; clear HB; have HO237 := n0_; have HO243 := n1_; have HB := n2_; clear n0_ n1_ n2_; (try clear hb); (try clear hb2); (try clear hk); (try clear hi); (try clear ho0)) | ((with_reducible refine gate_dst (N := 7) rfl ?_); refine box_event ?hg (N := 7) ?hd (cs := #[.int .i64 0, .int .i64 0, .int .i64 0, .slice none 0 0]) (t := 27) ?hr ?_; (case hd => rfl); (case hg => rfl); (case hr => first | (go_simp; done) | (go_simp; rfl)); intro gb245 hg w13 hbox hb; have n0_ := mk_ (Kd.R_below (Kd.ur_ HO237.out) hb); have n1_ := mk_ (Kd.R_below (Kd.ur_ HO243.out) hb); have n2_ := mk_ (below_step (ub_ HB.out) hb); have n3_ := mk_ (hbox); have n4_ := mk_ ((by rw [hg]; exact (below_size (ub_ HB.out)) : w.heap.size ≤ gb245)); have n5_ := mk_ ((by rw [hg]; exact (below_size (ub_ HB.out)) : w.heap.size ≤ gb245)); clear HO237; clear HO243; clear HB; have HO237 := n0_; have HO243 := n1_; have HB := n2_; have BK245 := n3_; have GW245 := n4_; have GE245 := ge_ n5_.out; clear n0_ n1_ n2_ n3_ n4_ n5_; clear hb hbox hg; obtain ⟨hcz14_0, hcz14_1, hcz14_2, hcz14_3, hfz14_0, hfz14_1, hfz14_2, hfz14_3⟩ := cells4_ BK245.out; obtain ⟨Ao15, co15, eo15⟩ := Kd.R_slice HO243.out; subst eo15) | ((with_reducible refine gate_callee (f := 24) rfl ?_); have hA_ := A7.out; refine goesL_ (some 29) rfl rfl Try.func24 (by kernel_rfl) rfl #[.slice A2 l2.length c2] rfl (by (try simp only [lm_, lo_, ln_]); first | done | rfl | (simp only [List.length_drop, List.length_take]; rfl)) ?_; (with_reducible refine (laws_toByteS.calls k _ _ l2 t246 _ ?side1 ?side2 A7.out).mono ?_); (case side1 => exact Kd.C_below HR2.out (us_ HB.out)); (case side2 => exact HC2.out); rintro e w16 ⟨v247, rfl, ho0, hb⟩; refine ⟨_, rfl, ?_⟩; have n0_ := mk_ (Kd.R_elder' (by (with_reducible repeat (first | apply Kd.R_alloc | apply Kd.R_drewN | apply Kd.R_drew)); exact (Kd.R_mono (Kd.R_far (p := ⟨gb245, 3, none⟩) (Kd.R_far (p := ⟨gb245, 2, none⟩) (Kd.R_far (p := ⟨gb245, 1, none⟩) (Kd.R_far (p := ⟨gb245, 0, none⟩) (Kd.R_types HO237.out BK245.out (by decide)) (fun _ hk => hk.2) (.int .i64 t238)) (fun _ hk => hk.2) (.int .i64 t239)) (fun _ hk => hk.2) (.int .i64 t240)) (fun _ hk => hk.2) (.slice Ao15 t241.length co15)) (fun _ h_ => by first | exact h_.1 | simp only [h_, ne_eq, not_false_eq_true, and_self]))) (Kd.R_base ho0) hb); have n1_ := mk_ (Kd.R_elder' (by (with_reducible repeat (first | apply Kd.R_alloc | apply Kd.R_drewN | apply Kd.R_drew)); exact (Kd.R_mono (Kd.R_far (p := ⟨gb245, 3, none⟩) (Kd.R_far (p := ⟨gb245, 2, none⟩) (Kd.R_far (p := ⟨gb245, 1, none⟩) (Kd.R_far (p := ⟨gb245, 0, none⟩) (Kd.R_types HO243.out BK245.out (by decide)) (fun _ hk => hk.2) (.int .i64 t238)) (fun _ hk => hk.2) (.int .i64 t239)) (fun _ hk => hk.2) (.int .i64 t240)) (fun _ hk => hk.2) (.slice Ao15 t241.length co15)) (fun _ h_ => by first | exact h_.1 | simp only [h_, ne_eq, not_false_eq_true, and_self]))) (Kd.R_base ho0) hb); have n2_ := mk_ (Kd.R_lower (Kd.R_new' (Kd.R_new' ho0 (Kd.R_lt (by (with_reducible repeat (first | apply Kd.R_alloc | apply Kd.R_drewN | apply Kd.R_drew)); exact (Kd.R_mono (Kd.R_far (p := ⟨gb245, 3, none⟩) (Kd.R_far (p := ⟨gb245, 2, none⟩) (Kd.R_far (p := ⟨gb245, 1, none⟩) (Kd.R_far (p := ⟨gb245, 0, none⟩) (Kd.R_types HO237.out BK245.out (by decide)) (fun _ hk => hk.2) (.int .i64 t238)) (fun _ hk => hk.2) (.int .i64 t239)) (fun _ hk => hk.2) (.int .i64 t240)) (fun _ hk => hk.2) (.slice Ao15 t241.length co15)) (fun _ h_ => by first | exact h_.1 | simp only [h_, ne_eq, not_false_eq_true, and_self]))))) (Kd.R_lt (by (with_reducible repeat (first | apply Kd.R_alloc | apply Kd.R_drewN | apply Kd.R_drew)); exact (Kd.R_mono (Kd.R_far (p := ⟨gb245, 3, none⟩) (Kd.R_far (p := ⟨gb245, 2, none⟩) (Kd.R_far (p := ⟨gb245, 1, none⟩) (Kd.R_far (p := ⟨gb245, 0, none⟩) (Kd.R_types HO243.out BK245.out (by decide)) (fun _ hk => hk.2) (.int .i64 t238)) (fun _ hk => hk.2) (.int .i64 t239)) (fun _ hk => hk.2) (.int .i64 t240)) (fun _ hk => hk.2) (.slice Ao15 t241.length co15)) (fun _ h_ => by first | exact h_.1 | simp only [h_, ne_eq, not_false_eq_true, and_self]))))) (below_size (us_ HB.out))); have n3_ := mk_ (blk_below (g := gb245) (o := .cells #[.int .i64 t238, .int .i64 t239, .int .i64 t240, .slice Ao15 t241.length co15] 27 (0, 0)) (by (with_reducible repeat (first | refine bn_ ?_ _ | refine bw_ ?_ | refine ba_ ?_ _)); refine blk_put (cs := #[.int .i64 t238, .int .i64 t239, .int .i64 t240, .slice none 0 0]) ?_ 3 _ rfl; (with_reducible repeat (first | refine bn_ ?_ _ | refine bw_ ?_ | refine ba_ ?_ _)); refine blk_put (cs := #[.int .i64 t238, .int .i64 t239, .int .i64 0, .slice none 0 0]) ?_ 2 _ rfl; (with_reducible repeat (first | refine bn_ ?_ _ | refine bw_ ?_ | refine ba_ ?_ _)); refine blk_put (cs := #[.int .i64 t238, .int .i64 0, .int .i64 0, .slice none 0 0]) ?_ 1 _ rfl; (with_reducible repeat (first | refine bn_ ?_ _ | refine bw_ ?_ | refine ba_ ?_ _)); refine blk_put (cs := #[.int .i64 0, .int .i64 0, .int .i64 0, .slice none 0 0]) ?_ 0 _ rfl; (with_reducible repeat (first | refine bn_ ?_ _ | refine bw_ ?_ | refine ba_ ?_ _)); exact BK245.out) hb); have n4_ := mk_ (below_step (us_ HB.out) hb); clear HO237; clear HO243; clear BK245; clear HB; have HO237 := n0_; have HO243 := n1_; have HO248 := n2_; have BK245 := n3_; have HB := n4_; clear n0_ n1_ n2_ n3_ n4_; (try clear hb); (try clear hb2); (try clear hk); (try clear hi); (try clear ho0); obtain ⟨Ao17, co17, eo17⟩ := Kd.R_slice HO248.out; subst eo17; clear hA_ A7) | ((with_reducible refine gate_callee (f := 21) rfl ?_); refine goesL_ (some 34) rfl rfl Try.func21 (by kernel_rfl) rfl #[.int .i64 a0, .int .i64 a1, .slice Ao17 t246.length co17] rfl (by (try simp only [lm_, lo_, ln_]); first | done | rfl | (simp only [List.length_drop, List.length_take]; rfl)) ?_; (with_reducible refine (impl_MailFrom.calls k a0 a1 _ _ t246 t249 t250 t251 t252 t255 _ ?side1 ?side2 A8.out).mono ?_); (case side1 => repeat (first | exact (Kd.R_reads' HO248.out).2.2 | (with_reducible refine Kd.C_alloc ?_ _) | (with_reducible refine Kd.C_drewN ?_ _) | (with_reducible refine Kd.C_drew ?_))); (case side2 => exact (Kd.R_reads' HO248.out).2.1); rintro e w18 ⟨v253, rfl, ho0, hb⟩; refine ⟨_, rfl, ?_⟩; have n0_ := mk_ (Kd.R_elder' (Kd.ur_ HO237.out) (Kd.R_base ho0) hb); have n1_ := mk_ (Kd.R_elder' (Kd.ur_ HO243.out) (Kd.R_base ho0) hb); have n2_ := mk_ (Kd.R_elder' (Kd.ur_ HO248.out) (Kd.R_base ho0) hb); have n3_ := mk_ (Kd.R_lower (Kd.R_new' (Kd.R_new' (Kd.R_new' ho0 (Kd.R_lt (Kd.ur_ HO237.out))) (Kd.R_lt (Kd.ur_ HO243.out))) (Kd.R_lt (Kd.ur_ HO248.out))) (below_size (us_ HB.out))); have n4_ := mk_ (blk_below (u_ BK245.out) hb); have n5_ := mk_ (below_step (us_ HB.out) hb); clear HO237; clear HO243; clear HO248; clear BK245; clear HB; have HO237 := n0_; have HO243 := n1_; have HO248 := n2_; have HO254 := n3_; have BK245 := n4_; have HB := n5_; clear n0_ n1_ n2_ n3_ n4_ n5_; (try clear hb); (try clear hb2); (try clear hk); (try clear hi); (try clear ho0)) | ((with_reducible refine gate_dst (N := 10) rfl ?_); refine box_event ?hg (N := 10) ?hd (cs := #[.int .i64 0, .int .i64 0, .int .i64 0, .slice none 0 0]) (t := 27) ?hr ?_; (case hd => rfl); (case hg => rfl); (case hr => first | (go_simp; done) | (go_simp; rfl)); intro gb256 hg w19 hbox hb; have n0_ := mk_ (Kd.R_below (Kd.ur_ HO237.out) hb); have n1_ := mk_ (Kd.R_below (Kd.ur_ HO243.out) hb); have n2_ := mk_ (Kd.R_below (Kd.ur_ HO248.out) hb); have n3_ := mk_ (Kd.R_below (Kd.ur_ HO254.out) hb); have n4_ := mk_ (blk_below (u_ BK245.out) hb); have n5_ := mk_ (below_step (us_ HB.out) hb); have n6_ := mk_ (hbox); have n7_ := mk_ ((by rw [hg]; exact (below_size (us_ HB.out)) : w.heap.size ≤ gb256)); have n8_ := mk_ ((by rw [hg]; exact (below_size (us_ HB.out)) : w.heap.size ≤ gb256)); have n9_ := mk_ ((by rw [hg]; exact Nat.ne_of_lt (blk_lt (u_ BK245.out)) : gb245 ≠ gb256)); have n10_ := mk_ ((by rw [hg]; exact Nat.ne_of_gt (blk_lt (u_ BK245.out)) : gb256 ≠ gb245)); clear HO237; clear HO243; clear HO248; clear HO254; clear BK245; clear HB; have HO237 := n0_; have HO243 := n1_; have HO248 := n2_; have HO254 := n3_; have BK245 := n4_; have HB := n5_; have BK256 := n6_; have GW256 := n7_; have GE256 := ge_ n8_.out; have NB245_256 := nq_ n9_.out; have NB256_245 := nq_ n10_.out; clear n0_ n1_ n2_ n3_ n4_ n5_ n6_ n7_ n8_ n9_ n10_; clear hb hbox hg; have hnb20 := NB256_245.out; have hnc20 := NB245_256.out; obtain ⟨hcz21_0, hcz21_1, hcz21_2, hcz21_3, hfz21_0, hfz21_1, hfz21_2, hfz21_3⟩ := cells4_ BK256.out; obtain ⟨Ao22, co22, eo22⟩ := Kd.R_slice HO254.out; subst eo22))
 (try simp only [Act.put, la_, lz_, ls_])
 go_cut [45] (fun v45 wc => ∃ (kq : Nat) (x45_8 : Bool), v45 = .bool x45_8 ∧ Aside0 (laws_FnExactMailFrom.j0 kq a0 a1 l2 t244 t246 t255 x45_8 t238 t239 t240 t241 t249 t250 t251 t252 = some r) ∧ Aside0 (kq ≤ k) ∧ Aside0 (Kd.R (Kd.int .u8) 5 wc w.heap.size (fun k_ => some k_ ≠ ((.slice Ao15 t241.length co15) : Value).ownBlock ∧ some k_ ≠ ((.slice Ao22 t252.length co22) : Value).ownBlock) (.slice Ao17 t246.length co17) t246) ∧ Aside0 (Kd.R (Kd.int .u8) 5 wc w.heap.size (fun k_ => some k_ ≠ ((.slice Ao17 t246.length co17) : Value).ownBlock ∧ some k_ ≠ ((.slice Ao22 t252.length co22) : Value).ownBlock) (.slice Ao15 t241.length co15) t241) ∧ Aside0 (Kd.R (Kd.int .u8) 5 wc w.heap.size (fun k_ => some k_ ≠ ((.slice Ao17 t246.length co17) : Value).ownBlock ∧ some k_ ≠ ((.slice Ao15 t241.length co15) : Value).ownBlock) (.slice Ao22 t252.length co22) t252) ∧ Aside0 (wc.heap[gb245]? = some (.cells #[.int .i64 t238, .int .i64 t239, .int .i64 t240, (.slice Ao15 t241.length co15)] 27 (0, 0))) ∧ Aside0 (wc.heap[gb256]? = some (.cells #[.int .i64 t249, .int .i64 t250, .int .i64 t251, (.slice Ao22 t252.length co22)] 27 (0, 0))) ∧ Aside0 (Below w.heap.size w wc))
 case first =>
  have H := HC9.out
  clear HC9
  replace H := Option.bind_eq_some_iff.mp H
  obtain ⟨t257, A230, H⟩ := H
  replace H : (if t257 = true then (laws_FnExactMailFrom.j0 k a0 a1 l2 t244 t246 t255 (t255 != t244) t238 t239 t240 t241 t249 t250 t251 t252) else (laws_FnExactMailFrom.j0 k a0 a1 l2 t244 t246 t255 true t238 t239 t240 t241 t249 t250 t251 t252)) = some r := H
  have A23 := mk_ A230
  clear A230
  by_cases c24 : t257 = true
  ·subst c24
   have H1 : (laws_FnExactMailFrom.j0 k a0 a1 l2 t244 t246 t255 (t255 != t244) t238 t239 t240 t241 t249 t250 t251 t252) = some r := by rw [if_pos rfl] at H; exact H
   clear H
   have H := H1
   clear H1
   have H' := mk_ H
   clear H
   have hnb25 := NB256_245.out
   have hnc25 := NB245_256.out
   obtain ⟨hcz26_0, hcz26_1, hcz26_2, hcz26_3, hfz26_0, hfz26_1, hfz26_2, hfz26_3⟩ := cells4_ BK256.out
   obtain ⟨hcz27_0, hcz27_1, hcz27_2, hcz27_3, hfz27_0, hfz27_1, hfz27_2, hfz27_3⟩ := cells4_ BK245.out
   go_wp2_with (first | ((with_reducible refine gate_callee (f := 14) rfl ?_); refine goesL_ (some 39) rfl rfl Try.func14 (by kernel_rfl) rfl #[.agg #[.int .i64 t249, .int .i64 t250, .int .i64 t251, .slice Ao22 t252.length co22], .agg #[.int .i64 t238, .int .i64 t239, .int .i64 t240, .slice Ao15 t241.length co15]] rfl (by (try simp only [lm_, lo_, ln_]); first | done | rfl | (simp only [List.length_drop, List.length_take]; rfl)) ?_; (with_reducible refine (laws_eqMail.calls k t249 t250 t251 _ _ t252 t238 t239 t240 _ _ t241 true _ ?side1 ?side2 ?side3 ?side4 A23.out).mono ?_); (case side1 => refine (Kd.R_reads' (e := 5) (base := w.heap.size) (ok := fun k_ => (((True ∧ some k_ ≠ (.slice Ao11 t235.length co11 : Value).ownBlock) ∧ some k_ ≠ (.slice Ao15 t241.length co15 : Value).ownBlock) ∧ some k_ ≠ (.slice Ao17 t246.length co17 : Value).ownBlock)) (n := t252.length) (c := co22) ?_).2.2; exact (by (with_reducible repeat (first | apply Kd.R_alloc | apply Kd.R_drewN | apply Kd.R_drew)); exact (Kd.R_mono (Kd.R_far (p := ⟨gb256, 3, none⟩) (Kd.R_far (p := ⟨gb256, 2, none⟩) (Kd.R_far (p := ⟨gb256, 1, none⟩) (Kd.R_far (p := ⟨gb256, 0, none⟩) (Kd.R_types HO254.out BK256.out (by decide)) (fun _ hk => hk.2) (.int .i64 t249)) (fun _ hk => hk.2) (.int .i64 t250)) (fun _ hk => hk.2) (.int .i64 t251)) (fun _ hk => hk.2) (.slice Ao22 t252.length co22)) (fun _ h_ => by first | exact h_.1 | simp only [h_, ne_eq, not_false_eq_true, and_self])))); (case side2 => exact (Kd.R_reads' HO254.out).2.1); (case side3 => refine (Kd.R_reads' (e := 5) (base := w.heap.size) (ok := fun k_ => (((True ∧ some k_ ≠ (.slice Ao11 t235.length co11 : Value).ownBlock) ∧ some k_ ≠ (.slice Ao17 t246.length co17 : Value).ownBlock) ∧ some k_ ≠ (.slice Ao22 t252.length co22 : Value).ownBlock)) (n := t241.length) (c := co15) ?_).2.2; exact (by (with_reducible repeat (first | apply Kd.R_alloc | apply Kd.R_drewN | apply Kd.R_drew)); exact (Kd.R_mono (Kd.R_far (p := ⟨gb256, 3, none⟩) (Kd.R_far (p := ⟨gb256, 2, none⟩) (Kd.R_far (p := ⟨gb256, 1, none⟩) (Kd.R_far (p := ⟨gb256, 0, none⟩) (Kd.R_types HO243.out BK256.out (by decide)) (fun _ hk => hk.2) (.int .i64 t249)) (fun _ hk => hk.2) (.int .i64 t250)) (fun _ hk => hk.2) (.int .i64 t251)) (fun _ hk => hk.2) (.slice Ao22 t252.length co22)) (fun _ h_ => by first | exact h_.1 | simp only [h_, ne_eq, not_false_eq_true, and_self])))); (case side4 => exact (Kd.R_reads' HO243.out).2.1); rintro e w28 ⟨rfl, hb⟩; refine ⟨_, rfl, ?_⟩; have n0_ := mk_ (Kd.R_below (by (with_reducible repeat (first | apply Kd.R_alloc | apply Kd.R_drewN | apply Kd.R_drew)); exact (Kd.R_mono (Kd.R_far (p := ⟨gb256, 3, none⟩) (Kd.R_far (p := ⟨gb256, 2, none⟩) (Kd.R_far (p := ⟨gb256, 1, none⟩) (Kd.R_far (p := ⟨gb256, 0, none⟩) (Kd.R_types HO237.out BK256.out (by decide)) (fun _ hk => hk.2) (.int .i64 t249)) (fun _ hk => hk.2) (.int .i64 t250)) (fun _ hk => hk.2) (.int .i64 t251)) (fun _ hk => hk.2) (.slice Ao22 t252.length co22)) (fun _ h_ => by first | exact h_.1 | simp only [h_, ne_eq, not_false_eq_true, and_self]))) hb); have n1_ := mk_ (Kd.R_below (by (with_reducible repeat (first | apply Kd.R_alloc | apply Kd.R_drewN | apply Kd.R_drew)); exact (Kd.R_mono (Kd.R_far (p := ⟨gb256, 3, none⟩) (Kd.R_far (p := ⟨gb256, 2, none⟩) (Kd.R_far (p := ⟨gb256, 1, none⟩) (Kd.R_far (p := ⟨gb256, 0, none⟩) (Kd.R_types HO243.out BK256.out (by decide)) (fun _ hk => hk.2) (.int .i64 t249)) (fun _ hk => hk.2) (.int .i64 t250)) (fun _ hk => hk.2) (.int .i64 t251)) (fun _ hk => hk.2) (.slice Ao22 t252.length co22)) (fun _ h_ => by first | exact h_.1 | simp only [h_, ne_eq, not_false_eq_true, and_self]))) hb); have n2_ := mk_ (Kd.R_below (by (with_reducible repeat (first | apply Kd.R_alloc | apply Kd.R_drewN | apply Kd.R_drew)); exact (Kd.R_mono (Kd.R_far (p := ⟨gb256, 3, none⟩) (Kd.R_far (p := ⟨gb256, 2, none⟩) (Kd.R_far (p := ⟨gb256, 1, none⟩) (Kd.R_far (p := ⟨gb256, 0, none⟩) (Kd.R_types HO248.out BK256.out (by decide)) (fun _ hk => hk.2) (.int .i64 t249)) (fun _ hk => hk.2) (.int .i64 t250)) (fun _ hk => hk.2) (.int .i64 t251)) (fun _ hk => hk.2) (.slice Ao22 t252.length co22)) (fun _ h_ => by first | exact h_.1 | simp only [h_, ne_eq, not_false_eq_true, and_self]))) hb); have n3_ := mk_ (Kd.R_below (by (with_reducible repeat (first | apply Kd.R_alloc | apply Kd.R_drewN | apply Kd.R_drew)); exact (Kd.R_mono (Kd.R_far (p := ⟨gb256, 3, none⟩) (Kd.R_far (p := ⟨gb256, 2, none⟩) (Kd.R_far (p := ⟨gb256, 1, none⟩) (Kd.R_far (p := ⟨gb256, 0, none⟩) (Kd.R_types HO254.out BK256.out (by decide)) (fun _ hk => hk.2) (.int .i64 t249)) (fun _ hk => hk.2) (.int .i64 t250)) (fun _ hk => hk.2) (.int .i64 t251)) (fun _ hk => hk.2) (.slice Ao22 t252.length co22)) (fun _ h_ => by first | exact h_.1 | simp only [h_, ne_eq, not_false_eq_true, and_self]))) hb); have n4_ := mk_ (blk_below (g := gb245) (o := .cells #[.int .i64 t238, .int .i64 t239, .int .i64 t240, .slice Ao15 t241.length co15] 27 (0, 0)) (uf_ BK245.out) hb); have n5_ := mk_ (blk_below (g := gb256) (o := .cells #[.int .i64 t249, .int .i64 t250, .int .i64 t251, .slice Ao22 t252.length co22] 27 (0, 0)) (by (with_reducible repeat (first | refine bn_ ?_ _ | refine bw_ ?_ | refine ba_ ?_ _)); refine blk_put (cs := #[.int .i64 t249, .int .i64 t250, .int .i64 t251, .slice none 0 0]) ?_ 3 _ rfl; (with_reducible repeat (first | refine bn_ ?_ _ | refine bw_ ?_ | refine ba_ ?_ _)); refine blk_put (cs := #[.int .i64 t249, .int .i64 t250, .int .i64 0, .slice none 0 0]) ?_ 2 _ rfl; (with_reducible repeat (first | refine bn_ ?_ _ | refine bw_ ?_ | refine ba_ ?_ _)); refine blk_put (cs := #[.int .i64 t249, .int .i64 0, .int .i64 0, .slice none 0 0]) ?_ 1 _ rfl; (with_reducible repeat (first | refine bn_ ?_ _ | refine bw_ ?_ | refine ba_ ?_ _)); refine blk_put (cs := #[.int .i64 0, .int .i64 0, .int .i64 0, .slice none 0 0]) ?_ 0 _ rfl; (with_reducible repeat (first | refine bn_ ?_ _ | refine bw_ ?_ | refine ba_ ?_ _)); exact BK256.out) hb); have n6_ := mk_ (below_step (us_ HB.out) hb); clear HO237; clear HO243; clear HO248; clear HO254; clear BK245; clear BK256; clear HB; have HO237 := n0_; have HO243 := n1_; have HO248 := n2_; have HO254 := n3_; have BK245 := n4_; have BK256 := n5_; have HB := n6_; clear n0_ n1_ n2_ n3_ n4_ n5_ n6_; (try clear hb); (try clear hb2); (try clear hk); (try clear hi)))
   go_meet
   case rel => exact ⟨_, ((t255 != t244)), (by first | rfl | (simp; done) | (simp [*]; done)), H', ⟨by first | omega | exact Nat.le_refl _⟩, ⟨by (with_reducible repeat (first | apply Kd.R_alloc | apply Kd.R_drewN | apply Kd.R_drew)); exact Kd.R_mono HO248.out (fun _ hk => ⟨hk.1.2, hk.2⟩)⟩, ⟨by (with_reducible repeat (first | apply Kd.R_alloc | apply Kd.R_drewN | apply Kd.R_drew)); exact Kd.R_mono HO243.out (fun _ hk => ⟨hk.1.2, hk.2⟩)⟩, ⟨by (with_reducible repeat (first | apply Kd.R_alloc | apply Kd.R_drewN | apply Kd.R_drew)); exact Kd.R_mono HO254.out (fun _ hk => ⟨hk.2, hk.1.2⟩)⟩, ⟨u_ BK245.out⟩, ⟨u_ BK256.out⟩, ⟨us_ HB.out⟩⟩
  replace c24 := Bool.eq_false_iff.mpr c24
  subst c24
  have H1 : (laws_FnExactMailFrom.j0 k a0 a1 l2 t244 t246 t255 true t238 t239 t240 t241 t249 t250 t251 t252) = some r := by rw [if_neg (show ¬ (false = true) by decide)] at H; exact H
  clear H
  have H := H1
  clear H1
  have H' := mk_ H
  clear H
  have hnb29 := NB256_245.out
  have hnc29 := NB245_256.out
  obtain ⟨hcz30_0, hcz30_1, hcz30_2, hcz30_3, hfz30_0, hfz30_1, hfz30_2, hfz30_3⟩ := cells4_ BK256.out
  obtain ⟨hcz31_0, hcz31_1, hcz31_2, hcz31_3, hfz31_0, hfz31_1, hfz31_2, hfz31_3⟩ := cells4_ BK245.out
  go_wp2_with (first | ((with_reducible refine gate_callee (f := 14) rfl ?_); refine goesL_ (some 39) rfl rfl Try.func14 (by kernel_rfl) rfl #[.agg #[.int .i64 t249, .int .i64 t250, .int .i64 t251, .slice Ao22 t252.length co22], .agg #[.int .i64 t238, .int .i64 t239, .int .i64 t240, .slice Ao15 t241.length co15]] rfl (by (try simp only [lm_, lo_, ln_]); first | done | rfl | (simp only [List.length_drop, List.length_take]; rfl)) ?_; (with_reducible refine (laws_eqMail.calls k t249 t250 t251 _ _ t252 t238 t239 t240 _ _ t241 false _ ?side1 ?side2 ?side3 ?side4 A23.out).mono ?_); (case side1 => refine (Kd.R_reads' (e := 5) (base := w.heap.size) (ok := fun k_ => (((True ∧ some k_ ≠ (.slice Ao11 t235.length co11 : Value).ownBlock) ∧ some k_ ≠ (.slice Ao15 t241.length co15 : Value).ownBlock) ∧ some k_ ≠ (.slice Ao17 t246.length co17 : Value).ownBlock)) (n := t252.length) (c := co22) ?_).2.2; exact (by (with_reducible repeat (first | apply Kd.R_alloc | apply Kd.R_drewN | apply Kd.R_drew)); exact (Kd.R_mono (Kd.R_far (p := ⟨gb256, 3, none⟩) (Kd.R_far (p := ⟨gb256, 2, none⟩) (Kd.R_far (p := ⟨gb256, 1, none⟩) (Kd.R_far (p := ⟨gb256, 0, none⟩) (Kd.R_types HO254.out BK256.out (by decide)) (fun _ hk => hk.2) (.int .i64 t249)) (fun _ hk => hk.2) (.int .i64 t250)) (fun _ hk => hk.2) (.int .i64 t251)) (fun _ hk => hk.2) (.slice Ao22 t252.length co22)) (fun _ h_ => by first | exact h_.1 | simp only [h_, ne_eq, not_false_eq_true, and_self])))); (case side2 => exact (Kd.R_reads' HO254.out).2.1); (case side3 => refine (Kd.R_reads' (e := 5) (base := w.heap.size) (ok := fun k_ => (((True ∧ some k_ ≠ (.slice Ao11 t235.length co11 : Value).ownBlock) ∧ some k_ ≠ (.slice Ao17 t246.length co17 : Value).ownBlock) ∧ some k_ ≠ (.slice Ao22 t252.length co22 : Value).ownBlock)) (n := t241.length) (c := co15) ?_).2.2; exact (by (with_reducible repeat (first | apply Kd.R_alloc | apply Kd.R_drewN | apply Kd.R_drew)); exact (Kd.R_mono (Kd.R_far (p := ⟨gb256, 3, none⟩) (Kd.R_far (p := ⟨gb256, 2, none⟩) (Kd.R_far (p := ⟨gb256, 1, none⟩) (Kd.R_far (p := ⟨gb256, 0, none⟩) (Kd.R_types HO243.out BK256.out (by decide)) (fun _ hk => hk.2) (.int .i64 t249)) (fun _ hk => hk.2) (.int .i64 t250)) (fun _ hk => hk.2) (.int .i64 t251)) (fun _ hk => hk.2) (.slice Ao22 t252.length co22)) (fun _ h_ => by first | exact h_.1 | simp only [h_, ne_eq, not_false_eq_true, and_self])))); (case side4 => exact (Kd.R_reads' HO243.out).2.1); rintro e w32 ⟨rfl, hb⟩; refine ⟨_, rfl, ?_⟩; have n0_ := mk_ (Kd.R_below (by (with_reducible repeat (first | apply Kd.R_alloc | apply Kd.R_drewN | apply Kd.R_drew)); exact (Kd.R_mono (Kd.R_far (p := ⟨gb256, 3, none⟩) (Kd.R_far (p := ⟨gb256, 2, none⟩) (Kd.R_far (p := ⟨gb256, 1, none⟩) (Kd.R_far (p := ⟨gb256, 0, none⟩) (Kd.R_types HO237.out BK256.out (by decide)) (fun _ hk => hk.2) (.int .i64 t249)) (fun _ hk => hk.2) (.int .i64 t250)) (fun _ hk => hk.2) (.int .i64 t251)) (fun _ hk => hk.2) (.slice Ao22 t252.length co22)) (fun _ h_ => by first | exact h_.1 | simp only [h_, ne_eq, not_false_eq_true, and_self]))) hb); have n1_ := mk_ (Kd.R_below (by (with_reducible repeat (first | apply Kd.R_alloc | apply Kd.R_drewN | apply Kd.R_drew)); exact (Kd.R_mono (Kd.R_far (p := ⟨gb256, 3, none⟩) (Kd.R_far (p := ⟨gb256, 2, none⟩) (Kd.R_far (p := ⟨gb256, 1, none⟩) (Kd.R_far (p := ⟨gb256, 0, none⟩) (Kd.R_types HO243.out BK256.out (by decide)) (fun _ hk => hk.2) (.int .i64 t249)) (fun _ hk => hk.2) (.int .i64 t250)) (fun _ hk => hk.2) (.int .i64 t251)) (fun _ hk => hk.2) (.slice Ao22 t252.length co22)) (fun _ h_ => by first | exact h_.1 | simp only [h_, ne_eq, not_false_eq_true, and_self]))) hb); have n2_ := mk_ (Kd.R_below (by (with_reducible repeat (first | apply Kd.R_alloc | apply Kd.R_drewN | apply Kd.R_drew)); exact (Kd.R_mono (Kd.R_far (p := ⟨gb256, 3, none⟩) (Kd.R_far (p := ⟨gb256, 2, none⟩) (Kd.R_far (p := ⟨gb256, 1, none⟩) (Kd.R_far (p := ⟨gb256, 0, none⟩) (Kd.R_types HO248.out BK256.out (by decide)) (fun _ hk => hk.2) (.int .i64 t249)) (fun _ hk => hk.2) (.int .i64 t250)) (fun _ hk => hk.2) (.int .i64 t251)) (fun _ hk => hk.2) (.slice Ao22 t252.length co22)) (fun _ h_ => by first | exact h_.1 | simp only [h_, ne_eq, not_false_eq_true, and_self]))) hb); have n3_ := mk_ (Kd.R_below (by (with_reducible repeat (first | apply Kd.R_alloc | apply Kd.R_drewN | apply Kd.R_drew)); exact (Kd.R_mono (Kd.R_far (p := ⟨gb256, 3, none⟩) (Kd.R_far (p := ⟨gb256, 2, none⟩) (Kd.R_far (p := ⟨gb256, 1, none⟩) (Kd.R_far (p := ⟨gb256, 0, none⟩) (Kd.R_types HO254.out BK256.out (by decide)) (fun _ hk => hk.2) (.int .i64 t249)) (fun _ hk => hk.2) (.int .i64 t250)) (fun _ hk => hk.2) (.int .i64 t251)) (fun _ hk => hk.2) (.slice Ao22 t252.length co22)) (fun _ h_ => by first | exact h_.1 | simp only [h_, ne_eq, not_false_eq_true, and_self]))) hb); have n4_ := mk_ (blk_below (g := gb245) (o := .cells #[.int .i64 t238, .int .i64 t239, .int .i64 t240, .slice Ao15 t241.length co15] 27 (0, 0)) (uf_ BK245.out) hb); have n5_ := mk_ (blk_below (g := gb256) (o := .cells #[.int .i64 t249, .int .i64 t250, .int .i64 t251, .slice Ao22 t252.length co22] 27 (0, 0)) (by (with_reducible repeat (first | refine bn_ ?_ _ | refine bw_ ?_ | refine ba_ ?_ _)); refine blk_put (cs := #[.int .i64 t249, .int .i64 t250, .int .i64 t251, .slice none 0 0]) ?_ 3 _ rfl; (with_reducible repeat (first | refine bn_ ?_ _ | refine bw_ ?_ | refine ba_ ?_ _)); refine blk_put (cs := #[.int .i64 t249, .int .i64 t250, .int .i64 0, .slice none 0 0]) ?_ 2 _ rfl; (with_reducible repeat (first | refine bn_ ?_ _ | refine bw_ ?_ | refine ba_ ?_ _)); refine blk_put (cs := #[.int .i64 t249, .int .i64 0, .int .i64 0, .slice none 0 0]) ?_ 1 _ rfl; (with_reducible repeat (first | refine bn_ ?_ _ | refine bw_ ?_ | refine ba_ ?_ _)); refine blk_put (cs := #[.int .i64 0, .int .i64 0, .int .i64 0, .slice none 0 0]) ?_ 0 _ rfl; (with_reducible repeat (first | refine bn_ ?_ _ | refine bw_ ?_ | refine ba_ ?_ _)); exact BK256.out) hb); have n6_ := mk_ (below_step (us_ HB.out) hb); clear HO237; clear HO243; clear HO248; clear HO254; clear BK245; clear BK256; clear HB; have HO237 := n0_; have HO243 := n1_; have HO248 := n2_; have HO254 := n3_; have BK245 := n4_; have BK256 := n5_; have HB := n6_; clear n0_ n1_ n2_ n3_ n4_ n5_ n6_; (try clear hb); (try clear hb2); (try clear hk); (try clear hi)))
  go_meet
  case rel => exact ⟨_, (true), (by first | rfl | (simp; done) | (simp [*]; done)), H', ⟨by first | omega | exact Nat.le_refl _⟩, ⟨by (with_reducible repeat (first | apply Kd.R_alloc | apply Kd.R_drewN | apply Kd.R_drew)); exact Kd.R_mono HO248.out (fun _ hk => ⟨hk.1.2, hk.2⟩)⟩, ⟨by (with_reducible repeat (first | apply Kd.R_alloc | apply Kd.R_drewN | apply Kd.R_drew)); exact Kd.R_mono HO243.out (fun _ hk => ⟨hk.1.2, hk.2⟩)⟩, ⟨by (with_reducible repeat (first | apply Kd.R_alloc | apply Kd.R_drewN | apply Kd.R_drew)); exact Kd.R_mono HO254.out (fun _ hk => ⟨hk.2, hk.1.2⟩)⟩, ⟨u_ BK245.out⟩, ⟨u_ BK256.out⟩, ⟨us_ HB.out⟩⟩
 case rest =>
  clear HC9
  try clear c1
  try clear c2
  try clear p2
  try clear c4
  try clear c4b0
  try clear c4b1
  try clear c5
  try clear c14
  try clear c20
  try clear c21
  try clear c23
  try clear c24
  try clear c25
  try clear c29
  try clear hcz14_0
  try clear hcz14_1
  try clear hcz14_2
  try clear hcz14_3
  try clear hcz21_0
  try clear hcz21_1
  try clear hcz21_2
  try clear hcz21_3
  try clear hcz26_0
  try clear hcz26_1
  try clear hcz26_2
  try clear hcz26_3
  try clear hcz27_0
  try clear hcz27_1
  try clear hcz27_2
  try clear hcz27_3
  try clear hcz30_0
  try clear hcz30_1
  try clear hcz30_2
  try clear hcz30_3
  try clear hcz31_0
  try clear hcz31_1
  try clear hcz31_2
  try clear hcz31_3
  try clear hfz14_0
  try clear hfz14_1
  try clear hfz14_2
  try clear hfz14_3
  try clear hfz21_0
  try clear hfz21_1
  try clear hfz21_2
  try clear hfz21_3
  try clear hfz26_0
  try clear hfz26_1
  try clear hfz26_2
  try clear hfz26_3
  try clear hfz27_0
  try clear hfz27_1
  try clear hfz27_2
  try clear hfz27_3
  try clear hfz30_0
  try clear hfz30_1
  try clear hfz30_2
  try clear hfz30_3
  try clear hfz31_0
  try clear hfz31_1
  try clear hfz31_2
  try clear hfz31_3
  obtain ⟨kq, x45_8, rfl, HA, HJ8, HO_9, HO_246003, HO_257003, BK245, BK256, HB⟩ := hcut
  cases kq with
  | zero => exact absurd HA.out (by simp [laws_FnExactMailFrom.j0])
  | succ kj8 =>
   have H := HA.out
   clear HA
   simp only [laws_FnExactMailFrom.j0] at H
   by_cases c33 : x45_8 = true
   ·subst c33
    have H1 : (some false) = some r := by rw [if_pos rfl] at H; exact H
    clear H
    have H := H1
    clear H1
    obtain rfl := Option.some.inj H
    go_wp2
    go_ret
    exact ⟨by first | rfl | (simp [errW_none, errW_some] <;> rfl) | (simp [*, errW_none, errW_some] <;> rfl), us_ HB.out⟩
   replace c33 := Bool.eq_false_iff.mpr c33
   subst c33
   have H1 : ((laws_toByteS.f kj8 l2).bind fun t258 => ((laws_eqByteS.f kj8 t246 t258).bind fun t261 => (if t261 = true then ((laws_markByteS.f kj8 t246 1).bind fun bt262 => (if bt262.1 < 0 then (laws_FnExactMailFrom.j1 kj8 a0 a1 l2 t244 true t238 t239 t240 t241 t249 t250 t251 t252) else ((laws_eqMail.f kj8 t249 t250 t251 t252 t238 t239 t240 t241).bind fun t264 => (if t264 = true then (laws_FnExactMailFrom.j1 kj8 a0 a1 l2 t244 (t255 != t244) t238 t239 t240 t241 t249 t250 t251 t252) else (laws_FnExactMailFrom.j1 kj8 a0 a1 l2 t244 true t238 t239 t240 t241 t249 t250 t251 t252))))) else (some false)))) = some r := by rw [if_neg (show ¬ (false = true) by decide)] at H; exact H
   clear H
   have H := H1
   clear H1
   replace H := Option.bind_eq_some_iff.mp H
   obtain ⟨t258, A340, H⟩ := H
   replace H : ((laws_eqByteS.f kj8 t246 t258).bind fun t261 => (if t261 = true then ((laws_markByteS.f kj8 t246 1).bind fun bt262 => (if bt262.1 < 0 then (laws_FnExactMailFrom.j1 kj8 a0 a1 l2 t244 true t238 t239 t240 t241 t249 t250 t251 t252) else ((laws_eqMail.f kj8 t249 t250 t251 t252 t238 t239 t240 t241).bind fun t264 => (if t264 = true then (laws_FnExactMailFrom.j1 kj8 a0 a1 l2 t244 (t255 != t244) t238 t239 t240 t241 t249 t250 t251 t252) else (laws_FnExactMailFrom.j1 kj8 a0 a1 l2 t244 true t238 t239 t240 t241 t249 t250 t251 t252))))) else (some false))) = some r := H
   have A34 := mk_ A340
   clear A340
   replace H := Option.bind_eq_some_iff.mp H
   obtain ⟨t261, A350, H⟩ := H
   replace H : (if t261 = true then ((laws_markByteS.f kj8 t246 1).bind fun bt262 => (if bt262.1 < 0 then (laws_FnExactMailFrom.j1 kj8 a0 a1 l2 t244 true t238 t239 t240 t241 t249 t250 t251 t252) else ((laws_eqMail.f kj8 t249 t250 t251 t252 t238 t239 t240 t241).bind fun t264 => (if t264 = true then (laws_FnExactMailFrom.j1 kj8 a0 a1 l2 t244 (t255 != t244) t238 t239 t240 t241 t249 t250 t251 t252) else (laws_FnExactMailFrom.j1 kj8 a0 a1 l2 t244 true t238 t239 t240 t241 t249 t250 t251 t252))))) else (some false)) = some r := H
   have A35 := mk_ A350
   clear A350
   by_cases c36 : t261 = true
   rotate_left
   ·replace c36 := Bool.eq_false_iff.mpr c36
    subst c36
    have H1 : (some false) = some r := by rw [if_neg (show ¬ (false = true) by decide)] at H; exact H
    clear H
    have H := H1
    clear H1
    obtain rfl := Option.some.inj H
    go_wp2_with (first | ((with_reducible refine gate_callee (f := 24) rfl ?_); refine goesL_ (some 48) rfl rfl Try.func24 (by kernel_rfl) rfl #[.slice A2 l2.length c2] rfl (by (try simp only [lm_, lo_, ln_]); first | done | rfl | (simp only [List.length_drop, List.length_take]; rfl)) ?_; (with_reducible refine (laws_toByteS.calls kj8 _ _ l2 t258 _ ?side1 ?side2 A34.out).mono ?_); (case side1 => repeat (first | exact (Kd.C_below HR2.out HB.out) | (with_reducible refine Kd.C_alloc ?_ _) | (with_reducible refine Kd.C_drewN ?_ _) | (with_reducible refine Kd.C_drew ?_))); (case side2 => exact HC2.out); rintro e w114 ⟨v259, rfl, ho0, hb⟩; refine ⟨_, rfl, ?_⟩; have n0_ := mk_ (Kd.R_elder' (Kd.ur_ HO_9.out) (Kd.R_base ho0) hb); have n1_ := mk_ (Kd.R_elder' (Kd.ur_ HO_246003.out) (Kd.R_base ho0) hb); have n2_ := mk_ (Kd.R_elder' (Kd.ur_ HO_257003.out) (Kd.R_base ho0) hb); have n3_ := mk_ (Kd.R_lower (Kd.R_new' (Kd.R_new' (Kd.R_new' ho0 (Kd.R_lt (Kd.ur_ HO_9.out))) (Kd.R_lt (Kd.ur_ HO_246003.out))) (Kd.R_lt (Kd.ur_ HO_257003.out))) (below_size (us_ HB.out))); have n4_ := mk_ (blk_below (u_ BK245.out) hb); have n5_ := mk_ (blk_below (u_ BK256.out) hb); have n6_ := mk_ (below_step (us_ HB.out) hb); clear HO_9; clear HO_246003; clear HO_257003; clear BK245; clear BK256; clear HB; have HO_9 := n0_; have HO_246003 := n1_; have HO_257003 := n2_; have HO260 := n3_; have BK245 := n4_; have BK256 := n5_; have HB := n6_; clear n0_ n1_ n2_ n3_ n4_ n5_ n6_; (try clear hb); (try clear hb2); (try clear hk); (try clear hi); (try clear ho0); obtain ⟨Ao115, co115, eo115⟩ := Kd.R_slice HO260.out; subst eo115) | ((with_reducible refine gate_callee (f := 13) rfl ?_); refine goesL_ (some 49) rfl rfl Try.func13 (by kernel_rfl) rfl #[.slice Ao17 t246.length co17, .slice Ao115 t258.length co115] rfl (by (try simp only [lm_, lo_, ln_]); first | done | rfl | (simp only [List.length_drop, List.length_take]; rfl)) ?_; (with_reducible refine (laws_eqByteS.calls kj8 _ _ t246 _ _ t258 false _ ?side1 ?side2 ?side3 ?side4 A35.out).mono ?_); (case side1 => repeat (first | exact (Kd.R_reads' HO_9.out).2.2 | (with_reducible refine Kd.C_alloc ?_ _) | (with_reducible refine Kd.C_drewN ?_ _) | (with_reducible refine Kd.C_drew ?_))); (case side2 => exact (Kd.R_reads' HO_9.out).2.1); (case side3 => repeat (first | exact (Kd.R_reads' HO260.out).2.2 | (with_reducible refine Kd.C_alloc ?_ _) | (with_reducible refine Kd.C_drewN ?_ _) | (with_reducible refine Kd.C_drew ?_))); (case side4 => exact (Kd.R_reads' HO260.out).2.1); rintro e w' ⟨rfl, ⟨nd, rfl⟩⟩; refine ⟨_, rfl, ?_⟩))
    go_ret
    exact ⟨by first | rfl | (simp [errW_none, errW_some] <;> rfl) | (simp [*, errW_none, errW_some] <;> rfl), us_ HB.out⟩
   subst c36
   have H1 : ((laws_markByteS.f kj8 t246 1).bind fun bt262 => (if bt262.1 < 0 then (laws_FnExactMailFrom.j1 kj8 a0 a1 l2 t244 true t238 t239 t240 t241 t249 t250 t251 t252) else ((laws_eqMail.f kj8 t249 t250 t251 t252 t238 t239 t240 t241).bind fun t264 => (if t264 = true then (laws_FnExactMailFrom.j1 kj8 a0 a1 l2 t244 (t255 != t244) t238 t239 t240 t241 t249 t250 t251 t252) else (laws_FnExactMailFrom.j1 kj8 a0 a1 l2 t244 true t238 t239 t240 t241 t249 t250 t251 t252))))) = some r := by rw [if_pos rfl] at H; exact H
   clear H
   have H := H1
   clear H1
   replace H := Option.bind_eq_some_iff.mp H
   obtain ⟨⟨t262, t263⟩, A370, H⟩ := H
   replace H : (if t262 < 0 then (laws_FnExactMailFrom.j1 kj8 a0 a1 l2 t244 true t238 t239 t240 t241 t249 t250 t251 t252) else ((laws_eqMail.f kj8 t249 t250 t251 t252 t238 t239 t240 t241).bind fun t264 => (if t264 = true then (laws_FnExactMailFrom.j1 kj8 a0 a1 l2 t244 (t255 != t244) t238 t239 t240 t241 t249 t250 t251 t252) else (laws_FnExactMailFrom.j1 kj8 a0 a1 l2 t244 true t238 t239 t240 t241 t249 t250 t251 t252)))) = some r := H
   have A37 := mk_ A370
   clear A370
   have HC38 := mk_ H
   clear H
   go_upto_region 12 with (first | ((with_reducible refine gate_callee (f := 24) rfl ?_); refine goesL_ (some 48) rfl rfl Try.func24 (by kernel_rfl) rfl #[.slice A2 l2.length c2] rfl (by (try simp only [lm_, lo_, ln_]); first | done | rfl | (simp only [List.length_drop, List.length_take]; rfl)) ?_; (with_reducible refine (laws_toByteS.calls kj8 _ _ l2 t258 _ ?side1 ?side2 A34.out).mono ?_); (case side1 => repeat (first | exact (Kd.C_below HR2.out HB.out) | (with_reducible refine Kd.C_alloc ?_ _) | (with_reducible refine Kd.C_drewN ?_ _) | (with_reducible refine Kd.C_drew ?_))); (case side2 => exact HC2.out); rintro e w39 ⟨v259, rfl, ho0, hb⟩; refine ⟨_, rfl, ?_⟩; have n0_ := mk_ (Kd.R_elder' (Kd.ur_ HO_9.out) (Kd.R_base ho0) hb); have n1_ := mk_ (Kd.R_elder' (Kd.ur_ HO_246003.out) (Kd.R_base ho0) hb); have n2_ := mk_ (Kd.R_elder' (Kd.ur_ HO_257003.out) (Kd.R_base ho0) hb); have n3_ := mk_ (Kd.R_lower (Kd.R_new' (Kd.R_new' (Kd.R_new' ho0 (Kd.R_lt (Kd.ur_ HO_9.out))) (Kd.R_lt (Kd.ur_ HO_246003.out))) (Kd.R_lt (Kd.ur_ HO_257003.out))) (below_size (us_ HB.out))); have n4_ := mk_ (blk_below (u_ BK245.out) hb); have n5_ := mk_ (blk_below (u_ BK256.out) hb); have n6_ := mk_ (below_step (us_ HB.out) hb); clear HO_9; clear HO_246003; clear HO_257003; clear BK245; clear BK256; clear HB; have HO_9 := n0_; have HO_246003 := n1_; have HO_257003 := n2_; have HO260 := n3_; have BK245 := n4_; have BK256 := n5_; have HB := n6_; clear n0_ n1_ n2_ n3_ n4_ n5_ n6_; (try clear hb); (try clear hb2); (try clear hk); (try clear hi); (try clear ho0); obtain ⟨Ao40, co40, eo40⟩ := Kd.R_slice HO260.out; subst eo40) | ((with_reducible refine gate_callee (f := 13) rfl ?_); refine goesL_ (some 49) rfl rfl Try.func13 (by kernel_rfl) rfl #[.slice Ao17 t246.length co17, .slice Ao40 t258.length co40] rfl (by (try simp only [lm_, lo_, ln_]); first | done | rfl | (simp only [List.length_drop, List.length_take]; rfl)) ?_; (with_reducible refine (laws_eqByteS.calls kj8 _ _ t246 _ _ t258 true _ ?side1 ?side2 ?side3 ?side4 A35.out).mono ?_); (case side1 => repeat (first | exact (Kd.R_reads' HO_9.out).2.2 | (with_reducible refine Kd.C_alloc ?_ _) | (with_reducible refine Kd.C_drewN ?_ _) | (with_reducible refine Kd.C_drew ?_))); (case side2 => exact (Kd.R_reads' HO_9.out).2.1); (case side3 => repeat (first | exact (Kd.R_reads' HO260.out).2.2 | (with_reducible refine Kd.C_alloc ?_ _) | (with_reducible refine Kd.C_drewN ?_ _) | (with_reducible refine Kd.C_drew ?_))); (case side4 => exact (Kd.R_reads' HO260.out).2.1); rintro e w' ⟨rfl, ⟨nd, rfl⟩⟩; refine ⟨_, rfl, ?_⟩) | ((with_reducible refine gate_callee (f := 16) rfl ?_); refine goesL_ (some 53) rfl rfl Try.func16 (by kernel_rfl) rfl #[.slice Ao17 t246.length co17, .int .i64 1] rfl (by (try simp only [lm_, lo_, ln_]); first | done | rfl | (simp only [List.length_drop, List.length_take]; rfl)) ?_; (with_reducible refine (laws_markByteS.calls kj8 (fun k_ => some k_ = (.slice Ao17 t246.length co17 : Value).ownBlock) (.slice Ao17 t246.length co17) t246 1 t262 t263 w _ ?side1 ?side2 A37.out).mono ?_); (case side1 => repeat (first | (with_reducible first | exact HB.out | apply na_ | apply nn_ | apply nw_ | refine bs_ ?_ GE245.out | refine bs_ ?_ GE256.out) | exact HB.out)); (case side2 => exact Kd.R_tight rfl HO_9.out); rintro e w41 ⟨rfl, hy0, hb, hkp⟩; refine ⟨_, rfl, ?_⟩; have n0_ := mk_ (Kd.R_reok rfl hy0 (fun k_ e_ => HO_9.out.1 k_ e_)); have n1_ := mk_ (Kd.R_mono (ok' := fun k_ => some k_ ≠ (.slice Ao17 t246.length co17 : Value).ownBlock ∧ some k_ ≠ (.slice Ao22 t252.length co22 : Value).ownBlock ∧ some k_ ≠ (.slice Ao40 t258.length co40 : Value).ownBlock) (Kd.R_keptB (HO_246003.out) hkp (fun k_ hk_ hs_ => by first | exact hk_.1.1 hs_ | exact absurd hs_ (by simp only [hk_, ne_eq, not_false_eq_true]))) (fun k_ hk_ => by first | exact ⟨hk_.1.1.1, hk_.1.1.2, hk_.1.2⟩ | simp only [hk_, ne_eq, not_false_eq_true, and_self])); have n2_ := mk_ (Kd.R_mono (ok' := fun k_ => some k_ ≠ (.slice Ao17 t246.length co17 : Value).ownBlock ∧ some k_ ≠ (.slice Ao15 t241.length co15 : Value).ownBlock ∧ some k_ ≠ (.slice Ao40 t258.length co40 : Value).ownBlock) (Kd.R_keptB (HO_257003.out) hkp (fun k_ hk_ hs_ => by first | exact hk_.1.1 hs_ | exact absurd hs_ (by simp only [hk_, ne_eq, not_false_eq_true]))) (fun k_ hk_ => by first | exact ⟨hk_.1.1.1, hk_.1.1.2, hk_.1.2⟩ | simp only [hk_, ne_eq, not_false_eq_true, and_self])); have n3_ := mk_ (blk_kept (u_ BK245.out) hkp (fun hs_ => (fun e_ => (Kd.R_ne HO_9.out BK245.out (by decide)) e_) hs_)); have n4_ := mk_ (blk_kept (u_ BK256.out) hkp (fun hs_ => (fun e_ => (Kd.R_ne HO_9.out BK256.out (by decide)) e_) hs_)); have n5_ := mk_ (Kd.R_mono (ok' := fun k_ => some k_ ≠ (.slice Ao17 t246.length co17 : Value).ownBlock ∧ some k_ ≠ (.slice Ao15 t241.length co15 : Value).ownBlock ∧ some k_ ≠ (.slice Ao22 t252.length co22 : Value).ownBlock) (Kd.R_keptB (HO260.out) hkp (fun k_ hk_ hs_ => by first | exact hk_.1.1.2 hs_ | exact absurd hs_ (by simp only [hk_, ne_eq, not_false_eq_true]))) (fun k_ hk_ => by first | exact ⟨hk_.1.1.1.2, hk_.1.1.2, hk_.1.2⟩ | simp only [hk_, ne_eq, not_false_eq_true, and_self])); have n6_ := mk_ (hb); clear HO_9; clear HO_246003; clear HO_257003; clear BK245; clear BK256; clear HO260; clear HB; have HO_9 := n0_; have HO_246003 := n1_; have HO_257003 := n2_; have BK245 := n3_; have BK256 := n4_; have HO260 := n5_; have HB := n6_; clear n0_ n1_ n2_ n3_ n4_ n5_ n6_; (try clear hb); (try clear hkp); (try clear hy0)))
   (try simp only [Act.put, la_, lz_, ls_])
   go_cut [66] (fun v66 wc => ∃ (kq : Nat) (x66_37 : Bool), v66 = .bool x66_37 ∧ Aside0 (laws_FnExactMailFrom.j1 kq a0 a1 l2 t244 x66_37 t238 t239 t240 t241 t249 t250 t251 t252 = some r) ∧ Aside0 (kq ≤ kj8) ∧ Aside0 (Kd.R (Kd.int .u8) 5 wc w.heap.size (fun k_ => some k_ ≠ ((.slice Ao22 t252.length co22) : Value).ownBlock) (.slice Ao15 t241.length co15) t241) ∧ Aside0 (Kd.R (Kd.int .u8) 5 wc w.heap.size (fun k_ => some k_ ≠ ((.slice Ao15 t241.length co15) : Value).ownBlock) (.slice Ao22 t252.length co22) t252) ∧ Aside0 (wc.heap[gb245]? = some (.cells #[.int .i64 t238, .int .i64 t239, .int .i64 t240, (.slice Ao15 t241.length co15)] 27 (0, 0))) ∧ Aside0 (wc.heap[gb256]? = some (.cells #[.int .i64 t249, .int .i64 t250, .int .i64 t251, (.slice Ao22 t252.length co22)] 27 (0, 0))) ∧ Aside0 (Below w.heap.size w wc))
   case first =>
    have H := HC38.out
    clear HC38
    by_cases c42 : t262 < 0
    ·rw [if_pos c42] at H
     have c42b0 : decide (t262 < 0) = true := decide_eq_true c42
     clear c42
     (first | rw [c42b0] | (simp only [i64_w, i32_w]; rw [c42b0]) | skip)
     have H' := mk_ H
     clear H
     go_wp2
     go_meet
     case rel => exact ⟨_, (true), (by first | rfl | (simp; done) | (simp [*]; done)), H', ⟨by have := HJ8.out; first | omega | exact Nat.le_refl _⟩, ⟨by (with_reducible repeat (first | apply Kd.R_alloc | apply Kd.R_drewN | apply Kd.R_drew)); exact Kd.R_mono HO_246003.out (fun _ hk => hk.2.1)⟩, ⟨by (with_reducible repeat (first | apply Kd.R_alloc | apply Kd.R_drewN | apply Kd.R_drew)); exact Kd.R_mono HO_257003.out (fun _ hk => hk.2.1)⟩, ⟨u_ BK245.out⟩, ⟨u_ BK256.out⟩, ⟨us_ HB.out⟩⟩
    rw [if_neg c42] at H
    have c42b0 : decide (t262 < 0) = false := decide_eq_false c42
    clear c42
    (first | rw [c42b0] | (simp only [i64_w, i32_w]; rw [c42b0]) | skip)
    replace H := Option.bind_eq_some_iff.mp H
    obtain ⟨t264, A430, H⟩ := H
    replace H : (if t264 = true then (laws_FnExactMailFrom.j1 kj8 a0 a1 l2 t244 (t255 != t244) t238 t239 t240 t241 t249 t250 t251 t252) else (laws_FnExactMailFrom.j1 kj8 a0 a1 l2 t244 true t238 t239 t240 t241 t249 t250 t251 t252)) = some r := H
    have A43 := mk_ A430
    clear A430
    by_cases c44 : t264 = true
    ·subst c44
     have H1 : (laws_FnExactMailFrom.j1 kj8 a0 a1 l2 t244 (t255 != t244) t238 t239 t240 t241 t249 t250 t251 t252) = some r := by rw [if_pos rfl] at H; exact H
     clear H
     have H := H1
     clear H1
     have H' := mk_ H
     clear H
     have hnb45 := NB256_245.out
     have hnc45 := NB245_256.out
     obtain ⟨hcz46_0, hcz46_1, hcz46_2, hcz46_3, hfz46_0, hfz46_1, hfz46_2, hfz46_3⟩ := cells4_ BK256.out
     obtain ⟨hcz47_0, hcz47_1, hcz47_2, hcz47_3, hfz47_0, hfz47_1, hfz47_2, hfz47_3⟩ := cells4_ BK245.out
     go_wp2_with (first | (go_at_call 14; (with_reducible refine (laws_eqMail.calls kj8 t249 t250 t251 _ _ t252 t238 t239 t240 _ _ t241 true _ ?side1 ?side2 ?side3 ?side4 A43.out).mono ?_); (case side1 => repeat (first | exact (Kd.R_reads' HO_257003.out).2.2 | (with_reducible refine Kd.C_alloc ?_ _) | (with_reducible refine Kd.C_drewN ?_ _) | (with_reducible refine Kd.C_drew ?_))); (case side2 => exact (Kd.R_reads' HO_257003.out).2.1); (case side3 => repeat (first | exact (Kd.R_reads' HO_246003.out).2.2 | (with_reducible refine Kd.C_alloc ?_ _) | (with_reducible refine Kd.C_drewN ?_ _) | (with_reducible refine Kd.C_drew ?_))); (case side4 => exact (Kd.R_reads' HO_246003.out).2.1); rintro e w48 ⟨rfl, hb⟩; have n0_ := mk_ (Kd.R_below (Kd.ur_ HO_9.out) hb); have n1_ := mk_ (Kd.R_below (Kd.ur_ HO_246003.out) hb); have n2_ := mk_ (Kd.R_below (Kd.ur_ HO_257003.out) hb); have n3_ := mk_ (Kd.R_below (Kd.ur_ HO260.out) hb); have n4_ := mk_ (blk_below (u_ BK245.out) hb); have n5_ := mk_ (blk_below (u_ BK256.out) hb); have n6_ := mk_ (below_step (us_ HB.out) hb); clear HO_9; clear HO_246003; clear HO_257003; clear HO260; clear BK245; clear BK256; clear HB; have HO_9 := n0_; have HO_246003 := n1_; have HO_257003 := n2_; have HO260 := n3_; have BK245 := n4_; have BK256 := n5_; have HB := n6_; clear n0_ n1_ n2_ n3_ n4_ n5_ n6_; (try clear hb); (try clear hb2); (try clear hk); (try clear hi)))
     go_meet
     case rel => exact ⟨_, ((t255 != t244)), (by first | rfl | (simp; done) | (simp [*]; done)), H', ⟨by have := HJ8.out; first | omega | exact Nat.le_refl _⟩, ⟨by (with_reducible repeat (first | apply Kd.R_alloc | apply Kd.R_drewN | apply Kd.R_drew)); exact Kd.R_mono HO_246003.out (fun _ hk => hk.2.1)⟩, ⟨by (with_reducible repeat (first | apply Kd.R_alloc | apply Kd.R_drewN | apply Kd.R_drew)); exact Kd.R_mono HO_257003.out (fun _ hk => hk.2.1)⟩, ⟨u_ BK245.out⟩, ⟨u_ BK256.out⟩, ⟨us_ HB.out⟩⟩
    replace c44 := Bool.eq_false_iff.mpr c44
    subst c44
    have H1 : (laws_FnExactMailFrom.j1 kj8 a0 a1 l2 t244 true t238 t239 t240 t241 t249 t250 t251 t252) = some r := by rw [if_neg (show ¬ (false = true) by decide)] at H; exact H
    clear H
    have H := H1
    clear H1
    have H' := mk_ H
    clear H
    have hnb49 := NB256_245.out
    have hnc49 := NB245_256.out
    obtain ⟨hcz50_0, hcz50_1, hcz50_2, hcz50_3, hfz50_0, hfz50_1, hfz50_2, hfz50_3⟩ := cells4_ BK256.out
    obtain ⟨hcz51_0, hcz51_1, hcz51_2, hcz51_3, hfz51_0, hfz51_1, hfz51_2, hfz51_3⟩ := cells4_ BK245.out
    go_wp2_with (first | (go_at_call 14; (with_reducible refine (laws_eqMail.calls kj8 t249 t250 t251 _ _ t252 t238 t239 t240 _ _ t241 false _ ?side1 ?side2 ?side3 ?side4 A43.out).mono ?_); (case side1 => repeat (first | exact (Kd.R_reads' HO_257003.out).2.2 | (with_reducible refine Kd.C_alloc ?_ _) | (with_reducible refine Kd.C_drewN ?_ _) | (with_reducible refine Kd.C_drew ?_))); (case side2 => exact (Kd.R_reads' HO_257003.out).2.1); (case side3 => repeat (first | exact (Kd.R_reads' HO_246003.out).2.2 | (with_reducible refine Kd.C_alloc ?_ _) | (with_reducible refine Kd.C_drewN ?_ _) | (with_reducible refine Kd.C_drew ?_))); (case side4 => exact (Kd.R_reads' HO_246003.out).2.1); rintro e w52 ⟨rfl, hb⟩; have n0_ := mk_ (Kd.R_below (Kd.ur_ HO_9.out) hb); have n1_ := mk_ (Kd.R_below (Kd.ur_ HO_246003.out) hb); have n2_ := mk_ (Kd.R_below (Kd.ur_ HO_257003.out) hb); have n3_ := mk_ (Kd.R_below (Kd.ur_ HO260.out) hb); have n4_ := mk_ (blk_below (u_ BK245.out) hb); have n5_ := mk_ (blk_below (u_ BK256.out) hb); have n6_ := mk_ (below_step (us_ HB.out) hb); clear HO_9; clear HO_246003; clear HO_257003; clear HO260; clear BK245; clear BK256; clear HB; have HO_9 := n0_; have HO_246003 := n1_; have HO_257003 := n2_; have HO260 := n3_; have BK245 := n4_; have BK256 := n5_; have HB := n6_; clear n0_ n1_ n2_ n3_ n4_ n5_ n6_; (try clear hb); (try clear hb2); (try clear hk); (try clear hi)))
    go_meet
    case rel => exact ⟨_, (true), (by first | rfl | (simp; done) | (simp [*]; done)), H', ⟨by have := HJ8.out; first | omega | exact Nat.le_refl _⟩, ⟨by (with_reducible repeat (first | apply Kd.R_alloc | apply Kd.R_drewN | apply Kd.R_drew)); exact Kd.R_mono HO_246003.out (fun _ hk => hk.2.1)⟩, ⟨by (with_reducible repeat (first | apply Kd.R_alloc | apply Kd.R_drewN | apply Kd.R_drew)); exact Kd.R_mono HO_257003.out (fun _ hk => hk.2.1)⟩, ⟨u_ BK245.out⟩, ⟨u_ BK256.out⟩, ⟨us_ HB.out⟩⟩
   case rest =>
    clear HC38
    try clear c1
    try clear c2
    try clear p2
    try clear c3
    try clear c4
    try clear c4b0
    try clear c4b1
    try clear c5
    try clear c13
    try clear c14
    try clear c16
    try clear c20
    try clear c21
    try clear c23
    try clear c24
    try clear c25
    try clear c29
    try clear c33
    try clear c36
    try clear c42
    try clear c42b0
    try clear c44
    try clear c45
    try clear c49
    try clear hcz14_0
    try clear hcz14_1
    try clear hcz14_2
    try clear hcz14_3
    try clear hcz21_0
    try clear hcz21_1
    try clear hcz21_2
    try clear hcz21_3
    try clear hcz26_0
    try clear hcz26_1
    try clear hcz26_2
    try clear hcz26_3
    try clear hcz27_0
    try clear hcz27_1
    try clear hcz27_2
    try clear hcz27_3
    try clear hcz30_0
    try clear hcz30_1
    try clear hcz30_2
    try clear hcz30_3
    try clear hcz31_0
    try clear hcz31_1
    try clear hcz31_2
    try clear hcz31_3
    try clear hcz46_0
    try clear hcz46_1
    try clear hcz46_2
    try clear hcz46_3
    try clear hcz47_0
    try clear hcz47_1
    try clear hcz47_2
    try clear hcz47_3
    try clear hcz50_0
    try clear hcz50_1
    try clear hcz50_2
    try clear hcz50_3
    try clear hcz51_0
    try clear hcz51_1
    try clear hcz51_2
    try clear hcz51_3
    try clear hfz14_0
    try clear hfz14_1
    try clear hfz14_2
    try clear hfz14_3
    try clear hfz21_0
    try clear hfz21_1
    try clear hfz21_2
    try clear hfz21_3
    try clear hfz26_0
    try clear hfz26_1
    try clear hfz26_2
    try clear hfz26_3
    try clear hfz27_0
    try clear hfz27_1
    try clear hfz27_2
    try clear hfz27_3
    try clear hfz30_0
    try clear hfz30_1
    try clear hfz30_2
    try clear hfz30_3
    try clear hfz31_0
    try clear hfz31_1
    try clear hfz31_2
    try clear hfz31_3
    try clear hfz46_0
    try clear hfz46_1
    try clear hfz46_2
    try clear hfz46_3
    try clear hfz47_0
    try clear hfz47_1
    try clear hfz47_2
    try clear hfz47_3
    try clear hfz50_0
    try clear hfz50_1
    try clear hfz50_2
    try clear hfz50_3
    try clear hfz51_0
    try clear hfz51_1
    try clear hfz51_2
    try clear hfz51_3
    try clear p2
    obtain ⟨kq, x66_37, rfl, HA, HJ37, HO_246003, HO_257003, BK245, BK256, HB⟩ := hcut
    cases kq with
    | zero => exact absurd HA.out (by simp [laws_FnExactMailFrom.j1])
    | succ kj37 =>
     have H := HA.out
     clear HA
     simp only [laws_FnExactMailFrom.j1] at H
     by_cases c53 : x66_37 = true
     ·subst c53
      have H1 : (some false) = some r := by rw [if_pos rfl] at H; exact H
      clear H
      have H := H1
      clear H1
      obtain rfl := Option.some.inj H
      go_wp2
      go_ret
      exact ⟨by first | rfl | (simp [errW_none, errW_some] <;> rfl) | (simp [*, errW_none, errW_some] <;> rfl), us_ HB.out⟩
     replace c53 := Bool.eq_false_iff.mpr c53
     subst c53
     have H1 : ((laws_markMail.f kj37 t249 t250 t251 t252 1).bind fun bt265 => ((laws_heldMail.f kj37 t249 t250 t251 bt265.2 1).bind fun t267 => (if t267 < 0 then (some false) else (if t267 = bt265.1 then ((laws_toByteS.f kj37 l2).bind fun t268 => ((impl_MailFrom.f kj37 a0 a1 t268).bind fun bt271 => ((laws_eqMail.f kj37 bt271.1 bt271.2.1 bt271.2.2.1 bt271.2.2.2.1 t238 t239 t240 t241).bind fun t279 => (if t279 = true then (laws_FnExactMailFrom.j2 kj37 bt265.1 (bt271.2.2.2.2 != t244) t249 t250 t251 bt265.2) else (laws_FnExactMailFrom.j2 kj37 bt265.1 true t249 t250 t251 bt265.2))))) else (some false))))) = some r := by rw [if_neg (show ¬ (false = true) by decide)] at H; exact H
     clear H
     have H := H1
     clear H1
     replace H := Option.bind_eq_some_iff.mp H
     obtain ⟨⟨t265, t266⟩, A540, H⟩ := H
     replace H : ((laws_heldMail.f kj37 t249 t250 t251 t266 1).bind fun t267 => (if t267 < 0 then (some false) else (if t267 = t265 then ((laws_toByteS.f kj37 l2).bind fun t268 => ((impl_MailFrom.f kj37 a0 a1 t268).bind fun bt271 => ((laws_eqMail.f kj37 bt271.1 bt271.2.1 bt271.2.2.1 bt271.2.2.2.1 t238 t239 t240 t241).bind fun t279 => (if t279 = true then (laws_FnExactMailFrom.j2 kj37 t265 (bt271.2.2.2.2 != t244) t249 t250 t251 t266) else (laws_FnExactMailFrom.j2 kj37 t265 true t249 t250 t251 t266))))) else (some false)))) = some r := H
     have A54 := mk_ A540
     clear A540
     replace H := Option.bind_eq_some_iff.mp H
     obtain ⟨t267, A550, H⟩ := H
     replace H : (if t267 < 0 then (some false) else (if t267 = t265 then ((laws_toByteS.f kj37 l2).bind fun t268 => ((impl_MailFrom.f kj37 a0 a1 t268).bind fun bt271 => ((laws_eqMail.f kj37 bt271.1 bt271.2.1 bt271.2.2.1 bt271.2.2.2.1 t238 t239 t240 t241).bind fun t279 => (if t279 = true then (laws_FnExactMailFrom.j2 kj37 t265 (bt271.2.2.2.2 != t244) t249 t250 t251 t266) else (laws_FnExactMailFrom.j2 kj37 t265 true t249 t250 t251 t266))))) else (some false))) = some r := H
     have A55 := mk_ A550
     clear A550
     by_cases c56 : t267 < 0
     ·rw [if_pos c56] at H
      have c56b0 : decide (t267 < 0) = true := decide_eq_true c56
      clear c56
      obtain rfl := Option.some.inj H
      have hnb57 := NB256_245.out
      have hnc57 := NB245_256.out
      obtain ⟨hcz58_0, hcz58_1, hcz58_2, hcz58_3, hfz58_0, hfz58_1, hfz58_2, hfz58_3⟩ := cells4_ BK256.out
      go_wp2_with (first | ((with_reducible refine gate_callee (f := 15) rfl ?_); refine goesL_ (some 69) rfl rfl Try.func15 (by kernel_rfl) rfl #[.agg #[.int .i64 t249, .int .i64 t250, .int .i64 t251, .slice Ao22 t252.length co22], .int .i64 1] rfl (by (try simp only [lm_, lo_, ln_]); first | done | rfl | (simp only [List.length_drop, List.length_take]; rfl)) ?_; (with_reducible refine (laws_markMail.calls kj37 t249 t250 t251 (fun k_ => some k_ = (.slice Ao22 t252.length co22 : Value).ownBlock) (.slice Ao22 t252.length co22) t252 1 t265 t266 w _ ?side1 ?side2 A54.out).mono ?_); (case side1 => repeat (first | (with_reducible first | exact HB.out | apply na_ | apply nn_ | apply nw_ | refine bs_ ?_ GE245.out | refine bs_ ?_ GE256.out) | exact HB.out)); (case side2 => exact Kd.R_tight rfl HO_257003.out); rintro e w59 ⟨rfl, hy0, hb, hkp⟩; refine ⟨_, rfl, ?_⟩; have n0_ := mk_ (Kd.R_mono (ok' := fun k_ => some k_ ≠ (.slice Ao22 t252.length co22 : Value).ownBlock) (Kd.R_keptB (HO_246003.out) hkp (fun k_ hk_ hs_ => (hk_) hs_)) (fun k_ hk_ => hk_.1)); have n1_ := mk_ (Kd.R_reok rfl hy0 (fun k_ e_ => HO_257003.out.1 k_ e_)); have n2_ := mk_ (blk_kept (u_ BK245.out) hkp (fun hs_ => (fun e_ => (Kd.R_ne HO_257003.out BK245.out (by decide)) e_) hs_)); have n3_ := mk_ (blk_kept (u_ BK256.out) hkp (fun hs_ => (fun e_ => (Kd.R_ne HO_257003.out BK256.out (by decide)) e_) hs_)); have n4_ := mk_ (hb); clear HO_246003; clear HO_257003; clear BK245; clear BK256; clear HB; have HO_246003 := n0_; have HO_257003 := n1_; have BK245 := n2_; have BK256 := n3_; have HB := n4_; clear n0_ n1_ n2_ n3_ n4_; (try clear hb); (try clear hkp); (try clear hy0); obtain ⟨hcz60_0, hcz60_1, hcz60_2, hcz60_3, hfz60_0, hfz60_1, hfz60_2, hfz60_3⟩ := cells4_ BK256.out) | ((with_reducible refine gate_callee (f := 25) rfl ?_); refine goesL_ (some 72) rfl rfl Try.func25 (by kernel_rfl) rfl #[.agg #[.int .i64 t249, .int .i64 t250, .int .i64 t251, .slice Ao22 t266.length co22], .int .i64 1] rfl (by (try simp only [List.map_toArray, List.map_cons, List.map_nil]); first | done | (rw [show t266.length = t252.length from (Kd.R_reads' HO_257003.out).1.symm] <;> rfl) | rfl | (simp only [List.length_drop, List.length_take]; rfl)) ?_; (with_reducible refine (laws_heldMail.calls kj37 t249 t250 t251 _ _ t266 1 t267 _ ?side1 ?side2 A55.out).mono ?_); (case side1 => repeat (first | exact (Kd.R_reads' HO_257003.out).2.2 | (with_reducible refine Kd.C_alloc ?_ _) | (with_reducible refine Kd.C_drewN ?_ _) | (with_reducible refine Kd.C_drew ?_))); (case side2 => rw [show t266.length = t252.length from (Kd.R_reads' HO_257003.out).1.symm]; exact (Kd.R_reads' HO_257003.out).2.1); rintro e w61 ⟨rfl, hb⟩; refine ⟨_, rfl, ?_⟩; have n0_ := mk_ (Kd.R_below (Kd.ur_ HO_246003.out) hb); have n1_ := mk_ (Kd.R_below (Kd.ur_ HO_257003.out) hb); have n2_ := mk_ (blk_below (u_ BK245.out) hb); have n3_ := mk_ (blk_below (u_ BK256.out) hb); have n4_ := mk_ (below_step (us_ HB.out) hb); clear HO_246003; clear HO_257003; clear BK245; clear BK256; clear HB; have HO_246003 := n0_; have HO_257003 := n1_; have BK245 := n2_; have BK256 := n3_; have HB := n4_; clear n0_ n1_ n2_ n3_ n4_; (try clear hb); (try clear hb2); (try clear hk); (try clear hi)))
      go_ret
      exact ⟨by first | rfl | (simp [errW_none, errW_some] <;> rfl) | (simp [*, errW_none, errW_some] <;> rfl), us_ HB.out⟩
     rw [if_neg c56] at H
     have c56b0 : decide (t267 < 0) = false := decide_eq_false c56
     clear c56
     by_cases c62 : t267 = t265
     rotate_left
     ·rw [if_neg c62] at H
      have c62b0 : (t267 == t265) = false := beq_eq_false_iff_ne.mpr c62
      have c62b1 : (t267 != t265) = true := bne_iff_ne.mpr c62
      obtain rfl := Option.some.inj H
      have hnb109 := NB256_245.out
      have hnc109 := NB245_256.out
      obtain ⟨hcz110_0, hcz110_1, hcz110_2, hcz110_3, hfz110_0, hfz110_1, hfz110_2, hfz110_3⟩ := cells4_ BK256.out
      go_wp2_with (first | ((with_reducible refine gate_callee (f := 15) rfl ?_); refine goesL_ (some 69) rfl rfl Try.func15 (by kernel_rfl) rfl #[.agg #[.int .i64 t249, .int .i64 t250, .int .i64 t251, .slice Ao22 t252.length co22], .int .i64 1] rfl (by (try simp only [lm_, lo_, ln_]); first | done | rfl | (simp only [List.length_drop, List.length_take]; rfl)) ?_; (with_reducible refine (laws_markMail.calls kj37 t249 t250 t251 (fun k_ => some k_ = (.slice Ao22 t252.length co22 : Value).ownBlock) (.slice Ao22 t252.length co22) t252 1 t265 t266 w _ ?side1 ?side2 A54.out).mono ?_); (case side1 => repeat (first | (with_reducible first | exact HB.out | apply na_ | apply nn_ | apply nw_ | refine bs_ ?_ GE245.out | refine bs_ ?_ GE256.out) | exact HB.out)); (case side2 => exact Kd.R_tight rfl HO_257003.out); rintro e w111 ⟨rfl, hy0, hb, hkp⟩; refine ⟨_, rfl, ?_⟩; have n0_ := mk_ (Kd.R_mono (ok' := fun k_ => some k_ ≠ (.slice Ao22 t252.length co22 : Value).ownBlock) (Kd.R_keptB (HO_246003.out) hkp (fun k_ hk_ hs_ => (hk_) hs_)) (fun k_ hk_ => hk_.1)); have n1_ := mk_ (Kd.R_reok rfl hy0 (fun k_ e_ => HO_257003.out.1 k_ e_)); have n2_ := mk_ (blk_kept (u_ BK245.out) hkp (fun hs_ => (fun e_ => (Kd.R_ne HO_257003.out BK245.out (by decide)) e_) hs_)); have n3_ := mk_ (blk_kept (u_ BK256.out) hkp (fun hs_ => (fun e_ => (Kd.R_ne HO_257003.out BK256.out (by decide)) e_) hs_)); have n4_ := mk_ (hb); clear HO_246003; clear HO_257003; clear BK245; clear BK256; clear HB; have HO_246003 := n0_; have HO_257003 := n1_; have BK245 := n2_; have BK256 := n3_; have HB := n4_; clear n0_ n1_ n2_ n3_ n4_; (try clear hb); (try clear hkp); (try clear hy0); obtain ⟨hcz112_0, hcz112_1, hcz112_2, hcz112_3, hfz112_0, hfz112_1, hfz112_2, hfz112_3⟩ := cells4_ BK256.out) | ((with_reducible refine gate_callee (f := 25) rfl ?_); refine goesL_ (some 72) rfl rfl Try.func25 (by kernel_rfl) rfl #[.agg #[.int .i64 t249, .int .i64 t250, .int .i64 t251, .slice Ao22 t266.length co22], .int .i64 1] rfl (by (try simp only [List.map_toArray, List.map_cons, List.map_nil]); first | done | (rw [show t266.length = t252.length from (Kd.R_reads' HO_257003.out).1.symm] <;> rfl) | rfl | (simp only [List.length_drop, List.length_take]; rfl)) ?_; (with_reducible refine (laws_heldMail.calls kj37 t249 t250 t251 _ _ t266 1 t267 _ ?side1 ?side2 A55.out).mono ?_); (case side1 => repeat (first | exact (Kd.R_reads' HO_257003.out).2.2 | (with_reducible refine Kd.C_alloc ?_ _) | (with_reducible refine Kd.C_drewN ?_ _) | (with_reducible refine Kd.C_drew ?_))); (case side2 => rw [show t266.length = t252.length from (Kd.R_reads' HO_257003.out).1.symm]; exact (Kd.R_reads' HO_257003.out).2.1); rintro e w113 ⟨rfl, hb⟩; refine ⟨_, rfl, ?_⟩; have n0_ := mk_ (Kd.R_below (Kd.ur_ HO_246003.out) hb); have n1_ := mk_ (Kd.R_below (Kd.ur_ HO_257003.out) hb); have n2_ := mk_ (blk_below (u_ BK245.out) hb); have n3_ := mk_ (blk_below (u_ BK256.out) hb); have n4_ := mk_ (below_step (us_ HB.out) hb); clear HO_246003; clear HO_257003; clear BK245; clear BK256; clear HB; have HO_246003 := n0_; have HO_257003 := n1_; have BK245 := n2_; have BK256 := n3_; have HB := n4_; clear n0_ n1_ n2_ n3_ n4_; (try clear hb); (try clear hb2); (try clear hk); (try clear hi)))
      go_ret
      exact ⟨by first | rfl | (simp [errW_none, errW_some] <;> rfl) | (simp [*, errW_none, errW_some] <;> rfl), us_ HB.out⟩
     rw [if_pos c62] at H
     have c62b0 : (t267 == t265) = true := beq_iff_eq.mpr c62
     have c62b1 : (t267 != t265) = false := bne_eq_false_iff_eq.mpr c62
     clear c62
     replace H := Option.bind_eq_some_iff.mp H
     obtain ⟨t268, A630, H⟩ := H
     replace H : ((impl_MailFrom.f kj37 a0 a1 t268).bind fun bt271 => ((laws_eqMail.f kj37 bt271.1 bt271.2.1 bt271.2.2.1 bt271.2.2.2.1 t238 t239 t240 t241).bind fun t279 => (if t279 = true then (laws_FnExactMailFrom.j2 kj37 t265 (bt271.2.2.2.2 != t244) t249 t250 t251 t266) else (laws_FnExactMailFrom.j2 kj37 t265 true t249 t250 t251 t266)))) = some r := H
     have A63 := mk_ A630
     clear A630
     replace H := Option.bind_eq_some_iff.mp H
     obtain ⟨⟨t271, t272, t273, t274, t277⟩, A640, H⟩ := H
     replace H : ((laws_eqMail.f kj37 t271 t272 t273 t274 t238 t239 t240 t241).bind fun t279 => (if t279 = true then (laws_FnExactMailFrom.j2 kj37 t265 (t277 != t244) t249 t250 t251 t266) else (laws_FnExactMailFrom.j2 kj37 t265 true t249 t250 t251 t266))) = some r := H
     have A64 := mk_ A640
     clear A640
     have HC65 := mk_ H
     clear H
     have hnb66 := NB256_245.out
     have hnc66 := NB245_256.out
     obtain ⟨hcz67_0, hcz67_1, hcz67_2, hcz67_3, hfz67_0, hfz67_1, hfz67_2, hfz67_3⟩ := cells4_ BK256.out
     go_upto_region 23 with (first | ((with_reducible refine gate_callee (f := 15) rfl ?_); refine goesL_ (some 69) rfl rfl Try.func15 (by kernel_rfl) rfl #[.agg #[.int .i64 t249, .int .i64 t250, .int .i64 t251, .slice Ao22 t252.length co22], .int .i64 1] rfl (by (try simp only [lm_, lo_, ln_]); first | done | rfl | (simp only [List.length_drop, List.length_take]; rfl)) ?_; (with_reducible refine (laws_markMail.calls kj37 t249 t250 t251 (fun k_ => some k_ = (.slice Ao22 t252.length co22 : Value).ownBlock) (.slice Ao22 t252.length co22) t252 1 t265 t266 w _ ?side1 ?side2 A54.out).mono ?_); (case side1 => repeat (first | (with_reducible first | exact HB.out | apply na_ | apply nn_ | apply nw_ | refine bs_ ?_ GE245.out | refine bs_ ?_ GE256.out) | exact HB.out)); (case side2 => exact Kd.R_tight rfl HO_257003.out); rintro e w68 ⟨rfl, hy0, hb, hkp⟩; refine ⟨_, rfl, ?_⟩; have n0_ := mk_ (Kd.R_mono (ok' := fun k_ => some k_ ≠ (.slice Ao22 t252.length co22 : Value).ownBlock) (Kd.R_keptB (HO_246003.out) hkp (fun k_ hk_ hs_ => (hk_) hs_)) (fun k_ hk_ => hk_.1)); have n1_ := mk_ (Kd.R_reok rfl hy0 (fun k_ e_ => HO_257003.out.1 k_ e_)); have n2_ := mk_ (blk_kept (u_ BK245.out) hkp (fun hs_ => (fun e_ => (Kd.R_ne HO_257003.out BK245.out (by decide)) e_) hs_)); have n3_ := mk_ (blk_kept (u_ BK256.out) hkp (fun hs_ => (fun e_ => (Kd.R_ne HO_257003.out BK256.out (by decide)) e_) hs_)); have n4_ := mk_ (hb); clear HO_246003; clear HO_257003; clear BK245; clear BK256; clear HB; have HO_246003 := n0_; have HO_257003 := n1_; have BK245 := n2_; have BK256 := n3_; have HB := n4_; clear n0_ n1_ n2_ n3_ n4_; (try clear hb); (try clear hkp); (try clear hy0); obtain ⟨hcz69_0, hcz69_1, hcz69_2, hcz69_3, hfz69_0, hfz69_1, hfz69_2, hfz69_3⟩ := cells4_ BK256.out) | ((with_reducible refine gate_callee (f := 25) rfl ?_); refine goesL_ (some 72) rfl rfl Try.func25 (by kernel_rfl) rfl #[.agg #[.int .i64 t249, .int .i64 t250, .int .i64 t251, .slice Ao22 t266.length co22], .int .i64 1] rfl (by (try simp only [List.map_toArray, List.map_cons, List.map_nil]); first | done | (rw [show t266.length = t252.length from (Kd.R_reads' HO_257003.out).1.symm] <;> rfl) | rfl | (simp only [List.length_drop, List.length_take]; rfl)) ?_; (with_reducible refine (laws_heldMail.calls kj37 t249 t250 t251 _ _ t266 1 t267 _ ?side1 ?side2 A55.out).mono ?_); (case side1 => repeat (first | exact (Kd.R_reads' HO_257003.out).2.2 | (with_reducible refine Kd.C_alloc ?_ _) | (with_reducible refine Kd.C_drewN ?_ _) | (with_reducible refine Kd.C_drew ?_))); (case side2 => rw [show t266.length = t252.length from (Kd.R_reads' HO_257003.out).1.symm]; exact (Kd.R_reads' HO_257003.out).2.1); rintro e w70 ⟨rfl, hb⟩; refine ⟨_, rfl, ?_⟩; have n0_ := mk_ (Kd.R_below (Kd.ur_ HO_246003.out) hb); have n1_ := mk_ (Kd.R_below (Kd.ur_ HO_257003.out) hb); have n2_ := mk_ (blk_below (u_ BK245.out) hb); have n3_ := mk_ (blk_below (u_ BK256.out) hb); have n4_ := mk_ (below_step (us_ HB.out) hb); clear HO_246003; clear HO_257003; clear BK245; clear BK256; clear HB; have HO_246003 := n0_; have HO_257003 := n1_; have BK245 := n2_; have BK256 := n3_; have HB := n4_; clear n0_ n1_ n2_ n3_ n4_; (try clear hb); (try clear hb2); (try clear hk); (try clear hi)) | ((with_reducible refine gate_callee (f := 24) rfl ?_); refine goesL_ (some 82) rfl rfl Try.func24 (by kernel_rfl) rfl #[.slice A2 l2.length c2] rfl (by (try simp only [lm_, lo_, ln_]); first | done | rfl | (simp only [List.length_drop, List.length_take]; rfl)) ?_; (with_reducible refine (laws_toByteS.calls kj37 _ _ l2 t268 _ ?side1 ?side2 A63.out).mono ?_); (case side1 => repeat (first | exact (Kd.C_below HR2.out HB.out) | (with_reducible refine Kd.C_alloc ?_ _) | (with_reducible refine Kd.C_drewN ?_ _) | (with_reducible refine Kd.C_drew ?_))); (case side2 => exact HC2.out); rintro e w71 ⟨v269, rfl, ho0, hb⟩; refine ⟨_, rfl, ?_⟩; have n0_ := mk_ (Kd.R_elder' (Kd.ur_ HO_246003.out) (Kd.R_base ho0) hb); have n1_ := mk_ (Kd.R_elder' (Kd.ur_ HO_257003.out) (Kd.R_base ho0) hb); have n2_ := mk_ (Kd.R_lower (Kd.R_new' (Kd.R_new' ho0 (Kd.R_lt (Kd.ur_ HO_246003.out))) (Kd.R_lt (Kd.ur_ HO_257003.out))) (below_size (us_ HB.out))); have n3_ := mk_ (blk_below (u_ BK245.out) hb); have n4_ := mk_ (blk_below (u_ BK256.out) hb); have n5_ := mk_ (below_step (us_ HB.out) hb); clear HO_246003; clear HO_257003; clear BK245; clear BK256; clear HB; have HO_246003 := n0_; have HO_257003 := n1_; have HO270 := n2_; have BK245 := n3_; have BK256 := n4_; have HB := n5_; clear n0_ n1_ n2_ n3_ n4_ n5_; (try clear hb); (try clear hb2); (try clear hk); (try clear hi); (try clear ho0); obtain ⟨Ao72, co72, eo72⟩ := Kd.R_slice HO270.out; subst eo72) | ((with_reducible refine gate_callee (f := 21) rfl ?_); refine goesL_ (some 83) rfl rfl Try.func21 (by kernel_rfl) rfl #[.int .i64 a0, .int .i64 a1, .slice Ao72 t268.length co72] rfl (by (try simp only [lm_, lo_, ln_]); first | done | rfl | (simp only [List.length_drop, List.length_take]; rfl)) ?_; (with_reducible refine (impl_MailFrom.calls kj37 a0 a1 _ _ t268 t271 t272 t273 t274 t277 _ ?side1 ?side2 A64.out).mono ?_); (case side1 => repeat (first | exact (Kd.R_reads' HO270.out).2.2 | (with_reducible refine Kd.C_alloc ?_ _) | (with_reducible refine Kd.C_drewN ?_ _) | (with_reducible refine Kd.C_drew ?_))); (case side2 => exact (Kd.R_reads' HO270.out).2.1); rintro e w73 ⟨v275, rfl, ho0, hb⟩; refine ⟨_, rfl, ?_⟩; have n0_ := mk_ (Kd.R_elder' (Kd.ur_ HO_246003.out) (Kd.R_base ho0) hb); have n1_ := mk_ (Kd.R_elder' (Kd.ur_ HO_257003.out) (Kd.R_base ho0) hb); have n2_ := mk_ (Kd.R_elder' (Kd.ur_ HO270.out) (Kd.R_base ho0) hb); have n3_ := mk_ (Kd.R_lower (Kd.R_new' (Kd.R_new' (Kd.R_new' ho0 (Kd.R_lt (Kd.ur_ HO_246003.out))) (Kd.R_lt (Kd.ur_ HO_257003.out))) (Kd.R_lt (Kd.ur_ HO270.out))) (below_size (us_ HB.out))); have n4_ := mk_ (blk_below (u_ BK245.out) hb); have n5_ := mk_ (blk_below (u_ BK256.out) hb); have n6_ := mk_ (below_step (us_ HB.out) hb); clear HO_246003; clear HO_257003; clear HO270; clear BK245; clear BK256; clear HB; have HO_246003 := n0_; have HO_257003 := n1_; have HO270 := n2_; have HO276 := n3_; have BK245 := n4_; have BK256 := n5_; have HB := n6_; clear n0_ n1_ n2_ n3_ n4_ n5_ n6_; (try clear hb); (try clear hb2); (try clear hk); (try clear hi); (try clear ho0)) | ((with_reducible refine gate_dst (N := 15) rfl ?_); refine box_event ?hg (N := 15) ?hd (cs := #[.int .i64 0, .int .i64 0, .int .i64 0, .slice none 0 0]) (t := 27) ?hr ?_; (case hd => rfl); (case hg => rfl); (case hr => first | (go_simp; done) | (go_simp; rfl)); intro gb278 hg w74 hbox hb; have n0_ := mk_ (Kd.R_below (Kd.ur_ HO_246003.out) hb); have n1_ := mk_ (Kd.R_below (Kd.ur_ HO_257003.out) hb); have n2_ := mk_ (Kd.R_below (Kd.ur_ HO270.out) hb); have n3_ := mk_ (Kd.R_below (Kd.ur_ HO276.out) hb); have n4_ := mk_ (blk_below (u_ BK245.out) hb); have n5_ := mk_ (blk_below (u_ BK256.out) hb); have n6_ := mk_ (below_step (us_ HB.out) hb); have n7_ := mk_ (hbox); have n8_ := mk_ ((by rw [hg]; exact (below_size (us_ HB.out)) : w.heap.size ≤ gb278)); have n9_ := mk_ ((by rw [hg]; exact (below_size (us_ HB.out)) : w.heap.size ≤ gb278)); have n10_ := mk_ ((by rw [hg]; exact Nat.ne_of_lt (blk_lt (u_ BK245.out)) : gb245 ≠ gb278)); have n11_ := mk_ ((by rw [hg]; exact Nat.ne_of_gt (blk_lt (u_ BK245.out)) : gb278 ≠ gb245)); have n12_ := mk_ ((by rw [hg]; exact Nat.ne_of_lt (blk_lt (u_ BK256.out)) : gb256 ≠ gb278)); have n13_ := mk_ ((by rw [hg]; exact Nat.ne_of_gt (blk_lt (u_ BK256.out)) : gb278 ≠ gb256)); clear HO_246003; clear HO_257003; clear HO270; clear HO276; clear BK245; clear BK256; clear HB; have HO_246003 := n0_; have HO_257003 := n1_; have HO270 := n2_; have HO276 := n3_; have BK245 := n4_; have BK256 := n5_; have HB := n6_; have BK278 := n7_; have GW278 := n8_; have GE278 := ge_ n9_.out; have NB245_278 := nq_ n10_.out; have NB278_245 := nq_ n11_.out; have NB256_278 := nq_ n12_.out; have NB278_256 := nq_ n13_.out; clear n0_ n1_ n2_ n3_ n4_ n5_ n6_ n7_ n8_ n9_ n10_ n11_ n12_ n13_; clear hb hbox hg; have hnb75 := NB278_245.out; have hnc75 := NB245_278.out; have hnb76 := NB278_256.out; have hnc76 := NB256_278.out; obtain ⟨hcz77_0, hcz77_1, hcz77_2, hcz77_3, hfz77_0, hfz77_1, hfz77_2, hfz77_3⟩ := cells4_ BK278.out; obtain ⟨Ao78, co78, eo78⟩ := Kd.R_slice HO276.out; subst eo78))
     (try simp only [Act.put, la_, lz_, ls_])
     go_cut [94] (fun v94 wc => ∃ (kq : Nat) (x94_64 : Bool), v94 = .bool x94_64 ∧ Aside0 (laws_FnExactMailFrom.j2 kq t265 x94_64 t249 t250 t251 t266 = some r) ∧ Aside0 (kq ≤ kj37) ∧ Aside0 (Kd.R (Kd.int .u8) 5 wc w.heap.size (fun k_ => some k_ ≠ ((.slice Ao22 t252.length co22) : Value).ownBlock ∧ some k_ ≠ ((.slice Ao78 t274.length co78) : Value).ownBlock) (.slice Ao15 t241.length co15) t241) ∧ Aside0 (Kd.R (Kd.int .u8) 5 wc w.heap.size (fun k_ => some k_ ≠ ((.slice Ao15 t241.length co15) : Value).ownBlock ∧ some k_ ≠ ((.slice Ao78 t274.length co78) : Value).ownBlock) (.slice Ao22 t252.length co22) t266) ∧ Aside0 (Kd.R (Kd.int .u8) 5 wc w.heap.size (fun k_ => some k_ ≠ ((.slice Ao15 t241.length co15) : Value).ownBlock ∧ some k_ ≠ ((.slice Ao22 t252.length co22) : Value).ownBlock) (.slice Ao78 t274.length co78) t274) ∧ Aside0 (wc.heap[gb245]? = some (.cells #[.int .i64 t238, .int .i64 t239, .int .i64 t240, (.slice Ao15 t241.length co15)] 27 (0, 0))) ∧ Aside0 (wc.heap[gb256]? = some (.cells #[.int .i64 t249, .int .i64 t250, .int .i64 t251, (.slice Ao22 t252.length co22)] 27 (0, 0))) ∧ Aside0 (wc.heap[gb278]? = some (.cells #[.int .i64 t271, .int .i64 t272, .int .i64 t273, (.slice Ao78 t274.length co78)] 27 (0, 0))) ∧ Aside0 (Below w.heap.size w wc))
     case first =>
      have H := HC65.out
      clear HC65
      replace H := Option.bind_eq_some_iff.mp H
      obtain ⟨t279, A790, H⟩ := H
      replace H : (if t279 = true then (laws_FnExactMailFrom.j2 kj37 t265 (t277 != t244) t249 t250 t251 t266) else (laws_FnExactMailFrom.j2 kj37 t265 true t249 t250 t251 t266)) = some r := H
      have A79 := mk_ A790
      clear A790
      by_cases c80 : t279 = true
      ·subst c80
       have H1 : (laws_FnExactMailFrom.j2 kj37 t265 (t277 != t244) t249 t250 t251 t266) = some r := by rw [if_pos rfl] at H; exact H
       clear H
       have H := H1
       clear H1
       have H' := mk_ H
       clear H
       have hnb81 := NB278_245.out
       have hnc81 := NB245_278.out
       have hnb82 := NB278_256.out
       have hnc82 := NB256_278.out
       obtain ⟨hcz83_0, hcz83_1, hcz83_2, hcz83_3, hfz83_0, hfz83_1, hfz83_2, hfz83_3⟩ := cells4_ BK278.out
       have hnb84 := NB245_256.out
       have hnc84 := NB256_245.out
       obtain ⟨hcz85_0, hcz85_1, hcz85_2, hcz85_3, hfz85_0, hfz85_1, hfz85_2, hfz85_3⟩ := cells4_ BK245.out
       go_wp2_with (first | ((with_reducible refine gate_callee (f := 14) rfl ?_); refine goesL_ (some 88) rfl rfl Try.func14 (by kernel_rfl) rfl #[.agg #[.int .i64 t271, .int .i64 t272, .int .i64 t273, .slice Ao78 t274.length co78], .agg #[.int .i64 t238, .int .i64 t239, .int .i64 t240, .slice Ao15 t241.length co15]] rfl (by (try simp only [lm_, lo_, ln_]); first | done | rfl | (simp only [List.length_drop, List.length_take]; rfl)) ?_; (with_reducible refine (laws_eqMail.calls kj37 t271 t272 t273 _ _ t274 t238 t239 t240 _ _ t241 true _ ?side1 ?side2 ?side3 ?side4 A79.out).mono ?_); (case side1 => refine (Kd.R_reads' (e := 5) (base := w.heap.size) (ok := fun k_ => (((True ∧ some k_ ≠ (.slice Ao15 t241.length co15 : Value).ownBlock) ∧ some k_ ≠ (.slice Ao22 t252.length co22 : Value).ownBlock) ∧ some k_ ≠ (.slice Ao72 t268.length co72 : Value).ownBlock)) (n := t274.length) (c := co78) ?_).2.2; exact (by (with_reducible repeat (first | apply Kd.R_alloc | apply Kd.R_drewN | apply Kd.R_drew)); exact (Kd.R_mono (Kd.R_far (p := ⟨gb278, 3, none⟩) (Kd.R_far (p := ⟨gb278, 2, none⟩) (Kd.R_far (p := ⟨gb278, 1, none⟩) (Kd.R_far (p := ⟨gb278, 0, none⟩) (Kd.R_types HO276.out BK278.out (by decide)) (fun _ hk => hk.2) (.int .i64 t271)) (fun _ hk => hk.2) (.int .i64 t272)) (fun _ hk => hk.2) (.int .i64 t273)) (fun _ hk => hk.2) (.slice Ao78 t274.length co78)) (fun _ h_ => by first | exact h_.1 | simp only [h_, ne_eq, not_false_eq_true, and_self])))); (case side2 => exact (Kd.R_reads' HO276.out).2.1); (case side3 => refine (Kd.R_reads' (e := 5) (base := w.heap.size) (ok := fun k_ => ((some k_ ≠ (.slice Ao22 t252.length co22 : Value).ownBlock ∧ some k_ ≠ (.slice Ao72 t268.length co72 : Value).ownBlock) ∧ some k_ ≠ (.slice Ao78 t274.length co78 : Value).ownBlock)) (n := t241.length) (c := co15) ?_).2.2; exact (by (with_reducible repeat (first | apply Kd.R_alloc | apply Kd.R_drewN | apply Kd.R_drew)); exact (Kd.R_mono (Kd.R_far (p := ⟨gb278, 3, none⟩) (Kd.R_far (p := ⟨gb278, 2, none⟩) (Kd.R_far (p := ⟨gb278, 1, none⟩) (Kd.R_far (p := ⟨gb278, 0, none⟩) (Kd.R_types HO_246003.out BK278.out (by decide)) (fun _ hk => hk.2) (.int .i64 t271)) (fun _ hk => hk.2) (.int .i64 t272)) (fun _ hk => hk.2) (.int .i64 t273)) (fun _ hk => hk.2) (.slice Ao78 t274.length co78)) (fun _ h_ => by first | exact h_.1 | simp only [h_, ne_eq, not_false_eq_true, and_self])))); (case side4 => exact (Kd.R_reads' HO_246003.out).2.1); rintro e w86 ⟨rfl, hb⟩; refine ⟨_, rfl, ?_⟩; have n0_ := mk_ (Kd.R_below (by (with_reducible repeat (first | apply Kd.R_alloc | apply Kd.R_drewN | apply Kd.R_drew)); exact (Kd.R_mono (Kd.R_far (p := ⟨gb278, 3, none⟩) (Kd.R_far (p := ⟨gb278, 2, none⟩) (Kd.R_far (p := ⟨gb278, 1, none⟩) (Kd.R_far (p := ⟨gb278, 0, none⟩) (Kd.R_types HO_246003.out BK278.out (by decide)) (fun _ hk => hk.2) (.int .i64 t271)) (fun _ hk => hk.2) (.int .i64 t272)) (fun _ hk => hk.2) (.int .i64 t273)) (fun _ hk => hk.2) (.slice Ao78 t274.length co78)) (fun _ h_ => by first | exact h_.1 | simp only [h_, ne_eq, not_false_eq_true, and_self]))) hb); have n1_ := mk_ (Kd.R_below (by (with_reducible repeat (first | apply Kd.R_alloc | apply Kd.R_drewN | apply Kd.R_drew)); exact (Kd.R_mono (Kd.R_far (p := ⟨gb278, 3, none⟩) (Kd.R_far (p := ⟨gb278, 2, none⟩) (Kd.R_far (p := ⟨gb278, 1, none⟩) (Kd.R_far (p := ⟨gb278, 0, none⟩) (Kd.R_types HO_257003.out BK278.out (by decide)) (fun _ hk => hk.2) (.int .i64 t271)) (fun _ hk => hk.2) (.int .i64 t272)) (fun _ hk => hk.2) (.int .i64 t273)) (fun _ hk => hk.2) (.slice Ao78 t274.length co78)) (fun _ h_ => by first | exact h_.1 | simp only [h_, ne_eq, not_false_eq_true, and_self]))) hb); have n2_ := mk_ (Kd.R_below (by (with_reducible repeat (first | apply Kd.R_alloc | apply Kd.R_drewN | apply Kd.R_drew)); exact (Kd.R_mono (Kd.R_far (p := ⟨gb278, 3, none⟩) (Kd.R_far (p := ⟨gb278, 2, none⟩) (Kd.R_far (p := ⟨gb278, 1, none⟩) (Kd.R_far (p := ⟨gb278, 0, none⟩) (Kd.R_types HO270.out BK278.out (by decide)) (fun _ hk => hk.2) (.int .i64 t271)) (fun _ hk => hk.2) (.int .i64 t272)) (fun _ hk => hk.2) (.int .i64 t273)) (fun _ hk => hk.2) (.slice Ao78 t274.length co78)) (fun _ h_ => by first | exact h_.1 | simp only [h_, ne_eq, not_false_eq_true, and_self]))) hb); have n3_ := mk_ (Kd.R_below (by (with_reducible repeat (first | apply Kd.R_alloc | apply Kd.R_drewN | apply Kd.R_drew)); exact (Kd.R_mono (Kd.R_far (p := ⟨gb278, 3, none⟩) (Kd.R_far (p := ⟨gb278, 2, none⟩) (Kd.R_far (p := ⟨gb278, 1, none⟩) (Kd.R_far (p := ⟨gb278, 0, none⟩) (Kd.R_types HO276.out BK278.out (by decide)) (fun _ hk => hk.2) (.int .i64 t271)) (fun _ hk => hk.2) (.int .i64 t272)) (fun _ hk => hk.2) (.int .i64 t273)) (fun _ hk => hk.2) (.slice Ao78 t274.length co78)) (fun _ h_ => by first | exact h_.1 | simp only [h_, ne_eq, not_false_eq_true, and_self]))) hb); have n4_ := mk_ (blk_below (g := gb245) (o := .cells #[.int .i64 t238, .int .i64 t239, .int .i64 t240, .slice Ao15 t241.length co15] 27 (0, 0)) (uf_ BK245.out) hb); have n5_ := mk_ (blk_below (g := gb256) (o := .cells #[.int .i64 t249, .int .i64 t250, .int .i64 t251, .slice Ao22 t252.length co22] 27 (0, 0)) (uf_ BK256.out) hb); have n6_ := mk_ (blk_below (g := gb278) (o := .cells #[.int .i64 t271, .int .i64 t272, .int .i64 t273, .slice Ao78 t274.length co78] 27 (0, 0)) (by (with_reducible repeat (first | refine bn_ ?_ _ | refine bw_ ?_ | refine ba_ ?_ _)); refine blk_put (cs := #[.int .i64 t271, .int .i64 t272, .int .i64 t273, .slice none 0 0]) ?_ 3 _ rfl; (with_reducible repeat (first | refine bn_ ?_ _ | refine bw_ ?_ | refine ba_ ?_ _)); refine blk_put (cs := #[.int .i64 t271, .int .i64 t272, .int .i64 0, .slice none 0 0]) ?_ 2 _ rfl; (with_reducible repeat (first | refine bn_ ?_ _ | refine bw_ ?_ | refine ba_ ?_ _)); refine blk_put (cs := #[.int .i64 t271, .int .i64 0, .int .i64 0, .slice none 0 0]) ?_ 1 _ rfl; (with_reducible repeat (first | refine bn_ ?_ _ | refine bw_ ?_ | refine ba_ ?_ _)); refine blk_put (cs := #[.int .i64 0, .int .i64 0, .int .i64 0, .slice none 0 0]) ?_ 0 _ rfl; (with_reducible repeat (first | refine bn_ ?_ _ | refine bw_ ?_ | refine ba_ ?_ _)); exact BK278.out) hb); have n7_ := mk_ (below_step (us_ HB.out) hb); clear HO_246003; clear HO_257003; clear HO270; clear HO276; clear BK245; clear BK256; clear BK278; clear HB; have HO_246003 := n0_; have HO_257003 := n1_; have HO270 := n2_; have HO276 := n3_; have BK245 := n4_; have BK256 := n5_; have BK278 := n6_; have HB := n7_; clear n0_ n1_ n2_ n3_ n4_ n5_ n6_ n7_; (try clear hb); (try clear hb2); (try clear hk); (try clear hi)))
       go_meet
       case rel => exact ⟨_, ((t277 != t244)), (by first | rfl | (simp; done) | (simp [*]; done)), H', ⟨by have := HJ8.out; have := HJ37.out; first | omega | exact Nat.le_refl _⟩, ⟨by (with_reducible repeat (first | apply Kd.R_alloc | apply Kd.R_drewN | apply Kd.R_drew)); exact Kd.R_mono HO_246003.out (fun _ hk => by first | exact ⟨hk.1.1, hk.2⟩ | exact hk.1 | exact hk | exact ⟨hk.1, hk.2⟩ | exact ⟨.inr hk.1, hk.2⟩ | simp only [hk, ne_eq, not_false_eq_true, and_self])⟩, ⟨by (with_reducible repeat (first | apply Kd.R_alloc | apply Kd.R_drewN | apply Kd.R_drew)); exact Kd.R_mono HO_257003.out (fun _ hk => by first | exact ⟨hk.1.1, hk.2⟩ | exact hk.1 | exact hk | exact ⟨hk.1, hk.2⟩ | exact ⟨.inr hk.1, hk.2⟩ | simp only [hk, ne_eq, not_false_eq_true, and_self])⟩, ⟨by (with_reducible repeat (first | apply Kd.R_alloc | apply Kd.R_drewN | apply Kd.R_drew)); exact Kd.R_mono HO276.out (fun _ hk => by first | exact ⟨hk.1.1.2, hk.1.2⟩ | exact hk.1 | exact hk | exact ⟨hk.1, hk.2⟩ | exact ⟨.inr hk.1, hk.2⟩ | simp only [hk, ne_eq, not_false_eq_true, and_self])⟩, ⟨u_ BK245.out⟩, ⟨u_ BK256.out⟩, ⟨u_ BK278.out⟩, ⟨us_ HB.out⟩⟩
      replace c80 := Bool.eq_false_iff.mpr c80
      subst c80
      have H1 : (laws_FnExactMailFrom.j2 kj37 t265 true t249 t250 t251 t266) = some r := by rw [if_neg (show ¬ (false = true) by decide)] at H; exact H
      clear H
      have H := H1
      clear H1
      have H' := mk_ H
      clear H
      have hnb87 := NB278_245.out
      have hnc87 := NB245_278.out
      have hnb88 := NB278_256.out
      have hnc88 := NB256_278.out
      obtain ⟨hcz89_0, hcz89_1, hcz89_2, hcz89_3, hfz89_0, hfz89_1, hfz89_2, hfz89_3⟩ := cells4_ BK278.out
      have hnb90 := NB245_256.out
      have hnc90 := NB256_245.out
      obtain ⟨hcz91_0, hcz91_1, hcz91_2, hcz91_3, hfz91_0, hfz91_1, hfz91_2, hfz91_3⟩ := cells4_ BK245.out
      go_wp2_with (first | ((with_reducible refine gate_callee (f := 14) rfl ?_); refine goesL_ (some 88) rfl rfl Try.func14 (by kernel_rfl) rfl #[.agg #[.int .i64 t271, .int .i64 t272, .int .i64 t273, .slice Ao78 t274.length co78], .agg #[.int .i64 t238, .int .i64 t239, .int .i64 t240, .slice Ao15 t241.length co15]] rfl (by (try simp only [lm_, lo_, ln_]); first | done | rfl | (simp only [List.length_drop, List.length_take]; rfl)) ?_; (with_reducible refine (laws_eqMail.calls kj37 t271 t272 t273 _ _ t274 t238 t239 t240 _ _ t241 false _ ?side1 ?side2 ?side3 ?side4 A79.out).mono ?_); (case side1 => refine (Kd.R_reads' (e := 5) (base := w.heap.size) (ok := fun k_ => (((True ∧ some k_ ≠ (.slice Ao15 t241.length co15 : Value).ownBlock) ∧ some k_ ≠ (.slice Ao22 t252.length co22 : Value).ownBlock) ∧ some k_ ≠ (.slice Ao72 t268.length co72 : Value).ownBlock)) (n := t274.length) (c := co78) ?_).2.2; exact (by (with_reducible repeat (first | apply Kd.R_alloc | apply Kd.R_drewN | apply Kd.R_drew)); exact (Kd.R_mono (Kd.R_far (p := ⟨gb278, 3, none⟩) (Kd.R_far (p := ⟨gb278, 2, none⟩) (Kd.R_far (p := ⟨gb278, 1, none⟩) (Kd.R_far (p := ⟨gb278, 0, none⟩) (Kd.R_types HO276.out BK278.out (by decide)) (fun _ hk => hk.2) (.int .i64 t271)) (fun _ hk => hk.2) (.int .i64 t272)) (fun _ hk => hk.2) (.int .i64 t273)) (fun _ hk => hk.2) (.slice Ao78 t274.length co78)) (fun _ h_ => by first | exact h_.1 | simp only [h_, ne_eq, not_false_eq_true, and_self])))); (case side2 => exact (Kd.R_reads' HO276.out).2.1); (case side3 => refine (Kd.R_reads' (e := 5) (base := w.heap.size) (ok := fun k_ => ((some k_ ≠ (.slice Ao22 t252.length co22 : Value).ownBlock ∧ some k_ ≠ (.slice Ao72 t268.length co72 : Value).ownBlock) ∧ some k_ ≠ (.slice Ao78 t274.length co78 : Value).ownBlock)) (n := t241.length) (c := co15) ?_).2.2; exact (by (with_reducible repeat (first | apply Kd.R_alloc | apply Kd.R_drewN | apply Kd.R_drew)); exact (Kd.R_mono (Kd.R_far (p := ⟨gb278, 3, none⟩) (Kd.R_far (p := ⟨gb278, 2, none⟩) (Kd.R_far (p := ⟨gb278, 1, none⟩) (Kd.R_far (p := ⟨gb278, 0, none⟩) (Kd.R_types HO_246003.out BK278.out (by decide)) (fun _ hk => hk.2) (.int .i64 t271)) (fun _ hk => hk.2) (.int .i64 t272)) (fun _ hk => hk.2) (.int .i64 t273)) (fun _ hk => hk.2) (.slice Ao78 t274.length co78)) (fun _ h_ => by first | exact h_.1 | simp only [h_, ne_eq, not_false_eq_true, and_self])))); (case side4 => exact (Kd.R_reads' HO_246003.out).2.1); rintro e w92 ⟨rfl, hb⟩; refine ⟨_, rfl, ?_⟩; have n0_ := mk_ (Kd.R_below (by (with_reducible repeat (first | apply Kd.R_alloc | apply Kd.R_drewN | apply Kd.R_drew)); exact (Kd.R_mono (Kd.R_far (p := ⟨gb278, 3, none⟩) (Kd.R_far (p := ⟨gb278, 2, none⟩) (Kd.R_far (p := ⟨gb278, 1, none⟩) (Kd.R_far (p := ⟨gb278, 0, none⟩) (Kd.R_types HO_246003.out BK278.out (by decide)) (fun _ hk => hk.2) (.int .i64 t271)) (fun _ hk => hk.2) (.int .i64 t272)) (fun _ hk => hk.2) (.int .i64 t273)) (fun _ hk => hk.2) (.slice Ao78 t274.length co78)) (fun _ h_ => by first | exact h_.1 | simp only [h_, ne_eq, not_false_eq_true, and_self]))) hb); have n1_ := mk_ (Kd.R_below (by (with_reducible repeat (first | apply Kd.R_alloc | apply Kd.R_drewN | apply Kd.R_drew)); exact (Kd.R_mono (Kd.R_far (p := ⟨gb278, 3, none⟩) (Kd.R_far (p := ⟨gb278, 2, none⟩) (Kd.R_far (p := ⟨gb278, 1, none⟩) (Kd.R_far (p := ⟨gb278, 0, none⟩) (Kd.R_types HO_257003.out BK278.out (by decide)) (fun _ hk => hk.2) (.int .i64 t271)) (fun _ hk => hk.2) (.int .i64 t272)) (fun _ hk => hk.2) (.int .i64 t273)) (fun _ hk => hk.2) (.slice Ao78 t274.length co78)) (fun _ h_ => by first | exact h_.1 | simp only [h_, ne_eq, not_false_eq_true, and_self]))) hb); have n2_ := mk_ (Kd.R_below (by (with_reducible repeat (first | apply Kd.R_alloc | apply Kd.R_drewN | apply Kd.R_drew)); exact (Kd.R_mono (Kd.R_far (p := ⟨gb278, 3, none⟩) (Kd.R_far (p := ⟨gb278, 2, none⟩) (Kd.R_far (p := ⟨gb278, 1, none⟩) (Kd.R_far (p := ⟨gb278, 0, none⟩) (Kd.R_types HO270.out BK278.out (by decide)) (fun _ hk => hk.2) (.int .i64 t271)) (fun _ hk => hk.2) (.int .i64 t272)) (fun _ hk => hk.2) (.int .i64 t273)) (fun _ hk => hk.2) (.slice Ao78 t274.length co78)) (fun _ h_ => by first | exact h_.1 | simp only [h_, ne_eq, not_false_eq_true, and_self]))) hb); have n3_ := mk_ (Kd.R_below (by (with_reducible repeat (first | apply Kd.R_alloc | apply Kd.R_drewN | apply Kd.R_drew)); exact (Kd.R_mono (Kd.R_far (p := ⟨gb278, 3, none⟩) (Kd.R_far (p := ⟨gb278, 2, none⟩) (Kd.R_far (p := ⟨gb278, 1, none⟩) (Kd.R_far (p := ⟨gb278, 0, none⟩) (Kd.R_types HO276.out BK278.out (by decide)) (fun _ hk => hk.2) (.int .i64 t271)) (fun _ hk => hk.2) (.int .i64 t272)) (fun _ hk => hk.2) (.int .i64 t273)) (fun _ hk => hk.2) (.slice Ao78 t274.length co78)) (fun _ h_ => by first | exact h_.1 | simp only [h_, ne_eq, not_false_eq_true, and_self]))) hb); have n4_ := mk_ (blk_below (g := gb245) (o := .cells #[.int .i64 t238, .int .i64 t239, .int .i64 t240, .slice Ao15 t241.length co15] 27 (0, 0)) (uf_ BK245.out) hb); have n5_ := mk_ (blk_below (g := gb256) (o := .cells #[.int .i64 t249, .int .i64 t250, .int .i64 t251, .slice Ao22 t252.length co22] 27 (0, 0)) (uf_ BK256.out) hb); have n6_ := mk_ (blk_below (g := gb278) (o := .cells #[.int .i64 t271, .int .i64 t272, .int .i64 t273, .slice Ao78 t274.length co78] 27 (0, 0)) (by (with_reducible repeat (first | refine bn_ ?_ _ | refine bw_ ?_ | refine ba_ ?_ _)); refine blk_put (cs := #[.int .i64 t271, .int .i64 t272, .int .i64 t273, .slice none 0 0]) ?_ 3 _ rfl; (with_reducible repeat (first | refine bn_ ?_ _ | refine bw_ ?_ | refine ba_ ?_ _)); refine blk_put (cs := #[.int .i64 t271, .int .i64 t272, .int .i64 0, .slice none 0 0]) ?_ 2 _ rfl; (with_reducible repeat (first | refine bn_ ?_ _ | refine bw_ ?_ | refine ba_ ?_ _)); refine blk_put (cs := #[.int .i64 t271, .int .i64 0, .int .i64 0, .slice none 0 0]) ?_ 1 _ rfl; (with_reducible repeat (first | refine bn_ ?_ _ | refine bw_ ?_ | refine ba_ ?_ _)); refine blk_put (cs := #[.int .i64 0, .int .i64 0, .int .i64 0, .slice none 0 0]) ?_ 0 _ rfl; (with_reducible repeat (first | refine bn_ ?_ _ | refine bw_ ?_ | refine ba_ ?_ _)); exact BK278.out) hb); have n7_ := mk_ (below_step (us_ HB.out) hb); clear HO_246003; clear HO_257003; clear HO270; clear HO276; clear BK245; clear BK256; clear BK278; clear HB; have HO_246003 := n0_; have HO_257003 := n1_; have HO270 := n2_; have HO276 := n3_; have BK245 := n4_; have BK256 := n5_; have BK278 := n6_; have HB := n7_; clear n0_ n1_ n2_ n3_ n4_ n5_ n6_ n7_; (try clear hb); (try clear hb2); (try clear hk); (try clear hi)))
      go_meet
      case rel => exact ⟨_, (true), (by first | rfl | (simp; done) | (simp [*]; done)), H', ⟨by have := HJ8.out; have := HJ37.out; first | omega | exact Nat.le_refl _⟩, ⟨by (with_reducible repeat (first | apply Kd.R_alloc | apply Kd.R_drewN | apply Kd.R_drew)); exact Kd.R_mono HO_246003.out (fun _ hk => by first | exact ⟨hk.1.1, hk.2⟩ | exact hk.1 | exact hk | exact ⟨hk.1, hk.2⟩ | exact ⟨.inr hk.1, hk.2⟩ | simp only [hk, ne_eq, not_false_eq_true, and_self])⟩, ⟨by (with_reducible repeat (first | apply Kd.R_alloc | apply Kd.R_drewN | apply Kd.R_drew)); exact Kd.R_mono HO_257003.out (fun _ hk => by first | exact ⟨hk.1.1, hk.2⟩ | exact hk.1 | exact hk | exact ⟨hk.1, hk.2⟩ | exact ⟨.inr hk.1, hk.2⟩ | simp only [hk, ne_eq, not_false_eq_true, and_self])⟩, ⟨by (with_reducible repeat (first | apply Kd.R_alloc | apply Kd.R_drewN | apply Kd.R_drew)); exact Kd.R_mono HO276.out (fun _ hk => by first | exact ⟨hk.1.1.2, hk.1.2⟩ | exact hk.1 | exact hk | exact ⟨hk.1, hk.2⟩ | exact ⟨.inr hk.1, hk.2⟩ | simp only [hk, ne_eq, not_false_eq_true, and_self])⟩, ⟨u_ BK245.out⟩, ⟨u_ BK256.out⟩, ⟨u_ BK278.out⟩, ⟨us_ HB.out⟩⟩
     case rest =>
      clear HC65
      try clear c1
      try clear c2
      try clear p2
      try clear c3
      try clear c4
      try clear c4b0
      try clear c4b1
      try clear c5
      try clear c6
      try clear c7
      try clear c8
      try clear c9
      try clear c13
      try clear c14
      try clear c15
      try clear c16
      try clear c20
      try clear c21
      try clear c23
      try clear c24
      try clear c25
      try clear c29
      try clear c33
      try clear c36
      try clear c42
      try clear c42b0
      try clear c44
      try clear c45
      try clear c49
      try clear c53
      try clear c56
      try clear c56b0
      try clear c57
      try clear c62
      try clear c62b0
      try clear c62b1
      try clear c66
      try clear c75
      try clear c76
      try clear c80
      try clear c81
      try clear c82
      try clear c84
      try clear c87
      try clear c88
      try clear c90
      try clear hcz14_0
      try clear hcz14_1
      try clear hcz14_2
      try clear hcz14_3
      try clear hcz21_0
      try clear hcz21_1
      try clear hcz21_2
      try clear hcz21_3
      try clear hcz26_0
      try clear hcz26_1
      try clear hcz26_2
      try clear hcz26_3
      try clear hcz27_0
      try clear hcz27_1
      try clear hcz27_2
      try clear hcz27_3
      try clear hcz30_0
      try clear hcz30_1
      try clear hcz30_2
      try clear hcz30_3
      try clear hcz31_0
      try clear hcz31_1
      try clear hcz31_2
      try clear hcz31_3
      try clear hcz46_0
      try clear hcz46_1
      try clear hcz46_2
      try clear hcz46_3
      try clear hcz47_0
      try clear hcz47_1
      try clear hcz47_2
      try clear hcz47_3
      try clear hcz50_0
      try clear hcz50_1
      try clear hcz50_2
      try clear hcz50_3
      try clear hcz51_0
      try clear hcz51_1
      try clear hcz51_2
      try clear hcz51_3
      try clear hcz58_0
      try clear hcz58_1
      try clear hcz58_2
      try clear hcz58_3
      try clear hcz60_0
      try clear hcz60_1
      try clear hcz60_2
      try clear hcz60_3
      try clear hcz67_0
      try clear hcz67_1
      try clear hcz67_2
      try clear hcz67_3
      try clear hcz69_0
      try clear hcz69_1
      try clear hcz69_2
      try clear hcz69_3
      try clear hcz77_0
      try clear hcz77_1
      try clear hcz77_2
      try clear hcz77_3
      try clear hcz83_0
      try clear hcz83_1
      try clear hcz83_2
      try clear hcz83_3
      try clear hcz85_0
      try clear hcz85_1
      try clear hcz85_2
      try clear hcz85_3
      try clear hcz89_0
      try clear hcz89_1
      try clear hcz89_2
      try clear hcz89_3
      try clear hcz91_0
      try clear hcz91_1
      try clear hcz91_2
      try clear hcz91_3
      try clear hfz14_0
      try clear hfz14_1
      try clear hfz14_2
      try clear hfz14_3
      try clear hfz21_0
      try clear hfz21_1
      try clear hfz21_2
      try clear hfz21_3
      try clear hfz26_0
      try clear hfz26_1
      try clear hfz26_2
      try clear hfz26_3
      try clear hfz27_0
      try clear hfz27_1
      try clear hfz27_2
      try clear hfz27_3
      try clear hfz30_0
      try clear hfz30_1
      try clear hfz30_2
      try clear hfz30_3
      try clear hfz31_0
      try clear hfz31_1
      try clear hfz31_2
      try clear hfz31_3
      try clear hfz46_0
      try clear hfz46_1
      try clear hfz46_2
      try clear hfz46_3
      try clear hfz47_0
      try clear hfz47_1
      try clear hfz47_2
      try clear hfz47_3
      try clear hfz50_0
      try clear hfz50_1
      try clear hfz50_2
      try clear hfz50_3
      try clear hfz51_0
      try clear hfz51_1
      try clear hfz51_2
      try clear hfz51_3
      try clear hfz58_0
      try clear hfz58_1
      try clear hfz58_2
      try clear hfz58_3
      try clear hfz60_0
      try clear hfz60_1
      try clear hfz60_2
      try clear hfz60_3
      try clear hfz67_0
      try clear hfz67_1
      try clear hfz67_2
      try clear hfz67_3
      try clear hfz69_0
      try clear hfz69_1
      try clear hfz69_2
      try clear hfz69_3
      try clear hfz77_0
      try clear hfz77_1
      try clear hfz77_2
      try clear hfz77_3
      try clear hfz83_0
      try clear hfz83_1
      try clear hfz83_2
      try clear hfz83_3
      try clear hfz85_0
      try clear hfz85_1
      try clear hfz85_2
      try clear hfz85_3
      try clear hfz89_0
      try clear hfz89_1
      try clear hfz89_2
      try clear hfz89_3
      try clear hfz91_0
      try clear hfz91_1
      try clear hfz91_2
      try clear hfz91_3
      try clear p2
      obtain ⟨kq, x94_64, rfl, HA, HJ64, HO_246003, HO_257003, HO_279003, BK245, BK256, BK278, HB⟩ := hcut
      have hl257003_64 := (Kd.R_reads' HO_257003.out).1
      rw [hl257003_64] at HO_257003
      (try simp only [hl257003_64])
      (try simp only [hl257003_64] at BK245)
      (try simp only [hl257003_64] at BK256)
      (try simp only [hl257003_64] at BK278)
      (try simp only [hl257003_64] at HO_246003)
      (try simp only [hl257003_64] at HO_279003)
      cases kq with
      | zero => exact absurd HA.out (by simp [laws_FnExactMailFrom.j2])
      | succ kj64 =>
       have H := HA.out
       clear HA
       simp only [laws_FnExactMailFrom.j2] at H
       by_cases c93 : x94_64 = true
       ·subst c93
        have H1 : (some false) = some r := by rw [if_pos rfl] at H; exact H
        clear H
        have H := H1
        clear H1
        obtain rfl := Option.some.inj H
        go_wp2
        go_ret
        exact ⟨by first | rfl | (simp [errW_none, errW_some] <;> rfl) | (simp [*, errW_none, errW_some] <;> rfl), us_ HB.out⟩
       replace c93 := Bool.eq_false_iff.mpr c93
       subst c93
       have H1 : ((laws_heldMail.f kj64 t249 t250 t251 t266 1).bind fun t280 => (if t280 < 0 then (some false) else (if t280 = t265 then (some true) else (some false)))) = some r := by rw [if_neg (show ¬ (false = true) by decide)] at H; exact H
       clear H
       have H := H1
       clear H1
       replace H := Option.bind_eq_some_iff.mp H
       obtain ⟨t280, A940, H⟩ := H
       replace H : (if t280 < 0 then (some false) else (if t280 = t265 then (some true) else (some false))) = some r := H
       have A94 := mk_ A940
       clear A940
       by_cases c95 : t280 < 0
       ·rw [if_pos c95] at H
        have c95b0 : decide (t280 < 0) = true := decide_eq_true c95
        clear c95
        obtain rfl := Option.some.inj H
        have hnb96 := NB256_245.out
        have hnc96 := NB245_256.out
        have hnb97 := NB256_278.out
        have hnc97 := NB278_256.out
        obtain ⟨hcz98_0, hcz98_1, hcz98_2, hcz98_3, hfz98_0, hfz98_1, hfz98_2, hfz98_3⟩ := cells4_ BK256.out
        go_wp2_with (first | ((with_reducible refine gate_callee (f := 25) rfl ?_); refine goesL_ (some 97) rfl rfl Try.func25 (by kernel_rfl) rfl #[.agg #[.int .i64 t249, .int .i64 t250, .int .i64 t251, .slice Ao22 t266.length co22], .int .i64 1] rfl (by (try simp only [lm_, lo_, ln_]); first | done | rfl | (simp only [List.length_drop, List.length_take]; rfl)) ?_; (with_reducible refine (laws_heldMail.calls kj64 t249 t250 t251 _ _ t266 1 t280 _ ?side1 ?side2 A94.out).mono ?_); (case side1 => repeat (first | exact (Kd.R_reads' HO_257003.out).2.2 | (with_reducible refine Kd.C_alloc ?_ _) | (with_reducible refine Kd.C_drewN ?_ _) | (with_reducible refine Kd.C_drew ?_))); (case side2 => exact (Kd.R_reads' HO_257003.out).2.1); rintro e w99 ⟨rfl, hb⟩; refine ⟨_, rfl, ?_⟩; have n0_ := mk_ (Kd.R_below (Kd.ur_ HO_246003.out) hb); have n1_ := mk_ (Kd.R_below (Kd.ur_ HO_257003.out) hb); have n2_ := mk_ (Kd.R_below (Kd.ur_ HO_279003.out) hb); have n3_ := mk_ (blk_below (u_ BK245.out) hb); have n4_ := mk_ (blk_below (u_ BK256.out) hb); have n5_ := mk_ (blk_below (u_ BK278.out) hb); have n6_ := mk_ (below_step (us_ HB.out) hb); clear HO_246003; clear HO_257003; clear HO_279003; clear BK245; clear BK256; clear BK278; clear HB; have HO_246003 := n0_; have HO_257003 := n1_; have HO_279003 := n2_; have BK245 := n3_; have BK256 := n4_; have BK278 := n5_; have HB := n6_; clear n0_ n1_ n2_ n3_ n4_ n5_ n6_; (try clear hb); (try clear hb2); (try clear hk); (try clear hi)))
        go_ret
        exact ⟨by first | rfl | (simp [errW_none, errW_some] <;> rfl) | (simp [*, errW_none, errW_some] <;> rfl), us_ HB.out⟩
       rw [if_neg c95] at H
       have c95b0 : decide (t280 < 0) = false := decide_eq_false c95
       clear c95
       by_cases c100 : t280 = t265
       rotate_left
       ·rw [if_neg c100] at H
        have c100b0 : (t280 == t265) = false := beq_eq_false_iff_ne.mpr c100
        have c100b1 : (t280 != t265) = true := bne_iff_ne.mpr c100
        obtain rfl := Option.some.inj H
        have hnb105 := NB256_245.out
        have hnc105 := NB245_256.out
        have hnb106 := NB256_278.out
        have hnc106 := NB278_256.out
        obtain ⟨hcz107_0, hcz107_1, hcz107_2, hcz107_3, hfz107_0, hfz107_1, hfz107_2, hfz107_3⟩ := cells4_ BK256.out
        go_wp2_with (first | ((with_reducible refine gate_callee (f := 25) rfl ?_); refine goesL_ (some 97) rfl rfl Try.func25 (by kernel_rfl) rfl #[.agg #[.int .i64 t249, .int .i64 t250, .int .i64 t251, .slice Ao22 t266.length co22], .int .i64 1] rfl (by (try simp only [lm_, lo_, ln_]); first | done | rfl | (simp only [List.length_drop, List.length_take]; rfl)) ?_; (with_reducible refine (laws_heldMail.calls kj64 t249 t250 t251 _ _ t266 1 t280 _ ?side1 ?side2 A94.out).mono ?_); (case side1 => repeat (first | exact (Kd.R_reads' HO_257003.out).2.2 | (with_reducible refine Kd.C_alloc ?_ _) | (with_reducible refine Kd.C_drewN ?_ _) | (with_reducible refine Kd.C_drew ?_))); (case side2 => exact (Kd.R_reads' HO_257003.out).2.1); rintro e w108 ⟨rfl, hb⟩; refine ⟨_, rfl, ?_⟩; have n0_ := mk_ (Kd.R_below (Kd.ur_ HO_246003.out) hb); have n1_ := mk_ (Kd.R_below (Kd.ur_ HO_257003.out) hb); have n2_ := mk_ (Kd.R_below (Kd.ur_ HO_279003.out) hb); have n3_ := mk_ (blk_below (u_ BK245.out) hb); have n4_ := mk_ (blk_below (u_ BK256.out) hb); have n5_ := mk_ (blk_below (u_ BK278.out) hb); have n6_ := mk_ (below_step (us_ HB.out) hb); clear HO_246003; clear HO_257003; clear HO_279003; clear BK245; clear BK256; clear BK278; clear HB; have HO_246003 := n0_; have HO_257003 := n1_; have HO_279003 := n2_; have BK245 := n3_; have BK256 := n4_; have BK278 := n5_; have HB := n6_; clear n0_ n1_ n2_ n3_ n4_ n5_ n6_; (try clear hb); (try clear hb2); (try clear hk); (try clear hi)))
        go_ret
        exact ⟨by first | rfl | (simp [errW_none, errW_some] <;> rfl) | (simp [*, errW_none, errW_some] <;> rfl), us_ HB.out⟩
       rw [if_pos c100] at H
       have c100b0 : (t280 == t265) = true := beq_iff_eq.mpr c100
       have c100b1 : (t280 != t265) = false := bne_eq_false_iff_eq.mpr c100
       clear c100
       obtain rfl := Option.some.inj H
       have hnb101 := NB256_245.out
       have hnc101 := NB245_256.out
       have hnb102 := NB256_278.out
       have hnc102 := NB278_256.out
       obtain ⟨hcz103_0, hcz103_1, hcz103_2, hcz103_3, hfz103_0, hfz103_1, hfz103_2, hfz103_3⟩ := cells4_ BK256.out
       go_wp2_with (first | ((with_reducible refine gate_callee (f := 25) rfl ?_); refine goesL_ (some 97) rfl rfl Try.func25 (by kernel_rfl) rfl #[.agg #[.int .i64 t249, .int .i64 t250, .int .i64 t251, .slice Ao22 t266.length co22], .int .i64 1] rfl (by (try simp only [lm_, lo_, ln_]); first | done | rfl | (simp only [List.length_drop, List.length_take]; rfl)) ?_; (with_reducible refine (laws_heldMail.calls kj64 t249 t250 t251 _ _ t266 1 t280 _ ?side1 ?side2 A94.out).mono ?_); (case side1 => repeat (first | exact (Kd.R_reads' HO_257003.out).2.2 | (with_reducible refine Kd.C_alloc ?_ _) | (with_reducible refine Kd.C_drewN ?_ _) | (with_reducible refine Kd.C_drew ?_))); (case side2 => exact (Kd.R_reads' HO_257003.out).2.1); rintro e w104 ⟨rfl, hb⟩; refine ⟨_, rfl, ?_⟩; have n0_ := mk_ (Kd.R_below (Kd.ur_ HO_246003.out) hb); have n1_ := mk_ (Kd.R_below (Kd.ur_ HO_257003.out) hb); have n2_ := mk_ (Kd.R_below (Kd.ur_ HO_279003.out) hb); have n3_ := mk_ (blk_below (u_ BK245.out) hb); have n4_ := mk_ (blk_below (u_ BK256.out) hb); have n5_ := mk_ (blk_below (u_ BK278.out) hb); have n6_ := mk_ (below_step (us_ HB.out) hb); clear HO_246003; clear HO_257003; clear HO_279003; clear BK245; clear BK256; clear BK278; clear HB; have HO_246003 := n0_; have HO_257003 := n1_; have HO_279003 := n2_; have BK245 := n3_; have BK256 := n4_; have BK278 := n5_; have HB := n6_; clear n0_ n1_ n2_ n3_ n4_ n5_ n6_; (try clear hb); (try clear hb2); (try clear hk); (try clear hi)))
       go_ret
       exact ⟨by first | rfl | (simp [errW_none, errW_some] <;> rfl) | (simp [*, errW_none, errW_some] <;> rfl), us_ HB.out⟩

/-- THE ONE PURE STATEMENT of laws_FnExactMailFrom: yours. -/
def laws_FnExactMailFrom.Pure : Prop := ∀ (a0 : Int) (a1 : Int) (l2 : List Int), (Lit.int .i64 a0).wf = true → (Lit.int .i64 a1).wf = true → l2.length ≤ maxLen → l2.length * 1 ≤ 140737488351232 → (∀ x ∈ l2, (Lit.int .u8 x).wf = true) → ∃ k, laws_FnExactMailFrom.f k a0 a1 l2 = some true
theorem laws_FnExactMailFrom.walk (P : laws_FnExactMailFrom.Pure) (a0 : Int) (a1 : Int) (a2 : Option Addr) (len2 cap2 : Nat) (z2 : List Int) (w : World) (w0 : (Lit.int .i64 a0).wf = true) (w1 : (Lit.int .i64 a1).wf = true) (w2 : (a2 = none ∧ len2 = 0 ∧ cap2 = 0 ∧ z2 = []) ∨ ∃ x, a2 = some x ∧ len2 ≤ cap2 ∧ cap2 ≤ maxLen ∧ z2.length = cap2 ∧ (∀ i, i < z2.length → w.cell? (x.add i) = some (.int .u8 (z2.getD i 0))) ∧ ∀ n ∈ z2, (Lit.int .u8 n).wf = true) (y2 : len2 * 1 ≤ 140737488351232) :
  Calls Try.prog 5 #[.int .i64 a0, .int .i64 a1, .slice a2 len2 cap2] w fun e w' => e = .returned (.bool true) ∧ Below w.heap.size w w' := by
 obtain ⟨l2, rfl, hr2, hm2, hw2, hc2⟩ := ReadsInt.ofRowC w2
 obtain ⟨k, h⟩ := P a0 a1 l2 w0 w1 hm2 y2 hw2
 refine (laws_FnExactMailFrom.calls k a0 a1 _ _ l2 true w (Kd.C_of_reads (d := (0 : Int)) (h1 := fun _ => rfl) hr2) hc2 h).mono ?_
 rintro e w' ⟨rfl, hd⟩
 exact ⟨rfl, hd⟩

end Go.Proofs.Ytfcocnhkimbpbaa.MFnExactMailFrom
