/- Functions that the law FnExactMailBytes reaches, each with the proof that the machine's call comes to just its answer; no conditions but those that each theorem states. Printed by a program of this session over the kit's print. -/
import Derived.Test.YtfcocnhkimbpbaaMFnExactMailBytesx0
import Derived.Test.YtfcocnhkimbpbaaMFnExactMailBytesx1
import Derived.Test.YtfcocnhkimbpbaaMFnExactMailBytesx2
import Derived.Test.YtfcocnhkimbpbaaMFnExactMailBytesx3
import Derived.Test.YtfcocnhkimbpbaaMFnExactMailBytesx4
namespace Go.Proofs.Ytfcocnhkimbpbaa.MFnExactMailBytes
open Go.RowKit Go.Proofs.YtfcocnhkimbpbaaV.PrintWords Go.Proofs.YtfcocnhkimbpbaaV.PrintLast Go.Proofs.YtfcocnhkimbpbaaV.PrintMore
attribute [local go_sem] max2_int min2_int max_two min_two max_three min_three max_four min_four   -- for this text's walks alone
set_option linter.unusedVariables false
set_option linter.unusedSimpArgs false

/-! ### laws_FnExactMailBytes: function 3 -/
def laws_FnExactMailBytes.j0 : Nat → Int → List Int → List Int → Bool → Int → Int → Int → List Int → Option (Bool)
 | 0, _, _, _, _, _, _, _, _ => none
 | k + 1, x1, x6, x8, x46, x226000, x226001, x226002, x226003 => if x46 = true then (some false) else ((laws_markByteS.f k x8 1).bind fun bt257 => ((laws_heldByteS.f k bt257.2 1).bind fun t259 => (if t259 < 0 then (some false) else (if t259 = bt257.1 then ((laws_toMail.f k x226000 x226001 x226002 x226003).bind fun bt260 => ((impl_MailBytes.f k bt260.1 bt260.2.1 bt260.2.2.1 bt260.2.2.2 x1).bind fun t266 => ((laws_eqByteS.f k t266 x6).bind fun t269 => (if t269 = true then ((laws_heldByteS.f k bt257.2 1).bind fun t270 => (if t270 < 0 then (some false) else (if t270 = bt257.1 then (some true) else (some false)))) else (some false))))) else (some false)))))
def laws_FnExactMailBytes.f (k : Nat) (a0_0 : Int) (a0_1 : Int) (a0_2 : Int) (l0_3 : List Int) (a1 : Int) : Option (Bool) := (laws_szMail.f a0_0 a0_1 a0_2 l0_3 1048576).bind fun t226 => (if t226 < 0 then (some true) else ((laws_toMail.f k a0_0 a0_1 a0_2 l0_3).bind fun bt227 => ((spec_MailBytes.f k bt227.1 bt227.2.1 bt227.2.2.1 bt227.2.2.2 a1).bind fun t233 => ((laws_toMail.f k a0_0 a0_1 a0_2 l0_3).bind fun bt236 => ((impl_MailBytes.f k bt236.1 bt236.2.1 bt236.2.2.1 bt236.2.2.2 a1).bind fun t243 => ((laws_eqByteS.f k t243 t233).bind fun t246 => (if t246 = true then ((laws_toMail.f k a0_0 a0_1 a0_2 l0_3).bind fun bt247 => ((laws_eqMail.f k bt236.1 bt236.2.1 bt236.2.2.1 bt236.2.2.2 bt247.1 bt247.2.1 bt247.2.2.1 bt247.2.2.2).bind fun t253 => (if t253 = true then ((laws_markMail.f k bt236.1 bt236.2.1 bt236.2.2.1 bt236.2.2.2 1).bind fun bt254 => (if bt254.1 < 0 then (laws_FnExactMailBytes.j0 k a1 t233 t243 true a0_0 a0_1 a0_2 l0_3) else ((laws_eqByteS.f k t243 t233).bind fun t256 => (laws_FnExactMailBytes.j0 k a1 t233 t243 (!t256) a0_0 a0_1 a0_2 l0_3)))) else (some false)))) else (some false))))))))
theorem laws_FnExactMailBytes.mono_l : ∀ k, (∀ y0 y1 y2 y3 y4 y5 y6 y7, LeO (laws_FnExactMailBytes.j0 k y0 y1 y2 y3 y4 y5 y6 y7) (laws_FnExactMailBytes.j0 (k + 1) y0 y1 y2 y3 y4 y5 y6 y7))
 | 0 => fun _ _ _ _ _ _ _ _ r h => by simp [laws_FnExactMailBytes.j0] at h
 | k + 1 => by
  have ih0 := laws_FnExactMailBytes.mono_l k
  ·intro y0 y1 y2 y3 y4 y5 y6 y7
   unfold laws_FnExactMailBytes.j0
   repeat' first
   | (with_reducible exact ih0 _ _ _ _ _ _ _ _)
   | (with_reducible exact impl_MailBytes.mono _ _ _ _ _ _)
   | (with_reducible exact laws_eqByteS.mono _ _ _)
   | (with_reducible exact laws_eqMail.mono _ _ _ _ _ _ _ _ _)
   | (with_reducible exact laws_heldByteS.mono _ _ _)
   | (with_reducible exact laws_markByteS.mono _ _ _)
   | (with_reducible exact laws_markMail.mono _ _ _ _ _ _)
   | (with_reducible exact laws_toMail.mono _ _ _ _ _)
   | (with_reducible exact spec_MailBytes.mono _ _ _ _ _ _)
   | (with_reducible exact LeO.refl _)
   | (with_reducible exact LeO.none _)
   | (with_reducible refine LeO.ite ?_ ?_)
   | (with_reducible refine LeO.bind ?_ (fun _ => ?_))
   | exact ih0 _ _ _ _ _ _ _ _
   | exact impl_MailBytes.mono _ _ _ _ _ _
   | exact laws_eqByteS.mono _ _ _
   | exact laws_eqMail.mono _ _ _ _ _ _ _ _ _
   | exact laws_heldByteS.mono _ _ _
   | exact laws_markByteS.mono _ _ _
   | exact laws_markMail.mono _ _ _ _ _ _
   | exact laws_toMail.mono _ _ _ _ _
   | exact spec_MailBytes.mono _ _ _ _ _ _
   | exact LeO.none _
   | refine LeO.ite ?_ ?_
   | refine LeO.bind ?_ (fun _ => ?_)
theorem laws_FnExactMailBytes.mono : ∀ a0 a1 a2 a3 a4 k, LeO (laws_FnExactMailBytes.f k a0 a1 a2 a3 a4) (laws_FnExactMailBytes.f (k + 1) a0 a1 a2 a3 a4) := by
 intro a0 a1 a2 a3 a4 k
 have ih0 := laws_FnExactMailBytes.mono_l k
 unfold laws_FnExactMailBytes.f
 repeat' first
   | (with_reducible exact ih0 _ _ _ _ _ _ _ _)
   | (with_reducible exact impl_MailBytes.mono _ _ _ _ _ _)
   | (with_reducible exact laws_eqByteS.mono _ _ _)
   | (with_reducible exact laws_eqMail.mono _ _ _ _ _ _ _ _ _)
   | (with_reducible exact laws_heldByteS.mono _ _ _)
   | (with_reducible exact laws_markByteS.mono _ _ _)
   | (with_reducible exact laws_markMail.mono _ _ _ _ _ _)
   | (with_reducible exact laws_toMail.mono _ _ _ _ _)
   | (with_reducible exact spec_MailBytes.mono _ _ _ _ _ _)
   | (with_reducible exact LeO.refl _)
   | (with_reducible exact LeO.none _)
   | (with_reducible refine LeO.ite ?_ ?_)
   | (with_reducible refine LeO.bind ?_ (fun _ => ?_))
   | exact ih0 _ _ _ _ _ _ _ _
   | exact impl_MailBytes.mono _ _ _ _ _ _
   | exact laws_eqByteS.mono _ _ _
   | exact laws_eqMail.mono _ _ _ _ _ _ _ _ _
   | exact laws_heldByteS.mono _ _ _
   | exact laws_markByteS.mono _ _ _
   | exact laws_markMail.mono _ _ _ _ _ _
   | exact laws_toMail.mono _ _ _ _ _
   | exact spec_MailBytes.mono _ _ _ _ _ _
   | exact LeO.none _
   | refine LeO.ite ?_ ?_
   | refine LeO.bind ?_ (fun _ => ?_)
set_option maxHeartbeats 8000000 in
set_option maxRecDepth 100000 in
theorem laws_FnExactMailBytes.calls (k : Nat) (a0_0 : Int) (a0_1 : Int) (a0_2 : Int) (A0_3 : Option Addr) (c0_3 : Nat) (l0_3 : List Int) (a1 : Int) (r : Bool) (w : World) (hr0_3 : Kd.C (Kd.int .u8) w A0_3 l0_3.length l0_3) (hc0_3 : l0_3.length ≤ c0_3) (h : laws_FnExactMailBytes.f k a0_0 a0_1 a0_2 l0_3 a1 = some r) :
  Calls Try.prog 3 #[.agg #[.int .i64 a0_0, .int .i64 a0_1, .int .i64 a0_2, .slice A0_3 l0_3.length c0_3], .int .i64 a1] w fun e w' => e = .returned (.bool r) ∧ Below w.heap.size w w' := by
 have hu24 := Try.underlying24
 have hu27 := Try.underlying27
 have HR0_3 := mk_ hr0_3
 have HC0_3 := mk_ hc0_3
 clear hr0_3 hc0_3
 have HB := mk_ (Below.refl w.heap.size w)
 have H : ((laws_szMail.f a0_0 a0_1 a0_2 l0_3 1048576).bind fun t226 => (if t226 < 0 then (some true) else ((laws_toMail.f k a0_0 a0_1 a0_2 l0_3).bind fun bt227 => ((spec_MailBytes.f k bt227.1 bt227.2.1 bt227.2.2.1 bt227.2.2.2 a1).bind fun t233 => ((laws_toMail.f k a0_0 a0_1 a0_2 l0_3).bind fun bt236 => ((impl_MailBytes.f k bt236.1 bt236.2.1 bt236.2.2.1 bt236.2.2.2 a1).bind fun t243 => ((laws_eqByteS.f k t243 t233).bind fun t246 => (if t246 = true then ((laws_toMail.f k a0_0 a0_1 a0_2 l0_3).bind fun bt247 => ((laws_eqMail.f k bt236.1 bt236.2.1 bt236.2.2.1 bt236.2.2.2 bt247.1 bt247.2.1 bt247.2.2.1 bt247.2.2.2).bind fun t253 => (if t253 = true then ((laws_markMail.f k bt236.1 bt236.2.1 bt236.2.2.1 bt236.2.2.2 1).bind fun bt254 => (if bt254.1 < 0 then (laws_FnExactMailBytes.j0 k a1 t233 t243 true a0_0 a0_1 a0_2 l0_3) else ((laws_eqByteS.f k t243 t233).bind fun t256 => (laws_FnExactMailBytes.j0 k a1 t233 t243 (!t256) a0_0 a0_1 a0_2 l0_3)))) else (some false)))) else (some false))))))))) = some r := h
 clear h
 replace H := Option.bind_eq_some_iff.mp H
 obtain ⟨t226, A30, H⟩ := H
 replace H : (if t226 < 0 then (some true) else ((laws_toMail.f k a0_0 a0_1 a0_2 l0_3).bind fun bt227 => ((spec_MailBytes.f k bt227.1 bt227.2.1 bt227.2.2.1 bt227.2.2.2 a1).bind fun t233 => ((laws_toMail.f k a0_0 a0_1 a0_2 l0_3).bind fun bt236 => ((impl_MailBytes.f k bt236.1 bt236.2.1 bt236.2.2.1 bt236.2.2.2 a1).bind fun t243 => ((laws_eqByteS.f k t243 t233).bind fun t246 => (if t246 = true then ((laws_toMail.f k a0_0 a0_1 a0_2 l0_3).bind fun bt247 => ((laws_eqMail.f k bt236.1 bt236.2.1 bt236.2.2.1 bt236.2.2.2 bt247.1 bt247.2.1 bt247.2.2.1 bt247.2.2.2).bind fun t253 => (if t253 = true then ((laws_markMail.f k bt236.1 bt236.2.1 bt236.2.2.1 bt236.2.2.2 1).bind fun bt254 => (if bt254.1 < 0 then (laws_FnExactMailBytes.j0 k a1 t233 t243 true a0_0 a0_1 a0_2 l0_3) else ((laws_eqByteS.f k t243 t233).bind fun t256 => (laws_FnExactMailBytes.j0 k a1 t233 t243 (!t256) a0_0 a0_1 a0_2 l0_3)))) else (some false)))) else (some false)))))))) = some r := H
 have A3 := mk_ A30
 clear A30
 by_cases c4 : t226 < 0
 ·rw [if_pos c4] at H
  have c4b0 : decide (t226 < 0) = true := decide_eq_true c4
  clear c4
  obtain rfl := Option.some.inj H
  go_enter Try.func3, Try.ntmps3
  go_wp2_with (first | ((with_reducible refine gate_dst (N := 2) rfl ?_); refine box_event ?hg (N := 2) ?hd (cs := #[.int .i64 a0_0, .int .i64 a0_1, .int .i64 a0_2, .slice A0_3 l0_3.length c0_3]) (t := 24) ?hr ?_; (case hd => rfl); (case hg => rfl); (case hr => first | (go_simp; done) | (go_simp; rfl)); intro gb225 hg w5 hbox hb; have n0_ := mk_ (below_step (ub_ HB.out) hb); have n1_ := mk_ (hbox); have n2_ := mk_ ((by rw [hg]; exact (below_size (ub_ HB.out)) : w.heap.size ≤ gb225)); have n3_ := mk_ ((by rw [hg]; exact (below_size (ub_ HB.out)) : w.heap.size ≤ gb225)); clear HB; have HB := n0_; have BK225 := n1_; have GW225 := n2_; have GE225 := ge_ n3_.out; clear n0_ n1_ n2_ n3_; clear hb hbox hg; obtain ⟨hcz6_0, hcz6_1, hcz6_2, hcz6_3, hfz6_0, hfz6_1, hfz6_2, hfz6_3⟩ := cells4_ BK225.out) | ((with_reducible refine gate_callee (f := 9) rfl ?_); refine goesL_ (some 15) rfl rfl Try.func9 (by kernel_rfl) rfl #[.agg #[.int .i64 a0_0, .int .i64 a0_1, .int .i64 a0_2, .slice A0_3 l0_3.length c0_3], .int .i64 1048576] rfl (by (try simp only [lm_, lo_, ln_]); first | done | rfl | (simp only [List.length_drop, List.length_take]; rfl)) ?_; (with_reducible refine (laws_szMail.calls a0_0 a0_1 a0_2 _ _ l0_3 1048576 t226 _ ?side1 ?side2 A3.out).mono ?_); (case side1 => repeat (first | exact (Kd.C_below HR0_3.out HB.out) | (with_reducible refine Kd.C_alloc ?_ _) | (with_reducible refine Kd.C_drewN ?_ _) | (with_reducible refine Kd.C_drew ?_))); (case side2 => exact HC0_3.out); rintro e w7 ⟨rfl, hb⟩; refine ⟨_, rfl, ?_⟩; have n0_ := mk_ (blk_below (u_ BK225.out) hb); have n1_ := mk_ (below_step (us_ HB.out) hb); clear BK225; clear HB; have BK225 := n0_; have HB := n1_; clear n0_ n1_; (try clear hb); (try clear hb2); (try clear hk); (try clear hi)))
  go_ret
  exact ⟨by first | rfl | (simp [errW_none, errW_some] <;> rfl) | (simp [*, errW_none, errW_some] <;> rfl), us_ HB.out⟩
 rw [if_neg c4] at H
 have c4b0 : decide (t226 < 0) = false := decide_eq_false c4
 clear c4
 replace H := Option.bind_eq_some_iff.mp H
 obtain ⟨⟨t227, t228, t229, t230⟩, A80, H⟩ := H
 replace H : ((spec_MailBytes.f k t227 t228 t229 t230 a1).bind fun t233 => ((laws_toMail.f k a0_0 a0_1 a0_2 l0_3).bind fun bt236 => ((impl_MailBytes.f k bt236.1 bt236.2.1 bt236.2.2.1 bt236.2.2.2 a1).bind fun t243 => ((laws_eqByteS.f k t243 t233).bind fun t246 => (if t246 = true then ((laws_toMail.f k a0_0 a0_1 a0_2 l0_3).bind fun bt247 => ((laws_eqMail.f k bt236.1 bt236.2.1 bt236.2.2.1 bt236.2.2.2 bt247.1 bt247.2.1 bt247.2.2.1 bt247.2.2.2).bind fun t253 => (if t253 = true then ((laws_markMail.f k bt236.1 bt236.2.1 bt236.2.2.1 bt236.2.2.2 1).bind fun bt254 => (if bt254.1 < 0 then (laws_FnExactMailBytes.j0 k a1 t233 t243 true a0_0 a0_1 a0_2 l0_3) else ((laws_eqByteS.f k t243 t233).bind fun t256 => (laws_FnExactMailBytes.j0 k a1 t233 t243 (!t256) a0_0 a0_1 a0_2 l0_3)))) else (some false)))) else (some false)))))) = some r := H
 have A8 := mk_ A80
 clear A80
 replace H := Option.bind_eq_some_iff.mp H
 obtain ⟨t233, A90, H⟩ := H
 replace H : ((laws_toMail.f k a0_0 a0_1 a0_2 l0_3).bind fun bt236 => ((impl_MailBytes.f k bt236.1 bt236.2.1 bt236.2.2.1 bt236.2.2.2 a1).bind fun t243 => ((laws_eqByteS.f k t243 t233).bind fun t246 => (if t246 = true then ((laws_toMail.f k a0_0 a0_1 a0_2 l0_3).bind fun bt247 => ((laws_eqMail.f k bt236.1 bt236.2.1 bt236.2.2.1 bt236.2.2.2 bt247.1 bt247.2.1 bt247.2.2.1 bt247.2.2.2).bind fun t253 => (if t253 = true then ((laws_markMail.f k bt236.1 bt236.2.1 bt236.2.2.1 bt236.2.2.2 1).bind fun bt254 => (if bt254.1 < 0 then (laws_FnExactMailBytes.j0 k a1 t233 t243 true a0_0 a0_1 a0_2 l0_3) else ((laws_eqByteS.f k t243 t233).bind fun t256 => (laws_FnExactMailBytes.j0 k a1 t233 t243 (!t256) a0_0 a0_1 a0_2 l0_3)))) else (some false)))) else (some false))))) = some r := H
 have A9 := mk_ A90
 clear A90
 replace H := Option.bind_eq_some_iff.mp H
 obtain ⟨⟨t236, t237, t238, t239⟩, A100, H⟩ := H
 replace H : ((impl_MailBytes.f k t236 t237 t238 t239 a1).bind fun t243 => ((laws_eqByteS.f k t243 t233).bind fun t246 => (if t246 = true then ((laws_toMail.f k a0_0 a0_1 a0_2 l0_3).bind fun bt247 => ((laws_eqMail.f k t236 t237 t238 t239 bt247.1 bt247.2.1 bt247.2.2.1 bt247.2.2.2).bind fun t253 => (if t253 = true then ((laws_markMail.f k t236 t237 t238 t239 1).bind fun bt254 => (if bt254.1 < 0 then (laws_FnExactMailBytes.j0 k a1 t233 t243 true a0_0 a0_1 a0_2 l0_3) else ((laws_eqByteS.f k t243 t233).bind fun t256 => (laws_FnExactMailBytes.j0 k a1 t233 t243 (!t256) a0_0 a0_1 a0_2 l0_3)))) else (some false)))) else (some false)))) = some r := H
 have A10 := mk_ A100
 clear A100
 replace H := Option.bind_eq_some_iff.mp H
 obtain ⟨t243, A110, H⟩ := H
 replace H : ((laws_eqByteS.f k t243 t233).bind fun t246 => (if t246 = true then ((laws_toMail.f k a0_0 a0_1 a0_2 l0_3).bind fun bt247 => ((laws_eqMail.f k t236 t237 t238 t239 bt247.1 bt247.2.1 bt247.2.2.1 bt247.2.2.2).bind fun t253 => (if t253 = true then ((laws_markMail.f k t236 t237 t238 t239 1).bind fun bt254 => (if bt254.1 < 0 then (laws_FnExactMailBytes.j0 k a1 t233 t243 true a0_0 a0_1 a0_2 l0_3) else ((laws_eqByteS.f k t243 t233).bind fun t256 => (laws_FnExactMailBytes.j0 k a1 t233 t243 (!t256) a0_0 a0_1 a0_2 l0_3)))) else (some false)))) else (some false))) = some r := H
 have A11 := mk_ A110
 clear A110
 replace H := Option.bind_eq_some_iff.mp H
 obtain ⟨t246, A120, H⟩ := H
 replace H : (if t246 = true then ((laws_toMail.f k a0_0 a0_1 a0_2 l0_3).bind fun bt247 => ((laws_eqMail.f k t236 t237 t238 t239 bt247.1 bt247.2.1 bt247.2.2.1 bt247.2.2.2).bind fun t253 => (if t253 = true then ((laws_markMail.f k t236 t237 t238 t239 1).bind fun bt254 => (if bt254.1 < 0 then (laws_FnExactMailBytes.j0 k a1 t233 t243 true a0_0 a0_1 a0_2 l0_3) else ((laws_eqByteS.f k t243 t233).bind fun t256 => (laws_FnExactMailBytes.j0 k a1 t233 t243 (!t256) a0_0 a0_1 a0_2 l0_3)))) else (some false)))) else (some false)) = some r := H
 have A12 := mk_ A120
 clear A120
 by_cases c13 : t246 = true
 rotate_left
 ·replace c13 := Bool.eq_false_iff.mpr c13
  subst c13
  have H1 : (some false) = some r := by rw [if_neg (show ¬ (false = true) by decide)] at H; exact H
  clear H
  have H := H1
  clear H1
  obtain rfl := Option.some.inj H
  go_enter Try.func3, Try.ntmps3
  go_wp2_with (first | ((with_reducible refine gate_dst (N := 2) rfl ?_); refine box_event ?hg (N := 2) ?hd (cs := #[.int .i64 a0_0, .int .i64 a0_1, .int .i64 a0_2, .slice A0_3 l0_3.length c0_3]) (t := 24) ?hr ?_; (case hd => rfl); (case hg => rfl); (case hr => first | (go_simp; done) | (go_simp; rfl)); intro gb225 hg w105 hbox hb; have n0_ := mk_ (below_step (ub_ HB.out) hb); have n1_ := mk_ (hbox); have n2_ := mk_ ((by rw [hg]; exact (below_size (ub_ HB.out)) : w.heap.size ≤ gb225)); have n3_ := mk_ ((by rw [hg]; exact (below_size (ub_ HB.out)) : w.heap.size ≤ gb225)); clear HB; have HB := n0_; have BK225 := n1_; have GW225 := n2_; have GE225 := ge_ n3_.out; clear n0_ n1_ n2_ n3_; clear hb hbox hg; obtain ⟨hcz106_0, hcz106_1, hcz106_2, hcz106_3, hfz106_0, hfz106_1, hfz106_2, hfz106_3⟩ := cells4_ BK225.out) | ((with_reducible refine gate_callee (f := 9) rfl ?_); refine goesL_ (some 15) rfl rfl Try.func9 (by kernel_rfl) rfl #[.agg #[.int .i64 a0_0, .int .i64 a0_1, .int .i64 a0_2, .slice A0_3 l0_3.length c0_3], .int .i64 1048576] rfl (by (try simp only [lm_, lo_, ln_]); first | done | rfl | (simp only [List.length_drop, List.length_take]; rfl)) ?_; (with_reducible refine (laws_szMail.calls a0_0 a0_1 a0_2 _ _ l0_3 1048576 t226 _ ?side1 ?side2 A3.out).mono ?_); (case side1 => repeat (first | exact (Kd.C_below HR0_3.out HB.out) | (with_reducible refine Kd.C_alloc ?_ _) | (with_reducible refine Kd.C_drewN ?_ _) | (with_reducible refine Kd.C_drew ?_))); (case side2 => exact HC0_3.out); rintro e w107 ⟨rfl, hb⟩; refine ⟨_, rfl, ?_⟩; have n0_ := mk_ (blk_below (u_ BK225.out) hb); have n1_ := mk_ (below_step (us_ HB.out) hb); clear BK225; clear HB; have BK225 := n0_; have HB := n1_; clear n0_ n1_; (try clear hb); (try clear hb2); (try clear hk); (try clear hi); obtain ⟨hcz108_0, hcz108_1, hcz108_2, hcz108_3, hfz108_0, hfz108_1, hfz108_2, hfz108_3⟩ := cells4_ BK225.out) | ((with_reducible refine gate_callee (f := 11) rfl ?_); have hA_ := A8.out; refine goesL_ (some 19) rfl rfl Try.func11 (by kernel_rfl) rfl #[.agg #[.int .i64 a0_0, .int .i64 a0_1, .int .i64 a0_2, .slice A0_3 l0_3.length c0_3]] rfl (by (try simp only [lm_, lo_, ln_]); first | done | rfl | (simp only [List.length_drop, List.length_take]; rfl)) ?_; (with_reducible refine (laws_toMail.calls k a0_0 a0_1 a0_2 _ _ l0_3 t227 t228 t229 t230 _ ?side1 ?side2 A8.out).mono ?_); (case side1 => repeat (first | exact (Kd.C_below HR0_3.out HB.out) | (with_reducible refine Kd.C_alloc ?_ _) | (with_reducible refine Kd.C_drewN ?_ _) | (with_reducible refine Kd.C_drew ?_))); (case side2 => exact HC0_3.out); rintro e w109 ⟨v231, rfl, ho0, hb⟩; refine ⟨_, rfl, ?_⟩; have n0_ := mk_ (Kd.R_lower ho0 (below_size (us_ HB.out))); have n1_ := mk_ (blk_below (u_ BK225.out) hb); have n2_ := mk_ (below_step (us_ HB.out) hb); clear BK225; clear HB; have HO232 := n0_; have BK225 := n1_; have HB := n2_; clear n0_ n1_ n2_; (try clear hb); (try clear hb2); (try clear hk); (try clear hi); (try clear ho0); obtain ⟨Ao110, co110, eo110⟩ := Kd.R_slice HO232.out; subst eo110; clear hA_ A8) | ((with_reducible refine gate_callee (f := 10) rfl ?_); refine goesL_ (some 21) rfl rfl Try.func10 (by kernel_rfl) rfl #[.agg #[.int .i64 t227, .int .i64 t228, .int .i64 t229, .slice Ao110 t230.length co110], .int .i64 a1] rfl (by (try simp only [lm_, lo_, ln_]); first | done | rfl | (simp only [List.length_drop, List.length_take]; rfl)) ?_; (with_reducible refine (spec_MailBytes.calls k t227 t228 t229 _ _ t230 a1 t233 _ ?side1 ?side2 A9.out).mono ?_); (case side1 => repeat (first | exact (Kd.R_reads' HO232.out).2.2 | (with_reducible refine Kd.C_alloc ?_ _) | (with_reducible refine Kd.C_drewN ?_ _) | (with_reducible refine Kd.C_drew ?_))); (case side2 => exact (Kd.R_reads' HO232.out).2.1); rintro e w111 ⟨v234, rfl, ho0, hb⟩; refine ⟨_, rfl, ?_⟩; have n0_ := mk_ (Kd.R_elder' (Kd.ur_ HO232.out) (Kd.R_base ho0) hb); have n1_ := mk_ (Kd.R_lower (Kd.R_new' ho0 (Kd.R_lt (Kd.ur_ HO232.out))) (below_size (us_ HB.out))); have n2_ := mk_ (blk_below (u_ BK225.out) hb); have n3_ := mk_ (below_step (us_ HB.out) hb); clear HO232; clear BK225; clear HB; have HO232 := n0_; have HO235 := n1_; have BK225 := n2_; have HB := n3_; clear n0_ n1_ n2_ n3_; (try clear hb); (try clear hb2); (try clear hk); (try clear hi); (try clear ho0); obtain ⟨hcz112_0, hcz112_1, hcz112_2, hcz112_3, hfz112_0, hfz112_1, hfz112_2, hfz112_3⟩ := cells4_ BK225.out) | ((with_reducible refine gate_callee (f := 11) rfl ?_); have hA_ := A10.out; refine goesL_ (some 23) rfl rfl Try.func11 (by kernel_rfl) rfl #[.agg #[.int .i64 a0_0, .int .i64 a0_1, .int .i64 a0_2, .slice A0_3 l0_3.length c0_3]] rfl (by (try simp only [lm_, lo_, ln_]); first | done | rfl | (simp only [List.length_drop, List.length_take]; rfl)) ?_; (with_reducible refine (laws_toMail.calls k a0_0 a0_1 a0_2 _ _ l0_3 t236 t237 t238 t239 _ ?side1 ?side2 A10.out).mono ?_); (case side1 => repeat (first | exact (Kd.C_below HR0_3.out HB.out) | (with_reducible refine Kd.C_alloc ?_ _) | (with_reducible refine Kd.C_drewN ?_ _) | (with_reducible refine Kd.C_drew ?_))); (case side2 => exact HC0_3.out); rintro e w113 ⟨v240, rfl, ho0, hb⟩; refine ⟨_, rfl, ?_⟩; have n0_ := mk_ (Kd.R_elder' (Kd.ur_ HO232.out) (Kd.R_base ho0) hb); have n1_ := mk_ (Kd.R_elder' (Kd.ur_ HO235.out) (Kd.R_base ho0) hb); have n2_ := mk_ (Kd.R_lower (Kd.R_new' (Kd.R_new' ho0 (Kd.R_lt (Kd.ur_ HO232.out))) (Kd.R_lt (Kd.ur_ HO235.out))) (below_size (us_ HB.out))); have n3_ := mk_ (blk_below (u_ BK225.out) hb); have n4_ := mk_ (below_step (us_ HB.out) hb); clear HO232; clear HO235; clear BK225; clear HB; have HO232 := n0_; have HO235 := n1_; have HO241 := n2_; have BK225 := n3_; have HB := n4_; clear n0_ n1_ n2_ n3_ n4_; (try clear hb); (try clear hb2); (try clear hk); (try clear hi); (try clear ho0); clear hA_ A10) | ((with_reducible refine gate_dst (N := 7) rfl ?_); refine box_event ?hg (N := 7) ?hd (cs := #[.int .i64 0, .int .i64 0, .int .i64 0, .slice none 0 0]) (t := 27) ?hr ?_; (case hd => rfl); (case hg => rfl); (case hr => first | (go_simp; done) | (go_simp; rfl)); intro gb242 hg w114 hbox hb; have n0_ := mk_ (Kd.R_below (Kd.ur_ HO232.out) hb); have n1_ := mk_ (Kd.R_below (Kd.ur_ HO235.out) hb); have n2_ := mk_ (Kd.R_below (Kd.ur_ HO241.out) hb); have n3_ := mk_ (blk_below (u_ BK225.out) hb); have n4_ := mk_ (below_step (us_ HB.out) hb); have n5_ := mk_ (hbox); have n6_ := mk_ ((by rw [hg]; exact (below_size (us_ HB.out)) : w.heap.size ≤ gb242)); have n7_ := mk_ ((by rw [hg]; exact (below_size (us_ HB.out)) : w.heap.size ≤ gb242)); have n8_ := mk_ ((by rw [hg]; exact Nat.ne_of_lt (blk_lt (u_ BK225.out)) : gb225 ≠ gb242)); have n9_ := mk_ ((by rw [hg]; exact Nat.ne_of_gt (blk_lt (u_ BK225.out)) : gb242 ≠ gb225)); clear HO232; clear HO235; clear HO241; clear BK225; clear HB; have HO232 := n0_; have HO235 := n1_; have HO241 := n2_; have BK225 := n3_; have HB := n4_; have BK242 := n5_; have GW242 := n6_; have GE242 := ge_ n7_.out; have NB225_242 := nq_ n8_.out; have NB242_225 := nq_ n9_.out; clear n0_ n1_ n2_ n3_ n4_ n5_ n6_ n7_ n8_ n9_; clear hb hbox hg; have hnb115 := NB242_225.out; have hnc115 := NB225_242.out; obtain ⟨hcz116_0, hcz116_1, hcz116_2, hcz116_3, hfz116_0, hfz116_1, hfz116_2, hfz116_3⟩ := cells4_ BK242.out; obtain ⟨Ao117, co117, eo117⟩ := Kd.R_slice HO241.out; subst eo117) | ((with_reducible refine gate_callee (f := 12) rfl ?_); refine goesL_ (some 26) rfl rfl Try.func12 (by kernel_rfl) rfl #[.agg #[.int .i64 t236, .int .i64 t237, .int .i64 t238, .slice Ao117 t239.length co117], .int .i64 a1] rfl (by (try simp only [lm_, lo_, ln_]); first | done | rfl | (simp only [List.length_drop, List.length_take]; rfl)) ?_; (with_reducible refine (impl_MailBytes.calls k t236 t237 t238 _ _ t239 a1 t243 _ ?side1 ?side2 A11.out).mono ?_); (case side1 => refine (Kd.R_reads' (e := 5) (base := w.heap.size) (ok := fun k_ => ((True ∧ some k_ ≠ (.slice Ao110 t230.length co110 : Value).ownBlock) ∧ some k_ ≠ (v234 : Value).ownBlock)) (n := t239.length) (c := co117) ?_).2.2; exact (by (with_reducible repeat (first | apply Kd.R_alloc | apply Kd.R_drewN | apply Kd.R_drew)); exact (Kd.R_mono (Kd.R_far (p := ⟨gb242, 3, none⟩) (Kd.R_far (p := ⟨gb242, 2, none⟩) (Kd.R_far (p := ⟨gb242, 1, none⟩) (Kd.R_far (p := ⟨gb242, 0, none⟩) (Kd.R_types HO241.out BK242.out (by decide)) (fun _ hk => hk.2) (.int .i64 t236)) (fun _ hk => hk.2) (.int .i64 t237)) (fun _ hk => hk.2) (.int .i64 t238)) (fun _ hk => hk.2) (.slice Ao117 t239.length co117)) (fun _ h_ => by first | exact h_.1 | simp only [h_, ne_eq, not_false_eq_true, and_self])))); (case side2 => exact (Kd.R_reads' HO241.out).2.1); rintro e w118 ⟨v244, rfl, ho0, hb⟩; refine ⟨_, rfl, ?_⟩; have n0_ := mk_ (Kd.R_elder' (by (with_reducible repeat (first | apply Kd.R_alloc | apply Kd.R_drewN | apply Kd.R_drew)); exact (Kd.R_mono (Kd.R_far (p := ⟨gb242, 3, none⟩) (Kd.R_far (p := ⟨gb242, 2, none⟩) (Kd.R_far (p := ⟨gb242, 1, none⟩) (Kd.R_far (p := ⟨gb242, 0, none⟩) (Kd.R_types HO232.out BK242.out (by decide)) (fun _ hk => hk.2) (.int .i64 t236)) (fun _ hk => hk.2) (.int .i64 t237)) (fun _ hk => hk.2) (.int .i64 t238)) (fun _ hk => hk.2) (.slice Ao117 t239.length co117)) (fun _ h_ => by first | exact h_.1 | simp only [h_, ne_eq, not_false_eq_true, and_self]))) (Kd.R_base ho0) hb); have n1_ := mk_ (Kd.R_elder' (by (with_reducible repeat (first | apply Kd.R_alloc | apply Kd.R_drewN | apply Kd.R_drew)); exact (Kd.R_mono (Kd.R_far (p := ⟨gb242, 3, none⟩) (Kd.R_far (p := ⟨gb242, 2, none⟩) (Kd.R_far (p := ⟨gb242, 1, none⟩) (Kd.R_far (p := ⟨gb242, 0, none⟩) (Kd.R_types HO235.out BK242.out (by decide)) (fun _ hk => hk.2) (.int .i64 t236)) (fun _ hk => hk.2) (.int .i64 t237)) (fun _ hk => hk.2) (.int .i64 t238)) (fun _ hk => hk.2) (.slice Ao117 t239.length co117)) (fun _ h_ => by first | exact h_.1 | simp only [h_, ne_eq, not_false_eq_true, and_self]))) (Kd.R_base ho0) hb); have n2_ := mk_ (Kd.R_elder' (by (with_reducible repeat (first | apply Kd.R_alloc | apply Kd.R_drewN | apply Kd.R_drew)); exact (Kd.R_mono (Kd.R_far (p := ⟨gb242, 3, none⟩) (Kd.R_far (p := ⟨gb242, 2, none⟩) (Kd.R_far (p := ⟨gb242, 1, none⟩) (Kd.R_far (p := ⟨gb242, 0, none⟩) (Kd.R_types HO241.out BK242.out (by decide)) (fun _ hk => hk.2) (.int .i64 t236)) (fun _ hk => hk.2) (.int .i64 t237)) (fun _ hk => hk.2) (.int .i64 t238)) (fun _ hk => hk.2) (.slice Ao117 t239.length co117)) (fun _ h_ => by first | exact h_.1 | simp only [h_, ne_eq, not_false_eq_true, and_self]))) (Kd.R_base ho0) hb); have n3_ := mk_ (Kd.R_lower (Kd.R_new' (Kd.R_new' (Kd.R_new' ho0 (Kd.R_lt (by (with_reducible repeat (first | apply Kd.R_alloc | apply Kd.R_drewN | apply Kd.R_drew)); exact (Kd.R_mono (Kd.R_far (p := ⟨gb242, 3, none⟩) (Kd.R_far (p := ⟨gb242, 2, none⟩) (Kd.R_far (p := ⟨gb242, 1, none⟩) (Kd.R_far (p := ⟨gb242, 0, none⟩) (Kd.R_types HO232.out BK242.out (by decide)) (fun _ hk => hk.2) (.int .i64 t236)) (fun _ hk => hk.2) (.int .i64 t237)) (fun _ hk => hk.2) (.int .i64 t238)) (fun _ hk => hk.2) (.slice Ao117 t239.length co117)) (fun _ h_ => by first | exact h_.1 | simp only [h_, ne_eq, not_false_eq_true, and_self]))))) (Kd.R_lt (by (with_reducible repeat (first | apply Kd.R_alloc | apply Kd.R_drewN | apply Kd.R_drew)); exact (Kd.R_mono (Kd.R_far (p := ⟨gb242, 3, none⟩) (Kd.R_far (p := ⟨gb242, 2, none⟩) (Kd.R_far (p := ⟨gb242, 1, none⟩) (Kd.R_far (p := ⟨gb242, 0, none⟩) (Kd.R_types HO235.out BK242.out (by decide)) (fun _ hk => hk.2) (.int .i64 t236)) (fun _ hk => hk.2) (.int .i64 t237)) (fun _ hk => hk.2) (.int .i64 t238)) (fun _ hk => hk.2) (.slice Ao117 t239.length co117)) (fun _ h_ => by first | exact h_.1 | simp only [h_, ne_eq, not_false_eq_true, and_self]))))) (Kd.R_lt (by (with_reducible repeat (first | apply Kd.R_alloc | apply Kd.R_drewN | apply Kd.R_drew)); exact (Kd.R_mono (Kd.R_far (p := ⟨gb242, 3, none⟩) (Kd.R_far (p := ⟨gb242, 2, none⟩) (Kd.R_far (p := ⟨gb242, 1, none⟩) (Kd.R_far (p := ⟨gb242, 0, none⟩) (Kd.R_types HO241.out BK242.out (by decide)) (fun _ hk => hk.2) (.int .i64 t236)) (fun _ hk => hk.2) (.int .i64 t237)) (fun _ hk => hk.2) (.int .i64 t238)) (fun _ hk => hk.2) (.slice Ao117 t239.length co117)) (fun _ h_ => by first | exact h_.1 | simp only [h_, ne_eq, not_false_eq_true, and_self]))))) (below_size (us_ HB.out))); have n4_ := mk_ (blk_below (g := gb225) (o := .cells #[.int .i64 a0_0, .int .i64 a0_1, .int .i64 a0_2, .slice A0_3 l0_3.length c0_3] 24 (0, 0)) (uf_ BK225.out) hb); have n5_ := mk_ (blk_below (g := gb242) (o := .cells #[.int .i64 t236, .int .i64 t237, .int .i64 t238, .slice Ao117 t239.length co117] 27 (0, 0)) (by (with_reducible repeat (first | refine bn_ ?_ _ | refine bw_ ?_ | refine ba_ ?_ _)); refine blk_put (cs := #[.int .i64 t236, .int .i64 t237, .int .i64 t238, .slice none 0 0]) ?_ 3 _ rfl; (with_reducible repeat (first | refine bn_ ?_ _ | refine bw_ ?_ | refine ba_ ?_ _)); refine blk_put (cs := #[.int .i64 t236, .int .i64 t237, .int .i64 0, .slice none 0 0]) ?_ 2 _ rfl; (with_reducible repeat (first | refine bn_ ?_ _ | refine bw_ ?_ | refine ba_ ?_ _)); refine blk_put (cs := #[.int .i64 t236, .int .i64 0, .int .i64 0, .slice none 0 0]) ?_ 1 _ rfl; (with_reducible repeat (first | refine bn_ ?_ _ | refine bw_ ?_ | refine ba_ ?_ _)); refine blk_put (cs := #[.int .i64 0, .int .i64 0, .int .i64 0, .slice none 0 0]) ?_ 0 _ rfl; (with_reducible repeat (first | refine bn_ ?_ _ | refine bw_ ?_ | refine ba_ ?_ _)); exact BK242.out) hb); have n6_ := mk_ (below_step (us_ HB.out) hb); clear HO232; clear HO235; clear HO241; clear BK225; clear BK242; clear HB; have HO232 := n0_; have HO235 := n1_; have HO241 := n2_; have HO245 := n3_; have BK225 := n4_; have BK242 := n5_; have HB := n6_; clear n0_ n1_ n2_ n3_ n4_ n5_ n6_; (try clear hb); (try clear hb2); (try clear hk); (try clear hi); (try clear ho0); obtain ⟨Ao119, co119, eo119⟩ := Kd.R_slice HO245.out; subst eo119; obtain ⟨Ao120, co120, eo120⟩ := Kd.R_slice HO235.out; subst eo120) | ((with_reducible refine gate_callee (f := 13) rfl ?_); refine goesL_ (some 29) rfl rfl Try.func13 (by kernel_rfl) rfl #[.slice Ao119 t243.length co119, .slice Ao120 t233.length co120] rfl (by (try simp only [lm_, lo_, ln_]); first | done | rfl | (simp only [List.length_drop, List.length_take]; rfl)) ?_; (with_reducible refine (laws_eqByteS.calls k _ _ t243 _ _ t233 false _ ?side1 ?side2 ?side3 ?side4 A12.out).mono ?_); (case side1 => repeat (first | exact (Kd.R_reads' HO245.out).2.2 | (with_reducible refine Kd.C_alloc ?_ _) | (with_reducible refine Kd.C_drewN ?_ _) | (with_reducible refine Kd.C_drew ?_))); (case side2 => exact (Kd.R_reads' HO245.out).2.1); (case side3 => repeat (first | exact (Kd.R_reads' HO235.out).2.2 | (with_reducible refine Kd.C_alloc ?_ _) | (with_reducible refine Kd.C_drewN ?_ _) | (with_reducible refine Kd.C_drew ?_))); (case side4 => exact (Kd.R_reads' HO235.out).2.1); rintro e w' ⟨rfl, ⟨nd, rfl⟩⟩; refine ⟨_, rfl, ?_⟩))
  go_ret
  exact ⟨by first | rfl | (simp [errW_none, errW_some] <;> rfl) | (simp [*, errW_none, errW_some] <;> rfl), us_ HB.out⟩
 subst c13
 have H1 : ((laws_toMail.f k a0_0 a0_1 a0_2 l0_3).bind fun bt247 => ((laws_eqMail.f k t236 t237 t238 t239 bt247.1 bt247.2.1 bt247.2.2.1 bt247.2.2.2).bind fun t253 => (if t253 = true then ((laws_markMail.f k t236 t237 t238 t239 1).bind fun bt254 => (if bt254.1 < 0 then (laws_FnExactMailBytes.j0 k a1 t233 t243 true a0_0 a0_1 a0_2 l0_3) else ((laws_eqByteS.f k t243 t233).bind fun t256 => (laws_FnExactMailBytes.j0 k a1 t233 t243 (!t256) a0_0 a0_1 a0_2 l0_3)))) else (some false)))) = some r := by rw [if_pos rfl] at H; exact H
 clear H
 have H := H1
 clear H1
 replace H := Option.bind_eq_some_iff.mp H
 obtain ⟨⟨t247, t248, t249, t250⟩, A140, H⟩ := H
 replace H : ((laws_eqMail.f k t236 t237 t238 t239 t247 t248 t249 t250).bind fun t253 => (if t253 = true then ((laws_markMail.f k t236 t237 t238 t239 1).bind fun bt254 => (if bt254.1 < 0 then (laws_FnExactMailBytes.j0 k a1 t233 t243 true a0_0 a0_1 a0_2 l0_3) else ((laws_eqByteS.f k t243 t233).bind fun t256 => (laws_FnExactMailBytes.j0 k a1 t233 t243 (!t256) a0_0 a0_1 a0_2 l0_3)))) else (some false))) = some r := H
 have A14 := mk_ A140
 clear A140
 replace H := Option.bind_eq_some_iff.mp H
 obtain ⟨t253, A150, H⟩ := H
 replace H : (if t253 = true then ((laws_markMail.f k t236 t237 t238 t239 1).bind fun bt254 => (if bt254.1 < 0 then (laws_FnExactMailBytes.j0 k a1 t233 t243 true a0_0 a0_1 a0_2 l0_3) else ((laws_eqByteS.f k t243 t233).bind fun t256 => (laws_FnExactMailBytes.j0 k a1 t233 t243 (!t256) a0_0 a0_1 a0_2 l0_3)))) else (some false)) = some r := H
 have A15 := mk_ A150
 clear A150
 by_cases c16 : t253 = true
 rotate_left
 ·replace c16 := Bool.eq_false_iff.mpr c16
  subst c16
  have H1 : (some false) = some r := by rw [if_neg (show ¬ (false = true) by decide)] at H; exact H
  clear H
  have H := H1
  clear H1
  obtain rfl := Option.some.inj H
  go_enter Try.func3, Try.ntmps3
  try go_wp2_with (first | ((with_reducible refine gate_dst (N := 2) rfl ?_); refine box_event ?hg (N := 2) ?hd (cs := #[.int .i64 a0_0, .int .i64 a0_1, .int .i64 a0_2, .slice A0_3 l0_3.length c0_3]) (t := 24) ?hr ?_; (case hd => rfl); (case hg => rfl); (case hr => first | (go_simp; done) | (go_simp; rfl)); intro gb225 hg w85 hbox hb; have n0_ := mk_ (below_step (ub_ HB.out) hb); have n1_ := mk_ (hbox); have n2_ := mk_ ((by rw [hg]; exact (below_size (ub_ HB.out)) : w.heap.size ≤ gb225)); have n3_ := mk_ ((by rw [hg]; exact (below_size (ub_ HB.out)) : w.heap.size ≤ gb225)); clear HB; have HB := n0_; have BK225 := n1_; have GW225 := n2_; have GE225 := ge_ n3_.out; clear n0_ n1_ n2_ n3_; clear hb hbox hg; obtain ⟨hcz86_0, hcz86_1, hcz86_2, hcz86_3, hfz86_0, hfz86_1, hfz86_2, hfz86_3⟩ := cells4_ BK225.out) | ((with_reducible refine gate_callee (f := 9) rfl ?_); refine goesL_ (some 15) rfl rfl Try.func9 (by kernel_rfl) rfl #[.agg #[.int .i64 a0_0, .int .i64 a0_1, .int .i64 a0_2, .slice A0_3 l0_3.length c0_3], .int .i64 1048576] rfl (by (try simp only [lm_, lo_, ln_]); first | done | rfl | (simp only [List.length_drop, List.length_take]; rfl)) ?_; (with_reducible refine (laws_szMail.calls a0_0 a0_1 a0_2 _ _ l0_3 1048576 t226 _ ?side1 ?side2 A3.out).mono ?_); (case side1 => repeat (first | exact (Kd.C_below HR0_3.out HB.out) | (with_reducible refine Kd.C_alloc ?_ _) | (with_reducible refine Kd.C_drewN ?_ _) | (with_reducible refine Kd.C_drew ?_))); (case side2 => exact HC0_3.out); rintro e w87 ⟨rfl, hb⟩; refine ⟨_, rfl, ?_⟩; have n0_ := mk_ (blk_below (u_ BK225.out) hb); have n1_ := mk_ (below_step (us_ HB.out) hb); clear BK225; clear HB; have BK225 := n0_; have HB := n1_; clear n0_ n1_; (try clear hb); (try clear hb2); (try clear hk); (try clear hi); obtain ⟨hcz88_0, hcz88_1, hcz88_2, hcz88_3, hfz88_0, hfz88_1, hfz88_2, hfz88_3⟩ := cells4_ BK225.out) | ((with_reducible refine gate_callee (f := 11) rfl ?_); have hA_ := A8.out; refine goesL_ (some 19) rfl rfl Try.func11 (by kernel_rfl) rfl #[.agg #[.int .i64 a0_0, .int .i64 a0_1, .int .i64 a0_2, .slice A0_3 l0_3.length c0_3]] rfl (by (try simp only [lm_, lo_, ln_]); first | done | rfl | (simp only [List.length_drop, List.length_take]; rfl)) ?_; (with_reducible refine (laws_toMail.calls k a0_0 a0_1 a0_2 _ _ l0_3 t227 t228 t229 t230 _ ?side1 ?side2 A8.out).mono ?_); (case side1 => repeat (first | exact (Kd.C_below HR0_3.out HB.out) | (with_reducible refine Kd.C_alloc ?_ _) | (with_reducible refine Kd.C_drewN ?_ _) | (with_reducible refine Kd.C_drew ?_))); (case side2 => exact HC0_3.out); rintro e w89 ⟨v231, rfl, ho0, hb⟩; refine ⟨_, rfl, ?_⟩; have n0_ := mk_ (Kd.R_lower ho0 (below_size (us_ HB.out))); have n1_ := mk_ (blk_below (u_ BK225.out) hb); have n2_ := mk_ (below_step (us_ HB.out) hb); clear BK225; clear HB; have HO232 := n0_; have BK225 := n1_; have HB := n2_; clear n0_ n1_ n2_; (try clear hb); (try clear hb2); (try clear hk); (try clear hi); (try clear ho0); obtain ⟨Ao90, co90, eo90⟩ := Kd.R_slice HO232.out; subst eo90; clear hA_ A8) | ((with_reducible refine gate_callee (f := 10) rfl ?_); refine goesL_ (some 21) rfl rfl Try.func10 (by kernel_rfl) rfl #[.agg #[.int .i64 t227, .int .i64 t228, .int .i64 t229, .slice Ao90 t230.length co90], .int .i64 a1] rfl (by (try simp only [lm_, lo_, ln_]); first | done | rfl | (simp only [List.length_drop, List.length_take]; rfl)) ?_; (with_reducible refine (spec_MailBytes.calls k t227 t228 t229 _ _ t230 a1 t233 _ ?side1 ?side2 A9.out).mono ?_); (case side1 => repeat (first | exact (Kd.R_reads' HO232.out).2.2 | (with_reducible refine Kd.C_alloc ?_ _) | (with_reducible refine Kd.C_drewN ?_ _) | (with_reducible refine Kd.C_drew ?_))); (case side2 => exact (Kd.R_reads' HO232.out).2.1); rintro e w91 ⟨v234, rfl, ho0, hb⟩; refine ⟨_, rfl, ?_⟩; have n0_ := mk_ (Kd.R_elder' (Kd.ur_ HO232.out) (Kd.R_base ho0) hb); have n1_ := mk_ (Kd.R_lower (Kd.R_new' ho0 (Kd.R_lt (Kd.ur_ HO232.out))) (below_size (us_ HB.out))); have n2_ := mk_ (blk_below (u_ BK225.out) hb); have n3_ := mk_ (below_step (us_ HB.out) hb); clear HO232; clear BK225; clear HB; have HO232 := n0_; have HO235 := n1_; have BK225 := n2_; have HB := n3_; clear n0_ n1_ n2_ n3_; (try clear hb); (try clear hb2); (try clear hk); (try clear hi); (try clear ho0); obtain ⟨hcz92_0, hcz92_1, hcz92_2, hcz92_3, hfz92_0, hfz92_1, hfz92_2, hfz92_3⟩ := cells4_ BK225.out) | ((with_reducible refine gate_callee (f := 11) rfl ?_); have hA_ := A10.out; refine goesL_ (some 23) rfl rfl Try.func11 (by kernel_rfl) rfl #[.agg #[.int .i64 a0_0, .int .i64 a0_1, .int .i64 a0_2, .slice A0_3 l0_3.length c0_3]] rfl (by (try simp only [lm_, lo_, ln_]); first | done | rfl | (simp only [List.length_drop, List.length_take]; rfl)) ?_; (with_reducible refine (laws_toMail.calls k a0_0 a0_1 a0_2 _ _ l0_3 t236 t237 t238 t239 _ ?side1 ?side2 A10.out).mono ?_); (case side1 => repeat (first | exact (Kd.C_below HR0_3.out HB.out) | (with_reducible refine Kd.C_alloc ?_ _) | (with_reducible refine Kd.C_drewN ?_ _) | (with_reducible refine Kd.C_drew ?_))); (case side2 => exact HC0_3.out); rintro e w93 ⟨v240, rfl, ho0, hb⟩; refine ⟨_, rfl, ?_⟩; have n0_ := mk_ (Kd.R_elder' (Kd.ur_ HO232.out) (Kd.R_base ho0) hb); have n1_ := mk_ (Kd.R_elder' (Kd.ur_ HO235.out) (Kd.R_base ho0) hb); have n2_ := mk_ (Kd.R_lower (Kd.R_new' (Kd.R_new' ho0 (Kd.R_lt (Kd.ur_ HO232.out))) (Kd.R_lt (Kd.ur_ HO235.out))) (below_size (us_ HB.out))); have n3_ := mk_ (blk_below (u_ BK225.out) hb); have n4_ := mk_ (below_step (us_ HB.out) hb); clear HO232; clear HO235; clear BK225; clear HB; have HO232 := n0_; have HO235 := n1_; have HO241 := n2_; have BK225 := n3_; have HB := n4_; clear n0_ n1_ n2_ n3_ n4_; (try clear hb); (try clear hb2); (try clear hk); (try clear hi); (try clear ho0); clear hA_ A10) | ((with_reducible refine gate_dst (N := 7) rfl ?_); refine box_event ?hg (N := 7) ?hd (cs := #[.int .i64 0, .int .i64 0, .int .i64 0, .slice none 0 0]) (t := 27) ?hr ?_; (case hd => rfl); (case hg => rfl); (case hr => first | (go_simp; done) | (go_simp; rfl)); intro gb242 hg w94 hbox hb; have n0_ := mk_ (Kd.R_below (Kd.ur_ HO232.out) hb); have n1_ := mk_ (Kd.R_below (Kd.ur_ HO235.out) hb); have n2_ := mk_ (Kd.R_below (Kd.ur_ HO241.out) hb); have n3_ := mk_ (blk_below (u_ BK225.out) hb); have n4_ := mk_ (below_step (us_ HB.out) hb); have n5_ := mk_ (hbox); have n6_ := mk_ ((by rw [hg]; exact (below_size (us_ HB.out)) : w.heap.size ≤ gb242)); have n7_ := mk_ ((by rw [hg]; exact (below_size (us_ HB.out)) : w.heap.size ≤ gb242)); have n8_ := mk_ ((by rw [hg]; exact Nat.ne_of_lt (blk_lt (u_ BK225.out)) : gb225 ≠ gb242)); have n9_ := mk_ ((by rw [hg]; exact Nat.ne_of_gt (blk_lt (u_ BK225.out)) : gb242 ≠ gb225)); clear HO232; clear HO235; clear HO241; clear BK225; clear HB; have HO232 := n0_; have HO235 := n1_; have HO241 := n2_; have BK225 := n3_; have HB := n4_; have BK242 := n5_; have GW242 := n6_; have GE242 := ge_ n7_.out; have NB225_242 := nq_ n8_.out; have NB242_225 := nq_ n9_.out; clear n0_ n1_ n2_ n3_ n4_ n5_ n6_ n7_ n8_ n9_; clear hb hbox hg; have hnb95 := NB242_225.out; have hnc95 := NB225_242.out; obtain ⟨hcz96_0, hcz96_1, hcz96_2, hcz96_3, hfz96_0, hfz96_1, hfz96_2, hfz96_3⟩ := cells4_ BK242.out; obtain ⟨Ao97, co97, eo97⟩ := Kd.R_slice HO241.out; subst eo97) | ((with_reducible refine gate_callee (f := 12) rfl ?_); refine goesL_ (some 26) rfl rfl Try.func12 (by kernel_rfl) rfl #[.agg #[.int .i64 t236, .int .i64 t237, .int .i64 t238, .slice Ao97 t239.length co97], .int .i64 a1] rfl (by (try simp only [lm_, lo_, ln_]); first | done | rfl | (simp only [List.length_drop, List.length_take]; rfl)) ?_; (with_reducible refine (impl_MailBytes.calls k t236 t237 t238 _ _ t239 a1 t243 _ ?side1 ?side2 A11.out).mono ?_); (case side1 => refine (Kd.R_reads' (e := 5) (base := w.heap.size) (ok := fun k_ => ((True ∧ some k_ ≠ (.slice Ao90 t230.length co90 : Value).ownBlock) ∧ some k_ ≠ (v234 : Value).ownBlock)) (n := t239.length) (c := co97) ?_).2.2; exact (by (with_reducible repeat (first | apply Kd.R_alloc | apply Kd.R_drewN | apply Kd.R_drew)); exact (Kd.R_mono (Kd.R_far (p := ⟨gb242, 3, none⟩) (Kd.R_far (p := ⟨gb242, 2, none⟩) (Kd.R_far (p := ⟨gb242, 1, none⟩) (Kd.R_far (p := ⟨gb242, 0, none⟩) (Kd.R_types HO241.out BK242.out (by decide)) (fun _ hk => hk.2) (.int .i64 t236)) (fun _ hk => hk.2) (.int .i64 t237)) (fun _ hk => hk.2) (.int .i64 t238)) (fun _ hk => hk.2) (.slice Ao97 t239.length co97)) (fun _ h_ => by first | exact h_.1 | simp only [h_, ne_eq, not_false_eq_true, and_self])))); (case side2 => exact (Kd.R_reads' HO241.out).2.1); rintro e w98 ⟨v244, rfl, ho0, hb⟩; refine ⟨_, rfl, ?_⟩; have n0_ := mk_ (Kd.R_elder' (by (with_reducible repeat (first | apply Kd.R_alloc | apply Kd.R_drewN | apply Kd.R_drew)); exact (Kd.R_mono (Kd.R_far (p := ⟨gb242, 3, none⟩) (Kd.R_far (p := ⟨gb242, 2, none⟩) (Kd.R_far (p := ⟨gb242, 1, none⟩) (Kd.R_far (p := ⟨gb242, 0, none⟩) (Kd.R_types HO232.out BK242.out (by decide)) (fun _ hk => hk.2) (.int .i64 t236)) (fun _ hk => hk.2) (.int .i64 t237)) (fun _ hk => hk.2) (.int .i64 t238)) (fun _ hk => hk.2) (.slice Ao97 t239.length co97)) (fun _ h_ => by first | exact h_.1 | simp only [h_, ne_eq, not_false_eq_true, and_self]))) (Kd.R_base ho0) hb); have n1_ := mk_ (Kd.R_elder' (by (with_reducible repeat (first | apply Kd.R_alloc | apply Kd.R_drewN | apply Kd.R_drew)); exact (Kd.R_mono (Kd.R_far (p := ⟨gb242, 3, none⟩) (Kd.R_far (p := ⟨gb242, 2, none⟩) (Kd.R_far (p := ⟨gb242, 1, none⟩) (Kd.R_far (p := ⟨gb242, 0, none⟩) (Kd.R_types HO235.out BK242.out (by decide)) (fun _ hk => hk.2) (.int .i64 t236)) (fun _ hk => hk.2) (.int .i64 t237)) (fun _ hk => hk.2) (.int .i64 t238)) (fun _ hk => hk.2) (.slice Ao97 t239.length co97)) (fun _ h_ => by first | exact h_.1 | simp only [h_, ne_eq, not_false_eq_true, and_self]))) (Kd.R_base ho0) hb); have n2_ := mk_ (Kd.R_elder' (by (with_reducible repeat (first | apply Kd.R_alloc | apply Kd.R_drewN | apply Kd.R_drew)); exact (Kd.R_mono (Kd.R_far (p := ⟨gb242, 3, none⟩) (Kd.R_far (p := ⟨gb242, 2, none⟩) (Kd.R_far (p := ⟨gb242, 1, none⟩) (Kd.R_far (p := ⟨gb242, 0, none⟩) (Kd.R_types HO241.out BK242.out (by decide)) (fun _ hk => hk.2) (.int .i64 t236)) (fun _ hk => hk.2) (.int .i64 t237)) (fun _ hk => hk.2) (.int .i64 t238)) (fun _ hk => hk.2) (.slice Ao97 t239.length co97)) (fun _ h_ => by first | exact h_.1 | simp only [h_, ne_eq, not_false_eq_true, and_self]))) (Kd.R_base ho0) hb); have n3_ := mk_ (Kd.R_lower (Kd.R_new' (Kd.R_new' (Kd.R_new' ho0 (Kd.R_lt (by (with_reducible repeat (first | apply Kd.R_alloc | apply Kd.R_drewN | apply Kd.R_drew)); exact (Kd.R_mono (Kd.R_far (p := ⟨gb242, 3, none⟩) (Kd.R_far (p := ⟨gb242, 2, none⟩) (Kd.R_far (p := ⟨gb242, 1, none⟩) (Kd.R_far (p := ⟨gb242, 0, none⟩) (Kd.R_types HO232.out BK242.out (by decide)) (fun _ hk => hk.2) (.int .i64 t236)) (fun _ hk => hk.2) (.int .i64 t237)) (fun _ hk => hk.2) (.int .i64 t238)) (fun _ hk => hk.2) (.slice Ao97 t239.length co97)) (fun _ h_ => by first | exact h_.1 | simp only [h_, ne_eq, not_false_eq_true, and_self]))))) (Kd.R_lt (by (with_reducible repeat (first | apply Kd.R_alloc | apply Kd.R_drewN | apply Kd.R_drew)); exact (Kd.R_mono (Kd.R_far (p := ⟨gb242, 3, none⟩) (Kd.R_far (p := ⟨gb242, 2, none⟩) (Kd.R_far (p := ⟨gb242, 1, none⟩) (Kd.R_far (p := ⟨gb242, 0, none⟩) (Kd.R_types HO235.out BK242.out (by decide)) (fun _ hk => hk.2) (.int .i64 t236)) (fun _ hk => hk.2) (.int .i64 t237)) (fun _ hk => hk.2) (.int .i64 t238)) (fun _ hk => hk.2) (.slice Ao97 t239.length co97)) (fun _ h_ => by first | exact h_.1 | simp only [h_, ne_eq, not_false_eq_true, and_self]))))) (Kd.R_lt (by (with_reducible repeat (first | apply Kd.R_alloc | apply Kd.R_drewN | apply Kd.R_drew)); exact (Kd.R_mono (Kd.R_far (p := ⟨gb242, 3, none⟩) (Kd.R_far (p := ⟨gb242, 2, none⟩) (Kd.R_far (p := ⟨gb242, 1, none⟩) (Kd.R_far (p := ⟨gb242, 0, none⟩) (Kd.R_types HO241.out BK242.out (by decide)) (fun _ hk => hk.2) (.int .i64 t236)) (fun _ hk => hk.2) (.int .i64 t237)) (fun _ hk => hk.2) (.int .i64 t238)) (fun _ hk => hk.2) (.slice Ao97 t239.length co97)) (fun _ h_ => by first | exact h_.1 | simp only [h_, ne_eq, not_false_eq_true, and_self]))))) (below_size (us_ HB.out))); have n4_ := mk_ (blk_below (g := gb225) (o := .cells #[.int .i64 a0_0, .int .i64 a0_1, .int .i64 a0_2, .slice A0_3 l0_3.length c0_3] 24 (0, 0)) (uf_ BK225.out) hb); have n5_ := mk_ (blk_below (g := gb242) (o := .cells #[.int .i64 t236, .int .i64 t237, .int .i64 t238, .slice Ao97 t239.length co97] 27 (0, 0)) (by (with_reducible repeat (first | refine bn_ ?_ _ | refine bw_ ?_ | refine ba_ ?_ _)); refine blk_put (cs := #[.int .i64 t236, .int .i64 t237, .int .i64 t238, .slice none 0 0]) ?_ 3 _ rfl; (with_reducible repeat (first | refine bn_ ?_ _ | refine bw_ ?_ | refine ba_ ?_ _)); refine blk_put (cs := #[.int .i64 t236, .int .i64 t237, .int .i64 0, .slice none 0 0]) ?_ 2 _ rfl; (with_reducible repeat (first | refine bn_ ?_ _ | refine bw_ ?_ | refine ba_ ?_ _)); refine blk_put (cs := #[.int .i64 t236, .int .i64 0, .int .i64 0, .slice none 0 0]) ?_ 1 _ rfl; (with_reducible repeat (first | refine bn_ ?_ _ | refine bw_ ?_ | refine ba_ ?_ _)); refine blk_put (cs := #[.int .i64 0, .int .i64 0, .int .i64 0, .slice none 0 0]) ?_ 0 _ rfl; (with_reducible repeat (first | refine bn_ ?_ _ | refine bw_ ?_ | refine ba_ ?_ _)); exact BK242.out) hb); have n6_ := mk_ (below_step (us_ HB.out) hb); clear HO232; clear HO235; clear HO241; clear BK225; clear BK242; clear HB; have HO232 := n0_; have HO235 := n1_; have HO241 := n2_; have HO245 := n3_; have BK225 := n4_; have BK242 := n5_; have HB := n6_; clear n0_ n1_ n2_ n3_ n4_ n5_ n6_; (try clear hb); (try clear hb2); (try clear hk); (try clear hi); (try clear ho0); obtain ⟨Ao99, co99, eo99⟩ := Kd.R_slice HO245.out; subst eo99; obtain ⟨Ao100, co100, eo100⟩ := Kd.R_slice HO235.out; subst eo100) | ((with_reducible refine gate_callee (f := 13) rfl ?_); refine goesL_ (some 29) rfl rfl Try.func13 (by kernel_rfl) rfl #[.slice Ao99 t243.length co99, .slice Ao100 t233.length co100] rfl (by (try simp only [lm_, lo_, ln_]); first | done | rfl | (simp only [List.length_drop, List.length_take]; rfl)) ?_; (with_reducible refine (laws_eqByteS.calls k _ _ t243 _ _ t233 true _ ?side1 ?side2 ?side3 ?side4 A12.out).mono ?_); (case side1 => repeat (first | exact (Kd.R_reads' HO245.out).2.2 | (with_reducible refine Kd.C_alloc ?_ _) | (with_reducible refine Kd.C_drewN ?_ _) | (with_reducible refine Kd.C_drew ?_))); (case side2 => exact (Kd.R_reads' HO245.out).2.1); (case side3 => repeat (first | exact (Kd.R_reads' HO235.out).2.2 | (with_reducible refine Kd.C_alloc ?_ _) | (with_reducible refine Kd.C_drewN ?_ _) | (with_reducible refine Kd.C_drew ?_))); (case side4 => exact (Kd.R_reads' HO235.out).2.1); rintro e w' ⟨rfl, ⟨nd, rfl⟩⟩; refine ⟨_, rfl, ?_⟩))
  (try (rw [drewN_self w98]; generalize hq_ : World.drewN w98 _ = w98; have n0_ : Aside0 (Kd.R (Kd.int .u8) 5 w98 w.heap.size (fun k_ => some k_ ≠ (.slice Ao100 t233.length co100 : Value).ownBlock ∧ some k_ ≠ (.slice Ao97 t239.length co97 : Value).ownBlock ∧ some k_ ≠ (.slice Ao99 t243.length co99 : Value).ownBlock) (.slice Ao90 t230.length co90) t230) := ⟨by rw [← hq_]; exact (by (with_reducible repeat (first | apply Kd.R_alloc | apply Kd.R_drewN | apply Kd.R_drew)); exact Kd.R_mono HO232.out (fun _ hk => by first | exact ⟨hk.1.1.2, ⟨hk.1.2, hk.2⟩⟩ | exact hk.1 | exact hk | exact ⟨hk.1, hk.2⟩ | exact ⟨.inr hk.1, hk.2⟩ | simp only [hk, ne_eq, not_false_eq_true, and_self]))⟩; have n1_ : Aside0 (Kd.R (Kd.int .u8) 5 w98 w.heap.size (fun k_ => some k_ ≠ (.slice Ao90 t230.length co90 : Value).ownBlock ∧ some k_ ≠ (.slice Ao97 t239.length co97 : Value).ownBlock ∧ some k_ ≠ (.slice Ao99 t243.length co99 : Value).ownBlock) (.slice Ao100 t233.length co100) t233) := ⟨by rw [← hq_]; exact (by (with_reducible repeat (first | apply Kd.R_alloc | apply Kd.R_drewN | apply Kd.R_drew)); exact Kd.R_mono HO235.out (fun _ hk => by first | exact ⟨hk.1.1.2, ⟨hk.1.2, hk.2⟩⟩ | exact hk.1 | exact hk | exact ⟨hk.1, hk.2⟩ | exact ⟨.inr hk.1, hk.2⟩ | simp only [hk, ne_eq, not_false_eq_true, and_self]))⟩; have n2_ : Aside0 (Kd.R (Kd.int .u8) 5 w98 w.heap.size (fun k_ => some k_ ≠ (.slice Ao90 t230.length co90 : Value).ownBlock ∧ some k_ ≠ (.slice Ao100 t233.length co100 : Value).ownBlock ∧ some k_ ≠ (.slice Ao99 t243.length co99 : Value).ownBlock) (.slice Ao97 t239.length co97) t239) := ⟨by rw [← hq_]; exact (by (with_reducible repeat (first | apply Kd.R_alloc | apply Kd.R_drewN | apply Kd.R_drew)); exact Kd.R_mono HO241.out (fun _ hk => by first | exact ⟨hk.1.1.2, ⟨hk.1.2, hk.2⟩⟩ | exact hk.1 | exact hk | exact ⟨hk.1, hk.2⟩ | exact ⟨.inr hk.1, hk.2⟩ | simp only [hk, ne_eq, not_false_eq_true, and_self]))⟩; have n3_ : Aside0 (Kd.R (Kd.int .u8) 5 w98 w.heap.size (fun k_ => some k_ ≠ (.slice Ao90 t230.length co90 : Value).ownBlock ∧ some k_ ≠ (.slice Ao100 t233.length co100 : Value).ownBlock ∧ some k_ ≠ (.slice Ao97 t239.length co97 : Value).ownBlock) (.slice Ao99 t243.length co99) t243) := ⟨by rw [← hq_]; exact (by (with_reducible repeat (first | apply Kd.R_alloc | apply Kd.R_drewN | apply Kd.R_drew)); exact Kd.R_mono HO245.out (fun _ hk => by first | exact ⟨hk.1.1.2, ⟨hk.1.2, hk.2⟩⟩ | exact hk.1 | exact hk | exact ⟨hk.1, hk.2⟩ | exact ⟨.inr hk.1, hk.2⟩ | simp only [hk, ne_eq, not_false_eq_true, and_self]))⟩; have n4_ : Aside0 (w98.heap[gb225]? = some (.cells #[.int .i64 a0_0, .int .i64 a0_1, .int .i64 a0_2, .slice A0_3 l0_3.length c0_3] 24 (0, 0))) := ⟨by rw [← hq_]; exact (u_ BK225.out)⟩; have n5_ : Aside0 (w98.heap[gb242]? = some (.cells #[.int .i64 t236, .int .i64 t237, .int .i64 t238, .slice Ao97 t239.length co97] 27 (0, 0))) := ⟨by rw [← hq_]; exact (u_ BK242.out)⟩; have n6_ : Aside0 (Below w.heap.size w w98) := ⟨by rw [← hq_]; exact (us_ HB.out)⟩; clear HO232 HO235 HO241 HO245 BK225 BK242 HB hq_; have HO232 := n0_; have HO235 := n1_; have HO241 := n2_; have HO245 := n3_; have BK225 := n4_; have BK242 := n5_; have HB := n6_; clear n0_ n1_ n2_ n3_ n4_ n5_ n6_))
  have n0_ := mk_ (Kd.R_drew HO232.out)
  have n1_ := mk_ (Kd.R_drew HO235.out)
  have n2_ := mk_ (Kd.R_drew HO241.out)
  have n3_ := mk_ (Kd.R_drew HO245.out)
  have n4_ := mk_ (blk_drew BK225.out)
  have n5_ := mk_ (blk_drew BK242.out)
  have n6_ := mk_ (below_drew1 HB.out)
  clear HO232
  clear HO235
  clear HO241
  clear HO245
  clear BK225
  clear BK242
  clear HB
  have HO232 := n0_
  have HO235 := n1_
  have HO241 := n2_
  have HO245 := n3_
  have BK225 := n4_
  have BK242 := n5_
  have HB := n6_
  clear n0_ n1_ n2_ n3_ n4_ n5_ n6_
  refine start_ (n := 5) (S := fun w' => w'.cell? ⟨gb242, 0, none⟩ = some (.int .i64 t236) ∧ w'.cell? ⟨gb242, 1, none⟩ = some (.int .i64 t237) ∧ w'.cell? ⟨gb242, 2, none⟩ = some (.int .i64 t238) ∧ w'.cell? ⟨gb242, 3, none⟩ = some (.slice Ao97 t239.length co97) ∧ w'.cell? ⟨gb225, 0, none⟩ = some (.int .i64 a0_0) ∧ w'.cell? ⟨gb225, 1, none⟩ = some (.int .i64 a0_1) ∧ w'.cell? ⟨gb225, 2, none⟩ = some (.int .i64 a0_2) ∧ w'.cell? ⟨gb225, 3, none⟩ = some (.slice A0_3 l0_3.length c0_3)) (ds := []) #[false, false, false, false, false] (by kernel_rfl) rfl rfl ⟨(blk_cell BK242.out 0).trans rfl, (blk_cell BK242.out 1).trans rfl, (blk_cell BK242.out 2).trans rfl, (blk_cell BK242.out 3).trans rfl, (blk_cell BK225.out 0).trans rfl, (blk_cell BK225.out 1).trans rfl, (blk_cell BK225.out 2).trans rfl, (blk_cell BK225.out 3).trans rfl⟩ (fun hHeld => ?_)
  generalize w98.drew = w101 at HO232 HO235 HO241 HO245 BK225 BK242 HB hHeld ⊢
  refine take_ (i := 0) (N := some 31) (v := ?_) (a' := ?_) #[true, false, false, false, false] rfl rfl (by kernel_rfl) (fun _ _ _ h => h) (Or.inl ⟨by rfl, ?_⟩) hHeld ?_ ?_
  rotate_left
  ·rintro w' ⟨s0, s1, s2, s3, s4, s5, s6, s7⟩
   go_simp
   with_reducible rfl
  rotate_left
  ·simp only [Act.put, la_, lz_, ls_, i64_w, i32_w]
   rfl
  refine take_ (i := 1) (N := some 32) (v := ?_) (a' := ?_) #[true, true, false, false, false] rfl rfl (by kernel_rfl) (fun _ _ _ h => h) (Or.inl ⟨by rfl, ?_⟩) hHeld ?_ ?_
  rotate_left
  ·rintro w' ⟨s0, s1, s2, s3, s4, s5, s6, s7⟩
   go_simp
   with_reducible rfl
  rotate_left
  ·simp only [Act.put, la_, lz_, ls_, i64_w, i32_w]
   rfl
  refine one_ (i := 2) (N := some 33) #[true, true, true, false, false] rfl rfl (by kernel_rfl) (by decide) (fun K hK => ?_)
  refine goes_ Try.func11 (by kernel_rfl) rfl #[.agg #[.int .i64 a0_0, .int .i64 a0_1, .int .i64 a0_2, .slice A0_3 l0_3.length c0_3]] (by rfl) rfl rfl (by (try simp only [lm_, lo_, ln_]); first | done | rfl | (simp only [List.length_drop, List.length_take]; rfl)) ?_
  with_reducible refine (laws_toMail.calls k a0_0 a0_1 a0_2 _ _ l0_3 t247 t248 t249 t250 _ ?side1 ?side2 A14.out).mono ?_
  (case side1 => repeat (first | exact (Kd.C_below HR0_3.out HB.out) | (with_reducible refine Kd.C_alloc ?_ _) | (with_reducible refine Kd.C_drewN ?_ _) | (with_reducible refine Kd.C_drew ?_)))
  (case side2 => exact HC0_3.out)
  rintro e w102 ⟨v251, rfl, ho0, hb⟩
  refine ⟨_, rfl, ?_⟩
  have n0_ := mk_ (Kd.R_elder' (Kd.ur_ HO232.out) (Kd.R_base ho0) hb)
  have n1_ := mk_ (Kd.R_elder' (Kd.ur_ HO235.out) (Kd.R_base ho0) hb)
  have n2_ := mk_ (Kd.R_elder' (Kd.ur_ HO241.out) (Kd.R_base ho0) hb)
  have n3_ := mk_ (Kd.R_elder' (Kd.ur_ HO245.out) (Kd.R_base ho0) hb)
  have n4_ := mk_ (Kd.R_lower (Kd.R_new' (Kd.R_new' (Kd.R_new' (Kd.R_new' ho0 (Kd.R_lt (Kd.ur_ HO232.out))) (Kd.R_lt (Kd.ur_ HO235.out))) (Kd.R_lt (Kd.ur_ HO241.out))) (Kd.R_lt (Kd.ur_ HO245.out))) (below_size (us_ HB.out)))
  have n5_ := mk_ (blk_below (u_ BK225.out) hb)
  have n6_ := mk_ (blk_below (u_ BK242.out) hb)
  have n7_ := mk_ (below_step (us_ HB.out) hb)
  clear HO232
  clear HO235
  clear HO241
  clear HO245
  clear BK225
  clear BK242
  clear HB
  have HO232 := n0_
  have HO235 := n1_
  have HO241 := n2_
  have HO245 := n3_
  have HO252 := n4_
  have BK225 := n5_
  have BK242 := n6_
  have HB := n7_
  clear n0_ n1_ n2_ n3_ n4_ n5_ n6_ n7_
  (try clear hb)
  (try clear hb2)
  (try clear hk)
  (try clear hi)
  (try clear ho0)
  obtain ⟨Ao103, co103, eo103⟩ := Kd.R_slice HO252.out
  (first | subst eo103 | (injection eo103 with f1_ f2_ f3_; have f4_ := f1_.symm; have f5_ := f3_.symm; clear f1_ f2_ f3_; subst f4_; subst f5_))
  refine hK.out _ _ ⟨(blk_cell BK242.out 0).trans rfl, (blk_cell BK242.out 1).trans rfl, (blk_cell BK242.out 2).trans rfl, (blk_cell BK242.out 3).trans rfl, (blk_cell BK225.out 0).trans rfl, (blk_cell BK225.out 1).trans rfl, (blk_cell BK225.out 2).trans rfl, (blk_cell BK225.out 3).trans rfl⟩ (fun hHeld => ?_)
  clear hK K
  refine norm_ (a' := ?_) ?_ ?_
  rotate_left
  ·show Act.put _ (some 33) _ = _
   simp only [Act.put, la_, lz_, ls_, i64_w, i32_w]
   rfl
  refine one_ (i := 3) (N := some 34) #[true, true, true, true, false] rfl rfl (by kernel_rfl) (by decide) (fun K hK => ?_)
  refine goes_ Try.func14 (by kernel_rfl) rfl #[.agg #[.int .i64 t236, .int .i64 t237, .int .i64 t238, .slice Ao97 t239.length co97], .agg #[.int .i64 t247, .int .i64 t248, .int .i64 t249, .slice Ao103 t250.length co103]] (by rfl) rfl rfl (by (try simp only [lm_, lo_, ln_]); first | done | rfl | (simp only [List.length_drop, List.length_take]; rfl)) ?_
  with_reducible refine (laws_eqMail.calls k t236 t237 t238 _ _ t239 t247 t248 t249 _ _ t250 false _ ?side1 ?side2 ?side3 ?side4 A15.out).mono ?_
  (case side1 => repeat (first | exact (Kd.R_reads' HO241.out).2.2 | (with_reducible refine Kd.C_alloc ?_ _) | (with_reducible refine Kd.C_drewN ?_ _) | (with_reducible refine Kd.C_drew ?_)))
  (case side2 => exact (Kd.R_reads' HO241.out).2.1)
  (case side3 => repeat (first | exact (Kd.R_reads' HO252.out).2.2 | (with_reducible refine Kd.C_alloc ?_ _) | (with_reducible refine Kd.C_drewN ?_ _) | (with_reducible refine Kd.C_drew ?_)))
  (case side4 => exact (Kd.R_reads' HO252.out).2.1)
  rintro e w104 ⟨rfl, hb⟩
  refine ⟨_, rfl, ?_⟩
  have n0_ := mk_ (Kd.R_below (Kd.ur_ HO232.out) hb)
  have n1_ := mk_ (Kd.R_below (Kd.ur_ HO235.out) hb)
  have n2_ := mk_ (Kd.R_below (Kd.ur_ HO241.out) hb)
  have n3_ := mk_ (Kd.R_below (Kd.ur_ HO245.out) hb)
  have n4_ := mk_ (Kd.R_below (Kd.ur_ HO252.out) hb)
  have n5_ := mk_ (blk_below (u_ BK225.out) hb)
  have n6_ := mk_ (blk_below (u_ BK242.out) hb)
  have n7_ := mk_ (below_step (us_ HB.out) hb)
  clear HO232
  clear HO235
  clear HO241
  clear HO245
  clear HO252
  clear BK225
  clear BK242
  clear HB
  have HO232 := n0_
  have HO235 := n1_
  have HO241 := n2_
  have HO245 := n3_
  have HO252 := n4_
  have BK225 := n5_
  have BK242 := n6_
  have HB := n7_
  clear n0_ n1_ n2_ n3_ n4_ n5_ n6_ n7_
  (try clear hb)
  (try clear hb2)
  (try clear hk)
  (try clear hi)
  refine hK.out _ _ ⟨(blk_cell BK242.out 0).trans rfl, (blk_cell BK242.out 1).trans rfl, (blk_cell BK242.out 2).trans rfl, (blk_cell BK242.out 3).trans rfl, (blk_cell BK225.out 0).trans rfl, (blk_cell BK225.out 1).trans rfl, (blk_cell BK225.out 2).trans rfl, (blk_cell BK225.out 3).trans rfl⟩ (fun hHeld => ?_)
  clear hK K
  refine norm_ (a' := ?_) ?_ ?_
  rotate_left
  ·show Act.put _ (some 34) _ = _
   simp only [Act.put, la_, lz_, ls_, i64_w, i32_w]
   rfl
  refine pure_ (i := 4) (N := some 35) (v := ?_) (a' := ?_) #[true, true, true, true, true] rfl rfl (by kernel_rfl) (fun _ _ _ h => h) (Or.inl ⟨by rfl, ?_⟩) ?_ ?_
  rotate_left
  ·intro w'
   go_simp
   with_reducible rfl
  rotate_left
  ·simp only [Act.put, la_, lz_, ls_, i64_w, i32_w]
   rfl
  refine done_ (by kernel_rfl) ?_
  try go_wp2
  go_ret
  exact ⟨by first | rfl | (simp [errW_none, errW_some] <;> rfl) | (simp [*, errW_none, errW_some] <;> rfl), us_ HB.out⟩
 subst c16
 have H1 : ((laws_markMail.f k t236 t237 t238 t239 1).bind fun bt254 => (if bt254.1 < 0 then (laws_FnExactMailBytes.j0 k a1 t233 t243 true a0_0 a0_1 a0_2 l0_3) else ((laws_eqByteS.f k t243 t233).bind fun t256 => (laws_FnExactMailBytes.j0 k a1 t233 t243 (!t256) a0_0 a0_1 a0_2 l0_3)))) = some r := by rw [if_pos rfl] at H; exact H
 clear H
 have H := H1
 clear H1
 replace H := Option.bind_eq_some_iff.mp H
 obtain ⟨⟨t254, t255⟩, A170, H⟩ := H
 replace H : (if t254 < 0 then (laws_FnExactMailBytes.j0 k a1 t233 t243 true a0_0 a0_1 a0_2 l0_3) else ((laws_eqByteS.f k t243 t233).bind fun t256 => (laws_FnExactMailBytes.j0 k a1 t233 t243 (!t256) a0_0 a0_1 a0_2 l0_3))) = some r := H
 have A17 := mk_ A170
 clear A170
 have HC18 := mk_ H
 clear H
 go_enter Try.func3, Try.ntmps3
 try go_wp2_with (first | ((with_reducible refine gate_dst (N := 2) rfl ?_); refine box_event ?hg (N := 2) ?hd (cs := #[.int .i64 a0_0, .int .i64 a0_1, .int .i64 a0_2, .slice A0_3 l0_3.length c0_3]) (t := 24) ?hr ?_; (case hd => rfl); (case hg => rfl); (case hr => first | (go_simp; done) | (go_simp; rfl)); intro gb225 hg w19 hbox hb; have n0_ := mk_ (below_step (ub_ HB.out) hb); have n1_ := mk_ (hbox); have n2_ := mk_ ((by rw [hg]; exact (below_size (ub_ HB.out)) : w.heap.size ≤ gb225)); have n3_ := mk_ ((by rw [hg]; exact (below_size (ub_ HB.out)) : w.heap.size ≤ gb225)); clear HB; have HB := n0_; have BK225 := n1_; have GW225 := n2_; have GE225 := ge_ n3_.out; clear n0_ n1_ n2_ n3_; clear hb hbox hg; obtain ⟨hcz20_0, hcz20_1, hcz20_2, hcz20_3, hfz20_0, hfz20_1, hfz20_2, hfz20_3⟩ := cells4_ BK225.out) | ((with_reducible refine gate_callee (f := 9) rfl ?_); refine goesL_ (some 15) rfl rfl Try.func9 (by kernel_rfl) rfl #[.agg #[.int .i64 a0_0, .int .i64 a0_1, .int .i64 a0_2, .slice A0_3 l0_3.length c0_3], .int .i64 1048576] rfl (by (try simp only [lm_, lo_, ln_]); first | done | rfl | (simp only [List.length_drop, List.length_take]; rfl)) ?_; (with_reducible refine (laws_szMail.calls a0_0 a0_1 a0_2 _ _ l0_3 1048576 t226 _ ?side1 ?side2 A3.out).mono ?_); (case side1 => repeat (first | exact (Kd.C_below HR0_3.out HB.out) | (with_reducible refine Kd.C_alloc ?_ _) | (with_reducible refine Kd.C_drewN ?_ _) | (with_reducible refine Kd.C_drew ?_))); (case side2 => exact HC0_3.out); rintro e w21 ⟨rfl, hb⟩; refine ⟨_, rfl, ?_⟩; have n0_ := mk_ (blk_below (u_ BK225.out) hb); have n1_ := mk_ (below_step (us_ HB.out) hb); clear BK225; clear HB; have BK225 := n0_; have HB := n1_; clear n0_ n1_; (try clear hb); (try clear hb2); (try clear hk); (try clear hi); obtain ⟨hcz22_0, hcz22_1, hcz22_2, hcz22_3, hfz22_0, hfz22_1, hfz22_2, hfz22_3⟩ := cells4_ BK225.out) | ((with_reducible refine gate_callee (f := 11) rfl ?_); have hA_ := A8.out; refine goesL_ (some 19) rfl rfl Try.func11 (by kernel_rfl) rfl #[.agg #[.int .i64 a0_0, .int .i64 a0_1, .int .i64 a0_2, .slice A0_3 l0_3.length c0_3]] rfl (by (try simp only [lm_, lo_, ln_]); first | done | rfl | (simp only [List.length_drop, List.length_take]; rfl)) ?_; (with_reducible refine (laws_toMail.calls k a0_0 a0_1 a0_2 _ _ l0_3 t227 t228 t229 t230 _ ?side1 ?side2 A8.out).mono ?_); (case side1 => repeat (first | exact (Kd.C_below HR0_3.out HB.out) | (with_reducible refine Kd.C_alloc ?_ _) | (with_reducible refine Kd.C_drewN ?_ _) | (with_reducible refine Kd.C_drew ?_))); (case side2 => exact HC0_3.out); rintro e w23 ⟨v231, rfl, ho0, hb⟩; refine ⟨_, rfl, ?_⟩; have n0_ := mk_ (Kd.R_lower ho0 (below_size (us_ HB.out))); have n1_ := mk_ (blk_below (u_ BK225.out) hb); have n2_ := mk_ (below_step (us_ HB.out) hb); clear BK225; clear HB; have HO232 := n0_; have BK225 := n1_; have HB := n2_; clear n0_ n1_ n2_; (try clear hb); (try clear hb2); (try clear hk); (try clear hi); (try clear ho0); obtain ⟨Ao24, co24, eo24⟩ := Kd.R_slice HO232.out; subst eo24; clear hA_ A8) | ((with_reducible refine gate_callee (f := 10) rfl ?_); refine goesL_ (some 21) rfl rfl Try.func10 (by kernel_rfl) rfl #[.agg #[.int .i64 t227, .int .i64 t228, .int .i64 t229, .slice Ao24 t230.length co24], .int .i64 a1] rfl (by (try simp only [lm_, lo_, ln_]); first | done | rfl | (simp only [List.length_drop, List.length_take]; rfl)) ?_; (with_reducible refine (spec_MailBytes.calls k t227 t228 t229 _ _ t230 a1 t233 _ ?side1 ?side2 A9.out).mono ?_); (case side1 => repeat (first | exact (Kd.R_reads' HO232.out).2.2 | (with_reducible refine Kd.C_alloc ?_ _) | (with_reducible refine Kd.C_drewN ?_ _) | (with_reducible refine Kd.C_drew ?_))); (case side2 => exact (Kd.R_reads' HO232.out).2.1); rintro e w25 ⟨v234, rfl, ho0, hb⟩; refine ⟨_, rfl, ?_⟩; have n0_ := mk_ (Kd.R_elder' (Kd.ur_ HO232.out) (Kd.R_base ho0) hb); have n1_ := mk_ (Kd.R_lower (Kd.R_new' ho0 (Kd.R_lt (Kd.ur_ HO232.out))) (below_size (us_ HB.out))); have n2_ := mk_ (blk_below (u_ BK225.out) hb); have n3_ := mk_ (below_step (us_ HB.out) hb); clear HO232; clear BK225; clear HB; have HO232 := n0_; have HO235 := n1_; have BK225 := n2_; have HB := n3_; clear n0_ n1_ n2_ n3_; (try clear hb); (try clear hb2); (try clear hk); (try clear hi); (try clear ho0); obtain ⟨hcz26_0, hcz26_1, hcz26_2, hcz26_3, hfz26_0, hfz26_1, hfz26_2, hfz26_3⟩ := cells4_ BK225.out) | ((with_reducible refine gate_callee (f := 11) rfl ?_); have hA_ := A10.out; refine goesL_ (some 23) rfl rfl Try.func11 (by kernel_rfl) rfl #[.agg #[.int .i64 a0_0, .int .i64 a0_1, .int .i64 a0_2, .slice A0_3 l0_3.length c0_3]] rfl (by (try simp only [lm_, lo_, ln_]); first | done | rfl | (simp only [List.length_drop, List.length_take]; rfl)) ?_; (with_reducible refine (laws_toMail.calls k a0_0 a0_1 a0_2 _ _ l0_3 t236 t237 t238 t239 _ ?side1 ?side2 A10.out).mono ?_); (case side1 => repeat (first | exact (Kd.C_below HR0_3.out HB.out) | (with_reducible refine Kd.C_alloc ?_ _) | (with_reducible refine Kd.C_drewN ?_ _) | (with_reducible refine Kd.C_drew ?_))); (case side2 => exact HC0_3.out); rintro e w27 ⟨v240, rfl, ho0, hb⟩; refine ⟨_, rfl, ?_⟩; have n0_ := mk_ (Kd.R_elder' (Kd.ur_ HO232.out) (Kd.R_base ho0) hb); have n1_ := mk_ (Kd.R_elder' (Kd.ur_ HO235.out) (Kd.R_base ho0) hb); have n2_ := mk_ (Kd.R_lower (Kd.R_new' (Kd.R_new' ho0 (Kd.R_lt (Kd.ur_ HO232.out))) (Kd.R_lt (Kd.ur_ HO235.out))) (below_size (us_ HB.out))); have n3_ := mk_ (blk_below (u_ BK225.out) hb); have n4_ := mk_ (below_step (us_ HB.out) hb); clear HO232; clear HO235; clear BK225; clear HB; have HO232 := n0_; have HO235 := n1_; have HO241 := n2_; have BK225 := n3_; have HB := n4_; clear n0_ n1_ n2_ n3_ n4_; (try clear hb); (try clear hb2); (try clear hk); (try clear hi); (try clear ho0); clear hA_ A10) | ((with_reducible refine gate_dst (N := 7) rfl ?_); refine box_event ?hg (N := 7) ?hd (cs := #[.int .i64 0, .int .i64 0, .int .i64 0, .slice none 0 0]) (t := 27) ?hr ?_; (case hd => rfl); (case hg => rfl); (case hr => first | (go_simp; done) | (go_simp; rfl)); intro gb242 hg w28 hbox hb; have n0_ := mk_ (Kd.R_below (Kd.ur_ HO232.out) hb); have n1_ := mk_ (Kd.R_below (Kd.ur_ HO235.out) hb); have n2_ := mk_ (Kd.R_below (Kd.ur_ HO241.out) hb); have n3_ := mk_ (blk_below (u_ BK225.out) hb); have n4_ := mk_ (below_step (us_ HB.out) hb); have n5_ := mk_ (hbox); have n6_ := mk_ ((by rw [hg]; exact (below_size (us_ HB.out)) : w.heap.size ≤ gb242)); have n7_ := mk_ ((by rw [hg]; exact (below_size (us_ HB.out)) : w.heap.size ≤ gb242)); have n8_ := mk_ ((by rw [hg]; exact Nat.ne_of_lt (blk_lt (u_ BK225.out)) : gb225 ≠ gb242)); have n9_ := mk_ ((by rw [hg]; exact Nat.ne_of_gt (blk_lt (u_ BK225.out)) : gb242 ≠ gb225)); clear HO232; clear HO235; clear HO241; clear BK225; clear HB; have HO232 := n0_; have HO235 := n1_; have HO241 := n2_; have BK225 := n3_; have HB := n4_; have BK242 := n5_; have GW242 := n6_; have GE242 := ge_ n7_.out; have NB225_242 := nq_ n8_.out; have NB242_225 := nq_ n9_.out; clear n0_ n1_ n2_ n3_ n4_ n5_ n6_ n7_ n8_ n9_; clear hb hbox hg; have hnb29 := NB242_225.out; have hnc29 := NB225_242.out; obtain ⟨hcz30_0, hcz30_1, hcz30_2, hcz30_3, hfz30_0, hfz30_1, hfz30_2, hfz30_3⟩ := cells4_ BK242.out; obtain ⟨Ao31, co31, eo31⟩ := Kd.R_slice HO241.out; subst eo31) | ((with_reducible refine gate_callee (f := 12) rfl ?_); refine goesL_ (some 26) rfl rfl Try.func12 (by kernel_rfl) rfl #[.agg #[.int .i64 t236, .int .i64 t237, .int .i64 t238, .slice Ao31 t239.length co31], .int .i64 a1] rfl (by (try simp only [lm_, lo_, ln_]); first | done | rfl | (simp only [List.length_drop, List.length_take]; rfl)) ?_; (with_reducible refine (impl_MailBytes.calls k t236 t237 t238 _ _ t239 a1 t243 _ ?side1 ?side2 A11.out).mono ?_); (case side1 => refine (Kd.R_reads' (e := 5) (base := w.heap.size) (ok := fun k_ => ((True ∧ some k_ ≠ (.slice Ao24 t230.length co24 : Value).ownBlock) ∧ some k_ ≠ (v234 : Value).ownBlock)) (n := t239.length) (c := co31) ?_).2.2; exact (by (with_reducible repeat (first | apply Kd.R_alloc | apply Kd.R_drewN | apply Kd.R_drew)); exact (Kd.R_mono (Kd.R_far (p := ⟨gb242, 3, none⟩) (Kd.R_far (p := ⟨gb242, 2, none⟩) (Kd.R_far (p := ⟨gb242, 1, none⟩) (Kd.R_far (p := ⟨gb242, 0, none⟩) (Kd.R_types HO241.out BK242.out (by decide)) (fun _ hk => hk.2) (.int .i64 t236)) (fun _ hk => hk.2) (.int .i64 t237)) (fun _ hk => hk.2) (.int .i64 t238)) (fun _ hk => hk.2) (.slice Ao31 t239.length co31)) (fun _ h_ => by first | exact h_.1 | simp only [h_, ne_eq, not_false_eq_true, and_self])))); (case side2 => exact (Kd.R_reads' HO241.out).2.1); rintro e w32 ⟨v244, rfl, ho0, hb⟩; refine ⟨_, rfl, ?_⟩; have n0_ := mk_ (Kd.R_elder' (by (with_reducible repeat (first | apply Kd.R_alloc | apply Kd.R_drewN | apply Kd.R_drew)); exact (Kd.R_mono (Kd.R_far (p := ⟨gb242, 3, none⟩) (Kd.R_far (p := ⟨gb242, 2, none⟩) (Kd.R_far (p := ⟨gb242, 1, none⟩) (Kd.R_far (p := ⟨gb242, 0, none⟩) (Kd.R_types HO232.out BK242.out (by decide)) (fun _ hk => hk.2) (.int .i64 t236)) (fun _ hk => hk.2) (.int .i64 t237)) (fun _ hk => hk.2) (.int .i64 t238)) (fun _ hk => hk.2) (.slice Ao31 t239.length co31)) (fun _ h_ => by first | exact h_.1 | simp only [h_, ne_eq, not_false_eq_true, and_self]))) (Kd.R_base ho0) hb); have n1_ := mk_ (Kd.R_elder' (by (with_reducible repeat (first | apply Kd.R_alloc | apply Kd.R_drewN | apply Kd.R_drew)); exact (Kd.R_mono (Kd.R_far (p := ⟨gb242, 3, none⟩) (Kd.R_far (p := ⟨gb242, 2, none⟩) (Kd.R_far (p := ⟨gb242, 1, none⟩) (Kd.R_far (p := ⟨gb242, 0, none⟩) (Kd.R_types HO235.out BK242.out (by decide)) (fun _ hk => hk.2) (.int .i64 t236)) (fun _ hk => hk.2) (.int .i64 t237)) (fun _ hk => hk.2) (.int .i64 t238)) (fun _ hk => hk.2) (.slice Ao31 t239.length co31)) (fun _ h_ => by first | exact h_.1 | simp only [h_, ne_eq, not_false_eq_true, and_self]))) (Kd.R_base ho0) hb); have n2_ := mk_ (Kd.R_elder' (by (with_reducible repeat (first | apply Kd.R_alloc | apply Kd.R_drewN | apply Kd.R_drew)); exact (Kd.R_mono (Kd.R_far (p := ⟨gb242, 3, none⟩) (Kd.R_far (p := ⟨gb242, 2, none⟩) (Kd.R_far (p := ⟨gb242, 1, none⟩) (Kd.R_far (p := ⟨gb242, 0, none⟩) (Kd.R_types HO241.out BK242.out (by decide)) (fun _ hk => hk.2) (.int .i64 t236)) (fun _ hk => hk.2) (.int .i64 t237)) (fun _ hk => hk.2) (.int .i64 t238)) (fun _ hk => hk.2) (.slice Ao31 t239.length co31)) (fun _ h_ => by first | exact h_.1 | simp only [h_, ne_eq, not_false_eq_true, and_self]))) (Kd.R_base ho0) hb); have n3_ := mk_ (Kd.R_lower (Kd.R_new' (Kd.R_new' (Kd.R_new' ho0 (Kd.R_lt (by (with_reducible repeat (first | apply Kd.R_alloc | apply Kd.R_drewN | apply Kd.R_drew)); exact (Kd.R_mono (Kd.R_far (p := ⟨gb242, 3, none⟩) (Kd.R_far (p := ⟨gb242, 2, none⟩) (Kd.R_far (p := ⟨gb242, 1, none⟩) (Kd.R_far (p := ⟨gb242, 0, none⟩) (Kd.R_types HO232.out BK242.out (by decide)) (fun _ hk => hk.2) (.int .i64 t236)) (fun _ hk => hk.2) (.int .i64 t237)) (fun _ hk => hk.2) (.int .i64 t238)) (fun _ hk => hk.2) (.slice Ao31 t239.length co31)) (fun _ h_ => by first | exact h_.1 | simp only [h_, ne_eq, not_false_eq_true, and_self]))))) (Kd.R_lt (by (with_reducible repeat (first | apply Kd.R_alloc | apply Kd.R_drewN | apply Kd.R_drew)); exact (Kd.R_mono (Kd.R_far (p := ⟨gb242, 3, none⟩) (Kd.R_far (p := ⟨gb242, 2, none⟩) (Kd.R_far (p := ⟨gb242, 1, none⟩) (Kd.R_far (p := ⟨gb242, 0, none⟩) (Kd.R_types HO235.out BK242.out (by decide)) (fun _ hk => hk.2) (.int .i64 t236)) (fun _ hk => hk.2) (.int .i64 t237)) (fun _ hk => hk.2) (.int .i64 t238)) (fun _ hk => hk.2) (.slice Ao31 t239.length co31)) (fun _ h_ => by first | exact h_.1 | simp only [h_, ne_eq, not_false_eq_true, and_self]))))) (Kd.R_lt (by (with_reducible repeat (first | apply Kd.R_alloc | apply Kd.R_drewN | apply Kd.R_drew)); exact (Kd.R_mono (Kd.R_far (p := ⟨gb242, 3, none⟩) (Kd.R_far (p := ⟨gb242, 2, none⟩) (Kd.R_far (p := ⟨gb242, 1, none⟩) (Kd.R_far (p := ⟨gb242, 0, none⟩) (Kd.R_types HO241.out BK242.out (by decide)) (fun _ hk => hk.2) (.int .i64 t236)) (fun _ hk => hk.2) (.int .i64 t237)) (fun _ hk => hk.2) (.int .i64 t238)) (fun _ hk => hk.2) (.slice Ao31 t239.length co31)) (fun _ h_ => by first | exact h_.1 | simp only [h_, ne_eq, not_false_eq_true, and_self]))))) (below_size (us_ HB.out))); have n4_ := mk_ (blk_below (g := gb225) (o := .cells #[.int .i64 a0_0, .int .i64 a0_1, .int .i64 a0_2, .slice A0_3 l0_3.length c0_3] 24 (0, 0)) (uf_ BK225.out) hb); have n5_ := mk_ (blk_below (g := gb242) (o := .cells #[.int .i64 t236, .int .i64 t237, .int .i64 t238, .slice Ao31 t239.length co31] 27 (0, 0)) (by (with_reducible repeat (first | refine bn_ ?_ _ | refine bw_ ?_ | refine ba_ ?_ _)); refine blk_put (cs := #[.int .i64 t236, .int .i64 t237, .int .i64 t238, .slice none 0 0]) ?_ 3 _ rfl; (with_reducible repeat (first | refine bn_ ?_ _ | refine bw_ ?_ | refine ba_ ?_ _)); refine blk_put (cs := #[.int .i64 t236, .int .i64 t237, .int .i64 0, .slice none 0 0]) ?_ 2 _ rfl; (with_reducible repeat (first | refine bn_ ?_ _ | refine bw_ ?_ | refine ba_ ?_ _)); refine blk_put (cs := #[.int .i64 t236, .int .i64 0, .int .i64 0, .slice none 0 0]) ?_ 1 _ rfl; (with_reducible repeat (first | refine bn_ ?_ _ | refine bw_ ?_ | refine ba_ ?_ _)); refine blk_put (cs := #[.int .i64 0, .int .i64 0, .int .i64 0, .slice none 0 0]) ?_ 0 _ rfl; (with_reducible repeat (first | refine bn_ ?_ _ | refine bw_ ?_ | refine ba_ ?_ _)); exact BK242.out) hb); have n6_ := mk_ (below_step (us_ HB.out) hb); clear HO232; clear HO235; clear HO241; clear BK225; clear BK242; clear HB; have HO232 := n0_; have HO235 := n1_; have HO241 := n2_; have HO245 := n3_; have BK225 := n4_; have BK242 := n5_; have HB := n6_; clear n0_ n1_ n2_ n3_ n4_ n5_ n6_; (try clear hb); (try clear hb2); (try clear hk); (try clear hi); (try clear ho0); obtain ⟨Ao33, co33, eo33⟩ := Kd.R_slice HO245.out; subst eo33; obtain ⟨Ao34, co34, eo34⟩ := Kd.R_slice HO235.out; subst eo34) | ((with_reducible refine gate_callee (f := 13) rfl ?_); refine goesL_ (some 29) rfl rfl Try.func13 (by kernel_rfl) rfl #[.slice Ao33 t243.length co33, .slice Ao34 t233.length co34] rfl (by (try simp only [lm_, lo_, ln_]); first | done | rfl | (simp only [List.length_drop, List.length_take]; rfl)) ?_; (with_reducible refine (laws_eqByteS.calls k _ _ t243 _ _ t233 true _ ?side1 ?side2 ?side3 ?side4 A12.out).mono ?_); (case side1 => repeat (first | exact (Kd.R_reads' HO245.out).2.2 | (with_reducible refine Kd.C_alloc ?_ _) | (with_reducible refine Kd.C_drewN ?_ _) | (with_reducible refine Kd.C_drew ?_))); (case side2 => exact (Kd.R_reads' HO245.out).2.1); (case side3 => repeat (first | exact (Kd.R_reads' HO235.out).2.2 | (with_reducible refine Kd.C_alloc ?_ _) | (with_reducible refine Kd.C_drewN ?_ _) | (with_reducible refine Kd.C_drew ?_))); (case side4 => exact (Kd.R_reads' HO235.out).2.1); rintro e w' ⟨rfl, ⟨nd, rfl⟩⟩; refine ⟨_, rfl, ?_⟩))
 (try (rw [drewN_self w32]; generalize hq_ : World.drewN w32 _ = w32; have n0_ : Aside0 (Kd.R (Kd.int .u8) 5 w32 w.heap.size (fun k_ => some k_ ≠ (.slice Ao34 t233.length co34 : Value).ownBlock ∧ some k_ ≠ (.slice Ao31 t239.length co31 : Value).ownBlock ∧ some k_ ≠ (.slice Ao33 t243.length co33 : Value).ownBlock) (.slice Ao24 t230.length co24) t230) := ⟨by rw [← hq_]; exact (by (with_reducible repeat (first | apply Kd.R_alloc | apply Kd.R_drewN | apply Kd.R_drew)); exact Kd.R_mono HO232.out (fun _ hk => by first | exact ⟨hk.1.1.2, ⟨hk.1.2, hk.2⟩⟩ | exact hk.1 | exact hk | exact ⟨hk.1, hk.2⟩ | exact ⟨.inr hk.1, hk.2⟩ | simp only [hk, ne_eq, not_false_eq_true, and_self]))⟩; have n1_ : Aside0 (Kd.R (Kd.int .u8) 5 w32 w.heap.size (fun k_ => some k_ ≠ (.slice Ao24 t230.length co24 : Value).ownBlock ∧ some k_ ≠ (.slice Ao31 t239.length co31 : Value).ownBlock ∧ some k_ ≠ (.slice Ao33 t243.length co33 : Value).ownBlock) (.slice Ao34 t233.length co34) t233) := ⟨by rw [← hq_]; exact (by (with_reducible repeat (first | apply Kd.R_alloc | apply Kd.R_drewN | apply Kd.R_drew)); exact Kd.R_mono HO235.out (fun _ hk => by first | exact ⟨hk.1.1.2, ⟨hk.1.2, hk.2⟩⟩ | exact hk.1 | exact hk | exact ⟨hk.1, hk.2⟩ | exact ⟨.inr hk.1, hk.2⟩ | simp only [hk, ne_eq, not_false_eq_true, and_self]))⟩; have n2_ : Aside0 (Kd.R (Kd.int .u8) 5 w32 w.heap.size (fun k_ => some k_ ≠ (.slice Ao24 t230.length co24 : Value).ownBlock ∧ some k_ ≠ (.slice Ao34 t233.length co34 : Value).ownBlock ∧ some k_ ≠ (.slice Ao33 t243.length co33 : Value).ownBlock) (.slice Ao31 t239.length co31) t239) := ⟨by rw [← hq_]; exact (by (with_reducible repeat (first | apply Kd.R_alloc | apply Kd.R_drewN | apply Kd.R_drew)); exact Kd.R_mono HO241.out (fun _ hk => by first | exact ⟨hk.1.1.2, ⟨hk.1.2, hk.2⟩⟩ | exact hk.1 | exact hk | exact ⟨hk.1, hk.2⟩ | exact ⟨.inr hk.1, hk.2⟩ | simp only [hk, ne_eq, not_false_eq_true, and_self]))⟩; have n3_ : Aside0 (Kd.R (Kd.int .u8) 5 w32 w.heap.size (fun k_ => some k_ ≠ (.slice Ao24 t230.length co24 : Value).ownBlock ∧ some k_ ≠ (.slice Ao34 t233.length co34 : Value).ownBlock ∧ some k_ ≠ (.slice Ao31 t239.length co31 : Value).ownBlock) (.slice Ao33 t243.length co33) t243) := ⟨by rw [← hq_]; exact (by (with_reducible repeat (first | apply Kd.R_alloc | apply Kd.R_drewN | apply Kd.R_drew)); exact Kd.R_mono HO245.out (fun _ hk => by first | exact ⟨hk.1.1.2, ⟨hk.1.2, hk.2⟩⟩ | exact hk.1 | exact hk | exact ⟨hk.1, hk.2⟩ | exact ⟨.inr hk.1, hk.2⟩ | simp only [hk, ne_eq, not_false_eq_true, and_self]))⟩; have n4_ : Aside0 (w32.heap[gb225]? = some (.cells #[.int .i64 a0_0, .int .i64 a0_1, .int .i64 a0_2, .slice A0_3 l0_3.length c0_3] 24 (0, 0))) := ⟨by rw [← hq_]; exact (u_ BK225.out)⟩; have n5_ : Aside0 (w32.heap[gb242]? = some (.cells #[.int .i64 t236, .int .i64 t237, .int .i64 t238, .slice Ao31 t239.length co31] 27 (0, 0))) := ⟨by rw [← hq_]; exact (u_ BK242.out)⟩; have n6_ : Aside0 (Below w.heap.size w w32) := ⟨by rw [← hq_]; exact (us_ HB.out)⟩; clear HO232 HO235 HO241 HO245 BK225 BK242 HB hq_; have HO232 := n0_; have HO235 := n1_; have HO241 := n2_; have HO245 := n3_; have BK225 := n4_; have BK242 := n5_; have HB := n6_; clear n0_ n1_ n2_ n3_ n4_ n5_ n6_))
 have n0_ := mk_ (Kd.R_drew HO232.out)
 have n1_ := mk_ (Kd.R_drew HO235.out)
 have n2_ := mk_ (Kd.R_drew HO241.out)
 have n3_ := mk_ (Kd.R_drew HO245.out)
 have n4_ := mk_ (blk_drew BK225.out)
 have n5_ := mk_ (blk_drew BK242.out)
 have n6_ := mk_ (below_drew1 HB.out)
 clear HO232
 clear HO235
 clear HO241
 clear HO245
 clear BK225
 clear BK242
 clear HB
 have HO232 := n0_
 have HO235 := n1_
 have HO241 := n2_
 have HO245 := n3_
 have BK225 := n4_
 have BK242 := n5_
 have HB := n6_
 clear n0_ n1_ n2_ n3_ n4_ n5_ n6_
 refine start_ (n := 5) (S := fun w' => w'.cell? ⟨gb242, 0, none⟩ = some (.int .i64 t236) ∧ w'.cell? ⟨gb242, 1, none⟩ = some (.int .i64 t237) ∧ w'.cell? ⟨gb242, 2, none⟩ = some (.int .i64 t238) ∧ w'.cell? ⟨gb242, 3, none⟩ = some (.slice Ao31 t239.length co31) ∧ w'.cell? ⟨gb225, 0, none⟩ = some (.int .i64 a0_0) ∧ w'.cell? ⟨gb225, 1, none⟩ = some (.int .i64 a0_1) ∧ w'.cell? ⟨gb225, 2, none⟩ = some (.int .i64 a0_2) ∧ w'.cell? ⟨gb225, 3, none⟩ = some (.slice A0_3 l0_3.length c0_3)) (ds := []) #[false, false, false, false, false] (by kernel_rfl) rfl rfl ⟨(blk_cell BK242.out 0).trans rfl, (blk_cell BK242.out 1).trans rfl, (blk_cell BK242.out 2).trans rfl, (blk_cell BK242.out 3).trans rfl, (blk_cell BK225.out 0).trans rfl, (blk_cell BK225.out 1).trans rfl, (blk_cell BK225.out 2).trans rfl, (blk_cell BK225.out 3).trans rfl⟩ (fun hHeld => ?_)
 generalize w32.drew = w35 at HO232 HO235 HO241 HO245 BK225 BK242 HB hHeld ⊢
 refine take_ (i := 0) (N := some 31) (v := ?_) (a' := ?_) #[true, false, false, false, false] rfl rfl (by kernel_rfl) (fun _ _ _ h => h) (Or.inl ⟨by rfl, ?_⟩) hHeld ?_ ?_
 rotate_left
 ·rintro w' ⟨s0, s1, s2, s3, s4, s5, s6, s7⟩
  go_simp
  with_reducible rfl
 rotate_left
 ·simp only [Act.put, la_, lz_, ls_, i64_w, i32_w]
  rfl
 refine take_ (i := 1) (N := some 32) (v := ?_) (a' := ?_) #[true, true, false, false, false] rfl rfl (by kernel_rfl) (fun _ _ _ h => h) (Or.inl ⟨by rfl, ?_⟩) hHeld ?_ ?_
 rotate_left
 ·rintro w' ⟨s0, s1, s2, s3, s4, s5, s6, s7⟩
  go_simp
  with_reducible rfl
 rotate_left
 ·simp only [Act.put, la_, lz_, ls_, i64_w, i32_w]
  rfl
 refine one_ (i := 2) (N := some 33) #[true, true, true, false, false] rfl rfl (by kernel_rfl) (by decide) (fun K hK => ?_)
 refine goes_ Try.func11 (by kernel_rfl) rfl #[.agg #[.int .i64 a0_0, .int .i64 a0_1, .int .i64 a0_2, .slice A0_3 l0_3.length c0_3]] (by rfl) rfl rfl (by (try simp only [lm_, lo_, ln_]); first | done | rfl | (simp only [List.length_drop, List.length_take]; rfl)) ?_
 with_reducible refine (laws_toMail.calls k a0_0 a0_1 a0_2 _ _ l0_3 t247 t248 t249 t250 _ ?side1 ?side2 A14.out).mono ?_
 (case side1 => repeat (first | exact (Kd.C_below HR0_3.out HB.out) | (with_reducible refine Kd.C_alloc ?_ _) | (with_reducible refine Kd.C_drewN ?_ _) | (with_reducible refine Kd.C_drew ?_)))
 (case side2 => exact HC0_3.out)
 rintro e w36 ⟨v251, rfl, ho0, hb⟩
 refine ⟨_, rfl, ?_⟩
 have n0_ := mk_ (Kd.R_elder' (Kd.ur_ HO232.out) (Kd.R_base ho0) hb)
 have n1_ := mk_ (Kd.R_elder' (Kd.ur_ HO235.out) (Kd.R_base ho0) hb)
 have n2_ := mk_ (Kd.R_elder' (Kd.ur_ HO241.out) (Kd.R_base ho0) hb)
 have n3_ := mk_ (Kd.R_elder' (Kd.ur_ HO245.out) (Kd.R_base ho0) hb)
 have n4_ := mk_ (Kd.R_lower (Kd.R_new' (Kd.R_new' (Kd.R_new' (Kd.R_new' ho0 (Kd.R_lt (Kd.ur_ HO232.out))) (Kd.R_lt (Kd.ur_ HO235.out))) (Kd.R_lt (Kd.ur_ HO241.out))) (Kd.R_lt (Kd.ur_ HO245.out))) (below_size (us_ HB.out)))
 have n5_ := mk_ (blk_below (u_ BK225.out) hb)
 have n6_ := mk_ (blk_below (u_ BK242.out) hb)
 have n7_ := mk_ (below_step (us_ HB.out) hb)
 clear HO232
 clear HO235
 clear HO241
 clear HO245
 clear BK225
 clear BK242
 clear HB
 have HO232 := n0_
 have HO235 := n1_
 have HO241 := n2_
 have HO245 := n3_
 have HO252 := n4_
 have BK225 := n5_
 have BK242 := n6_
 have HB := n7_
 clear n0_ n1_ n2_ n3_ n4_ n5_ n6_ n7_
 (try clear hb)
 (try clear hb2)
 (try clear hk)
 (try clear hi)
 (try clear ho0)
 obtain ⟨Ao37, co37, eo37⟩ := Kd.R_slice HO252.out
 (first | subst eo37 | (injection eo37 with f1_ f2_ f3_; have f4_ := f1_.symm; have f5_ := f3_.symm; clear f1_ f2_ f3_; subst f4_; subst f5_))
 refine hK.out _ _ ⟨(blk_cell BK242.out 0).trans rfl, (blk_cell BK242.out 1).trans rfl, (blk_cell BK242.out 2).trans rfl, (blk_cell BK242.out 3).trans rfl, (blk_cell BK225.out 0).trans rfl, (blk_cell BK225.out 1).trans rfl, (blk_cell BK225.out 2).trans rfl, (blk_cell BK225.out 3).trans rfl⟩ (fun hHeld => ?_)
 clear hK K
 refine norm_ (a' := ?_) ?_ ?_
 rotate_left
 ·show Act.put _ (some 33) _ = _
  simp only [Act.put, la_, lz_, ls_, i64_w, i32_w]
  rfl
 refine one_ (i := 3) (N := some 34) #[true, true, true, true, false] rfl rfl (by kernel_rfl) (by decide) (fun K hK => ?_)
 refine goes_ Try.func14 (by kernel_rfl) rfl #[.agg #[.int .i64 t236, .int .i64 t237, .int .i64 t238, .slice Ao31 t239.length co31], .agg #[.int .i64 t247, .int .i64 t248, .int .i64 t249, .slice Ao37 t250.length co37]] (by rfl) rfl rfl (by (try simp only [lm_, lo_, ln_]); first | done | rfl | (simp only [List.length_drop, List.length_take]; rfl)) ?_
 with_reducible refine (laws_eqMail.calls k t236 t237 t238 _ _ t239 t247 t248 t249 _ _ t250 true _ ?side1 ?side2 ?side3 ?side4 A15.out).mono ?_
 (case side1 => repeat (first | exact (Kd.R_reads' HO241.out).2.2 | (with_reducible refine Kd.C_alloc ?_ _) | (with_reducible refine Kd.C_drewN ?_ _) | (with_reducible refine Kd.C_drew ?_)))
 (case side2 => exact (Kd.R_reads' HO241.out).2.1)
 (case side3 => repeat (first | exact (Kd.R_reads' HO252.out).2.2 | (with_reducible refine Kd.C_alloc ?_ _) | (with_reducible refine Kd.C_drewN ?_ _) | (with_reducible refine Kd.C_drew ?_)))
 (case side4 => exact (Kd.R_reads' HO252.out).2.1)
 rintro e w38 ⟨rfl, hb⟩
 refine ⟨_, rfl, ?_⟩
 have n0_ := mk_ (Kd.R_below (Kd.ur_ HO232.out) hb)
 have n1_ := mk_ (Kd.R_below (Kd.ur_ HO235.out) hb)
 have n2_ := mk_ (Kd.R_below (Kd.ur_ HO241.out) hb)
 have n3_ := mk_ (Kd.R_below (Kd.ur_ HO245.out) hb)
 have n4_ := mk_ (Kd.R_below (Kd.ur_ HO252.out) hb)
 have n5_ := mk_ (blk_below (u_ BK225.out) hb)
 have n6_ := mk_ (blk_below (u_ BK242.out) hb)
 have n7_ := mk_ (below_step (us_ HB.out) hb)
 clear HO232
 clear HO235
 clear HO241
 clear HO245
 clear HO252
 clear BK225
 clear BK242
 clear HB
 have HO232 := n0_
 have HO235 := n1_
 have HO241 := n2_
 have HO245 := n3_
 have HO252 := n4_
 have BK225 := n5_
 have BK242 := n6_
 have HB := n7_
 clear n0_ n1_ n2_ n3_ n4_ n5_ n6_ n7_
 (try clear hb)
 (try clear hb2)
 (try clear hk)
 (try clear hi)
 refine hK.out _ _ ⟨(blk_cell BK242.out 0).trans rfl, (blk_cell BK242.out 1).trans rfl, (blk_cell BK242.out 2).trans rfl, (blk_cell BK242.out 3).trans rfl, (blk_cell BK225.out 0).trans rfl, (blk_cell BK225.out 1).trans rfl, (blk_cell BK225.out 2).trans rfl, (blk_cell BK225.out 3).trans rfl⟩ (fun hHeld => ?_)
 clear hK K
 refine norm_ (a' := ?_) ?_ ?_
 rotate_left
 ·show Act.put _ (some 34) _ = _
  simp only [Act.put, la_, lz_, ls_, i64_w, i32_w]
  rfl
 refine pure_ (i := 4) (N := some 35) (v := ?_) (a' := ?_) #[true, true, true, true, true] rfl rfl (by kernel_rfl) (fun _ _ _ h => h) (Or.inl ⟨by rfl, ?_⟩) ?_ ?_
 rotate_left
 ·intro w'
  go_simp
  with_reducible rfl
 rotate_left
 ·simp only [Act.put, la_, lz_, ls_, i64_w, i32_w]
  rfl
 refine done_ (by kernel_rfl) ?_
 obtain ⟨hcz39_0, hcz39_1, hcz39_2, hcz39_3, hfz39_0, hfz39_1, hfz39_2, hfz39_3⟩ := cells4_ BK242.out
 go_upto_region 14 with (first | ((with_reducible refine gate_callee (f := 15) rfl ?_); refine goesL_ (some 38) rfl rfl Try.func15 (by kernel_rfl) rfl #[.agg #[.int .i64 t236, .int .i64 t237, .int .i64 t238, .slice Ao31 t239.length co31], .int .i64 1] rfl (by (try simp only [lm_, lo_, ln_]); first | done | rfl | (simp only [List.length_drop, List.length_take]; rfl)) ?_; (with_reducible refine (laws_markMail.calls k t236 t237 t238 (fun k_ => some k_ = (.slice Ao31 t239.length co31 : Value).ownBlock) (.slice Ao31 t239.length co31) t239 1 t254 t255 w _ ?side1 ?side2 A17.out).mono ?_); (case side1 => repeat (first | (with_reducible first | exact HB.out | apply na_ | apply nn_ | apply nw_ | refine bs_ ?_ GE225.out | refine bs_ ?_ GE242.out) | exact HB.out)); (case side2 => exact Kd.R_tight rfl HO241.out); rintro e w40 ⟨rfl, hy0, hb, hkp⟩; refine ⟨_, rfl, ?_⟩; have n0_ := mk_ (blk_kept (u_ BK225.out) hkp (fun hs_ => (fun e_ => (Kd.R_ne HO241.out BK225.out (by decide)) e_) hs_)); have n1_ := mk_ (Kd.R_mono (ok' := fun k_ => some k_ ≠ (.slice Ao34 t233.length co34 : Value).ownBlock ∧ some k_ ≠ (.slice Ao31 t239.length co31 : Value).ownBlock ∧ some k_ ≠ (.slice Ao33 t243.length co33 : Value).ownBlock ∧ some k_ ≠ (.slice Ao37 t250.length co37 : Value).ownBlock) (Kd.R_keptB (HO232.out) hkp (fun k_ hk_ hs_ => by first | exact hk_.1.1.2 hs_ | exact absurd hs_ (by simp only [hk_, ne_eq, not_false_eq_true]))) (fun k_ hk_ => by first | exact ⟨hk_.1.1.1.1.2, hk_.1.1.1.2, hk_.1.1.2, hk_.1.2⟩ | simp only [hk_, ne_eq, not_false_eq_true, and_self])); have n2_ := mk_ (Kd.R_mono (ok' := fun k_ => some k_ ≠ (.slice Ao24 t230.length co24 : Value).ownBlock ∧ some k_ ≠ (.slice Ao31 t239.length co31 : Value).ownBlock ∧ some k_ ≠ (.slice Ao33 t243.length co33 : Value).ownBlock ∧ some k_ ≠ (.slice Ao37 t250.length co37 : Value).ownBlock) (Kd.R_keptB (HO235.out) hkp (fun k_ hk_ hs_ => by first | exact hk_.1.1.2 hs_ | exact absurd hs_ (by simp only [hk_, ne_eq, not_false_eq_true]))) (fun k_ hk_ => by first | exact ⟨hk_.1.1.1.1.2, hk_.1.1.1.2, hk_.1.1.2, hk_.1.2⟩ | simp only [hk_, ne_eq, not_false_eq_true, and_self])); have n3_ := mk_ (Kd.R_reok rfl hy0 (fun k_ e_ => HO241.out.1 k_ e_)); have n4_ := mk_ (blk_kept (u_ BK242.out) hkp (fun hs_ => (fun e_ => (Kd.R_ne HO241.out BK242.out (by decide)) e_) hs_)); have n5_ := mk_ (Kd.R_mono (ok' := fun k_ => some k_ ≠ (.slice Ao24 t230.length co24 : Value).ownBlock ∧ some k_ ≠ (.slice Ao34 t233.length co34 : Value).ownBlock ∧ some k_ ≠ (.slice Ao31 t239.length co31 : Value).ownBlock ∧ some k_ ≠ (.slice Ao37 t250.length co37 : Value).ownBlock) (Kd.R_keptB (HO245.out) hkp (fun k_ hk_ hs_ => by first | exact hk_.1.2 hs_ | exact absurd hs_ (by simp only [hk_, ne_eq, not_false_eq_true]))) (fun k_ hk_ => by first | exact ⟨hk_.1.1.1.1.2, hk_.1.1.1.2, hk_.1.1.2, hk_.1.2⟩ | simp only [hk_, ne_eq, not_false_eq_true, and_self])); have n6_ := mk_ (Kd.R_mono (ok' := fun k_ => some k_ ≠ (.slice Ao24 t230.length co24 : Value).ownBlock ∧ some k_ ≠ (.slice Ao34 t233.length co34 : Value).ownBlock ∧ some k_ ≠ (.slice Ao31 t239.length co31 : Value).ownBlock ∧ some k_ ≠ (.slice Ao33 t243.length co33 : Value).ownBlock) (Kd.R_keptB (HO252.out) hkp (fun k_ hk_ hs_ => by first | exact hk_.1.2 hs_ | exact absurd hs_ (by simp only [hk_, ne_eq, not_false_eq_true]))) (fun k_ hk_ => by first | exact ⟨hk_.1.1.1.1.2, hk_.1.1.1.2, hk_.1.1.2, hk_.1.2⟩ | simp only [hk_, ne_eq, not_false_eq_true, and_self])); have n7_ := mk_ (hb); clear BK225; clear HO232; clear HO235; clear HO241; clear BK242; clear HO245; clear HO252; clear HB; have BK225 := n0_; have HO232 := n1_; have HO235 := n2_; have HO241 := n3_; have BK242 := n4_; have HO245 := n5_; have HO252 := n6_; have HB := n7_; clear n0_ n1_ n2_ n3_ n4_ n5_ n6_ n7_; (try clear hb); (try clear hkp); (try clear hy0)))
 (try simp only [Act.put, la_, lz_, ls_])
 go_cut [46] (fun v46 wc => ∃ (kq : Nat) (x46_17 : Bool), v46 = .bool x46_17 ∧ Aside0 (laws_FnExactMailBytes.j0 kq a1 t233 t243 x46_17 a0_0 a0_1 a0_2 l0_3 = some r) ∧ Aside0 (kq ≤ k) ∧ Aside0 (Kd.R (Kd.int .u8) 5 wc w.heap.size (fun k_ => some k_ ≠ ((.slice Ao33 t243.length co33) : Value).ownBlock ∧ some k_ ≠ ((.slice Ao31 t239.length co31) : Value).ownBlock) (.slice Ao34 t233.length co34) t233) ∧ Aside0 (Kd.R (Kd.int .u8) 5 wc w.heap.size (fun k_ => some k_ ≠ ((.slice Ao34 t233.length co34) : Value).ownBlock ∧ some k_ ≠ ((.slice Ao31 t239.length co31) : Value).ownBlock) (.slice Ao33 t243.length co33) t243) ∧ Aside0 (Kd.R (Kd.int .u8) 5 wc w.heap.size (fun k_ => some k_ ≠ ((.slice Ao34 t233.length co34) : Value).ownBlock ∧ some k_ ≠ ((.slice Ao33 t243.length co33) : Value).ownBlock) (.slice Ao31 t239.length co31) t255) ∧ Aside0 (wc.heap[gb225]? = some (.cells #[.int .i64 a0_0, .int .i64 a0_1, .int .i64 a0_2, (.slice A0_3 l0_3.length c0_3)] 24 (0, 0))) ∧ Aside0 (wc.heap[gb242]? = some (.cells #[.int .i64 t236, .int .i64 t237, .int .i64 t238, (.slice Ao31 t239.length co31)] 27 (0, 0))) ∧ Aside0 (Below w.heap.size w wc))
 case first =>
  have H := HC18.out
  clear HC18
  by_cases c41 : t254 < 0
  ·rw [if_pos c41] at H
   have c41b0 : decide (t254 < 0) = true := decide_eq_true c41
   clear c41
   (first | rw [c41b0] | (simp only [i64_w, i32_w]; rw [c41b0]) | skip)
   have H' := mk_ H
   clear H
   go_wp2
   go_meet
   case rel => exact ⟨_, (true), (by first | rfl | (simp; done) | (simp [*]; done)), H', ⟨by first | omega | exact Nat.le_refl _⟩, ⟨by (with_reducible repeat (first | apply Kd.R_alloc | apply Kd.R_drewN | apply Kd.R_drew)); exact Kd.R_mono HO235.out (fun _ hk => by first | exact ⟨hk.2.2.1, hk.2.1⟩ | exact hk.1 | exact hk | exact ⟨hk.1, hk.2⟩ | exact ⟨.inr hk.1, hk.2⟩ | simp only [hk, ne_eq, not_false_eq_true, and_self])⟩, ⟨by (with_reducible repeat (first | apply Kd.R_alloc | apply Kd.R_drewN | apply Kd.R_drew)); exact Kd.R_mono HO245.out (fun _ hk => by first | exact ⟨hk.2.1, hk.2.2.1⟩ | exact hk.1 | exact hk | exact ⟨hk.1, hk.2⟩ | exact ⟨.inr hk.1, hk.2⟩ | simp only [hk, ne_eq, not_false_eq_true, and_self])⟩, ⟨by (with_reducible repeat (first | apply Kd.R_alloc | apply Kd.R_drewN | apply Kd.R_drew)); exact Kd.R_mono HO241.out (fun _ hk => by first | exact ⟨hk.1.1.2, hk.1.2⟩ | exact hk.1 | exact hk | exact ⟨hk.1, hk.2⟩ | exact ⟨.inr hk.1, hk.2⟩ | simp only [hk, ne_eq, not_false_eq_true, and_self])⟩, ⟨u_ BK225.out⟩, ⟨u_ BK242.out⟩, ⟨us_ HB.out⟩⟩
  rw [if_neg c41] at H
  have c41b0 : decide (t254 < 0) = false := decide_eq_false c41
  clear c41
  (first | rw [c41b0] | (simp only [i64_w, i32_w]; rw [c41b0]) | skip)
  replace H := Option.bind_eq_some_iff.mp H
  obtain ⟨t256, A420, H⟩ := H
  replace H : (laws_FnExactMailBytes.j0 k a1 t233 t243 (!t256) a0_0 a0_1 a0_2 l0_3) = some r := H
  have A42 := mk_ A420
  clear A420
  have H' := mk_ H
  clear H
  go_wp2_with (first | (go_at_call 13; (with_reducible refine (laws_eqByteS.calls k _ _ t243 _ _ t233 t256 _ ?side1 ?side2 ?side3 ?side4 A42.out).mono ?_); (case side1 => repeat (first | exact (Kd.R_reads' HO245.out).2.2 | (with_reducible refine Kd.C_alloc ?_ _) | (with_reducible refine Kd.C_drewN ?_ _) | (with_reducible refine Kd.C_drew ?_))); (case side2 => exact (Kd.R_reads' HO245.out).2.1); (case side3 => repeat (first | exact (Kd.R_reads' HO235.out).2.2 | (with_reducible refine Kd.C_alloc ?_ _) | (with_reducible refine Kd.C_drewN ?_ _) | (with_reducible refine Kd.C_drew ?_))); (case side4 => exact (Kd.R_reads' HO235.out).2.1); rintro e w' ⟨rfl, ⟨nd, rfl⟩⟩))
  go_meet
  case rel => exact ⟨_, (!t256), (by first | rfl | (simp; done) | (simp [*]; done)), H', ⟨by first | omega | exact Nat.le_refl _⟩, ⟨by (with_reducible repeat (first | apply Kd.R_alloc | apply Kd.R_drewN | apply Kd.R_drew)); exact Kd.R_mono HO235.out (fun _ hk => by first | exact ⟨hk.2.2.1, hk.2.1⟩ | exact hk.1 | exact hk | exact ⟨hk.1, hk.2⟩ | exact ⟨.inr hk.1, hk.2⟩ | simp only [hk, ne_eq, not_false_eq_true, and_self])⟩, ⟨by (with_reducible repeat (first | apply Kd.R_alloc | apply Kd.R_drewN | apply Kd.R_drew)); exact Kd.R_mono HO245.out (fun _ hk => by first | exact ⟨hk.2.1, hk.2.2.1⟩ | exact hk.1 | exact hk | exact ⟨hk.1, hk.2⟩ | exact ⟨.inr hk.1, hk.2⟩ | simp only [hk, ne_eq, not_false_eq_true, and_self])⟩, ⟨by (with_reducible repeat (first | apply Kd.R_alloc | apply Kd.R_drewN | apply Kd.R_drew)); exact Kd.R_mono HO241.out (fun _ hk => by first | exact ⟨hk.1.1.2, hk.1.2⟩ | exact hk.1 | exact hk | exact ⟨hk.1, hk.2⟩ | exact ⟨.inr hk.1, hk.2⟩ | simp only [hk, ne_eq, not_false_eq_true, and_self])⟩, ⟨u_ BK225.out⟩, ⟨u_ BK242.out⟩, ⟨us_ HB.out⟩⟩
 case rest =>
  clear HC18
  try clear c1
  try clear c2
  try clear p2
  try clear c3
  try clear c4
  try clear c4b0
  try clear c9
  try clear c10
  try clear c11
  try clear c12
  try clear c13
  try clear c14
  try clear c15
  try clear c16
  try clear c29
  try clear c41
  try clear c41b0
  try clear hcz20_0
  try clear hcz20_1
  try clear hcz20_2
  try clear hcz20_3
  try clear hcz22_0
  try clear hcz22_1
  try clear hcz22_2
  try clear hcz22_3
  try clear hcz26_0
  try clear hcz26_1
  try clear hcz26_2
  try clear hcz26_3
  try clear hcz30_0
  try clear hcz30_1
  try clear hcz30_2
  try clear hcz30_3
  try clear hcz39_0
  try clear hcz39_1
  try clear hcz39_2
  try clear hcz39_3
  try clear hcz6_0
  try clear hcz6_1
  try clear hcz6_2
  try clear hcz6_3
  try clear hfz20_0
  try clear hfz20_1
  try clear hfz20_2
  try clear hfz20_3
  try clear hfz22_0
  try clear hfz22_1
  try clear hfz22_2
  try clear hfz22_3
  try clear hfz26_0
  try clear hfz26_1
  try clear hfz26_2
  try clear hfz26_3
  try clear hfz30_0
  try clear hfz30_1
  try clear hfz30_2
  try clear hfz30_3
  try clear hfz39_0
  try clear hfz39_1
  try clear hfz39_2
  try clear hfz39_3
  try clear hfz6_0
  try clear hfz6_1
  try clear hfz6_2
  try clear hfz6_3
  obtain ⟨kq, x46_17, rfl, HA, HJ17, HO_6, HO_8, HO_243003, BK225, BK242, HB⟩ := hcut
  have hl243003_17 := (Kd.R_reads' HO_243003.out).1
  rw [hl243003_17] at HO_243003
  (try simp only [hl243003_17])
  (try simp only [hl243003_17] at BK225)
  (try simp only [hl243003_17] at BK242)
  (try simp only [hl243003_17] at HO_6)
  (try simp only [hl243003_17] at HO_8)
  cases kq with
  | zero => exact absurd HA.out (by simp [laws_FnExactMailBytes.j0])
  | succ kj17 =>
   have H := HA.out
   clear HA
   simp only [laws_FnExactMailBytes.j0] at H
   by_cases c43 : x46_17 = true
   ·subst c43
    have H1 : (some false) = some r := by rw [if_pos rfl] at H; exact H
    clear H
    have H := H1
    clear H1
    obtain rfl := Option.some.inj H
    go_wp2
    go_ret
    exact ⟨by first | rfl | (simp [errW_none, errW_some] <;> rfl) | (simp [*, errW_none, errW_some] <;> rfl), us_ HB.out⟩
   replace c43 := Bool.eq_false_iff.mpr c43
   subst c43
   have H1 : ((laws_markByteS.f kj17 t243 1).bind fun bt257 => ((laws_heldByteS.f kj17 bt257.2 1).bind fun t259 => (if t259 < 0 then (some false) else (if t259 = bt257.1 then ((laws_toMail.f kj17 a0_0 a0_1 a0_2 l0_3).bind fun bt260 => ((impl_MailBytes.f kj17 bt260.1 bt260.2.1 bt260.2.2.1 bt260.2.2.2 a1).bind fun t266 => ((laws_eqByteS.f kj17 t266 t233).bind fun t269 => (if t269 = true then ((laws_heldByteS.f kj17 bt257.2 1).bind fun t270 => (if t270 < 0 then (some false) else (if t270 = bt257.1 then (some true) else (some false)))) else (some false))))) else (some false))))) = some r := by rw [if_neg (show ¬ (false = true) by decide)] at H; exact H
   clear H
   have H := H1
   clear H1
   replace H := Option.bind_eq_some_iff.mp H
   obtain ⟨⟨t257, t258⟩, A440, H⟩ := H
   replace H : ((laws_heldByteS.f kj17 t258 1).bind fun t259 => (if t259 < 0 then (some false) else (if t259 = t257 then ((laws_toMail.f kj17 a0_0 a0_1 a0_2 l0_3).bind fun bt260 => ((impl_MailBytes.f kj17 bt260.1 bt260.2.1 bt260.2.2.1 bt260.2.2.2 a1).bind fun t266 => ((laws_eqByteS.f kj17 t266 t233).bind fun t269 => (if t269 = true then ((laws_heldByteS.f kj17 t258 1).bind fun t270 => (if t270 < 0 then (some false) else (if t270 = t257 then (some true) else (some false)))) else (some false))))) else (some false)))) = some r := H
   have A44 := mk_ A440
   clear A440
   replace H := Option.bind_eq_some_iff.mp H
   obtain ⟨t259, A450, H⟩ := H
   replace H : (if t259 < 0 then (some false) else (if t259 = t257 then ((laws_toMail.f kj17 a0_0 a0_1 a0_2 l0_3).bind fun bt260 => ((impl_MailBytes.f kj17 bt260.1 bt260.2.1 bt260.2.2.1 bt260.2.2.2 a1).bind fun t266 => ((laws_eqByteS.f kj17 t266 t233).bind fun t269 => (if t269 = true then ((laws_heldByteS.f kj17 t258 1).bind fun t270 => (if t270 < 0 then (some false) else (if t270 = t257 then (some true) else (some false)))) else (some false))))) else (some false))) = some r := H
   have A45 := mk_ A450
   clear A450
   by_cases c46 : t259 < 0
   ·rw [if_pos c46] at H
    have c46b0 : decide (t259 < 0) = true := decide_eq_true c46
    clear c46
    obtain rfl := Option.some.inj H
    go_wp2_with (first | ((with_reducible refine gate_callee (f := 16) rfl ?_); refine goesL_ (some 49) rfl rfl Try.func16 (by kernel_rfl) rfl #[.slice Ao33 t243.length co33, .int .i64 1] rfl (by (try simp only [lm_, lo_, ln_]); first | done | rfl | (simp only [List.length_drop, List.length_take]; rfl)) ?_; (with_reducible refine (laws_markByteS.calls kj17 (fun k_ => some k_ = (.slice Ao33 t243.length co33 : Value).ownBlock) (.slice Ao33 t243.length co33) t243 1 t257 t258 w _ ?side1 ?side2 A44.out).mono ?_); (case side1 => repeat (first | (with_reducible first | exact HB.out | apply na_ | apply nn_ | apply nw_ | refine bs_ ?_ GE225.out | refine bs_ ?_ GE242.out) | exact HB.out)); (case side2 => exact Kd.R_tight rfl HO_8.out); rintro e w47 ⟨rfl, hy0, hb, hkp⟩; refine ⟨_, rfl, ?_⟩; have n0_ := mk_ (Kd.R_mono (ok' := fun k_ => some k_ ≠ (.slice Ao33 t243.length co33 : Value).ownBlock ∧ some k_ ≠ (.slice Ao31 t255.length co31 : Value).ownBlock) (Kd.R_keptB (HO_6.out) hkp (fun k_ hk_ hs_ => (hk_.1) hs_)) (fun k_ hk_ => by first | exact ⟨hk_.1.1, hk_.1.2⟩ | simp only [hk_, ne_eq, not_false_eq_true, and_self])); have n1_ := mk_ (Kd.R_reok rfl hy0 (fun k_ e_ => HO_8.out.1 k_ e_)); have n2_ := mk_ (Kd.R_mono (ok' := fun k_ => some k_ ≠ (.slice Ao34 t233.length co34 : Value).ownBlock ∧ some k_ ≠ (.slice Ao33 t243.length co33 : Value).ownBlock) (Kd.R_keptB (HO_243003.out) hkp (fun k_ hk_ hs_ => (hk_.2) hs_)) (fun k_ hk_ => by first | exact ⟨hk_.1.1, hk_.1.2⟩ | simp only [hk_, ne_eq, not_false_eq_true, and_self])); have n3_ := mk_ (blk_kept (u_ BK225.out) hkp (fun hs_ => (fun e_ => (Kd.R_ne HO_8.out BK225.out (by decide)) e_) hs_)); have n4_ := mk_ (blk_kept (u_ BK242.out) hkp (fun hs_ => (fun e_ => (Kd.R_ne HO_8.out BK242.out (by decide)) e_) hs_)); have n5_ := mk_ (hb); clear HO_6; clear HO_8; clear HO_243003; clear BK225; clear BK242; clear HB; have HO_6 := n0_; have HO_8 := n1_; have HO_243003 := n2_; have BK225 := n3_; have BK242 := n4_; have HB := n5_; clear n0_ n1_ n2_ n3_ n4_ n5_; (try clear hb); (try clear hkp); (try clear hy0)) | ((with_reducible refine gate_callee (f := 17) rfl ?_); refine goesL_ (some 52) rfl rfl Try.func17 (by kernel_rfl) rfl #[.slice Ao33 t258.length co33, .int .i64 1] rfl (by (try simp only [List.map_toArray, List.map_cons, List.map_nil]); first | done | (rw [show t258.length = t243.length from (Kd.R_reads' HO_8.out).1.symm] <;> rfl) | rfl | (simp only [List.length_drop, List.length_take]; rfl)) ?_; (with_reducible refine (laws_heldByteS.calls kj17 _ _ t258 1 t259 _ ?side1 ?side2 A45.out).mono ?_); (case side1 => repeat (first | exact (Kd.R_reads' HO_8.out).2.2 | (with_reducible refine Kd.C_alloc ?_ _) | (with_reducible refine Kd.C_drewN ?_ _) | (with_reducible refine Kd.C_drew ?_))); (case side2 => rw [show t258.length = t243.length from (Kd.R_reads' HO_8.out).1.symm]; exact (Kd.R_reads' HO_8.out).2.1); rintro e w' ⟨rfl, ⟨nd, rfl⟩⟩; refine ⟨_, rfl, ?_⟩))
    go_ret
    exact ⟨by first | rfl | (simp [errW_none, errW_some] <;> rfl) | (simp [*, errW_none, errW_some] <;> rfl), us_ HB.out⟩
   rw [if_neg c46] at H
   have c46b0 : decide (t259 < 0) = false := decide_eq_false c46
   clear c46
   by_cases c48 : t259 = t257
   rotate_left
   ·rw [if_neg c48] at H
    have c48b0 : (t259 == t257) = false := beq_eq_false_iff_ne.mpr c48
    have c48b1 : (t259 != t257) = true := bne_iff_ne.mpr c48
    obtain rfl := Option.some.inj H
    go_wp2_with (first | ((with_reducible refine gate_callee (f := 16) rfl ?_); refine goesL_ (some 49) rfl rfl Try.func16 (by kernel_rfl) rfl #[.slice Ao33 t243.length co33, .int .i64 1] rfl (by (try simp only [lm_, lo_, ln_]); first | done | rfl | (simp only [List.length_drop, List.length_take]; rfl)) ?_; (with_reducible refine (laws_markByteS.calls kj17 (fun k_ => some k_ = (.slice Ao33 t243.length co33 : Value).ownBlock) (.slice Ao33 t243.length co33) t243 1 t257 t258 w _ ?side1 ?side2 A44.out).mono ?_); (case side1 => repeat (first | (with_reducible first | exact HB.out | apply na_ | apply nn_ | apply nw_ | refine bs_ ?_ GE225.out | refine bs_ ?_ GE242.out) | exact HB.out)); (case side2 => exact Kd.R_tight rfl HO_8.out); rintro e w84 ⟨rfl, hy0, hb, hkp⟩; refine ⟨_, rfl, ?_⟩; have n0_ := mk_ (Kd.R_mono (ok' := fun k_ => some k_ ≠ (.slice Ao33 t243.length co33 : Value).ownBlock ∧ some k_ ≠ (.slice Ao31 t255.length co31 : Value).ownBlock) (Kd.R_keptB (HO_6.out) hkp (fun k_ hk_ hs_ => (hk_.1) hs_)) (fun k_ hk_ => by first | exact ⟨hk_.1.1, hk_.1.2⟩ | simp only [hk_, ne_eq, not_false_eq_true, and_self])); have n1_ := mk_ (Kd.R_reok rfl hy0 (fun k_ e_ => HO_8.out.1 k_ e_)); have n2_ := mk_ (Kd.R_mono (ok' := fun k_ => some k_ ≠ (.slice Ao34 t233.length co34 : Value).ownBlock ∧ some k_ ≠ (.slice Ao33 t243.length co33 : Value).ownBlock) (Kd.R_keptB (HO_243003.out) hkp (fun k_ hk_ hs_ => (hk_.2) hs_)) (fun k_ hk_ => by first | exact ⟨hk_.1.1, hk_.1.2⟩ | simp only [hk_, ne_eq, not_false_eq_true, and_self])); have n3_ := mk_ (blk_kept (u_ BK225.out) hkp (fun hs_ => (fun e_ => (Kd.R_ne HO_8.out BK225.out (by decide)) e_) hs_)); have n4_ := mk_ (blk_kept (u_ BK242.out) hkp (fun hs_ => (fun e_ => (Kd.R_ne HO_8.out BK242.out (by decide)) e_) hs_)); have n5_ := mk_ (hb); clear HO_6; clear HO_8; clear HO_243003; clear BK225; clear BK242; clear HB; have HO_6 := n0_; have HO_8 := n1_; have HO_243003 := n2_; have BK225 := n3_; have BK242 := n4_; have HB := n5_; clear n0_ n1_ n2_ n3_ n4_ n5_; (try clear hb); (try clear hkp); (try clear hy0)) | ((with_reducible refine gate_callee (f := 17) rfl ?_); refine goesL_ (some 52) rfl rfl Try.func17 (by kernel_rfl) rfl #[.slice Ao33 t258.length co33, .int .i64 1] rfl (by (try simp only [List.map_toArray, List.map_cons, List.map_nil]); first | done | (rw [show t258.length = t243.length from (Kd.R_reads' HO_8.out).1.symm] <;> rfl) | rfl | (simp only [List.length_drop, List.length_take]; rfl)) ?_; (with_reducible refine (laws_heldByteS.calls kj17 _ _ t258 1 t259 _ ?side1 ?side2 A45.out).mono ?_); (case side1 => repeat (first | exact (Kd.R_reads' HO_8.out).2.2 | (with_reducible refine Kd.C_alloc ?_ _) | (with_reducible refine Kd.C_drewN ?_ _) | (with_reducible refine Kd.C_drew ?_))); (case side2 => rw [show t258.length = t243.length from (Kd.R_reads' HO_8.out).1.symm]; exact (Kd.R_reads' HO_8.out).2.1); rintro e w' ⟨rfl, ⟨nd, rfl⟩⟩; refine ⟨_, rfl, ?_⟩))
    go_ret
    exact ⟨by first | rfl | (simp [errW_none, errW_some] <;> rfl) | (simp [*, errW_none, errW_some] <;> rfl), us_ HB.out⟩
   rw [if_pos c48] at H
   have c48b0 : (t259 == t257) = true := beq_iff_eq.mpr c48
   have c48b1 : (t259 != t257) = false := bne_eq_false_iff_eq.mpr c48
   clear c48
   replace H := Option.bind_eq_some_iff.mp H
   obtain ⟨⟨t260, t261, t262, t263⟩, A490, H⟩ := H
   replace H : ((impl_MailBytes.f kj17 t260 t261 t262 t263 a1).bind fun t266 => ((laws_eqByteS.f kj17 t266 t233).bind fun t269 => (if t269 = true then ((laws_heldByteS.f kj17 t258 1).bind fun t270 => (if t270 < 0 then (some false) else (if t270 = t257 then (some true) else (some false)))) else (some false)))) = some r := H
   have A49 := mk_ A490
   clear A490
   replace H := Option.bind_eq_some_iff.mp H
   obtain ⟨t266, A500, H⟩ := H
   replace H : ((laws_eqByteS.f kj17 t266 t233).bind fun t269 => (if t269 = true then ((laws_heldByteS.f kj17 t258 1).bind fun t270 => (if t270 < 0 then (some false) else (if t270 = t257 then (some true) else (some false)))) else (some false))) = some r := H
   have A50 := mk_ A500
   clear A500
   replace H := Option.bind_eq_some_iff.mp H
   obtain ⟨t269, A510, H⟩ := H
   replace H : (if t269 = true then ((laws_heldByteS.f kj17 t258 1).bind fun t270 => (if t270 < 0 then (some false) else (if t270 = t257 then (some true) else (some false)))) else (some false)) = some r := H
   have A51 := mk_ A510
   clear A510
   by_cases c52 : t269 = true
   rotate_left
   ·replace c52 := Bool.eq_false_iff.mpr c52
    subst c52
    have H1 : (some false) = some r := by rw [if_neg (show ¬ (false = true) by decide)] at H; exact H
    clear H
    have H := H1
    clear H1
    obtain rfl := Option.some.inj H
    go_wp2_with (first | ((with_reducible refine gate_callee (f := 16) rfl ?_); refine goesL_ (some 49) rfl rfl Try.func16 (by kernel_rfl) rfl #[.slice Ao33 t243.length co33, .int .i64 1] rfl (by (try simp only [lm_, lo_, ln_]); first | done | rfl | (simp only [List.length_drop, List.length_take]; rfl)) ?_; (with_reducible refine (laws_markByteS.calls kj17 (fun k_ => some k_ = (.slice Ao33 t243.length co33 : Value).ownBlock) (.slice Ao33 t243.length co33) t243 1 t257 t258 w _ ?side1 ?side2 A44.out).mono ?_); (case side1 => repeat (first | (with_reducible first | exact HB.out | apply na_ | apply nn_ | apply nw_ | refine bs_ ?_ GE225.out | refine bs_ ?_ GE242.out) | exact HB.out)); (case side2 => exact Kd.R_tight rfl HO_8.out); rintro e w77 ⟨rfl, hy0, hb, hkp⟩; refine ⟨_, rfl, ?_⟩; have n0_ := mk_ (Kd.R_mono (ok' := fun k_ => some k_ ≠ (.slice Ao33 t243.length co33 : Value).ownBlock ∧ some k_ ≠ (.slice Ao31 t255.length co31 : Value).ownBlock) (Kd.R_keptB (HO_6.out) hkp (fun k_ hk_ hs_ => (hk_.1) hs_)) (fun k_ hk_ => by first | exact ⟨hk_.1.1, hk_.1.2⟩ | simp only [hk_, ne_eq, not_false_eq_true, and_self])); have n1_ := mk_ (Kd.R_reok rfl hy0 (fun k_ e_ => HO_8.out.1 k_ e_)); have n2_ := mk_ (Kd.R_mono (ok' := fun k_ => some k_ ≠ (.slice Ao34 t233.length co34 : Value).ownBlock ∧ some k_ ≠ (.slice Ao33 t243.length co33 : Value).ownBlock) (Kd.R_keptB (HO_243003.out) hkp (fun k_ hk_ hs_ => (hk_.2) hs_)) (fun k_ hk_ => by first | exact ⟨hk_.1.1, hk_.1.2⟩ | simp only [hk_, ne_eq, not_false_eq_true, and_self])); have n3_ := mk_ (blk_kept (u_ BK225.out) hkp (fun hs_ => (fun e_ => (Kd.R_ne HO_8.out BK225.out (by decide)) e_) hs_)); have n4_ := mk_ (blk_kept (u_ BK242.out) hkp (fun hs_ => (fun e_ => (Kd.R_ne HO_8.out BK242.out (by decide)) e_) hs_)); have n5_ := mk_ (hb); clear HO_6; clear HO_8; clear HO_243003; clear BK225; clear BK242; clear HB; have HO_6 := n0_; have HO_8 := n1_; have HO_243003 := n2_; have BK225 := n3_; have BK242 := n4_; have HB := n5_; clear n0_ n1_ n2_ n3_ n4_ n5_; (try clear hb); (try clear hkp); (try clear hy0)) | ((with_reducible refine gate_callee (f := 17) rfl ?_); refine goesL_ (some 52) rfl rfl Try.func17 (by kernel_rfl) rfl #[.slice Ao33 t258.length co33, .int .i64 1] rfl (by (try simp only [List.map_toArray, List.map_cons, List.map_nil]); first | done | (rw [show t258.length = t243.length from (Kd.R_reads' HO_8.out).1.symm] <;> rfl) | rfl | (simp only [List.length_drop, List.length_take]; rfl)) ?_; (with_reducible refine (laws_heldByteS.calls kj17 _ _ t258 1 t259 _ ?side1 ?side2 A45.out).mono ?_); (case side1 => repeat (first | exact (Kd.R_reads' HO_8.out).2.2 | (with_reducible refine Kd.C_alloc ?_ _) | (with_reducible refine Kd.C_drewN ?_ _) | (with_reducible refine Kd.C_drew ?_))); (case side2 => rw [show t258.length = t243.length from (Kd.R_reads' HO_8.out).1.symm]; exact (Kd.R_reads' HO_8.out).2.1); rintro e w' ⟨rfl, ⟨nd, rfl⟩⟩; refine ⟨_, rfl, ?_⟩; have hnb78 := NB225_242.out; have hnc78 := NB242_225.out; obtain ⟨hcz79_0, hcz79_1, hcz79_2, hcz79_3, hfz79_0, hfz79_1, hfz79_2, hfz79_3⟩ := cells4_ BK225.out) | ((with_reducible refine gate_callee (f := 11) rfl ?_); refine goesL_ (some 59) rfl rfl Try.func11 (by kernel_rfl) rfl #[.agg #[.int .i64 a0_0, .int .i64 a0_1, .int .i64 a0_2, .slice A0_3 l0_3.length c0_3]] rfl (by (try simp only [lm_, lo_, ln_]); first | done | rfl | (simp only [List.length_drop, List.length_take]; rfl)) ?_; (with_reducible refine (laws_toMail.calls kj17 a0_0 a0_1 a0_2 _ _ l0_3 t260 t261 t262 t263 _ ?side1 ?side2 A49.out).mono ?_); (case side1 => repeat (first | exact (Kd.C_below HR0_3.out (us_ HB.out)) | (with_reducible refine Kd.C_alloc ?_ _) | (with_reducible refine Kd.C_drewN ?_ _) | (with_reducible refine Kd.C_drew ?_))); (case side2 => exact HC0_3.out); rintro e w80 ⟨v264, rfl, ho0, hb⟩; refine ⟨_, rfl, ?_⟩; have n0_ := mk_ (Kd.R_elder' (Kd.ur_ HO_6.out) (Kd.R_base ho0) hb); have n1_ := mk_ (Kd.R_elder' (Kd.ur_ HO_8.out) (Kd.R_base ho0) hb); have n2_ := mk_ (Kd.R_elder' (Kd.ur_ HO_243003.out) (Kd.R_base ho0) hb); have n3_ := mk_ (Kd.R_lower (Kd.R_new' (Kd.R_new' (Kd.R_new' ho0 (Kd.R_lt (Kd.ur_ HO_6.out))) (Kd.R_lt (Kd.ur_ HO_8.out))) (Kd.R_lt (Kd.ur_ HO_243003.out))) (below_size (us_ HB.out))); have n4_ := mk_ (blk_below (u_ BK225.out) hb); have n5_ := mk_ (blk_below (u_ BK242.out) hb); have n6_ := mk_ (below_step (us_ HB.out) hb); clear HO_6; clear HO_8; clear HO_243003; clear BK225; clear BK242; clear HB; have HO_6 := n0_; have HO_8 := n1_; have HO_243003 := n2_; have HO265 := n3_; have BK225 := n4_; have BK242 := n5_; have HB := n6_; clear n0_ n1_ n2_ n3_ n4_ n5_ n6_; (try clear hb); (try clear hb2); (try clear hk); (try clear hi); (try clear ho0); obtain ⟨Ao81, co81, eo81⟩ := Kd.R_slice HO265.out; subst eo81) | ((with_reducible refine gate_callee (f := 12) rfl ?_); refine goesL_ (some 61) rfl rfl Try.func12 (by kernel_rfl) rfl #[.agg #[.int .i64 t260, .int .i64 t261, .int .i64 t262, .slice Ao81 t263.length co81], .int .i64 a1] rfl (by (try simp only [lm_, lo_, ln_]); first | done | rfl | (simp only [List.length_drop, List.length_take]; rfl)) ?_; (with_reducible refine (impl_MailBytes.calls kj17 t260 t261 t262 _ _ t263 a1 t266 _ ?side1 ?side2 A50.out).mono ?_); (case side1 => repeat (first | exact (Kd.R_reads' HO265.out).2.2 | (with_reducible refine Kd.C_alloc ?_ _) | (with_reducible refine Kd.C_drewN ?_ _) | (with_reducible refine Kd.C_drew ?_))); (case side2 => exact (Kd.R_reads' HO265.out).2.1); rintro e w82 ⟨v267, rfl, ho0, hb⟩; refine ⟨_, rfl, ?_⟩; have n0_ := mk_ (Kd.R_elder' (Kd.ur_ HO_6.out) (Kd.R_base ho0) hb); have n1_ := mk_ (Kd.R_elder' (Kd.ur_ HO_8.out) (Kd.R_base ho0) hb); have n2_ := mk_ (Kd.R_elder' (Kd.ur_ HO_243003.out) (Kd.R_base ho0) hb); have n3_ := mk_ (Kd.R_elder' (Kd.ur_ HO265.out) (Kd.R_base ho0) hb); have n4_ := mk_ (Kd.R_lower (Kd.R_new' (Kd.R_new' (Kd.R_new' (Kd.R_new' ho0 (Kd.R_lt (Kd.ur_ HO_6.out))) (Kd.R_lt (Kd.ur_ HO_8.out))) (Kd.R_lt (Kd.ur_ HO_243003.out))) (Kd.R_lt (Kd.ur_ HO265.out))) (below_size (us_ HB.out))); have n5_ := mk_ (blk_below (u_ BK225.out) hb); have n6_ := mk_ (blk_below (u_ BK242.out) hb); have n7_ := mk_ (below_step (us_ HB.out) hb); clear HO_6; clear HO_8; clear HO_243003; clear HO265; clear BK225; clear BK242; clear HB; have HO_6 := n0_; have HO_8 := n1_; have HO_243003 := n2_; have HO265 := n3_; have HO268 := n4_; have BK225 := n5_; have BK242 := n6_; have HB := n7_; clear n0_ n1_ n2_ n3_ n4_ n5_ n6_ n7_; (try clear hb); (try clear hb2); (try clear hk); (try clear hi); (try clear ho0); obtain ⟨Ao83, co83, eo83⟩ := Kd.R_slice HO268.out; subst eo83) | ((with_reducible refine gate_callee (f := 13) rfl ?_); refine goesL_ (some 64) rfl rfl Try.func13 (by kernel_rfl) rfl #[.slice Ao83 t266.length co83, .slice Ao34 t233.length co34] rfl (by (try simp only [lm_, lo_, ln_]); first | done | rfl | (simp only [List.length_drop, List.length_take]; rfl)) ?_; (with_reducible refine (laws_eqByteS.calls kj17 _ _ t266 _ _ t233 false _ ?side1 ?side2 ?side3 ?side4 A51.out).mono ?_); (case side1 => repeat (first | exact (Kd.R_reads' HO268.out).2.2 | (with_reducible refine Kd.C_alloc ?_ _) | (with_reducible refine Kd.C_drewN ?_ _) | (with_reducible refine Kd.C_drew ?_))); (case side2 => exact (Kd.R_reads' HO268.out).2.1); (case side3 => repeat (first | exact (Kd.R_reads' HO_6.out).2.2 | (with_reducible refine Kd.C_alloc ?_ _) | (with_reducible refine Kd.C_drewN ?_ _) | (with_reducible refine Kd.C_drew ?_))); (case side4 => exact (Kd.R_reads' HO_6.out).2.1); rintro e w' ⟨rfl, ⟨nd, rfl⟩⟩; refine ⟨_, rfl, ?_⟩))
    go_ret
    exact ⟨by first | rfl | (simp [errW_none, errW_some] <;> rfl) | (simp [*, errW_none, errW_some] <;> rfl), us_ HB.out⟩
   subst c52
   have H1 : ((laws_heldByteS.f kj17 t258 1).bind fun t270 => (if t270 < 0 then (some false) else (if t270 = t257 then (some true) else (some false)))) = some r := by rw [if_pos rfl] at H; exact H
   clear H
   have H := H1
   clear H1
   replace H := Option.bind_eq_some_iff.mp H
   obtain ⟨t270, A530, H⟩ := H
   replace H : (if t270 < 0 then (some false) else (if t270 = t257 then (some true) else (some false))) = some r := H
   have A53 := mk_ A530
   clear A530
   by_cases c54 : t270 < 0
   ·rw [if_pos c54] at H
    have c54b0 : decide (t270 < 0) = true := decide_eq_true c54
    clear c54
    obtain rfl := Option.some.inj H
    go_wp2_with (first | ((with_reducible refine gate_callee (f := 16) rfl ?_); refine goesL_ (some 49) rfl rfl Try.func16 (by kernel_rfl) rfl #[.slice Ao33 t243.length co33, .int .i64 1] rfl (by (try simp only [lm_, lo_, ln_]); first | done | rfl | (simp only [List.length_drop, List.length_take]; rfl)) ?_; (with_reducible refine (laws_markByteS.calls kj17 (fun k_ => some k_ = (.slice Ao33 t243.length co33 : Value).ownBlock) (.slice Ao33 t243.length co33) t243 1 t257 t258 w _ ?side1 ?side2 A44.out).mono ?_); (case side1 => repeat (first | (with_reducible first | exact HB.out | apply na_ | apply nn_ | apply nw_ | refine bs_ ?_ GE225.out | refine bs_ ?_ GE242.out) | exact HB.out)); (case side2 => exact Kd.R_tight rfl HO_8.out); rintro e w55 ⟨rfl, hy0, hb, hkp⟩; refine ⟨_, rfl, ?_⟩; have n0_ := mk_ (Kd.R_mono (ok' := fun k_ => some k_ ≠ (.slice Ao33 t243.length co33 : Value).ownBlock ∧ some k_ ≠ (.slice Ao31 t255.length co31 : Value).ownBlock) (Kd.R_keptB (HO_6.out) hkp (fun k_ hk_ hs_ => (hk_.1) hs_)) (fun k_ hk_ => by first | exact ⟨hk_.1.1, hk_.1.2⟩ | simp only [hk_, ne_eq, not_false_eq_true, and_self])); have n1_ := mk_ (Kd.R_reok rfl hy0 (fun k_ e_ => HO_8.out.1 k_ e_)); have n2_ := mk_ (Kd.R_mono (ok' := fun k_ => some k_ ≠ (.slice Ao34 t233.length co34 : Value).ownBlock ∧ some k_ ≠ (.slice Ao33 t243.length co33 : Value).ownBlock) (Kd.R_keptB (HO_243003.out) hkp (fun k_ hk_ hs_ => (hk_.2) hs_)) (fun k_ hk_ => by first | exact ⟨hk_.1.1, hk_.1.2⟩ | simp only [hk_, ne_eq, not_false_eq_true, and_self])); have n3_ := mk_ (blk_kept (u_ BK225.out) hkp (fun hs_ => (fun e_ => (Kd.R_ne HO_8.out BK225.out (by decide)) e_) hs_)); have n4_ := mk_ (blk_kept (u_ BK242.out) hkp (fun hs_ => (fun e_ => (Kd.R_ne HO_8.out BK242.out (by decide)) e_) hs_)); have n5_ := mk_ (hb); clear HO_6; clear HO_8; clear HO_243003; clear BK225; clear BK242; clear HB; have HO_6 := n0_; have HO_8 := n1_; have HO_243003 := n2_; have BK225 := n3_; have BK242 := n4_; have HB := n5_; clear n0_ n1_ n2_ n3_ n4_ n5_; (try clear hb); (try clear hkp); (try clear hy0)) | ((with_reducible refine gate_callee (f := 17) rfl ?_); have hA_ := A45.out; refine goesL_ (some 52) rfl rfl Try.func17 (by kernel_rfl) rfl #[.slice Ao33 t258.length co33, .int .i64 1] rfl (by (try simp only [List.map_toArray, List.map_cons, List.map_nil]); first | done | (rw [show t258.length = t243.length from (Kd.R_reads' HO_8.out).1.symm] <;> rfl) | rfl | (simp only [List.length_drop, List.length_take]; rfl)) ?_; (with_reducible refine (laws_heldByteS.calls kj17 _ _ t258 1 t259 _ ?side1 ?side2 A45.out).mono ?_); (case side1 => repeat (first | exact (Kd.R_reads' HO_8.out).2.2 | (with_reducible refine Kd.C_alloc ?_ _) | (with_reducible refine Kd.C_drewN ?_ _) | (with_reducible refine Kd.C_drew ?_))); (case side2 => rw [show t258.length = t243.length from (Kd.R_reads' HO_8.out).1.symm]; exact (Kd.R_reads' HO_8.out).2.1); rintro e w' ⟨rfl, ⟨nd, rfl⟩⟩; refine ⟨_, rfl, ?_⟩; have hnb56 := NB225_242.out; have hnc56 := NB242_225.out; obtain ⟨hcz57_0, hcz57_1, hcz57_2, hcz57_3, hfz57_0, hfz57_1, hfz57_2, hfz57_3⟩ := cells4_ BK225.out; clear hA_ A45) | ((with_reducible refine gate_callee (f := 11) rfl ?_); refine goesL_ (some 59) rfl rfl Try.func11 (by kernel_rfl) rfl #[.agg #[.int .i64 a0_0, .int .i64 a0_1, .int .i64 a0_2, .slice A0_3 l0_3.length c0_3]] rfl (by (try simp only [lm_, lo_, ln_]); first | done | rfl | (simp only [List.length_drop, List.length_take]; rfl)) ?_; (with_reducible refine (laws_toMail.calls kj17 a0_0 a0_1 a0_2 _ _ l0_3 t260 t261 t262 t263 _ ?side1 ?side2 A49.out).mono ?_); (case side1 => repeat (first | exact (Kd.C_below HR0_3.out (us_ HB.out)) | (with_reducible refine Kd.C_alloc ?_ _) | (with_reducible refine Kd.C_drewN ?_ _) | (with_reducible refine Kd.C_drew ?_))); (case side2 => exact HC0_3.out); rintro e w58 ⟨v264, rfl, ho0, hb⟩; refine ⟨_, rfl, ?_⟩; have n0_ := mk_ (Kd.R_elder' (Kd.ur_ HO_6.out) (Kd.R_base ho0) hb); have n1_ := mk_ (Kd.R_elder' (Kd.ur_ HO_8.out) (Kd.R_base ho0) hb); have n2_ := mk_ (Kd.R_elder' (Kd.ur_ HO_243003.out) (Kd.R_base ho0) hb); have n3_ := mk_ (Kd.R_lower (Kd.R_new' (Kd.R_new' (Kd.R_new' ho0 (Kd.R_lt (Kd.ur_ HO_6.out))) (Kd.R_lt (Kd.ur_ HO_8.out))) (Kd.R_lt (Kd.ur_ HO_243003.out))) (below_size (us_ HB.out))); have n4_ := mk_ (blk_below (u_ BK225.out) hb); have n5_ := mk_ (blk_below (u_ BK242.out) hb); have n6_ := mk_ (below_step (us_ HB.out) hb); clear HO_6; clear HO_8; clear HO_243003; clear BK225; clear BK242; clear HB; have HO_6 := n0_; have HO_8 := n1_; have HO_243003 := n2_; have HO265 := n3_; have BK225 := n4_; have BK242 := n5_; have HB := n6_; clear n0_ n1_ n2_ n3_ n4_ n5_ n6_; (try clear hb); (try clear hb2); (try clear hk); (try clear hi); (try clear ho0); obtain ⟨Ao59, co59, eo59⟩ := Kd.R_slice HO265.out; subst eo59) | ((with_reducible refine gate_callee (f := 12) rfl ?_); refine goesL_ (some 61) rfl rfl Try.func12 (by kernel_rfl) rfl #[.agg #[.int .i64 t260, .int .i64 t261, .int .i64 t262, .slice Ao59 t263.length co59], .int .i64 a1] rfl (by (try simp only [lm_, lo_, ln_]); first | done | rfl | (simp only [List.length_drop, List.length_take]; rfl)) ?_; (with_reducible refine (impl_MailBytes.calls kj17 t260 t261 t262 _ _ t263 a1 t266 _ ?side1 ?side2 A50.out).mono ?_); (case side1 => repeat (first | exact (Kd.R_reads' HO265.out).2.2 | (with_reducible refine Kd.C_alloc ?_ _) | (with_reducible refine Kd.C_drewN ?_ _) | (with_reducible refine Kd.C_drew ?_))); (case side2 => exact (Kd.R_reads' HO265.out).2.1); rintro e w60 ⟨v267, rfl, ho0, hb⟩; refine ⟨_, rfl, ?_⟩; have n0_ := mk_ (Kd.R_elder' (Kd.ur_ HO_6.out) (Kd.R_base ho0) hb); have n1_ := mk_ (Kd.R_elder' (Kd.ur_ HO_8.out) (Kd.R_base ho0) hb); have n2_ := mk_ (Kd.R_elder' (Kd.ur_ HO_243003.out) (Kd.R_base ho0) hb); have n3_ := mk_ (Kd.R_elder' (Kd.ur_ HO265.out) (Kd.R_base ho0) hb); have n4_ := mk_ (Kd.R_lower (Kd.R_new' (Kd.R_new' (Kd.R_new' (Kd.R_new' ho0 (Kd.R_lt (Kd.ur_ HO_6.out))) (Kd.R_lt (Kd.ur_ HO_8.out))) (Kd.R_lt (Kd.ur_ HO_243003.out))) (Kd.R_lt (Kd.ur_ HO265.out))) (below_size (us_ HB.out))); have n5_ := mk_ (blk_below (u_ BK225.out) hb); have n6_ := mk_ (blk_below (u_ BK242.out) hb); have n7_ := mk_ (below_step (us_ HB.out) hb); clear HO_6; clear HO_8; clear HO_243003; clear HO265; clear BK225; clear BK242; clear HB; have HO_6 := n0_; have HO_8 := n1_; have HO_243003 := n2_; have HO265 := n3_; have HO268 := n4_; have BK225 := n5_; have BK242 := n6_; have HB := n7_; clear n0_ n1_ n2_ n3_ n4_ n5_ n6_ n7_; (try clear hb); (try clear hb2); (try clear hk); (try clear hi); (try clear ho0); obtain ⟨Ao61, co61, eo61⟩ := Kd.R_slice HO268.out; subst eo61) | ((with_reducible refine gate_callee (f := 13) rfl ?_); refine goesL_ (some 64) rfl rfl Try.func13 (by kernel_rfl) rfl #[.slice Ao61 t266.length co61, .slice Ao34 t233.length co34] rfl (by (try simp only [lm_, lo_, ln_]); first | done | rfl | (simp only [List.length_drop, List.length_take]; rfl)) ?_; (with_reducible refine (laws_eqByteS.calls kj17 _ _ t266 _ _ t233 true _ ?side1 ?side2 ?side3 ?side4 A51.out).mono ?_); (case side1 => repeat (first | exact (Kd.R_reads' HO268.out).2.2 | (with_reducible refine Kd.C_alloc ?_ _) | (with_reducible refine Kd.C_drewN ?_ _) | (with_reducible refine Kd.C_drew ?_))); (case side2 => exact (Kd.R_reads' HO268.out).2.1); (case side3 => repeat (first | exact (Kd.R_reads' HO_6.out).2.2 | (with_reducible refine Kd.C_alloc ?_ _) | (with_reducible refine Kd.C_drewN ?_ _) | (with_reducible refine Kd.C_drew ?_))); (case side4 => exact (Kd.R_reads' HO_6.out).2.1); rintro e w' ⟨rfl, ⟨nd, rfl⟩⟩; refine ⟨_, rfl, ?_⟩) | ((with_reducible refine gate_callee (f := 17) rfl ?_); have hA_ := A53.out; refine goesL_ (some 68) rfl rfl Try.func17 (by kernel_rfl) rfl #[.slice Ao33 t258.length co33, .int .i64 1] rfl (by (try simp only [List.map_toArray, List.map_cons, List.map_nil]); first | done | (rw [show t258.length = t243.length from (Kd.R_reads' HO_8.out).1.symm] <;> rfl) | rfl | (simp only [List.length_drop, List.length_take]; rfl)) ?_; (with_reducible refine (laws_heldByteS.calls kj17 _ _ t258 1 t270 _ ?side1 ?side2 A53.out).mono ?_); (case side1 => repeat (first | exact (Kd.R_reads' HO_8.out).2.2 | (with_reducible refine Kd.C_alloc ?_ _) | (with_reducible refine Kd.C_drewN ?_ _) | (with_reducible refine Kd.C_drew ?_))); (case side2 => rw [show t258.length = t243.length from (Kd.R_reads' HO_8.out).1.symm]; exact (Kd.R_reads' HO_8.out).2.1); rintro e w' ⟨rfl, ⟨nd, rfl⟩⟩; refine ⟨_, rfl, ?_⟩; clear hA_ A53))
    go_ret
    exact ⟨by first | rfl | (simp [errW_none, errW_some] <;> rfl) | (simp [*, errW_none, errW_some] <;> rfl), us_ HB.out⟩
   rw [if_neg c54] at H
   have c54b0 : decide (t270 < 0) = false := decide_eq_false c54
   clear c54
   by_cases c62 : t270 = t257
   rotate_left
   ·rw [if_neg c62] at H
    have c62b0 : (t270 == t257) = false := beq_eq_false_iff_ne.mpr c62
    have c62b1 : (t270 != t257) = true := bne_iff_ne.mpr c62
    obtain rfl := Option.some.inj H
    go_wp2_with (first | ((with_reducible refine gate_callee (f := 16) rfl ?_); refine goesL_ (some 49) rfl rfl Try.func16 (by kernel_rfl) rfl #[.slice Ao33 t243.length co33, .int .i64 1] rfl (by (try simp only [lm_, lo_, ln_]); first | done | rfl | (simp only [List.length_drop, List.length_take]; rfl)) ?_; (with_reducible refine (laws_markByteS.calls kj17 (fun k_ => some k_ = (.slice Ao33 t243.length co33 : Value).ownBlock) (.slice Ao33 t243.length co33) t243 1 t257 t258 w _ ?side1 ?side2 A44.out).mono ?_); (case side1 => repeat (first | (with_reducible first | exact HB.out | apply na_ | apply nn_ | apply nw_ | refine bs_ ?_ GE225.out | refine bs_ ?_ GE242.out) | exact HB.out)); (case side2 => exact Kd.R_tight rfl HO_8.out); rintro e w70 ⟨rfl, hy0, hb, hkp⟩; refine ⟨_, rfl, ?_⟩; have n0_ := mk_ (Kd.R_mono (ok' := fun k_ => some k_ ≠ (.slice Ao33 t243.length co33 : Value).ownBlock ∧ some k_ ≠ (.slice Ao31 t255.length co31 : Value).ownBlock) (Kd.R_keptB (HO_6.out) hkp (fun k_ hk_ hs_ => (hk_.1) hs_)) (fun k_ hk_ => by first | exact ⟨hk_.1.1, hk_.1.2⟩ | simp only [hk_, ne_eq, not_false_eq_true, and_self])); have n1_ := mk_ (Kd.R_reok rfl hy0 (fun k_ e_ => HO_8.out.1 k_ e_)); have n2_ := mk_ (Kd.R_mono (ok' := fun k_ => some k_ ≠ (.slice Ao34 t233.length co34 : Value).ownBlock ∧ some k_ ≠ (.slice Ao33 t243.length co33 : Value).ownBlock) (Kd.R_keptB (HO_243003.out) hkp (fun k_ hk_ hs_ => (hk_.2) hs_)) (fun k_ hk_ => by first | exact ⟨hk_.1.1, hk_.1.2⟩ | simp only [hk_, ne_eq, not_false_eq_true, and_self])); have n3_ := mk_ (blk_kept (u_ BK225.out) hkp (fun hs_ => (fun e_ => (Kd.R_ne HO_8.out BK225.out (by decide)) e_) hs_)); have n4_ := mk_ (blk_kept (u_ BK242.out) hkp (fun hs_ => (fun e_ => (Kd.R_ne HO_8.out BK242.out (by decide)) e_) hs_)); have n5_ := mk_ (hb); clear HO_6; clear HO_8; clear HO_243003; clear BK225; clear BK242; clear HB; have HO_6 := n0_; have HO_8 := n1_; have HO_243003 := n2_; have BK225 := n3_; have BK242 := n4_; have HB := n5_; clear n0_ n1_ n2_ n3_ n4_ n5_; (try clear hb); (try clear hkp); (try clear hy0)) | ((with_reducible refine gate_callee (f := 17) rfl ?_); have hA_ := A45.out; refine goesL_ (some 52) rfl rfl Try.func17 (by kernel_rfl) rfl #[.slice Ao33 t258.length co33, .int .i64 1] rfl (by (try simp only [List.map_toArray, List.map_cons, List.map_nil]); first | done | (rw [show t258.length = t243.length from (Kd.R_reads' HO_8.out).1.symm] <;> rfl) | rfl | (simp only [List.length_drop, List.length_take]; rfl)) ?_; (with_reducible refine (laws_heldByteS.calls kj17 _ _ t258 1 t259 _ ?side1 ?side2 A45.out).mono ?_); (case side1 => repeat (first | exact (Kd.R_reads' HO_8.out).2.2 | (with_reducible refine Kd.C_alloc ?_ _) | (with_reducible refine Kd.C_drewN ?_ _) | (with_reducible refine Kd.C_drew ?_))); (case side2 => rw [show t258.length = t243.length from (Kd.R_reads' HO_8.out).1.symm]; exact (Kd.R_reads' HO_8.out).2.1); rintro e w' ⟨rfl, ⟨nd, rfl⟩⟩; refine ⟨_, rfl, ?_⟩; have hnb71 := NB225_242.out; have hnc71 := NB242_225.out; obtain ⟨hcz72_0, hcz72_1, hcz72_2, hcz72_3, hfz72_0, hfz72_1, hfz72_2, hfz72_3⟩ := cells4_ BK225.out; clear hA_ A45) | ((with_reducible refine gate_callee (f := 11) rfl ?_); refine goesL_ (some 59) rfl rfl Try.func11 (by kernel_rfl) rfl #[.agg #[.int .i64 a0_0, .int .i64 a0_1, .int .i64 a0_2, .slice A0_3 l0_3.length c0_3]] rfl (by (try simp only [lm_, lo_, ln_]); first | done | rfl | (simp only [List.length_drop, List.length_take]; rfl)) ?_; (with_reducible refine (laws_toMail.calls kj17 a0_0 a0_1 a0_2 _ _ l0_3 t260 t261 t262 t263 _ ?side1 ?side2 A49.out).mono ?_); (case side1 => repeat (first | exact (Kd.C_below HR0_3.out (us_ HB.out)) | (with_reducible refine Kd.C_alloc ?_ _) | (with_reducible refine Kd.C_drewN ?_ _) | (with_reducible refine Kd.C_drew ?_))); (case side2 => exact HC0_3.out); rintro e w73 ⟨v264, rfl, ho0, hb⟩; refine ⟨_, rfl, ?_⟩; have n0_ := mk_ (Kd.R_elder' (Kd.ur_ HO_6.out) (Kd.R_base ho0) hb); have n1_ := mk_ (Kd.R_elder' (Kd.ur_ HO_8.out) (Kd.R_base ho0) hb); have n2_ := mk_ (Kd.R_elder' (Kd.ur_ HO_243003.out) (Kd.R_base ho0) hb); have n3_ := mk_ (Kd.R_lower (Kd.R_new' (Kd.R_new' (Kd.R_new' ho0 (Kd.R_lt (Kd.ur_ HO_6.out))) (Kd.R_lt (Kd.ur_ HO_8.out))) (Kd.R_lt (Kd.ur_ HO_243003.out))) (below_size (us_ HB.out))); have n4_ := mk_ (blk_below (u_ BK225.out) hb); have n5_ := mk_ (blk_below (u_ BK242.out) hb); have n6_ := mk_ (below_step (us_ HB.out) hb); clear HO_6; clear HO_8; clear HO_243003; clear BK225; clear BK242; clear HB; have HO_6 := n0_; have HO_8 := n1_; have HO_243003 := n2_; have HO265 := n3_; have BK225 := n4_; have BK242 := n5_; have HB := n6_; clear n0_ n1_ n2_ n3_ n4_ n5_ n6_; (try clear hb); (try clear hb2); (try clear hk); (try clear hi); (try clear ho0); obtain ⟨Ao74, co74, eo74⟩ := Kd.R_slice HO265.out; subst eo74) | ((with_reducible refine gate_callee (f := 12) rfl ?_); refine goesL_ (some 61) rfl rfl Try.func12 (by kernel_rfl) rfl #[.agg #[.int .i64 t260, .int .i64 t261, .int .i64 t262, .slice Ao74 t263.length co74], .int .i64 a1] rfl (by (try simp only [lm_, lo_, ln_]); first | done | rfl | (simp only [List.length_drop, List.length_take]; rfl)) ?_; (with_reducible refine (impl_MailBytes.calls kj17 t260 t261 t262 _ _ t263 a1 t266 _ ?side1 ?side2 A50.out).mono ?_); (case side1 => repeat (first | exact (Kd.R_reads' HO265.out).2.2 | (with_reducible refine Kd.C_alloc ?_ _) | (with_reducible refine Kd.C_drewN ?_ _) | (with_reducible refine Kd.C_drew ?_))); (case side2 => exact (Kd.R_reads' HO265.out).2.1); rintro e w75 ⟨v267, rfl, ho0, hb⟩; refine ⟨_, rfl, ?_⟩; have n0_ := mk_ (Kd.R_elder' (Kd.ur_ HO_6.out) (Kd.R_base ho0) hb); have n1_ := mk_ (Kd.R_elder' (Kd.ur_ HO_8.out) (Kd.R_base ho0) hb); have n2_ := mk_ (Kd.R_elder' (Kd.ur_ HO_243003.out) (Kd.R_base ho0) hb); have n3_ := mk_ (Kd.R_elder' (Kd.ur_ HO265.out) (Kd.R_base ho0) hb); have n4_ := mk_ (Kd.R_lower (Kd.R_new' (Kd.R_new' (Kd.R_new' (Kd.R_new' ho0 (Kd.R_lt (Kd.ur_ HO_6.out))) (Kd.R_lt (Kd.ur_ HO_8.out))) (Kd.R_lt (Kd.ur_ HO_243003.out))) (Kd.R_lt (Kd.ur_ HO265.out))) (below_size (us_ HB.out))); have n5_ := mk_ (blk_below (u_ BK225.out) hb); have n6_ := mk_ (blk_below (u_ BK242.out) hb); have n7_ := mk_ (below_step (us_ HB.out) hb); clear HO_6; clear HO_8; clear HO_243003; clear HO265; clear BK225; clear BK242; clear HB; have HO_6 := n0_; have HO_8 := n1_; have HO_243003 := n2_; have HO265 := n3_; have HO268 := n4_; have BK225 := n5_; have BK242 := n6_; have HB := n7_; clear n0_ n1_ n2_ n3_ n4_ n5_ n6_ n7_; (try clear hb); (try clear hb2); (try clear hk); (try clear hi); (try clear ho0); obtain ⟨Ao76, co76, eo76⟩ := Kd.R_slice HO268.out; subst eo76) | ((with_reducible refine gate_callee (f := 13) rfl ?_); refine goesL_ (some 64) rfl rfl Try.func13 (by kernel_rfl) rfl #[.slice Ao76 t266.length co76, .slice Ao34 t233.length co34] rfl (by (try simp only [lm_, lo_, ln_]); first | done | rfl | (simp only [List.length_drop, List.length_take]; rfl)) ?_; (with_reducible refine (laws_eqByteS.calls kj17 _ _ t266 _ _ t233 true _ ?side1 ?side2 ?side3 ?side4 A51.out).mono ?_); (case side1 => repeat (first | exact (Kd.R_reads' HO268.out).2.2 | (with_reducible refine Kd.C_alloc ?_ _) | (with_reducible refine Kd.C_drewN ?_ _) | (with_reducible refine Kd.C_drew ?_))); (case side2 => exact (Kd.R_reads' HO268.out).2.1); (case side3 => repeat (first | exact (Kd.R_reads' HO_6.out).2.2 | (with_reducible refine Kd.C_alloc ?_ _) | (with_reducible refine Kd.C_drewN ?_ _) | (with_reducible refine Kd.C_drew ?_))); (case side4 => exact (Kd.R_reads' HO_6.out).2.1); rintro e w' ⟨rfl, ⟨nd, rfl⟩⟩; refine ⟨_, rfl, ?_⟩) | ((with_reducible refine gate_callee (f := 17) rfl ?_); have hA_ := A53.out; refine goesL_ (some 68) rfl rfl Try.func17 (by kernel_rfl) rfl #[.slice Ao33 t258.length co33, .int .i64 1] rfl (by (try simp only [List.map_toArray, List.map_cons, List.map_nil]); first | done | (rw [show t258.length = t243.length from (Kd.R_reads' HO_8.out).1.symm] <;> rfl) | rfl | (simp only [List.length_drop, List.length_take]; rfl)) ?_; (with_reducible refine (laws_heldByteS.calls kj17 _ _ t258 1 t270 _ ?side1 ?side2 A53.out).mono ?_); (case side1 => repeat (first | exact (Kd.R_reads' HO_8.out).2.2 | (with_reducible refine Kd.C_alloc ?_ _) | (with_reducible refine Kd.C_drewN ?_ _) | (with_reducible refine Kd.C_drew ?_))); (case side2 => rw [show t258.length = t243.length from (Kd.R_reads' HO_8.out).1.symm]; exact (Kd.R_reads' HO_8.out).2.1); rintro e w' ⟨rfl, ⟨nd, rfl⟩⟩; refine ⟨_, rfl, ?_⟩; clear hA_ A53))
    go_ret
    exact ⟨by first | rfl | (simp [errW_none, errW_some] <;> rfl) | (simp [*, errW_none, errW_some] <;> rfl), us_ HB.out⟩
   rw [if_pos c62] at H
   have c62b0 : (t270 == t257) = true := beq_iff_eq.mpr c62
   have c62b1 : (t270 != t257) = false := bne_eq_false_iff_eq.mpr c62
   clear c62
   obtain rfl := Option.some.inj H
   go_wp2_with (first | ((with_reducible refine gate_callee (f := 16) rfl ?_); refine goesL_ (some 49) rfl rfl Try.func16 (by kernel_rfl) rfl #[.slice Ao33 t243.length co33, .int .i64 1] rfl (by (try simp only [lm_, lo_, ln_]); first | done | rfl | (simp only [List.length_drop, List.length_take]; rfl)) ?_; (with_reducible refine (laws_markByteS.calls kj17 (fun k_ => some k_ = (.slice Ao33 t243.length co33 : Value).ownBlock) (.slice Ao33 t243.length co33) t243 1 t257 t258 w _ ?side1 ?side2 A44.out).mono ?_); (case side1 => repeat (first | (with_reducible first | exact HB.out | apply na_ | apply nn_ | apply nw_ | refine bs_ ?_ GE225.out | refine bs_ ?_ GE242.out) | exact HB.out)); (case side2 => exact Kd.R_tight rfl HO_8.out); rintro e w63 ⟨rfl, hy0, hb, hkp⟩; refine ⟨_, rfl, ?_⟩; have n0_ := mk_ (Kd.R_mono (ok' := fun k_ => some k_ ≠ (.slice Ao33 t243.length co33 : Value).ownBlock ∧ some k_ ≠ (.slice Ao31 t255.length co31 : Value).ownBlock) (Kd.R_keptB (HO_6.out) hkp (fun k_ hk_ hs_ => (hk_.1) hs_)) (fun k_ hk_ => by first | exact ⟨hk_.1.1, hk_.1.2⟩ | simp only [hk_, ne_eq, not_false_eq_true, and_self])); have n1_ := mk_ (Kd.R_reok rfl hy0 (fun k_ e_ => HO_8.out.1 k_ e_)); have n2_ := mk_ (Kd.R_mono (ok' := fun k_ => some k_ ≠ (.slice Ao34 t233.length co34 : Value).ownBlock ∧ some k_ ≠ (.slice Ao33 t243.length co33 : Value).ownBlock) (Kd.R_keptB (HO_243003.out) hkp (fun k_ hk_ hs_ => (hk_.2) hs_)) (fun k_ hk_ => by first | exact ⟨hk_.1.1, hk_.1.2⟩ | simp only [hk_, ne_eq, not_false_eq_true, and_self])); have n3_ := mk_ (blk_kept (u_ BK225.out) hkp (fun hs_ => (fun e_ => (Kd.R_ne HO_8.out BK225.out (by decide)) e_) hs_)); have n4_ := mk_ (blk_kept (u_ BK242.out) hkp (fun hs_ => (fun e_ => (Kd.R_ne HO_8.out BK242.out (by decide)) e_) hs_)); have n5_ := mk_ (hb); clear HO_6; clear HO_8; clear HO_243003; clear BK225; clear BK242; clear HB; have HO_6 := n0_; have HO_8 := n1_; have HO_243003 := n2_; have BK225 := n3_; have BK242 := n4_; have HB := n5_; clear n0_ n1_ n2_ n3_ n4_ n5_; (try clear hb); (try clear hkp); (try clear hy0)) | ((with_reducible refine gate_callee (f := 17) rfl ?_); have hA_ := A45.out; refine goesL_ (some 52) rfl rfl Try.func17 (by kernel_rfl) rfl #[.slice Ao33 t258.length co33, .int .i64 1] rfl (by (try simp only [List.map_toArray, List.map_cons, List.map_nil]); first | done | (rw [show t258.length = t243.length from (Kd.R_reads' HO_8.out).1.symm] <;> rfl) | rfl | (simp only [List.length_drop, List.length_take]; rfl)) ?_; (with_reducible refine (laws_heldByteS.calls kj17 _ _ t258 1 t259 _ ?side1 ?side2 A45.out).mono ?_); (case side1 => repeat (first | exact (Kd.R_reads' HO_8.out).2.2 | (with_reducible refine Kd.C_alloc ?_ _) | (with_reducible refine Kd.C_drewN ?_ _) | (with_reducible refine Kd.C_drew ?_))); (case side2 => rw [show t258.length = t243.length from (Kd.R_reads' HO_8.out).1.symm]; exact (Kd.R_reads' HO_8.out).2.1); rintro e w' ⟨rfl, ⟨nd, rfl⟩⟩; refine ⟨_, rfl, ?_⟩; have hnb64 := NB225_242.out; have hnc64 := NB242_225.out; obtain ⟨hcz65_0, hcz65_1, hcz65_2, hcz65_3, hfz65_0, hfz65_1, hfz65_2, hfz65_3⟩ := cells4_ BK225.out; clear hA_ A45) | ((with_reducible refine gate_callee (f := 11) rfl ?_); refine goesL_ (some 59) rfl rfl Try.func11 (by kernel_rfl) rfl #[.agg #[.int .i64 a0_0, .int .i64 a0_1, .int .i64 a0_2, .slice A0_3 l0_3.length c0_3]] rfl (by (try simp only [lm_, lo_, ln_]); first | done | rfl | (simp only [List.length_drop, List.length_take]; rfl)) ?_; (with_reducible refine (laws_toMail.calls kj17 a0_0 a0_1 a0_2 _ _ l0_3 t260 t261 t262 t263 _ ?side1 ?side2 A49.out).mono ?_); (case side1 => repeat (first | exact (Kd.C_below HR0_3.out (us_ HB.out)) | (with_reducible refine Kd.C_alloc ?_ _) | (with_reducible refine Kd.C_drewN ?_ _) | (with_reducible refine Kd.C_drew ?_))); (case side2 => exact HC0_3.out); rintro e w66 ⟨v264, rfl, ho0, hb⟩; refine ⟨_, rfl, ?_⟩; have n0_ := mk_ (Kd.R_elder' (Kd.ur_ HO_6.out) (Kd.R_base ho0) hb); have n1_ := mk_ (Kd.R_elder' (Kd.ur_ HO_8.out) (Kd.R_base ho0) hb); have n2_ := mk_ (Kd.R_elder' (Kd.ur_ HO_243003.out) (Kd.R_base ho0) hb); have n3_ := mk_ (Kd.R_lower (Kd.R_new' (Kd.R_new' (Kd.R_new' ho0 (Kd.R_lt (Kd.ur_ HO_6.out))) (Kd.R_lt (Kd.ur_ HO_8.out))) (Kd.R_lt (Kd.ur_ HO_243003.out))) (below_size (us_ HB.out))); have n4_ := mk_ (blk_below (u_ BK225.out) hb); have n5_ := mk_ (blk_below (u_ BK242.out) hb); have n6_ := mk_ (below_step (us_ HB.out) hb); clear HO_6; clear HO_8; clear HO_243003; clear BK225; clear BK242; clear HB; have HO_6 := n0_; have HO_8 := n1_; have HO_243003 := n2_; have HO265 := n3_; have BK225 := n4_; have BK242 := n5_; have HB := n6_; clear n0_ n1_ n2_ n3_ n4_ n5_ n6_; (try clear hb); (try clear hb2); (try clear hk); (try clear hi); (try clear ho0); obtain ⟨Ao67, co67, eo67⟩ := Kd.R_slice HO265.out; subst eo67) | ((with_reducible refine gate_callee (f := 12) rfl ?_); refine goesL_ (some 61) rfl rfl Try.func12 (by kernel_rfl) rfl #[.agg #[.int .i64 t260, .int .i64 t261, .int .i64 t262, .slice Ao67 t263.length co67], .int .i64 a1] rfl (by (try simp only [lm_, lo_, ln_]); first | done | rfl | (simp only [List.length_drop, List.length_take]; rfl)) ?_; (with_reducible refine (impl_MailBytes.calls kj17 t260 t261 t262 _ _ t263 a1 t266 _ ?side1 ?side2 A50.out).mono ?_); (case side1 => repeat (first | exact (Kd.R_reads' HO265.out).2.2 | (with_reducible refine Kd.C_alloc ?_ _) | (with_reducible refine Kd.C_drewN ?_ _) | (with_reducible refine Kd.C_drew ?_))); (case side2 => exact (Kd.R_reads' HO265.out).2.1); rintro e w68 ⟨v267, rfl, ho0, hb⟩; refine ⟨_, rfl, ?_⟩; have n0_ := mk_ (Kd.R_elder' (Kd.ur_ HO_6.out) (Kd.R_base ho0) hb); have n1_ := mk_ (Kd.R_elder' (Kd.ur_ HO_8.out) (Kd.R_base ho0) hb); have n2_ := mk_ (Kd.R_elder' (Kd.ur_ HO_243003.out) (Kd.R_base ho0) hb); have n3_ := mk_ (Kd.R_elder' (Kd.ur_ HO265.out) (Kd.R_base ho0) hb); have n4_ := mk_ (Kd.R_lower (Kd.R_new' (Kd.R_new' (Kd.R_new' (Kd.R_new' ho0 (Kd.R_lt (Kd.ur_ HO_6.out))) (Kd.R_lt (Kd.ur_ HO_8.out))) (Kd.R_lt (Kd.ur_ HO_243003.out))) (Kd.R_lt (Kd.ur_ HO265.out))) (below_size (us_ HB.out))); have n5_ := mk_ (blk_below (u_ BK225.out) hb); have n6_ := mk_ (blk_below (u_ BK242.out) hb); have n7_ := mk_ (below_step (us_ HB.out) hb); clear HO_6; clear HO_8; clear HO_243003; clear HO265; clear BK225; clear BK242; clear HB; have HO_6 := n0_; have HO_8 := n1_; have HO_243003 := n2_; have HO265 := n3_; have HO268 := n4_; have BK225 := n5_; have BK242 := n6_; have HB := n7_; clear n0_ n1_ n2_ n3_ n4_ n5_ n6_ n7_; (try clear hb); (try clear hb2); (try clear hk); (try clear hi); (try clear ho0); obtain ⟨Ao69, co69, eo69⟩ := Kd.R_slice HO268.out; subst eo69) | ((with_reducible refine gate_callee (f := 13) rfl ?_); refine goesL_ (some 64) rfl rfl Try.func13 (by kernel_rfl) rfl #[.slice Ao69 t266.length co69, .slice Ao34 t233.length co34] rfl (by (try simp only [lm_, lo_, ln_]); first | done | rfl | (simp only [List.length_drop, List.length_take]; rfl)) ?_; (with_reducible refine (laws_eqByteS.calls kj17 _ _ t266 _ _ t233 true _ ?side1 ?side2 ?side3 ?side4 A51.out).mono ?_); (case side1 => repeat (first | exact (Kd.R_reads' HO268.out).2.2 | (with_reducible refine Kd.C_alloc ?_ _) | (with_reducible refine Kd.C_drewN ?_ _) | (with_reducible refine Kd.C_drew ?_))); (case side2 => exact (Kd.R_reads' HO268.out).2.1); (case side3 => repeat (first | exact (Kd.R_reads' HO_6.out).2.2 | (with_reducible refine Kd.C_alloc ?_ _) | (with_reducible refine Kd.C_drewN ?_ _) | (with_reducible refine Kd.C_drew ?_))); (case side4 => exact (Kd.R_reads' HO_6.out).2.1); rintro e w' ⟨rfl, ⟨nd, rfl⟩⟩; refine ⟨_, rfl, ?_⟩) | ((with_reducible refine gate_callee (f := 17) rfl ?_); have hA_ := A53.out; refine goesL_ (some 68) rfl rfl Try.func17 (by kernel_rfl) rfl #[.slice Ao33 t258.length co33, .int .i64 1] rfl (by (try simp only [List.map_toArray, List.map_cons, List.map_nil]); first | done | (rw [show t258.length = t243.length from (Kd.R_reads' HO_8.out).1.symm] <;> rfl) | rfl | (simp only [List.length_drop, List.length_take]; rfl)) ?_; (with_reducible refine (laws_heldByteS.calls kj17 _ _ t258 1 t270 _ ?side1 ?side2 A53.out).mono ?_); (case side1 => repeat (first | exact (Kd.R_reads' HO_8.out).2.2 | (with_reducible refine Kd.C_alloc ?_ _) | (with_reducible refine Kd.C_drewN ?_ _) | (with_reducible refine Kd.C_drew ?_))); (case side2 => rw [show t258.length = t243.length from (Kd.R_reads' HO_8.out).1.symm]; exact (Kd.R_reads' HO_8.out).2.1); rintro e w' ⟨rfl, ⟨nd, rfl⟩⟩; refine ⟨_, rfl, ?_⟩; clear hA_ A53))
   go_ret
   exact ⟨by first | rfl | (simp [errW_none, errW_some] <;> rfl) | (simp [*, errW_none, errW_some] <;> rfl), us_ HB.out⟩

end Go.Proofs.Ytfcocnhkimbpbaa.MFnExactMailBytes
