/- Functions that the law FnStationOk reaches, each with the proof that the machine's call comes to just its answer; no conditions but those that each theorem states. Printed by a program of this session over the kit's print. -/
import Derived.Test.YtfcocnhkimbpbaaMFnStationOkx0
import Derived.Test.YtfcocnhkimbpbaaMFnStationOkx1
import Derived.Test.YtfcocnhkimbpbaaMFnStationOkx2
import Derived.Test.YtfcocnhkimbpbaaMFnStationOkx5
import Derived.Test.YtfcocnhkimbpbaaMFnStationOkx6
namespace Go.Proofs.Ytfcocnhkimbpbaa.MFnStationOk
open Go.RowKit Go.Proofs.YtfcocnhkimbpbaaV.PrintWords Go.Proofs.YtfcocnhkimbpbaaV.PrintLast Go.Proofs.YtfcocnhkimbpbaaV.PrintMore
attribute [local go_sem] max2_int min2_int max_two min_two max_three min_three max_four min_four   -- for this text's walks alone
set_option linter.unusedVariables false
set_option linter.unusedSimpArgs false

/-! ### impl_StationOk: function 28 -/
def impl_StationOk.f (k : Nat) (a0_0 : Int) (l0_1 : List (S88)) : Option (Bool) := (impl_word.f a0_0).bind fun t274 => (if t274 = true then ((impl_RoutesOk.f k l0_1).bind fun t275 => (some t275)) else (some false))
theorem impl_StationOk.mono : ∀ a0 a1 k, LeO (impl_StationOk.f k a0 a1) (impl_StationOk.f (k + 1) a0 a1) := by
 intro a0 a1 k
 unfold impl_StationOk.f
 repeat' first
   | (with_reducible exact impl_RoutesOk.mono _ _)
   | (with_reducible exact LeO.refl _)
   | (with_reducible exact LeO.none _)
   | (with_reducible refine LeO.ite ?_ ?_)
   | (with_reducible refine LeO.bind ?_ (fun _ => ?_))
   | exact impl_RoutesOk.mono _ _
   | exact LeO.none _
   | refine LeO.ite ?_ ?_
   | refine LeO.bind ?_ (fun _ => ?_)
set_option maxHeartbeats 8000000 in
set_option maxRecDepth 100000 in
theorem impl_StationOk.calls (k : Nat) (a0_0 : Int) (A0_1 : Option Addr) (c0_1 : Nat) (l0_1 : List (S88)) (r : Bool) (w : World) (hr0_1 : Kd.C k88 w A0_1 l0_1.length l0_1) (hc0_1 : l0_1.length ≤ c0_1) (h : impl_StationOk.f k a0_0 l0_1 = some r) :
  Calls Try.prog 28 #[.agg #[.int .i64 a0_0, .slice A0_1 l0_1.length c0_1]] w fun e w' => e = .returned (.bool r) ∧ Below w.heap.size w w' := by
 have hu46 := Try.underlying46
 have HR0_1 := mk_ hr0_1
 have HC0_1 := mk_ hc0_1
 clear hr0_1 hc0_1
 have HB := mk_ (Below.refl w.heap.size w)
 have H : ((impl_word.f a0_0).bind fun t274 => (if t274 = true then ((impl_RoutesOk.f k l0_1).bind fun t275 => (some t275)) else (some false))) = some r := h
 clear h
 replace H := Option.bind_eq_some_iff.mp H
 obtain ⟨t274, A20, H⟩ := H
 replace H : (if t274 = true then ((impl_RoutesOk.f k l0_1).bind fun t275 => (some t275)) else (some false)) = some r := H
 have A2 := mk_ A20
 clear A20
 by_cases c3 : t274 = true
 rotate_left
 ·replace c3 := Bool.eq_false_iff.mpr c3
  subst c3
  have H1 : (some false) = some r := by rw [if_neg (show ¬ (false = true) by decide)] at H; exact H
  clear H
  have H := H1
  clear H1
  obtain rfl := Option.some.inj H
  go_enter Try.func28, Try.ntmps28
  go_wp2_with (first | ((with_reducible refine gate_dst (N := 1) rfl ?_); refine box_event ?hg (N := 1) ?hd (cs := #[.int .i64 a0_0, .slice A0_1 l0_1.length c0_1]) (t := 46) ?hr ?_; (case hd => rfl); (case hg => rfl); (case hr => first | (go_simp; done) | (go_simp; rfl)); intro gb273 hg w8 hbox hb; have n0_ := mk_ (below_step (ub_ HB.out) hb); have n1_ := mk_ (hbox); have n2_ := mk_ ((by rw [hg]; exact (below_size (ub_ HB.out)) : w.heap.size ≤ gb273)); have n3_ := mk_ ((by rw [hg]; exact (below_size (ub_ HB.out)) : w.heap.size ≤ gb273)); clear HB; have HB := n0_; have BK273 := n1_; have GW273 := n2_; have GE273 := ge_ n3_.out; clear n0_ n1_ n2_ n3_; clear hb hbox hg; obtain ⟨hcz9_0, hcz9_1, hfz9_0, hfz9_1⟩ := cells2_ BK273.out) | ((with_reducible refine gate_callee (f := 39) rfl ?_); refine goesL_ (some 5) rfl rfl Try.func39 (by kernel_rfl) rfl #[.int .i64 a0_0] rfl (by (try simp only [lm_, lo_, ln_]); first | done | rfl | (simp only [List.length_drop, List.length_take]; rfl)) ?_; (with_reducible refine (impl_word.calls a0_0 false _ A2.out).mono ?_); rintro e w' ⟨rfl, ⟨nd, rfl⟩⟩; refine ⟨_, rfl, ?_⟩))
  go_ret
  exact ⟨by first | rfl | (simp [errW_none, errW_some] <;> rfl) | (simp [*, errW_none, errW_some] <;> rfl), us_ HB.out⟩
 subst c3
 have H1 : ((impl_RoutesOk.f k l0_1).bind fun t275 => (some t275)) = some r := by rw [if_pos rfl] at H; exact H
 clear H
 have H := H1
 clear H1
 replace H := Option.bind_eq_some_iff.mp H
 obtain ⟨t275, A40, H⟩ := H
 replace H : (some t275) = some r := H
 have A4 := mk_ A40
 clear A40
 obtain rfl := Option.some.inj H
 go_enter Try.func28, Try.ntmps28
 go_wp2_with (first | ((with_reducible refine gate_dst (N := 1) rfl ?_); refine box_event ?hg (N := 1) ?hd (cs := #[.int .i64 a0_0, .slice A0_1 l0_1.length c0_1]) (t := 46) ?hr ?_; (case hd => rfl); (case hg => rfl); (case hr => first | (go_simp; done) | (go_simp; rfl)); intro gb273 hg w5 hbox hb; have n0_ := mk_ (below_step (ub_ HB.out) hb); have n1_ := mk_ (hbox); have n2_ := mk_ ((by rw [hg]; exact (below_size (ub_ HB.out)) : w.heap.size ≤ gb273)); have n3_ := mk_ ((by rw [hg]; exact (below_size (ub_ HB.out)) : w.heap.size ≤ gb273)); clear HB; have HB := n0_; have BK273 := n1_; have GW273 := n2_; have GE273 := ge_ n3_.out; clear n0_ n1_ n2_ n3_; clear hb hbox hg; obtain ⟨hcz6_0, hcz6_1, hfz6_0, hfz6_1⟩ := cells2_ BK273.out) | ((with_reducible refine gate_callee (f := 39) rfl ?_); refine goesL_ (some 5) rfl rfl Try.func39 (by kernel_rfl) rfl #[.int .i64 a0_0] rfl (by (try simp only [lm_, lo_, ln_]); first | done | rfl | (simp only [List.length_drop, List.length_take]; rfl)) ?_; (with_reducible refine (impl_word.calls a0_0 true _ A2.out).mono ?_); rintro e w' ⟨rfl, ⟨nd, rfl⟩⟩; refine ⟨_, rfl, ?_⟩) | (go_at_call 53; (with_reducible refine (impl_RoutesOk.calls k _ _ l0_1 t275 _ ?side1 ?side2 A4.out).mono ?_); (case side1 => repeat (first | exact (Kd.C_below HR0_1.out (us_ HB.out)) | (with_reducible refine Kd.C_alloc ?_ _) | (with_reducible refine Kd.C_drewN ?_ _) | (with_reducible refine Kd.C_drew ?_))); (case side2 => exact HC0_1.out); rintro e w7 ⟨rfl, hb⟩; have n0_ := mk_ (blk_below (u_ BK273.out) hb); have n1_ := mk_ (below_step (us_ HB.out) hb); clear BK273; clear HB; have BK273 := n0_; have HB := n1_; clear n0_ n1_; (try clear hb); (try clear hb2); (try clear hk); (try clear hi)))
 go_ret
 exact ⟨by first | rfl | (simp [errW_none, errW_some] <;> rfl) | (simp [*, errW_none, errW_some] <;> rfl), us_ HB.out⟩

/-! ### spec_StationOk: function 29 -/
def spec_StationOk.f (k : Nat) (a0_0 : Int) (l0_1 : List (S88)) : Option (Bool) := (spec_l1In.f a0_0 0 65535).bind fun t277 => (if t277 = true then ((spec_RoutesOk.f k l0_1).bind fun t278 => (some t278)) else (some false))
theorem spec_StationOk.mono : ∀ a0 a1 k, LeO (spec_StationOk.f k a0 a1) (spec_StationOk.f (k + 1) a0 a1) := by
 intro a0 a1 k
 unfold spec_StationOk.f
 repeat' first
   | (with_reducible exact spec_RoutesOk.mono _ _)
   | (with_reducible exact LeO.refl _)
   | (with_reducible exact LeO.none _)
   | (with_reducible refine LeO.ite ?_ ?_)
   | (with_reducible refine LeO.bind ?_ (fun _ => ?_))
   | exact spec_RoutesOk.mono _ _
   | exact LeO.none _
   | refine LeO.ite ?_ ?_
   | refine LeO.bind ?_ (fun _ => ?_)
set_option maxHeartbeats 8000000 in
set_option maxRecDepth 100000 in
theorem spec_StationOk.calls (k : Nat) (a0_0 : Int) (A0_1 : Option Addr) (c0_1 : Nat) (l0_1 : List (S88)) (r : Bool) (w : World) (hr0_1 : Kd.C k88 w A0_1 l0_1.length l0_1) (hc0_1 : l0_1.length ≤ c0_1) (h : spec_StationOk.f k a0_0 l0_1 = some r) :
  Calls Try.prog 29 #[.agg #[.int .i64 a0_0, .slice A0_1 l0_1.length c0_1]] w fun e w' => e = .returned (.bool r) ∧ Below w.heap.size w w' := by
 have hu46 := Try.underlying46
 have HR0_1 := mk_ hr0_1
 have HC0_1 := mk_ hc0_1
 clear hr0_1 hc0_1
 have HB := mk_ (Below.refl w.heap.size w)
 have H : ((spec_l1In.f a0_0 0 65535).bind fun t277 => (if t277 = true then ((spec_RoutesOk.f k l0_1).bind fun t278 => (some t278)) else (some false))) = some r := h
 clear h
 replace H := Option.bind_eq_some_iff.mp H
 obtain ⟨t277, A20, H⟩ := H
 replace H : (if t277 = true then ((spec_RoutesOk.f k l0_1).bind fun t278 => (some t278)) else (some false)) = some r := H
 have A2 := mk_ A20
 clear A20
 by_cases c3 : t277 = true
 rotate_left
 ·replace c3 := Bool.eq_false_iff.mpr c3
  subst c3
  have H1 : (some false) = some r := by rw [if_neg (show ¬ (false = true) by decide)] at H; exact H
  clear H
  have H := H1
  clear H1
  obtain rfl := Option.some.inj H
  go_enter Try.func29, Try.ntmps29
  go_wp2_with (first | ((with_reducible refine gate_dst (N := 1) rfl ?_); refine box_event ?hg (N := 1) ?hd (cs := #[.int .i64 a0_0, .slice A0_1 l0_1.length c0_1]) (t := 46) ?hr ?_; (case hd => rfl); (case hg => rfl); (case hr => first | (go_simp; done) | (go_simp; rfl)); intro gb276 hg w8 hbox hb; have n0_ := mk_ (below_step (ub_ HB.out) hb); have n1_ := mk_ (hbox); have n2_ := mk_ ((by rw [hg]; exact (below_size (ub_ HB.out)) : w.heap.size ≤ gb276)); have n3_ := mk_ ((by rw [hg]; exact (below_size (ub_ HB.out)) : w.heap.size ≤ gb276)); clear HB; have HB := n0_; have BK276 := n1_; have GW276 := n2_; have GE276 := ge_ n3_.out; clear n0_ n1_ n2_ n3_; clear hb hbox hg; obtain ⟨hcz9_0, hcz9_1, hfz9_0, hfz9_1⟩ := cells2_ BK276.out) | ((with_reducible refine gate_callee (f := 35) rfl ?_); refine goesL_ (some 5) rfl rfl Try.func35 (by kernel_rfl) rfl #[.int .i64 a0_0, .int .i64 0, .int .i64 65535] rfl (by (try simp only [lm_, lo_, ln_]); first | done | rfl | (simp only [List.length_drop, List.length_take]; rfl)) ?_; (with_reducible refine (spec_l1In.calls a0_0 0 65535 false _ A2.out).mono ?_); rintro e w' ⟨rfl, ⟨nd, rfl⟩⟩; refine ⟨_, rfl, ?_⟩))
  go_ret
  exact ⟨by first | rfl | (simp [errW_none, errW_some] <;> rfl) | (simp [*, errW_none, errW_some] <;> rfl), us_ HB.out⟩
 subst c3
 have H1 : ((spec_RoutesOk.f k l0_1).bind fun t278 => (some t278)) = some r := by rw [if_pos rfl] at H; exact H
 clear H
 have H := H1
 clear H1
 replace H := Option.bind_eq_some_iff.mp H
 obtain ⟨t278, A40, H⟩ := H
 replace H : (some t278) = some r := H
 have A4 := mk_ A40
 clear A40
 obtain rfl := Option.some.inj H
 go_enter Try.func29, Try.ntmps29
 go_wp2_with (first | ((with_reducible refine gate_dst (N := 1) rfl ?_); refine box_event ?hg (N := 1) ?hd (cs := #[.int .i64 a0_0, .slice A0_1 l0_1.length c0_1]) (t := 46) ?hr ?_; (case hd => rfl); (case hg => rfl); (case hr => first | (go_simp; done) | (go_simp; rfl)); intro gb276 hg w5 hbox hb; have n0_ := mk_ (below_step (ub_ HB.out) hb); have n1_ := mk_ (hbox); have n2_ := mk_ ((by rw [hg]; exact (below_size (ub_ HB.out)) : w.heap.size ≤ gb276)); have n3_ := mk_ ((by rw [hg]; exact (below_size (ub_ HB.out)) : w.heap.size ≤ gb276)); clear HB; have HB := n0_; have BK276 := n1_; have GW276 := n2_; have GE276 := ge_ n3_.out; clear n0_ n1_ n2_ n3_; clear hb hbox hg; obtain ⟨hcz6_0, hcz6_1, hfz6_0, hfz6_1⟩ := cells2_ BK276.out) | ((with_reducible refine gate_callee (f := 35) rfl ?_); refine goesL_ (some 5) rfl rfl Try.func35 (by kernel_rfl) rfl #[.int .i64 a0_0, .int .i64 0, .int .i64 65535] rfl (by (try simp only [lm_, lo_, ln_]); first | done | rfl | (simp only [List.length_drop, List.length_take]; rfl)) ?_; (with_reducible refine (spec_l1In.calls a0_0 0 65535 true _ A2.out).mono ?_); rintro e w' ⟨rfl, ⟨nd, rfl⟩⟩; refine ⟨_, rfl, ?_⟩) | (go_at_call 54; (with_reducible refine (spec_RoutesOk.calls k _ _ l0_1 t278 _ ?side1 ?side2 A4.out).mono ?_); (case side1 => repeat (first | exact (Kd.C_below HR0_1.out (us_ HB.out)) | (with_reducible refine Kd.C_alloc ?_ _) | (with_reducible refine Kd.C_drewN ?_ _) | (with_reducible refine Kd.C_drew ?_))); (case side2 => exact HC0_1.out); rintro e w7 ⟨rfl, hb⟩; have n0_ := mk_ (blk_below (u_ BK276.out) hb); have n1_ := mk_ (below_step (us_ HB.out) hb); clear BK276; clear HB; have BK276 := n0_; have HB := n1_; clear n0_ n1_; (try clear hb); (try clear hb2); (try clear hk); (try clear hi)))
 go_ret
 exact ⟨by first | rfl | (simp [errW_none, errW_some] <;> rfl) | (simp [*, errW_none, errW_some] <;> rfl), us_ HB.out⟩

/-! ### laws_FnStationOk: function 7 -/
def laws_FnStationOk.f (k : Nat) (l0 : List Int) : Option (Bool) := if (l0.length : Int) > 1048576 then (some true) else ((spec_DrawStationOk.f k l0).bind fun bt279 => ((impl_StationOk.f k bt279.1 bt279.2).bind fun t284 => ((spec_StationOk.f k bt279.1 bt279.2).bind fun t285 => (if (t284 == t285) = true then (if t284 = true then ((impl_StationOk.f k bt279.1 ([] : List (S88))).bind fun t286 => (if t286 = true then ((impl_StationOk.f k 7 ([] : List (S88))).bind fun t287 => (if t287 = true then ((laws_alive.f k).bind fun t288 => (some t288)) else (some false))) else (some false))) else ((impl_StationOk.f k 7 ([] : List (S88))).bind fun t289 => (if t289 = true then ((laws_alive.f k).bind fun t290 => (some t290)) else (some false)))) else (some false)))))
theorem laws_FnStationOk.mono : ∀ a0 k, LeO (laws_FnStationOk.f k a0) (laws_FnStationOk.f (k + 1) a0) := by
 intro a0 k
 unfold laws_FnStationOk.f
 repeat' first
   | (with_reducible exact impl_StationOk.mono _ _ _)
   | (with_reducible exact laws_alive.mono _)
   | (with_reducible exact spec_DrawStationOk.mono _ _)
   | (with_reducible exact spec_StationOk.mono _ _ _)
   | (with_reducible exact LeO.refl _)
   | (with_reducible exact LeO.none _)
   | (with_reducible refine LeO.ite ?_ ?_)
   | (with_reducible refine LeO.bind ?_ (fun _ => ?_))
   | exact impl_StationOk.mono _ _ _
   | exact laws_alive.mono _
   | exact spec_DrawStationOk.mono _ _
   | exact spec_StationOk.mono _ _ _
   | exact LeO.none _
   | refine LeO.ite ?_ ?_
   | refine LeO.bind ?_ (fun _ => ?_)
set_option maxHeartbeats 8000000 in
set_option maxRecDepth 100000 in
theorem laws_FnStationOk.calls (k : Nat) (A0 : Option Addr) (c0 : Nat) (l0 : List Int) (r : Bool) (w : World) (hr0 : Kd.C (Kd.int .u8) w A0 l0.length l0) (hc0 : l0.length ≤ c0) (h : laws_FnStationOk.f k l0 = some r) :
  Calls Try.prog 7 #[.slice A0 l0.length c0] w fun e w' => e = .returned (.bool r) ∧ Below w.heap.size w w' := by
 have hu46 := Try.underlying46
 have HR0 := mk_ hr0
 have HC0 := mk_ hc0
 clear hr0 hc0
 have HB := mk_ (Below.refl w.heap.size w)
 have H : (if (l0.length : Int) > 1048576 then (some true) else ((spec_DrawStationOk.f k l0).bind fun bt279 => ((impl_StationOk.f k bt279.1 bt279.2).bind fun t284 => ((spec_StationOk.f k bt279.1 bt279.2).bind fun t285 => (if (t284 == t285) = true then (if t284 = true then ((impl_StationOk.f k bt279.1 ([] : List (S88))).bind fun t286 => (if t286 = true then ((impl_StationOk.f k 7 ([] : List (S88))).bind fun t287 => (if t287 = true then ((laws_alive.f k).bind fun t288 => (some t288)) else (some false))) else (some false))) else ((impl_StationOk.f k 7 ([] : List (S88))).bind fun t289 => (if t289 = true then ((laws_alive.f k).bind fun t290 => (some t290)) else (some false)))) else (some false)))))) = some r := h
 clear h
 by_cases c2 : (l0.length : Int) > 1048576
 ·rw [if_pos c2] at H
  have c2b0 : decide (1048576 < (l0.length : Int)) = true := decide_eq_true c2
  have c2b1 : decide (1048576 < l0.length) = true := decide_eq_true (by omega)
  clear c2
  obtain rfl := Option.some.inj H
  go_enter Try.func7, Try.ntmps7
  go_wp2
  go_ret
  exact ⟨by first | rfl | (simp [errW_none, errW_some] <;> rfl) | (simp [*, errW_none, errW_some] <;> rfl), by repeat (first | (with_reducible first | exact HB.out | apply na_ | apply nn_ | apply nw_) | exact HB.out)⟩
 rw [if_neg c2] at H
 have c2b0 : decide (1048576 < (l0.length : Int)) = false := decide_eq_false c2
 have c2b1 : decide (1048576 < l0.length) = false := decide_eq_false (by omega)
 clear c2
 replace H := Option.bind_eq_some_iff.mp H
 obtain ⟨⟨t279, t280⟩, A30, H⟩ := H
 replace H : ((impl_StationOk.f k t279 t280).bind fun t284 => ((spec_StationOk.f k t279 t280).bind fun t285 => (if (t284 == t285) = true then (if t284 = true then ((impl_StationOk.f k t279 ([] : List (S88))).bind fun t286 => (if t286 = true then ((impl_StationOk.f k 7 ([] : List (S88))).bind fun t287 => (if t287 = true then ((laws_alive.f k).bind fun t288 => (some t288)) else (some false))) else (some false))) else ((impl_StationOk.f k 7 ([] : List (S88))).bind fun t289 => (if t289 = true then ((laws_alive.f k).bind fun t290 => (some t290)) else (some false)))) else (some false)))) = some r := H
 have A3 := mk_ A30
 clear A30
 replace H := Option.bind_eq_some_iff.mp H
 obtain ⟨t284, A40, H⟩ := H
 replace H : ((spec_StationOk.f k t279 t280).bind fun t285 => (if (t284 == t285) = true then (if t284 = true then ((impl_StationOk.f k t279 ([] : List (S88))).bind fun t286 => (if t286 = true then ((impl_StationOk.f k 7 ([] : List (S88))).bind fun t287 => (if t287 = true then ((laws_alive.f k).bind fun t288 => (some t288)) else (some false))) else (some false))) else ((impl_StationOk.f k 7 ([] : List (S88))).bind fun t289 => (if t289 = true then ((laws_alive.f k).bind fun t290 => (some t290)) else (some false)))) else (some false))) = some r := H
 have A4 := mk_ A40
 clear A40
 replace H := Option.bind_eq_some_iff.mp H
 obtain ⟨t285, A50, H⟩ := H
 replace H : (if (t284 == t285) = true then (if t284 = true then ((impl_StationOk.f k t279 ([] : List (S88))).bind fun t286 => (if t286 = true then ((impl_StationOk.f k 7 ([] : List (S88))).bind fun t287 => (if t287 = true then ((laws_alive.f k).bind fun t288 => (some t288)) else (some false))) else (some false))) else ((impl_StationOk.f k 7 ([] : List (S88))).bind fun t289 => (if t289 = true then ((laws_alive.f k).bind fun t290 => (some t290)) else (some false)))) else (some false)) = some r := H
 have A5 := mk_ A50
 clear A50
 by_cases c6 : (t284 == t285) = true
 rotate_left
 ·rw [if_neg c6] at H
  have c6b0 : (t284 == t285) = false := by simpa using c6
  (try (have c6b1 : decide (t284 = t285) = false := by simpa using c6))
  (try (have c6b2 : (t284 == t285) = false := by simpa using c6))
  (try (have c6b3 : ¬ (t284 = t285) := by simpa using c6))
  clear c6
  obtain rfl := Option.some.inj H
  go_enter Try.func7, Try.ntmps7
  go_wp2_with (first | ((with_reducible refine gate_callee (f := 27) rfl ?_); refine goesL_ (some 9) rfl rfl Try.func27 (by kernel_rfl) rfl #[.slice A0 l0.length c0] rfl (by (try simp only [lm_, lo_, ln_]); first | done | rfl | (simp only [List.length_drop, List.length_take]; rfl)) ?_; (with_reducible refine (spec_DrawStationOk.calls k _ _ l0 t279 t280 _ ?side1 ?side2 A3.out).mono ?_); (case side1 => repeat (first | exact HR0.out | (with_reducible refine Kd.C_alloc ?_ _) | (with_reducible refine Kd.C_drewN ?_ _) | (with_reducible refine Kd.C_drew ?_))); (case side2 => exact HC0.out); rintro e w63 ⟨v281, rfl, ho0, hb⟩; refine ⟨_, rfl, ?_⟩; have n0_ := mk_ (Kd.R_lower ho0 (below_size (ub_ HB.out))); have n1_ := mk_ (below_step (ub_ HB.out) hb); clear HB; have HO282 := n0_; have HB := n1_; clear n0_ n1_; (try clear hb); (try clear hb2); (try clear hk); (try clear hi); (try clear ho0)) | ((with_reducible refine gate_dst (N := 3) rfl ?_); refine box_event ?hg (N := 3) ?hd (cs := #[.int .i64 0, .slice none 0 0]) (t := 46) ?hr ?_; (case hd => rfl); (case hg => rfl); (case hr => first | (go_simp; done) | (go_simp; rfl)); intro gb283 hg w64 hbox hb; have n0_ := mk_ (Kd.R_below (Kd.ur_ HO282.out) hb); have n1_ := mk_ (below_step (ub_ HB.out) hb); have n2_ := mk_ (hbox); have n3_ := mk_ ((by rw [hg]; exact (below_size (ub_ HB.out)) : w.heap.size ≤ gb283)); have n4_ := mk_ ((by rw [hg]; exact (below_size (ub_ HB.out)) : w.heap.size ≤ gb283)); clear HO282; clear HB; have HO282 := n0_; have HB := n1_; have BK283 := n2_; have GW283 := n3_; have GE283 := ge_ n4_.out; clear n0_ n1_ n2_ n3_ n4_; clear hb hbox hg; obtain ⟨hcz65_0, hcz65_1, hfz65_0, hfz65_1⟩ := cells2_ BK283.out; obtain ⟨Ao66, co66, eo66⟩ := Kd.R_slice HO282.out; subst eo66) | ((with_reducible refine gate_callee (f := 28) rfl ?_); refine goesL_ (some 11) rfl rfl Try.func28 (by kernel_rfl) rfl #[.agg #[.int .i64 t279, .slice Ao66 t280.length co66]] rfl (by (try simp only [lm_, lo_, ln_]); first | done | rfl | (simp only [List.length_drop, List.length_take]; rfl)) ?_; (with_reducible refine (impl_StationOk.calls k t279 _ _ t280 t284 _ ?side1 ?side2 A4.out).mono ?_); (case side1 => refine (Kd.R_reads' (e := 88) (base := w.heap.size) (ok := fun k_ => True) (n := t280.length) (c := co66) ?_).2.2; exact (by (with_reducible repeat (first | apply Kd.R_alloc | apply Kd.R_drewN | apply Kd.R_drew)); exact (Kd.R_mono (Kd.R_far (p := ⟨gb283, 1, none⟩) (Kd.R_far (p := ⟨gb283, 0, none⟩) (Kd.R_types HO282.out BK283.out (by decide)) (fun _ hk => hk.2) (.int .i64 t279)) (fun _ hk => hk.2) (.slice Ao66 t280.length co66)) (fun _ h_ => by first | exact h_.1 | simp only [h_, ne_eq, not_false_eq_true, and_self])))); (case side2 => exact (Kd.R_reads' HO282.out).2.1); rintro e w67 ⟨rfl, hb⟩; refine ⟨_, rfl, ?_⟩; have n0_ := mk_ (Kd.R_below (by (with_reducible repeat (first | apply Kd.R_alloc | apply Kd.R_drewN | apply Kd.R_drew)); exact (Kd.R_mono (Kd.R_far (p := ⟨gb283, 1, none⟩) (Kd.R_far (p := ⟨gb283, 0, none⟩) (Kd.R_types HO282.out BK283.out (by decide)) (fun _ hk => hk.2) (.int .i64 t279)) (fun _ hk => hk.2) (.slice Ao66 t280.length co66)) (fun _ h_ => by first | exact h_.1 | simp only [h_, ne_eq, not_false_eq_true, and_self]))) hb); have n1_ := mk_ (blk_below (g := gb283) (o := .cells #[.int .i64 t279, .slice Ao66 t280.length co66] 46 (0, 0)) (by (with_reducible repeat (first | refine bn_ ?_ _ | refine bw_ ?_ | refine ba_ ?_ _)); refine blk_put (cs := #[.int .i64 t279, .slice none 0 0]) ?_ 1 _ rfl; (with_reducible repeat (first | refine bn_ ?_ _ | refine bw_ ?_ | refine ba_ ?_ _)); refine blk_put (cs := #[.int .i64 0, .slice none 0 0]) ?_ 0 _ rfl; (with_reducible repeat (first | refine bn_ ?_ _ | refine bw_ ?_ | refine ba_ ?_ _)); exact BK283.out) hb); have n2_ := mk_ (below_step (us_ HB.out) hb); clear HO282; clear BK283; clear HB; have HO282 := n0_; have BK283 := n1_; have HB := n2_; clear n0_ n1_ n2_; (try clear hb); (try clear hb2); (try clear hk); (try clear hi); obtain ⟨hcz68_0, hcz68_1, hfz68_0, hfz68_1⟩ := cells2_ BK283.out) | ((with_reducible refine gate_callee (f := 29) rfl ?_); refine goesL_ (some 14) rfl rfl Try.func29 (by kernel_rfl) rfl #[.agg #[.int .i64 t279, .slice Ao66 t280.length co66]] rfl (by (try simp only [lm_, lo_, ln_]); first | done | rfl | (simp only [List.length_drop, List.length_take]; rfl)) ?_; (with_reducible refine (spec_StationOk.calls k t279 _ _ t280 t285 _ ?side1 ?side2 A5.out).mono ?_); (case side1 => repeat (first | exact (Kd.R_reads' HO282.out).2.2 | (with_reducible refine Kd.C_alloc ?_ _) | (with_reducible refine Kd.C_drewN ?_ _) | (with_reducible refine Kd.C_drew ?_))); (case side2 => exact (Kd.R_reads' HO282.out).2.1); rintro e w69 ⟨rfl, hb⟩; refine ⟨_, rfl, ?_⟩; have n0_ := mk_ (Kd.R_below (Kd.ur_ HO282.out) hb); have n1_ := mk_ (blk_below (u_ BK283.out) hb); have n2_ := mk_ (below_step (us_ HB.out) hb); clear HO282; clear BK283; clear HB; have HO282 := n0_; have BK283 := n1_; have HB := n2_; clear n0_ n1_ n2_; (try clear hb); (try clear hb2); (try clear hk); (try clear hi)))
  go_ret
  exact ⟨by first | rfl | (simp [errW_none, errW_some] <;> rfl) | (simp [*, errW_none, errW_some] <;> rfl), us_ HB.out⟩
 rw [if_pos c6] at H
 have c6b0 : (t284 == t285) = true := c6
 (try (have c6b1 : decide (t284 = t285) = true := by simpa using c6))
 (try (have c6b2 : (t284 == t285) = true := by simpa using c6))
 clear c6
 by_cases c7 : t284 = true
 rotate_left
 ·replace c7 := Bool.eq_false_iff.mpr c7
  subst c7
  have H1 : ((impl_StationOk.f k 7 ([] : List (S88))).bind fun t289 => (if t289 = true then ((laws_alive.f k).bind fun t290 => (some t290)) else (some false))) = some r := by rw [if_neg (show ¬ (false = true) by decide)] at H; exact H
  clear H
  have H := H1
  clear H1
  replace H := Option.bind_eq_some_iff.mp H
  obtain ⟨t289, A430, H⟩ := H
  replace H : (if t289 = true then ((laws_alive.f k).bind fun t290 => (some t290)) else (some false)) = some r := H
  have A43 := mk_ A430
  clear A430
  by_cases c44 : t289 = true
  rotate_left
  ·replace c44 := Bool.eq_false_iff.mpr c44
   subst c44
   have H1 : (some false) = some r := by rw [if_neg (show ¬ (false = true) by decide)] at H; exact H
   clear H
   have H := H1
   clear H1
   obtain rfl := Option.some.inj H
   go_enter Try.func7, Try.ntmps7
   go_wp2_with (first | ((with_reducible refine gate_callee (f := 27) rfl ?_); refine goesL_ (some 9) rfl rfl Try.func27 (by kernel_rfl) rfl #[.slice A0 l0.length c0] rfl (by (try simp only [lm_, lo_, ln_]); first | done | rfl | (simp only [List.length_drop, List.length_take]; rfl)) ?_; (with_reducible refine (spec_DrawStationOk.calls k _ _ l0 t279 t280 _ ?side1 ?side2 A3.out).mono ?_); (case side1 => repeat (first | exact HR0.out | (with_reducible refine Kd.C_alloc ?_ _) | (with_reducible refine Kd.C_drewN ?_ _) | (with_reducible refine Kd.C_drew ?_))); (case side2 => exact HC0.out); rintro e w55 ⟨v281, rfl, ho0, hb⟩; refine ⟨_, rfl, ?_⟩; have n0_ := mk_ (Kd.R_lower ho0 (below_size (ub_ HB.out))); have n1_ := mk_ (below_step (ub_ HB.out) hb); clear HB; have HO282 := n0_; have HB := n1_; clear n0_ n1_; (try clear hb); (try clear hb2); (try clear hk); (try clear hi); (try clear ho0)) | ((with_reducible refine gate_dst (N := 3) rfl ?_); refine box_event ?hg (N := 3) ?hd (cs := #[.int .i64 0, .slice none 0 0]) (t := 46) ?hr ?_; (case hd => rfl); (case hg => rfl); (case hr => first | (go_simp; done) | (go_simp; rfl)); intro gb283 hg w56 hbox hb; have n0_ := mk_ (Kd.R_below (Kd.ur_ HO282.out) hb); have n1_ := mk_ (below_step (ub_ HB.out) hb); have n2_ := mk_ (hbox); have n3_ := mk_ ((by rw [hg]; exact (below_size (ub_ HB.out)) : w.heap.size ≤ gb283)); have n4_ := mk_ ((by rw [hg]; exact (below_size (ub_ HB.out)) : w.heap.size ≤ gb283)); clear HO282; clear HB; have HO282 := n0_; have HB := n1_; have BK283 := n2_; have GW283 := n3_; have GE283 := ge_ n4_.out; clear n0_ n1_ n2_ n3_ n4_; clear hb hbox hg; obtain ⟨hcz57_0, hcz57_1, hfz57_0, hfz57_1⟩ := cells2_ BK283.out; obtain ⟨Ao58, co58, eo58⟩ := Kd.R_slice HO282.out; subst eo58) | ((with_reducible refine gate_callee (f := 28) rfl ?_); have hA_ := A4.out; refine goesL_ (some 11) rfl rfl Try.func28 (by kernel_rfl) rfl #[.agg #[.int .i64 t279, .slice Ao58 t280.length co58]] rfl (by (try simp only [lm_, lo_, ln_]); first | done | rfl | (simp only [List.length_drop, List.length_take]; rfl)) ?_; (with_reducible refine (impl_StationOk.calls k t279 _ _ t280 false _ ?side1 ?side2 A4.out).mono ?_); (case side1 => refine (Kd.R_reads' (e := 88) (base := w.heap.size) (ok := fun k_ => True) (n := t280.length) (c := co58) ?_).2.2; exact (by (with_reducible repeat (first | apply Kd.R_alloc | apply Kd.R_drewN | apply Kd.R_drew)); exact (Kd.R_mono (Kd.R_far (p := ⟨gb283, 1, none⟩) (Kd.R_far (p := ⟨gb283, 0, none⟩) (Kd.R_types HO282.out BK283.out (by decide)) (fun _ hk => hk.2) (.int .i64 t279)) (fun _ hk => hk.2) (.slice Ao58 t280.length co58)) (fun _ h_ => by first | exact h_.1 | simp only [h_, ne_eq, not_false_eq_true, and_self])))); (case side2 => exact (Kd.R_reads' HO282.out).2.1); rintro e w59 ⟨rfl, hb⟩; refine ⟨_, rfl, ?_⟩; have n0_ := mk_ (Kd.R_below (by (with_reducible repeat (first | apply Kd.R_alloc | apply Kd.R_drewN | apply Kd.R_drew)); exact (Kd.R_mono (Kd.R_far (p := ⟨gb283, 1, none⟩) (Kd.R_far (p := ⟨gb283, 0, none⟩) (Kd.R_types HO282.out BK283.out (by decide)) (fun _ hk => hk.2) (.int .i64 t279)) (fun _ hk => hk.2) (.slice Ao58 t280.length co58)) (fun _ h_ => by first | exact h_.1 | simp only [h_, ne_eq, not_false_eq_true, and_self]))) hb); have n1_ := mk_ (blk_below (g := gb283) (o := .cells #[.int .i64 t279, .slice Ao58 t280.length co58] 46 (0, 0)) (by (with_reducible repeat (first | refine bn_ ?_ _ | refine bw_ ?_ | refine ba_ ?_ _)); refine blk_put (cs := #[.int .i64 t279, .slice none 0 0]) ?_ 1 _ rfl; (with_reducible repeat (first | refine bn_ ?_ _ | refine bw_ ?_ | refine ba_ ?_ _)); refine blk_put (cs := #[.int .i64 0, .slice none 0 0]) ?_ 0 _ rfl; (with_reducible repeat (first | refine bn_ ?_ _ | refine bw_ ?_ | refine ba_ ?_ _)); exact BK283.out) hb); have n2_ := mk_ (below_step (us_ HB.out) hb); clear HO282; clear BK283; clear HB; have HO282 := n0_; have BK283 := n1_; have HB := n2_; clear n0_ n1_ n2_; (try clear hb); (try clear hb2); (try clear hk); (try clear hi); obtain ⟨hcz60_0, hcz60_1, hfz60_0, hfz60_1⟩ := cells2_ BK283.out; clear hA_ A4) | ((with_reducible refine gate_callee (f := 29) rfl ?_); refine goesL_ (some 14) rfl rfl Try.func29 (by kernel_rfl) rfl #[.agg #[.int .i64 t279, .slice Ao58 t280.length co58]] rfl (by (try simp only [lm_, lo_, ln_]); first | done | rfl | (simp only [List.length_drop, List.length_take]; rfl)) ?_; (with_reducible refine (spec_StationOk.calls k t279 _ _ t280 t285 _ ?side1 ?side2 A5.out).mono ?_); (case side1 => repeat (first | exact (Kd.R_reads' HO282.out).2.2 | (with_reducible refine Kd.C_alloc ?_ _) | (with_reducible refine Kd.C_drewN ?_ _) | (with_reducible refine Kd.C_drew ?_))); (case side2 => exact (Kd.R_reads' HO282.out).2.1); rintro e w61 ⟨rfl, hb⟩; refine ⟨_, rfl, ?_⟩; have n0_ := mk_ (Kd.R_below (Kd.ur_ HO282.out) hb); have n1_ := mk_ (blk_below (u_ BK283.out) hb); have n2_ := mk_ (below_step (us_ HB.out) hb); clear HO282; clear BK283; clear HB; have HO282 := n0_; have BK283 := n1_; have HB := n2_; clear n0_ n1_ n2_; (try clear hb); (try clear hb2); (try clear hk); (try clear hi)) | (go_at_call 28; have hA_ := A43.out; (refine (impl_StationOk.calls k 7 _ _ ([] : List (S88)) false _ ?side1 ?side2 A43.out).mono ?_); (case side1 => exact Kd.C_nil _ _); (case side2 => exact Nat.le_refl _); rintro e w62 ⟨rfl, hb⟩; have n0_ := mk_ (Kd.R_below (Kd.ur_ HO282.out) hb); have n1_ := mk_ (blk_below (u_ BK283.out) hb); have n2_ := mk_ (below_step (us_ HB.out) hb); clear HO282; clear BK283; clear HB; have HO282 := n0_; have BK283 := n1_; have HB := n2_; clear n0_ n1_ n2_; (try clear hb); (try clear hb2); (try clear hk); (try clear hi); clear hA_ A43))
   go_ret
   exact ⟨by first | rfl | (simp [errW_none, errW_some] <;> rfl) | (simp [*, errW_none, errW_some] <;> rfl), us_ HB.out⟩
  subst c44
  have H1 : ((laws_alive.f k).bind fun t290 => (some t290)) = some r := by rw [if_pos rfl] at H; exact H
  clear H
  have H := H1
  clear H1
  replace H := Option.bind_eq_some_iff.mp H
  obtain ⟨t290, A450, H⟩ := H
  replace H : (some t290) = some r := H
  have A45 := mk_ A450
  clear A450
  obtain rfl := Option.some.inj H
  go_enter Try.func7, Try.ntmps7
  go_wp2_with (first | ((with_reducible refine gate_callee (f := 27) rfl ?_); refine goesL_ (some 9) rfl rfl Try.func27 (by kernel_rfl) rfl #[.slice A0 l0.length c0] rfl (by (try simp only [lm_, lo_, ln_]); first | done | rfl | (simp only [List.length_drop, List.length_take]; rfl)) ?_; (with_reducible refine (spec_DrawStationOk.calls k _ _ l0 t279 t280 _ ?side1 ?side2 A3.out).mono ?_); (case side1 => repeat (first | exact HR0.out | (with_reducible refine Kd.C_alloc ?_ _) | (with_reducible refine Kd.C_drewN ?_ _) | (with_reducible refine Kd.C_drew ?_))); (case side2 => exact HC0.out); rintro e w46 ⟨v281, rfl, ho0, hb⟩; refine ⟨_, rfl, ?_⟩; have n0_ := mk_ (Kd.R_lower ho0 (below_size (ub_ HB.out))); have n1_ := mk_ (below_step (ub_ HB.out) hb); clear HB; have HO282 := n0_; have HB := n1_; clear n0_ n1_; (try clear hb); (try clear hb2); (try clear hk); (try clear hi); (try clear ho0)) | ((with_reducible refine gate_dst (N := 3) rfl ?_); refine box_event ?hg (N := 3) ?hd (cs := #[.int .i64 0, .slice none 0 0]) (t := 46) ?hr ?_; (case hd => rfl); (case hg => rfl); (case hr => first | (go_simp; done) | (go_simp; rfl)); intro gb283 hg w47 hbox hb; have n0_ := mk_ (Kd.R_below (Kd.ur_ HO282.out) hb); have n1_ := mk_ (below_step (ub_ HB.out) hb); have n2_ := mk_ (hbox); have n3_ := mk_ ((by rw [hg]; exact (below_size (ub_ HB.out)) : w.heap.size ≤ gb283)); have n4_ := mk_ ((by rw [hg]; exact (below_size (ub_ HB.out)) : w.heap.size ≤ gb283)); clear HO282; clear HB; have HO282 := n0_; have HB := n1_; have BK283 := n2_; have GW283 := n3_; have GE283 := ge_ n4_.out; clear n0_ n1_ n2_ n3_ n4_; clear hb hbox hg; obtain ⟨hcz48_0, hcz48_1, hfz48_0, hfz48_1⟩ := cells2_ BK283.out; obtain ⟨Ao49, co49, eo49⟩ := Kd.R_slice HO282.out; subst eo49) | ((with_reducible refine gate_callee (f := 28) rfl ?_); have hA_ := A4.out; refine goesL_ (some 11) rfl rfl Try.func28 (by kernel_rfl) rfl #[.agg #[.int .i64 t279, .slice Ao49 t280.length co49]] rfl (by (try simp only [lm_, lo_, ln_]); first | done | rfl | (simp only [List.length_drop, List.length_take]; rfl)) ?_; (with_reducible refine (impl_StationOk.calls k t279 _ _ t280 false _ ?side1 ?side2 A4.out).mono ?_); (case side1 => refine (Kd.R_reads' (e := 88) (base := w.heap.size) (ok := fun k_ => True) (n := t280.length) (c := co49) ?_).2.2; exact (by (with_reducible repeat (first | apply Kd.R_alloc | apply Kd.R_drewN | apply Kd.R_drew)); exact (Kd.R_mono (Kd.R_far (p := ⟨gb283, 1, none⟩) (Kd.R_far (p := ⟨gb283, 0, none⟩) (Kd.R_types HO282.out BK283.out (by decide)) (fun _ hk => hk.2) (.int .i64 t279)) (fun _ hk => hk.2) (.slice Ao49 t280.length co49)) (fun _ h_ => by first | exact h_.1 | simp only [h_, ne_eq, not_false_eq_true, and_self])))); (case side2 => exact (Kd.R_reads' HO282.out).2.1); rintro e w50 ⟨rfl, hb⟩; refine ⟨_, rfl, ?_⟩; have n0_ := mk_ (Kd.R_below (by (with_reducible repeat (first | apply Kd.R_alloc | apply Kd.R_drewN | apply Kd.R_drew)); exact (Kd.R_mono (Kd.R_far (p := ⟨gb283, 1, none⟩) (Kd.R_far (p := ⟨gb283, 0, none⟩) (Kd.R_types HO282.out BK283.out (by decide)) (fun _ hk => hk.2) (.int .i64 t279)) (fun _ hk => hk.2) (.slice Ao49 t280.length co49)) (fun _ h_ => by first | exact h_.1 | simp only [h_, ne_eq, not_false_eq_true, and_self]))) hb); have n1_ := mk_ (blk_below (g := gb283) (o := .cells #[.int .i64 t279, .slice Ao49 t280.length co49] 46 (0, 0)) (by (with_reducible repeat (first | refine bn_ ?_ _ | refine bw_ ?_ | refine ba_ ?_ _)); refine blk_put (cs := #[.int .i64 t279, .slice none 0 0]) ?_ 1 _ rfl; (with_reducible repeat (first | refine bn_ ?_ _ | refine bw_ ?_ | refine ba_ ?_ _)); refine blk_put (cs := #[.int .i64 0, .slice none 0 0]) ?_ 0 _ rfl; (with_reducible repeat (first | refine bn_ ?_ _ | refine bw_ ?_ | refine ba_ ?_ _)); exact BK283.out) hb); have n2_ := mk_ (below_step (us_ HB.out) hb); clear HO282; clear BK283; clear HB; have HO282 := n0_; have BK283 := n1_; have HB := n2_; clear n0_ n1_ n2_; (try clear hb); (try clear hb2); (try clear hk); (try clear hi); obtain ⟨hcz51_0, hcz51_1, hfz51_0, hfz51_1⟩ := cells2_ BK283.out; clear hA_ A4) | ((with_reducible refine gate_callee (f := 29) rfl ?_); refine goesL_ (some 14) rfl rfl Try.func29 (by kernel_rfl) rfl #[.agg #[.int .i64 t279, .slice Ao49 t280.length co49]] rfl (by (try simp only [lm_, lo_, ln_]); first | done | rfl | (simp only [List.length_drop, List.length_take]; rfl)) ?_; (with_reducible refine (spec_StationOk.calls k t279 _ _ t280 t285 _ ?side1 ?side2 A5.out).mono ?_); (case side1 => repeat (first | exact (Kd.R_reads' HO282.out).2.2 | (with_reducible refine Kd.C_alloc ?_ _) | (with_reducible refine Kd.C_drewN ?_ _) | (with_reducible refine Kd.C_drew ?_))); (case side2 => exact (Kd.R_reads' HO282.out).2.1); rintro e w52 ⟨rfl, hb⟩; refine ⟨_, rfl, ?_⟩; have n0_ := mk_ (Kd.R_below (Kd.ur_ HO282.out) hb); have n1_ := mk_ (blk_below (u_ BK283.out) hb); have n2_ := mk_ (below_step (us_ HB.out) hb); clear HO282; clear BK283; clear HB; have HO282 := n0_; have BK283 := n1_; have HB := n2_; clear n0_ n1_ n2_; (try clear hb); (try clear hb2); (try clear hk); (try clear hi)) | (go_at_call 28; have hA_ := A43.out; (refine (impl_StationOk.calls k 7 _ _ ([] : List (S88)) true _ ?side1 ?side2 A43.out).mono ?_); (case side1 => exact Kd.C_nil _ _); (case side2 => exact Nat.le_refl _); rintro e w53 ⟨rfl, hb⟩; have n0_ := mk_ (Kd.R_below (Kd.ur_ HO282.out) hb); have n1_ := mk_ (blk_below (u_ BK283.out) hb); have n2_ := mk_ (below_step (us_ HB.out) hb); clear HO282; clear BK283; clear HB; have HO282 := n0_; have BK283 := n1_; have HB := n2_; clear n0_ n1_ n2_; (try clear hb); (try clear hb2); (try clear hk); (try clear hi); clear hA_ A43) | (go_at_call 20; (with_reducible refine (laws_alive.calls k  t290 _ A45.out).mono ?_); rintro e w54 ⟨rfl, hb⟩; have n0_ := mk_ (Kd.R_below (Kd.ur_ HO282.out) hb); have n1_ := mk_ (blk_below (u_ BK283.out) hb); have n2_ := mk_ (below_step (us_ HB.out) hb); clear HO282; clear BK283; clear HB; have HO282 := n0_; have BK283 := n1_; have HB := n2_; clear n0_ n1_ n2_; (try clear hb); (try clear hb2); (try clear hk); (try clear hi)))
  go_ret
  exact ⟨by first | rfl | (simp [errW_none, errW_some] <;> rfl) | (simp [*, errW_none, errW_some] <;> rfl), us_ HB.out⟩
 subst c7
 have H1 : ((impl_StationOk.f k t279 ([] : List (S88))).bind fun t286 => (if t286 = true then ((impl_StationOk.f k 7 ([] : List (S88))).bind fun t287 => (if t287 = true then ((laws_alive.f k).bind fun t288 => (some t288)) else (some false))) else (some false))) = some r := by rw [if_pos rfl] at H; exact H
 clear H
 have H := H1
 clear H1
 replace H := Option.bind_eq_some_iff.mp H
 obtain ⟨t286, A80, H⟩ := H
 replace H : (if t286 = true then ((impl_StationOk.f k 7 ([] : List (S88))).bind fun t287 => (if t287 = true then ((laws_alive.f k).bind fun t288 => (some t288)) else (some false))) else (some false)) = some r := H
 have A8 := mk_ A80
 clear A80
 by_cases c9 : t286 = true
 rotate_left
 ·replace c9 := Bool.eq_false_iff.mpr c9
  subst c9
  have H1 : (some false) = some r := by rw [if_neg (show ¬ (false = true) by decide)] at H; exact H
  clear H
  have H := H1
  clear H1
  obtain rfl := Option.some.inj H
  go_enter Try.func7, Try.ntmps7
  go_wp2_with (first | ((with_reducible refine gate_callee (f := 27) rfl ?_); refine goesL_ (some 9) rfl rfl Try.func27 (by kernel_rfl) rfl #[.slice A0 l0.length c0] rfl (by (try simp only [lm_, lo_, ln_]); first | done | rfl | (simp only [List.length_drop, List.length_take]; rfl)) ?_; (with_reducible refine (spec_DrawStationOk.calls k _ _ l0 t279 t280 _ ?side1 ?side2 A3.out).mono ?_); (case side1 => repeat (first | exact HR0.out | (with_reducible refine Kd.C_alloc ?_ _) | (with_reducible refine Kd.C_drewN ?_ _) | (with_reducible refine Kd.C_drew ?_))); (case side2 => exact HC0.out); rintro e w34 ⟨v281, rfl, ho0, hb⟩; refine ⟨_, rfl, ?_⟩; have n0_ := mk_ (Kd.R_lower ho0 (below_size (ub_ HB.out))); have n1_ := mk_ (below_step (ub_ HB.out) hb); clear HB; have HO282 := n0_; have HB := n1_; clear n0_ n1_; (try clear hb); (try clear hb2); (try clear hk); (try clear hi); (try clear ho0)) | ((with_reducible refine gate_dst (N := 3) rfl ?_); refine box_event ?hg (N := 3) ?hd (cs := #[.int .i64 0, .slice none 0 0]) (t := 46) ?hr ?_; (case hd => rfl); (case hg => rfl); (case hr => first | (go_simp; done) | (go_simp; rfl)); intro gb283 hg w35 hbox hb; have n0_ := mk_ (Kd.R_below (Kd.ur_ HO282.out) hb); have n1_ := mk_ (below_step (ub_ HB.out) hb); have n2_ := mk_ (hbox); have n3_ := mk_ ((by rw [hg]; exact (below_size (ub_ HB.out)) : w.heap.size ≤ gb283)); have n4_ := mk_ ((by rw [hg]; exact (below_size (ub_ HB.out)) : w.heap.size ≤ gb283)); clear HO282; clear HB; have HO282 := n0_; have HB := n1_; have BK283 := n2_; have GW283 := n3_; have GE283 := ge_ n4_.out; clear n0_ n1_ n2_ n3_ n4_; clear hb hbox hg; obtain ⟨hcz36_0, hcz36_1, hfz36_0, hfz36_1⟩ := cells2_ BK283.out; obtain ⟨Ao37, co37, eo37⟩ := Kd.R_slice HO282.out; subst eo37) | ((with_reducible refine gate_callee (f := 28) rfl ?_); have hA_ := A4.out; refine goesL_ (some 11) rfl rfl Try.func28 (by kernel_rfl) rfl #[.agg #[.int .i64 t279, .slice Ao37 t280.length co37]] rfl (by (try simp only [lm_, lo_, ln_]); first | done | rfl | (simp only [List.length_drop, List.length_take]; rfl)) ?_; (with_reducible refine (impl_StationOk.calls k t279 _ _ t280 true _ ?side1 ?side2 A4.out).mono ?_); (case side1 => refine (Kd.R_reads' (e := 88) (base := w.heap.size) (ok := fun k_ => True) (n := t280.length) (c := co37) ?_).2.2; exact (by (with_reducible repeat (first | apply Kd.R_alloc | apply Kd.R_drewN | apply Kd.R_drew)); exact (Kd.R_mono (Kd.R_far (p := ⟨gb283, 1, none⟩) (Kd.R_far (p := ⟨gb283, 0, none⟩) (Kd.R_types HO282.out BK283.out (by decide)) (fun _ hk => hk.2) (.int .i64 t279)) (fun _ hk => hk.2) (.slice Ao37 t280.length co37)) (fun _ h_ => by first | exact h_.1 | simp only [h_, ne_eq, not_false_eq_true, and_self])))); (case side2 => exact (Kd.R_reads' HO282.out).2.1); rintro e w38 ⟨rfl, hb⟩; refine ⟨_, rfl, ?_⟩; have n0_ := mk_ (Kd.R_below (by (with_reducible repeat (first | apply Kd.R_alloc | apply Kd.R_drewN | apply Kd.R_drew)); exact (Kd.R_mono (Kd.R_far (p := ⟨gb283, 1, none⟩) (Kd.R_far (p := ⟨gb283, 0, none⟩) (Kd.R_types HO282.out BK283.out (by decide)) (fun _ hk => hk.2) (.int .i64 t279)) (fun _ hk => hk.2) (.slice Ao37 t280.length co37)) (fun _ h_ => by first | exact h_.1 | simp only [h_, ne_eq, not_false_eq_true, and_self]))) hb); have n1_ := mk_ (blk_below (g := gb283) (o := .cells #[.int .i64 t279, .slice Ao37 t280.length co37] 46 (0, 0)) (by (with_reducible repeat (first | refine bn_ ?_ _ | refine bw_ ?_ | refine ba_ ?_ _)); refine blk_put (cs := #[.int .i64 t279, .slice none 0 0]) ?_ 1 _ rfl; (with_reducible repeat (first | refine bn_ ?_ _ | refine bw_ ?_ | refine ba_ ?_ _)); refine blk_put (cs := #[.int .i64 0, .slice none 0 0]) ?_ 0 _ rfl; (with_reducible repeat (first | refine bn_ ?_ _ | refine bw_ ?_ | refine ba_ ?_ _)); exact BK283.out) hb); have n2_ := mk_ (below_step (us_ HB.out) hb); clear HO282; clear BK283; clear HB; have HO282 := n0_; have BK283 := n1_; have HB := n2_; clear n0_ n1_ n2_; (try clear hb); (try clear hb2); (try clear hk); (try clear hi); obtain ⟨hcz39_0, hcz39_1, hfz39_0, hfz39_1⟩ := cells2_ BK283.out; clear hA_ A4) | ((with_reducible refine gate_callee (f := 29) rfl ?_); refine goesL_ (some 14) rfl rfl Try.func29 (by kernel_rfl) rfl #[.agg #[.int .i64 t279, .slice Ao37 t280.length co37]] rfl (by (try simp only [lm_, lo_, ln_]); first | done | rfl | (simp only [List.length_drop, List.length_take]; rfl)) ?_; (with_reducible refine (spec_StationOk.calls k t279 _ _ t280 t285 _ ?side1 ?side2 A5.out).mono ?_); (case side1 => repeat (first | exact (Kd.R_reads' HO282.out).2.2 | (with_reducible refine Kd.C_alloc ?_ _) | (with_reducible refine Kd.C_drewN ?_ _) | (with_reducible refine Kd.C_drew ?_))); (case side2 => exact (Kd.R_reads' HO282.out).2.1); rintro e w40 ⟨rfl, hb⟩; refine ⟨_, rfl, ?_⟩; have n0_ := mk_ (Kd.R_below (Kd.ur_ HO282.out) hb); have n1_ := mk_ (blk_below (u_ BK283.out) hb); have n2_ := mk_ (below_step (us_ HB.out) hb); clear HO282; clear BK283; clear HB; have HO282 := n0_; have BK283 := n1_; have HB := n2_; clear n0_ n1_ n2_; (try clear hb); (try clear hb2); (try clear hk); (try clear hi); obtain ⟨hcz41_0, hcz41_1, hfz41_0, hfz41_1⟩ := cells2_ BK283.out) | (go_at_call 28; have hA_ := A8.out; (refine (impl_StationOk.calls k t279 _ _ ([] : List (S88)) false _ ?side1 ?side2 A8.out).mono ?_); (case side1 => exact Kd.C_nil _ _); (case side2 => exact Nat.le_refl _); rintro e w42 ⟨rfl, hb⟩; have n0_ := mk_ (Kd.R_below (Kd.ur_ HO282.out) hb); have n1_ := mk_ (blk_below (u_ BK283.out) hb); have n2_ := mk_ (below_step (us_ HB.out) hb); clear HO282; clear BK283; clear HB; have HO282 := n0_; have BK283 := n1_; have HB := n2_; clear n0_ n1_ n2_; (try clear hb); (try clear hb2); (try clear hk); (try clear hi); clear hA_ A8))
  go_ret
  exact ⟨by first | rfl | (simp [errW_none, errW_some] <;> rfl) | (simp [*, errW_none, errW_some] <;> rfl), us_ HB.out⟩
 subst c9
 have H1 : ((impl_StationOk.f k 7 ([] : List (S88))).bind fun t287 => (if t287 = true then ((laws_alive.f k).bind fun t288 => (some t288)) else (some false))) = some r := by rw [if_pos rfl] at H; exact H
 clear H
 have H := H1
 clear H1
 replace H := Option.bind_eq_some_iff.mp H
 obtain ⟨t287, A100, H⟩ := H
 replace H : (if t287 = true then ((laws_alive.f k).bind fun t288 => (some t288)) else (some false)) = some r := H
 have A10 := mk_ A100
 clear A100
 by_cases c11 : t287 = true
 rotate_left
 ·replace c11 := Bool.eq_false_iff.mpr c11
  subst c11
  have H1 : (some false) = some r := by rw [if_neg (show ¬ (false = true) by decide)] at H; exact H
  clear H
  have H := H1
  clear H1
  obtain rfl := Option.some.inj H
  go_enter Try.func7, Try.ntmps7
  go_wp2_with (first | ((with_reducible refine gate_callee (f := 27) rfl ?_); refine goesL_ (some 9) rfl rfl Try.func27 (by kernel_rfl) rfl #[.slice A0 l0.length c0] rfl (by (try simp only [lm_, lo_, ln_]); first | done | rfl | (simp only [List.length_drop, List.length_take]; rfl)) ?_; (with_reducible refine (spec_DrawStationOk.calls k _ _ l0 t279 t280 _ ?side1 ?side2 A3.out).mono ?_); (case side1 => repeat (first | exact HR0.out | (with_reducible refine Kd.C_alloc ?_ _) | (with_reducible refine Kd.C_drewN ?_ _) | (with_reducible refine Kd.C_drew ?_))); (case side2 => exact HC0.out); rintro e w24 ⟨v281, rfl, ho0, hb⟩; refine ⟨_, rfl, ?_⟩; have n0_ := mk_ (Kd.R_lower ho0 (below_size (ub_ HB.out))); have n1_ := mk_ (below_step (ub_ HB.out) hb); clear HB; have HO282 := n0_; have HB := n1_; clear n0_ n1_; (try clear hb); (try clear hb2); (try clear hk); (try clear hi); (try clear ho0)) | ((with_reducible refine gate_dst (N := 3) rfl ?_); refine box_event ?hg (N := 3) ?hd (cs := #[.int .i64 0, .slice none 0 0]) (t := 46) ?hr ?_; (case hd => rfl); (case hg => rfl); (case hr => first | (go_simp; done) | (go_simp; rfl)); intro gb283 hg w25 hbox hb; have n0_ := mk_ (Kd.R_below (Kd.ur_ HO282.out) hb); have n1_ := mk_ (below_step (ub_ HB.out) hb); have n2_ := mk_ (hbox); have n3_ := mk_ ((by rw [hg]; exact (below_size (ub_ HB.out)) : w.heap.size ≤ gb283)); have n4_ := mk_ ((by rw [hg]; exact (below_size (ub_ HB.out)) : w.heap.size ≤ gb283)); clear HO282; clear HB; have HO282 := n0_; have HB := n1_; have BK283 := n2_; have GW283 := n3_; have GE283 := ge_ n4_.out; clear n0_ n1_ n2_ n3_ n4_; clear hb hbox hg; obtain ⟨hcz26_0, hcz26_1, hfz26_0, hfz26_1⟩ := cells2_ BK283.out; obtain ⟨Ao27, co27, eo27⟩ := Kd.R_slice HO282.out; subst eo27) | ((with_reducible refine gate_callee (f := 28) rfl ?_); have hA_ := A4.out; refine goesL_ (some 11) rfl rfl Try.func28 (by kernel_rfl) rfl #[.agg #[.int .i64 t279, .slice Ao27 t280.length co27]] rfl (by (try simp only [lm_, lo_, ln_]); first | done | rfl | (simp only [List.length_drop, List.length_take]; rfl)) ?_; (with_reducible refine (impl_StationOk.calls k t279 _ _ t280 true _ ?side1 ?side2 A4.out).mono ?_); (case side1 => refine (Kd.R_reads' (e := 88) (base := w.heap.size) (ok := fun k_ => True) (n := t280.length) (c := co27) ?_).2.2; exact (by (with_reducible repeat (first | apply Kd.R_alloc | apply Kd.R_drewN | apply Kd.R_drew)); exact (Kd.R_mono (Kd.R_far (p := ⟨gb283, 1, none⟩) (Kd.R_far (p := ⟨gb283, 0, none⟩) (Kd.R_types HO282.out BK283.out (by decide)) (fun _ hk => hk.2) (.int .i64 t279)) (fun _ hk => hk.2) (.slice Ao27 t280.length co27)) (fun _ h_ => by first | exact h_.1 | simp only [h_, ne_eq, not_false_eq_true, and_self])))); (case side2 => exact (Kd.R_reads' HO282.out).2.1); rintro e w28 ⟨rfl, hb⟩; refine ⟨_, rfl, ?_⟩; have n0_ := mk_ (Kd.R_below (by (with_reducible repeat (first | apply Kd.R_alloc | apply Kd.R_drewN | apply Kd.R_drew)); exact (Kd.R_mono (Kd.R_far (p := ⟨gb283, 1, none⟩) (Kd.R_far (p := ⟨gb283, 0, none⟩) (Kd.R_types HO282.out BK283.out (by decide)) (fun _ hk => hk.2) (.int .i64 t279)) (fun _ hk => hk.2) (.slice Ao27 t280.length co27)) (fun _ h_ => by first | exact h_.1 | simp only [h_, ne_eq, not_false_eq_true, and_self]))) hb); have n1_ := mk_ (blk_below (g := gb283) (o := .cells #[.int .i64 t279, .slice Ao27 t280.length co27] 46 (0, 0)) (by (with_reducible repeat (first | refine bn_ ?_ _ | refine bw_ ?_ | refine ba_ ?_ _)); refine blk_put (cs := #[.int .i64 t279, .slice none 0 0]) ?_ 1 _ rfl; (with_reducible repeat (first | refine bn_ ?_ _ | refine bw_ ?_ | refine ba_ ?_ _)); refine blk_put (cs := #[.int .i64 0, .slice none 0 0]) ?_ 0 _ rfl; (with_reducible repeat (first | refine bn_ ?_ _ | refine bw_ ?_ | refine ba_ ?_ _)); exact BK283.out) hb); have n2_ := mk_ (below_step (us_ HB.out) hb); clear HO282; clear BK283; clear HB; have HO282 := n0_; have BK283 := n1_; have HB := n2_; clear n0_ n1_ n2_; (try clear hb); (try clear hb2); (try clear hk); (try clear hi); obtain ⟨hcz29_0, hcz29_1, hfz29_0, hfz29_1⟩ := cells2_ BK283.out; clear hA_ A4) | ((with_reducible refine gate_callee (f := 29) rfl ?_); refine goesL_ (some 14) rfl rfl Try.func29 (by kernel_rfl) rfl #[.agg #[.int .i64 t279, .slice Ao27 t280.length co27]] rfl (by (try simp only [lm_, lo_, ln_]); first | done | rfl | (simp only [List.length_drop, List.length_take]; rfl)) ?_; (with_reducible refine (spec_StationOk.calls k t279 _ _ t280 t285 _ ?side1 ?side2 A5.out).mono ?_); (case side1 => repeat (first | exact (Kd.R_reads' HO282.out).2.2 | (with_reducible refine Kd.C_alloc ?_ _) | (with_reducible refine Kd.C_drewN ?_ _) | (with_reducible refine Kd.C_drew ?_))); (case side2 => exact (Kd.R_reads' HO282.out).2.1); rintro e w30 ⟨rfl, hb⟩; refine ⟨_, rfl, ?_⟩; have n0_ := mk_ (Kd.R_below (Kd.ur_ HO282.out) hb); have n1_ := mk_ (blk_below (u_ BK283.out) hb); have n2_ := mk_ (below_step (us_ HB.out) hb); clear HO282; clear BK283; clear HB; have HO282 := n0_; have BK283 := n1_; have HB := n2_; clear n0_ n1_ n2_; (try clear hb); (try clear hb2); (try clear hk); (try clear hi); obtain ⟨hcz31_0, hcz31_1, hfz31_0, hfz31_1⟩ := cells2_ BK283.out) | (go_at_call 28; have hA_ := A8.out; (refine (impl_StationOk.calls k t279 _ _ ([] : List (S88)) true _ ?side1 ?side2 A8.out).mono ?_); (case side1 => exact Kd.C_nil _ _); (case side2 => exact Nat.le_refl _); rintro e w32 ⟨rfl, hb⟩; have n0_ := mk_ (Kd.R_below (Kd.ur_ HO282.out) hb); have n1_ := mk_ (blk_below (u_ BK283.out) hb); have n2_ := mk_ (below_step (us_ HB.out) hb); clear HO282; clear BK283; clear HB; have HO282 := n0_; have BK283 := n1_; have HB := n2_; clear n0_ n1_ n2_; (try clear hb); (try clear hb2); (try clear hk); (try clear hi); clear hA_ A8) | (go_at_call 28; have hA_ := A10.out; (refine (impl_StationOk.calls k 7 _ _ ([] : List (S88)) false _ ?side1 ?side2 A10.out).mono ?_); (case side1 => exact Kd.C_nil _ _); (case side2 => exact Nat.le_refl _); rintro e w33 ⟨rfl, hb⟩; have n0_ := mk_ (Kd.R_below (Kd.ur_ HO282.out) hb); have n1_ := mk_ (blk_below (u_ BK283.out) hb); have n2_ := mk_ (below_step (us_ HB.out) hb); clear HO282; clear BK283; clear HB; have HO282 := n0_; have BK283 := n1_; have HB := n2_; clear n0_ n1_ n2_; (try clear hb); (try clear hb2); (try clear hk); (try clear hi); clear hA_ A10))
  go_ret
  exact ⟨by first | rfl | (simp [errW_none, errW_some] <;> rfl) | (simp [*, errW_none, errW_some] <;> rfl), us_ HB.out⟩
 subst c11
 have H1 : ((laws_alive.f k).bind fun t288 => (some t288)) = some r := by rw [if_pos rfl] at H; exact H
 clear H
 have H := H1
 clear H1
 replace H := Option.bind_eq_some_iff.mp H
 obtain ⟨t288, A120, H⟩ := H
 replace H : (some t288) = some r := H
 have A12 := mk_ A120
 clear A120
 obtain rfl := Option.some.inj H
 go_enter Try.func7, Try.ntmps7
 go_wp2_with (first | ((with_reducible refine gate_callee (f := 27) rfl ?_); refine goesL_ (some 9) rfl rfl Try.func27 (by kernel_rfl) rfl #[.slice A0 l0.length c0] rfl (by (try simp only [lm_, lo_, ln_]); first | done | rfl | (simp only [List.length_drop, List.length_take]; rfl)) ?_; (with_reducible refine (spec_DrawStationOk.calls k _ _ l0 t279 t280 _ ?side1 ?side2 A3.out).mono ?_); (case side1 => repeat (first | exact HR0.out | (with_reducible refine Kd.C_alloc ?_ _) | (with_reducible refine Kd.C_drewN ?_ _) | (with_reducible refine Kd.C_drew ?_))); (case side2 => exact HC0.out); rintro e w13 ⟨v281, rfl, ho0, hb⟩; refine ⟨_, rfl, ?_⟩; have n0_ := mk_ (Kd.R_lower ho0 (below_size (ub_ HB.out))); have n1_ := mk_ (below_step (ub_ HB.out) hb); clear HB; have HO282 := n0_; have HB := n1_; clear n0_ n1_; (try clear hb); (try clear hb2); (try clear hk); (try clear hi); (try clear ho0)) | ((with_reducible refine gate_dst (N := 3) rfl ?_); refine box_event ?hg (N := 3) ?hd (cs := #[.int .i64 0, .slice none 0 0]) (t := 46) ?hr ?_; (case hd => rfl); (case hg => rfl); (case hr => first | (go_simp; done) | (go_simp; rfl)); intro gb283 hg w14 hbox hb; have n0_ := mk_ (Kd.R_below (Kd.ur_ HO282.out) hb); have n1_ := mk_ (below_step (ub_ HB.out) hb); have n2_ := mk_ (hbox); have n3_ := mk_ ((by rw [hg]; exact (below_size (ub_ HB.out)) : w.heap.size ≤ gb283)); have n4_ := mk_ ((by rw [hg]; exact (below_size (ub_ HB.out)) : w.heap.size ≤ gb283)); clear HO282; clear HB; have HO282 := n0_; have HB := n1_; have BK283 := n2_; have GW283 := n3_; have GE283 := ge_ n4_.out; clear n0_ n1_ n2_ n3_ n4_; clear hb hbox hg; obtain ⟨hcz15_0, hcz15_1, hfz15_0, hfz15_1⟩ := cells2_ BK283.out; obtain ⟨Ao16, co16, eo16⟩ := Kd.R_slice HO282.out; subst eo16) | ((with_reducible refine gate_callee (f := 28) rfl ?_); have hA_ := A4.out; refine goesL_ (some 11) rfl rfl Try.func28 (by kernel_rfl) rfl #[.agg #[.int .i64 t279, .slice Ao16 t280.length co16]] rfl (by (try simp only [lm_, lo_, ln_]); first | done | rfl | (simp only [List.length_drop, List.length_take]; rfl)) ?_; (with_reducible refine (impl_StationOk.calls k t279 _ _ t280 true _ ?side1 ?side2 A4.out).mono ?_); (case side1 => refine (Kd.R_reads' (e := 88) (base := w.heap.size) (ok := fun k_ => True) (n := t280.length) (c := co16) ?_).2.2; exact (by (with_reducible repeat (first | apply Kd.R_alloc | apply Kd.R_drewN | apply Kd.R_drew)); exact (Kd.R_mono (Kd.R_far (p := ⟨gb283, 1, none⟩) (Kd.R_far (p := ⟨gb283, 0, none⟩) (Kd.R_types HO282.out BK283.out (by decide)) (fun _ hk => hk.2) (.int .i64 t279)) (fun _ hk => hk.2) (.slice Ao16 t280.length co16)) (fun _ h_ => by first | exact h_.1 | simp only [h_, ne_eq, not_false_eq_true, and_self])))); (case side2 => exact (Kd.R_reads' HO282.out).2.1); rintro e w17 ⟨rfl, hb⟩; refine ⟨_, rfl, ?_⟩; have n0_ := mk_ (Kd.R_below (by (with_reducible repeat (first | apply Kd.R_alloc | apply Kd.R_drewN | apply Kd.R_drew)); exact (Kd.R_mono (Kd.R_far (p := ⟨gb283, 1, none⟩) (Kd.R_far (p := ⟨gb283, 0, none⟩) (Kd.R_types HO282.out BK283.out (by decide)) (fun _ hk => hk.2) (.int .i64 t279)) (fun _ hk => hk.2) (.slice Ao16 t280.length co16)) (fun _ h_ => by first | exact h_.1 | simp only [h_, ne_eq, not_false_eq_true, and_self]))) hb); have n1_ := mk_ (blk_below (g := gb283) (o := .cells #[.int .i64 t279, .slice Ao16 t280.length co16] 46 (0, 0)) (by (with_reducible repeat (first | refine bn_ ?_ _ | refine bw_ ?_ | refine ba_ ?_ _)); refine blk_put (cs := #[.int .i64 t279, .slice none 0 0]) ?_ 1 _ rfl; (with_reducible repeat (first | refine bn_ ?_ _ | refine bw_ ?_ | refine ba_ ?_ _)); refine blk_put (cs := #[.int .i64 0, .slice none 0 0]) ?_ 0 _ rfl; (with_reducible repeat (first | refine bn_ ?_ _ | refine bw_ ?_ | refine ba_ ?_ _)); exact BK283.out) hb); have n2_ := mk_ (below_step (us_ HB.out) hb); clear HO282; clear BK283; clear HB; have HO282 := n0_; have BK283 := n1_; have HB := n2_; clear n0_ n1_ n2_; (try clear hb); (try clear hb2); (try clear hk); (try clear hi); obtain ⟨hcz18_0, hcz18_1, hfz18_0, hfz18_1⟩ := cells2_ BK283.out; clear hA_ A4) | ((with_reducible refine gate_callee (f := 29) rfl ?_); refine goesL_ (some 14) rfl rfl Try.func29 (by kernel_rfl) rfl #[.agg #[.int .i64 t279, .slice Ao16 t280.length co16]] rfl (by (try simp only [lm_, lo_, ln_]); first | done | rfl | (simp only [List.length_drop, List.length_take]; rfl)) ?_; (with_reducible refine (spec_StationOk.calls k t279 _ _ t280 t285 _ ?side1 ?side2 A5.out).mono ?_); (case side1 => repeat (first | exact (Kd.R_reads' HO282.out).2.2 | (with_reducible refine Kd.C_alloc ?_ _) | (with_reducible refine Kd.C_drewN ?_ _) | (with_reducible refine Kd.C_drew ?_))); (case side2 => exact (Kd.R_reads' HO282.out).2.1); rintro e w19 ⟨rfl, hb⟩; refine ⟨_, rfl, ?_⟩; have n0_ := mk_ (Kd.R_below (Kd.ur_ HO282.out) hb); have n1_ := mk_ (blk_below (u_ BK283.out) hb); have n2_ := mk_ (below_step (us_ HB.out) hb); clear HO282; clear BK283; clear HB; have HO282 := n0_; have BK283 := n1_; have HB := n2_; clear n0_ n1_ n2_; (try clear hb); (try clear hb2); (try clear hk); (try clear hi); obtain ⟨hcz20_0, hcz20_1, hfz20_0, hfz20_1⟩ := cells2_ BK283.out) | (go_at_call 28; have hA_ := A8.out; (refine (impl_StationOk.calls k t279 _ _ ([] : List (S88)) true _ ?side1 ?side2 A8.out).mono ?_); (case side1 => exact Kd.C_nil _ _); (case side2 => exact Nat.le_refl _); rintro e w21 ⟨rfl, hb⟩; have n0_ := mk_ (Kd.R_below (Kd.ur_ HO282.out) hb); have n1_ := mk_ (blk_below (u_ BK283.out) hb); have n2_ := mk_ (below_step (us_ HB.out) hb); clear HO282; clear BK283; clear HB; have HO282 := n0_; have BK283 := n1_; have HB := n2_; clear n0_ n1_ n2_; (try clear hb); (try clear hb2); (try clear hk); (try clear hi); clear hA_ A8) | (go_at_call 28; have hA_ := A10.out; (refine (impl_StationOk.calls k 7 _ _ ([] : List (S88)) true _ ?side1 ?side2 A10.out).mono ?_); (case side1 => exact Kd.C_nil _ _); (case side2 => exact Nat.le_refl _); rintro e w22 ⟨rfl, hb⟩; have n0_ := mk_ (Kd.R_below (Kd.ur_ HO282.out) hb); have n1_ := mk_ (blk_below (u_ BK283.out) hb); have n2_ := mk_ (below_step (us_ HB.out) hb); clear HO282; clear BK283; clear HB; have HO282 := n0_; have BK283 := n1_; have HB := n2_; clear n0_ n1_ n2_; (try clear hb); (try clear hb2); (try clear hk); (try clear hi); clear hA_ A10) | (go_at_call 20; (with_reducible refine (laws_alive.calls k  t288 _ A12.out).mono ?_); rintro e w23 ⟨rfl, hb⟩; have n0_ := mk_ (Kd.R_below (Kd.ur_ HO282.out) hb); have n1_ := mk_ (blk_below (u_ BK283.out) hb); have n2_ := mk_ (below_step (us_ HB.out) hb); clear HO282; clear BK283; clear HB; have HO282 := n0_; have BK283 := n1_; have HB := n2_; clear n0_ n1_ n2_; (try clear hb); (try clear hb2); (try clear hk); (try clear hi)))
 go_ret
 exact ⟨by first | rfl | (simp [errW_none, errW_some] <;> rfl) | (simp [*, errW_none, errW_some] <;> rfl), us_ HB.out⟩

/-- THE ONE PURE STATEMENT of laws_FnStationOk: yours. -/
def laws_FnStationOk.Pure : Prop := ∀ (l0 : List Int), l0.length ≤ maxLen → l0.length * 1 ≤ 140737488351232 → (∀ x ∈ l0, (Lit.int .u8 x).wf = true) → ∃ k, laws_FnStationOk.f k l0 = some true
theorem laws_FnStationOk.walk (P : laws_FnStationOk.Pure) (a0 : Option Addr) (len0 cap0 : Nat) (z0 : List Int) (w : World) (w0 : (a0 = none ∧ len0 = 0 ∧ cap0 = 0 ∧ z0 = []) ∨ ∃ x, a0 = some x ∧ len0 ≤ cap0 ∧ cap0 ≤ maxLen ∧ z0.length = cap0 ∧ (∀ i, i < z0.length → w.cell? (x.add i) = some (.int .u8 (z0.getD i 0))) ∧ ∀ n ∈ z0, (Lit.int .u8 n).wf = true) (y0 : len0 * 1 ≤ 140737488351232) :
  Calls Try.prog 7 #[.slice a0 len0 cap0] w fun e w' => e = .returned (.bool true) ∧ Below w.heap.size w w' := by
 obtain ⟨l0, rfl, hr0, hm0, hw0, hc0⟩ := ReadsInt.ofRowC w0
 obtain ⟨k, h⟩ := P l0 hm0 y0 hw0
 refine (laws_FnStationOk.calls k _ _ l0 true w (Kd.C_of_reads (d := (0 : Int)) (h1 := fun _ => rfl) hr0) hc0 h).mono ?_
 rintro e w' ⟨rfl, hd⟩
 exact ⟨rfl, hd⟩

end Go.Proofs.Ytfcocnhkimbpbaa.MFnStationOk
